/- aviaryref03.All, walked. -/
import Derived.Test.YtafabdgkinfceaaDoorFrmU
import Derived.Test.YtafabdgkinfceaaDoorFrmS
namespace Go.Proofs.YtafabdgkinfceaaDoor
open Go.RowKit Go.Shelf
set_option linter.unusedSimpArgs false
set_option linter.unusedVariables false

theorem readN_no {n : Nat} {r : List UInt8} {no : Nat} (h : readN n r = .bad no) : no = 20 ∨ no = 30 ∨ no = 31 := by
  unfold readN at h
  split at h
  · cases h; omega
  · split at h
    · cases h; omega
    · split at h
      · cases h; omega
      · cases h
theorem readL_no {s : List UInt8} {no : Nat} (h : readL s = .bad no) : no = 20 ∨ no = 30 ∨ no = 31 := by
  cases s with
  | nil => cases h; omega
  | cons b t =>
    have h : (if b ≠ 167 then RGot.bad 30 else readG (getL t)) = RGot.bad no := h
    by_cases c : b ≠ 167
    · rw [if_pos c] at h; cases h; omega
    · rw [if_neg c] at h
      cases hg : getL t with
      | more => rw [hg] at h; cases h; omega
      | field => rw [hg] at h; cases h; omega
      | ok n r => rw [hg] at h; exact readN_no h

set_option maxRecDepth 100000 in
set_option maxHeartbeats 4000000 in
theorem rall_any (s : ByteArray) (hs : s.size ≤ 100000) (w : World) :
    Calls Tryd.prog 19 #[.string s] w (AllPost w (allL s.data.toList)) := by
  go_enter Tryd.func19, Tryd.ntmps19
  go_wp2_with fail
  go_loopw [0, 5] (fun sv v wr => ∃ (acc : List (List UInt8)) (cur : ByteArray) (vv : Value), vv = v ∧ sv = .string cur ∧ AllRel s.data.toList acc cur.data.toList ∧ acc.length + cur.size ≤ s.size ∧ St w [] (fun _ => True) wr ∧ OwnS wr w.heap.size vv (acc.map baOf))
    (fun sv _ _ => strLen sv)
  case atStart => exact ⟨[], s, _, rfl, rfl, AllRel.start _, by simp, St.start w, OwnS.nil _ _⟩
  case round =>
    obtain ⟨acc, cur, vv, rfl, rfl, hrel, hlen, st, hown⟩ := hrel
    have HR := Lib.hid (rread_any cur (by omega))
    have HQ := Lib.hid (fun no => hrel.done (no := no))
    have HX := Lib.hid (fun b r => hrel.next (b := b) (r := r))
    have HL := Lib.hid (fun b r => readL_less (s := cur.data.toList) (b := b) (r := r))
    have hzc : cur.data.toList.length = cur.size := by simp
    clear hrel
    cases hg : readL cur.data.toList with
    | bad no =>
      rw [hg] at HR
      simp only [readV] at HR
      have HD := Lib.hid (HQ.out no hg)
      have hno := readL_no hg
      have hnb : ((no : Int) != 0) = true := by rw [bne_iff_ne]; omega
      clear HQ HX HL hg hzc hno
      go_wp2_with fail
      refine (HR.out _).mono ?_
      rintro e w1 ⟨rfl, hb1⟩
      have st1 := st.to hb1
      have hown1 := OwnS.keep _ _ hown hb1
      clear HR st hown hb1
      go_wp2_with fail
      refine bodyPost_ret (results_tmp3 (t := 2) (u := 3) (v := 4) rfl _ _ _) rfl ?_
      rw [HD.out]
      refine ⟨vv, ?_, hown1, st1.below⟩
      have hlf : (⟨cur.data.toList.toArray⟩ : ByteArray) = cur := by cases cur; simp
      show Ending.returned (Value.tuple #[vv, .string cur, .int .i64 no]) = Ending.returned (Value.tuple #[vv, .string ⟨cur.data.toList.toArray⟩, .int .i64 no])
      rw [hlf]
    | ok b r =>
      rw [hg] at HR
      simp only [readV] at HR
      have HD := Lib.hid (HX.out b r hg)
      have HL2 := HL.out b r hg
      have HM : Hid ((acc ++ [b]).map baOf = acc.map baOf ++ [⟨b.toArray⟩]) := by show _ = _; rw [List.map_append]; rfl
      have hml : (acc.map baOf).length ≤ 100000 := by rw [List.length_map]; omega
      have hrz : (⟨r.toArray⟩ : ByteArray).size = r.length := mk_size r
      have HRL : Hid ((⟨r.toArray⟩ : ByteArray).data.toList = r) := mk_list r
      have hal : (acc ++ [b]).length = acc.length + 1 := by simp
      generalize acc.map baOf = M at *
      generalize (⟨b.toArray⟩ : ByteArray) = B at *
      generalize (⟨r.toArray⟩ : ByteArray) = R at *
      clear HQ HX HL hg
      go_wp2_with fail
      refine (HR.out _).mono ?_
      rintro e w1 ⟨rfl, hb1⟩
      have st1 := st.to hb1
      have hown1 := OwnS.keep _ _ hown hb1
      clear HR st hown hb1
      go_wp2_with (at_builtin; refine append_str rfl (.tmp 20) (.tmp 22) rfl w.heap.size vv M B rfl st1 hown1 (Nat.le_refl _) (by simp) st1.below.size w1.heap.size rfl rfl (by omega) ?_; intro v5 w5 st5 hown5 hz5)
      rw [← HM.out] at hown5
      go_roundw
      case rel =>
        refine ⟨acc ++ [b], R, _, rfl, rfl, ?_, by omega, st5, hown5⟩
        rw [HRL.out]
        exact HD.out
      case measure => simp only [strLen]; omega

end Go.Proofs.YtafabdgkinfceaaDoor
