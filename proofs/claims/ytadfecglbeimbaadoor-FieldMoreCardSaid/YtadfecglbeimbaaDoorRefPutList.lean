/- aviaryref02.PutText, PutList, GetText, walked. -/
import Derived.Test.YtadfecglbeimbaaDoorPutList
import Derived.Test.YtadfecglbeimbaaDoorRefGet2
import Derived.Test.YtadfecglbeimbaaDoorRefPut
namespace Go.Proofs.YtadfecglbeimbaaDoor
open Go.RowKit Go.Shelf
set_option linter.unusedSimpArgs false
set_option linter.unusedVariables false

theorem putB_append (s : ByteArray) : putB s.size ++ s = putTextB s := by
  apply ByteArray.ext
  apply Array.toList_inj.1
  rw [ByteArray.data_append, Array.toList_append, putTextB_data]
  unfold putTextL
  simp [putB]

set_option maxRecDepth 100000 in
set_option maxHeartbeats 1000000 in
theorem refPutText_any (s : ByteArray) (hs : s.size ≤ 9223372036854775807) (w : World) :
    Calls Tryd.prog 24 #[.string s] w fun e w' => e = .returned (putTextV s) ∧ Below w.heap.size w w' := by
  by_cases h : 400 < s.size
  · rw [putTextV_no h]
    go_enter Tryd.func24, Tryd.ntmps24
    go_wp2_with fail
    go_ret2
    exact ⟨rfl, Below.refl _ _⟩
  · rw [putTextV_ok (by omega), ← putB_append]
    have hp := (putB_size s.size).2
    go_enter Tryd.func24, Tryd.ntmps24
    go_wp2_with fail
    refine (refPut_any _ (by omega) (by omega) _).mono ?_
    rw [Int.toNat_natCast]
    rintro e w1 ⟨rfl, hb1⟩
    go_wp2_with fail
    go_ret2
    exact ⟨rfl, hb1⟩

/-- the bytes of the first texts of a list of n -/
def partB (L : List ByteArray) (k : Nat) : ByteArray := ⟨(put L.length ++ putTextsL ((L.take k).map (·.data.toList))).toArray⟩
theorem partB_zero (L : List ByteArray) : partB L 0 = putB L.length := by simp [partB, putTextsL, putB]
theorem partB_succ (L : List ByteArray) (k : Nat) (x : ByteArray) (hx : L[k]? = some x) : partB L (k + 1) = partB L k ++ putTextB x := by
  apply ByteArray.ext
  apply Array.toList_inj.1
  rw [ByteArray.data_append, Array.toList_append, putTextB_data]
  unfold partB putTextsL
  rw [List.take_add_one, hx]
  simp
theorem partB_all (L : List ByteArray) : partB L L.length = putListB L := by
  unfold partB putListB putListL
  rw [List.take_of_length_le (Nat.le_refl _), List.length_map]
theorem partB_size (L : List ByteArray) (k : Nat) (hl : L.length ≤ 100) (h : ∀ x ∈ L.take k, x.size ≤ 400) : (partB L k).size ≤ 50000 := by
  have h1 := putTextsL_len ((L.take k).map (·.data.toList)) (by
    intro x hx
    obtain ⟨y, hy, rfl⟩ := List.mem_map.1 hx
    have := h y hy
    simpa using this)
  have h2 := put_length L.length
  show (put L.length ++ putTextsL _).toArray.size ≤ _
  simp at *
  omega

set_option maxRecDepth 100000 in
set_option maxHeartbeats 2000000 in
theorem refPutList_any (L : List ByteArray) (hN : ∀ x ∈ L, x.size ≤ 9223372036854775807) (hl : L.length ≤ 9223372036854775807) (s : Option Addr) (cap : Nat) (w : World) (hE : Strs w s L) :
    Calls Tryd.prog 25 #[.slice s L.length cap] w fun e w' => e = .returned (putListV L) ∧ Below w.heap.size w w' := by
  by_cases c1 : 100 < L.length
  · have hv : putListV L = .tuple #[.string ⟨#[]⟩, .int .i64 21] := by unfold putListV; rw [if_neg (fun h => by have := h.1; omega)]
    rw [hv]
    clear hv
    go_enter Tryd.func25, Tryd.ntmps25
    go_wp2_with fail
    go_ret2
    exact ⟨rfl, Below.refl _ _⟩
  have hl1 : L.length ≤ 100 := by omega
  have HV : Hid (GoodL L → putListV L = .tuple #[.string (partB L L.length), .int .i64 0]) := by show _ → _; intro h; unfold putListV; rw [if_pos h, partB_all]
  have HF : Hid (¬ GoodL L → putListV L = .tuple #[.string ⟨#[]⟩, .int .i64 21]) := by show _ → _; intro h; unfold putListV; rw [if_neg h]
  generalize putListV L = V at *
  clear hl
  go_enter Tryd.func25, Tryd.ntmps25
  go_wp2_with fail
  refine (refPut_any _ (by omega) (by omega) _).mono ?_
  rw [Int.toNat_natCast]
  rintro e w1 ⟨rfl, hb1⟩
  go_wp2_with fail
  go_loopw [4, 5] (fun v i wr => ∃ (k : Nat), v = .string (partB L k) ∧ k ≤ L.length ∧ i = .int .i64 k ∧ Hid (∀ x ∈ L.take k, x.size ≤ 400) ∧ St w [] (fun _ => True) wr) (fun _ i _ => L.length - (intOf i).toNat)
  case atStart => exact ⟨0, by rw [partB_zero], Nat.zero_le _, rfl, by show ∀ _, _; simp, (St.start w).to hb1⟩
  case round =>
    obtain ⟨k, rfl, hk, rfl, HS, st⟩ := hrel
    have hpz := partB_size L k hl1 HS.out
    by_cases h1 : k < L.length
    · obtain ⟨x, hx⟩ : ∃ x, L[k]? = some x := ⟨_, List.getElem?_eq_getElem h1⟩
      have hxs := hN x (List.mem_of_getElem? hx)
      obtain ⟨g, o, rfl, hgl, hc0⟩ := hE k x hx
      have hc := (st.below.cell (p := ⟨g, o + k, none⟩) hgl).trans hc0
      clear hc0
      have HX := Lib.hid hx
      have HXP := Lib.hid (partB_succ L k x hx)
      clear hx
      have hHS2 : x.size ≤ 400 → Hid (∀ x ∈ L.take (k + 1), x.size ≤ 400) := fun h => Lib.hid (take_good HX.out HS.out h)
      obtain ⟨PB, hPB⟩ : ∃ PB, PB = partB L k := ⟨_, rfl⟩
      rw [← hPB] at HXP hpz ⊢
      clear hPB
      go_wp2_with fail
      refine (refPutText_any x hxs _).mono ?_
      by_cases c2 : 400 < x.size
      · rw [putTextV_no c2]
        rintro e w2 ⟨rfl, hb2⟩
        have hv := HF.out (fun h => by have := h.2 x (List.mem_of_getElem? HX.out); omega)
        subst hv
        clear HF HV
        go_wp2_with fail
        go_ret2
        exact ⟨rfl, (st.to hb2).below⟩
      · rw [putTextV_ok (by omega)]
        rintro e w2 ⟨rfl, hb2⟩
        have st2 := st.to hb2
        have HS2 := hHS2 (by omega)
        have hpx : (putTextB x).size ≤ 409 := by
          have := putTextL_len x.data.toList (by simp; omega)
          show (putTextL _).toArray.size ≤ _
          simpa using this
        clear st hc hHS2
        go_wp2_with fail
        go_roundw
        case rel => exact ⟨k + 1, by rw [HXP.out], h1, by go_num, HS2, st2⟩
        case measure => simp [intOf]; omega
    · obtain rfl : k = L.length := by omega
      have hv := HV.out (good_take HS.out hl1)
      clear HF HV
      generalize partB L L.length = PB at *
      subst hv
      go_wp2_with fail
      go_ret2
      exact ⟨rfl, st.below⟩

set_option maxRecDepth 100000 in
set_option maxHeartbeats 1000000 in
theorem refGetText_any (s : ByteArray) (hs : s.size ≤ 9223372036854775807) (w : World) :
    Calls Tryd.prog 26 #[.string s] w fun e w' => e = .returned (getTextV s (textL s.data.toList)) ∧ Below w.heap.size w w' := by
  unfold textL
  have hback := Lib.hid (getL_back s.data.toList)
  have hsl : s.data.toList.length = s.size := by simp
  rw [hsl] at hback
  have HR := Lib.hid (refGet_any s hs)
  unfold getV at HR
  generalize getL s.data.toList = g at *
  clear hsl
  go_enter Tryd.func26, Tryd.ntmps26
  go_wp2_with fail
  refine (HR.out _).mono ?_
  rintro e w1 ⟨rfl, hb1⟩
  clear HR
  cases g with
  | more =>
    simp only [numOf, leftOf, noOf, textG, getTextV] at *
    go_wp2_with fail
    exact bodyPost_ret (results_tmp3 (t := 2) (u := 3) (v := 4) rfl _ _ _) rfl ⟨rfl, hb1⟩
  | field =>
    simp only [numOf, leftOf, noOf, textG, getTextV] at *
    go_wp2_with fail
    exact bodyPost_ret (results_tmp3 (t := 2) (u := 3) (v := 4) rfl _ _ _) rfl ⟨rfl, hb1⟩
  | ok n r =>
    obtain ⟨-, hn64, hrl⟩ := hback.out n r rfl
    clear hback
    simp only [numOf, leftOf, noOf] at *
    obtain ⟨lb, hlb, hlr⟩ : ∃ lb : ByteArray, (⟨r.toArray⟩ : ByteArray) = lb ∧ lb.data.toList = r := ⟨_, rfl, by simp⟩
    have hls : lb.size = r.length := by rw [← hlr]; simp
    have HLR := Lib.hid hlr
    rw [hlb]
    clear hlb hlr
    by_cases c1 : 400 < n
    · go_wp2_with fail
      refine bodyPost_ret (results_tmp3 (t := 2) (u := 3) (v := 4) rfl _ _ _) rfl ⟨?_, hb1⟩
      rw [textG_1 c1]
      rfl
    · have d1 : n ≤ 400 := by omega
      by_cases c2 : r.length < n
      · go_wp2_with fail
        refine bodyPost_ret (results_tmp3 (t := 2) (u := 3) (v := 4) rfl _ _ _) rfl ⟨?_, hb1⟩
        rw [textG_2 c1 c2]
        rfl
      · have d2 : n ≤ r.length := by omega
        have st := (St.start w).to hb1
        go_wp2_with fail
        obtain ⟨bl2, E2, hne2, sh2, rl, hEx, hbx, hst⟩ := st.hide
        refine region_st sh2 (by kernel_rfl) (by kernel_rfl) ?_
        repeat (first | go_big_quiet_step (fail) | quiet_step (fail))
        refine wpQuiet_nil ?_
        intro y
        have st3 := (hst y).out
        clear hbx rl hst sh2 hEx st
        generalize y.W = w3 at *
        go_wp2_with fail
        refine bodyPost_ret (results_tmp3 (t := 2) (u := 3) (v := 4) rfl _ _ _) rfl ⟨?_, st3.below⟩
        rw [textG_3 c1 c2]
        simp only [getTextV]
        rw [← ext_to lb r HLR.out n, ← ext_from lb r HLR.out n r.length (Nat.le_refl _)]
        rfl

end Go.Proofs.YtadfecglbeimbaaDoor
