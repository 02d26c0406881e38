/- (*field.reader).text and field.GetText, walked. -/
import Derived.Test.YtadfecglbeimbaaDoorGet
import Derived.Test.YtadfecglbeimbaaDoorGetLaws
namespace Go.Proofs.YtadfecglbeimbaaDoor
open Go.RowKit Go.Shelf

/-- what reading a text gives -/
inductive GotT where
  | more
  | field
  | ok (t rest : List UInt8)
def textG : Got → GotT
  | .more => .more
  | .field => .field
  | .ok n r => if 400 < n then .field else if r.length < n then .more else .ok (r.take n) (r.drop n)
def textL (l : List UInt8) : GotT := textG (getL l)
def textV (p q : Addr) : GotT → Value
  | .more => .tuple #[.string ⟨#[]⟩, .iface 97 (.pointer (some p))]
  | .field => .tuple #[.string ⟨#[]⟩, .iface 97 (.pointer (some q))]
  | .ok t _ => .tuple #[.string ⟨t.toArray⟩, .nilIface]
/-- what is left behind it, whatever it gave -/
def leftG (s : ByteArray) : Got → ByteArray
  | .ok n r => if 400 < n then ⟨r.toArray⟩ else if r.length < n then ⟨r.toArray⟩ else ⟨(r.drop n).toArray⟩
  | _ => s
def getTextV (s : ByteArray) : GotT → Value
  | .more => .tuple #[.string ⟨#[]⟩, .string s, .int .i64 20]
  | .field => .tuple #[.string ⟨#[]⟩, .string s, .int .i64 21]
  | .ok t r => .tuple #[.string ⟨t.toArray⟩, .string ⟨r.toArray⟩, .int .i64 0]

theorem textG_1 {n : Nat} {r : List UInt8} (h : 400 < n) : textG (.ok n r) = .field := if_pos h
theorem textG_2 {n : Nat} {r : List UInt8} (h : ¬ 400 < n) (h' : r.length < n) : textG (.ok n r) = .more := (if_neg h).trans (if_pos h')
theorem textG_3 {n : Nat} {r : List UInt8} (h : ¬ 400 < n) (h' : ¬ r.length < n) : textG (.ok n r) = .ok (r.take n) (r.drop n) := (if_neg h).trans (if_neg h')
theorem leftG_1 {s : ByteArray} {n : Nat} {r : List UInt8} (h : 400 < n) : leftG s (.ok n r) = ⟨r.toArray⟩ := if_pos h
theorem leftG_2 {s : ByteArray} {n : Nat} {r : List UInt8} (h : ¬ 400 < n) (h' : r.length < n) : leftG s (.ok n r) = ⟨r.toArray⟩ := (if_neg h).trans (if_pos h')
theorem leftG_3 {s : ByteArray} {n : Nat} {r : List UInt8} (h : ¬ 400 < n) (h' : ¬ r.length < n) : leftG s (.ok n r) = ⟨(r.drop n).toArray⟩ := (if_neg h).trans (if_neg h')
theorem ext_to (s : ByteArray) (r : List UInt8) (h : s.data.toList = r) (n : Nat) : s.extract 0 n = ⟨(r.take n).toArray⟩ := by
  have e : (s.extract 0 n).data.toList = r.take n := by
    rw [ByteArray.data_extract, Array.toList_extract, h, List.extract_eq_take_drop, List.drop_zero, Nat.sub_zero]
  rw [← e]
theorem ext_from (s : ByteArray) (r : List UInt8) (h : s.data.toList = r) (n N : Nat) (hN : r.length ≤ N) : s.extract n N = ⟨(r.drop n).toArray⟩ := by
  have e : (s.extract n N).data.toList = r.drop n := by
    rw [ByteArray.data_extract, Array.toList_extract, h, List.extract_eq_take_drop, List.take_of_length_le (by rw [List.length_drop]; omega)]
  rw [← e]

set_option maxRecDepth 100000 in
set_option maxHeartbeats 1000000 in
theorem text_any {p q : Addr} {w0 w : World} (h : Sents p q w0) (hb : Below w0.heap.size w0 w) (R : Nat) (hA : w0.heap.size ≤ R) (s : ByteArray) (hs : s.size ≤ 9223372036854775807) (hR : w.heap[R]? = some (.cells #[.string s] 48 (0, 0))) :
    Calls Tryd.prog 36 #[.pointer (some ⟨R, 0, none⟩)] w (Reads w R (textV p q (textL s.data.toList)) (leftG s (getL s.data.toList))) := by
  unfold textL
  obtain ⟨g, hg⟩ : ∃ g, getL s.data.toList = g := ⟨_, rfl⟩
  have hback := Lib.hid (getL_back s.data.toList)
  have hsl : s.data.toList.length = s.size := by simp
  rw [hsl] at hback
  rw [hg] at hback ⊢
  have HG := Lib.hid hg
  clear hg hsl
  go_enter Tryd.func36, Tryd.ntmps36
  go_wp2_with fail
  refine (number_any (h.below (Nat.le_refl _) hb) R s hs hR).mono ?_
  intro e w1 hr
  rw [HG.out] at hr
  clear HG
  obtain ⟨rfl, hN1, hg1⟩ := hr
  have hS1 : Sents p q w1 := h.below (Nat.le_refl _) (hb.grown hg1 hb.size (fun k e => by cases e; exact hA))
  cases g with
  | more =>
    simp only [numV, leftOf, textG, textV, leftG] at *
    go_wp2_with fail
    go_ret2
    exact ⟨rfl, hN1, hg1⟩
  | field =>
    simp only [numV, leftOf, textG, textV, leftG] at *
    go_wp2_with fail
    go_ret2
    exact ⟨rfl, hN1, hg1⟩
  | ok n r =>
    obtain ⟨-, hn64, hrl⟩ := hback.out n r rfl
    clear hback
    simp only [numV, leftOf] at *
    obtain ⟨lb, hlb, hlr⟩ : ∃ lb : ByteArray, (⟨r.toArray⟩ : ByteArray) = lb ∧ lb.data.toList = r := ⟨_, rfl, by simp⟩
    have hls : lb.size = r.length := by rw [← hlr]; simp
    rw [hlb] at hN1
    have HLR := Lib.hid hlr
    have HLB := Lib.hid hlb
    clear hlb hlr
    have st1 := St.start1E hN1 hS1 Sents.keep
    by_cases c1 : 400 < n
    · skip
      go_wp2_with fail
      obtain ⟨bl2, E2, hne2, sh2, rl, hEx, hbx, hst⟩ := st1.hide
      have hm : ∀ x : Cs w1 bl2 E2, x.W.cell? ⟨0, 0, none⟩ = some (.iface 97 (.pointer (some q))) := fun x => (hEx x).out.field
      refine region_st sh2 (by kernel_rfl) (by kernel_rfl) ?_
      clear rl
      repeat (first | go_big_quiet_step (fail) | quiet_step (fail))
      refine wpQuiet_nil ?_
      intro y
      have st3 := (hst y).out
      clear hbx hst sh2 hEx st1 hm
      generalize y.W = w3 at *
      go_wp2_with fail
      go_ret2
      rw [textG_1 c1, leftG_1 c1, HLB.out]
      exact ⟨rfl, st3.blk _ (List.mem_of_getElem? (i := 0) rfl), grownBy_then hg1 (grownBy_ofBelow st3.below _)⟩
    · skip
      have rl := st1.rules
      simp only [Rules] at rl
      by_cases c2 : r.length < n
      · skip
        go_wp2_with fail
        clear rl
        obtain ⟨bl2, E2, hne2, sh2, rl, hEx, hbx, hst⟩ := st1.hide
        have hm : ∀ x : Cs w1 bl2 E2, x.W.cell? ⟨1, 0, none⟩ = some (.iface 97 (.pointer (some p))) := fun x => (hEx x).out.more
        refine region_st sh2 (by kernel_rfl) (by kernel_rfl) ?_
        clear rl
        repeat (first | go_big_quiet_step (fail) | quiet_step (fail))
        refine wpQuiet_nil ?_
        intro y
        have st3 := (hst y).out
        clear hbx hst sh2 hEx st1 hm
        generalize y.W = w3 at *
        go_wp2_with fail
        go_ret2
        rw [textG_2 c1 c2, leftG_2 c1 c2, HLB.out]
        exact ⟨rfl, st3.blk _ (List.mem_of_getElem? (i := 0) rfl), grownBy_then hg1 (grownBy_ofBelow st3.below _)⟩
      · skip
        go_wp2_with fail
        go_ret2
        rw [textG_3 c1 c2, leftG_3 c1 c2]
        simp only [textV]
        rw [← ext_to lb r HLR.out n, ← ext_from lb r HLR.out n r.length (Nat.le_refl _)]
        exact ⟨rfl, blk_set hN1 0 _, grownBy_then hg1 (grownBy_setOne w1 R 0 _)⟩

theorem leftG_ok (s : ByteArray) (g : Got) (t r : List UInt8) (h : textG g = .ok t r) : leftG s g = ⟨r.toArray⟩ := by
  cases g with
  | more => cases h
  | field => cases h
  | ok n l =>
    by_cases c1 : 400 < n
    · rw [textG_1 c1] at h; cases h
    · by_cases c2 : l.length < n
      · rw [textG_2 c1 c2] at h; cases h
      · rw [textG_3 c1 c2] at h
        injection h with _ e
        rw [leftG_3 c1 c2, e]

set_option maxRecDepth 100000 in
set_option maxHeartbeats 1000000 in
theorem getText_any {p q : Addr} {w : World} (h : Sents p q w) (s : ByteArray) (hs : s.size ≤ 9223372036854775807) :
    Calls Tryd.prog 19 #[.string s] w fun e w' => e = .returned (getTextV s (textL s.data.toList)) ∧ Below w.heap.size w w' := by
  obtain ⟨g, hg⟩ : ∃ g, textL s.data.toList = g := ⟨_, rfl⟩
  rw [hg]
  have HG := Lib.hid hg
  clear hg
  have st0 := (St.start w).alloc (cs := #[.string s]) (T := 48)
  go_enter Tryd.func19, Tryd.ntmps19
  go_wp2_with fail
  refine (text_any h st0.below _ (Nat.le_refl _) s hs (st0.blk _ (List.mem_of_getElem? (i := 0) rfl))).mono ?_
  intro e w1 hr
  rw [HG.out] at hr
  have st1 := hr.stT st0 0 rfl (Nat.le_refl _)
  obtain ⟨rfl, -, -⟩ := hr
  simp only [setB, List.modify_zero_cons, List.setIfInBounds_toArray, List.set_cons_zero] at st1
  have h2 := h.below (Nat.le_refl _) st1.below
  clear st0
  cases g with
  | more =>
    simp only [textV] at *
    go_wp2_with (refine (errno_more h2).mono ?_; rintro e w' ⟨rfl, rfl⟩)
    exact bodyPost_ret (results_tmp3 (t := 2) (u := 3) (v := 4) rfl _ _ _) rfl ⟨rfl, st1.below⟩
  | field =>
    simp only [textV] at *
    go_wp2_with (refine (errno_field h2).mono ?_; rintro e w' ⟨rfl, rfl⟩)
    exact bodyPost_ret (results_tmp3 (t := 2) (u := 3) (v := 4) rfl _ _ _) rfl ⟨rfl, st1.below⟩
  | ok t r =>
    rw [leftG_ok s _ t r HG.out] at st1
    simp only [textV] at *
    clear HG
    go_wp2_with fail
    obtain ⟨bl2, E2, hne2, sh2, rl, hEx, hbx, hst⟩ := st1.hide
    refine region_st sh2 (by kernel_rfl) (by kernel_rfl) ?_
    simp only [Rules] at rl
    repeat (first | go_big_quiet_step (fail) | quiet_step (fail))
    refine wpQuiet_nil ?_
    intro y
    have st3 := (hst y).out
    clear hbx rl hst sh2 hEx st1
    generalize y.W = w3 at *
    go_wp2_with fail
    exact bodyPost_ret (results_tmp3 (t := 2) (u := 3) (v := 4) rfl _ _ _) rfl ⟨rfl, st3.below⟩

end Go.Proofs.YtadfecglbeimbaaDoor
