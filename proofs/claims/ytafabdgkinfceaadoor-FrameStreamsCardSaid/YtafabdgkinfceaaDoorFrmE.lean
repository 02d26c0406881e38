/- frame.errno, Read, aviaryref03.Read, aviarylaw03.cut, walked. -/
import Derived.Test.YtafabdgkinfceaaDoorFrmR
import Derived.Test.YtafabdgkinfceaaDoorAs
import Derived.Test.YtafabdgkinfceaaDoorRefGet2
namespace Go.Proofs.YtafabdgkinfceaaDoor
open Go.RowKit
set_option linter.unusedSimpArgs false
set_option linter.unusedVariables false

/-- the two sentinels of package field lie, and the type that errors.As asks for -/
def Snt (p q : Addr) (w : World) : Prop := Sents p q w ∧ w.cell? ⟨0, 0, none⟩ = some (.iface 99 (.agg #[.pointer (some ⟨3, 47, none⟩)]))
theorem Snt.below {p q : Addr} {w w' : World} (h : Snt p q w) (hb : Below w.heap.size w w') : Snt p q w' :=
  ⟨h.1.below (Nat.le_refl _) hb, (hb.cell (p := ⟨0, 0, none⟩) (by
    rcases Nat.lt_or_ge 0 w.heap.size with h' | h'
    · exact h'
    · have := h.2
      simp [World.cell?, Array.getElem?_eq_none h'] at this)).trans h.2⟩

theorem errno_ok (w : World) : Calls Tryd.prog 26 #[.nilIface] w fun e w' => e = .returned (.int .i64 0) ∧ Below w.heap.size w w' := by
  go_enter Tryd.func26, Tryd.ntmps26
  go_wp2_with fail
  refine (as_nil _ _).mono ?_
  rintro e w' ⟨rfl, rfl⟩
  go_wp2_with fail
  go_ret
  exact ⟨rfl, (Below.refl _ _).alloc (Nat.le_refl _) _⟩

set_option maxRecDepth 100000 in
set_option maxHeartbeats 2000000 in
theorem errno_fault {p q : Addr} {w : World} (h : Snt p q w) (A : Nat) (no : Int) (hA : w.heap[A]? = some (.cells #[.int .i64 no] 67 (0, 0))) :
    Calls Tryd.prog 26 #[faultV A] w fun e w' => e = .returned (.int .i64 no) ∧ Below w.heap.size w w' := by
  have st0 := (St.start w).alloc (cs := #[.pointer none]) (T := 65)
  have h1 := (h.below st0.below).2
  have rl := st0.rules
  simp only [Rules] at rl
  have ct := rl.1 0
  have ft := rl.2.1 0
  clear rl
  have HAs := Lib.hid (as_hit ⟨A, 0, none⟩ ⟨w.heap.size, 0, none⟩ (.pointer none) _ h1 ct ft)
  clear h1 ct ft
  go_enter Tryd.func26, Tryd.ntmps26
  go_wp2_with fail
  refine HAs.out.mono ?_
  rintro e w2 ⟨rfl, hw2⟩
  obtain ⟨W4, hW4, hw⟩ : ∃ W4, Below (w.alloc (.cells #[.pointer none] 65)).heap.size (w.alloc (.cells #[.pointer none] 65)) W4 ∧ w2 = W4.setCell ⟨w.heap.size, 0, none⟩ (.pointer (some ⟨A, 0, none⟩)) :=
    ⟨_, ((((Below.refl _ _).alloc (Nat.le_refl _) _).alloc (by simp) _).alloc (by simp) _).alloc (by simp) _, hw2⟩
  have st2 := (st0.to hW4).setT 0 (o := 0) (v := .pointer (some ⟨A, 0, none⟩)) rfl (Nat.le_refl _)
  simp only [setB, List.modify_zero_cons, List.setIfInBounds_toArray, List.set_cons_zero] at st2
  rw [← hw] at st2
  clear hw hW4
  clear hw2 st0 HAs
  have hA2 := blk_cell ((st2.below.block _ (blk_lt hA)).trans hA)
  have rl := st2.rules
  simp only [Rules] at rl
  go_wp2_with fail
  go_ret
  exact ⟨rfl, st2.below⟩

/-- what reading once gives -/
def readV (s : ByteArray) : RGot → Value
  | .bad no => .tuple #[.string ⟨#[]⟩, .string s, .int .i64 no]
  | .ok b r => .tuple #[.string ⟨b.toArray⟩, .string ⟨r.toArray⟩, .int .i64 0]

set_option maxRecDepth 100000 in
set_option maxHeartbeats 2000000 in
theorem fread_any {p q : Addr} {w : World} (h : Snt p q w) (s : ByteArray) (hs : s.size ≤ 100000) :
    Calls Tryd.prog 14 #[.string s] w fun e w' => e = .returned (readV s (readL s.data.toList)) ∧ Below w.heap.size w w' := by
  have HR := Lib.hid (read_any h.1 s hs)
  generalize readL s.data.toList = g at *
  cases g with
  | bad no =>
    go_enter Tryd.func14, Tryd.ntmps14
    go_wp2_with fail
    refine HR.out.mono ?_
    rintro e w1 ⟨A, rfl, hb1, hA, hN⟩
    go_wp2_with fail
    refine (errno_fault (h.below hb1) A no hN).mono ?_
    rintro e w2 ⟨rfl, hb2⟩
    go_wp2_with fail
    exact bodyPost_ret (results_tmp3 (t := 2) (u := 3) (v := 4) rfl _ _ _) rfl ⟨rfl, hb1.trans (hb2.mono hb1.size)⟩
  | ok b r =>
    go_enter Tryd.func14, Tryd.ntmps14
    go_wp2_with fail
    refine HR.out.mono ?_
    rintro e w1 ⟨rfl, hb1⟩
    go_wp2_with fail
    refine (errno_ok _).mono ?_
    rintro e w2 ⟨rfl, hb2⟩
    go_wp2_with fail
    exact bodyPost_ret (results_tmp3 (t := 2) (u := 3) (v := 4) rfl _ _ _) rfl ⟨rfl, hb1.trans (hb2.mono hb1.size)⟩

/-- the first two thousand and ten bytes -/
def cut3 (s : ByteArray) : ByteArray := if 2010 < s.size then s.extract 0 2010 else s
theorem cut3_size (s : ByteArray) : (cut3 s).size ≤ 2010 := by
  unfold cut3
  split
  · simp; omega
  · omega
theorem cut3_zero (s : ByteArray) : (cut3 s).size = 0 → s.size = 0 := by
  unfold cut3
  split
  · intro h
    rename_i hh
    rw [ByteArray.size_extract] at h
    omega
  · exact id
theorem cut_any (s : ByteArray) (hs : s.size ≤ 9223372036854775807) (w : World) :
    Calls Tryd.prog 12 #[.string s] w fun e w' => e = .returned (.string (cut3 s)) ∧ w' = w := by
  unfold cut3
  by_cases h : 2010 < s.size
  · rw [if_pos h]
    have hm : min (s.size : Int) 2010 = 2010 := by omega
    go_enter Tryd.func12, Tryd.ntmps12
    go_wp2_with fail
    go_ret
    exact ⟨rfl, rfl⟩
  · rw [if_neg h]
    have hm : min (s.size : Int) 2010 = (s.size : Int) := by omega
    go_enter Tryd.func12, Tryd.ntmps12
    go_wp2_with fail
    go_ret
    exact ⟨ret_str (by simp), rfl⟩

theorem k1 : makeV ⟨#[97, 98, 99]⟩ = .tuple #[.string ⟨#[167, 3, 97, 98, 99, 2, 77, 1, 39]⟩, .int .i64 0] := by kernel_rfl
theorem k2 : readV ⟨#[168]⟩ (readL (ByteArray.mk #[168]).data.toList) = .tuple #[.string ⟨#[]⟩, .string ⟨#[168]⟩, .int .i64 30] := by kernel_rfl
theorem k3 : readV ⟨#[167]⟩ (readL (ByteArray.mk #[167]).data.toList) = .tuple #[.string ⟨#[]⟩, .string ⟨#[167]⟩, .int .i64 20] := by kernel_rfl
theorem k4 : ((chkN (ByteArray.mk #[97, 98, 99]).data.toList : Nat) : Int) = 38600999 := by kernel_rfl

set_option maxRecDepth 100000 in
set_option maxHeartbeats 1000000 in
theorem shown_any {p q : Addr} {w : World} (h : Snt p q w) :
    Calls Tryd.prog 10 #[] w fun e w' => e = .returned (.bool true) ∧ Below w.heap.size w w' := by
  go_enter Tryd.func10, Tryd.ntmps10
  go_wp2_with fail
  refine (make_any _ (by decide) _).mono ?_
  rw [k1]
  rintro e w1 ⟨rfl, hb1⟩
  go_wp2_with fail
  refine (fread_any (h.below hb1) _ (by decide)).mono ?_
  rw [k2]
  rintro e w2 ⟨rfl, hb2⟩
  have hb2 := hb1.trans (hb2.mono hb1.size)
  clear hb1
  go_wp2_with fail
  refine (fread_any (h.below hb2) _ (by decide)).mono ?_
  rw [k3]
  rintro e w3 ⟨rfl, hb3⟩
  have hb3 := hb2.trans (hb3.mono hb2.size)
  clear hb2
  go_wp2_with fail
  refine (fcheck_any _ (by decide) _).mono ?_
  rw [k4]
  rintro e w4 ⟨rfl, hb4⟩
  have hb4 := hb3.trans (hb4.mono hb3.size)
  clear hb3
  go_wp2_with fail
  go_ret
  exact ⟨rfl, hb4⟩

end Go.Proofs.YtafabdgkinfceaaDoor
