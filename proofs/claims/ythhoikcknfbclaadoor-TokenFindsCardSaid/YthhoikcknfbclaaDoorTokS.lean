/- Claims compared; aviarylaw17.shown and cut, walked. -/
import Derived.Test.YthhoikcknfbclaaDoorTokR3
import Derived.Test.YthhoikcknfbclaaDoorMay
import Derived.Laws.StructEq
import Derived.KernelRfl
namespace Go.Proofs.YthhoikcknfbclaaDoor
open Go.RowKit
set_option linter.unusedSimpArgs false

@[go_sem high] theorem eqClaim (a b c d e f : Int) (w : World) : (Op.equalIn 10000 26 (.agg #[.int .u64 a, .int .i64 b, .int .u64 c]) (.agg #[.int .u64 d, .int .i64 e, .int .u64 f])).run Tryd.prog w = .ok (a == d && b == e && c == f) w := by
  have u3 := Tryd.underlying22
  have a3 := Tryd.isAgg22
  have z3 := Tryd.sizeOf22
  have u4 := Tryd.underlying3
  have a4 := Tryd.isAgg3
  have z4 := Tryd.sizeOf3
  have hS : Tryd.prog.underlying 26 = some (.struct (Tryd.prog.fieldsOf 26)) := by kernel_rfl
  have hp : Tryd.prog.stoodInHeld 26 = false := by kernel_rfl
  rw [show (10000 : Nat) = 9999 + 1 from rfl, run_equalIn_agg w 9999 26 _ _ hS hp]
  simp only [Program.fieldsOf, Tryd.underlying26]
  go_simp
  by_cases h1 : a = d <;> by_cases h2 : b = e <;> by_cases h3 : c = f <;> simp [h1, h2, h3]

theorem mintV_ok (a b : BitVec 64) (t : Nat) (r : Int) (u : Nat) (h : 1 ≤ r ∧ r ≤ 3) : mintV a b t r u = .tuple #[.string (mintB a b t r.toNat u), .int .i64 0] := if_pos h
theorem mintV_no (a b : BitVec 64) (t : Nat) (r : Int) (u : Nat) (h : ¬ (1 ≤ r ∧ r ≤ 3)) : mintV a b t r u = .tuple #[.string ⟨#[]⟩, .int .i64 170] := if_neg h

/-- the token that is shown -/
def tok12 : ByteArray := mintB 1 2 300 2 5
theorem tok12_size : tok12.size = 12 := by
  unfold tok12 mintB
  rw [ByteArray.size_append, sumB_size, show (bodyB 300 2 5).size = 4 by kernel_rfl]
theorem tok12_head : tok12.extract 0 4 = ⟨#[241, 60, 2, 5]⟩ := by
  apply ba_ext
  rw [ByteArray.data_extract, Array.toList_extract, List.extract_eq_take_drop, List.drop_zero]
  unfold tok12
  rw [mintB_list, List.take_append_of_le_length (by rw [show (bodyL 300 2 5).length = 4 by kernel_rfl]; omega)]
  kernel_rfl
theorem tok12_body : bodyOf tok12.data.toList = some (300, 2, 5) := bodyOf_mint 1 2 300 2 5 (by decide) (by decide) (by decide) (by decide)

theorem mint12 (w : World) : Calls Tryd.prog 10 #[.agg #[.int .u64 1, .int .u64 2], .agg #[.int .u64 300, .int .i64 2, .int .u64 5]] w fun e w' => e = .returned (.tuple #[.string tok12, .int .i64 0]) ∧ Below w.heap.size w w' := by
  have := mint_any 1 2 300 2 5 (by decide) (by decide) (by decide) (by decide) w
  rw [mintV_ok _ _ _ _ _ (by decide)] at this
  exact this
theorem check12a {p q : Addr} {w : World} (h : Sents p q w) : Calls Tryd.prog 12 #[.agg #[.int .u64 1, .int .u64 2], .string tok12, .int .u64 5] w fun e w' => e = .returned (.tuple #[.agg #[.int .u64 300, .int .i64 2, .int .u64 5], .int .i64 0]) ∧ Below w.heap.size w w' := by
  have := check_any h 1 2 tok12 (by rw [tok12_size]; decide) 5
  rw [tok12_body, checkV_3 (show mintB 1 2 300 2 5 = tok12 from rfl) (by decide)] at this
  exact this
theorem check12b {p q : Addr} {w : World} (h : Sents p q w) : Calls Tryd.prog 12 #[.agg #[.int .u64 1, .int .u64 2], .string tok12, .int .u64 6] w fun e w' => e = .returned (.tuple #[.agg #[.int .u64 0, .int .i64 0, .int .u64 0], .int .i64 171]) ∧ Below w.heap.size w w' := by
  have := check_any h 1 2 tok12 (by rw [tok12_size]; decide) 6
  rw [tok12_body, checkV_2 (show mintB 1 2 300 2 5 = tok12 from rfl) (by decide)] at this
  exact this
theorem check12c {p q : Addr} {w : World} (h : Sents p q w) : Calls Tryd.prog 12 #[.agg #[.int .u64 1, .int .u64 2], .string ⟨#[120]⟩, .int .u64 5] w fun e w' => e = .returned (.tuple #[.agg #[.int .u64 0, .int .i64 0, .int .u64 0], .int .i64 170]) ∧ Below w.heap.size w w' := by
  have := check_any h 1 2 ⟨#[120]⟩ (by decide) 5
  rw [show bodyOf (ByteArray.mk #[120]).data.toList = none by kernel_rfl] at this
  exact this
theorem may23 (w : World) : Calls Tryd.prog 17 #[.int .i64 2, .int .i64 3] w fun e w' => e = .returned (.bool true) ∧ Below w.heap.size w w' := may_any 2 3 w

set_option maxRecDepth 100000 in
set_option maxHeartbeats 2000000 in
theorem shown_any {p q : Addr} {w : World} (h : Sents p q w) :
    Calls Tryd.prog 9 #[] w fun e w' => e = .returned (.bool true) ∧ Below w.heap.size w w' := by
  have st0 := ((St.start w).alloc (cs := #[.int .u64 1, .int .u64 2]) (T := 24)).alloc (cs := #[.int .u64 300, .int .i64 2, .int .u64 5]) (T := 26)
  simp only [World.size_alloc] at st0
  have hz := tok12_size
  have hd := tok12_head
  have hmin : min (12 : Int) 4 = 4 := rfl
  have C1 := Lib.hid mint12
  have C2 := Lib.hid (fun w => @check12a p q w)
  have C3 := Lib.hid (fun w => @check12b p q w)
  have C4 := Lib.hid (fun w => @check12c p q w)
  generalize tok12 = tk at *
  go_enter Tryd.func9, Tryd.ntmps9
  go_wp2_with fail
  refine (C1.out _).mono ?_
  rintro e w1 ⟨rfl, hb1⟩
  have st1 := st0.to hb1
  clear st0 hb1
  have rl := st1.rules
  simp only [Rules] at rl
  go_wp2_with fail
  refine (C2.out _ (h.below (Nat.le_refl _) st1.below)).mono ?_
  rintro e w2 ⟨rfl, hb2⟩
  have st2 := (st1.to hb2).alloc (cs := #[.int .u64 300, .int .i64 2, .int .u64 5]) (T := 26)
  have rl2 := (st1.to hb2).rules
  clear st1 hb2 rl
  simp only [Rules] at rl2
  go_wp2_with fail
  refine (C3.out _ (h.below (Nat.le_refl _) st2.below)).mono ?_
  rintro e w3 ⟨rfl, hb3⟩
  have st3 := (st2.to hb3).alloc (cs := #[.int .u64 0, .int .i64 0, .int .u64 0]) (T := 26)
  have rl := (st2.to hb3).rules
  clear st2 hb3 rl2
  simp only [Rules] at rl
  go_wp2_with fail
  refine (C4.out _ (h.below (Nat.le_refl _) st3.below)).mono ?_
  rintro e w4 ⟨rfl, hb4⟩
  have st4 := (st3.to hb4).alloc (cs := #[.int .u64 0, .int .i64 0, .int .u64 0]) (T := 26)
  have rl2 := (st3.to hb4).rules
  clear st3 hb4 rl
  simp only [Rules] at rl2
  go_wp2_with fail
  refine (may23 _).mono ?_
  rintro e w5 ⟨rfl, hb5⟩
  have st5 := st4.to hb5
  go_wp2_with fail
  go_ret
  exact ⟨rfl, st5.below⟩

/-- the first hundred bytes -/
def cut100 (s : ByteArray) : ByteArray := if 100 < s.size then s.extract 0 100 else s
theorem cut100_size (s : ByteArray) : (cut100 s).size ≤ 100 := by
  unfold cut100
  split
  · simp; omega
  · omega
theorem cut_any (s : ByteArray) (hs : s.size ≤ 9223372036854775807) (w : World) :
    Calls Tryd.prog 13 #[.string s] w fun e w' => e = .returned (.string (cut100 s)) ∧ w' = w := by
  unfold cut100
  by_cases h : 100 < s.size
  · rw [if_pos h]
    have hm : min (s.size : Int) 100 = 100 := by omega
    go_enter Tryd.func13, Tryd.ntmps13
    go_wp2_with fail
    go_ret
    exact ⟨rfl, rfl⟩
  · rw [if_neg h]
    have hm : min (s.size : Int) 100 = (s.size : Int) := by omega
    go_enter Tryd.func13, Tryd.ntmps13
    go_wp2_with fail
    go_ret
    exact ⟨ret_str (by simp), rfl⟩

end Go.Proofs.YthhoikcknfbclaaDoor
