/- What bits.RotateLeft64 and the two Round functions compute, walked. -/
import Derived.Test.YthhoikcknfbclaaDoorProg
import Derived.Test.YthhoikcknfbclaaDoorU64
import Derived.WalkKit
import Derived.WalkLawsBesides
import Derived.WalkSpells
import Derived.Outline
import Derived.Test.YthhoikcknfbclaaDoorQuiet
namespace Go.Proofs.YthhoikcknfbclaaDoor
open Go.RowKit

attribute [local go_sem] wrap_add wrap_sub bits_xor bits_or bits_and wrap_shl div_shr

/-- a region whose last operation alone writes: the others read or call quietly -/
theorem region_tail {P : Program} {id : Nat} {Q : Exit → Act → World → Prop} {a : Act} {w : World} {l : List Oper} (n : Nat) (hm : P.follows .mixedOrders = true) (hB : Region.lexTailB .any l.toArray n = true)
    (h : wpStill P l.toArray w.drew (fun a' => wpList P l.toArray Q (l.drop n) a' w.drew) (l.take n) a) : (Code.region id l.toArray true).wp P Q a w :=
  wp_region_still_tail n hm hB h

set_option maxHeartbeats 400000 in
theorem rot_any (x : BitVec 64) (k : Int) (h0 : 0 < k) (h1 : k < 64) (w : World) :
    Calls Tryd.prog 51 #[.int .u64 (un x), .int .i64 k] w fun e w' => e = .returned (.int .u64 (un (rotl x k.toNat))) ∧ w' = w := by
  obtain ⟨k, rfl⟩ := Int.eq_ofNat_of_zero_le (Int.le_of_lt h0)
  have hb : bits .and .u64 (k : Int) 63 = k := by
    rw [show (63 : Int) = ((63 : Nat) : Int) from rfl, u64_and_nat _ _ (by omega) (by omega)]
    rw [show (63 : Nat) = 2 ^ 6 - 1 from rfl, Nat.and_two_pow_sub_one_eq_mod, Nat.mod_eq_of_lt (by omega)]
  go_enter Tryd.func51, Tryd.ntmps51
  go_wp2
  go_ret
  exact ⟨rfl, rfl⟩

/-- four numbers as a value -/
abbrev vs (v : V4) : Value := .agg #[.int .u64 (un v.a), .int .u64 (un v.b), .int .u64 (un v.c), .int .u64 (un v.d)]

set_option maxRecDepth 100000 in
set_option maxHeartbeats 2000000 in
theorem sipRound_any (v : V4) (w : World) :
    Calls Tryd.prog 47 #[vs v] w fun e w' => e = .returned (vs (rnd v)) ∧ Below w.heap.size w w' := by
  obtain ⟨a, b, c, d⟩ := v
  go_enter Tryd.func47, Tryd.ntmps47
  go_wp2_with (go_at_call 51; refine (rot_any _ _ (by omega) (by omega) _).mono ?_; rintro e w' ⟨rfl, rfl⟩)
  refine region_tail 7 (by kernel_rfl) (by kernel_rfl) ?_
  simp only [List.take_succ_cons, List.take_zero, List.drop_succ_cons, List.drop_zero]
  repeat (first | still_step | still_call (rot_any _ _ (by omega) (by omega) _))
  refine wpStill_nil ?_
  go_wp2_with (go_at_call 51; refine (rot_any _ _ (by omega) (by omega) _).mono ?_; rintro e w' ⟨rfl, rfl⟩)
  refine region_tail 7 (by kernel_rfl) (by kernel_rfl) ?_
  simp only [List.take_succ_cons, List.take_zero, List.drop_succ_cons, List.drop_zero]
  repeat (first | still_step | still_call (rot_any _ _ (by omega) (by omega) _))
  refine wpStill_nil ?_
  go_wp2_with (go_at_call 51; refine (rot_any _ _ (by omega) (by omega) _).mono ?_; rintro e w' ⟨rfl, rfl⟩)
  refine region_tail 7 (by kernel_rfl) (by kernel_rfl) ?_
  simp only [List.take_succ_cons, List.take_zero, List.drop_succ_cons, List.drop_zero]
  repeat (first | still_step | still_call (rot_any _ _ (by omega) (by omega) _))
  refine wpStill_nil ?_
  go_wp2_with (go_at_call 51; refine (rot_any _ _ (by omega) (by omega) _).mono ?_; rintro e w' ⟨rfl, rfl⟩)
  refine region_tail 7 (by kernel_rfl) (by kernel_rfl) ?_
  simp only [List.take_succ_cons, List.take_zero, List.drop_succ_cons, List.drop_zero]
  repeat (first | still_step | still_call (rot_any _ _ (by omega) (by omega) _))
  refine wpStill_nil ?_
  go_wp2_with (go_at_call 51; refine (rot_any _ _ (by omega) (by omega) _).mono ?_; rintro e w' ⟨rfl, rfl⟩)
  refine bodyPost_ret (v := vs (rnd ⟨a, b, c, d⟩)) (by simp [results, Tryd.results47, go_sem, rnd]) rfl ⟨rfl, ?_⟩
  repeat refine Below.drew ?_
  exact ((Below.refl _ _).alloc (Nat.le_refl _) _).alloc (by simp) _
end Go.Proofs.YthhoikcknfbclaaDoor
