/- What the reference's turn, Round and Back compute, walked. -/
import Derived.Test.YthhoikcknfbclaaDoorRound
namespace Go.Proofs.YthhoikcknfbclaaDoor
open Go.RowKit

attribute [local go_sem] wrap_add wrap_sub bits_xor bits_or bits_and wrap_shl div_shr

set_option maxHeartbeats 400000 in
theorem turn_any (x : BitVec 64) (k : Int) (h0 : 0 < k) (h1 : k < 64) (w : World) :
    Calls Tryd.prog 42 #[.int .u64 (un x), .int .i64 k] w fun e w' => e = .returned (.int .u64 (un (rotl x k.toNat))) ∧ ∃ m, w' = w.drewN m := by
  obtain ⟨k, rfl⟩ := Int.eq_ofNat_of_zero_le (Int.le_of_lt h0)
  go_enter Tryd.func42, Tryd.ntmps42
  go_wp2
  go_quiet (fail)
  go_wp2
  go_ret
  exact ⟨rfl, _, rfl⟩

set_option maxRecDepth 100000 in
set_option maxHeartbeats 2000000 in
theorem refRound_any (v : V4) (w : World) :
    Calls Tryd.prog 31 #[vs v] w fun e w' => e = .returned (vs (rnd v)) ∧ Below w.heap.size w w' := by
  obtain ⟨a, b, c, d⟩ := v
  go_enter Tryd.func31, Tryd.ntmps31
  go_wp2_with (go_at_call 42; refine (turn_any _ _ (by omega) (by omega) _).mono ?_; rintro e w' ⟨rfl, m, rfl⟩)
  first | (with_reducible refine region_drewN_tail 7 (by kernel_rfl) (by kernel_rfl) ?_) | refine region_drew_tail 7 (by kernel_rfl) (by kernel_rfl) ?_
  simp only [List.take_succ_cons, List.take_zero, List.drop_succ_cons, List.drop_zero]
  repeat (quiet_step ((go_at_call 42; exact Calls.quiet_of (turn_any _ _ (by omega) (by omega) _))))
  refine wpQuiet_nil ?_
  intro m
  go_wp2_with (go_at_call 42; refine (turn_any _ _ (by omega) (by omega) _).mono ?_; rintro e w' ⟨rfl, m, rfl⟩)
  first | (with_reducible refine region_drewN_tail 7 (by kernel_rfl) (by kernel_rfl) ?_) | refine region_drew_tail 7 (by kernel_rfl) (by kernel_rfl) ?_
  simp only [List.take_succ_cons, List.take_zero, List.drop_succ_cons, List.drop_zero]
  repeat (quiet_step ((go_at_call 42; exact Calls.quiet_of (turn_any _ _ (by omega) (by omega) _))))
  refine wpQuiet_nil ?_
  intro m
  go_wp2_with (go_at_call 42; refine (turn_any _ _ (by omega) (by omega) _).mono ?_; rintro e w' ⟨rfl, m, rfl⟩)
  first | (with_reducible refine region_drewN_tail 7 (by kernel_rfl) (by kernel_rfl) ?_) | refine region_drew_tail 7 (by kernel_rfl) (by kernel_rfl) ?_
  simp only [List.take_succ_cons, List.take_zero, List.drop_succ_cons, List.drop_zero]
  repeat (quiet_step ((go_at_call 42; exact Calls.quiet_of (turn_any _ _ (by omega) (by omega) _))))
  refine wpQuiet_nil ?_
  intro m
  go_wp2_with (go_at_call 42; refine (turn_any _ _ (by omega) (by omega) _).mono ?_; rintro e w' ⟨rfl, m, rfl⟩)
  first | (with_reducible refine region_drewN_tail 7 (by kernel_rfl) (by kernel_rfl) ?_) | refine region_drew_tail 7 (by kernel_rfl) (by kernel_rfl) ?_
  simp only [List.take_succ_cons, List.take_zero, List.drop_succ_cons, List.drop_zero]
  repeat (quiet_step ((go_at_call 42; exact Calls.quiet_of (turn_any _ _ (by omega) (by omega) _))))
  refine wpQuiet_nil ?_
  intro m
  go_wp2_with (go_at_call 42; refine (turn_any _ _ (by omega) (by omega) _).mono ?_; rintro e w' ⟨rfl, m, rfl⟩)
  refine bodyPost_ret (v := vs (rnd ⟨a, b, c, d⟩)) (by simp [results, Tryd.results31, go_sem, rnd]) rfl ⟨rfl, ?_⟩
  repeat first | refine Below.drew ?_ | refine below_drewN ?_ _
  exact ((Below.refl _ _).alloc (Nat.le_refl _) _).alloc (by simp) _

end Go.Proofs.YthhoikcknfbclaaDoor
