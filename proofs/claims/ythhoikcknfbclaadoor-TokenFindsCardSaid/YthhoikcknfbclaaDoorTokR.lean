/- aviaryref17.body, Mint, Body, Check, walked. -/
import Derived.Test.YthhoikcknfbclaaDoorTokC
import Derived.Test.YthhoikcknfbclaaDoorRefGet2
import Derived.Test.YthhoikcknfbclaaDoorRefPut
import Derived.Deep.RegionWith
namespace Go.Proofs.YthhoikcknfbclaaDoor
open Go.RowKit
set_option linter.unusedSimpArgs false

theorem bodyB_eq2 (t r u : Nat) : putB t ++ putB r ++ putB u = bodyB t r u := by
  apply ba_ext
  simp [ByteArray.data_append, bodyB, bodyL, putB]

set_option maxRecDepth 100000 in
set_option maxHeartbeats 2000000 in
theorem refBody0_any (t r u : Nat) (ht : t < 18446744073709551616) (hr : r ≤ 3) (hu : u < 18446744073709551616) (w : World) :
    Calls Tryd.prog 22 #[cv t r u] w fun e w' => e = .returned (.string (bodyB t r u)) ∧ Below w.heap.size w w' := by
  have st0 := (St.start w).alloc (cs := #[.int .u64 t, .int .i64 r, .int .u64 u]) (T := 26)
  have HE := Lib.hid (bodyB_eq2 t r u)
  have p1 := (putB_size t).2
  have p2 := (putB_size r).2
  have p3 := (putB_size u).2
  have C1 : Hid (∀ w, Calls Tryd.prog 30 #[.int .u64 t] w fun e w' => e = .returned (.string (putB t)) ∧ Below w.heap.size w w') := fun w => refPut_any t (by omega) (by omega) w
  have C2 : Hid (∀ w, Calls Tryd.prog 30 #[.int .u64 r] w fun e w' => e = .returned (.string (putB r)) ∧ Below w.heap.size w w') := fun w => refPut_any r (by omega) (by omega) w
  have C3 : Hid (∀ w, Calls Tryd.prog 30 #[.int .u64 u] w fun e w' => e = .returned (.string (putB u)) ∧ Below w.heap.size w w') := fun w => refPut_any u (by omega) (by omega) w
  clear ht hu
  go_enter Tryd.func22, Tryd.ntmps22
  go_wp2_with fail
  obtain ⟨bl2, E2, hne2, sh2, rl, hEx, hbx, hst⟩ := st0.hide
  simp only [Rules] at rl
  refine region_st sh2 (by kernel_rfl) (by kernel_rfl) ?_
  repeat (first | go_big_quiet_step ((first | (go_at_call_of 30 (t); exact Cs.call (C1.out _)) | (go_at_call_of 30 (r); exact Cs.call (C2.out _)) | (go_at_call_of 30 (u); exact Cs.call (C3.out _)))) | quiet_step ((first | (go_at_call_of 30 (t); exact Cs.call (C1.out _)) | (go_at_call_of 30 (r); exact Cs.call (C2.out _)) | (go_at_call_of 30 (u); exact Cs.call (C3.out _)))))
  refine wpQuiet_nil ?_
  intro y
  have st3 := (hst y).out
  clear hbx rl hst sh2 hEx st0
  generalize y.W = w3 at *
  go_wp2_with fail
  go_ret
  exact ⟨ret_str HE.out, st3.below⟩

end Go.Proofs.YthhoikcknfbclaaDoor
