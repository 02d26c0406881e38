/- SipBack: for every four numbers a round can be undone, from both sides. No condition. -/
import Derived.Test.YtddggjimggikpaaRows
import Derived.Test.YtddggjimggikpaaSmall
import Derived.Test.YtddggjimggikpaaInv
import Derived.Test.YtddggjimggikpaaOpen
import Derived.WalkKit
import Derived.ProofKit
import Derived.OpenShut
import Derived.ShutString
import Derived.ChangeOld
import Derived.Below
namespace Go.Proofs.Ytddggjimggikpaa.sipBack
open Go.ChangeShapes Go.WideShapes Go.ChangeAt Go.RowKit Go.Joins
set_option linter.unusedVariables false

theorem own : ownKnob Try.prog.godebug = none := by kernel_rfl
theorem laidOut : laidOutB Try.prog = true := by kernel_rfl

attribute [local irreducible] rnd bck

set_option maxRecDepth 100000 in
set_option maxHeartbeats 2000000 in
theorem walk (x0 : V4) (w : World) :
    Calls Try.prog 5 #[.agg #[.int .u64 (un x0.a), .int .u64 (un x0.b), .int .u64 (un x0.c), .int .u64 (un x0.d)]] w fun e w' => e = .returned (.bool true) ∧ Below w.heap.size w w' := by
  have e1 : bck ⟨(rnd ⟨x0.a, x0.b, x0.c, x0.d⟩).a, (rnd ⟨x0.a, x0.b, x0.c, x0.d⟩).b, (rnd ⟨x0.a, x0.b, x0.c, x0.d⟩).c, (rnd ⟨x0.a, x0.b, x0.c, x0.d⟩).d⟩ = x0 := bck_rnd x0
  have e2 : rnd ⟨(bck ⟨x0.a, x0.b, x0.c, x0.d⟩).a, (bck ⟨x0.a, x0.b, x0.c, x0.d⟩).b, (bck ⟨x0.a, x0.b, x0.c, x0.d⟩).c, (bck ⟨x0.a, x0.b, x0.c, x0.d⟩).d⟩ = x0 := rnd_bck x0
  go_enter Try.func5, Try.ntmps5
  go_wp2_with fail
  refine (shown_any _).mono ?_
  rintro e w1 ⟨rfl, hb1⟩
  have hz0 : (w.alloc (Obj.cells #[Value.int IntKind.u64 (un x0.a), Value.int IntKind.u64 (un x0.b), Value.int IntKind.u64 (un x0.c), Value.int IntKind.u64 (un x0.d)] 29)).heap.size = w.heap.size + 1 := by simp
  have hB0 : Blk4 w1 w.heap.size 29 x0 := (hb1.block _ (by rw [hz0]; omega)).trans (World.alloc_heap_new w _)
  have hw1 : w.heap.size < w1.heap.size := hB0.lt
  have hB1 : Below w.heap.size w w1 := ((Below.refl _ _).alloc (Nat.le_refl _) _).trans (hb1.mono (by rw [hz0]; omega))
  obtain ⟨c0, c1, c2, c3⟩ := hB0.cells
  have d0 := Cw.cell w.heap.size 0 _ hw1 c0
  have d1 := Cw.cell w.heap.size 1 _ hw1 c1
  have d2 := Cw.cell w.heap.size 2 _ hw1 c2
  have d3 := Cw.cell w.heap.size 3 _ hw1 c3
  clear hz0 hb1 hB0 c0 c1 c2 c3
  go_wp2_with fail
  refine region_cw (by kernel_rfl) (by kernel_rfl) ?_
  repeat (first | go_big_quiet_step ((first | (go_at_call 14; exact Cw.call (sipRound_any ⟨_, _, _, _⟩ _)) | (go_at_call 17; exact Cw.call (refBack_any ⟨_, _, _, _⟩ _)))) | quiet_step ((first | (go_at_call 14; exact Cw.call (sipRound_any ⟨_, _, _, _⟩ _)) | (go_at_call 17; exact Cw.call (refBack_any ⟨_, _, _, _⟩ _)))))
  refine wpQuiet_nil ?_
  intro x
  go_wp2_with fail
  go_ret
  exact ⟨rfl, hB1.trans (x.below.mono (Nat.le_of_lt hw1))⟩


set_option maxRecDepth 100000 in
theorem lifted (os : Os) (started : os.Started) (H : Type) (enc : TypeId × Value → H) :
    ReturnsInHanded {} Try.checked os 5 .any (Rows.sipBackSpec.pre6 enc Try.prog Try.f5 Rows.sipBackRow.domain false) (Rows.sipBackSpec.post enc Try.prog Try.f5 false true false false) := by
  refine returnsInHanded_of_change (C := Try.checked) own started (by kernel_rfl) Try.func5
    (ChangeSpec.witness6 (enc := enc) (C := Try.checked) false ⟨#[], #[.agg #[.int .u64 0, .int .u64 0, .int .u64 0, .int .u64 0]], []⟩ 8 (by kernel_rfl) (by kernel_rfl) (by kernel_rfl) (by kernel_rfl)) ?_
  intro W base args ds gs before hval0 hW hcnd _
  have hval : ∀ (j : Nat) t v, Try.f5.params[j]? = some t → args[j]? = some v → Value.okWide Try.prog W .any base t v := hval0
  have hW' := hW
  obtain ⟨p, q, hA0, hV, rfl, hfz, hnd⟩ := hW
  have hA : DataW.TrodAll enc Try.prog W 0 (fun _ => true) true Try.f5.params.toList args.toList ds p := hA0
  rw [Try.params5] at hA hval
  obtain ⟨v0, vs0, d0, ds0, p0, q0, hargs, rfl, rfl, h0, r0⟩ := trodAll_cons hA
  obtain ⟨rfl, rfl, rfl⟩ := trodAll_nil r0
  obtain rfl : args = #[v0] := by cases args; simp_all
  obtain ⟨rfl, rfl⟩ := trodVars_none hV
  have k0 := h0
  have lt0 : ∀ x ∈ p0, x.block < W.heap.size := by obtain ⟨m, hm⟩ := k0; exact DataW.trod_lt m _ _ _ hm
  obtain ⟨x0, rfl⟩ := openV4 (hval 0 29 v0 rfl rfl) h0
  clear hA0 hval0
  refine (walk x0 W).mono fun e W' ⟨he, bel⟩ => ?_
  subst he
  exact ⟨_, rfl, _, _, _, [], _, [], hW', trodAll_mk1 (shut_bool Try.underlying4 _), (trodAll_cons_mk (Below.trod laidOut (by kernel_rfl) (of_decide_eq_true (by kernel_rfl)) k0 bel lt0) trodAll_mk0), rfl, bel.frame _, fun h => by cases h⟩

theorem over : Rows.sipBackRow.holds Try.pinned (OpenSpec.ofChange Rows.sipBackSpec) :=
  OpenClaim.holds_of_wide 5 Try.f5 rfl rfl rfl rfl rfl rfl rfl ⟨rfl, rfl, rfl, rfl, rfl⟩ rfl rfl rfl rfl rfl (by kernel_rfl) Try.func5 (by kernel_rfl)
    (of_decide_eq_true (by kernel_rfl)) (by unfold Func.isWrapper; first | (rw [if_pos (by decide +kernel)]; kernel_rfl) | (rw [if_neg (by decide +kernel)]; exact ⟨rfl, rfl⟩))
    (fun os started H enc _ => lifted os started H enc)

/-- THE STATEMENT -/
theorem proved : Rows.SipBackSaid := over
#print axioms proved
end Go.Proofs.Ytddggjimggikpaa.sipBack
