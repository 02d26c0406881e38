/- SipChildren: for every key and every text, the child of its first three hundred bytes is the reference's. No condition. -/
import Derived.Test.YtddggjimggikpaaRows
import Derived.Test.YtddggjimggikpaaSmall
import Derived.Test.YtddggjimggikpaaOpen
import Derived.WalkKit
import Derived.ProofKit
import Derived.OpenShut
import Derived.ShutString
import Derived.ChangeOld
import Derived.Below
namespace Go.Proofs.Ytddggjimggikpaa.sipChildren
open Go.ChangeShapes Go.WideShapes Go.ChangeAt Go.RowKit Go.Joins
set_option linter.unusedVariables false

theorem own : ownKnob Try.prog.godebug = none := by kernel_rfl
theorem laidOut : laidOutB Try.prog = true := by kernel_rfl

set_option maxRecDepth 100000 in
set_option maxHeartbeats 2000000 in
theorem walk (a0 b0 : BitVec 64) (s1 : ByteArray) (hs1 : s1.size ≤ 9223372036854775807) (w : World) :
    Calls Try.prog 8 #[.agg #[.int .u64 (un a0), .int .u64 (un b0)], .string s1] w fun e w' => e = .returned (.bool true) ∧ Below w.heap.size w w' := by
  have hcut := cutS_size s1
  go_enter Try.func8, Try.ntmps8
  go_wp2_with fail
  refine (shown_any _).mono ?_
  rintro e w1 ⟨rfl, hb1⟩
  have hB0 : Below w.heap.size w (w.alloc (Obj.cells #[Value.int IntKind.u64 (un a0), Value.int IntKind.u64 (un b0)] 24)) := (Below.refl _ _).alloc (Nat.le_refl _) _
  have hz0 : (w.alloc (Obj.cells #[Value.int IntKind.u64 (un a0), Value.int IntKind.u64 (un b0)] 24)).heap.size = w.heap.size + 1 := by simp
  have c0 : w1.cell? ⟨w.heap.size, 0, none⟩ = some (.int .u64 (un a0)) := (hb1.cell (p := ⟨w.heap.size, 0, none⟩) (by rw [hz0]; simp)).trans (by go_simp)
  have c1 : w1.cell? ⟨w.heap.size, 1, none⟩ = some (.int .u64 (un b0)) := (hb1.cell (p := ⟨w.heap.size, 1, none⟩) (by rw [hz0]; simp)).trans (by go_simp)
  have hw1 : w.heap.size < w1.heap.size := by have := hb1.size; rw [hz0] at this; omega
  have hB1 : Below w.heap.size w w1 := hB0.trans (hb1.mono (by rw [hz0]; omega))
  clear hz0 hb1 hB0
  have d0 := Cw.cell w.heap.size 0 _ hw1 c0
  have d1 := Cw.cell w.heap.size 1 _ hw1 c1
  clear c0 c1
  go_wp2_with fail
  refine region_cw (by kernel_rfl) (by kernel_rfl) ?_
  repeat (first | go_big_quiet_step ((first | (go_at_call 12; exact Cw.call_same (cut_any _ hs1 _)) | (go_at_call 18; exact Cw.call (child_any _ _ _ (by omega) _)) | (go_at_call 19; exact Cw.call (refChild_any _ _ _ (by omega) _)))) | quiet_step ((first | (go_at_call 12; exact Cw.call_same (cut_any _ hs1 _)) | (go_at_call 18; exact Cw.call (child_any _ _ _ (by omega) _)) | (go_at_call 19; exact Cw.call (refChild_any _ _ _ (by omega) _)))))
  refine wpQuiet_nil ?_
  intro x
  go_wp2_with fail
  go_ret
  exact ⟨rfl, hB1.trans (x.below.mono (Nat.le_of_lt hw1))⟩


set_option maxRecDepth 100000 in
theorem lifted (os : Os) (started : os.Started) (H : Type) (enc : TypeId × Value → H) :
    ReturnsInHanded {} Try.checked os 8 .any (Rows.sipChildrenSpec.pre6 enc Try.prog Try.f8 Rows.sipChildrenRow.domain false) (Rows.sipChildrenSpec.post enc Try.prog Try.f8 false true false false) := by
  refine returnsInHanded_of_change (C := Try.checked) own started (by kernel_rfl) Try.func8
    (ChangeSpec.witness6 (enc := enc) (C := Try.checked) false ⟨#[], #[.agg #[.int .u64 0, .int .u64 0], .string ⟨#[]⟩], []⟩ 8 (by kernel_rfl) (by kernel_rfl) (by kernel_rfl) (by kernel_rfl)) ?_
  intro W base args ds gs before hval0 hW hcnd _
  have hval : ∀ (j : Nat) t v, Try.f8.params[j]? = some t → args[j]? = some v → Value.okWide Try.prog W .any base t v := hval0
  have hW' := hW
  obtain ⟨p, q, hA0, hV, rfl, hfz, hnd⟩ := hW
  have hA : DataW.TrodAll enc Try.prog W 0 (fun _ => true) true Try.f8.params.toList args.toList ds p := hA0
  rw [Try.params8] at hA hval
  obtain ⟨v0, vs0, d0, ds0, p0, q0, hargs, rfl, rfl, h0, r0⟩ := trodAll_cons hA
  obtain ⟨v1, vs1, d1, ds1, p1, q1, rfl, rfl, rfl, h1, r1⟩ := trodAll_cons r0
  obtain ⟨rfl, rfl, rfl⟩ := trodAll_nil r1
  obtain rfl : args = #[v0, v1] := by cases args; simp_all
  obtain ⟨rfl, rfl⟩ := trodVars_none hV
  have k0 := h0
  have lt0 : ∀ x ∈ p0, x.block < W.heap.size := by obtain ⟨m, hm⟩ := k0; exact DataW.trod_lt m _ _ _ hm
  obtain ⟨a0, b0, rfl⟩ := openKey (hval 0 24 v0 rfl rfl) h0
  have k1 := h1
  have lt1 : ∀ x ∈ p1, x.block < W.heap.size := by obtain ⟨m, hm⟩ := k1; exact DataW.trod_lt m _ _ _ hm
  obtain ⟨s1, rfl, hs1⟩ := openStr (hval 1 9 v1 rfl rfl) h1
  clear hA0 hval0
  refine (walk a0 b0 s1 hs1 W).mono fun e W' ⟨he, bel⟩ => ?_
  subst he
  exact ⟨_, rfl, _, _, _, [], _, [], hW', trodAll_mk1 (shut_bool Try.underlying4 _), (trodAll_cons_mk (Below.trod laidOut (by kernel_rfl) (of_decide_eq_true (by kernel_rfl)) k0 bel lt0) (trodAll_cons_mk (Below.trod laidOut (by kernel_rfl) (of_decide_eq_true (by kernel_rfl)) k1 bel lt1) trodAll_mk0)), rfl, bel.frame _, fun h => by cases h⟩

theorem over : Rows.sipChildrenRow.holds Try.pinned (OpenSpec.ofChange Rows.sipChildrenSpec) :=
  OpenClaim.holds_of_wide 8 Try.f8 rfl rfl rfl rfl rfl rfl rfl ⟨rfl, rfl, rfl, rfl, rfl⟩ rfl rfl rfl rfl rfl (by kernel_rfl) Try.func8 (by kernel_rfl)
    (of_decide_eq_true (by kernel_rfl)) (by unfold Func.isWrapper; first | (rw [if_pos (by decide +kernel)]; kernel_rfl) | (rw [if_neg (by decide +kernel)]; exact ⟨rfl, rfl⟩))
    (fun os started H enc _ => lifted os started H enc)

/-- THE STATEMENT -/
theorem proved : Rows.SipChildrenSaid := over
#print axioms proved
end Go.Proofs.Ytddggjimggikpaa.sipChildren
