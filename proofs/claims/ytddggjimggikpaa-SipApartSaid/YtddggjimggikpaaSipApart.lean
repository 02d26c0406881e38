/- SipApart: two lists of four numbers are the same behind a round if and only if they were the same. No condition. -/
import Derived.Test.YtddggjimggikpaaRows
import Derived.Test.YtddggjimggikpaaSmall
import Derived.Test.YtddggjimggikpaaInv
import Derived.Test.YtddggjimggikpaaOpen
import Derived.WalkKit
import Derived.ProofKit
import Derived.OpenShut
import Derived.ShutString
import Derived.ChangeOld
import Derived.Below
namespace Go.Proofs.Ytddggjimggikpaa.sipApart
open Go.ChangeShapes Go.WideShapes Go.ChangeAt Go.RowKit Go.Joins
set_option linter.unusedVariables false

theorem own : ownKnob Try.prog.godebug = none := by kernel_rfl
theorem laidOut : laidOutB Try.prog = true := by kernel_rfl

attribute [local irreducible] rnd bck

theorem apart (x y : V4) : (((un (rnd ⟨x.a, x.b, x.c, x.d⟩).a == un (rnd ⟨y.a, y.b, y.c, y.d⟩).a && un (rnd ⟨x.a, x.b, x.c, x.d⟩).b == un (rnd ⟨y.a, y.b, y.c, y.d⟩).b && un (rnd ⟨x.a, x.b, x.c, x.d⟩).c == un (rnd ⟨y.a, y.b, y.c, y.d⟩).c && un (rnd ⟨x.a, x.b, x.c, x.d⟩).d == un (rnd ⟨y.a, y.b, y.c, y.d⟩).d) : Bool) == (un x.a == un y.a && un x.b == un y.b && un x.c == un y.c && un x.d == un y.d)) = true := by
  rw [beq_iff_eq, Bool.eq_iff_iff]
  simp only [Bool.and_eq_true, beq_iff_eq]
  constructor
  · rintro ⟨⟨⟨h1, h2⟩, h3⟩, h4⟩
    have e : rnd x = rnd y := by
      have e1 : ∀ v : V4, v = ⟨v.a, v.b, v.c, v.d⟩ := fun v => rfl
      rw [e1 (rnd x), e1 (rnd y)]
      rw [show (rnd x).a = (rnd y).a from un_inj h1, show (rnd x).b = (rnd y).b from un_inj h2, show (rnd x).c = (rnd y).c from un_inj h3, show (rnd x).d = (rnd y).d from un_inj h4]
    obtain rfl := rnd_inj e
    exact ⟨⟨⟨rfl, rfl⟩, rfl⟩, rfl⟩
  · rintro ⟨⟨⟨h1, h2⟩, h3⟩, h4⟩
    rw [un_inj h1, un_inj h2, un_inj h3, un_inj h4]
    exact ⟨⟨⟨rfl, rfl⟩, rfl⟩, rfl⟩

set_option maxRecDepth 100000 in
set_option maxHeartbeats 2000000 in
theorem walk (x0 x1 : V4) (w : World) :
    Calls Try.prog 6 #[.agg #[.int .u64 (un x0.a), .int .u64 (un x0.b), .int .u64 (un x0.c), .int .u64 (un x0.d)], .agg #[.int .u64 (un x1.a), .int .u64 (un x1.b), .int .u64 (un x1.c), .int .u64 (un x1.d)]] w fun e w' => e = .returned (.bool true) ∧ Below w.heap.size w w' := by
  have HA := Lib.hid (apart x0 x1)
  go_enter Try.func6, Try.ntmps6
  go_wp2_with fail
  refine (shown_any _).mono ?_
  rintro e w1 ⟨rfl, hb1⟩
  have hz0 : ((w.alloc (Obj.cells #[Value.int IntKind.u64 (un x0.a), Value.int IntKind.u64 (un x0.b), Value.int IntKind.u64 (un x0.c), Value.int IntKind.u64 (un x0.d)] 29)).alloc (Obj.cells #[Value.int IntKind.u64 (un x1.a), Value.int IntKind.u64 (un x1.b), Value.int IntKind.u64 (un x1.c), Value.int IntKind.u64 (un x1.d)] 29)).heap.size = w.heap.size + 2 := by simp
  have hz1 : (w.alloc (Obj.cells #[Value.int IntKind.u64 (un x0.a), Value.int IntKind.u64 (un x0.b), Value.int IntKind.u64 (un x0.c), Value.int IntKind.u64 (un x0.d)] 29)).heap.size = w.heap.size + 1 := by simp
  have hB0 : Blk4 w1 w.heap.size 29 x0 := (hb1.block _ (by rw [hz0]; omega)).trans ((Below.heap_alloc _ _ _ (by rw [hz1]; omega)).trans (World.alloc_heap_new w _))
  have hA := World.alloc_heap_new (w.alloc (Obj.cells #[Value.int IntKind.u64 (un x0.a), Value.int IntKind.u64 (un x0.b), Value.int IntKind.u64 (un x0.c), Value.int IntKind.u64 (un x0.d)] 29)) (Obj.cells #[Value.int IntKind.u64 (un x1.a), Value.int IntKind.u64 (un x1.b), Value.int IntKind.u64 (un x1.c), Value.int IntKind.u64 (un x1.d)] 29)
  rw [hz1] at hA
  have hB2 : Blk4 w1 (w.heap.size + 1) 29 x1 := (hb1.block _ (by rw [hz0]; omega)).trans hA
  have hw1 : w.heap.size < w1.heap.size := hB0.lt
  have hw2 : w.heap.size + 1 < w1.heap.size := hB2.lt
  have hB1 : Below w.heap.size w w1 := (((Below.refl _ _).alloc (Nat.le_refl _) _).alloc (by rw [hz1]; omega) _).trans (hb1.mono (by rw [hz0]; omega))
  obtain ⟨c0, c1, c2, c3⟩ := hB0.cells
  obtain ⟨k0, k1, k2, k3⟩ := hB2.cells
  have d0 := Cw.cell w.heap.size 0 _ hw1 c0
  have d1 := Cw.cell w.heap.size 1 _ hw1 c1
  have d2 := Cw.cell w.heap.size 2 _ hw1 c2
  have d3 := Cw.cell w.heap.size 3 _ hw1 c3
  have f0 := Cw.cell (w.heap.size + 1) 0 _ hw2 k0
  have f1 := Cw.cell (w.heap.size + 1) 1 _ hw2 k1
  have f2 := Cw.cell (w.heap.size + 1) 2 _ hw2 k2
  have f3 := Cw.cell (w.heap.size + 1) 3 _ hw2 k3
  clear hz0 hz1 hA hb1 hB0 hB2 c0 c1 c2 c3 k0 k1 k2 k3
  go_wp2_with fail
  refine region_cw (by kernel_rfl) (by kernel_rfl) ?_
  repeat (first | go_big_quiet_step ((first | (go_at_call 14; exact Cw.call (sipRound_any ⟨_, _, _, _⟩ _)))) | quiet_step ((first | (go_at_call 14; exact Cw.call (sipRound_any ⟨_, _, _, _⟩ _)))))
  refine wpQuiet_nil ?_
  intro x
  have h := HA.out
  rw [h]
  go_wp2_with fail
  go_ret
  exact ⟨rfl, hB1.trans (x.below.mono (Nat.le_of_lt hw1))⟩


set_option maxRecDepth 100000 in
theorem lifted (os : Os) (started : os.Started) (H : Type) (enc : TypeId × Value → H) :
    ReturnsInHanded {} Try.checked os 6 .any (Rows.sipApartSpec.pre6 enc Try.prog Try.f6 Rows.sipApartRow.domain false) (Rows.sipApartSpec.post enc Try.prog Try.f6 false true false false) := by
  refine returnsInHanded_of_change (C := Try.checked) own started (by kernel_rfl) Try.func6
    (ChangeSpec.witness6 (enc := enc) (C := Try.checked) false ⟨#[], #[.agg #[.int .u64 0, .int .u64 0, .int .u64 0, .int .u64 0], .agg #[.int .u64 0, .int .u64 0, .int .u64 0, .int .u64 0]], []⟩ 8 (by kernel_rfl) (by kernel_rfl) (by kernel_rfl) (by kernel_rfl)) ?_
  intro W base args ds gs before hval0 hW hcnd _
  have hval : ∀ (j : Nat) t v, Try.f6.params[j]? = some t → args[j]? = some v → Value.okWide Try.prog W .any base t v := hval0
  have hW' := hW
  obtain ⟨p, q, hA0, hV, rfl, hfz, hnd⟩ := hW
  have hA : DataW.TrodAll enc Try.prog W 0 (fun _ => true) true Try.f6.params.toList args.toList ds p := hA0
  rw [Try.params6] at hA hval
  obtain ⟨v0, vs0, d0, ds0, p0, q0, hargs, rfl, rfl, h0, r0⟩ := trodAll_cons hA
  obtain ⟨v1, vs1, d1, ds1, p1, q1, rfl, rfl, rfl, h1, r1⟩ := trodAll_cons r0
  obtain ⟨rfl, rfl, rfl⟩ := trodAll_nil r1
  obtain rfl : args = #[v0, v1] := by cases args; simp_all
  obtain ⟨rfl, rfl⟩ := trodVars_none hV
  have k0 := h0
  have lt0 : ∀ x ∈ p0, x.block < W.heap.size := by obtain ⟨m, hm⟩ := k0; exact DataW.trod_lt m _ _ _ hm
  obtain ⟨x0, rfl⟩ := openV4 (hval 0 29 v0 rfl rfl) h0
  have k1 := h1
  have lt1 : ∀ x ∈ p1, x.block < W.heap.size := by obtain ⟨m, hm⟩ := k1; exact DataW.trod_lt m _ _ _ hm
  obtain ⟨x1, rfl⟩ := openV4 (hval 1 29 v1 rfl rfl) h1
  clear hA0 hval0
  refine (walk x0 x1 W).mono fun e W' ⟨he, bel⟩ => ?_
  subst he
  exact ⟨_, rfl, _, _, _, [], _, [], hW', trodAll_mk1 (shut_bool Try.underlying4 _), (trodAll_cons_mk (Below.trod laidOut (by kernel_rfl) (of_decide_eq_true (by kernel_rfl)) k0 bel lt0) (trodAll_cons_mk (Below.trod laidOut (by kernel_rfl) (of_decide_eq_true (by kernel_rfl)) k1 bel lt1) trodAll_mk0)), rfl, bel.frame _, fun h => by cases h⟩

theorem over : Rows.sipApartRow.holds Try.pinned (OpenSpec.ofChange Rows.sipApartSpec) :=
  OpenClaim.holds_of_wide 6 Try.f6 rfl rfl rfl rfl rfl rfl rfl ⟨rfl, rfl, rfl, rfl, rfl⟩ rfl rfl rfl rfl rfl (by kernel_rfl) Try.func6 (by kernel_rfl)
    (of_decide_eq_true (by kernel_rfl)) (by unfold Func.isWrapper; first | (rw [if_pos (by decide +kernel)]; kernel_rfl) | (rw [if_neg (by decide +kernel)]; exact ⟨rfl, rfl⟩))
    (fun os started H enc _ => lifted os started H enc)

/-- THE STATEMENT -/
theorem proved : Rows.SipApartSaid := over
#print axioms proved
end Go.Proofs.Ytddggjimggikpaa.sipApart
