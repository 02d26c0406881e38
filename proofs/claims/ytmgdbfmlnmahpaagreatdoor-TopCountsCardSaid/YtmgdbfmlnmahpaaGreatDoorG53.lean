/- TopCounts: for every seed, items (the first fifty), kind and number, a query of a tenant's own numbers tells exactly how many different ones there are, and of how often one came, or how many values are no greater, never less. No condition (the listed package-level variables as the program's text lays them). -/
import Derived.Test.YtmgdbfmlnmahpaaGreatDoorCards
import Derived.Test.YtmgdbfmlnmahpaaGreatDoorTie
import Derived.Test.YtmgdbfmlnmahpaaGreatDoorG01
import Derived.Test.YtmgdbfmlnmahpaaGreatDoorG41
import Derived.Test.YtmgdbfmlnmahpaaGreatDoorG42
import Derived.Test.YtmgdbfmlnmahpaaGreatDoorG52
import Derived.SevenTiedAt
import Derived.JoinedOf
import Derived.ChangeSame
import Derived.ChangeVars
import Derived.WalkKit
import Derived.ProofKit
import Derived.OpenShut
import Derived.ShutString
import Derived.ChangeOld
import Derived.Below
namespace Go.Proofs.YtmgdbfmlnmahpaaGreatDoor.topCounts
open Go.ChangeShapes Go.WideShapes Go.ChangeAt Go.RowKit Go.Joins
set_option linter.unusedVariables false
theorem own : ownKnob Tryz.prog.godebug = none := by kernel_rfl
theorem laidOut : laidOutB Tryz.prog = true := by kernel_rfl
theorem walk (ka kb : BitVec 64) (s : Option Addr) (L : List (Nat × Nat)) (cap : Nat) (hs : SmallI L) (hl : L.length ≤ cap) (hc : cap ≤ 9223372036854775807) (hn : s = none → cap = 0) (kd : Int) (hk0 : -9223372036854775808 ≤ kd) (hk1 : kd ≤ 9223372036854775807) (h : Nat) (hh : h ≤ maxU) (w : World) (hE : Rd 2 encIt w s L) :
    Calls Tryz.prog 3 #[kv ka kb, .slice s L.length cap, .int .i64 kd, .int .u64 (h : Int)] w fun e w' => e = .returned (.bool true) ∧ Below w.heap.size w w' := topCounts_any ka kb s L cap hs hl hc hn kd hk0 hk1 h hh w hE
set_option maxRecDepth 100000 in
theorem lifted (os : Os) (started : os.Started) (H : Type) (enc : TypeId × Value → H) :
    ReturnsInHanded {} Tryz.checked os 3 .any (fun w args => (Rows.topCountsSpec.pre enc Tryz.prog Tryz.f3 Rows.topCountsRow.domain false w args ∧ laidMetH Tryz.prog laidL w) ∧ sizedMet enc Tryz.prog Tryz.f3 (OpenSpec.ofChange Rows.topCountsSpec) false w args) (Rows.topCountsSpec.post enc Tryz.prog Tryz.f3 false true false false) := by
  refine returnsInHanded_of_change_and (C := Tryz.checked) (X := fun w _ => laidMetH Tryz.prog laidL w) (fun _ _ _ hh h => h.of_heap hh) own started (by kernel_rfl) Tryz.func3
    (ChangeSpec.witness_shaped (enc := enc) (C := Tryz.checked) (os := os) (X := fun w _ => laidMetH Tryz.prog laidL w) false (laidWorld os) #[.agg #[.int .u64 0, .int .u64 0], .slice none 0 0, .int .i64 0, .int .u64 0] 8 (laidWorld_os os) (laidWorld_shaped os _) (by kernel_rfl) (by kernel_rfl) (by kernel_rfl) (laidWorld_metH os _)) ?_
  intro W base args ds gs before hval0 hW hcnd _ hL _
  have hval : ∀ (j : Nat) t v, Tryz.f3.params[j]? = some t → args[j]? = some v → Value.okWide Tryz.prog W .any base t v := hval0
  have hW' := hW
  obtain ⟨p, q, hA0, hV, rfl, hfz, hnd⟩ := hW
  have hA : DataW.TrodAll enc Tryz.prog W 0 (fun _ => true) true Tryz.f3.params.toList args.toList ds p := hA0
  rw [Tryz.params3] at hA hval
  obtain ⟨v0, vs0, d0, ds0, p0, q0, hargs, rfl, rfl, h0, r0⟩ := trodAll_cons hA
  obtain ⟨v1, vs1, d1, ds1, p1, q1, rfl, rfl, rfl, h1, r1⟩ := trodAll_cons r0
  obtain ⟨v2, vs2, d2, ds2, p2, q2, rfl, rfl, rfl, h2, r2⟩ := trodAll_cons r1
  obtain ⟨v3, vs3, d3, ds3, p3, q3, rfl, rfl, rfl, h3, r3⟩ := trodAll_cons r2
  obtain ⟨rfl, rfl, rfl⟩ := trodAll_nil r3
  obtain rfl : args = #[v0, v1, v2, v3] := by cases args; simp_all
  obtain ⟨rfl, rfl⟩ := trodVars_none hV
  have k0 := h0
  have lt0 : ∀ x ∈ p0, x.block < W.heap.size := by obtain ⟨m, hm⟩ := k0; exact DataW.trod_lt m _ _ _ hm
  obtain ⟨a0, b0, rfl⟩ := openKey (hval 0 24 v0 rfl rfl) h0
  have k1 := h1
  have lt1 : ∀ x ∈ p1, x.block < W.heap.size := by obtain ⟨m, hm⟩ := k1; exact DataW.trod_lt m _ _ _ hm
  obtain ⟨s1, L1, cap1, rfl, hE1, hN1, hl1, hc1, hn1⟩ := openItems (hval 1 25 v1 rfl rfl) h1
  have k2 := h2
  have lt2 : ∀ x ∈ p2, x.block < W.heap.size := by obtain ⟨m, hm⟩ := k2; exact DataW.trod_lt m _ _ _ hm
  obtain ⟨n2, rfl, na2, nb2⟩ := openInt (hval 2 3 v2 rfl rfl) h2
  have k3 := h3
  have lt3 : ∀ x ∈ p3, x.block < W.heap.size := by obtain ⟨m, hm⟩ := k3; exact DataW.trod_lt m _ _ _ hm
  obtain ⟨x3, rfl, xb3⟩ := openNat (hval 3 22 v3 rfl rfl) h3
  clear hA0 hval0
  refine (walk a0 b0 s1 L1 cap1 hN1 hl1 hc1 hn1 n2 na2 nb2 x3 xb3 W hE1).mono fun e W' ⟨he, bel⟩ => ?_
  subst he
  exact ⟨_, rfl, _, _, _, [], _, [], hW', trodAll_mk1 (shut_bool Tryz.underlying4 _), (trodAll_cons_mk (Below.trod laidOut (by kernel_rfl) (of_decide_eq_true (by kernel_rfl)) k0 bel lt0) (trodAll_cons_mk (Below.trod laidOut (by kernel_rfl) (of_decide_eq_true (by kernel_rfl)) k1 bel lt1) (trodAll_cons_mk (Below.trod laidOut (by kernel_rfl) (of_decide_eq_true (by kernel_rfl)) k2 bel lt2) (trodAll_cons_mk (Below.trod laidOut (by kernel_rfl) (of_decide_eq_true (by kernel_rfl)) k3 bel lt3) trodAll_mk0)))), rfl, bel.frame _, fun h => by cases h⟩
theorem over : Rows.topCountsRow.holds Tryz.pinned (OpenSpec.ofChange Rows.topCountsSpec) :=
  OpenClaim.holds_of_wide 3 Tryz.f3 rfl rfl rfl rfl rfl rfl rfl ⟨rfl, rfl, rfl, rfl, rfl⟩ rfl rfl rfl rfl rfl (by kernel_rfl) Tryz.func3 closed
    (of_decide_eq_true (by kernel_rfl)) (by unfold Func.isWrapper; first | (rw [if_pos (by decide +kernel)]; kernel_rfl) | (rw [if_neg (by decide +kernel)]; exact ⟨rfl, rfl⟩))
    (fun os started H enc _ => lifted os started H enc)
theorem proved : Rows.TopCountsCardSaid :=
  Claim7.holds_tied_plain_at .later [] [.data, .handle, .pinned] true _ true over (fun _ h => by cases h) (by kernel_rfl) (fun _ h => by cases h) topCounts_row_tie rfl ⟨rfl, rfl⟩ (by kernel_rfl) rfl
    (fun f fn hf hfn => by
      obtain rfl : f = 3 := Option.some.inj ((show Tryz.prog.funcNamed "aviary/aviarytop.TopCounts" = some 3 by kernel_rfl).symm.trans hf) |>.symm
      obtain rfl : fn = Tryz.f3 := (Option.some.inj (Tryz.func3.symm.trans hfn)).symm
      refine ⟨by kernel_rfl, fun j t ht => ?_⟩
      rw [Tryz.params3] at ht
      rcases j with _ | _ | _ | _ | j
      · obtain rfl : t = 24 := by simpa using ht.symm
        exact (show Tryz.prog.wantsStandIn 24 = false by kernel_rfl)
      · obtain rfl : t = 25 := by simpa using ht.symm
        exact (show Tryz.prog.wantsStandIn 25 = false by kernel_rfl)
      · obtain rfl : t = 3 := by simpa using ht.symm
        exact (show Tryz.prog.wantsStandIn 3 = false by kernel_rfl)
      · obtain rfl : t = 22 := by simpa using ht.symm
        exact (show Tryz.prog.wantsStandIn 22 = false by kernel_rfl)
      · simp at ht)
    (by kernel_rfl)
#print axioms proved
end Go.Proofs.YtmgdbfmlnmahpaaGreatDoor.topCounts
