/- TokenTimes: for every key, claim and two times, a token that is good at a time is good ahead of it. No condition (the two sentinels of package field as the program's text lays them). -/
import Derived.Test.YthhoikcknfbclaaDoorCards
import Derived.Test.YthhoikcknfbclaaDoorTie
import Derived.Test.YthhoikcknfbclaaDoorLaid02
import Derived.Test.YthhoikcknfbclaaDoorOpen17
import Derived.SevenTiedAt
import Derived.JoinedOf
import Derived.ChangeSame
import Derived.ChangeVars
import Derived.Test.YthhoikcknfbclaaDoorTokL
import Derived.Test.YthhoikcknfbclaaDoorOpen
import Derived.WalkKit
import Derived.ProofKit
import Derived.OpenShut
import Derived.ShutString
import Derived.ChangeOld
import Derived.Below
namespace Go.Proofs.YthhoikcknfbclaaDoor.tokenTimes
open Go.ChangeShapes Go.WideShapes Go.ChangeAt Go.RowKit Go.Joins
set_option linter.unusedVariables false

theorem own : ownKnob Tryd.prog.godebug = none := by kernel_rfl
theorem laidOut : laidOutB Tryd.prog = true := by kernel_rfl

set_option linter.unusedSimpArgs false
set_option maxRecDepth 100000 in
set_option maxHeartbeats 4000000 in
theorem walk (a b : BitVec 64) (t1 : Nat) (r1 : Int) (u1 : Nat) (tb1 : t1 < 18446744073709551616) (ra1 : -9223372036854775808 ≤ r1) (rb1 : r1 ≤ 9223372036854775807) (ub1 : u1 < 18446744073709551616) (x2 : Nat) (xb2 : x2 < 18446744073709551616) (x3 : Nat) (xb3 : x3 < 18446744073709551616) (w : World) {sp sq : Addr} (hS : Sents sp sq w) :
    Calls Tryd.prog 7 #[.agg #[.int .u64 (un a), .int .u64 (un b)], .agg #[.int .u64 t1, .int .i64 r1, .int .u64 u1], .int .u64 x2, .int .u64 x3] w fun e w' => e = .returned (.bool true) ∧ Below w.heap.size w w' := by
  have st0 := ((St.start w).alloc (cs := #[.int .u64 (un a), .int .u64 (un b)]) (T := 24)).alloc (cs := #[.int .u64 t1, .int .i64 r1, .int .u64 u1]) (T := 26)
  simp only [World.size_alloc] at st0
  have C1 := Lib.hid (mint_any a b t1 r1 u1 tb1 ra1 rb1 ub1)
  by_cases h1 : 1 ≤ r1 ∧ r1 ≤ 3
  · rw [mintV_ok _ _ _ _ _ h1] at C1
    obtain ⟨q1, rfl⟩ := Int.eq_ofNat_of_zero_le (show 0 ≤ r1 by omega)
    rw [Int.toNat_natCast] at C1
    obtain ⟨lo, hi, hlo, hhi, hlh⟩ : ∃ lo hi : Nat, min (x2 : Int) (x3 : Int) = (lo : Int) ∧ max (x2 : Int) (x3 : Int) = (hi : Int) ∧ lo ≤ hi := ⟨min x2 x3, max x2 x3, by omega, by omega, by omega⟩
    have C2 := Lib.hid (fun (w : World) (h : Sents sp sq w) (n : Nat) => check_any h a b (mintB a b t1 q1 u1) (by have := (mintB_size a b t1 q1 u1).2; omega) n)
    rw [bodyOf_mint a b t1 q1 u1 tb1 ub1 (by omega) (by omega)] at C2
    have CL : u1 < lo ∨ ¬ u1 < lo := Classical.em _
    have CH : u1 < hi ∨ ¬ u1 < hi := Classical.em _
    have E2 := Lib.hid (fun (n : Nat) (h : u1 < n) => checkV_2 (a := a) (b := b) (r := q1) (t := t1) rfl h)
    have E3 := Lib.hid (fun (n : Nat) (h : ¬ u1 < n) => checkV_3 (a := a) (b := b) (r := q1) (t := t1) rfl h)
    generalize mintB a b t1 q1 u1 = M at *
    clear h1 tb1 ub1 ra1 rb1 xb2 xb3
    rcases CH with ch | ch
    · rcases CL with cl | cl
      · go_enter Tryd.func7, Tryd.ntmps7
        go_wp2_with fail
        refine (shown_any (hS.below (Nat.le_refl _) st0.below)).mono ?_
        rintro e w1 ⟨rfl, hb1⟩
        have st1 := st0.to hb1
        clear st0 hb1
        have rl := st1.rules
        simp only [Rules] at rl
        go_wp2_with fail
        refine (C1.out _).mono ?_
        rintro e w2 ⟨rfl, hb2⟩
        have st2 := st1.to hb2
        clear st1 hb2 rl
        have rl := st2.rules
        simp only [Rules] at rl
        go_wp2_with fail
        refine (C2.out _ (hS.below (Nat.le_refl _) st2.below) hi).mono ?_
        rw [E2.out hi ch]
        rintro e w3 ⟨rfl, hb3⟩
        have st3 := (st2.to hb3).alloc (cs := #[.int .u64 0, .int .i64 0, .int .u64 0]) (T := 26)
        clear rl
        have rl := (st2.to hb3).rules
        clear st2 hb3
        simp only [Rules] at rl
        go_wp2_with fail
        refine (C2.out _ (hS.below (Nat.le_refl _) st3.below) lo).mono ?_
        rw [E2.out lo cl]
        rintro e w4 ⟨rfl, hb4⟩
        have st4 := (st3.to hb4).alloc (cs := #[.int .u64 0, .int .i64 0, .int .u64 0]) (T := 26)
        clear rl
        have rl := (st3.to hb4).rules
        clear st3 hb4
        simp only [Rules] at rl
        go_wp2_with fail
        go_ret
        exact ⟨by first | rfl | (simp; done), st4.below⟩
      · go_enter Tryd.func7, Tryd.ntmps7
        go_wp2_with fail
        refine (shown_any (hS.below (Nat.le_refl _) st0.below)).mono ?_
        rintro e w1 ⟨rfl, hb1⟩
        have st1 := st0.to hb1
        clear st0 hb1
        have rl := st1.rules
        simp only [Rules] at rl
        go_wp2_with fail
        refine (C1.out _).mono ?_
        rintro e w2 ⟨rfl, hb2⟩
        have st2 := st1.to hb2
        clear st1 hb2 rl
        have rl := st2.rules
        simp only [Rules] at rl
        go_wp2_with fail
        refine (C2.out _ (hS.below (Nat.le_refl _) st2.below) hi).mono ?_
        rw [E2.out hi ch]
        rintro e w3 ⟨rfl, hb3⟩
        have st3 := (st2.to hb3).alloc (cs := #[.int .u64 0, .int .i64 0, .int .u64 0]) (T := 26)
        clear rl
        have rl := (st2.to hb3).rules
        clear st2 hb3
        simp only [Rules] at rl
        go_wp2_with fail
        refine (C2.out _ (hS.below (Nat.le_refl _) st3.below) lo).mono ?_
        rw [E3.out lo cl]
        rintro e w4 ⟨rfl, hb4⟩
        have st4 := (st3.to hb4).alloc (cs := #[.int .u64 t1, .int .i64 q1, .int .u64 u1]) (T := 26)
        clear rl
        have rl := (st3.to hb4).rules
        clear st3 hb4
        simp only [Rules] at rl
        go_wp2_with fail
        go_ret
        exact ⟨by first | rfl | (simp; done), st4.below⟩
    · have cl : ¬ u1 < lo := by omega
      go_enter Tryd.func7, Tryd.ntmps7
      go_wp2_with fail
      refine (shown_any (hS.below (Nat.le_refl _) st0.below)).mono ?_
      rintro e w1 ⟨rfl, hb1⟩
      have st1 := st0.to hb1
      clear st0 hb1
      have rl := st1.rules
      simp only [Rules] at rl
      go_wp2_with fail
      refine (C1.out _).mono ?_
      rintro e w2 ⟨rfl, hb2⟩
      have st2 := st1.to hb2
      clear st1 hb2 rl
      have rl := st2.rules
      simp only [Rules] at rl
      go_wp2_with fail
      refine (C2.out _ (hS.below (Nat.le_refl _) st2.below) hi).mono ?_
      rw [E3.out hi ch]
      rintro e w3 ⟨rfl, hb3⟩
      have st3 := (st2.to hb3).alloc (cs := #[.int .u64 t1, .int .i64 q1, .int .u64 u1]) (T := 26)
      clear rl
      have rl := (st2.to hb3).rules
      clear st2 hb3
      simp only [Rules] at rl
      go_wp2_with fail
      refine (C2.out _ (hS.below (Nat.le_refl _) st3.below) lo).mono ?_
      rw [E3.out lo cl]
      rintro e w4 ⟨rfl, hb4⟩
      have st4 := (st3.to hb4).alloc (cs := #[.int .u64 t1, .int .i64 q1, .int .u64 u1]) (T := 26)
      clear rl
      have rl := (st3.to hb4).rules
      clear st3 hb4
      simp only [Rules] at rl
      go_wp2_with fail
      go_ret
      exact ⟨by first | rfl | (simp; done), st4.below⟩
  · rw [mintV_no _ _ _ _ _ h1] at C1
    clear h1
    go_enter Tryd.func7, Tryd.ntmps7
    go_wp2_with fail
    refine (shown_any (hS.below (Nat.le_refl _) st0.below)).mono ?_
    rintro e w1 ⟨rfl, hb1⟩
    have st1 := st0.to hb1
    clear st0 hb1
    have rl := st1.rules
    simp only [Rules] at rl
    go_wp2_with fail
    refine (C1.out _).mono ?_
    rintro e w2 ⟨rfl, hb2⟩
    have st2 := st1.to hb2
    go_wp2_with fail
    go_ret
    exact ⟨rfl, st2.below⟩


set_option maxRecDepth 100000 in
theorem lifted (os : Os) (started : os.Started) (H : Type) (enc : TypeId × Value → H) :
    ReturnsInHanded {} Tryd.checked os 7 .any (fun w args => (Rows.tokenTimesSpec.pre enc Tryd.prog Tryd.f7 Rows.tokenTimesRow.domain false w args ∧ laidMetH Tryd.prog laidL w) ∧ sizedMet enc Tryd.prog Tryd.f7 (OpenSpec.ofChange Rows.tokenTimesSpec) false w args) (Rows.tokenTimesSpec.post enc Tryd.prog Tryd.f7 false true false false) := by
  refine returnsInHanded_of_change_and (C := Tryd.checked) (X := fun w _ => laidMetH Tryd.prog laidL w) (fun _ _ _ hh h => h.of_heap hh) own started (by kernel_rfl) Tryd.func7
    (ChangeSpec.witness_at (enc := enc) (C := Tryd.checked) (os := os) (X := fun w _ => laidMetH Tryd.prog laidL w) false (laidWorld os) #[.agg #[.int .u64 0, .int .u64 0], .agg #[.int .u64 0, .int .i64 0, .int .u64 0], .int .u64 0, .int .u64 0] 8 rfl (by kernel_rfl) (by kernel_rfl) (by kernel_rfl) (by kernel_rfl) (by kernel_rfl) (laidWorld_metH os _)) ?_
  intro W base args ds gs before hval0 hW hcnd _ hL _
  obtain ⟨sp, sq, hS⟩ := sents_of_laid hL
  have hval : ∀ (j : Nat) t v, Tryd.f7.params[j]? = some t → args[j]? = some v → Value.okWide Tryd.prog W .any base t v := hval0
  have hW' := hW
  obtain ⟨p, q, hA0, hV, rfl, hfz, hnd⟩ := hW
  have hA : DataW.TrodAll enc Tryd.prog W 0 (fun _ => true) true Tryd.f7.params.toList args.toList ds p := hA0
  rw [Tryd.params7] at hA hval
  obtain ⟨v0, vs0, d0, ds0, p0, q0, hargs, rfl, rfl, h0, r0⟩ := trodAll_cons hA
  obtain ⟨v1, vs1, d1, ds1, p1, q1, rfl, rfl, rfl, h1, r1⟩ := trodAll_cons r0
  obtain ⟨v2, vs2, d2, ds2, p2, q2, rfl, rfl, rfl, h2, r2⟩ := trodAll_cons r1
  obtain ⟨v3, vs3, d3, ds3, p3, q3, rfl, rfl, rfl, h3, r3⟩ := trodAll_cons r2
  obtain ⟨rfl, rfl, rfl⟩ := trodAll_nil r3
  obtain rfl : args = #[v0, v1, v2, v3] := by cases args; simp_all
  obtain ⟨rfl, rfl⟩ := trodVars_none hV
  have k0 := h0
  have lt0 : ∀ x ∈ p0, x.block < W.heap.size := by obtain ⟨m, hm⟩ := k0; exact DataW.trod_lt m _ _ _ hm
  obtain ⟨a0, b0, rfl⟩ := openKey (hval 0 24 v0 rfl rfl) h0
  have k1 := h1
  have lt1 : ∀ x ∈ p1, x.block < W.heap.size := by obtain ⟨m, hm⟩ := k1; exact DataW.trod_lt m _ _ _ hm
  obtain ⟨ct1, cr1, cu1, rfl, tb1, ra1, rb1, ub1⟩ := openClaim (hval 1 26 v1 rfl rfl) h1
  have k2 := h2
  have lt2 : ∀ x ∈ p2, x.block < W.heap.size := by obtain ⟨m, hm⟩ := k2; exact DataW.trod_lt m _ _ _ hm
  obtain ⟨x2, rfl, xb2⟩ := openNat (hval 2 22 v2 rfl rfl) h2
  have k3 := h3
  have lt3 : ∀ x ∈ p3, x.block < W.heap.size := by obtain ⟨m, hm⟩ := k3; exact DataW.trod_lt m _ _ _ hm
  obtain ⟨x3, rfl, xb3⟩ := openNat (hval 3 22 v3 rfl rfl) h3
  clear hA0 hval0
  refine (walk a0 b0 ct1 cr1 cu1 tb1 ra1 rb1 ub1 x2 xb2 x3 xb3 W hS ).mono fun e W' ⟨he, bel⟩ => ?_
  subst he
  exact ⟨_, rfl, _, _, _, [], _, [], hW', trodAll_mk1 (shut_bool Tryd.underlying4 _), (trodAll_cons_mk (Below.trod laidOut (by kernel_rfl) (of_decide_eq_true (by kernel_rfl)) k0 bel lt0) (trodAll_cons_mk (Below.trod laidOut (by kernel_rfl) (of_decide_eq_true (by kernel_rfl)) k1 bel lt1) (trodAll_cons_mk (Below.trod laidOut (by kernel_rfl) (of_decide_eq_true (by kernel_rfl)) k2 bel lt2) (trodAll_cons_mk (Below.trod laidOut (by kernel_rfl) (of_decide_eq_true (by kernel_rfl)) k3 bel lt3) trodAll_mk0)))), rfl, bel.frame _, fun h => by cases h⟩

theorem over : Rows.tokenTimesRow.holds Tryd.pinned (OpenSpec.ofChange Rows.tokenTimesSpec) :=
  OpenClaim.holds_of_wide 7 Tryd.f7 rfl rfl rfl rfl rfl rfl rfl ⟨rfl, rfl, rfl, rfl, rfl⟩ rfl rfl rfl rfl rfl (by kernel_rfl) Tryd.func7 (by kernel_rfl)
    (of_decide_eq_true (by kernel_rfl)) (by unfold Func.isWrapper; first | (rw [if_pos (by decide +kernel)]; kernel_rfl) | (rw [if_neg (by decide +kernel)]; exact ⟨rfl, rfl⟩))
    (fun os started H enc _ => lifted os started H enc)

/-- THE STATEMENT -/
theorem proved : Rows.TokenTimesCardSaid :=
  Claim7.holds_tied_plain_at .later [] [.sentinel, .sentinel] true _ true over (fun _ h => by cases h) (by kernel_rfl) (fun _ h => by cases h) tokenTimes_row_tie rfl ⟨rfl, rfl⟩ (by kernel_rfl) rfl
    (fun f fn hf hfn => by
      obtain rfl : f = 7 := Option.some.inj ((show Tryd.prog.funcNamed "aviary/aviarylaw17.TokenTimes" = some 7 by kernel_rfl).symm.trans hf) |>.symm
      obtain rfl : fn = Tryd.f7 := (Option.some.inj (Tryd.func7.symm.trans hfn)).symm
      refine ⟨by kernel_rfl, fun j t ht => ?_⟩
      rw [Tryd.params7] at ht
      rcases j with _ | _ | _ | _ | j
      · obtain rfl : t = 24 := by simpa using ht.symm
        exact (show Tryd.prog.wantsStandIn 24 = false by kernel_rfl)
      · obtain rfl : t = 26 := by simpa using ht.symm
        exact (show Tryd.prog.wantsStandIn 26 = false by kernel_rfl)
      · obtain rfl : t = 22 := by simpa using ht.symm
        exact (show Tryd.prog.wantsStandIn 22 = false by kernel_rfl)
      · obtain rfl : t = 22 := by simpa using ht.symm
        exact (show Tryd.prog.wantsStandIn 22 = false by kernel_rfl)
      · simp at ht)
    (by kernel_rfl)
#print axioms proved
end Go.Proofs.YthhoikcknfbclaaDoor.tokenTimes
