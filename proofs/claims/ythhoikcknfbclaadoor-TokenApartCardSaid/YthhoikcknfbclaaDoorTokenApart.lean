/- TokenApart: for every key and two claims, two tokens are the same if and only if the claims are. No condition (the two sentinels of package field as the program's text lays them). -/
import Derived.Test.YthhoikcknfbclaaDoorCards
import Derived.Test.YthhoikcknfbclaaDoorTie
import Derived.Test.YthhoikcknfbclaaDoorLaid02
import Derived.Test.YthhoikcknfbclaaDoorOpen17
import Derived.SevenTiedAt
import Derived.JoinedOf
import Derived.ChangeSame
import Derived.ChangeVars
import Derived.Test.YthhoikcknfbclaaDoorTokL
import Derived.Test.YthhoikcknfbclaaDoorOpen
import Derived.WalkKit
import Derived.ProofKit
import Derived.OpenShut
import Derived.ShutString
import Derived.ChangeOld
import Derived.Below
namespace Go.Proofs.YthhoikcknfbclaaDoor.tokenApart
open Go.ChangeShapes Go.WideShapes Go.ChangeAt Go.RowKit Go.Joins
set_option linter.unusedVariables false

theorem own : ownKnob Tryd.prog.godebug = none := by kernel_rfl
theorem laidOut : laidOutB Tryd.prog = true := by kernel_rfl

set_option linter.unusedSimpArgs false
set_option maxRecDepth 100000 in
set_option maxHeartbeats 4000000 in
theorem walk (a b : BitVec 64) (t1 : Nat) (r1 : Int) (u1 : Nat) (tb1 : t1 < 18446744073709551616) (ra1 : -9223372036854775808 ≤ r1) (rb1 : r1 ≤ 9223372036854775807) (ub1 : u1 < 18446744073709551616) (t2 : Nat) (r2 : Int) (u2 : Nat) (tb2 : t2 < 18446744073709551616) (ra2 : -9223372036854775808 ≤ r2) (rb2 : r2 ≤ 9223372036854775807) (ub2 : u2 < 18446744073709551616) (w : World) {sp sq : Addr} (hS : Sents sp sq w) :
    Calls Tryd.prog 8 #[.agg #[.int .u64 (un a), .int .u64 (un b)], .agg #[.int .u64 t1, .int .i64 r1, .int .u64 u1], .agg #[.int .u64 t2, .int .i64 r2, .int .u64 u2]] w fun e w' => e = .returned (.bool true) ∧ Below w.heap.size w w' := by
  have st0 := (((St.start w).alloc (cs := #[.int .u64 (un a), .int .u64 (un b)]) (T := 24)).alloc (cs := #[.int .u64 t1, .int .i64 r1, .int .u64 u1]) (T := 26)).alloc (cs := #[.int .u64 t2, .int .i64 r2, .int .u64 u2]) (T := 26)
  simp only [World.size_alloc] at st0
  have C1 := Lib.hid (mint_any a b t1 r1 u1 tb1 ra1 rb1 ub1)
  have C2 := Lib.hid (mint_any a b t2 r2 u2 tb2 ra2 rb2 ub2)
  by_cases h1 : 1 ≤ r1 ∧ r1 ≤ 3
  · rw [mintV_ok _ _ _ _ _ h1] at C1
    by_cases h2 : 1 ≤ r2 ∧ r2 ≤ 3
    · rw [mintV_ok _ _ _ _ _ h2] at C2
      obtain ⟨q1, rfl⟩ := Int.eq_ofNat_of_zero_le (show 0 ≤ r1 by omega)
      obtain ⟨q2, rfl⟩ := Int.eq_ofNat_of_zero_le (show 0 ≤ r2 by omega)
      rw [Int.toNat_natCast] at C1 C2
      by_cases hc : t1 = t2 ∧ q1 = q2 ∧ u1 = u2
      · obtain ⟨rfl, rfl, rfl⟩ := hc
        clear h1 h2 tb1 tb2 ub1 ub2 ra1 ra2 rb1 rb2
        generalize mintB a b t1 q1 u1 = M at *
        go_enter Tryd.func8, Tryd.ntmps8
        go_wp2_with fail
        refine (shown_any (hS.below (Nat.le_refl _) st0.below)).mono ?_
        rintro e w1 ⟨rfl, hb1⟩
        have st1 := st0.to hb1
        clear st0 hb1
        have rl := st1.rules
        simp only [Rules] at rl
        go_wp2_with fail
        refine (C1.out _).mono ?_
        rintro e w2 ⟨rfl, hb2⟩
        have st2 := st1.to hb2
        clear st1 hb2 rl
        have rl := st2.rules
        simp only [Rules] at rl
        go_wp2_with fail
        refine (C2.out _).mono ?_
        rintro e w3 ⟨rfl, hb3⟩
        have st3 := st2.to hb3
        clear st2 hb3 rl
        have rl := st3.rules
        simp only [Rules] at rl
        go_wp2_with fail
        go_ret
        exact ⟨by first | rfl | (simp; done), st3.below⟩
      · have hd := mint_apart a b t1 q1 u1 t2 q2 u2 tb1 tb2 ub1 ub2 (by omega) (by omega) hc
        have hd2 := ba_other hd
        clear h1 h2 tb1 tb2 ub1 ub2 ra1 ra2 rb1 rb2 hd
        generalize mintB a b t1 q1 u1 = M at *
        generalize mintB a b t2 q2 u2 = N at *
        have HC : Hid (((t1 : Int) == (t2 : Int) && (q1 : Int) == (q2 : Int) && (u1 : Int) == (u2 : Int)) = false) := by
          show _ = _
          rw [Bool.eq_false_iff]
          intro h
          simp at h
          omega
        have HC2 := HC.out
        go_enter Tryd.func8, Tryd.ntmps8
        go_wp2_with fail
        refine (shown_any (hS.below (Nat.le_refl _) st0.below)).mono ?_
        rintro e w1 ⟨rfl, hb1⟩
        have st1 := st0.to hb1
        clear st0 hb1
        have rl := st1.rules
        simp only [Rules] at rl
        go_wp2_with fail
        refine (C1.out _).mono ?_
        rintro e w2 ⟨rfl, hb2⟩
        have st2 := st1.to hb2
        clear st1 hb2 rl
        have rl := st2.rules
        simp only [Rules] at rl
        go_wp2_with fail
        refine (C2.out _).mono ?_
        rintro e w3 ⟨rfl, hb3⟩
        have st3 := st2.to hb3
        clear st2 hb3 rl
        have rl := st3.rules
        simp only [Rules] at rl
        go_wp2_with fail
        go_ret
        exact ⟨by first | rfl | (simp [HC2]; done) | (simp; omega), st3.below⟩
    · rw [mintV_no _ _ _ _ _ h2] at C2
      generalize mintB a b t1 r1.toNat u1 = M at *
      clear h1 h2
      go_enter Tryd.func8, Tryd.ntmps8
      go_wp2_with fail
      refine (shown_any (hS.below (Nat.le_refl _) st0.below)).mono ?_
      rintro e w1 ⟨rfl, hb1⟩
      have st1 := st0.to hb1
      clear st0 hb1
      have rl := st1.rules
      simp only [Rules] at rl
      go_wp2_with fail
      refine (C1.out _).mono ?_
      rintro e w2 ⟨rfl, hb2⟩
      have st2 := st1.to hb2
      clear st1 hb2 rl
      have rl := st2.rules
      simp only [Rules] at rl
      go_wp2_with fail
      refine (C2.out _).mono ?_
      rintro e w3 ⟨rfl, hb3⟩
      have st3 := st2.to hb3
      clear st2 hb3 rl
      have rl := st3.rules
      simp only [Rules] at rl
      go_wp2_with fail
      go_ret
      exact ⟨by first | rfl | (simp; done), st3.below⟩
  · rw [mintV_no _ _ _ _ _ h1] at C1
    generalize hV : mintV a b t2 r2 u2 = V at *
    have hV2 : ∃ (x : ByteArray) (n : Int), V = .tuple #[.string x, .int .i64 n] := by
      rw [← hV]
      by_cases h2 : 1 ≤ r2 ∧ r2 ≤ 3
      · exact ⟨_, _, mintV_ok _ _ _ _ _ h2⟩
      · exact ⟨_, _, mintV_no _ _ _ _ _ h2⟩
    obtain ⟨x, n, rfl⟩ := hV2
    clear h1 hV
    go_enter Tryd.func8, Tryd.ntmps8
    go_wp2_with fail
    refine (shown_any (hS.below (Nat.le_refl _) st0.below)).mono ?_
    rintro e w1 ⟨rfl, hb1⟩
    have st1 := st0.to hb1
    clear st0 hb1
    have rl := st1.rules
    simp only [Rules] at rl
    go_wp2_with fail
    refine (C1.out _).mono ?_
    rintro e w2 ⟨rfl, hb2⟩
    have st2 := st1.to hb2
    clear st1 hb2 rl
    have rl := st2.rules
    simp only [Rules] at rl
    go_wp2_with fail
    refine (C2.out _).mono ?_
    rintro e w3 ⟨rfl, hb3⟩
    have st3 := st2.to hb3
    clear st2 hb3 rl
    have rl := st3.rules
    simp only [Rules] at rl
    go_wp2_with fail
    go_ret
    exact ⟨by first | rfl | (simp; done), st3.below⟩


set_option maxRecDepth 100000 in
theorem lifted (os : Os) (started : os.Started) (H : Type) (enc : TypeId × Value → H) :
    ReturnsInHanded {} Tryd.checked os 8 .any (fun w args => (Rows.tokenApartSpec.pre enc Tryd.prog Tryd.f8 Rows.tokenApartRow.domain false w args ∧ laidMetH Tryd.prog laidL w) ∧ sizedMet enc Tryd.prog Tryd.f8 (OpenSpec.ofChange Rows.tokenApartSpec) false w args) (Rows.tokenApartSpec.post enc Tryd.prog Tryd.f8 false true false false) := by
  refine returnsInHanded_of_change_and (C := Tryd.checked) (X := fun w _ => laidMetH Tryd.prog laidL w) (fun _ _ _ hh h => h.of_heap hh) own started (by kernel_rfl) Tryd.func8
    (ChangeSpec.witness_at (enc := enc) (C := Tryd.checked) (os := os) (X := fun w _ => laidMetH Tryd.prog laidL w) false (laidWorld os) #[.agg #[.int .u64 0, .int .u64 0], .agg #[.int .u64 0, .int .i64 0, .int .u64 0], .agg #[.int .u64 0, .int .i64 0, .int .u64 0]] 8 rfl (by kernel_rfl) (by kernel_rfl) (by kernel_rfl) (by kernel_rfl) (by kernel_rfl) (laidWorld_metH os _)) ?_
  intro W base args ds gs before hval0 hW hcnd _ hL _
  obtain ⟨sp, sq, hS⟩ := sents_of_laid hL
  have hval : ∀ (j : Nat) t v, Tryd.f8.params[j]? = some t → args[j]? = some v → Value.okWide Tryd.prog W .any base t v := hval0
  have hW' := hW
  obtain ⟨p, q, hA0, hV, rfl, hfz, hnd⟩ := hW
  have hA : DataW.TrodAll enc Tryd.prog W 0 (fun _ => true) true Tryd.f8.params.toList args.toList ds p := hA0
  rw [Tryd.params8] at hA hval
  obtain ⟨v0, vs0, d0, ds0, p0, q0, hargs, rfl, rfl, h0, r0⟩ := trodAll_cons hA
  obtain ⟨v1, vs1, d1, ds1, p1, q1, rfl, rfl, rfl, h1, r1⟩ := trodAll_cons r0
  obtain ⟨v2, vs2, d2, ds2, p2, q2, rfl, rfl, rfl, h2, r2⟩ := trodAll_cons r1
  obtain ⟨rfl, rfl, rfl⟩ := trodAll_nil r2
  obtain rfl : args = #[v0, v1, v2] := by cases args; simp_all
  obtain ⟨rfl, rfl⟩ := trodVars_none hV
  have k0 := h0
  have lt0 : ∀ x ∈ p0, x.block < W.heap.size := by obtain ⟨m, hm⟩ := k0; exact DataW.trod_lt m _ _ _ hm
  obtain ⟨a0, b0, rfl⟩ := openKey (hval 0 24 v0 rfl rfl) h0
  have k1 := h1
  have lt1 : ∀ x ∈ p1, x.block < W.heap.size := by obtain ⟨m, hm⟩ := k1; exact DataW.trod_lt m _ _ _ hm
  obtain ⟨ct1, cr1, cu1, rfl, tb1, ra1, rb1, ub1⟩ := openClaim (hval 1 26 v1 rfl rfl) h1
  have k2 := h2
  have lt2 : ∀ x ∈ p2, x.block < W.heap.size := by obtain ⟨m, hm⟩ := k2; exact DataW.trod_lt m _ _ _ hm
  obtain ⟨ct2, cr2, cu2, rfl, tb2, ra2, rb2, ub2⟩ := openClaim (hval 2 26 v2 rfl rfl) h2
  clear hA0 hval0
  refine (walk a0 b0 ct1 cr1 cu1 tb1 ra1 rb1 ub1 ct2 cr2 cu2 tb2 ra2 rb2 ub2 W hS ).mono fun e W' ⟨he, bel⟩ => ?_
  subst he
  exact ⟨_, rfl, _, _, _, [], _, [], hW', trodAll_mk1 (shut_bool Tryd.underlying4 _), (trodAll_cons_mk (Below.trod laidOut (by kernel_rfl) (of_decide_eq_true (by kernel_rfl)) k0 bel lt0) (trodAll_cons_mk (Below.trod laidOut (by kernel_rfl) (of_decide_eq_true (by kernel_rfl)) k1 bel lt1) (trodAll_cons_mk (Below.trod laidOut (by kernel_rfl) (of_decide_eq_true (by kernel_rfl)) k2 bel lt2) trodAll_mk0))), rfl, bel.frame _, fun h => by cases h⟩

theorem over : Rows.tokenApartRow.holds Tryd.pinned (OpenSpec.ofChange Rows.tokenApartSpec) :=
  OpenClaim.holds_of_wide 8 Tryd.f8 rfl rfl rfl rfl rfl rfl rfl ⟨rfl, rfl, rfl, rfl, rfl⟩ rfl rfl rfl rfl rfl (by kernel_rfl) Tryd.func8 (by kernel_rfl)
    (of_decide_eq_true (by kernel_rfl)) (by unfold Func.isWrapper; first | (rw [if_pos (by decide +kernel)]; kernel_rfl) | (rw [if_neg (by decide +kernel)]; exact ⟨rfl, rfl⟩))
    (fun os started H enc _ => lifted os started H enc)

/-- THE STATEMENT -/
theorem proved : Rows.TokenApartCardSaid :=
  Claim7.holds_tied_plain_at .later [] [.sentinel, .sentinel] true _ true over (fun _ h => by cases h) (by kernel_rfl) (fun _ h => by cases h) tokenApart_row_tie rfl ⟨rfl, rfl⟩ (by kernel_rfl) rfl
    (fun f fn hf hfn => by
      obtain rfl : f = 8 := Option.some.inj ((show Tryd.prog.funcNamed "aviary/aviarylaw17.TokenApart" = some 8 by kernel_rfl).symm.trans hf) |>.symm
      obtain rfl : fn = Tryd.f8 := (Option.some.inj (Tryd.func8.symm.trans hfn)).symm
      refine ⟨by kernel_rfl, fun j t ht => ?_⟩
      rw [Tryd.params8] at ht
      rcases j with _ | _ | _ | j
      · obtain rfl : t = 24 := by simpa using ht.symm
        exact (show Tryd.prog.wantsStandIn 24 = false by kernel_rfl)
      · obtain rfl : t = 26 := by simpa using ht.symm
        exact (show Tryd.prog.wantsStandIn 26 = false by kernel_rfl)
      · obtain rfl : t = 26 := by simpa using ht.symm
        exact (show Tryd.prog.wantsStandIn 26 = false by kernel_rfl)
      · simp at ht)
    (by kernel_rfl)
#print axioms proved
end Go.Proofs.YthhoikcknfbclaaDoor.tokenApart
