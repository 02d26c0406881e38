/- TokenRoles: for every role and whatever is to be done, an admin may do what is done at all, whoever may do something has a role, and every role may see costs. No condition (the two sentinels of package field as the program's text lays them). -/
import Derived.Test.YthhoikcknfbclaaDoorCards
import Derived.Test.YthhoikcknfbclaaDoorTie
import Derived.Test.YthhoikcknfbclaaDoorLaid02
import Derived.Test.YthhoikcknfbclaaDoorOpen17
import Derived.SevenTiedAt
import Derived.JoinedOf
import Derived.ChangeSame
import Derived.ChangeVars
import Derived.Test.YthhoikcknfbclaaDoorTokS
import Derived.Test.YthhoikcknfbclaaDoorOpen
import Derived.WalkKit
import Derived.ProofKit
import Derived.OpenShut
import Derived.ShutString
import Derived.ChangeOld
import Derived.Below
namespace Go.Proofs.YthhoikcknfbclaaDoor.tokenRoles
open Go.ChangeShapes Go.WideShapes Go.ChangeAt Go.RowKit Go.Joins
set_option linter.unusedVariables false

theorem own : ownKnob Tryd.prog.godebug = none := by kernel_rfl
theorem laidOut : laidOutB Tryd.prog = true := by kernel_rfl

set_option linter.unusedSimpArgs false
set_option maxRecDepth 100000 in
set_option maxHeartbeats 4000000 in
theorem walk (r : Int) (na0 : -9223372036854775808 ≤ r) (nb0 : r ≤ 9223372036854775807) (op : Int) (na1 : -9223372036854775808 ≤ op) (nb1 : op ≤ 9223372036854775807) (w : World) {sp sq : Addr} (hS : Sents sp sq w) :
    Calls Tryd.prog 6 #[.int .i64 r, .int .i64 op] w fun e w' => e = .returned (.bool true) ∧ Below w.heap.size w w' := by
  rcases (show op < 1 ∨ 7 < op ∨ (1 ≤ op ∧ op ≤ 7) by omega) with ho | ho | ⟨ho1, ho7⟩
  · have h3 : mayB 3 op = false := mayB_bad (by omega)
    rcases (show r < 1 ∨ 3 < r ∨ (1 ≤ r ∧ r ≤ 3) by omega) with hr | hr | ⟨hr1, hr3⟩
    · have h7 : mayB r 7 = false := mayB_bad (by omega)
      have hm : mayB r op = false := mayB_bad (by omega)
      go_enter Tryd.func6, Tryd.ntmps6
      go_wp2_with fail
      refine (shown_any hS).mono ?_
      rintro e w1 ⟨rfl, hb1⟩
      go_wp2_with fail
      refine (may_any r op _).mono ?_
      rw [hm]
      rintro e w2 ⟨rfl, hb2⟩
      have hb2 := hb1.trans (hb2.mono hb1.size)
      clear hb1
      go_wp2_with fail
      refine (may_any 3 op _).mono ?_
      rw [h3]
      rintro e w3 ⟨rfl, hb3⟩
      have hb3 := hb2.trans (hb3.mono hb2.size)
      clear hb2
      go_wp2_with fail
      refine (may_any r 7 _).mono ?_
      rw [h7]
      rintro e w4 ⟨rfl, hb4⟩
      have hb4 := hb3.trans (hb4.mono hb3.size)
      clear hb3
      go_wp2_with fail
      go_ret
      exact ⟨by first | rfl | (simp; done) | (simp; omega), hb4⟩
    · have h7 : mayB r 7 = false := mayB_bad (by omega)
      have hm : mayB r op = false := mayB_bad (by omega)
      go_enter Tryd.func6, Tryd.ntmps6
      go_wp2_with fail
      refine (shown_any hS).mono ?_
      rintro e w1 ⟨rfl, hb1⟩
      go_wp2_with fail
      refine (may_any r op _).mono ?_
      rw [hm]
      rintro e w2 ⟨rfl, hb2⟩
      have hb2 := hb1.trans (hb2.mono hb1.size)
      clear hb1
      go_wp2_with fail
      refine (may_any 3 op _).mono ?_
      rw [h3]
      rintro e w3 ⟨rfl, hb3⟩
      have hb3 := hb2.trans (hb3.mono hb2.size)
      clear hb2
      go_wp2_with fail
      refine (may_any r 7 _).mono ?_
      rw [h7]
      rintro e w4 ⟨rfl, hb4⟩
      have hb4 := hb3.trans (hb4.mono hb3.size)
      clear hb3
      go_wp2_with fail
      go_ret
      exact ⟨by first | rfl | (simp; done) | (simp; omega), hb4⟩
    · have h7 : mayB r 7 = true := by rcases (show r = 1 ∨ r = 2 ∨ r = 3 by omega) with rfl | rfl | rfl <;> decide
      have hm : mayB r op = false := mayB_bad (by omega)
      go_enter Tryd.func6, Tryd.ntmps6
      go_wp2_with fail
      refine (shown_any hS).mono ?_
      rintro e w1 ⟨rfl, hb1⟩
      go_wp2_with fail
      refine (may_any r op _).mono ?_
      rw [hm]
      rintro e w2 ⟨rfl, hb2⟩
      have hb2 := hb1.trans (hb2.mono hb1.size)
      clear hb1
      go_wp2_with fail
      refine (may_any 3 op _).mono ?_
      rw [h3]
      rintro e w3 ⟨rfl, hb3⟩
      have hb3 := hb2.trans (hb3.mono hb2.size)
      clear hb2
      go_wp2_with fail
      refine (may_any r 7 _).mono ?_
      rw [h7]
      rintro e w4 ⟨rfl, hb4⟩
      have hb4 := hb3.trans (hb4.mono hb3.size)
      clear hb3
      go_wp2_with fail
      go_ret
      exact ⟨by first | rfl | (simp; done) | (simp; omega), hb4⟩
  · have h3 : mayB 3 op = false := mayB_bad (by omega)
    rcases (show r < 1 ∨ 3 < r ∨ (1 ≤ r ∧ r ≤ 3) by omega) with hr | hr | ⟨hr1, hr3⟩
    · have h7 : mayB r 7 = false := mayB_bad (by omega)
      have hm : mayB r op = false := mayB_bad (by omega)
      go_enter Tryd.func6, Tryd.ntmps6
      go_wp2_with fail
      refine (shown_any hS).mono ?_
      rintro e w1 ⟨rfl, hb1⟩
      go_wp2_with fail
      refine (may_any r op _).mono ?_
      rw [hm]
      rintro e w2 ⟨rfl, hb2⟩
      have hb2 := hb1.trans (hb2.mono hb1.size)
      clear hb1
      go_wp2_with fail
      refine (may_any 3 op _).mono ?_
      rw [h3]
      rintro e w3 ⟨rfl, hb3⟩
      have hb3 := hb2.trans (hb3.mono hb2.size)
      clear hb2
      go_wp2_with fail
      refine (may_any r 7 _).mono ?_
      rw [h7]
      rintro e w4 ⟨rfl, hb4⟩
      have hb4 := hb3.trans (hb4.mono hb3.size)
      clear hb3
      go_wp2_with fail
      go_ret
      exact ⟨by first | rfl | (simp; done) | (simp; omega), hb4⟩
    · have h7 : mayB r 7 = false := mayB_bad (by omega)
      have hm : mayB r op = false := mayB_bad (by omega)
      go_enter Tryd.func6, Tryd.ntmps6
      go_wp2_with fail
      refine (shown_any hS).mono ?_
      rintro e w1 ⟨rfl, hb1⟩
      go_wp2_with fail
      refine (may_any r op _).mono ?_
      rw [hm]
      rintro e w2 ⟨rfl, hb2⟩
      have hb2 := hb1.trans (hb2.mono hb1.size)
      clear hb1
      go_wp2_with fail
      refine (may_any 3 op _).mono ?_
      rw [h3]
      rintro e w3 ⟨rfl, hb3⟩
      have hb3 := hb2.trans (hb3.mono hb2.size)
      clear hb2
      go_wp2_with fail
      refine (may_any r 7 _).mono ?_
      rw [h7]
      rintro e w4 ⟨rfl, hb4⟩
      have hb4 := hb3.trans (hb4.mono hb3.size)
      clear hb3
      go_wp2_with fail
      go_ret
      exact ⟨by first | rfl | (simp; done) | (simp; omega), hb4⟩
    · have h7 : mayB r 7 = true := by rcases (show r = 1 ∨ r = 2 ∨ r = 3 by omega) with rfl | rfl | rfl <;> decide
      have hm : mayB r op = false := mayB_bad (by omega)
      go_enter Tryd.func6, Tryd.ntmps6
      go_wp2_with fail
      refine (shown_any hS).mono ?_
      rintro e w1 ⟨rfl, hb1⟩
      go_wp2_with fail
      refine (may_any r op _).mono ?_
      rw [hm]
      rintro e w2 ⟨rfl, hb2⟩
      have hb2 := hb1.trans (hb2.mono hb1.size)
      clear hb1
      go_wp2_with fail
      refine (may_any 3 op _).mono ?_
      rw [h3]
      rintro e w3 ⟨rfl, hb3⟩
      have hb3 := hb2.trans (hb3.mono hb2.size)
      clear hb2
      go_wp2_with fail
      refine (may_any r 7 _).mono ?_
      rw [h7]
      rintro e w4 ⟨rfl, hb4⟩
      have hb4 := hb3.trans (hb4.mono hb3.size)
      clear hb3
      go_wp2_with fail
      go_ret
      exact ⟨by first | rfl | (simp; done) | (simp; omega), hb4⟩
  · have h3 : mayB 3 op = true := by simp [mayB]; omega
    rcases (show r < 1 ∨ 3 < r ∨ (1 ≤ r ∧ r ≤ 3) by omega) with hr | hr | ⟨hr1, hr3⟩
    · have h7 : mayB r 7 = false := mayB_bad (by omega)
      have hm : mayB r op = false := mayB_bad (by omega)
      go_enter Tryd.func6, Tryd.ntmps6
      go_wp2_with fail
      refine (shown_any hS).mono ?_
      rintro e w1 ⟨rfl, hb1⟩
      go_wp2_with fail
      refine (may_any r op _).mono ?_
      rw [hm]
      rintro e w2 ⟨rfl, hb2⟩
      have hb2 := hb1.trans (hb2.mono hb1.size)
      clear hb1
      go_wp2_with fail
      refine (may_any 3 op _).mono ?_
      rw [h3]
      rintro e w3 ⟨rfl, hb3⟩
      have hb3 := hb2.trans (hb3.mono hb2.size)
      clear hb2
      go_wp2_with fail
      refine (may_any r 7 _).mono ?_
      rw [h7]
      rintro e w4 ⟨rfl, hb4⟩
      have hb4 := hb3.trans (hb4.mono hb3.size)
      clear hb3
      go_wp2_with fail
      go_ret
      exact ⟨by first | rfl | (simp; done) | (simp; omega), hb4⟩
    · have h7 : mayB r 7 = false := mayB_bad (by omega)
      have hm : mayB r op = false := mayB_bad (by omega)
      go_enter Tryd.func6, Tryd.ntmps6
      go_wp2_with fail
      refine (shown_any hS).mono ?_
      rintro e w1 ⟨rfl, hb1⟩
      go_wp2_with fail
      refine (may_any r op _).mono ?_
      rw [hm]
      rintro e w2 ⟨rfl, hb2⟩
      have hb2 := hb1.trans (hb2.mono hb1.size)
      clear hb1
      go_wp2_with fail
      refine (may_any 3 op _).mono ?_
      rw [h3]
      rintro e w3 ⟨rfl, hb3⟩
      have hb3 := hb2.trans (hb3.mono hb2.size)
      clear hb2
      go_wp2_with fail
      refine (may_any r 7 _).mono ?_
      rw [h7]
      rintro e w4 ⟨rfl, hb4⟩
      have hb4 := hb3.trans (hb4.mono hb3.size)
      clear hb3
      go_wp2_with fail
      go_ret
      exact ⟨by first | rfl | (simp; done) | (simp; omega), hb4⟩
    · have h7 : mayB r 7 = true := by rcases (show r = 1 ∨ r = 2 ∨ r = 3 by omega) with rfl | rfl | rfl <;> decide
      cases hm : mayB r op with
      | false =>
        go_enter Tryd.func6, Tryd.ntmps6
        go_wp2_with fail
        refine (shown_any hS).mono ?_
        rintro e w1 ⟨rfl, hb1⟩
        go_wp2_with fail
        refine (may_any r op _).mono ?_
        rw [hm]
        rintro e w2 ⟨rfl, hb2⟩
        have hb2 := hb1.trans (hb2.mono hb1.size)
        clear hb1
        go_wp2_with fail
        refine (may_any 3 op _).mono ?_
        rw [h3]
        rintro e w3 ⟨rfl, hb3⟩
        have hb3 := hb2.trans (hb3.mono hb2.size)
        clear hb2
        go_wp2_with fail
        refine (may_any r 7 _).mono ?_
        rw [h7]
        rintro e w4 ⟨rfl, hb4⟩
        have hb4 := hb3.trans (hb4.mono hb3.size)
        clear hb3
        go_wp2_with fail
        go_ret
        exact ⟨by first | rfl | (simp; done) | (simp; omega), hb4⟩
      | true =>
        go_enter Tryd.func6, Tryd.ntmps6
        go_wp2_with fail
        refine (shown_any hS).mono ?_
        rintro e w1 ⟨rfl, hb1⟩
        go_wp2_with fail
        refine (may_any r op _).mono ?_
        rw [hm]
        rintro e w2 ⟨rfl, hb2⟩
        have hb2 := hb1.trans (hb2.mono hb1.size)
        clear hb1
        go_wp2_with fail
        refine (may_any 3 op _).mono ?_
        rw [h3]
        rintro e w3 ⟨rfl, hb3⟩
        have hb3 := hb2.trans (hb3.mono hb2.size)
        clear hb2
        go_wp2_with fail
        refine (may_any r 7 _).mono ?_
        rw [h7]
        rintro e w4 ⟨rfl, hb4⟩
        have hb4 := hb3.trans (hb4.mono hb3.size)
        clear hb3
        go_wp2_with fail
        go_ret
        exact ⟨by first | rfl | (simp; done) | (simp; omega), hb4⟩


set_option maxRecDepth 100000 in
theorem lifted (os : Os) (started : os.Started) (H : Type) (enc : TypeId × Value → H) :
    ReturnsInHanded {} Tryd.checked os 6 .any (fun w args => (Rows.tokenRolesSpec.pre enc Tryd.prog Tryd.f6 Rows.tokenRolesRow.domain false w args ∧ laidMetH Tryd.prog laidL w) ∧ sizedMet enc Tryd.prog Tryd.f6 (OpenSpec.ofChange Rows.tokenRolesSpec) false w args) (Rows.tokenRolesSpec.post enc Tryd.prog Tryd.f6 false true false false) := by
  refine returnsInHanded_of_change_and (C := Tryd.checked) (X := fun w _ => laidMetH Tryd.prog laidL w) (fun _ _ _ hh h => h.of_heap hh) own started (by kernel_rfl) Tryd.func6
    (ChangeSpec.witness_at (enc := enc) (C := Tryd.checked) (os := os) (X := fun w _ => laidMetH Tryd.prog laidL w) false (laidWorld os) #[.int .i64 0, .int .i64 0] 8 rfl (by kernel_rfl) (by kernel_rfl) (by kernel_rfl) (by kernel_rfl) (by kernel_rfl) (laidWorld_metH os _)) ?_
  intro W base args ds gs before hval0 hW hcnd _ hL _
  obtain ⟨sp, sq, hS⟩ := sents_of_laid hL
  have hval : ∀ (j : Nat) t v, Tryd.f6.params[j]? = some t → args[j]? = some v → Value.okWide Tryd.prog W .any base t v := hval0
  have hW' := hW
  obtain ⟨p, q, hA0, hV, rfl, hfz, hnd⟩ := hW
  have hA : DataW.TrodAll enc Tryd.prog W 0 (fun _ => true) true Tryd.f6.params.toList args.toList ds p := hA0
  rw [Tryd.params6] at hA hval
  obtain ⟨v0, vs0, d0, ds0, p0, q0, hargs, rfl, rfl, h0, r0⟩ := trodAll_cons hA
  obtain ⟨v1, vs1, d1, ds1, p1, q1, rfl, rfl, rfl, h1, r1⟩ := trodAll_cons r0
  obtain ⟨rfl, rfl, rfl⟩ := trodAll_nil r1
  obtain rfl : args = #[v0, v1] := by cases args; simp_all
  obtain ⟨rfl, rfl⟩ := trodVars_none hV
  have k0 := h0
  have lt0 : ∀ x ∈ p0, x.block < W.heap.size := by obtain ⟨m, hm⟩ := k0; exact DataW.trod_lt m _ _ _ hm
  obtain ⟨n0, rfl, na0, nb0⟩ := openInt (hval 0 3 v0 rfl rfl) h0
  have k1 := h1
  have lt1 : ∀ x ∈ p1, x.block < W.heap.size := by obtain ⟨m, hm⟩ := k1; exact DataW.trod_lt m _ _ _ hm
  obtain ⟨n1, rfl, na1, nb1⟩ := openInt (hval 1 3 v1 rfl rfl) h1
  clear hA0 hval0
  refine (walk n0 na0 nb0 n1 na1 nb1 W hS ).mono fun e W' ⟨he, bel⟩ => ?_
  subst he
  exact ⟨_, rfl, _, _, _, [], _, [], hW', trodAll_mk1 (shut_bool Tryd.underlying4 _), (trodAll_cons_mk (Below.trod laidOut (by kernel_rfl) (of_decide_eq_true (by kernel_rfl)) k0 bel lt0) (trodAll_cons_mk (Below.trod laidOut (by kernel_rfl) (of_decide_eq_true (by kernel_rfl)) k1 bel lt1) trodAll_mk0)), rfl, bel.frame _, fun h => by cases h⟩

theorem over : Rows.tokenRolesRow.holds Tryd.pinned (OpenSpec.ofChange Rows.tokenRolesSpec) :=
  OpenClaim.holds_of_wide 6 Tryd.f6 rfl rfl rfl rfl rfl rfl rfl ⟨rfl, rfl, rfl, rfl, rfl⟩ rfl rfl rfl rfl rfl (by kernel_rfl) Tryd.func6 (by kernel_rfl)
    (of_decide_eq_true (by kernel_rfl)) (by unfold Func.isWrapper; first | (rw [if_pos (by decide +kernel)]; kernel_rfl) | (rw [if_neg (by decide +kernel)]; exact ⟨rfl, rfl⟩))
    (fun os started H enc _ => lifted os started H enc)

/-- THE STATEMENT -/
theorem proved : Rows.TokenRolesCardSaid :=
  Claim7.holds_tied_plain_at .later [] [.sentinel, .sentinel] true _ true over (fun _ h => by cases h) (by kernel_rfl) (fun _ h => by cases h) tokenRoles_row_tie rfl ⟨rfl, rfl⟩ (by kernel_rfl) rfl
    (fun f fn hf hfn => by
      obtain rfl : f = 6 := Option.some.inj ((show Tryd.prog.funcNamed "aviary/aviarylaw17.TokenRoles" = some 6 by kernel_rfl).symm.trans hf) |>.symm
      obtain rfl : fn = Tryd.f6 := (Option.some.inj (Tryd.func6.symm.trans hfn)).symm
      refine ⟨by kernel_rfl, fun j t ht => ?_⟩
      rw [Tryd.params6] at ht
      rcases j with _ | _ | j
      · obtain rfl : t = 3 := by simpa using ht.symm
        exact (show Tryd.prog.wantsStandIn 3 = false by kernel_rfl)
      · obtain rfl : t = 3 := by simpa using ht.symm
        exact (show Tryd.prog.wantsStandIn 3 = false by kernel_rfl)
      · simp at ht)
    (by kernel_rfl)
#print axioms proved
end Go.Proofs.YthhoikcknfbclaaDoor.tokenRoles
