/- FieldOne: for every three texts (their first three thousand bytes), of two one is less or they are the same, what is less than what is less than a third is less, and a text is not greater than itself with more behind it. No condition (the two sentinels of package field as the program's text lays them). -/
import Derived.Test.YtadfecglbeimbaaDoorCards
import Derived.Test.YtadfecglbeimbaaDoorTie
import Derived.Test.YtadfecglbeimbaaDoorLaid02
import Derived.Test.YtadfecglbeimbaaDoorOpenStrs
import Derived.SevenTiedAt
import Derived.JoinedOf
import Derived.ChangeSame
import Derived.ChangeVars
import Derived.Test.YtadfecglbeimbaaDoorShown02
import Derived.Test.YtadfecglbeimbaaDoorCmp02
import Derived.Test.YtadfecglbeimbaaDoorOpen
import Derived.WalkKit
import Derived.ProofKit
import Derived.OpenShut
import Derived.ShutString
import Derived.ChangeOld
import Derived.Below
namespace Go.Proofs.YtadfecglbeimbaaDoor.fieldOne
open Go.ChangeShapes Go.WideShapes Go.ChangeAt Go.RowKit Go.Joins
set_option linter.unusedVariables false

theorem own : ownKnob Tryd.prog.godebug = none := by kernel_rfl
theorem laidOut : laidOutB Tryd.prog = true := by kernel_rfl

set_option linter.unusedSimpArgs false
set_option maxRecDepth 100000 in
set_option maxHeartbeats 2000000 in
theorem walk (s0 : ByteArray) (hs0 : s0.size ≤ 9223372036854775807) (s1 : ByteArray) (hs1 : s1.size ≤ 9223372036854775807) (s2 : ByteArray) (hs2 : s2.size ≤ 9223372036854775807) (w : World) {sp sq : Addr} (hS : Sents sp sq w) :
    Calls Tryd.prog 5 #[.string s0, .string s1, .string s2] w fun e w' => e = .returned (.bool true) ∧ Below w.heap.size w w' := by
  go_enter Tryd.func5, Tryd.ntmps5
  go_wp2_with fail
  refine (shown_any hS).mono ?_
  rintro e w1 ⟨rfl, hb1⟩
  go_wp2_with fail
  refine (cut_any _ hs0 _).mono ?_
  rintro e w2 ⟨rfl, rfl⟩
  go_wp2_with fail
  refine (cut_any _ hs1 _).mono ?_
  rintro e w2 ⟨rfl, rfl⟩
  go_wp2_with fail
  refine (cut_any _ hs2 _).mono ?_
  rintro e w2 ⟨rfl, rfl⟩
  have ha := cutB_size s0
  have hc := cutB_size s2
  generalize cutB s0 = a at *
  generalize cutB s1 = b at *
  generalize cutB s2 = c at *
  have r1 := cmp_range a.data.toList b.data.toList
  have r2 := cmp_range b.data.toList c.data.toList
  have a1 := Lib.hid (cmp_anti a.data.toList b.data.toList)
  have z1 := Lib.hid (cmp_zero a.data.toList b.data.toList)
  have t1 := Lib.hid (cmp_trans a.data.toList b.data.toList c.data.toList)
  have p1 : Hid (Lib.compareBytes a.data.toList (a ++ c).data.toList ≤ 0) := by rw [ByteArray.data_append, Array.toList_append]; exact cmp_prefix _ _
  generalize hx : Lib.compareBytes a.data.toList b.data.toList = x at *
  generalize hy : Lib.compareBytes b.data.toList c.data.toList = y at *
  generalize hz : Lib.compareBytes a.data.toList c.data.toList = z at *
  generalize hu : Lib.compareBytes a.data.toList (a ++ c).data.toList = u at *
  have HX := Lib.hid hx
  have HY := Lib.hid hy
  have HZ := Lib.hid hz
  have HU := Lib.hid hu
  clear hx hy hz hu
  go_wp2_with fail
  refine (least_any _ _ _).mono ?_
  rw [HX.out]
  rintro e w2 ⟨rfl, rfl⟩
  go_wp2_with fail
  refine (least_any _ _ _).mono ?_
  rw [HY.out]
  rintro e w2 ⟨rfl, rfl⟩
  go_wp2_with fail
  refine (least_any _ _ _).mono ?_
  rw [a1.out]
  rintro e w2 ⟨rfl, rfl⟩
  obtain ⟨r, hr1, hr2⟩ : ∃ r : Bool, (x == 0) = r ∧ (a.toList == b.toList) = r := ⟨x == 0, rfl, by
    rw [Lib.toList_data, Lib.toList_data]
    have h := z1.out
    by_cases hz : x = 0
    · rw [h.1 hz, hz]; simp
    · have h' : ¬ a.data.toList = b.data.toList := fun h'' => hz (h.2 h'')
      rw [beq_eq_false_iff_ne.2 hz, beq_eq_false_iff_ne.2 h']⟩
  by_cases c1 : 0 ≤ x
  · go_wp2_with fail
    refine (least_any _ _ _).mono ?_
    rw [HU.out]
    rintro e w2 ⟨rfl, rfl⟩
    have hu0 := p1.out
    go_wp2_with fail
    go_ret
    exact ⟨by first | rfl | (simp; done), hb1⟩
  have d1 : decide (0 ≤ x) = false := by simp; omega
  by_cases c2 : 0 ≤ y
  · go_wp2_with fail
    refine (least_any _ _ _).mono ?_
    rw [HU.out]
    rintro e w2 ⟨rfl, rfl⟩
    have hu0 := p1.out
    go_wp2_with fail
    go_ret
    exact ⟨by first | rfl | (simp; done), hb1⟩
  have d2 : decide (0 ≤ y) = false := by simp; omega
  have hz0 := t1.out (by omega) (by omega)
  go_wp2_with fail
  refine (least_any _ _ _).mono ?_
  rw [HZ.out]
  rintro e w2 ⟨rfl, rfl⟩
  go_wp2_with fail
  refine (least_any _ _ _).mono ?_
  rw [HU.out]
  rintro e w2 ⟨rfl, rfl⟩
  have hu0 := p1.out
  go_wp2_with fail
  go_ret
  exact ⟨by first | rfl | (simp; done), hb1⟩


set_option maxRecDepth 100000 in
theorem lifted (os : Os) (started : os.Started) (H : Type) (enc : TypeId × Value → H) :
    ReturnsInHanded {} Tryd.checked os 5 .any (fun w args => (Rows.fieldOneSpec.pre enc Tryd.prog Tryd.f5 Rows.fieldOneRow.domain false w args ∧ laidMetH Tryd.prog laidL w) ∧ sizedMet enc Tryd.prog Tryd.f5 (OpenSpec.ofChange Rows.fieldOneSpec) false w args) (Rows.fieldOneSpec.post enc Tryd.prog Tryd.f5 false true false false) := by
  refine returnsInHanded_of_change_and (C := Tryd.checked) (X := fun w _ => laidMetH Tryd.prog laidL w) (fun _ _ _ hh h => h.of_heap hh) own started (by kernel_rfl) Tryd.func5
    (ChangeSpec.witness_at (enc := enc) (C := Tryd.checked) (os := os) (X := fun w _ => laidMetH Tryd.prog laidL w) false (laidWorld os) #[.string ⟨#[]⟩, .string ⟨#[]⟩, .string ⟨#[]⟩] 8 rfl (by kernel_rfl) (by kernel_rfl) (by kernel_rfl) (by kernel_rfl) (by kernel_rfl) (laidWorld_metH os _)) ?_
  intro W base args ds gs before hval0 hW hcnd _ hL _
  obtain ⟨sp, sq, hS⟩ := sents_of_laid hL
  have hval : ∀ (j : Nat) t v, Tryd.f5.params[j]? = some t → args[j]? = some v → Value.okWide Tryd.prog W .any base t v := hval0
  have hW' := hW
  obtain ⟨p, q, hA0, hV, rfl, hfz, hnd⟩ := hW
  have hA : DataW.TrodAll enc Tryd.prog W 0 (fun _ => true) true Tryd.f5.params.toList args.toList ds p := hA0
  rw [Tryd.params5] at hA hval
  obtain ⟨v0, vs0, d0, ds0, p0, q0, hargs, rfl, rfl, h0, r0⟩ := trodAll_cons hA
  obtain ⟨v1, vs1, d1, ds1, p1, q1, rfl, rfl, rfl, h1, r1⟩ := trodAll_cons r0
  obtain ⟨v2, vs2, d2, ds2, p2, q2, rfl, rfl, rfl, h2, r2⟩ := trodAll_cons r1
  obtain ⟨rfl, rfl, rfl⟩ := trodAll_nil r2
  obtain rfl : args = #[v0, v1, v2] := by cases args; simp_all
  obtain ⟨rfl, rfl⟩ := trodVars_none hV
  have k0 := h0
  have lt0 : ∀ x ∈ p0, x.block < W.heap.size := by obtain ⟨m, hm⟩ := k0; exact DataW.trod_lt m _ _ _ hm
  obtain ⟨s0, rfl, hs0⟩ := openStr (hval 0 9 v0 rfl rfl) h0
  have k1 := h1
  have lt1 : ∀ x ∈ p1, x.block < W.heap.size := by obtain ⟨m, hm⟩ := k1; exact DataW.trod_lt m _ _ _ hm
  obtain ⟨s1, rfl, hs1⟩ := openStr (hval 1 9 v1 rfl rfl) h1
  have k2 := h2
  have lt2 : ∀ x ∈ p2, x.block < W.heap.size := by obtain ⟨m, hm⟩ := k2; exact DataW.trod_lt m _ _ _ hm
  obtain ⟨s2, rfl, hs2⟩ := openStr (hval 2 9 v2 rfl rfl) h2
  clear hA0 hval0
  refine (walk s0 hs0 s1 hs1 s2 hs2 W hS ).mono fun e W' ⟨he, bel⟩ => ?_
  subst he
  exact ⟨_, rfl, _, _, _, [], _, [], hW', trodAll_mk1 (shut_bool Tryd.underlying4 _), (trodAll_cons_mk (Below.trod laidOut (by kernel_rfl) (of_decide_eq_true (by kernel_rfl)) k0 bel lt0) (trodAll_cons_mk (Below.trod laidOut (by kernel_rfl) (of_decide_eq_true (by kernel_rfl)) k1 bel lt1) (trodAll_cons_mk (Below.trod laidOut (by kernel_rfl) (of_decide_eq_true (by kernel_rfl)) k2 bel lt2) trodAll_mk0))), rfl, bel.frame _, fun h => by cases h⟩

theorem over : Rows.fieldOneRow.holds Tryd.pinned (OpenSpec.ofChange Rows.fieldOneSpec) :=
  OpenClaim.holds_of_wide 5 Tryd.f5 rfl rfl rfl rfl rfl rfl rfl ⟨rfl, rfl, rfl, rfl, rfl⟩ rfl rfl rfl rfl rfl (by kernel_rfl) Tryd.func5 (by kernel_rfl)
    (of_decide_eq_true (by kernel_rfl)) (by unfold Func.isWrapper; first | (rw [if_pos (by decide +kernel)]; kernel_rfl) | (rw [if_neg (by decide +kernel)]; exact ⟨rfl, rfl⟩))
    (fun os started H enc _ => lifted os started H enc)

/-- THE STATEMENT -/
theorem proved : Rows.FieldOneCardSaid :=
  Claim7.holds_tied_plain_at .later [] [.sentinel, .sentinel] true _ true over (fun _ h => by cases h) (by kernel_rfl) (fun _ h => by cases h) fieldOne_row_tie rfl ⟨rfl, rfl⟩ (by kernel_rfl) rfl
    (fun f fn hf hfn => by
      obtain rfl : f = 5 := Option.some.inj ((show Tryd.prog.funcNamed "aviary/aviarylaw02.FieldOne" = some 5 by kernel_rfl).symm.trans hf) |>.symm
      obtain rfl : fn = Tryd.f5 := (Option.some.inj (Tryd.func5.symm.trans hfn)).symm
      refine ⟨by kernel_rfl, fun j t ht => ?_⟩
      rw [Tryd.params5] at ht
      rcases j with _ | _ | _ | j
      · obtain rfl : t = 9 := by simpa using ht.symm
        exact (show Tryd.prog.wantsStandIn 9 = false by kernel_rfl)
      · obtain rfl : t = 9 := by simpa using ht.symm
        exact (show Tryd.prog.wantsStandIn 9 = false by kernel_rfl)
      · obtain rfl : t = 9 := by simpa using ht.symm
        exact (show Tryd.prog.wantsStandIn 9 = false by kernel_rfl)
      · simp at ht)
    (by kernel_rfl)
#print axioms proved
end Go.Proofs.YtadfecglbeimbaaDoor.fieldOne
