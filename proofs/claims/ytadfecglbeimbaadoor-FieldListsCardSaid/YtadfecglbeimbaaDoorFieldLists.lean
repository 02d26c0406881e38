/- FieldLists: for every list of texts (the first hundred and ten, of at most four hundred and ten bytes) and bytes (the first three thousand), lists and their bytes are one to one, whatever stands behind. No condition (the two sentinels of package field as the program's text lays them). -/
import Derived.Test.YtadfecglbeimbaaDoorCards
import Derived.Test.YtadfecglbeimbaaDoorTie
import Derived.Test.YtadfecglbeimbaaDoorLaid02
import Derived.Test.YtadfecglbeimbaaDoorOpenStrs
import Derived.SevenTiedAt
import Derived.JoinedOf
import Derived.ChangeSame
import Derived.ChangeVars
import Derived.Test.YtadfecglbeimbaaDoorShown02
import Derived.Test.YtadfecglbeimbaaDoorGetList
import Derived.Test.YtadfecglbeimbaaDoorFewStr
import Derived.Test.YtadfecglbeimbaaDoorTexts
import Derived.Test.YtadfecglbeimbaaDoorMore02
import Derived.Test.YtadfecglbeimbaaDoorOpen
import Derived.WalkKit
import Derived.ProofKit
import Derived.OpenShut
import Derived.ShutString
import Derived.ChangeOld
import Derived.Below
namespace Go.Proofs.YtadfecglbeimbaaDoor.fieldLists
open Go.ChangeShapes Go.WideShapes Go.ChangeAt Go.RowKit Go.Joins
set_option linter.unusedVariables false

theorem own : ownKnob Tryd.prog.godebug = none := by kernel_rfl
theorem laidOut : laidOutB Tryd.prog = true := by kernel_rfl

set_option linter.unusedSimpArgs false
set_option maxRecDepth 100000 in
set_option maxHeartbeats 4000000 in
theorem walk (s0 : Option Addr) (L0 : List ByteArray) (cap0 : Nat) (hN0 : ∀ x ∈ L0, x.size ≤ 9223372036854775807) (hl0 : L0.length ≤ cap0) (hc0 : cap0 ≤ 9223372036854775807) (hn0 : s0 = none → cap0 = 0) (s1 : ByteArray) (hs1 : s1.size ≤ 9223372036854775807) (w : World) {sp sq : Addr} (hS : Sents sp sq w) (hE0 : Strs w s0 L0) :
    Calls Tryd.prog 7 #[.slice s0 L0.length cap0, .string s1] w fun e w' => e = .returned (.bool true) ∧ Below w.heap.size w w' := by
  have hc1 := cutB_size s1
  have HC1 := Lib.hid (cut_any s1 hs1)
  generalize cutB s1 = c at *
  go_enter Tryd.func7, Tryd.ntmps7
  go_wp2_with fail
  refine (shown_any hS).mono ?_
  rintro e w1 ⟨rfl, hb1⟩
  go_wp2_with fail
  refine (few_any L0 hN0 (by omega) s0 cap0 hl0 _ (hE0.below (Nat.le_refl _) hb1)).mono ?_
  rintro e w2 ⟨v, rfl, hown, hb2⟩
  have hb2 := hb1.trans (hb2.mono hb1.size)
  clear hb1
  obtain ⟨t1, cap2, rfl, hcap, hcm, hstrs, hnn⟩ := hown.form
  have hML := fewL_length L0
  have hMS := fewL_size L0
  clear hown hnn hN0 hE0 hn0
  generalize fewL L0 = M at *
  go_wp2_with fail
  refine (putList_any M (fun x hx => by have := hMS x hx; omega) (by omega) t1 cap2 _ hstrs).mono ?_
  unfold putListV
  by_cases hg : GoodL M
  · rw [if_pos hg]
    rintro e w3 ⟨rfl, hb3⟩
    have hstrs3 := Strs.keep _ _ hstrs hb3
    clear hstrs
    have hb3 := hb2.trans (hb3.mono hb2.size)
    clear hb2
    have hAs := putListB_size M hg
    have HK := Lib.hid (list_cat M hg c)
    generalize putListB M = A at *
    go_wp2_with fail
    refine (HC1.out _).mono ?_
    rintro e w4 ⟨rfl, rfl⟩
    have hS3 := hS.below (Nat.le_refl _) hb3
    have hz3 : (A ++ c).size ≤ 9223372036854775807 := by simp; omega
    go_wp2_with fail
    refine (getList_any hS3 (A ++ c) hz3).mono ?_
    rw [HK.out.1, HK.out.2.1, HK.out.2.2]
    rintro e w5 ⟨v5, rfl, hown5, hb5⟩
    have hstrs5 := Strs.keep _ _ hstrs3 hb5
    clear hstrs3 hS3
    have hb5 := hb3.trans (hb5.mono hb3.size)
    clear hb3
    obtain ⟨t5, cap5, rfl, hcap5, hcm5, hst5, hnn5⟩ := hown5.form
    clear hown5 hnn5 HK hz3
    go_wp2_with fail
    refine (texts_any M M (by omega) (by omega) t5 t1 cap5 cap2 _ hst5 hstrs5 true (by simp)).mono ?_
    rintro e w6 ⟨rfl, hb6⟩
    have hb6 := hb5.trans (hb6.mono hb5.size)
    clear hb5
    clear hst5 hstrs5
    go_wp2_with fail
    refine (HC1.out _).mono ?_
    rintro e w7 ⟨rfl, rfl⟩
    go_wp2_with fail
    refine (HC1.out _).mono ?_
    rintro e w7 ⟨rfl, rfl⟩
    have hS6 := hS.below (Nat.le_refl _) hb6
    go_wp2_with fail
    refine (getList_any hS6 c (by omega)).mono ?_
    have HB := Lib.hid (list_back c)
    generalize listL c.data.toList = G at *
    rintro e w8 ⟨v8, rfl, hown8, hb8⟩
    have hb8 := hb6.trans (hb8.mono hb6.size)
    clear hb6
    obtain ⟨t8, cap8, rfl, hcap8, hcm8, hst8, hnn8⟩ := hown8.form
    clear hown8 hnn8 hS6
    cases G with
    | more =>
      simp only [restS, noS, txtsS] at *
      go_wp2_with fail
      refine (putList_any [] (by simp) (by simp) t8 cap8 _ hst8).mono ?_
      unfold putListV
      rw [if_pos ⟨by simp, by simp⟩]
      rintro e w9 ⟨rfl, hb9⟩
      have hb9 := hb8.trans (hb9.mono hb8.size)
      clear hb8
      generalize putListB [] = D at *
      go_wp2_with fail
      go_ret
      exact ⟨by first | rfl | (simp; done), hb9⟩
    | field =>
      simp only [restS, noS, txtsS] at *
      go_wp2_with fail
      refine (putList_any [] (by simp) (by simp) t8 cap8 _ hst8).mono ?_
      unfold putListV
      rw [if_pos ⟨by simp, by simp⟩]
      rintro e w9 ⟨rfl, hb9⟩
      have hb9 := hb8.trans (hb9.mono hb8.size)
      clear hb8
      generalize putListB [] = D at *
      go_wp2_with fail
      go_ret
      exact ⟨by first | rfl | (simp; done), hb9⟩
    | ok C r =>
      obtain ⟨hgC, hcat, hrz⟩ := HB.out C r rfl
      clear HB
      simp only [restS, noS, txtsS] at *
      have hds := putListB_size _ hgC
      have hgC1 := hgC.1
      generalize (⟨r.toArray⟩ : ByteArray) = X at *
      generalize C.map baOf = C2 at *
      go_wp2_with fail
      refine (putList_any C2 (fun x hx => by have := hgC.2 x hx; omega) (by omega) t8 cap8 _ hst8).mono ?_
      unfold putListV
      rw [if_pos hgC]
      rintro e w9 ⟨rfl, hb9⟩
      have hb9 := hb8.trans (hb9.mono hb8.size)
      clear hb8
      clear hst8 hgC
      generalize putListB C2 = D at *
      go_wp2_with fail
      refine (HC1.out _).mono ?_
      rintro e w10 ⟨rfl, rfl⟩
      go_wp2_with fail
      go_ret
      exact ⟨by first | rfl | (simp; done), hb9⟩
  · rw [if_neg hg]
    rintro e w3 ⟨rfl, hb3⟩
    clear hstrs
    have hb3 := hb2.trans (hb3.mono hb2.size)
    clear hb2
    go_wp2_with fail
    refine (HC1.out _).mono ?_
    rintro e w4 ⟨rfl, rfl⟩
    have hS3 := hS.below (Nat.le_refl _) hb3
    have hz3 : ((⟨#[]⟩ : ByteArray) ++ c).size ≤ 9223372036854775807 := by rw [ByteArray.size_append]; show 0 + c.size ≤ _; omega
    go_wp2_with fail
    refine (getList_any hS3 _ (by first | exact hz3 | omega)).mono ?_
    rintro e w6 ⟨v5, rfl, -, hb6⟩
    clear hS3 hz3
    have hb6 := hb3.trans (hb6.mono hb3.size)
    clear hb3
    go_wp2_with fail
    refine (HC1.out _).mono ?_
    rintro e w7 ⟨rfl, rfl⟩
    have hS6 := hS.below (Nat.le_refl _) hb6
    go_wp2_with fail
    refine (getList_any hS6 c (by omega)).mono ?_
    have HB := Lib.hid (list_back c)
    generalize listL c.data.toList = G at *
    rintro e w8 ⟨v8, rfl, hown8, hb8⟩
    have hb8 := hb6.trans (hb8.mono hb6.size)
    clear hb6
    obtain ⟨t8, cap8, rfl, hcap8, hcm8, hst8, hnn8⟩ := hown8.form
    clear hown8 hnn8 hS6
    cases G with
    | more =>
      simp only [restS, noS, txtsS] at *
      go_wp2_with fail
      refine (putList_any [] (by simp) (by simp) t8 cap8 _ hst8).mono ?_
      unfold putListV
      rw [if_pos ⟨by simp, by simp⟩]
      rintro e w9 ⟨rfl, hb9⟩
      have hb9 := hb8.trans (hb9.mono hb8.size)
      clear hb8
      generalize putListB [] = D at *
      go_wp2_with fail
      go_ret
      exact ⟨by first | rfl | (simp; done), hb9⟩
    | field =>
      simp only [restS, noS, txtsS] at *
      go_wp2_with fail
      refine (putList_any [] (by simp) (by simp) t8 cap8 _ hst8).mono ?_
      unfold putListV
      rw [if_pos ⟨by simp, by simp⟩]
      rintro e w9 ⟨rfl, hb9⟩
      have hb9 := hb8.trans (hb9.mono hb8.size)
      clear hb8
      generalize putListB [] = D at *
      go_wp2_with fail
      go_ret
      exact ⟨by first | rfl | (simp; done), hb9⟩
    | ok C r =>
      obtain ⟨hgC, hcat, hrz⟩ := HB.out C r rfl
      clear HB
      simp only [restS, noS, txtsS] at *
      have hds := putListB_size _ hgC
      have hgC1 := hgC.1
      generalize (⟨r.toArray⟩ : ByteArray) = X at *
      generalize C.map baOf = C2 at *
      go_wp2_with fail
      refine (putList_any C2 (fun x hx => by have := hgC.2 x hx; omega) (by omega) t8 cap8 _ hst8).mono ?_
      unfold putListV
      rw [if_pos hgC]
      rintro e w9 ⟨rfl, hb9⟩
      have hb9 := hb8.trans (hb9.mono hb8.size)
      clear hb8
      clear hst8 hgC
      generalize putListB C2 = D at *
      go_wp2_with fail
      refine (HC1.out _).mono ?_
      rintro e w10 ⟨rfl, rfl⟩
      go_wp2_with fail
      go_ret
      exact ⟨by first | rfl | (simp; done), hb9⟩


set_option maxRecDepth 100000 in
theorem lifted (os : Os) (started : os.Started) (H : Type) (enc : TypeId × Value → H) :
    ReturnsInHanded {} Tryd.checked os 7 .any (fun w args => (Rows.fieldListsSpec.pre enc Tryd.prog Tryd.f7 Rows.fieldListsRow.domain false w args ∧ laidMetH Tryd.prog laidL w) ∧ sizedMet enc Tryd.prog Tryd.f7 (OpenSpec.ofChange Rows.fieldListsSpec) false w args) (Rows.fieldListsSpec.post enc Tryd.prog Tryd.f7 false true false false) := by
  refine returnsInHanded_of_change_and (C := Tryd.checked) (X := fun w _ => laidMetH Tryd.prog laidL w) (fun _ _ _ hh h => h.of_heap hh) own started (by kernel_rfl) Tryd.func7
    (ChangeSpec.witness_at (enc := enc) (C := Tryd.checked) (os := os) (X := fun w _ => laidMetH Tryd.prog laidL w) false (laidWorld os) #[.slice none 0 0, .string ⟨#[]⟩] 8 rfl (by kernel_rfl) (by kernel_rfl) (by kernel_rfl) (by kernel_rfl) (by kernel_rfl) (laidWorld_metH os _)) ?_
  intro W base args ds gs before hval0 hW hcnd _ hL _
  obtain ⟨sp, sq, hS⟩ := sents_of_laid hL
  have hval : ∀ (j : Nat) t v, Tryd.f7.params[j]? = some t → args[j]? = some v → Value.okWide Tryd.prog W .any base t v := hval0
  have hW' := hW
  obtain ⟨p, q, hA0, hV, rfl, hfz, hnd⟩ := hW
  have hA : DataW.TrodAll enc Tryd.prog W 0 (fun _ => true) true Tryd.f7.params.toList args.toList ds p := hA0
  rw [Tryd.params7] at hA hval
  obtain ⟨v0, vs0, d0, ds0, p0, q0, hargs, rfl, rfl, h0, r0⟩ := trodAll_cons hA
  obtain ⟨v1, vs1, d1, ds1, p1, q1, rfl, rfl, rfl, h1, r1⟩ := trodAll_cons r0
  obtain ⟨rfl, rfl, rfl⟩ := trodAll_nil r1
  obtain rfl : args = #[v0, v1] := by cases args; simp_all
  obtain ⟨rfl, rfl⟩ := trodVars_none hV
  have k0 := h0
  have lt0 : ∀ x ∈ p0, x.block < W.heap.size := by obtain ⟨m, hm⟩ := k0; exact DataW.trod_lt m _ _ _ hm
  obtain ⟨s0, L0, cap0, rfl, hE0, hN0, hl0, hc0, hn0⟩ := openStrs (hval 0 37 v0 rfl rfl) h0
  have k1 := h1
  have lt1 : ∀ x ∈ p1, x.block < W.heap.size := by obtain ⟨m, hm⟩ := k1; exact DataW.trod_lt m _ _ _ hm
  obtain ⟨s1, rfl, hs1⟩ := openStr (hval 1 9 v1 rfl rfl) h1
  clear hA0 hval0
  refine (walk s0 L0 cap0 hN0 hl0 hc0 hn0 s1 hs1 W hS hE0).mono fun e W' ⟨he, bel⟩ => ?_
  subst he
  exact ⟨_, rfl, _, _, _, [], _, [], hW', trodAll_mk1 (shut_bool Tryd.underlying4 _), (trodAll_cons_mk (Below.trod laidOut (by kernel_rfl) (of_decide_eq_true (by kernel_rfl)) k0 bel lt0) (trodAll_cons_mk (Below.trod laidOut (by kernel_rfl) (of_decide_eq_true (by kernel_rfl)) k1 bel lt1) trodAll_mk0)), rfl, bel.frame _, fun h => by cases h⟩

theorem over : Rows.fieldListsRow.holds Tryd.pinned (OpenSpec.ofChange Rows.fieldListsSpec) :=
  OpenClaim.holds_of_wide 7 Tryd.f7 rfl rfl rfl rfl rfl rfl rfl ⟨rfl, rfl, rfl, rfl, rfl⟩ rfl rfl rfl rfl rfl (by kernel_rfl) Tryd.func7 (by kernel_rfl)
    (of_decide_eq_true (by kernel_rfl)) (by unfold Func.isWrapper; first | (rw [if_pos (by decide +kernel)]; kernel_rfl) | (rw [if_neg (by decide +kernel)]; exact ⟨rfl, rfl⟩))
    (fun os started H enc _ => lifted os started H enc)

/-- THE STATEMENT -/
theorem proved : Rows.FieldListsCardSaid :=
  Claim7.holds_tied_plain_at .later [] [.sentinel, .sentinel] true _ true over (fun _ h => by cases h) (by kernel_rfl) (fun _ h => by cases h) fieldLists_row_tie rfl ⟨rfl, rfl⟩ (by kernel_rfl) rfl
    (fun f fn hf hfn => by
      obtain rfl : f = 7 := Option.some.inj ((show Tryd.prog.funcNamed "aviary/aviarylaw02.FieldLists" = some 7 by kernel_rfl).symm.trans hf) |>.symm
      obtain rfl : fn = Tryd.f7 := (Option.some.inj (Tryd.func7.symm.trans hfn)).symm
      refine ⟨by kernel_rfl, fun j t ht => ?_⟩
      rw [Tryd.params7] at ht
      rcases j with _ | _ | j
      · obtain rfl : t = 37 := by simpa using ht.symm
        exact (show Tryd.prog.wantsStandIn 37 = false by kernel_rfl)
      · obtain rfl : t = 9 := by simpa using ht.symm
        exact (show Tryd.prog.wantsStandIn 9 = false by kernel_rfl)
      · simp at ht)
    (by kernel_rfl)
#print axioms proved
end Go.Proofs.YtadfecglbeimbaaDoor.fieldLists
