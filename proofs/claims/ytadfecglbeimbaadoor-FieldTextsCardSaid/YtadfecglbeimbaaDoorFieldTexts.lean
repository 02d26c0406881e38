/- FieldTexts: for every list of texts (the first hundred and ten, of at most four hundred and ten bytes) and bytes (the first three thousand), texts' and lists' bytes, and texts and lists of bytes, are the reference's. No condition (the two sentinels of package field as the program's text lays them). -/
import Derived.Test.YtadfecglbeimbaaDoorCards
import Derived.Test.YtadfecglbeimbaaDoorTie
import Derived.Test.YtadfecglbeimbaaDoorLaid02
import Derived.Test.YtadfecglbeimbaaDoorOpenStrs
import Derived.SevenTiedAt
import Derived.JoinedOf
import Derived.ChangeSame
import Derived.ChangeVars
import Derived.Test.YtadfecglbeimbaaDoorShown02
import Derived.Test.YtadfecglbeimbaaDoorGetList
import Derived.Test.YtadfecglbeimbaaDoorFewStr
import Derived.Test.YtadfecglbeimbaaDoorTexts
import Derived.Test.YtadfecglbeimbaaDoorMore02
import Derived.Test.YtadfecglbeimbaaDoorOpen
import Derived.WalkKit
import Derived.ProofKit
import Derived.OpenShut
import Derived.ShutString
import Derived.ChangeOld
import Derived.Below
namespace Go.Proofs.YtadfecglbeimbaaDoor.fieldTexts
open Go.ChangeShapes Go.WideShapes Go.ChangeAt Go.RowKit Go.Joins
set_option linter.unusedVariables false

theorem own : ownKnob Tryd.prog.godebug = none := by kernel_rfl
theorem laidOut : laidOutB Tryd.prog = true := by kernel_rfl

set_option linter.unusedSimpArgs false
set_option maxRecDepth 100000 in
set_option maxHeartbeats 4000000 in
theorem walk (s0 : Option Addr) (L0 : List ByteArray) (cap0 : Nat) (hN0 : ∀ x ∈ L0, x.size ≤ 9223372036854775807) (hl0 : L0.length ≤ cap0) (hc0 : cap0 ≤ 9223372036854775807) (hn0 : s0 = none → cap0 = 0) (s1 : ByteArray) (hs1 : s1.size ≤ 9223372036854775807) (w : World) {sp sq : Addr} (hS : Sents sp sq w) (hE0 : Strs w s0 L0) :
    Calls Tryd.prog 9 #[.slice s0 L0.length cap0, .string s1] w fun e w' => e = .returned (.bool true) ∧ Below w.heap.size w w' := by
  have hc1 := cutB_size s1
  have HC1 := Lib.hid (cut_any s1 hs1)
  generalize cutB s1 = c at *
  go_enter Tryd.func9, Tryd.ntmps9
  go_wp2_with fail
  refine (shown_any hS).mono ?_
  rintro e w1 ⟨rfl, hb1⟩
  go_wp2_with fail
  refine (few_any L0 hN0 (by omega) s0 cap0 hl0 _ (hE0.below (Nat.le_refl _) hb1)).mono ?_
  rintro e w2 ⟨v, rfl, hown, hb2⟩
  have hb2 := hb1.trans (hb2.mono hb1.size)
  clear hb1
  obtain ⟨t1, cap2, rfl, hcap, hcm, hstrs, hnn⟩ := hown.form
  have hML := fewL_length L0
  have hMS := fewL_size L0
  clear hown hnn hN0 hE0 hn0
  generalize fewL L0 = M at *
  by_cases h0 : 0 < M.length
  · obtain ⟨T, hT⟩ : ∃ T, M[0]? = some T := ⟨_, List.getElem?_eq_getElem h0⟩
    have hTz := hMS T (List.mem_of_getElem? hT)
    obtain ⟨g, o, rfl, hgl, hc0⟩ := hstrs 0 T hT
    have hc : w2.cell? ⟨g, o, none⟩ = some (.string T) := hc0
    have HH0 := Lib.hid h0
    obtain ⟨t1, ht1⟩ : ∃ t1 : Option Addr, t1 = some ⟨g, o, none⟩ := ⟨_, rfl⟩
    have HT1 := Lib.hid ht1
    rw [← ht1] at hstrs
    clear hc0 hT ht1
    go_wp2_with fail
    rw [← HT1.out]
    clear hc
    obtain ⟨a1, e1, hpt⟩ := putText_form T
    obtain ⟨a2, e2, hpl⟩ := putList_form M
    obtain ⟨a3, b3, e3, hgt⟩ := getText_form c (textL c.data.toList)
    have HPT := Lib.hid hpt
    have HPL := Lib.hid hpl
    have HGT := Lib.hid hgt
    clear hpt hpl hgt
    go_wp2_with fail
    refine (putText_any T (by omega) _).mono ?_
    rw [HPT.out]
    rintro e w3 ⟨rfl, hb3⟩
    have hs3 := Strs.keep _ _ hstrs hb3
    have hb3 := hb2.trans (hb3.mono hb2.size)
    clear hb2
    go_wp2_with fail
    refine (refPutText_any T (by omega) _).mono ?_
    rw [HPT.out]
    rintro e w4 ⟨rfl, hb4⟩
    have hs4 := Strs.keep _ _ hs3 hb4
    have hb4 := hb3.trans (hb4.mono hb3.size)
    clear hb3
    clear hstrs hs3
    go_wp2_with fail
    refine (putList_any M (fun x hx => by have := hMS x hx; omega) (by omega) t1 cap2 _ hs4).mono ?_
    rw [HPL.out]
    rintro e w5 ⟨rfl, hb5⟩
    have hs5 := Strs.keep _ _ hs4 hb5
    have hb5 := hb4.trans (hb5.mono hb4.size)
    clear hb4
    go_wp2_with fail
    refine (refPutList_any M (fun x hx => by have := hMS x hx; omega) (by omega) t1 cap2 _ hs5).mono ?_
    rw [HPL.out]
    rintro e w6 ⟨rfl, hb6⟩
    have hb6 := hb5.trans (hb6.mono hb5.size)
    clear hb5
    clear hs4 hs5
    go_wp2_with fail
    refine (HC1.out _).mono ?_
    rintro e w7 ⟨rfl, rfl⟩
    go_wp2_with fail
    refine (getText_any (hS.below (Nat.le_refl _) hb6) c (by omega)).mono ?_
    rw [HGT.out]
    rintro e w8 ⟨rfl, hb8⟩
    have hb8 := hb6.trans (hb8.mono hb6.size)
    clear hb6
    go_wp2_with fail
    refine (HC1.out _).mono ?_
    rintro e w9 ⟨rfl, rfl⟩
    go_wp2_with fail
    refine (refGetText_any c (by omega) _).mono ?_
    rw [HGT.out]
    rintro e w10 ⟨rfl, hb10⟩
    have hb10 := hb8.trans (hb10.mono hb8.size)
    clear hb8
    have hTL := txts_len c.data.toList
    go_wp2_with fail
    refine (HC1.out _).mono ?_
    rintro e w11 ⟨rfl, rfl⟩
    have HGL := Lib.hid (getList_any (hS.below (Nat.le_refl _) hb10) c (by omega))
    have HRL := Lib.hid (refGetList_any c (by omega))
    generalize listL c.data.toList = G at *
    generalize txtsS G = TT at *
    generalize restS c G = X at *
    generalize noS G = e4 at *
    go_wp2_with fail
    refine HGL.out.mono ?_
    clear HGL
    rintro e w12 ⟨v12, rfl, hown12, hb12⟩
    have hb12 := hb10.trans (hb12.mono hb10.size)
    clear hb10
    obtain ⟨t12, cap12, rfl, hcap12, hcm12, hst12, hnn12⟩ := hown12.form
    clear hown12 hnn12
    go_wp2_with fail
    refine (HC1.out _).mono ?_
    rintro e w13 ⟨rfl, rfl⟩
    go_wp2_with fail
    refine (HRL.out _).mono ?_
    clear HRL
    rintro e w14 ⟨v14, rfl, hown14, hb14⟩
    have hst14 := Strs.keep _ _ hst12 hb14
    clear hst12
    have hb14 := hb12.trans (hb14.mono hb12.size)
    clear hb12
    obtain ⟨t14, cap14, rfl, hcap14, hcm14, hst15, hnn14⟩ := hown14.form
    clear hown14 hnn14
    go_wp2_with fail
    refine (texts_any TT TT (by omega) (by omega) t12 t14 cap12 cap14 _ hst14 hst15 true (by simp)).mono ?_
    rintro e w16 ⟨rfl, hb16⟩
    have hb16 := hb14.trans (hb16.mono hb14.size)
    clear hb14
    clear hst14 hst15
    go_wp2_with fail
    go_ret
    exact ⟨by first | rfl | (simp; done), hb16⟩
  · obtain ⟨T, hTe⟩ : ∃ T : ByteArray, T = ⟨#[]⟩ := ⟨_, rfl⟩
    have hTz : T.size ≤ 410 := by subst hTe; decide
    have d0 : ¬ (0 : Int) < (M.length : Int) := by omega
    go_wp2_with fail
    rw [← hTe]
    clear hTe
    obtain ⟨a1, e1, hpt⟩ := putText_form T
    obtain ⟨a2, e2, hpl⟩ := putList_form M
    obtain ⟨a3, b3, e3, hgt⟩ := getText_form c (textL c.data.toList)
    have HPT := Lib.hid hpt
    have HPL := Lib.hid hpl
    have HGT := Lib.hid hgt
    clear hpt hpl hgt
    go_wp2_with fail
    refine (putText_any T (by omega) _).mono ?_
    rw [HPT.out]
    rintro e w3 ⟨rfl, hb3⟩
    have hs3 := Strs.keep _ _ hstrs hb3
    have hb3 := hb2.trans (hb3.mono hb2.size)
    clear hb2
    go_wp2_with fail
    refine (refPutText_any T (by omega) _).mono ?_
    rw [HPT.out]
    rintro e w4 ⟨rfl, hb4⟩
    have hs4 := Strs.keep _ _ hs3 hb4
    have hb4 := hb3.trans (hb4.mono hb3.size)
    clear hb3
    clear hstrs hs3
    go_wp2_with fail
    refine (putList_any M (fun x hx => by have := hMS x hx; omega) (by omega) t1 cap2 _ hs4).mono ?_
    rw [HPL.out]
    rintro e w5 ⟨rfl, hb5⟩
    have hs5 := Strs.keep _ _ hs4 hb5
    have hb5 := hb4.trans (hb5.mono hb4.size)
    clear hb4
    go_wp2_with fail
    refine (refPutList_any M (fun x hx => by have := hMS x hx; omega) (by omega) t1 cap2 _ hs5).mono ?_
    rw [HPL.out]
    rintro e w6 ⟨rfl, hb6⟩
    have hb6 := hb5.trans (hb6.mono hb5.size)
    clear hb5
    clear hs4 hs5
    go_wp2_with fail
    refine (HC1.out _).mono ?_
    rintro e w7 ⟨rfl, rfl⟩
    go_wp2_with fail
    refine (getText_any (hS.below (Nat.le_refl _) hb6) c (by omega)).mono ?_
    rw [HGT.out]
    rintro e w8 ⟨rfl, hb8⟩
    have hb8 := hb6.trans (hb8.mono hb6.size)
    clear hb6
    go_wp2_with fail
    refine (HC1.out _).mono ?_
    rintro e w9 ⟨rfl, rfl⟩
    go_wp2_with fail
    refine (refGetText_any c (by omega) _).mono ?_
    rw [HGT.out]
    rintro e w10 ⟨rfl, hb10⟩
    have hb10 := hb8.trans (hb10.mono hb8.size)
    clear hb8
    have hTL := txts_len c.data.toList
    go_wp2_with fail
    refine (HC1.out _).mono ?_
    rintro e w11 ⟨rfl, rfl⟩
    have HGL := Lib.hid (getList_any (hS.below (Nat.le_refl _) hb10) c (by omega))
    have HRL := Lib.hid (refGetList_any c (by omega))
    generalize listL c.data.toList = G at *
    generalize txtsS G = TT at *
    generalize restS c G = X at *
    generalize noS G = e4 at *
    go_wp2_with fail
    refine HGL.out.mono ?_
    clear HGL
    rintro e w12 ⟨v12, rfl, hown12, hb12⟩
    have hb12 := hb10.trans (hb12.mono hb10.size)
    clear hb10
    obtain ⟨t12, cap12, rfl, hcap12, hcm12, hst12, hnn12⟩ := hown12.form
    clear hown12 hnn12
    go_wp2_with fail
    refine (HC1.out _).mono ?_
    rintro e w13 ⟨rfl, rfl⟩
    go_wp2_with fail
    refine (HRL.out _).mono ?_
    clear HRL
    rintro e w14 ⟨v14, rfl, hown14, hb14⟩
    have hst14 := Strs.keep _ _ hst12 hb14
    clear hst12
    have hb14 := hb12.trans (hb14.mono hb12.size)
    clear hb12
    obtain ⟨t14, cap14, rfl, hcap14, hcm14, hst15, hnn14⟩ := hown14.form
    clear hown14 hnn14
    go_wp2_with fail
    refine (texts_any TT TT (by omega) (by omega) t12 t14 cap12 cap14 _ hst14 hst15 true (by simp)).mono ?_
    rintro e w16 ⟨rfl, hb16⟩
    have hb16 := hb14.trans (hb16.mono hb14.size)
    clear hb14
    clear hst14 hst15
    go_wp2_with fail
    go_ret
    exact ⟨by first | rfl | (simp; done), hb16⟩


set_option maxRecDepth 100000 in
theorem lifted (os : Os) (started : os.Started) (H : Type) (enc : TypeId × Value → H) :
    ReturnsInHanded {} Tryd.checked os 9 .any (fun w args => (Rows.fieldTextsSpec.pre enc Tryd.prog Tryd.f9 Rows.fieldTextsRow.domain false w args ∧ laidMetH Tryd.prog laidL w) ∧ sizedMet enc Tryd.prog Tryd.f9 (OpenSpec.ofChange Rows.fieldTextsSpec) false w args) (Rows.fieldTextsSpec.post enc Tryd.prog Tryd.f9 false true false false) := by
  refine returnsInHanded_of_change_and (C := Tryd.checked) (X := fun w _ => laidMetH Tryd.prog laidL w) (fun _ _ _ hh h => h.of_heap hh) own started (by kernel_rfl) Tryd.func9
    (ChangeSpec.witness_at (enc := enc) (C := Tryd.checked) (os := os) (X := fun w _ => laidMetH Tryd.prog laidL w) false (laidWorld os) #[.slice none 0 0, .string ⟨#[]⟩] 8 rfl (by kernel_rfl) (by kernel_rfl) (by kernel_rfl) (by kernel_rfl) (by kernel_rfl) (laidWorld_metH os _)) ?_
  intro W base args ds gs before hval0 hW hcnd _ hL _
  obtain ⟨sp, sq, hS⟩ := sents_of_laid hL
  have hval : ∀ (j : Nat) t v, Tryd.f9.params[j]? = some t → args[j]? = some v → Value.okWide Tryd.prog W .any base t v := hval0
  have hW' := hW
  obtain ⟨p, q, hA0, hV, rfl, hfz, hnd⟩ := hW
  have hA : DataW.TrodAll enc Tryd.prog W 0 (fun _ => true) true Tryd.f9.params.toList args.toList ds p := hA0
  rw [Tryd.params9] at hA hval
  obtain ⟨v0, vs0, d0, ds0, p0, q0, hargs, rfl, rfl, h0, r0⟩ := trodAll_cons hA
  obtain ⟨v1, vs1, d1, ds1, p1, q1, rfl, rfl, rfl, h1, r1⟩ := trodAll_cons r0
  obtain ⟨rfl, rfl, rfl⟩ := trodAll_nil r1
  obtain rfl : args = #[v0, v1] := by cases args; simp_all
  obtain ⟨rfl, rfl⟩ := trodVars_none hV
  have k0 := h0
  have lt0 : ∀ x ∈ p0, x.block < W.heap.size := by obtain ⟨m, hm⟩ := k0; exact DataW.trod_lt m _ _ _ hm
  obtain ⟨s0, L0, cap0, rfl, hE0, hN0, hl0, hc0, hn0⟩ := openStrs (hval 0 37 v0 rfl rfl) h0
  have k1 := h1
  have lt1 : ∀ x ∈ p1, x.block < W.heap.size := by obtain ⟨m, hm⟩ := k1; exact DataW.trod_lt m _ _ _ hm
  obtain ⟨s1, rfl, hs1⟩ := openStr (hval 1 9 v1 rfl rfl) h1
  clear hA0 hval0
  refine (walk s0 L0 cap0 hN0 hl0 hc0 hn0 s1 hs1 W hS hE0).mono fun e W' ⟨he, bel⟩ => ?_
  subst he
  exact ⟨_, rfl, _, _, _, [], _, [], hW', trodAll_mk1 (shut_bool Tryd.underlying4 _), (trodAll_cons_mk (Below.trod laidOut (by kernel_rfl) (of_decide_eq_true (by kernel_rfl)) k0 bel lt0) (trodAll_cons_mk (Below.trod laidOut (by kernel_rfl) (of_decide_eq_true (by kernel_rfl)) k1 bel lt1) trodAll_mk0)), rfl, bel.frame _, fun h => by cases h⟩

theorem over : Rows.fieldTextsRow.holds Tryd.pinned (OpenSpec.ofChange Rows.fieldTextsSpec) :=
  OpenClaim.holds_of_wide 9 Tryd.f9 rfl rfl rfl rfl rfl rfl rfl ⟨rfl, rfl, rfl, rfl, rfl⟩ rfl rfl rfl rfl rfl (by kernel_rfl) Tryd.func9 (by kernel_rfl)
    (of_decide_eq_true (by kernel_rfl)) (by unfold Func.isWrapper; first | (rw [if_pos (by decide +kernel)]; kernel_rfl) | (rw [if_neg (by decide +kernel)]; exact ⟨rfl, rfl⟩))
    (fun os started H enc _ => lifted os started H enc)

/-- THE STATEMENT -/
theorem proved : Rows.FieldTextsCardSaid :=
  Claim7.holds_tied_plain_at .later [] [.sentinel, .sentinel] true _ true over (fun _ h => by cases h) (by kernel_rfl) (fun _ h => by cases h) fieldTexts_row_tie rfl ⟨rfl, rfl⟩ (by kernel_rfl) rfl
    (fun f fn hf hfn => by
      obtain rfl : f = 9 := Option.some.inj ((show Tryd.prog.funcNamed "aviary/aviarylaw02.FieldTexts" = some 9 by kernel_rfl).symm.trans hf) |>.symm
      obtain rfl : fn = Tryd.f9 := (Option.some.inj (Tryd.func9.symm.trans hfn)).symm
      refine ⟨by kernel_rfl, fun j t ht => ?_⟩
      rw [Tryd.params9] at ht
      rcases j with _ | _ | j
      · obtain rfl : t = 37 := by simpa using ht.symm
        exact (show Tryd.prog.wantsStandIn 37 = false by kernel_rfl)
      · obtain rfl : t = 9 := by simpa using ht.symm
        exact (show Tryd.prog.wantsStandIn 9 = false by kernel_rfl)
      · simp at ht)
    (by kernel_rfl)
#print axioms proved
end Go.Proofs.YtadfecglbeimbaaDoor.fieldTexts
