/- FieldMore: for every number, list of texts (the first hundred and ten, of at most four hundred and ten bytes) and place, fewer bytes of a number's or a list's ask for more. No condition (the two sentinels of package field as the program's text lays them). -/
import Derived.Test.YtadfecglbeimbaaDoorCards
import Derived.Test.YtadfecglbeimbaaDoorTie
import Derived.Test.YtadfecglbeimbaaDoorLaid02
import Derived.Test.YtadfecglbeimbaaDoorOpenStrs
import Derived.SevenTiedAt
import Derived.JoinedOf
import Derived.ChangeSame
import Derived.ChangeVars
import Derived.Test.YtadfecglbeimbaaDoorShown02
import Derived.Test.YtadfecglbeimbaaDoorGetList
import Derived.Test.YtadfecglbeimbaaDoorFewStr
import Derived.Test.YtadfecglbeimbaaDoorMore02
import Derived.Test.YtadfecglbeimbaaDoorOpen
import Derived.WalkKit
import Derived.ProofKit
import Derived.OpenShut
import Derived.ShutString
import Derived.ChangeOld
import Derived.Below
namespace Go.Proofs.YtadfecglbeimbaaDoor.fieldMore
open Go.ChangeShapes Go.WideShapes Go.ChangeAt Go.RowKit Go.Joins
set_option linter.unusedVariables false

theorem own : ownKnob Tryd.prog.godebug = none := by kernel_rfl
theorem laidOut : laidOutB Tryd.prog = true := by kernel_rfl

set_option linter.unusedSimpArgs false
set_option maxRecDepth 100000 in
set_option maxHeartbeats 4000000 in
theorem walk (x0 : Int) (xa0 : 0 ≤ x0) (xb0 : x0 < 18446744073709551616) (s1 : Option Addr) (L1 : List ByteArray) (cap1 : Nat) (hN1 : ∀ x ∈ L1, x.size ≤ 9223372036854775807) (hl1 : L1.length ≤ cap1) (hc1 : cap1 ≤ 9223372036854775807) (hn1 : s1 = none → cap1 = 0) (n2 : Int) (na2 : -9223372036854775808 ≤ n2) (nb2 : n2 ≤ 9223372036854775807) (w : World) {sp sq : Addr} (hS : Sents sp sq w) (hE1 : Strs w s1 L1) :
    Calls Tryd.prog 8 #[.int .u64 x0, .slice s1 L1.length cap1, .int .i64 n2] w fun e w' => e = .returned (.bool true) ∧ Below w.heap.size w w' := by
  obtain ⟨n, rfl⟩ := Int.eq_ofNat_of_zero_le xa0
  obtain ⟨j, hj, hj9, HK1⟩ := more_num n
  have HXA := Lib.hid xa0
  have HXB := Lib.hid xb0
  clear xa0 xb0
  go_enter Tryd.func8, Tryd.ntmps8
  go_wp2_with fail
  refine (shown_any hS).mono ?_
  rintro e w1 ⟨rfl, hb1⟩
  go_wp2_with fail
  refine (put_any _ HXA.out HXB.out _).mono ?_
  clear HXA HXB
  rw [Int.toNat_natCast]
  rintro e w2 ⟨rfl, hb2⟩
  have hb2 := hb1.trans (hb2.mono hb1.size)
  clear hb1
  have hP : (putB n).size ≤ 9 := (putB_size n).2
  generalize putB n = P at *
  have hmin : min (1 : Int) (P.size : Int) = 1 := by omega
  have hj1 : (P.size : Int) - 1 = (j : Int) := by omega
  have hjl : j ≤ P.size := by omega
  have hxz : (P.extract 0 j).size = j := by simp; omega
  have HJ := Lib.hid hj
  clear hj
  go_wp2_with fail
  refine (get_any (hS.below (Nat.le_refl _) hb2) (P.extract 0 j) (by omega)).mono ?_
  rw [HK1.out]
  rintro e w3 ⟨rfl, hb3⟩
  have hb3 := hb2.trans (hb3.mono hb2.size)
  clear hb2
  generalize P.extract 0 j = X at *
  go_wp2_with fail
  refine (few_any L1 hN1 (by omega) s1 cap1 hl1 _ (hE1.below (Nat.le_refl _) hb3)).mono ?_
  rintro e w4 ⟨v, rfl, hown, hb4⟩
  have hb4 := hb3.trans (hb4.mono hb3.size)
  clear hb3
  obtain ⟨t1, cap2, rfl, hcap, hcm, hstrs, hnn⟩ := hown.form
  have hML := fewL_length L1
  have hMS := fewL_size L1
  clear hown hnn hN1 hE1 hn1
  generalize fewL L1 = M at *
  go_wp2_with fail
  refine (putList_any M (fun x hx => by have := hMS x hx; omega) (by omega) t1 cap2 _ hstrs).mono ?_
  unfold putListV
  by_cases hg : GoodL M
  · rw [if_pos hg]
    rintro e w5 ⟨rfl, hb5⟩
    have hb5 := hb4.trans (hb5.mono hb4.size)
    clear hb4
    have hAs := putListB_size M hg
    by_cases c1 : n2 < 0
    · generalize putListB M = A at *
      go_wp2_with fail
      go_ret
      exact ⟨rfl, hb5⟩
    obtain ⟨m, rfl⟩ := Int.eq_ofNat_of_zero_le (show 0 ≤ n2 by omega)
    clear c1 na2
    by_cases c2 : (putListB M).size ≤ m
    · generalize putListB M = A at *
      go_wp2_with fail
      go_ret
      exact ⟨rfl, hb5⟩
    have d2 : ¬ ((putListB M).size : Int) ≤ (m : Int) := by omega
    have d3 : m ≤ (putListB M).size := by omega
    have HK2 := Lib.hid (more_list M hg m (by omega))
    generalize putListB M = A at *
    have HS5 := hS.below (Nat.le_refl _) hb5
    have hm5 : m ≤ 50000 := by omega
    clear c2 nb2
    go_wp2_with fail
    have hAz : (A.extract 0 m).size ≤ 50000 := by simp; omega
    refine (getList_any HS5 (A.extract 0 m) (by omega)).mono ?_
    rw [HK2.out]
    simp only [restS, noS, txtsS]
    rintro e w6 ⟨v6, rfl, -, hb6⟩
    have hb6 := hb5.trans (hb6.mono hb5.size)
    clear hb5
    go_wp2_with fail
    go_ret
    exact ⟨by first | rfl | (simp; done), hb6⟩
  · rw [if_neg hg]
    rintro e w5 ⟨rfl, hb5⟩
    have hb5 := hb4.trans (hb5.mono hb4.size)
    clear hb4
    go_wp2_with fail
    go_ret
    exact ⟨rfl, hb5⟩


set_option maxRecDepth 100000 in
theorem lifted (os : Os) (started : os.Started) (H : Type) (enc : TypeId × Value → H) :
    ReturnsInHanded {} Tryd.checked os 8 .any (fun w args => (Rows.fieldMoreSpec.pre enc Tryd.prog Tryd.f8 Rows.fieldMoreRow.domain false w args ∧ laidMetH Tryd.prog laidL w) ∧ sizedMet enc Tryd.prog Tryd.f8 (OpenSpec.ofChange Rows.fieldMoreSpec) false w args) (Rows.fieldMoreSpec.post enc Tryd.prog Tryd.f8 false true false false) := by
  refine returnsInHanded_of_change_and (C := Tryd.checked) (X := fun w _ => laidMetH Tryd.prog laidL w) (fun _ _ _ hh h => h.of_heap hh) own started (by kernel_rfl) Tryd.func8
    (ChangeSpec.witness_at (enc := enc) (C := Tryd.checked) (os := os) (X := fun w _ => laidMetH Tryd.prog laidL w) false (laidWorld os) #[.int .u64 0, .slice none 0 0, .int .i64 0] 8 rfl (by kernel_rfl) (by kernel_rfl) (by kernel_rfl) (by kernel_rfl) (by kernel_rfl) (laidWorld_metH os _)) ?_
  intro W base args ds gs before hval0 hW hcnd _ hL _
  obtain ⟨sp, sq, hS⟩ := sents_of_laid hL
  have hval : ∀ (j : Nat) t v, Tryd.f8.params[j]? = some t → args[j]? = some v → Value.okWide Tryd.prog W .any base t v := hval0
  have hW' := hW
  obtain ⟨p, q, hA0, hV, rfl, hfz, hnd⟩ := hW
  have hA : DataW.TrodAll enc Tryd.prog W 0 (fun _ => true) true Tryd.f8.params.toList args.toList ds p := hA0
  rw [Tryd.params8] at hA hval
  obtain ⟨v0, vs0, d0, ds0, p0, q0, hargs, rfl, rfl, h0, r0⟩ := trodAll_cons hA
  obtain ⟨v1, vs1, d1, ds1, p1, q1, rfl, rfl, rfl, h1, r1⟩ := trodAll_cons r0
  obtain ⟨v2, vs2, d2, ds2, p2, q2, rfl, rfl, rfl, h2, r2⟩ := trodAll_cons r1
  obtain ⟨rfl, rfl, rfl⟩ := trodAll_nil r2
  obtain rfl : args = #[v0, v1, v2] := by cases args; simp_all
  obtain ⟨rfl, rfl⟩ := trodVars_none hV
  have k0 := h0
  have lt0 : ∀ x ∈ p0, x.block < W.heap.size := by obtain ⟨m, hm⟩ := k0; exact DataW.trod_lt m _ _ _ hm
  obtain ⟨x0, rfl, xa0, xb0⟩ := openU64i (hval 0 22 v0 rfl rfl) h0
  have k1 := h1
  have lt1 : ∀ x ∈ p1, x.block < W.heap.size := by obtain ⟨m, hm⟩ := k1; exact DataW.trod_lt m _ _ _ hm
  obtain ⟨s1, L1, cap1, rfl, hE1, hN1, hl1, hc1, hn1⟩ := openStrs (hval 1 37 v1 rfl rfl) h1
  have k2 := h2
  have lt2 : ∀ x ∈ p2, x.block < W.heap.size := by obtain ⟨m, hm⟩ := k2; exact DataW.trod_lt m _ _ _ hm
  obtain ⟨n2, rfl, na2, nb2⟩ := openInt (hval 2 3 v2 rfl rfl) h2
  clear hA0 hval0
  refine (walk x0 xa0 xb0 s1 L1 cap1 hN1 hl1 hc1 hn1 n2 na2 nb2 W hS hE1).mono fun e W' ⟨he, bel⟩ => ?_
  subst he
  exact ⟨_, rfl, _, _, _, [], _, [], hW', trodAll_mk1 (shut_bool Tryd.underlying4 _), (trodAll_cons_mk (Below.trod laidOut (by kernel_rfl) (of_decide_eq_true (by kernel_rfl)) k0 bel lt0) (trodAll_cons_mk (Below.trod laidOut (by kernel_rfl) (of_decide_eq_true (by kernel_rfl)) k1 bel lt1) (trodAll_cons_mk (Below.trod laidOut (by kernel_rfl) (of_decide_eq_true (by kernel_rfl)) k2 bel lt2) trodAll_mk0))), rfl, bel.frame _, fun h => by cases h⟩

theorem over : Rows.fieldMoreRow.holds Tryd.pinned (OpenSpec.ofChange Rows.fieldMoreSpec) :=
  OpenClaim.holds_of_wide 8 Tryd.f8 rfl rfl rfl rfl rfl rfl rfl ⟨rfl, rfl, rfl, rfl, rfl⟩ rfl rfl rfl rfl rfl (by kernel_rfl) Tryd.func8 (by kernel_rfl)
    (of_decide_eq_true (by kernel_rfl)) (by unfold Func.isWrapper; first | (rw [if_pos (by decide +kernel)]; kernel_rfl) | (rw [if_neg (by decide +kernel)]; exact ⟨rfl, rfl⟩))
    (fun os started H enc _ => lifted os started H enc)

/-- THE STATEMENT -/
theorem proved : Rows.FieldMoreCardSaid :=
  Claim7.holds_tied_plain_at .later [] [.sentinel, .sentinel] true _ true over (fun _ h => by cases h) (by kernel_rfl) (fun _ h => by cases h) fieldMore_row_tie rfl ⟨rfl, rfl⟩ (by kernel_rfl) rfl
    (fun f fn hf hfn => by
      obtain rfl : f = 8 := Option.some.inj ((show Tryd.prog.funcNamed "aviary/aviarylaw02.FieldMore" = some 8 by kernel_rfl).symm.trans hf) |>.symm
      obtain rfl : fn = Tryd.f8 := (Option.some.inj (Tryd.func8.symm.trans hfn)).symm
      refine ⟨by kernel_rfl, fun j t ht => ?_⟩
      rw [Tryd.params8] at ht
      rcases j with _ | _ | _ | j
      · obtain rfl : t = 22 := by simpa using ht.symm
        exact (show Tryd.prog.wantsStandIn 22 = false by kernel_rfl)
      · obtain rfl : t = 37 := by simpa using ht.symm
        exact (show Tryd.prog.wantsStandIn 37 = false by kernel_rfl)
      · obtain rfl : t = 3 := by simpa using ht.symm
        exact (show Tryd.prog.wantsStandIn 3 = false by kernel_rfl)
      · simp at ht)
    (by kernel_rfl)
#print axioms proved
end Go.Proofs.YtadfecglbeimbaaDoor.fieldMore
