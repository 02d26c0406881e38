/- FieldBack: for every number, text (its first four hundred bytes) and bytes (the first three thousand), numbers, texts and their bytes are one to one, whatever stands behind. No condition (the two sentinels of package field as the program's text lays them). -/
import Derived.Test.YtadfecglbeimbaaDoorCards
import Derived.Test.YtadfecglbeimbaaDoorTie
import Derived.Test.YtadfecglbeimbaaDoorLaid02
import Derived.Test.YtadfecglbeimbaaDoorOpenStrs
import Derived.SevenTiedAt
import Derived.JoinedOf
import Derived.ChangeSame
import Derived.ChangeVars
import Derived.Test.YtadfecglbeimbaaDoorShown02
import Derived.Test.YtadfecglbeimbaaDoorBack02
import Derived.Test.YtadfecglbeimbaaDoorOpen
import Derived.WalkKit
import Derived.ProofKit
import Derived.OpenShut
import Derived.ShutString
import Derived.ChangeOld
import Derived.Below
namespace Go.Proofs.YtadfecglbeimbaaDoor.fieldBack
open Go.ChangeShapes Go.WideShapes Go.ChangeAt Go.RowKit Go.Joins
set_option linter.unusedVariables false

theorem own : ownKnob Tryd.prog.godebug = none := by kernel_rfl
theorem laidOut : laidOutB Tryd.prog = true := by kernel_rfl

set_option linter.unusedSimpArgs false
set_option maxRecDepth 100000 in
set_option maxHeartbeats 2000000 in
theorem walk (x0 : Int) (xa0 : 0 ≤ x0) (xb0 : x0 < 18446744073709551616) (s1 : ByteArray) (hs1 : s1.size ≤ 9223372036854775807) (s2 : ByteArray) (hs2 : s2.size ≤ 9223372036854775807) (w : World) {sp sq : Addr} (hS : Sents sp sq w) :
    Calls Tryd.prog 6 #[.int .u64 x0, .string s1, .string s2] w fun e w' => e = .returned (.bool true) ∧ Below w.heap.size w w' := by
  obtain ⟨n, rfl⟩ := Int.eq_ofNat_of_zero_le xa0
  have hn : n < 18446744073709551616 := by omega
  have hpl := put_length n
  have hps := Lib.hid (putB_len n)
  have hp9 : (putB n).size ≤ 9 := by rw [hps.out]; exact hpl.2
  have HP1 : Hid ((1 : Int) ≤ ((putB n).size : Int)) := by show _ ≤ _; rw [hps.out]; omega
  have HP9 : Hid (((putB n).size : Int) ≤ 9) := by show _ ≤ _; rw [hps.out]; omega
  clear hpl hps
  obtain ⟨m, hm, hm4, hms⟩ : ∃ m : Nat, min (s1.size : Int) 400 = (m : Int) ∧ m ≤ 400 ∧ m ≤ s1.size := ⟨min s1.size 400, by omega, by omega, by omega⟩
  have hc2 := cutB_size s2
  have HC2 := Lib.hid (cut_any s2 hs2)
  generalize cutB s2 = c at *
  have hts : (s1.extract 0 m).size ≤ 400 := by simp; omega
  go_enter Tryd.func6, Tryd.ntmps6
  go_wp2_with fail
  refine (shown_any hS).mono ?_
  rintro e w1 ⟨rfl, hb1⟩
  go_wp2_with fail
  generalize s1.extract 0 m = t at *
  clear hm
  have XA := Lib.hid xa0
  have XB := Lib.hid xb0
  have HN64 := Lib.hid hn
  clear xa0 xb0 hs1 hs2
  have HK1 := Lib.hid (get_cat n hn c)
  clear hn
  have HK2 : Hid (putTextV t = .tuple #[.string ⟨(putTextL t.data.toList).toArray⟩, .int .i64 0]) := by show _ = _; unfold putTextV; rw [if_neg (by omega)]
  have HK3 := Lib.hid (text_cat t c hts)
  have hz1 : Hid ((putB n ++ c).size ≤ 9223372036854775807) := by show _ ≤ _; simp; omega
  have hbz : (⟨(putTextL t.data.toList).toArray⟩ : ByteArray).size ≤ 500 := by
    have := put_length t.data.toList.length
    show (putTextL t.data.toList).toArray.size ≤ _
    simp [putTextL] at *
    omega
  generalize (⟨(putTextL t.data.toList).toArray⟩ : ByteArray) = b at *
  refine (put_any _ XA.out XB.out _).mono ?_
  rw [Int.toNat_natCast]
  rintro e w2 ⟨rfl, hb2⟩
  have hb2 := hb1.trans (hb2.mono hb1.size)
  clear hb1
  go_wp2_with fail
  refine (HC2.out _).mono ?_
  rintro e w3 ⟨rfl, rfl⟩
  go_wp2_with fail
  refine (get_any (hS.below (Nat.le_refl _) hb2) _ hz1.out).mono ?_
  rw [HK1.out]
  rintro e w4 ⟨rfl, hb4⟩
  have hb4 := hb2.trans (hb4.mono hb2.size)
  clear hb2
  go_wp2_with fail
  refine (putText_any t (by omega) _).mono ?_
  rw [HK2.out]
  rintro e w5 ⟨rfl, hb5⟩
  have hb5 := hb4.trans (hb5.mono hb4.size)
  clear hb4
  go_wp2_with fail
  refine (HC2.out _).mono ?_
  rintro e w6 ⟨rfl, rfl⟩
  go_wp2_with fail
  refine (getText_any (hS.below (Nat.le_refl _) hb5) _ (by simp; omega)).mono ?_
  rw [HK3.out]
  rintro e w7 ⟨rfl, hb7⟩
  have hb7 := hb5.trans (hb7.mono hb5.size)
  clear hb5
  go_wp2_with fail
  refine (HC2.out _).mono ?_
  rintro e w8 ⟨rfl, rfl⟩
  go_wp2_with fail
  refine (get_any (hS.below (Nat.le_refl _) hb7) c (by omega)).mono ?_
  have HB := Lib.hid (back_cat c)
  have HBk := Lib.hid (getL_back c.data.toList)
  generalize getL c.data.toList = g at *
  cases g with
  | more =>
    simp only [getV, numOf, leftOf, noOf]
    rintro e w9 ⟨rfl, hb9⟩
    have hb9 := hb7.trans (hb9.mono hb7.size)
    clear hb7
    go_wp2_with fail
    refine (HC2.out _).mono ?_
    rintro e w8 ⟨rfl, rfl⟩
    go_wp2_with fail
    refine (HC2.out _).mono ?_
    rintro e w8 ⟨rfl, rfl⟩
    go_wp2_with fail
    refine (put_any _ XA.out XB.out _).mono ?_
    rw [Int.toNat_natCast]
    rintro e w11 ⟨rfl, hb11⟩
    have hb11 := hb9.trans (hb11.mono hb9.size)
    clear hb9 hp9
    have hp1 := HP1.out
    have hp9 := HP9.out
    go_wp2_with fail
    refine (put_any _ XA.out XB.out _).mono ?_
    rw [Int.toNat_natCast]
    rintro e w12 ⟨rfl, hb12⟩
    have hb12 := hb11.trans (hb12.mono hb11.size)
    clear hb11
    go_wp2_with fail
    go_ret
    exact ⟨by first | rfl | (simp; done), hb12⟩
  | field =>
    simp only [getV, numOf, leftOf, noOf]
    rintro e w9 ⟨rfl, hb9⟩
    have hb9 := hb7.trans (hb9.mono hb7.size)
    clear hb7
    go_wp2_with fail
    refine (HC2.out _).mono ?_
    rintro e w8 ⟨rfl, rfl⟩
    go_wp2_with fail
    refine (HC2.out _).mono ?_
    rintro e w8 ⟨rfl, rfl⟩
    go_wp2_with fail
    refine (put_any _ XA.out XB.out _).mono ?_
    rw [Int.toNat_natCast]
    rintro e w11 ⟨rfl, hb11⟩
    have hb11 := hb9.trans (hb11.mono hb9.size)
    clear hb9 hp9
    have hp1 := HP1.out
    have hp9 := HP9.out
    go_wp2_with fail
    refine (put_any _ XA.out XB.out _).mono ?_
    rw [Int.toNat_natCast]
    rintro e w12 ⟨rfl, hb12⟩
    have hb12 := hb11.trans (hb12.mono hb11.size)
    clear hb11
    go_wp2_with fail
    go_ret
    exact ⟨by first | rfl | (simp; done), hb12⟩
  | ok d r =>
    have hbk := HB.out d r rfl
    obtain ⟨-, hd64, hrl⟩ := HBk.out d r rfl
    have HD := Lib.hid hd64
    clear hd64
    simp only [getV, numOf, leftOf, noOf]
    have hxz : (⟨r.toArray⟩ : ByteArray).size ≤ 3000 := by
      show r.toArray.size ≤ 3000
      simp at *
      omega
    generalize (⟨r.toArray⟩ : ByteArray) = xb at *
    have hpd : (putB d).size ≤ 9 := (putB_size d).2
    clear hrl
    rintro e w10 ⟨rfl, hb10⟩
    have hb10 := hb7.trans (hb10.mono hb7.size)
    clear hb7
    go_wp2_with fail
    refine (put_any _ (Int.natCast_nonneg _) (by have := HD.out; omega) _).mono ?_
    rw [Int.toNat_natCast]
    rintro e w9 ⟨rfl, hb9⟩
    have hb9 := hb10.trans (hb9.mono hb10.size)
    clear hb10
    go_wp2_with fail
    refine (HC2.out _).mono ?_
    rintro e w8 ⟨rfl, rfl⟩
    go_wp2_with fail
    refine (HC2.out _).mono ?_
    rintro e w8 ⟨rfl, rfl⟩
    go_wp2_with fail
    refine (HC2.out _).mono ?_
    rintro e w8 ⟨rfl, rfl⟩
    go_wp2_with fail
    refine (put_any _ XA.out XB.out _).mono ?_
    rw [Int.toNat_natCast]
    rintro e w11 ⟨rfl, hb11⟩
    have hb11 := hb9.trans (hb11.mono hb9.size)
    clear hb9 hp9
    have hp1 := HP1.out
    have hp9 := HP9.out
    go_wp2_with fail
    refine (put_any _ XA.out XB.out _).mono ?_
    rw [Int.toNat_natCast]
    rintro e w12 ⟨rfl, hb12⟩
    have hb12 := hb11.trans (hb12.mono hb11.size)
    clear hb11
    go_wp2_with fail
    go_ret
    exact ⟨by first | rfl | (simp; done), hb12⟩


set_option maxRecDepth 100000 in
theorem lifted (os : Os) (started : os.Started) (H : Type) (enc : TypeId × Value → H) :
    ReturnsInHanded {} Tryd.checked os 6 .any (fun w args => (Rows.fieldBackSpec.pre enc Tryd.prog Tryd.f6 Rows.fieldBackRow.domain false w args ∧ laidMetH Tryd.prog laidL w) ∧ sizedMet enc Tryd.prog Tryd.f6 (OpenSpec.ofChange Rows.fieldBackSpec) false w args) (Rows.fieldBackSpec.post enc Tryd.prog Tryd.f6 false true false false) := by
  refine returnsInHanded_of_change_and (C := Tryd.checked) (X := fun w _ => laidMetH Tryd.prog laidL w) (fun _ _ _ hh h => h.of_heap hh) own started (by kernel_rfl) Tryd.func6
    (ChangeSpec.witness_at (enc := enc) (C := Tryd.checked) (os := os) (X := fun w _ => laidMetH Tryd.prog laidL w) false (laidWorld os) #[.int .u64 0, .string ⟨#[]⟩, .string ⟨#[]⟩] 8 rfl (by kernel_rfl) (by kernel_rfl) (by kernel_rfl) (by kernel_rfl) (by kernel_rfl) (laidWorld_metH os _)) ?_
  intro W base args ds gs before hval0 hW hcnd _ hL _
  obtain ⟨sp, sq, hS⟩ := sents_of_laid hL
  have hval : ∀ (j : Nat) t v, Tryd.f6.params[j]? = some t → args[j]? = some v → Value.okWide Tryd.prog W .any base t v := hval0
  have hW' := hW
  obtain ⟨p, q, hA0, hV, rfl, hfz, hnd⟩ := hW
  have hA : DataW.TrodAll enc Tryd.prog W 0 (fun _ => true) true Tryd.f6.params.toList args.toList ds p := hA0
  rw [Tryd.params6] at hA hval
  obtain ⟨v0, vs0, d0, ds0, p0, q0, hargs, rfl, rfl, h0, r0⟩ := trodAll_cons hA
  obtain ⟨v1, vs1, d1, ds1, p1, q1, rfl, rfl, rfl, h1, r1⟩ := trodAll_cons r0
  obtain ⟨v2, vs2, d2, ds2, p2, q2, rfl, rfl, rfl, h2, r2⟩ := trodAll_cons r1
  obtain ⟨rfl, rfl, rfl⟩ := trodAll_nil r2
  obtain rfl : args = #[v0, v1, v2] := by cases args; simp_all
  obtain ⟨rfl, rfl⟩ := trodVars_none hV
  have k0 := h0
  have lt0 : ∀ x ∈ p0, x.block < W.heap.size := by obtain ⟨m, hm⟩ := k0; exact DataW.trod_lt m _ _ _ hm
  obtain ⟨x0, rfl, xa0, xb0⟩ := openU64i (hval 0 22 v0 rfl rfl) h0
  have k1 := h1
  have lt1 : ∀ x ∈ p1, x.block < W.heap.size := by obtain ⟨m, hm⟩ := k1; exact DataW.trod_lt m _ _ _ hm
  obtain ⟨s1, rfl, hs1⟩ := openStr (hval 1 9 v1 rfl rfl) h1
  have k2 := h2
  have lt2 : ∀ x ∈ p2, x.block < W.heap.size := by obtain ⟨m, hm⟩ := k2; exact DataW.trod_lt m _ _ _ hm
  obtain ⟨s2, rfl, hs2⟩ := openStr (hval 2 9 v2 rfl rfl) h2
  clear hA0 hval0
  refine (walk x0 xa0 xb0 s1 hs1 s2 hs2 W hS ).mono fun e W' ⟨he, bel⟩ => ?_
  subst he
  exact ⟨_, rfl, _, _, _, [], _, [], hW', trodAll_mk1 (shut_bool Tryd.underlying4 _), (trodAll_cons_mk (Below.trod laidOut (by kernel_rfl) (of_decide_eq_true (by kernel_rfl)) k0 bel lt0) (trodAll_cons_mk (Below.trod laidOut (by kernel_rfl) (of_decide_eq_true (by kernel_rfl)) k1 bel lt1) (trodAll_cons_mk (Below.trod laidOut (by kernel_rfl) (of_decide_eq_true (by kernel_rfl)) k2 bel lt2) trodAll_mk0))), rfl, bel.frame _, fun h => by cases h⟩

theorem over : Rows.fieldBackRow.holds Tryd.pinned (OpenSpec.ofChange Rows.fieldBackSpec) :=
  OpenClaim.holds_of_wide 6 Tryd.f6 rfl rfl rfl rfl rfl rfl rfl ⟨rfl, rfl, rfl, rfl, rfl⟩ rfl rfl rfl rfl rfl (by kernel_rfl) Tryd.func6 (by kernel_rfl)
    (of_decide_eq_true (by kernel_rfl)) (by unfold Func.isWrapper; first | (rw [if_pos (by decide +kernel)]; kernel_rfl) | (rw [if_neg (by decide +kernel)]; exact ⟨rfl, rfl⟩))
    (fun os started H enc _ => lifted os started H enc)

/-- THE STATEMENT -/
theorem proved : Rows.FieldBackCardSaid :=
  Claim7.holds_tied_plain_at .later [] [.sentinel, .sentinel] true _ true over (fun _ h => by cases h) (by kernel_rfl) (fun _ h => by cases h) fieldBack_row_tie rfl ⟨rfl, rfl⟩ (by kernel_rfl) rfl
    (fun f fn hf hfn => by
      obtain rfl : f = 6 := Option.some.inj ((show Tryd.prog.funcNamed "aviary/aviarylaw02.FieldBack" = some 6 by kernel_rfl).symm.trans hf) |>.symm
      obtain rfl : fn = Tryd.f6 := (Option.some.inj (Tryd.func6.symm.trans hfn)).symm
      refine ⟨by kernel_rfl, fun j t ht => ?_⟩
      rw [Tryd.params6] at ht
      rcases j with _ | _ | _ | j
      · obtain rfl : t = 22 := by simpa using ht.symm
        exact (show Tryd.prog.wantsStandIn 22 = false by kernel_rfl)
      · obtain rfl : t = 9 := by simpa using ht.symm
        exact (show Tryd.prog.wantsStandIn 9 = false by kernel_rfl)
      · obtain rfl : t = 9 := by simpa using ht.symm
        exact (show Tryd.prog.wantsStandIn 9 = false by kernel_rfl)
      · simp at ht)
    (by kernel_rfl)
#print axioms proved
end Go.Proofs.YtadfecglbeimbaaDoor.fieldBack
