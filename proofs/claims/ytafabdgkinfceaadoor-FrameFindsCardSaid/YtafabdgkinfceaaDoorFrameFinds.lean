/- FrameFinds: for every bytes (1 to 2000), place (from the end: 0 on) and change (1 to 255), one byte of a frame's content or check that is another one is found. No condition (the listed package-level variables as the program's text lays them). -/
import Derived.Test.YtafabdgkinfceaaDoorCards
import Derived.Test.YtafabdgkinfceaaDoorTie
import Derived.Test.YtafabdgkinfceaaDoorLaid03
import Derived.Test.YtafabdgkinfceaaDoorOpenStrs
import Derived.SevenTiedAt
import Derived.JoinedOf
import Derived.ChangeSame
import Derived.ChangeVars
import Derived.Test.YtafabdgkinfceaaDoorFrmL
import Derived.Test.YtafabdgkinfceaaDoorOpenByte
import Derived.Test.YtafabdgkinfceaaDoorOpen
import Derived.WalkKit
import Derived.ProofKit
import Derived.OpenShut
import Derived.ShutString
import Derived.ChangeOld
import Derived.Below
namespace Go.Proofs.YtafabdgkinfceaaDoor.frameFinds
open Go.ChangeShapes Go.WideShapes Go.ChangeAt Go.RowKit Go.Joins
set_option linter.unusedVariables false

theorem own : ownKnob Tryd.prog.godebug = none := by kernel_rfl
theorem laidOut : laidOutB Tryd.prog = true := by kernel_rfl

set_option linter.unusedSimpArgs false
set_option maxRecDepth 100000 in
set_option maxHeartbeats 4000000 in
theorem walk (s0 : ByteArray) (hs0 : s0.size ≤ 9223372036854775807) (n1 : Int) (na1 : -9223372036854775808 ≤ n1) (nb1 : n1 ≤ 9223372036854775807) (x2 : Nat) (xb2 : x2 < 256) (w : World) {sp sq : Addr} (hS : Snt sp sq w) :
    Calls Tryd.prog 5 #[.string s0, .int .i64 n1, .int .u8 x2] w fun e w' => e = .returned (.bool true) ∧ Below w.heap.size w w' := by
  have HC := Lib.hid (cut_any s0 hs0)
  have hcz := cut3_size s0
  have HC0 : Hid ((cut3 s0).size = 0 → s0.size = 0) := cut3_zero s0
  generalize cut3 s0 = c at *
  have HM := Lib.hid (make_any c (by omega))
  clear hs0
  by_cases h : c.size = 0 ∨ 2000 < c.size
  · rw [makeV_no h] at HM
    clear h
    go_enter Tryd.func5, Tryd.ntmps5
    go_wp2_with fail
    refine (shown_any hS).mono ?_
    rintro e w1 ⟨rfl, hb1⟩
    go_wp2_with fail
    refine (HC.out _).mono ?_
    rintro e w9 ⟨rfl, rfl⟩
    go_wp2_with fail
    refine (HM.out _).mono ?_
    rintro e w2 ⟨rfl, hb2⟩
    have hb2 := hb1.trans (hb2.mono hb1.size)
    clear hb1
    go_wp2_with fail
    go_ret
    exact ⟨by first | rfl | (simp; done) | (simp; omega), hb2⟩
  rw [makeV_ok h] at HM
  have hF := frmB_size c
  have hp := putB_size c.size
  by_cases h1 : n1 < 0
  · clear h hF hp
    generalize frmB c = F at *
    go_enter Tryd.func5, Tryd.ntmps5
    go_wp2_with fail
    refine (shown_any hS).mono ?_
    rintro e w1 ⟨rfl, hb1⟩
    go_wp2_with fail
    refine (HC.out _).mono ?_
    rintro e w9 ⟨rfl, rfl⟩
    go_wp2_with fail
    refine (HM.out _).mono ?_
    rintro e w2 ⟨rfl, hb2⟩
    have hb2 := hb1.trans (hb2.mono hb1.size)
    clear hb1
    go_wp2_with fail
    go_ret
    exact ⟨by first | rfl | (simp; done) | (simp; omega), hb2⟩
  obtain ⟨j, rfl⟩ := Int.eq_ofNat_of_zero_le (show 0 ≤ n1 by omega)
  by_cases h2 : c.size + 4 ≤ j
  · clear h hF hp
    generalize frmB c = F at *
    go_enter Tryd.func5, Tryd.ntmps5
    go_wp2_with fail
    refine (shown_any hS).mono ?_
    rintro e w1 ⟨rfl, hb1⟩
    go_wp2_with fail
    refine (HC.out _).mono ?_
    rintro e w9 ⟨rfl, rfl⟩
    go_wp2_with fail
    refine (HM.out _).mono ?_
    rintro e w2 ⟨rfl, hb2⟩
    have hb2 := hb1.trans (hb2.mono hb1.size)
    clear hb1
    go_wp2_with fail
    refine (HC.out _).mono ?_
    rintro e w9 ⟨rfl, rfl⟩
    go_wp2_with fail
    go_ret
    exact ⟨by first | rfl | (simp; done) | (simp; omega), hb2⟩
  by_cases h0 : x2 = 0
  · subst h0
    clear h hF hp
    generalize frmB c = F at *
    go_enter Tryd.func5, Tryd.ntmps5
    go_wp2_with fail
    refine (shown_any hS).mono ?_
    rintro e w1 ⟨rfl, hb1⟩
    go_wp2_with fail
    refine (HC.out _).mono ?_
    rintro e w9 ⟨rfl, rfl⟩
    go_wp2_with fail
    refine (HM.out _).mono ?_
    rintro e w2 ⟨rfl, hb2⟩
    have hb2 := hb1.trans (hb2.mono hb1.size)
    clear hb1
    go_wp2_with fail
    refine (HC.out _).mono ?_
    rintro e w9 ⟨rfl, rfl⟩
    go_wp2_with fail
    go_ret
    exact ⟨by first | rfl | (simp; done) | (simp; omega), hb2⟩
  have hx0 : ((x2 : Int) == 0) = false := by rw [beq_eq_false_iff_ne]; omega
  obtain ⟨k, hk1, hk2⟩ : ∃ k : Nat, ((frmB c).size : Int) - 1 - (j : Int) = (k : Int) ∧ (frmB c).size = k + 1 + j := ⟨(frmB c).size - 1 - j, by omega, by omega⟩
  have hy := frm_turn c h k (by omega) (by omega) ((frmB c).data.toList.getD k 0 ^^^ UInt8.ofNat x2) (xor_ne _ _ (by
    intro e
    have := congrArg UInt8.toNat e
    simp at this
    omega))
  have hFz : (frmB c).size ≤ 3000 := by omega
  have hlen : (frmB c).data.toList.length = (frmB c).size := by simp
  have hjF : j < (frmB c).size := by omega
  have hkF : k < (frmB c).size := by omega
  have HS : Hid (turnB (frmB c) k ((frmB c).data.toList.getD k 0 ^^^ UInt8.ofNat x2) = ⟨((frmB c).data.toList.set k ((frmB c).data.toList.getD k 0 ^^^ UInt8.ofNat x2)).toArray⟩) := rfl
  have HR := Lib.hid (fun (w : World) (h : Snt sp sq w) => fread_any h (turnB (frmB c) k ((frmB c).data.toList.getD k 0 ^^^ UInt8.ofNat x2)) (by show (List.set _ _ _).toArray.size ≤ _; rw [List.size_toArray, List.length_set, hlen]; omega))
  rw [hy] at HR
  have hjm : (frmB c).data.toList[k]? = some ((frmB c).data.toList.getD k 0) := by simp [List.getD, List.getElem?_eq_getElem (show k < (frmB c).data.toList.length by omega)]
  have HJM := Lib.hid hjm
  clear hy hjm hk2 hF h hp
  have HX := Lib.hid (fun W => Bts.set (W := W) (g := W.heap.size) (l := (frmB c).data.toList))
  generalize turnB (frmB c) k ((frmB c).data.toList.getD k 0 ^^^ UInt8.ofNat x2) = R at *
  have HL := Lib.hid hlen
  clear hlen HX
  generalize frmB c = F at *
  have hx8 : bits .xor .u8 (((F.data.toList.getD k 0).toNat : Nat) : Int) (x2 : Int) = ((F.data.toList.getD k 0 ^^^ UInt8.ofNat x2).toNat : Int) := by
    have := xor_u8 (F.data.toList.getD k 0) x2
    rwa [Int.emod_eq_of_lt (by omega) (by omega)] at this
  generalize F.data.toList.getD k 0 = y at *
  generalize y ^^^ UInt8.ofNat x2 = z at *
  go_enter Tryd.func5, Tryd.ntmps5
  go_wp2_with fail
  refine (shown_any hS).mono ?_
  rintro e w1 ⟨rfl, hb1⟩
  go_wp2_with fail
  refine (HC.out _).mono ?_
  rintro e w9 ⟨rfl, rfl⟩
  go_wp2_with fail
  refine (HM.out _).mono ?_
  rintro e w2 ⟨rfl, hb2⟩
  have hb2 := hb1.trans (hb2.mono hb1.size)
  clear hb1
  go_wp2_with fail
  refine (HC.out _).mono ?_
  rintro e w9 ⟨rfl, rfl⟩
  obtain ⟨W1, cap, hcv, hB, hB1⟩ := bytes_made w9 F
  have ce := hB.cell k y HJM.out
  have fr := hB.free k (by rw [HL.out]; exact hkF)
  have hB2 := hB.set k (by rw [HL.out]; exact hkF) z
  have hcv2 := hB2.conv F.size cap (by rw [List.length_set, HL.out])
  rw [← HS.out] at hcv2
  have hb3 := (hb2.trans (hB1.mono hb2.size)).setCell (p := ⟨w9.heap.size, k, none⟩) hb2.size (.int .u8 ((z.toNat : Nat) : Int))
  go_wp2_with fail
  refine (HR.out _ (hS.below hb3)).mono ?_
  rintro e w5 ⟨rfl, hb5⟩
  have hcv3 := (Bts.keep _ _ hB2 hb5).conv F.size cap (by rw [List.length_set, HL.out])
  rw [← HS.out] at hcv3
  have hb5 := hb3.trans (hb5.mono hb3.size)
  clear hcv hcv2 ce fr hb3 hb2
  go_wp2_with fail
  go_ret
  exact ⟨by first | rfl | (simp; done), hb5⟩


set_option maxRecDepth 100000 in
theorem lifted (os : Os) (started : os.Started) (H : Type) (enc : TypeId × Value → H) :
    ReturnsInHanded {} Tryd.checked os 5 .any (fun w args => (Rows.frameFindsSpec.pre enc Tryd.prog Tryd.f5 Rows.frameFindsRow.domain false w args ∧ laidMetH Tryd.prog laidL w) ∧ sizedMet enc Tryd.prog Tryd.f5 (OpenSpec.ofChange Rows.frameFindsSpec) false w args) (Rows.frameFindsSpec.post enc Tryd.prog Tryd.f5 false true false false) := by
  refine returnsInHanded_of_change_and (C := Tryd.checked) (X := fun w _ => laidMetH Tryd.prog laidL w) (fun _ _ _ hh h => h.of_heap hh) own started (by kernel_rfl) Tryd.func5
    (ChangeSpec.witness_at (enc := enc) (C := Tryd.checked) (os := os) (X := fun w _ => laidMetH Tryd.prog laidL w) false (laidWorld os) #[.string ⟨#[]⟩, .int .i64 0, .int .u8 0] 8 rfl (by kernel_rfl) (by kernel_rfl) (by kernel_rfl) (by kernel_rfl) (by kernel_rfl) (laidWorld_metH os _)) ?_
  intro W base args ds gs before hval0 hW hcnd _ hL _
  obtain ⟨sp, sq, hS⟩ := snt_of_laid hL
  have hval : ∀ (j : Nat) t v, Tryd.f5.params[j]? = some t → args[j]? = some v → Value.okWide Tryd.prog W .any base t v := hval0
  have hW' := hW
  obtain ⟨p, q, hA0, hV, rfl, hfz, hnd⟩ := hW
  have hA : DataW.TrodAll enc Tryd.prog W 0 (fun _ => true) true Tryd.f5.params.toList args.toList ds p := hA0
  rw [Tryd.params5] at hA hval
  obtain ⟨v0, vs0, d0, ds0, p0, q0, hargs, rfl, rfl, h0, r0⟩ := trodAll_cons hA
  obtain ⟨v1, vs1, d1, ds1, p1, q1, rfl, rfl, rfl, h1, r1⟩ := trodAll_cons r0
  obtain ⟨v2, vs2, d2, ds2, p2, q2, rfl, rfl, rfl, h2, r2⟩ := trodAll_cons r1
  obtain ⟨rfl, rfl, rfl⟩ := trodAll_nil r2
  obtain rfl : args = #[v0, v1, v2] := by cases args; simp_all
  obtain ⟨rfl, rfl⟩ := trodVars_none hV
  have k0 := h0
  have lt0 : ∀ x ∈ p0, x.block < W.heap.size := by obtain ⟨m, hm⟩ := k0; exact DataW.trod_lt m _ _ _ hm
  obtain ⟨s0, rfl, hs0⟩ := openStr (hval 0 9 v0 rfl rfl) h0
  have k1 := h1
  have lt1 : ∀ x ∈ p1, x.block < W.heap.size := by obtain ⟨m, hm⟩ := k1; exact DataW.trod_lt m _ _ _ hm
  obtain ⟨n1, rfl, na1, nb1⟩ := openInt (hval 1 3 v1 rfl rfl) h1
  have k2 := h2
  have lt2 : ∀ x ∈ p2, x.block < W.heap.size := by obtain ⟨m, hm⟩ := k2; exact DataW.trod_lt m _ _ _ hm
  obtain ⟨x2, rfl, xb2⟩ := openByte (hval 2 5 v2 rfl rfl) h2
  clear hA0 hval0
  refine (walk s0 hs0 n1 na1 nb1 x2 xb2 W hS ).mono fun e W' ⟨he, bel⟩ => ?_
  subst he
  exact ⟨_, rfl, _, _, _, [], _, [], hW', trodAll_mk1 (shut_bool Tryd.underlying4 _), (trodAll_cons_mk (Below.trod laidOut (by kernel_rfl) (of_decide_eq_true (by kernel_rfl)) k0 bel lt0) (trodAll_cons_mk (Below.trod laidOut (by kernel_rfl) (of_decide_eq_true (by kernel_rfl)) k1 bel lt1) (trodAll_cons_mk (Below.trod laidOut (by kernel_rfl) (of_decide_eq_true (by kernel_rfl)) k2 bel lt2) trodAll_mk0))), rfl, bel.frame _, fun h => by cases h⟩

theorem over : Rows.frameFindsRow.holds Tryd.pinned (OpenSpec.ofChange Rows.frameFindsSpec) :=
  OpenClaim.holds_of_wide 5 Tryd.f5 rfl rfl rfl rfl rfl rfl rfl ⟨rfl, rfl, rfl, rfl, rfl⟩ rfl rfl rfl rfl rfl (by kernel_rfl) Tryd.func5 (by kernel_rfl)
    (of_decide_eq_true (by kernel_rfl)) (by unfold Func.isWrapper; first | (rw [if_pos (by decide +kernel)]; kernel_rfl) | (rw [if_neg (by decide +kernel)]; exact ⟨rfl, rfl⟩))
    (fun os started H enc _ => lifted os started H enc)

/-- THE STATEMENT -/
theorem proved : Rows.FrameFindsCardSaid :=
  Claim7.holds_tied_plain_at .later [] [.handle, .sentinel, .sentinel] true _ true over (fun _ h => by cases h) (by kernel_rfl) (fun _ h => by cases h) frameFinds_row_tie rfl ⟨rfl, rfl⟩ (by kernel_rfl) rfl
    (fun f fn hf hfn => by
      obtain rfl : f = 5 := Option.some.inj ((show Tryd.prog.funcNamed "aviary/aviarylaw03.FrameFinds" = some 5 by kernel_rfl).symm.trans hf) |>.symm
      obtain rfl : fn = Tryd.f5 := (Option.some.inj (Tryd.func5.symm.trans hfn)).symm
      refine ⟨by kernel_rfl, fun j t ht => ?_⟩
      rw [Tryd.params5] at ht
      rcases j with _ | _ | _ | j
      · obtain rfl : t = 9 := by simpa using ht.symm
        exact (show Tryd.prog.wantsStandIn 9 = false by kernel_rfl)
      · obtain rfl : t = 3 := by simpa using ht.symm
        exact (show Tryd.prog.wantsStandIn 3 = false by kernel_rfl)
      · obtain rfl : t = 5 := by simpa using ht.symm
        exact (show Tryd.prog.wantsStandIn 5 = false by kernel_rfl)
      · simp at ht)
    (by kernel_rfl)
#print axioms proved
end Go.Proofs.YtafabdgkinfceaaDoor.frameFinds
