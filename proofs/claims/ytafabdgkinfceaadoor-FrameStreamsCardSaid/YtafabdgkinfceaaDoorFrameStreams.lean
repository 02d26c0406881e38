/- FrameStreams: for every list of texts (the first eight, of at most three hundred bytes) and place, however a stream of frames is cut, the same frames are found. No condition (the listed package-level variables as the program's text lays them). -/
import Derived.Test.YtafabdgkinfceaaDoorCards
import Derived.Test.YtafabdgkinfceaaDoorTie
import Derived.Test.YtafabdgkinfceaaDoorLaid03
import Derived.Test.YtafabdgkinfceaaDoorOpenStrs
import Derived.SevenTiedAt
import Derived.JoinedOf
import Derived.ChangeSame
import Derived.ChangeVars
import Derived.Test.YtafabdgkinfceaaDoorFrmW
import Derived.Test.YtafabdgkinfceaaDoorFrmV
import Derived.Test.YtafabdgkinfceaaDoorTexts
import Derived.Test.YtafabdgkinfceaaDoorOpen
import Derived.WalkKit
import Derived.ProofKit
import Derived.OpenShut
import Derived.ShutString
import Derived.ChangeOld
import Derived.Below
namespace Go.Proofs.YtafabdgkinfceaaDoor.frameStreams
open Go.ChangeShapes Go.WideShapes Go.ChangeAt Go.RowKit Go.Joins
set_option linter.unusedVariables false

theorem own : ownKnob Tryd.prog.godebug = none := by kernel_rfl
theorem laidOut : laidOutB Tryd.prog = true := by kernel_rfl

set_option linter.unusedSimpArgs false
set_option maxRecDepth 100000 in
set_option maxHeartbeats 4000000 in
theorem walk (s0 : Option Addr) (L0 : List ByteArray) (cap0 : Nat) (hN0 : ∀ x ∈ L0, x.size ≤ 9223372036854775807) (hl0 : L0.length ≤ cap0) (hc0 : cap0 ≤ 9223372036854775807) (hn0 : s0 = none → cap0 = 0) (n1 : Int) (na1 : -9223372036854775808 ≤ n1) (nb1 : n1 ≤ 9223372036854775807) (w : World) {sp sq : Addr} (hS : Snt sp sq w) (hE0 : Strs w s0 L0) :
    Calls Tryd.prog 9 #[.slice s0 L0.length cap0, .int .i64 n1] w fun e w' => e = .returned (.bool true) ∧ Below w.heap.size w w' := by
  go_enter Tryd.func9, Tryd.ntmps9
  go_wp2_with fail
  refine (shown_any hS).mono ?_
  rintro e w1 ⟨rfl, hb1⟩
  go_wp2_with fail
  refine (few_any L0 hN0 (by omega) s0 cap0 hl0 _ (hE0.below (Nat.le_refl _) hb1)).mono ?_
  rintro e w2 ⟨v, rfl, hown, hb2⟩
  have hb2 := hb1.trans (hb2.mono hb1.size)
  clear hb1
  obtain ⟨t1, cap2, rfl, hcap, hcm, hstrs, hnn⟩ := hown.form
  have hML := fewL_length L0
  have hMS := fewL_size L0
  clear hown hnn hN0 hE0 hn0 hl0 hc0
  generalize fewL L0 = M at *
  go_wp2_with fail
  go_loopw [6, 7, 8] (fun sv v i wr => ∃ (k : Nat) (vv : Value) (S : ByteArray), vv = v ∧ sv = .string S ∧ k ≤ M.length ∧ i = .int .i64 k ∧ Hid (S = catB (goodB (M.take k))) ∧ St w2 [] (fun _ => True) wr ∧ OwnS wr w2.heap.size vv (goodB (M.take k))) (fun _ _ i _ => M.length - (intOf i).toNat)
  case atStart => exact ⟨0, _, ⟨#[]⟩, rfl, rfl, Nat.zero_le _, rfl, Lib.hid rfl, St.start w2, OwnS.nil _ _⟩
  case round =>
    obtain ⟨k, vv, S, rfl, rfl, hk, rfl, HS, st, hown⟩ := hrel
    by_cases h1 : k < M.length
    · obtain ⟨x, hx⟩ : ∃ x, M[k]? = some x := ⟨_, List.getElem?_eq_getElem h1⟩
      have hxs := hMS x (List.mem_of_getElem? hx)
      obtain ⟨g, o, rfl, hgl, hc2⟩ := hstrs k x hx
      have hc := (st.below.cell (p := ⟨g, o + k, none⟩) hgl).trans hc2
      clear hc2
      have HT := Lib.hid (take_snoc M k x hx)
      have hgl2 := goodB_len (M.take k)
      rw [List.length_take] at hgl2
      have HM := Lib.hid (make_any x (by omega))
      clear hx
      by_cases h0 : x.size = 0
      · rw [makeV_no (.inl h0)] at HM
        have HG : Hid (goodB (M.take (k + 1)) = goodB (M.take k)) := by show _ = _; rw [HT.out, goodB_snoc_no _ _ h0]
        clear h0
        go_wp2_with fail
        refine (HM.out _).mono ?_
        rintro e w3 ⟨rfl, hb3⟩
        have st3 := st.to hb3
        have hown3 := OwnS.keep _ _ hown hb3
        rw [← HG.out] at hown3
        clear hc st hown hb3
        go_wp2_with fail
        go_roundw
        case rel => exact ⟨k + 1, _, S, rfl, rfl, h1, by go_num, by show _ = _; rw [HG.out]; exact HS.out, st3, hown3⟩
        case measure => simp [intOf]; omega
      · rw [makeV_ok (by omega)] at HM
        have HG : Hid (goodB (M.take (k + 1)) = goodB (M.take k) ++ [x]) := by show _ = _; rw [HT.out, goodB_snoc_yes _ _ h0]
        have HC : Hid (catB (goodB (M.take (k + 1))) = S ++ frmB x) := by show _ = _; rw [HG.out, catB_snoc, ← HS.out]
        clear h0
        have hF := frmB_size x
        have hp := (putB_size x.size).2
        have hzF : (frmB x).size ≤ 400 := by omega
        have hzS : S.size ≤ 3000 := by
          have h1 := catB_size (goodB (M.take k)) (fun x hx => hMS x (List.mem_of_mem_take (goodB_mem hx).1))
          rw [← HS.out] at h1
          omega
        clear hF hp
        generalize frmB x = F at *
        generalize goodB (M.take k) = GM at *
        go_wp2_with fail
        refine (HM.out _).mono ?_
        rintro e w3 ⟨rfl, hb3⟩
        have st3 := st.to hb3
        have hown3 := OwnS.keep _ _ hown hb3
        have hc3 := (st3.below.cell (p := ⟨g, o + k, none⟩) hgl).trans ((st.below.cell (p := ⟨g, o + k, none⟩) hgl).symm.trans hc)
        clear hc st hown hb3
        go_wp2_with (at_builtin; refine append_str rfl (.tmp 40) (.tmp 45) rfl w2.heap.size vv GM x rfl st3 hown3 (Nat.le_refl _) (by simp) st3.below.size w3.heap.size rfl rfl (by omega) ?_; intro v5 w5 st5 hown5 hz5)
        rw [← HG.out] at hown5
        go_roundw
        case rel => exact ⟨k + 1, _, S ++ F, rfl, rfl, h1, by go_num, by show _ = _; rw [HC.out], st5, hown5⟩
        case measure => simp [intOf]; omega
    · obtain rfl : k = M.length := by omega
      rw [List.take_of_length_le (Nat.le_refl _)] at HS hown
      have hzS := catB_size (goodB M) (fun x hx => hMS x (goodB_mem hx).1)
      have hgl2 := goodB_len M
      have HCUT := Lib.hid (fun j => cutB M hMS j)
      rw [← HS.out] at hzS HCUT
      clear HS hMS
      generalize goodB M = GM at *
      obtain ⟨m1, hm1, j, hm2, hjS⟩ : ∃ m1 : Int, min n1 (S.size : Int) = m1 ∧ ∃ j : Nat, max 0 m1 = (j : Int) ∧ j ≤ S.size := ⟨_, rfl, (max 0 (min n1 (S.size : Int))).toNat, by omega, by omega⟩
      obtain ⟨A, B, tl, h5, h6, h7, h8⟩ := HCUT.out j hjS
      have HA1 := Lib.hid (fun (w : World) (h : Snt sp sq w) => all_any h (S.extract 0 j) (by rw [ByteArray.size_extract]; omega))
      have HA2 := Lib.hid (fun (w : World) (h : Snt sp sq w) => all_any h ((⟨tl.toArray⟩ : ByteArray) ++ S.extract j S.size) (by rw [ByteArray.size_append, ByteArray.size_extract, mk_size]; omega))
      rw [h6] at HA1
      rw [h7] at HA2
      have hAB : (A.map baOf).length + (B.map baOf).length = GM.length := by rw [← h5, List.length_append]
      change Hid (∀ (w : World), Snt sp sq w → Calls Tryd.prog 18 #[.string (S.extract 0 j)] w fun e w' => ∃ v, e = .returned (.tuple #[v, .string ⟨tl.toArray⟩, .int .i64 (20 : Nat)]) ∧ OwnS w' w.heap.size v (A.map baOf) ∧ Below w.heap.size w w') at HA1
      change Hid (∀ (w : World), Snt sp sq w → Calls Tryd.prog 18 #[.string ((⟨tl.toArray⟩ : ByteArray) ++ S.extract j S.size)] w fun e w' => ∃ v, e = .returned (.tuple #[v, .string ⟨#[]⟩, .int .i64 (20 : Nat)]) ∧ OwnS w' w.heap.size v (B.map baOf) ∧ Below w.heap.size w w') at HA2
      have H5 := Lib.hid h5
      have htb : (⟨tl.toArray⟩ : ByteArray).size ≤ S.size := by rw [mk_size]; omega
      have hzS2 : S.size ≤ 3000 := by omega
      clear h5 h6 h7 HCUT h8
      generalize A.map baOf = A' at *
      generalize B.map baOf = B' at *
      generalize (⟨tl.toArray⟩ : ByteArray) = tb at *
      have HM1 := Lib.hid hm1
      go_wp2_with fail
      refine (HA1.out _ (hS.below (hb2.trans (st.below.mono hb2.size)))).mono ?_
      rintro e w3 ⟨va, rfl, howna, hb3⟩
      have st3 := st.to hb3
      have hown3 := OwnS.keep _ _ hown hb3
      obtain ⟨ta, ca, rfl, hca, hcma, hsa, hna⟩ := howna.form
      clear st hown hb3 howna HA1
      go_wp2_with fail
      refine (HA2.out _ (hS.below (hb2.trans (st3.below.mono hb2.size)))).mono ?_
      rintro e w4 ⟨vb, rfl, hownb, hb4⟩
      have st4 := st3.to hb4
      have hown4 := OwnS.keep _ _ hown3 hb4
      have hsa4 := Strs.keep _ _ hsa hb4
      obtain ⟨tb, cb, rfl, hcb, hcmb, hsb, hnb⟩ := hownb.form
      clear st3 hown3 hb4 hownb HA2 hsa
      have stw := St.start w4
      go_wp2_with (first | (at_builtin; refine append_strs rfl (.tmp 70) (.tmp 71) rfl w4.heap.size (.slice none 0 0) [] rfl stw (OwnS.nil _ _) (Nat.le_refl _) (by simp) (Nat.le_refl _) A' A'.length rfl ta ca rfl hna hsa4 (by simp; omega) ?_; intro v5 w5 st5 hown5 hk5 hz5) | (at_builtin; refine append_strs rfl (.tmp 72) (.tmp 73) rfl w4.heap.size v5 ([] ++ A') rfl st5 hown5 (Nat.le_refl _) (by simp) hz5 B' B'.length rfl tb cb rfl hnb (Strs.keep _ _ hsb st5.below) (by simp; omega) ?_; intro v6 w6 st6 hown6 hk6 hz6))
      obtain ⟨s6, c6, rfl, hc6, hcm6, hs6, hn6⟩ := hown6.form
      have hown7 := OwnS.keep _ _ hown4 st6.below
      obtain ⟨s7, c7, rfl, hc7, hcm7, hs7, hn7⟩ := hown7.form
      have e6 : [] ++ A' ++ B' = GM := H5.out
      rw [e6] at hs6
      have e7 : ([] ++ A' ++ B').length = GM.length := by rw [e6]
      rw [e7]
      have hb6 := hb2.trans ((st4.below.trans (st6.below.mono st4.below.size)).mono hb2.size)
      clear hown4 hown5 hown6 hown7 st4 st5 st6 hsa4 hsb stw hk5 hk6 e6 e7 hc6 hc7
      refine (texts_any GM GM (by omega) (by omega) s6 s7 c6 c7 _ hs6 hs7 true (by simp)).mono ?_
      rintro e w7 ⟨rfl, hb7⟩
      have hb7 := hb6.trans (hb7.mono hb6.size)
      clear hb6
      go_wp2_with fail
      go_ret
      exact ⟨by first | rfl | (simp; done), hb7⟩


set_option maxRecDepth 100000 in
theorem lifted (os : Os) (started : os.Started) (H : Type) (enc : TypeId × Value → H) :
    ReturnsInHanded {} Tryd.checked os 9 .any (fun w args => (Rows.frameStreamsSpec.pre enc Tryd.prog Tryd.f9 Rows.frameStreamsRow.domain false w args ∧ laidMetH Tryd.prog laidL w) ∧ sizedMet enc Tryd.prog Tryd.f9 (OpenSpec.ofChange Rows.frameStreamsSpec) false w args) (Rows.frameStreamsSpec.post enc Tryd.prog Tryd.f9 false true false false) := by
  refine returnsInHanded_of_change_and (C := Tryd.checked) (X := fun w _ => laidMetH Tryd.prog laidL w) (fun _ _ _ hh h => h.of_heap hh) own started (by kernel_rfl) Tryd.func9
    (ChangeSpec.witness_at (enc := enc) (C := Tryd.checked) (os := os) (X := fun w _ => laidMetH Tryd.prog laidL w) false (laidWorld os) #[.slice none 0 0, .int .i64 0] 8 rfl (by kernel_rfl) (by kernel_rfl) (by kernel_rfl) (by kernel_rfl) (by kernel_rfl) (laidWorld_metH os _)) ?_
  intro W base args ds gs before hval0 hW hcnd _ hL _
  obtain ⟨sp, sq, hS⟩ := snt_of_laid hL
  have hval : ∀ (j : Nat) t v, Tryd.f9.params[j]? = some t → args[j]? = some v → Value.okWide Tryd.prog W .any base t v := hval0
  have hW' := hW
  obtain ⟨p, q, hA0, hV, rfl, hfz, hnd⟩ := hW
  have hA : DataW.TrodAll enc Tryd.prog W 0 (fun _ => true) true Tryd.f9.params.toList args.toList ds p := hA0
  rw [Tryd.params9] at hA hval
  obtain ⟨v0, vs0, d0, ds0, p0, q0, hargs, rfl, rfl, h0, r0⟩ := trodAll_cons hA
  obtain ⟨v1, vs1, d1, ds1, p1, q1, rfl, rfl, rfl, h1, r1⟩ := trodAll_cons r0
  obtain ⟨rfl, rfl, rfl⟩ := trodAll_nil r1
  obtain rfl : args = #[v0, v1] := by cases args; simp_all
  obtain ⟨rfl, rfl⟩ := trodVars_none hV
  have k0 := h0
  have lt0 : ∀ x ∈ p0, x.block < W.heap.size := by obtain ⟨m, hm⟩ := k0; exact DataW.trod_lt m _ _ _ hm
  obtain ⟨s0, L0, cap0, rfl, hE0, hN0, hl0, hc0, hn0⟩ := openStrs (hval 0 37 v0 rfl rfl) h0
  have k1 := h1
  have lt1 : ∀ x ∈ p1, x.block < W.heap.size := by obtain ⟨m, hm⟩ := k1; exact DataW.trod_lt m _ _ _ hm
  obtain ⟨n1, rfl, na1, nb1⟩ := openInt (hval 1 3 v1 rfl rfl) h1
  clear hA0 hval0
  refine (walk s0 L0 cap0 hN0 hl0 hc0 hn0 n1 na1 nb1 W hS hE0).mono fun e W' ⟨he, bel⟩ => ?_
  subst he
  exact ⟨_, rfl, _, _, _, [], _, [], hW', trodAll_mk1 (shut_bool Tryd.underlying4 _), (trodAll_cons_mk (Below.trod laidOut (by kernel_rfl) (of_decide_eq_true (by kernel_rfl)) k0 bel lt0) (trodAll_cons_mk (Below.trod laidOut (by kernel_rfl) (of_decide_eq_true (by kernel_rfl)) k1 bel lt1) trodAll_mk0)), rfl, bel.frame _, fun h => by cases h⟩

theorem over : Rows.frameStreamsRow.holds Tryd.pinned (OpenSpec.ofChange Rows.frameStreamsSpec) :=
  OpenClaim.holds_of_wide 9 Tryd.f9 rfl rfl rfl rfl rfl rfl rfl ⟨rfl, rfl, rfl, rfl, rfl⟩ rfl rfl rfl rfl rfl (by kernel_rfl) Tryd.func9 (by kernel_rfl)
    (of_decide_eq_true (by kernel_rfl)) (by unfold Func.isWrapper; first | (rw [if_pos (by decide +kernel)]; kernel_rfl) | (rw [if_neg (by decide +kernel)]; exact ⟨rfl, rfl⟩))
    (fun os started H enc _ => lifted os started H enc)

/-- THE STATEMENT -/
theorem proved : Rows.FrameStreamsCardSaid :=
  Claim7.holds_tied_plain_at .later [] [.handle, .sentinel, .sentinel] true _ true over (fun _ h => by cases h) (by kernel_rfl) (fun _ h => by cases h) frameStreams_row_tie rfl ⟨rfl, rfl⟩ (by kernel_rfl) rfl
    (fun f fn hf hfn => by
      obtain rfl : f = 9 := Option.some.inj ((show Tryd.prog.funcNamed "aviary/aviarylaw03.FrameStreams" = some 9 by kernel_rfl).symm.trans hf) |>.symm
      obtain rfl : fn = Tryd.f9 := (Option.some.inj (Tryd.func9.symm.trans hfn)).symm
      refine ⟨by kernel_rfl, fun j t ht => ?_⟩
      rw [Tryd.params9] at ht
      rcases j with _ | _ | j
      · obtain rfl : t = 37 := by simpa using ht.symm
        exact (show Tryd.prog.wantsStandIn 37 = false by kernel_rfl)
      · obtain rfl : t = 3 := by simpa using ht.symm
        exact (show Tryd.prog.wantsStandIn 3 = false by kernel_rfl)
      · simp at ht)
    (by kernel_rfl)
#print axioms proved
end Go.Proofs.YtafabdgkinfceaaDoor.frameStreams
