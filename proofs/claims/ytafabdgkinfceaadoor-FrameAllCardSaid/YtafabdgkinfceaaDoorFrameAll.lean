/- FrameAll: for every bytes (the first two thousand and ten), the frames that a stream begins with, what is left and why are as the document says. No condition (the listed package-level variables as the program's text lays them). -/
import Derived.Test.YtafabdgkinfceaaDoorCards
import Derived.Test.YtafabdgkinfceaaDoorTie
import Derived.Test.YtafabdgkinfceaaDoorLaid03
import Derived.Test.YtafabdgkinfceaaDoorOpenStrs
import Derived.SevenTiedAt
import Derived.JoinedOf
import Derived.ChangeSame
import Derived.ChangeVars
import Derived.Test.YtafabdgkinfceaaDoorFrmL
import Derived.Test.YtafabdgkinfceaaDoorFrmV
import Derived.Test.YtafabdgkinfceaaDoorTexts
import Derived.Test.YtafabdgkinfceaaDoorOpen
import Derived.WalkKit
import Derived.ProofKit
import Derived.OpenShut
import Derived.ShutString
import Derived.ChangeOld
import Derived.Below
namespace Go.Proofs.YtafabdgkinfceaaDoor.frameAll
open Go.ChangeShapes Go.WideShapes Go.ChangeAt Go.RowKit Go.Joins
set_option linter.unusedVariables false

theorem own : ownKnob Tryd.prog.godebug = none := by kernel_rfl
theorem laidOut : laidOutB Tryd.prog = true := by kernel_rfl

set_option linter.unusedSimpArgs false
set_option maxRecDepth 100000 in
set_option maxHeartbeats 4000000 in
theorem walk (s0 : ByteArray) (hs0 : s0.size ≤ 9223372036854775807) (w : World) {sp sq : Addr} (hS : Snt sp sq w) :
    Calls Tryd.prog 8 #[.string s0] w fun e w' => e = .returned (.bool true) ∧ Below w.heap.size w w' := by
  have HC := Lib.hid (cut_any s0 hs0)
  have hcz := cut3_size s0
  generalize cut3 s0 = c at *
  clear hs0
  have HA := Lib.hid (fun (w : World) (h : Snt sp sq w) => all_any h c (by omega))
  have HR := Lib.hid (rall_any c (by omega))
  have hal := all_len (c.data.toList.length + 1) c.data.toList
  have hzl : c.data.toList.length = c.size := by simp
  change (allL c.data.toList).1.length ≤ _ at hal
  obtain ⟨G, hG⟩ : ∃ G, allL c.data.toList = G := ⟨_, rfl⟩
  rw [hG] at HA HR hal
  clear hG
  obtain ⟨Ls, left, no⟩ := G
  change Hid (∀ (w : World), Snt sp sq w → Calls Tryd.prog 18 #[.string c] w fun e w' => ∃ v, e = .returned (.tuple #[v, .string ⟨left.toArray⟩, .int .i64 no]) ∧ OwnS w' w.heap.size v (Ls.map baOf) ∧ Below w.heap.size w w') at HA
  change Hid (∀ (w : World), Calls Tryd.prog 19 #[.string c] w fun e w' => ∃ v, e = .returned (.tuple #[v, .string ⟨left.toArray⟩, .int .i64 no]) ∧ OwnS w' w.heap.size v (Ls.map baOf) ∧ Below w.heap.size w w') at HR
  change Ls.length ≤ _ at hal
  have hml : (Ls.map baOf).length ≤ 2010 := by rw [List.length_map]; omega
  clear hal hzl
  generalize Ls.map baOf = M at *
  generalize (⟨left.toArray⟩ : ByteArray) = lb at *
  go_enter Tryd.func8, Tryd.ntmps8
  go_wp2_with fail
  refine (shown_any hS).mono ?_
  rintro e w1 ⟨rfl, hb1⟩
  go_wp2_with fail
  refine (HC.out _).mono ?_
  rintro e w9 ⟨rfl, rfl⟩
  go_wp2_with fail
  refine (HA.out _ (hS.below hb1)).mono ?_
  rintro e w2 ⟨v, rfl, hown, hb2⟩
  have hb2 := hb1.trans (hb2.mono hb1.size)
  obtain ⟨t1, cap2, rfl, hcap, hcm, hstrs, hnn⟩ := hown.form
  clear hb1 hown hnn HA
  go_wp2_with fail
  refine (HC.out _).mono ?_
  rintro e w9 ⟨rfl, rfl⟩
  go_wp2_with fail
  refine (HR.out _).mono ?_
  rintro e w3 ⟨v, rfl, hown, hb3⟩
  have hstrs3 := Strs.keep _ _ hstrs hb3
  have hb3 := hb2.trans (hb3.mono hb2.size)
  obtain ⟨t2, cap3, rfl, hcap3, hcm3, hstrs4, hnn⟩ := hown.form
  clear hb2 hown hnn HR hstrs
  go_wp2_with fail
  refine (texts_any M M (by omega) (by omega) t1 t2 cap2 cap3 _ hstrs3 hstrs4 true (by simp)).mono ?_
  rintro e w4 ⟨rfl, hb4⟩
  have hb4 := hb3.trans (hb4.mono hb3.size)
  go_wp2_with fail
  go_ret
  exact ⟨by first | rfl | (simp; done) | (simp; omega), hb4⟩


set_option maxRecDepth 100000 in
theorem lifted (os : Os) (started : os.Started) (H : Type) (enc : TypeId × Value → H) :
    ReturnsInHanded {} Tryd.checked os 8 .any (fun w args => (Rows.frameAllSpec.pre enc Tryd.prog Tryd.f8 Rows.frameAllRow.domain false w args ∧ laidMetH Tryd.prog laidL w) ∧ sizedMet enc Tryd.prog Tryd.f8 (OpenSpec.ofChange Rows.frameAllSpec) false w args) (Rows.frameAllSpec.post enc Tryd.prog Tryd.f8 false true false false) := by
  refine returnsInHanded_of_change_and (C := Tryd.checked) (X := fun w _ => laidMetH Tryd.prog laidL w) (fun _ _ _ hh h => h.of_heap hh) own started (by kernel_rfl) Tryd.func8
    (ChangeSpec.witness_at (enc := enc) (C := Tryd.checked) (os := os) (X := fun w _ => laidMetH Tryd.prog laidL w) false (laidWorld os) #[.string ⟨#[]⟩] 8 rfl (by kernel_rfl) (by kernel_rfl) (by kernel_rfl) (by kernel_rfl) (by kernel_rfl) (laidWorld_metH os _)) ?_
  intro W base args ds gs before hval0 hW hcnd _ hL _
  obtain ⟨sp, sq, hS⟩ := snt_of_laid hL
  have hval : ∀ (j : Nat) t v, Tryd.f8.params[j]? = some t → args[j]? = some v → Value.okWide Tryd.prog W .any base t v := hval0
  have hW' := hW
  obtain ⟨p, q, hA0, hV, rfl, hfz, hnd⟩ := hW
  have hA : DataW.TrodAll enc Tryd.prog W 0 (fun _ => true) true Tryd.f8.params.toList args.toList ds p := hA0
  rw [Tryd.params8] at hA hval
  obtain ⟨v0, vs0, d0, ds0, p0, q0, hargs, rfl, rfl, h0, r0⟩ := trodAll_cons hA
  obtain ⟨rfl, rfl, rfl⟩ := trodAll_nil r0
  obtain rfl : args = #[v0] := by cases args; simp_all
  obtain ⟨rfl, rfl⟩ := trodVars_none hV
  have k0 := h0
  have lt0 : ∀ x ∈ p0, x.block < W.heap.size := by obtain ⟨m, hm⟩ := k0; exact DataW.trod_lt m _ _ _ hm
  obtain ⟨s0, rfl, hs0⟩ := openStr (hval 0 9 v0 rfl rfl) h0
  clear hA0 hval0
  refine (walk s0 hs0 W hS ).mono fun e W' ⟨he, bel⟩ => ?_
  subst he
  exact ⟨_, rfl, _, _, _, [], _, [], hW', trodAll_mk1 (shut_bool Tryd.underlying4 _), (trodAll_cons_mk (Below.trod laidOut (by kernel_rfl) (of_decide_eq_true (by kernel_rfl)) k0 bel lt0) trodAll_mk0), rfl, bel.frame _, fun h => by cases h⟩

theorem over : Rows.frameAllRow.holds Tryd.pinned (OpenSpec.ofChange Rows.frameAllSpec) :=
  OpenClaim.holds_of_wide 8 Tryd.f8 rfl rfl rfl rfl rfl rfl rfl ⟨rfl, rfl, rfl, rfl, rfl⟩ rfl rfl rfl rfl rfl (by kernel_rfl) Tryd.func8 (by kernel_rfl)
    (of_decide_eq_true (by kernel_rfl)) (by unfold Func.isWrapper; first | (rw [if_pos (by decide +kernel)]; kernel_rfl) | (rw [if_neg (by decide +kernel)]; exact ⟨rfl, rfl⟩))
    (fun os started H enc _ => lifted os started H enc)

/-- THE STATEMENT -/
theorem proved : Rows.FrameAllCardSaid :=
  Claim7.holds_tied_plain_at .later [] [.handle, .sentinel, .sentinel] true _ true over (fun _ h => by cases h) (by kernel_rfl) (fun _ h => by cases h) frameAll_row_tie rfl ⟨rfl, rfl⟩ (by kernel_rfl) rfl
    (fun f fn hf hfn => by
      obtain rfl : f = 8 := Option.some.inj ((show Tryd.prog.funcNamed "aviary/aviarylaw03.FrameAll" = some 8 by kernel_rfl).symm.trans hf) |>.symm
      obtain rfl : fn = Tryd.f8 := (Option.some.inj (Tryd.func8.symm.trans hfn)).symm
      refine ⟨by kernel_rfl, fun j t ht => ?_⟩
      rw [Tryd.params8] at ht
      rcases j with _ | j
      · obtain rfl : t = 9 := by simpa using ht.symm
        exact (show Tryd.prog.wantsStandIn 9 = false by kernel_rfl)
      · simp at ht)
    (by kernel_rfl)
#print axioms proved
end Go.Proofs.YtafabdgkinfceaaDoor.frameAll
