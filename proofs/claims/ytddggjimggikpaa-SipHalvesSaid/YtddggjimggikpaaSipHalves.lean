/- SipHalves: a key's child is two sums, a grandchild too, for every key and two texts. No condition. -/
import Derived.Test.YtddggjimggikpaaRows
import Derived.Test.YtddggjimggikpaaKey
import Derived.Test.YtddggjimggikpaaOpen
import Derived.WalkKit
import Derived.ProofKit
import Derived.OpenShut
import Derived.ShutString
import Derived.ChangeOld
import Derived.Below
namespace Go.Proofs.Ytddggjimggikpaa.sipHalves
open Go.ChangeShapes Go.WideShapes Go.ChangeAt Go.RowKit Go.Joins
set_option linter.unusedVariables false

theorem own : ownKnob Try.prog.godebug = none := by kernel_rfl
theorem laidOut : laidOutB Try.prog = true := by kernel_rfl

set_option maxRecDepth 100000 in
set_option maxHeartbeats 4000000 in
theorem walk (a0 b0 : BitVec 64) (s1 : ByteArray) (hs1 : s1.size ≤ 9223372036854775807) (s2 : ByteArray) (hs2 : s2.size ≤ 9223372036854775807) (w : World) :
    Calls Try.prog 9 #[.agg #[.int .u64 (un a0), .int .u64 (un b0)], .string s1, .string s2] w fun e w' => e = .returned (.bool true) ∧ Below w.heap.size w w' := by
  have hcut1 := cutS_size s1
  have hcut2 := cutS_size s2
  go_enter Try.func9, Try.ntmps9
  go_wp2_with fail
  refine (shown_any _).mono ?_
  rintro e w1 ⟨rfl, hb1⟩
  have hk := (KeyAt.box w a0 b0).below hb1
  have hB1 : Below w.heap.size w w1 := ((Below.refl _ _).alloc (Nat.le_refl _) _).trans (hb1.mono (by simp))
  clear hb1
  go_wp2_with fail
  refine region_spec 5 (Fs [IsVal (kv a0 b0), IsVal (.string s1), IsVal (.string (cutS s1)), IsVal (kv (childA a0 b0 (cutS s1).data.toList) (childB a0 b0 (cutS s1).data.toList)), IsNew w1.heap.size #[.int .u64 0, .int .u64 0] 24]) (by kernel_rfl) (by kernel_rfl) (by kernel_rfl) (Fs_stable _ ?stab) ?spec ?endd
  case stab =>
    simp only [List.forall_mem_cons]
    exact ⟨stableVal _, stableVal _, stableVal _, stableVal _, stableNew _ _ _, by simp⟩
  case spec =>
    refine ⟨?_, ?_, ?_, ?_, ?_, trivial⟩
    · intro a W hW hu hd
      have kc : ∀ c, a.eval (Operand.const c) = c := fun _ => rfl
      have kf : ∀ f, a.eval (Operand.func f) = .func (.func f) #[] #[] := fun _ => rfl
      have u3 : a.eval (Operand.tmp 3) = .pointer (some ⟨w.heap.size, 0, none⟩) := hu 3 (by decide)
      have e0 := (hk.below hW).c0
      have e1 := (hk.below hW).c1
      unfold StepOk
      rw [if_pos (by rfl)]
      clear hu hd
      generalize a.eval = ρ at *
      go_simp
      exact opOk_val rfl
    · intro a W hW hu hd
      have kc : ∀ c, a.eval (Operand.const c) = c := fun _ => rfl
      have kf : ∀ f, a.eval (Operand.func f) = .func (.func f) #[] #[] := fun _ => rfl
      have u1 : a.eval (Operand.tmp 1) = .string s1 := hu 1 (by decide)
      unfold StepOk
      rw [if_pos (by rfl)]
      clear hu hd
      generalize a.eval = ρ at *
      go_simp
      exact opOk_val rfl
    · intro a W hW hu hd
      have kc : ∀ c, a.eval (Operand.const c) = c := fun _ => rfl
      have kf : ∀ f, a.eval (Operand.func f) = .func (.func f) #[] #[] := fun _ => rfl
      have u12 : a.eval (Operand.tmp 12) = .string s1 := hd 1 12 (by kernel_rfl) rfl
      unfold StepOk
      rw [if_pos (by rfl)]
      clear hu hd
      generalize a.eval = ρ at *
      go_simp
      exact opOk_call_same (cut_any _ hs1 _) rfl
    · intro a W hW hu hd
      have kc : ∀ c, a.eval (Operand.const c) = c := fun _ => rfl
      have kf : ∀ f, a.eval (Operand.func f) = .func (.func f) #[] #[] := fun _ => rfl
      have u11 : a.eval (Operand.tmp 11) = kv a0 b0 := hd 0 11 (by kernel_rfl) rfl
      have u13 : a.eval (Operand.tmp 13) = .string (cutS s1) := hd 2 13 (by kernel_rfl) rfl
      unfold StepOk
      rw [if_pos (by rfl)]
      clear hu hd
      generalize a.eval = ρ at *
      go_simp
      exact opOk_call (child_any _ _ _ (by omega) _) (fun _ _ => rfl)
    · intro a W hW hu hd
      have kc : ∀ c, a.eval (Operand.const c) = c := fun _ => rfl
      have kf : ∀ f, a.eval (Operand.func f) = .func (.func f) #[] #[] := fun _ => rfl
      unfold StepOk
      rw [if_pos (by rfl)]
      clear hu hd
      generalize a.eval = ρ at *
      go_simp
      exact opOk_new hW.size
  case endd =>
    intro v W hW hv
    have v0 : v 0 = (kv a0 b0) := hv 0 (by omega)
    have v1 : v 1 = (.string s1) := hv 1 (by omega)
    have v2 : v 2 = (.string (cutS s1)) := hv 2 (by omega)
    have v3 : v 3 = (kv (childA a0 b0 (cutS s1).data.toList) (childB a0 b0 (cutS s1).data.toList)) := hv 3 (by omega)
    obtain ⟨A4, v4, hA4, hN4⟩ : IsNew w1.heap.size #[.int .u64 0, .int .u64 0] 24 (v 4) W := hv 4 (by omega)
    clear hv
    simp only [List.take_succ_cons, List.take_zero, List.drop_succ_cons, List.drop_zero, putAll, Nat.zero_add, Nat.reduceAdd]
    rw [v0, v1, v2, v3, v4]
    clear v0 v1 v2 v3 v4
    have g0 := new_c0 hN4
    have g1 := new_c1 hN4
    have f := new_f hN4
    have hk2 := (hk.below hW).other (A := A4) (by have := hk.lt; omega) (.int .u64 (un (childA a0 b0 (cutS s1).data.toList))) (.int .u64 (un (childB a0 b0 (cutS s1).data.toList)))
    have hc2 := KeyAt.set hN4 (childA a0 b0 (cutS s1).data.toList) (childB a0 b0 (cutS s1).data.toList)
    have hB2 : Below w.heap.size w ((W.setCell ⟨A4, 0, none⟩ (.int .u64 (un (childA a0 b0 (cutS s1).data.toList)))).setCell ⟨A4, 1, none⟩ (.int .u64 (un (childB a0 b0 (cutS s1).data.toList)))) := ((hB1.trans (hW.mono hB1.size)).setCell (p := ⟨A4, 0, none⟩) (by have := hk.lt; simp; omega) _).setCell (p := ⟨A4, 1, none⟩) (by have := hk.lt; simp; omega) _
    go_wp2_with fail
    clear g0 g1 f hN4
    generalize (W.setCell ⟨A4, 0, none⟩ (.int .u64 (un (childA a0 b0 (cutS s1).data.toList)))).setCell ⟨A4, 1, none⟩ (.int .u64 (un (childB a0 b0 (cutS s1).data.toList))) = w2 at *
    clear hk hB1 hW hA4
    have hca : ∀ x y l, childA x y l = sipSum x y (0 :: l) := fun _ _ _ => rfl
    have hcb : ∀ x y l, childB x y l = sipSum x y (1 :: l) := fun _ _ _ => rfl
    have HCA := Lib.hid hca
    have HCB := Lib.hid hcb
    clear hca hcb
    refine region_spec 5 (Fs [IsVal (kv (childA a0 b0 (cutS s1).data.toList) (childB a0 b0 (cutS s1).data.toList)), IsVal (.string s2), IsVal (.string (cutS s2)), IsVal (kv (childA (childA a0 b0 (cutS s1).data.toList) (childB a0 b0 (cutS s1).data.toList) (cutS s2).data.toList) (childB (childA a0 b0 (cutS s1).data.toList) (childB a0 b0 (cutS s1).data.toList) (cutS s2).data.toList)), IsNew w2.heap.size #[.int .u64 0, .int .u64 0] 24]) (by kernel_rfl) (by kernel_rfl) (by kernel_rfl) (Fs_stable _ ?stab) ?spec ?endd
    case stab =>
      simp only [List.forall_mem_cons]
      exact ⟨stableVal _, stableVal _, stableVal _, stableVal _, stableNew _ _ _, by simp⟩
    case spec =>
      refine ⟨?_, ?_, ?_, ?_, ?_, trivial⟩
      · intro a W hW hu hd
        have kc : ∀ c, a.eval (Operand.const c) = c := fun _ => rfl
        have kf : ∀ f, a.eval (Operand.func f) = .func (.func f) #[] #[] := fun _ => rfl
        have u8 : a.eval (Operand.tmp 8) = .pointer (some ⟨A4, 0, none⟩) := hu 8 (by decide)
        have e0 := (hc2.below hW).c0
        have e1 := (hc2.below hW).c1
        unfold StepOk
        rw [if_pos (by rfl)]
        clear hu hd
        generalize a.eval = ρ at *
        go_simp
        exact opOk_val rfl
      · intro a W hW hu hd
        have kc : ∀ c, a.eval (Operand.const c) = c := fun _ => rfl
        have kf : ∀ f, a.eval (Operand.func f) = .func (.func f) #[] #[] := fun _ => rfl
        have u2 : a.eval (Operand.tmp 2) = .string s2 := hu 2 (by decide)
        unfold StepOk
        rw [if_pos (by rfl)]
        clear hu hd
        generalize a.eval = ρ at *
        go_simp
        exact opOk_val rfl
      · intro a W hW hu hd
        have kc : ∀ c, a.eval (Operand.const c) = c := fun _ => rfl
        have kf : ∀ f, a.eval (Operand.func f) = .func (.func f) #[] #[] := fun _ => rfl
        have u16 : a.eval (Operand.tmp 16) = .string s2 := hd 1 16 (by kernel_rfl) rfl
        unfold StepOk
        rw [if_pos (by rfl)]
        clear hu hd
        generalize a.eval = ρ at *
        go_simp
        exact opOk_call_same (cut_any _ hs2 _) rfl
      · intro a W hW hu hd
        have kc : ∀ c, a.eval (Operand.const c) = c := fun _ => rfl
        have kf : ∀ f, a.eval (Operand.func f) = .func (.func f) #[] #[] := fun _ => rfl
        have u15 : a.eval (Operand.tmp 15) = kv (childA a0 b0 (cutS s1).data.toList) (childB a0 b0 (cutS s1).data.toList) := hd 0 15 (by kernel_rfl) rfl
        have u17 : a.eval (Operand.tmp 17) = .string (cutS s2) := hd 2 17 (by kernel_rfl) rfl
        unfold StepOk
        rw [if_pos (by rfl)]
        clear hu hd
        generalize a.eval = ρ at *
        go_simp
        exact opOk_call (child_any _ _ _ (by omega) _) (fun _ _ => rfl)
      · intro a W hW hu hd
        have kc : ∀ c, a.eval (Operand.const c) = c := fun _ => rfl
        have kf : ∀ f, a.eval (Operand.func f) = .func (.func f) #[] #[] := fun _ => rfl
        unfold StepOk
        rw [if_pos (by rfl)]
        clear hu hd
        generalize a.eval = ρ at *
        go_simp
        exact opOk_new hW.size
    case endd =>
      intro v W hW hv
      have v0 : v 0 = (kv (childA a0 b0 (cutS s1).data.toList) (childB a0 b0 (cutS s1).data.toList)) := hv 0 (by omega)
      have v1 : v 1 = (.string s2) := hv 1 (by omega)
      have v2 : v 2 = (.string (cutS s2)) := hv 2 (by omega)
      have v3 : v 3 = (kv (childA (childA a0 b0 (cutS s1).data.toList) (childB a0 b0 (cutS s1).data.toList) (cutS s2).data.toList) (childB (childA a0 b0 (cutS s1).data.toList) (childB a0 b0 (cutS s1).data.toList) (cutS s2).data.toList)) := hv 3 (by omega)
      obtain ⟨D4, v4, hD4, hN4⟩ : IsNew w2.heap.size #[.int .u64 0, .int .u64 0] 24 (v 4) W := hv 4 (by omega)
      clear hv
      simp only [List.take_succ_cons, List.take_zero, List.drop_succ_cons, List.drop_zero, putAll, Nat.zero_add, Nat.reduceAdd]
      rw [v0, v1, v2, v3, v4]
      clear v0 v1 v2 v3 v4
      have g0 := new_c0 hN4
      have g1 := new_c1 hN4
      have f := new_f hN4
      have hk3 := (hk2.below hW).other (A := D4) (by have := hk2.lt; omega) (.int .u64 (un (childA (childA a0 b0 (cutS s1).data.toList) (childB a0 b0 (cutS s1).data.toList) (cutS s2).data.toList))) (.int .u64 (un (childB (childA a0 b0 (cutS s1).data.toList) (childB a0 b0 (cutS s1).data.toList) (cutS s2).data.toList)))
      have hc3 := (hc2.below hW).other (A := D4) (by have := hc2.lt; omega) (.int .u64 (un (childA (childA a0 b0 (cutS s1).data.toList) (childB a0 b0 (cutS s1).data.toList) (cutS s2).data.toList))) (.int .u64 (un (childB (childA a0 b0 (cutS s1).data.toList) (childB a0 b0 (cutS s1).data.toList) (cutS s2).data.toList)))
      have hd3 := KeyAt.set hN4 (childA (childA a0 b0 (cutS s1).data.toList) (childB a0 b0 (cutS s1).data.toList) (cutS s2).data.toList) (childB (childA a0 b0 (cutS s1).data.toList) (childB a0 b0 (cutS s1).data.toList) (cutS s2).data.toList)
      have hB3 : Below w.heap.size w ((W.setCell ⟨D4, 0, none⟩ (.int .u64 (un (childA (childA a0 b0 (cutS s1).data.toList) (childB a0 b0 (cutS s1).data.toList) (cutS s2).data.toList)))).setCell ⟨D4, 1, none⟩ (.int .u64 (un (childB (childA a0 b0 (cutS s1).data.toList) (childB a0 b0 (cutS s1).data.toList) (cutS s2).data.toList)))) := ((hB2.trans (hW.mono hB2.size)).setCell (p := ⟨D4, 0, none⟩) (by have := hk2.lt; simp; omega) _).setCell (p := ⟨D4, 1, none⟩) (by have := hk2.lt; simp; omega) _
      go_wp2_with fail
      clear g0 g1 f hN4
      generalize (W.setCell ⟨D4, 0, none⟩ (.int .u64 (un (childA (childA a0 b0 (cutS s1).data.toList) (childB a0 b0 (cutS s1).data.toList) (cutS s2).data.toList)))).setCell ⟨D4, 1, none⟩ (.int .u64 (un (childB (childA a0 b0 (cutS s1).data.toList) (childB a0 b0 (cutS s1).data.toList) (cutS s2).data.toList))) = w3 at *
      clear hk2 hc2 hB2 hW hD4
      obtain ⟨m0, m1⟩ := hk3.cw
      obtain ⟨n0, n1⟩ := hc3.cw
      obtain ⟨o0, o1⟩ := hd3.cw
      have hca := HCA.out
      have hcb := HCB.out
      clear HCA HCB
      refine region_cw (by kernel_rfl) (by kernel_rfl) ?_
      repeat (first | go_big_quiet_step ((first | (go_at_call 12; first | exact Cw.call_same (cut_any _ hs1 _) | exact Cw.call_same (cut_any _ hs2 _)) | (go_at_call 11; exact Cw.call (sum_any _ _ _ (by rw [cat_size]; omega) _)) | (go_at_call 16; exact Cw.call_same (same_any _ _ _)))) | quiet_step ((first | (go_at_call 12; first | exact Cw.call_same (cut_any _ hs1 _) | exact Cw.call_same (cut_any _ hs2 _)) | (go_at_call 11; exact Cw.call (sum_any _ _ _ (by rw [cat_size]; omega) _)) | (go_at_call 16; exact Cw.call_same (same_any _ _ _)))))
      refine wpQuiet_nil ?_
      intro x
      go_wp2_with fail
      go_ret
      exact ⟨rfl, hB3.trans (x.below.mono hB3.size)⟩
    



set_option maxRecDepth 100000 in
theorem lifted (os : Os) (started : os.Started) (H : Type) (enc : TypeId × Value → H) :
    ReturnsInHanded {} Try.checked os 9 .any (Rows.sipHalvesSpec.pre6 enc Try.prog Try.f9 Rows.sipHalvesRow.domain false) (Rows.sipHalvesSpec.post enc Try.prog Try.f9 false true false false) := by
  refine returnsInHanded_of_change (C := Try.checked) own started (by kernel_rfl) Try.func9
    (ChangeSpec.witness6 (enc := enc) (C := Try.checked) false ⟨#[], #[.agg #[.int .u64 0, .int .u64 0], .string ⟨#[]⟩, .string ⟨#[]⟩], []⟩ 8 (by kernel_rfl) (by kernel_rfl) (by kernel_rfl) (by kernel_rfl)) ?_
  intro W base args ds gs before hval0 hW hcnd _
  have hval : ∀ (j : Nat) t v, Try.f9.params[j]? = some t → args[j]? = some v → Value.okWide Try.prog W .any base t v := hval0
  have hW' := hW
  obtain ⟨p, q, hA0, hV, rfl, hfz, hnd⟩ := hW
  have hA : DataW.TrodAll enc Try.prog W 0 (fun _ => true) true Try.f9.params.toList args.toList ds p := hA0
  rw [Try.params9] at hA hval
  obtain ⟨v0, vs0, d0, ds0, p0, q0, hargs, rfl, rfl, h0, r0⟩ := trodAll_cons hA
  obtain ⟨v1, vs1, d1, ds1, p1, q1, rfl, rfl, rfl, h1, r1⟩ := trodAll_cons r0
  obtain ⟨v2, vs2, d2, ds2, p2, q2, rfl, rfl, rfl, h2, r2⟩ := trodAll_cons r1
  obtain ⟨rfl, rfl, rfl⟩ := trodAll_nil r2
  obtain rfl : args = #[v0, v1, v2] := by cases args; simp_all
  obtain ⟨rfl, rfl⟩ := trodVars_none hV
  have k0 := h0
  have lt0 : ∀ x ∈ p0, x.block < W.heap.size := by obtain ⟨m, hm⟩ := k0; exact DataW.trod_lt m _ _ _ hm
  obtain ⟨a0, b0, rfl⟩ := openKey (hval 0 24 v0 rfl rfl) h0
  have k1 := h1
  have lt1 : ∀ x ∈ p1, x.block < W.heap.size := by obtain ⟨m, hm⟩ := k1; exact DataW.trod_lt m _ _ _ hm
  obtain ⟨s1, rfl, hs1⟩ := openStr (hval 1 9 v1 rfl rfl) h1
  have k2 := h2
  have lt2 : ∀ x ∈ p2, x.block < W.heap.size := by obtain ⟨m, hm⟩ := k2; exact DataW.trod_lt m _ _ _ hm
  obtain ⟨s2, rfl, hs2⟩ := openStr (hval 2 9 v2 rfl rfl) h2
  clear hA0 hval0
  refine (walk a0 b0 s1 hs1 s2 hs2 W).mono fun e W' ⟨he, bel⟩ => ?_
  subst he
  exact ⟨_, rfl, _, _, _, [], _, [], hW', trodAll_mk1 (shut_bool Try.underlying4 _), (trodAll_cons_mk (Below.trod laidOut (by kernel_rfl) (of_decide_eq_true (by kernel_rfl)) k0 bel lt0) (trodAll_cons_mk (Below.trod laidOut (by kernel_rfl) (of_decide_eq_true (by kernel_rfl)) k1 bel lt1) (trodAll_cons_mk (Below.trod laidOut (by kernel_rfl) (of_decide_eq_true (by kernel_rfl)) k2 bel lt2) trodAll_mk0))), rfl, bel.frame _, fun h => by cases h⟩

theorem over : Rows.sipHalvesRow.holds Try.pinned (OpenSpec.ofChange Rows.sipHalvesSpec) :=
  OpenClaim.holds_of_wide 9 Try.f9 rfl rfl rfl rfl rfl rfl rfl ⟨rfl, rfl, rfl, rfl, rfl⟩ rfl rfl rfl rfl rfl (by kernel_rfl) Try.func9 (by kernel_rfl)
    (of_decide_eq_true (by kernel_rfl)) (by unfold Func.isWrapper; first | (rw [if_pos (by decide +kernel)]; kernel_rfl) | (rw [if_neg (by decide +kernel)]; exact ⟨rfl, rfl⟩))
    (fun os started H enc _ => lifted os started H enc)

/-- THE STATEMENT -/
theorem proved : Rows.SipHalvesSaid := over
#print axioms proved
end Go.Proofs.Ytddggjimggikpaa.sipHalves
