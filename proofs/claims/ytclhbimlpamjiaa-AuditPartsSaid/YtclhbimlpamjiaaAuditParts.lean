/- AuditParts: for every key, sum, log and place, a chain goes as far as its first part, and, if that is whole, as far as the second one behind it. No condition. -/
import Derived.Test.YtclhbimlpamjiaaRows
import Derived.Test.YtclhbimlpamjiaaShown16
import Derived.Test.YtclhbimlpamjiaaOpenLog
import Derived.Test.YtclhbimlpamjiaaOpen
import Derived.WalkKit
import Derived.ProofKit
import Derived.OpenShut
import Derived.ShutString
import Derived.ChangeOld
import Derived.Below
namespace Go.Proofs.Ytclhbimlpamjiaa.auditParts
open Go.ChangeShapes Go.WideShapes Go.ChangeAt Go.RowKit Go.Joins
set_option linter.unusedVariables false

theorem own : ownKnob Try.prog.godebug = none := by kernel_rfl
theorem laidOut : laidOutB Try.prog = true := by kernel_rfl

set_option linter.unusedSimpArgs false
set_option maxRecDepth 100000 in
set_option maxHeartbeats 2000000 in
theorem walk (a0 b0 : BitVec 64) (x1 : Int) (xa1 : 0 ≤ x1) (xb1 : x1 < 18446744073709551616) (bf2 : Int) (fa2 : 0 ≤ bf2) (fb2 : bf2 < 18446744073709551616) (s2 : Option Addr) (L2 : List Ent) (cap2 : Nat) (hN2 : ∀ x ∈ L2, x.Num) (hl2 : L2.length ≤ cap2) (hc2 : cap2 ≤ 9223372036854775807) (hn2 : s2 = none → cap2 = 0) (n3 : Int) (na3 : -9223372036854775808 ≤ n3) (nb3 : n3 ≤ 9223372036854775807) (w : World) (hE2 : Ents w s2 L2) :
    Calls Try.prog 6 #[kv a0 b0, .int .u64 x1, lv bf2 s2 L2.length cap2, .int .i64 n3] w fun e w' => e = .returned (.bool true) ∧ Below w.heap.size w w' := by
  have st0 := (St.start w).alloc (cs := #[.int .u64 (un a0), .int .u64 (un b0)]) (T := 24) |>.alloc (cs := #[.int .u64 bf2, .slice s2 L2.length cap2]) (T := 27)
  go_enter Try.func6, Try.ntmps6
  go_wp2_with fail
  refine (st0.call (shown_any _)).mono ?_
  rintro e w1 ⟨rfl, st1⟩
  have rl := st1.rules
  simp only [Rules, World.size_alloc] at rl
  go_wp2_with fail
  refine (fewLog_any bf2 L2 hN2 (by omega) s2 cap2 _ (hE2.below st1.below)).mono ?_
  rintro e w2 ⟨v2, rfl, hown2, hb2⟩
  have hM := fewE_ok L2 hN2
  have hMl := fewE_length L2
  generalize fewE L2 = M at *
  rcases hown2.2 with ⟨hv2, hz2⟩ | ⟨g, c', cur, hv2, hBg, hcur, hcap', hcm', _⟩
  · obtain rfl : M = [] := List.eq_nil_of_length_eq_zero hz2
    subst hv2
    have st2 := st1.to hb2
    have st3 := (st2.setT 0 rfl (o := 0) (v := .int .u64 bf2) (by simp)).setT 0 rfl (o := 1) (v := .slice none 0 0) (by simp)
    simp only [setB, List.modify_zero_cons, List.setIfInBounds_toArray, List.set_cons_succ, List.set_cons_zero, World.size_alloc] at st3
    have hk : max 0 (min n3 0) = 0 := by omega
    clear rl hb2 hown2
    have rl := st2.rules
    simp only [Rules, World.size_alloc] at rl
    go_wp2_with fail
    refine (st3.call' (fun st => chained_n 0 a0 b0 x1 xa1 xb1 [] (by simp) rfl (by omega) _ _ _ ownE_nil)).mono ?_
    rintro e w4 ⟨rfl, st4⟩
    rw [chain_nil]
    clear rl st2 st3
    have rl := st4.rules
    simp only [Rules, World.size_alloc] at rl
    go_wp2_with fail
    clear rl
    obtain ⟨bl4, E4, hne4, sh4, rl, hEx, hbx, hst⟩ := st4.hide
    refine region_st sh4 (by kernel_rfl) (by kernel_rfl) ?_
    simp only [Rules, World.size_alloc] at rl
    repeat (first | go_big_quiet_step ((first | (go_at_call 22; exact Cs.call (chained_n 0 a0 b0 x1 xa1 xb1 [] (by simp) rfl (by omega) _ _ _ ownE_nil)))) | quiet_step ((first | (go_at_call 22; exact Cs.call (chained_n 0 a0 b0 x1 xa1 xb1 [] (by simp) rfl (by omega) _ _ _ ownE_nil)))))
    refine wpQuiet_nil ?_
    intro y
    rw [chain_nil]
    have st5 := (hst y).out
    clear hbx rl hst sh4 hEx st4
    generalize y.W = w5 at *
    have rl := st5.rules
    simp only [Rules, World.size_alloc] at rl
    go_wp2_with fail
    clear rl
    obtain ⟨bl6, E6, hne6, sh6, rl, hEx, hbx, hst⟩ := st5.hide
    refine region_st sh6 (by kernel_rfl) (by kernel_rfl) ?_
    simp only [Rules, World.size_alloc] at rl
    repeat (first | go_big_quiet_step ((first | (go_at_call 22; exact Cs.call (chained_n 0 a0 b0 x1 xa1 xb1 [] (by simp) rfl (by omega) _ _ _ ownE_nil)))) | quiet_step ((first | (go_at_call 22; exact Cs.call (chained_n 0 a0 b0 x1 xa1 xb1 [] (by simp) rfl (by omega) _ _ _ ownE_nil)))))
    refine wpQuiet_nil ?_
    intro y
    rw [chain_nil]
    have hfin := (hbx y).out
    clear hbx rl hst sh6 hEx
    generalize y.W = w6 at *
    go_wp2_with fail
    go_ret
    exact ⟨by first | rfl | (simp; done), hfin⟩
  · subst hv2
    have hlt := (st1.rules).2.2.1
    simp only [World.size_alloc] at hlt
    have st2 := (st1.to hb2).lessE (F := fun W => OwnE W w1.heap.size (.slice (some ⟨g, 0, none⟩) M.length c') M) hown2 ownsRow_keep
    have st3 := (st2.set 0 rfl (o := 0) (v := .int .u64 bf2) (by simp) (fun h => ownsRow_setCell_below h (by simpa using hlt) _)).set 0 rfl (o := 1) (v := .slice (some ⟨g, 0, none⟩) M.length c') (by simp) (fun h => ownsRow_setCell_below h (by simpa using hlt) _)
    simp only [setB, List.modify_zero_cons, List.setIfInBounds_toArray, List.set_cons_succ, List.set_cons_zero, World.size_alloc] at st3
    obtain ⟨k, hk, hkl⟩ : ∃ k : Nat, max 0 (min n3 (M.length : Int)) = (k : Int) ∧ k ≤ M.length := ⟨(max 0 (min n3 (M.length : Int))).toNat, by omega, by omega⟩
    clear rl hb2
    have rl := st2.rules
    simp only [Rules, World.size_alloc] at rl
    go_wp2_with fail
    refine (st3.call' (fun st => chained_any a0 b0 x1 xa1 xb1 M hM (by omega) _ c' _ (own_ents_at st.ex))).mono ?_
    rintro e w4 ⟨rfl, st4⟩
    clear rl st2 st3
    have rl := st4.rules
    simp only [Rules, World.size_alloc] at rl
    go_wp2_with fail
    clear rl
    obtain ⟨bl4, E4, hne4, sh4, rl, hEx, hbx, hst⟩ := st4.hide
    refine region_st sh4 (by kernel_rfl) (by kernel_rfl) ?_
    simp only [Rules, World.size_alloc] at rl
    have hkc : k ≤ c' := by omega
    repeat (first | go_big_quiet_step ((first | (go_at_call 22; exact Cs.call (chained_n k a0 b0 x1 xa1 xb1 (M.take k) (fun x hx => hM x (List.mem_of_mem_take hx)) (by simp; omega) (by omega) _ c' _ ((own_ents_at (hEx _).out).take k))))) | quiet_step ((first | (go_at_call 22; exact Cs.call (chained_n k a0 b0 x1 xa1 xb1 (M.take k) (fun x hx => hM x (List.mem_of_mem_take hx)) (by simp; omega) (by omega) _ c' _ ((own_ents_at (hEx _).out).take k))))))
    refine wpQuiet_nil ?_
    intro y
    have st5 := (hst y).out
    clear hbx rl hst sh4 hEx st4
    generalize y.W = w5 at *
    have rl := st5.rules
    simp only [Rules, World.size_alloc] at rl
    cases hA : (chain a0 b0 x1 (List.take k M)).2
    · have hp := chain_part a0 b0 x1 (List.take k M) hA
      have hp' : (chain a0 b0 x1 (List.take k M)).1 < k := by have := List.length_take_le k M; omega
      have hMA : chain a0 b0 x1 M = chain a0 b0 x1 (List.take k M) := by
        have := chain_append a0 b0 x1 (List.take k M) (List.drop k M)
        rw [List.take_append_drop, hA] at this
        simpa using this
      clear hp
      go_wp2_with fail
      go_ret
      exact ⟨by first | rfl | (rw [decide_eq_true hp']; rfl), st5.below⟩
    · have hw := chain_whole a0 b0 x1 (List.take k M) hA
      rw [List.length_take, Nat.min_eq_left hkl] at hw
      have hMA : chain a0 b0 x1 M = (k + (chain a0 b0 (headE x1 (List.take k M)) (List.drop k M)).1, (chain a0 b0 (headE x1 (List.take k M)) (List.drop k M)).2) := by
        have := chain_append a0 b0 x1 (List.take k M) (List.drop k M)
        rw [List.take_append_drop, hA, hw] at this
        simpa using this
      have HMA := Lib.hid hMA
      clear hMA
      have hcl := chain_le a0 b0 x1 M
      by_cases hk0 : k = 0
      · subst hk0
        clear HMA hA hw
        go_wp2_with fail
        clear rl
        obtain ⟨bl6, E6, hne6, sh6, rl, hEx, hbx, hst⟩ := st5.hide
        refine region_st sh6 (by kernel_rfl) (by kernel_rfl) ?_
        simp only [Rules, World.size_alloc] at rl
        repeat (first | go_big_quiet_step ((first | (go_at_call 22; exact Cs.call (chained_n M.length a0 b0 x1 xa1 xb1 M hM rfl (by omega) _ c' _ (own_ents_at (hEx _).out))))) | quiet_step ((first | (go_at_call 22; exact Cs.call (chained_n M.length a0 b0 x1 xa1 xb1 M hM rfl (by omega) _ c' _ (own_ents_at (hEx _).out))))))
        refine wpQuiet_nil ?_
        intro y
        have hfin := (hbx y).out
        clear hbx rl hst sh6 hEx
        generalize y.W = w6 at *
        go_wp2_with fail
        go_ret
        exact ⟨by first | rfl | (simp; done), hfin⟩
      · obtain ⟨j, rfl⟩ : ∃ j, k = j + 1 := ⟨k - 1, by omega⟩
        have hx := List.getElem?_eq_getElem (show j < M.length by omega)
        obtain ⟨g', o', he, _, _, _, _, d3⟩ := own_ents_at st5.ex _ _ hx
        cases he
        have hok := hM _ (List.getElem_mem (show j < M.length by omega))
        have hm0 := hok.m0
        have hm1 := hok.m1
        have hhd : headE x1 (List.take (j + 1) M) = (M[j]'(by omega)).sum := by
          rw [List.take_add_one, hx]
          exact headE_snoc _ _ _
        rw [hhd] at HMA
        generalize (M[j]'(by omega)) = x at *
        clear hx hhd hok
        rw [Nat.zero_add] at d3
        go_wp2_with fail
        clear rl
        obtain ⟨bl6, E6, hne6, sh6, rl, hEx, hbx, hst⟩ := st5.hide
        refine region_st sh6 (by kernel_rfl) (by kernel_rfl) ?_
        simp only [Rules, World.size_alloc] at rl
        by_cases hkc' : j + 1 < c'
        · repeat (first | go_big_quiet_step ((first | (go_at_call 22; exact Cs.call (chained_n (M.length - (j + 1)) a0 b0 x.sum hm0 hm1 (M.drop (j + 1)) (fun x hx => hM x (List.mem_of_mem_drop hx)) (by simp) (by omega) _ _ _ ((own_ents_at (hEx _).out).drop0 (j + 1)))))) | quiet_step ((first | (go_at_call 22; exact Cs.call (chained_n (M.length - (j + 1)) a0 b0 x.sum hm0 hm1 (M.drop (j + 1)) (fun x hx => hM x (List.mem_of_mem_drop hx)) (by simp) (by omega) _ _ _ ((own_ents_at (hEx _).out).drop0 (j + 1)))))))
          have hcb : (chain a0 b0 x.sum (List.drop (j + 1) M)).1 ≤ 40 := Nat.le_trans (chain_le a0 b0 x.sum (List.drop (j + 1) M)) (by simp; omega)
          refine wpQuiet_nil ?_
          intro y
          rw [HMA.out, hw]
          clear HMA hw hcl hA
          generalize chain a0 b0 x.sum (List.drop (j + 1) M) = r at *
          have hfin := (hbx y).out
          clear hbx rl hst sh6 hEx
          generalize y.W = w6 at *
          go_wp2_with fail
          go_ret
          exact ⟨by first | rfl | (simp; done), hfin⟩
        · have hc'' : c' = j + 1 := by omega
          have hML : M.length = j + 1 := by omega
          have hdr : List.drop (j + 1) M = [] := List.drop_eq_nil_of_le (by omega)
          subst hc''
          rw [hdr] at HMA
          clear hdr
          repeat (first | go_big_quiet_step ((first | (go_at_call 22; exact Cs.call (chained_n 0 a0 b0 x.sum hm0 hm1 [] (by simp) rfl (by omega) _ _ _ (fun i x hx => by simp at hx))))) | quiet_step ((first | (go_at_call 22; exact Cs.call (chained_n 0 a0 b0 x.sum hm0 hm1 [] (by simp) rfl (by omega) _ _ _ (fun i x hx => by simp at hx))))))
          refine wpQuiet_nil ?_
          intro y
          rw [HMA.out, hw, chain_nil]
          clear HMA hw hcl hA
          have hfin := (hbx y).out
          clear hbx rl hst sh6 hEx
          generalize y.W = w6 at *
          go_wp2_with fail
          go_ret
          exact ⟨by first | rfl | (simp; done), hfin⟩


set_option maxRecDepth 100000 in
theorem lifted (os : Os) (started : os.Started) (H : Type) (enc : TypeId × Value → H) :
    ReturnsInHanded {} Try.checked os 6 .any (Rows.auditPartsSpec.pre6 enc Try.prog Try.f6 Rows.auditPartsRow.domain false) (Rows.auditPartsSpec.post enc Try.prog Try.f6 false true false false) := by
  refine returnsInHanded_of_change (C := Try.checked) own started (by kernel_rfl) Try.func6
    (ChangeSpec.witness6 (enc := enc) (C := Try.checked) false ⟨#[], #[.agg #[.int .u64 0, .int .u64 0], .int .u64 0, .agg #[.int .u64 0, .slice none 0 0], .int .i64 0], []⟩ 8 (by kernel_rfl) (by kernel_rfl) (by kernel_rfl) (by kernel_rfl)) ?_
  intro W base args ds gs before hval0 hW hcnd _
  have hval : ∀ (j : Nat) t v, Try.f6.params[j]? = some t → args[j]? = some v → Value.okWide Try.prog W .any base t v := hval0
  have hW' := hW
  obtain ⟨p, q, hA0, hV, rfl, hfz, hnd⟩ := hW
  have hA : DataW.TrodAll enc Try.prog W 0 (fun _ => true) true Try.f6.params.toList args.toList ds p := hA0
  rw [Try.params6] at hA hval
  obtain ⟨v0, vs0, d0, ds0, p0, q0, hargs, rfl, rfl, h0, r0⟩ := trodAll_cons hA
  obtain ⟨v1, vs1, d1, ds1, p1, q1, rfl, rfl, rfl, h1, r1⟩ := trodAll_cons r0
  obtain ⟨v2, vs2, d2, ds2, p2, q2, rfl, rfl, rfl, h2, r2⟩ := trodAll_cons r1
  obtain ⟨v3, vs3, d3, ds3, p3, q3, rfl, rfl, rfl, h3, r3⟩ := trodAll_cons r2
  obtain ⟨rfl, rfl, rfl⟩ := trodAll_nil r3
  obtain rfl : args = #[v0, v1, v2, v3] := by cases args; simp_all
  obtain ⟨rfl, rfl⟩ := trodVars_none hV
  have k0 := h0
  have lt0 : ∀ x ∈ p0, x.block < W.heap.size := by obtain ⟨m, hm⟩ := k0; exact DataW.trod_lt m _ _ _ hm
  obtain ⟨a0, b0, rfl⟩ := openKey (hval 0 24 v0 rfl rfl) h0
  have k1 := h1
  have lt1 : ∀ x ∈ p1, x.block < W.heap.size := by obtain ⟨m, hm⟩ := k1; exact DataW.trod_lt m _ _ _ hm
  obtain ⟨x1, rfl, xa1, xb1⟩ := openU64i (hval 1 22 v1 rfl rfl) h1
  have k2 := h2
  have lt2 : ∀ x ∈ p2, x.block < W.heap.size := by obtain ⟨m, hm⟩ := k2; exact DataW.trod_lt m _ _ _ hm
  obtain ⟨bf2, s2, L2, cap2, rfl, fa2, fb2, hE2, hN2, hl2, hc2, hn2⟩ := openLog (hval 2 27 v2 rfl rfl) h2
  have k3 := h3
  have lt3 : ∀ x ∈ p3, x.block < W.heap.size := by obtain ⟨m, hm⟩ := k3; exact DataW.trod_lt m _ _ _ hm
  obtain ⟨n3, rfl, na3, nb3⟩ := openInt (hval 3 3 v3 rfl rfl) h3
  clear hA0 hval0
  refine (walk a0 b0 x1 xa1 xb1 bf2 fa2 fb2 s2 L2 cap2 hN2 hl2 hc2 hn2 n3 na3 nb3 W hE2).mono fun e W' ⟨he, bel⟩ => ?_
  subst he
  exact ⟨_, rfl, _, _, _, [], _, [], hW', trodAll_mk1 (shut_bool Try.underlying4 _), (trodAll_cons_mk (Below.trod laidOut (by kernel_rfl) (of_decide_eq_true (by kernel_rfl)) k0 bel lt0) (trodAll_cons_mk (Below.trod laidOut (by kernel_rfl) (of_decide_eq_true (by kernel_rfl)) k1 bel lt1) (trodAll_cons_mk (Below.trod laidOut (by kernel_rfl) (of_decide_eq_true (by kernel_rfl)) k2 bel lt2) (trodAll_cons_mk (Below.trod laidOut (by kernel_rfl) (of_decide_eq_true (by kernel_rfl)) k3 bel lt3) trodAll_mk0)))), rfl, bel.frame _, fun h => by cases h⟩

theorem over : Rows.auditPartsRow.holds Try.pinned (OpenSpec.ofChange Rows.auditPartsSpec) :=
  OpenClaim.holds_of_wide 6 Try.f6 rfl rfl rfl rfl rfl rfl rfl ⟨rfl, rfl, rfl, rfl, rfl⟩ rfl rfl rfl rfl rfl (by kernel_rfl) Try.func6 (by kernel_rfl)
    (of_decide_eq_true (by kernel_rfl)) (by unfold Func.isWrapper; first | (rw [if_pos (by decide +kernel)]; kernel_rfl) | (rw [if_neg (by decide +kernel)]; exact ⟨rfl, rfl⟩))
    (fun os started H enc _ => lifted os started H enc)

/-- THE STATEMENT -/
theorem proved : Rows.AuditPartsSaid := over
#print axioms proved
end Go.Proofs.Ytclhbimlpamjiaa.auditParts
