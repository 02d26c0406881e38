/- A part of the proof of TopCounts. -/
import Derived.Test.YtmgdbfmlnmahpaaGreatDoorG13
import Derived.Test.YtmgdbfmlnmahpaaGreatDoorG04
import Derived.Maps.OwnOps
import Derived.Maps.OwnSet
import Derived.Maps.RangeWalk
namespace Go.Proofs.YtmgdbfmlnmahpaaGreatDoor
open Go.RowKit Go.Shelf
set_option linter.unusedSimpArgs false
set_option linter.unusedVariables false
set_option maxRecDepth 100000
theorem cKeyed : Maps.Keyed Tryz.prog 3 := Maps.int_keyed Tryz.underlying3
theorem cMap : Tryz.prog.underlying 478 = some (.map 3 22) := Tryz.underlying478
theorem cZero (w : World) : (zeroValue 22).run Tryz.prog w = .ok (.int .u64 0) w := by kernel_rfl
abbrev CntM (W : World) (b n : Nat) (l : List (Nat × Nat)) : Prop := W.ownsMap Tryz.prog 3 (plainElem Tryz.prog 22) b n (dM l)
abbrev workV (b : Nat) : Value := .agg #[.map (some b), .int .i64 3]
def IsSl2 (B : Nat) (cs : Array Value) : Value → World → Prop := fun v W => ∃ A, v = .slice (some ⟨A, 0, none⟩) 2 2 ∧ B ≤ A ∧ W.heap[A]? = some (.cells cs 22 (0, 0))
theorem stableSl2 (B : Nat) (cs : Array Value) : Stable (IsSl2 B cs) := fun _ _ _ ⟨b, h1, h2, h3⟩ hb => ⟨b, h1, h2, (hb.block b (blk_lt h3)).trans h3⟩
theorem getM_le {l : List (Nat × Nat)} (h : ∀ x ∈ l, x.2 ≤ maxU) (a : Nat) : getM a l ≤ maxU := by
  induction l with
  | nil => exact Nat.zero_le _
  | cons x l ih =>
    unfold getM
    split
    · exact h x (by simp)
    · exact ih (fun y hy => h y (by simp [hy]))
theorem cnt_look {W : World} {b n : Nat} {l : List (Nat × Nat)} (h : CntM W b n l) (a : Nat) (ha : a ≤ 1000) : (Instr.lookup 478 (.map (some b)) (.int .i64 (a : Int)) false).run Tryz.prog W = .ok (.int .u64 (getM a l : Nat)) W := by
  obtain ⟨c, hrun, hat, _⟩ := h.lookup_int cKeyed cMap Tryz.underlying22 (cZero _) (key := .int .i64 (a : Int)) (kl := .int .i64 (a : Int)) (Maps.keyOf_int_mk Tryz.underlying3 (WalkArith.wf_i64 (by omega)))
  rw [dM_at] at hat
  simp only [DataW.lit.injEq, Lit.int.injEq, true_and] at hat
  rw [hrun, ← hat]
theorem hiPut_any (b m : Nat) (l : List (Nat × Nat)) (hl : AscH l) (hm : ∀ x ∈ l, x.2 ≤ maxU) (q n : Nat) (ha : q ≤ 1000) (hn : n ≤ maxU) (hmx : m ≤ 1000000) (w : World) (hc : CntM w b m l) :
    Calls Tryz.prog 327 #[workV b, .int .i64 (q : Int), .int .u64 (n : Int)] w fun e w' => e = .returned (.tuple #[]) ∧ CntM w' b (m + 1) (hitM q n l) ∧ w.grownBy w' (some b) := by
  have st := (St.start w).alloc (cs := #[.map (some b), .int .i64 3]) (T := 480)
  have hbz := hc.lt
  have HOLD := Lib.hid (getM_le hm q)
  have HPUT := Lib.hid (dM_put hl q (sat (getM q l) n))
  have HLK := Lib.hid (fun W (hW : Below w.heap.size w W) => cnt_look (hc.kept (grownBy_ofBelow hW none) (by simp)) q ha)
  obtain ⟨old, hold⟩ : ∃ old, getM q l = old := ⟨_, rfl⟩
  have HH : Hid (hitM q n l = putM q (sat old n) l) := by show _ = _; unfold hitM; rw [hold]
  rw [hold] at HOLD HPUT HLK
  have HTG := Lib.hid (fun A W hA => hTogether_any A old n HOLD.out hn W hA)
  obtain ⟨nw, hnw⟩ : ∃ nw, sat old n = nw := ⟨_, rfl⟩
  have HNW := Lib.hid (show nw ≤ maxU by rw [← hnw]; exact sat_le _ _)
  rw [hnw] at HPUT HH HTG
  clear hold hnw hm hn
  go_enter Tryz.func327, Tryz.ntmps327
  go_wp2_with fail
  refine region_spec 10 (Fs [IsVal (.pointer (some ⟨w.heap.size, 0, none⟩)), IsVal (.map (some b)), IsVal (.int .i64 (q : Int)), IsVal (.pointer (some ⟨w.heap.size, 0, none⟩)), IsVal (.map (some b)), IsVal (.int .i64 (q : Int)), IsVal (.int .u64 (old : Int)), IsVal (.int .u64 (n : Int)), IsSl2 w.heap.size #[.int .u64 (old : Int), .int .u64 (n : Int)], IsVal (.int .u64 (nw : Int))]) (by kernel_rfl) (by kernel_rfl) (by kernel_rfl) (Fs_stable _ ?stab) ?spec ?endd
  case stab =>
    simp only [List.forall_mem_cons]
    exact ⟨stableVal _, stableVal _, stableVal _, stableVal _, stableVal _, stableVal _, stableVal _, stableVal _, stableSl2 _ _, stableVal _, by simp⟩
  case spec =>
    refine ⟨?_, ?_, ?_, ?_, ?_, ?_, ?_, ?_, ?_, ?_, trivial⟩
    · intro a W hW hu hd
      have kc : ∀ c, a.eval (Operand.const c) = c := fun _ => rfl
      have kf : ∀ f, a.eval (Operand.func f) = .func (.func f) #[] #[] := fun _ => rfl
      have sW := st.to hW
      have rl := sW.rules
      simp only [Rules, World.size_alloc] at rl
      have u3 : a.eval (Operand.tmp 3) = .pointer (some ⟨w.heap.size, 0, none⟩) := hu 3 (by decide)
      unfold StepOk
      rw [if_pos (by rfl)]
      clear hu hd
      generalize a.eval = ρ at *
      go_simp
      exact opOk_val rfl
    · intro a W hW hu hd
      have kc : ∀ c, a.eval (Operand.const c) = c := fun _ => rfl
      have kf : ∀ f, a.eval (Operand.func f) = .func (.func f) #[] #[] := fun _ => rfl
      have sW := st.to hW
      have rl := sW.rules
      simp only [Rules, World.size_alloc] at rl
      have u6 : a.eval (Operand.tmp 6) = .pointer (some ⟨w.heap.size, 0, none⟩) := hd 0 6 (by kernel_rfl) rfl
      unfold StepOk
      rw [if_pos (by rfl)]
      clear hu hd
      generalize a.eval = ρ at *
      go_simp
      exact opOk_val rfl
    · intro a W hW hu hd
      have kc : ∀ c, a.eval (Operand.const c) = c := fun _ => rfl
      have kf : ∀ f, a.eval (Operand.func f) = .func (.func f) #[] #[] := fun _ => rfl
      have sW := st.to hW
      have rl := sW.rules
      simp only [Rules, World.size_alloc] at rl
      have u1 : a.eval (Operand.tmp 1) = .int .i64 (q : Int) := hu 1 (by decide)
      unfold StepOk
      rw [if_pos (by rfl)]
      clear hu hd
      generalize a.eval = ρ at *
      go_simp
      exact opOk_val rfl
    · intro a W hW hu hd
      have kc : ∀ c, a.eval (Operand.const c) = c := fun _ => rfl
      have kf : ∀ f, a.eval (Operand.func f) = .func (.func f) #[] #[] := fun _ => rfl
      have sW := st.to hW
      have rl := sW.rules
      simp only [Rules, World.size_alloc] at rl
      have u3 : a.eval (Operand.tmp 3) = .pointer (some ⟨w.heap.size, 0, none⟩) := hu 3 (by decide)
      unfold StepOk
      rw [if_pos (by rfl)]
      clear hu hd
      generalize a.eval = ρ at *
      go_simp
      exact opOk_val rfl
    · intro a W hW hu hd
      have kc : ∀ c, a.eval (Operand.const c) = c := fun _ => rfl
      have kf : ∀ f, a.eval (Operand.func f) = .func (.func f) #[] #[] := fun _ => rfl
      have sW := st.to hW
      have rl := sW.rules
      simp only [Rules, World.size_alloc] at rl
      have u9 : a.eval (Operand.tmp 9) = .pointer (some ⟨w.heap.size, 0, none⟩) := hd 3 9 (by kernel_rfl) rfl
      unfold StepOk
      rw [if_pos (by rfl)]
      clear hu hd
      generalize a.eval = ρ at *
      go_simp
      exact opOk_val rfl
    · intro a W hW hu hd
      have kc : ∀ c, a.eval (Operand.const c) = c := fun _ => rfl
      have kf : ∀ f, a.eval (Operand.func f) = .func (.func f) #[] #[] := fun _ => rfl
      have sW := st.to hW
      have rl := sW.rules
      simp only [Rules, World.size_alloc] at rl
      have u1 : a.eval (Operand.tmp 1) = .int .i64 (q : Int) := hu 1 (by decide)
      unfold StepOk
      rw [if_pos (by rfl)]
      clear hu hd
      generalize a.eval = ρ at *
      go_simp
      exact opOk_val rfl
    · intro a W hW hu hd
      have kc : ∀ c, a.eval (Operand.const c) = c := fun _ => rfl
      have kf : ∀ f, a.eval (Operand.func f) = .func (.func f) #[] #[] := fun _ => rfl
      have sW := st.to hW
      have rl := sW.rules
      simp only [Rules, World.size_alloc] at rl
      have u10 : a.eval (Operand.tmp 10) = .map (some b) := hd 4 10 (by kernel_rfl) rfl
      have u11 : a.eval (Operand.tmp 11) = .int .i64 (q : Int) := hd 5 11 (by kernel_rfl) rfl
      have hlk := HLK.out W (sW.below)
      unfold StepOk
      rw [if_pos (by rfl)]
      clear hu hd
      generalize a.eval = ρ at *
      go_simp
      exact opOk_val rfl
    · intro a W hW hu hd
      have kc : ∀ c, a.eval (Operand.const c) = c := fun _ => rfl
      have kf : ∀ f, a.eval (Operand.func f) = .func (.func f) #[] #[] := fun _ => rfl
      have sW := st.to hW
      have rl := sW.rules
      simp only [Rules, World.size_alloc] at rl
      have u2 : a.eval (Operand.tmp 2) = .int .u64 (n : Int) := hu 2 (by decide)
      unfold StepOk
      rw [if_pos (by rfl)]
      clear hu hd
      generalize a.eval = ρ at *
      go_simp
      exact opOk_val rfl
    · intro a W hW hu hd
      have kc : ∀ c, a.eval (Operand.const c) = c := fun _ => rfl
      have kf : ∀ f, a.eval (Operand.func f) = .func (.func f) #[] #[] := fun _ => rfl
      have sW := st.to hW
      have rl := sW.rules
      simp only [Rules, World.size_alloc] at rl
      have u12 : a.eval (Operand.tmp 12) = .int .u64 (old : Int) := hd 6 12 (by kernel_rfl) rfl
      have u13 : a.eval (Operand.tmp 13) = .int .u64 (n : Int) := hd 7 13 (by kernel_rfl) rfl
      unfold StepOk
      rw [if_pos (by rfl)]
      clear hu hd
      generalize a.eval = ρ at *
      go_simp
      exact ⟨(Below.refl _ _).alloc (Nat.le_refl _) _, W.heap.size, rfl, sW.below.size, World.alloc_heap_new _ _⟩
    · intro a W hW hu hd
      have kc : ∀ c, a.eval (Operand.const c) = c := fun _ => rfl
      have kf : ∀ f, a.eval (Operand.func f) = .func (.func f) #[] #[] := fun _ => rfl
      have sW := st.to hW
      have rl := sW.rules
      simp only [Rules, World.size_alloc] at rl
      obtain ⟨A, u14, hA, hN⟩ : IsSl2 w.heap.size #[.int .u64 (old : Int), .int .u64 (n : Int)] (a.eval (Operand.tmp 14)) W := hd 8 14 (by kernel_rfl) rfl
      unfold StepOk
      rw [if_pos (by rfl)]
      clear hu hd
      generalize a.eval = ρ at *
      go_simp
      refine ⟨Below.refl _ _, (HTG.out A W hN).mono ?_⟩
      rintro e w' ⟨rfl, rfl⟩
      exact ⟨_, rfl, Below.refl _ _, rfl⟩
  case endd =>
    intro v W hW hv
    have v0 : v 0 = (.pointer (some ⟨w.heap.size, 0, none⟩)) := hv 0 (by omega)
    have v1 : v 1 = (.map (some b)) := hv 1 (by omega)
    have v2 : v 2 = (.int .i64 (q : Int)) := hv 2 (by omega)
    have v3 : v 3 = (.pointer (some ⟨w.heap.size, 0, none⟩)) := hv 3 (by omega)
    have v4 : v 4 = (.map (some b)) := hv 4 (by omega)
    have v5 : v 5 = (.int .i64 (q : Int)) := hv 5 (by omega)
    have v6 : v 6 = (.int .u64 (old : Int)) := hv 6 (by omega)
    have v7 : v 7 = (.int .u64 (n : Int)) := hv 7 (by omega)
    have hf8 : IsSl2 w.heap.size #[.int .u64 (old : Int), .int .u64 (n : Int)] (v 8) W := hv 8 (by omega)
    have v9 : v 9 = (.int .u64 (nw : Int)) := hv 9 (by omega)
    clear hv
    simp only [List.take_succ_cons, List.take_zero, List.drop_succ_cons, List.drop_zero, putAll, Nat.zero_add, Nat.reduceAdd]
    rw [v0, v1, v2, v3, v4, v5, v6, v7, v9]
    clear v0 v1 v2 v3 v4 v5 v6 v7 v9
    have sW := st.to hW
    have hownW : CntM W b m l := hc.kept (grownBy_ofBelow sW.below none) (by simp)
    have hgw : w.grownBy W (some b) := grownBy_ofBelow sW.below _
    have hwl : (Lit.int .u64 (nw : Int)).wf = true := WalkArith.wf_u64 (by have : nw ≤ 18446744073709551615 := HNW.out; omega)
    clear hf8 hW sW st hc HLK HTG HOLD HNW
    refine wpList_mapUpdate_own W rfl _ _ _ 478 rfl 3 22 cKeyed cMap _ b m _ (by simp [Act.eval, Act.put]) hownW (by unfold maxLen; omega) (.int .i64 (q : Int)) (.int .u64 (nw : Int)) _ (by simp [Act.eval, Act.put]) (by simp [Act.eval, Act.put]) (Maps.keyOf_int_mk Tryz.underlying3 (WalkArith.wf_i64 (by omega))) (.lit (.int .u64 (nw : Int))) [] (plainElem_int Tryz.underlying22 hwl) ?_
    intro w1 hown1 hgrow1
    go_wp2_with fail
    go_end0
    refine ⟨rfl, ?_, hgw.andThen hgrow1 (fun j hj => .inr hj)⟩
    show w1.ownsMap _ _ _ _ _ (dM (hitM q n l))
    rw [HH.out, ← HPUT.out]
    exact hown1
theorem CntM.set {W : World} {b n : Nat} {l : List (Nat × Nat)} (h : CntM W b n l) {g : Nat} (hg : b ≠ g) (o : Nat) (v : Value) : CntM (W.setCell ⟨g, o, none⟩ v) b n l := by
  obtain ⟨es, clock, hb, F, hs, hD⟩ := h
  exact ⟨es, clock, (Below.heap_setCell W ⟨g, o, none⟩ v b hg).trans hb, F, hs, hD⟩
theorem CntM.below {W W' : World} {b n : Nat} {l : List (Nat × Nat)} (h : CntM W b n l) (hb : Below W.heap.size W W') : CntM W' b n l := h.kept (grownBy_ofBelow hb none) (by simp)
theorem hiBlank_any (w : World) : Calls Tryz.prog 331 #[.int .i64 3] w fun e w' => ∃ b, e = .returned (.tuple #[workV b, .nilIface]) ∧ w.heap.size ≤ b ∧ CntM w' b 0 [] ∧ Below w.heap.size w w' := by
  have hmm := @run_makeMap Tryz.prog
  have st := (St.start w).alloc (cs := #[.map none, .int .i64 0]) (T := 480)
  go_enter Tryz.func331, Tryz.ntmps331
  go_wp2_with fail
  refine (isFine_any _).mono ?_
  rintro e w1 ⟨rfl, rfl⟩
  go_wp2_with fail
  have hb2 := ((Below.refl w.heap.size w).alloc (Nat.le_refl _) (.cells #[.map (some (w.heap.size + 1)), .int .i64 3] 480)).alloc (by simp) (.map #[] 0)
  have hmk := World.ownsMap_made (w.alloc (.cells #[.map (some (w.heap.size + 1)), .int .i64 3] 480)) Tryz.prog 3 (plainElem (H := Unit) Tryz.prog 22)
  rw [World.size_alloc] at hmk
  exact bodyPost_ret (v := .tuple #[workV (w.heap.size + 1), .nilIface]) (by simp [results, Tryz.results331, go_sem]) rfl ⟨_, rfl, Nat.le_succ _, hmk, hb2⟩
theorem St.grownNe {w0 : World} {bl : List Blk} {w w' : World} {k : Nat} (h : St w0 bl (fun _ => True) w) (hg : w.grownBy w' (some k)) (h0 : w0.heap.size ≤ k) (hr : ∀ x ∈ bl, x.1 ≠ k) : St w0 bl (fun _ => True) w' :=
  ⟨h.below.grown hg h.below.size (fun j hj => by cases hj; exact h0), fun x hx => (hg.block _ (blk_lt (h.blk x hx)) (fun e => by cases e; exact hr x hx rfl)).trans (h.blk x hx), h.nd, trivial, fun _ _ _ _ => trivial⟩
theorem CntM.ne {W : World} {b n : Nat} {l : List (Nat × Nat)} (h : CntM W b n l) {g : Nat} {cs : Array Value} {T : TypeId} (hg : W.heap[g]? = some (.cells cs T (0, 0))) : g ≠ b := by
  rintro rfl
  obtain ⟨es, clock, hb, _⟩ := h
  rw [hb] at hg
  cases hg
theorem CntM.neAll {W w0 : World} {b n : Nat} {l : List (Nat × Nat)} {bl : List Blk} {E : World → Prop} (h : CntM W b n l) (st : St w0 bl E W) : ∀ x ∈ bl, x.1 ≠ b := fun x hx => h.ne (st.blk x hx)
theorem getM_high (a : Nat) : ∀ l : List (Nat × Nat), (∀ x ∈ l, x.1 < a) → getM a l = 0
  | [], _ => rfl
  | x :: l, h => by
    unfold getM
    have := h x (by simp)
    rw [if_neg (by omega), getM_high a l (fun y hy => h y (by simp [hy]))]
theorem putM_high (a n : Nat) : ∀ l : List (Nat × Nat), (∀ x ∈ l, x.1 < a) → putM a n l = l ++ [(a, n)]
  | [], _ => rfl
  | x :: l, h => by
    unfold putM
    have := h x (by simp)
    rw [if_neg (by omega), if_neg (by omega), putM_high a n l (fun y hy => h y (by simp [hy]))]
    rfl
theorem hitM_take {l : List (Nat × Nat)} (h : AscH l) (hp : PosH l) {k : Nat} {x : Nat × Nat} (hx : l[k]? = some x) : hitM x.1 x.2 (l.take k) = l.take (k + 1) := by
  obtain ⟨hk, e⟩ := List.getElem?_eq_some_iff.1 hx
  have hlow : ∀ y ∈ l.take k, y.1 < x.1 := by
    intro y hy
    obtain ⟨j, hj, ej⟩ := List.mem_take_iff_getElem.1 hy
    have := List.pairwise_iff_getElem.1 h j k (by omega) hk (by omega)
    rw [ej, e] at this
    exact this
  have hm := (hp x (List.mem_of_getElem? hx)).2
  unfold hitM
  rw [getM_high _ _ hlow, putM_high _ _ _ hlow, List.take_add_one, hx]
  have e0 : sat 0 x.2 = x.2 := by unfold sat; omega
  rw [e0]
  rfl
theorem hiBegin_any (l : List (Nat × Nat)) (hl : GoodL l) (s : Option Addr) (cap : Nat) (hlen : l.length ≤ 1000000) (hcap : l.length ≤ cap) (hsm : ∀ x ∈ l, x.1 ≤ 1000) (w : World) (hL : Rd 2 encB w s l) :
    Calls Tryz.prog 325 #[histV s l.length cap] w fun e w' => ∃ b, e = .returned (.tuple #[workV b, .nilIface]) ∧ w.heap.size ≤ b ∧ CntM w' b l.length l ∧ Below w.heap.size w w' := by
  have st0 := ((St.start w).alloc (cs := #[.int .i64 3, .slice s l.length cap]) (T := 101)).alloc (cs := #[.map none, .int .i64 0]) (T := 480)
  simp only [World.size_alloc] at st0
  have HR := Lib.hid (fun W hW => hiRight_any l hl s cap hlen hcap W hW)
  go_enter Tryz.func325, Tryz.ntmps325
  go_wp2_with fail
  refine (HR.out _ (hL.keepB (Nat.le_refl _) st0.below)).mono ?_
  rintro e w1 ⟨rfl, hb1⟩
  have st1 := st0.to hb1
  have rl := st1.rules
  simp only [Rules] at rl
  clear st0 hb1
  go_wp2_with fail
  refine (hiBlank_any _).mono ?_
  rintro e w2 ⟨b, rfl, hB, hM, hb2⟩
  have hwb : w.heap.size ≤ b := Nat.le_trans st1.below.size hB
  have st2 := (st1.to hb2).alloc (cs := #[.map (some b), .int .i64 3]) (T := 480)
  have hM2 := hM.alloc (.cells #[.map (some b), .int .i64 3] 480)
  have rl := st2.rules
  simp only [Rules, World.size_alloc] at rl
  clear st1 hb2 hM HR
  go_wp2_with fail
  go_loopw [23] (fun i wr => ∃ k : Nat, k ≤ l.length ∧ i = .int .i64 (k : Int) ∧ CntM wr b k (l.take k) ∧ St w [(w2.heap.size, #[.map (some b), .int .i64 3], 480), (w.heap.size + 1, #[.map none, .int .i64 0], 480), (w.heap.size, #[.int .i64 3, .slice s l.length cap], 101)] (fun _ => True) wr) (fun i _ => l.length - (intOf i).toNat)
  case atStart => exact ⟨0, Nat.zero_le _, rfl, hM2, st2⟩
  case round =>
    clear rl st2 hM2
    obtain ⟨k, hk, rfl, hMk, st⟩ := hrel
    have rl := st.rules
    simp only [Rules] at rl
    by_cases hlt : k < l.length
    · obtain ⟨x, hx⟩ : ∃ x, l[k]? = some x := ⟨_, List.getElem?_eq_getElem hlt⟩
      obtain ⟨g, o, rfl, hg, hc1, hc2⟩ := bin_at (hL.keepB (Nat.le_refl _) st.below) hx
      have HT := Lib.hid (hitM_take hl.1 hl.2.1 hx)
      have hx1 := hsm x (List.mem_of_getElem? hx)
      have hx2 := (hl.2.1 x (List.mem_of_getElem? hx)).2
      obtain ⟨xa, xn⟩ := x
      simp only at hc1 hc2 HT hx1 hx2
      have HP := Lib.hid (fun W hW => hiPut_any b k (l.take k) (hl.1.sublist (List.take_sublist _ _)) (fun y hy => (hl.2.1 y (List.mem_of_mem_take hy)).2) xa xn hx1 hx2 (by omega) W hW)
      have stb := st.alloc (cs := #[.int .i64 (xa : Nat), .int .u64 (xn : Nat)]) (T := 277)
      have hMb := hMk.alloc (.cells #[.int .i64 (xa : Nat), .int .u64 (xn : Nat)] 277)
      clear hx hx2 hMk
      go_wp2_with fail
      refine (HP.out _ hMb).mono ?_
      rintro e w3 ⟨rfl, hM3, hg3⟩
      have st3 := stb.grownNe hg3 hwb (CntM.neAll hMb stb)
      rw [HT.out] at hM3
      clear stb hMb st hc1 hc2 HP HT
      go_wp2_with fail
      go_roundw
      case rel => exact ⟨k + 1, hlt, by go_num, hM3, st3.less _ (List.sublist_cons_self _ _)⟩
      case measure => simp [intOf]; omega
    · obtain rfl : k = l.length := by omega
      rw [List.take_length] at hMk
      have hne : w.heap.size + 1 ≠ b := CntM.ne hMk (st.blk (w.heap.size + 1, #[.map none, .int .i64 0], 480) (by simp))
      have st4 := ((st.setT 1 rfl (o := 0) (v := .map (some b)) (by omega)).setT 1 rfl (o := 1) (v := .int .i64 3) (by omega))
      have hM4 := CntM.set (CntM.set hMk hne.symm 0 (.map (some b))) hne.symm 1 (.int .i64 3)
      simp only [setB, List.modify_succ_cons, List.modify_zero_cons, List.setIfInBounds_toArray, List.set_cons_zero, List.set_cons_succ] at st4
      go_wp2_with fail
      exact bodyPost_ret (v := .tuple #[workV b, .nilIface]) (by simp [results, Tryz.results325, go_sem, rl]) rfl ⟨b, rfl, hwb, hM4, st4.below⟩
end Go.Proofs.YtmgdbfmlnmahpaaGreatDoor
