/- A part of the proof of TopCounts. -/
import Derived.Test.YtmgdbfmlnmahpaaGreatDoorG06
import Derived.Test.YtmgdbfmlnmahpaaGreatDoorG03
import Derived.Test.YtmgdbfmlnmahpaaGreatDoorG07
import Derived.LoopNIn
import Derived.LoopIn
import Derived.TacticsInMore
namespace Go.Proofs.YtmgdbfmlnmahpaaGreatDoor
open Go.RowKit Go.Shelf
set_option linter.unusedSimpArgs false
set_option linter.unusedVariables false
set_option maxRecDepth 100000
theorem valsU1_in (w0 : World) (L : List Nat) (s : Option Addr) (cap : Nat) (hlen : L.length ≤ 1000000) (hL : Nums w0 s L) (n : Nat) (hn : 1 ≤ n) (l Bl : Nat) (J Jx : List Nat → World → Prop)
    (hY : ∀ (pre : List Nat) (x : Nat) (W : World), J pre W → pre.length < L.length → YieldAt Fence.wide (n - 1) Tryz.prog l #[.int .u64 (x : Int)] W fun e W' =>
      (e = .returned (.bool true) ∧ J (pre ++ [x]) W' ∧ Below w0.heap.size W W') ∨ (e = .returned (.bool false) ∧ Jx (pre ++ [x]) W'))
    (W : World) (hW : Below w0.heap.size w0 W) (hB : W.cell? ⟨Bl, 0, none⟩ = some (.slice s L.length cap)) (h0 : J [] W) :
    CallsIn Fence.wide n Tryz.prog 282 #[.func (.yield l) #[] #[], .pointer (some ⟨Bl, 0, none⟩)] W fun e W' => (∃ v, e = .returned v) ∧
      ((∃ xs, xs = L ∧ J xs W') ∨ (∃ pre, pre <+: L ∧ Jx pre W')) := by
  refine callsIn_of_wp Tryz.func282 rfl trivial ?_ rfl
  simp only [Tryz.ntmps282, List.size_toArray, List.length_cons, List.length_nil, Nat.reduceAdd, Nat.reduceSub, Array.replicate_succ, Array.replicate_zero, List.push_toArray, List.append_toArray, List.nil_append, List.cons_append]
  gi_wp2_with fail
  gi_loopw [7] (fun i wr => ∃ k : Nat, k ≤ L.length ∧ i = .int .i64 (k : Int) ∧ Below w0.heap.size w0 wr ∧ J (L.take k) wr) (fun i _ => L.length - (intOf i).toNat)
  case atStart => exact ⟨0, Nat.zero_le _, rfl, hW, h0⟩
  case round =>
    clear hB
    obtain ⟨k, hk, rfl, hb, hJ⟩ := hrel
    by_cases hlt : k < L.length
    · obtain ⟨x, hx⟩ : ∃ x, L[k]? = some x := ⟨_, List.getElem?_eq_getElem hlt⟩
      obtain ⟨g, o, rfl, hg, hc⟩ := hL.at hx
      have hc1 := (hb.cell (p := ⟨g, o + k, none⟩) hg).trans hc
      have HS : Hid (L.take k ++ [x] = L.take (k + 1)) := by show _ = _; rw [List.take_add_one, hx]; rfl
      obtain ⟨fn, tmps, assign, body, hy, hR⟩ := hY (L.take k) x wr hJ (by rw [List.length_take]; omega)
      clear hx hc
      gi_wp2_with fail
      refine hR.mono ?_
      rintro e W3 (⟨rfl, hJ3, hk3⟩ | ⟨rfl, hJx3⟩)
      · rw [HS.out] at hJ3
        have hb3 := hb.trans hk3
        clear hy hR hc1 hJ hY HS hb hk3
        gi_wp2_with fail
        go_roundw
        case rel => exact ⟨k + 1, hlt, by go_num, hb3, hJ3⟩
        case measure => simp [intOf]; omega
      · rw [HS.out] at hJx3
        clear hy hR hc1 hJ hY HS
        gi_wp2_with fail
        refine bodyPost_ret (results_none rfl _ _ _) rfl ?_
        exact ⟨⟨_, rfl⟩, .inr ⟨_, List.take_prefix _ _, hJx3⟩⟩
    · obtain rfl : k = L.length := by omega
      rw [List.take_of_length_le (Nat.le_refl _)] at hJ
      clear hY
      gi_wp2_with fail
      go_end0
      exact ⟨⟨_, rfl⟩, .inl ⟨_, rfl, hJ⟩⟩
theorem valuesU_any (s : Option Addr) (n cap : Nat) (w : World) :
    Calls Tryz.prog 277 #[.slice s n cap] w fun e w' => e = .returned (.func (.func 282) #[] #[.pointer (some ⟨w.heap.size, 0, none⟩)]) ∧ w.alloc (.cells #[.slice s n cap] 41) = w' := by
  go_enter Tryz.func277, Tryz.ntmps277
  go_wp2_with fail
  go_ret
  exact ⟨rfl, rfl⟩
theorem eachU_any (s : Option Addr) (n cap : Nat) (w : World) :
    Calls Tryz.prog 274 #[.slice s n cap] w fun e w' => e = .returned (.func (.func 282) #[] #[.pointer (some ⟨w.heap.size, 0, none⟩)]) ∧ w.alloc (.cells #[.slice s n cap] 41) = w' := by
  go_enter Tryz.func274, Tryz.ntmps274
  go_wp2_with fail
  refine (valuesU_any s n cap w).mono ?_
  rintro e w1 ⟨rfl, rfl⟩
  go_wp2_with fail
  go_ret
  exact ⟨rfl, rfl⟩
theorem valsU_stops (w0 : World) (L : List Nat) (s : Option Addr) (cap : Nat) (hlen : L.length ≤ 1000000) (hL : Nums w0 s L) (n : Nat) (hn : 1 ≤ n) (Bl : Nat) (w : World) (hw : Below w0.heap.size w0 w) (hB : w.heap[Bl]? = some (.cells #[.slice s L.length cap] 41 (0, 0))) :
    SeqStopsK Fence.wide n Tryz.prog 282 #[.pointer (some ⟨Bl, 0, none⟩)] (fun x : Nat => #[Value.int .u64 (x : Int)]) (fun A B => Below w0.heap.size A B) (fun xs => xs = L) (fun pre => pre <+: L) L.length w := fun l J Jx W hb _ _ hY h0 =>
  valsU1_in w0 L s cap hlen hL n hn l Bl J Jx hY W (hw.trans (hb.mono hw.size)) (blk_cell ((hb.block _ (blk_lt hB)).trans hB) 0) h0
theorem rd_set {α : Type} {k : Nat} {enc : α → List Value} {W : World} {s : Option Addr} {L : List α} {b : Nat} {v : Value} {T : TypeId} (h : Rd k enc W s L) (hb : W.heap[b]? = some (.cells #[v] T (0, 0))) (hv : ∀ x, ∀ u ∈ enc x, u ≠ v) (u : Value) : Rd k enc (W.setCell ⟨b, 0, none⟩ u) s L := by
  intro i x hx
  obtain ⟨g, o, e, hg, hc⟩ := h i x hx
  refine ⟨g, o, e, by simpa [World.setCell] using hg, fun j y hy => ?_⟩
  have hcy := hc j y hy
  by_cases e' : g = b
  · exfalso
    subst e'
    rw [blk_cell hb] at hcy
    have hlt := (Array.getElem?_eq_some_iff.1 hcy).1
    simp at hlt
    rw [hlt.1.1, hlt.1.2, hlt.2] at hcy
    simp at hcy
    exact hv x y (List.mem_of_getElem? hy) hcy.symm
  · rw [← hcy]
    simp only [World.cell?, Below.heap_setCell W ⟨b, 0, none⟩ u g e']
theorem rd_own {α : Type} {k : Nat} {enc : α → List Value} (hk : ∀ x, (enc x).length = k) (hk0 : 0 < k) {W W' : World} {row : Option Nat} {s : Option Addr} {L : List α} (h : Rd k enc W s L) (hg : W.grownBy W' row) (hrow : ∀ r, row = some r → ∃ o : Obj, W.heap[r]? = some o ∧ o.isCells = false) : Rd k enc W' s L := by
  intro i x hx
  obtain ⟨g, o, e, hgl, hc⟩ := h i x hx
  have hne : some g ≠ row := by
    intro e'
    obtain ⟨ob, ho, hcl⟩ := hrow g e'.symm
    obtain ⟨u, hu⟩ : ∃ u, (enc x)[0]? = some u := ⟨_, List.getElem?_eq_getElem (by rw [hk]; exact hk0)⟩
    have := hc 0 u hu
    simp only [World.cell?, ho] at this
    cases ob <;> simp_all [Obj.isCells]
  have hb := hg.block g hgl hne
  exact ⟨g, o, e, Nat.lt_of_lt_of_le hgl hg.size, fun j u hu => by rw [← hc j u hu]; simp only [World.cell?, hb]⟩
def GivesX (w : World) (L : List Nat) (e : Ending) (w' : World) : Prop :=
  ∃ s cap, e = .returned (.tuple #[.agg #[.slice s L.length cap], .nilIface]) ∧ L.length ≤ cap ∧ cap ≤ 9223372036854775807 ∧ (s = none → cap = 0) ∧ PlainF w.heap.size s ∧ Nums w' s L ∧ Below w.heap.size w w'
def StG (w : World) (b : Nat) (L : List Nat) (pre : List Nat) (W : World) : Prop :=
  ∃ s cap, St w [(b + 1, #[.nilIface], 137), (b, #[.slice s (insAll L pre).length cap], 41), (w.heap.size, #[.slice none 0 0], 94)] (fun _ => True) W ∧ (insAll L pre).length ≤ cap ∧ cap ≤ 9223372036854775807 ∧ (s = none → cap = 0) ∧ PlainF w.heap.size s ∧ Nums W s (insAll L pre)
theorem StG.own (w : World) (b n : Nat) (L : List Nat) (hn : w.heap.size ≤ n) : OwnFrom n (StG w b L) := by
  rintro pre A B row ⟨s, cap, h1, h2, h3, h4, h5, h6⟩ hg hr
  exact ⟨s, cap, h1.own hg hr hn, h2, h3, h4, h5, rd_own encU_len (by decide) h6 hg (fun r e => (hr r e).2)⟩
attribute [local go_sem] Oper.semAt_some
set_option maxHeartbeats 4000000 in
theorem gather_any (L M : List Nat) (ha : Asc L) (s t : Option Addr) (c d : Nat) (hl : L.length + M.length ≤ 64) (hc : L.length ≤ c) (w : World) (hL : Nums w s L) (hM : Nums w t M) :
    Calls Tryz.prog 268 #[.slice s L.length c, .slice t M.length d] w (GivesX w (insAll L M)) := by
  refine (callsIn_wide (n := 5)).1 ?_
  refine callsIn_of_wp_marks Tryz.func268 rfl trivial ?_ rfl
  simp only [Tryz.ntmps268, List.size_toArray, List.length_cons, List.length_nil, Nat.reduceAdd, Nat.reduceSub, Array.replicate_succ, Array.replicate_zero, List.push_toArray, List.append_toArray, List.nil_append, List.cons_append]
  refine wpIn_wide.2 ?_
  have st0 := (St.start w).alloc (cs := #[.slice none 0 0]) (T := 94)
  go_wp2_with fail
  refine wp_scope_straight ?_
  go_wp2_with (first
    | (at_make; refine make_n elemU rfl (.tmp 10) (.tmp 10) rfl L.length rfl rfl st0 (by omega) (by decide) ?_; intro cs w2 st2 hb2 hcs; simp only [World.size_alloc] at st2; have st3 := st2.alloc (cs := #[.slice (some ⟨w.heap.size + 1, 0, none⟩) L.length L.length]) (T := 41); have hL2 := hL.keepB (Nat.le_refl _) st3.below; have rl3 := st3.rules; simp only [Rules, World.size_alloc] at rl3)
    | (refine copy_n (bl1 := [(w2.heap.size, #[.slice (some ⟨w.heap.size + 1, 0, none⟩) L.length L.length], 41)]) (bl2 := [(w.heap.size, #[.slice none 0 0], 94)]) elemU encU_len encU_one rfl (.tmp 12) (.tmp 13) rfl (w.heap.size + 1) cs L L.length rfl hcs rfl s c rfl st3 (by omega) hL2 ?_; intro w4 st4 hk4 hz4))
  refine wp_label ?_
  have st5 := st4.alloc (cs := #[.nilIface]) (T := 137)
  have hz5 : (w4.alloc (.cells #[.nilIface] 137)).heap.size = w2.heap.size + 2 := by rw [World.size_alloc, hz4, World.size_alloc]
  rw [hz4, World.size_alloc] at st5
  have hA2 : w.heap.size + 2 ≤ w2.heap.size := by have := hb2.size; simp at this; have := st2.blk _ (List.mem_of_getElem? (i := 0) rfl); have := blk_lt this; omega
  have hR0 : Nums (w4.alloc (.cells #[.nilIface] 137)) (some ⟨w.heap.size + 1, 0, none⟩) L := by
    have := st5.blk _ (List.mem_of_getElem? (i := 2) rfl)
    intro i x hx
    refine ⟨w.heap.size + 1, 0, rfl, blk_lt this, fun j u hu => ?_⟩
    rw [Nat.zero_add, blk_cell this, List.getElem?_toArray]
    exact flat_at encU_len L i x hx j u hu
  have st6 := st5.less [(w2.heap.size + 1, #[.nilIface], 137), (w2.heap.size, #[.slice (some ⟨w.heap.size + 1, 0, none⟩) L.length L.length], 41), (w.heap.size, #[.slice none 0 0], 94)] (by exact List.Sublist.cons_cons _ (List.Sublist.cons_cons _ (List.Sublist.cons _ (List.Sublist.refl _))))
  clear st0 st2 st3 st4 st5 hk4 hb2 hL2 rl3 hcs hz4
  generalize w4.alloc (.cells #[.nilIface] 137) = w6 at *
  go_wp2_with fail
  refine (eachU_any t M.length d w6).mono ?_
  rintro e w7 ⟨rfl, rfl⟩
  go_wp2_with fail
  have st7 := st6.alloc (cs := #[.slice t M.length d]) (T := 41)
  rw [hz5] at st7
  have hR7 := hR0.keep _ _ ((Below.refl w6.heap.size w6).alloc (Nat.le_refl _) (.cells #[.slice t M.length d] 41))
  have hz7 : (w6.alloc (.cells #[.slice t M.length d] 41)).heap.size = w2.heap.size + 3 := by rw [World.size_alloc, hz5]
  have hB7 := st7.blk _ (List.mem_of_getElem? (i := 0) rfl)
  have st8 := st7.less [(w2.heap.size + 1, #[.nilIface], 137), (w2.heap.size, #[.slice (some ⟨w.heap.size + 1, 0, none⟩) L.length L.length], 41), (w.heap.size, #[.slice none 0 0], 94)] (List.sublist_cons_self _ _)
  clear st6 st7 hR0
  generalize w6.alloc (.cells #[.slice t M.length d] 41) = w7 at *
  have hb7 := st8.below
  clear hz5
  refine (wpIn_wide (n := 5)).1 (wpIn_rangeFunc_ownF (n := 5) rfl (by omega) (gf := 282) (lb := #[.pointer (some ⟨w2.heap.size + 2, 0, none⟩)]) rfl trivial (enters_of Tryz.func282 (by kernel_rfl) rfl)
    (valsU_stops w M t d (by omega) hM 4 (by omega) (w2.heap.size + 2) w7 hb7 hB7) (fun h k => h.trans k) ?kb (Below.refl _ _) (fun _ => rfl)
    (StG w w2.heap.size L) (fun _ _ _ => False) (StG.own _ _ _ _ (by rw [hz7]; omega)) (fun _ _ _ _ _ h _ _ => h)
    ⟨_, _, st8, Nat.le_refl _, by show L.length ≤ _; omega, (fun h => by cases h), ⟨PlainS.some _ _, fun g o e => by cases e; exact Nat.le_succ _⟩, hR7⟩
    ?a1 ?assign ?body ?done ?stop)
  case kb => exact fun W l o o' => belowK_b (by rw [hz7]; omega) W l o o'
  case assign =>
    intro l x W K hK
    gi_wp2
    exact hK
  case body =>
    rintro l pre x W ⟨s1, cap1, st, h1, h2, h3, h4, h5⟩ hlen
    have hle := insAll_le L pre
    have hle2 := insAll_le L (pre ++ [x])
    rw [List.length_append, List.length_singleton] at hle2
    have HS := Lib.hid (insAll_snoc L pre x)
    have HBW := Lib.hid st.below.size
    have HW := Lib.hid (with_any (insAll L pre) (insAll_asc L ha pre) s1 cap1 x (by omega) h1 h2 h3 h4.1 W h5)
    rw [← HS.out] at HW
    have rl := st.rules
    simp only [Rules] at rl
    clear hB7 st8 hb7 hR7 hL hM ha
    gi_wp2_with fail
    refine ⟨trivial, (CallsIn.inRound l (callsIn_wide.2 HW.out)).mono ?_⟩
    intro e w9 hg9
    obtain ⟨s9, c9, rfl, g1, g2, g3, g4, g5, g6⟩ := hg9
    have st9 := st.to g6
    have rl9 := st9.rules
    simp only [Rules] at rl9
    have st10 := st9.setT 1 rfl (o := 0) (v := .slice s9 (insAll L (pre ++ [x])).length c9) (by omega)
    simp only [setB, List.modify_succ_cons, List.modify_zero_cons, List.setIfInBounds_toArray, List.set_cons_zero] at st10
    have hko : KeepsOthers W (w9.setCell ⟨w2.heap.size, 0, none⟩ (.slice s9 (insAll L (pre ++ [x])).length c9)) := (keepsOthers_below g6).trans (KeepsOthers.setCell _ _ _)
    have hbb : Below w.heap.size W (w9.setCell ⟨w2.heap.size, 0, none⟩ (.slice s9 (insAll L (pre ++ [x])).length c9)) := (g6.mono st.below.size).setCell (p := ⟨w2.heap.size, 0, none⟩) (by show w.heap.size ≤ w2.heap.size; omega) _
    have g5' : Nums (w9.setCell ⟨w2.heap.size, 0, none⟩ (.slice s9 (insAll L (pre ++ [x])).length c9)) s9 (insAll L (pre ++ [x])) := by
      exact rd_set g5 (st9.blk _ (List.mem_of_getElem? (i := 1) rfl)) (fun y u hu => by simp [encU] at hu; subst hu; intro e; cases e) _
    clear rl st HW g6
    gi_wp2_with fail
    refine ⟨hko, hbb, s9, c9, st10, g1, g2, g3, ⟨g4.1, fun g o e => ?_⟩, g5'⟩
    rcases g4.2 with h | h
    · exact h4.2 g o (h ▸ e)
    · exact Nat.le_trans HBW.out (h g o e)
  case done =>
    rintro D xs W hD rfl ⟨s1, cap1, st, h1, h2, h3, h4, h5⟩ hK
    have hDw : w.heap.size < D := by rw [hz7] at hD; omega
    have rl := st.rules
    simp only [Rules] at rl
    clear hB7 st8 hb7 hR7 hL hM ha hz7 hA2
    obtain ⟨N, hN⟩ : ∃ N, insAll L xs = N := ⟨_, rfl⟩
    rw [hN] at h1 h5 st rl
    have HN := Lib.hid hN
    clear hN
    go_wp2_with fail
    have st11 := st.setT 2 rfl (o := 0) (v := .slice s1 N.length cap1) (Nat.le_refl _)
    simp only [setB, List.modify_succ_cons, List.modify_zero_cons, List.setIfInBounds_toArray, List.set_cons_zero] at st11
    have h5' := rd_set h5 (st.blk _ (List.mem_of_getElem? (i := 2) rfl)) (fun y u hu => by simp [encU] at hu; subst hu; intro e; cases e) (.slice s1 N.length cap1)
    have hK' : (W.setCell ⟨w.heap.size, 0, none⟩ (.slice s1 N.length cap1)).heap[D]? = some (.deferred (some [])) := (Below.heap_setCell W ⟨w.heap.size, 0, none⟩ _ D (by show D ≠ w.heap.size; omega)).trans hK
    generalize W.setCell ⟨w.heap.size, 0, none⟩ (.slice s1 N.length cap1) = W' at *
    refine ⟨by simp, .inl ⟨_, _, rfl, run_takeDeferred hK', ?_⟩⟩
    rw [HN.out]
    have hc : (W'.putObj D (.deferred none)).cell? ⟨w.heap.size, 0, none⟩ = some (.slice s1 N.length cap1) := blk_cell ((World.putObj_heap_other (by omega)).trans (st11.blk _ (List.mem_of_getElem? (i := 2) rfl))) 0
    refine ⟨.tuple #[.agg #[.slice s1 N.length cap1], .nilIface], by simp [results, Tryz.results268, go_sem, hc], s1, cap1, rfl, h1, h2, h3, h4, rd_own encU_len (by decide) h5' (grownBy_putObj' W' D _) (fun r e => by cases e; exact ⟨_, hK', rfl⟩), ?_⟩
    exact st11.below.grown (grownBy_putObj' W' D _) st11.below.size (fun k e => by cases e; omega)
  case stop =>
    rintro D c pre W hD hp h
    exact h.elim
end Go.Proofs.YtmgdbfmlnmahpaaGreatDoor
namespace Go.Proofs.YtmgdbfmlnmahpaaGreatDoor
open Go.RowKit Go.Shelf
set_option linter.unusedSimpArgs false
set_option linter.unusedVariables false
set_option maxRecDepth 100000
def GivesE (w : World) (L : List Nat) (e : Ending) (w' : World) : Prop :=
  ∃ s cap, e = .returned (.tuple #[.agg #[.slice s L.length cap], .int .i64 0]) ∧ L.length ≤ cap ∧ cap ≤ 9223372036854775807 ∧ (s = none → cap = 0) ∧ PlainF w.heap.size s ∧ Nums w' s L ∧ Below w.heap.size w w'
theorem exAdd_any (L : List Nat) (ha : Asc L) (s : Option Addr) (c n : Nat) (hl : L.length + 1 ≤ 64) (hc : L.length ≤ c) (w : World) (hL : Nums w s L) :
    Calls Tryz.prog 263 #[.agg #[.slice s L.length c], .int .u64 (n : Int)] w (GivesE w (ins n L)) := by
  have st0 := ((St.start w).alloc (cs := #[.slice s L.length c]) (T := 94)).alloc (cs := #[.slice none 0 0]) (T := 94)
  simp only [World.size_alloc] at st0
  have HR := Lib.hid (exRight_any L ha s c (by omega) hc _ (hL.keepB (Nat.le_refl _) st0.below))
  have HIN : Hid (insAll L [n] = ins n L) := rfl
  go_enter Tryz.func263, Tryz.ntmps263
  go_wp2_with fail
  refine HR.out.mono ?_
  rintro e w1 ⟨rfl, hb1⟩
  have st1 := st0.to hb1
  have rl := st1.rules
  simp only [Rules] at rl
  have hLb := hL.keepB (Nat.le_refl _) st1.below
  clear st0 HR hb1
  go_wp2_with fail
  have hN1 : Nums (w1.alloc (.cells #[.int .u64 (n : Int)] 22)) (some ⟨w1.heap.size, 0, none⟩) [n] :=
    Rd.ofBlock encU_len (World.alloc_heap_new _ _) rfl
  have hb2 := (Below.refl w1.heap.size w1).alloc (Nat.le_refl _) (.cells #[.int .u64 (n : Int)] 22)
  have HG := Lib.hid (gather_any L [n] ha s (some ⟨w1.heap.size, 0, none⟩) c 1 hl hc _ (hLb.keep _ _ hb2) hN1)
  rw [HIN.out] at HG
  refine (HG.out).mono ?_
  intro e w3 hg
  obtain ⟨s3, c3, rfl, g1, g2, g3, g4, g5, g6⟩ := hg
  have HZ3 := Lib.hid (Nat.le_trans st1.below.size hb2.size)
  have st3 := st1.to (hb2.trans (g6.mono hb2.size))
  have rl3 := st3.rules
  simp only [Rules] at rl3
  clear HG hLb st1 rl hb2 hN1
  go_wp2_with fail
  have st4 := st3.alloc (cs := #[.slice s3 (ins n L).length c3]) (T := 94)
  have st4 := st4.also (F := fun W => Nums W s3 (ins n L)) (g5.keep _ _ ((Below.refl w3.heap.size w3).alloc (Nat.le_refl _) _)) Rd.keep
  clear st3 rl3 g5 g6
  obtain ⟨bl5, E5, hne5, sh5, rl, hEx, hbx, hst⟩ := st4.hide
  refine region_st_tail sh5 3 (by kernel_rfl) (by kernel_rfl) ?_
  simp only [List.take_succ_cons, List.take_zero, List.drop_succ_cons, List.drop_zero]
  simp only [Rules] at rl
  repeat (first | go_big_quiet_step ((go_at_call 269; exact Cs.call (exErrno_ok _))) | quiet_step ((go_at_call 269; exact Cs.call (exErrno_ok _))))
  refine wpQuiet_nil ?_
  intro y
  have st6 := (hst y).out
  clear hbx rl hst sh5 hEx st4
  generalize y.W = w6 at *
  have rl := st6.rules
  simp only [Rules] at rl
  go_wp2_with fail
  have hE := st6.ex.2
  have hN := rd_set hE (st6.blk _ (List.mem_of_getElem? (i := 1) rfl)) (fun y u hu => by simp [encU] at hu; subst hu; intro e; cases e) (.slice s3 (ins n L).length c3)
  have hb7 := st6.below.setCell (p := ⟨w.heap.size + 1, 0, none⟩) (Nat.le_add_right _ _) (.slice s3 (ins n L).length c3)
  refine bodyPost_ret (v := .tuple #[.agg #[.slice s3 (ins n L).length c3], .int .i64 0]) (by simp [results, Tryz.results263, go_sem, rl]) rfl ⟨s3, c3, rfl, g1, g2, g3, g4.mono HZ3.out, hN, hb7⟩
theorem exMerge_any (L M : List Nat) (ha : Asc L) (hb' : Asc M) (s t : Option Addr) (c d : Nat) (hl : L.length + M.length ≤ 64) (hc : L.length ≤ c) (hd : M.length ≤ d) (w : World) (hL : Nums w s L) (hM : Nums w t M) :
    Calls Tryz.prog 267 #[.agg #[.slice s L.length c], .agg #[.slice t M.length d]] w (GivesE w (insAll L M)) := by
  have st0 := (((St.start w).alloc (cs := #[.slice s L.length c]) (T := 94)).alloc (cs := #[.slice t M.length d]) (T := 94)).alloc (cs := #[.slice none 0 0]) (T := 94)
  simp only [World.size_alloc] at st0
  have HR := Lib.hid (exRight_any L ha s c (by omega) hc _ (hL.keepB (Nat.le_refl _) st0.below))
  go_enter Tryz.func267, Tryz.ntmps267
  go_wp2_with fail
  refine HR.out.mono ?_
  rintro e w1 ⟨rfl, hb1⟩
  have st1 := st0.to hb1
  have rl := st1.rules
  simp only [Rules] at rl
  have HR2 := Lib.hid (exRight_any M hb' t d (by omega) hd w1 (hM.keepB (Nat.le_refl _) st1.below))
  clear st0 HR hb1
  go_wp2_with fail
  refine HR2.out.mono ?_
  rintro e w2 ⟨rfl, hb2⟩
  have st1 := st1.to hb2
  have rl := st1.rules
  simp only [Rules] at rl
  have hLb := hL.keepB (Nat.le_refl _) st1.below
  have hMb := hM.keepB (Nat.le_refl _) st1.below
  clear HR2 hb2
  go_wp2_with fail
  have HG := Lib.hid (gather_any L M ha s t c d hl hc _ hLb hMb)
  refine (HG.out).mono ?_
  intro e w3 hg
  obtain ⟨s3, c3, rfl, g1, g2, g3, g4, g5, g6⟩ := hg
  have HZ3 := Lib.hid st1.below.size
  have st3 := st1.to (g6)
  have rl3 := st3.rules
  simp only [Rules] at rl3
  clear HG hLb st1 rl hMb
  go_wp2_with fail
  have st4 := st3.alloc (cs := #[.slice s3 (insAll L M).length c3]) (T := 94)
  have st4 := st4.also (F := fun W => Nums W s3 (insAll L M)) (g5.keep _ _ ((Below.refl w3.heap.size w3).alloc (Nat.le_refl _) _)) Rd.keep
  clear st3 rl3 g5 g6
  obtain ⟨bl5, E5, hne5, sh5, rl, hEx, hbx, hst⟩ := st4.hide
  refine region_st_tail sh5 3 (by kernel_rfl) (by kernel_rfl) ?_
  simp only [List.take_succ_cons, List.take_zero, List.drop_succ_cons, List.drop_zero]
  simp only [Rules] at rl
  repeat (first | go_big_quiet_step ((go_at_call 269; exact Cs.call (exErrno_ok _))) | quiet_step ((go_at_call 269; exact Cs.call (exErrno_ok _))))
  refine wpQuiet_nil ?_
  intro y
  have st6 := (hst y).out
  clear hbx rl hst sh5 hEx st4
  generalize y.W = w6 at *
  have rl := st6.rules
  simp only [Rules] at rl
  go_wp2_with fail
  have hE := st6.ex.2
  have hN := rd_set hE (st6.blk _ (List.mem_of_getElem? (i := 1) rfl)) (fun y u hu => by simp [encU] at hu; subst hu; intro e; cases e) (.slice s3 (insAll L M).length c3)
  have hb7 := st6.below.setCell (p := ⟨w.heap.size + 2, 0, none⟩) (Nat.le_add_right _ _) (.slice s3 (insAll L M).length c3)
  refine bodyPost_ret (v := .tuple #[.agg #[.slice s3 (insAll L M).length c3], .int .i64 0]) (by simp [results, Tryz.results267, go_sem, rl]) rfl ⟨s3, c3, rfl, g1, g2, g3, g4.mono HZ3.out, hN, hb7⟩
theorem exSame_any (L M : List Nat) (hl : L.length ≤ 1000000) (hm : M.length ≤ 1000000) (s t : Option Addr) (c d : Nat) (w : World) (hL : Nums w s L) (hM : Nums w t M) (r : Bool) (hr : r = true ↔ L = M) :
    Calls Tryz.prog 135 #[.agg #[.slice s L.length c], .agg #[.slice t M.length d]] w fun e w' => e = .returned (.bool r) ∧ Below w.heap.size w w' := by
  have st0 := ((St.start w).alloc (cs := #[.slice s L.length c]) (T := 94)).alloc (cs := #[.slice t M.length d]) (T := 94)
  have hb0 := st0.below
  have HR := Lib.hid (eqU_any L M hl hm s t c d _ (hL.keepB (Nat.le_refl _) hb0) (hM.keepB (Nat.le_refl _) hb0) r hr)
  clear st0 hr
  go_enter Tryz.func135, Tryz.ntmps135
  go_wp2_with fail
  refine HR.out.mono ?_
  rintro e w1 ⟨rfl, hb1⟩
  have hb2 := hb0.trans (hb1.mono hb0.size)
  clear HR hb0 hb1
  go_wp2_with fail
  go_ret
  exact ⟨rfl, hb2⟩
end Go.Proofs.YtmgdbfmlnmahpaaGreatDoor
