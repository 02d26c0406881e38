/- A part of the proof of TopCounts. -/
import Derived.Test.YtmgdbfmlnmahpaaGreatDoorG14
import Derived.Test.YtmgdbfmlnmahpaaGreatDoorG15
import Derived.WalkSpells
import Derived.Laws.StructEq
import Derived.KernelRfl
namespace Go.Proofs.YtmgdbfmlnmahpaaGreatDoor
open Go.RowKit Go.Maps Go.Sort Go.Shelf
set_option linter.unusedSimpArgs false
set_option linter.unusedVariables false
set_option maxRecDepth 100000
theorem hiKeys_any (mb : Option Nat) (W : World) : Calls Tryz.prog 334 #[.map mb] W fun e w' => e = .returned (.func (.func 338) #[] #[.pointer (some ⟨W.heap.size, 0, none⟩)]) ∧ w' = W.alloc (.cells #[.map mb] 478) :=
  (callsIn_wide (n := 5)).1 (AnyZI.keys_in Tryz.keysC Fence.wide 5 trivial rfl mb W)
theorem hiSorts (m : Nat) : AnyZI.SortsIn Tryz.prog Tryz.sortedC_ren Fence.wide m :=
  ⟨fun blk off cap ss W hH hblk hsz => callsIn_wide.2 (AnyM.slices_Sort_int Tryz.sortC blk off cap ss W hH hblk hsz),
   fun p cap W => callsIn_wide.2 (AnyM.slices_Sort_int_none Tryz.sortC p cap W)⟩
def encI (x : Nat) : List Value := [.int .i64 (x : Nat)]
theorem encI_len (x : Nat) : (encI x).length = 1 := rfl
theorem encI_one (x : Nat) : ∀ v ∈ encI x, v.oneCell' = true := by intro v hv; simp [encI] at hv; subst hv; rfl
theorem keys_dM (l : List (Nat × Nat)) : intKeys (dM l) = l.map (fun x => ((x.1 : Nat) : Int)) := by
  show (l.map entM).map _ = _
  rw [List.map_map]
  rfl
theorem encZ_flat : ∀ l : List (Nat × Nat), (l.map (fun x => ((x.1 : Nat) : Int))).map encZ = (l.map Prod.fst).flatMap encI
  | [] => rfl
  | x :: l => by
    rw [List.map_cons, List.map_cons, List.map_cons, List.flatMap_cons, encZ_flat l]
    rfl
theorem sort_keys {l : List (Nat × Nat)} (h : AscH l) {ss : List Int} (hp : ss.Perm (l.map (fun x => ((x.1 : Nat) : Int)))) : ss.mergeSort (fun x y => decide (x ≤ y)) = l.map (fun x => ((x.1 : Nat) : Int)) := by
  have h1 := (List.mergeSort_perm ss (fun x y => decide (x ≤ y))).trans hp
  have h2 : (ss.mergeSort (fun x y => decide (x ≤ y))).Pairwise (fun x y => x ≤ y) := by
    have := List.pairwise_mergeSort (le := fun x y : Int => decide (x ≤ y)) (fun a b c h1 h2 => by simp at *; omega) (fun a b => by simp; omega) ss
    exact this.imp (fun h => by simpa using h)
  have h3 : (l.map (fun x => ((x.1 : Nat) : Int))).Pairwise (fun x y => x ≤ y) := by
    rw [List.pairwise_map]
    exact h.imp (fun h => by omega)
  exact h1.eq_of_pairwise (fun a b _ _ h1 h2 => by omega) h2 h3
theorem hiSorted_any (b nn : Nat) (l : List (Nat × Nat)) (hl : AscH l) (hlen : l.length ≤ 1000000) (w : World) (hown : CntM w b nn l) :
    Calls Tryz.prog 333 #[.func (.func 338) #[] #[.pointer (some ⟨w.heap.size, 0, none⟩)]] (w.alloc (.cells #[.map (some b)] 478)) fun e w' => ∃ v, e = .returned v ∧
      OwnR 1 encI 3 w' w.heap.size v (l.map Prod.fst) ∧ Below w.heap.size w w' := by
  refine (callsIn_wide (n := 5)).1 ?_
  have hbl := hown.lt
  have hsz : Maps.size (dM l) = l.length := by simp [dM, Maps.size]
  have hseq : SeqGives Fence.wide 2 Tryz.prog 338 #[.pointer (some ⟨w.heap.size, 0, none⟩)] encZ (fun ss => ss.Perm (intKeys (dM l))) (Maps.size (dM l)) (w.alloc (.cells #[.map (some b)] 478)) :=
    AnyZI.keys_gives (ρ := Tryz.keysC_ren) { Tryz.keysC with } Fence.wide _ trivial rfl (by omega) w.heap.size b nn (dM l) _ (by simp) (by simp) (by
      obtain ⟨es, clock, hb, Ft, hs, hD⟩ := hown
      exact ⟨es, clock, (Below.heap_alloc _ _ b hbl).trans hb, Ft, hs, hD⟩)
  have cS := AnyZI.sorted_in Tryz.sortedC Fence.wide 5 trivial trivial trivial trivial rfl (by omega) (hiSorts _) (enters_of Tryz.func337 (by kernel_rfl) rfl) 338 #[.pointer (some ⟨w.heap.size, 0, none⟩)] trivial (enters_of Tryz.func338 (by kernel_rfl) rfl) _ _ (by rw [hsz]; unfold maxLen; omega) (by rw [hsz]; omega) _ hseq
  refine CallsIn.mono cS ?_
  rintro e w' ⟨v, ss, rfl, hS, hrow, hnil, hb⟩
  rw [keys_dM] at hS
  rw [sort_keys hl hS] at hrow
  refine ⟨v, rfl, ?_, ((Below.refl _ w).alloc (Nat.le_refl _) _).trans (hb.mono (by simp))⟩
  have hlen' : ss.length = (l.map Prod.fst).length := by rw [hS.length_eq]; simp
  rw [hlen', encZ_flat] at hrow
  exact ownsRow_base_a hrow (by simp)
end Go.Proofs.YtmgdbfmlnmahpaaGreatDoor
namespace Go.Proofs.YtmgdbfmlnmahpaaGreatDoor
open Go.RowKit Go.Maps Go.Sort Go.Shelf
set_option linter.unusedSimpArgs false
set_option linter.unusedVariables false
set_option maxRecDepth 100000
def numU : DataW Unit → Int
  | .lit (.int _ c) => c
  | _ => 0
def FsM (es0 : List (Lit × DataW Unit)) (left : Lit → Bool) : DataW Unit := .map (es0.filter fun p => numU p.2 != 0 || left p.1)
section
variable {es0 : List (Lit × DataW Unit)} {left : Lit → Bool}
theorem FsM_start (hkeys : ∀ p ∈ es0, WideAt.IsKeyLit p.1) : FsM es0 (Maps.has (.map es0)) = .map es0 := by
  unfold FsM
  rw [List.filter_eq_self.2 (fun p hp => by
    have : Maps.has (DataW.map es0) p.1 = true := List.any_eq_true.2 ⟨p, hp, WideAt.sameKey_self (hkeys p hp)⟩
    simp [this])]
theorem FsM_end (hl : ∀ kl, left kl = false) : FsM es0 left = .map (es0.filter fun p => numU p.2 != 0) := by
  unfold FsM
  congr 1
  exact List.filter_congr (fun p _ => by simp [hl])
theorem FsM_came (hap : es0.Pairwise (fun p q => p.1 ≠ q.1)) {kl : Lit} (hk : WideAt.IsKeyLit kl) (hlk : left kl = true) {d : DataW Unit} (hat : ∀ zd, (FsM es0 left).atKey kl zd = d) : ∀ p ∈ es0, p.1 = kl → p.2 = d := by
  intro p hp hpk
  have hm : (kl, p.2) ∈ es0.filter fun p => numU p.2 != 0 || left p.1 := List.mem_filter.2 ⟨by rw [← hpk]; exact hp, by simp [hlk]⟩
  exact (WideAt.atKey_mem .nil hk (hap.filter _) hm).symm.trans (hat .nil)
theorem FsM_struck (hap : es0.Pairwise (fun p q => p.1 ≠ q.1)) {kl : Lit} (hk : WideAt.IsKeyLit kl) (hlk : left kl = true) (hat : ∀ zd, (FsM es0 left).atKey kl zd = .lit (.int .u64 0)) : (FsM es0 left).del kl = FsM es0 (fun z => left z && !z.sameKey kl) := by
  have hc := FsM_came hap hk hlk hat
  show DataW.map ((es0.filter fun p => numU p.2 != 0 || left p.1).filter fun p => !p.1.sameKey kl) = _
  unfold FsM
  rw [List.filter_filter]
  congr 1
  refine List.filter_congr (fun p hp => ?_)
  cases hs : p.1.sameKey kl
  · simp [hs]
  · simp [hs, hc p hp (WideAt.sameKey_eq hs), numU]
theorem FsM_stays (hap : es0.Pairwise (fun p q => p.1 ≠ q.1)) {kl : Lit} (hk : WideAt.IsKeyLit kl) (hlk : left kl = true) {c : Int} (hc0 : c ≠ 0) (hat : ∀ zd, (FsM es0 left).atKey kl zd = .lit (.int .u64 c)) : FsM es0 left = FsM es0 (fun z => left z && !z.sameKey kl) := by
  have hc := FsM_came hap hk hlk hat
  unfold FsM
  congr 1
  refine List.filter_congr (fun p hp => ?_)
  cases hs : p.1.sameKey kl
  · simp [hs]
  · simp [hs, hc p hp (WideAt.sameKey_eq hs), numU, hc0]
end
theorem ent_keys (l : List (Nat × Nat)) : ∀ p ∈ l.map entM, WideAt.IsKeyLit p.1 := by
  intro p hp
  obtain ⟨x, _, rfl⟩ := List.mem_map.1 hp
  trivial
theorem ent_apart {l : List (Nat × Nat)} (h : AscH l) : (l.map entM).Pairwise (fun p q => p.1 ≠ q.1) := by
  rw [List.pairwise_map]
  exact h.imp (fun {x y} hxy e => by
    simp only [entM, Lit.int.injEq, true_and] at e
    omega)
theorem keep_dM (l : List (Nat × Nat)) : DataW.map ((l.map entM).filter fun p => numU p.2 != 0) = dM (keepM l) := by
  unfold dM keepM
  congr 1
  rw [List.filter_map]
  congr 1
  refine List.filter_congr fun x _ => ?_
  show (((x.2 : Nat) : Int) != 0) = (x.2 != 0)
  by_cases c : x.2 = 0
  · simp [c]
  · have h1 : ((x.2 : Nat) : Int) ≠ 0 := by omega
    rw [bne_iff_ne.2 h1, bne_iff_ne.2 c]
theorem grownBy_setO (W : World) (b o : Nat) (v : Value) : W.grownBy (W.setCell ⟨b, o, none⟩ v) (some b) :=
  have k := KeepsOthers.setCell W ⟨b, o, none⟩ v
  ⟨by simp [World.setCell] <;> (try split) <;> rfl, by simp [World.setCell] <;> (try split) <;> rfl, by simp [World.setCell] <;> (try split) <;> rfl, k.size, fun i _ hne => Below.heap_setCell W ⟨b, o, none⟩ v i (fun e => hne (by rw [e]))⟩
theorem CntM.low {W W' : World} {b n : Nat} {l : List (Nat × Nat)} (h : CntM W b n l) (e : W'.heap[b]? = W.heap[b]?) : CntM W' b n l := by
  obtain ⟨es, clock, hb, F, hs, hD⟩ := h
  exact ⟨es, clock, e.trans hb, F, hs, hD⟩
def KeysAt (W : World) (s : Option Addr) (L : List (Nat × Nat)) (B R : Nat) : Prop := ∀ i x, L[i]? = some x → ∃ g o, s = some ⟨g, o, none⟩ ∧ g ≠ R ∧ g < B ∧ W.cell? ⟨g, o + i, none⟩ = some (.int .i64 (x.1 : Nat))
theorem KeysAt.keep {W W' : World} {s : Option Addr} {L : List (Nat × Nat)} {B R : Nat} (h : KeysAt W s L B R) (hk : ∀ g, g < B → g ≠ R → W'.heap[g]? = W.heap[g]?) : KeysAt W' s L B R := by
  intro i x hx
  obtain ⟨g, o, e, h1, h2, h3⟩ := h i x hx
  refine ⟨g, o, e, h1, h2, ?_⟩
  rw [← h3]
  simp only [World.cell?, hk g h2 h1]
theorem KeysAt.of {W : World} {B0 R : Nat} {v : Value} {L : List (Nat × Nat)} (h : OwnR 1 encI 3 W B0 v (L.map Prod.fst)) (hR : R < B0) : ∃ s cap, v = .slice s L.length cap ∧ L.length ≤ cap ∧ KeysAt W s L W.heap.size R := by
  have hlt := fun k hk => h.lt k hk
  obtain ⟨s, cap, rfl, hcap, _, hrd, _, _⟩ := h.form encI_len
  rw [List.length_map] at hcap
  refine ⟨s, cap, by rw [List.length_map], hcap, fun i x hx => ?_⟩
  obtain ⟨g, o, rfl, hg, hc⟩ := hrd i x.1 (by rw [List.getElem?_map, hx]; rfl)
  have := (hlt g rfl).1
  refine ⟨g, o, rfl, by omega, hg, ?_⟩
  have h0 := hc 0 _ rfl
  simpa using h0
theorem grownBy_of_st {w w0 W W' : World} {row : Option Nat} (h : w.grownBy W row) (b1 : RowKit.Below w0.heap.size w0 W) (b2 : RowKit.Below w0.heap.size w0 W') (hz : W.heap.size ≤ W'.heap.size) (hk : ∀ i, i < w.heap.size → some i ≠ row → W'.heap[i]? = W.heap[i]?) : w.grownBy W' row :=
  ⟨b2.os.trans (b1.os.symm.trans h.os), b2.tape.trans (b1.tape.symm.trans h.tape), b2.output.trans (b1.output.symm.trans h.output), Nat.le_trans h.size hz, fun i hi hne => (hk i hi hne).trans (h.block i hi hne)⟩
theorem getM_mem {l : List (Nat × Nat)} (h : AscH l) {x : Nat × Nat} (hx : x ∈ l) : getM x.1 l = x.2 := by
  induction l with
  | nil => cases hx
  | cons y l ih =>
    obtain ⟨h1, h2⟩ := List.pairwise_cons.1 h
    unfold getM
    rcases List.mem_cons.1 hx with rfl | hx
    · rw [if_pos rfl]
    · have := h1 x hx
      rw [if_neg (by omega), ih h2 hx]
theorem elemB : Elem Tryz.prog 99 277 2 16 := Elem.mk (z := .agg #[.int .i64 0, .int .u64 0]) Tryz.underlying99 (by kernel_rfl) rfl (by decide)
def GivesH (w : World) (b : Nat) (l : List (Nat × Nat)) (e : Ending) (w' : World) : Prop :=
  ∃ v, e = .returned (.agg #[.int .i64 3, v]) ∧ OwnR 2 encB 277 w' w.heap.size v l ∧ w.grownBy w' (some b)
set_option maxHeartbeats 2000000 in
theorem hiDone_any (w0 : World) (b m : Nat) (l : List (Nat × Nat)) (hl : AscH l) (hlen : l.length ≤ 900000) (hsm : ∀ x ∈ l, x.1 ≤ 1000) (w : World) (hc : CntM w b m l) (hw0 : Below w0.heap.size w0 w) (hb0 : w0.heap.size ≤ b) :
    Calls Tryz.prog 329 #[workV b] w (GivesH w b (keepM l)) := by
  have hbw := hc.lt
  have st := (((St.start w0).to (by exact hw0)).alloc (cs := #[.map (some b), .int .i64 3]) (T := 480)).alloc (cs := #[.int .i64 0, .slice none 0 0]) (T := 101)
  simp only [World.size_alloc] at st
  have hc1 : CntM ((w.alloc (.cells #[.map (some b), .int .i64 3] 480)).alloc (.cells #[.int .i64 0, .slice none 0 0] 101)) b m l := (World.ownsMap.alloc (World.ownsMap.alloc hc _) _)
  have hg1 : w.grownBy ((w.alloc (.cells #[.map (some b), .int .i64 3] 480)).alloc (.cells #[.int .i64 0, .slice none 0 0] 101)) (some b) := grownBy_ofBelow (((Below.refl w.heap.size w).alloc (Nat.le_refl _) _).alloc (by simp) _) _
  have rl := st.rules
  simp only [Rules, World.size_alloc] at rl
  have hd0 : CntM ((w.alloc (.cells #[.map (some b), .int .i64 3] 480)).alloc (.cells #[.int .i64 0, .slice none 0 0] 101)) b m l := hc1
  go_enter Tryz.func329, Tryz.ntmps329
  go_wp2_with (first
    | (at_range; refine wpList_range_own _ rfl _ 478 rfl 3 22 cKeyed cMap _ b m _ rfl hc1 ?_; intro w2 hrg2 hg2 hs2)
    | fail)
  go_frame
  simp only [World.size_alloc]
  have HKS : Hid (FsM (l.map entM) (Maps.has (dM l)) = dM l) := FsM_start (ent_keys l)
  have HAP := Lib.hid (ent_apart hl)
  simp only [World.size_alloc] at hrg2 hs2
  have st2 := st.to ((Below.refl _ _).grown hg2 (Nat.le_refl _) (fun k hk => by cases hk))
  have hgw2 := hg1.andThen hg2 (fun j hj => by cases hj)
  clear rl st hd0 hc1 hg1 hg2
  have hr2 : ∀ z ∈ [(w.heap.size + 1, #[Value.int .i64 0, .slice none 0 0], 101), (w.heap.size, #[.map (some b), .int .i64 3], 480)], z.1 ≠ w.heap.size + 1 + 1 := by
    intro z hz
    simp at hz
    rcases hz with rfl | rfl <;> simp <;> omega
  have hbz : ∀ z ∈ [(w.heap.size + 1, #[Value.int .i64 0, .slice none 0 0], 101), (w.heap.size, #[.map (some b), .int .i64 3], 480)], z.1 ≠ b := by
    intro z hz
    simp at hz
    rcases hz with rfl | rfl <;> simp <;> omega
  go_loopw [3] (fun _ wr => ∃ (left : Lit → Bool) (cnt : Nat), wr.ranges Tryz.prog 3 (plainElem Tryz.prog 22) b (w.heap.size + 1 + 1) m (FsM (l.map entM) left) left cnt ∧ St w0 [(w.heap.size + 1, #[.int .i64 0, .slice none 0 0], 101), (w.heap.size, #[.map (some b), .int .i64 3], 480)] (fun _ => True) wr ∧ w.grownBy wr (some b))
    (fun _ wr => wr.rangeLeft b (w.heap.size + 1 + 1))
  case atStart => exact ⟨_, _, by rw [HKS.out]; exact hrg2, st2, hgw2⟩
  case round =>
    clear hrg2 st2 hgw2 hs2 hc
    obtain ⟨left, cnt, hrg, st, hgw⟩ := hrel
    have rl := st.rules
    simp only [Rules] at rl
    go_wp2_with (first
      | (at_next; refine wpList_next_ranges_ii _ rfl _ rfl 3 22 .i64 .u64 cKeyed Tryz.underlying3 Tryz.underlying22 b (w.heap.size + 1 + 1) m _ _ _ rfl hrg ?_ ?_)
      | fail)
    · intro _ hl0
      have hM : CntM wr b m (keepM l) := by
        have := hrg.owns
        rw [FsM_end hl0, keep_dM] at this
        exact this
      have hst5 := st.alloc (cs := #[.int .i64 3, .slice none 0 0]) (T := 101)
      have hM5 : CntM (wr.alloc (.cells #[.int .i64 3, .slice none 0 0] 101)) b m (keepM l) := World.ownsMap.alloc hM _
      have hgw5 := hgw.andThen (World.grownBy_alloc wr (.cells #[.int .i64 3, .slice none 0 0] 101) none) (fun j hj => by cases hj)
      have hkl : AscH (keepM l) := hl.sublist (List.filter_sublist)
      have hkn : (keepM l).length ≤ 900000 := Nat.le_trans (List.length_filter_le _ _) hlen
      have hks : ∀ x ∈ keepM l, x.1 ≤ 1000 := fun x hx => hsm x (List.mem_filter.1 hx).1
      have hz5 := Lib.hid (show (wr.alloc (.cells #[.int .i64 3, .slice none 0 0] 101)).heap.size = wr.heap.size + 1 by simp)
      have hwr := st.below.size
      clear hrg HKS HAP hl hlen hsm st
      generalize keepM l = L at *
      go_wp2_with fail
      refine (hiKeys_any _ _).mono ?_
      rintro e w4 ⟨rfl, rfl⟩
      generalize wr.alloc (.cells #[.int .i64 3, .slice none 0 0] 101) = w5 at *
      go_wp2_with fail
      refine (hiSorted_any b m L hkl (by omega) w5 hM5).mono ?_
      rintro e w6 ⟨v, rfl, hown, hb6⟩
      have hst6 := hst5.to hb6
      have hM6 := CntM.below hM5 hb6
      have hgw6 := hgw5.andThen (grownBy_ofBelow hb6 none) (fun j hj => by cases hj)
      obtain ⟨s, cap, rfl, hcap, hrd⟩ := KeysAt.of (R := wr.heap.size) hown (by have := hz5.out; omega)
      have rl := hst6.rules
      simp only [Rules] at rl
      have hB0 : w0.heap.size ≤ w6.heap.size := hst6.below.size
      have hz6 := hb6.size
      clear hst5 hM5 hgw5 hown hb6
      go_wp2_with fail
      have hz5' := hz5.out
      clear hz5
      have hww : w.heap.size + 1 < w6.heap.size := blk_lt (hst6.blk (w.heap.size + 1, #[.int .i64 0, .slice none 0 0], 101) (by simp))
      generalize wr.heap.size = bH at *
      have hbl : ∀ z : Nat, z = bH ∨ z = w.heap.size + 1 ∨ z = w.heap.size → z < w6.heap.size := by rintro z (rfl | rfl | rfl) <;> omega
      clear hz5' hz6
      go_loopw [29] (fun i wq => ∃ k : Nat, k ≤ L.length ∧ i = .int .i64 (k : Int) ∧ (∃ vv, St w0 [(bH, #[.int .i64 3, vv], 101), (w.heap.size + 1, #[.int .i64 0, .slice none 0 0], 101), (w.heap.size, #[.map (some b), .int .i64 3], 480)] (fun _ => True) wq ∧ OwnR 2 encB 277 wq w6.heap.size vv (L.take k)) ∧ CntM wq b m L ∧ KeysAt wq s L w6.heap.size bH ∧ w.grownBy wq (some b) ∧ w6.heap.size ≤ wq.heap.size) (fun i _ => L.length - (intOf i).toNat)
      case atStart => exact ⟨0, Nat.zero_le _, rfl, ⟨_, hst6, OwnR.nil _ _⟩, hM6, hrd, hgw6, Nat.le_refl _⟩
      case round =>
        clear rl hst6 hM6 hrd hgw6
        obtain ⟨k, hk, rfl, ⟨vv, st, hown⟩, hM, hrd, hgw, hz⟩ := hrel
        have rl := st.rules
        simp only [Rules] at rl
        by_cases hlt : k < L.length
        · obtain ⟨x, hx⟩ : ∃ x, L[k]? = some x := ⟨_, List.getElem?_eq_getElem hlt⟩
          obtain ⟨g, o, rfl, hgR, hg, hc0⟩ := hrd k x hx
          have hrd0 := Lib.hid hrd
          have HT : Hid (L.take k ++ [x] = L.take (k + 1)) := by show _ = _; rw [List.take_add_one, hx]; rfl
          have hgm : getM x.1 L = x.2 := getM_mem hkl (List.mem_of_getElem? hx)
          have hlk := cnt_look hM x.1 (hks x (List.mem_of_getElem? hx))
          rw [hgm] at hlk
          obtain ⟨xa, xn⟩ := x
          simp only at hc0 hlk HT
          have hlen1 : (L.take k).length + 1 ≤ 1000000 := by rw [List.length_take]; omega
          have hbl1 : ∀ z ∈ [(bH, #[Value.int .i64 3, vv], 101), (w.heap.size + 1, #[.int .i64 0, .slice none 0 0], 101), (w.heap.size, #[.map (some b), .int .i64 3], 480)], z.1 < w6.heap.size := by
            intro z hz
            refine hbl z.1 ?_
            simp at hz
            rcases hz with rfl | rfl | rfl <;> simp
          clear hgm hx hrd
          go_wp2_with (first
            | (at_builtin; refine append_one elemB encB_len encB_one rfl (.tmp 34) (.tmp 41) rfl w6.heap.size vv (L.take k) (xa, xn) rfl st hown hB0 hbl1 hz _ rfl wr.heap.size rfl rfl hlen1 (by decide) ?_; intro v' w' ap; obtain ⟨s3, c3, rfl, h3a, h3b, h3c, h3d, h3e⟩ := ap.own.form encB_len; have rl := ap.st.rules; simp only [Rules] at rl)
            | fail)
          have hbH : bH < w6.heap.size := hbl bH (.inl rfl)
          have hst' := ap.st.setT 0 rfl (o := 1) (v := .slice s3 (L.take k ++ [(xa, xn)]).length c3) hwr
          simp only [setB, List.modify_zero_cons, List.setIfInBounds_toArray, List.set_cons_zero, List.set_cons_succ] at hst'
          have hown' := OwnR.other ap.own (grownBy_setO w' bH 1 (.slice s3 (L.take k ++ [(xa, xn)]).length c3)) hbH
          have hM' := CntM.set (CntM.low hM (ap.low b (by omega))) (g := bH) (Ne.symm (CntM.ne hM (st.blk (bH, #[.int .i64 3, vv], 101) (by simp)))) 1 (.slice s3 (L.take k ++ [(xa, xn)]).length c3)
          have hkk : ∀ g, g < w6.heap.size → g ≠ bH → (w'.setCell ⟨bH, 1, none⟩ (.slice s3 (L.take k ++ [(xa, xn)]).length c3)).heap[g]? = wr.heap[g]? := fun g hg hne => (Below.heap_setCell w' ⟨bH, 1, none⟩ _ g hne).trans (ap.low g hg)
          have hzs : wr.heap.size ≤ (w'.setCell ⟨bH, 1, none⟩ (.slice s3 (L.take k ++ [(xa, xn)]).length c3)).heap.size := Nat.le_trans ap.size (grownBy_setO w' bH 1 _).size
          have hkl1 : (L.take k ++ [(xa, xn)]).length = k + 1 := by rw [List.length_append, List.length_take, Nat.min_eq_left (by omega)]; rfl
          rw [hkl1] at hst' hown' hM' hkk hzs
          refine ⟨⟨k + 1, hlt, by go_num, ⟨_, hst', by rw [← HT.out]; exact hown'⟩, hM', hrd0.out.keep hkk, grownBy_of_st hgw st.below hst'.below hzs (fun i hi hne => hkk i (by omega) (by omega)), Nat.le_trans hz hzs⟩, ?_⟩
          simp [intOf]; omega
        · obtain rfl : k = L.length := by omega
          rw [List.take_length] at hown
          obtain ⟨s2, c2, rfl, hv1, hv2, hv3, hv4, hv5⟩ := hown.form encB_len
          have hbH : w.heap.size + 1 < w6.heap.size := hbl _ (.inr (.inl rfl))
          go_wp2_with fail
          have g1 := grownBy_setO wr (w.heap.size + 1) 0 (.int .i64 3)
          have g2 := grownBy_setO (wr.setCell ⟨w.heap.size + 1, 0, none⟩ (.int .i64 3)) (w.heap.size + 1) 1 (.slice s2 L.length c2)
          have hown' := OwnR.base (OwnR.other (OwnR.other hown g1 hbH) g2 hbH) (show w.heap.size ≤ w6.heap.size by omega)
          exact bodyPost_ret (v := .agg #[.int .i64 3, .slice s2 L.length c2]) (by simp [results, Tryz.results329, go_sem, rl]) rfl ⟨_, rfl, hown', (hgw.andThen g1 (fun j hj => by cases hj; exact .inl (Nat.le_succ _))).andThen g2 (fun j hj => by cases hj; exact .inl (Nat.le_succ _))⟩
    · intro x c w1 cnt1 hwx hwc hlx hat hrg1 hlt hg1 hs1 hen
      have hgw1 := hgw.andThen hg1 (fun j hj => by cases hj; exact Or.inl (by omega))
      have st1 := st.grownNe hg1 (by have := hw0.size; omega) hr2
      have rl := st1.rules
      simp only [Rules] at rl
      clear st
      go_wp2_with (first
        | (at_delete; refine wpList_delete_ranges _ rfl _ _ 478 3 rfl 22 cKeyed cMap _ b (w.heap.size + 1 + 1) m _ _ _ rfl hrg1 _ _ rfl (keyOf_int_mk Tryz.underlying3 hwx) ?_; intro w3 cnt3 hrg3 hle hturn; go_frame)
        | fail)
      · rename_i hq
        have hc0 : c = 0 := by simpa using hq
        subst hc0
        rw [strike_twice] at hrg3
        refine ⟨⟨_, cnt3, by rw [← FsM_struck HAP.out (kl := .int .i64 x) trivial hlx hat]; exact hrg3, st1.grownNe hturn.grown hb0 hbz, hgw1.andThen hturn.grown (fun j hj => by cases hj; exact Or.inr rfl)⟩, ?_⟩
        rw [hrg3.left_eq, hrg.left_eq]; omega
      · rename_i hq
        have hc0 : c ≠ 0 := by simpa using hq
        refine ⟨⟨_, cnt1, by rw [← FsM_stays HAP.out (kl := .int .i64 x) trivial hlx hc0 hat]; exact hrg1, st1, hgw1⟩, ?_⟩
        rw [hrg1.left_eq, hrg.left_eq]; exact hlt
end Go.Proofs.YtmgdbfmlnmahpaaGreatDoor
namespace Go.Proofs.YtmgdbfmlnmahpaaGreatDoor
open Go.RowKit Go.Maps Go.Sort Go.Shelf
set_option linter.unusedSimpArgs false
set_option linter.unusedVariables false
set_option maxRecDepth 100000
theorem bkt_le (v : Nat) (hv : v ≤ maxU) : bkt v ≤ 1000 := by
  rcases bkt_good v hv with h | ⟨h1, h2, _⟩ <;> omega
theorem putM_len (a n : Nat) : ∀ l : List (Nat × Nat), (putM a n l).length ≤ l.length + 1
  | [] => by simp [putM]
  | x :: l => by
    have ih := putM_len a n l
    unfold putM
    split
    · simp
    · split
      · simp
      · simp; omega
def GivesH0 (w : World) (l : List (Nat × Nat)) (e : Ending) (w' : World) : Prop :=
  ∃ v, e = .returned (.tuple #[.agg #[.int .i64 3, v], .int .i64 0]) ∧ OwnR 2 encB 277 w' w.heap.size v l ∧ RowKit.Below w.heap.size w w'
set_option maxHeartbeats 2000000 in
theorem hiAdd_any (l : List (Nat × Nat)) (hl : GoodL l) (s : Option Addr) (cap : Nat) (hlen : l.length ≤ 100000) (hcap : l.length ≤ cap) (hsm : ∀ x ∈ l, x.1 ≤ 1000) (v n : Nat) (hv : v ≤ maxU) (hn : n ≤ maxU) (w : World) (hL : Rd 2 encB w s l) :
    Calls Tryz.prog 321 #[histV s l.length cap, .int .u64 (v : Int), .int .u64 (n : Int)] w (GivesH0 w (putH (bkt v) n l)) := by
  have st0 := ((St.start w).alloc (cs := #[.int .i64 3, .slice s l.length cap]) (T := 101)).alloc (cs := #[.int .i64 0, .slice none 0 0]) (T := 101)
  simp only [World.size_alloc] at st0
  have HBG := Lib.hid (fun W hW => hiBegin_any l hl s cap (by omega) hcap hsm W hW)
  have HBK := Lib.hid (fun W => hiBucket_any v hv W)
  have HPU := Lib.hid (fun b W hW => hiPut_any b l.length l hl.1 (fun x hx => (hl.2.1 x hx).2) (bkt v) n (bkt_le v hv) hn (by omega) W hW)
  have hasc := putM_asc (bkt v) (sat (getM (bkt v) l) n) l hl.1
  have HDN := Lib.hid (fun w0 b W hW h0 hb => hiDone_any w0 b (l.length + 1) (hitM (bkt v) n l) hasc.1 (by have := putM_len (bkt v) (sat (getM (bkt v) l) n) l; unfold hitM; omega) (fun x hx => by
    rcases hasc.2 x hx with e | hx
    · rw [e]; exact bkt_le v hv
    · exact hsm x hx) W hW h0 hb)
  rw [hitM_keep _ _ hn l hl.1 hl.2.1] at HDN
  clear hasc
  obtain ⟨L', hL'⟩ : ∃ L', putH (bkt v) n l = L' := ⟨_, rfl⟩
  obtain ⟨L2, hL2⟩ : ∃ L2, hitM (bkt v) n l = L2 := ⟨_, rfl⟩
  rw [hL'] at HDN ⊢
  rw [hL2] at HDN HPU
  generalize bkt v = q at *
  clear hL' hL2
  go_enter Tryz.func321, Tryz.ntmps321
  go_wp2_with fail
  refine (HBG.out _ (hL.keepB (Nat.le_refl _) st0.below)).mono ?_
  rintro e w1 ⟨b, rfl, hwb', hM, hb1⟩
  have hwb : w.heap.size ≤ b := Nat.le_trans st0.below.size hwb'
  have st1 := (st0.to hb1).alloc (cs := #[.map (some b), .int .i64 3]) (T := 480)
  have hM1 : CntM (w1.alloc (.cells #[.map (some b), .int .i64 3] 480)) b l.length l := World.ownsMap.alloc hM _
  clear st0 hb1 hM HBG hwb'
  have rl := st1.rules
  simp only [Rules, World.size_alloc] at rl
  go_wp2_with fail
  clear rl
  have st1E := st1.also (F := fun W => CntM W b l.length l) hM1 (fun _ _ h hb => CntM.below h hb)
  obtain ⟨bl5, E5, hne5, sh5, rl, hEx, hbx, hst⟩ := st1E.hide
  refine region_st_tail sh5 6 (by kernel_rfl) (by kernel_rfl) ?_
  simp only [List.take_succ_cons, List.take_zero, List.drop_succ_cons, List.drop_zero]
  simp only [Rules] at rl
  repeat (first | go_big_quiet_step ((go_at_call 328; exact Cs.call (HBK.out _))) | quiet_step ((go_at_call 328; exact Cs.call (HBK.out _))))
  refine wpQuiet_nil ?_
  intro y
  have st2E := (hst y).out
  have hM2 := st2E.ex.2
  have st2 := st2E.lessE (F := fun _ => True) trivial (fun _ _ _ _ => trivial)
  clear hbx rl hst sh5 hEx st1 st1E hM1 st2E
  generalize y.W = w2 at *
  go_wp2_with fail
  refine (HPU.out b _ hM2).mono ?_
  rintro e w3 ⟨rfl, hM3, hg3⟩
  have st3 := st2.grownNe hg3 hwb (CntM.neAll hM2 st2)
  have rl := st3.rules
  simp only [Rules] at rl
  clear st2 hM2 hg3 HPU HBK
  go_wp2_with fail
  refine (HDN.out w b _ hM3 st3.below hwb).mono ?_
  rintro e w4 ⟨vv, rfl, hown, hg4⟩
  have st4 := st3.grownNe hg4 hwb (CntM.neAll hM3 st3)
  obtain ⟨s4, c4, rfl, h4a, h4b, h4c, h4d, h4e⟩ := hown.form encB_len
  have hw3 := st3.below.size
  have rl := st4.rules
  simp only [Rules] at rl
  go_wp2_with fail
  have hbH : w.heap.size + 1 < w3.heap.size := blk_lt (st3.blk (w.heap.size + 1, #[.int .i64 0, .slice none 0 0], 101) (by simp))
  have g1 := grownBy_setO w4 (w.heap.size + 1) 0 (.int .i64 3)
  have g2 := grownBy_setO (w4.setCell ⟨w.heap.size + 1, 0, none⟩ (.int .i64 3)) (w.heap.size + 1) 1 (.slice s4 L'.length c4)
  have hown' := OwnR.base (OwnR.other (OwnR.other hown g1 hbH) g2 hbH) hw3
  have st5 := ((st4.setT 1 rfl (o := 0) (v := .int .i64 3) (Nat.le_succ _)).setT 1 rfl (o := 1) (v := .slice s4 L'.length c4) (Nat.le_succ _))
  exact bodyPost_ret (v := .tuple #[.agg #[.int .i64 3, .slice s4 L'.length c4], .int .i64 0]) (by simp [results, Tryz.results321, go_sem, rl]) rfl ⟨_, rfl, hown', st5.below⟩
end Go.Proofs.YtmgdbfmlnmahpaaGreatDoor
namespace Go.Proofs.YtmgdbfmlnmahpaaGreatDoor
open Go.RowKit Go.Maps Go.Sort Go.Shelf
set_option linter.unusedSimpArgs false
set_option linter.unusedVariables false
set_option maxRecDepth 100000
theorem putM_mem (a n : Nat) : ∀ (l : List (Nat × Nat)) (x : Nat × Nat), x ∈ putM a n l → x = (a, n) ∨ x ∈ l
  | [], x, h => by simp [putM] at h; exact .inl h
  | y :: l, x, h => by
    unfold putM at h
    split at h
    · rcases List.mem_cons.1 h with e | h
      · exact .inl e
      · exact .inr h
    · split at h
      · rcases List.mem_cons.1 h with e | h
        · exact .inl e
        · exact .inr (by simp [h])
      · rcases List.mem_cons.1 h with e | h
        · exact .inr (by simp [e])
        · rcases putM_mem a n l x h with e | h
          · exact .inl e
          · exact .inr (by simp [h])
theorem hitM_put {a n : Nat} {l : List (Nat × Nat)} (h0 : 0 < n) (hn : n ≤ maxU) (h : AscH l) (hp : PosH l) : hitM a n l = putH a n l := by
  rw [← hitM_keep a n hn l h hp, keepM_pos]
  intro x hx
  rcases putM_mem _ _ _ _ hx with rfl | hx
  · refine ⟨?_, sat_le _ _⟩
    show 0 < sat _ n
    unfold sat maxU
    omega
  · exact hp x hx
def mergeH (l m : List (Nat × Nat)) : List (Nat × Nat) := m.foldl (fun a x => putH x.1 x.2 a) l
theorem mergeH_snoc (l m : List (Nat × Nat)) (x : Nat × Nat) : mergeH l (m ++ [x]) = putH x.1 x.2 (mergeH l m) := by simp [mergeH]
theorem putH_len (a n : Nat) (hn : n ≤ maxU) (l : List (Nat × Nat)) (h : AscH l) (hp : PosH l) : (putH a n l).length ≤ l.length + 1 := by
  rw [← hitM_keep a n hn l h hp]
  exact Nat.le_trans (List.length_filter_le _ _) (putM_len _ _ _)
theorem mergeH_good {l : List (Nat × Nat)} (h : AscH l) (hp : PosH l) (hs : ∀ x ∈ l, x.1 ≤ 1000) : ∀ m : List (Nat × Nat), PosH m → (∀ x ∈ m, x.1 ≤ 1000) → ∀ k, AscH (mergeH l (m.take k)) ∧ PosH (mergeH l (m.take k)) ∧ (∀ x ∈ mergeH l (m.take k), x.1 ≤ 1000) ∧ (mergeH l (m.take k)).length ≤ l.length + k := by
  intro m hm hms k
  induction k with
  | zero => exact ⟨h, hp, hs, Nat.le_refl _⟩
  | succ k ih =>
    cases e : m[k]? with
    | none =>
      rw [List.getElem?_eq_none_iff] at e
      rw [List.take_of_length_le e] at ih
      rw [List.take_of_length_le (by omega)]
      exact ⟨ih.1, ih.2.1, ih.2.2.1, by omega⟩
    | some x =>
      have hx := List.mem_of_getElem? e
      rw [List.take_add_one, e]
      show AscH (mergeH l (m.take k ++ [x])) ∧ PosH (mergeH l (m.take k ++ [x])) ∧ (∀ y ∈ mergeH l (m.take k ++ [x]), y.1 ≤ 1000) ∧ (mergeH l (m.take k ++ [x])).length ≤ _
      rw [mergeH_snoc]
      refine ⟨putH_asc _ _ _ ih.1, putH_pos _ _ (hm x hx).2 _ ih.2.1, fun y hy => ?_, ?_⟩
      · rcases putH_mem _ _ _ y hy with e | hy
        · rw [e]; exact hms x hx
        · exact ih.2.2.1 y hy
      · have := putH_len x.1 x.2 (hm x hx).2 _ ih.1 ih.2.1
        omega
set_option maxHeartbeats 2000000 in
theorem hiMerge_any (l m : List (Nat × Nat)) (hl : GoodL l) (hm : GoodL m) (s t : Option Addr) (cap d : Nat) (hlen : l.length ≤ 100000) (hlem : m.length ≤ 100000) (hcap : l.length ≤ cap) (hd : m.length ≤ d) (hsm : ∀ x ∈ l, x.1 ≤ 1000) (htm : ∀ x ∈ m, x.1 ≤ 1000) (w : World) (hL : Rd 2 encB w s l) (hM : Rd 2 encB w t m) :
    Calls Tryz.prog 324 #[histV s l.length cap, histV t m.length d] w (GivesH0 w (mergeH l m)) := by
  have st0 := (((St.start w).alloc (cs := #[.int .i64 3, .slice s l.length cap]) (T := 101)).alloc (cs := #[.int .i64 3, .slice t m.length d]) (T := 101)).alloc (cs := #[.int .i64 0, .slice none 0 0]) (T := 101)
  simp only [World.size_alloc] at st0
  have HBG := Lib.hid (fun W hW => hiBegin_any l hl s cap (by omega) hcap hsm W hW)
  have HRT := Lib.hid (fun W hW => hiRight_any m hm t d (by omega) hd W hW)
  have HGD := Lib.hid (mergeH_good hl.1 hl.2.1 hsm m hm.2.1 htm)
  go_enter Tryz.func324, Tryz.ntmps324
  go_wp2_with fail
  refine (HBG.out _ (hL.keepB (Nat.le_refl _) st0.below)).mono ?_
  rintro e w1 ⟨b, rfl, hwb', hMb, hb1⟩
  have hwb : w.heap.size ≤ b := Nat.le_trans st0.below.size hwb'
  have st1 := (st0.to hb1).alloc (cs := #[.map (some b), .int .i64 3]) (T := 480)
  have hM1 : CntM (w1.alloc (.cells #[.map (some b), .int .i64 3] 480)) b l.length l := World.ownsMap.alloc hMb _
  clear st0 hb1 hMb HBG hwb'
  have rl := st1.rules
  simp only [Rules, World.size_alloc] at rl
  go_wp2_with fail
  refine (HRT.out _ (hM.keepB (Nat.le_refl _) st1.below)).mono ?_
  rintro e w2 ⟨rfl, hb2⟩
  have st2 := st1.to hb2
  have hM2 := CntM.below hM1 hb2
  have rl := st2.rules
  simp only [Rules] at rl
  clear st1 hb2 hM1 HRT
  go_wp2_with fail
  go_loopw [39] (fun i wr => ∃ k : Nat, k ≤ m.length ∧ i = .int .i64 (k : Int) ∧ CntM wr b (l.length + k) (mergeH l (m.take k)) ∧ St w [(w1.heap.size, #[.map (some b), .int .i64 3], 480), (w.heap.size + 1 + 1, #[.int .i64 0, .slice none 0 0], 101), (w.heap.size + 1, #[.int .i64 3, .slice t m.length d], 101), (w.heap.size, #[.int .i64 3, .slice s l.length cap], 101)] (fun _ => True) wr) (fun i _ => m.length - (intOf i).toNat)
  case atStart => exact ⟨0, Nat.zero_le _, rfl, hM2, st2⟩
  case round =>
    clear rl st2 hM2
    obtain ⟨k, hk, rfl, hMk, st⟩ := hrel
    have rl := st.rules
    simp only [Rules] at rl
    obtain ⟨gd1, gd2, gd3, gd4⟩ := HGD.out k
    by_cases hlt : k < m.length
    · obtain ⟨x, hx⟩ : ∃ x, m[k]? = some x := ⟨_, List.getElem?_eq_getElem hlt⟩
      obtain ⟨g, o, rfl, hg, hc1, hc2⟩ := bin_at (hM.keepB (Nat.le_refl _) st.below) hx
      have hxm := List.mem_of_getElem? hx
      have HT : Hid (hitM x.1 x.2 (mergeH l (m.take k)) = mergeH l (m.take (k + 1))) := by
        show _ = _
        rw [hitM_put (hm.2.1 x hxm).1 (hm.2.1 x hxm).2 gd1 gd2, List.take_add_one, hx]
        exact (mergeH_snoc _ _ _).symm
      have hx1 := htm x hxm
      have hx2 := (hm.2.1 x hxm).2
      obtain ⟨xa, xn⟩ := x
      simp only at hc1 hc2 HT hx1 hx2
      have HP := Lib.hid (fun W hW => hiPut_any b (l.length + k) (mergeH l (m.take k)) gd1 (fun y hy => (gd2 y hy).2) xa xn hx1 hx2 (by omega) W hW)
      have stb := st.alloc (cs := #[.int .i64 (xa : Nat), .int .u64 (xn : Nat)]) (T := 277)
      have hMb : CntM (wr.alloc (.cells #[.int .i64 (xa : Nat), .int .u64 (xn : Nat)] 277)) b (l.length + k) (mergeH l (m.take k)) := World.ownsMap.alloc hMk _
      clear hx hx2 hMk hxm gd1 gd2 gd3 gd4
      go_wp2_with fail
      refine (HP.out _ hMb).mono ?_
      rintro e w3 ⟨rfl, hM3, hg3⟩
      have st3 := stb.grownNe hg3 hwb (CntM.neAll hMb stb)
      rw [HT.out] at hM3
      clear stb hMb st hc1 hc2 HP HT
      go_wp2_with fail
      go_roundw
      case rel => exact ⟨k + 1, hlt, by go_num, hM3, st3.less _ (List.sublist_cons_self _ _)⟩
      case measure => simp [intOf]; omega
    · obtain rfl : k = m.length := by omega
      rw [List.take_length] at hMk gd1 gd2 gd3 gd4
      have HDN := Lib.hid (hiDone_any w b (l.length + m.length) (mergeH l m) gd1 (by omega) gd3 wr hMk st.below hwb)
      rw [keepM_pos gd2] at HDN
      obtain ⟨L', hL'⟩ : ∃ L', mergeH l m = L' := ⟨_, rfl⟩
      rw [hL'] at HDN hMk
      have HL' := Lib.hid hL'
      clear gd1 gd2 gd3 gd4 hL'
      go_wp2_with fail
      refine HDN.out.mono ?_
      rintro e w4 ⟨vv, rfl, hown, hg4⟩
      have st4 := st.grownNe hg4 hwb (CntM.neAll hMk st)
      obtain ⟨s4, c4, rfl, h4a, h4b, h4c, h4d, h4e⟩ := hown.form encB_len
      have hw3 := st.below.size
      have rl := st4.rules
      simp only [Rules] at rl
      go_wp2_with fail
      have hbH : w.heap.size + 1 + 1 < wr.heap.size := blk_lt (st.blk (w.heap.size + 1 + 1, #[.int .i64 0, .slice none 0 0], 101) (by simp))
      have g1 := grownBy_setO w4 (w.heap.size + 1 + 1) 0 (.int .i64 3)
      have g2 := grownBy_setO (w4.setCell ⟨w.heap.size + 1 + 1, 0, none⟩ (.int .i64 3)) (w.heap.size + 1 + 1) 1 (.slice s4 L'.length c4)
      have hown' := OwnR.base (OwnR.other (OwnR.other hown g1 hbH) g2 hbH) hw3
      rw [← HL'.out] at hown' ⊢
      have st5 := ((st4.setT 1 rfl (o := 0) (v := .int .i64 3) (by omega)).setT 1 rfl (o := 1) (v := .slice s4 (mergeH l m).length c4) (by omega))
      exact bodyPost_ret (v := .tuple #[.agg #[.int .i64 3, .slice s4 (mergeH l m).length c4], .int .i64 0]) (by simp [results, Tryz.results324, go_sem, rl]) rfl ⟨_, rfl, hown', st5.below⟩
end Go.Proofs.YtmgdbfmlnmahpaaGreatDoor
namespace Go.Proofs.YtmgdbfmlnmahpaaGreatDoor
open Go.RowKit
structure Hd where
  s : Option Addr
  cap : Nat
abbrev Hd.v (h : Hd) (n : Nat) : Value := .slice h.s n h.cap
structure RdH {α : Type} (k : Nat) (enc : α → List Value) (W : World) (h : Hd) (L : List α) : Prop where
  rd : Rd k enc W h.s L
  cap : L.length ≤ h.cap
  max : h.cap ≤ 9223372036854775807
  nil : h.s = none → h.cap = 0
  plain : PlainS h.s
theorem RdH.keepB {α : Type} {k : Nat} {enc : α → List Value} {W W' : World} {h : Hd} {L : List α} (r : RdH k enc W h L) (hb : Below W.heap.size W W') : RdH k enc W' h L := ⟨r.rd.keepB (Nat.le_refl _) hb, r.cap, r.max, r.nil, r.plain⟩
theorem RdH.none {α : Type} {k : Nat} {enc : α → List Value} (W : World) : RdH k enc W ⟨none, 0⟩ ([] : List α) := ⟨Rd.nil _ _, Nat.le_refl _, Nat.zero_le _, fun _ => rfl, PlainS.none⟩
theorem RdH.own {α : Type} {k : Nat} {enc : α → List Value} {e : TypeId} (hk : ∀ x, (enc x).length = k) {W : World} {B : Nat} {v : Value} {L : List α} (h : OwnR k enc e W B v L) : ∃ d : Hd, v = d.v L.length ∧ RdH k enc W d L := by
  obtain ⟨s, cap, rfl, h1, h2, h3, h4, h5⟩ := h.form hk
  exact ⟨⟨s, cap⟩, rfl, h3, h1, h2, h4, h5⟩
def Fresh (B : Nat) (d : Hd) : Prop := ∀ g o, d.s = some ⟨g, o, none⟩ → B ≤ g
theorem Fresh.mono {B B' : Nat} {d : Hd} (h : Fresh B d) (hb : B' ≤ B) : Fresh B' d := fun g o e => Nat.le_trans hb (h g o e)
theorem Fresh.none (B : Nat) : Fresh B ⟨none, 0⟩ := fun _ _ e => by cases e
theorem RdH.ownF {α : Type} {k : Nat} {enc : α → List Value} {e : TypeId} (hk : ∀ x, (enc x).length = k) {W : World} {B : Nat} {v : Value} {L : List α} (h : OwnR k enc e W B v L) : ∃ d : Hd, v = d.v L.length ∧ RdH k enc W d L ∧ Fresh B d := by
  obtain ⟨d, rfl, hd⟩ := RdH.own hk h
  refine ⟨d, rfl, hd, fun g o e => ?_⟩
  rcases h.2 with ⟨hv, _⟩ | ⟨g', cap, cur, hv, hB, _⟩
  · cases hv' : d.s with
    | none => rw [hv'] at e; cases e
    | some a => rw [Hd.v, hv'] at hv; cases hv
  · rw [Hd.v, e] at hv
    cases hv
    exact hB
def KeepUp (B : Nat) (W W' : World) : Prop := (∀ k, B ≤ k → W'.heap[k]? = W.heap[k]?) ∧ W'.heap.size = W.heap.size
theorem KeepUp.refl (B : Nat) (W : World) : KeepUp B W W := ⟨fun _ _ => rfl, rfl⟩
theorem KeepUp.set {B : Nat} {W W' : World} (h : KeepUp B W W') {b o : Nat} (hb : b < B) (v : Value) : KeepUp B W (W'.setCell ⟨b, o, .none⟩ v) :=
  ⟨fun k hk => (Below.heap_setCell W' ⟨b, o, .none⟩ v k (by show k ≠ b; omega)).trans (h.1 k hk), by rw [← h.2]; simp [World.setCell]⟩
theorem RdH.up {α : Type} {k : Nat} {enc : α → List Value} {W W' : World} {B : Nat} {h : Hd} {L : List α} (r : RdH k enc W h L) (hf : Fresh B h) (hk : KeepUp B W W') : RdH k enc W' h L := by
  refine ⟨fun i x hx => ?_, r.cap, r.max, r.nil, r.plain⟩
  obtain ⟨g, o, e, hg, hc⟩ := r.rd i x hx
  refine ⟨g, o, e, by rw [hk.2]; exact hg, fun j u hu => ?_⟩
  rw [← hc j u hu]
  simp only [World.cell?, hk.1 g (hf g o e)]
structure Lab where
  name : ByteArray
  val : ByteArray
def encL (x : Lab) : List Value := [.string x.name, .string x.val]
theorem encL_len (x : Lab) : (encL x).length = 2 := rfl
theorem encL_one (x : Lab) : ∀ v ∈ encL x, v.oneCell' = true := by intro v hv; simp [encL] at hv; rcases hv with rfl | rfl <;> rfl
inductive Sk where
  | dist (L : List Nat)
  | cnt (L : List Nat)
  | hst (l : List (Nat × Nat))
def Sk.kind : Sk → Int
  | .dist _ => 1
  | .cnt _ => 2
  | .hst _ => 3
def Sk.e : Sk → List Nat
  | .dist L => L
  | _ => []
def Sk.c : Sk → List Nat
  | .cnt L => L
  | _ => []
def Sk.g : Sk → List (Nat × Nat)
  | .hst l => l
  | _ => []
def Sk.rows : Sk → Int
  | .cnt _ => 2
  | _ => 0
def Sk.cols : Sk → Int
  | .cnt _ => 32
  | _ => 0
def Sk.fine : Sk → Int
  | .hst _ => 3
  | _ => 0
def Sk.Ok : Sk → Prop
  | .dist L => Asc L ∧ SmallC L ∧ L.length ≤ 60
  | .cnt L => SmallC L ∧ L.length = 64
  | .hst l => GoodL l ∧ l.length ≤ 1000 ∧ ∀ x ∈ l, x.1 ≤ 1000
structure SkH where
  e : Hd
  c : Hd
  g : Hd
abbrev SkH.v (x : Sk) (h : SkH) : Value := .agg #[.int .i64 x.kind, .int .i64 0, h.e.v x.e.length, .int .i64 0, .string ⟨#[]⟩, .int .i64 x.rows, .int .i64 x.cols, h.c.v x.c.length, .int .i64 x.fine, h.g.v x.g.length]
structure RdK (W : World) (x : Sk) (h : SkH) : Prop where
  e : RdH 1 encU W h.e x.e
  c : RdH 1 encU W h.c x.c
  g : RdH 2 encB W h.g x.g
theorem RdK.keepB {W W' : World} {x : Sk} {h : SkH} (r : RdK W x h) (hb : Below W.heap.size W W') : RdK W' x h := ⟨r.e.keepB hb, r.c.keepB hb, r.g.keepB hb⟩
def FreshK (B : Nat) (h : SkH) : Prop := Fresh B h.e ∧ Fresh B h.c ∧ Fresh B h.g
theorem FreshK.mono {B B' : Nat} {d : SkH} (h : FreshK B d) (hb : B' ≤ B) : FreshK B' d := ⟨h.1.mono hb, h.2.1.mono hb, h.2.2.mono hb⟩
theorem RdK.up {W W' : World} {B : Nat} {x : Sk} {h : SkH} (r : RdK W x h) (hf : FreshK B h) (hk : KeepUp B W W') : RdK W' x h := ⟨r.e.up hf.1 hk, r.c.up hf.2.1 hk, r.g.up hf.2.2 hk⟩
def GivesK (w : World) (x : Sk) (e : Ending) (w' : World) : Prop := ∃ h : SkH, e = .returned (h.v x) ∧ RdK w' x h ∧ FreshK w.heap.size h ∧ RowKit.Below w.heap.size w w'
structure Ser where
  lab : List Lab
  sk : Sk
  seen : Nat
  l : Hd
  k : SkH
def encS (x : Ser) : List Value := [x.l.v x.lab.length, .int .i64 x.sk.kind, .int .i64 0, x.k.e.v x.sk.e.length, .int .i64 0, .string ⟨#[]⟩, .int .i64 x.sk.rows, .int .i64 x.sk.cols, x.k.c.v x.sk.c.length, .int .i64 x.sk.fine, x.k.g.v x.sk.g.length, .int .u64 (x.seen : Nat)]
abbrev Ser.v (x : Ser) : Value := .agg #[x.l.v x.lab.length, .int .i64 x.sk.kind, .int .i64 0, x.k.e.v x.sk.e.length, .int .i64 0, .string ⟨#[]⟩, .int .i64 x.sk.rows, .int .i64 x.sk.cols, x.k.c.v x.sk.c.length, .int .i64 x.sk.fine, x.k.g.v x.sk.g.length, .int .u64 (x.seen : Nat)]
theorem encS_len (x : Ser) : (encS x).length = 12 := rfl
theorem encS_one (x : Ser) : ∀ v ∈ encS x, v.oneCell' = true := by
  intro v hv
  simp [encS] at hv
  rcases hv with rfl | rfl | rfl | rfl | rfl | rfl | rfl | rfl | rfl | rfl | rfl | rfl <;> rfl
structure RdS (W : World) (x : Ser) : Prop where
  l : RdH 2 encL W x.l x.lab
  k : RdK W x.sk x.k
theorem RdS.keepB {W W' : World} {x : Ser} (r : RdS W x) (hb : Below W.heap.size W W') : RdS W' x := ⟨r.l.keepB hb, r.k.keepB hb⟩
structure RdT (W : World) (h : Hd) (T : List Ser) : Prop where
  t : RdH 12 encS W h T
  s : ∀ x ∈ T, RdS W x
theorem RdT.keepB {W W' : World} {h : Hd} {T : List Ser} (r : RdT W h T) (hb : Below W.heap.size W W') : RdT W' h T := ⟨r.t.keepB hb, fun x hx => (r.s x hx).keepB hb⟩
theorem ser_at {W : World} {h : Hd} {T : List Ser} (r : RdT W h T) {i : Nat} {x : Ser} (hx : T[i]? = some x) : ∃ g o, h.s = some ⟨g, o, none⟩ ∧ g < W.heap.size ∧ ∀ j u, (encS x)[j]? = some u → W.cell? ⟨g, o + i * 12 + j, none⟩ = some u := r.t.rd i x hx
end Go.Proofs.YtmgdbfmlnmahpaaGreatDoor
namespace Go.Proofs.YtmgdbfmlnmahpaaGreatDoor
open Go.RowKit Go.Shelf
set_option linter.unusedSimpArgs false
set_option linter.unusedVariables false
set_option maxRecDepth 100000
theorem elemL : Elem Tryz.prog 161 229 2 32 := Elem.mk (z := .agg #[.string ⟨#[]⟩, .string ⟨#[]⟩]) Tryz.underlying161 (by kernel_rfl) rfl (by decide)
abbrev zeroSk : Value := .agg #[.int .i64 0, .int .i64 0, .slice none 0 0, .int .i64 0, .string ⟨#[]⟩, .int .i64 0, .int .i64 0, .slice none 0 0, .int .i64 0, .slice none 0 0]
theorem elemS : Elem Tryz.prog 74 167 12 168 := Elem.mk (z := .agg #[.slice none 0 0, .int .i64 0, .int .i64 0, .slice none 0 0, .int .i64 0, .string ⟨#[]⟩, .int .i64 0, .int .i64 0, .slice none 0 0, .int .i64 0, .slice none 0 0, .int .u64 0]) Tryz.underlying74 (by kernel_rfl) rfl (by decide)
theorem ownEmpty {α : Type} (w : World) (e : TypeId) (k : Nat) (enc : α → List Value) : OwnR k enc e (w.alloc (.cells #[] e)) w.heap.size (.slice (some ⟨w.heap.size, 0, none⟩) 0 0) ([] : List α) :=
  ⟨by simp, .inr ⟨w.heap.size, 0, #[], rfl, Nat.le_refl _, World.alloc_heap_new w _, Nat.le_refl _, by unfold maxLen; omega, by simp, by simp⟩⟩
def GivesR {α : Type} (k : Nat) (enc : α → List Value) (w : World) (L : List α) (e : Ending) (w' : World) : Prop :=
  ∃ d : Hd, e = .returned (d.v L.length) ∧ RdH k enc w' d L ∧ Fresh w.heap.size d ∧ RowKit.Below w.heap.size w w'
set_option maxHeartbeats 1000000 in
theorem cloneU_any (L : List Nat) (hl : L.length ≤ 100000) (h : Hd) (w : World) (hL : RdH 1 encU w h L) :
    Calls Tryz.prog 138 #[h.v L.length] w (GivesR 1 encU w L) := by
  obtain ⟨s, cap⟩ := h
  obtain ⟨hrd, hcap, hmax, hnil, hpl⟩ := hL
  simp only at hrd hcap hmax hnil hpl
  show Calls Tryz.prog 138 #[.slice s L.length cap] w _
  cases s with
  | none =>
    obtain rfl := rd_none hrd
    obtain rfl : cap = 0 := hnil rfl
    show Calls Tryz.prog 138 #[.slice none 0 0] w _
    have hq := Lib.run_eql_slice_nil (P := Tryz.prog)
    go_enter Tryz.func138, Tryz.ntmps138
    go_wp2_with fail
    go_ret
    exact ⟨⟨none, 0⟩, rfl, RdH.none _, Fresh.none _, Below.refl _ _⟩
  | some ad =>
    obtain ⟨g, o, rfl⟩ := hpl _ rfl
    have hlb : L.length + 0 ≤ 1000000 := by omega
    have HL := Lib.hid hrd
    clear hpl hnil hmax
    have hq := Lib.run_eql_slice_nil (P := Tryz.prog)
    go_enter Tryz.func138, Tryz.ntmps138
    go_wp2_with (at_builtin; refine append_more elemU encU_len encU_one rfl (.tmp 5) (.tmp 6) rfl w.heap.size (.slice (some ⟨w.heap.size, 0, none⟩) 0 0) ([] : List Nat) rfl ((St.start w).to ((Below.refl _ _).alloc (Nat.le_refl _) _)) (ownEmpty w 22 1 encU) (Nat.le_refl _) (by simp) ?_ L L.length rfl (some ⟨g, o, none⟩) cap rfl (fun h => by cases h) (HL.out.keepB (Nat.le_refl _) ((Below.refl _ _).alloc (Nat.le_refl _) _)) ?_ (by decide) ?_)
    · simp
    · simpa using hlb
    intro v' w' ap
    obtain ⟨d, rfl, hd, hf⟩ := RdH.ownF encU_len ap.own
    go_wp2_with fail
    go_ret
    exact ⟨d, rfl, hd, hf, ap.st.below⟩
set_option maxHeartbeats 1000000 in
theorem cloneB_any (L : List (Nat × Nat)) (hl : L.length ≤ 100000) (h : Hd) (w : World) (hL : RdH 2 encB w h L) :
    Calls Tryz.prog 139 #[h.v L.length] w (GivesR 2 encB w L) := by
  obtain ⟨s, cap⟩ := h
  obtain ⟨hrd, hcap, hmax, hnil, hpl⟩ := hL
  simp only at hrd hcap hmax hnil hpl
  show Calls Tryz.prog 139 #[.slice s L.length cap] w _
  cases s with
  | none =>
    obtain rfl := rd_none hrd
    obtain rfl : cap = 0 := hnil rfl
    show Calls Tryz.prog 139 #[.slice none 0 0] w _
    have hq := Lib.run_eql_slice_nil (P := Tryz.prog)
    go_enter Tryz.func139, Tryz.ntmps139
    go_wp2_with fail
    go_ret
    exact ⟨⟨none, 0⟩, rfl, RdH.none _, Fresh.none _, Below.refl _ _⟩
  | some ad =>
    obtain ⟨g, o, rfl⟩ := hpl _ rfl
    have hlb : L.length + 0 ≤ 1000000 := by omega
    have HL := Lib.hid hrd
    clear hpl hnil hmax
    have hq := Lib.run_eql_slice_nil (P := Tryz.prog)
    go_enter Tryz.func139, Tryz.ntmps139
    go_wp2_with (at_builtin; refine append_more elemB encB_len encB_one rfl (.tmp 5) (.tmp 6) rfl w.heap.size (.slice (some ⟨w.heap.size, 0, none⟩) 0 0) ([] : List (Nat × Nat)) rfl ((St.start w).to ((Below.refl _ _).alloc (Nat.le_refl _) _)) (ownEmpty w 277 2 encB) (Nat.le_refl _) (by simp) ?_ L L.length rfl (some ⟨g, o, none⟩) cap rfl (fun h => by cases h) (HL.out.keepB (Nat.le_refl _) ((Below.refl _ _).alloc (Nat.le_refl _) _)) ?_ (by decide) ?_)
    · simp
    · simpa using hlb
    intro v' w' ap
    obtain ⟨d, rfl, hd, hf⟩ := RdH.ownF encB_len ap.own
    go_wp2_with fail
    go_ret
    exact ⟨d, rfl, hd, hf, ap.st.below⟩
set_option maxHeartbeats 1000000 in
theorem cloneL_any (L : List Lab) (hl : L.length ≤ 100000) (h : Hd) (w : World) (hL : RdH 2 encL w h L) :
    Calls Tryz.prog 159 #[h.v L.length] w (GivesR 2 encL w L) := by
  obtain ⟨s, cap⟩ := h
  obtain ⟨hrd, hcap, hmax, hnil, hpl⟩ := hL
  simp only at hrd hcap hmax hnil hpl
  show Calls Tryz.prog 159 #[.slice s L.length cap] w _
  cases s with
  | none =>
    obtain rfl := rd_none hrd
    obtain rfl : cap = 0 := hnil rfl
    show Calls Tryz.prog 159 #[.slice none 0 0] w _
    have hq := Lib.run_eql_slice_nil (P := Tryz.prog)
    go_enter Tryz.func159, Tryz.ntmps159
    go_wp2_with fail
    go_ret
    exact ⟨⟨none, 0⟩, rfl, RdH.none _, Fresh.none _, Below.refl _ _⟩
  | some ad =>
    obtain ⟨g, o, rfl⟩ := hpl _ rfl
    have hlb : L.length + 0 ≤ 1000000 := by omega
    have HL := Lib.hid hrd
    clear hpl hnil hmax
    have hq := Lib.run_eql_slice_nil (P := Tryz.prog)
    go_enter Tryz.func159, Tryz.ntmps159
    go_wp2_with (at_builtin; refine append_more elemL encL_len encL_one rfl (.tmp 5) (.tmp 6) rfl w.heap.size (.slice (some ⟨w.heap.size, 0, none⟩) 0 0) ([] : List Lab) rfl ((St.start w).to ((Below.refl _ _).alloc (Nat.le_refl _) _)) (ownEmpty w 229 2 encL) (Nat.le_refl _) (by simp) ?_ L L.length rfl (some ⟨g, o, none⟩) cap rfl (fun h => by cases h) (HL.out.keepB (Nat.le_refl _) ((Below.refl _ _).alloc (Nat.le_refl _) _)) ?_ (by decide) ?_)
    · simp
    · simpa using hlb
    intro v' w' ap
    obtain ⟨d, rfl, hd, hf⟩ := RdH.ownF encL_len ap.own
    go_wp2_with fail
    go_ret
    exact ⟨d, rfl, hd, hf, ap.st.below⟩
set_option maxHeartbeats 1000000 in
theorem cloneS_any (L : List Ser) (hl : L.length ≤ 100000) (h : Hd) (w : World) (hL : RdH 12 encS w h L) :
    Calls Tryz.prog 160 #[h.v L.length] w (GivesR 12 encS w L) := by
  obtain ⟨s, cap⟩ := h
  obtain ⟨hrd, hcap, hmax, hnil, hpl⟩ := hL
  simp only at hrd hcap hmax hnil hpl
  show Calls Tryz.prog 160 #[.slice s L.length cap] w _
  cases s with
  | none =>
    obtain rfl := rd_none hrd
    obtain rfl : cap = 0 := hnil rfl
    show Calls Tryz.prog 160 #[.slice none 0 0] w _
    have hq := Lib.run_eql_slice_nil (P := Tryz.prog)
    go_enter Tryz.func160, Tryz.ntmps160
    go_wp2_with fail
    go_ret
    exact ⟨⟨none, 0⟩, rfl, RdH.none _, Fresh.none _, Below.refl _ _⟩
  | some ad =>
    obtain ⟨g, o, rfl⟩ := hpl _ rfl
    have hlb : L.length + 0 ≤ 1000000 := by omega
    have HL := Lib.hid hrd
    clear hpl hnil hmax
    have hq := Lib.run_eql_slice_nil (P := Tryz.prog)
    go_enter Tryz.func160, Tryz.ntmps160
    go_wp2_with (at_builtin; refine append_more elemS encS_len encS_one rfl (.tmp 5) (.tmp 6) rfl w.heap.size (.slice (some ⟨w.heap.size, 0, none⟩) 0 0) ([] : List Ser) rfl ((St.start w).to ((Below.refl _ _).alloc (Nat.le_refl _) _)) (ownEmpty w 167 12 encS) (Nat.le_refl _) (by simp) ?_ L L.length rfl (some ⟨g, o, none⟩) cap rfl (fun h => by cases h) (HL.out.keepB (Nat.le_refl _) ((Below.refl _ _).alloc (Nat.le_refl _) _)) ?_ (by decide) ?_)
    · simp
    · simpa using hlb
    intro v' w' ap
    obtain ⟨d, rfl, hd, hf⟩ := RdH.ownF encS_len ap.own
    go_wp2_with fail
    go_ret
    exact ⟨d, rfl, hd, hf, ap.st.below⟩
end Go.Proofs.YtmgdbfmlnmahpaaGreatDoor
namespace Go.Proofs.YtmgdbfmlnmahpaaGreatDoor
open Go.RowKit Go.Shelf
set_option linter.unusedSimpArgs false
set_option linter.unusedVariables false
set_option maxRecDepth 100000
@[go_sem high] theorem eqBin (a b a' b' : Int) (w : World) : (Op.equalIn 10000 277 (.agg #[.int .i64 a, .int .u64 b]) (.agg #[.int .i64 a', .int .u64 b'])).run Tryz.prog w = .ok (a == a' && b == b') w := by
  have u3 := Tryz.underlying22
  have a3 := Tryz.isAgg22
  have z3 := Tryz.sizeOf22
  have u4 := Tryz.underlying3
  have a4 := Tryz.isAgg3
  have z4 := Tryz.sizeOf3
  have hS : Tryz.prog.underlying 277 = some (.struct (Tryz.prog.fieldsOf 277)) := by kernel_rfl
  have hp : Tryz.prog.stoodInHeld 277 = false := by kernel_rfl
  rw [show (10000 : Nat) = 9999 + 1 from rfl, run_equalIn_agg w 9999 277 _ _ hS hp]
  simp only [Program.fieldsOf, Tryz.underlying277]
  go_simp
  by_cases h1 : a = a' <;> by_cases h2 : b = b' <;> simp [h1, h2]
@[go_sem high] theorem eqHll (a a' : Int) (t t' : ByteArray) (w : World) : (Op.equalIn 10000 96 (.agg #[.int .i64 a, .string t]) (.agg #[.int .i64 a', .string t'])).run Tryz.prog w = .ok (a == a' && t.toList == t'.toList) w := by
  have u3 := Tryz.underlying9
  have a3 := Tryz.isAgg9
  have z3 := Tryz.sizeOf9
  have u4 := Tryz.underlying3
  have a4 := Tryz.isAgg3
  have z4 := Tryz.sizeOf3
  have hS : Tryz.prog.underlying 96 = some (.struct (Tryz.prog.fieldsOf 96)) := by kernel_rfl
  have hp : Tryz.prog.stoodInHeld 96 = false := by kernel_rfl
  rw [show (10000 : Nat) = 9999 + 1 from rfl, run_equalIn_agg w 9999 96 _ _ hS hp]
  simp only [Program.fieldsOf, Tryz.underlying96]
  go_simp
  by_cases h1 : a = a' <;> by_cases h2 : t.toList = t'.toList <;> simp [h1, h2]
@[go_sem high] theorem eqLab (s s' t t' : ByteArray) (w : World) : (Op.equalIn 10000 229 (.agg #[.string s, .string t]) (.agg #[.string s', .string t'])).run Tryz.prog w = .ok (s.toList == s'.toList && t.toList == t'.toList) w := by
  have u3 := Tryz.underlying9
  have a3 := Tryz.isAgg9
  have z3 := Tryz.sizeOf9
  have hS : Tryz.prog.underlying 229 = some (.struct (Tryz.prog.fieldsOf 229)) := by kernel_rfl
  have hp : Tryz.prog.stoodInHeld 229 = false := by kernel_rfl
  rw [show (10000 : Nat) = 9999 + 1 from rfl, run_equalIn_agg w 9999 229 _ _ hS hp]
  simp only [Program.fieldsOf, Tryz.underlying229]
  go_simp
  by_cases h1 : s.toList = s'.toList <;> by_cases h2 : t.toList = t'.toList <;> simp [h1, h2]
theorem cmSame_eq (r q : Int) (L : List Nat) (hl : L.length ≤ 1000000) (s t : Option Addr) (c d : Nat) (w : World) (hL : Nums w s L) (hM : Nums w t L) :
    Calls Tryz.prog 136 #[.agg #[.int .i64 r, .int .i64 q, .slice s L.length c], .agg #[.int .i64 r, .int .i64 q, .slice t L.length d]] w fun e w' => e = .returned (.bool true) ∧ Below w.heap.size w w' := by
  have st0 := ((St.start w).alloc (cs := #[.int .i64 r, .int .i64 q, .slice s L.length c]) (T := 98)).alloc (cs := #[.int .i64 r, .int .i64 q, .slice t L.length d]) (T := 98)
  have hb0 := st0.below
  have HR := Lib.hid (eqU_any L L hl hl s t c d _ (hL.keepB (Nat.le_refl _) hb0) (hM.keepB (Nat.le_refl _) hb0) true (by simp))
  clear st0
  go_enter Tryz.func136, Tryz.ntmps136
  go_wp2_with fail
  refine HR.out.mono ?_
  rintro e w1 ⟨rfl, hb1⟩
  have hb2 := hb0.trans (hb1.mono hb0.size)
  clear HR hb0 hb1
  go_wp2_with fail
  go_ret
  exact ⟨rfl, hb2⟩
set_option maxHeartbeats 1000000 in
theorem hiSame_eq (f : Int) (l : List (Nat × Nat)) (hl : l.length ≤ 1000000) (s t : Option Addr) (c d : Nat) (w : World) (hL : Rd 2 encB w s l) (hM : Rd 2 encB w t l) :
    Calls Tryz.prog 137 #[.agg #[.int .i64 f, .slice s l.length c], .agg #[.int .i64 f, .slice t l.length d]] w fun e w' => e = .returned (.bool true) ∧ RowKit.Below w.heap.size w w' := by
  have st0 := ((St.start w).alloc (cs := #[.int .i64 f, .slice s l.length c]) (T := 101)).alloc (cs := #[.int .i64 f, .slice t l.length d]) (T := 101)
  simp only [World.size_alloc] at st0
  go_enter Tryz.func137, Tryz.ntmps137
  go_wp2_with fail
  go_loopw [24] (fun i wr => ∃ k : Nat, k ≤ l.length ∧ i = .int .i64 (k : Int) ∧ St w [(w.heap.size + 1, #[.int .i64 f, .slice t l.length d], 101), (w.heap.size, #[.int .i64 f, .slice s l.length c], 101)] (fun _ => True) wr) (fun i _ => l.length - (intOf i).toNat)
  case atStart => exact ⟨0, Nat.zero_le _, rfl, st0⟩
  case round =>
    clear st0
    obtain ⟨k, hk, rfl, st⟩ := hrel
    have rl := st.rules
    simp only [Rules] at rl
    by_cases hlt : k < l.length
    · obtain ⟨x, hx⟩ : ∃ x, l[k]? = some x := ⟨_, List.getElem?_eq_getElem hlt⟩
      obtain ⟨g, o, rfl, hg, hc1, hc2⟩ := bin_at (hL.keepB (Nat.le_refl _) st.below) hx
      obtain ⟨g', o', rfl, hg', hc1', hc2'⟩ := bin_at (hM.keepB (Nat.le_refl _) st.below) hx
      obtain ⟨xa, xn⟩ := x
      simp only at hc1 hc2 hc1' hc2'
      clear hx
      go_wp2_with fail
      have stb := st.alloc (cs := #[.int .i64 (xa : Nat), .int .u64 (xn : Nat)]) (T := 277)
      have hc3 : (wr.alloc (.cells #[.int .i64 (xa : Nat), .int .u64 (xn : Nat)] 277)).cell? ⟨g', o' + k * 2, none⟩ = some (.int .i64 (xa : Nat)) := (((Below.refl _ _).alloc (Nat.le_refl _) _).cell (p := ⟨g', _, none⟩) hg').trans hc1'
      have hc4 : (wr.alloc (.cells #[.int .i64 (xa : Nat), .int .u64 (xn : Nat)] 277)).cell? ⟨g', o' + k * 2 + 1, none⟩ = some (.int .u64 (xn : Nat)) := (((Below.refl _ _).alloc (Nat.le_refl _) _).cell (p := ⟨g', _, none⟩) hg').trans hc2'
      go_quiet (fail)
      have st3 := stb.drewN (n := nq)
      clear hc1 hc2 hc3 hc4 hc1' hc2' rl
      go_wp2_with fail
      go_roundw
      case rel => exact ⟨k + 1, hlt, by go_num, st3.less _ (List.sublist_cons_self _ _)⟩
      case measure => simp [intOf]; omega
    · obtain rfl : k = l.length := by omega
      go_wp2_with fail
      go_ret
      exact ⟨rfl, st.below⟩
end Go.Proofs.YtmgdbfmlnmahpaaGreatDoor
