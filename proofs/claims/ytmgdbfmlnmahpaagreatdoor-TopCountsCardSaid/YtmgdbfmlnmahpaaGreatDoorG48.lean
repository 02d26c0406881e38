/- A part of the proof of TopCounts. -/
import Derived.Test.YtmgdbfmlnmahpaaGreatDoorG40
import Derived.Test.YtmgdbfmlnmahpaaGreatDoorG47
namespace Go.Proofs.YtmgdbfmlnmahpaaGreatDoor
open Go.RowKit Go.Shelf
set_option linter.unusedSimpArgs false
set_option linter.unusedVariables false
set_option maxRecDepth 100000
theorem Rd.fr {α : Type} {k : Nat} {enc : α → List Value} {S : List Nat} {W W' : World} {s : Option Addr} {L : List α} (r : Rd k enc W s L) (hf : ∀ g o, s = some ⟨g, o, none⟩ → L ≠ [] → g ∉ S) (hk : FrB S W W') : Rd k enc W' s L := by
  intro i x hx
  obtain ⟨g, o, e, hg, hc⟩ := r i x hx
  have hne : L ≠ [] := by rintro rfl; simp at hx
  refine ⟨g, o, e, Nat.lt_of_lt_of_le hg hk.size, fun j u hu => ?_⟩
  rw [← hc j u hu]
  simp only [World.cell?, hk.block g hg (hf g o e hne)]
theorem Ents.fr {S : List Nat} {W W' : World} {s : Option Addr} {L : List Ent} (r : Ents W s L) (hf : ∀ g o, s = some ⟨g, o, none⟩ → L ≠ [] → g ∉ S) (hk : FrB S W W') : Ents W' s L := by
  intro i x hx
  obtain ⟨g, o, e, hg, h1, h2, h3, h4⟩ := r i x hx
  have hne : L ≠ [] := by rintro rfl; simp at hx
  have hc : ∀ j, W'.cell? ⟨g, j, none⟩ = W.cell? ⟨g, j, none⟩ := fun j => by simp only [World.cell?, hk.block g hg (hf g o e hne)]
  exact ⟨g, o, e, Nat.lt_of_lt_of_le hg hk.size, (hc _).trans h1, (hc _).trans h2, (hc _).trans h3, (hc _).trans h4⟩
theorem Ents.lt {W : World} {s : Option Addr} {L : List Ent} (r : Ents W s L) {g o : Nat} (hs : s = some ⟨g, o, none⟩) (hn : L ≠ []) : g < W.heap.size := by
  cases L with
  | nil => exact absurd rfl hn
  | cons x L =>
    obtain ⟨g', o', e, hg, _⟩ := r 0 x rfl
    rw [hs] at e
    cases e
    exact hg
theorem Rd.lt {α : Type} {k : Nat} {enc : α → List Value} {W : World} {s : Option Addr} {L : List α} (r : Rd k enc W s L) {g o : Nat} (hs : s = some ⟨g, o, none⟩) (hn : L ≠ []) : g < W.heap.size := by
  cases L with
  | nil => exact absurd rfl hn
  | cons x L =>
    obtain ⟨g', o', e, hg, _⟩ := r 0 x rfl
    rw [hs] at e
    cases e
    exact hg
theorem own_full {W : World} {B : Nat} {v : Value} {L : List Ent} (h : OwnE W B v L) : ∃ s cap, v = .slice s L.length cap ∧ L.length ≤ cap ∧ (s = none → cap = 0) ∧ Ents W s L ∧ ∀ g o, s = some ⟨g, o, none⟩ → B ≤ g := by
  obtain ⟨s, cap, rfl, h1, h2, h3⟩ := own_ents h
  refine ⟨s, cap, rfl, ?_, h1, h2, fun g o e => ?_⟩
  · rcases h.2 with ⟨hv, hz⟩ | ⟨g, cap', cur, hv, hB, hb, hcap, _⟩
    · injection hv with e1 e2 e3
      omega
    · injection hv with e1 e2 e3
      omega
  · obtain ⟨g', e', h4, _⟩ := h3 _ e
    cases e'
    exact h4
theorem ingB (b g0 o0 g1 o1 g2 o2 g3 o3 B4 : Nat) (lab : ByteArray) (k : Int) (s : Option Addr) (n cap : Nat) (w : World) (c0 : w.cell? ⟨g0, o0, none⟩ = some (.pointer (some ⟨b, 0, none⟩))) (c1 : w.cell? ⟨g1, o1, none⟩ = some (.string lab)) (c2 : w.cell? ⟨g2, o2, none⟩ = some (.int .i64 k)) (c3 : w.cell? ⟨g3, o3, none⟩ = some (.slice s n cap)) (h4 : w.heap[B4]? = some (.cells #[.slice none 0 0] 33 (0, 0))) (hb : B4 ≠ b) (R : World → Prop)
    (HT : Calls Tryz.prog 45 #[.pointer (some ⟨b, 0, none⟩), .string lab, .int .i64 k, .slice s n cap] w fun e w' => e = .returned (.tuple #[.slice none 0 0, .int .i64 0]) ∧ R w' ∧ FrB [b] w w') :
    Calls Tryz.prog 44 #[.pointer (some ⟨g0, o0, none⟩), .pointer (some ⟨g1, o1, none⟩), .pointer (some ⟨g2, o2, none⟩), .pointer (some ⟨g3, o3, none⟩), .pointer (some ⟨B4, 0, none⟩)] w fun e w' => e = .returned (.int .i64 0) ∧ ∃ w1, R w1 ∧ FrB [b] w w1 ∧ w' = w1.setCell ⟨B4, 0, none⟩ (.slice none 0 0) := by
  have HT' := Lib.hid HT
  clear HT
  go_enter Tryz.func44, Tryz.ntmps44
  go_wp2_with fail
  refine HT'.out.mono ?_
  rintro e w1 ⟨rfl, hR, hf⟩
  have h5 := (hf.block B4 (blk_lt h4) (by simpa using hb)).trans h4
  have hc := blk_cell h5
  have hz := blk_free h5
  have hl := blk_lt h5
  have HR := Lib.hid (And.intro hR hf)
  clear c0 c1 c2 c3 hR hf h4 h5
  go_wp2_with fail
  go_ret
  exact ⟨rfl, w1, HR.out.1, HR.out.2, rfl⟩
set_option maxHeartbeats 2000000 in
theorem ingest0 (bu : Nat) (hbu : bu ≤ 1000000) (nw id ttl : Nat) (hnw : nw ≤ maxU) (ka kb : BitVec 64) (L : List Ent) (hL : ∀ x ∈ L, x.Ok) (hl30 : L.length < 30) (lgs : Option Addr) (lgc : Nat) (hcap : L.length ≤ lgc) (hcn : lgs = none → lgc = 0) (b : Nat) (w : World) (hlo : ∀ g o, lgs = some ⟨g, o, none⟩ → L ≠ [] → g ≠ b) (hLg : Ents w lgs L) (k : Nat) (h1 : 1 ≤ k) (h3 : k ≤ 3) (its : List (Nat × Nat)) (hs : SmallI its) (hl : its.length ≤ 50) (hco : (allK k its).cost + 3 ≤ bu) (s : Option Addr) (cap : Nat) (hI : Rd 2 encIt w s its) (hIo : ∀ g o, s = some ⟨g, o, none⟩ → its ≠ [] → g ≠ b) (ts : Option Addr) (tc : Nat) (hyes : AppOk ka kb 0 L nw ⟨#[105, 110, 103, 101, 115, 116]⟩) (h0 : w.heap[b]? = some (.cells #[.slice ts 0 tc, .int .u64 1, .slice none 0 0, .int .u64 0, .slice lgs L.length lgc, .int .u64 (nw : Int), .int .u64 (id : Int), .int .i64 (bu : Int), .int .u64 (ttl : Int), .int .u64 (un ka), .int .u64 (un kb)] 83 (0, 0))) : Calls Tryz.prog 28 #[.pointer (some ⟨b, 0, none⟩), .int .u64 (nw : Int), .string ⟨#[97, 61, 120]⟩, .int .i64 (k : Int), .slice s its.length cap] w fun e w' => ∃ (t l : Hd) (h : SkH) (lgs' : Option Addr) (lgc' : Nat), e = .returned (.tuple #[.slice none 0 0, .int .i64 0]) ∧ Tab1 w' t (allK k its) nw l h ∧ (Fresh w.heap.size t ∧ Fresh w.heap.size l ∧ FreshK w.heap.size h) ∧ Ents w' lgs' (appL ka kb 0 L nw ⟨#[105, 110, 103, 101, 115, 116]⟩) ∧ (appL ka kb 0 L nw ⟨#[105, 110, 103, 101, 115, 116]⟩).length ≤ lgc' ∧ (lgs' = none → lgc' = 0) ∧ (∀ g o, lgs' = some ⟨g, o, none⟩ → w.heap.size ≤ g) ∧ FrB [b] w w' ∧ w'.heap[b]? = some (.cells #[t.v 1, .int .u64 1, .slice none 0 0, .int .u64 0, .slice lgs' (appL ka kb 0 L nw ⟨#[105, 110, 103, 101, 115, 116]⟩).length lgc', .int .u64 (nw : Int), .int .u64 (id : Int), .int .i64 (bu : Int), .int .u64 (ttl : Int), .int .u64 (un ka), .int .u64 (un kb)] 83 (0, 0)) := by
  have hbw := blk_lt h0
  have hE : ∀ (args : Array Value) (w : World), (callFunc 44 args).run Tryz.prog w = .ok (.enter 44 args) w := enters_of Tryz.func44 (by kernel_rfl) rfl
  have K : ∀ wd, Fr w [b] [(w.heap.size + 1 + 1 + 1 + 1 + 1, #[.func (.func 44) #[] #[.pointer (some ⟨w.heap.size, 0, none⟩), .pointer (some ⟨w.heap.size + 1, 0, none⟩), .pointer (some ⟨w.heap.size + 1 + 1, 0, none⟩), .pointer (some ⟨w.heap.size + 1 + 1 + 1, 0, none⟩), .pointer (some ⟨w.heap.size + 1 + 1 + 1 + 1, 0, none⟩)]], 122), (w.heap.size + 1 + 1 + 1 + 1, #[.slice none 0 0], 33), (w.heap.size + 1 + 1 + 1, #[.slice s its.length cap], 25), (w.heap.size + 1 + 1, #[.int .i64 (k : Int)], 3), (w.heap.size + 1, #[.string ⟨#[97, 61, 120]⟩], 9), (w.heap.size, #[.pointer (some ⟨b, 0, none⟩)], 60), (b, #[.slice ts 0 tc, .int .u64 1, .slice none 0 0, .int .u64 0, .slice lgs L.length lgc, .int .u64 (nw : Int), .int .u64 (id : Int), .int .i64 (bu : Int), .int .u64 (ttl : Int), .int .u64 (un ka), .int .u64 (un kb)], 83)] wd → wd.heap.size = w.heap.size + 6 → Below w.heap.size w wd → Calls Tryz.prog 43 #[.pointer (some ⟨b, 0, none⟩), .int .u64 (nw : Int), .string ⟨#[105, 110, 103, 101, 115, 116]⟩, .slice (some ⟨w.heap.size + 1 + 1 + 1 + 1 + 1, 0, none⟩) 1 1] wd fun e w' => ∃ (y : TS) (v : Value), e = .returned (.int .i64 0) ∧ ((∃ (t l : Hd) (h : SkH), y = ⟨t.s, 1, t.cap, 1, none, 0, 0⟩ ∧ Tab1 w' t (allK k its) nw l h ∧ Fresh (w.heap.size + 8) t ∧ Fresh (w.heap.size + 8) l ∧ FreshK (w.heap.size + 8) h) ∧ w'.heap[w.heap.size + 1 + 1 + 1 + 1]? = some (.cells #[.slice none 0 0] 33 (0, 0))) ∧ OwnE w' wd.heap.size v (appL ka kb 0 L nw ⟨#[105, 110, 103, 101, 115, 116]⟩) ∧ FrB (b :: [w.heap.size + 1 + 1 + 1 + 1]) wd w' ∧ w'.heap[b]? = some (.cells #[.slice y.ts y.tn y.tc, .int .u64 (y.gn : Int), .slice y.gs y.gl y.gc, .int .u64 0, v, .int .u64 (nw : Int), .int .u64 (id : Int), .int .i64 (bu : Int), .int .u64 (ttl : Int), .int .u64 (un ka), .int .u64 (un kb)] 83 (0, 0)) := by
    intro wd f1 hzd hbl
    have hb1 := f1.blk 6 rfl
    have hcn4 : w.heap.size + 1 + 1 + 1 + 1 ≠ b := by omega
    refine do_ok wd b nw id ttl (bu : Int) ka kb hnw ⟨ts, 0, tc, 1, none, 0, 0⟩ L hL hl30 lgs lgc hcap hcn ⟨#[105, 110, 103, 101, 115, 116]⟩ hyes 44 #[.pointer (some ⟨w.heap.size, 0, none⟩), .pointer (some ⟨w.heap.size + 1, 0, none⟩), .pointer (some ⟨w.heap.size + 1 + 1, 0, none⟩), .pointer (some ⟨w.heap.size + 1 + 1 + 1, 0, none⟩), .pointer (some ⟨w.heap.size + 1 + 1 + 1 + 1, 0, none⟩)] [w.heap.size + 1 + 1 + 1 + 1] (by simp; omega) (w.heap.size + 1 + 1 + 1 + 1 + 1) (by simp) hb1 (f1.blk 0 rfl) (fun x W => ∃ b', x = ⟨some ⟨b', 0, none⟩, 0, 0, 1, none, 0, 0⟩) (fun y W => (∃ (t l : Hd) (h : SkH), y = ⟨t.s, 1, t.cap, 1, none, 0, 0⟩ ∧ Tab1 W t (allK k its) nw l h ∧ Fresh (w.heap.size + 8) t ∧ Fresh (w.heap.size + 8) l ∧ FreshK (w.heap.size + 8) h) ∧ W.heap[w.heap.size + 1 + 1 + 1 + 1]? = some (.cells #[.slice none 0 0] 33 (0, 0))) ?HP ?HQ ?HLog hE ?HC ?HF
    case HP =>
      exact fun _ _ _ h _ => h
    case HQ =>
      rintro y W W' ⟨⟨t, l, h, e1, g1, g2, g3, g4⟩, g5⟩ hf
      exact ⟨⟨t, l, h, e1, g1.fr (OffT.fresh g2 g3 g4 (by intro k' hk; simp at hk; rcases hk with rfl | rfl <;> omega)) hf, g2, g3, g4⟩, (hf.block _ (blk_lt g5) (by simp; omega)).trans g5⟩
    case HLog =>
      intro W hf
      refine (hLg.below hbl).fr (fun g o e hn hm => ?_) hf
      have := hLg.lt e hn
      rcases List.mem_cons.1 hm with e' | hm
      · exact hlo g o e hn e'
      · simp at hm
        omega
    case HC =>
      intro W hf hz
      have hbW := (hf.block b (by omega) (by simp)).trans hb1
      refine (come0 b ts tc lgs L.length lgc nw id bu ttl ka kb W hbW).mono ?_
      rintro e w' ⟨b', rfl, hb', hbel⟩
      obtain ⟨g1, g2⟩ := FrB.ofRow hbW hbel
      exact ⟨⟨some ⟨b', 0, none⟩, 0, 0, 1, none, 0, 0⟩, rfl, ⟨b', rfl⟩, g1, g2⟩
    case HF =>
      rintro x W ⟨b', rfl⟩ hf hz hbW
      have c0 := blk_cell ((hf.block (w.heap.size) (by rw [hzd]; omega) (by simp; omega)).trans (f1.blk 5 rfl)) 0
      have c1 := blk_cell ((hf.block (w.heap.size + 1) (by rw [hzd]; omega) (by simp; omega)).trans (f1.blk 4 rfl)) 0
      have c2 := blk_cell ((hf.block (w.heap.size + 1 + 1) (by rw [hzd]; omega) (by simp; omega)).trans (f1.blk 3 rfl)) 0
      have c3 := blk_cell ((hf.block (w.heap.size + 1 + 1 + 1) (by rw [hzd]; omega) (by simp; omega)).trans (f1.blk 2 rfl)) 0
      have h4 := (hf.block (w.heap.size + 1 + 1 + 1 + 1) (by omega) (by simp; omega)).trans (f1.blk 1 rfl)
      have hIW : Rd 2 encIt W s its := (hI.keepB (Nat.le_refl _) hbl).fr (fun g o e hn hm => by simp at hm; exact hIo g o e hn hm) hf
      refine (ingB b _ 0 _ 0 _ 0 _ 0 (w.heap.size + 1 + 1 + 1 + 1) ⟨#[97, 61, 120]⟩ (k : Int) s its.length cap W c0 c1 c2 c3 h4 hcn4 (fun W1 => ∃ (t l : Hd) (h : SkH), Tab1 W1 t (allK k its) nw l h ∧ (Fresh W.heap.size t ∧ Fresh W.heap.size l ∧ FreshK W.heap.size h) ∧ W1.heap[b]? = some (.cells #[t.v 1, .int .u64 1, .slice none 0 0, .int .u64 0, .slice lgs L.length lgc, .int .u64 (nw : Int), .int .u64 (id : Int), .int .i64 (bu : Int), .int .u64 (ttl : Int), .int .u64 (un ka), .int .u64 (un kb)] 83 (0, 0))) ?_).mono ?_
      · refine (take0 k h1 h3 its hs hl s cap lgs L.length lgc nw id bu ttl ka kb hbu hco b b' W hbW hIW).mono ?_
        rintro e w' ⟨t, l, h, rfl, g1, g2, g3, g4⟩
        exact ⟨rfl, ⟨t, l, h, g1, g2, g4⟩, g3⟩
      · rintro e w' ⟨rfl, w1, ⟨t, l, h, g1, g2, g4⟩, g3, rfl⟩
        have h41 := (g3.block (w.heap.size + 1 + 1 + 1 + 1) (blk_lt h4) (by simp; omega)).trans h4
        have hoff : OffT [w.heap.size + 1 + 1 + 1 + 1] t l h := OffT.fresh g2.1 g2.2.1 g2.2.2 (by intro k' hk; simp at hk; subst hk; omega)
        exact ⟨⟨t.s, 1, t.cap, 1, none, 0, 0⟩, rfl, ⟨⟨t, l, h, rfl, g1.fr hoff ((FrB.refl [w.heap.size + 1 + 1 + 1 + 1] w1).set (.inl (by simp))), g2.1.mono (by omega), g2.2.1.mono (by omega), g2.2.2.mono (by omega)⟩, blk_set h41 0 _⟩, (g3.mono (S := b :: [w.heap.size + 1 + 1 + 1 + 1]) (by simp)).set (.inl (by simp)), (Below.heap_setCell w1 ⟨w.heap.size + 1 + 1 + 1 + 1, 0, none⟩ _ b (fun e => hcn4 e.symm)).trans g4⟩
  have f1 := (((((((Fr.start w [b]).add h0 (by simp)).alloc (cs := #[.pointer (some ⟨b, 0, none⟩)]) (T := 60)).alloc (cs := #[.string ⟨#[97, 61, 120]⟩]) (T := 9)).alloc (cs := #[.int .i64 (k : Int)]) (T := 3)).alloc (cs := #[.slice s its.length cap]) (T := 25)).alloc (cs := #[.slice none 0 0]) (T := 33)).alloc (cs := #[.func (.func 44) #[] #[.pointer (some ⟨w.heap.size, 0, none⟩), .pointer (some ⟨w.heap.size + 1, 0, none⟩), .pointer (some ⟨w.heap.size + 1 + 1, 0, none⟩), .pointer (some ⟨w.heap.size + 1 + 1 + 1, 0, none⟩), .pointer (some ⟨w.heap.size + 1 + 1 + 1 + 1, 0, none⟩)]]) (T := 122)
  simp only [World.size_alloc] at f1
  have hbl := ((((((Below.refl w.heap.size w).alloc (Nat.le_refl _) (.cells #[.pointer (some ⟨b, 0, none⟩)] 60)).alloc (by simp <;> omega) (.cells #[.string ⟨#[97, 61, 120]⟩] 9)).alloc (by simp <;> omega) (.cells #[.int .i64 (k : Int)] 3)).alloc (by simp <;> omega) (.cells #[.slice s its.length cap] 25)).alloc (by simp <;> omega) (.cells #[.slice none 0 0] 33)).alloc (by simp <;> omega) (.cells #[.func (.func 44) #[] #[.pointer (some ⟨w.heap.size, 0, none⟩), .pointer (some ⟨w.heap.size + 1, 0, none⟩), .pointer (some ⟨w.heap.size + 1 + 1, 0, none⟩), .pointer (some ⟨w.heap.size + 1 + 1 + 1, 0, none⟩), .pointer (some ⟨w.heap.size + 1 + 1 + 1 + 1, 0, none⟩)]] 122)
  have hmf : ∀ (fn : Fn) (first cap : Array Value) (w : World), (Instr.makeFunc fn first cap).run Tryz.prog w = .ok (.func fn first cap) w := fun _ _ _ _ => rfl
  have KK := Lib.hid (K _ f1 (by simp) hbl)
  have HBL := Lib.hid hbl
  have rl := f1.rules
  simp only [Rules, World.size_alloc] at rl
  clear K hE hL hcap hcn hlo hLg hyes hbl hs hco hI hIo
  go_enter Tryz.func28, Tryz.ntmps28
  go_wp2_with fail
  refine KK.out.mono ?_
  rintro e w6 ⟨y, v, rfl, ⟨⟨t, l, h, rfl, g1, g2, g3, g4⟩, g5⟩, hO, hfr, hb6⟩
  obtain ⟨s9, c9, rfl, i1, i2, i3, i4⟩ := own_full hO
  have hc6 := blk_cell g5
  have hfz := blk_free g5
  have HH := Lib.hid (And.intro g1 (And.intro g2 (And.intro g3 (And.intro g4 (And.intro i1 (And.intro i2 (And.intro i3 (And.intro i4 (And.intro hfr hb6)))))))))
  clear KK rl g1 g2 g3 g4 g5 i1 i2 i3 i4 hfr hb6 hO
  go_wp2_with fail
  refine bodyPost_ret (v := .tuple #[.slice none 0 0, .int .i64 0]) (by simp [results, Tryz.results28, go_sem]) rfl ?_
  obtain ⟨g1, g2, g3, g4, i1, i2, i3, i4, hfr, hb6⟩ := HH.out
  exact ⟨t, l, h, s9, c9, rfl, g1, ⟨g2.mono (by omega), g3.mono (by omega), g4.mono (by omega)⟩, i3, i1, i2, fun g o e => by have := i4 g o e; have := HBL.out.size; omega, (FrB.of (S := [b]) HBL.out).trans hfr (by simp; omega), hb6⟩
end Go.Proofs.YtmgdbfmlnmahpaaGreatDoor
namespace Go.Proofs.YtmgdbfmlnmahpaaGreatDoor
open Go.RowKit Go.Shelf
set_option linter.unusedSimpArgs false
set_option linter.unusedVariables false
set_option maxRecDepth 100000
set_option maxHeartbeats 2000000 in
theorem query1 (bu : Nat) (hbu : bu ≤ 1000000) (nw id ttl : Nat) (hnw : nw ≤ maxU) (ka kb : BitVec 64) (L : List Ent) (hL : ∀ x ∈ L, x.Ok) (hl30 : L.length < 30) (lgs : Option Addr) (lgc : Nat) (hcap : L.length ≤ lgc) (hcn : lgs = none → lgc = 0) (b : Nat) (w : World) (hlo : ∀ g o, lgs = some ⟨g, o, none⟩ → L ≠ [] → g ≠ b) (hLg : Ents w lgs L) (k : Nat) (h1 : 1 ≤ k) (h3 : k ≤ 3) (sc : ByteArray) (hS : ScOk sc) (a : Nat) (ha : a ≤ maxU) (X : Sk) (hk : X.kind = (k : Int)) (hxl : X.len ≤ 60) (sn : Nat) (hn : nw ≤ sn) (ts : Option Addr) (tc : Nat) (l0 : Hd) (hh : SkH) (hT : Tab1 w ⟨ts, tc⟩ X sn l0 hh) (hF : Fresh (b + 1) ⟨ts, tc⟩ ∧ Fresh (b + 1) l0 ∧ FreshK (b + 1) hh) (hyes : AppOk ka kb 0 L nw ⟨#[113, 117, 101, 114, 121]⟩) (h0 : w.heap[b]? = some (.cells #[.slice ts 1 tc, .int .u64 1, .slice none 0 0, .int .u64 0, .slice lgs L.length lgc, .int .u64 (nw : Int), .int .u64 (id : Int), .int .i64 (bu : Int), .int .u64 (ttl : Int), .int .u64 (un ka), .int .u64 (un kb)] 83 (0, 0))) : Calls Tryz.prog 30 #[.pointer (some ⟨b, 0, none⟩), .int .u64 (nw : Int), .string sc, .int .i64 (k : Int), .int .u64 (a : Int)] w fun e w' => ∃ (t l : Hd) (h : SkH) (lgs' : Option Addr) (lgc' : Nat), e = .returned (.tuple #[.int .u64 (X.ask a : Nat), .int .i64 0]) ∧ Tab1 w' t (X) sn l h ∧ (Fresh w.heap.size t ∧ Fresh w.heap.size l ∧ FreshK w.heap.size h) ∧ Ents w' lgs' (appL ka kb 0 L nw ⟨#[113, 117, 101, 114, 121]⟩) ∧ (appL ka kb 0 L nw ⟨#[113, 117, 101, 114, 121]⟩).length ≤ lgc' ∧ (lgs' = none → lgc' = 0) ∧ (∀ g o, lgs' = some ⟨g, o, none⟩ → w.heap.size ≤ g) ∧ FrB [b] w w' ∧ w'.heap[b]? = some (.cells #[t.v 1, .int .u64 1, .slice none 0 0, .int .u64 0, .slice lgs' (appL ka kb 0 L nw ⟨#[113, 117, 101, 114, 121]⟩).length lgc', .int .u64 (nw : Int), .int .u64 (id : Int), .int .i64 (bu : Int), .int .u64 (ttl : Int), .int .u64 (un ka), .int .u64 (un kb)] 83 (0, 0)) := by
  have hbw := blk_lt h0
  have hE : ∀ (args : Array Value) (w : World), (callFunc 48 args).run Tryz.prog w = .ok (.enter 48 args) w := enters_of Tryz.func48 (by kernel_rfl) rfl
  have K : ∀ wd, Fr w [b] [(w.heap.size + 1 + 1 + 1 + 1 + 1, #[.func (.func 48) #[] #[.pointer (some ⟨w.heap.size, 0, none⟩), .pointer (some ⟨w.heap.size + 1, 0, none⟩), .pointer (some ⟨w.heap.size + 1 + 1, 0, none⟩), .pointer (some ⟨w.heap.size + 1 + 1 + 1, 0, none⟩), .pointer (some ⟨w.heap.size + 1 + 1 + 1 + 1, 0, none⟩)]], 122), (w.heap.size + 1 + 1 + 1 + 1, #[.int .u64 0], 22), (w.heap.size + 1 + 1 + 1, #[.int .u64 (a : Int)], 22), (w.heap.size + 1 + 1, #[.int .i64 (k : Int)], 3), (w.heap.size + 1, #[.string sc], 9), (w.heap.size, #[.pointer (some ⟨b, 0, none⟩)], 60), (b, #[.slice ts 1 tc, .int .u64 1, .slice none 0 0, .int .u64 0, .slice lgs L.length lgc, .int .u64 (nw : Int), .int .u64 (id : Int), .int .i64 (bu : Int), .int .u64 (ttl : Int), .int .u64 (un ka), .int .u64 (un kb)], 83)] wd → wd.heap.size = w.heap.size + 6 → Below w.heap.size w wd → Calls Tryz.prog 43 #[.pointer (some ⟨b, 0, none⟩), .int .u64 (nw : Int), .string ⟨#[113, 117, 101, 114, 121]⟩, .slice (some ⟨w.heap.size + 1 + 1 + 1 + 1 + 1, 0, none⟩) 1 1] wd fun e w' => ∃ (y : TS) (v : Value), e = .returned (.int .i64 0) ∧ ((∃ (t l : Hd) (h : SkH), y = ⟨t.s, 1, t.cap, 1, none, 0, 0⟩ ∧ Tab1 w' t X sn l h ∧ Fresh (w.heap.size + 8) t ∧ Fresh (w.heap.size + 8) l ∧ FreshK (w.heap.size + 8) h) ∧ w'.heap[w.heap.size + 1 + 1 + 1 + 1]? = some (.cells #[.int .u64 (X.ask a : Nat)] 22 (0, 0))) ∧ OwnE w' wd.heap.size v (appL ka kb 0 L nw ⟨#[113, 117, 101, 114, 121]⟩) ∧ FrB (b :: [w.heap.size + 1 + 1 + 1 + 1]) wd w' ∧ w'.heap[b]? = some (.cells #[.slice y.ts y.tn y.tc, .int .u64 (y.gn : Int), .slice y.gs y.gl y.gc, .int .u64 0, v, .int .u64 (nw : Int), .int .u64 (id : Int), .int .i64 (bu : Int), .int .u64 (ttl : Int), .int .u64 (un ka), .int .u64 (un kb)] 83 (0, 0)) := by
    intro wd f1 hzd hbl
    have hb1 := f1.blk 6 rfl
    have hcn4 : w.heap.size + 1 + 1 + 1 + 1 ≠ b := by omega
    refine do_ok wd b nw id ttl (bu : Int) ka kb hnw ⟨ts, 1, tc, 1, none, 0, 0⟩ L hL hl30 lgs lgc hcap hcn ⟨#[113, 117, 101, 114, 121]⟩ hyes 48 #[.pointer (some ⟨w.heap.size, 0, none⟩), .pointer (some ⟨w.heap.size + 1, 0, none⟩), .pointer (some ⟨w.heap.size + 1 + 1, 0, none⟩), .pointer (some ⟨w.heap.size + 1 + 1 + 1, 0, none⟩), .pointer (some ⟨w.heap.size + 1 + 1 + 1 + 1, 0, none⟩)] [w.heap.size + 1 + 1 + 1 + 1] (by simp; omega) (w.heap.size + 1 + 1 + 1 + 1 + 1) (by simp) hb1 (f1.blk 0 rfl) (fun x W => ∃ (t l : Hd) (h : SkH), x = ⟨t.s, 1, t.cap, 1, none, 0, 0⟩ ∧ Tab1 W t X sn l h ∧ Fresh (w.heap.size + 8) t ∧ Fresh (w.heap.size + 8) l ∧ FreshK (w.heap.size + 8) h) (fun y W => (∃ (t l : Hd) (h : SkH), y = ⟨t.s, 1, t.cap, 1, none, 0, 0⟩ ∧ Tab1 W t X sn l h ∧ Fresh (w.heap.size + 8) t ∧ Fresh (w.heap.size + 8) l ∧ FreshK (w.heap.size + 8) h) ∧ W.heap[w.heap.size + 1 + 1 + 1 + 1]? = some (.cells #[.int .u64 (X.ask a : Nat)] 22 (0, 0))) ?HP ?HQ ?HLog hE ?HC ?HF
    case HP =>
      rintro y W W' ⟨t, l, h, e1, g1, g2, g3, g4⟩ hf
      exact ⟨t, l, h, e1, g1.fr (OffT.fresh g2 g3 g4 (by intro k' hk; simp at hk; subst hk; omega)) hf, g2, g3, g4⟩
    case HQ =>
      rintro y W W' ⟨⟨t, l, h, e1, g1, g2, g3, g4⟩, g5⟩ hf
      exact ⟨⟨t, l, h, e1, g1.fr (OffT.fresh g2 g3 g4 (by intro k' hk; simp at hk; rcases hk with rfl | rfl <;> omega)) hf, g2, g3, g4⟩, (hf.block _ (blk_lt g5) (by simp; omega)).trans g5⟩
    case HLog =>
      intro W hf
      refine (hLg.below hbl).fr (fun g o e hn hm => ?_) hf
      have := hLg.lt e hn
      rcases List.mem_cons.1 hm with e' | hm
      · exact hlo g o e hn e'
      · simp at hm
        omega
    case HC =>
      intro W hf hz
      have hbW := (hf.block b (by omega) (by simp)).trans hb1
      have hlen := hT.ok.len
      refine (come1 b ts tc lgs L.length lgc nw id bu ttl ka kb W hbW X ⟨by omega, by omega, by omega⟩ sn hn l0 hh ((hT.keepB hbl).keepB hf.below) hF).mono ?_
      rintro e w' ⟨t, l, h, rfl, g1, ⟨g2, g3, g4⟩, hbel⟩
      obtain ⟨q1, q2⟩ := FrB.ofRow hbW hbel
      exact ⟨⟨t.s, 1, t.cap, 1, none, 0, 0⟩, rfl, ⟨t, l, h, rfl, g1, g2.mono (by omega), g3.mono (by omega), g4.mono (by omega)⟩, q1, q2⟩
    case HF =>
      rintro x W ⟨t, l, h, rfl, g1, g2, g3, g4⟩ hf hz hbW
      have c0 := blk_cell ((hf.block (w.heap.size) (by rw [hzd]; omega) (by simp; omega)).trans (f1.blk 5 rfl)) 0
      have c1 := blk_cell ((hf.block (w.heap.size + 1) (by rw [hzd]; omega) (by simp; omega)).trans (f1.blk 4 rfl)) 0
      have c2 := blk_cell ((hf.block (w.heap.size + 1 + 1) (by rw [hzd]; omega) (by simp; omega)).trans (f1.blk 3 rfl)) 0
      have c3 := blk_cell ((hf.block (w.heap.size + 1 + 1 + 1) (by rw [hzd]; omega) (by simp; omega)).trans (f1.blk 2 rfl)) 0
      have h4 := (hf.block (w.heap.size + 1 + 1 + 1 + 1) (by omega) (by simp; omega)).trans (f1.blk 1 rfl)
      refine (queryB X g1.ok a k ha sc b _ 0 _ 0 _ 0 _ 0 (w.heap.size + 1 + 1 + 1 + 1) W c0 c1 c2 c3 (by omega) h4 (own1 b t.s t.cap W (blk_lt hbW) (blk_cell hbW 0) sc hS k h1 h3 X sn l h g1 hk hxl)).mono ?_
      rintro e w' ⟨rfl, hbel⟩
      obtain ⟨q1, q2⟩ := FrB.ofRow h4 hbel
      exact ⟨⟨t.s, 1, t.cap, 1, none, 0, 0⟩, rfl, ⟨⟨t, l, h, rfl, g1.fr (OffT.fresh g2 g3 g4 (by intro k' hk; simp at hk; subst hk; omega)) q1, g2, g3, g4⟩, q2⟩, q1.mono (S := b :: [w.heap.size + 1 + 1 + 1 + 1]) (by simp), (q1.block b (blk_lt hbW) (by simp; omega)).trans hbW⟩
  have f1 := (((((((Fr.start w [b]).add h0 (by simp)).alloc (cs := #[.pointer (some ⟨b, 0, none⟩)]) (T := 60)).alloc (cs := #[.string sc]) (T := 9)).alloc (cs := #[.int .i64 (k : Int)]) (T := 3)).alloc (cs := #[.int .u64 (a : Int)]) (T := 22)).alloc (cs := #[.int .u64 0]) (T := 22)).alloc (cs := #[.func (.func 48) #[] #[.pointer (some ⟨w.heap.size, 0, none⟩), .pointer (some ⟨w.heap.size + 1, 0, none⟩), .pointer (some ⟨w.heap.size + 1 + 1, 0, none⟩), .pointer (some ⟨w.heap.size + 1 + 1 + 1, 0, none⟩), .pointer (some ⟨w.heap.size + 1 + 1 + 1 + 1, 0, none⟩)]]) (T := 122)
  simp only [World.size_alloc] at f1
  have hbl := ((((((Below.refl w.heap.size w).alloc (Nat.le_refl _) (.cells #[.pointer (some ⟨b, 0, none⟩)] 60)).alloc (by simp <;> omega) (.cells #[.string sc] 9)).alloc (by simp <;> omega) (.cells #[.int .i64 (k : Int)] 3)).alloc (by simp <;> omega) (.cells #[.int .u64 (a : Int)] 22)).alloc (by simp <;> omega) (.cells #[.int .u64 0] 22)).alloc (by simp <;> omega) (.cells #[.func (.func 48) #[] #[.pointer (some ⟨w.heap.size, 0, none⟩), .pointer (some ⟨w.heap.size + 1, 0, none⟩), .pointer (some ⟨w.heap.size + 1 + 1, 0, none⟩), .pointer (some ⟨w.heap.size + 1 + 1 + 1, 0, none⟩), .pointer (some ⟨w.heap.size + 1 + 1 + 1 + 1, 0, none⟩)]] 122)
  have hmf : ∀ (fn : Fn) (first cap : Array Value) (w : World), (Instr.makeFunc fn first cap).run Tryz.prog w = .ok (.func fn first cap) w := fun _ _ _ _ => rfl
  have KK := Lib.hid (K _ f1 (by simp) hbl)
  have HBL := Lib.hid hbl
  have rl := f1.rules
  simp only [Rules, World.size_alloc] at rl
  clear K hE hL hcap hcn hlo hLg hyes hbl hS ha hk hxl hn hT hF
  go_enter Tryz.func30, Tryz.ntmps30
  go_wp2_with fail
  refine KK.out.mono ?_
  rintro e w6 ⟨y, v, rfl, ⟨⟨t, l, h, rfl, g1, g2, g3, g4⟩, g5⟩, hO, hfr, hb6⟩
  obtain ⟨s9, c9, rfl, i1, i2, i3, i4⟩ := own_full hO
  have hc6 := blk_cell g5
  have hfz := blk_free g5
  have HH := Lib.hid (And.intro g1 (And.intro g2 (And.intro g3 (And.intro g4 (And.intro i1 (And.intro i2 (And.intro i3 (And.intro i4 (And.intro hfr hb6)))))))))
  clear KK rl g1 g2 g3 g4 g5 i1 i2 i3 i4 hfr hb6 hO
  go_wp2_with fail
  refine bodyPost_ret (v := .tuple #[.int .u64 (X.ask a : Nat), .int .i64 0]) (by simp [results, Tryz.results30, go_sem]) rfl ?_
  obtain ⟨g1, g2, g3, g4, i1, i2, i3, i4, hfr, hb6⟩ := HH.out
  exact ⟨t, l, h, s9, c9, rfl, g1, ⟨g2.mono (by omega), g3.mono (by omega), g4.mono (by omega)⟩, i3, i1, i2, fun g o e => by have := i4 g o e; have := HBL.out.size; omega, (FrB.of (S := [b]) HBL.out).trans hfr (by simp; omega), hb6⟩
set_option maxHeartbeats 2000000 in
theorem query0 (bu : Nat) (hbu : bu ≤ 1000000) (nw id ttl : Nat) (hnw : nw ≤ maxU) (ka kb : BitVec 64) (L : List Ent) (hL : ∀ x ∈ L, x.Ok) (hl30 : L.length < 30) (lgs : Option Addr) (lgc : Nat) (hcap : L.length ≤ lgc) (hcn : lgs = none → lgc = 0) (b : Nat) (w : World) (hlo : ∀ g o, lgs = some ⟨g, o, none⟩ → L ≠ [] → g ≠ b) (hLg : Ents w lgs L) (k : Nat) (h1 : 1 ≤ k) (h3 : k ≤ 3) (sc : ByteArray) (hS : ScOk sc) (a : Nat) (ha : a ≤ maxU) (ts : Option Addr) (tc : Nat) (hyes : AppOk ka kb 0 L nw ⟨#[113, 117, 101, 114, 121]⟩) (h0 : w.heap[b]? = some (.cells #[.slice ts 0 tc, .int .u64 1, .slice none 0 0, .int .u64 0, .slice lgs L.length lgc, .int .u64 (nw : Int), .int .u64 (id : Int), .int .i64 (bu : Int), .int .u64 (ttl : Int), .int .u64 (un ka), .int .u64 (un kb)] 83 (0, 0))) : Calls Tryz.prog 30 #[.pointer (some ⟨b, 0, none⟩), .int .u64 (nw : Int), .string sc, .int .i64 (k : Int), .int .u64 (a : Int)] w fun e w' => e = .returned (.tuple #[.int .u64 ((Sk.new k).ask a : Nat), .int .i64 0]) ∧ FrB [b] w w' := by
  have hbw := blk_lt h0
  have hE : ∀ (args : Array Value) (w : World), (callFunc 48 args).run Tryz.prog w = .ok (.enter 48 args) w := enters_of Tryz.func48 (by kernel_rfl) rfl
  have K : ∀ wd, Fr w [b] [(w.heap.size + 1 + 1 + 1 + 1 + 1, #[.func (.func 48) #[] #[.pointer (some ⟨w.heap.size, 0, none⟩), .pointer (some ⟨w.heap.size + 1, 0, none⟩), .pointer (some ⟨w.heap.size + 1 + 1, 0, none⟩), .pointer (some ⟨w.heap.size + 1 + 1 + 1, 0, none⟩), .pointer (some ⟨w.heap.size + 1 + 1 + 1 + 1, 0, none⟩)]], 122), (w.heap.size + 1 + 1 + 1 + 1, #[.int .u64 0], 22), (w.heap.size + 1 + 1 + 1, #[.int .u64 (a : Int)], 22), (w.heap.size + 1 + 1, #[.int .i64 (k : Int)], 3), (w.heap.size + 1, #[.string sc], 9), (w.heap.size, #[.pointer (some ⟨b, 0, none⟩)], 60), (b, #[.slice ts 0 tc, .int .u64 1, .slice none 0 0, .int .u64 0, .slice lgs L.length lgc, .int .u64 (nw : Int), .int .u64 (id : Int), .int .i64 (bu : Int), .int .u64 (ttl : Int), .int .u64 (un ka), .int .u64 (un kb)], 83)] wd → wd.heap.size = w.heap.size + 6 → Below w.heap.size w wd → Calls Tryz.prog 43 #[.pointer (some ⟨b, 0, none⟩), .int .u64 (nw : Int), .string ⟨#[113, 117, 101, 114, 121]⟩, .slice (some ⟨w.heap.size + 1 + 1 + 1 + 1 + 1, 0, none⟩) 1 1] wd fun e w' => ∃ (y : TS) (v : Value), e = .returned (.int .i64 0) ∧ ((∃ b', y = ⟨some ⟨b', 0, none⟩, 0, 0, 1, none, 0, 0⟩) ∧ w'.heap[w.heap.size + 1 + 1 + 1 + 1]? = some (.cells #[.int .u64 ((Sk.new k).ask a : Nat)] 22 (0, 0))) ∧ OwnE w' wd.heap.size v (appL ka kb 0 L nw ⟨#[113, 117, 101, 114, 121]⟩) ∧ FrB (b :: [w.heap.size + 1 + 1 + 1 + 1]) wd w' ∧ w'.heap[b]? = some (.cells #[.slice y.ts y.tn y.tc, .int .u64 (y.gn : Int), .slice y.gs y.gl y.gc, .int .u64 0, v, .int .u64 (nw : Int), .int .u64 (id : Int), .int .i64 (bu : Int), .int .u64 (ttl : Int), .int .u64 (un ka), .int .u64 (un kb)] 83 (0, 0)) := by
    intro wd f1 hzd hbl
    have hb1 := f1.blk 6 rfl
    have hcn4 : w.heap.size + 1 + 1 + 1 + 1 ≠ b := by omega
    refine do_ok wd b nw id ttl (bu : Int) ka kb hnw ⟨ts, 0, tc, 1, none, 0, 0⟩ L hL hl30 lgs lgc hcap hcn ⟨#[113, 117, 101, 114, 121]⟩ hyes 48 #[.pointer (some ⟨w.heap.size, 0, none⟩), .pointer (some ⟨w.heap.size + 1, 0, none⟩), .pointer (some ⟨w.heap.size + 1 + 1, 0, none⟩), .pointer (some ⟨w.heap.size + 1 + 1 + 1, 0, none⟩), .pointer (some ⟨w.heap.size + 1 + 1 + 1 + 1, 0, none⟩)] [w.heap.size + 1 + 1 + 1 + 1] (by simp; omega) (w.heap.size + 1 + 1 + 1 + 1 + 1) (by simp) hb1 (f1.blk 0 rfl) (fun x W => ∃ b', x = ⟨some ⟨b', 0, none⟩, 0, 0, 1, none, 0, 0⟩) (fun y W => (∃ b', y = ⟨some ⟨b', 0, none⟩, 0, 0, 1, none, 0, 0⟩) ∧ W.heap[w.heap.size + 1 + 1 + 1 + 1]? = some (.cells #[.int .u64 ((Sk.new k).ask a : Nat)] 22 (0, 0))) ?HP ?HQ ?HLog hE ?HC ?HF
    case HP =>
      exact fun _ _ _ h _ => h
    case HQ =>
      rintro y W W' ⟨g1, g5⟩ hf
      exact ⟨g1, (hf.block _ (blk_lt g5) (by simp; omega)).trans g5⟩
    case HLog =>
      intro W hf
      refine (hLg.below hbl).fr (fun g o e hn hm => ?_) hf
      have := hLg.lt e hn
      rcases List.mem_cons.1 hm with e' | hm
      · exact hlo g o e hn e'
      · simp at hm
        omega
    case HC =>
      intro W hf hz
      have hbW := (hf.block b (by omega) (by simp)).trans hb1
      refine (come0 b ts tc lgs L.length lgc nw id bu ttl ka kb W hbW).mono ?_
      rintro e w' ⟨b', rfl, hb', hbel⟩
      obtain ⟨g1, g2⟩ := FrB.ofRow hbW hbel
      exact ⟨⟨some ⟨b', 0, none⟩, 0, 0, 1, none, 0, 0⟩, rfl, ⟨b', rfl⟩, g1, g2⟩
    case HF =>
      rintro x W ⟨b', rfl⟩ hf hz hbW
      have c0 := blk_cell ((hf.block (w.heap.size) (by rw [hzd]; omega) (by simp; omega)).trans (f1.blk 5 rfl)) 0
      have c1 := blk_cell ((hf.block (w.heap.size + 1) (by rw [hzd]; omega) (by simp; omega)).trans (f1.blk 4 rfl)) 0
      have c2 := blk_cell ((hf.block (w.heap.size + 1 + 1) (by rw [hzd]; omega) (by simp; omega)).trans (f1.blk 3 rfl)) 0
      have c3 := blk_cell ((hf.block (w.heap.size + 1 + 1 + 1) (by rw [hzd]; omega) (by simp; omega)).trans (f1.blk 2 rfl)) 0
      have h4 := (hf.block (w.heap.size + 1 + 1 + 1 + 1) (by omega) (by simp; omega)).trans (f1.blk 1 rfl)
      refine (queryB (Sk.new k) (Sk.new_ok k).1 a k ha sc b _ 0 _ 0 _ 0 _ 0 (w.heap.size + 1 + 1 + 1 + 1) W c0 c1 c2 c3 (by omega) h4 (own0 b (some ⟨b', 0, none⟩) 0 W (blk_lt hbW) (blk_cell hbW 0) sc hS k h1 h3)).mono ?_
      rintro e w' ⟨rfl, hbel⟩
      obtain ⟨q1, q2⟩ := FrB.ofRow h4 hbel
      exact ⟨⟨some ⟨b', 0, none⟩, 0, 0, 1, none, 0, 0⟩, rfl, ⟨⟨b', rfl⟩, q2⟩, q1.mono (S := b :: [w.heap.size + 1 + 1 + 1 + 1]) (by simp), (q1.block b (blk_lt hbW) (by simp; omega)).trans hbW⟩
  have f1 := (((((((Fr.start w [b]).add h0 (by simp)).alloc (cs := #[.pointer (some ⟨b, 0, none⟩)]) (T := 60)).alloc (cs := #[.string sc]) (T := 9)).alloc (cs := #[.int .i64 (k : Int)]) (T := 3)).alloc (cs := #[.int .u64 (a : Int)]) (T := 22)).alloc (cs := #[.int .u64 0]) (T := 22)).alloc (cs := #[.func (.func 48) #[] #[.pointer (some ⟨w.heap.size, 0, none⟩), .pointer (some ⟨w.heap.size + 1, 0, none⟩), .pointer (some ⟨w.heap.size + 1 + 1, 0, none⟩), .pointer (some ⟨w.heap.size + 1 + 1 + 1, 0, none⟩), .pointer (some ⟨w.heap.size + 1 + 1 + 1 + 1, 0, none⟩)]]) (T := 122)
  simp only [World.size_alloc] at f1
  have hbl := ((((((Below.refl w.heap.size w).alloc (Nat.le_refl _) (.cells #[.pointer (some ⟨b, 0, none⟩)] 60)).alloc (by simp <;> omega) (.cells #[.string sc] 9)).alloc (by simp <;> omega) (.cells #[.int .i64 (k : Int)] 3)).alloc (by simp <;> omega) (.cells #[.int .u64 (a : Int)] 22)).alloc (by simp <;> omega) (.cells #[.int .u64 0] 22)).alloc (by simp <;> omega) (.cells #[.func (.func 48) #[] #[.pointer (some ⟨w.heap.size, 0, none⟩), .pointer (some ⟨w.heap.size + 1, 0, none⟩), .pointer (some ⟨w.heap.size + 1 + 1, 0, none⟩), .pointer (some ⟨w.heap.size + 1 + 1 + 1, 0, none⟩), .pointer (some ⟨w.heap.size + 1 + 1 + 1 + 1, 0, none⟩)]] 122)
  have hmf : ∀ (fn : Fn) (first cap : Array Value) (w : World), (Instr.makeFunc fn first cap).run Tryz.prog w = .ok (.func fn first cap) w := fun _ _ _ _ => rfl
  have KK := Lib.hid (K _ f1 (by simp) hbl)
  have HBL := Lib.hid hbl
  have rl := f1.rules
  simp only [Rules, World.size_alloc] at rl
  clear K hE hL hcap hcn hlo hLg hyes hbl hS ha
  go_enter Tryz.func30, Tryz.ntmps30
  go_wp2_with fail
  refine KK.out.mono ?_
  rintro e w6 ⟨y, v, rfl, ⟨⟨b', rfl⟩, g5⟩, hO, hfr, hb6⟩
  have hc6 := blk_cell g5
  have hfz := blk_free g5
  have HH := Lib.hid hfr
  clear KK rl g5 hfr hb6 hO
  go_wp2_with fail
  exact bodyPost_ret (v := .tuple #[.int .u64 ((Sk.new k).ask a : Nat), .int .i64 0]) (by simp [results, Tryz.results30, go_sem]) rfl ⟨rfl, (FrB.of (S := [b]) HBL.out).trans HH.out (by simp; omega)⟩
end Go.Proofs.YtmgdbfmlnmahpaaGreatDoor
