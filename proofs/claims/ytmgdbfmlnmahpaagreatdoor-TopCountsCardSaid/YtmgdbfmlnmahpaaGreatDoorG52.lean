/- A part of the proof of TopCounts. -/
import Derived.Test.YtmgdbfmlnmahpaaGreatDoorG49
import Derived.Test.YtmgdbfmlnmahpaaGreatDoorG35
import Derived.Test.YtmgdbfmlnmahpaaGreatDoorG51
namespace Go.Proofs.YtmgdbfmlnmahpaaGreatDoor
open Go.RowKit Go.Shelf
set_option linter.unusedSimpArgs false
set_option linter.unusedVariables false
set_option maxRecDepth 100000
def TenS (b B : Nat) (X : Sk) (sn : Nat) (L : List Ent) (nw id bu ttl : Nat) (ka kb : BitVec 64) (W : World) : Prop :=
  ∃ (t l : Hd) (h : SkH) (lgs : Option Addr) (lgc : Nat), Tab1 W t X sn l h ∧ (Fresh B t ∧ Fresh B l ∧ FreshK B h) ∧ Ents W lgs L ∧ L.length ≤ lgc ∧ (lgs = none → lgc = 0) ∧ (∀ g o, lgs = some ⟨g, o, none⟩ → B ≤ g) ∧ W.heap[b]? = some (.cells #[t.v 1, .int .u64 1, .slice none 0 0, .int .u64 0, .slice lgs L.length lgc, .int .u64 (nw : Int), .int .u64 (id : Int), .int .i64 (bu : Int), .int .u64 (ttl : Int), .int .u64 (un ka), .int .u64 (un kb)] 83 (0, 0))
theorem TenS.fr {b B : Nat} {X : Sk} {sn : Nat} {L : List Ent} {nw id bu ttl : Nat} {ka kb : BitVec 64} {S : List Nat} {W W' : World} (h : TenS b B X sn L nw id bu ttl ka kb W) (hf : FrB S W W') (hS : ∀ k ∈ S, k < B ∧ k ≠ b) : TenS b B X sn L nw id bu ttl ka kb W' := by
  obtain ⟨t, l, h, lgs, lgc, h1, h2, h3, h4, h5, h6, h7⟩ := h
  refine ⟨t, l, h, lgs, lgc, h1.fr (OffT.fresh h2.1 h2.2.1 h2.2.2 (fun k hk => (hS k hk).1)) hf, h2, h3.fr (fun g o e _ hm => ?_) hf, h4, h5, h6, (hf.block b (blk_lt h7) (fun hm => (hS b hm).2 rfl)).trans h7⟩
  have := h6 g o e
  have := (hS g hm).1
  omega
theorem TenS.keepB {b B : Nat} {X : Sk} {sn : Nat} {L : List Ent} {nw id bu ttl : Nat} {ka kb : BitVec 64} {W W' : World} (h : TenS b B X sn L nw id bu ttl ka kb W) (hb : Below W.heap.size W W') : TenS b B X sn L nw id bu ttl ka kb W' := h.fr (FrB.of (S := []) hb) (by simp)
theorem TenS.mono {b B B' : Nat} {X : Sk} {sn : Nat} {L : List Ent} {nw id bu ttl : Nat} {ka kb : BitVec 64} {W : World} (h : TenS b B X sn L nw id bu ttl ka kb W) (hB : B' ≤ B) : TenS b B' X sn L nw id bu ttl ka kb W := by
  obtain ⟨t, l, h, lgs, lgc, h1, h2, h3, h4, h5, h6, h7⟩ := h
  exact ⟨t, l, h, lgs, lgc, h1, ⟨h2.1.mono hB, h2.2.1.mono hB, h2.2.2.mono hB⟩, h3, h4, h5, fun g o e => Nat.le_trans hB (h6 g o e), h7⟩
theorem appOk_nil (ka kb : BitVec 64) (tx : ByteArray) (h : tx.size ≤ 200) (n : Nat) : AppOk ka kb 0 [] n tx := ⟨⟨by simp, fun _ => rfl, fun x h => by simp at h, fun i x h => by simp at h, fun i p x h => by simp at h, rfl⟩, h, by decide, fun x hx => by simp at hx⟩
theorem doI (C b id n : Nat) (ka kb : BitVec 64) (ids bs : List Nat) (hn : ids[n]? = some id) (hv : ∀ j, j < n → ids[j]? ≠ some id) (hb : bs[n]? = some b) (hl : ids.length ≤ 1000) (kA kB : BitVec 64) (bu ttl : Nat) (hbu : bu ≤ 1000000) (k : Nat) (h1 : 1 ≤ k) (h3 : k ≤ 3) (its : List (Nat × Nat)) (hs : SmallI its) (hil : its.length ≤ 50) (hco : (allK k its).cost + 3 ≤ bu) (s : Option Addr) (cap : Nat) (w : World) (hbw : b < w.heap.size) (hC : Col w C ka kb ids bs)
    (h0 : w.heap[b]? = some (.cells #[.slice none 0 0, .int .u64 1, .slice none 0 0, .int .u64 0, .slice none 0 0, .int .u64 ((0 : Nat) : Int), .int .u64 (id : Int), .int .i64 (bu : Int), .int .u64 (ttl : Int), .int .u64 (un kA), .int .u64 (un kB)] 83 (0, 0))) (hI : Rd 2 encIt w s its) (hIo : ∀ g o, s = some ⟨g, o, none⟩ → its ≠ [] → g ≠ b) :
    Calls Tryz.prog 8 #[.pointer (some ⟨C, 0, none⟩), .agg #[.int .u64 (id : Int), .int .i64 3, .int .u64 0], .agg #[.int .i64 1, .int .u64 ((0 : Nat) : Int), .string ⟨#[97, 61, 120]⟩, .string ⟨#[]⟩, .int .i64 (k : Int), .slice s its.length cap, .int .u64 ((0 : Nat) : Int), .int .u64 ((0 : Nat) : Int), .int .u64 ((0 : Nat) : Int), .slice none 0 0]] w fun e w' => ∃ m : Nat, e = .returned (.agg #[.int .i64 0, .int .u64 (m : Int), .slice none 0 0, .slice none 0 0]) ∧ TenS b (w.heap.size + 3) (allK k its) 0 (appL kA kB 0 [] (0 : Nat) ⟨#[105, 110, 103, 101, 115, 116]⟩) 0 id bu ttl kA kB w' ∧ FrB [b] w w' := by
  have hok := (allK_ok k its hs hil its.length (Nat.le_refl _)).1
  rw [List.take_length] at hok
  refine (doingest C b id n ka kb ids bs hn hv hb hl 0 0 0 0 ⟨#[97, 61, 120]⟩ ⟨#[]⟩ (k : Int) s its.length cap none 0 0 w hbw hC (fun _ W' => TenS b (w.heap.size + 3) (allK k its) 0 (appL kA kB 0 [] (0 : Nat) ⟨#[105, 110, 103, 101, 115, 116]⟩) 0 id bu ttl kA kB W') ?_).mono ?_
  · intro W hW hz
    have hbW : W.heap[b]? = _ := (hW.block b hbw).trans h0
    refine (d_ingest C b id 0 0 0 0 ⟨#[97, 61, 120]⟩ ⟨#[]⟩ (k : Int) s its.length cap none 0 0 W (by omega) (fun W' => TenS b (W.heap.size + 3) (allK k its) 0 (appL kA kB 0 [] (0 : Nat) ⟨#[105, 110, 103, 101, 115, 116]⟩) 0 id bu ttl kA kB W') ?_ ((allK k its).cost + 3) (by omega) ?_ ?_ ?_).mono ?_
    · intro W1 W2 h hf
      exact h.fr hf (by intro k hk; simp at hk; subst hk; exact ⟨by omega, by omega⟩)
    · intro W1 hW1 hz1
      refine (ingest0 bu hbu 0 id ttl (by unfold maxU; omega) kA kB [] (by simp) (by simp) none 0 (by simp) (fun _ => rfl) b W1 (fun g o e hn => by cases e) (fun i x hx => by simp at hx) k h1 h3 its hs hil hco s cap ((hI.keepB (Nat.le_refl _) hW).keepB (Nat.le_refl _) hW1) hIo none 0 (appOk_nil _ _ _ (by decide) 0) ((hW1.block b (by omega)).trans hbW)).mono ?_
      rintro e w' ⟨t, l, h, lgs, lgc, rfl, g1, g2, g3, g4, g5, g6, g7, g8⟩
      exact ⟨rfl, ⟨t, l, h, lgs, lgc, g1, ⟨g2.1.mono hz1, g2.2.1.mono hz1, g2.2.2.mono hz1⟩, g3, g4, g5, fun g o e => Nat.le_trans hz1 (g6 g o e), g8⟩, g7⟩
    · rintro W1 ⟨t, l, h, lgs, lgc, g1, g2, g3, g4, g5, g6, g7⟩
      exact tenCost1 b t.s t.cap W1 (blk_lt g7) (blk_cell g7 0) _ 0 l h g1
    · intro W1 W2 h hb'
      exact h.keepB hb'
    · rintro e w' ⟨rfl, hR, hf⟩
      exact ⟨_, rfl, hR.mono (by omega), hf⟩
  · rintro e w' ⟨m, w1, rfl, hR, hf1, hf2⟩
    exact ⟨m, rfl, hR.fr hf2 (by intro k hk; simp at hk; subst hk; exact ⟨by omega, by omega⟩), hf1.trans hf2 (by simp <;> omega)⟩
theorem doQ1 (C b id n : Nat) (ka kb : BitVec 64) (ids bs : List Nat) (hn : ids[n]? = some id) (hv : ∀ j, j < n → ids[j]? ≠ some id) (hb : bs[n]? = some b) (hl : ids.length ≤ 1000) (kA kB : BitVec 64) (bu ttl : Nat) (hbu : bu ≤ 1000000) (k : Nat) (h1 : 1 ≤ k) (h3 : k ≤ 3) (sc : ByteArray) (hS : ScOk sc) (a : Nat) (ha : a ≤ maxU) (X : Sk) (hk : X.kind = (k : Int)) (hxl : X.len ≤ 60) (sn : Nat) (L : List Ent) (hL : ∀ x ∈ L, x.Ok) (hl30 : L.length < 30) (hyes : AppOk kA kB 0 L (0 : Nat) ⟨#[113, 117, 101, 114, 121]⟩) (B : Nat) (hbB : b < B) (w : World) (hbw : b < w.heap.size) (hC : Col w C ka kb ids bs) (hT : TenS b B X sn L 0 id bu ttl kA kB w) :
    Calls Tryz.prog 8 #[.pointer (some ⟨C, 0, none⟩), .agg #[.int .u64 (id : Int), .int .i64 3, .int .u64 0], .agg #[.int .i64 2, .int .u64 ((0 : Nat) : Int), .string ⟨#[]⟩, .string sc, .int .i64 (k : Int), .slice none 0 0, .int .u64 (a : Int), .int .u64 ((0 : Nat) : Int), .int .u64 ((0 : Nat) : Int), .slice none 0 0]] w fun e w' => e = .returned (.agg #[.int .i64 0, .int .u64 (X.ask a : Nat), .slice none 0 0, .slice none 0 0]) ∧ FrB [b] w w' := by
  refine (doquery C b id n ka kb ids bs hn hv hb hl 0 a 0 0 ⟨#[]⟩ sc (k : Int) none 0 0 none 0 0 w hbw hC (fun m _ => m = X.ask a) ?_).mono ?_
  · intro W hW hz
    refine (d_query C b id 0 a 0 0 ⟨#[]⟩ sc (k : Int) none 0 0 none 0 0 W (by omega) (fun _ => True) (fun _ _ _ _ => trivial) (X.ask a) ?_).mono ?_
    · intro W1 hW1 hz1
      obtain ⟨t, l, h, lgs, lgc, g1, g2, g3, g4, g5, g6, g7⟩ := (hT.keepB hW).keepB hW1
      refine (query1 bu hbu 0 id ttl (by unfold maxU; omega) kA kB L hL hl30 lgs lgc g4 g5 b W1 (fun g o e _ => by have := g6 g o e; omega) g3 k h1 h3 sc hS a ha X hk hxl sn (Nat.zero_le _) t.s t.cap l h g1 ⟨g2.1.mono hbB, g2.2.1.mono hbB, g2.2.2.mono hbB⟩ hyes g7).mono ?_
      rintro e w' ⟨t, l, h, lgs, lgc, rfl, q1, q2, q3, q4, q5, q6, q7, q8⟩
      exact ⟨rfl, trivial, q7⟩
    · rintro e w' ⟨rfl, _, hf⟩
      exact ⟨_, rfl, rfl, hf⟩
  · rintro e w' ⟨m, w1, rfl, rfl, hf1, hf2⟩
    exact ⟨rfl, hf1.trans hf2 (by simp <;> omega)⟩
theorem doQ0 (C b id n : Nat) (ka kb : BitVec 64) (ids bs : List Nat) (hn : ids[n]? = some id) (hv : ∀ j, j < n → ids[j]? ≠ some id) (hb : bs[n]? = some b) (hl : ids.length ≤ 1000) (kA kB : BitVec 64) (bu ttl : Nat) (hbu : bu ≤ 1000000) (k : Nat) (h1 : 1 ≤ k) (h3 : k ≤ 3) (sc : ByteArray) (hS : ScOk sc) (a : Nat) (ha : a ≤ maxU) (w : World) (hbw : b < w.heap.size) (hC : Col w C ka kb ids bs) (h0 : w.heap[b]? = some (.cells #[.slice none 0 0, .int .u64 1, .slice none 0 0, .int .u64 0, .slice none 0 0, .int .u64 ((0 : Nat) : Int), .int .u64 (id : Int), .int .i64 (bu : Int), .int .u64 (ttl : Int), .int .u64 (un kA), .int .u64 (un kB)] 83 (0, 0))) :
    Calls Tryz.prog 8 #[.pointer (some ⟨C, 0, none⟩), .agg #[.int .u64 (id : Int), .int .i64 3, .int .u64 0], .agg #[.int .i64 2, .int .u64 ((0 : Nat) : Int), .string ⟨#[]⟩, .string sc, .int .i64 (k : Int), .slice none 0 0, .int .u64 (a : Int), .int .u64 ((0 : Nat) : Int), .int .u64 ((0 : Nat) : Int), .slice none 0 0]] w fun e w' => e = .returned (.agg #[.int .i64 0, .int .u64 ((Sk.new k).ask a : Nat), .slice none 0 0, .slice none 0 0]) ∧ FrB [b] w w' := by
  refine (doquery C b id n ka kb ids bs hn hv hb hl 0 a 0 0 ⟨#[]⟩ sc (k : Int) none 0 0 none 0 0 w hbw hC (fun m _ => m = (Sk.new k).ask a) ?_).mono ?_
  · intro W hW hz
    refine (d_query C b id 0 a 0 0 ⟨#[]⟩ sc (k : Int) none 0 0 none 0 0 W (by omega) (fun _ => True) (fun _ _ _ _ => trivial) ((Sk.new k).ask a) ?_).mono ?_
    · intro W1 hW1 hz1
      have hb1 : W1.heap[b]? = _ := (hW1.block b (by omega)).trans ((hW.block b hbw).trans h0)
      refine (query0 bu hbu 0 id ttl (by unfold maxU; omega) kA kB [] (by simp) (by simp) none 0 (by simp) (fun _ => rfl) b W1 (fun g o e hn => by cases e) (fun i x hx => by simp at hx) k h1 h3 sc hS a ha none 0 (appOk_nil _ _ _ (by decide) 0) hb1).mono ?_
      rintro e w' ⟨rfl, q7⟩
      exact ⟨rfl, trivial, q7⟩
    · rintro e w' ⟨rfl, _, hf⟩
      exact ⟨_, rfl, rfl, hf⟩
  · rintro e w' ⟨m, w1, rfl, rfl, hf1, hf2⟩
    exact ⟨rfl, hf1.trans hf2 (by simp <;> omega)⟩
theorem appOk_one (ka kb : BitVec 64) : AppOk ka kb 0 (appL ka kb 0 [] (0 : Nat) ⟨#[105, 110, 103, 101, 115, 116]⟩) (0 : Nat) ⟨#[113, 117, 101, 114, 121]⟩ := by
  have h := right_app ka kb 0 [] (by simp) (0 : Nat) ⟨#[105, 110, 103, 101, 115, 116]⟩ (appOk_nil ka kb ⟨#[105, 110, 103, 101, 115, 116]⟩ (by decide) 0)
  refine ⟨h, by decide, ?_, fun x hx => ?_⟩
  · rw [lastE_app]; decide
  · have e : appL ka kb 0 [] (0 : Nat) ⟨#[105, 110, 103, 101, 115, 116]⟩ = [newEnt ka kb 0 [] (0 : Nat) ⟨#[105, 110, 103, 101, 115, 116]⟩] := rfl
    rw [e] at hx
    simp at hx
    subst hx
    exact Int.le_refl _
theorem appL_ok1 (ka kb : BitVec 64) : ∀ x ∈ appL ka kb 0 [] (0 : Nat) ⟨#[105, 110, 103, 101, 115, 116]⟩, x.Ok := appL_ok ka kb 0 [] (by simp) (0 : Nat) (by decide) (by decide) ⟨#[105, 110, 103, 101, 115, 116]⟩ (appOk_nil ka kb ⟨#[105, 110, 103, 101, 115, 116]⟩ (by decide) 0)
end Go.Proofs.YtmgdbfmlnmahpaaGreatDoor
namespace Go.Proofs.YtmgdbfmlnmahpaaGreatDoor
open Go.RowKit Go.Shelf
set_option linter.unusedSimpArgs false
set_option linter.unusedVariables false
set_option maxRecDepth 100000
theorem FrB.grown {b : Nat} {W W' : World} (h : FrB [b] W W') : W.grownBy W' (some b) := ⟨h.os, h.tape, h.output, h.size, fun k hk hne => h.block k hk (by simp; rintro rfl; exact hne rfl)⟩
theorem Col.fr {W W' : World} {C : Nat} {ka kb : BitVec 64} {ids bs : List Nat} {b : Nat} {cs : Array Value} (h : Col W C ka kb ids bs) (hf : FrB [b] W W') (hb : W.heap[b]? = some (.cells cs 83 (0, 0))) : Col W' C ka kb ids bs := by
  obtain ⟨vI, vT, h1, h2, h3⟩ := h.ex
  have hr : ∀ r, some b = some r → ∃ cur, W.heap[r]? = some (.cells cur 83 (0, 0)) := fun r e => by cases e; exact ⟨_, hb⟩
  exact ⟨vI, vT, grown_blk hf.grown hr (by decide) h1, h2.grownT (by decide) hf.grown hr, h3.grownT (by decide) hf.grown hr⟩
theorem Col.keepB {W W' : World} {C : Nat} {ka kb : BitVec 64} {ids bs : List Nat} (h : Col W C ka kb ids bs) (hb : Below W.heap.size W W') : Col W' C ka kb ids bs := by
  obtain ⟨vI, vT, h1, h2, h3⟩ := h.ex
  exact ⟨vI, vT, (hb.block C (blk_lt h1)).trans h1, OwnR.keep _ _ h2 hb, OwnR.keep _ _ h3 hb⟩
theorem Fr.foreign {w0 : World} {S S' : List Nat} {bl : List Blk} {W W' : World} (h : Fr w0 S bl W) (hc : FrB S' W W') (hS : ∀ k ∈ S', k ∈ S ∨ w0.heap.size ≤ k) (hn : ∀ x ∈ bl, x.1 ∉ S') : Fr w0 S bl W' :=
  ⟨⟨⟨hc.os.trans h.st.below.os, hc.tape.trans h.st.below.tape, hc.output.trans h.st.below.output, Nat.zero_le _, fun _ hk => absurd hk (Nat.not_lt_zero _)⟩, fun x hx => (hc.block x.1 (blk_lt (h.st.blk x hx)) (hn x hx)).trans (h.st.blk x hx), h.st.nd, trivial, fun _ _ _ _ => trivial⟩, h.fr.trans hc hS⟩
abbrev cfg2 (bu ttl : Nat) : List Cfg := [⟨1, bu, ttl⟩, ⟨2, bu, ttl⟩]
theorem cfg2_ok (bu ttl : Nat) (h : bu ≤ 1000000) : CfgOk (cfg2 bu ttl) := ⟨by simp, by simp, by intro c hc; simp at hc; rcases hc with rfl | rfl <;> (constructor <;> (show _ ≤ _; simp; try omega)), by simp⟩
theorem new2 (ka kb : BitVec 64) (bu ttl : Nat) (hbu : bu ≤ 1000000) (g cap : Nat) (w : World) (hg : w.heap[g]? = some (.cells #[.int .u64 1, .int .i64 (bu : Int), .int .u64 (ttl : Int), .int .u64 2, .int .i64 (bu : Int), .int .u64 (ttl : Int)] 59 (0, 0))) :
    Calls Tryz.prog 6 #[kv ka kb, .slice (some ⟨g, 0, none⟩) 2 cap] w fun e w' => ∃ C b1 b2 : Nat, e = .returned (.tuple #[.pointer (some ⟨C, 0, none⟩), .int .i64 0]) ∧ Col w' C ka kb [1, 2] [b1, b2] ∧ b1 ≠ b2 ∧ w.heap.size ≤ b1 ∧ w.heap.size ≤ b2 ∧ w'.heap[b1]? = some (.cells (tenC ka kb ⟨1, bu, ttl⟩) 83 (0, 0)) ∧ w'.heap[b2]? = some (.cells (tenC ka kb ⟨2, bu, ttl⟩) 83 (0, 0)) ∧ Below w.heap.size w w' := by
  have hRd : Rd 3 encC w (some ⟨g, 0, none⟩) (cfg2 bu ttl) := Rd.ofBlock encC_len hg rfl
  refine (colNew_any ka kb (cfg2 bu ttl) (by intro c hc; simp at hc; rcases hc with rfl | rfl <;> (first | (show (1 : Nat) ≤ maxU; decide) | (show (2 : Nat) ≤ maxU; decide))) (by simp) _ cap w hRd).mono ?_
  rintro e w' (⟨_, hno, _⟩ | ⟨C, bs, rfl, _, hC, hCol, hT, hB⟩)
  · exact absurd (cfg2_ok bu ttl hbu) hno
  · have hl := hT.len
    match bs, hl, hT, hCol with
    | [b1, b2], _, hT, hCol =>
      have hnd := hT.nd
      simp at hnd
      exact ⟨C, b1, b2, rfl, hCol, hnd, (hT.new b1 (by simp)).1, (hT.new b2 (by simp)).1, hT.at' 0 b1 _ rfl rfl, hT.at' 1 b2 _ rfl rfl, hB⟩
set_option maxHeartbeats 2000000 in
theorem shown_any (w : World) : Calls Tryz.prog 5 #[] w fun e w' => e = .returned (.bool true) ∧ Below w.heap.size w w' := by
  go_enter Tryz.func5, Tryz.ntmps5
  go_wp2_with fail
  refine (two_any 1000 9 _).mono ?_
  rintro e w1 ⟨rfl, hw1⟩
  have hb1 := (Below.refl w.heap.size w).alloc (Nat.le_refl _) (.cells #[.int .u64 1, .int .i64 ((1000 : Nat) : Int), .int .u64 ((9 : Nat) : Int), .int .u64 2, .int .i64 ((1000 : Nat) : Int), .int .u64 ((9 : Nat) : Int)] 59)
  have hg1 := World.alloc_heap_new w (.cells #[.int .u64 1, .int .i64 ((1000 : Nat) : Int), .int .u64 ((9 : Nat) : Int), .int .u64 2, .int .i64 ((1000 : Nat) : Int), .int .u64 ((9 : Nat) : Int)] 59)
  rw [← hw1] at hb1 hg1
  have HN := Lib.hid (new2 3 4 1000 9 (by omega) w.heap.size 2 w1 hg1)
  clear hw1 hg1
  go_wp2_with fail
  refine HN.out.mono ?_
  clear HN
  rintro e w2 ⟨C, b1, b2, rfl, hC, hne, hB1, hB2, h1, h2, hb2⟩
  have f2 := (Fr.start w []).to (hb1.trans (hb2.mono hb1.size))
  have hw1 := hb1.size
  have HS2 := Lib.hid (And.intro hC (And.intro h1 h2))
  have hl1 := blk_lt h1
  have hl2 := blk_lt h2
  clear hC h1 h2 hb1 hb2
  go_wp2_with fail
  refine (admin_any 1 _).mono ?_
  rintro e w3 ⟨rfl, hb3⟩
  have f3 := f2.to hb3
  have HS3 := Lib.hid (And.intro (HS2.out.1.keepB hb3) (And.intro ((hb3.block b1 hl1).trans HS2.out.2.1) ((hb3.block b2 hl2).trans HS2.out.2.2)))
  have hz3 := hb3.size
  clear hb3 HS2 f2
  have al3 := (Below.refl w3.heap.size w3).alloc (Nat.le_refl _) (.cells #[.int .u64 5, .int .u64 0, .int .u64 6, .int .u64 0, .int .u64 5, .int .u64 0] 45)
  have f3' := f3.to al3
  have hRd : Rd 2 encIt (w3.alloc (.cells #[.int .u64 5, .int .u64 0, .int .u64 6, .int .u64 0, .int .u64 5, .int .u64 0] 45)) (some ⟨w3.heap.size, 0, none⟩) [(5, 0), (6, 0), (5, 0)] := Rd.ofBlock encIt_len (World.alloc_heap_new _ _) rfl
  have HD1 := Lib.hid (doI C b1 1 0 3 4 [1, 2] [b1, b2] rfl (by omega) rfl (by simp) (tenK 3 4 1).1 (tenK 3 4 1).2 1000 9 (by omega) 1 (by omega) (by omega) [(5, 0), (6, 0), (5, 0)] (by intro x hx; simp at hx; rcases hx with rfl | rfl | rfl <;> (constructor <;> (unfold maxU; simp))) (by simp) (by decide) (some ⟨w3.heap.size, 0, none⟩) 3 _ (by have := al3.size; omega) (HS3.out.1.keepB al3) ((al3.block b1 (by omega)).trans HS3.out.2.1) hRd (fun g o e _ => by cases e; omega))
  have HS3' := Lib.hid (And.intro (HS3.out.1.keepB al3) (And.intro ((al3.block b1 (by omega)).trans HS3.out.2.1) ((al3.block b2 (by omega)).trans HS3.out.2.2)))
  have hz3' := al3.size
  clear f3 hRd HS3 al3
  go_wp2_with fail
  refine HD1.out.mono ?_
  clear HD1
  rintro e w4 ⟨m, rfl, hT4, hf4⟩
  generalize w3.alloc (.cells #[.int .u64 5, .int .u64 0, .int .u64 6, .int .u64 0, .int .u64 5, .int .u64 0] 45) = wi at *
  have hz4 := hf4.size
  have hC4 := HS3'.out.1.fr hf4 HS3'.out.2.1
  have h24 := (hf4.block b2 (by omega) (by simp; exact hne.symm)).trans HS3'.out.2.2
  have f4 := (f3'.foreign hf4 (by intro k hk; simp at hk; subst hk; exact .inr (by omega)) (by simp)).alloc (cs := #[.int .i64 0, .int .u64 (m : Int), .slice none 0 0, .slice none 0 0]) (T := 36)
  have al4 := (Below.refl w4.heap.size w4).alloc (Nat.le_refl _) (.cells #[.int .i64 0, .int .u64 (m : Int), .slice none 0 0, .slice none 0 0] 36)
  have HS4 := Lib.hid (And.intro (hC4.keepB al4) (And.intro (hT4.keepB al4) ((al4.block b2 (by omega)).trans h24)))
  have hza := al4.size
  clear hC4 hT4 h24 hf4 f3' HS3' al4
  go_wp2_with fail
  refine (admin_any 1 _).mono ?_
  rintro e w5 ⟨rfl, hb5⟩
  have f5 := f4.to hb5
  have hz5 := hb5.size
  have HS5 := Lib.hid (And.intro (HS4.out.1.keepB hb5) (And.intro (HS4.out.2.1.keepB hb5) ((hb5.block b2 (by omega)).trans HS4.out.2.2)))
  clear hb5 HS4 f4
  have hask : (allK 1 [(5, 0), (6, 0), (5, 0)]).ask 0 = 2 := by rw [allK1]; decide
  have HD2 := Lib.hid (doQ1 C b1 1 0 3 4 [1, 2] [b1, b2] rfl (by omega) rfl (by simp) (tenK 3 4 1).1 (tenK 3 4 1).2 1000 9 (by omega) 1 (by omega) (by omega) ⟨#[97, 61, 120]⟩ scOk_ax 0 (by decide) (allK 1 [(5, 0), (6, 0), (5, 0)]) rfl (by decide) 0 _ (appL_ok1 _ _) (show 1 < 30 by decide) (appOk_one _ _) (wi.heap.size + 3) (by omega) w5 (by omega) HS5.out.1 HS5.out.2.1)
  rw [hask] at HD2
  clear hask
  go_wp2_with fail
  refine HD2.out.mono ?_
  clear HD2
  rintro e w6 ⟨rfl, hf6⟩
  have hz6 := hf6.size
  obtain ⟨t5, l5, hh5, lg5, lc5, -, -, -, -, -, -, hcell5⟩ := HS5.out.2.1
  have hC6 := HS5.out.1.fr hf6 hcell5
  have h26 := (hf6.block b2 (by omega) (by simp; exact hne.symm)).trans HS5.out.2.2
  have f6 := (f5.foreign hf6 (by intro k hk; simp at hk; subst hk; exact .inr (by omega)) (by simp; omega)).alloc (cs := #[.int .i64 0, .int .u64 2, .slice none 0 0, .slice none 0 0]) (T := 36)
  have al6 := (Below.refl w6.heap.size w6).alloc (Nat.le_refl _) (.cells #[.int .i64 0, .int .u64 2, .slice none 0 0, .slice none 0 0] 36)
  have HS6 := Lib.hid (And.intro (hC6.keepB al6) ((al6.block b2 (by omega)).trans h26))
  have hzb := al6.size
  clear hC6 h26 hf6 f5 HS5 al6 hcell5
  go_wp2_with fail
  refine (admin_any 2 _).mono ?_
  rintro e w7 ⟨rfl, hb7⟩
  have f7 := f6.to hb7
  have hz7 := hb7.size
  have HD3 := Lib.hid (doQ0 C b2 2 1 3 4 [1, 2] [b1, b2] rfl (fun j hj => by have e : j = 0 := Nat.lt_one_iff.1 hj; subst e; decide) rfl (by simp) (tenK 3 4 2).1 (tenK 3 4 2).2 1000 9 (by omega) 1 (by omega) (by omega) ⟨#[97, 61, 120]⟩ scOk_ax 0 (by decide) w7 (by omega) (HS6.out.1.keepB hb7) ((hb7.block b2 (by omega)).trans HS6.out.2))
  rw [show (Sk.new 1).ask 0 = 0 from rfl] at HD3
  clear hb7 HS6 f6
  go_wp2_with fail
  refine HD3.out.mono ?_
  clear HD3
  rintro e w8 ⟨rfl, hf8⟩
  have f8 := (f7.foreign hf8 (by intro k hk; simp at hk; subst hk; exact .inr (by omega)) (by simp; omega)).alloc (cs := #[.int .i64 0, .int .u64 0, .slice none 0 0, .slice none 0 0]) (T := 36)
  have rl := f8.rules
  simp only [Rules] at rl
  have HF8 := Lib.hid f8.fr.below
  clear hf8 f7 f8
  go_wp2_with fail
  go_ret
  exact ⟨rfl, HF8.out⟩
end Go.Proofs.YtmgdbfmlnmahpaaGreatDoor
namespace Go.Proofs.YtmgdbfmlnmahpaaGreatDoor
open Go.RowKit Go.Shelf
set_option linter.unusedSimpArgs false
set_option linter.unusedVariables false
set_option maxRecDepth 100000
def IsCf (B : Nat) : Value → World → Prop := fun v W => ∃ A, v = .slice (some ⟨A, 0, none⟩) 2 2 ∧ B ≤ A ∧ W.heap[A]? = some (.cells #[.int .u64 1, .int .i64 ((1000000 : Nat) : Int), .int .u64 ((5 : Nat) : Int), .int .u64 2, .int .i64 ((1000000 : Nat) : Int), .int .u64 ((5 : Nat) : Int)] 59 (0, 0))
theorem stableCf (B : Nat) : Stable (IsCf B) := fun _ _ _ ⟨A, h1, h2, h3⟩ hb => ⟨A, h1, h2, (hb.block A (blk_lt h3)).trans h3⟩
def Two (B C : Nat) (ka kb : BitVec 64) (W : World) : Prop := ∃ b1 b2 : Nat, Col W C ka kb [1, 2] [b1, b2] ∧ b1 ≠ b2 ∧ B ≤ b1 ∧ B ≤ b2 ∧ W.heap[b1]? = some (.cells (tenC ka kb ⟨1, (1000000 : Nat), 5⟩) 83 (0, 0)) ∧ W.heap[b2]? = some (.cells (tenC ka kb ⟨2, (1000000 : Nat), 5⟩) 83 (0, 0))
theorem Two.keepB {B C : Nat} {ka kb : BitVec 64} {W W' : World} (h : Two B C ka kb W) (hb : Below W.heap.size W W') : Two B C ka kb W' := by
  obtain ⟨b1, b2, h1, h2, h3, h4, h5, h6⟩ := h
  exact ⟨b1, b2, h1.keepB hb, h2, h3, h4, (hb.block b1 (blk_lt h5)).trans h5, (hb.block b2 (blk_lt h6)).trans h6⟩
def IsCo2 (B : Nat) (ka kb : BitVec 64) : Value → World → Prop := fun v W => ∃ C, v = .tuple #[.pointer (some ⟨C, 0, none⟩), .int .i64 0] ∧ Two B C ka kb W
theorem stableCo2 (B : Nat) (ka kb : BitVec 64) : Stable (IsCo2 B ka kb) := fun _ _ _ ⟨C, h1, h2⟩ hb => ⟨C, h1, h2.keepB hb⟩
def IsCo1 (B : Nat) (ka kb : BitVec 64) : Value → World → Prop := fun v W => ∃ C, v = .pointer (some ⟨C, 0, none⟩) ∧ Two B C ka kb W
theorem stableCo1 (B : Nat) (ka kb : BitVec 64) : Stable (IsCo1 B ka kb) := fun _ _ _ ⟨C, h1, h2⟩ hb => ⟨C, h1, h2.keepB hb⟩
def leastK (k h : Nat) (its : List (Nat × Nat)) : Nat := its.foldl (fun a x => if (k = 2 ∧ x.1 = h) ∨ (k = 3 ∧ x.1 ≤ h) then sat a x.2 else a) 0
theorem leastK_snoc (k h : Nat) (its : List (Nat × Nat)) (x : Nat × Nat) : leastK k h (its ++ [x]) = if (k = 2 ∧ x.1 = h) ∨ (k = 3 ∧ x.1 ≤ h) then sat (leastK k h its) x.2 else leastK k h its := by simp [leastK]
theorem leastK_max (k h : Nat) (its : List (Nat × Nat)) : leastK k h its ≤ maxU := by
  have : ∀ (l : List (Nat × Nat)) (a : Nat), a ≤ maxU → l.foldl (fun a x => if (k = 2 ∧ x.1 = h) ∨ (k = 3 ∧ x.1 ≤ h) then sat a x.2 else a) a ≤ maxU := by
    intro l
    induction l with
    | nil => intro a ha; exact ha
    | cons x l ih =>
      intro a ha
      rw [List.foldl_cons]
      apply ih
      split
      · exact sat_le _ _
      · exact ha
  exact this its 0 (Nat.zero_le _)
theorem leastK2 (h : Nat) (its : List (Nat × Nat)) : leastK 2 h its = leastC h its := by simp [leastK, leastC]
theorem leastK3 (h : Nat) (its : List (Nat × Nat)) : leastK 3 h its = leastH h its := by simp [leastK, leastH]
theorem diffN_le50 (l : List Nat) : diffN l ≤ l.length := by
  have : ∀ (l : List Nat) (r : List Nat), diffN (r ++ l) ≤ diffN r + l.length := by
    intro l
    induction l with
    | nil => intro r; simp
    | cons x l ih =>
      intro r
      have h1 := ih (r ++ [x])
      rw [diffN_snoc] at h1
      simp only [List.append_assoc, List.singleton_append, List.length_cons] at h1 ⊢
      split at h1 <;> omega
  have h := this l []
  simpa [diffN, insAll] using h
theorem u64_idC (n : Int) (h0 : 0 ≤ n) (h1 : n < 18446744073709551616) : IntKind.u64.wrap n = n := by
  obtain ⟨x, rfl⟩ := un_of n h0 h1
  exact wrap_un_id x
theorem sat_wrap (a b : Nat) (ha : a ≤ maxU) (hb : b ≤ maxU) : IntKind.u64.wrap ((a : Int) + min (b : Int) (IntKind.u64.wrap (18446744073709551615 - (a : Int)))) = ((sat a b : Nat) : Int) := by
  unfold maxU at ha hb
  have h1 : IntKind.u64.wrap (18446744073709551615 - (a : Int)) = 18446744073709551615 - (a : Int) := u64_idC _ (by omega) (by omega)
  rw [h1]
  unfold sat maxU
  have h2 : IntKind.u64.wrap ((a : Int) + min (b : Int) (18446744073709551615 - (a : Int))) = (a : Int) + min (b : Int) (18446744073709551615 - (a : Int)) := u64_idC _ (by omega) (by omega)
  rw [h2]
  omega
set_option maxHeartbeats 2000000 in
theorem topCounts_any (ka kb : BitVec 64) (s : Option Addr) (L : List (Nat × Nat)) (cap : Nat) (hs : SmallI L) (hl : L.length ≤ cap) (hc : cap ≤ 9223372036854775807) (hn : s = none → cap = 0) (kd : Int) (hk0 : -9223372036854775808 ≤ kd) (hk1 : kd ≤ 9223372036854775807) (h : Nat) (hh : h ≤ maxU) (w : World) (hE : Rd 2 encIt w s L) :
    Calls Tryz.prog 3 #[kv ka kb, .slice s L.length cap, .int .i64 kd, .int .u64 (h : Int)] w fun e w' => e = .returned (.bool true) ∧ Below w.heap.size w w' := by
  have HE := Lib.hid hE
  have HS := Lib.hid hs
  have st0 := (St.start w).alloc (cs := #[.int .u64 (un ka), .int .u64 (un kb)]) (T := 24)
  clear hE hs
  go_enter Tryz.func3, Tryz.ntmps3
  go_wp2_with fail
  refine (shown_any _).mono ?_
  rintro e w1 ⟨rfl, hb1⟩
  have st1 := st0.to hb1
  have rl := st1.rules
  simp only [Rules] at rl
  have hw1 := st1.below.size
  clear st0 hb1
  by_cases hkl : kd < 1
  · go_wp2_with fail
    go_ret
    exact ⟨rfl, st1.below⟩
  by_cases hkg : 3 < kd
  · go_wp2_with fail
    go_ret
    exact ⟨rfl, st1.below⟩
  obtain ⟨k, rfl⟩ := Int.eq_ofNat_of_zero_le (show 0 ≤ kd by omega)
  have h1 : 1 ≤ k := by omega
  have h3 : k ≤ 3 := by omega
  have hd1 : decide ((k : Int) < 1) = false := by simp; omega
  have hd3 : decide (3 < (k : Int)) = false := by simp; omega
  clear hkl hkg hk0 hk1
  obtain ⟨its, hits⟩ : ∃ its, L.take 50 = its := ⟨_, rfl⟩
  have hmin : (min (L.length : Int) 50).toNat = its.length := by rw [← hits, List.length_take]; omega
  have hil : its.length ≤ 50 := by rw [← hits, List.length_take]; omega
  have HRI := Lib.hid (show Rd 2 encIt w s its by rw [← hits]; exact HE.out.take 50)
  have HSI := Lib.hid (show SmallI its by rw [← hits]; exact fun x hx => HS.out x (List.mem_of_mem_take hx))
  clear hits HE HS
  go_wp2_with fail
  have HW1 := Lib.hid hw1
  clear hmin hd1 hd3 hw1
  refine region_all 8 (Fs [IsVal (.agg #[.int .u64 (un ka), .int .u64 (un kb)]), IsCf w1.heap.size, IsCo2 w1.heap.size ka kb, IsCo2 w1.heap.size ka kb, IsCo1 w1.heap.size ka kb, IsVal (.int .i64 0), IsCo1 w1.heap.size ka kb, IsVal (.int .i64 0)]) (by kernel_rfl) (by kernel_rfl) (by kernel_rfl) (Fs_stable _ ?stab) ?spec ?endd
  case stab =>
    simp only [List.forall_mem_cons]
    exact ⟨stableVal _, stableCf _, stableCo2 _ _ _, stableCo2 _ _ _, stableCo1 _ _ _, stableVal _, stableCo1 _ _ _, stableVal _, by simp⟩
  case spec =>
    refine ⟨?_, ?_, ?_, ?_, ?_, ?_, ?_, ?_, trivial⟩
    · intro a W hW hu hd
      have kc : ∀ c, a.eval (Operand.const c) = c := fun _ => rfl
      have kf : ∀ f, a.eval (Operand.func f) = .func (.func f) #[] #[] := fun _ => rfl
      have sW := st1.to hW
      have rl := sW.rules
      simp only [Rules, World.size_alloc] at rl
      have u4 : a.eval (Operand.tmp 4) = .pointer (some ⟨w.heap.size, 0, none⟩) := hu 4 (by decide)
      unfold StepOk
      rw [if_pos (by rfl)]
      clear hu hd
      generalize a.eval = ρ at *
      go_simp
      exact opOk_val rfl
    · intro a W hW hu hd
      have kc : ∀ c, a.eval (Operand.const c) = c := fun _ => rfl
      have kf : ∀ f, a.eval (Operand.func f) = .func (.func f) #[] #[] := fun _ => rfl
      have sW := st1.to hW
      have rl := sW.rules
      simp only [Rules, World.size_alloc] at rl
      unfold StepOk
      rw [if_pos (by rfl)]
      clear hu hd
      generalize a.eval = ρ at *
      go_simp
      refine ⟨Below.refl _ _, (two_any 1000000 5 W).mono ?_⟩
      rintro e w' ⟨rfl, rfl⟩
      exact ⟨_, rfl, (Below.refl _ _).alloc (Nat.le_refl _) _, W.heap.size, rfl, hW.size, World.alloc_heap_new _ _⟩
    · intro a W hW hu hd
      have kc : ∀ c, a.eval (Operand.const c) = c := fun _ => rfl
      have kf : ∀ f, a.eval (Operand.func f) = .func (.func f) #[] #[] := fun _ => rfl
      have sW := st1.to hW
      have rl := sW.rules
      simp only [Rules, World.size_alloc] at rl
      have u33 : a.eval (Operand.tmp 33) = .agg #[.int .u64 (un ka), .int .u64 (un kb)] := hd 0 33 (by kernel_rfl) rfl
      have f34 : IsCf w1.heap.size (a.eval (Operand.tmp 34)) W := hd 1 34 (by kernel_rfl) rfl
      obtain ⟨A, u34, hA, hN⟩ := f34
      unfold StepOk
      rw [if_pos (by rfl)]
      clear hu hd
      generalize a.eval = ρ at *
      go_simp
      refine ⟨Below.refl _ _, (new2 ka kb 1000000 5 (by omega) A 2 W hN).mono ?_⟩
      rintro e w' ⟨C, b1, b2, rfl, q1, q2, q3, q4, q5, q6, hb'⟩
      exact ⟨_, rfl, hb', C, rfl, b1, b2, q1, q2, Nat.le_trans hW.size q3, Nat.le_trans hW.size q4, q5, q6⟩
    · intro a W hW hu hd
      have kc : ∀ c, a.eval (Operand.const c) = c := fun _ => rfl
      have kf : ∀ f, a.eval (Operand.func f) = .func (.func f) #[] #[] := fun _ => rfl
      have sW := st1.to hW
      have rl := sW.rules
      simp only [Rules, World.size_alloc] at rl
      have f35 : IsCo2 w1.heap.size ka kb (a.eval (Operand.tmp 35)) W := hd 2 35 (by kernel_rfl) rfl
      obtain ⟨C, u35, h9⟩ := f35
      unfold StepOk
      rw [if_pos (by rfl)]
      clear hu hd
      generalize a.eval = ρ at *
      go_simp
      exact opOk_val ⟨C, rfl, h9⟩
    · intro a W hW hu hd
      have kc : ∀ c, a.eval (Operand.const c) = c := fun _ => rfl
      have kf : ∀ f, a.eval (Operand.func f) = .func (.func f) #[] #[] := fun _ => rfl
      have sW := st1.to hW
      have rl := sW.rules
      simp only [Rules, World.size_alloc] at rl
      have f32 : IsCo2 w1.heap.size ka kb (a.eval (Operand.tmp 32)) W := hd 3 32 (by kernel_rfl) rfl
      obtain ⟨C, u32, h9⟩ := f32
      unfold StepOk
      rw [if_pos (by rfl)]
      clear hu hd
      generalize a.eval = ρ at *
      go_simp
      exact opOk_val ⟨C, rfl, h9⟩
    · intro a W hW hu hd
      have kc : ∀ c, a.eval (Operand.const c) = c := fun _ => rfl
      have kf : ∀ f, a.eval (Operand.func f) = .func (.func f) #[] #[] := fun _ => rfl
      have sW := st1.to hW
      have rl := sW.rules
      simp only [Rules, World.size_alloc] at rl
      have f32 : IsCo2 w1.heap.size ka kb (a.eval (Operand.tmp 32)) W := hd 3 32 (by kernel_rfl) rfl
      obtain ⟨C, u32, h9⟩ := f32
      unfold StepOk
      rw [if_pos (by rfl)]
      clear hu hd
      generalize a.eval = ρ at *
      go_simp
      exact opOk_val rfl
    · intro a W hW hu hd
      have kc : ∀ c, a.eval (Operand.const c) = c := fun _ => rfl
      have kf : ∀ f, a.eval (Operand.func f) = .func (.func f) #[] #[] := fun _ => rfl
      have sW := st1.to hW
      have rl := sW.rules
      simp only [Rules, World.size_alloc] at rl
      have f36 : IsCo1 w1.heap.size ka kb (a.eval (Operand.tmp 36)) W := hd 4 36 (by kernel_rfl) rfl
      obtain ⟨C, u36, h9⟩ := f36
      unfold StepOk
      rw [if_pos (by rfl)]
      clear hu hd
      generalize a.eval = ρ at *
      go_simp
      exact opOk_val ⟨C, rfl, h9⟩
    · intro a W hW hu hd
      have kc : ∀ c, a.eval (Operand.const c) = c := fun _ => rfl
      have kf : ∀ f, a.eval (Operand.func f) = .func (.func f) #[] #[] := fun _ => rfl
      have sW := st1.to hW
      have rl := sW.rules
      simp only [Rules, World.size_alloc] at rl
      have u37 : a.eval (Operand.tmp 37) = .int .i64 0 := hd 5 37 (by kernel_rfl) rfl
      unfold StepOk
      rw [if_pos (by rfl)]
      clear hu hd
      generalize a.eval = ρ at *
      go_simp
      exact opOk_val rfl
  case endd =>
    intro v W hW hv
    have v0 : v 0 = (.agg #[.int .u64 (un ka), .int .u64 (un kb)]) := hv 0 (by omega)
    have hf1 : IsCf w1.heap.size (v 1) W := hv 1 (by omega)
    have hf2 : IsCo2 w1.heap.size ka kb (v 2) W := hv 2 (by omega)
    have hf3 : IsCo2 w1.heap.size ka kb (v 3) W := hv 3 (by omega)
    have hf4 : IsCo1 w1.heap.size ka kb (v 4) W := hv 4 (by omega)
    have v5 : v 5 = (.int .i64 0) := hv 5 (by omega)
    have hf6 : IsCo1 w1.heap.size ka kb (v 6) W := hv 6 (by omega)
    have v7 : v 7 = (.int .i64 0) := hv 7 (by omega)
    clear hv
    simp only [List.take_succ_cons, List.take_zero, List.drop_succ_cons, List.drop_zero, putAll, Nat.zero_add, Nat.reduceAdd]
    rw [v0, v5, v7]
    clear v0 v5 v7
    have sW := st1.to hW
    obtain ⟨C, v6, hTwo⟩ := hf6
    rw [v6]
    generalize v 1 = q1 at *
    generalize v 2 = q2 at *
    generalize v 3 = q3 at *
    generalize v 4 = q4 at *
    have hBW := sW.below
    have hzW := hW.size
    obtain ⟨b1, b2, hC, hne, hB1, hB2, hc1, hc2⟩ := hTwo
    have f2 := (Fr.start w []).to hBW
    have HS2 := Lib.hid (And.intro hC hc1)
    have hl1 := blk_lt hc1
    clear hf1 hf2 hf3 hf4 v6 hC hc1 hc2 hB2 hne hBW hW sW rl st1
    generalize W = w2 at *
    go_wp2_with fail
    refine (admin_any 1 _).mono ?_
    rintro e w3 ⟨rfl, hb3⟩
    have f3 := f2.to hb3
    have hz3 := hb3.size
    have hw1 := HW1.out
    have hkd := (Sk.add_kind' k its).trans (Sk.new_kind k h1 h3)
    have hok := allK_ok k its HSI.out hil its.length (Nat.le_refl _)
    rw [List.take_length] at hok
    have hcost := Sk.cost_le _ hok.1
    have HD1 := Lib.hid (doI C b1 1 0 ka kb [1, 2] [b1, b2] rfl (by omega) rfl (by simp) (tenK ka kb 1).1 (tenK ka kb 1).2 1000000 5 (by omega) k h1 h3 its HSI.out hil (by omega) s cap w3 (by omega) (HS2.out.1.keepB hb3) ((hb3.block b1 hl1).trans HS2.out.2) (HRI.out.keepB (Nat.le_refl _) f3.fr.below) (fun g o e hne' => by have := HRI.out.lt e hne'; omega))
    have HS3 := Lib.hid (And.intro (HS2.out.1.keepB hb3) (And.intro ((hb3.block b1 hl1).trans HS2.out.2) (And.intro hkd hok)))
    clear hb3 HS2 f2 hkd hok hcost
    go_wp2_with fail
    refine HD1.out.mono ?_
    clear HD1
    rintro e w4 ⟨m, rfl, hT4, hf4⟩
    have hz4 := hf4.size
    have hC4 := HS3.out.1.fr hf4 HS3.out.2.1
    have f4 := (f3.foreign hf4 (by intro k hk; simp at hk; subst hk; exact .inr (by omega)) (by simp)).alloc (cs := #[.int .i64 0, .int .u64 (m : Int), .slice none 0 0, .slice none 0 0]) (T := 36)
    have al4 := (Below.refl w4.heap.size w4).alloc (Nat.le_refl _) (.cells #[.int .i64 0, .int .u64 (m : Int), .slice none 0 0, .slice none 0 0] 36)
    have HS4 := Lib.hid (And.intro (hC4.keepB al4) (And.intro (hT4.keepB al4) HS3.out.2.2))
    have hza := al4.size
    clear hC4 hT4 hf4 f3 HS3 al4
    go_wp2_with fail
    refine (admin_any 1 _).mono ?_
    rintro e w5 ⟨rfl, hb5⟩
    have f5 := f4.to hb5
    have hz5 := hb5.size
    have HD2 := Lib.hid (doQ1 C b1 1 0 ka kb [1, 2] [b1, b2] rfl (by omega) rfl (by simp) (tenK ka kb 1).1 (tenK ka kb 1).2 1000000 5 (by omega) k h1 h3 ⟨#[]⟩ scOk_e h hh (allK k its) HS4.out.2.2.1 (by have := HS4.out.2.2.2.2; omega) 0 _ (appL_ok1 _ _) (show 1 < 30 by decide) (appOk_one _ _) (w3.heap.size + 3) (by omega) w5 (by omega) (HS4.out.1.keepB hb5) (HS4.out.2.1.keepB hb5))
    clear hb5 HS4 f4
    go_wp2_with fail
    refine HD2.out.mono ?_
    clear HD2
    rintro e w6 ⟨rfl, hf6⟩
    have hz6 := hf6.size
    obtain ⟨r, hr⟩ : ∃ r, (allK k its).ask h = r := ⟨_, rfl⟩
    rw [hr]
    have HR := Lib.hid hr
    have f6 := (f5.foreign hf6 (by intro k hk; simp at hk; subst hk; exact .inr (by omega)) (by simp; omega)).alloc (cs := #[.int .i64 0, .int .u64 (r : Int), .slice none 0 0, .slice none 0 0]) (T := 36)
    have HRW := Lib.hid (HRI.out.keepB (Nat.le_refl _) f6.fr.below)
    clear hr hf6 f5
    go_wp2_with fail
    have HF := Lib.hid f6
    have hzb := blk_lt (f6.blk 0 rfl)
    have hza4 := blk_lt (f6.blk 1 rfl)
    clear f6
    generalize (w6.alloc (.cells #[.int .i64 0, .int .u64 (r : Int), .slice none 0 0, .slice none 0 0] 36)) = W0 at *
    generalize w6.heap.size = rb at *
    generalize w4.heap.size = ra at *
    clear hz6 hz5 hza hz4 hz3 hzW
    have HRX := Lib.hid HRW.out
    clear HRI HRW
    go_loopw [14, 15, 16] (fun le di i wr => ∃ n : Nat, n ≤ its.length ∧ le = .int .u64 ((leastK k h (its.take n) : Nat) : Int) ∧ di = .int .u64 ((diffN ((its.take n).map Prod.fst) : Nat) : Int) ∧ i = .int .i64 (n : Int) ∧ Below W0.heap.size W0 wr) (fun _ _ i _ => its.length - (intOf i).toNat)
    case atStart => exact ⟨0, Nat.zero_le _, by rw [List.take_zero]; rfl, by rw [List.take_zero]; rfl, rfl, Below.refl _ _⟩
    case round =>
      obtain ⟨n, hn, rfl, rfl, rfl, HB⟩ := hrel
      have HBH := Lib.hid HB
      clear HB
      by_cases hlt : n < its.length
      · obtain ⟨x, hx⟩ : ∃ x, its[n]? = some x := ⟨_, List.getElem?_eq_getElem hlt⟩
        obtain ⟨g, o, rfl, hg, hc1, hc2⟩ := item_at HRX.out hx
        have hsi := HSI.out x (List.mem_of_getElem? hx)
        have HX := Lib.hid (And.intro hc1 (And.intro hc2 hx))
        have hT1 : leastK k h (its.take (n + 1)) = if (k = 2 ∧ x.1 = h) ∨ (k = 3 ∧ x.1 ≤ h) then sat (leastK k h (its.take n)) x.2 else leastK k h (its.take n) := by rw [List.take_add_one, hx]; exact leastK_snoc k h _ x
        have hT2 : diffN ((its.take (n + 1)).map Prod.fst) = if x.1 ∈ (its.take n).map Prod.fst then diffN ((its.take n).map Prod.fst) else diffN ((its.take n).map Prod.fst) + 1 := by rw [List.take_add_one, hx]; simp only [Option.toList_some, List.map_append, List.map_cons, List.map_nil]; rw [diffN_snoc]; split <;> rfl
        have hlm := leastK_max k h (its.take n)
        have hdm : diffN ((its.take n).map Prod.fst) ≤ 50 := by have := diffN_le50 ((its.take n).map Prod.fst); rw [List.length_map, List.length_take] at this; omega
        have HT := Lib.hid (And.intro hT1 hT2)
        clear hc1 hc2 hT1 hT2 hx
        go_wp2_with fail
        go_loopw [17, 18] (fun is j wr => ∃ q : Nat, q ≤ n ∧ is = .bool (decide (x.1 ∈ (its.take q).map Prod.fst)) ∧ j = .int .i64 (q : Int) ∧ Below W0.heap.size W0 wr) (fun _ j _ => n - (intOf j).toNat)
        case atStart => exact ⟨0, Nat.zero_le _, by simp, rfl, HBH.out⟩
        case round =>
          clear HBH
          obtain ⟨q, hq, rfl, rfl, HB⟩ := hrel
          by_cases hqn : q < n
          · obtain ⟨y, hy⟩ : ∃ y, its[q]? = some y := ⟨_, List.getElem?_eq_getElem (by omega)⟩
            obtain ⟨g2, o2, e2, hg2, d1, d2⟩ := item_at HRX.out hy
            cases e2
            have HM := Lib.hid (show decide (x.1 ∈ (its.take (q + 1)).map Prod.fst) = (decide (x.1 ∈ (its.take q).map Prod.fst) || decide ((y.1 : Int) = (x.1 : Int))) by rw [List.take_add_one, hy]; simp only [Option.toList_some, List.map_append, List.map_cons, List.map_nil, List.mem_append, List.mem_singleton]; rw [Bool.decide_or]; congr 1; exact decide_eq_decide.2 ⟨fun h => by omega, fun h => by omega⟩)
            have st := (St.start W0).to HB
            clear HB hy d2
            by_cases hin : x.1 ∈ (its.take q).map Prod.fst
            · rw [decide_eq_true hin] at HM ⊢
              clear hin
              go_wp2_with fail
              obtain ⟨bl4, E4, hne4, sh4, _, _, hbx, hst⟩ := st.hide
              refine region_st sh4 (by kernel_rfl) (by kernel_rfl) ?_
              have f0 : ∀ z : Cs W0 bl4 E4, z.W.cell? ⟨g, o + n * 2, none⟩ = some (.int .u64 (x.1 : Int)) := fun z => ((hbx z).out.cell (p := ⟨g, _, none⟩) hg).trans HX.out.1
              have f1 : ∀ z : Cs W0 bl4 E4, z.W.cell? ⟨g, o + q * 2, none⟩ = some (.int .u64 (y.1 : Int)) := fun z => ((hbx z).out.cell (p := ⟨g, _, none⟩) hg).trans d1
              clear d1
              repeat (first | go_big_quiet_step (fail) | quiet_step (fail))
              refine wpQuiet_nil ?_
              intro z
              have hz := (hbx z).out
              clear f0 f1 hbx hst sh4 st
              generalize z.W = w9 at *
              go_wp2_with fail
              go_roundw
              case rel => exact ⟨q + 1, hqn, by rw [HM.out]; exact congrArg Value.bool (Bool.eq_iff_iff.2 (by simp)), by go_num, hz⟩
              case measure => simp [intOf]; omega
            · rw [decide_eq_false hin] at HM ⊢
              clear hin
              go_wp2_with fail
              obtain ⟨bl4, E4, hne4, sh4, _, _, hbx, hst⟩ := st.hide
              refine region_st sh4 (by kernel_rfl) (by kernel_rfl) ?_
              have f0 : ∀ z : Cs W0 bl4 E4, z.W.cell? ⟨g, o + n * 2, none⟩ = some (.int .u64 (x.1 : Int)) := fun z => ((hbx z).out.cell (p := ⟨g, _, none⟩) hg).trans HX.out.1
              have f1 : ∀ z : Cs W0 bl4 E4, z.W.cell? ⟨g, o + q * 2, none⟩ = some (.int .u64 (y.1 : Int)) := fun z => ((hbx z).out.cell (p := ⟨g, _, none⟩) hg).trans d1
              clear d1
              repeat (first | go_big_quiet_step (fail) | quiet_step (fail))
              refine wpQuiet_nil ?_
              intro z
              have hz := (hbx z).out
              clear f0 f1 hbx hst sh4 st
              generalize z.W = w9 at *
              go_wp2_with fail
              go_roundw
              case rel => exact ⟨q + 1, hqn, by rw [HM.out]; exact congrArg Value.bool (Bool.eq_iff_iff.2 (by simp)), by go_num, hz⟩
              case measure => simp [intOf]; omega
          · obtain rfl : q = n := by omega
            have HBH := Lib.hid HB
            clear HB
            have e1 : wr.cell? ⟨g, o + q * 2, none⟩ = some (.int .u64 (x.1 : Int)) := (HBH.out.cell (p := ⟨g, _, none⟩) hg).trans HX.out.1
            have e2 : wr.cell? ⟨g, o + q * 2 + 1, none⟩ = some (.int .u64 (x.2 : Int)) := (HBH.out.cell (p := ⟨g, _, none⟩) hg).trans HX.out.2.1
            have hT1 := HT.out.1
            have hT2 := HT.out.2
            clear HX HT
            have hlm' := hlm
            generalize leastK k h (its.take q) = lk at *
            generalize diffN ((its.take q).map Prod.fst) = dn at *
            by_cases hin : x.1 ∈ (its.take q).map Prod.fst
            · rw [decide_eq_true hin]
              rw [if_pos hin] at hT2
              have HT2 := Lib.hid hT2
              clear hT2
              clear hin
              by_cases k1 : k = 1
              · subst k1
                rw [if_neg (by omega)] at hT1
                have HT1 := Lib.hid hT1
                clear hT1
                go_wp2_with fail
                go_roundw
                case rel => exact ⟨q + 1, hlt, by rw [HT1.out], by rw [HT2.out], by go_num, HBH.out⟩
                case measure => simp [intOf]; omega
              · by_cases k2 : k = 2
                · subst k2
                  by_cases kc : x.1 = h
                  · rw [if_pos (by omega)] at hT1
                    have kd : ((x.1 : Int) == (h : Int)) = true := by simp; omega
                    clear kc
                    have HT1 := Lib.hid hT1
                    clear hT1
                    go_wp2_with fail
                    go_roundw
                    case rel => exact ⟨q + 1, hlt, by rw [HT1.out, ← sat_wrap _ _ hlm hsi.2], by rw [HT2.out], by go_num, HBH.out⟩
                    case measure => simp [intOf]; omega
                  · rw [if_neg (by omega)] at hT1
                    have kd : ((x.1 : Int) == (h : Int)) = false := by simp; omega
                    clear kc
                    have HT1 := Lib.hid hT1
                    clear hT1
                    go_wp2_with fail
                    go_roundw
                    case rel => exact ⟨q + 1, hlt, by rw [HT1.out], by rw [HT2.out], by go_num, HBH.out⟩
                    case measure => simp [intOf]; omega
                · obtain rfl : k = 3 := by omega
                  by_cases kc : x.1 ≤ h
                  · rw [if_pos (by omega)] at hT1
                    have kd : decide ((x.1 : Int) ≤ (h : Int)) = true := by simp; omega
                    have HT1 := Lib.hid hT1
                    clear hT1
                    go_wp2_with fail
                    go_roundw
                    case rel => exact ⟨q + 1, hlt, by rw [HT1.out, ← sat_wrap _ _ hlm hsi.2], by rw [HT2.out], by go_num, HBH.out⟩
                    case measure => simp [intOf]; omega
                  · rw [if_neg (by omega)] at hT1
                    have kd : decide ((x.1 : Int) ≤ (h : Int)) = false := by simp; omega
                    have HT1 := Lib.hid hT1
                    clear hT1
                    go_wp2_with fail
                    go_roundw
                    case rel => exact ⟨q + 1, hlt, by rw [HT1.out], by rw [HT2.out], by go_num, HBH.out⟩
                    case measure => simp [intOf]; omega
            · rw [decide_eq_false hin]
              rw [if_neg hin] at hT2
              have HT2 := Lib.hid hT2
              clear hT2
              clear hin
              by_cases k1 : k = 1
              · subst k1
                rw [if_neg (by omega)] at hT1
                have HT1 := Lib.hid hT1
                clear hT1
                go_wp2_with fail
                go_roundw
                case rel => exact ⟨q + 1, hlt, by rw [HT1.out], by rw [HT2.out]; go_num, by go_num, HBH.out⟩
                case measure => simp [intOf]; omega
              · by_cases k2 : k = 2
                · subst k2
                  by_cases kc : x.1 = h
                  · rw [if_pos (by omega)] at hT1
                    have kd : ((x.1 : Int) == (h : Int)) = true := by simp; omega
                    clear kc
                    have HT1 := Lib.hid hT1
                    clear hT1
                    go_wp2_with fail
                    go_roundw
                    case rel => exact ⟨q + 1, hlt, by rw [HT1.out, ← sat_wrap _ _ hlm hsi.2], by rw [HT2.out]; go_num, by go_num, HBH.out⟩
                    case measure => simp [intOf]; omega
                  · rw [if_neg (by omega)] at hT1
                    have kd : ((x.1 : Int) == (h : Int)) = false := by simp; omega
                    clear kc
                    have HT1 := Lib.hid hT1
                    clear hT1
                    go_wp2_with fail
                    go_roundw
                    case rel => exact ⟨q + 1, hlt, by rw [HT1.out], by rw [HT2.out]; go_num, by go_num, HBH.out⟩
                    case measure => simp [intOf]; omega
                · obtain rfl : k = 3 := by omega
                  by_cases kc : x.1 ≤ h
                  · rw [if_pos (by omega)] at hT1
                    have kd : decide ((x.1 : Int) ≤ (h : Int)) = true := by simp; omega
                    have HT1 := Lib.hid hT1
                    clear hT1
                    go_wp2_with fail
                    go_roundw
                    case rel => exact ⟨q + 1, hlt, by rw [HT1.out, ← sat_wrap _ _ hlm hsi.2], by rw [HT2.out]; go_num, by go_num, HBH.out⟩
                    case measure => simp [intOf]; omega
                  · rw [if_neg (by omega)] at hT1
                    have kd : decide ((x.1 : Int) ≤ (h : Int)) = false := by simp; omega
                    have HT1 := Lib.hid hT1
                    clear hT1
                    go_wp2_with fail
                    go_roundw
                    case rel => exact ⟨q + 1, hlt, by rw [HT1.out], by rw [HT2.out]; go_num, by go_num, HBH.out⟩
                    case measure => simp [intOf]; omega
      · obtain rfl : n = its.length := by omega
        rw [List.take_length]
        have rl := (HF.out.to HBH.out).rules
        simp only [Rules] at rl
        have hl4 := HBH.out.size
        by_cases hk1 : k = 1
        · subst hk1
          have hr : diffN (its.map Prod.fst) = r := by rw [← HR.out, allK1]
          rw [hr]
          clear hr
          go_wp2_with fail
          go_ret
          exact ⟨rfl, HF.out.fr.below.trans (HBH.out.mono HF.out.fr.below.size)⟩
        · have hle : leastK k h its ≤ r := by
            rw [← HR.out]
            by_cases hk2 : k = 2
            · subst hk2
              rw [leastK2]
              exact allK2 its h
            · obtain rfl : k = 3 := by omega
              rw [leastK3]
              exact allK3 its HSI.out h
          generalize leastK k h its = lk at *
          have hd : decide ((lk : Int) ≤ (r : Int)) = true := by simp; omega
          have hke : ((k : Int) == 1) = false := by simp; omega
          go_wp2_with fail
          go_ret
          exact ⟨rfl, HF.out.fr.below.trans (HBH.out.mono HF.out.fr.below.size)⟩
end Go.Proofs.YtmgdbfmlnmahpaaGreatDoor
