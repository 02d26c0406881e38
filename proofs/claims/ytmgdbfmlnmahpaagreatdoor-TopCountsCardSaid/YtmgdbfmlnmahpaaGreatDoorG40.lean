/- A part of the proof of TopCounts. -/
import Derived.Test.YtmgdbfmlnmahpaaGreatDoorG39
namespace Go.Proofs.YtmgdbfmlnmahpaaGreatDoor
open Go.RowKit Go.Shelf
set_option linter.unusedSimpArgs false
set_option linter.unusedVariables false
set_option maxRecDepth 100000
def encIt (x : Nat × Nat) : List Value := [.int .u64 (x.1 : Int), .int .u64 (x.2 : Int)]
theorem encIt_len (x : Nat × Nat) : (encIt x).length = 2 := rfl
theorem item_at {w : World} {s : Option Addr} {L : List (Nat × Nat)} (h : Rd 2 encIt w s L) {i : Nat} {x : Nat × Nat} (hx : L[i]? = some x) : ∃ g o, s = some ⟨g, o, none⟩ ∧ g < w.heap.size ∧ w.cell? ⟨g, o + i * 2, none⟩ = some (.int .u64 (x.1 : Int)) ∧ w.cell? ⟨g, o + i * 2 + 1, none⟩ = some (.int .u64 (x.2 : Int)) := by
  obtain ⟨g, o, e, hg, hc⟩ := h i x hx
  exact ⟨g, o, e, hg, hc 0 _ rfl, hc 1 _ rfl⟩
def IsP (B : Nat) (x : Sk) (sn : Nat) : Value → World → Prop := fun v W => ∃ v0, v = .tuple #[v0, .int .i64 0] ∧ IsT B x sn v0 W
theorem stableP (B : Nat) (x : Sk) (sn : Nat) : Stable (IsP B x sn) := fun _ _ _ ⟨v0, h1, h2⟩ hb => ⟨v0, h1, stableT _ _ _ _ _ _ h2 hb⟩
def IsF (B : Nat) (x : Sk) (sn : Nat) : Value → World → Prop := fun v W => ∃ v0, v = .tuple #[v0, .slice none 0 0, .int .i64 0] ∧ IsT B x sn v0 W
theorem stableF (B : Nat) (x : Sk) (sn : Nat) : Stable (IsF B x sn) := fun _ _ _ ⟨v0, h1, h2⟩ hb => ⟨v0, h1, stableT _ _ _ _ _ _ h2 hb⟩
theorem Sk.add_kind' (k : Nat) (its : List (Nat × Nat)) : (allK k its).kind = (Sk.new k).kind := allK_kind k its (Sk.new k)
theorem Fr.set10 {w0 : World} {S : List Nat} {A : Nat} {T : TypeId} {bl : List Blk} {W : World} {c0 c1 c2 c3 c4 c5 c6 c7 c8 c9 : Value} (h : Fr w0 S ((A, #[c0, c1, c2, c3, c4, c5, c6, c7, c8, c9], T) :: bl) W) (hA : A ∈ S ∨ w0.heap.size ≤ A) (v0 v1 v2 v3 v4 v5 v6 v7 v8 v9 : Value) : Fr w0 S ((A, #[v0, v1, v2, v3, v4, v5, v6, v7, v8, v9], T) :: bl) ((((((((((W.setCell ⟨A, 0, none⟩ v0).setCell ⟨A, 1, none⟩ v1).setCell ⟨A, 2, none⟩ v2).setCell ⟨A, 3, none⟩ v3).setCell ⟨A, 4, none⟩ v4).setCell ⟨A, 5, none⟩ v5).setCell ⟨A, 6, none⟩ v6).setCell ⟨A, 7, none⟩ v7).setCell ⟨A, 8, none⟩ v8).setCell ⟨A, 9, none⟩ v9) := by
  have h0 := h.set 0 (A := A) rfl hA (o := 0) (v := v0)
  simp only [setB, List.modify_succ_cons, List.modify_zero_cons, List.setIfInBounds_toArray, List.set_cons_zero, List.set_cons_succ] at h0
  have h1 := h0.set 0 (A := A) rfl hA (o := 1) (v := v1)
  simp only [setB, List.modify_succ_cons, List.modify_zero_cons, List.setIfInBounds_toArray, List.set_cons_zero, List.set_cons_succ] at h1
  have h2 := h1.set 0 (A := A) rfl hA (o := 2) (v := v2)
  simp only [setB, List.modify_succ_cons, List.modify_zero_cons, List.setIfInBounds_toArray, List.set_cons_zero, List.set_cons_succ] at h2
  have h3 := h2.set 0 (A := A) rfl hA (o := 3) (v := v3)
  simp only [setB, List.modify_succ_cons, List.modify_zero_cons, List.setIfInBounds_toArray, List.set_cons_zero, List.set_cons_succ] at h3
  have h4 := h3.set 0 (A := A) rfl hA (o := 4) (v := v4)
  simp only [setB, List.modify_succ_cons, List.modify_zero_cons, List.setIfInBounds_toArray, List.set_cons_zero, List.set_cons_succ] at h4
  have h5 := h4.set 0 (A := A) rfl hA (o := 5) (v := v5)
  simp only [setB, List.modify_succ_cons, List.modify_zero_cons, List.setIfInBounds_toArray, List.set_cons_zero, List.set_cons_succ] at h5
  have h6 := h5.set 0 (A := A) rfl hA (o := 6) (v := v6)
  simp only [setB, List.modify_succ_cons, List.modify_zero_cons, List.setIfInBounds_toArray, List.set_cons_zero, List.set_cons_succ] at h6
  have h7 := h6.set 0 (A := A) rfl hA (o := 7) (v := v7)
  simp only [setB, List.modify_succ_cons, List.modify_zero_cons, List.setIfInBounds_toArray, List.set_cons_zero, List.set_cons_succ] at h7
  have h8 := h7.set 0 (A := A) rfl hA (o := 8) (v := v8)
  simp only [setB, List.modify_succ_cons, List.modify_zero_cons, List.setIfInBounds_toArray, List.set_cons_zero, List.set_cons_succ] at h8
  have h9 := h8.set 0 (A := A) rfl hA (o := 9) (v := v9)
  simp only [setB, List.modify_succ_cons, List.modify_zero_cons, List.setIfInBounds_toArray, List.set_cons_zero, List.set_cons_succ] at h9
  exact h9
set_option maxHeartbeats 1000000 in
theorem take0 (k : Nat) (h1 : 1 ≤ k) (h3 : k ≤ 3) (its : List (Nat × Nat)) (hs : SmallI its) (hl : its.length ≤ 50) (s : Option Addr) (cap : Nat) (lgs : Option Addr) (ln lgc nw id bu ttl : Nat) (ka kb : BitVec 64) (hbu : bu ≤ 1000000) (hco : (allK k its).cost + 3 ≤ bu) (b tb : Nat) (w : World) (h0 : w.heap[b]? = some (.cells #[.slice (some ⟨tb, 0, none⟩) 0 0, .int .u64 1, .slice none 0 0, .int .u64 0, .slice lgs ln lgc, .int .u64 (nw : Int), .int .u64 (id : Int), .int .i64 (bu : Int), .int .u64 (ttl : Int), .int .u64 (un ka), .int .u64 (un kb)] 83 (0, 0))) (hI : Rd 2 encIt w s its) :
    Calls Tryz.prog 45 #[.pointer (some ⟨b, 0, none⟩), .string ⟨#[97, 61, 120]⟩, .int .i64 (k : Int), .slice s its.length cap] w fun e w' => ∃ (t l : Hd) (h : SkH), e = .returned (.tuple #[.slice none 0 0, .int .i64 0]) ∧ Tab1 w' t (allK k its) nw l h ∧ (Fresh w.heap.size t ∧ Fresh w.heap.size l ∧ FreshK w.heap.size h) ∧ FrB [b] w w' ∧ w'.heap[b]? = some (.cells #[t.v 1, .int .u64 1, .slice none 0 0, .int .u64 0, .slice lgs ln lgc, .int .u64 (nw : Int), .int .u64 (id : Int), .int .i64 (bu : Int), .int .u64 (ttl : Int), .int .u64 (un ka), .int .u64 (un kb)] 83 (0, 0)) := by
  have HN := Lib.hid (fun W => ladNew_any k h1 h3 W)
  have HOK := Lib.hid (allK_ok k its hs hl)
  have HKD := Lib.hid (fun j => (Sk.add_kind' k (its.take j)).trans (Sk.new_kind k h1 h3))
  have H0 := Lib.hid h0
  have HI := Lib.hid hI
  have HS := Lib.hid hs
  have f0 := (Fr.start w []).add h0 (by simp)
  have rl := f0.rules
  simp only [Rules] at rl
  clear h0 hI hs
  go_enter Tryz.func45, Tryz.ntmps45
  go_wp2_with fail
  refine (parse_ax _).mono ?_
  rintro e w1 ⟨⟨ds, dc⟩, rfl, hd, hb1⟩
  have HB1 := Lib.hid hb1
  have HD := Lib.hid hd
  have f1 := (Fr.start w1 []).add ((hb1.block b (blk_lt H0.out)).trans H0.out) (by simp)
  have rl := f1.rules
  simp only [Rules] at rl
  clear hd hb1 f0
  simp only [Hd.v]
  go_wp2_with fail
  refine (HN.out _).mono ?_
  rintro e w2 ⟨⟨⟨es1, ec1⟩, ⟨cs1, cc1⟩, ⟨gs1, gc1⟩⟩, rfl, hd2, hf2, hb2⟩
  generalize hy' : Sk.new k = y at *
  have HY := Lib.hid ((show allK k [] = Sk.new k from rfl).trans hy')
  have f2 := (f1.to hb2).alloc (cs := #[.int .i64 y.kind, .int .i64 0, .slice es1 y.e.length ec1, .int .i64 0, .string ⟨#[]⟩, .int .i64 y.rows, .int .i64 y.cols, .slice cs1 y.c.length cc1, .int .i64 y.fine, .slice gs1 y.g.length gc1]) (T := 103)
  have rl := f2.rules
  simp only [Rules, World.size_alloc] at rl
  have HD2 := Lib.hid (hd2.keepB ((Below.refl w2.heap.size w2).alloc (Nat.le_refl _) (.cells #[.int .i64 y.kind, .int .i64 0, .slice es1 y.e.length ec1, .int .i64 0, .string ⟨#[]⟩, .int .i64 y.rows, .int .i64 y.cols, .slice cs1 y.c.length cc1, .int .i64 y.fine, .slice gs1 y.g.length gc1] 103)))
  have hz2 := hb2.size
  have HD3 := Lib.hid hd2
  clear hd2 hb2 f1 hy'
  simp only [SkH.v, Hd.v]
  go_wp2_with fail
  refine (seFind0 _ _ _ _).mono ?_
  rintro e w3 ⟨rfl, rfl⟩
  go_wp2_with fail
  have hzw : w1.heap.size ≤ w2.heap.size := hz2
  have HCL : Hid (∀ W, FrB [w2.heap.size] (w2.alloc (.cells #[.int .i64 y.kind, .int .i64 0, .slice es1 y.e.length ec1, .int .i64 0, .string ⟨#[]⟩, .int .i64 y.rows, .int .i64 y.cols, .slice cs1 y.c.length cc1, .int .i64 y.fine, .slice gs1 y.g.length gc1] 103)) W → RdK W y ⟨⟨es1, ec1⟩, ⟨cs1, cc1⟩, ⟨gs1, gc1⟩⟩) := by
    intro W hW
    have := ((FrB.of (S := []) ((Below.refl w2.heap.size w2).alloc (Nat.le_refl _) (.cells #[.int .i64 y.kind, .int .i64 0, .slice es1 y.e.length ec1, .int .i64 0, .string ⟨#[]⟩, .int .i64 y.rows, .int .i64 y.cols, .slice cs1 y.c.length cc1, .int .i64 y.fine, .slice gs1 y.g.length gc1] 103))).trans hW (fun k hk => by simp at hk; subst hk; exact .inr (Nat.le_refl _))).below
    exact HD3.out.keepB this
  clear HD2 hf2
  go_loopw [64] (fun i wr => ∃ (j : Nat) (x : Sk) (es : Option Addr) (ec : Nat) (cs : Option Addr) (cc : Nat) (gs : Option Addr) (gc : Nat), j ≤ its.length ∧ i = .int .i64 (j : Int) ∧ Fr w1 [] [(w2.heap.size, #[.int .i64 x.kind, .int .i64 0, .slice es x.e.length ec, .int .i64 0, .string ⟨#[]⟩, .int .i64 x.rows, .int .i64 x.cols, .slice cs x.c.length cc, .int .i64 x.fine, .slice gs x.g.length gc], 103), (b, #[.slice (some ⟨tb, 0, none⟩) 0 0, .int .u64 1, .slice none 0 0, .int .u64 0, .slice lgs ln lgc, .int .u64 (nw : Int), .int .u64 (id : Int), .int .i64 (bu : Int), .int .u64 (ttl : Int), .int .u64 (un ka), .int .u64 (un kb)], 83)] wr ∧ Hid (∀ W, FrB [w2.heap.size] wr W → RdK W x ⟨⟨es, ec⟩, ⟨cs, cc⟩, ⟨gs, gc⟩⟩) ∧ Hid (allK k (its.take j) = x)) (fun i _ => its.length - (intOf i).toNat)
  case atStart => exact ⟨0, y, es1, ec1, cs1, cc1, gs1, gc1, Nat.zero_le _, rfl, f2, HCL, Lib.hid (by rw [List.take_zero]; exact HY.out)⟩
  case round =>
    clear HCL f2 rl
    obtain ⟨j, x, es, ec, cs, cc, gs, gc, hj, rfl, f3, HR, HA⟩ := hrel
    have rl := f3.rules
    simp only [Rules] at rl
    by_cases hlt : j < its.length
    · obtain ⟨it, hx⟩ : ∃ it, its[j]? = some it := ⟨_, List.getElem?_eq_getElem hlt⟩
      obtain ⟨g, o, rfl, hg, hc1, hc2⟩ := item_at (HI.out.keepB (Nat.le_refl _) (HB1.out.trans (f3.fr.below.mono HB1.out.size))) hx
      have hsi := HS.out it (List.mem_of_getElem? hx)
      have hok := HOK.out j hj
      rw [HA.out] at hok
      have HT := Lib.hid (show allK k (its.take (j + 1)) = x.add it.1 it.2 by rw [List.take_add_one, hx, ← HA.out]; exact allK_snoc k _ it)
      obtain ⟨a, n⟩ := it
      simp only at hc1 hc2 hsi HT
      have HADD := Lib.hid (show ∀ W, RdK W x ⟨⟨es, ec⟩, ⟨cs, cc⟩, ⟨gs, gc⟩⟩ → Calls Tryz.prog 70 #[.agg #[.int .i64 x.kind, .int .i64 0, .slice es x.e.length ec, .int .i64 0, .string ⟨#[]⟩, .int .i64 x.rows, .int .i64 x.cols, .slice cs x.c.length cc, .int .i64 x.fine, .slice gs x.g.length gc], .agg #[.int .u64 (a : Int), .int .u64 (n : Int)]] W (GivesK0 W (x.add a n)) from fun W hK => ladAdd_any x hok.1 (by omega) a n hsi.1 hsi.2 ⟨⟨es, ec⟩, ⟨cs, cc⟩, ⟨gs, gc⟩⟩ W hK)
      generalize x.add a n = z at *
      have f4 := f3.alloc (cs := #[.int .u64 (a : Int), .int .u64 (n : Int)]) (T := 45)
      have HK4 := Lib.hid (HR.out _ (FrB.of ((Below.refl wr.heap.size wr).alloc (Nat.le_refl _) (.cells #[.int .u64 (a : Int), .int .u64 (n : Int)] 45))))
      have hzr := blk_lt (f3.blk 0 rfl)
      clear hx hsi hok HR
      go_wp2_with fail
      refine (HADD.out _ HK4.out).mono ?_
      rintro e w5 ⟨⟨⟨es2, ec2⟩, ⟨cs2, cc2⟩, ⟨gs2, gc2⟩⟩, rfl, hd5, hf5, hb5⟩
      have f5 := (f4.to hb5).less _ (List.sublist_cons_self _ _)
      have rl5 := f5.rules
      simp only [Rules] at rl5
      have f6 := f5.set10 (.inr hzw) (.int .i64 z.kind) (.int .i64 0) (.slice es2 z.e.length ec2) (.int .i64 0) (.string ⟨#[]⟩) (.int .i64 z.rows) (.int .i64 z.cols) (.slice cs2 z.c.length cc2) (.int .i64 z.fine) (.slice gs2 z.g.length gc2)
      have HF5 := Lib.hid (And.intro hd5 (And.intro hf5 f6))
      have hz5 := hb5.size
      clear hd5 hf5 hb5 f5 f6 f4 f3 rl HADD HK4 hc1 hc2
      simp only [SkH.v, Hd.v]
      go_wp2_with fail
      go_roundw
      case rel =>
        refine ⟨j + 1, z, es2, ec2, cs2, cc2, gs2, gc2, hlt, by go_num, HF5.out.2.2, ?_, HT⟩
        intro W hW
        have hFr : FrB [w2.heap.size] w5 W := by
          refine (?_ : FrB [w2.heap.size] w5 _).trans hW (fun k hk => .inl hk)
          repeat (with_reducible refine FrB.set ?_ (.inl (by simp)))
          exact FrB.refl _ _
        have hz6 : wr.heap.size + 1 ≤ w5.heap.size := by have := hz5; simpa using this
        refine HF5.out.1.fr ⟨?_, ?_, ?_⟩ hFr
        · exact Off.fresh HF5.out.2.1.1 (fun k hk => by simp at hk; subst hk; simp; omega)
        · exact Off.fresh HF5.out.2.1.2.1 (fun k hk => by simp at hk; subst hk; simp; omega)
        · exact Off.fresh HF5.out.2.1.2.2 (fun k hk => by simp at hk; subst hk; simp; omega)
      case measure => simp [intOf]; omega
    · obtain rfl : j = its.length := by omega
      rw [List.take_length] at HA
      have hok := HOK.out _ (Nat.le_refl _)
      rw [List.take_length, HA.out] at hok
      rw [HA.out] at hco
      have hlen := hok.1.len
      have HPUT := Lib.hid (show ∀ W, Below wr.heap.size wr W → Calls Tryz.prog 71 #[.slice (some ⟨tb, 0, none⟩) 0 0, .agg #[.slice ds 1 dc, .int .i64 x.kind, .int .i64 0, .slice es x.e.length ec, .int .i64 0, .string ⟨#[]⟩, .int .i64 x.rows, .int .i64 x.cols, .slice cs x.c.length cc, .int .i64 x.fine, .slice gs x.g.length gc, .int .u64 (nw : Int)]] W fun e w' => ∃ v, e = .returned (.tuple #[v, .int .i64 0]) ∧ IsT wr.heap.size x nw v w' ∧ Below W.heap.size W w' from fun W hW => (sePut0 x hok.1 ⟨by omega, by omega, by omega⟩ ds dc es ec cs cc gs gc nw tb 0 W (HD.out.keepB (f3.fr.below.trans (hW.mono f3.fr.below.size))) (HR.out W (FrB.of hW))).mono fun e w' ⟨v, h1, ⟨t, l, h, g1, g2, g3, g4, g5⟩, h3⟩ => ⟨v, h1, ⟨t, l, h, g1, g2, g3.mono hW.size, g4.mono hW.size, g5.mono hW.size⟩, h3⟩)
      have HFI := Lib.hid (fun (t' l' : Hd) (h' : SkH) W (hT' : Tab1 W t' x nw l' h') => quFit1 bu hbu t' x hco nw l' h' W hT' ⟨by omega, by omega, by omega⟩)
      have HHR := Lib.hid (And.intro HR.out HA.out)
      have hbx := blk_lt (f3.blk 1 rfl)
      have hbw0 := blk_lt H0.out
      have hzz := HB1.out.size
      clear hok hlen hco HR HA
      go_wp2_with fail
      refine region_all 19 (Fs [IsVal (.pointer (some ⟨b, 0, none⟩)), IsVal (.pointer (some ⟨b, 0, none⟩)), IsVal (.pointer (some ⟨b, 0, none⟩)), IsVal (.pointer (some ⟨b, 0, none⟩)), IsVal (.slice (some ⟨tb, 0, none⟩) 0 0), IsVal (.slice ds 1 dc), IsVal (.agg #[.int .i64 x.kind, .int .i64 0, .slice es x.e.length ec, .int .i64 0, .string ⟨#[]⟩, .int .i64 x.rows, .int .i64 x.cols, .slice cs x.c.length cc, .int .i64 x.fine, .slice gs x.g.length gc]), IsVal (.pointer (some ⟨b, 0, none⟩)), IsVal (.pointer (some ⟨b, 0, none⟩)), IsVal (.pointer (some ⟨b, 0, none⟩)), IsVal (.pointer (some ⟨b, 5, none⟩)), IsVal (.int .u64 (nw : Int)), IsVal (.agg #[.slice ds 1 dc, .int .i64 x.kind, .int .i64 0, .slice es x.e.length ec, .int .i64 0, .string ⟨#[]⟩, .int .i64 x.rows, .int .i64 x.cols, .slice cs x.c.length cc, .int .i64 x.fine, .slice gs x.g.length gc, .int .u64 (nw : Int)]), IsP wr.heap.size x nw, IsP wr.heap.size x nw, IsT wr.heap.size x nw, IsVal (.int .i64 0), IsT wr.heap.size x nw, IsVal (.int .i64 0)]) (by kernel_rfl) (by kernel_rfl) (by kernel_rfl) (Fs_stable _ ?stab) ?spec ?endd
      case stab =>
        simp only [List.forall_mem_cons]
        exact ⟨stableVal _, stableVal _, stableVal _, stableVal _, stableVal _, stableVal _, stableVal _, stableVal _, stableVal _, stableVal _, stableVal _, stableVal _, stableVal _, stableP _ _ _, stableP _ _ _, stableT _ _ _, stableVal _, stableT _ _ _, stableVal _, by simp⟩
      case spec =>
        refine ⟨?_, ?_, ?_, ?_, ?_, ?_, ?_, ?_, ?_, ?_, ?_, ?_, ?_, ?_, ?_, ?_, ?_, ?_, ?_, trivial⟩
        · intro a W hW hu hd
          have kc : ∀ c, a.eval (Operand.const c) = c := fun _ => rfl
          have kf : ∀ f, a.eval (Operand.func f) = .func (.func f) #[] #[] := fun _ => rfl
          have sW := f3.to hW
          have rl := sW.rules
          simp only [Rules, World.size_alloc] at rl
          have u0 : a.eval (Operand.tmp 0) = .pointer (some ⟨b, 0, none⟩) := hu 0 (by decide)
          unfold StepOk
          rw [if_pos (by rfl)]
          clear hu hd
          generalize a.eval = ρ at *
          go_simp
          exact opOk_val rfl
        · intro a W hW hu hd
          have kc : ∀ c, a.eval (Operand.const c) = c := fun _ => rfl
          have kf : ∀ f, a.eval (Operand.func f) = .func (.func f) #[] #[] := fun _ => rfl
          have sW := f3.to hW
          have rl := sW.rules
          simp only [Rules, World.size_alloc] at rl
          have u79 : a.eval (Operand.tmp 79) = .pointer (some ⟨b, 0, none⟩) := hd 0 79 (by kernel_rfl) rfl
          unfold StepOk
          rw [if_pos (by rfl)]
          clear hu hd
          generalize a.eval = ρ at *
          go_simp
          exact opOk_val rfl
        · intro a W hW hu hd
          have kc : ∀ c, a.eval (Operand.const c) = c := fun _ => rfl
          have kf : ∀ f, a.eval (Operand.func f) = .func (.func f) #[] #[] := fun _ => rfl
          have sW := f3.to hW
          have rl := sW.rules
          simp only [Rules, World.size_alloc] at rl
          have u80 : a.eval (Operand.tmp 80) = .pointer (some ⟨b, 0, none⟩) := hd 1 80 (by kernel_rfl) rfl
          unfold StepOk
          rw [if_pos (by rfl)]
          clear hu hd
          generalize a.eval = ρ at *
          go_simp
          exact opOk_val rfl
        · intro a W hW hu hd
          have kc : ∀ c, a.eval (Operand.const c) = c := fun _ => rfl
          have kf : ∀ f, a.eval (Operand.func f) = .func (.func f) #[] #[] := fun _ => rfl
          have sW := f3.to hW
          have rl := sW.rules
          simp only [Rules, World.size_alloc] at rl
          have u81 : a.eval (Operand.tmp 81) = .pointer (some ⟨b, 0, none⟩) := hd 2 81 (by kernel_rfl) rfl
          unfold StepOk
          rw [if_pos (by rfl)]
          clear hu hd
          generalize a.eval = ρ at *
          go_simp
          exact opOk_val rfl
        · intro a W hW hu hd
          have kc : ∀ c, a.eval (Operand.const c) = c := fun _ => rfl
          have kf : ∀ f, a.eval (Operand.func f) = .func (.func f) #[] #[] := fun _ => rfl
          have sW := f3.to hW
          have rl := sW.rules
          simp only [Rules, World.size_alloc] at rl
          have u82 : a.eval (Operand.tmp 82) = .pointer (some ⟨b, 0, none⟩) := hd 3 82 (by kernel_rfl) rfl
          unfold StepOk
          rw [if_pos (by rfl)]
          clear hu hd
          generalize a.eval = ρ at *
          go_simp
          exact opOk_val rfl
        · intro a W hW hu hd
          have kc : ∀ c, a.eval (Operand.const c) = c := fun _ => rfl
          have kf : ∀ f, a.eval (Operand.func f) = .func (.func f) #[] #[] := fun _ => rfl
          have sW := f3.to hW
          have rl := sW.rules
          simp only [Rules, World.size_alloc] at rl
          have u10 : a.eval (Operand.tmp 10) = .slice ds 1 dc := hu 10 (by decide)
          unfold StepOk
          rw [if_pos (by rfl)]
          clear hu hd
          generalize a.eval = ρ at *
          go_simp
          exact opOk_val rfl
        · intro a W hW hu hd
          have kc : ∀ c, a.eval (Operand.const c) = c := fun _ => rfl
          have kf : ∀ f, a.eval (Operand.func f) = .func (.func f) #[] #[] := fun _ => rfl
          have sW := f3.to hW
          have rl := sW.rules
          simp only [Rules, World.size_alloc] at rl
          have u12 : a.eval (Operand.tmp 12) = .pointer (some ⟨w2.heap.size, 0, none⟩) := hu 12 (by decide)
          unfold StepOk
          rw [if_pos (by rfl)]
          clear hu hd
          generalize a.eval = ρ at *
          go_simp
          exact opOk_val rfl
        · intro a W hW hu hd
          have kc : ∀ c, a.eval (Operand.const c) = c := fun _ => rfl
          have kf : ∀ f, a.eval (Operand.func f) = .func (.func f) #[] #[] := fun _ => rfl
          have sW := f3.to hW
          have rl := sW.rules
          simp only [Rules, World.size_alloc] at rl
          have u0 : a.eval (Operand.tmp 0) = .pointer (some ⟨b, 0, none⟩) := hu 0 (by decide)
          unfold StepOk
          rw [if_pos (by rfl)]
          clear hu hd
          generalize a.eval = ρ at *
          go_simp
          exact opOk_val rfl
        · intro a W hW hu hd
          have kc : ∀ c, a.eval (Operand.const c) = c := fun _ => rfl
          have kf : ∀ f, a.eval (Operand.func f) = .func (.func f) #[] #[] := fun _ => rfl
          have sW := f3.to hW
          have rl := sW.rules
          simp only [Rules, World.size_alloc] at rl
          have u86 : a.eval (Operand.tmp 86) = .pointer (some ⟨b, 0, none⟩) := hd 7 86 (by kernel_rfl) rfl
          unfold StepOk
          rw [if_pos (by rfl)]
          clear hu hd
          generalize a.eval = ρ at *
          go_simp
          exact opOk_val rfl
        · intro a W hW hu hd
          have kc : ∀ c, a.eval (Operand.const c) = c := fun _ => rfl
          have kf : ∀ f, a.eval (Operand.func f) = .func (.func f) #[] #[] := fun _ => rfl
          have sW := f3.to hW
          have rl := sW.rules
          simp only [Rules, World.size_alloc] at rl
          have u87 : a.eval (Operand.tmp 87) = .pointer (some ⟨b, 0, none⟩) := hd 8 87 (by kernel_rfl) rfl
          unfold StepOk
          rw [if_pos (by rfl)]
          clear hu hd
          generalize a.eval = ρ at *
          go_simp
          exact opOk_val rfl
        · intro a W hW hu hd
          have kc : ∀ c, a.eval (Operand.const c) = c := fun _ => rfl
          have kf : ∀ f, a.eval (Operand.func f) = .func (.func f) #[] #[] := fun _ => rfl
          have sW := f3.to hW
          have rl := sW.rules
          simp only [Rules, World.size_alloc] at rl
          have u88 : a.eval (Operand.tmp 88) = .pointer (some ⟨b, 0, none⟩) := hd 9 88 (by kernel_rfl) rfl
          unfold StepOk
          rw [if_pos (by rfl)]
          clear hu hd
          generalize a.eval = ρ at *
          go_simp
          exact opOk_val rfl
        · intro a W hW hu hd
          have kc : ∀ c, a.eval (Operand.const c) = c := fun _ => rfl
          have kf : ∀ f, a.eval (Operand.func f) = .func (.func f) #[] #[] := fun _ => rfl
          have sW := f3.to hW
          have rl := sW.rules
          simp only [Rules, World.size_alloc] at rl
          have u89 : a.eval (Operand.tmp 89) = .pointer (some ⟨b, 5, none⟩) := hd 10 89 (by kernel_rfl) rfl
          unfold StepOk
          rw [if_pos (by rfl)]
          clear hu hd
          generalize a.eval = ρ at *
          go_simp
          exact opOk_val rfl
        · intro a W hW hu hd
          have kc : ∀ c, a.eval (Operand.const c) = c := fun _ => rfl
          have kf : ∀ f, a.eval (Operand.func f) = .func (.func f) #[] #[] := fun _ => rfl
          have sW := f3.to hW
          have rl := sW.rules
          simp only [Rules, World.size_alloc] at rl
          have u84 : a.eval (Operand.tmp 84) = .slice ds 1 dc := hd 5 84 (by kernel_rfl) rfl
          have u85 : a.eval (Operand.tmp 85) = .agg #[.int .i64 x.kind, .int .i64 0, .slice es x.e.length ec, .int .i64 0, .string ⟨#[]⟩, .int .i64 x.rows, .int .i64 x.cols, .slice cs x.c.length cc, .int .i64 x.fine, .slice gs x.g.length gc] := hd 6 85 (by kernel_rfl) rfl
          have u90 : a.eval (Operand.tmp 90) = .int .u64 (nw : Int) := hd 11 90 (by kernel_rfl) rfl
          unfold StepOk
          rw [if_pos (by rfl)]
          clear hu hd
          generalize a.eval = ρ at *
          go_simp
          exact opOk_val rfl
        · intro a W hW hu hd
          have kc : ∀ c, a.eval (Operand.const c) = c := fun _ => rfl
          have kf : ∀ f, a.eval (Operand.func f) = .func (.func f) #[] #[] := fun _ => rfl
          have sW := f3.to hW
          have rl := sW.rules
          simp only [Rules, World.size_alloc] at rl
          have u83 : a.eval (Operand.tmp 83) = .slice (some ⟨tb, 0, none⟩) 0 0 := hd 4 83 (by kernel_rfl) rfl
          have u91 : a.eval (Operand.tmp 91) = .agg #[.slice ds 1 dc, .int .i64 x.kind, .int .i64 0, .slice es x.e.length ec, .int .i64 0, .string ⟨#[]⟩, .int .i64 x.rows, .int .i64 x.cols, .slice cs x.c.length cc, .int .i64 x.fine, .slice gs x.g.length gc, .int .u64 (nw : Int)] := hd 12 91 (by kernel_rfl) rfl
          unfold StepOk
          rw [if_pos (by rfl)]
          clear hu hd
          generalize a.eval = ρ at *
          go_simp
          refine ⟨Below.refl _ _, (HPUT.out W hW).mono ?_⟩
          rintro e w' ⟨v9, rfl, t9, hb'⟩
          exact ⟨_, rfl, hb', v9, rfl, t9⟩
        · intro a W hW hu hd
          have kc : ∀ c, a.eval (Operand.const c) = c := fun _ => rfl
          have kf : ∀ f, a.eval (Operand.func f) = .func (.func f) #[] #[] := fun _ => rfl
          have sW := f3.to hW
          have rl := sW.rules
          simp only [Rules, World.size_alloc] at rl
          have f92 : IsP wr.heap.size x nw (a.eval (Operand.tmp 92)) W := hd 13 92 (by kernel_rfl) rfl
          obtain ⟨v9, u92, t9⟩ := f92
          unfold StepOk
          rw [if_pos (by rfl)]
          clear hu hd
          generalize a.eval = ρ at *
          go_simp
          exact opOk_val ⟨v9, rfl, t9⟩
        · intro a W hW hu hd
          have kc : ∀ c, a.eval (Operand.const c) = c := fun _ => rfl
          have kf : ∀ f, a.eval (Operand.func f) = .func (.func f) #[] #[] := fun _ => rfl
          have sW := f3.to hW
          have rl := sW.rules
          simp only [Rules, World.size_alloc] at rl
          have f78 : IsP wr.heap.size x nw (a.eval (Operand.tmp 78)) W := hd 14 78 (by kernel_rfl) rfl
          obtain ⟨v9, u78, t9⟩ := f78
          unfold StepOk
          rw [if_pos (by rfl)]
          clear hu hd
          generalize a.eval = ρ at *
          go_simp
          exact opOk_val t9
        · intro a W hW hu hd
          have kc : ∀ c, a.eval (Operand.const c) = c := fun _ => rfl
          have kf : ∀ f, a.eval (Operand.func f) = .func (.func f) #[] #[] := fun _ => rfl
          have sW := f3.to hW
          have rl := sW.rules
          simp only [Rules, World.size_alloc] at rl
          have f78 : IsP wr.heap.size x nw (a.eval (Operand.tmp 78)) W := hd 14 78 (by kernel_rfl) rfl
          obtain ⟨v9, u78, t9⟩ := f78
          unfold StepOk
          rw [if_pos (by rfl)]
          clear hu hd
          generalize a.eval = ρ at *
          go_simp
          exact opOk_val rfl
        · intro a W hW hu hd
          have kc : ∀ c, a.eval (Operand.const c) = c := fun _ => rfl
          have kf : ∀ f, a.eval (Operand.func f) = .func (.func f) #[] #[] := fun _ => rfl
          have sW := f3.to hW
          have rl := sW.rules
          simp only [Rules, World.size_alloc] at rl
          have f93 : IsT wr.heap.size x nw (a.eval (Operand.tmp 93)) W := hd 15 93 (by kernel_rfl) rfl
          obtain ⟨⟨ts9, tc9⟩, l9, h9, u93, t9⟩ := f93
          simp only [Hd.v] at u93
          unfold StepOk
          rw [if_pos (by rfl)]
          clear hu hd
          generalize a.eval = ρ at *
          go_simp
          exact opOk_val ⟨⟨ts9, tc9⟩, l9, h9, rfl, t9⟩
        · intro a W hW hu hd
          have kc : ∀ c, a.eval (Operand.const c) = c := fun _ => rfl
          have kf : ∀ f, a.eval (Operand.func f) = .func (.func f) #[] #[] := fun _ => rfl
          have sW := f3.to hW
          have rl := sW.rules
          simp only [Rules, World.size_alloc] at rl
          have u94 : a.eval (Operand.tmp 94) = .int .i64 0 := hd 16 94 (by kernel_rfl) rfl
          unfold StepOk
          rw [if_pos (by rfl)]
          clear hu hd
          generalize a.eval = ρ at *
          go_simp
          exact opOk_val rfl
      case endd =>
        intro v W hW hv
        have v0 : v 0 = (.pointer (some ⟨b, 0, none⟩)) := hv 0 (by omega)
        have v1 : v 1 = (.pointer (some ⟨b, 0, none⟩)) := hv 1 (by omega)
        have v2 : v 2 = (.pointer (some ⟨b, 0, none⟩)) := hv 2 (by omega)
        have v3 : v 3 = (.pointer (some ⟨b, 0, none⟩)) := hv 3 (by omega)
        have v4 : v 4 = (.slice (some ⟨tb, 0, none⟩) 0 0) := hv 4 (by omega)
        have v5 : v 5 = (.slice ds 1 dc) := hv 5 (by omega)
        have v6 : v 6 = (.agg #[.int .i64 x.kind, .int .i64 0, .slice es x.e.length ec, .int .i64 0, .string ⟨#[]⟩, .int .i64 x.rows, .int .i64 x.cols, .slice cs x.c.length cc, .int .i64 x.fine, .slice gs x.g.length gc]) := hv 6 (by omega)
        have v7 : v 7 = (.pointer (some ⟨b, 0, none⟩)) := hv 7 (by omega)
        have v8 : v 8 = (.pointer (some ⟨b, 0, none⟩)) := hv 8 (by omega)
        have v9 : v 9 = (.pointer (some ⟨b, 0, none⟩)) := hv 9 (by omega)
        have v10 : v 10 = (.pointer (some ⟨b, 5, none⟩)) := hv 10 (by omega)
        have v11 : v 11 = (.int .u64 (nw : Int)) := hv 11 (by omega)
        have v12 : v 12 = (.agg #[.slice ds 1 dc, .int .i64 x.kind, .int .i64 0, .slice es x.e.length ec, .int .i64 0, .string ⟨#[]⟩, .int .i64 x.rows, .int .i64 x.cols, .slice cs x.c.length cc, .int .i64 x.fine, .slice gs x.g.length gc, .int .u64 (nw : Int)]) := hv 12 (by omega)
        have hf13 : IsP wr.heap.size x nw (v 13) W := hv 13 (by omega)
        have hf14 : IsP wr.heap.size x nw (v 14) W := hv 14 (by omega)
        have hf15 : IsT wr.heap.size x nw (v 15) W := hv 15 (by omega)
        have v16 : v 16 = (.int .i64 0) := hv 16 (by omega)
        have hf17 : IsT wr.heap.size x nw (v 17) W := hv 17 (by omega)
        have v18 : v 18 = (.int .i64 0) := hv 18 (by omega)
        clear hv
        simp only [List.take_succ_cons, List.take_zero, List.drop_succ_cons, List.drop_zero, putAll, Nat.zero_add, Nat.reduceAdd]
        rw [v0, v1, v2, v3, v4, v5, v6, v7, v8, v9, v10, v11, v12, v16, v18]
        clear v0 v1 v2 v3 v4 v5 v6 v7 v8 v9 v10 v11 v12 v16 v18
        have sW := f3.to hW
        obtain ⟨⟨ts9, tc9⟩, l9, h9, v17, hT9, hF9⟩ := hf17
        rw [v17]
        simp only [Hd.v]
        generalize v 13 = q13 at *
        generalize v 14 = q14 at *
        generalize v 15 = q15 at *
        have hzq := hW.size
        have f4 := sW
        have HFIT := Lib.hid ((HFI.out ⟨ts9, tc9⟩ l9 h9 W hT9))
        clear hf13 hf14 hf15 v17 hT9 hF9 HFI HPUT sW hW
        generalize W = wq at *
        have rl := f4.rules
        simp only [Rules] at rl
        go_wp2_with fail
        refine HFIT.out.mono ?_
        rintro e w7 ⟨v7, rfl, ⟨⟨ts8, tc8⟩, l8, h8, rfl, hT8, hF8⟩, hb7⟩
        simp only [Hd.v]
        have f5 := f4.to hb7
        have rl := f5.rules
        simp only [Rules] at rl
        have hzz2 := hb7.size
        have HT8 := Lib.hid (And.intro hT8 (And.intro hF8 f5))
        clear hT8 hF8 hb7 f5 f4 HFIT
        go_wp2_with fail
        have hbW := blk_lt (HT8.out.2.2.blk 1 rfl)
        have hz2w : w2.heap.size < wr.heap.size := blk_lt (f3.blk 0 rfl)
        refine bodyPost_ret (v := .tuple #[.slice none 0 0, .int .i64 0]) (by simp [results, Tryz.results45, go_sem]) rfl ⟨⟨ts8, tc8⟩, l8, h8, rfl, by rw [HHR.out.2]; exact HT8.out.1.up HT8.out.2.1 ((KeepUp.refl _ _).set (by omega) _), ⟨HT8.out.2.1.1.mono (by omega), HT8.out.2.1.2.1.mono (by omega), HT8.out.2.1.2.2.mono (by omega)⟩, ?_, ?_⟩
        · exact ((FrB.of (S := [b]) HB1.out).trans HT8.out.2.2.fr (by simp)).set (.inl (by simp))
        · exact blk_set (HT8.out.2.2.blk 1 rfl) 0 _
end Go.Proofs.YtmgdbfmlnmahpaaGreatDoor
