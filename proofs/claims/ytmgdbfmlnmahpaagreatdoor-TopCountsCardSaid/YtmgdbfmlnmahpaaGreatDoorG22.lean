/- A part of the proof of TopCounts. -/
import Derived.Test.YtmgdbfmlnmahpaaGreatDoorG21
import Derived.Test.YtmgdbfmlnmahpaaGreatDoorG17
import Derived.Test.YtmgdbfmlnmahpaaGreatDoorG11
namespace Go.Proofs.YtmgdbfmlnmahpaaGreatDoor
open Go.RowKit Go.Shelf
set_option linter.unusedSimpArgs false
set_option linter.unusedVariables false
set_option maxRecDepth 100000
def SkH.a : Sk → SkH → Value
  | .dist L, h => .agg #[h.e.v L.length]
  | .cnt L, h => .agg #[.int .i64 2, .int .i64 32, h.c.v L.length]
  | .hst l, h => .agg #[.int .i64 3, h.g.v l.length]
def Sk.bt : Sk → Nat
  | .dist _ => 268
  | .cnt _ => 272
  | .hst _ => 274
theorem SkH.b_a (x : Sk) (h : SkH) : h.b x = .iface x.bt (h.a x) := by cases x <;> rfl
def GivesA (w : World) (x : Sk) (e : Ending) (w' : World) : Prop := ∃ h : SkH, e = .returned (.tuple #[h.a x, .int .i64 0]) ∧ RdK w' x h ∧ FreshK w.heap.size h ∧ RowKit.Below w.heap.size w w'
def GivesB (w : World) (x : Sk) (e : Ending) (w' : World) : Prop := ∃ h : SkH, e = .returned (.tuple #[h.b x, .nilIface]) ∧ RdK w' x h ∧ FreshK w.heap.size h ∧ RowKit.Below w.heap.size w w'
theorem GivesE.a {w w' : World} {L : List Nat} {e : Ending} (h : GivesE w L e w') : GivesA w (.dist L) e w' := by
  obtain ⟨s, cap, rfl, h1, h2, h3, h4, h5, h6⟩ := h
  exact ⟨⟨⟨s, cap⟩, ⟨none, 0⟩, ⟨none, 0⟩⟩, rfl, ⟨⟨h5, h1, h2, h3, h4.1⟩, RdH.none _, RdH.none _⟩, ⟨fun g o e => h4.2 g o e, Fresh.none _, Fresh.none _⟩, h6⟩
theorem GivesC0.a {w w' : World} {L : List Nat} {e : Ending} (hl : L.length = 64) (h : GivesC0 w L e w') : GivesA w (.cnt L) e w' := by
  obtain ⟨A, rfl, hA, hN, hb⟩ := h
  refine ⟨⟨⟨none, 0⟩, ⟨some ⟨A, 0, none⟩, 64⟩, ⟨none, 0⟩⟩, ?_, ⟨RdH.none _, ⟨Rd.ofBlock encU_len hN rfl, by show L.length ≤ 64; omega, by show 64 ≤ _; omega, (fun h => by cases h), PlainS.some _ _⟩, RdH.none _⟩, ⟨Fresh.none _, fun g o e => by cases e; exact hA, Fresh.none _⟩, hb⟩
  show _ = Ending.returned (.tuple #[.agg #[.int .i64 2, .int .i64 32, .slice (some ⟨A, 0, none⟩) L.length 64], .int .i64 0])
  rw [hl]
theorem GivesH0.a {w w' : World} {l : List (Nat × Nat)} {e : Ending} (h : GivesH0 w l e w') : GivesA w (.hst l) e w' := by
  obtain ⟨v, rfl, own, hb⟩ := h
  obtain ⟨d, rfl, hd, hf⟩ := RdH.ownF encB_len own
  exact ⟨⟨⟨none, 0⟩, ⟨none, 0⟩, d⟩, rfl, ⟨RdH.none _, RdH.none _, hd⟩, ⟨Fresh.none _, Fresh.none _, hf⟩, hb⟩
theorem inAdd_dist (L : List Nat) (hx : Sk.Ok (.dist L)) (hl : (Sk.dist L).len + 1 ≤ 60) (a n : Nat) (ha : a ≤ maxU) (hn : n ≤ maxU) (h : SkH) (w : World) (hK : RdK w (.dist L) h) :
    Calls Tryz.prog 263 #[h.a (.dist L), .int .u64 (a : Int)] w (GivesA w (.dist (ins a L))) :=
  (exAdd_any L hx.1 h.e.s h.e.cap a (by have : L.length + 1 ≤ 60 := hl; omega) hK.e.cap w hK.e.rd).mono fun _ _ h => GivesE.a h
theorem inAdd_cnt (L : List Nat) (hx : Sk.Ok (.cnt L)) (hl : (Sk.cnt L).len + 1 ≤ 60) (a n : Nat) (ha : a ≤ maxU) (hn : n ≤ maxU) (h : SkH) (w : World) (hK : RdK w (.cnt L) h) :
    Calls Tryz.prog 302 #[h.a (.cnt L), .int .u64 (a : Int), .int .u64 (n : Int)] w (GivesA w (.cnt (addC L a n))) := by
  show Calls _ _ #[.agg #[.int .i64 2, .int .i64 32, .slice h.c.s L.length h.c.cap], _, _] w _
  rw [hx.2]
  exact (cmAdd_any L hx.2 hx.1 h.c.s h.c.cap a n ha hn w hK.c.rd).mono fun _ _ h => GivesC0.a (by rw [addC_length]; exact hx.2) h
theorem inAdd_hst (L : List (Nat × Nat)) (hx : Sk.Ok (.hst L)) (hl : (Sk.hst L).len + 1 ≤ 60) (a n : Nat) (ha : a ≤ maxU) (hn : n ≤ maxU) (h : SkH) (w : World) (hK : RdK w (.hst L) h) :
    Calls Tryz.prog 321 #[h.a (.hst L), .int .u64 (a : Int), .int .u64 (n : Int)] w (GivesA w (.hst (putH (bkt a) n L))) :=
  (hiAdd_any L hx.1 h.g.s h.g.cap (by have := hx.2.1; omega) hK.g.cap hx.2.2 a n ha hn w hK.g.rd).mono fun _ _ h => GivesH0.a h
theorem inMerge_dist (L M : List Nat) (hx : Sk.Ok (.dist L)) (hy : Sk.Ok (.dist M)) (hl : (Sk.dist L).len + (Sk.dist M).len ≤ 60) (h k : SkH) (w : World) (hK : RdK w (.dist L) h) (hK' : RdK w (.dist M) k) :
    Calls Tryz.prog 267 #[h.a (.dist L), k.a (.dist M)] w (GivesA w (.dist (insAll L M))) :=
  (exMerge_any L M hx.1 hy.1 h.e.s k.e.s h.e.cap k.e.cap (by have : L.length + M.length ≤ 60 := hl; omega) hK.e.cap hK'.e.cap w hK.e.rd hK'.e.rd).mono fun _ _ h => GivesE.a h
theorem inMerge_cnt (L M : List Nat) (hx : Sk.Ok (.cnt L)) (hy : Sk.Ok (.cnt M)) (hl : (Sk.cnt L).len + (Sk.cnt M).len ≤ 60) (h k : SkH) (w : World) (hK : RdK w (.cnt L) h) (hK' : RdK w (.cnt M) k) :
    Calls Tryz.prog 305 #[h.a (.cnt L), k.a (.cnt M)] w (GivesA w (.cnt (zipC L M))) := by
  show Calls _ _ #[.agg #[.int .i64 2, .int .i64 32, .slice h.c.s L.length h.c.cap], .agg #[.int .i64 2, .int .i64 32, .slice k.c.s M.length k.c.cap]] w _
  have e := chg_zip 64 L M hx.2 hy.2
  rw [hx.2, hy.2, ← e]
  refine (cmMerge_any L M hx.2 hx.1 hy.2 hy.1 h.c.s k.c.s h.c.cap k.c.cap hK'.c.cap w hK.c.rd hK'.c.rd).mono fun _ _ h => GivesC0.a ?_ h
  rw [chg_length]; exact hx.2
theorem inMerge_hst (L M : List (Nat × Nat)) (hx : Sk.Ok (.hst L)) (hy : Sk.Ok (.hst M)) (hl : (Sk.hst L).len + (Sk.hst M).len ≤ 60) (h k : SkH) (w : World) (hK : RdK w (.hst L) h) (hK' : RdK w (.hst M) k) :
    Calls Tryz.prog 324 #[h.a (.hst L), k.a (.hst M)] w (GivesA w (.hst (mergeH L M))) :=
  (hiMerge_any L M hx.1 hy.1 h.g.s k.g.s h.g.cap k.g.cap (by have := hx.2.1; omega) (by have := hy.2.1; omega) hK.g.cap hK'.g.cap hx.2.2 hy.2.2 w hK.g.rd hK'.g.rd).mono fun _ _ h => GivesH0.a h
theorem ret_num {k : IntKind} {a b : Int} (h : a = b) : Ending.returned (.int k a) = .returned (.int k b) := by rw [h]
def IsAx (B : Nat) (x : Sk) : Value → World → Prop := fun v W => ∃ h : SkH, v = .tuple #[h.a x, .int .i64 0] ∧ RdK W x h ∧ FreshK B h
theorem stableAx (B : Nat) (x : Sk) : Stable (IsAx B x) := fun _ _ _ ⟨h, h1, h2, h3⟩ hb => ⟨h, h1, h2.keepB hb, h3⟩
def IsA0 (B : Nat) (x : Sk) : Value → World → Prop := fun v W => ∃ h : SkH, v = h.a x ∧ RdK W x h ∧ FreshK B h
theorem stableA0 (B : Nat) (x : Sk) : Stable (IsA0 B x) := fun _ _ _ ⟨h, h1, h2, h3⟩ hb => ⟨h, h1, h2.keepB hb, h3⟩
set_option maxHeartbeats 1000000 in
theorem badd_dist (L : List Nat) (hx : Sk.Ok (.dist L)) (hl : (Sk.dist L).len + 1 ≤ 60) (a n : Nat) (ha : a ≤ maxU) (hn : n ≤ maxU) (h : SkH) (w : World) (hK : RdK w (.dist L) h) :
    Calls Tryz.prog 258 #[h.a (.dist L), .agg #[.int .u64 (a : Int), .int .u64 (n : Int)]] w (GivesB w ((Sk.dist L).add a n)) := by
  have HI := Lib.hid (fun W hW => inAdd_dist L hx hl a n ha hn h W (hK.keepB hW))
  obtain ⟨⟨es, ec⟩, ⟨cs, cc⟩, ⟨gs, gc⟩⟩ := h
  simp only [SkH.a] at HI ⊢
  show Calls Tryz.prog 258 #[.agg #[.slice es L.length ec], .agg #[.int .u64 (a : Int), .int .u64 (n : Int)]] w (GivesB w (.dist (ins a L)))
  have st0 := ((St.start w).alloc (cs := #[.slice es L.length ec]) (T := 268)).alloc (cs := #[.int .u64 (a : Int), .int .u64 (n : Int)]) (T := 45)
  simp only [World.size_alloc] at st0
  clear hK hx hl ha hn
  go_enter Tryz.func258, Tryz.ntmps258
  go_wp2_with fail
  refine (HI.out _ st0.below).mono ?_
  rintro e w1 ⟨⟨⟨es9, ec9⟩, ⟨cs9, cc9⟩, ⟨gs9, gc9⟩⟩, rfl, hd, hf, hb1⟩
  simp only [SkH.a]
  have st1 := st0.to hb1
  have HD := Lib.hid (hd.keepB ((Below.refl w1.heap.size w1).alloc (Nat.le_refl _) (.cells #[.slice es9 (ins a L).length ec9] 94)))
  have HF := Lib.hid (hf.mono st0.below.size)
  have hb := (st1.alloc (cs := #[.slice es9 (ins a L).length ec9]) (T := 94)).below
  clear st0 hb1 hd hf HI st1
  go_wp2_with fail
  refine (ladTold_ok _ _).mono ?_
  rintro e w2 ⟨rfl, rfl⟩
  go_wp2_with fail
  go_ret2
  exact ⟨⟨⟨es9, ec9⟩, ⟨cs9, cc9⟩, ⟨gs9, gc9⟩⟩, rfl, HD.out, HF.out, hb⟩
theorem bcost_dist (L : List Nat) (hx : Sk.Ok (.dist L)) (h : SkH) (w : World) :
    Calls Tryz.prog 260 #[h.a (.dist L)] w fun e w' => e = .returned (.int .i64 ((Sk.dist L).cost - 16 : Nat)) ∧ Below w.heap.size w w' := by
  have hlen : L.length ≤ 1000 := hx.len.1
  obtain ⟨⟨es, ec⟩, ⟨cs, cc⟩, ⟨gs, gc⟩⟩ := h
  show Calls Tryz.prog 260 #[.agg #[.slice es L.length ec]] w _
  have hb := (Below.refl w.heap.size w).alloc (Nat.le_refl _) (.cells #[.slice es L.length ec] 268)
  have hc : (Sk.dist L).cost - 16 = 8 * L.length := Nat.add_sub_cancel _ _
  rw [hc]
  clear hc hx
  go_enter Tryz.func260, Tryz.ntmps260
  go_wp2_with fail
  go_ret
  exact ⟨ret_num (by push_cast; omega), hb⟩
theorem bask_dist (L : List Nat) (hx : Sk.Ok (.dist L)) (a : Nat) (ha : a ≤ maxU) (h : SkH) (w : World) (hK : RdK w (.dist L) h) :
    Calls Tryz.prog 259 #[h.a (.dist L), .int .u64 (a : Int)] w fun e w' => e = .returned (.int .u64 ((Sk.dist L).ask a : Nat)) ∧ Below w.heap.size w w' := by
  obtain ⟨⟨es, ec⟩, ⟨cs, cc⟩, ⟨gs, gc⟩⟩ := h
  show Calls Tryz.prog 259 #[.agg #[.slice es L.length ec], .int .u64 (a : Int)] w fun e w' => e = .returned (.int .u64 (L.length : Nat)) ∧ _
  have st0 := (St.start w).alloc (cs := #[.slice es L.length ec]) (T := 268)
  have HQ := Lib.hid (fun W hW => exCount_any L hx.1 es ec (by have := hx.2.2; omega) hK.e.cap W (hK.e.rd.keepB (Nat.le_refl _) hW))
  clear hK
  go_enter Tryz.func259, Tryz.ntmps259
  go_wp2_with fail
  refine (HQ.out _ st0.below).mono ?_
  rintro e w1 ⟨rfl, hb1⟩
  have hb := (st0.to hb1).below
  clear HQ
  go_wp2_with fail
  go_ret
  exact ⟨rfl, hb⟩
set_option maxHeartbeats 1000000 in
theorem badd_cnt (L : List Nat) (hx : Sk.Ok (.cnt L)) (hl : (Sk.cnt L).len + 1 ≤ 60) (a n : Nat) (ha : a ≤ maxU) (hn : n ≤ maxU) (h : SkH) (w : World) (hK : RdK w (.cnt L) h) :
    Calls Tryz.prog 297 #[h.a (.cnt L), .agg #[.int .u64 (a : Int), .int .u64 (n : Int)]] w (GivesB w ((Sk.cnt L).add a n)) := by
  have HI := Lib.hid (fun W hW => inAdd_cnt L hx hl a n ha hn h W (hK.keepB hW))
  obtain ⟨⟨es, ec⟩, ⟨cs, cc⟩, ⟨gs, gc⟩⟩ := h
  simp only [SkH.a] at HI ⊢
  show Calls Tryz.prog 297 #[.agg #[.int .i64 2, .int .i64 32, .slice cs L.length cc], .agg #[.int .u64 (a : Int), .int .u64 (n : Int)]] w (GivesB w (.cnt (addC L a n)))
  have st0 := ((St.start w).alloc (cs := #[.int .i64 2, .int .i64 32, .slice cs L.length cc]) (T := 272)).alloc (cs := #[.int .u64 (a : Int), .int .u64 (n : Int)]) (T := 45)
  simp only [World.size_alloc] at st0
  clear hK hx hl ha hn
  go_enter Tryz.func297, Tryz.ntmps297
  go_wp2_with fail
  refine (HI.out _ st0.below).mono ?_
  rintro e w1 ⟨⟨⟨es9, ec9⟩, ⟨cs9, cc9⟩, ⟨gs9, gc9⟩⟩, rfl, hd, hf, hb1⟩
  simp only [SkH.a]
  have st1 := st0.to hb1
  have HD := Lib.hid (hd.keepB ((Below.refl w1.heap.size w1).alloc (Nat.le_refl _) (.cells #[.int .i64 2, .int .i64 32, .slice cs9 (addC L a n).length cc9] 98)))
  have HF := Lib.hid (hf.mono st0.below.size)
  have hb := (st1.alloc (cs := #[.int .i64 2, .int .i64 32, .slice cs9 (addC L a n).length cc9]) (T := 98)).below
  clear st0 hb1 hd hf HI st1
  go_wp2_with fail
  refine (ladTold_ok _ _).mono ?_
  rintro e w2 ⟨rfl, rfl⟩
  go_wp2_with fail
  go_ret2
  exact ⟨⟨⟨es9, ec9⟩, ⟨cs9, cc9⟩, ⟨gs9, gc9⟩⟩, rfl, HD.out, HF.out, hb⟩
theorem bcost_cnt (L : List Nat) (hx : Sk.Ok (.cnt L)) (h : SkH) (w : World) :
    Calls Tryz.prog 299 #[h.a (.cnt L)] w fun e w' => e = .returned (.int .i64 ((Sk.cnt L).cost - 16 : Nat)) ∧ Below w.heap.size w w' := by
  have hlen : L.length ≤ 1000 := hx.len.2.1
  obtain ⟨⟨es, ec⟩, ⟨cs, cc⟩, ⟨gs, gc⟩⟩ := h
  show Calls Tryz.prog 299 #[.agg #[.int .i64 2, .int .i64 32, .slice cs L.length cc]] w _
  have hb := (Below.refl w.heap.size w).alloc (Nat.le_refl _) (.cells #[.int .i64 2, .int .i64 32, .slice cs L.length cc] 272)
  have hc : (Sk.cnt L).cost - 16 = 8 * L.length := Nat.add_sub_cancel _ _
  rw [hc]
  clear hc hx
  go_enter Tryz.func299, Tryz.ntmps299
  go_wp2_with fail
  go_ret
  exact ⟨ret_num (by push_cast; omega), hb⟩
theorem bask_cnt (L : List Nat) (hx : Sk.Ok (.cnt L)) (a : Nat) (ha : a ≤ maxU) (h : SkH) (w : World) (hK : RdK w (.cnt L) h) :
    Calls Tryz.prog 298 #[h.a (.cnt L), .int .u64 (a : Int)] w fun e w' => e = .returned (.int .u64 ((Sk.cnt L).ask a : Nat)) ∧ Below w.heap.size w w' := by
  obtain ⟨⟨es, ec⟩, ⟨cs, cc⟩, ⟨gs, gc⟩⟩ := h
  show Calls Tryz.prog 298 #[.agg #[.int .i64 2, .int .i64 32, .slice cs L.length cc], .int .u64 (a : Int)] w fun e w' => e = .returned (.int .u64 (countC L a : Nat)) ∧ _
  rw [hx.2]
  have st0 := (St.start w).alloc (cs := #[.int .i64 2, .int .i64 32, .slice cs 64 cc]) (T := 272)
  have HQ := Lib.hid (fun W hW => cmCount_any L hx.2 hx.1 cs cc a (by have := hK.c.cap; have := hx.2; simp [Sk.c] at *; omega) ha W (hK.c.rd.keepB (Nat.le_refl _) hW))
  clear hK
  go_enter Tryz.func298, Tryz.ntmps298
  go_wp2_with fail
  refine (HQ.out _ st0.below).mono ?_
  rintro e w1 ⟨rfl, hb1⟩
  have hb := (st0.to hb1).below
  clear HQ
  go_wp2_with fail
  go_ret
  exact ⟨rfl, hb⟩
set_option maxHeartbeats 1000000 in
theorem badd_hst (L : List (Nat × Nat)) (hx : Sk.Ok (.hst L)) (hl : (Sk.hst L).len + 1 ≤ 60) (a n : Nat) (ha : a ≤ maxU) (hn : n ≤ maxU) (h : SkH) (w : World) (hK : RdK w (.hst L) h) :
    Calls Tryz.prog 316 #[h.a (.hst L), .agg #[.int .u64 (a : Int), .int .u64 (n : Int)]] w (GivesB w ((Sk.hst L).add a n)) := by
  have HI := Lib.hid (fun W hW => inAdd_hst L hx hl a n ha hn h W (hK.keepB hW))
  obtain ⟨⟨es, ec⟩, ⟨cs, cc⟩, ⟨gs, gc⟩⟩ := h
  simp only [SkH.a] at HI ⊢
  show Calls Tryz.prog 316 #[.agg #[.int .i64 3, .slice gs L.length gc], .agg #[.int .u64 (a : Int), .int .u64 (n : Int)]] w (GivesB w (.hst (putH (bkt a) n L)))
  have st0 := ((St.start w).alloc (cs := #[.int .i64 3, .slice gs L.length gc]) (T := 274)).alloc (cs := #[.int .u64 (a : Int), .int .u64 (n : Int)]) (T := 45)
  simp only [World.size_alloc] at st0
  clear hK hx hl ha hn
  go_enter Tryz.func316, Tryz.ntmps316
  go_wp2_with fail
  refine (HI.out _ st0.below).mono ?_
  rintro e w1 ⟨⟨⟨es9, ec9⟩, ⟨cs9, cc9⟩, ⟨gs9, gc9⟩⟩, rfl, hd, hf, hb1⟩
  simp only [SkH.a]
  have st1 := st0.to hb1
  have HD := Lib.hid (hd.keepB ((Below.refl w1.heap.size w1).alloc (Nat.le_refl _) (.cells #[.int .i64 3, .slice gs9 (putH (bkt a) n L).length gc9] 101)))
  have HF := Lib.hid (hf.mono st0.below.size)
  have hb := (st1.alloc (cs := #[.int .i64 3, .slice gs9 (putH (bkt a) n L).length gc9]) (T := 101)).below
  clear st0 hb1 hd hf HI st1
  go_wp2_with fail
  refine (ladTold_ok _ _).mono ?_
  rintro e w2 ⟨rfl, rfl⟩
  go_wp2_with fail
  go_ret2
  exact ⟨⟨⟨es9, ec9⟩, ⟨cs9, cc9⟩, ⟨gs9, gc9⟩⟩, rfl, HD.out, HF.out, hb⟩
theorem bcost_hst (L : List (Nat × Nat)) (hx : Sk.Ok (.hst L)) (h : SkH) (w : World) :
    Calls Tryz.prog 318 #[h.a (.hst L)] w fun e w' => e = .returned (.int .i64 ((Sk.hst L).cost - 16 : Nat)) ∧ Below w.heap.size w w' := by
  have hlen : L.length ≤ 1000 := hx.len.2.2
  obtain ⟨⟨es, ec⟩, ⟨cs, cc⟩, ⟨gs, gc⟩⟩ := h
  show Calls Tryz.prog 318 #[.agg #[.int .i64 3, .slice gs L.length gc]] w _
  have hb := (Below.refl w.heap.size w).alloc (Nat.le_refl _) (.cells #[.int .i64 3, .slice gs L.length gc] 274)
  have hc : (Sk.hst L).cost - 16 = 16 * L.length := Nat.add_sub_cancel _ _
  rw [hc]
  clear hc hx
  go_enter Tryz.func318, Tryz.ntmps318
  go_wp2_with fail
  go_ret
  exact ⟨ret_num (by push_cast; omega), hb⟩
theorem bask_hst (L : List (Nat × Nat)) (hx : Sk.Ok (.hst L)) (a : Nat) (ha : a ≤ maxU) (h : SkH) (w : World) (hK : RdK w (.hst L) h) :
    Calls Tryz.prog 317 #[h.a (.hst L), .int .u64 (a : Int)] w fun e w' => e = .returned (.int .u64 ((Sk.hst L).ask a : Nat)) ∧ Below w.heap.size w w' := by
  obtain ⟨⟨es, ec⟩, ⟨cs, cc⟩, ⟨gs, gc⟩⟩ := h
  show Calls Tryz.prog 317 #[.agg #[.int .i64 3, .slice gs L.length gc], .int .u64 (a : Int)] w fun e w' => e = .returned (.int .u64 (min (sumH (bkt a) L) maxU : Nat)) ∧ _
  have st0 := (St.start w).alloc (cs := #[.int .i64 3, .slice gs L.length gc]) (T := 274)
  have HQ := Lib.hid (fun W hW => hiRank_any L hx.1 gs gc (by have := hx.2.1; omega) hK.g.cap a ha W (hK.g.rd.keepB (Nat.le_refl _) hW))
  clear hK
  go_enter Tryz.func317, Tryz.ntmps317
  go_wp2_with fail
  refine (HQ.out _ st0.below).mono ?_
  rintro e w1 ⟨rfl, hb1⟩
  have hb := (st0.to hb1).below
  clear HQ
  go_wp2_with fail
  go_ret
  exact ⟨rfl, hb⟩
end Go.Proofs.YtmgdbfmlnmahpaaGreatDoor
namespace Go.Proofs.YtmgdbfmlnmahpaaGreatDoor
open Go.RowKit Go.Shelf
set_option linter.unusedSimpArgs false
set_option linter.unusedVariables false
set_option maxRecDepth 100000
def OnlyAt (b : Nat) (W W' : World) : Prop := (∀ k, k ≠ b → W'.heap[k]? = W.heap[k]?) ∧ W'.heap.size = W.heap.size
theorem OnlyAt.refl (b : Nat) (W : World) : OnlyAt b W W := ⟨fun _ _ => rfl, rfl⟩
theorem OnlyAt.set {b o : Nat} {W W' : World} (h : OnlyAt b W W') (v : Value) : OnlyAt b W (W'.setCell ⟨b, o, .none⟩ v) :=
  ⟨fun k hk => (Below.heap_setCell W' ⟨b, o, .none⟩ v k hk).trans (h.1 k hk), by rw [← h.2]; simp [World.setCell]⟩
def NoU (cs : Array Value) : Prop := ∀ o n : Nat, cs[o]? ≠ some (.int .u64 (n : Int))
theorem RdH.foreign {α : Type} {k : Nat} {enc : α → List Value} (henc : ∀ x, ∃ (j n : Nat), (enc x)[j]? = some (.int .u64 (n : Int))) {W W' : World} {h : Hd} {L : List α} (r : RdH k enc W h L) {b : Nat} {cs : Array Value} {T : TypeId} (hb : W.heap[b]? = some (.cells cs T (0, 0))) (hn : NoU cs) (ho : OnlyAt b W W') : RdH k enc W' h L := by
  refine ⟨fun i x hx => ?_, r.cap, r.max, r.nil, r.plain⟩
  obtain ⟨g, o, e, hg, hc⟩ := r.rd i x hx
  obtain ⟨j, n, hj⟩ := henc x
  have hne : g ≠ b := by
    rintro rfl
    have := hc j _ hj
    rw [blk_cell hb] at this
    exact hn _ _ this
  refine ⟨g, o, e, by rw [ho.2]; exact hg, fun j u hu => ?_⟩
  rw [← hc j u hu]
  simp only [World.cell?, ho.1 g hne]
theorem encU_u (n : Nat) : ∃ j m : Nat, (encU n)[j]? = some (.int .u64 (m : Int)) := ⟨0, n, rfl⟩
theorem encB_u (x : Nat × Nat) : ∃ j m : Nat, (encB x)[j]? = some (.int .u64 (m : Int)) := ⟨1, x.2, rfl⟩
theorem RdK.foreign {W W' : World} {x : Sk} {h : SkH} (r : RdK W x h) {b : Nat} {cs : Array Value} {T : TypeId} (hb : W.heap[b]? = some (.cells cs T (0, 0))) (hn : NoU cs) (ho : OnlyAt b W W') : RdK W' x h :=
  ⟨r.e.foreign encU_u hb hn ho, r.c.foreign encU_u hb hn ho, r.g.foreign encB_u hb hn ho⟩
theorem NoU.one {a : Value} (ha : ∀ n : Nat, a ≠ .int .u64 (n : Int)) : NoU #[a] := by
  intro o n h
  match o with
  | 0 => simp at h; exact ha n h
  | o + 1 => simp at h
theorem NoU.two {a b : Value} (ha : ∀ n : Nat, a ≠ .int .u64 (n : Int)) (hb : ∀ n : Nat, b ≠ .int .u64 (n : Int)) : NoU #[a, b] := by
  intro o n h
  match o with
  | 0 => simp at h; exact ha n h
  | 1 => simp at h; exact hb n h
  | o + 2 => simp at h
theorem NoU.three {a b c : Value} (ha : ∀ n : Nat, a ≠ .int .u64 (n : Int)) (hb : ∀ n : Nat, b ≠ .int .u64 (n : Int)) (hc : ∀ n : Nat, c ≠ .int .u64 (n : Int)) : NoU #[a, b, c] := by
  intro o n h
  match o with
  | 0 => simp at h; exact ha n h
  | 1 => simp at h; exact hb n h
  | 2 => simp at h; exact hc n h
  | o + 3 => simp at h
set_option maxHeartbeats 2000000 in
theorem bmerge_dist (L M : List Nat) (hx : Sk.Ok (.dist L)) (hy : Sk.Ok (.dist M)) (hl : (Sk.dist L).len + (Sk.dist M).len ≤ 60) (h k : SkH) (w : World) (hK : RdK w (.dist L) h) (hK' : RdK w (.dist M) k) :
    Calls Tryz.prog 262 #[h.a (.dist L), k.b (.dist M)] w (GivesB w ((Sk.dist L).merge (.dist M))) := by
  have HI := Lib.hid (fun W hW => inMerge_dist L M hx hy hl h k W (hK.keepB hW) (hK'.keepB hW))
  obtain ⟨⟨es, ec⟩, ⟨cs, cc⟩, ⟨gs, gc⟩⟩ := h
  obtain ⟨⟨es2, ec2⟩, ⟨cs2, cc2⟩, ⟨gs2, gc2⟩⟩ := k
  simp only [SkH.a] at HI ⊢
  show Calls Tryz.prog 262 #[.agg #[.slice es L.length ec], .iface 268 (.agg #[.slice es2 M.length ec2])] w (GivesB w (.dist (insAll L M)))
  generalize (insAll L M) = R at *
  have st0 := (St.start w).alloc (cs := #[.slice es L.length ec]) (T := 268)
  clear hK hK' hx hy hl
  go_enter Tryz.func262, Tryz.ntmps262
  go_wp2_with fail
  refine region_late 10 8 (.int .i64 0) (Fs [IsVal (.pointer (some ⟨w.heap.size, 0, none⟩)), IsVal (.agg #[.slice es L.length ec]), IsVal (.iface 268 (.agg #[.slice es2 M.length ec2])), IsVal (.agg #[.slice es2 M.length ec2]), IsVal (.agg #[.slice es2 M.length ec2]), IsAx w.heap.size (.dist R), IsAx w.heap.size (.dist R), IsA0 w.heap.size (.dist R), IsVal (.int .i64 0), IsNew w.heap.size #[.slice none 0 0] 94]) (by kernel_rfl) (by kernel_rfl) (by kernel_rfl) (Fs_stable _ ?stab) ?spec ?late (fun _ => rfl) ?store ?endd
  case stab =>
    simp only [List.forall_mem_cons]
    exact ⟨stableVal _, stableVal _, stableVal _, stableVal _, stableVal _, stableAx _ _, stableAx _ _, stableA0 _ _, stableVal _, stableNew _ _ _, by simp⟩
  case spec =>
    refine ⟨?_, ?_, ?_, ?_, ?_, ?_, ?_, ?_, ?_, ?_, trivial⟩
    · intro a W hW hu hd
      have kc : ∀ c, a.eval (Operand.const c) = c := fun _ => rfl
      have kf : ∀ f, a.eval (Operand.func f) = .func (.func f) #[] #[] := fun _ => rfl
      have sW := st0.to hW
      have rl := sW.rules
      simp only [Rules, World.size_alloc] at rl
      have u2 : a.eval (Operand.tmp 2) = .pointer (some ⟨w.heap.size, 0, none⟩) := hu 2 (by decide)
      unfold StepOk
      rw [if_pos (by rfl)]
      clear hu hd
      generalize a.eval = ρ at *
      go_simp
      exact opOk_val rfl
    · intro a W hW hu hd
      have kc : ∀ c, a.eval (Operand.const c) = c := fun _ => rfl
      have kf : ∀ f, a.eval (Operand.func f) = .func (.func f) #[] #[] := fun _ => rfl
      have sW := st0.to hW
      have rl := sW.rules
      simp only [Rules, World.size_alloc] at rl
      have u9 : a.eval (Operand.tmp 9) = .pointer (some ⟨w.heap.size, 0, none⟩) := hd 0 9 (by kernel_rfl) rfl
      unfold StepOk
      rw [if_pos (by rfl)]
      clear hu hd
      generalize a.eval = ρ at *
      go_simp
      exact opOk_val rfl
    · intro a W hW hu hd
      have kc : ∀ c, a.eval (Operand.const c) = c := fun _ => rfl
      have kf : ∀ f, a.eval (Operand.func f) = .func (.func f) #[] #[] := fun _ => rfl
      have sW := st0.to hW
      have rl := sW.rules
      simp only [Rules, World.size_alloc] at rl
      have u1 : a.eval (Operand.tmp 1) = .iface 268 (.agg #[.slice es2 M.length ec2]) := hu 1 (by decide)
      unfold StepOk
      rw [if_pos (by rfl)]
      clear hu hd
      generalize a.eval = ρ at *
      go_simp
      exact opOk_val rfl
    · intro a W hW hu hd
      have kc : ∀ c, a.eval (Operand.const c) = c := fun _ => rfl
      have kf : ∀ f, a.eval (Operand.func f) = .func (.func f) #[] #[] := fun _ => rfl
      have sW := st0.to hW
      have rl := sW.rules
      simp only [Rules, World.size_alloc] at rl
      have u11 : a.eval (Operand.tmp 11) = .iface 268 (.agg #[.slice es2 M.length ec2]) := hd 2 11 (by kernel_rfl) rfl
      unfold StepOk
      rw [if_pos (by rfl)]
      clear hu hd
      generalize a.eval = ρ at *
      go_simp
      exact opOk_val rfl
    · intro a W hW hu hd
      have kc : ∀ c, a.eval (Operand.const c) = c := fun _ => rfl
      have kf : ∀ f, a.eval (Operand.func f) = .func (.func f) #[] #[] := fun _ => rfl
      have sW := st0.to hW
      have rl := sW.rules
      simp only [Rules, World.size_alloc] at rl
      have u12 : a.eval (Operand.tmp 12) = .agg #[.slice es2 M.length ec2] := hd 3 12 (by kernel_rfl) rfl
      unfold StepOk
      rw [if_pos (by rfl)]
      clear hu hd
      generalize a.eval = ρ at *
      go_simp
      exact opOk_val rfl
    · intro a W hW hu hd
      have kc : ∀ c, a.eval (Operand.const c) = c := fun _ => rfl
      have kf : ∀ f, a.eval (Operand.func f) = .func (.func f) #[] #[] := fun _ => rfl
      have sW := st0.to hW
      have rl := sW.rules
      simp only [Rules, World.size_alloc] at rl
      have u10 : a.eval (Operand.tmp 10) = .agg #[.slice es L.length ec] := hd 1 10 (by kernel_rfl) rfl
      have u13 : a.eval (Operand.tmp 13) = .agg #[.slice es2 M.length ec2] := hd 4 13 (by kernel_rfl) rfl
      unfold StepOk
      rw [if_pos (by rfl)]
      clear hu hd
      generalize a.eval = ρ at *
      go_simp
      refine ⟨Below.refl _ _, (HI.out W sW.below).mono ?_⟩
      rintro e w' ⟨h9, rfl, hd9, hf9, hb'⟩
      exact ⟨_, rfl, hb', h9, rfl, hd9, hf9.mono sW.below.size⟩
    · intro a W hW hu hd
      have kc : ∀ c, a.eval (Operand.const c) = c := fun _ => rfl
      have kf : ∀ f, a.eval (Operand.func f) = .func (.func f) #[] #[] := fun _ => rfl
      have sW := st0.to hW
      have rl := sW.rules
      simp only [Rules, World.size_alloc] at rl
      have f14 : IsAx w.heap.size (.dist R) (a.eval (Operand.tmp 14)) W := hd 5 14 (by kernel_rfl) rfl
      obtain ⟨h9, u14, hd9, hf9⟩ := f14
      unfold StepOk
      rw [if_pos (by rfl)]
      clear hu hd
      generalize a.eval = ρ at *
      go_simp
      exact opOk_val ⟨h9, rfl, hd9, hf9⟩
    · intro a W hW hu hd
      have kc : ∀ c, a.eval (Operand.const c) = c := fun _ => rfl
      have kf : ∀ f, a.eval (Operand.func f) = .func (.func f) #[] #[] := fun _ => rfl
      have sW := st0.to hW
      have rl := sW.rules
      simp only [Rules, World.size_alloc] at rl
      have f8 : IsAx w.heap.size (.dist R) (a.eval (Operand.tmp 8)) W := hd 6 8 (by kernel_rfl) rfl
      obtain ⟨h9, u8, hd9, hf9⟩ := f8
      unfold StepOk
      rw [if_pos (by rfl)]
      clear hu hd
      generalize a.eval = ρ at *
      go_simp
      exact opOk_val ⟨h9, rfl, hd9, hf9⟩
    · intro a W hW hu hd
      have kc : ∀ c, a.eval (Operand.const c) = c := fun _ => rfl
      have kf : ∀ f, a.eval (Operand.func f) = .func (.func f) #[] #[] := fun _ => rfl
      have sW := st0.to hW
      have rl := sW.rules
      simp only [Rules, World.size_alloc] at rl
      have f8 : IsAx w.heap.size (.dist R) (a.eval (Operand.tmp 8)) W := hd 6 8 (by kernel_rfl) rfl
      obtain ⟨h9, u8, hd9, hf9⟩ := f8
      unfold StepOk
      rw [if_pos (by rfl)]
      clear hu hd
      generalize a.eval = ρ at *
      go_simp
      exact opOk_val rfl
    · intro a W hW hu hd
      have kc : ∀ c, a.eval (Operand.const c) = c := fun _ => rfl
      have kf : ∀ f, a.eval (Operand.func f) = .func (.func f) #[] #[] := fun _ => rfl
      have sW := st0.to hW
      have rl := sW.rules
      simp only [Rules, World.size_alloc] at rl
      unfold StepOk
      rw [if_pos (by rfl)]
      clear hu hd
      generalize a.eval = ρ at *
      go_simp
      exact opOk_new sW.below.size
  case late =>
    intro oq hoq a W hW hu hd W'
    cases hoq
    obtain ⟨h9, u8, hd9, hf9⟩ : IsAx w.heap.size (.dist R) (a.eval (Operand.tmp 8)) W := hd 6 8 (by kernel_rfl) rfl
    clear hu hd
    generalize a.eval = ρ at *
    go_simp
  case store =>
    intro os hos a W hW hu hd
    cases hos
    have sW := st0.to hW
    obtain ⟨h9, u15, hd9, hf9⟩ : IsA0 w.heap.size (.dist R) (a.eval (Operand.tmp 15)) W := hd 7 15 (by kernel_rfl) rfl
    simp only [SkH.a] at u15
    obtain ⟨A9, u6, hA9, hN9⟩ : IsNew w.heap.size #[.slice none 0 0] 94 (a.eval (Operand.tmp 6)) W := hd 9 6 (by kernel_rfl) rfl
    have rl := blk_cell hN9
    have rf := blk_free hN9
    clear hu hd
    generalize a.eval = ρ at *
    go_simp
  case endd =>
    intro v W hW hv
    have v0 : v 0 = (.pointer (some ⟨w.heap.size, 0, none⟩)) := hv 0 (by omega)
    have v1 : v 1 = (.agg #[.slice es L.length ec]) := hv 1 (by omega)
    have v2 : v 2 = (.iface 268 (.agg #[.slice es2 M.length ec2])) := hv 2 (by omega)
    have v3 : v 3 = (.agg #[.slice es2 M.length ec2]) := hv 3 (by omega)
    have v4 : v 4 = (.agg #[.slice es2 M.length ec2]) := hv 4 (by omega)
    have hf5 : IsAx w.heap.size (.dist R) (v 5) W := hv 5 (by omega)
    have hf6 : IsAx w.heap.size (.dist R) (v 6) W := hv 6 (by omega)
    have hf7 : IsA0 w.heap.size (.dist R) (v 7) W := hv 7 (by omega)
    have v8 : v 8 = (.int .i64 0) := hv 8 (by omega)
    obtain ⟨A9, v9, hA9, hN9⟩ : IsNew w.heap.size #[.slice none 0 0] 94 (v 9) W := hv 9 (by omega)
    clear hv
    simp only [List.take_succ_cons, List.take_zero, List.drop_succ_cons, List.drop_zero, putAll, Nat.zero_add, Nat.reduceAdd]
    rw [v0, v1, v2, v3, v4, v8, v9]
    clear v0 v1 v2 v3 v4 v8 v9
    have sW := st0.to hW
    obtain ⟨⟨⟨es9, ec9⟩, ⟨cs9, cc9⟩, ⟨gs9, gc9⟩⟩, vR, hd9, hf9⟩ := hf7
    rw [vR]
    simp only [SkH.a]
    generalize v 5 = v5 at *
    generalize v 6 = v6 at *
    have rl := blk_cell hN9
    have rf := blk_free hN9
    have hlt := blk_lt hN9
    have HD := Lib.hid (hd9)
    have HF := Lib.hid hf9
    have HN := Lib.hid hN9
    have hb := sW.below
    clear hf5 hf6 hd9 hf9 vR hN9 sW hW st0 HI
    go_wp2_with fail
    refine (ladTold_ok _ _).mono ?_
    rintro e w2 ⟨rfl, rfl⟩
    go_wp2_with fail
    go_ret2
    refine ⟨⟨⟨es9, ec9⟩, ⟨cs9, cc9⟩, ⟨gs9, gc9⟩⟩, rfl, RdK.foreign HD.out HN.out (NoU.one (by intro n e; cases e)) ?_, HF.out, ?_⟩
    · repeat (with_reducible refine OnlyAt.set ?_ _)
      exact OnlyAt.refl _ _
    · repeat (with_reducible refine Below.setCell ?_ (by simpa using hA9) _)
      exact hb
set_option maxHeartbeats 2000000 in
theorem bmerge_cnt (L M : List Nat) (hx : Sk.Ok (.cnt L)) (hy : Sk.Ok (.cnt M)) (hl : (Sk.cnt L).len + (Sk.cnt M).len ≤ 60) (h k : SkH) (w : World) (hK : RdK w (.cnt L) h) (hK' : RdK w (.cnt M) k) :
    Calls Tryz.prog 301 #[h.a (.cnt L), k.b (.cnt M)] w (GivesB w ((Sk.cnt L).merge (.cnt M))) := by
  have HI := Lib.hid (fun W hW => inMerge_cnt L M hx hy hl h k W (hK.keepB hW) (hK'.keepB hW))
  obtain ⟨⟨es, ec⟩, ⟨cs, cc⟩, ⟨gs, gc⟩⟩ := h
  obtain ⟨⟨es2, ec2⟩, ⟨cs2, cc2⟩, ⟨gs2, gc2⟩⟩ := k
  simp only [SkH.a] at HI ⊢
  show Calls Tryz.prog 301 #[.agg #[.int .i64 2, .int .i64 32, .slice cs L.length cc], .iface 272 (.agg #[.int .i64 2, .int .i64 32, .slice cs2 M.length cc2])] w (GivesB w (.cnt (zipC L M)))
  generalize (zipC L M) = R at *
  have st0 := (St.start w).alloc (cs := #[.int .i64 2, .int .i64 32, .slice cs L.length cc]) (T := 272)
  clear hK hK' hx hy hl
  go_enter Tryz.func301, Tryz.ntmps301
  go_wp2_with fail
  refine region_late 10 8 (.int .i64 0) (Fs [IsVal (.pointer (some ⟨w.heap.size, 0, none⟩)), IsVal (.agg #[.int .i64 2, .int .i64 32, .slice cs L.length cc]), IsVal (.iface 272 (.agg #[.int .i64 2, .int .i64 32, .slice cs2 M.length cc2])), IsVal (.agg #[.int .i64 2, .int .i64 32, .slice cs2 M.length cc2]), IsVal (.agg #[.int .i64 2, .int .i64 32, .slice cs2 M.length cc2]), IsAx w.heap.size (.cnt R), IsAx w.heap.size (.cnt R), IsA0 w.heap.size (.cnt R), IsVal (.int .i64 0), IsNew w.heap.size #[.int .i64 0, .int .i64 0, .slice none 0 0] 98]) (by kernel_rfl) (by kernel_rfl) (by kernel_rfl) (Fs_stable _ ?stab) ?spec ?late (fun _ => rfl) ?store ?endd
  case stab =>
    simp only [List.forall_mem_cons]
    exact ⟨stableVal _, stableVal _, stableVal _, stableVal _, stableVal _, stableAx _ _, stableAx _ _, stableA0 _ _, stableVal _, stableNew _ _ _, by simp⟩
  case spec =>
    refine ⟨?_, ?_, ?_, ?_, ?_, ?_, ?_, ?_, ?_, ?_, trivial⟩
    · intro a W hW hu hd
      have kc : ∀ c, a.eval (Operand.const c) = c := fun _ => rfl
      have kf : ∀ f, a.eval (Operand.func f) = .func (.func f) #[] #[] := fun _ => rfl
      have sW := st0.to hW
      have rl := sW.rules
      simp only [Rules, World.size_alloc] at rl
      have u2 : a.eval (Operand.tmp 2) = .pointer (some ⟨w.heap.size, 0, none⟩) := hu 2 (by decide)
      unfold StepOk
      rw [if_pos (by rfl)]
      clear hu hd
      generalize a.eval = ρ at *
      go_simp
      exact opOk_val rfl
    · intro a W hW hu hd
      have kc : ∀ c, a.eval (Operand.const c) = c := fun _ => rfl
      have kf : ∀ f, a.eval (Operand.func f) = .func (.func f) #[] #[] := fun _ => rfl
      have sW := st0.to hW
      have rl := sW.rules
      simp only [Rules, World.size_alloc] at rl
      have u9 : a.eval (Operand.tmp 9) = .pointer (some ⟨w.heap.size, 0, none⟩) := hd 0 9 (by kernel_rfl) rfl
      unfold StepOk
      rw [if_pos (by rfl)]
      clear hu hd
      generalize a.eval = ρ at *
      go_simp
      exact opOk_val rfl
    · intro a W hW hu hd
      have kc : ∀ c, a.eval (Operand.const c) = c := fun _ => rfl
      have kf : ∀ f, a.eval (Operand.func f) = .func (.func f) #[] #[] := fun _ => rfl
      have sW := st0.to hW
      have rl := sW.rules
      simp only [Rules, World.size_alloc] at rl
      have u1 : a.eval (Operand.tmp 1) = .iface 272 (.agg #[.int .i64 2, .int .i64 32, .slice cs2 M.length cc2]) := hu 1 (by decide)
      unfold StepOk
      rw [if_pos (by rfl)]
      clear hu hd
      generalize a.eval = ρ at *
      go_simp
      exact opOk_val rfl
    · intro a W hW hu hd
      have kc : ∀ c, a.eval (Operand.const c) = c := fun _ => rfl
      have kf : ∀ f, a.eval (Operand.func f) = .func (.func f) #[] #[] := fun _ => rfl
      have sW := st0.to hW
      have rl := sW.rules
      simp only [Rules, World.size_alloc] at rl
      have u11 : a.eval (Operand.tmp 11) = .iface 272 (.agg #[.int .i64 2, .int .i64 32, .slice cs2 M.length cc2]) := hd 2 11 (by kernel_rfl) rfl
      unfold StepOk
      rw [if_pos (by rfl)]
      clear hu hd
      generalize a.eval = ρ at *
      go_simp
      exact opOk_val rfl
    · intro a W hW hu hd
      have kc : ∀ c, a.eval (Operand.const c) = c := fun _ => rfl
      have kf : ∀ f, a.eval (Operand.func f) = .func (.func f) #[] #[] := fun _ => rfl
      have sW := st0.to hW
      have rl := sW.rules
      simp only [Rules, World.size_alloc] at rl
      have u12 : a.eval (Operand.tmp 12) = .agg #[.int .i64 2, .int .i64 32, .slice cs2 M.length cc2] := hd 3 12 (by kernel_rfl) rfl
      unfold StepOk
      rw [if_pos (by rfl)]
      clear hu hd
      generalize a.eval = ρ at *
      go_simp
      exact opOk_val rfl
    · intro a W hW hu hd
      have kc : ∀ c, a.eval (Operand.const c) = c := fun _ => rfl
      have kf : ∀ f, a.eval (Operand.func f) = .func (.func f) #[] #[] := fun _ => rfl
      have sW := st0.to hW
      have rl := sW.rules
      simp only [Rules, World.size_alloc] at rl
      have u10 : a.eval (Operand.tmp 10) = .agg #[.int .i64 2, .int .i64 32, .slice cs L.length cc] := hd 1 10 (by kernel_rfl) rfl
      have u13 : a.eval (Operand.tmp 13) = .agg #[.int .i64 2, .int .i64 32, .slice cs2 M.length cc2] := hd 4 13 (by kernel_rfl) rfl
      unfold StepOk
      rw [if_pos (by rfl)]
      clear hu hd
      generalize a.eval = ρ at *
      go_simp
      refine ⟨Below.refl _ _, (HI.out W sW.below).mono ?_⟩
      rintro e w' ⟨h9, rfl, hd9, hf9, hb'⟩
      exact ⟨_, rfl, hb', h9, rfl, hd9, hf9.mono sW.below.size⟩
    · intro a W hW hu hd
      have kc : ∀ c, a.eval (Operand.const c) = c := fun _ => rfl
      have kf : ∀ f, a.eval (Operand.func f) = .func (.func f) #[] #[] := fun _ => rfl
      have sW := st0.to hW
      have rl := sW.rules
      simp only [Rules, World.size_alloc] at rl
      have f14 : IsAx w.heap.size (.cnt R) (a.eval (Operand.tmp 14)) W := hd 5 14 (by kernel_rfl) rfl
      obtain ⟨h9, u14, hd9, hf9⟩ := f14
      unfold StepOk
      rw [if_pos (by rfl)]
      clear hu hd
      generalize a.eval = ρ at *
      go_simp
      exact opOk_val ⟨h9, rfl, hd9, hf9⟩
    · intro a W hW hu hd
      have kc : ∀ c, a.eval (Operand.const c) = c := fun _ => rfl
      have kf : ∀ f, a.eval (Operand.func f) = .func (.func f) #[] #[] := fun _ => rfl
      have sW := st0.to hW
      have rl := sW.rules
      simp only [Rules, World.size_alloc] at rl
      have f8 : IsAx w.heap.size (.cnt R) (a.eval (Operand.tmp 8)) W := hd 6 8 (by kernel_rfl) rfl
      obtain ⟨h9, u8, hd9, hf9⟩ := f8
      unfold StepOk
      rw [if_pos (by rfl)]
      clear hu hd
      generalize a.eval = ρ at *
      go_simp
      exact opOk_val ⟨h9, rfl, hd9, hf9⟩
    · intro a W hW hu hd
      have kc : ∀ c, a.eval (Operand.const c) = c := fun _ => rfl
      have kf : ∀ f, a.eval (Operand.func f) = .func (.func f) #[] #[] := fun _ => rfl
      have sW := st0.to hW
      have rl := sW.rules
      simp only [Rules, World.size_alloc] at rl
      have f8 : IsAx w.heap.size (.cnt R) (a.eval (Operand.tmp 8)) W := hd 6 8 (by kernel_rfl) rfl
      obtain ⟨h9, u8, hd9, hf9⟩ := f8
      unfold StepOk
      rw [if_pos (by rfl)]
      clear hu hd
      generalize a.eval = ρ at *
      go_simp
      exact opOk_val rfl
    · intro a W hW hu hd
      have kc : ∀ c, a.eval (Operand.const c) = c := fun _ => rfl
      have kf : ∀ f, a.eval (Operand.func f) = .func (.func f) #[] #[] := fun _ => rfl
      have sW := st0.to hW
      have rl := sW.rules
      simp only [Rules, World.size_alloc] at rl
      unfold StepOk
      rw [if_pos (by rfl)]
      clear hu hd
      generalize a.eval = ρ at *
      go_simp
      exact opOk_new sW.below.size
  case late =>
    intro oq hoq a W hW hu hd W'
    cases hoq
    obtain ⟨h9, u8, hd9, hf9⟩ : IsAx w.heap.size (.cnt R) (a.eval (Operand.tmp 8)) W := hd 6 8 (by kernel_rfl) rfl
    clear hu hd
    generalize a.eval = ρ at *
    go_simp
  case store =>
    intro os hos a W hW hu hd
    cases hos
    have sW := st0.to hW
    obtain ⟨h9, u15, hd9, hf9⟩ : IsA0 w.heap.size (.cnt R) (a.eval (Operand.tmp 15)) W := hd 7 15 (by kernel_rfl) rfl
    simp only [SkH.a] at u15
    obtain ⟨A9, u6, hA9, hN9⟩ : IsNew w.heap.size #[.int .i64 0, .int .i64 0, .slice none 0 0] 98 (a.eval (Operand.tmp 6)) W := hd 9 6 (by kernel_rfl) rfl
    have rl := blk_cell hN9
    have rf := blk_free hN9
    clear hu hd
    generalize a.eval = ρ at *
    go_simp
  case endd =>
    intro v W hW hv
    have v0 : v 0 = (.pointer (some ⟨w.heap.size, 0, none⟩)) := hv 0 (by omega)
    have v1 : v 1 = (.agg #[.int .i64 2, .int .i64 32, .slice cs L.length cc]) := hv 1 (by omega)
    have v2 : v 2 = (.iface 272 (.agg #[.int .i64 2, .int .i64 32, .slice cs2 M.length cc2])) := hv 2 (by omega)
    have v3 : v 3 = (.agg #[.int .i64 2, .int .i64 32, .slice cs2 M.length cc2]) := hv 3 (by omega)
    have v4 : v 4 = (.agg #[.int .i64 2, .int .i64 32, .slice cs2 M.length cc2]) := hv 4 (by omega)
    have hf5 : IsAx w.heap.size (.cnt R) (v 5) W := hv 5 (by omega)
    have hf6 : IsAx w.heap.size (.cnt R) (v 6) W := hv 6 (by omega)
    have hf7 : IsA0 w.heap.size (.cnt R) (v 7) W := hv 7 (by omega)
    have v8 : v 8 = (.int .i64 0) := hv 8 (by omega)
    obtain ⟨A9, v9, hA9, hN9⟩ : IsNew w.heap.size #[.int .i64 0, .int .i64 0, .slice none 0 0] 98 (v 9) W := hv 9 (by omega)
    clear hv
    simp only [List.take_succ_cons, List.take_zero, List.drop_succ_cons, List.drop_zero, putAll, Nat.zero_add, Nat.reduceAdd]
    rw [v0, v1, v2, v3, v4, v8, v9]
    clear v0 v1 v2 v3 v4 v8 v9
    have sW := st0.to hW
    obtain ⟨⟨⟨es9, ec9⟩, ⟨cs9, cc9⟩, ⟨gs9, gc9⟩⟩, vR, hd9, hf9⟩ := hf7
    rw [vR]
    simp only [SkH.a]
    generalize v 5 = v5 at *
    generalize v 6 = v6 at *
    have rl := blk_cell hN9
    have rf := blk_free hN9
    have hlt := blk_lt hN9
    have HD := Lib.hid (hd9)
    have HF := Lib.hid hf9
    have HN := Lib.hid hN9
    have hb := sW.below
    clear hf5 hf6 hd9 hf9 vR hN9 sW hW st0 HI
    go_wp2_with fail
    refine (ladTold_ok _ _).mono ?_
    rintro e w2 ⟨rfl, rfl⟩
    go_wp2_with fail
    go_ret2
    refine ⟨⟨⟨es9, ec9⟩, ⟨cs9, cc9⟩, ⟨gs9, gc9⟩⟩, rfl, RdK.foreign HD.out HN.out (NoU.three (by intro n e; cases e) (by intro n e; cases e) (by intro n e; cases e)) ?_, HF.out, ?_⟩
    · repeat (with_reducible refine OnlyAt.set ?_ _)
      exact OnlyAt.refl _ _
    · repeat (with_reducible refine Below.setCell ?_ (by simpa using hA9) _)
      exact hb
set_option maxHeartbeats 2000000 in
theorem bmerge_hst (L M : List (Nat × Nat)) (hx : Sk.Ok (.hst L)) (hy : Sk.Ok (.hst M)) (hl : (Sk.hst L).len + (Sk.hst M).len ≤ 60) (h k : SkH) (w : World) (hK : RdK w (.hst L) h) (hK' : RdK w (.hst M) k) :
    Calls Tryz.prog 320 #[h.a (.hst L), k.b (.hst M)] w (GivesB w ((Sk.hst L).merge (.hst M))) := by
  have HI := Lib.hid (fun W hW => inMerge_hst L M hx hy hl h k W (hK.keepB hW) (hK'.keepB hW))
  obtain ⟨⟨es, ec⟩, ⟨cs, cc⟩, ⟨gs, gc⟩⟩ := h
  obtain ⟨⟨es2, ec2⟩, ⟨cs2, cc2⟩, ⟨gs2, gc2⟩⟩ := k
  simp only [SkH.a] at HI ⊢
  show Calls Tryz.prog 320 #[.agg #[.int .i64 3, .slice gs L.length gc], .iface 274 (.agg #[.int .i64 3, .slice gs2 M.length gc2])] w (GivesB w (.hst (mergeH L M)))
  generalize (mergeH L M) = R at *
  have st0 := (St.start w).alloc (cs := #[.int .i64 3, .slice gs L.length gc]) (T := 274)
  clear hK hK' hx hy hl
  go_enter Tryz.func320, Tryz.ntmps320
  go_wp2_with fail
  refine region_late 10 8 (.int .i64 0) (Fs [IsVal (.pointer (some ⟨w.heap.size, 0, none⟩)), IsVal (.agg #[.int .i64 3, .slice gs L.length gc]), IsVal (.iface 274 (.agg #[.int .i64 3, .slice gs2 M.length gc2])), IsVal (.agg #[.int .i64 3, .slice gs2 M.length gc2]), IsVal (.agg #[.int .i64 3, .slice gs2 M.length gc2]), IsAx w.heap.size (.hst R), IsAx w.heap.size (.hst R), IsA0 w.heap.size (.hst R), IsVal (.int .i64 0), IsNew w.heap.size #[.int .i64 0, .slice none 0 0] 101]) (by kernel_rfl) (by kernel_rfl) (by kernel_rfl) (Fs_stable _ ?stab) ?spec ?late (fun _ => rfl) ?store ?endd
  case stab =>
    simp only [List.forall_mem_cons]
    exact ⟨stableVal _, stableVal _, stableVal _, stableVal _, stableVal _, stableAx _ _, stableAx _ _, stableA0 _ _, stableVal _, stableNew _ _ _, by simp⟩
  case spec =>
    refine ⟨?_, ?_, ?_, ?_, ?_, ?_, ?_, ?_, ?_, ?_, trivial⟩
    · intro a W hW hu hd
      have kc : ∀ c, a.eval (Operand.const c) = c := fun _ => rfl
      have kf : ∀ f, a.eval (Operand.func f) = .func (.func f) #[] #[] := fun _ => rfl
      have sW := st0.to hW
      have rl := sW.rules
      simp only [Rules, World.size_alloc] at rl
      have u2 : a.eval (Operand.tmp 2) = .pointer (some ⟨w.heap.size, 0, none⟩) := hu 2 (by decide)
      unfold StepOk
      rw [if_pos (by rfl)]
      clear hu hd
      generalize a.eval = ρ at *
      go_simp
      exact opOk_val rfl
    · intro a W hW hu hd
      have kc : ∀ c, a.eval (Operand.const c) = c := fun _ => rfl
      have kf : ∀ f, a.eval (Operand.func f) = .func (.func f) #[] #[] := fun _ => rfl
      have sW := st0.to hW
      have rl := sW.rules
      simp only [Rules, World.size_alloc] at rl
      have u9 : a.eval (Operand.tmp 9) = .pointer (some ⟨w.heap.size, 0, none⟩) := hd 0 9 (by kernel_rfl) rfl
      unfold StepOk
      rw [if_pos (by rfl)]
      clear hu hd
      generalize a.eval = ρ at *
      go_simp
      exact opOk_val rfl
    · intro a W hW hu hd
      have kc : ∀ c, a.eval (Operand.const c) = c := fun _ => rfl
      have kf : ∀ f, a.eval (Operand.func f) = .func (.func f) #[] #[] := fun _ => rfl
      have sW := st0.to hW
      have rl := sW.rules
      simp only [Rules, World.size_alloc] at rl
      have u1 : a.eval (Operand.tmp 1) = .iface 274 (.agg #[.int .i64 3, .slice gs2 M.length gc2]) := hu 1 (by decide)
      unfold StepOk
      rw [if_pos (by rfl)]
      clear hu hd
      generalize a.eval = ρ at *
      go_simp
      exact opOk_val rfl
    · intro a W hW hu hd
      have kc : ∀ c, a.eval (Operand.const c) = c := fun _ => rfl
      have kf : ∀ f, a.eval (Operand.func f) = .func (.func f) #[] #[] := fun _ => rfl
      have sW := st0.to hW
      have rl := sW.rules
      simp only [Rules, World.size_alloc] at rl
      have u11 : a.eval (Operand.tmp 11) = .iface 274 (.agg #[.int .i64 3, .slice gs2 M.length gc2]) := hd 2 11 (by kernel_rfl) rfl
      unfold StepOk
      rw [if_pos (by rfl)]
      clear hu hd
      generalize a.eval = ρ at *
      go_simp
      exact opOk_val rfl
    · intro a W hW hu hd
      have kc : ∀ c, a.eval (Operand.const c) = c := fun _ => rfl
      have kf : ∀ f, a.eval (Operand.func f) = .func (.func f) #[] #[] := fun _ => rfl
      have sW := st0.to hW
      have rl := sW.rules
      simp only [Rules, World.size_alloc] at rl
      have u12 : a.eval (Operand.tmp 12) = .agg #[.int .i64 3, .slice gs2 M.length gc2] := hd 3 12 (by kernel_rfl) rfl
      unfold StepOk
      rw [if_pos (by rfl)]
      clear hu hd
      generalize a.eval = ρ at *
      go_simp
      exact opOk_val rfl
    · intro a W hW hu hd
      have kc : ∀ c, a.eval (Operand.const c) = c := fun _ => rfl
      have kf : ∀ f, a.eval (Operand.func f) = .func (.func f) #[] #[] := fun _ => rfl
      have sW := st0.to hW
      have rl := sW.rules
      simp only [Rules, World.size_alloc] at rl
      have u10 : a.eval (Operand.tmp 10) = .agg #[.int .i64 3, .slice gs L.length gc] := hd 1 10 (by kernel_rfl) rfl
      have u13 : a.eval (Operand.tmp 13) = .agg #[.int .i64 3, .slice gs2 M.length gc2] := hd 4 13 (by kernel_rfl) rfl
      unfold StepOk
      rw [if_pos (by rfl)]
      clear hu hd
      generalize a.eval = ρ at *
      go_simp
      refine ⟨Below.refl _ _, (HI.out W sW.below).mono ?_⟩
      rintro e w' ⟨h9, rfl, hd9, hf9, hb'⟩
      exact ⟨_, rfl, hb', h9, rfl, hd9, hf9.mono sW.below.size⟩
    · intro a W hW hu hd
      have kc : ∀ c, a.eval (Operand.const c) = c := fun _ => rfl
      have kf : ∀ f, a.eval (Operand.func f) = .func (.func f) #[] #[] := fun _ => rfl
      have sW := st0.to hW
      have rl := sW.rules
      simp only [Rules, World.size_alloc] at rl
      have f14 : IsAx w.heap.size (.hst R) (a.eval (Operand.tmp 14)) W := hd 5 14 (by kernel_rfl) rfl
      obtain ⟨h9, u14, hd9, hf9⟩ := f14
      unfold StepOk
      rw [if_pos (by rfl)]
      clear hu hd
      generalize a.eval = ρ at *
      go_simp
      exact opOk_val ⟨h9, rfl, hd9, hf9⟩
    · intro a W hW hu hd
      have kc : ∀ c, a.eval (Operand.const c) = c := fun _ => rfl
      have kf : ∀ f, a.eval (Operand.func f) = .func (.func f) #[] #[] := fun _ => rfl
      have sW := st0.to hW
      have rl := sW.rules
      simp only [Rules, World.size_alloc] at rl
      have f8 : IsAx w.heap.size (.hst R) (a.eval (Operand.tmp 8)) W := hd 6 8 (by kernel_rfl) rfl
      obtain ⟨h9, u8, hd9, hf9⟩ := f8
      unfold StepOk
      rw [if_pos (by rfl)]
      clear hu hd
      generalize a.eval = ρ at *
      go_simp
      exact opOk_val ⟨h9, rfl, hd9, hf9⟩
    · intro a W hW hu hd
      have kc : ∀ c, a.eval (Operand.const c) = c := fun _ => rfl
      have kf : ∀ f, a.eval (Operand.func f) = .func (.func f) #[] #[] := fun _ => rfl
      have sW := st0.to hW
      have rl := sW.rules
      simp only [Rules, World.size_alloc] at rl
      have f8 : IsAx w.heap.size (.hst R) (a.eval (Operand.tmp 8)) W := hd 6 8 (by kernel_rfl) rfl
      obtain ⟨h9, u8, hd9, hf9⟩ := f8
      unfold StepOk
      rw [if_pos (by rfl)]
      clear hu hd
      generalize a.eval = ρ at *
      go_simp
      exact opOk_val rfl
    · intro a W hW hu hd
      have kc : ∀ c, a.eval (Operand.const c) = c := fun _ => rfl
      have kf : ∀ f, a.eval (Operand.func f) = .func (.func f) #[] #[] := fun _ => rfl
      have sW := st0.to hW
      have rl := sW.rules
      simp only [Rules, World.size_alloc] at rl
      unfold StepOk
      rw [if_pos (by rfl)]
      clear hu hd
      generalize a.eval = ρ at *
      go_simp
      exact opOk_new sW.below.size
  case late =>
    intro oq hoq a W hW hu hd W'
    cases hoq
    obtain ⟨h9, u8, hd9, hf9⟩ : IsAx w.heap.size (.hst R) (a.eval (Operand.tmp 8)) W := hd 6 8 (by kernel_rfl) rfl
    clear hu hd
    generalize a.eval = ρ at *
    go_simp
  case store =>
    intro os hos a W hW hu hd
    cases hos
    have sW := st0.to hW
    obtain ⟨h9, u15, hd9, hf9⟩ : IsA0 w.heap.size (.hst R) (a.eval (Operand.tmp 15)) W := hd 7 15 (by kernel_rfl) rfl
    simp only [SkH.a] at u15
    obtain ⟨A9, u6, hA9, hN9⟩ : IsNew w.heap.size #[.int .i64 0, .slice none 0 0] 101 (a.eval (Operand.tmp 6)) W := hd 9 6 (by kernel_rfl) rfl
    have rl := blk_cell hN9
    have rf := blk_free hN9
    clear hu hd
    generalize a.eval = ρ at *
    go_simp
  case endd =>
    intro v W hW hv
    have v0 : v 0 = (.pointer (some ⟨w.heap.size, 0, none⟩)) := hv 0 (by omega)
    have v1 : v 1 = (.agg #[.int .i64 3, .slice gs L.length gc]) := hv 1 (by omega)
    have v2 : v 2 = (.iface 274 (.agg #[.int .i64 3, .slice gs2 M.length gc2])) := hv 2 (by omega)
    have v3 : v 3 = (.agg #[.int .i64 3, .slice gs2 M.length gc2]) := hv 3 (by omega)
    have v4 : v 4 = (.agg #[.int .i64 3, .slice gs2 M.length gc2]) := hv 4 (by omega)
    have hf5 : IsAx w.heap.size (.hst R) (v 5) W := hv 5 (by omega)
    have hf6 : IsAx w.heap.size (.hst R) (v 6) W := hv 6 (by omega)
    have hf7 : IsA0 w.heap.size (.hst R) (v 7) W := hv 7 (by omega)
    have v8 : v 8 = (.int .i64 0) := hv 8 (by omega)
    obtain ⟨A9, v9, hA9, hN9⟩ : IsNew w.heap.size #[.int .i64 0, .slice none 0 0] 101 (v 9) W := hv 9 (by omega)
    clear hv
    simp only [List.take_succ_cons, List.take_zero, List.drop_succ_cons, List.drop_zero, putAll, Nat.zero_add, Nat.reduceAdd]
    rw [v0, v1, v2, v3, v4, v8, v9]
    clear v0 v1 v2 v3 v4 v8 v9
    have sW := st0.to hW
    obtain ⟨⟨⟨es9, ec9⟩, ⟨cs9, cc9⟩, ⟨gs9, gc9⟩⟩, vR, hd9, hf9⟩ := hf7
    rw [vR]
    simp only [SkH.a]
    generalize v 5 = v5 at *
    generalize v 6 = v6 at *
    have rl := blk_cell hN9
    have rf := blk_free hN9
    have hlt := blk_lt hN9
    have HD := Lib.hid (hd9)
    have HF := Lib.hid hf9
    have HN := Lib.hid hN9
    have hb := sW.below
    clear hf5 hf6 hd9 hf9 vR hN9 sW hW st0 HI
    go_wp2_with fail
    refine (ladTold_ok _ _).mono ?_
    rintro e w2 ⟨rfl, rfl⟩
    go_wp2_with fail
    go_ret2
    refine ⟨⟨⟨es9, ec9⟩, ⟨cs9, cc9⟩, ⟨gs9, gc9⟩⟩, rfl, RdK.foreign HD.out HN.out (NoU.two (by intro n e; cases e) (by intro n e; cases e)) ?_, HF.out, ?_⟩
    · repeat (with_reducible refine OnlyAt.set ?_ _)
      exact OnlyAt.refl _ _
    · repeat (with_reducible refine Below.setCell ?_ (by simpa using hA9) _)
      exact hb
end Go.Proofs.YtmgdbfmlnmahpaaGreatDoor
namespace Go.Proofs.YtmgdbfmlnmahpaaGreatDoor
open Go.RowKit Go.Shelf
set_option linter.unusedSimpArgs false
set_option linter.unusedVariables false
set_option maxRecDepth 100000
theorem asNil_any (v : Value) (w : World) : Calls Tryz.prog 172 #[.nilIface, v] w fun e w' => e = .returned (.bool false) ∧ w' = w := by
  go_enter Tryz.func172, Tryz.ntmps172
  go_wp2_with fail
  go_ret
  exact ⟨rfl, rfl⟩
theorem ladErrno_nil (w : World) : Calls Tryz.prog 129 #[.nilIface] w fun e w' => e = .returned (.int .i64 0) ∧ Below w.heap.size w w' := by
  go_enter Tryz.func129, Tryz.ntmps129
  go_wp2_with fail
  refine (asNil_any _ _).mono ?_
  rintro e w1 ⟨rfl, rfl⟩
  go_wp2_with fail
  go_ret
  exact ⟨rfl, (Below.refl _ _).alloc (Nat.le_refl _) _⟩
theorem isFull_nil (w : World) : Calls Tryz.prog 131 #[.nilIface] w fun e w' => e = .returned (.bool false) ∧ Below w.heap.size w w' := by
  go_enter Tryz.func131, Tryz.ntmps131
  go_wp2_with fail
  refine (ladErrno_nil _).mono ?_
  rintro e w1 ⟨rfl, hb⟩
  go_wp2_with fail
  go_ret
  exact ⟨rfl, hb⟩
theorem ladNew1 (w : World) : Calls Tryz.prog 32 #[.int .i64 1] w (GivesK0 w (Sk.new 1)) := by
  have st0 := ((St.start w).alloc (cs := #[.int .i64 0, .int .i64 0, .slice none 0 0, .int .i64 0, .string ⟨#[]⟩, .int .i64 0, .int .i64 0, .slice none 0 0, .int .i64 0, .slice none 0 0]) (T := 103)).alloc (cs := #[.int .i64 1, .int .i64 0, .slice none 0 0, .int .i64 0, .string ⟨#[]⟩, .int .i64 0, .int .i64 0, .slice none 0 0, .int .i64 0, .slice none 0 0]) (T := 103)
  simp only [World.size_alloc] at st0
  go_enter Tryz.func32, Tryz.ntmps32
  go_wp2_with fail
  refine bodyPost_ret (v := .tuple #[.agg #[.int .i64 1, .int .i64 0, .slice none 0 0, .int .i64 0, .string ⟨#[]⟩, .int .i64 0, .int .i64 0, .slice none 0 0, .int .i64 0, .slice none 0 0], .int .i64 0]) (by simp [results, Tryz.results32, go_sem]) rfl ⟨⟨⟨none, 0⟩, ⟨none, 0⟩, ⟨none, 0⟩⟩, rfl, ⟨RdH.none _, RdH.none _, RdH.none _⟩, ⟨Fresh.none _, Fresh.none _, Fresh.none _⟩, ?_⟩
  exact ((Below.refl _ _).alloc (Nat.le_refl _) _).alloc (by simp) _
theorem ladNew3 (w : World) : Calls Tryz.prog 32 #[.int .i64 3] w (GivesK0 w (Sk.new 3)) := by
  go_enter Tryz.func32, Tryz.ntmps32
  go_wp2_with fail
  refine bodyPost_ret (v := .tuple #[.agg #[.int .i64 3, .int .i64 0, .slice none 0 0, .int .i64 0, .string ⟨#[]⟩, .int .i64 0, .int .i64 0, .slice none 0 0, .int .i64 3, .slice none 0 0], .int .i64 0]) (by simp [results, Tryz.results32, go_sem]) rfl ⟨⟨⟨none, 0⟩, ⟨none, 0⟩, ⟨none, 0⟩⟩, rfl, ⟨RdH.none _, RdH.none _, RdH.none _⟩, ⟨Fresh.none _, Fresh.none _, Fresh.none _⟩, ?_⟩
  exact ((Below.refl _ _).alloc (Nat.le_refl _) _).alloc (by simp) _
theorem ladNew2 (w : World) : Calls Tryz.prog 32 #[.int .i64 2] w (GivesK0 w (Sk.new 2)) := by
  have st0 := ((St.start w).alloc (cs := #[.int .i64 0, .int .i64 0, .slice none 0 0, .int .i64 0, .string ⟨#[]⟩, .int .i64 0, .int .i64 0, .slice none 0 0, .int .i64 0, .slice none 0 0]) (T := 103)).alloc (cs := #[.int .i64 2, .int .i64 0, .slice none 0 0, .int .i64 0, .string ⟨#[]⟩, .int .i64 0, .int .i64 0, .slice none 0 0, .int .i64 0, .slice none 0 0]) (T := 103)
  simp only [World.size_alloc] at st0
  go_enter Tryz.func32, Tryz.ntmps32
  go_wp2_with fail
  refine (cmNew_any _).mono ?_
  rintro e w1 ⟨A, rfl, hA, hN, hb1⟩
  have st1 := st0.to hb1
  have rl := st1.rules
  simp only [Rules] at rl
  simp only [World.size_alloc] at hA
  have HN := Lib.hid hN
  clear st0 hN hb1
  go_wp2_with fail
  refine bodyPost_ret (v := .tuple #[.agg #[.int .i64 2, .int .i64 0, .slice none 0 0, .int .i64 0, .string ⟨#[]⟩, .int .i64 2, .int .i64 32, .slice (some ⟨A, 0, none⟩) 64 64, .int .i64 0, .slice none 0 0], .int .i64 0]) (by simp [results, Tryz.results32, go_sem, rl]) rfl ⟨⟨⟨none, 0⟩, ⟨some ⟨A, 0, none⟩, 64⟩, ⟨none, 0⟩⟩, ?_, ⟨RdH.none _, ?_, RdH.none _⟩, ⟨Fresh.none _, fun g o e => by cases e; omega, Fresh.none _⟩, ?_⟩
  · show _ = Ending.returned (.tuple #[.agg #[.int .i64 2, .int .i64 0, .slice none 0 0, .int .i64 0, .string ⟨#[]⟩, .int .i64 2, .int .i64 32, .slice (some ⟨A, 0, none⟩) zerosC.length 64, .int .i64 0, .slice none 0 0], .int .i64 0])
    rw [zerosC_ok.2]
  · refine RdH.up (B := w.heap.size + 1 + 1) ⟨Rd.ofBlock encU_len HN.out rfl, by show zerosC.length ≤ 64; rw [zerosC_ok.2]; exact Nat.le_refl _, by show 64 ≤ _; omega, (fun h => by cases h), PlainS.some _ _⟩ (fun g o e => by cases e; exact hA) ?_
    repeat (with_reducible refine KeepUp.set ?_ (by omega) _)
    exact KeepUp.refl _ _
  · repeat (with_reducible refine Below.setCell ?_ (by simp; try omega) _)
    exact st1.below
theorem ladNew_any (k : Nat) (h1 : 1 ≤ k) (h3 : k ≤ 3) (w : World) : Calls Tryz.prog 32 #[.int .i64 (k : Int)] w (GivesK0 w (Sk.new k)) := by
  rcases (show k = 1 ∨ k = 2 ∨ k = 3 by omega) with rfl | rfl | rfl
  · exact ladNew1 w
  · exact ladNew2 w
  · exact ladNew3 w
theorem ladRight_any (x : Sk) (hx : x.Ok) (h : SkH) (w : World) (hK : RdK w x h) :
    Calls Tryz.prog 158 #[h.v x] w fun e w' => e = .returned (.bool true) ∧ Below w.heap.size w w' := by
  have HO := Lib.hid (fun W hW => open_ok x hx h W (hK.keepB hW))
  simp only [SkH.w, SkH.b_a] at HO
  generalize h.a x = bV at *
  generalize x.bt = bD at *
  obtain ⟨⟨es, ec⟩, ⟨cs, cc⟩, ⟨gs, gc⟩⟩ := h
  change Calls Tryz.prog 158 #[.agg #[.int .i64 x.kind, .int .i64 0, .slice es x.e.length ec, .int .i64 0, .string ⟨#[]⟩, .int .i64 x.rows, .int .i64 x.cols, .slice cs x.c.length cc, .int .i64 x.fine, .slice gs x.g.length gc]] w _
  have st0 := (St.start w).alloc (cs := #[.int .i64 x.kind, .int .i64 0, .slice es x.e.length ec, .int .i64 0, .string ⟨#[]⟩, .int .i64 x.rows, .int .i64 x.cols, .slice cs x.c.length cc, .int .i64 x.fine, .slice gs x.g.length gc]) (T := 103)
  clear hK
  go_enter Tryz.func158, Tryz.ntmps158
  go_wp2_with fail
  refine (HO.out _ st0.below).mono ?_
  rintro e w1 ⟨rfl, hb1⟩
  have st1 := (st0.to hb1).alloc (cs := #[.iface bD bV, .int .i64 x.kind, .int .i64 0]) (T := 135)
  clear hb1 st0 HO
  go_wp2_with fail
  go_ret
  exact ⟨rfl, st1.below⟩
def Sk.fAdd : Sk → Nat
  | .dist _ => 258
  | .cnt _ => 297
  | .hst _ => 316
theorem methAdd (x : Sk) (v : Value) (w : World) : (Go.method 620 x.bt v "aviary/ladder.add").run Tryz.prog w = .ok (x.fAdd, v) w := by cases x <;> kernel_rfl
theorem enterAdd (x : Sk) (args : Array Value) (w : World) : (callFunc x.fAdd args).run Tryz.prog w = .ok (.enter x.fAdd args) w := by
  cases x with
  | dist L => exact enters_of Tryz.func258 (by kernel_rfl) rfl args w
  | cnt L => exact enters_of Tryz.func297 (by kernel_rfl) rfl args w
  | hst L => exact enters_of Tryz.func316 (by kernel_rfl) rfl args w
def Sk.fMerge : Sk → Nat
  | .dist _ => 262
  | .cnt _ => 301
  | .hst _ => 320
theorem methMerge (x : Sk) (v : Value) (w : World) : (Go.method 620 x.bt v "aviary/ladder.merge").run Tryz.prog w = .ok (x.fMerge, v) w := by cases x <;> kernel_rfl
theorem enterMerge (x : Sk) (args : Array Value) (w : World) : (callFunc x.fMerge args).run Tryz.prog w = .ok (.enter x.fMerge args) w := by
  cases x with
  | dist L => exact enters_of Tryz.func262 (by kernel_rfl) rfl args w
  | cnt L => exact enters_of Tryz.func301 (by kernel_rfl) rfl args w
  | hst L => exact enters_of Tryz.func320 (by kernel_rfl) rfl args w
def Sk.fCost : Sk → Nat
  | .dist _ => 260
  | .cnt _ => 299
  | .hst _ => 318
theorem methCost (x : Sk) (v : Value) (w : World) : (Go.method 620 x.bt v "aviary/ladder.cost").run Tryz.prog w = .ok (x.fCost, v) w := by cases x <;> kernel_rfl
theorem enterCost (x : Sk) (args : Array Value) (w : World) : (callFunc x.fCost args).run Tryz.prog w = .ok (.enter x.fCost args) w := by
  cases x with
  | dist L => exact enters_of Tryz.func260 (by kernel_rfl) rfl args w
  | cnt L => exact enters_of Tryz.func299 (by kernel_rfl) rfl args w
  | hst L => exact enters_of Tryz.func318 (by kernel_rfl) rfl args w
def Sk.fAsk : Sk → Nat
  | .dist _ => 259
  | .cnt _ => 298
  | .hst _ => 317
theorem methAsk (x : Sk) (v : Value) (w : World) : (Go.method 620 x.bt v "aviary/ladder.ask").run Tryz.prog w = .ok (x.fAsk, v) w := by cases x <;> kernel_rfl
theorem enterAsk (x : Sk) (args : Array Value) (w : World) : (callFunc x.fAsk args).run Tryz.prog w = .ok (.enter x.fAsk args) w := by
  cases x with
  | dist L => exact enters_of Tryz.func259 (by kernel_rfl) rfl args w
  | cnt L => exact enters_of Tryz.func298 (by kernel_rfl) rfl args w
  | hst L => exact enters_of Tryz.func317 (by kernel_rfl) rfl args w
theorem badd_any (x : Sk) (hx : x.Ok) (hl : x.len + 1 ≤ 60) (a n : Nat) (ha : a ≤ maxU) (hn : n ≤ maxU) (h : SkH) (w : World) (hK : RdK w x h) : Calls Tryz.prog x.fAdd #[h.a x, .agg #[.int .u64 (a : Int), .int .u64 (n : Int)]] w (GivesB w (x.add a n)) := by
  cases x with
  | dist L => exact badd_dist L hx hl a n ha hn h w hK
  | cnt L => exact badd_cnt L hx hl a n ha hn h w hK
  | hst L => exact badd_hst L hx hl a n ha hn h w hK
theorem bmerge_any (x y : Sk) (hk : x.kind = y.kind) (hx : x.Ok) (hy : y.Ok) (hl : x.len + y.len ≤ 60) (h k : SkH) (w : World) (hK : RdK w x h) (hK' : RdK w y k) : Calls Tryz.prog x.fMerge #[h.a x, k.b y] w (GivesB w (x.merge y)) := by
  cases x with
  | dist L =>
    cases y with
    | dist M => exact bmerge_dist L M hx hy hl h k w hK hK'
    | cnt M => simp [Sk.kind] at hk
    | hst M => simp [Sk.kind] at hk
  | cnt L =>
    cases y with
    | dist M => simp [Sk.kind] at hk
    | cnt M => exact bmerge_cnt L M hx hy hl h k w hK hK'
    | hst M => simp [Sk.kind] at hk
  | hst L =>
    cases y with
    | dist M => simp [Sk.kind] at hk
    | cnt M => simp [Sk.kind] at hk
    | hst M => exact bmerge_hst L M hx hy hl h k w hK hK'
theorem bcost_any (x : Sk) (hx : x.Ok) (h : SkH) (w : World) : Calls Tryz.prog x.fCost #[h.a x] w fun e w' => e = .returned (.int .i64 (x.cost - 16 : Nat)) ∧ Below w.heap.size w w' := by
  cases x with
  | dist L => exact bcost_dist L hx h w
  | cnt L => exact bcost_cnt L hx h w
  | hst L => exact bcost_hst L hx h w
theorem bask_any (x : Sk) (hx : x.Ok) (a : Nat) (ha : a ≤ maxU) (h : SkH) (w : World) (hK : RdK w x h) : Calls Tryz.prog x.fAsk #[h.a x, .int .u64 (a : Int)] w fun e w' => e = .returned (.int .u64 (x.ask a : Nat)) ∧ Below w.heap.size w w' := by
  cases x with
  | dist L => exact bask_dist L hx a ha h w hK
  | cnt L => exact bask_cnt L hx a ha h w hK
  | hst L => exact bask_hst L hx a ha h w hK
theorem Sk.cost_le (x : Sk) (hx : x.Ok) : 16 ≤ x.cost ∧ x.cost ≤ 20000 := by
  cases x with
  | dist L => have := hx.2.2; show 16 ≤ 8 * L.length + 16 ∧ 8 * L.length + 16 ≤ _; omega
  | cnt L => have := hx.2; show 16 ≤ 8 * L.length + 16 ∧ 8 * L.length + 16 ≤ _; omega
  | hst L => have := hx.2.1; show 16 ≤ 16 * L.length + 16 ∧ 16 * L.length + 16 ≤ _; omega
set_option maxHeartbeats 1000000 in
theorem ladCost_any (x : Sk) (hx : x.Ok) (h : SkH) (w : World) (hK : RdK w x h) :
    Calls Tryz.prog 75 #[h.v x] w fun e w' => e = .returned (.int .i64 (x.cost : Nat)) ∧ Below w.heap.size w w' := by
  have HO := Lib.hid (fun W hW => open_ok x hx h W (hK.keepB hW))
  have HC := Lib.hid (fun W => bcost_any x hx h W)
  have hm := fun w => methCost x (h.a x) w
  have hent := fun args w => enterCost x args w
  obtain ⟨c1, c2⟩ := x.cost_le hx
  obtain ⟨c, hc⟩ : ∃ c, x.cost = c + 16 := ⟨x.cost - 16, by omega⟩
  rw [hc] at HC c2 ⊢
  rw [Nat.add_sub_cancel] at HC
  simp only [SkH.w, SkH.b_a] at HO
  clear hc c1
  generalize h.a x = bV at *
  generalize x.bt = bD at *
  generalize x.fCost = fC at *
  obtain ⟨⟨es, ec⟩, ⟨cs, cc⟩, ⟨gs, gc⟩⟩ := h
  change Calls Tryz.prog 75 #[.agg #[.int .i64 x.kind, .int .i64 0, .slice es x.e.length ec, .int .i64 0, .string ⟨#[]⟩, .int .i64 x.rows, .int .i64 x.cols, .slice cs x.c.length cc, .int .i64 x.fine, .slice gs x.g.length gc]] w _
  have st0 := (St.start w).alloc (cs := #[.int .i64 x.kind, .int .i64 0, .slice es x.e.length ec, .int .i64 0, .string ⟨#[]⟩, .int .i64 x.rows, .int .i64 x.cols, .slice cs x.c.length cc, .int .i64 x.fine, .slice gs x.g.length gc]) (T := 103)
  clear hK
  go_enter Tryz.func75, Tryz.ntmps75
  go_wp2_with fail
  refine (HO.out _ st0.below).mono ?_
  rintro e w1 ⟨rfl, hb1⟩
  have st1 := (st0.to hb1).alloc (cs := #[.iface bD bV, .int .i64 x.kind, .int .i64 0]) (T := 135)
  clear hb1 st0 HO
  go_wp2_with fail
  refine (HC.out _).mono ?_
  rintro e w2 ⟨rfl, hb2⟩
  have st2 := st1.to hb2
  clear hb2 st1 HC
  go_wp2_with fail
  go_ret
  exact ⟨ret_num (by push_cast; omega), st2.below⟩
set_option maxHeartbeats 1000000 in
theorem ladAsk_any (x : Sk) (hx : x.Ok) (a : Nat) (ha : a ≤ maxU) (h : SkH) (w : World) (hK : RdK w x h) :
    Calls Tryz.prog 35 #[h.v x, .int .u64 (a : Int)] w fun e w' => e = .returned (.int .u64 (x.ask a : Nat)) ∧ Below w.heap.size w w' := by
  have HO := Lib.hid (fun W hW => open_ok x hx h W (hK.keepB hW))
  have HC := Lib.hid (fun W hW => bask_any x hx a ha h W (hK.keepB hW))
  have hm := fun w => methAsk x (h.a x) w
  have hent := fun args w => enterAsk x args w
  simp only [SkH.w, SkH.b_a] at HO
  generalize h.a x = bV at *
  generalize x.bt = bD at *
  generalize x.fAsk = fC at *
  obtain ⟨⟨es, ec⟩, ⟨cs, cc⟩, ⟨gs, gc⟩⟩ := h
  change Calls Tryz.prog 35 #[.agg #[.int .i64 x.kind, .int .i64 0, .slice es x.e.length ec, .int .i64 0, .string ⟨#[]⟩, .int .i64 x.rows, .int .i64 x.cols, .slice cs x.c.length cc, .int .i64 x.fine, .slice gs x.g.length gc], .int .u64 (a : Int)] w _
  have st0 := (St.start w).alloc (cs := #[.int .i64 x.kind, .int .i64 0, .slice es x.e.length ec, .int .i64 0, .string ⟨#[]⟩, .int .i64 x.rows, .int .i64 x.cols, .slice cs x.c.length cc, .int .i64 x.fine, .slice gs x.g.length gc]) (T := 103)
  clear hK ha
  go_enter Tryz.func35, Tryz.ntmps35
  go_wp2_with fail
  refine (HO.out _ st0.below).mono ?_
  rintro e w1 ⟨rfl, hb1⟩
  have st1 := (st0.to hb1).alloc (cs := #[.iface bD bV, .int .i64 x.kind, .int .i64 0]) (T := 135)
  clear hb1 st0 HO
  go_wp2_with fail
  refine (HC.out _ st1.below).mono ?_
  rintro e w2 ⟨rfl, hb2⟩
  have st2 := st1.to hb2
  clear hb2 st1 HC
  go_wp2_with fail
  go_ret
  exact ⟨rfl, st2.below⟩
end Go.Proofs.YtmgdbfmlnmahpaaGreatDoor
