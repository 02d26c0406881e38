/- A part of the proof of TopCounts. -/
import Derived.Test.YtmgdbfmlnmahpaaGreatDoorG16
namespace Go.Proofs.YtmgdbfmlnmahpaaGreatDoor
open Go.RowKit Go.Shelf
set_option linter.unusedSimpArgs false
set_option linter.unusedVariables false
set_option maxRecDepth 100000
def satS (l : List (Nat × Nat)) : Nat := l.foldl (fun s x => sat s x.2) 0
theorem satS_snoc (l : List (Nat × Nat)) (x : Nat × Nat) : satS (l ++ [x]) = sat (satS l) x.2 := by simp [satS]
theorem fold_le : ∀ (l : List (Nat × Nat)) (s : Nat), s ≤ maxU → l.foldl (fun s x => sat s x.2) s ≤ maxU
  | [], _, h => h
  | x :: l, s, _ => fold_le l (sat s x.2) (sat_le _ _)
theorem satS_le (l : List (Nat × Nat)) : satS l ≤ maxU := fold_le l 0 (Nat.zero_le _)
theorem hiSums_any (s : Option Addr) (n cap : Nat) (w : World) :
    Calls Tryz.prog 330 #[.slice s n cap] w fun e w' => e = .returned (.func (.func 335) #[] #[.pointer (some ⟨w.heap.size, 0, none⟩)]) ∧ w' = w.alloc (.cells #[.slice s n cap] 99) := by
  go_enter Tryz.func330, Tryz.ntmps330
  go_wp2_with fail
  go_ret
  exact ⟨rfl, rfl⟩
def sumsL (l : List (Nat × Nat)) : List ((Nat × Nat) × Nat) := (List.range l.length).map fun i => (l.getD i (0, 0), satS (l.take (i + 1)))
theorem sumsL_len (l : List (Nat × Nat)) : (sumsL l).length = l.length := by simp [sumsL]
theorem sumsL_next (l : List (Nat × Nat)) {k : Nat} {x : Nat × Nat} (hx : l[k]? = some x) : (sumsL l).take k ++ [(x, satS (l.take (k + 1)))] = (sumsL l).take (k + 1) := by
  obtain ⟨hk, e⟩ := List.getElem?_eq_some_iff.1 hx
  have h2 : (sumsL l)[k]? = some (x, satS (l.take (k + 1))) := by
    have hr : (List.range l.length)[k]? = some k := List.getElem?_range hk
    have hd : l.getD k (0, 0) = x := by rw [List.getD, hx]; rfl
    rw [sumsL, List.getElem?_map, hr, Option.map_some, hd]
  rw [List.take_add_one (l := sumsL l), h2]
  rfl
def KpR (bl : List Blk) (s : Option Addr) (l : List (Nat × Nat)) (A B : World) : Prop := KpB bl A B ∧ (Rd 2 encB A s l → Rd 2 encB B s l)
set_option maxHeartbeats 2000000 in
theorem sums1_in (bl : List Blk) (Bw : Nat) (l : List (Nat × Nat)) (hp : PosH l) (hlen : l.length ≤ 1000000) (s : Option Addr) (cap : Nat) (hcap : l.length ≤ cap) (hBw : (Bw, #[.slice s l.length cap], 99) ∈ bl)
    (n : Nat) (hn : 1 ≤ n) (lb : Nat) (J Jx : List ((Nat × Nat) × Nat) → World → Prop) (bJ : Bears none J)
    (hY : ∀ (pre : List ((Nat × Nat) × Nat)) (x : (Nat × Nat) × Nat) (W : World), J pre W → x.2 ≤ maxU → pre.length < (sumsL l).length → YieldAt Fence.wide (n - 1) Tryz.prog lb #[.agg #[.int .i64 (x.1.1 : Nat), .int .u64 (x.1.2 : Nat)], .int .u64 (x.2 : Nat)] W fun e W' =>
      (e = .returned (.bool true) ∧ J (pre ++ [x]) W' ∧ KpR bl s l W W') ∨ (e = .returned (.bool false) ∧ Jx (pre ++ [x]) W'))
    (W : World) (hW : LieB bl W) (hRd : Rd 2 encB W s l) (h0 : J [] W) :
    CallsIn Fence.wide n Tryz.prog 335 #[.func (.yield lb) #[] #[], .pointer (some ⟨Bw, 0, none⟩)] W fun e W' => (∃ v, e = .returned v) ∧
      ((∃ xs, xs = sumsL l ∧ J xs W') ∨ (∃ pre, pre <+: sumsL l ∧ Jx pre W')) := by
  have hcw := blk_cell (hW _ hBw) 0
  refine callsIn_of_wp Tryz.func335 rfl trivial ?_ rfl
  simp only [Tryz.ntmps335, List.size_toArray, List.length_cons, List.length_nil, Nat.reduceAdd, Nat.reduceSub, Array.replicate_succ, Array.replicate_zero, List.push_toArray, List.append_toArray, List.nil_append, List.cons_append]
  gi_wp2_with fail
  clear hcw
  gi_loopw [3, 8] (fun sm i wr => ∃ k : Nat, k ≤ l.length ∧ i = .int .i64 (k : Int) ∧ (∃ z : Nat, z = satS (l.take k) ∧ sm = .int .u64 (z : Nat)) ∧ LieB bl wr ∧ Rd 2 encB wr s l ∧ J ((sumsL l).take k) wr) (fun _ i _ => l.length - (intOf i).toNat)
  case atStart => exact ⟨0, by omega, rfl, ⟨0, rfl, rfl⟩, hW, hRd, h0⟩
  case round =>
    clear hW h0 hRd
    obtain ⟨k, hk, rfl, ⟨z, hz, rfl⟩, hb, hRd, hJ⟩ := hrel
    by_cases hlt : k < l.length
    · obtain ⟨x, hx⟩ : ∃ x, l[k]? = some x := ⟨_, List.getElem?_eq_getElem hlt⟩
      obtain ⟨g, o, rfl, hg, hc1, hc2⟩ := bin_at hRd hx
      have HN := Lib.hid (sumsL_next l hx)
      have hzl : z ≤ maxU := by rw [hz]; exact satS_le _
      have hS : Hid (satS (l.take (k + 1)) = sat z x.2) := by
        show _ = _
        rw [List.take_add_one, hx, hz]
        exact satS_snoc _ _
      have hxn := (hp x (List.mem_of_getElem? hx)).2
      obtain ⟨xa, xn⟩ := x
      simp only at hc1 hc2 HN hS hxn
      have HT := Lib.hid (fun A W hA => hTogether_any A z xn hzl hxn W hA)
      clear hx hz hxn
      gi_wp2_with fail
      have hb2 : Below wr.heap.size wr ((wr.alloc (.cells #[.int .i64 (xa : Nat), .int .u64 (xn : Nat)] 277)).alloc (.cells #[.int .u64 (z : Nat), .int .u64 (xn : Nat)] 22)) := ((Below.refl _ _).alloc (Nat.le_refl _) _).alloc (by simp) _
      have hA : ((wr.alloc (.cells #[.int .i64 (xa : Nat), .int .u64 (xn : Nat)] 277)).alloc (.cells #[.int .u64 (z : Nat), .int .u64 (xn : Nat)] 22)).heap[wr.heap.size + 1]? = some (.cells #[.int .u64 (z : Nat), .int .u64 (xn : Nat)] 22 (0, 0)) := by
        have := World.alloc_heap_new (wr.alloc (.cells #[.int .i64 (xa : Nat), .int .u64 (xn : Nat)] 277)) (.cells #[.int .u64 (z : Nat), .int .u64 (xn : Nat)] 22)
        rwa [World.size_alloc] at this
      have hB : ((wr.alloc (.cells #[.int .i64 (xa : Nat), .int .u64 (xn : Nat)] 277)).alloc (.cells #[.int .u64 (z : Nat), .int .u64 (xn : Nat)] 22)).heap[wr.heap.size]? = some (.cells #[.int .i64 (xa : Nat), .int .u64 (xn : Nat)] 277 (0, 0)) := (Below.heap_alloc _ _ _ (by simp)).trans (World.alloc_heap_new _ _)
      refine ⟨trivial, (callsIn_wide.2 (HT.out (wr.heap.size + 1) _ hA)).mono ?_⟩
      rintro e w2 ⟨rfl, rfl⟩
      have hJ4 := bJ _ _ _ hJ (grownBy_ofBelow hb2 none)
      have hl4 := hb.below hb2
      have hr4 := hRd.keepB (Nat.le_refl _) hb2
      rw [← hS.out]
      have hsl := satS_le (l.take (k + 1))
      obtain ⟨fn, tmps, assign, body, hy, hR⟩ := hY ((sumsL l).take k) ((xa, xn), satS (l.take (k + 1))) _ hJ4 hsl (by rw [List.length_take, sumsL_len]; omega)
      obtain ⟨z', hz'⟩ : ∃ z', satS (l.take (k + 1)) = z' := ⟨_, rfl⟩
      have HZ := Lib.hid hz'
      rw [hz'] at hy hR ⊢
      have hc0 := blk_cell hB
      clear hA hB hJ hb hz' hS hsl hc1 hc2 HT hRd
      gi_wp2_with fail
      refine hR.mono ?_
      rintro e W3 (⟨rfl, hJ3, hk3⟩ | ⟨rfl, hJx3⟩)
      · have hJ5 : J ((sumsL l).take (k + 1)) W3 := by rw [← HN.out, HZ.out]; exact hJ3
        have hb3 := hl4.keep hk3.1
        have hr3 := hk3.2 hr4
        clear hy hR hJ4 hl4 hY hJ3 hb2 hc0
        gi_wp2_with fail
        go_roundw
        case rel => exact ⟨k + 1, hlt, by go_num, ⟨z', HZ.out.symm, rfl⟩, hb3, hr3, hJ5⟩
        case measure => simp [intOf]; omega
      · have hJ5 : Jx ((sumsL l).take (k + 1)) W3 := by rw [← HN.out, HZ.out]; exact hJx3
        clear hy hR hJ4 hl4 hY hJx3 hb2 hc0
        gi_wp2_with fail
        refine bodyPost_ret (results_none rfl _ _ _) rfl ?_
        exact ⟨⟨_, rfl⟩, .inr ⟨_, List.take_prefix _ _, hJ5⟩⟩
    · obtain rfl : k = l.length := by omega
      rw [List.take_of_length_le (by rw [sumsL_len]; exact Nat.le_refl _)] at hJ
      clear hY
      gi_wp2_with fail
      go_end0
      exact ⟨⟨_, rfl⟩, .inl ⟨_, rfl, hJ⟩⟩
theorem sums_seq (bl : List Blk) (Bw : Nat) (l : List (Nat × Nat)) (hp : PosH l) (hlen : l.length ≤ 1000000) (s : Option Addr) (cap : Nat) (hcap : l.length ≤ cap) (hBw : (Bw, #[.slice s l.length cap], 99) ∈ bl) (n : Nat) (hn : 1 ≤ n) (W : World) (hW : LieB bl W) (hRd : Rd 2 encB W s l) :
    SeqW Fence.wide n Tryz.prog 335 #[.pointer (some ⟨Bw, 0, none⟩)] (fun x : (Nat × Nat) × Nat => #[Value.agg #[.int .i64 (x.1.1 : Nat), .int .u64 (x.1.2 : Nat)], .int .u64 (x.2 : Nat)]) (fun x _ => x.2 ≤ maxU) (KpR bl s l) (fun xs => xs = sumsL l) (fun pre => pre <+: sumsL l) (sumsL l).length none W := fun lb J Jx bJ _ hY h0 =>
  sums1_in bl Bw l hp hlen s cap hcap hBw n hn lb J Jx bJ hY W hW hRd h0
end Go.Proofs.YtmgdbfmlnmahpaaGreatDoor
namespace Go.Proofs.YtmgdbfmlnmahpaaGreatDoor
theorem fold_min : ∀ (l : List (Nat × Nat)) (s : Nat), s ≤ maxU → l.foldl (fun s x => sat s x.2) s = min (s + (l.map Prod.snd).sum) maxU
  | [], s, h => by simp; omega
  | x :: l, s, h => by
    rw [List.foldl_cons, fold_min l (sat s x.2) (sat_le _ _), List.map_cons, List.sum_cons]
    unfold sat
    omega
theorem satS_min (l : List (Nat × Nat)) : satS l = min ((l.map Prod.snd).sum) maxU := by
  have := fold_min l 0 (Nat.zero_le _)
  rw [Nat.zero_add] at this
  exact this
theorem sumH_low (last : Nat) : ∀ l : List (Nat × Nat), (∀ x ∈ l, x.1 ≤ last) → sumH last l = (l.map Prod.snd).sum
  | [], _ => rfl
  | x :: l, h => by
    rw [sumH_cons, if_pos (h x (by simp)), sumH_low last l (fun y hy => h y (by simp [hy]))]
    rfl
theorem sumH_high (last : Nat) : ∀ l : List (Nat × Nat), (∀ x ∈ l, last < x.1) → sumH last l = 0
  | [], _ => rfl
  | x :: l, h => by
    have := h x (by simp)
    rw [sumH_cons, if_neg (by omega), sumH_high last l (fun y hy => h y (by simp [hy]))]
theorem sumH_append (last : Nat) : ∀ l m : List (Nat × Nat), sumH last (l ++ m) = sumH last l + sumH last m
  | [], m => by simp [sumH]
  | x :: l, m => by rw [List.cons_append, sumH_cons, sumH_cons, sumH_append last l m]; omega
theorem rank_stop {l : List (Nat × Nat)} (h : AscH l) (last k : Nat) (h1 : ∀ x ∈ l.take k, x.1 ≤ last) (x : Nat × Nat) (hx : l[k]? = some x) (h2 : last < x.1) : satS (l.take k) = min (sumH last l) maxU := by
  obtain ⟨hk, e⟩ := List.getElem?_eq_some_iff.1 hx
  have hd : ∀ y ∈ l.drop k, last < y.1 := by
    intro y hy
    rw [List.drop_eq_getElem_cons hk, e] at hy
    rcases List.mem_cons.1 hy with rfl | hy
    · exact h2
    · obtain ⟨j, hj, ej⟩ := List.mem_drop_iff_getElem.1 hy
      have := List.pairwise_iff_getElem.1 h k (k + 1 + j) hk (by omega) (by omega)
      rw [e] at this
      have ej' : l[k + 1 + j]'(by omega) = y := by rw [← ej]
      rw [ej'] at this
      omega
  have e1 : sumH last l = sumH last (l.take k) + sumH last (l.drop k) := by rw [← sumH_append, List.take_append_drop]
  rw [e1, sumH_high last _ hd, sumH_low last _ h1, satS_min, Nat.add_zero]
theorem rank_end {l : List (Nat × Nat)} (last : Nat) (h1 : ∀ x ∈ l, x.1 ≤ last) : satS l = min (sumH last l) maxU := by
  rw [sumH_low last _ h1, satS_min]
end Go.Proofs.YtmgdbfmlnmahpaaGreatDoor
namespace Go.Proofs.YtmgdbfmlnmahpaaGreatDoor
open Go.RowKit Go.Shelf
set_option linter.unusedSimpArgs false
set_option linter.unusedVariables false
set_option maxRecDepth 100000
def lastS (pre : List ((Nat × Nat) × Nat)) : Nat := (pre.getLast?.map Prod.snd).getD 0
theorem lastS_snoc (pre : List ((Nat × Nat) × Nat)) (x : (Nat × Nat) × Nat) : lastS (pre ++ [x]) = x.2 := by simp [lastS]
def LowS (last : Nat) (pre : List ((Nat × Nat) × Nat)) : Prop := ∀ x ∈ pre, x.1.1 ≤ last
theorem sumsL_at (l : List (Nat × Nat)) {k : Nat} {x : Nat × Nat} (hx : l[k]? = some x) : (sumsL l)[k]? = some (x, satS (l.take (k + 1))) := by
  obtain ⟨hk, e⟩ := List.getElem?_eq_some_iff.1 hx
  have hr : (List.range l.length)[k]? = some k := List.getElem?_range hk
  have hd : l.getD k (0, 0) = x := by rw [List.getD, hx]; rfl
  rw [sumsL, List.getElem?_map, hr, Option.map_some, hd]
theorem lastS_take (l : List (Nat × Nat)) : ∀ k, k ≤ l.length → lastS ((sumsL l).take k) = satS (l.take k)
  | 0, _ => rfl
  | k + 1, hk => by
    have hx : l[k]? = some l[k] := List.getElem?_eq_getElem (by omega)
    rw [← sumsL_next l hx, lastS_snoc]
theorem low_take {l : List (Nat × Nat)} {last k : Nat} (h : LowS last ((sumsL l).take k)) : ∀ x ∈ l.take k, x.1 ≤ last := by
  intro x hx
  obtain ⟨i, hi⟩ := List.mem_iff_getElem?.1 hx
  rw [List.getElem?_take] at hi
  split at hi
  · exact h (x, satS (l.take (i + 1))) (List.mem_iff_getElem?.2 ⟨i, by rw [List.getElem?_take, if_pos (by assumption)]; exact sumsL_at l hi⟩)
  · cases hi
theorem sums_end (l : List (Nat × Nat)) (last : Nat) (h : LowS last (sumsL l)) : lastS (sumsL l) = min (sumH last l) maxU := by
  have h1 := lastS_take l l.length (Nat.le_refl _)
  have h2 : (sumsL l).take l.length = sumsL l := List.take_of_length_le (by rw [sumsL_len]; exact Nat.le_refl _)
  rw [h2, List.take_length] at h1
  rw [h1]
  have h3 : LowS last ((sumsL l).take l.length) := by rw [h2]; exact h
  have h4 := low_take h3
  rw [List.take_length] at h4
  exact rank_end last h4
theorem sums_stop {l : List (Nat × Nat)} (ha : AscH l) (last : Nat) (pre : List ((Nat × Nat) × Nat)) (x : (Nat × Nat) × Nat) (hp : pre ++ [x] <+: sumsL l) (h : LowS last pre) (h2 : last < x.1.1) : lastS pre = min (sumH last l) maxU := by
  have hlen := hp.length_le
  rw [sumsL_len] at hlen
  simp at hlen
  have e1 : pre = (sumsL l).take pre.length := by
    have := List.prefix_iff_eq_take.1 ((List.prefix_append pre [x]).trans hp)
    exact this
  have e2 : (sumsL l)[pre.length]? = some x := by
    obtain ⟨r, hr⟩ := hp
    rw [← hr]
    simp
  have hx : l[pre.length]? = some l[pre.length] := List.getElem?_eq_getElem (by omega)
  have e3 := (sumsL_at l hx).symm.trans e2
  have e4 : x.1 = l[pre.length] := by cases e3; rfl
  rw [e1] at h
  have h3 := low_take h
  have h5 := rank_stop ha last pre.length h3 l[pre.length] hx (by rw [← e4]; exact h2)
  rw [← h5, ← lastS_take l pre.length (by omega)]
  exact congrArg lastS e1
def StRk (w : World) (s : Option Addr) (n cap b1 b2 b : Nat) (last : Nat) (pre : List ((Nat × Nat) × Nat)) (W : World) : Prop :=
  LowS last pre ∧ St w [(b, #[.slice s n cap], 99), (b2, #[.int .i64 (last : Nat)], 3), (b1, #[.int .u64 (lastS pre : Nat)], 22), (w.heap.size, #[.int .i64 3, .slice s n cap], 101)] (fun _ => True) W
def StRx (w : World) (s : Option Addr) (n cap b1 b2 b : Nat) (last : Nat) (c : Code) (pre : List ((Nat × Nat) × Nat)) (W : World) : Prop := c = .exit 0 ∧ ∃ p x, pre = p ++ [x] ∧ last < x.1.1 ∧ StRk w s n cap b1 b2 b last p W
def AxR (w : World) (x : (Nat × Nat) × Nat) (c : Nat) (W : World) : Prop := x.2 ≤ maxU ∧ w.heap.size ≤ c ∧ W.heap[c]? = some (.cells #[.int .i64 (x.1.1 : Nat), .int .u64 (x.1.2 : Nat)] 277 (0, 0))
theorem AxR.own (w : World) (x : (Nat × Nat) × Nat) (c n : Nat) : OwnFrom n (fun (_ : Unit) W => AxR w x c W) := by
  rintro _ A B row ⟨h1, h2, h3⟩ hg hr
  exact ⟨h1, h2, (hg.block c (blk_lt h3) (fun e => by
    obtain ⟨_, o, ho, hc⟩ := hr _ e.symm
    rw [h3] at ho
    cases ho
    simp [Obj.isCells] at hc)).trans h3⟩
attribute [local go_sem] Oper.semAt_some
set_option maxHeartbeats 2000000 in
theorem hiRank_any (l : List (Nat × Nat)) (hl : GoodL l) (s : Option Addr) (cap : Nat) (hlen : l.length ≤ 100000) (hcap : l.length ≤ cap) (v : Nat) (hv : v ≤ maxU) (w : World) (hL : Rd 2 encB w s l) :
    Calls Tryz.prog 322 #[histV s l.length cap, .int .u64 (v : Int)] w fun e w' => e = .returned (.int .u64 (min (sumH (bkt v) l) maxU : Nat)) ∧ RowKit.Below w.heap.size w w' := by
  have HRT := Lib.hid (fun W hW => hiRight_any l hl s cap (by omega) hcap W hW)
  have hL' := Lib.hid hL
  have HBK := Lib.hid (fun W => hiBucket_any v hv W)
  have hbk := bkt_le v hv
  obtain ⟨last, hlast⟩ : ∃ last, bkt v = last := ⟨_, rfl⟩
  rw [hlast] at HBK hbk ⊢
  clear hlast
  have st0 := ((St.start w).alloc (cs := #[.int .i64 3, .slice s l.length cap]) (T := 101)).alloc (cs := #[.int .u64 0]) (T := 22)
  simp only [World.size_alloc] at st0
  refine (callsIn_wide (n := 5)).1 ?_
  refine callsIn_of_wp_marks Tryz.func322 rfl trivial ?_ rfl
  simp only [Tryz.ntmps322, List.size_toArray, List.length_cons, List.length_nil, Nat.reduceAdd, Nat.reduceSub, Array.replicate_succ, Array.replicate_zero, List.push_toArray, List.append_toArray, List.nil_append, List.cons_append]
  refine wpIn_wide.2 ?_
  go_wp2_with fail
  refine wp_scope_straight ?_
  go_wp2_with fail
  refine (HRT.out _ (hL.keepB (Nat.le_refl _) st0.below)).mono ?_
  rintro e w1 ⟨rfl, hb1⟩
  have st1 := st0.to hb1
  have rl := st1.rules
  simp only [Rules] at rl
  clear st0 hb1 HRT
  go_wp2_with fail
  refine (HBK.out _).mono ?_
  rintro e w2 ⟨rfl, hb2⟩
  have stx := st1.to hb2
  have hb2' : w.heap.size + 1 < w2.heap.size := blk_lt (stx.blk (w.heap.size + 1, #[.int .u64 0], 22) (by simp))
  have st2 := stx.alloc (cs := #[.int .i64 (last : Nat)]) (T := 3)
  clear st1 hb2 HBK stx
  have rl := st2.rules
  simp only [Rules, World.size_alloc] at rl
  have hw2 : w.heap.size ≤ w2.heap.size := by omega
  go_wp2_with fail
  refine wp_label ?_
  have hz3 : (w2.alloc (.cells #[.int .i64 (last : Nat)] 3)).heap.size = w2.heap.size + 1 := by simp
  have HZ3 := Lib.hid hz3
  clear hz3
  generalize w2.alloc (.cells #[.int .i64 (last : Nat)] 3) = w3 at *
  go_wp2_with fail
  refine (hiSums_any s l.length cap w3).mono ?_
  rintro e w4 ⟨rfl, rfl⟩
  clear rl
  go_wp2_with fail
  have st4 := st2.alloc (cs := #[.slice s l.length cap]) (T := 99)
  have hz4 : (w3.alloc (.cells #[.slice s l.length cap] 99)).heap.size = w3.heap.size + 1 := by simp
  have hw3 : w3.heap.size = w2.heap.size + 1 := HZ3.out
  have hw34 : w2.heap.size < w3.heap.size := by omega
  clear hw3 st2
  generalize w3.alloc (.cells #[.slice s l.length cap] 99) = w4 at *
  have hlie : LieB [(w3.heap.size, #[.slice s l.length cap], 99)] w4 := fun x hx => st4.blk x (by simp at hx; rcases hx with rfl; simp)
  have hz34 : w3.heap.size < w4.heap.size := by omega
  have HZ4 := Lib.hid hz4
  clear hz4
  have stc : StRk w s l.length cap (w.heap.size + 1) w2.heap.size w3.heap.size last [] w4 := ⟨fun x hx => (List.not_mem_nil hx).elim, st4⟩
  have hr4 := hL.keepB (Nat.le_refl _) st4.below
  have hw4 : w.heap.size ≤ w4.heap.size := st4.below.size
  refine (wpIn_wide (n := 5)).1 (wpIn_rangeFunc_w (n := 5) (b := none) (fun _ e => by cases e) rfl (by omega) (gf := 335) (lb := #[.pointer (some ⟨w3.heap.size, 0, none⟩)]) rfl trivial (enters_of Tryz.func335 (by kernel_rfl) rfl)
    (fun W hb => sums_seq _ w3.heap.size l hl.2.1 (by omega) s cap hcap (by simp) 4 (by omega) W (hlie.below hb) (hr4.keepB (Nat.le_refl _) hb)) (fun h k => ⟨fun x hx => (k.1 x hx).trans (h.1 x hx), fun r => k.2 (h.2 r)⟩) ?kb (fun _ => rfl)
    (StRk w s l.length cap (w.heap.size + 1) w2.heap.size w3.heap.size last) (StRx w s l.length cap (w.heap.size + 1) w2.heap.size w3.heap.size last)
    (fun _ _ _ _ h hg hr => ⟨h.1, St.own h.2 hg hr hw4⟩) (fun c _ _ _ _ h hg hr => ⟨h.1, by obtain ⟨p, x, h1, h2, h3, h4⟩ := h.2; exact ⟨p, x, h1, h2, h3, St.own h4 hg hr hw4⟩⟩)
    (fun _ _ _ h hg => ⟨h.1, St.grown h.2 hg (fun k e => by cases e)⟩) (fun c _ _ _ h hg => ⟨h.1, by obtain ⟨p, x, h1, h2, h3, h4⟩ := h.2; exact ⟨p, x, h1, h2, h3, St.grown h4 hg (fun k e => by cases e)⟩⟩) stc
    (fun x c => { tmps := #[histV s l.length cap, .int .u64 (v : Int), .pointer (some ⟨w.heap.size, 0, none⟩), undef, .int .u64 0, .pointer (some ⟨w.heap.size + 1, 0, none⟩), .pointer (some ⟨w2.heap.size, 0, none⟩), .pointer (some ⟨c, 0, none⟩), .int .u64 (x.2 : Nat), .agg #[.int .i64 3, .slice s l.length cap], .bool true, .bool false, undef, .pointer (some ⟨w.heap.size, 0, none⟩), .int .i64 3, .int .u64 (v : Int), .int .i64 (last : Nat), .pointer (some ⟨w.heap.size, 1, none⟩), .slice s l.length cap, .func (.func 335) #[] #[.pointer (some ⟨w3.heap.size, 0, none⟩)], .agg #[.int .i64 (x.1.1 : Nat), .int .u64 (x.1.2 : Nat)], .int .u64 (x.2 : Nat), undef, undef, undef, undef, undef, undef], defers := [] })
    (fun x c W => AxR w x c W) (fun x c => AxR.own w x c _) ?assign ?body ?done ?stop)
  case kb =>
    intro W l' o' hl' hlt
    refine ⟨fun x hx => ?_, fun r => ?_⟩
    · simp at hx
      subst hx
      exact World.putObj_heap_other (by show w3.heap.size ≠ _; omega)
    · intro i x hx
      obtain ⟨g0, o0, e0, hg0, _⟩ := hr4 i x hx
      obtain ⟨g, o, e, hg, hc⟩ := r i x hx
      rw [e0] at e
      cases e
      refine ⟨g0, o0, e0, by simpa [World.putObj] using hg, fun j u hu => ?_⟩
      rw [← hc j u hu]
      simp only [World.cell?, World.putObj_heap_other (show g0 ≠ l' by omega)]
  case assign =>
    intro l' pre x W K hI hP hK
    have hal := Below.alloc (Below.refl W.heap.size W) (Nat.le_refl _) (.cells #[.int .i64 (x.1.1 : Nat), .int .u64 (x.1.2 : Nat)] 277)
    have HK := Lib.hid (hK W.heap.size (W.alloc (.cells #[.int .i64 (x.1.1 : Nat), .int .u64 (x.1.2 : Nat)] 277)) (keepsOthers_below hal) ⟨fun y hy => by
        simp at hy
        subst hy
        have := blk_lt (hI.2.blk (w3.heap.size, #[.slice s l.length cap], 99) (by simp))
        exact hal.block _ this, fun r => r.keepB (Nat.le_refl _) hal⟩ ⟨hI.1, hI.2.to hal⟩ ⟨hP, hI.2.below.size, World.alloc_heap_new W _⟩)
    clear hK
    gi_wp2_with fail
    exact HK.out
  case body =>
    rintro l' pre x c W ⟨hlow, stI⟩ ⟨hx2, hcw, hc⟩ hN
    have hc0 := blk_cell hc 0
    have rl := stI.rules
    simp only [Rules] at rl
    obtain ⟨⟨xa, xn⟩, xz⟩ := x
    simp only at hc0 hx2
    clear hc hL hr4 hlie
    by_cases hgt : (last : Int) < (xa : Int)
    · gi_wp2_with fail
      exact ⟨KeepsOthers.refl _, rfl, pre, _, rfl, by show last < xa; omega, hlow, stI⟩
    · gi_wp2_with fail
      have st5 := stI.setT 2 rfl (o := 0) (v := .int .u64 (xz : Nat)) (Nat.le_add_right _ _)
      simp only [setB, List.modify_succ_cons, List.modify_zero_cons, List.setIfInBounds_toArray, List.set_cons_zero] at st5
      refine ⟨KeepsOthers.setCell W ⟨w.heap.size + 1, 0, none⟩ (.int .u64 (xz : Nat)), ⟨fun y hy => ?_, fun r => ?_⟩, fun y hy => ?_, ?_⟩
      · simp at hy
        subst hy
        exact Below.heap_setCell W ⟨w.heap.size + 1, 0, none⟩ _ w3.heap.size (by show w3.heap.size ≠ w.heap.size + 1; omega)
      · exact hL'.out.keepB (Nat.le_refl _) st5.below
      · rcases List.mem_append.1 hy with hy | hy
        · exact hlow y hy
        · simp at hy; subst hy; show xa ≤ last; omega
      · rw [lastS_snoc]; exact st5
  case done =>
    rintro D xs W hD rfl ⟨hlow, st9⟩ hK
    have rl := st9.rules
    simp only [Rules] at rl
    rw [sums_end l last hlow] at rl
    have hcr : W.cell? ⟨w.heap.size + 1, 0, none⟩ = some (.int .u64 (min (sumH last l) maxU : Nat)) := rl.2.2.2.2.2.2.1 0
    clear rl
    go_wp2_with fail
    refine ⟨by simp, .inl ⟨_, _, rfl, run_takeDeferred hK, ?_⟩⟩
    exact ⟨_, by simp [results, Tryz.results322, go_sem], rfl, (st9.own (base := w.heap.size) (grownBy_putObj' W D _) (fun r e => by cases e; exact ⟨by omega, _, hK, rfl⟩) (Nat.le_refl _)).below⟩
  case stop =>
    rintro D c pre W hD hp ⟨rfl, p, x, rfl, hgt, hlow, st9⟩ hK
    have rl := st9.rules
    simp only [Rules] at rl
    rw [sums_stop hl.1 last p x hp hlow hgt] at rl
    have hcr : W.cell? ⟨w.heap.size + 1, 0, none⟩ = some (.int .u64 (min (sumH last l) maxU : Nat)) := rl.2.2.2.2.2.2.1 0
    clear rl hgt
    refine wpIn_wide.2 ?_
    go_wp2_with fail
    refine ⟨by simp, .inl ⟨_, _, rfl, run_takeDeferred hK, ?_⟩⟩
    exact ⟨_, by simp [results, Tryz.results322, go_sem], rfl, (st9.own (base := w.heap.size) (grownBy_putObj' W D _) (fun r e => by cases e; exact ⟨by omega, _, hK, rfl⟩) (Nat.le_refl _)).below⟩
end Go.Proofs.YtmgdbfmlnmahpaaGreatDoor
