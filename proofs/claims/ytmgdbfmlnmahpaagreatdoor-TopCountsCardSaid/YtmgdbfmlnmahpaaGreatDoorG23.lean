/- A part of the proof of TopCounts. -/
import Derived.Test.YtmgdbfmlnmahpaaGreatDoorG22
import Derived.Test.YtmgdbfmlnmahpaaGreatDoorG07
import Derived.WalkLawsBesides
import Derived.Test.YtmgdbfmlnmahpaaGreatDoorG20
import Derived.Test.YtmgdbfmlnmahpaaGreatDoorG05
import Derived.Lib.OthersKept
namespace Go.Proofs.YtmgdbfmlnmahpaaGreatDoor
open Go.RowKit Go.Shelf
set_option linter.unusedSimpArgs false
set_option linter.unusedVariables false
set_option maxRecDepth 100000
theorem levels_any (n : Int) (w : World) : Calls Tryz.prog 213 #[.int .i64 n] w fun e w' => e = .returned (.func (.func 233) #[] #[.pointer (some ⟨w.heap.size, 0, none⟩)]) ∧ w' = w.alloc (.cells #[.int .i64 n] 3) := by
  go_enter Tryz.func213, Tryz.ntmps213
  go_wp2_with fail
  go_ret
  exact ⟨rfl, rfl⟩
def LevS (from' : Nat) (pre : List Nat) : Prop := pre = List.range' from' pre.length
theorem LevS.snoc {f : Nat} {pre : List Nat} (h : LevS f pre) : LevS f (pre ++ [f + pre.length]) := by
  unfold LevS at h ⊢
  rw [List.length_append, List.length_singleton, List.range'_concat, ← h]
  simp
set_option maxHeartbeats 1000000 in
theorem levels1_in (bl : List Blk) (Bw f N : Nat) (hf : f ≤ 1000) (hN : N ≤ 1000) (hBw : (Bw, #[.int .i64 (f : Nat)], 3) ∈ bl)
    (n : Nat) (hn : 1 ≤ n) (lb : Nat) (J Jx : List Nat → World → Prop) (bJ : Bears none J)
    (hY : ∀ (pre : List Nat) (x : Nat) (W : World), J pre W → LevS f (pre ++ [x]) → pre.length < N → YieldAt Fence.wide (n - 1) Tryz.prog lb #[.int .i64 (x : Nat)] W fun e W' =>
      (e = .returned (.bool true) ∧ J (pre ++ [x]) W' ∧ KpB bl W W') ∨ (e = .returned (.bool false) ∧ Jx (pre ++ [x]) W'))
    (W : World) (hW : LieB bl W) (h0 : J [] W) (hJN : ∀ s W', J s W' → s.length < N) :
    CallsIn Fence.wide n Tryz.prog 233 #[.func (.yield lb) #[] #[], .pointer (some ⟨Bw, 0, none⟩)] W fun e W' => (∃ v, e = .returned v) ∧
      ((∃ xs : List Nat, False ∧ J xs W') ∨ (∃ pre, LevS f pre ∧ Jx pre W')) := by
  have hcw := blk_cell (hW _ hBw) 0
  refine callsIn_of_wp Tryz.func233 rfl trivial ?_ rfl
  simp only [Tryz.ntmps233, List.size_toArray, List.length_cons, List.length_nil, Nat.reduceAdd, Nat.reduceSub, Array.replicate_succ, Array.replicate_zero, List.push_toArray, List.append_toArray, List.nil_append, List.cons_append]
  gi_wp2_with fail
  clear hcw
  gi_loopw [3] (fun i wr => ∃ pre : List Nat, LevS f pre ∧ i = .int .i64 ((f + pre.length : Nat) : Int) ∧ LieB bl wr ∧ J pre wr) (fun i _ => N + f - (intOf i).toNat)
  case atStart => exact ⟨[], rfl, rfl, hW, h0⟩
  case round =>
    clear hW h0
    obtain ⟨pre, hpre, rfl, hb, hJ⟩ := hrel
    have hlen := hJN _ _ hJ
    obtain ⟨fn, tmps, assign, body, hy, hR⟩ := hY pre (f + pre.length) _ hJ hpre.snoc hlen
    have HS := Lib.hid hpre.snoc
    obtain ⟨z, hz⟩ : ∃ z, f + pre.length = z := ⟨_, rfl⟩
    have HZ := Lib.hid hz
    rw [hz] at hy hR HS ⊢
    have hz1 : f ≤ z := by omega
    have hz2 : z < f + N := by omega
    clear hz hY hpre hlen
    gi_wp2_with fail
    refine hR.mono ?_
    rintro e W3 (⟨rfl, hJ3, hk3⟩ | ⟨rfl, hJx3⟩)
    · have hb3 := hb.keep hk3
      clear hy hR hJ hb
      gi_wp2_with fail
      go_roundw
      case rel => exact ⟨pre ++ [z], HS.out, by rw [List.length_append, List.length_singleton, ← Nat.add_assoc, HZ.out]; go_num, hb3, hJ3⟩
      case measure => simp [intOf]; omega
    · clear hy hR hJ hb
      gi_wp2_with fail
      go_end0
      exact ⟨⟨_, rfl⟩, .inr ⟨_, HS.out, hJx3⟩⟩
theorem levels_seq (bl : List Blk) (Bw f N : Nat) (hf : f ≤ 1000) (hN : N ≤ 1000) (hBw : (Bw, #[.int .i64 (f : Nat)], 3) ∈ bl) (n : Nat) (hn : 1 ≤ n) (W : World) (hW : LieB bl W) :
    SeqX Fence.wide n Tryz.prog 233 #[.pointer (some ⟨Bw, 0, none⟩)] (fun x : Nat => #[Value.int .i64 (x : Nat)]) (fun _ _ => True) (KpB bl) (fun _ => False) (fun pre => LevS f pre) N none W := fun lb J Jx bJ _ hY h0 hJN =>
  levels1_in bl Bw f N hf hN hBw n hn lb J Jx bJ (fun pre x W h _ hl => hY pre x W h trivial hl) W hW h0 hJN
def StTo (w : World) (b b1 b2 : Nat) (wc : Array Value) (pre : List Nat) (W : World) : Prop :=
  pre = [] ∧ St w [(b, #[.int .i64 0], 3), (b2, #[.nilIface], 137), (w.heap.size + 1 + 1, #[.nilIface, .int .i64 0, .int .i64 0], 135), (w.heap.size + 1, #[.int .i64 0], 3), (w.heap.size, wc, 135)] (fun _ => True) W
def StTx (w : World) (b b1 b2 : Nat) (wc : Array Value) (c : Code) (pre : List Nat) (W : World) : Prop := c = .exit 0 ∧ pre.length = 1 ∧ StTo w b b1 b2 wc [] W
attribute [local go_sem] Oper.semAt_some
set_option maxHeartbeats 2000000 in
theorem to_same (x : Sk) (h : SkH) (w : World) :
    Calls Tryz.prog 173 #[h.w x, .int .i64 0] w fun e w' => e = .returned (.tuple #[h.w x, .nilIface]) ∧ Below w.heap.size w w' := by
  have HB := Lib.hid (fun W => bottom_any x W)
  have hbt : ¬ (if x.kind = 1 then (4 : Int) else 3) < 0 := by split <;> decide
  obtain ⟨bD, bV, hbd⟩ := SkH.b_form x h
  simp only [SkH.w, hbd]
  clear hbd
  generalize (if x.kind = 1 then (4 : Int) else 3) = bt at *
  generalize x.kind = kd at *
  have st0 := (((St.start w).alloc (cs := #[.iface bD bV, .int .i64 kd, .int .i64 0]) (T := 135)).alloc (cs := #[.int .i64 0]) (T := 3)).alloc (cs := #[.nilIface, .int .i64 0, .int .i64 0]) (T := 135)
  simp only [World.size_alloc] at st0
  refine (callsIn_wide (n := 5)).1 ?_
  refine callsIn_of_wp_marks Tryz.func173 rfl trivial ?_ rfl
  simp only [Tryz.ntmps173, List.size_toArray, List.length_cons, List.length_nil, Nat.reduceAdd, Nat.reduceSub, Array.replicate_succ, Array.replicate_zero, List.push_toArray, List.append_toArray, List.nil_append, List.cons_append]
  refine wpIn_wide.2 ?_
  go_wp2_with fail
  refine wp_scope_straight ?_
  go_wp2_with fail
  obtain ⟨bl2, E2, hne2, sh2, rl, hEx, hbx, hst⟩ := st0.hide
  simp only [Rules] at rl
  refine region_st sh2 (by kernel_rfl) (by kernel_rfl) ?_
  repeat (first | go_big_quiet_step ((go_at_call 87; exact Cs.call_same (HB.out _))) | quiet_step ((go_at_call 87; exact Cs.call_same (HB.out _))))
  refine wpQuiet_nil ?_
  intro y
  have st4 := (hst y).out
  clear hbx rl hst sh2 hEx st0 HB
  generalize y.W = w4 at *
  have rl := st4.rules
  simp only [Rules] at rl
  have hw4 : w.heap.size + 1 + 1 < w4.heap.size := rl.2.2.1
  have st5 := st4.alloc (cs := #[.nilIface]) (T := 137)
  clear st4
  go_wp2_with fail
  refine wp_label ?_
  have hz5 : (w4.alloc (.cells #[.nilIface] 137)).heap.size = w4.heap.size + 1 := by simp
  have rl := st5.rules
  simp only [Rules] at rl
  have HZ5 := Lib.hid hz5
  clear hz5
  generalize w4.alloc (.cells #[.nilIface] 137) = w5 at *
  have hc2 : ∀ o, w5.cell? ⟨w.heap.size, o, none⟩ = (#[.iface bD bV, .int .i64 kd, .int .i64 0] : Array Value)[o]? := rl.2.2.2.2.2.2.2.2.2.1
  clear rl
  go_wp2_with fail
  refine (levels_any 0 w5).mono ?_
  rintro e w6 ⟨rfl, rfl⟩
  clear hc2
  go_wp2_with fail
  have st6 := st5.alloc (cs := #[.int .i64 0]) (T := 3)
  have hz6 : (w5.alloc (.cells #[.int .i64 0] 3)).heap.size = w5.heap.size + 1 := by simp
  have hz45 : w4.heap.size < w5.heap.size := by have := HZ5.out; omega
  have hw6 := st6.below.size
  have HZ6 := Lib.hid hz6
  clear st5
  generalize w5.alloc (.cells #[.int .i64 0] 3) = w6 at *
  have hz56 : w5.heap.size < w6.heap.size := by omega
  clear hz6
  have hlie : LieB [(w5.heap.size, #[.int .i64 0], 3)] w6 := fun x hx => st6.blk x (by simp at hx; rcases hx with rfl; simp)
  have stc : StTo w w5.heap.size 0 w4.heap.size #[.iface bD bV, .int .i64 kd, .int .i64 0] [] w6 := ⟨rfl, st6⟩
  refine (wpIn_wide (n := 5)).1 (wpIn_rangeFunc_x (n := 5) (b := none) (fun _ e => by cases e) rfl (by omega) (gf := 233) (lb := #[.pointer (some ⟨w5.heap.size, 0, none⟩)]) rfl trivial (enters_of Tryz.func233 (by kernel_rfl) rfl)
    (fun W hb => levels_seq [(w5.heap.size, #[.int .i64 0], 3)] w5.heap.size 0 1 (by omega) (by omega) (by simp) 4 (by omega) W (hlie.below hb)) (fun h k => fun x hx => (k x hx).trans (h x hx)) ?kb (fun _ => rfl)
    (StTo w w5.heap.size 0 w4.heap.size #[.iface bD bV, .int .i64 kd, .int .i64 0]) (StTx w w5.heap.size 0 w4.heap.size #[.iface bD bV, .int .i64 kd, .int .i64 0])
    (fun _ _ _ _ h hg hr => ⟨h.1, St.own h.2 hg hr hw6⟩) (fun c _ _ _ _ h hg hr => ⟨h.1, h.2.1, rfl, St.own h.2.2.2 hg hr hw6⟩)
    (fun _ _ _ h hg => ⟨h.1, St.grown h.2 hg (fun k e => by cases e)⟩) (fun c _ _ _ h hg => ⟨h.1, h.2.1, rfl, St.grown h.2.2.2 hg (fun k e => by cases e)⟩) stc (fun s W' h => by rw [h.1]; exact Nat.zero_lt_one)
    (fun x c => { tmps := #[.agg #[.iface bD bV, .int .i64 kd, .int .i64 0], .int .i64 0, .pointer (some ⟨w.heap.size, 0, none⟩), .pointer (some ⟨w.heap.size + 1, 0, none⟩), .pointer (some ⟨w.heap.size + 1 + 1, 0, none⟩), .nilIface, .pointer (some ⟨w4.heap.size, 0, none⟩), .int .i64 (x : Int), .int .i64 0, .pointer (some ⟨w.heap.size, 1, none⟩), .int .i64 kd, .int .i64 bt, .bool (decide (bt < 0)), undef, undef, undef, undef, .pointer (some ⟨w.heap.size, 2, none⟩), .int .i64 0, .func (.func 233) #[] #[.pointer (some ⟨w5.heap.size, 0, none⟩)], .int .i64 (x : Int), undef, undef, undef, undef, undef, undef, undef, undef, undef, undef, undef, undef, undef, undef], defers := [] })
    (fun x c W => True) (fun x c => fun _ _ _ _ h _ _ => h) ?assign ?body ?done ?stop)
  case kb =>
    intro W l o' hl' hlt x hx
    have := blk_lt (hlie x hx)
    exact World.putObj_heap_other (by omega)
  case assign =>
    intro l pre x W K hI hP hK
    have HK := Lib.hid (hK 0 W (KeepsOthers.refl _) (fun _ _ => rfl) hI trivial)
    clear hK
    gi_wp2_with fail
    exact HK.out
  case body =>
    rintro l pre x c W ⟨rfl, stI⟩ _ hN
    have rl := stI.rules
    simp only [Rules] at rl
    clear stc st6 hlie
    gi_wp2_with fail
    exact ⟨KeepsOthers.refl _, rfl, rfl, rfl, stI⟩
  case done =>
    rintro D xs W hD h
    exact h.elim
  case stop =>
    rintro D c pre W hD hp ⟨rfl, hlen, _, st9⟩ hK
    refine wpIn_wide.2 ?_
    have rl := st9.rules
    simp only [Rules] at rl
    clear stc st6 hlie
    go_wp2_with fail
    go_region
    all_goals
      go_wp2_with fail
      have hne : D ≠ w.heap.size + 1 + 1 := by omega
      have st10 := (((St.setT st9 2 (A := w.heap.size + 1 + 1) rfl (o := 0) (v := .iface bD bV) (by omega)).setT 2 (A := w.heap.size + 1 + 1) rfl (o := 1) (v := .int .i64 kd) (by omega)).setT 2 (A := w.heap.size + 1 + 1) rfl (o := 2) (v := .int .i64 0) (by omega)).drew
      simp only [setB, List.modify_succ_cons, List.modify_zero_cons, List.setIfInBounds_toArray, List.set_cons_zero, List.set_cons_succ] at st10
      have hK' : (((W.setCell ⟨w.heap.size + 1 + 1, 0, none⟩ (.iface bD bV)).setCell ⟨w.heap.size + 1 + 1, 1, none⟩ (.int .i64 kd)).setCell ⟨w.heap.size + 1 + 1, 2, none⟩ (.int .i64 0)).drew.heap[D]? = some (.deferred (some [])) :=
        (Below.heap_setCell _ ⟨w.heap.size + 1 + 1, 2, none⟩ _ D hne).trans ((Below.heap_setCell _ ⟨w.heap.size + 1 + 1, 1, none⟩ _ D hne).trans ((Below.heap_setCell _ ⟨w.heap.size + 1 + 1, 0, none⟩ _ D hne).trans hK))
      clear rl st9 hK
      generalize (((W.setCell ⟨w.heap.size + 1 + 1, 0, none⟩ (.iface bD bV)).setCell ⟨w.heap.size + 1 + 1, 1, none⟩ (.int .i64 kd)).setCell ⟨w.heap.size + 1 + 1, 2, none⟩ (.int .i64 0)).drew = W' at *
      refine ⟨by simp, .inl ⟨_, _, rfl, run_takeDeferred hK', ?_⟩⟩
      have hc : ∀ o, (W'.putObj D (.deferred none)).cell? ⟨w.heap.size + 1 + 1, o, none⟩ = (#[.iface bD bV, .int .i64 kd, .int .i64 0] : Array Value)[o]? := fun o => blk_cell ((World.putObj_heap_other (by omega)).trans (st10.blk _ (List.mem_of_getElem? (i := 2) rfl))) o
      refine ⟨.tuple #[.agg #[.iface bD bV, .int .i64 kd, .int .i64 0], .nilIface], by simp [results, Tryz.results173, go_sem, hc], rfl, ?_⟩
      exact st10.below.grown (grownBy_putObj' W' D _) st10.below.size (fun k e => by cases e; omega)
end Go.Proofs.YtmgdbfmlnmahpaaGreatDoor
namespace Go.Proofs.YtmgdbfmlnmahpaaGreatDoor
open Go.RowKit Go.Shelf
set_option linter.unusedSimpArgs false
set_option linter.unusedVariables false
set_option maxRecDepth 100000
theorem to_form (x : Sk) (h : SkH) {bD : Nat} {bV : Value} (hb : h.b x = .iface bD bV) (w : World) : Calls Tryz.prog 173 #[.agg #[.iface bD bV, .int .i64 x.kind, .int .i64 0], .int .i64 0] w fun e w' => e = .returned (.tuple #[.agg #[.iface bD bV, .int .i64 x.kind, .int .i64 0], .nilIface]) ∧ Below w.heap.size w w' := by
  rw [← hb]; exact to_same x h w
set_option maxHeartbeats 1000000 in
theorem even_same (x y : Sk) (h k : SkH) (w : World) :
    Calls Tryz.prog 130 #[h.w x, k.w y, .int .i64 0] w fun e w' => e = .returned (.tuple #[h.w x, k.w y, .nilIface]) ∧ Below w.heap.size w w' := by
  obtain ⟨bD, bV, hbd⟩ := SkH.b_form x h
  obtain ⟨cD, cV, hcd⟩ := SkH.b_form y k
  have H1 := Lib.hid (fun W => to_form x h hbd W)
  have H2 := Lib.hid (fun W => to_form y k hcd W)
  simp only [SkH.w, hbd, hcd]
  clear hbd hcd
  generalize x.kind = kd at *
  generalize y.kind = ke at *
  have st0 := ((((St.start w).alloc (cs := #[.iface bD bV, .int .i64 kd, .int .i64 0]) (T := 135)).alloc (cs := #[.iface cD cV, .int .i64 ke, .int .i64 0]) (T := 135)).alloc (cs := #[.nilIface, .int .i64 0, .int .i64 0]) (T := 135)).alloc (cs := #[.nilIface, .int .i64 0, .int .i64 0]) (T := 135)
  simp only [World.size_alloc] at st0
  go_enter Tryz.func130, Tryz.ntmps130
  go_wp2_with fail
  refine (H1.out _).mono ?_
  rintro e w1 ⟨rfl, hb1⟩
  have st1 := st0.to hb1
  have rl := st1.rules
  simp only [Rules] at rl
  clear st0 hb1 H1
  go_wp2_with fail
  refine (H2.out _).mono ?_
  rintro e w2 ⟨rfl, hb2⟩
  have st2 := ((((St.setT st1 3 (A := w.heap.size) rfl (o := 0) (v := .iface bD bV) (by omega)).setT 3 (A := w.heap.size) rfl (o := 1) (v := .int .i64 kd) (by omega)).setT 3 (A := w.heap.size) rfl (o := 2) (v := .int .i64 0) (by omega))).to hb2
  simp only [setB, List.modify_succ_cons, List.modify_zero_cons, List.setIfInBounds_toArray, List.set_cons_zero, List.set_cons_succ] at st2
  clear st1 hb2 H2 rl
  have rl := st2.rules
  simp only [Rules] at rl
  go_wp2_with fail
  go_region
  all_goals
    go_wp2_with fail
    refine bodyPost_ret (v := .tuple #[.agg #[.iface bD bV, .int .i64 kd, .int .i64 0], .agg #[.iface cD cV, .int .i64 ke, .int .i64 0], .nilIface]) (by simp [results, Tryz.results130, go_sem, rl]) rfl ⟨rfl, ?_⟩
    refine Below.drew ?_
    repeat (with_reducible refine Below.setCell ?_ (by simp; try omega) _)
    exact st2.below
theorem Sk.add_kind (x : Sk) (a n : Nat) : (x.add a n).kind = x.kind := by cases x <;> rfl
theorem Sk.merge_kind (x y : Sk) : (x.merge y).kind = x.kind := by cases x <;> cases y <;> rfl
def GivesW (w : World) (x : Sk) (e : Ending) (w' : World) : Prop := ∃ h : SkH, e = .returned (.tuple #[h.w x, .nilIface]) ∧ RdK w' x h ∧ FreshK w.heap.size h ∧ RowKit.Below w.heap.size w w'
set_option maxHeartbeats 1000000 in
theorem with_one (x : Sk) (hx : x.Ok) (hl : x.len + 1 ≤ 60) (a n : Nat) (ha : a ≤ maxU) (hn : n ≤ maxU) (h : SkH) (A : Nat) (w : World) (hK : RdK w x h) (hA : w.heap[A]? = some (.cells #[.int .u64 (a : Int), .int .u64 (n : Int)] 45 (0, 0))) :
    Calls Tryz.prog 112 #[h.w x, .slice (some ⟨A, 0, none⟩) 1 1] w (GivesW w (x.add a n)) := by
  have HC := Lib.hid (fun W hW => badd_any x hx hl a n ha hn h W (hK.keepB hW))
  have hm := fun w => methAdd x (h.a x) w
  have hent := fun args w => enterAdd x args w
  have HKD := Lib.hid (x.add_kind a n)
  have hcA := blk_cell hA
  have hlA := blk_lt hA
  simp only [SkH.w, SkH.b_a]
  generalize h.a x = bV at *
  generalize x.bt = bD at *
  generalize x.fAdd = fC at *
  generalize x.add a n = y at *
  generalize x.kind = kd at *
  have st0 := (((St.start w).alloc (cs := #[.iface bD bV, .int .i64 kd, .int .i64 0]) (T := 135)).alloc (cs := #[.nilIface, .int .i64 0, .int .i64 0]) (T := 135)).alloc (cs := #[.int .u64 (a : Int), .int .u64 (n : Int)]) (T := 45)
  simp only [World.size_alloc] at st0
  clear hK hA ha hn hx hl
  go_enter Tryz.func112, Tryz.ntmps112
  go_wp2_with fail
  refine wp_loop_rounds 2 ?_
  rw [rounds_succ]
  go_wp2_with fail
  refine (HC.out _ st0.below).mono ?_
  rintro e w1 ⟨h', rfl, hd, hf, hb1⟩
  have st1 := st0.to hb1
  have HF := hf.mono (show w.heap.size + 1 + 1 + 1 ≤ _ by simp)
  have HD := Lib.hid hd
  obtain ⟨cD, cV, hcd⟩ := SkH.b_form y h'
  have HCD := Lib.hid hcd
  rw [hcd]
  have rl := st1.rules
  simp only [Rules] at rl
  clear st0 hb1 HC hd hf hcd hm hent hcA
  go_wp2_with fail
  refine (isFull_nil _).mono ?_
  rintro e w2 ⟨rfl, hb2⟩
  have st2 := st1.to hb2
  have HD2 := Lib.hid (HD.out.keepB hb2)
  clear st1 hb2 rl HD
  have rl := st2.rules
  simp only [Rules] at rl
  go_wp2_with fail
  rw [rounds_succ]
  go_wp2_with fail
  refine bodyPost_ret (v := .tuple #[.agg #[.iface cD cV, .int .i64 kd, .int .i64 0], .nilIface]) (by simp [results, Tryz.results112, go_sem, rl]) rfl ⟨h', by rw [SkH.w, HCD.out, HKD.out], HD2.out.up HF ?_, HF.mono (by omega), ?_⟩
  · repeat (with_reducible refine KeepUp.set ?_ (by omega) _)
    exact KeepUp.refl _ _
  · repeat (with_reducible refine Below.setCell ?_ (by simp; try omega) _)
    exact st2.below
end Go.Proofs.YtmgdbfmlnmahpaaGreatDoor
namespace Go.Proofs.YtmgdbfmlnmahpaaGreatDoor
open Go.RowKit Go.Shelf
set_option linter.unusedSimpArgs false
set_option linter.unusedVariables false
set_option maxRecDepth 100000
set_option maxHeartbeats 1000000 in
theorem merged_any (x y : Sk) (hkk : x.kind = y.kind) (hx : x.Ok) (hy : y.Ok) (hl : x.len + y.len ≤ 60) (h k : SkH) (w : World) (hK : RdK w x h) (hK' : RdK w y k) :
    Calls Tryz.prog 85 #[h.w x, k.w y] w (GivesW w (x.merge y)) := by
  have HC := Lib.hid (fun W hW => bmerge_any x y hkk hx hy hl h k W (hK.keepB hW) (hK'.keepB hW))
  have HV := Lib.hid (fun W => even_same x y h k W)
  have hm := fun w => methMerge x (h.a x) w
  have hent := fun args w => enterMerge x args w
  have HKD := Lib.hid (x.merge_kind y)
  obtain ⟨cD, cV, hcd⟩ := SkH.b_form y k
  simp only [SkH.w, SkH.b_a x h, hcd, ← hkk] at HV HC ⊢
  clear hcd
  generalize h.a x = bV at *
  generalize x.bt = bD at *
  generalize x.fMerge = fC at *
  generalize x.merge y = z at *
  generalize x.kind = kd at *
  have st0 := (((St.start w).alloc (cs := #[.iface bD bV, .int .i64 kd, .int .i64 0]) (T := 135)).alloc (cs := #[.iface cD cV, .int .i64 kd, .int .i64 0]) (T := 135)).alloc (cs := #[.nilIface, .int .i64 0, .int .i64 0]) (T := 135)
  simp only [World.size_alloc] at st0
  clear hK hK' hkk hx hy hl
  go_enter Tryz.func85, Tryz.ntmps85
  go_wp2_with fail
  refine (HV.out _).mono ?_
  rintro e w1 ⟨rfl, hb1⟩
  have st1 := st0.to hb1
  have rl := st1.rules
  simp only [Rules] at rl
  clear st0 hb1 HV
  go_wp2_with fail
  have st2 := ((((((St.setT st1 2 (A := w.heap.size) rfl (o := 0) (v := .iface bD bV) (by omega)).setT 2 (A := w.heap.size) rfl (o := 1) (v := .int .i64 kd) (by omega)).setT 2 (A := w.heap.size) rfl (o := 2) (v := .int .i64 0) (by omega))).setT 1 (A := w.heap.size + 1) rfl (o := 0) (v := .iface cD cV) (by omega)).setT 1 (A := w.heap.size + 1) rfl (o := 1) (v := .int .i64 kd) (by omega)).setT 1 (A := w.heap.size + 1) rfl (o := 2) (v := .int .i64 0) (by omega)
  simp only [setB, List.modify_succ_cons, List.modify_zero_cons, List.setIfInBounds_toArray, List.set_cons_zero, List.set_cons_succ] at st2
  clear st1 rl
  refine (HC.out _ st2.below).mono ?_
  rintro e w3 ⟨h', rfl, hd, hf, hb3⟩
  have st3 := st2.to hb3
  have hz2 : w.heap.size + 1 + 1 < _ := blk_lt (st2.blk (w.heap.size + 1 + 1, #[.nilIface, .int .i64 0, .int .i64 0], 135) (by simp))
  have HF := hf.mono (show w.heap.size + 1 + 1 + 1 ≤ _ from hz2)
  have HD := Lib.hid hd
  obtain ⟨eD, eV, hed⟩ := SkH.b_form z h'
  have HED := Lib.hid hed
  rw [hed]
  have rl := st3.rules
  simp only [Rules] at rl
  clear st2 hb3 HC hd hf hed hm hent hz2
  go_wp2_with fail
  refine (isFull_nil _).mono ?_
  rintro e w4 ⟨rfl, hb4⟩
  have st4 := st3.to hb4
  have HD2 := Lib.hid (HD.out.keepB hb4)
  clear st3 hb4 rl HD
  have rl := st4.rules
  simp only [Rules] at rl
  go_wp2_with fail
  refine bodyPost_ret (v := .tuple #[.agg #[.iface eD eV, .int .i64 kd, .int .i64 0], .nilIface]) (by simp [results, Tryz.results85, go_sem, rl]) rfl ⟨h', by rw [SkH.w, HED.out, HKD.out], HD2.out.up HF ?_, HF.mono (by omega), ?_⟩
  · repeat (with_reducible refine KeepUp.set ?_ (by omega) _)
    exact KeepUp.refl _ _
  · repeat (with_reducible refine Below.setCell ?_ (by simp; try omega) _)
    exact st4.below
set_option maxHeartbeats 1000000 in
theorem ladAdd_any (x : Sk) (hx : x.Ok) (hl : x.len + 1 ≤ 60) (a n : Nat) (ha : a ≤ maxU) (hn : n ≤ maxU) (h : SkH) (w : World) (hK : RdK w x h) :
    Calls Tryz.prog 70 #[h.v x, .agg #[.int .u64 (a : Int), .int .u64 (n : Int)]] w (GivesK0 w (x.add a n)) := by
  have HO := Lib.hid (fun W hW => open_ok x hx h W (hK.keepB hW))
  have HW := Lib.hid (fun A W hW hA => with_one x hx hl a n ha hn h A W (hK.keepB hW) hA)
  have HT := Lib.hid (fun h' W hK' => wtold_ok (x.add a n) (Sk.add_ok hx hl a n ha hn).1 h' W hK')
  have HKD := Lib.hid (x.add_kind a n)
  obtain ⟨bD, bV, hbd⟩ := SkH.b_form x h
  simp only [SkH.w, hbd] at HO HW
  clear hbd
  generalize x.add a n = y at *
  obtain ⟨⟨es, ec⟩, ⟨cs, cc⟩, ⟨gs, gc⟩⟩ := h
  change Calls Tryz.prog 70 #[.agg #[.int .i64 x.kind, .int .i64 0, .slice es x.e.length ec, .int .i64 0, .string ⟨#[]⟩, .int .i64 x.rows, .int .i64 x.cols, .slice cs x.c.length cc, .int .i64 x.fine, .slice gs x.g.length gc], .agg #[.int .u64 (a : Int), .int .u64 (n : Int)]] w _
  have st0 := (((St.start w).alloc (cs := #[.int .i64 x.kind, .int .i64 0, .slice es x.e.length ec, .int .i64 0, .string ⟨#[]⟩, .int .i64 x.rows, .int .i64 x.cols, .slice cs x.c.length cc, .int .i64 x.fine, .slice gs x.g.length gc]) (T := 103)).alloc (cs := #[.int .u64 (a : Int), .int .u64 (n : Int)]) (T := 45)).alloc (cs := #[.int .i64 0, .int .i64 0, .slice none 0 0, .int .i64 0, .string ⟨#[]⟩, .int .i64 0, .int .i64 0, .slice none 0 0, .int .i64 0, .slice none 0 0]) (T := 103)
  simp only [World.size_alloc] at st0
  clear hK hx hl ha hn
  go_enter Tryz.func70, Tryz.ntmps70
  go_wp2_with fail
  refine (HO.out _ st0.below).mono ?_
  rintro e w1 ⟨rfl, hb1⟩
  have st1 := ((st0.to hb1).alloc (cs := #[.iface bD bV, .int .i64 x.kind, .int .i64 0]) (T := 135)).alloc (cs := #[.int .u64 (a : Int), .int .u64 (n : Int)]) (T := 45)
  have rl := (st0.to hb1).rules
  simp only [Rules] at rl
  simp only [World.size_alloc] at st1
  have hw1 : w.heap.size ≤ w1.heap.size := (st0.to hb1).below.size
  clear st0 hb1 HO
  go_wp2_with fail
  refine (HW.out (w1.heap.size + 1) _ st1.below (st1.blk _ (List.mem_of_getElem? (i := 0) rfl))).mono ?_
  rintro e w2 ⟨h', rfl, hd, hf, hb2⟩
  have st2 := st1.to hb2
  have HF := hf.mono (show w1.heap.size + 1 ≤ _ by simp)
  have HD := Lib.hid hd
  obtain ⟨cD, cV, hcd⟩ := SkH.b_form y h'
  have HCD := Lib.hid hcd
  simp only [SkH.w, hcd, HKD.out]
  clear st1 hb2 HW hd hf hcd rl
  have rl := st2.rules
  simp only [Rules] at rl
  go_wp2_with fail
  have st3 := ((St.setT st2 1 (A := w1.heap.size) rfl (o := 0) (v := .iface cD cV) hw1).setT 1 (A := w1.heap.size) rfl (o := 1) (v := .int .i64 x.kind) hw1).setT 1 (A := w1.heap.size) rfl (o := 2) (v := .int .i64 0) hw1
  simp only [setB, List.modify_succ_cons, List.modify_zero_cons, List.setIfInBounds_toArray, List.set_cons_zero, List.set_cons_succ] at st3
  have HD3 := HD.out.up HF (((KeepUp.refl _ _).set (b := w1.heap.size) (o := 0) (Nat.lt_succ_self _) (.iface cD cV)).set (b := w1.heap.size) (o := 1) (Nat.lt_succ_self _) (.int .i64 x.kind) |>.set (b := w1.heap.size) (o := 2) (Nat.lt_succ_self _) (.int .i64 0))
  have HT' := HT.out h' _ HD3
  rw [SkH.w, HCD.out, HKD.out] at HT'
  have HT2 := Lib.hid HT'
  clear HT HT' HD HD3 HF st2 rl
  refine HT2.out.mono ?_
  rintro e w4 ⟨⟨⟨es', ec'⟩, ⟨cs', cc'⟩, ⟨gs', gc'⟩⟩, rfl, hd, hf, hb4⟩
  have hz3 := blk_lt (st3.blk (w.heap.size + 1 + 1, #[.int .i64 0, .int .i64 0, .slice none 0 0, .int .i64 0, .string ⟨#[]⟩, .int .i64 0, .int .i64 0, .slice none 0 0, .int .i64 0, .slice none 0 0], 103) (by simp))
  have st4 := st3.to hb4
  have HF := hf.mono (show w.heap.size + 1 + 1 + 1 ≤ _ from hz3)
  have HD := Lib.hid hd
  have rl := st4.rules
  simp only [Rules] at rl
  clear st3 hb4 hd hf HT2 hz3
  go_wp2_with fail
  refine bodyPost_ret (v := .tuple #[.agg #[.int .i64 y.kind, .int .i64 0, .slice es' y.e.length ec', .int .i64 0, .string ⟨#[]⟩, .int .i64 y.rows, .int .i64 y.cols, .slice cs' y.c.length cc', .int .i64 y.fine, .slice gs' y.g.length gc'], .int .i64 0]) (by simp [results, Tryz.results70, go_sem, rl]) rfl ⟨⟨⟨es', ec'⟩, ⟨cs', cc'⟩, ⟨gs', gc'⟩⟩, rfl, HD.out.up HF ?_, HF.mono (by omega), ?_⟩
  · repeat (with_reducible refine KeepUp.set ?_ (by omega) _)
    exact KeepUp.refl _ _
  · repeat (with_reducible refine Below.setCell ?_ (by simp; try omega) _)
    exact st4.below
set_option maxHeartbeats 2000000 in
theorem ladMerge_any (x y : Sk) (hkk : x.kind = y.kind) (hx : x.Ok) (hy : y.Ok) (hl : x.len + y.len ≤ 60) (hz : (x.merge y).Ok) (h k : SkH) (w : World) (hK : RdK w x h) (hK' : RdK w y k) :
    Calls Tryz.prog 53 #[h.v x, k.v y] w (GivesK0 w (x.merge y)) := by
  have HO := Lib.hid (fun W hW => open_ok x hx h W (hK.keepB hW))
  have HP := Lib.hid (fun W hW => open_ok y hy k W (hK'.keepB hW))
  have HW := Lib.hid (fun W hW => merged_any x y hkk hx hy hl h k W (hK.keepB hW) (hK'.keepB hW))
  have HT := Lib.hid (fun h' W hK' => wtold_ok (x.merge y) hz h' W hK')
  have HKD := Lib.hid (x.merge_kind y)
  obtain ⟨bD, bV, hbd⟩ := SkH.b_form x h
  obtain ⟨aD, aV, had⟩ := SkH.b_form y k
  simp only [SkH.w, hbd, had, ← hkk] at HO HP HW
  clear hbd had
  generalize x.merge y = z at *
  obtain ⟨⟨es, ec⟩, ⟨cs, cc⟩, ⟨gs, gc⟩⟩ := h
  obtain ⟨⟨es2, ec2⟩, ⟨cs2, cc2⟩, ⟨gs2, gc2⟩⟩ := k
  change Calls Tryz.prog 53 #[.agg #[.int .i64 x.kind, .int .i64 0, .slice es x.e.length ec, .int .i64 0, .string ⟨#[]⟩, .int .i64 x.rows, .int .i64 x.cols, .slice cs x.c.length cc, .int .i64 x.fine, .slice gs x.g.length gc], .agg #[.int .i64 y.kind, .int .i64 0, .slice es2 y.e.length ec2, .int .i64 0, .string ⟨#[]⟩, .int .i64 y.rows, .int .i64 y.cols, .slice cs2 y.c.length cc2, .int .i64 y.fine, .slice gs2 y.g.length gc2]] w _
  have HKK := Lib.hid hkk
  rw [← hkk]
  have st0 := (((St.start w).alloc (cs := #[.int .i64 x.kind, .int .i64 0, .slice es x.e.length ec, .int .i64 0, .string ⟨#[]⟩, .int .i64 x.rows, .int .i64 x.cols, .slice cs x.c.length cc, .int .i64 x.fine, .slice gs x.g.length gc]) (T := 103)).alloc (cs := #[.int .i64 x.kind, .int .i64 0, .slice es2 y.e.length ec2, .int .i64 0, .string ⟨#[]⟩, .int .i64 y.rows, .int .i64 y.cols, .slice cs2 y.c.length cc2, .int .i64 y.fine, .slice gs2 y.g.length gc2]) (T := 103)).alloc (cs := #[.int .i64 0, .int .i64 0, .slice none 0 0, .int .i64 0, .string ⟨#[]⟩, .int .i64 0, .int .i64 0, .slice none 0 0, .int .i64 0, .slice none 0 0]) (T := 103)
  simp only [World.size_alloc] at st0
  have HP' : Hid _ := HP
  simp only [SkH.v, ← hkk] at HP'
  clear hK hK' hx hy hl hz hkk HP
  go_enter Tryz.func53, Tryz.ntmps53
  go_wp2_with fail
  refine (HO.out _ st0.below).mono ?_
  rintro e w1 ⟨rfl, hb1⟩
  have st1 := (st0.to hb1).alloc (cs := #[.iface bD bV, .int .i64 x.kind, .int .i64 0]) (T := 135)
  have rl := (st0.to hb1).rules
  simp only [Rules] at rl
  clear st0 hb1 HO
  go_wp2_with fail
  refine (HP'.out _ st1.below).mono ?_
  rintro e w2 ⟨rfl, hb2⟩
  have st2 := (st1.to hb2).alloc (cs := #[.iface aD aV, .int .i64 x.kind, .int .i64 0]) (T := 135)
  have hw01 : w.heap.size + 1 + 1 < w1.heap.size := by omega
  clear rl
  have rl := (st1.to hb2).rules
  simp only [Rules] at rl
  clear st1 hb2 HP'
  go_wp2_with fail
  refine (HW.out _ st2.below).mono ?_
  rintro e w3 ⟨h', rfl, hd, hf, hb3⟩
  have st3 := st2.to hb3
  have HF := hf.mono (show w2.heap.size ≤ _ by simp)
  have HD := Lib.hid hd
  obtain ⟨cD, cV, hcd⟩ := SkH.b_form z h'
  have HCD := Lib.hid hcd
  simp only [SkH.w, hcd, HKD.out]
  have hw12 : w1.heap.size < w2.heap.size := by omega
  clear st2 hb3 HW hd hf hcd rl
  have rl := st3.rules
  simp only [Rules] at rl
  go_wp2_with fail
  have hw1 : w.heap.size ≤ w1.heap.size := by omega
  have st4 := ((St.setT st3 1 (A := w1.heap.size) rfl (o := 0) (v := .iface cD cV) hw1).setT 1 (A := w1.heap.size) rfl (o := 1) (v := .int .i64 x.kind) hw1).setT 1 (A := w1.heap.size) rfl (o := 2) (v := .int .i64 0) hw1
  simp only [setB, List.modify_succ_cons, List.modify_zero_cons, List.setIfInBounds_toArray, List.set_cons_zero, List.set_cons_succ] at st4
  have HD3 := HD.out.up HF (((KeepUp.refl _ _).set (b := w1.heap.size) (o := 0) hw12 (.iface cD cV)).set (b := w1.heap.size) (o := 1) hw12 (.int .i64 x.kind) |>.set (b := w1.heap.size) (o := 2) hw12 (.int .i64 0))
  have HT' := HT.out h' _ HD3
  rw [SkH.w, HCD.out, HKD.out] at HT'
  have HT2 := Lib.hid HT'
  clear HT HT' HD HD3 HF st3 rl
  refine HT2.out.mono ?_
  rintro e w5 ⟨⟨⟨es', ec'⟩, ⟨cs', cc'⟩, ⟨gs', gc'⟩⟩, rfl, hd, hf, hb4⟩
  have hz3 := blk_lt (st4.blk (w.heap.size + 1 + 1, #[.int .i64 0, .int .i64 0, .slice none 0 0, .int .i64 0, .string ⟨#[]⟩, .int .i64 0, .int .i64 0, .slice none 0 0, .int .i64 0, .slice none 0 0], 103) (by simp))
  have st5 := st4.to hb4
  have HF := hf.mono (show w.heap.size + 1 + 1 + 1 ≤ _ from hz3)
  have HD := Lib.hid hd
  have rl := st5.rules
  simp only [Rules] at rl
  clear st4 hb4 hd hf HT2 hz3
  go_wp2_with fail
  refine bodyPost_ret (v := .tuple #[.agg #[.int .i64 z.kind, .int .i64 0, .slice es' z.e.length ec', .int .i64 0, .string ⟨#[]⟩, .int .i64 z.rows, .int .i64 z.cols, .slice cs' z.c.length cc', .int .i64 z.fine, .slice gs' z.g.length gc'], .int .i64 0]) (by simp [results, Tryz.results53, go_sem, rl]) rfl ⟨⟨⟨es', ec'⟩, ⟨cs', cc'⟩, ⟨gs', gc'⟩⟩, rfl, HD.out.up HF ?_, HF.mono (by omega), ?_⟩
  · repeat (with_reducible refine KeepUp.set ?_ (by omega) _)
    exact KeepUp.refl _ _
  · repeat (with_reducible refine Below.setCell ?_ (by simp; try omega) _)
    exact st5.below
end Go.Proofs.YtmgdbfmlnmahpaaGreatDoor
namespace Go.Proofs.YtmgdbfmlnmahpaaGreatDoor
open Go.RowKit Go.Shelf
set_option linter.unusedSimpArgs false
set_option linter.unusedVariables false
set_option maxRecDepth 100000
theorem runes_ax (w : World) : Calls Tryz.prog 148 #[.string ⟨#[97, 61, 120]⟩] w fun e w' => e = .returned (.tuple #[.int .i64 3, .bool true]) ∧ Below w.heap.size w w' := by
  have n0 : (Instr.next (.pointer (some ⟨w.heap.size, 0, none⟩)) true 0).run Tryz.prog (w.iter ⟨#[97, 61, 120]⟩ 0) = .ok (.tuple #[.bool true, .int .i64 0, .int .i32 97]) (w.iter ⟨#[97, 61, 120]⟩ 1) := run_next_ascii w ⟨#[97, 61, 120]⟩ 0 0 (by decide) (by decide)
  have n1 : (Instr.next (.pointer (some ⟨w.heap.size, 0, none⟩)) true 0).run Tryz.prog (w.iter ⟨#[97, 61, 120]⟩ 1) = .ok (.tuple #[.bool true, .int .i64 1, .int .i32 61]) (w.iter ⟨#[97, 61, 120]⟩ 2) := run_next_ascii w ⟨#[97, 61, 120]⟩ 1 0 (by decide) (by decide)
  have n2 : (Instr.next (.pointer (some ⟨w.heap.size, 0, none⟩)) true 0).run Tryz.prog (w.iter ⟨#[97, 61, 120]⟩ 2) = .ok (.tuple #[.bool true, .int .i64 2, .int .i32 120]) (w.iter ⟨#[97, 61, 120]⟩ 3) := run_next_ascii w ⟨#[97, 61, 120]⟩ 2 0 (by decide) (by decide)
  have ne : (Instr.next (.pointer (some ⟨w.heap.size, 0, none⟩)) true 0).run Tryz.prog (w.iter ⟨#[97, 61, 120]⟩ 3) = .ok (.tuple #[.bool false]) (w.iter ⟨#[97, 61, 120]⟩ 3) := run_next_end w ⟨#[97, 61, 120]⟩ 3 0 (by decide)
  go_enter Tryz.func148, Tryz.ntmps148
  go_wp2_with fail
  refine wp_loop_rounds 4 ?_
  rw [rounds_succ]
  go_wp2_with fail
  rw [rounds_succ]
  go_wp2_with fail
  rw [rounds_succ]
  go_wp2_with fail
  rw [rounds_succ]
  go_wp2_with fail
  go_ret2
  exact ⟨rfl, (Below.refl _ _).alloc (Nat.le_refl _) _⟩
theorem runes_x (w : World) : Calls Tryz.prog 148 #[.string ⟨#[120]⟩] w fun e w' => e = .returned (.tuple #[.int .i64 1, .bool true]) ∧ Below w.heap.size w w' := by
  have n0 : (Instr.next (.pointer (some ⟨w.heap.size, 0, none⟩)) true 0).run Tryz.prog (w.iter ⟨#[120]⟩ 0) = .ok (.tuple #[.bool true, .int .i64 0, .int .i32 120]) (w.iter ⟨#[120]⟩ 1) := run_next_ascii w ⟨#[120]⟩ 0 0 (by decide) (by decide)
  have ne : (Instr.next (.pointer (some ⟨w.heap.size, 0, none⟩)) true 0).run Tryz.prog (w.iter ⟨#[120]⟩ 1) = .ok (.tuple #[.bool false]) (w.iter ⟨#[120]⟩ 1) := run_next_end w ⟨#[120]⟩ 1 0 (by decide)
  go_enter Tryz.func148, Tryz.ntmps148
  go_wp2_with fail
  refine wp_loop_rounds 2 ?_
  rw [rounds_succ]
  go_wp2_with fail
  rw [rounds_succ]
  go_wp2_with fail
  go_ret2
  exact ⟨rfl, (Below.refl _ _).alloc (Nat.le_refl _) _⟩
theorem runes_e (w : World) : Calls Tryz.prog 148 #[.string ⟨#[]⟩] w fun e w' => e = .returned (.tuple #[.int .i64 0, .bool true]) ∧ Below w.heap.size w w' := by
  have ne : (Instr.next (.pointer (some ⟨w.heap.size, 0, none⟩)) true 0).run Tryz.prog (w.iter ⟨#[]⟩ 0) = .ok (.tuple #[.bool false]) (w.iter ⟨#[]⟩ 0) := run_next_end w ⟨#[]⟩ 0 0 (by decide)
  go_enter Tryz.func148, Tryz.ntmps148
  go_wp2_with fail
  refine wp_loop_rounds 1 ?_
  rw [rounds_succ]
  go_wp2_with fail
  go_ret2
  exact ⟨rfl, (Below.refl _ _).alloc (Nat.le_refl _) _⟩
theorem isName_a (w : World) : Calls Tryz.prog 155 #[.string ⟨#[97]⟩] w fun e w' => e = .returned (.bool true) ∧ Below w.heap.size w w' := by
  have n0 : (Instr.next (.pointer (some ⟨w.heap.size, 0, none⟩)) true 0).run Tryz.prog (w.iter ⟨#[97]⟩ 0) = .ok (.tuple #[.bool true, .int .i64 0, .int .i32 97]) (w.iter ⟨#[97]⟩ 1) := run_next_ascii w ⟨#[97]⟩ 0 0 (by decide) (by decide)
  have ne : (Instr.next (.pointer (some ⟨w.heap.size, 0, none⟩)) true 0).run Tryz.prog (w.iter ⟨#[97]⟩ 1) = .ok (.tuple #[.bool false]) (w.iter ⟨#[97]⟩ 1) := run_next_end w ⟨#[97]⟩ 1 0 (by decide)
  go_enter Tryz.func155, Tryz.ntmps155
  go_wp2_with fail
  refine wp_loop_rounds 2 ?_
  rw [rounds_succ]
  go_wp2
  rw [rounds_succ]
  go_wp2
  go_ret
  exact ⟨rfl, (Below.refl _ _).alloc (Nat.le_refl _) _⟩
theorem isValue_x (w : World) : Calls Tryz.prog 156 #[.string ⟨#[120]⟩] w fun e w' => e = .returned (.bool true) ∧ Below w.heap.size w w' := by
  go_enter Tryz.func156, Tryz.ntmps156
  go_wp2_with fail
  refine (runes_x _).mono ?_
  rintro e w1 ⟨rfl, hb⟩
  have n0 : (Instr.next (.pointer (some ⟨w1.heap.size, 0, none⟩)) true 0).run Tryz.prog (w1.iter ⟨#[120]⟩ 0) = .ok (.tuple #[.bool true, .int .i64 0, .int .i32 120]) (w1.iter ⟨#[120]⟩ 1) := run_next_ascii w1 ⟨#[120]⟩ 0 0 (by decide) (by decide)
  have ne : (Instr.next (.pointer (some ⟨w1.heap.size, 0, none⟩)) true 0).run Tryz.prog (w1.iter ⟨#[120]⟩ 1) = .ok (.tuple #[.bool false]) (w1.iter ⟨#[120]⟩ 1) := run_next_end w1 ⟨#[120]⟩ 1 0 (by decide)
  go_wp2_with fail
  refine wp_loop_rounds 2 ?_
  rw [rounds_succ]
  go_wp2
  rw [rounds_succ]
  go_wp2
  go_ret
  exact ⟨rfl, hb.alloc hb.size _⟩
theorem isValue_e (w : World) : Calls Tryz.prog 156 #[.string ⟨#[]⟩] w fun e w' => e = .returned (.bool true) ∧ Below w.heap.size w w' := by
  go_enter Tryz.func156, Tryz.ntmps156
  go_wp2_with fail
  refine (runes_e _).mono ?_
  rintro e w1 ⟨rfl, hb⟩
  have ne : (Instr.next (.pointer (some ⟨w1.heap.size, 0, none⟩)) true 0).run Tryz.prog (w1.iter ⟨#[]⟩ 0) = .ok (.tuple #[.bool false]) (w1.iter ⟨#[]⟩ 0) := run_next_end w1 ⟨#[]⟩ 0 0 (by decide)
  go_wp2_with fail
  refine wp_loop_rounds 1 ?_
  rw [rounds_succ]
  go_wp2
  go_ret
  exact ⟨rfl, hb.alloc hb.size _⟩
end Go.Proofs.YtmgdbfmlnmahpaaGreatDoor
namespace Go.Proofs.YtmgdbfmlnmahpaaGreatDoor
open Go.RowKit Go.Shelf
set_option linter.unusedSimpArgs false
set_option linter.unusedVariables false
set_option maxRecDepth 100000
theorem valuesL_any (s : Option Addr) (n cap : Nat) (w : World) :
    Calls Tryz.prog 161 #[.slice s n cap] w fun e w' => e = .returned (.func (.func 197) #[] #[.pointer (some ⟨w.heap.size, 0, none⟩)]) ∧ w' = w.alloc (.cells #[.slice s n cap] 161) := by
  go_enter Tryz.func161, Tryz.ntmps161
  go_wp2_with fail
  go_ret
  exact ⟨rfl, rfl⟩
theorem eachL_any (s : Option Addr) (n cap : Nat) (w : World) :
    Calls Tryz.prog 120 #[.slice s n cap] w fun e w' => e = .returned (.func (.func 197) #[] #[.pointer (some ⟨w.heap.size, 0, none⟩)]) ∧ w' = w.alloc (.cells #[.slice s n cap] 161) := by
  go_enter Tryz.func120, Tryz.ntmps120
  go_wp2_with fail
  refine (valuesL_any s n cap w).mono ?_
  rintro e w1 ⟨rfl, rfl⟩
  go_wp2_with fail
  go_ret
  exact ⟨rfl, rfl⟩
theorem lab_at {W : World} {s : Option Addr} {L : List Lab} (h : Rd 2 encL W s L) {i : Nat} {x : Lab} (hx : L[i]? = some x) : ∃ g o, s = some ⟨g, o, none⟩ ∧ g < W.heap.size ∧ W.cell? ⟨g, o + i * 2, none⟩ = some (.string x.name) ∧ W.cell? ⟨g, o + i * 2 + 1, none⟩ = some (.string x.val) := by
  obtain ⟨g, o, e, hg, hc⟩ := h i x hx
  exact ⟨g, o, e, hg, hc 0 _ rfl, hc 1 _ rfl⟩
def KpL (bl : List Blk) (s : Option Addr) (L : List Lab) (A B : World) : Prop := KpB bl A B ∧ (Rd 2 encL A s L → Rd 2 encL B s L)
abbrev labV (x : Lab) : Value := .agg #[.string x.name, .string x.val]
set_option maxHeartbeats 600000 in
theorem valsL1_in (bl : List Blk) (Bw : Nat) (L : List Lab) (hlen : L.length ≤ 1000000) (s : Option Addr) (cap : Nat) (hBw : (Bw, #[.slice s L.length cap], 161) ∈ bl)
    (n : Nat) (hn : 1 ≤ n) (lb : Nat) (J Jx : List Lab → World → Prop) (bJ : Bears none J)
    (hY : ∀ (pre : List Lab) (x : Lab) (W : World), J pre W → x ∈ L → pre.length < L.length → YieldAt Fence.wide (n - 1) Tryz.prog lb #[labV x] W fun e W' =>
      (e = .returned (.bool true) ∧ J (pre ++ [x]) W' ∧ KpL bl s L W W') ∨ (e = .returned (.bool false) ∧ Jx (pre ++ [x]) W'))
    (W : World) (hW : LieB bl W) (hRd : Rd 2 encL W s L) (h0 : J [] W) :
    CallsIn Fence.wide n Tryz.prog 197 #[.func (.yield lb) #[] #[], .pointer (some ⟨Bw, 0, none⟩)] W fun e W' => (∃ v, e = .returned v) ∧
      ((∃ xs, xs = L ∧ J xs W') ∨ (∃ pre, pre <+: L ∧ Jx pre W')) := by
  have hcw := blk_cell (hW _ hBw) 0
  refine callsIn_of_wp Tryz.func197 rfl trivial ?_ rfl
  simp only [Tryz.ntmps197, List.size_toArray, List.length_cons, List.length_nil, Nat.reduceAdd, Nat.reduceSub, Array.replicate_succ, Array.replicate_zero, List.push_toArray, List.append_toArray, List.nil_append, List.cons_append]
  gi_wp2_with fail
  clear hcw
  gi_loopw [7] (fun i wr => ∃ k : Nat, k ≤ L.length ∧ i = .int .i64 (k : Int) ∧ LieB bl wr ∧ Rd 2 encL wr s L ∧ J (L.take k) wr) (fun i _ => L.length - (intOf i).toNat)
  case atStart => exact ⟨0, by omega, rfl, hW, hRd, h0⟩
  case round =>
    clear hW h0 hRd
    obtain ⟨k, hk, rfl, hb, hRd, hJ⟩ := hrel
    by_cases hlt : k < L.length
    · obtain ⟨x, hx⟩ : ∃ x, L[k]? = some x := ⟨_, List.getElem?_eq_getElem hlt⟩
      obtain ⟨g, o, rfl, hg, hc1, hc2⟩ := lab_at hRd hx
      have HN : Hid (L.take k ++ [x] = L.take (k + 1)) := by show _ = _; rw [List.take_add_one, hx]; rfl
      have hb2 : Below wr.heap.size wr (wr.alloc (.cells #[.string x.name, .string x.val] 229)) := (Below.refl _ _).alloc (Nat.le_refl _) _
      have hJ4 := bJ _ _ _ hJ (grownBy_ofBelow hb2 none)
      have hl4 := hb.below hb2
      have hr4 := hRd.keepB (Nat.le_refl _) hb2
      obtain ⟨fn, tmps, assign, body, hy, hR⟩ := hY (L.take k) x _ hJ4 (List.mem_of_getElem? hx) (by rw [List.length_take]; omega)
      obtain ⟨xa, xn⟩ := x
      simp only [labV] at hc1 hc2 HN hy hR hJ4 hl4 hr4
      clear hx hJ hb hRd hY hb2
      gi_wp2_with fail
      refine hR.mono ?_
      rintro e W3 (⟨rfl, hJ3, hk3⟩ | ⟨rfl, hJx3⟩)
      · have hJ5 : J (L.take (k + 1)) W3 := by rw [← HN.out]; exact hJ3
        have hb3 := hl4.keep hk3.1
        have hr3 := hk3.2 hr4
        clear hy hR hJ4 hl4 hJ3 hr4 hc1 hc2
        gi_wp2_with fail
        go_roundw
        case rel => exact ⟨k + 1, hlt, by go_num, hb3, hr3, hJ5⟩
        case measure => simp [intOf]; omega
      · have hJ5 : Jx (L.take (k + 1)) W3 := by rw [← HN.out]; exact hJx3
        clear hy hR hJ4 hl4 hJx3 hr4 hc1 hc2
        gi_wp2_with fail
        refine bodyPost_ret (results_none rfl _ _ _) rfl ?_
        exact ⟨⟨_, rfl⟩, .inr ⟨_, List.take_prefix _ _, hJ5⟩⟩
    · obtain rfl : k = L.length := by omega
      rw [List.take_length] at hJ
      clear hY
      gi_wp2_with fail
      go_end0
      exact ⟨⟨_, rfl⟩, .inl ⟨_, rfl, hJ⟩⟩
theorem valsL_seq (bl : List Blk) (Bw : Nat) (L : List Lab) (hlen : L.length ≤ 1000000) (s : Option Addr) (cap : Nat) (hBw : (Bw, #[.slice s L.length cap], 161) ∈ bl) (n : Nat) (hn : 1 ≤ n) (W : World) (hW : LieB bl W) (hRd : Rd 2 encL W s L) :
    SeqW Fence.wide n Tryz.prog 197 #[.pointer (some ⟨Bw, 0, none⟩)] (fun x : Lab => #[labV x]) (fun x _ => x ∈ L) (KpL bl s L) (fun xs => xs = L) (fun pre => pre <+: L) L.length none W := fun lb J Jx bJ _ hY h0 =>
  valsL1_in bl Bw L hlen s cap hBw n hn lb J Jx bJ hY W hW hRd h0
def befL (pre : List Lab) : ByteArray := if pre = [] then (⟨#[]⟩ : ByteArray) else ⟨#[97]⟩
def StLR (w : World) (s : Option Addr) (cap b : Nat) (pre : List Lab) (W : World) : Prop :=
  St w [(b, #[.slice s 1 cap], 161), (w.heap.size + 1, #[.string (befL pre)], 9), (w.heap.size, #[.bool true], 4)] (fun _ => True) W
def AxL (w : World) (v : ByteArray) (x : Lab) (c : Nat) (W : World) : Prop := x = ⟨⟨#[97]⟩, v⟩ ∧ w.heap.size ≤ c ∧ W.heap[c]? = some (.cells #[.string x.name, .string x.val] 229 (0, 0))
theorem AxL.own (w : World) (v : ByteArray) (x : Lab) (c n : Nat) : OwnFrom n (fun (_ : Unit) W => AxL w v x c W) := by
  rintro _ A B row ⟨h1, h2, h3⟩ hg hr
  exact ⟨h1, h2, (hg.block c (blk_lt h3) (fun e => by
    obtain ⟨_, o, ho, hc⟩ := hr _ e.symm
    rw [h3] at ho
    cases ho
    simp [Obj.isCells] at hc)).trans h3⟩
attribute [local go_sem] Oper.semAt_some
set_option maxHeartbeats 600000 in
theorem lbRight_one (v : ByteArray) (HV : ∀ W, Calls Tryz.prog 156 #[.string v] W fun e w' => e = .returned (.bool true) ∧ Below W.heap.size W w') (s : Option Addr) (cap : Nat) (w : World) (hL : Rd 2 encL w s [⟨⟨#[97]⟩, v⟩]) :
    Calls Tryz.prog 109 #[.slice s 1 cap] w fun e w' => e = .returned (.bool true) ∧ Below w.heap.size w w' := by
  have HV := Lib.hid HV
  have hL' := Lib.hid hL
  have st0 := ((St.start w).alloc (cs := #[.bool true]) (T := 4)).alloc (cs := #[.string ⟨#[]⟩]) (T := 9)
  simp only [World.size_alloc] at st0
  refine (callsIn_wide (n := 5)).1 ?_
  refine callsIn_of_wp_marks Tryz.func109 rfl trivial ?_ rfl
  simp only [Tryz.ntmps109, List.size_toArray, List.length_cons, List.length_nil, Nat.reduceAdd, Nat.reduceSub, Array.replicate_succ, Array.replicate_zero, List.push_toArray, List.append_toArray, List.nil_append, List.cons_append]
  refine wpIn_wide.2 ?_
  go_wp2_with fail
  refine wp_scope_straight ?_
  go_wp2_with fail
  refine wp_label ?_
  have hz1 : ((w.alloc (.cells #[.bool true] 4)).alloc (.cells #[.string ⟨#[]⟩] 9)).heap.size = w.heap.size + 2 := by simp
  have HZ1 := Lib.hid hz1
  clear hz1
  generalize (w.alloc (.cells #[.bool true] 4)).alloc (.cells #[.string ⟨#[]⟩] 9) = w1 at *
  go_wp2_with fail
  refine (eachL_any s 1 cap w1).mono ?_
  rintro e w2 ⟨rfl, rfl⟩
  go_wp2_with fail
  have st2 := st0.alloc (cs := #[.slice s 1 cap]) (T := 161)
  have hz2 : (w1.alloc (.cells #[.slice s 1 cap] 161)).heap.size = w1.heap.size + 1 := by simp
  have hz01 : w.heap.size + 1 < w1.heap.size := by have := HZ1.out; omega
  clear st0
  generalize w1.alloc (.cells #[.slice s 1 cap] 161) = w2 at *
  have hz12 : w1.heap.size < w2.heap.size := by omega
  clear hz2
  have hw2 := st2.below.size
  have hlie : LieB [(w1.heap.size, #[.slice s 1 cap], 161)] w2 := fun x hx => st2.blk x (by simp at hx; rcases hx with rfl; simp)
  have stc : StLR w s cap w1.heap.size [] w2 := st2
  have hr2 := hL.keepB (Nat.le_refl _) st2.below
  refine (wpIn_wide (n := 5)).1 (wpIn_rangeFunc_w (n := 5) (b := none) (fun _ e => by cases e) rfl (by omega) (gf := 197) (lb := #[.pointer (some ⟨w1.heap.size, 0, none⟩)]) rfl trivial (enters_of Tryz.func197 (by kernel_rfl) rfl)
    (fun W hb => valsL_seq [(w1.heap.size, #[.slice s 1 cap], 161)] w1.heap.size [⟨⟨#[97]⟩, v⟩] (by simp) s cap (by simp) 4 (by omega) W (hlie.below hb) (hr2.keepB (Nat.le_refl _) hb)) (fun h k => ⟨fun x hx => (k.1 x hx).trans (h.1 x hx), fun r => k.2 (h.2 r)⟩) ?kb (fun _ => rfl)
    (StLR w s cap w1.heap.size) (fun _ _ _ => False)
    (fun _ _ _ _ h hg hr => St.own h hg hr hw2) (fun c _ _ _ _ h hg hr => h)
    (fun _ _ _ h hg => St.grown h hg (fun k e => by cases e)) (fun c _ _ _ h hg => h) stc
    (fun x c => { tmps := #[.slice s 1 cap, undef, .bool false, .pointer (some ⟨w.heap.size, 0, none⟩), .pointer (some ⟨w.heap.size + 1, 0, none⟩), .pointer (some ⟨c, 0, none⟩), .slice s 1 cap, .int .i64 1, .bool false, .bool false, .slice s 1 cap, .int .i64 1, .bool false, .bool false, .slice s 1 cap, .func (.func 197) #[] #[.pointer (some ⟨w1.heap.size, 0, none⟩)], labV x, undef, undef, undef, undef, undef, undef, undef, undef, undef, undef, undef, undef, undef, undef, undef, undef, undef, undef, undef], defers := [] })
    (fun x c W => AxL w v x c W) (fun x c => AxL.own w v x c _) ?assign ?body ?done ?stop)
  case kb =>
    intro W l' o' hl' hlt
    refine ⟨fun x hx => ?_, fun r => ?_⟩
    · simp at hx
      subst hx
      exact World.putObj_heap_other (by show w1.heap.size ≠ _; omega)
    · intro i x hx
      obtain ⟨g0, o0, e0, hg0, _⟩ := hr2 i x hx
      obtain ⟨g, o, e, hg, hc⟩ := r i x hx
      rw [e0] at e
      cases e
      refine ⟨g0, o0, e0, by simpa [World.putObj] using hg, fun j u hu => ?_⟩
      rw [← hc j u hu]
      simp only [World.cell?, World.putObj_heap_other (show g0 ≠ l' by omega)]
  case assign =>
    intro l' pre x W K hI hP hK
    have hal := Below.alloc (Below.refl W.heap.size W) (Nat.le_refl _) (.cells #[.string x.name, .string x.val] 229)
    have HK := Lib.hid (hK W.heap.size (W.alloc (.cells #[.string x.name, .string x.val] 229)) (keepsOthers_below hal) ⟨fun y hy => by
        simp at hy
        subst hy
        have := blk_lt (hI.blk (w1.heap.size, #[.slice s 1 cap], 161) (by simp))
        exact hal.block _ this, fun r => r.keepB (Nat.le_refl _) hal⟩ (hI.to hal) ⟨by simpa using hP, hI.below.size, World.alloc_heap_new W _⟩)
    clear hK
    gi_wp2_with fail
    exact HK.out
  case body =>
    rintro l' pre x c W stI ⟨rfl, hcw, hc⟩ hN
    obtain rfl : pre = [] := List.eq_nil_of_length_eq_zero (by simpa using hN)
    have stI2 : St w [(w1.heap.size, #[.slice s 1 cap], 161), (w.heap.size + 1, #[.string ⟨#[]⟩], 9), (w.heap.size, #[.bool true], 4)] (fun _ => True) W := stI
    have hne : ∀ y ∈ [(w1.heap.size, #[.slice s 1 cap], 161), (w.heap.size + 1, #[.string ⟨#[]⟩], 9), (w.heap.size, #[.bool true], 4)], (y : Blk).1 ≠ c := by
      intro y hy e
      have h1 := stI2.blk y hy
      rw [e, hc] at h1
      simp at hy
      rcases hy with rfl | rfl | rfl <;> simp at h1
    have stJ := stI2.cons hc hne
    have rl := stJ.rules
    simp only [Rules] at rl
    clear stI stI2 hc hne hL hr2 hlie stc st2
    gi_wp2_with fail
    refine ⟨trivial, (CallsIn.inRound l' (callsIn_wide.2 (isName_a _))).mono ?_⟩
    rintro e w3 ⟨rfl, hb3⟩
    have st3 := stJ.to hb3
    have rl3 := st3.rules
    simp only [Rules] at rl3
    clear rl
    gi_wp2_with fail
    refine ⟨trivial, (CallsIn.inRound l' (callsIn_wide.2 (HV.out _))).mono ?_⟩
    rintro e w4 ⟨rfl, hb4⟩
    have st4 := st3.to hb4
    have rl4 := st4.rules
    simp only [Rules] at rl4
    clear rl3
    gi_wp2_with fail
    have st5 := St.setT (st4.less _ (List.sublist_cons_self _ _)) 1 (A := w.heap.size + 1) rfl (o := 0) (v := .string ⟨#[97]⟩) (Nat.le_succ _)
    simp only [setB, List.modify_succ_cons, List.modify_zero_cons, List.setIfInBounds_toArray, List.set_cons_zero] at st5
    have hWl : w1.heap.size < W.heap.size := blk_lt (stJ.blk (w1.heap.size, #[.slice s 1 cap], 161) (by simp))
    have hb34 := hb3.trans (hb4.mono hb3.size)
    refine ⟨(keepsOthers_below hb34).trans (KeepsOthers.setCell w4 ⟨w.heap.size + 1, 0, none⟩ (.string ⟨#[97]⟩)), ⟨fun y hy => ?_, fun r => hL'.out.keepB (Nat.le_refl _) st5.below⟩, st5⟩
    simp at hy
    subst hy
    exact (Below.heap_setCell w4 ⟨w.heap.size + 1, 0, none⟩ _ w1.heap.size (by show w1.heap.size ≠ w.heap.size + 1; omega)).trans (hb34.block _ hWl)
  case done =>
    rintro D xs W hD rfl st9 hK
    have st9' : St w _ _ W := st9
    have rl := st9'.rules
    simp only [Rules] at rl
    have hcr : W.cell? ⟨w.heap.size, 0, none⟩ = some (.bool true) := rl.2.2.2.2.2.2.1 0
    clear rl
    go_wp2_with fail
    refine ⟨by simp, .inl ⟨_, _, rfl, run_takeDeferred hK, ?_⟩⟩
    exact ⟨_, by simp [results, Tryz.results109, go_sem], rfl, (st9'.own (base := w.heap.size) (grownBy_putObj' W D _) (fun r e => by cases e; exact ⟨by omega, _, hK, rfl⟩) (Nat.le_refl _)).below⟩
  case stop =>
    rintro D c pre W hD hp h
    exact h.elim
end Go.Proofs.YtmgdbfmlnmahpaaGreatDoor
namespace Go.Proofs.YtmgdbfmlnmahpaaGreatDoor
open Go.RowKit Go.Shelf
set_option linter.unusedSimpArgs false
set_option linter.unusedVariables false
set_option maxRecDepth 100000
theorem runeKeyed : Maps.Keyed Tryz.prog 21 := Maps.int_keyed Tryz.underlying21
theorem readMap : Tryz.prog.underlying 297 = some (.map 21 295) := Tryz.underlying297
theorem readZero (w : World) : (zeroValue 295).run Tryz.prog w = .ok .nilFunc w := by kernel_rfl
theorem keyR (n : Int) (h : (Lit.int .i32 n).wf = true) : keyOf Tryz.prog 21 (.int .i32 n) = some (.int .i32 n) := Maps.keyOf_int_mk Tryz.underlying21 h
abbrev rfV (n b : Nat) : Value := .func (.func n) #[.pointer (some ⟨b, 0, none⟩)] #[]
def readD (b : Nat) : DataW Value := (((DataW.map []).put (.int .i32 61) (.held (rfV 182 b))).put (.int .i32 44) (.held (rfV 183 b))).put (.int .i32 92) (.held (rfV 184 b))
def RMap (W : World) (b m : Nat) : Prop := W.ownsMap Tryz.prog 21 heldE m 3 (readD b)
theorem RMap.kept {W W' : World} {b m : Nat} {row : Option Nat} (h : RMap W b m) (hg : W.grownBy W' row) (hr : ∀ r, row = some r → r ≠ m) : RMap W' b m := World.ownsMap.kept h hg (by intro e; exact hr m e.symm rfl)
theorem RMap.look {W : World} {b m : Nat} (h : RMap W b m) : (Instr.lookup 297 (.map (some m)) (.int .i32 61) true).run Tryz.prog W = .ok (.tuple #[rfV 182 b, .bool true]) W ∧
    (Instr.lookup 297 (.map (some m)) (.int .i32 97) true).run Tryz.prog W = .ok (.tuple #[.nilFunc, .bool false]) W ∧ (Instr.lookup 297 (.map (some m)) (.int .i32 120) true).run Tryz.prog W = .ok (.tuple #[.nilFunc, .bool false]) W := by
  refine ⟨?_, ?_, ?_⟩
  · obtain ⟨v, ps, hrun, hv⟩ := World.ownsMap.look_ok h runeKeyed readMap (readZero _) (zp := []) rfl (keyR 61 (by decide))
    have h1 : (readD b).atKey (.int .i32 61) (.held .nilFunc) = .held (rfV 182 b) := by kernel_rfl
    have h2 : Maps.has (readD b) (.int .i32 61) = true := by kernel_rfl
    rw [h1] at hv
    rw [h2] at hrun
    simp only [heldE, Option.some.injEq, Prod.mk.injEq, DataW.held.injEq] at hv
    rw [hrun, hv.1]
  · obtain ⟨v, ps, hrun, hv⟩ := World.ownsMap.look_ok h runeKeyed readMap (readZero _) (zp := []) rfl (keyR 97 (by decide))
    have h1 : (readD b).atKey (.int .i32 97) (.held .nilFunc) = .held .nilFunc := by kernel_rfl
    have h2 : Maps.has (readD b) (.int .i32 97) = false := by kernel_rfl
    rw [h1] at hv
    rw [h2] at hrun
    simp only [heldE, Option.some.injEq, Prod.mk.injEq, DataW.held.injEq] at hv
    rw [hrun, hv.1]
  · obtain ⟨v, ps, hrun, hv⟩ := World.ownsMap.look_ok h runeKeyed readMap (readZero _) (zp := []) rfl (keyR 120 (by decide))
    have h1 : (readD b).atKey (.int .i32 120) (.held .nilFunc) = .held .nilFunc := by kernel_rfl
    have h2 : Maps.has (readD b) (.int .i32 120) = false := by kernel_rfl
    rw [h1] at hv
    rw [h2] at hrun
    simp only [heldE, Option.some.injEq, Prod.mk.injEq, DataW.held.injEq] at hv
    rw [hrun, hv.1]
abbrev rdC (nm vl : ByteArray) (pl rn : Int) (lv : Value) (m : Nat) : Array Value := #[.string nm, .string vl, .int .i64 pl, .int .i64 rn, lv, .map (some m)]
structure RdrS (W : World) (b m : Nat) (nm vl : ByteArray) (pl rn : Int) (lv : Value) : Prop where
  blk : W.heap[b]? = some (.cells (rdC nm vl pl rn lv m) 299 (0, 0))
  map : RMap W b m
theorem RMap.ne {W : World} {b m : Nat} (h : RMap W b m) {g : Nat} {cs : Array Value} {T : TypeId} (hg : W.heap[g]? = some (.cells cs T (0, 0))) : g ≠ m := by
  rintro rfl
  obtain ⟨es, clock, hb, _⟩ := h
  rw [hb] at hg
  cases hg
theorem RdrS.of {w W' : World} {b m : Nat} {nm vl nm' vl' : ByteArray} {pl rn pl' rn' : Int} {lv lv' : Value} (h : RdrS w b m nm vl pl rn lv) (hg : w.grownBy W' (some b)) (hb : W'.heap[b]? = some (.cells (rdC nm' vl' pl' rn' lv' m) 299 (0, 0))) : RdrS W' b m nm' vl' pl' rn' lv' ∧ w.grownBy W' (some b) :=
  ⟨⟨hb, h.map.kept hg (fun r e => by cases e; exact h.map.ne h.blk)⟩, hg⟩
theorem newReader_any (w : World) : Calls Tryz.prog 149 #[] w fun e w' => ∃ b m, e = .returned (.pointer (some ⟨b, 0, none⟩)) ∧ w.heap.size ≤ b ∧ RdrS w' b m ⟨#[]⟩ ⟨#[]⟩ 0 0 (.slice none 0 0) ∧ Below w.heap.size w w' := by
  have b00 : Below w.heap.size w (w.alloc (.cells (rdC ⟨#[]⟩ ⟨#[]⟩ 0 0 (.slice none 0 0) 0) 299)) := (Below.refl _ _).alloc (Nat.le_refl _) _
  have hz : (w.alloc (.cells #[.string ⟨#[]⟩, .string ⟨#[]⟩, .int .i64 0, .int .i64 0, .slice none 0 0, .map none] 299)).heap.size = w.heap.size + 1 := by simp
  have o0 := World.ownsMap_made (w.alloc (.cells #[.string ⟨#[]⟩, .string ⟨#[]⟩, .int .i64 0, .int .i64 0, .slice none 0 0, .map none] 299)) Tryz.prog 21 heldE
  rw [hz] at o0
  obtain ⟨w1, h1, o1, g1⟩ := o0.update runeKeyed readMap (by unfold maxLen; omega) (keyR 61 (by decide)) (val := rfV 182 w.heap.size) (d := .held (rfV 182 w.heap.size)) (ps := []) rfl
  obtain ⟨w2, h2, o2, g2⟩ := o1.update runeKeyed readMap (by unfold maxLen; omega) (keyR 44 (by decide)) (val := rfV 183 w.heap.size) (d := .held (rfV 183 w.heap.size)) (ps := []) rfl
  obtain ⟨w3, h3, o3, g3⟩ := o2.update runeKeyed readMap (by unfold maxLen; omega) (keyR 92 (by decide)) (val := rfV 184 w.heap.size) (d := .held (rfV 184 w.heap.size)) (ps := []) rfl
  have b0 : Below w.heap.size w ((w.alloc (.cells #[.string ⟨#[]⟩, .string ⟨#[]⟩, .int .i64 0, .int .i64 0, .slice none 0 0, .map none] 299)).alloc (.map #[] 0)) := ((Below.refl _ _).alloc (Nat.le_refl _) _).alloc (by simp) _
  have b1 := b0.grown g1 b0.size (fun k e => by cases e; exact Nat.le_succ _)
  have b2 := b1.grown g2 b1.size (fun k e => by cases e; exact Nat.le_succ _)
  have b3 := b2.grown g3 b2.size (fun k e => by cases e; exact Nat.le_succ _)
  have hB0 : ((w.alloc (.cells #[.string ⟨#[]⟩, .string ⟨#[]⟩, .int .i64 0, .int .i64 0, .slice none 0 0, .map none] 299)).alloc (.map #[] 0)).heap[w.heap.size]? = some (.cells #[.string ⟨#[]⟩, .string ⟨#[]⟩, .int .i64 0, .int .i64 0, .slice none 0 0, .map none] 299 (0, 0)) := (Below.heap_alloc _ _ _ (by simp)).trans (World.alloc_heap_new w _)
  have hne : w.heap.size ≠ w.heap.size + 1 := by omega
  have hB1 := (g1.block _ (blk_lt hB0) (by simp)).trans hB0
  have hB2 := (g2.block _ (blk_lt hB1) (by simp)).trans hB1
  have hB3 := (g3.block _ (blk_lt hB2) (by simp)).trans hB2
  have hmm := @run_makeMap Tryz.prog
  have O := Lib.hid o3
  have HB3 := Lib.hid hB3
  have hc3 := blk_cell hB3
  have hf3 := blk_free hB3
  have hl3 := blk_lt hB3
  clear o0 o1 o2 o3 g1 g2 g3 b0 b1 b2 b00 hB0 hB1 hB2 hB3 hz
  go_enter Tryz.func149, Tryz.ntmps149
  go_wp2_with fail
  go_ret
  refine ⟨w.heap.size, w.heap.size + 1, rfl, Nat.le_refl _, ⟨blk_set HB3.out 5 _, ?_⟩, b3.setCell (p := ⟨w.heap.size, 5, none⟩) (Nat.le_refl _) _⟩
  exact RMap.kept (row := some w.heap.size) O.out (grownBy_setOne _ _ _ _) (fun r e => by cases e; omega)
theorem step_a (b m : Nat) (lv : Value) (w : World) (h : RdrS w b m ⟨#[]⟩ ⟨#[]⟩ 0 0 lv) :
    Calls Tryz.prog 150 #[.pointer (some ⟨b, 0, none⟩), .int .i32 97] w fun e w' => e = .returned .nilIface ∧ RdrS w' b m ⟨#[97]⟩ ⟨#[]⟩ 0 0 lv ∧ w.grownBy w' (some b) := by
  have hc := blk_cell h.blk
  have hf := blk_free h.blk
  have hl := blk_lt h.blk
  obtain ⟨k1, k2, k3⟩ := h.map.look
  go_enter Tryz.func150, Tryz.ntmps150
  go_wp2
  go_ret
  exact ⟨rfl, h.of (grownBy_setOne _ _ _ _) (blk_set h.blk 0 _)⟩
theorem step_eq (b m : Nat) (lv : Value) (w : World) (h : RdrS w b m ⟨#[97]⟩ ⟨#[]⟩ 0 0 lv) :
    Calls Tryz.prog 150 #[.pointer (some ⟨b, 0, none⟩), .int .i32 61] w fun e w' => e = .returned .nilIface ∧ RdrS w' b m ⟨#[97]⟩ ⟨#[]⟩ 1 0 lv ∧ w.grownBy w' (some b) := by
  have hc := blk_cell h.blk
  have hf := blk_free h.blk
  have hl := blk_lt h.blk
  obtain ⟨k1, k2, k3⟩ := h.map.look
  go_enter Tryz.func150, Tryz.ntmps150
  go_wp2
  go_ret
  exact ⟨rfl, h.of (grownBy_setOne _ _ _ _) (blk_set h.blk 2 _)⟩
theorem step_x (b m : Nat) (lv : Value) (w : World) (h : RdrS w b m ⟨#[97]⟩ ⟨#[]⟩ 1 0 lv) :
    Calls Tryz.prog 150 #[.pointer (some ⟨b, 0, none⟩), .int .i32 120] w fun e w' => e = .returned .nilIface ∧ RdrS w' b m ⟨#[97]⟩ ⟨#[120]⟩ 1 1 lv ∧ w.grownBy w' (some b) := by
  have hc := blk_cell h.blk
  have hf := blk_free h.blk
  have hl := blk_lt h.blk
  obtain ⟨k1, k2, k3⟩ := h.map.look
  go_enter Tryz.func150, Tryz.ntmps150
  go_wp2
  go_ret
  exact ⟨rfl, h.of (grownBy_then (grownBy_setOne _ _ _ _) (grownBy_setOne _ _ _ _)) (blk_set (blk_set h.blk 1 _) 3 _)⟩
end Go.Proofs.YtmgdbfmlnmahpaaGreatDoor
namespace Go.Proofs.YtmgdbfmlnmahpaaGreatDoor
open Go.RowKit Go.Shelf
set_option linter.unusedSimpArgs false
set_option linter.unusedVariables false
set_option maxRecDepth 100000
theorem opOk_append_nilR {α : Type} {k : Nat} {enc : α → List Value} {P : Program} {t e : TypeId} {bytes : Nat} (el : Elem P t e k bytes) (hk : ∀ x, (enc x).length = k) (h1 : ∀ x, ∀ v ∈ enc x, v.oneCell' = true) {o : Oper} {ρ : Operand → Value} (s x : Operand) (ho : o.op = .call { callee := .builtin .append, args := #[s, x], argTypes := #[t, t] }) (B : Nat) (hs : ρ s = .slice none 0 0)
    (M : List α) (mm : Nat) (hm : mm = M.length) (g o' cx : Nat) (hx : ρ x = .slice (some ⟨g, o', none⟩) mm cx) {W : World} (hM : Rd k enc W (some ⟨g, o', none⟩) M) (hn : M.length ≤ 1000000) (hby : bytes ≤ 10000) (hB : B ≤ W.heap.size) :
    OpOk P W (fun v W' => OwnR k enc e W' B v M) ((execOp ρ o).run P W) := by
  subst hm
  obtain ⟨h2, h0, i, z, h3, h4, h5, h6, h7⟩ := el
  have hnil : W.ownsRow B e k (.slice none 0 0) 0 [] := World.ownsRow_nil _ _ _ _
  have hmul : M.length * bytes ≤ 1000000 * 10000 := Nat.mul_le_mul hn hby
  obtain ⟨v', w', hrun, hown, hg, _⟩ := run_append_own (P := P) W B t o.type e i z k bytes h2 h3 h4 h5 h6 h7 h0 (.slice none 0 0) 0 [] hnil ⟨g, o', none⟩ M.length cx (M.flatMap enc) (flat_len hk M) (fun j u hj => rd_news hk h0 hM j u hj) (rd_one h1 M) (by unfold maxLen; omega) (by rw [Nat.zero_add]; omega) hB
  simp [execOp, ho, resolve, invoke, builtin, hs, hx, hrun, Result.andThen, OpOk]
  refine ⟨⟨hg.os, hg.tape, hg.output, hg.size, fun b hb => hg.block b hb (by simp [Value.ownBlock])⟩, ?_⟩
  have : w'.ownsRow B e k v' (0 + M.length) ([] ++ M.flatMap enc) := hown
  simpa [OwnR] using this
def IsOwnL (B : Nat) (L : List Lab) : Value → World → Prop := fun v W => OwnR 2 encL 229 W B v L
theorem stableOwnL (B : Nat) (L : List Lab) : Stable (IsOwnL B L) := fun _ W W' h hb => OwnR.keep W W' h hb
def IsSlL (B : Nat) (x : Lab) : Value → World → Prop := fun v W => ∃ A, v = .slice (some ⟨A, 0, none⟩) 1 1 ∧ B ≤ A ∧ W.heap[A]? = some (.cells #[.string x.name, .string x.val] 229 (0, 0))
theorem stableSlL (B : Nat) (x : Lab) : Stable (IsSlL B x) := fun _ _ _ ⟨b, h1, h2, h3⟩ hb => ⟨b, h1, h2, (hb.block b (blk_lt h3)).trans h3⟩
set_option maxHeartbeats 1000000 in
theorem rdEnd_any (b m : Nat) (nm vl : ByteArray) (rn : Int) (w : World) (h : RdrS w b m nm vl 1 rn (.slice none 0 0)) :
    Calls Tryz.prog 151 #[.pointer (some ⟨b, 0, none⟩)] w fun e w' => e = .returned .nilIface ∧ ∃ d : Hd, RdrS w' b m ⟨#[]⟩ ⟨#[]⟩ 0 0 (d.v 1) ∧ RdH 2 encL w' d [⟨nm, vl⟩] ∧ w.grownBy w' (some b) := by
  have HR := Lib.hid h
  have hc := blk_cell h.blk
  have hf := blk_free h.blk
  have hl := blk_lt h.blk
  have st0 := (St.start w).cons h.blk (by simp)
  clear h
  go_enter Tryz.func151, Tryz.ntmps151
  go_wp2_with fail
  refine region_spec 13 (Fs [IsVal (.pointer (some ⟨b, 0, none⟩)), IsVal (.pointer (some ⟨b, 0, none⟩)), IsVal (.pointer (some ⟨b, 0, none⟩)), IsVal (.pointer (some ⟨b, 4, none⟩)), IsVal (.slice none 0 0), IsVal (.pointer (some ⟨b, 0, none⟩)), IsVal (.pointer (some ⟨b, 0, none⟩)), IsVal (.pointer (some ⟨b, 0, none⟩)), IsVal (.agg #[.string nm, .string vl]), IsSlL w.heap.size ⟨nm, vl⟩, IsOwnL w.heap.size [⟨nm, vl⟩], IsVal (.pointer (some ⟨b, 0, none⟩)), IsVal (.pointer (some ⟨b, 4, none⟩))]) (by kernel_rfl) (by kernel_rfl) (by kernel_rfl) (Fs_stable _ ?stab) ?spec ?endd
  case stab =>
    simp only [List.forall_mem_cons]
    exact ⟨stableVal _, stableVal _, stableVal _, stableVal _, stableVal _, stableVal _, stableVal _, stableVal _, stableVal _, stableSlL _ _, stableOwnL _ _, stableVal _, stableVal _, by simp⟩
  case spec =>
    refine ⟨?_, ?_, ?_, ?_, ?_, ?_, ?_, ?_, ?_, ?_, ?_, ?_, ?_, trivial⟩
    · intro a W hW hu hd
      have kc : ∀ c, a.eval (Operand.const c) = c := fun _ => rfl
      have kf : ∀ f, a.eval (Operand.func f) = .func (.func f) #[] #[] := fun _ => rfl
      have sW := st0.to hW
      have rl := sW.rules
      simp only [Rules, World.size_alloc] at rl
      have u0 : a.eval (Operand.tmp 0) = .pointer (some ⟨b, 0, none⟩) := hu 0 (by decide)
      unfold StepOk
      rw [if_pos (by rfl)]
      clear hu hd
      generalize a.eval = ρ at *
      go_simp
      exact opOk_val rfl
    · intro a W hW hu hd
      have kc : ∀ c, a.eval (Operand.const c) = c := fun _ => rfl
      have kf : ∀ f, a.eval (Operand.func f) = .func (.func f) #[] #[] := fun _ => rfl
      have sW := st0.to hW
      have rl := sW.rules
      simp only [Rules, World.size_alloc] at rl
      have u0 : a.eval (Operand.tmp 0) = .pointer (some ⟨b, 0, none⟩) := hu 0 (by decide)
      unfold StepOk
      rw [if_pos (by rfl)]
      clear hu hd
      generalize a.eval = ρ at *
      go_simp
      exact opOk_val rfl
    · intro a W hW hu hd
      have kc : ∀ c, a.eval (Operand.const c) = c := fun _ => rfl
      have kf : ∀ f, a.eval (Operand.func f) = .func (.func f) #[] #[] := fun _ => rfl
      have sW := st0.to hW
      have rl := sW.rules
      simp only [Rules, World.size_alloc] at rl
      have u19 : a.eval (Operand.tmp 19) = .pointer (some ⟨b, 0, none⟩) := hd 1 19 (by kernel_rfl) rfl
      unfold StepOk
      rw [if_pos (by rfl)]
      clear hu hd
      generalize a.eval = ρ at *
      go_simp
      exact opOk_val rfl
    · intro a W hW hu hd
      have kc : ∀ c, a.eval (Operand.const c) = c := fun _ => rfl
      have kf : ∀ f, a.eval (Operand.func f) = .func (.func f) #[] #[] := fun _ => rfl
      have sW := st0.to hW
      have rl := sW.rules
      simp only [Rules, World.size_alloc] at rl
      have u20 : a.eval (Operand.tmp 20) = .pointer (some ⟨b, 0, none⟩) := hd 2 20 (by kernel_rfl) rfl
      unfold StepOk
      rw [if_pos (by rfl)]
      clear hu hd
      generalize a.eval = ρ at *
      go_simp
      exact opOk_val rfl
    · intro a W hW hu hd
      have kc : ∀ c, a.eval (Operand.const c) = c := fun _ => rfl
      have kf : ∀ f, a.eval (Operand.func f) = .func (.func f) #[] #[] := fun _ => rfl
      have sW := st0.to hW
      have rl := sW.rules
      simp only [Rules, World.size_alloc] at rl
      have u21 : a.eval (Operand.tmp 21) = .pointer (some ⟨b, 4, none⟩) := hd 3 21 (by kernel_rfl) rfl
      unfold StepOk
      rw [if_pos (by rfl)]
      clear hu hd
      generalize a.eval = ρ at *
      go_simp
      exact opOk_val rfl
    · intro a W hW hu hd
      have kc : ∀ c, a.eval (Operand.const c) = c := fun _ => rfl
      have kf : ∀ f, a.eval (Operand.func f) = .func (.func f) #[] #[] := fun _ => rfl
      have sW := st0.to hW
      have rl := sW.rules
      simp only [Rules, World.size_alloc] at rl
      have u0 : a.eval (Operand.tmp 0) = .pointer (some ⟨b, 0, none⟩) := hu 0 (by decide)
      unfold StepOk
      rw [if_pos (by rfl)]
      clear hu hd
      generalize a.eval = ρ at *
      go_simp
      exact opOk_val rfl
    · intro a W hW hu hd
      have kc : ∀ c, a.eval (Operand.const c) = c := fun _ => rfl
      have kf : ∀ f, a.eval (Operand.func f) = .func (.func f) #[] #[] := fun _ => rfl
      have sW := st0.to hW
      have rl := sW.rules
      simp only [Rules, World.size_alloc] at rl
      have u23 : a.eval (Operand.tmp 23) = .pointer (some ⟨b, 0, none⟩) := hd 5 23 (by kernel_rfl) rfl
      unfold StepOk
      rw [if_pos (by rfl)]
      clear hu hd
      generalize a.eval = ρ at *
      go_simp
      exact opOk_val rfl
    · intro a W hW hu hd
      have kc : ∀ c, a.eval (Operand.const c) = c := fun _ => rfl
      have kf : ∀ f, a.eval (Operand.func f) = .func (.func f) #[] #[] := fun _ => rfl
      have sW := st0.to hW
      have rl := sW.rules
      simp only [Rules, World.size_alloc] at rl
      have u24 : a.eval (Operand.tmp 24) = .pointer (some ⟨b, 0, none⟩) := hd 6 24 (by kernel_rfl) rfl
      unfold StepOk
      rw [if_pos (by rfl)]
      clear hu hd
      generalize a.eval = ρ at *
      go_simp
      exact opOk_val rfl
    · intro a W hW hu hd
      have kc : ∀ c, a.eval (Operand.const c) = c := fun _ => rfl
      have kf : ∀ f, a.eval (Operand.func f) = .func (.func f) #[] #[] := fun _ => rfl
      have sW := st0.to hW
      have rl := sW.rules
      simp only [Rules, World.size_alloc] at rl
      have u25 : a.eval (Operand.tmp 25) = .pointer (some ⟨b, 0, none⟩) := hd 7 25 (by kernel_rfl) rfl
      unfold StepOk
      rw [if_pos (by rfl)]
      clear hu hd
      generalize a.eval = ρ at *
      go_simp
      exact opOk_val rfl
    · intro a W hW hu hd
      have kc : ∀ c, a.eval (Operand.const c) = c := fun _ => rfl
      have kf : ∀ f, a.eval (Operand.func f) = .func (.func f) #[] #[] := fun _ => rfl
      have sW := st0.to hW
      have rl := sW.rules
      simp only [Rules, World.size_alloc] at rl
      have u26 : a.eval (Operand.tmp 26) = .agg #[.string nm, .string vl] := hd 8 26 (by kernel_rfl) rfl
      unfold StepOk
      rw [if_pos (by rfl)]
      clear hu hd
      generalize a.eval = ρ at *
      go_simp
      exact ⟨(Below.refl _ _).alloc (Nat.le_refl _) _, W.heap.size, rfl, sW.below.size, World.alloc_heap_new _ _⟩
    · intro a W hW hu hd
      have kc : ∀ c, a.eval (Operand.const c) = c := fun _ => rfl
      have kf : ∀ f, a.eval (Operand.func f) = .func (.func f) #[] #[] := fun _ => rfl
      have sW := st0.to hW
      have rl := sW.rules
      simp only [Rules, World.size_alloc] at rl
      have u22 : a.eval (Operand.tmp 22) = .slice none 0 0 := hd 4 22 (by kernel_rfl) rfl
      have f27 : IsSlL w.heap.size ⟨nm, vl⟩ (a.eval (Operand.tmp 27)) W := hd 9 27 (by kernel_rfl) rfl
      obtain ⟨A, u27, hA, hN⟩ := f27
      unfold StepOk
      rw [if_pos (by rfl)]
      clear hu hd
      generalize a.eval = ρ at *
      exact opOk_append_nilR elemL encL_len encL_one (.tmp 22) (.tmp 27) rfl w.heap.size u22 [⟨nm, vl⟩] 1 rfl A 0 1 u27 (Rd.ofBlock encL_len hN rfl) (by simp) (by decide) sW.below.size
    · intro a W hW hu hd
      have kc : ∀ c, a.eval (Operand.const c) = c := fun _ => rfl
      have kf : ∀ f, a.eval (Operand.func f) = .func (.func f) #[] #[] := fun _ => rfl
      have sW := st0.to hW
      have rl := sW.rules
      simp only [Rules, World.size_alloc] at rl
      have u18 : a.eval (Operand.tmp 18) = .pointer (some ⟨b, 0, none⟩) := hd 0 18 (by kernel_rfl) rfl
      unfold StepOk
      rw [if_pos (by rfl)]
      clear hu hd
      generalize a.eval = ρ at *
      go_simp
      exact opOk_val rfl
    · intro a W hW hu hd
      have kc : ∀ c, a.eval (Operand.const c) = c := fun _ => rfl
      have kf : ∀ f, a.eval (Operand.func f) = .func (.func f) #[] #[] := fun _ => rfl
      have sW := st0.to hW
      have rl := sW.rules
      simp only [Rules, World.size_alloc] at rl
      have u29 : a.eval (Operand.tmp 29) = .pointer (some ⟨b, 0, none⟩) := hd 11 29 (by kernel_rfl) rfl
      unfold StepOk
      rw [if_pos (by rfl)]
      clear hu hd
      generalize a.eval = ρ at *
      go_simp
      exact opOk_val rfl
  case endd =>
    intro v W hW hv
    have v0 : v 0 = (.pointer (some ⟨b, 0, none⟩)) := hv 0 (by omega)
    have v1 : v 1 = (.pointer (some ⟨b, 0, none⟩)) := hv 1 (by omega)
    have v2 : v 2 = (.pointer (some ⟨b, 0, none⟩)) := hv 2 (by omega)
    have v3 : v 3 = (.pointer (some ⟨b, 4, none⟩)) := hv 3 (by omega)
    have v4 : v 4 = (.slice none 0 0) := hv 4 (by omega)
    have v5 : v 5 = (.pointer (some ⟨b, 0, none⟩)) := hv 5 (by omega)
    have v6 : v 6 = (.pointer (some ⟨b, 0, none⟩)) := hv 6 (by omega)
    have v7 : v 7 = (.pointer (some ⟨b, 0, none⟩)) := hv 7 (by omega)
    have v8 : v 8 = (.agg #[.string nm, .string vl]) := hv 8 (by omega)
    have hf9 : IsSlL w.heap.size ⟨nm, vl⟩ (v 9) W := hv 9 (by omega)
    have hf10 : IsOwnL w.heap.size [⟨nm, vl⟩] (v 10) W := hv 10 (by omega)
    have v11 : v 11 = (.pointer (some ⟨b, 0, none⟩)) := hv 11 (by omega)
    have v12 : v 12 = (.pointer (some ⟨b, 4, none⟩)) := hv 12 (by omega)
    clear hv
    simp only [List.take_succ_cons, List.take_zero, List.drop_succ_cons, List.drop_zero, putAll, Nat.zero_add, Nat.reduceAdd]
    rw [v0, v1, v2, v3, v4, v5, v6, v7, v8, v11, v12]
    clear v0 v1 v2 v3 v4 v5 v6 v7 v8 v11 v12
    have sW := st0.to hW
    obtain ⟨⟨ds, dc⟩, v10, hd, hfr⟩ := RdH.ownF encL_len hf10
    have v10' : v 10 = .slice ds 1 dc := v10
    rw [v10']
    generalize v 9 = v9 at *
    have HD := Lib.hid hd
    have HF := Lib.hid hfr
    have HW := Lib.hid hW
    have rl := sW.rules
    simp only [Rules] at rl
    have HB := Lib.hid (sW.blk _ (List.mem_of_getElem? (i := 0) rfl))
    clear hf9 hf10 hd hfr v10 v10' hc hf st0 sW hW
    go_wp2_with fail
    go_ret
    refine ⟨rfl, ⟨ds, dc⟩, ?_⟩
    have g0 := grownBy_ofBelow HW.out (some b)
    have hfin := HR.out.of (grownBy_then (grownBy_then (grownBy_then (grownBy_then (grownBy_then g0 (grownBy_setOne _ b 4 (.slice ds 1 dc))) (grownBy_setOne _ b 0 (.string ⟨#[]⟩))) (grownBy_setOne _ b 1 (.string ⟨#[]⟩))) (grownBy_setOne _ b 2 (.int .i64 0))) (grownBy_setOne _ b 3 (.int .i64 0))) (blk_set (blk_set (blk_set (blk_set (blk_set HB.out 4 (.slice ds 1 dc)) 0 (.string ⟨#[]⟩)) 1 (.string ⟨#[]⟩)) 2 (.int .i64 0)) 3 (.int .i64 0))
    refine ⟨hfin.1, HD.out.up HF.out ?_, hfin.2⟩
    repeat (with_reducible refine KeepUp.set ?_ hl _)
    exact KeepUp.refl _ _
end Go.Proofs.YtmgdbfmlnmahpaaGreatDoor
namespace Go.Proofs.YtmgdbfmlnmahpaaGreatDoor
open Go.RowKit Go.Shelf
set_option linter.unusedSimpArgs false
set_option linter.unusedVariables false
set_option maxRecDepth 100000
theorem insL_one (s : Option Addr) (cap : Nat) (f : Value) (w : World) : Calls Tryz.prog 186 #[.slice s 1 cap, .int .i64 0, .int .i64 1, f] w fun e w' => e = .returned (.tuple #[]) ∧ w' = w := by
  go_enter Tryz.func186, Tryz.ntmps186
  go_wp2_with fail
  refine wp_loop_rounds 1 ?_
  rw [rounds_succ]
  go_wp2_with fail
  go_end0
  exact ⟨rfl, rfl⟩
theorem pdqL_one (s : Option Addr) (cap : Nat) (lm f : Value) (w : World) : Calls Tryz.prog 152 #[.slice s 1 cap, .int .i64 0, .int .i64 1, lm, f] w fun e w' => e = .returned (.tuple #[]) ∧ w' = w := by
  go_enter Tryz.func152, Tryz.ntmps152
  go_wp2_with fail
  refine wp_loop_rounds 1 ?_
  rw [rounds_succ]
  go_wp2_with fail
  refine (insL_one _ _ _ _).mono ?_
  rintro e w1 ⟨rfl, rfl⟩
  go_wp2_with fail
  first | go_end0 | refine bodyPost_ret (results_none rfl _ _ _) rfl ?_
  exact ⟨rfl, rfl⟩
theorem len1 (w : World) : Calls Tryz.prog 153 #[.int .u64 1] w fun e w' => e = .returned (.int .i64 1) ∧ w' = w := by
  go_enter Tryz.func153, Tryz.ntmps153
  go_wp2_with fail
  have h := len64_any 1 w (by omega) (by omega)
  rw [show Lib.bitLen (1 : Int).toNat = 1 by decide] at h
  refine h.mono ?_
  rintro e w1 ⟨rfl, rfl⟩
  go_wp2_with fail
  go_ret
  exact ⟨rfl, rfl⟩
theorem sortL_one (s : Option Addr) (cap : Nat) (f : Value) (w : World) : Calls Tryz.prog 106 #[.slice s 1 cap, f] w fun e w' => e = .returned (.tuple #[]) ∧ w' = w := by
  go_enter Tryz.func106, Tryz.ntmps106
  go_wp2_with fail
  refine (len1 _).mono ?_
  rintro e w1 ⟨rfl, rfl⟩
  go_wp2_with fail
  refine (pdqL_one _ _ _ _ _).mono ?_
  rintro e w2 ⟨rfl, rfl⟩
  go_wp2_with fail
  go_end0
  exact ⟨rfl, rfl⟩
theorem RdrS.keepB {W W' : World} {b m : Nat} {nm vl : ByteArray} {pl rn : Int} {lv : Value} (h : RdrS W b m nm vl pl rn lv) (hb : Below W.heap.size W W') : RdrS W' b m nm vl pl rn lv :=
  ⟨(hb.block b (blk_lt h.blk)).trans h.blk, h.map.kept (grownBy_ofBelow hb none) (fun r e => by cases e)⟩
theorem below_of_grown {B : Nat} {w W W' : World} {b : Nat} (h : Below B w W) (hB : B ≤ w.heap.size) (hg : W.grownBy W' (some b)) (hb : B ≤ b) : Below B w W' :=
  ⟨hg.os.trans h.os, hg.tape.trans h.tape, hg.output.trans h.output, Nat.le_trans h.size hg.size, fun k hk => (hg.block k (by have := h.size; omega) (by intro e; cases e; omega)).trans (h.block k hk)⟩
structure RdI (w0 W : World) (b m k : Nat) (s : ByteArray) (pos : Nat) (nm vl : ByteArray) (pl rn : Int) (lv : Value) : Prop where
  r : RdrS W b m nm vl pl rn lv
  i : W.heap[k]? = some (.stringIter s pos)
  b : Below w0.heap.size w0 W
theorem RdI.next {w0 W : World} {b m k : Nat} {s : ByteArray} {pos pos' : Nat} {nm vl : ByteArray} {pl rn : Int} {lv : Value} (h : RdI w0 W b m k s pos nm vl pl rn lv) (hk : w0.heap.size ≤ k) : RdI w0 (W.iterAt k s pos') b m k s pos' nm vl pl rn lv := by
  have hbk : b ≠ k := by rintro rfl; have := h.r.blk; rw [h.i] at this; cases this
  have hmk : m ≠ k := by
    rintro rfl
    obtain ⟨es, clock, hb, _⟩ := h.r.map
    rw [h.i] at hb
    cases hb
  refine ⟨⟨(Lib.iterAt_other W k b s pos' hbk).trans h.r.blk, ?_⟩, Lib.iterAt_heap W k s pos pos' h.i, Lib.below_iterAt h.b hk s pos'⟩
  exact h.r.map.kept (row := some k) ⟨rfl, rfl, rfl, by rw [Lib.iterAt_size]; exact Nat.le_refl _, fun j _ hj => Lib.iterAt_other W k j s pos' (fun e => hj (by rw [e]))⟩ (fun r e => by cases e; exact hmk.symm)
theorem RdI.step {w0 W W' : World} {b m k : Nat} {s : ByteArray} {pos : Nat} {nm vl nm' vl' : ByteArray} {pl rn pl' rn' : Int} {lv lv' : Value} (h : RdI w0 W b m k s pos nm vl pl rn lv) (hr : RdrS W' b m nm' vl' pl' rn' lv') (hg : W.grownBy W' (some b)) (hb : w0.heap.size ≤ b) : RdI w0 W' b m k s pos nm' vl' pl' rn' lv' := by
  have hbk : k ≠ b := by rintro rfl; have := h.r.blk; rw [h.i] at this; cases this
  exact ⟨hr, (hg.block k (blk_lt h.i) (by intro e; cases e; exact hbk rfl)).trans h.i, below_of_grown h.b (Nat.le_refl _) hg hb⟩
set_option maxHeartbeats 1000000 in
theorem read_ax (w : World) : Calls Tryz.prog 104 #[.string ⟨#[97, 61, 120]⟩] w fun e w' => ∃ d : Hd, e = .returned (.tuple #[d.v 1, .nilIface]) ∧ RdH 2 encL w' d [⟨⟨#[97]⟩, ⟨#[120]⟩⟩] ∧ Below w.heap.size w w' := by
  go_enter Tryz.func104, Tryz.ntmps104
  go_wp2_with fail
  refine wp_scope_straight ?_
  go_wp2_with fail
  refine (runes_ax _).mono ?_
  rintro e w1 ⟨rfl, hb1⟩
  go_wp2_with fail
  refine (newReader_any _).mono ?_
  rintro e w2 ⟨b, m, rfl, hb, hr, hb2⟩
  have hal := (Below.refl w2.heap.size w2).alloc (Nat.le_refl _) (.stringIter ⟨#[97, 61, 120]⟩ 0)
  have HI : RdI w (w2.iter ⟨#[97, 61, 120]⟩ 0) b m w2.heap.size ⟨#[97, 61, 120]⟩ 0 ⟨#[]⟩ ⟨#[]⟩ 0 0 (.slice none 0 0) := ⟨hr.keepB hal, World.iter_heap _ _ _, (hb1.trans (hb2.mono hb1.size)).trans (hal.mono (Nat.le_trans hb1.size hb2.size))⟩
  have hkw : w.heap.size ≤ w2.heap.size := Nat.le_trans hb1.size hb2.size
  have hbw : w.heap.size ≤ b := Nat.le_trans hb1.size hb
  clear hb1 hb hr hb2 hal
  go_wp2_with fail
  refine wp_label ?_
  go_wp2_with fail
  generalize w2.iter ⟨#[97, 61, 120]⟩ 0 = v0 at *
  generalize w2.heap.size = k at *
  refine wp_loop_rounds 4 ?_
  have hn := Lib.run_next_ascii_at (P := Tryz.prog) v0 k ⟨#[97, 61, 120]⟩ 0 0 HI.i (by decide) (by decide)
  change (Instr.next _ true 0).run Tryz.prog v0 = .ok (.tuple #[.bool true, .int .i64 0, .int .i32 97]) (v0.iterAt k ⟨#[97, 61, 120]⟩ 1) at hn
  rw [rounds_succ]
  go_wp2_with fail
  have HJ := HI.next (pos' := 1) hkw
  clear hn HI
  generalize v0.iterAt k ⟨#[97, 61, 120]⟩ 1 = u0 at *
  refine (step_a b m _ _ HJ.r).mono ?_
  rintro e v1 ⟨rfl, hr5, hg5⟩
  have HI := HJ.step hr5 hg5 hbw
  clear HJ hr5 hg5
  go_wp2_with fail
  have hn := Lib.run_next_ascii_at (P := Tryz.prog) v1 k ⟨#[97, 61, 120]⟩ 1 0 HI.i (by decide) (by decide)
  change (Instr.next _ true 0).run Tryz.prog v1 = .ok (.tuple #[.bool true, .int .i64 1, .int .i32 61]) (v1.iterAt k ⟨#[97, 61, 120]⟩ 2) at hn
  rw [rounds_succ]
  go_wp2_with fail
  have HJ := HI.next (pos' := 2) hkw
  clear hn HI
  generalize v1.iterAt k ⟨#[97, 61, 120]⟩ 2 = u1 at *
  refine (step_eq b m _ _ HJ.r).mono ?_
  rintro e v2 ⟨rfl, hr5, hg5⟩
  have HI := HJ.step hr5 hg5 hbw
  clear HJ hr5 hg5
  go_wp2_with fail
  have hn := Lib.run_next_ascii_at (P := Tryz.prog) v2 k ⟨#[97, 61, 120]⟩ 2 0 HI.i (by decide) (by decide)
  change (Instr.next _ true 0).run Tryz.prog v2 = .ok (.tuple #[.bool true, .int .i64 2, .int .i32 120]) (v2.iterAt k ⟨#[97, 61, 120]⟩ 3) at hn
  rw [rounds_succ]
  go_wp2_with fail
  have HJ := HI.next (pos' := 3) hkw
  clear hn HI
  generalize v2.iterAt k ⟨#[97, 61, 120]⟩ 3 = u2 at *
  refine (step_x b m _ _ HJ.r).mono ?_
  rintro e v3 ⟨rfl, hr5, hg5⟩
  have HI := HJ.step hr5 hg5 hbw
  clear HJ hr5 hg5
  go_wp2_with fail
  have hn := Lib.run_next_end_at (P := Tryz.prog) v3 k ⟨#[97, 61, 120]⟩ 3 0 HI.i (by decide)
  rw [rounds_succ]
  go_wp2_with fail
  refine (rdEnd_any b m _ _ _ _ HI.r).mono ?_
  rintro e w6 ⟨rfl, ⟨ds, dc⟩, hr6, hd6, hg6⟩
  have hB := below_of_grown HI.b (Nat.le_refl _) hg6 hbw
  have hc := blk_cell hr6.blk
  have HD := Lib.hid hd6
  clear HI hr6 hg6 hn hd6
  go_wp2_with fail
  rw [Exit.noGoto_ret]
  go_ret2
  exact ⟨⟨ds, dc⟩, rfl, HD.out, hB⟩
set_option maxHeartbeats 1000000 in
theorem parse_ax (w : World) : Calls Tryz.prog 68 #[.string ⟨#[97, 61, 120]⟩] w fun e w' => ∃ d : Hd, e = .returned (.tuple #[d.v 1, .int .i64 0]) ∧ RdH 2 encL w' d [⟨⟨#[97]⟩, ⟨#[120]⟩⟩] ∧ Below w.heap.size w w' := by
  go_enter Tryz.func68, Tryz.ntmps68
  go_wp2_with fail
  refine (read_ax _).mono ?_
  rintro e w1 ⟨⟨ds, dc⟩, rfl, hd, hb1⟩
  have HD := Lib.hid hd
  clear hd
  go_wp2_with fail
  refine (sortL_one _ _ _ _).mono ?_
  rintro e w2 ⟨rfl, rfl⟩
  go_wp2_with fail
  refine (lbRight_one ⟨#[120]⟩ isValue_x ds dc _ HD.out.rd).mono ?_
  rintro e w3 ⟨rfl, hb3⟩
  go_wp2_with fail
  go_ret2
  exact ⟨⟨ds, dc⟩, rfl, HD.out.keepB hb3, hb1.trans (hb3.mono hb1.size)⟩
end Go.Proofs.YtmgdbfmlnmahpaaGreatDoor
