/- A part of the proof of TopCounts. -/
import Derived.Test.YtmgdbfmlnmahpaaGreatDoorG31
import Derived.Test.YtmgdbfmlnmahpaaGreatDoorG09
import Derived.RangeFuncCalls
import Derived.RangeFuncBox
import Derived.RangeFuncLeaves
import Derived.Shelf.Abstract
import Derived.OwnWalkIn
import Derived.TacticsInMore
import Derived.LoopNIn
import Derived.LoopIn
namespace Go.Proofs.YtmgdbfmlnmahpaaGreatDoor
open Go.RowKit Go.Shelf
attribute [local go_sem] wrap_add wrap_sub bits_xor bits_or bits_and wrap_shl div_shr wrap_un_id len_shl56 Oper.semAt_some
theorem byte_un (b : UInt8) : ((b.toNat : Nat) : Int) = un (BitVec.ofNat 64 b.toNat) :=
  un_lit _ (Nat.lt_of_lt_of_le b.toNat_lt (by decide))
theorem take_snoc (s : ByteArray) (k : Nat) (h : k < s.size) : s.data.toList.take (k + 1) = s.data.toList.take k ++ [s[k]] := by
  rw [List.take_succ_eq_append_getElem (by simpa using h)]; rfl
section
attribute [local go_sem] byte_un
set_option maxHeartbeats 1000000 in
theorem number_any (s : ByteArray) (hs : s.size ≤ 8) (w : World) :
    Calls Tryz.prog 96 #[.string s] w fun e w' => e = .returned (.int .u64 (un (num s.data.toList))) ∧ w' = w := by
  go_enter Tryz.func96, Tryz.ntmps96
  go_wp2
  go_loop [3, 7] (fun n i => ∃ k : Nat, k ≤ s.size ∧ i = .int .i64 k ∧ n = .int .u64 (un (num (s.data.toList.take k)))) (fun _ i => s.size - (intOf i).toNat)
  case atStart => exact ⟨0, Nat.zero_le _, rfl, rfl⟩
  case round =>
    obtain ⟨k, hk, rfl, rfl⟩ := hrel
    by_cases hlt : k < s.size
    · have HS : Hid (num (s.data.toList.take (k + 1)) = num (s.data.toList.take k) ||| (BitVec.ofNat 64 s[k].toNat) <<< (8 * k)) := by
        show _ = _
        rw [take_snoc s k hlt, num_snoc]
        rw [List.length_take, Nat.min_eq_left (by simpa using hk)]
      go_wp2
      go_round
      case rel => exact ⟨k + 1, by omega, by go_num, by rw [HS.out]⟩
      case measure => simp [intOf]; omega
    · go_wp2
      go_ret
      obtain rfl : k = s.size := by omega
      have e : s.data.toList.take s.size = s.data.toList := List.take_of_length_le (by simp)
      exact ⟨ret_int (by rw [e]), rfl⟩
end
theorem ext_list (s : ByteArray) (a b : Nat) : (s.extract a b).data.toList = (s.data.toList.drop a).take (b - a) := by
  rw [ByteArray.data_extract, Array.toList_extract]
theorem blk_eq (s : ByteArray) (k : Nat) : num (s.extract (8 * k) (8 * k + 8)).data.toList = blk s.data.toList k := by
  rw [ext_list]; unfold blk; rw [show 8 * k + 8 - 8 * k = 8 by omega]
theorem end_eq (s : ByteArray) : num (s.extract (8 * (s.size / 8)) s.size).data.toList ||| (BitVec.ofNat 64 s.size) <<< 56 = endBlk s.data.toList := by
  rw [ext_list]; unfold endBlk
  rw [List.take_of_length_le (by simp)]
  simp
set_option maxRecDepth 100000 in
set_option maxHeartbeats 1000000 in
theorem eights1_in (n : Nat) (hn : 1 ≤ n) (l Bn : Nat) (s : ByteArray) (hs : s.size ≤ 9223372036854775807) (J Jx : List (BitVec 64 × Bool) → World → Prop) (hJd : ∀ pre W k, J pre W → J pre (W.drewN k))
    (hY : ∀ pre x W, J pre W → pre.length < s.size / 8 + 1 → YieldAt Fence.wide (n - 1) Tryz.prog l #[.int .u64 (un x.1), .bool x.2] W fun e W' =>
      (e = .returned (.bool true) ∧ J (pre ++ [x]) W' ∧ W'.cell? ⟨Bn, 0, none⟩ = W.cell? ⟨Bn, 0, none⟩) ∨ (e = .returned (.bool false) ∧ Jx (pre ++ [x]) W'))
    (W : World) (hBn : W.cell? ⟨Bn, 0, none⟩ = some (.string s)) (h0 : J [] W) :
    CallsIn Fence.wide n Tryz.prog 95 #[.func (.yield l) #[] #[], .pointer (some ⟨Bn, 0, none⟩)] W fun e W' => (∃ v, e = .returned v) ∧
      ((∃ ys, ys = evs s.data.toList ∧ J ys W') ∨ (∃ pre, pre <+: evs s.data.toList ∧ Jx pre W')) := by
  refine callsIn_of_wp Tryz.func95 rfl trivial ?_ rfl
  simp only [Tryz.ntmps95, List.size_toArray, List.length_cons, List.length_nil, Nat.reduceAdd, Nat.reduceSub, Array.replicate_succ, Array.replicate_zero, List.push_toArray, List.append_toArray, List.nil_append, List.cons_append]
  gi_wp2
  gi_loopw [3] (fun p wr => ∃ k : Nat, 8 * k ≤ s.size ∧ p = .int .i64 (8 * (k : Int)) ∧ wr.cell? ⟨Bn, 0, none⟩ = some (.string s) ∧ J (evsTo s.data.toList k) wr)
    (fun p _ => s.size - (intOf p).toNat)
  case atStart =>
    exact ⟨0, by omega, rfl, hBn, h0⟩
  case round =>
    obtain ⟨k, hk, rfl, hc, hJ⟩ := hrel
    by_cases hlt : 8 * k + 8 ≤ s.size
    · obtain ⟨fn, tmps, assign, body, hy, hR⟩ := hY (evsTo s.data.toList k) (blk s.data.toList k, false) wr hJ (by rw [evsTo_length]; omega)
      simp only at hy hR
      gi_wp2_with fail
      refine ⟨trivial, callsIn_wide.2 ((number_any _ (by simp; omega) _).mono ?_)⟩
      rintro e w' ⟨rfl, rfl⟩
      rw [blk_eq]
      gi_wp2_with fail
      refine hR.mono ?_
      rintro e W3 (⟨rfl, hJ3, hk3⟩ | ⟨rfl, hJx3⟩)
      · have hc3 : W3.cell? ⟨Bn, 0, none⟩ = some (.string s) := hk3.trans hc
        clear hy hR hc hJ hBn hY
        gi_wp2
        go_roundw
        case rel => exact ⟨k + 1, by omega, by go_num, hc3, by rw [evsTo_succ]; exact hJ3⟩
        case measure => simp [intOf]; omega
      · clear hy hR hc hJ hBn hY
        gi_wp2
        refine bodyPost_ret (results_none rfl _ _ _) rfl ?_
        exact ⟨⟨_, rfl⟩, .inr ⟨_, by rw [← evsTo_succ]; exact evsTo_prefix _ _ (by simp; omega), hJx3⟩⟩
    · have HK : Hid (k = s.size / 8) := (by omega : k = s.size / 8)
      gi_wp2_with fail
      refine regionIn_drew_tail 10 (by kernel_rfl) (by kernel_rfl) ?_
      simp only [List.take_succ_cons, List.take_zero, List.drop_succ_cons, List.drop_zero]
      repeat (first | go_big_quiet_step ((go_at_call 96; exact Calls.quiet_of_same (number_any _ (by simp; omega) _))) | quiet_step ((go_at_call 96; exact Calls.quiet_of_same (number_any _ (by simp; omega) _))))
      refine wpQuiet_nil ?_
      intro m
      have e : num (List.take (s.size - 8 * k) (List.drop (8 * k) s.data.toList)) ||| BitVec.ofNat 64 s.size <<< 56 = endBlk s.data.toList := by
        rw [← end_eq, ← HK.out, ext_list]
      rw [e]
      clear e
      obtain ⟨fn, tmps, assign, body, hy, hR⟩ := hY (evsTo s.data.toList k) (endBlk s.data.toList, true) (wr.drewN m) (hJd _ _ _ hJ) (by rw [evsTo_length]; omega)
      simp only at hy hR
      clear hc hBn hY hJ
      gi_wp2_with fail
      refine hR.mono ?_
      have hpre : Hid (evsTo s.data.toList k ++ [(endBlk s.data.toList, true)] = evs s.data.toList) := by
        show _ = _
        rw [evs_eq, HK.out]
        simp
      rintro e W3 (⟨rfl, hJ3, hk3⟩ | ⟨rfl, hJx3⟩)
      · rw [hpre.out] at hJ3
        clear hpre hy hR
        gi_wp2
        go_end0
        exact ⟨⟨_, rfl⟩, .inl ⟨_, rfl, hJ3⟩⟩
      · rw [hpre.out] at hJx3
        clear hpre hy hR
        gi_wp2
        go_end0
        exact ⟨⟨_, rfl⟩, .inr ⟨_, List.prefix_refl _, hJx3⟩⟩
set_option maxHeartbeats 1000000 in
theorem eights_any (s : ByteArray) (w : World) :
    Calls Tryz.prog 61 #[.string s] w fun e w' => e = .returned (.func (.func 95) #[] #[.pointer (some ⟨w.heap.size, 0, none⟩)]) ∧ w.alloc (.cells #[.string s] 9) = w' := by
  go_enter Tryz.func61, Tryz.ntmps61
  go_wp2
  go_ret
  exact ⟨rfl, rfl⟩
theorem eights_stops (n : Nat) (hn : 1 ≤ n) (Bn : Nat) (s : ByteArray) (hs : s.size ≤ 9223372036854775807) (w : World) (hBn : Bn < w.heap.size)
    (hc : w.cell? ⟨Bn, 0, none⟩ = some (.string s)) :
    SeqStopsK Fence.wide n Tryz.prog 95 #[.pointer (some ⟨Bn, 0, none⟩)] (fun x : BitVec 64 × Bool => #[Value.int .u64 (un x.1), .bool x.2]) (fun W W' => W'.cell? ⟨Bn, 0, none⟩ = W.cell? ⟨Bn, 0, none⟩) (fun ys => ys = evs s.data.toList) (fun pre => pre <+: evs s.data.toList) (s.size / 8 + 1) w := fun l J Jx W hW hJ _ hY h0 =>
  eights1_in n hn l Bn s hs J Jx (fun pre W k h => hJ pre W (W.drewN k) none h ⟨rfl, rfl, rfl, Nat.le_refl _, fun _ _ _ => rfl⟩ (fun r e => by cases e)) hY W ((hW.cell (p := ⟨Bn, 0, none⟩) hBn).trans hc) h0
end Go.Proofs.YtmgdbfmlnmahpaaGreatDoor
namespace Go.Proofs.YtmgdbfmlnmahpaaGreatDoor
open Go.RowKit Go.Shelf
attribute [local go_sem] wrap_add wrap_sub bits_xor bits_or bits_and wrap_shl div_shr wrap_un_id len_shl56 Oper.semAt_some xor_ff
def foldV (v : V4) (ms : List (BitVec 64)) : V4 := ms.foldl takeV v
def endV (v : V4) : BitVec 64 :=
  let u := Nat.repeat rnd 4 ⟨v.a, v.b, v.c ^^^ 255#64, v.d⟩
  u.a ^^^ u.b ^^^ u.c ^^^ u.d
def sipSum (a b : BitVec 64) (l : List UInt8) : BitVec 64 := endV (foldV (beginV a b) (msgs l))
set_option maxRecDepth 100000 in
set_option maxHeartbeats 2000000 in
theorem sum_any (a b : BitVec 64) (s : ByteArray) (hs : s.size ≤ 9223372036854775807) (w : World) :
    Calls Tryz.prog 41 #[.agg #[.int .u64 (un a), .int .u64 (un b)], .string s] w fun e w' => e = .returned (.int .u64 (un (sipSum a b s.data.toList))) ∧ Below w.heap.size w w' := by
  refine (callsIn_wide (n := 5)).1 ?_
  refine callsIn_of_wp_marks Tryz.func41 rfl trivial ?_ rfl
  simp only [Tryz.ntmps41, List.size_toArray, List.length_cons, List.length_nil, Nat.reduceAdd, Nat.reduceSub, Array.replicate_succ, Array.replicate_zero, List.push_toArray, List.append_toArray, List.nil_append, List.cons_append]
  gi_wp2_with fail
  refine wpIn_scope ?_
  gi_wp2_with fail
  refine ⟨trivial, callsIn_wide.2 ((begin_any a b (w.heap.size + 1) 22 _ ?_).mono ?_)⟩
  · have h := World.alloc_heap_new (w.alloc (Obj.cells #[Value.int IntKind.u64 (un a), Value.int IntKind.u64 (un b)] 24)) (.cells #[.int .u64 8317987319222330741, .int .u64 7237128888997146477, .int .u64 7816392313619706465, .int .u64 8387220255154660723] 22)
    rw [World.size_alloc] at h
    exact h
  rintro e w1 ⟨rfl, hb1⟩
  have hz : w.heap.size + 2 ≤ w1.heap.size := by have := hb1.size; simp at this; omega
  have hB1 : Below w.heap.size w w1 := (((Below.refl _ _).alloc (Nat.le_refl _) _).alloc (by simp) _).trans (hb1.mono (by simp; omega))
  clear hb1
  gi_wp2_with fail
  refine wpIn_label ?_
  gi_wp2_with fail
  refine ⟨trivial, callsIn_wide.2 ((eights_any s _).mono ?_)⟩
  rintro e w2 ⟨rfl, rfl⟩
  have hz2 : (w1.alloc (.cells #[.int .u64 (un (beginV a b).a), .int .u64 (un (beginV a b).b), .int .u64 (un (beginV a b).c), .int .u64 (un (beginV a b).d)] 149)).heap.size = w1.heap.size + 1 := World.size_alloc _ _
  have hH : Blk4 ((w1.alloc (.cells #[.int .u64 (un (beginV a b).a), .int .u64 (un (beginV a b).b), .int .u64 (un (beginV a b).c), .int .u64 (un (beginV a b).d)] 149)).alloc (.cells #[.string s] 9)) w1.heap.size 149 (beginV a b) :=
    (Below.heap_alloc _ _ _ (by rw [hz2]; omega)).trans (World.alloc_heap_new w1 _)
  have hS : Boxed ((w1.alloc (.cells #[.int .u64 (un (beginV a b).a), .int .u64 (un (beginV a b).b), .int .u64 (un (beginV a b).c), .int .u64 (un (beginV a b).d)] 149)).alloc (.cells #[.string s] 9)) (w1.heap.size + 1) 9 (.string s) := by
    have h := World.alloc_heap_new (w1.alloc (.cells #[.int .u64 (un (beginV a b).a), .int .u64 (un (beginV a b).b), .int .u64 (un (beginV a b).c), .int .u64 (un (beginV a b).d)] 149)) (.cells #[.string s] 9)
    rw [World.size_alloc] at h
    exact h
  have hB2 := (hB1.alloc (by omega) (.cells #[.int .u64 (un (beginV a b).a), .int .u64 (un (beginV a b).b), .int .u64 (un (beginV a b).c), .int .u64 (un (beginV a b).d)] 149)).alloc (by rw [hz2]; omega) (.cells #[.string s] 9)
  rw [hz2]
  clear hz2 hB1
  have hs2 : ((w1.alloc (.cells #[.int .u64 (un (beginV a b).a), .int .u64 (un (beginV a b).b), .int .u64 (un (beginV a b).c), .int .u64 (un (beginV a b).d)] 149)).alloc (.cells #[.string s] 9)).heap.size = w1.heap.size + 2 := by simp
  have HS2 := Lib.hid hs2
  clear hs2
  generalize (w1.alloc (.cells #[.int .u64 (un (beginV a b).a), .int .u64 (un (beginV a b).b), .int .u64 (un (beginV a b).c), .int .u64 (un (beginV a b).d)] 149)).alloc (.cells #[.string s] 9) = w2 at *
  generalize w1.heap.size = B at *
  gi_wp2_with fail
  refine wpIn_rangeFunc_ownF (n := 5) rfl (by omega) (gf := 95) (lb := #[.pointer (some ⟨B + 1, 0, none⟩)]) rfl trivial (enters_of Tryz.func95 (by kernel_rfl) rfl)
    (eights_stops 4 (by omega) (B + 1) s hs w2 (by rw [HS2.out]; omega) hS.cell) (fun h k => k.trans h) ?kb (Below.refl _ _) (fun _ => rfl)
    (fun (pre : List (BitVec 64 × Bool)) W => ((∀ x ∈ pre, x.2 = false) ∧ Blk4 W B 149 (foldV (beginV a b) (pre.map Prod.fst)) ∧ B + 2 ≤ W.heap.size) ∧ Below w.heap.size w W)
    (fun c pre W => (c = .exit 0 ∧ (∃ (p : List (BitVec 64 × Bool)) (x : BitVec 64 × Bool), pre = p ++ [x] ∧ x.2 = true) ∧ Blk4 W B 149 (foldV (beginV a b) (pre.map Prod.fst))) ∧ Below w.heap.size w W)
    (OwnFrom.and (Own.from (fun s A B row hs hg hr => ⟨hs.1, hs.2.1.own hg hr, Nat.le_trans hs.2.2 hg.size⟩) _) (ownFrom_below (Nat.le_refl _) (by rw [HS2.out]; omega)))
    (fun c => OwnFrom.and (Own.from (fun s A B row hs hg hr => ⟨hs.1, hs.2.1, hs.2.2.own hg hr⟩) _) (ownFrom_below (Nat.le_refl _) (by rw [HS2.out]; omega)))
    ⟨⟨by simp, hH, Nat.le_of_eq HS2.out.symm⟩, hB2⟩
    (fun x => { tmps := #[.agg #[.int .u64 (un a), .int .u64 (un b)], .string s, .pointer (some ⟨w.heap.size, 0, none⟩), undef, .int .u64 0, .pointer (some ⟨B, 0, none⟩), .int .u64 (un x.1), .bool x.2,
      .agg #[.int .u64 (un a), .int .u64 (un b)], .slice (some ⟨w.heap.size + 1, 0, none⟩) 4 4, vs (beginV a b), .string s, .func (.func 95) #[] #[.pointer (some ⟨B + 1, 0, none⟩)], .int .u64 (un x.1), .bool x.2, undef, undef,
      undef, undef, undef, undef, undef, undef, undef, undef, undef, undef, undef, undef], defers := [] }) ?assign ?body ?done ?stop
  case kb =>
    intro W l o o' hl h hc _
    exact World.cell?_of_block (w := W) ((grownBy_putObj' W l o').block (B + 1) (by have := (Array.getElem?_eq_some_iff.1 h).1; rw [HS2.out] at hl; omega) (fun e => by rw [HS2.out] at hl; simp at e; omega))
  case assign =>
    intro l x W K hK
    gi_wp2
    exact hK
  case body =>
    rintro l pre ⟨m, last⟩ W ⟨⟨hpre, hv, hsz⟩, hB⟩ _
    gi_wp2_with fail
    refine ⟨trivial, CallsIn.inRound l (callsIn_wide.2 ((take_any B 149 _ m W hv).mono ?_))⟩
    rintro e W1 ⟨⟨u, rfl⟩, hv1, hg1⟩
    have hfold : Hid (foldV (beginV a b) (List.map Prod.fst (pre ++ [(m, last)])) = takeV (foldV (beginV a b) (List.map Prod.fst pre)) m) := by
      show _ = _
      simp [foldV]
    have hko := hv.others hg1
    have hkc := Lib.hid (World.cell?_of_block (w := W) (a := ⟨B + 1, 0, none⟩) (hg1.block (B + 1) (by omega) (by simp)))
    have hB1 := hB.grown hg1 hB.size (fun k e => by cases e; omega)
    cases last
    · gi_wp2_with fail
      exact ⟨hko, hkc.out, ⟨fun x hx => (List.mem_append.1 hx).elim (hpre x) (fun h => by simp at h; rw [h]), by rw [hfold.out]; exact hv1, Nat.le_trans hsz hg1.size⟩, hB1⟩
    · gi_wp2_with fail
      exact ⟨hko, ⟨rfl, ⟨pre, (m, true), rfl, rfl⟩, by rw [hfold.out]; exact hv1⟩, hB1⟩
  case done =>
    rintro D ys W hD rfl ⟨⟨hall, _⟩, _⟩ _
    exact absurd (hall (endBlk s.data.toList, true) (by simp [evs])) (by simp)
  case stop =>
    rintro D c pre W hD hpre ⟨⟨rfl, ⟨p, x, rfl, hx⟩, hv⟩, hB⟩ hK
    rw [evs_whole _ _ _ hpre hx, evs_fst] at hv
    have hBD : B < D := by rw [HS2.out] at hD; omega
    obtain ⟨c0, c1, c2, c3⟩ := hv.cells
    have f := hv.frozen
    have HR : Hid (sipSum a b s.data.toList = endV (foldV (beginV a b) (msgs s.data.toList))) := rfl
    generalize foldV (beginV a b) (msgs s.data.toList) = v at *
    gi_wp2_with fail
    refine ⟨trivial, callsIn_wide.2 ((rounds_any 4 (by omega) (by omega) B 149 ⟨v.a, v.b, v.c ^^^ 255#64, v.d⟩ _ (hv.set2 _)).mono ?_)⟩
    rintro e W1 ⟨⟨u, rfl⟩, hv1, hg1⟩
    have hg2 := grownBy_trans (grownBy_set W B 2 (.int .u64 (un (v.c ^^^ 255#64)))) hg1
    have hK1 : W1.heap[D]? = some (Obj.deferred (some [])) := (hg2.block D (Array.getElem?_eq_some_iff.1 hK).1 (by simp; omega)).trans hK
    have hB1 := hB.grown hg2 hB.size (fun k e => by cases e; omega)
    clear c0 c1 c2 c3 f hg1 hg2 hK hB hv
    have HE : Hid (endV v = (Nat.repeat rnd (4 : Int).toNat ⟨v.a, v.b, v.c ^^^ 255#64, v.d⟩).a ^^^ (Nat.repeat rnd (4 : Int).toNat ⟨v.a, v.b, v.c ^^^ 255#64, v.d⟩).b ^^^ (Nat.repeat rnd (4 : Int).toNat ⟨v.a, v.b, v.c ^^^ 255#64, v.d⟩).c ^^^ (Nat.repeat rnd (4 : Int).toNat ⟨v.a, v.b, v.c ^^^ 255#64, v.d⟩).d) := rfl
    generalize Nat.repeat rnd (4 : Int).toNat ⟨v.a, v.b, v.c ^^^ 255#64, v.d⟩ = r at *
    gi_wp2_with fail
    refine ⟨trivial, callsIn_wide.2 ((mixed_any B 149 r W1 hv1).mono ?_)⟩
    rintro e W2 ⟨rfl, rfl⟩
    gi_wp2_with fail
    refine ⟨by simp, .inl ⟨_, _, rfl, run_takeDeferred hK1, ?_⟩⟩
    exact ⟨.int .u64 (un (r.a ^^^ r.b ^^^ r.c ^^^ r.d)), results_tmp (t := 4) rfl _ _ _, by rw [HR.out, HE.out], hB1.trans (belowK_b (w := w) (Nat.le_refl _) W2 D _ _ (by omega) hK1 rfl rfl)⟩
end Go.Proofs.YtmgdbfmlnmahpaaGreatDoor
