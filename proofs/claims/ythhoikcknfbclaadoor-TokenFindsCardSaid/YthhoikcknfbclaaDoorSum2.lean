/- sip.number, sip.eights and its iterator, walked. -/
import Derived.Test.YthhoikcknfbclaaDoorSum1
import Derived.Test.YthhoikcknfbclaaDoorBytes
import Derived.Test.YthhoikcknfbclaaDoorQuietIn
import Derived.RangeFuncCalls
import Derived.RangeFuncBox
import Derived.RangeFuncLeaves
import Derived.Shelf.Abstract
import Derived.OwnWalkIn
import Derived.TacticsInMore
import Derived.LoopNIn
import Derived.LoopIn
namespace Go.Proofs.YthhoikcknfbclaaDoor
open Go.RowKit Go.Shelf

attribute [local go_sem] wrap_add wrap_sub bits_xor bits_or bits_and wrap_shl div_shr wrap_un_id len_shl56 Oper.semAt_some

theorem byte_un (b : UInt8) : ((b.toNat : Nat) : Int) = un (BitVec.ofNat 64 b.toNat) :=
  un_lit _ (Nat.lt_of_lt_of_le b.toNat_lt (by decide))

theorem take_snoc (s : ByteArray) (k : Nat) (h : k < s.size) : s.data.toList.take (k + 1) = s.data.toList.take k ++ [s[k]] := by
  rw [List.take_succ_eq_append_getElem (by simpa using h)]; rfl

section
attribute [local go_sem] byte_un
set_option maxHeartbeats 1000000 in
theorem number_any (s : ByteArray) (hs : s.size ≤ 8) (w : World) :
    Calls Tryd.prog 46 #[.string s] w fun e w' => e = .returned (.int .u64 (un (num s.data.toList))) ∧ w' = w := by
  go_enter Tryd.func46, Tryd.ntmps46
  go_wp2
  go_loop [3, 7] (fun n i => ∃ k : Nat, k ≤ s.size ∧ i = .int .i64 k ∧ n = .int .u64 (un (num (s.data.toList.take k)))) (fun _ i => s.size - (intOf i).toNat)
  case atStart => exact ⟨0, Nat.zero_le _, rfl, rfl⟩
  case round =>
    obtain ⟨k, hk, rfl, rfl⟩ := hrel
    by_cases hlt : k < s.size
    · have HS : Hid (num (s.data.toList.take (k + 1)) = num (s.data.toList.take k) ||| (BitVec.ofNat 64 s[k].toNat) <<< (8 * k)) := by
        show _ = _
        rw [take_snoc s k hlt, num_snoc]
        rw [List.length_take, Nat.min_eq_left (by simpa using hk)]
      go_wp2
      go_round
      case rel => exact ⟨k + 1, by omega, by go_num, by rw [HS.out]⟩
      case measure => simp [intOf]; omega
    · go_wp2
      go_ret
      obtain rfl : k = s.size := by omega
      have e : s.data.toList.take s.size = s.data.toList := List.take_of_length_le (by simp)
      exact ⟨ret_int (by rw [e]), rfl⟩
end

theorem ext_list (s : ByteArray) (a b : Nat) : (s.extract a b).data.toList = (s.data.toList.drop a).take (b - a) := by
  rw [ByteArray.data_extract, Array.toList_extract]

theorem blk_eq (s : ByteArray) (k : Nat) : num (s.extract (8 * k) (8 * k + 8)).data.toList = blk s.data.toList k := by
  rw [ext_list]; unfold blk; rw [show 8 * k + 8 - 8 * k = 8 by omega]

theorem end_eq (s : ByteArray) : num (s.extract (8 * (s.size / 8)) s.size).data.toList ||| (BitVec.ofNat 64 s.size) <<< 56 = endBlk s.data.toList := by
  rw [ext_list]; unfold endBlk
  rw [List.take_of_length_le (by simp)]
  simp

set_option maxRecDepth 100000 in
set_option maxHeartbeats 1000000 in
theorem eights1_in (n : Nat) (hn : 1 ≤ n) (l Bn : Nat) (s : ByteArray) (hs : s.size ≤ 9223372036854775807) (J Jx : List (BitVec 64 × Bool) → World → Prop) (hJd : ∀ pre W k, J pre W → J pre (W.drewN k))
    (hY : ∀ pre x W, J pre W → pre.length < s.size / 8 + 1 → YieldAt Fence.wide (n - 1) Tryd.prog l #[.int .u64 (un x.1), .bool x.2] W fun e W' =>
      (e = .returned (.bool true) ∧ J (pre ++ [x]) W' ∧ W'.cell? ⟨Bn, 0, none⟩ = W.cell? ⟨Bn, 0, none⟩) ∨ (e = .returned (.bool false) ∧ Jx (pre ++ [x]) W'))
    (W : World) (hBn : W.cell? ⟨Bn, 0, none⟩ = some (.string s)) (h0 : J [] W) :
    CallsIn Fence.wide n Tryd.prog 45 #[.func (.yield l) #[] #[], .pointer (some ⟨Bn, 0, none⟩)] W fun e W' => (∃ v, e = .returned v) ∧
      ((∃ ys, ys = evs s.data.toList ∧ J ys W') ∨ (∃ pre, pre <+: evs s.data.toList ∧ Jx pre W')) := by
  refine callsIn_of_wp Tryd.func45 rfl trivial ?_ rfl
  simp only [Tryd.ntmps45, List.size_toArray, List.length_cons, List.length_nil, Nat.reduceAdd, Nat.reduceSub, Array.replicate_succ, Array.replicate_zero, List.push_toArray, List.append_toArray, List.nil_append, List.cons_append]
  gi_wp2
  gi_loopw [3] (fun p wr => ∃ k : Nat, 8 * k ≤ s.size ∧ p = .int .i64 (8 * (k : Int)) ∧ wr.cell? ⟨Bn, 0, none⟩ = some (.string s) ∧ J (evsTo s.data.toList k) wr)
    (fun p _ => s.size - (intOf p).toNat)
  case atStart =>
    exact ⟨0, by omega, rfl, hBn, h0⟩
  case round =>
    obtain ⟨k, hk, rfl, hc, hJ⟩ := hrel
    by_cases hlt : 8 * k + 8 ≤ s.size
    · obtain ⟨fn, tmps, assign, body, hy, hR⟩ := hY (evsTo s.data.toList k) (blk s.data.toList k, false) wr hJ (by rw [evsTo_length]; omega)
      simp only at hy hR
      gi_wp2_with fail
      refine ⟨trivial, callsIn_wide.2 ((number_any _ (by simp; omega) _).mono ?_)⟩
      rintro e w' ⟨rfl, rfl⟩
      rw [blk_eq]
      gi_wp2_with fail
      refine hR.mono ?_
      rintro e W3 (⟨rfl, hJ3, hk3⟩ | ⟨rfl, hJx3⟩)
      · have hc3 : W3.cell? ⟨Bn, 0, none⟩ = some (.string s) := hk3.trans hc
        clear hy hR hc hJ hBn hY
        gi_wp2
        go_roundw
        case rel => exact ⟨k + 1, by omega, by go_num, hc3, by rw [evsTo_succ]; exact hJ3⟩
        case measure => simp [intOf]; omega
      · clear hy hR hc hJ hBn hY
        gi_wp2
        refine bodyPost_ret (results_none rfl _ _ _) rfl ?_
        exact ⟨⟨_, rfl⟩, .inr ⟨_, by rw [← evsTo_succ]; exact evsTo_prefix _ _ (by simp; omega), hJx3⟩⟩
    · have HK : Hid (k = s.size / 8) := (by omega : k = s.size / 8)
      gi_wp2_with fail
      refine regionIn_drew_tail 10 (by kernel_rfl) (by kernel_rfl) ?_
      simp only [List.take_succ_cons, List.take_zero, List.drop_succ_cons, List.drop_zero]
      repeat (first | go_big_quiet_step ((go_at_call 46; exact Calls.quiet_of_same (number_any _ (by simp; omega) _))) | quiet_step ((go_at_call 46; exact Calls.quiet_of_same (number_any _ (by simp; omega) _))))
      refine wpQuiet_nil ?_
      intro m
      have e : num (List.take (s.size - 8 * k) (List.drop (8 * k) s.data.toList)) ||| BitVec.ofNat 64 s.size <<< 56 = endBlk s.data.toList := by
        rw [← end_eq, ← HK.out, ext_list]
      rw [e]
      clear e
      obtain ⟨fn, tmps, assign, body, hy, hR⟩ := hY (evsTo s.data.toList k) (endBlk s.data.toList, true) (wr.drewN m) (hJd _ _ _ hJ) (by rw [evsTo_length]; omega)
      simp only at hy hR
      clear hc hBn hY hJ
      gi_wp2_with fail
      refine hR.mono ?_
      have hpre : Hid (evsTo s.data.toList k ++ [(endBlk s.data.toList, true)] = evs s.data.toList) := by
        show _ = _
        rw [evs_eq, HK.out]
        simp
      rintro e W3 (⟨rfl, hJ3, hk3⟩ | ⟨rfl, hJx3⟩)
      · rw [hpre.out] at hJ3
        clear hpre hy hR
        gi_wp2
        go_end0
        exact ⟨⟨_, rfl⟩, .inl ⟨_, rfl, hJ3⟩⟩
      · rw [hpre.out] at hJx3
        clear hpre hy hR
        gi_wp2
        go_end0
        exact ⟨⟨_, rfl⟩, .inr ⟨_, List.prefix_refl _, hJx3⟩⟩

set_option maxHeartbeats 1000000 in
theorem eights_any (s : ByteArray) (w : World) :
    Calls Tryd.prog 37 #[.string s] w fun e w' => e = .returned (.func (.func 45) #[] #[.pointer (some ⟨w.heap.size, 0, none⟩)]) ∧ w.alloc (.cells #[.string s] 9) = w' := by
  go_enter Tryd.func37, Tryd.ntmps37
  go_wp2
  go_ret
  exact ⟨rfl, rfl⟩

theorem eights_stops (n : Nat) (hn : 1 ≤ n) (Bn : Nat) (s : ByteArray) (hs : s.size ≤ 9223372036854775807) (w : World) (hBn : Bn < w.heap.size)
    (hc : w.cell? ⟨Bn, 0, none⟩ = some (.string s)) :
    SeqStopsK Fence.wide n Tryd.prog 45 #[.pointer (some ⟨Bn, 0, none⟩)] (fun x : BitVec 64 × Bool => #[Value.int .u64 (un x.1), .bool x.2]) (fun W W' => W'.cell? ⟨Bn, 0, none⟩ = W.cell? ⟨Bn, 0, none⟩) (fun ys => ys = evs s.data.toList) (fun pre => pre <+: evs s.data.toList) (s.size / 8 + 1) w := fun l J Jx W hW hJ _ hY h0 =>
  eights1_in n hn l Bn s hs J Jx (fun pre W k h => hJ pre W (W.drewN k) none h ⟨rfl, rfl, rfl, Nat.le_refl _, fun _ _ _ => rfl⟩ (fun r e => by cases e)) hY W ((hW.cell (p := ⟨Bn, 0, none⟩) hBn).trans hc) h0

end Go.Proofs.YthhoikcknfbclaaDoor
