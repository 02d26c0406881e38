/- The helpers of sip.Sum, walked: rounds, take, mixed, begin. -/
import Derived.Test.YthhoikcknfbclaaDoorRound
import Derived.LoopTactic
import Derived.RangeFuncBox
import Derived.Lib.Hide
import Derived.RegionTactic
namespace Go.Proofs.YthhoikcknfbclaaDoor
open Go.RowKit

attribute [local go_sem] wrap_add wrap_sub bits_xor bits_or bits_and wrap_shl div_shr xor_zero_un xor_c0 xor_c1 xor_c2 xor_c3 xor_ff

/-- block b holds four numbers -/
def Blk4 (W : World) (b : Nat) (T : TypeId) (v : V4) : Prop :=
  W.heap[b]? = some (.cells #[.int .u64 (un v.a), .int .u64 (un v.b), .int .u64 (un v.c), .int .u64 (un v.d)] T (0, 0))

section
variable {W W' : World} {b : Nat} {T : TypeId} {v : V4}
theorem Blk4.lt (h : Blk4 W b T v) : b < W.heap.size := (Array.getElem?_eq_some_iff.1 h).1
theorem Blk4.cells (h : Blk4 W b T v) : W.cell? ⟨b, 0, none⟩ = some (.int .u64 (un v.a)) ∧ W.cell? ⟨b, 1, none⟩ = some (.int .u64 (un v.b)) ∧ W.cell? ⟨b, 2, none⟩ = some (.int .u64 (un v.c)) ∧ W.cell? ⟨b, 3, none⟩ = some (.int .u64 (un v.d)) := by
  simp [World.cell?, show W.heap[b]? = _ from h]
theorem Blk4.frozen (h : Blk4 W b T v) : ∀ i, W.frozen? ⟨b, i, none⟩ = false := by
  intro i; simp [World.frozen?, show W.heap[b]? = _ from h]
theorem Blk4.kept {row : Option Nat} (h : Blk4 W b T v) (hg : W.grownBy W' row) (hne : some b ≠ row) : Blk4 W' b T v := (hg.block b h.lt hne).trans h
theorem Blk4.own {row : Option Nat} (h : Blk4 W b T v) (hg : W.grownBy W' row) (hr : ∀ r, row = some r → ∃ o : Obj, W.heap[r]? = some o ∧ o.isCells = false) : Blk4 W' b T v :=
  h.kept hg (fun e => by
    obtain ⟨o, ho, hc⟩ := hr b e.symm
    rw [show W.heap[b]? = _ from h] at ho
    cases ho
    cases hc)
theorem Blk4.others (h : Blk4 W b T v) (hg : W.grownBy W' (some b)) : KeepsOthers W W' :=
  ⟨hg.size, fun k o hk ho => (hg.block k (Array.getElem?_eq_some_iff.1 hk).1 (fun e => by
    obtain rfl : k = b := by simpa using e
    rw [show W.heap[k]? = _ from h] at hk
    cases hk
    cases ho)).trans hk⟩
theorem Blk4.below (h : Blk4 W b T v) (hg : Below W.heap.size W W') : Blk4 W' b T v := (hg.block b h.lt).trans h
theorem grownBy_of_below (hg : Below W.heap.size W W') (row : Option Nat) : W.grownBy W' row := ⟨hg.os, hg.tape, hg.output, hg.size, fun k hk _ => hg.block k hk⟩
theorem grownBy_trans {X Y Z : World} {row : Option Nat} (h : X.grownBy Y row) (k : Y.grownBy Z row) : X.grownBy Z row :=
  ⟨k.os.trans h.os, k.tape.trans h.tape, k.output.trans h.output, Nat.le_trans h.size k.size, fun i hi hne => (k.block i (Nat.lt_of_lt_of_le hi h.size) hne).trans (h.block i hi hne)⟩
theorem grownBy_set (W : World) (b o : Nat) (u : Value) : W.grownBy (W.setCell ⟨b, o, none⟩ u) (some b) :=
  ⟨rfl, rfl, rfl, by simp [World.setCell], fun k _ hk => Below.heap_setCell _ _ _ k (fun e => hk (by rw [e]))⟩
theorem grownBy_drew (W : World) (row : Option Nat) : W.grownBy W.drew row := ⟨rfl, rfl, rfl, Nat.le_refl _, fun _ _ _ => rfl⟩
theorem grownBy_set4 (W : World) (b : Nat) (x0 x1 x2 x3 : Value) :
    W.grownBy ((((W.setCell ⟨b, 0, none⟩ x0).setCell ⟨b, 1, none⟩ x1).setCell ⟨b, 2, none⟩ x2).setCell ⟨b, 3, none⟩ x3) (some b) :=
  grownBy_trans (grownBy_trans (grownBy_trans (grownBy_set W b 0 x0) (grownBy_set _ b 1 x1)) (grownBy_set _ b 2 x2)) (grownBy_set _ b 3 x3)
theorem Blk4.drew (h : Blk4 W b T v) : Blk4 W.drew b T v := h
theorem Blk4.set3 (h : Blk4 W b T v) (m : BitVec 64) : Blk4 (W.setCell ⟨b, 3, none⟩ (.int .u64 (un m))) b T ⟨v.a, v.b, v.c, m⟩ := by
  unfold Blk4 at *
  simp only [World.setCell, Array.getElem?_modify, h]
  simp
theorem Blk4.set2 (h : Blk4 W b T v) (m : BitVec 64) : Blk4 (W.setCell ⟨b, 2, none⟩ (.int .u64 (un m))) b T ⟨v.a, v.b, m, v.d⟩ := by
  unfold Blk4 at *
  simp only [World.setCell, Array.getElem?_modify, h]
  simp
theorem Blk4.set1 (h : Blk4 W b T v) (m : BitVec 64) : Blk4 (W.setCell ⟨b, 1, none⟩ (.int .u64 (un m))) b T ⟨v.a, m, v.c, v.d⟩ := by
  unfold Blk4 at *
  simp only [World.setCell, Array.getElem?_modify, h]
  simp
theorem Blk4.set0 (h : Blk4 W b T v) (m : BitVec 64) : Blk4 (W.setCell ⟨b, 0, none⟩ (.int .u64 (un m))) b T ⟨m, v.b, v.c, v.d⟩ := by
  unfold Blk4 at *
  simp only [World.setCell, Array.getElem?_modify, h]
  simp
theorem Blk4.set (h : Blk4 W b T v) (u : V4) : Blk4 ((((W.setCell ⟨b, 0, none⟩ (.int .u64 (un u.a))).setCell ⟨b, 1, none⟩ (.int .u64 (un u.b))).setCell ⟨b, 2, none⟩ (.int .u64 (un u.c))).setCell ⟨b, 3, none⟩ (.int .u64 (un u.d))) b T u := by
  unfold Blk4 at *
  simp only [World.setCell, Array.getElem?_modify, h]
  simp
end

set_option maxRecDepth 100000 in
set_option maxHeartbeats 2000000 in
theorem rounds_any (n : Int) (h0 : 0 ≤ n) (hn : n ≤ 100) (b : Nat) (T : TypeId) (v : V4) (w : World) (hb : Blk4 w b T v) :
    Calls Tryd.prog 39 #[.pointer (some ⟨b, 0, none⟩), .int .i64 n] w fun e w' => (∃ u, e = .returned u) ∧ Blk4 w' b T (Nat.repeat rnd n.toNat v) ∧ w.grownBy w' (some b) := by
  obtain ⟨n, rfl⟩ := Int.eq_ofNat_of_zero_le h0
  rw [Int.toNat_natCast]
  go_enter Tryd.func39, Tryd.ntmps39
  go_wp2
  go_loopw [5] (fun i wr => ∃ k : Nat, k ≤ n ∧ i = .int .i64 k ∧ Blk4 wr b T (Nat.repeat rnd k v) ∧ w.grownBy wr (some b)) (fun i _ => n - (intOf i).toNat)
  case atStart => exact ⟨0, Nat.zero_le _, rfl, hb, grownBy_of_below (Below.refl _ _) _⟩
  case round =>
    obtain ⟨k, hk, rfl, hB, hG⟩ := hrel
    clear hb
    by_cases hlt : k < n
    · generalize hv0 : Nat.repeat rnd k v = v0 at *
      have HV := Lib.hid hv0
      clear hv0
      obtain ⟨c0, c1, c2, c3⟩ := hB.cells
      go_wp2_with fail
      refine (sipRound_any v0 _).mono ?_
      rintro e w1 ⟨rfl, hb1⟩
      have hB1 := hB.below hb1
      have hG1 := grownBy_trans hG (grownBy_of_below hb1 (some b))
      clear c0 c1 c2 c3 hB hG hb1
      obtain ⟨c0, c1, c2, c3⟩ := hB1.cells
      have f := hB1.frozen
      go_wp2_with fail
      go_roundw
      case rel => exact ⟨k + 1, by omega, by go_num, by show Blk4 _ b T (rnd (Nat.repeat rnd k v)); rw [HV.out]; exact hB1.set _, grownBy_trans hG1 (grownBy_set4 _ _ _ _ _ _)⟩
      case measure => simp [intOf]; omega
    · go_wp2
      obtain rfl : k = n := by omega
      go_end0
      exact ⟨⟨_, rfl⟩, hB, hG⟩

/-- eight bytes, as a number, taken -/
def takeV (v : V4) (m : BitVec 64) : V4 :=
  let u := rnd (rnd ⟨v.a, v.b, v.c, v.d ^^^ m⟩)
  ⟨u.a ^^^ m, u.b, u.c, u.d⟩

set_option maxRecDepth 100000 in
set_option maxHeartbeats 2000000 in
theorem take_any (b : Nat) (T : TypeId) (v : V4) (m : BitVec 64) (w : World) (hb : Blk4 w b T v) :
    Calls Tryd.prog 38 #[.pointer (some ⟨b, 0, none⟩), .int .u64 (un m)] w fun e w' => (∃ u, e = .returned u) ∧ Blk4 w' b T (takeV v m) ∧ w.grownBy w' (some b) := by
  obtain ⟨c0, c1, c2, c3⟩ := hb.cells
  have f := hb.frozen
  go_enter Tryd.func38, Tryd.ntmps38
  go_wp2_with fail
  refine region_tail 10 (by kernel_rfl) (by kernel_rfl) ?_
  simp only [List.take_succ_cons, List.take_zero, List.drop_succ_cons, List.drop_zero]
  repeat still_step
  refine wpStill_nil ?_
  go_wp2_with fail
  refine (rounds_any 2 (by omega) (by omega) b T ⟨v.a, v.b, v.c, v.d ^^^ m⟩ _ (hb.set3 _).drew).mono ?_
  rintro e w1 ⟨⟨u, rfl⟩, hb1, hg1⟩
  have hg : w.grownBy w1 (some b) := grownBy_trans (grownBy_trans (grownBy_set w b 3 _) (grownBy_drew _ _)) hg1
  clear c0 c1 c2 c3 f hb hg1
  have hv : Nat.repeat rnd (2 : Int).toNat ⟨v.a, v.b, v.c, v.d ^^^ m⟩ = rnd (rnd ⟨v.a, v.b, v.c, v.d ^^^ m⟩) := rfl
  rw [hv] at hb1
  clear hv
  have HT : Hid (takeV v m = ⟨(rnd (rnd ⟨v.a, v.b, v.c, v.d ^^^ m⟩)).a ^^^ m, (rnd (rnd ⟨v.a, v.b, v.c, v.d ^^^ m⟩)).b, (rnd (rnd ⟨v.a, v.b, v.c, v.d ^^^ m⟩)).c, (rnd (rnd ⟨v.a, v.b, v.c, v.d ^^^ m⟩)).d⟩) := rfl
  generalize rnd (rnd ⟨v.a, v.b, v.c, v.d ^^^ m⟩) = r at *
  obtain ⟨c0, c1, c2, c3⟩ := hb1.cells
  have f := hb1.frozen
  go_wp2_with fail
  refine region_tail 10 (by kernel_rfl) (by kernel_rfl) ?_
  simp only [List.take_succ_cons, List.take_zero, List.drop_succ_cons, List.drop_zero]
  repeat still_step
  refine wpStill_nil ?_
  go_wp2_with fail
  go_end0
  exact ⟨⟨_, rfl⟩, by rw [HT.out]; exact (hb1.set0 _).drew, grownBy_trans (grownBy_trans hg (grownBy_set w1 b 0 _)) (grownBy_drew _ _)⟩

set_option maxRecDepth 100000 in
set_option maxHeartbeats 2000000 in
theorem mixed_any (b : Nat) (T : TypeId) (v : V4) (w : World) (hb : Blk4 w b T v) :
    Calls Tryd.prog 40 #[.slice (some ⟨b, 0, none⟩) 4 4] w fun e w' => e = .returned (.int .u64 (un (v.a ^^^ v.b ^^^ v.c ^^^ v.d))) ∧ w' = w := by
  obtain ⟨c0, c1, c2, c3⟩ := hb.cells
  go_enter Tryd.func40, Tryd.ntmps40
  go_wp2
  refine wp_loop_rounds 5 ?_
  rw [rounds_succ]
  go_wp2
  rw [rounds_succ]
  go_wp2
  rw [rounds_succ]
  go_wp2
  rw [rounds_succ]
  go_wp2
  rw [rounds_succ]
  go_wp2
  go_ret
  exact ⟨rfl, rfl⟩

/-- the numbers of a key -/
def beginV (a b : BitVec 64) : V4 := ⟨a ^^^ 0x736f6d6570736575#64, b ^^^ 0x646f72616e646f6d#64, a ^^^ 0x6c7967656e657261#64, b ^^^ 0x7465646279746573#64⟩

set_option maxRecDepth 100000 in
set_option maxHeartbeats 2000000 in
theorem begin_any (a b : BitVec 64) (n T : Nat) (w : World) (hb : w.heap[n]? = some (.cells #[.int .u64 8317987319222330741, .int .u64 7237128888997146477, .int .u64 7816392313619706465, .int .u64 8387220255154660723] T (0, 0))) :
    Calls Tryd.prog 36 #[.agg #[.int .u64 (un a), .int .u64 (un b)], .slice (some ⟨n, 0, none⟩) 4 4] w fun e w' => e = .returned (vs (beginV a b)) ∧ Below w.heap.size w w' := by
  have hn : n < w.heap.size := (Array.getElem?_eq_some_iff.1 hb).1
  have c0 : w.cell? ⟨n, 0, none⟩ = some (.int .u64 8317987319222330741) := by simp [World.cell?, hb]
  have c1 : w.cell? ⟨n, 1, none⟩ = some (.int .u64 7237128888997146477) := by simp [World.cell?, hb]
  have c2 : w.cell? ⟨n, 2, none⟩ = some (.int .u64 7816392313619706465) := by simp [World.cell?, hb]
  have c3 : w.cell? ⟨n, 3, none⟩ = some (.int .u64 8387220255154660723) := by simp [World.cell?, hb]
  have hn1 : n < w.heap.size + 1 := by omega
  have hn2 : n < w.heap.size + 1 + 1 := by omega
  have hn3 : n < w.heap.size + 1 + 1 + 1 := by omega
  clear hb
  go_enter Tryd.func36, Tryd.ntmps36
  go_wp2
  refine wp_loop_rounds 5 ?_
  rw [rounds_succ]
  go_wp2
  rw [rounds_succ]
  go_wp2
  rw [rounds_succ]
  go_wp2
  rw [rounds_succ]
  go_wp2
  rw [rounds_succ]
  go_wp2
  refine bodyPost_ret (v := vs (beginV a b)) (by simp [results, Tryd.results36, go_sem, beginV]) rfl ⟨rfl, ?_⟩
  exact ((((Below.refl _ _).alloc (Nat.le_refl _) _).alloc (by simp) _).alloc (by simp; omega) _).alloc (by simp; omega) _
end Go.Proofs.YthhoikcknfbclaaDoor
