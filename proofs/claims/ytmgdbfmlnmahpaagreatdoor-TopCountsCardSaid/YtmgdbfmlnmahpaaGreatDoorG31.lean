/- A part of the proof of TopCounts. -/
import Derived.Test.YtmgdbfmlnmahpaaGreatDoorProg
import Derived.Test.YtmgdbfmlnmahpaaGreatDoorG02
import Derived.WalkKit
import Derived.WalkLawsBesides
import Derived.WalkSpells
import Derived.Outline
import Derived.Test.YtmgdbfmlnmahpaaGreatDoorG03
import Derived.LoopTactic
import Derived.RangeFuncBox
import Derived.Lib.Hide
import Derived.RegionTactic
namespace Go.Proofs.YtmgdbfmlnmahpaaGreatDoor
open Go.RowKit
attribute [local go_sem] wrap_add wrap_sub bits_xor bits_or bits_and wrap_shl div_shr
theorem region_tail {P : Program} {id : Nat} {Q : Exit → Act → World → Prop} {a : Act} {w : World} {l : List Oper} (n : Nat) (hm : P.follows .mixedOrders = true) (hB : Region.lexTailB .any l.toArray n = true)
    (h : wpStill P l.toArray w.drew (fun a' => wpList P l.toArray Q (l.drop n) a' w.drew) (l.take n) a) : (Code.region id l.toArray true).wp P Q a w :=
  wp_region_still_tail n hm hB h
set_option maxHeartbeats 400000 in
theorem rot_any (x : BitVec 64) (k : Int) (h0 : 0 < k) (h1 : k < 64) (w : World) :
    Calls Tryz.prog 140 #[.int .u64 (un x), .int .i64 k] w fun e w' => e = .returned (.int .u64 (un (rotl x k.toNat))) ∧ w' = w := by
  obtain ⟨k, rfl⟩ := Int.eq_ofNat_of_zero_le (Int.le_of_lt h0)
  have hb : bits .and .u64 (k : Int) 63 = k := by
    rw [show (63 : Int) = ((63 : Nat) : Int) from rfl, u64_and_nat _ _ (by omega) (by omega)]
    rw [show (63 : Nat) = 2 ^ 6 - 1 from rfl, Nat.and_two_pow_sub_one_eq_mod, Nat.mod_eq_of_lt (by omega)]
  go_enter Tryz.func140, Tryz.ntmps140
  go_wp2
  go_ret
  exact ⟨rfl, rfl⟩
abbrev vs (v : V4) : Value := .agg #[.int .u64 (un v.a), .int .u64 (un v.b), .int .u64 (un v.c), .int .u64 (un v.d)]
set_option maxRecDepth 100000 in
set_option maxHeartbeats 2000000 in
theorem sipRound_any (v : V4) (w : World) :
    Calls Tryz.prog 97 #[vs v] w fun e w' => e = .returned (vs (rnd v)) ∧ Below w.heap.size w w' := by
  obtain ⟨a, b, c, d⟩ := v
  go_enter Tryz.func97, Tryz.ntmps97
  go_wp2_with (go_at_call 140; refine (rot_any _ _ (by omega) (by omega) _).mono ?_; rintro e w' ⟨rfl, rfl⟩)
  refine region_tail 7 (by kernel_rfl) (by kernel_rfl) ?_
  simp only [List.take_succ_cons, List.take_zero, List.drop_succ_cons, List.drop_zero]
  repeat (first | still_step | still_call (rot_any _ _ (by omega) (by omega) _))
  refine wpStill_nil ?_
  go_wp2_with (go_at_call 140; refine (rot_any _ _ (by omega) (by omega) _).mono ?_; rintro e w' ⟨rfl, rfl⟩)
  refine region_tail 7 (by kernel_rfl) (by kernel_rfl) ?_
  simp only [List.take_succ_cons, List.take_zero, List.drop_succ_cons, List.drop_zero]
  repeat (first | still_step | still_call (rot_any _ _ (by omega) (by omega) _))
  refine wpStill_nil ?_
  go_wp2_with (go_at_call 140; refine (rot_any _ _ (by omega) (by omega) _).mono ?_; rintro e w' ⟨rfl, rfl⟩)
  refine region_tail 7 (by kernel_rfl) (by kernel_rfl) ?_
  simp only [List.take_succ_cons, List.take_zero, List.drop_succ_cons, List.drop_zero]
  repeat (first | still_step | still_call (rot_any _ _ (by omega) (by omega) _))
  refine wpStill_nil ?_
  go_wp2_with (go_at_call 140; refine (rot_any _ _ (by omega) (by omega) _).mono ?_; rintro e w' ⟨rfl, rfl⟩)
  refine region_tail 7 (by kernel_rfl) (by kernel_rfl) ?_
  simp only [List.take_succ_cons, List.take_zero, List.drop_succ_cons, List.drop_zero]
  repeat (first | still_step | still_call (rot_any _ _ (by omega) (by omega) _))
  refine wpStill_nil ?_
  go_wp2_with (go_at_call 140; refine (rot_any _ _ (by omega) (by omega) _).mono ?_; rintro e w' ⟨rfl, rfl⟩)
  refine bodyPost_ret (v := vs (rnd ⟨a, b, c, d⟩)) (by simp [results, Tryz.results97, go_sem, rnd]) rfl ⟨rfl, ?_⟩
  repeat refine Below.drew ?_
  exact ((Below.refl _ _).alloc (Nat.le_refl _) _).alloc (by simp) _
end Go.Proofs.YtmgdbfmlnmahpaaGreatDoor
namespace Go.Proofs.YtmgdbfmlnmahpaaGreatDoor
open Go.RowKit
attribute [local go_sem] wrap_add wrap_sub bits_xor bits_or bits_and wrap_shl div_shr xor_zero_un xor_c0 xor_c1 xor_c2 xor_c3 xor_ff
def Blk4 (W : World) (b : Nat) (T : TypeId) (v : V4) : Prop :=
  W.heap[b]? = some (.cells #[.int .u64 (un v.a), .int .u64 (un v.b), .int .u64 (un v.c), .int .u64 (un v.d)] T (0, 0))
section
variable {W W' : World} {b : Nat} {T : TypeId} {v : V4}
theorem Blk4.lt (h : Blk4 W b T v) : b < W.heap.size := (Array.getElem?_eq_some_iff.1 h).1
theorem Blk4.cells (h : Blk4 W b T v) : W.cell? ⟨b, 0, none⟩ = some (.int .u64 (un v.a)) ∧ W.cell? ⟨b, 1, none⟩ = some (.int .u64 (un v.b)) ∧ W.cell? ⟨b, 2, none⟩ = some (.int .u64 (un v.c)) ∧ W.cell? ⟨b, 3, none⟩ = some (.int .u64 (un v.d)) := by
  simp [World.cell?, show W.heap[b]? = _ from h]
theorem Blk4.frozen (h : Blk4 W b T v) : ∀ i, W.frozen? ⟨b, i, none⟩ = false := by
  intro i; simp [World.frozen?, show W.heap[b]? = _ from h]
theorem Blk4.kept {row : Option Nat} (h : Blk4 W b T v) (hg : W.grownBy W' row) (hne : some b ≠ row) : Blk4 W' b T v := (hg.block b h.lt hne).trans h
theorem Blk4.own {row : Option Nat} (h : Blk4 W b T v) (hg : W.grownBy W' row) (hr : ∀ r, row = some r → ∃ o : Obj, W.heap[r]? = some o ∧ o.isCells = false) : Blk4 W' b T v :=
  h.kept hg (fun e => by
    obtain ⟨o, ho, hc⟩ := hr b e.symm
    rw [show W.heap[b]? = _ from h] at ho
    cases ho
    cases hc)
theorem Blk4.others (h : Blk4 W b T v) (hg : W.grownBy W' (some b)) : KeepsOthers W W' :=
  ⟨hg.size, fun k o hk ho => (hg.block k (Array.getElem?_eq_some_iff.1 hk).1 (fun e => by
    obtain rfl : k = b := by simpa using e
    rw [show W.heap[k]? = _ from h] at hk
    cases hk
    cases ho)).trans hk⟩
theorem Blk4.below (h : Blk4 W b T v) (hg : Below W.heap.size W W') : Blk4 W' b T v := (hg.block b h.lt).trans h
theorem grownBy_of_below (hg : Below W.heap.size W W') (row : Option Nat) : W.grownBy W' row := ⟨hg.os, hg.tape, hg.output, hg.size, fun k hk _ => hg.block k hk⟩
theorem grownBy_trans {X Y Z : World} {row : Option Nat} (h : X.grownBy Y row) (k : Y.grownBy Z row) : X.grownBy Z row :=
  ⟨k.os.trans h.os, k.tape.trans h.tape, k.output.trans h.output, Nat.le_trans h.size k.size, fun i hi hne => (k.block i (Nat.lt_of_lt_of_le hi h.size) hne).trans (h.block i hi hne)⟩
theorem grownBy_set (W : World) (b o : Nat) (u : Value) : W.grownBy (W.setCell ⟨b, o, none⟩ u) (some b) :=
  ⟨rfl, rfl, rfl, by simp [World.setCell], fun k _ hk => Below.heap_setCell _ _ _ k (fun e => hk (by rw [e]))⟩
theorem grownBy_drew (W : World) (row : Option Nat) : W.grownBy W.drew row := ⟨rfl, rfl, rfl, Nat.le_refl _, fun _ _ _ => rfl⟩
theorem grownBy_set4 (W : World) (b : Nat) (x0 x1 x2 x3 : Value) :
    W.grownBy ((((W.setCell ⟨b, 0, none⟩ x0).setCell ⟨b, 1, none⟩ x1).setCell ⟨b, 2, none⟩ x2).setCell ⟨b, 3, none⟩ x3) (some b) :=
  grownBy_trans (grownBy_trans (grownBy_trans (grownBy_set W b 0 x0) (grownBy_set _ b 1 x1)) (grownBy_set _ b 2 x2)) (grownBy_set _ b 3 x3)
theorem Blk4.drew (h : Blk4 W b T v) : Blk4 W.drew b T v := h
theorem Blk4.set3 (h : Blk4 W b T v) (m : BitVec 64) : Blk4 (W.setCell ⟨b, 3, none⟩ (.int .u64 (un m))) b T ⟨v.a, v.b, v.c, m⟩ := by
  unfold Blk4 at *
  simp only [World.setCell, Array.getElem?_modify, h]
  simp
theorem Blk4.set2 (h : Blk4 W b T v) (m : BitVec 64) : Blk4 (W.setCell ⟨b, 2, none⟩ (.int .u64 (un m))) b T ⟨v.a, v.b, m, v.d⟩ := by
  unfold Blk4 at *
  simp only [World.setCell, Array.getElem?_modify, h]
  simp
theorem Blk4.set1 (h : Blk4 W b T v) (m : BitVec 64) : Blk4 (W.setCell ⟨b, 1, none⟩ (.int .u64 (un m))) b T ⟨v.a, m, v.c, v.d⟩ := by
  unfold Blk4 at *
  simp only [World.setCell, Array.getElem?_modify, h]
  simp
theorem Blk4.set0 (h : Blk4 W b T v) (m : BitVec 64) : Blk4 (W.setCell ⟨b, 0, none⟩ (.int .u64 (un m))) b T ⟨m, v.b, v.c, v.d⟩ := by
  unfold Blk4 at *
  simp only [World.setCell, Array.getElem?_modify, h]
  simp
theorem Blk4.set (h : Blk4 W b T v) (u : V4) : Blk4 ((((W.setCell ⟨b, 0, none⟩ (.int .u64 (un u.a))).setCell ⟨b, 1, none⟩ (.int .u64 (un u.b))).setCell ⟨b, 2, none⟩ (.int .u64 (un u.c))).setCell ⟨b, 3, none⟩ (.int .u64 (un u.d))) b T u := by
  unfold Blk4 at *
  simp only [World.setCell, Array.getElem?_modify, h]
  simp
end
set_option maxRecDepth 100000 in
set_option maxHeartbeats 2000000 in
theorem rounds_any (n : Int) (h0 : 0 ≤ n) (hn : n ≤ 100) (b : Nat) (T : TypeId) (v : V4) (w : World) (hb : Blk4 w b T v) :
    Calls Tryz.prog 63 #[.pointer (some ⟨b, 0, none⟩), .int .i64 n] w fun e w' => (∃ u, e = .returned u) ∧ Blk4 w' b T (Nat.repeat rnd n.toNat v) ∧ w.grownBy w' (some b) := by
  obtain ⟨n, rfl⟩ := Int.eq_ofNat_of_zero_le h0
  rw [Int.toNat_natCast]
  go_enter Tryz.func63, Tryz.ntmps63
  go_wp2
  go_loopw [5] (fun i wr => ∃ k : Nat, k ≤ n ∧ i = .int .i64 k ∧ Blk4 wr b T (Nat.repeat rnd k v) ∧ w.grownBy wr (some b)) (fun i _ => n - (intOf i).toNat)
  case atStart => exact ⟨0, Nat.zero_le _, rfl, hb, grownBy_of_below (Below.refl _ _) _⟩
  case round =>
    obtain ⟨k, hk, rfl, hB, hG⟩ := hrel
    clear hb
    by_cases hlt : k < n
    · generalize hv0 : Nat.repeat rnd k v = v0 at *
      have HV := Lib.hid hv0
      clear hv0
      obtain ⟨c0, c1, c2, c3⟩ := hB.cells
      go_wp2_with fail
      refine (sipRound_any v0 _).mono ?_
      rintro e w1 ⟨rfl, hb1⟩
      have hB1 := hB.below hb1
      have hG1 := grownBy_trans hG (grownBy_of_below hb1 (some b))
      clear c0 c1 c2 c3 hB hG hb1
      obtain ⟨c0, c1, c2, c3⟩ := hB1.cells
      have f := hB1.frozen
      go_wp2_with fail
      go_roundw
      case rel => exact ⟨k + 1, by omega, by go_num, by show Blk4 _ b T (rnd (Nat.repeat rnd k v)); rw [HV.out]; exact hB1.set _, grownBy_trans hG1 (grownBy_set4 _ _ _ _ _ _)⟩
      case measure => simp [intOf]; omega
    · go_wp2
      obtain rfl : k = n := by omega
      go_end0
      exact ⟨⟨_, rfl⟩, hB, hG⟩
def takeV (v : V4) (m : BitVec 64) : V4 :=
  let u := rnd (rnd ⟨v.a, v.b, v.c, v.d ^^^ m⟩)
  ⟨u.a ^^^ m, u.b, u.c, u.d⟩
set_option maxRecDepth 100000 in
set_option maxHeartbeats 2000000 in
theorem take_any (b : Nat) (T : TypeId) (v : V4) (m : BitVec 64) (w : World) (hb : Blk4 w b T v) :
    Calls Tryz.prog 62 #[.pointer (some ⟨b, 0, none⟩), .int .u64 (un m)] w fun e w' => (∃ u, e = .returned u) ∧ Blk4 w' b T (takeV v m) ∧ w.grownBy w' (some b) := by
  obtain ⟨c0, c1, c2, c3⟩ := hb.cells
  have f := hb.frozen
  go_enter Tryz.func62, Tryz.ntmps62
  go_wp2_with fail
  refine region_tail 10 (by kernel_rfl) (by kernel_rfl) ?_
  simp only [List.take_succ_cons, List.take_zero, List.drop_succ_cons, List.drop_zero]
  repeat still_step
  refine wpStill_nil ?_
  go_wp2_with fail
  refine (rounds_any 2 (by omega) (by omega) b T ⟨v.a, v.b, v.c, v.d ^^^ m⟩ _ (hb.set3 _).drew).mono ?_
  rintro e w1 ⟨⟨u, rfl⟩, hb1, hg1⟩
  have hg : w.grownBy w1 (some b) := grownBy_trans (grownBy_trans (grownBy_set w b 3 _) (grownBy_drew _ _)) hg1
  clear c0 c1 c2 c3 f hb hg1
  have hv : Nat.repeat rnd (2 : Int).toNat ⟨v.a, v.b, v.c, v.d ^^^ m⟩ = rnd (rnd ⟨v.a, v.b, v.c, v.d ^^^ m⟩) := rfl
  rw [hv] at hb1
  clear hv
  have HT : Hid (takeV v m = ⟨(rnd (rnd ⟨v.a, v.b, v.c, v.d ^^^ m⟩)).a ^^^ m, (rnd (rnd ⟨v.a, v.b, v.c, v.d ^^^ m⟩)).b, (rnd (rnd ⟨v.a, v.b, v.c, v.d ^^^ m⟩)).c, (rnd (rnd ⟨v.a, v.b, v.c, v.d ^^^ m⟩)).d⟩) := rfl
  generalize rnd (rnd ⟨v.a, v.b, v.c, v.d ^^^ m⟩) = r at *
  obtain ⟨c0, c1, c2, c3⟩ := hb1.cells
  have f := hb1.frozen
  go_wp2_with fail
  refine region_tail 10 (by kernel_rfl) (by kernel_rfl) ?_
  simp only [List.take_succ_cons, List.take_zero, List.drop_succ_cons, List.drop_zero]
  repeat still_step
  refine wpStill_nil ?_
  go_wp2_with fail
  go_end0
  exact ⟨⟨_, rfl⟩, by rw [HT.out]; exact (hb1.set0 _).drew, grownBy_trans (grownBy_trans hg (grownBy_set w1 b 0 _)) (grownBy_drew _ _)⟩
set_option maxRecDepth 100000 in
set_option maxHeartbeats 2000000 in
theorem mixed_any (b : Nat) (T : TypeId) (v : V4) (w : World) (hb : Blk4 w b T v) :
    Calls Tryz.prog 64 #[.slice (some ⟨b, 0, none⟩) 4 4] w fun e w' => e = .returned (.int .u64 (un (v.a ^^^ v.b ^^^ v.c ^^^ v.d))) ∧ w' = w := by
  obtain ⟨c0, c1, c2, c3⟩ := hb.cells
  go_enter Tryz.func64, Tryz.ntmps64
  go_wp2
  refine wp_loop_rounds 5 ?_
  rw [rounds_succ]
  go_wp2
  rw [rounds_succ]
  go_wp2
  rw [rounds_succ]
  go_wp2
  rw [rounds_succ]
  go_wp2
  rw [rounds_succ]
  go_wp2
  go_ret
  exact ⟨rfl, rfl⟩
def beginV (a b : BitVec 64) : V4 := ⟨a ^^^ 0x736f6d6570736575#64, b ^^^ 0x646f72616e646f6d#64, a ^^^ 0x6c7967656e657261#64, b ^^^ 0x7465646279746573#64⟩
set_option maxRecDepth 100000 in
set_option maxHeartbeats 2000000 in
theorem begin_any (a b : BitVec 64) (n T : Nat) (w : World) (hb : w.heap[n]? = some (.cells #[.int .u64 8317987319222330741, .int .u64 7237128888997146477, .int .u64 7816392313619706465, .int .u64 8387220255154660723] T (0, 0))) :
    Calls Tryz.prog 60 #[.agg #[.int .u64 (un a), .int .u64 (un b)], .slice (some ⟨n, 0, none⟩) 4 4] w fun e w' => e = .returned (vs (beginV a b)) ∧ Below w.heap.size w w' := by
  have hn : n < w.heap.size := (Array.getElem?_eq_some_iff.1 hb).1
  have c0 : w.cell? ⟨n, 0, none⟩ = some (.int .u64 8317987319222330741) := by simp [World.cell?, hb]
  have c1 : w.cell? ⟨n, 1, none⟩ = some (.int .u64 7237128888997146477) := by simp [World.cell?, hb]
  have c2 : w.cell? ⟨n, 2, none⟩ = some (.int .u64 7816392313619706465) := by simp [World.cell?, hb]
  have c3 : w.cell? ⟨n, 3, none⟩ = some (.int .u64 8387220255154660723) := by simp [World.cell?, hb]
  have hn1 : n < w.heap.size + 1 := by omega
  have hn2 : n < w.heap.size + 1 + 1 := by omega
  have hn3 : n < w.heap.size + 1 + 1 + 1 := by omega
  clear hb
  go_enter Tryz.func60, Tryz.ntmps60
  go_wp2
  refine wp_loop_rounds 5 ?_
  rw [rounds_succ]
  go_wp2
  rw [rounds_succ]
  go_wp2
  rw [rounds_succ]
  go_wp2
  rw [rounds_succ]
  go_wp2
  rw [rounds_succ]
  go_wp2
  refine bodyPost_ret (v := vs (beginV a b)) (by simp [results, Tryz.results60, go_sem, beginV]) rfl ⟨rfl, ?_⟩
  exact ((((Below.refl _ _).alloc (Nat.le_refl _) _).alloc (by simp) _).alloc (by simp; omega) _).alloc (by simp; omega) _
end Go.Proofs.YtmgdbfmlnmahpaaGreatDoor
namespace Go.Proofs.YtmgdbfmlnmahpaaGreatDoor
def le : List UInt8 → Nat
  | [] => 0
  | b :: l => b.toNat + 256 * le l
theorem le_lt (l : List UInt8) : le l < 256 ^ l.length := by
  induction l with
  | nil => simp [le]
  | cons b l ih =>
    have hb := b.toNat_lt
    simp only [le, List.length_cons, Nat.pow_succ]
    omega
theorem le_append (l m : List UInt8) : le (l ++ m) = le l + 256 ^ l.length * le m := by
  induction l with
  | nil => simp [le]
  | cons b l ih =>
    simp only [List.cons_append, le, List.length_cons, ih, Nat.pow_succ]
    rw [Nat.mul_add, ← Nat.mul_assoc, Nat.mul_comm 256 (256 ^ l.length)]
    omega
def num (l : List UInt8) : BitVec 64 := BitVec.ofNat 64 (le l)
theorem num_or (l : List UInt8) (b : BitVec 64) : num l ||| b <<< (8 * l.length) = num l + b <<< (8 * l.length) := by
  have hl := le_lt l
  have e : (256 : Nat) ^ l.length = 2 ^ (8 * l.length) := by
    rw [Nat.pow_mul]
  symm
  apply BitVec.add_eq_or_of_and_eq_zero
  apply BitVec.eq_of_getLsbD_eq
  intro i hi
  simp only [BitVec.getLsbD_and, BitVec.getLsbD_shiftLeft, num, BitVec.getLsbD_ofNat]
  by_cases h1 : i < 8 * l.length
  · simp [h1]
  · have : (le l).testBit i = false := Nat.testBit_lt_two_pow (by
      calc le l < 2 ^ (8 * l.length) := by rw [← e]; exact hl
        _ ≤ 2 ^ i := Nat.pow_le_pow_right (by omega) (by omega))
    simp [this]
theorem num_snoc_add (l : List UInt8) (c : UInt8) : num (l ++ [c]) = num l + (BitVec.ofNat 64 c.toNat) <<< (8 * l.length) := by
  have e : (256 : Nat) ^ l.length = 2 ^ (8 * l.length) := by
    rw [Nat.pow_mul]
  unfold num
  rw [le_append]
  simp only [le, Nat.mul_zero, Nat.add_zero]
  apply BitVec.eq_of_toNat_eq
  simp only [BitVec.toNat_ofNat, BitVec.toNat_add, BitVec.toNat_shiftLeft, Nat.shiftLeft_eq]
  rw [e, Nat.mul_comm (2 ^ (8 * l.length)) c.toNat]
  have h2 : c.toNat % 2 ^ 64 = c.toNat := Nat.mod_eq_of_lt (Nat.lt_of_lt_of_le c.toNat_lt (by decide))
  rw [h2, Nat.add_mod]
theorem num_snoc (l : List UInt8) (c : UInt8) : num (l ++ [c]) = num l ||| (BitVec.ofNat 64 c.toNat) <<< (8 * l.length) := by
  rw [num_or, num_snoc_add]
def blk (l : List UInt8) (i : Nat) : BitVec 64 := num ((l.drop (8 * i)).take 8)
def endBlk (l : List UInt8) : BitVec 64 := num (l.drop (8 * (l.length / 8))) ||| (BitVec.ofNat 64 l.length) <<< 56
def msgs (l : List UInt8) : List (BitVec 64) := (List.range (l.length / 8)).map (blk l) ++ [endBlk l]
def padN (n : Nat) : Nat := 7 - n % 8
def padded (l : List UInt8) : List UInt8 := l ++ List.replicate (padN l.length) 0 ++ [UInt8.ofNat l.length]
theorem padded_length (l : List UInt8) : (padded l).length = 8 * (l.length / 8 + 1) := by
  simp only [padded, padN, List.length_append, List.length_replicate, List.length_cons, List.length_nil]
  omega
theorem le_replicate (k : Nat) : le (List.replicate k 0) = 0 := by
  induction k with
  | zero => rfl
  | succ k ih => simp [List.replicate_succ, le, ih]
theorem blk_padded (l : List UInt8) (i : Nat) (h : i < l.length / 8) : blk (padded l) i = blk l i := by
  unfold blk padded
  rw [List.append_assoc, List.drop_append_of_le_length (by omega), List.take_append_of_le_length (by simp; omega)]
theorem shl_nat (n : Nat) : ((BitVec.ofNat 64 n) <<< 56).toNat = n % 256 * 2 ^ 56 := by
  simp only [BitVec.toNat_shiftLeft, BitVec.toNat_ofNat, Nat.shiftLeft_eq]
  rw [show (2 : Nat) ^ 64 = 256 * 2 ^ 56 from rfl, Nat.mul_mod_mul_right]
  rw [Nat.mod_mul_right_mod]
theorem shl_len (n : Nat) : (BitVec.ofNat 64 (UInt8.ofNat n).toNat) <<< (8 * 7) = (BitVec.ofNat 64 n) <<< 56 := by
  apply BitVec.eq_of_toNat_eq
  show ((BitVec.ofNat 64 (UInt8.ofNat n).toNat) <<< 56).toNat = _
  rw [shl_nat, shl_nat]
  simp
theorem blk_padded_end (l : List UInt8) : blk (padded l) (l.length / 8) = endBlk l := by
  have hd : (l.drop (8 * (l.length / 8))).length = l.length % 8 := by simp; omega
  have e : ((padded l).drop (8 * (l.length / 8))).take 8 = l.drop (8 * (l.length / 8)) ++ List.replicate (padN l.length) 0 ++ [UInt8.ofNat l.length] := by
    rw [List.take_of_length_le (by rw [List.length_drop, padded_length]; omega)]
    unfold padded
    rw [List.append_assoc, List.drop_append_of_le_length (by omega), ← List.append_assoc]
  unfold blk endBlk
  rw [e, num_snoc]
  have e2 : num (l.drop (8 * (l.length / 8)) ++ List.replicate (padN l.length) 0) = num (l.drop (8 * (l.length / 8))) := by
    unfold num
    rw [le_append, le_replicate]
    simp
  have e3 : (l.drop (8 * (l.length / 8)) ++ List.replicate (padN l.length) (0 : UInt8)).length = 7 := by
    rw [List.length_append, hd, List.length_replicate]
    unfold padN
    omega
  rw [e2, e3, shl_len]
theorem msgs_padded (l : List UInt8) : (List.range (l.length / 8 + 1)).map (blk (padded l)) = msgs l := by
  unfold msgs
  rw [List.range_succ, List.map_append]
  congr 1
  · exact List.map_congr_left fun i hi => blk_padded l i (by simpa using hi)
  · simp [blk_padded_end]
def evs (l : List UInt8) : List (BitVec 64 × Bool) := (List.range (l.length / 8)).map (fun i => (blk l i, false)) ++ [(endBlk l, true)]
def evsTo (l : List UInt8) (k : Nat) : List (BitVec 64 × Bool) := (List.range k).map (fun i => (blk l i, false))
theorem evsTo_zero (l : List UInt8) : evsTo l 0 = [] := rfl
theorem evsTo_succ (l : List UInt8) (k : Nat) : evsTo l (k + 1) = evsTo l k ++ [(blk l k, false)] := by
  simp [evsTo, List.range_succ]
theorem evsTo_length (l : List UInt8) (k : Nat) : (evsTo l k).length = k := by simp [evsTo]
theorem evs_eq (l : List UInt8) : evs l = evsTo l (l.length / 8) ++ [(endBlk l, true)] := rfl
theorem evsTo_prefix (l : List UInt8) (k : Nat) (h : k ≤ l.length / 8) : evsTo l k <+: evs l := by
  refine ⟨(evs l).drop k, ?_⟩
  have e : evsTo l k = (evs l).take k := by
    rw [evs_eq, List.take_append_of_le_length (by rw [evsTo_length]; exact h)]
    unfold evsTo
    rw [← List.map_take, List.take_range, Nat.min_eq_left h]
  rw [e, List.take_append_drop]
theorem evs_whole (l : List UInt8) (p : List (BitVec 64 × Bool)) (x : BitVec 64 × Bool) (h : p ++ [x] <+: evs l) (hx : x.2 = true) : p ++ [x] = evs l := by
  obtain ⟨r, hr⟩ := h
  rw [evs_eq] at hr ⊢
  rcases List.eq_nil_or_concat r with rfl | ⟨r', y, rfl⟩
  · rw [List.append_nil] at hr; exact hr
  · have h2 : p ++ [x] ++ r' = evsTo l (l.length / 8) := by
      rw [List.concat_eq_append, ← List.append_assoc] at hr
      exact (List.append_inj' hr rfl).1
    have h3 : x ∈ evsTo l (l.length / 8) := by rw [← h2]; simp
    simp only [evsTo, List.mem_map] at h3
    obtain ⟨i, _, rfl⟩ := h3
    simp at hx
theorem evs_fst (l : List UInt8) : (evs l).map Prod.fst = msgs l := by
  simp [evs, msgs, List.map_map, Function.comp_def]
end Go.Proofs.YtmgdbfmlnmahpaaGreatDoor
