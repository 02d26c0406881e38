/- A part of the proof of TopCounts. -/
import Derived.Test.YtmgdbfmlnmahpaaGreatDoorG33
namespace Go.Proofs.YtmgdbfmlnmahpaaGreatDoor
open Go.RowKit
attribute [local go_sem] wrap_add wrap_sub bits_xor bits_or bits_and wrap_shl div_shr wrap_un_id eq_un
theorem cat_size (c : UInt8) (s : ByteArray) : ((⟨#[c]⟩ : ByteArray) ++ s).size = s.size + 1 := by
  rw [ByteArray.size_append, Nat.add_comm]; rfl
def childA (a b : BitVec 64) (l : List UInt8) : BitVec 64 := sipSum a b (0 :: l)
def childB (a b : BitVec 64) (l : List UInt8) : BitVec 64 := sipSum a b (1 :: l)
set_option maxRecDepth 100000 in
set_option maxHeartbeats 1000000 in
theorem child_any (a b : BitVec 64) (s : ByteArray) (hs : s.size ≤ 100000) (w : World) :
    Calls Tryz.prog 26 #[kv a b, .string s] w fun e w' => e = .returned (kv (childA a b s.data.toList) (childB a b s.data.toList)) ∧ Below w.heap.size w w' := by
  go_enter Tryz.func26, Tryz.ntmps26
  go_wp2
  have hB0 : Below w.heap.size w ((w.alloc (Obj.cells #[Value.int IntKind.u64 (un a), Value.int IntKind.u64 (un b)] 24)).alloc (Obj.cells #[Value.int IntKind.u64 0, Value.int IntKind.u64 0] 24)) := ((Below.refl _ _).alloc (Nat.le_refl _) _).alloc (by simp) _
  have hz0 : ((w.alloc (Obj.cells #[Value.int IntKind.u64 (un a), Value.int IntKind.u64 (un b)] 24)).alloc (Obj.cells #[Value.int IntKind.u64 0, Value.int IntKind.u64 0] 24)).heap.size = w.heap.size + 2 := by simp
  have c0 := Cw.cell (w := (w.alloc (Obj.cells #[Value.int IntKind.u64 (un a), Value.int IntKind.u64 (un b)] 24)).alloc (Obj.cells #[Value.int IntKind.u64 0, Value.int IntKind.u64 0] 24)) w.heap.size 0 (.int .u64 (un a)) (by rw [hz0]; omega) (by go_simp)
  have c1 := Cw.cell (w := (w.alloc (Obj.cells #[Value.int IntKind.u64 (un a), Value.int IntKind.u64 (un b)] 24)).alloc (Obj.cells #[Value.int IntKind.u64 0, Value.int IntKind.u64 0] 24)) w.heap.size 1 (.int .u64 (un b)) (by rw [hz0]; omega) (by go_simp)
  have d0 := Cw.cell (w := (w.alloc (Obj.cells #[Value.int IntKind.u64 (un a), Value.int IntKind.u64 (un b)] 24)).alloc (Obj.cells #[Value.int IntKind.u64 0, Value.int IntKind.u64 0] 24)) (w.heap.size + 1) 0 (.int .u64 0) (by rw [hz0]; omega) (by go_simp)
  have d1 := Cw.cell (w := (w.alloc (Obj.cells #[Value.int IntKind.u64 (un a), Value.int IntKind.u64 (un b)] 24)).alloc (Obj.cells #[Value.int IntKind.u64 0, Value.int IntKind.u64 0] 24)) (w.heap.size + 1) 1 (.int .u64 0) (by rw [hz0]; omega) (by go_simp)
  have f0 := Cw.frozen (w := (w.alloc (Obj.cells #[Value.int IntKind.u64 (un a), Value.int IntKind.u64 (un b)] 24)).alloc (Obj.cells #[Value.int IntKind.u64 0, Value.int IntKind.u64 0] 24)) (w.heap.size + 1) 0 (by rw [hz0]; omega) (by go_simp)
  have f1 := Cw.frozen (w := (w.alloc (Obj.cells #[Value.int IntKind.u64 (un a), Value.int IntKind.u64 (un b)] 24)).alloc (Obj.cells #[Value.int IntKind.u64 0, Value.int IntKind.u64 0] 24)) (w.heap.size + 1) 1 (by rw [hz0]; omega) (by go_simp)
  have hz1 : w.heap.size ≤ ((w.alloc (Obj.cells #[Value.int IntKind.u64 (un a), Value.int IntKind.u64 (un b)] 24)).alloc (Obj.cells #[Value.int IntKind.u64 0, Value.int IntKind.u64 0] 24)).heap.size := hB0.size
  clear hz0
  generalize (w.alloc (Obj.cells #[Value.int IntKind.u64 (un a), Value.int IntKind.u64 (un b)] 24)).alloc (Obj.cells #[Value.int IntKind.u64 0, Value.int IntKind.u64 0] 24) = w0 at *
  refine region_cw_tail 9 (by kernel_rfl) (by kernel_rfl) ?_
  simp only [List.take_succ_cons, List.take_zero, List.drop_succ_cons, List.drop_zero]
  repeat (first | go_big_quiet_step ((go_at_call 41; exact Cw.call (sum_any _ _ _ (by rw [cat_size]; omega) _))) | quiet_step ((go_at_call 41; exact Cw.call (sum_any _ _ _ (by rw [cat_size]; omega) _))))
  refine wpQuiet_nil ?_
  intro x
  have hx : Below w.heap.size w x.W := hB0.trans (x.below.mono hz1)
  have e0 := c0 x
  have e1 := c1 x
  have g0 := d0 x
  have g1 := d1 x
  have j0 := f0 x
  have j1 := f1 x
  clear c0 c1 d0 d1 f0 f1
  generalize x.W = W at *
  go_wp2
  refine bodyPost_ret (v := kv (childA a b s.data.toList) (childB a b s.data.toList)) (by simp [results, Tryz.results26, go_sem, childA, childB, g0, g1]) rfl ⟨rfl, ?_⟩
  exact (hx.setCell (p := ⟨w.heap.size + 1, 0, none⟩) (by simp) _).setCell (p := ⟨w.heap.size + 1, 1, none⟩) (by simp) _
end Go.Proofs.YtmgdbfmlnmahpaaGreatDoor
