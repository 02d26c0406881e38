/- The small functions of chapter 01 and of its statements, walked: Known, Same, cut, Child, shown. -/
import Derived.Test.YtddggjimggikpaaRefSum
import Derived.Test.YtddggjimggikpaaEq
namespace Go.Proofs.Ytddggjimggikpaa
open Go.RowKit

attribute [local go_sem] wrap_add wrap_sub bits_xor bits_or bits_and wrap_shl div_shr wrap_un_id eq_un

/-- a key as a value -/
abbrev kv (a b : BitVec 64) : Value := .agg #[.int .u64 (un a), .int .u64 (un b)]

set_option maxHeartbeats 400000 in
theorem known_any (w : World) :
    Calls Try.prog 20 #[] w fun e w' => e = .returned (kv 0x0706050403020100#64 0x0f0e0d0c0b0a0908#64) ∧ Below w.heap.size w w' := by
  go_enter Try.func20, Try.ntmps20
  go_wp2
  exact bodyPost_ret (v := kv 0x0706050403020100#64 0x0f0e0d0c0b0a0908#64) (by simp [results, Try.results20, go_sem]; decide) rfl ⟨rfl, (Below.refl _ _).alloc (Nat.le_refl _) _⟩

set_option maxHeartbeats 400000 in
theorem same_any (x y : Int) (w : World) :
    Calls Try.prog 16 #[.int .u64 x, .int .u64 y] w fun e w' => e = .returned (.bool (x == y)) ∧ w' = w := by
  go_enter Try.func16, Try.ntmps16
  go_wp2
  go_ret
  exact ⟨rfl, rfl⟩

/-- the first three hundred bytes -/
def cutS (s : ByteArray) : ByteArray := if 300 < s.size then s.extract 0 300 else s
theorem cutS_size (s : ByteArray) : (cutS s).size ≤ 300 := by
  unfold cutS
  split
  · simp; omega
  · omega

set_option maxHeartbeats 400000 in
theorem cut_any (s : ByteArray) (hs : s.size ≤ 9223372036854775807) (w : World) :
    Calls Try.prog 12 #[.string s] w fun e w' => e = .returned (.string (cutS s)) ∧ w' = w := by
  unfold cutS
  by_cases h : 300 < s.size
  · rw [if_pos h]
    go_enter Try.func12, Try.ntmps12
    go_wp2
    go_ret
    exact ⟨rfl, rfl⟩
  · rw [if_neg h]
    go_enter Try.func12, Try.ntmps12
    go_wp2
    go_ret
    exact ⟨rfl, rfl⟩

theorem cat_size (c : UInt8) (s : ByteArray) : ((⟨#[c]⟩ : ByteArray) ++ s).size = s.size + 1 := by
  rw [ByteArray.size_append, Nat.add_comm]; rfl

/-- a child's halves -/
def childA (a b : BitVec 64) (l : List UInt8) : BitVec 64 := sipSum a b (0 :: l)
def childB (a b : BitVec 64) (l : List UInt8) : BitVec 64 := sipSum a b (1 :: l)

set_option maxRecDepth 100000 in
set_option maxHeartbeats 1000000 in
theorem child_any (a b : BitVec 64) (s : ByteArray) (hs : s.size ≤ 100000) (w : World) :
    Calls Try.prog 18 #[kv a b, .string s] w fun e w' => e = .returned (kv (childA a b s.data.toList) (childB a b s.data.toList)) ∧ Below w.heap.size w w' := by
  go_enter Try.func18, Try.ntmps18
  go_wp2
  have hB0 : Below w.heap.size w ((w.alloc (Obj.cells #[Value.int IntKind.u64 (un a), Value.int IntKind.u64 (un b)] 24)).alloc (Obj.cells #[Value.int IntKind.u64 0, Value.int IntKind.u64 0] 24)) := ((Below.refl _ _).alloc (Nat.le_refl _) _).alloc (by simp) _
  have hz0 : ((w.alloc (Obj.cells #[Value.int IntKind.u64 (un a), Value.int IntKind.u64 (un b)] 24)).alloc (Obj.cells #[Value.int IntKind.u64 0, Value.int IntKind.u64 0] 24)).heap.size = w.heap.size + 2 := by simp
  have c0 := Cw.cell (w := (w.alloc (Obj.cells #[Value.int IntKind.u64 (un a), Value.int IntKind.u64 (un b)] 24)).alloc (Obj.cells #[Value.int IntKind.u64 0, Value.int IntKind.u64 0] 24)) w.heap.size 0 (.int .u64 (un a)) (by rw [hz0]; omega) (by go_simp)
  have c1 := Cw.cell (w := (w.alloc (Obj.cells #[Value.int IntKind.u64 (un a), Value.int IntKind.u64 (un b)] 24)).alloc (Obj.cells #[Value.int IntKind.u64 0, Value.int IntKind.u64 0] 24)) w.heap.size 1 (.int .u64 (un b)) (by rw [hz0]; omega) (by go_simp)
  have d0 := Cw.cell (w := (w.alloc (Obj.cells #[Value.int IntKind.u64 (un a), Value.int IntKind.u64 (un b)] 24)).alloc (Obj.cells #[Value.int IntKind.u64 0, Value.int IntKind.u64 0] 24)) (w.heap.size + 1) 0 (.int .u64 0) (by rw [hz0]; omega) (by go_simp)
  have d1 := Cw.cell (w := (w.alloc (Obj.cells #[Value.int IntKind.u64 (un a), Value.int IntKind.u64 (un b)] 24)).alloc (Obj.cells #[Value.int IntKind.u64 0, Value.int IntKind.u64 0] 24)) (w.heap.size + 1) 1 (.int .u64 0) (by rw [hz0]; omega) (by go_simp)
  have f0 := Cw.frozen (w := (w.alloc (Obj.cells #[Value.int IntKind.u64 (un a), Value.int IntKind.u64 (un b)] 24)).alloc (Obj.cells #[Value.int IntKind.u64 0, Value.int IntKind.u64 0] 24)) (w.heap.size + 1) 0 (by rw [hz0]; omega) (by go_simp)
  have f1 := Cw.frozen (w := (w.alloc (Obj.cells #[Value.int IntKind.u64 (un a), Value.int IntKind.u64 (un b)] 24)).alloc (Obj.cells #[Value.int IntKind.u64 0, Value.int IntKind.u64 0] 24)) (w.heap.size + 1) 1 (by rw [hz0]; omega) (by go_simp)
  have hz1 : w.heap.size ≤ ((w.alloc (Obj.cells #[Value.int IntKind.u64 (un a), Value.int IntKind.u64 (un b)] 24)).alloc (Obj.cells #[Value.int IntKind.u64 0, Value.int IntKind.u64 0] 24)).heap.size := hB0.size
  clear hz0
  generalize (w.alloc (Obj.cells #[Value.int IntKind.u64 (un a), Value.int IntKind.u64 (un b)] 24)).alloc (Obj.cells #[Value.int IntKind.u64 0, Value.int IntKind.u64 0] 24) = w0 at *
  refine region_cw_tail 9 (by kernel_rfl) (by kernel_rfl) ?_
  simp only [List.take_succ_cons, List.take_zero, List.drop_succ_cons, List.drop_zero]
  repeat (first | go_big_quiet_step ((go_at_call 11; exact Cw.call (sum_any _ _ _ (by rw [cat_size]; omega) _))) | quiet_step ((go_at_call 11; exact Cw.call (sum_any _ _ _ (by rw [cat_size]; omega) _))))
  refine wpQuiet_nil ?_
  intro x
  have hx : Below w.heap.size w x.W := hB0.trans (x.below.mono hz1)
  have e0 := c0 x
  have e1 := c1 x
  have g0 := d0 x
  have g1 := d1 x
  have j0 := f0 x
  have j1 := f1 x
  clear c0 c1 d0 d1 f0 f1
  generalize x.W = W at *
  go_wp2
  refine bodyPost_ret (v := kv (childA a b s.data.toList) (childB a b s.data.toList)) (by simp [results, Try.results18, go_sem, childA, childB, g0, g1]) rfl ⟨rfl, ?_⟩
  exact (hx.setCell (p := ⟨w.heap.size + 1, 0, none⟩) (by simp) _).setCell (p := ⟨w.heap.size + 1, 1, none⟩) (by simp) _
set_option maxRecDepth 100000 in
set_option maxHeartbeats 1000000 in
theorem refChild_any (a b : BitVec 64) (s : ByteArray) (hs : s.size ≤ 100000) (w : World) :
    Calls Try.prog 19 #[kv a b, .string s] w fun e w' => e = .returned (kv (childA a b s.data.toList) (childB a b s.data.toList)) ∧ Below w.heap.size w w' := by
  go_enter Try.func19, Try.ntmps19
  go_wp2
  have hB0 : Below w.heap.size w ((w.alloc (Obj.cells #[Value.int IntKind.u64 (un a), Value.int IntKind.u64 (un b)] 24)).alloc (Obj.cells #[Value.int IntKind.u64 0, Value.int IntKind.u64 0] 24)) := ((Below.refl _ _).alloc (Nat.le_refl _) _).alloc (by simp) _
  have hz0 : ((w.alloc (Obj.cells #[Value.int IntKind.u64 (un a), Value.int IntKind.u64 (un b)] 24)).alloc (Obj.cells #[Value.int IntKind.u64 0, Value.int IntKind.u64 0] 24)).heap.size = w.heap.size + 2 := by simp
  have c0 := Cw.cell (w := (w.alloc (Obj.cells #[Value.int IntKind.u64 (un a), Value.int IntKind.u64 (un b)] 24)).alloc (Obj.cells #[Value.int IntKind.u64 0, Value.int IntKind.u64 0] 24)) w.heap.size 0 (.int .u64 (un a)) (by rw [hz0]; omega) (by go_simp)
  have c1 := Cw.cell (w := (w.alloc (Obj.cells #[Value.int IntKind.u64 (un a), Value.int IntKind.u64 (un b)] 24)).alloc (Obj.cells #[Value.int IntKind.u64 0, Value.int IntKind.u64 0] 24)) w.heap.size 1 (.int .u64 (un b)) (by rw [hz0]; omega) (by go_simp)
  have d0 := Cw.cell (w := (w.alloc (Obj.cells #[Value.int IntKind.u64 (un a), Value.int IntKind.u64 (un b)] 24)).alloc (Obj.cells #[Value.int IntKind.u64 0, Value.int IntKind.u64 0] 24)) (w.heap.size + 1) 0 (.int .u64 0) (by rw [hz0]; omega) (by go_simp)
  have d1 := Cw.cell (w := (w.alloc (Obj.cells #[Value.int IntKind.u64 (un a), Value.int IntKind.u64 (un b)] 24)).alloc (Obj.cells #[Value.int IntKind.u64 0, Value.int IntKind.u64 0] 24)) (w.heap.size + 1) 1 (.int .u64 0) (by rw [hz0]; omega) (by go_simp)
  have f0 := Cw.frozen (w := (w.alloc (Obj.cells #[Value.int IntKind.u64 (un a), Value.int IntKind.u64 (un b)] 24)).alloc (Obj.cells #[Value.int IntKind.u64 0, Value.int IntKind.u64 0] 24)) (w.heap.size + 1) 0 (by rw [hz0]; omega) (by go_simp)
  have f1 := Cw.frozen (w := (w.alloc (Obj.cells #[Value.int IntKind.u64 (un a), Value.int IntKind.u64 (un b)] 24)).alloc (Obj.cells #[Value.int IntKind.u64 0, Value.int IntKind.u64 0] 24)) (w.heap.size + 1) 1 (by rw [hz0]; omega) (by go_simp)
  have hz1 : w.heap.size ≤ ((w.alloc (Obj.cells #[Value.int IntKind.u64 (un a), Value.int IntKind.u64 (un b)] 24)).alloc (Obj.cells #[Value.int IntKind.u64 0, Value.int IntKind.u64 0] 24)).heap.size := hB0.size
  clear hz0
  generalize (w.alloc (Obj.cells #[Value.int IntKind.u64 (un a), Value.int IntKind.u64 (un b)] 24)).alloc (Obj.cells #[Value.int IntKind.u64 0, Value.int IntKind.u64 0] 24) = w0 at *
  refine region_cw_tail 9 (by kernel_rfl) (by kernel_rfl) ?_
  simp only [List.take_succ_cons, List.take_zero, List.drop_succ_cons, List.drop_zero]
  repeat (first | go_big_quiet_step ((go_at_call 13; exact Cw.call (refSum_any _ _ _ (by rw [cat_size]; omega) _))) | quiet_step ((go_at_call 13; exact Cw.call (refSum_any _ _ _ (by rw [cat_size]; omega) _))))
  refine wpQuiet_nil ?_
  intro x
  have hx : Below w.heap.size w x.W := hB0.trans (x.below.mono hz1)
  have e0 := c0 x
  have e1 := c1 x
  have g0 := d0 x
  have g1 := d1 x
  have j0 := f0 x
  have j1 := f1 x
  clear c0 c1 d0 d1 f0 f1
  generalize x.W = W at *
  go_wp2
  refine bodyPost_ret (v := kv (childA a b s.data.toList) (childB a b s.data.toList)) (by simp [results, Try.results19, go_sem, childA, childB, g0, g1]) rfl ⟨rfl, ?_⟩
  exact (hx.setCell (p := ⟨w.heap.size + 1, 0, none⟩) (by simp) _).setCell (p := ⟨w.heap.size + 1, 1, none⟩) (by simp) _

theorem known0 : un (sipSum 0x0706050403020100#64 0x0f0e0d0c0b0a0908#64 []) = 8246050544436514353 := by decide +kernel
theorem known15 : un (sipSum 0x0706050403020100#64 0x0f0e0d0c0b0a0908#64 [0, 1, 2, 3, 4, 5, 6, 7, 8, 9, 10, 11, 12, 13, 14]) = 11613035633349379557 := by decide +kernel

set_option maxRecDepth 100000 in
set_option maxHeartbeats 1000000 in
theorem shown_any (w : World) :
    Calls Try.prog 10 #[] w fun e w' => e = .returned (.bool true) ∧ Below w.heap.size w w' := by
  go_enter Try.func10, Try.ntmps10
  go_wp2_with fail
  refine (known_any _).mono ?_
  rintro e w1 ⟨rfl, hb1⟩
  go_wp2_with fail
  refine (sum_any _ _ ⟨#[]⟩ (by decide) _).mono ?_
  rintro e w2 ⟨rfl, hb2⟩
  rw [known0]
  go_wp2_with fail
  refine (known_any _).mono ?_
  rintro e w3 ⟨rfl, hb3⟩
  go_wp2_with fail
  refine (sum_any _ _ ⟨#[0, 1, 2, 3, 4, 5, 6, 7, 8, 9, 10, 11, 12, 13, 14]⟩ (by decide) _).mono ?_
  rintro e w4 ⟨rfl, hb4⟩
  rw [known15]
  have h2 := hb1.trans (hb2.mono hb1.size)
  have h3 := h2.trans (hb3.mono h2.size)
  have h4 := h3.trans (hb4.mono h3.size)
  clear h2 h3 hb1 hb2 hb3 hb4
  go_wp2_with fail
  refine (same_any _ _ _).mono ?_
  rintro e w5 ⟨rfl, rfl⟩
  go_wp2_with fail
  refine (same_any _ _ _).mono ?_
  rintro e w6 ⟨rfl, rfl⟩
  go_wp2_with fail
  go_ret
  exact ⟨rfl, h4⟩
end Go.Proofs.Ytddggjimggikpaa
