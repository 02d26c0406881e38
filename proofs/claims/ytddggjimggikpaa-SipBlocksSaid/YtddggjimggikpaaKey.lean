/- A key's block in memory. -/
import Derived.Test.YtddggjimggikpaaSmall
import Derived.Test.YtddggjimggikpaaSpec2
namespace Go.Proofs.Ytddggjimggikpaa
open Go.RowKit

/-- block b holds a key -/
def KeyAt (W : World) (b : Nat) (x y : BitVec 64) : Prop := W.heap[b]? = some (.cells #[.int .u64 (un x), .int .u64 (un y)] 24 (0, 0))

section
variable {W W' : World} {b A : Nat} {x y : BitVec 64}
theorem KeyAt.lt (h : KeyAt W b x y) : b < W.heap.size := (Array.getElem?_eq_some_iff.1 h).1
theorem KeyAt.c0 (h : KeyAt W b x y) : W.cell? ⟨b, 0, none⟩ = some (.int .u64 (un x)) := by simp [World.cell?, show W.heap[b]? = _ from h]
theorem KeyAt.c1 (h : KeyAt W b x y) : W.cell? ⟨b, 1, none⟩ = some (.int .u64 (un y)) := by simp [World.cell?, show W.heap[b]? = _ from h]
theorem KeyAt.below (h : KeyAt W b x y) (hg : Below W.heap.size W W') : KeyAt W' b x y := (hg.block b h.lt).trans h
theorem KeyAt.box (w : World) (x y : BitVec 64) : KeyAt (w.alloc (Obj.cells #[Value.int IntKind.u64 (un x), Value.int IntKind.u64 (un y)] 24)) w.heap.size x y := World.alloc_heap_new w _
theorem KeyAt.set {p q : Value} (h : W.heap[A]? = some (.cells #[p, q] 24 (0, 0))) (x y : BitVec 64) : KeyAt ((W.setCell ⟨A, 0, none⟩ (.int .u64 (un x))).setCell ⟨A, 1, none⟩ (.int .u64 (un y))) A x y := by
  unfold KeyAt
  simp only [World.setCell, Array.getElem?_modify, h]
  simp
theorem KeyAt.other (h : KeyAt W b x y) (hne : b ≠ A) (u v : Value) : KeyAt ((W.setCell ⟨A, 0, none⟩ u).setCell ⟨A, 1, none⟩ v) b x y :=
  ((Below.heap_setCell _ _ _ b hne).trans (Below.heap_setCell _ _ _ b hne)).trans h
theorem new_c0 {p q : Value} (h : W.heap[A]? = some (.cells #[p, q] 24 (0, 0))) : W.cell? ⟨A, 0, none⟩ = some p := by simp [World.cell?, h]
theorem new_c1 {p q : Value} (h : W.heap[A]? = some (.cells #[p, q] 24 (0, 0))) : W.cell? ⟨A, 1, none⟩ = some q := by simp [World.cell?, h]
theorem new_f {p q : Value} (h : W.heap[A]? = some (.cells #[p, q] 24 (0, 0))) : ∀ i, W.frozen? ⟨A, i, none⟩ = false := by intro i; simp [World.frozen?, h]
theorem KeyAt.cw {w : World} (h : KeyAt w b x y) : (∀ z : Cw w, z.W.cell? ⟨b, 0, none⟩ = some (.int .u64 (un x))) ∧ (∀ z : Cw w, z.W.cell? ⟨b, 1, none⟩ = some (.int .u64 (un y))) :=
  ⟨Cw.cell b 0 _ h.lt h.c0, Cw.cell b 1 _ h.lt h.c1⟩
end
end Go.Proofs.Ytddggjimggikpaa
