/- A state of a walk across a range over a function. -/
import Derived.Test.YtafabdgkinfceaaDoorNumSpec
import Derived.RangeFuncCalls
import Derived.RangeFuncBox
import Derived.RangeFuncLeaves
namespace Go.Proofs.YtafabdgkinfceaaDoor
open Go.RowKit

theorem St.own {w0 : World} {bl : List Blk} {A B : World} {row : Option Nat} {base : Nat} (h : St w0 bl (fun _ => True) A) (hg : A.grownBy B row) (hr : ∀ r, row = some r → base ≤ r ∧ ∃ o : Obj, A.heap[r]? = some o ∧ o.isCells = false) (hb : w0.heap.size ≤ base) : St w0 bl (fun _ => True) B :=
  ⟨h.below.grown hg h.below.size (fun k e => Nat.le_trans hb (hr k e).1), fun x hx => (hg.block _ (blk_lt (h.blk x hx)) (fun e => by
    obtain ⟨_, o, ho, hc⟩ := hr _ e.symm
    rw [h.blk x hx] at ho
    cases ho
    simp [Obj.isCells] at hc)).trans (h.blk x hx), h.nd, trivial, fun _ _ _ _ => trivial⟩

theorem keepsOthers_of {W W' : World} {b : Nat} {cs : Array Value} {T : TypeId} (h : W.heap[b]? = some (.cells cs T (0, 0))) (hg : W.grownBy W' (some b)) : KeepsOthers W W' :=
  ⟨hg.size, fun k o hk ho => (hg.block k (Array.getElem?_eq_some_iff.1 hk).1 (fun e => by
    obtain rfl : k = b := by simpa using e
    rw [h] at hk
    cases hk
    cases ho)).trans hk⟩
theorem grownBy_ofBelow {W W' : World} (hg : Below W.heap.size W W') (row : Option Nat) : W.grownBy W' row := ⟨hg.os, hg.tape, hg.output, hg.size, fun k hk _ => hg.block k hk⟩
theorem grownBy_then {X Y Z : World} {row : Option Nat} (h : X.grownBy Y row) (k : Y.grownBy Z row) : X.grownBy Z row :=
  ⟨k.os.trans h.os, k.tape.trans h.tape, k.output.trans h.output, Nat.le_trans h.size k.size, fun i hi hne => (k.block i (Nat.lt_of_lt_of_le hi h.size) hne).trans (h.block i hi hne)⟩
theorem grownBy_setOne (W : World) (b o : Nat) (v : Value) : W.grownBy (W.setCell ⟨b, o, none⟩ v) (some b) := ⟨rfl, rfl, rfl, by simp [World.setCell], fun k _ hne => Below.heap_setCell _ _ _ _ (fun e => hne (by rw [e]))⟩

theorem putObj_old {w : World} {D : Nat} {o : Obj} {k : Nat} (h : k ≠ D) : (w.putObj D o).heap[k]? = w.heap[k]? := World.putObj_heap_other h
theorem reads_ok {w w7 : World} {R D : Nat} {s X rest : ByteArray} {v : Value} {o : Obj} (hb : Below w.heap.size w w7) (hN : w7.heap[R]? = some (.cells #[.string s] 77 (0, 0))) (hX : X = rest) (hD : w.heap.size ≤ D) (hRD : R ≠ D) :
    Reads w R v rest (.returned v) ((w7.setCell ⟨R, 0, none⟩ (.string X)).putObj D o) := by
  refine ⟨rfl, (putObj_old hRD).trans ?_, hb.os, hb.tape, hb.output, ?_, fun k hk hne => (putObj_old (by omega)).trans ((Below.heap_setCell _ _ _ _ (fun e => hne (by rw [e]))).trans (hb.block k hk))⟩
  · rw [blk_set hN, hX]; rfl
  · have := hb.size
    simpa [World.setCell, World.putObj] using this
theorem reads_no {w w7 : World} {R D : Nat} {s : ByteArray} {v : Value} {o : Obj} (hb : Below w.heap.size w w7) (hN : w7.heap[R]? = some (.cells #[.string s] 77 (0, 0))) (hD : w.heap.size ≤ D) (hRD : R ≠ D) :
    Reads w R v s (.returned v) (w7.putObj D o) := by
  refine ⟨rfl, (putObj_old hRD).trans hN, hb.os, hb.tape, hb.output, ?_, fun k hk hne => (putObj_old (by omega)).trans (hb.block k hk)⟩
  have := hb.size
  simpa [World.putObj] using this
theorem reads_below {w w' : World} {R : Nat} {s : ByteArray} {v : Value} (hb : Below w.heap.size w w') (hN : w.heap[R]? = some (.cells #[.string s] 77 (0, 0))) : Reads w R v s (.returned v) w' :=
  ⟨rfl, (hb.block R (blk_lt hN)).trans hN, grownBy_ofBelow hb _⟩

end Go.Proofs.YtafabdgkinfceaaDoor
