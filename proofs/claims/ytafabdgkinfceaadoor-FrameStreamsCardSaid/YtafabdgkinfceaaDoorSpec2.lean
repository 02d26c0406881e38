/- Facts of operations, ready made. -/
import Derived.Test.YtafabdgkinfceaaDoorSpec
import Derived.RangeFuncBox
namespace Go.Proofs.YtafabdgkinfceaaDoor
open Go.RowKit

/-- a fact that later steps keep -/
def Stable (f : Value → World → Prop) : Prop := ∀ v W W', f v W → Below W.heap.size W W' → f v W'
/-- the value is this one -/
def IsVal (c : Value) : Value → World → Prop := fun v _ => v = c
/-- the value is a pointer to a new block, as it was laid -/
def IsNew (B : Nat) (cs : Array Value) (T : TypeId) : Value → World → Prop := fun v W => ∃ A, v = .pointer (some ⟨A, 0, none⟩) ∧ B ≤ A ∧ W.heap[A]? = some (.cells cs T (0, 0))

theorem stableVal (c : Value) : Stable (IsVal c) := fun _ _ _ h _ => h
theorem stableNew (B : Nat) (cs : Array Value) (T : TypeId) : Stable (IsNew B cs T) := fun _ _ _ ⟨A, h1, h2, h3⟩ hb =>
  ⟨A, h1, h2, (hb.block A (Array.getElem?_eq_some_iff.1 h3).1).trans h3⟩

/-- the facts, by their places -/
def Fs (l : List (Value → World → Prop)) (i : Nat) : Value → World → Prop := l.getD i (fun _ _ => True)
theorem Fs_stable (l : List (Value → World → Prop)) (h : ∀ f, f ∈ l → Stable f) : ∀ i v W W', Fs l i v W → Below W.heap.size W W' → Fs l i v W' := by
  intro i v W W' hf hb
  unfold Fs at hf ⊢
  rw [List.getD_eq_getElem?_getD] at hf ⊢
  revert hf
  cases e : l[i]? with
  | none => exact fun _ => trivial
  | some f => exact fun hf => h f (List.mem_of_getElem? e) v W W' hf hb

theorem opOk_call {P : Program} {f : FuncId} {args : Array Value} {W : World} {v : Value} {F : Value → World → Prop} (h : Calls P f args W fun e w' => e = .returned v ∧ Below W.heap.size W w') (hF : ∀ w', Below W.heap.size W w' → F v w') :
    OpOk P W F (.ok (.enter f args) W) :=
  ⟨Below.refl _ _, h.mono fun _ _ ⟨he, hb⟩ => ⟨v, he, hb, hF _ hb⟩⟩
theorem opOk_call_same {P : Program} {f : FuncId} {args : Array Value} {W : World} {v : Value} {F : Value → World → Prop} (h : Calls P f args W fun e w' => e = .returned v ∧ w' = W) (hF : F v W) :
    OpOk P W F (.ok (.enter f args) W) :=
  ⟨Below.refl _ _, h.mono fun _ w' ⟨he, hb⟩ => ⟨v, he, by rw [hb]; exact Below.refl _ _, by rw [hb]; exact hF⟩⟩
theorem opOk_val {P : Program} {W : World} {v : Value} {F : Value → World → Prop} (hF : F v W) : OpOk P W F (.ok (.value v) W) := ⟨Below.refl _ _, hF⟩
theorem opOk_new {P : Program} {W : World} {B : Nat} {cs : Array Value} {T : TypeId} (hB : B ≤ W.heap.size) : OpOk P W (IsNew B cs T) (.ok (.value (.pointer (some ⟨W.heap.size, 0, none⟩))) (W.alloc (.cells cs T))) :=
  ⟨(Below.refl _ _).alloc (Nat.le_refl _) _, _, rfl, hB, World.alloc_heap_new W _⟩
end Go.Proofs.YtafabdgkinfceaaDoor
