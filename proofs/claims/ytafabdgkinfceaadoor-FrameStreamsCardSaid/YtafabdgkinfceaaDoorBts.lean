/- A row of bytes that a conversion of a string laid: read, written, made a string again. -/
import Derived.Test.YtafabdgkinfceaaDoorSt
import Derived.Test.YtafabdgkinfceaaDoorProg
import Derived.Laws.IdiomStrings
import Derived.Laws.Bits64
namespace Go.Proofs.YtafabdgkinfceaaDoor
open Go.RowKit

/-- block g begins with these bytes (and bears a conversion's mark behind them) -/
def Bts (g : Nat) (l : List UInt8) (W : World) : Prop :=
  ∃ (cs : Array Value) (m : Nat), W.heap[g]? = some (.cells cs 5 (m, m + 1)) ∧ l.length ≤ m ∧ ∀ j, j < l.length → cs[j]? = (l[j]?).map (fun b => Value.int .u8 b.toNat)

theorem Bts.lt {g : Nat} {l : List UInt8} {W : World} (h : Bts g l W) : g < W.heap.size := by
  obtain ⟨cs, m, h1, _⟩ := h
  exact blk_lt h1
theorem Bts.keep {g : Nat} {l : List UInt8} : ∀ W W' : World, Bts g l W → Below W.heap.size W W' → Bts g l W' := by
  rintro W W' ⟨cs, m, h1, h2⟩ hb
  exact ⟨cs, m, (hb.block g (blk_lt h1)).trans h1, h2⟩
theorem Bts.cell {g : Nat} {l : List UInt8} {W : World} (h : Bts g l W) (j : Nat) (b : UInt8) (hj : l[j]? = some b) : W.cell? ⟨g, j, none⟩ = some (.int .u8 b.toNat) := by
  obtain ⟨cs, m, h1, h2, h3⟩ := h
  have := h3 j (List.getElem?_eq_some_iff.1 hj).1
  rw [hj] at this
  simp [World.cell?, h1, this]
theorem Bts.free {g : Nat} {l : List UInt8} {W : World} (h : Bts g l W) (j : Nat) (hj : j < l.length) : W.frozen? ⟨g, j, none⟩ = false := by
  obtain ⟨cs, m, h1, h2, h3⟩ := h
  simp [World.frozen?, h1]
  omega
theorem Bts.set {g : Nat} {l : List UInt8} {W : World} (h : Bts g l W) (j : Nat) (hj : j < l.length) (b : UInt8) : Bts g (l.set j b) (W.setCell ⟨g, j, none⟩ (.int .u8 b.toNat)) := by
  obtain ⟨cs, m, h1, h2, h3⟩ := h
  have hlt := blk_lt h1
  have h' : W.heap[g] = .cells cs 5 (m, m + 1) := by simpa [Array.getElem?_eq_getElem hlt] using h1
  have hcs : j < cs.size := by
    have := h3 j hj
    rw [List.getElem?_eq_getElem hj, Option.map_some] at this
    exact (Array.getElem?_eq_some_iff.1 this).1
  refine ⟨cs.setIfInBounds j (.int .u8 b.toNat), m, ?_, by simpa using h2, ?_⟩
  · show (W.heap.modify g _)[g]? = _
    rw [Array.getElem?_eq_getElem (by simpa using hlt), Array.getElem_modify_self, h']
    rfl
  · intro i hi
    have hi' : i < l.length := by simpa using hi
    by_cases e : j = i
    · subst e
      simp [hcs, hj]
    · rw [Array.getElem?_setIfInBounds_ne e, List.getElem?_set_ne e]
      exact h3 i hi'
theorem Bts.made (w : World) (s : ByteArray) (cap : Nat) : Bts w.heap.size s.data.toList (w.alloc (.cells (bytesRow s cap) 5 ((bytesRow s cap).size, (bytesRow s cap).size + 1))).drew := by
  refine ⟨bytesRow s cap, (bytesRow s cap).size, World.alloc_heap_new w _, by simp [bytesRow], ?_⟩
  intro j hj
  have hj' : j < s.size := by simpa using hj
  simp [bytesRow, Array.getElem?_append, hj']
theorem Bts.conv {g : Nat} {l : List UInt8} {W : World} (h : Bts g l W) (n cap : Nat) (hn : n = l.length) :
    (convert 32 9 (.slice (some ⟨g, 0, none⟩) n cap)).run Tryd.prog W = .ok (.string ⟨l.toArray⟩) W := by
  subst hn
  exact run_convert_bytes_back W 32 9 5 ⟨g, 0, none⟩ cap l Tryd.underlying32 Tryd.underlying5 Tryd.underlying9 (fun j hj => by
    rw [Addr.add_lit, Nat.zero_add]
    exact h.cell j l[j] (List.getElem?_eq_getElem hj))
theorem bytes_of (w : World) (s : ByteArray) : (convert 9 32 (.string s)).run Tryd.prog w = .ok (.slice (some ⟨w.heap.size, 0, none⟩) s.size (grownCap w s.size 0 5))
      (w.drew.alloc (.cells (bytesRow s (grownCap w s.size 0 5)) 5 ((bytesRow s (grownCap w s.size 0 5)).size, (bytesRow s (grownCap w s.size 0 5)).size + 1))) :=
  run_bytes_of_string w 9 32 5 s Tryd.underlying9 Tryd.underlying32 Tryd.underlying5

/-- a cell of another block written -/
theorem St.poke {w0 : World} {bl : List Blk} {E F : World → Prop} {w : World} (h : St w0 bl E w) {g o : Nat} {v : Value} (hg : w0.heap.size ≤ g) (hb : ∀ x ∈ bl, x.1 ≠ g) (hF : F (w.setCell ⟨g, o, none⟩ v)) (k : ∀ W W', F W → Below W.heap.size W W' → F W') :
    St w0 bl F (w.setCell ⟨g, o, none⟩ v) :=
  ⟨h.below.setCell (p := ⟨g, o, none⟩) hg _, fun x hx => (Below.heap_setCell w ⟨g, o, none⟩ v x.1 (hb x hx)).trans (h.blk x hx), h.nd, hF, k⟩

theorem xor_u8 (b : UInt8) (c : Nat) : bits .xor .u8 (b.toNat : Int) ((c : Int) % 256) = ((b ^^^ UInt8.ofNat c).toNat : Int) := by
  have hb := b.toNat_lt
  have h1 : BitVec.ofInt 8 (b.toNat : Int) = b.toBitVec := by
    apply BitVec.eq_of_toNat_eq
    simp
  have h2 : BitVec.ofInt 8 ((c : Int) % 256) = (UInt8.ofNat c).toBitVec := by
    apply BitVec.eq_of_toNat_eq
    simp
    omega
  show IntKind.u8.wrap ((BitVec.ofInt 8 (b.toNat : Int) ^^^ BitVec.ofInt 8 ((c : Int) % 256)).toNat : Int) = _
  rw [h1, h2]
  have h3 : (b.toBitVec ^^^ (UInt8.ofNat c).toBitVec).toNat = (b ^^^ UInt8.ofNat c).toNat := rfl
  rw [h3]
  have h4 := (b ^^^ UInt8.ofNat c).toNat_lt
  generalize (b ^^^ UInt8.ofNat c).toNat = z at *
  simp [IntKind.wrap, IntKind.bits, IntKind.signed]
  omega
end Go.Proofs.YtafabdgkinfceaaDoor
