/- A cell of a row of entries is written. -/
import Derived.Test.YtclhbimlpamjiaaFrom
namespace Go.Proofs.Ytclhbimlpamjiaa
open Go.RowKit

/-- a field written -/
def Ent.setText (x : Ent) (t : ByteArray) : Ent := ⟨x.seq, x.at', t, x.sum⟩
def Ent.setSeq (x : Ent) (q : Int) : Ent := ⟨q, x.at', x.text, x.sum⟩
def Ent.setSum (x : Ent) (m : Int) : Ent := ⟨x.seq, x.at', x.text, m⟩
theorem cellsE_set (L : List Ent) (i : Nat) (x x' : Ent) (hx : L[i]? = some x) (o : Nat) (ho : o < 4) (v : Value) (hv : x'.cells = x.cells.set o v) : cellsE (L.set i x') = (cellsE L).set (i * 4 + o) v := by
  induction L generalizing i with
  | nil => simp at hx
  | cons y L ih =>
    cases i with
    | zero =>
      simp at hx
      subst hx
      show cellsE (x' :: L) = _
      rw [Nat.zero_mul, Nat.zero_add]
      show x'.cells ++ cellsE L = (y.cells ++ cellsE L).set o v
      rw [hv, List.set_append_left _ _ (by simpa [Ent.cells] using ho)]
    | succ i =>
      simp only [List.getElem?_cons_succ] at hx
      have := ih i hx
      show y.cells ++ cellsE (L.set i x') = (y.cells ++ cellsE L).set ((i + 1) * 4 + o) v
      rw [this, List.set_append_right _ _ (by simp [Ent.cells]; omega)]
      congr 2
      simp [Ent.cells]
      omega
theorem own_set {w : World} {B g n c : Nat} {L : List Ent} (h : OwnE w B (.slice (some ⟨g, 0, none⟩) n c) L) (hn : n = L.length) (i : Nat) (x x' : Ent) (hx : L[i]? = some x) (o : Nat) (ho : o < 4) (v : Value) (hv : x'.cells = x.cells.set o v) :
    OwnE (w.setCell ⟨g, i * 4 + o, none⟩ v) B (.slice (some ⟨g, 0, none⟩) n c) (L.set i x') := by
  subst hn
  have := (World.ownsRow.stored h (i * 4 + o) v).1
  unfold OwnE
  rw [cellsE_set L i x x' hx o ho v hv, List.length_set]
  exact this
theorem own_frozen {w : World} {B g n c : Nat} {L : List Ent} (h : OwnE w B (.slice (some ⟨g, 0, none⟩) n c) L) (hn : n = L.length) (j : Nat) : w.frozen? ⟨g, j, none⟩ = false := by
  subst hn
  exact World.ownsRow.frozenAt h j
/-- a block that is none of the state's own is written -/
theorem St.setOut {w0 : World} {bl : List Blk} {E E' : World → Prop} {w : World} (h : St w0 bl E w) {A : Nat} (hA : w0.heap.size ≤ A) (hne : ∀ x ∈ bl, x.1 ≠ A) {o : Nat} {v : Value} (hE : E' (w.setCell ⟨A, o, none⟩ v)) (hk : ∀ W W', E' W → Below W.heap.size W W' → E' W') :
    St w0 bl E' (w.setCell ⟨A, o, none⟩ v) :=
  ⟨h.below.setCell hA _, fun x hx => (Below.heap_setCell w ⟨A, o, none⟩ v x.1 (hne x hx)).trans (h.blk x hx), h.nd, hE, hk⟩
theorem St.apart {w0 : World} {bl : List Blk} {E : World → Prop} {w : World} (h : St w0 bl E w) {B g n c : Nat} {L : List Ent} (hown : OwnE w B (.slice (some ⟨g, 0, none⟩) n c) L) (hT : ∀ x ∈ bl, x.2.2 ≠ 38) : ∀ x ∈ bl, x.1 ≠ g := by
  intro x hx e
  have := own_tag hown (h.blk x hx) (hT x hx)
  rw [e] at this
  exact this rfl
theorem cut210_idem (s : ByteArray) : cut210 (cut210 s) = cut210 s := by
  have h := cut210_size s
  unfold cut210 at h ⊢
  generalize s.extract 0 (min (s.size : Int) 210).toNat = t at *
  have : (min (t.size : Int) 210).toNat = t.size := by omega
  rw [this]
  apply ByteArray.ext
  simp
theorem fewE_idem (L : List Ent) : fewE (fewE L) = fewE L := by
  unfold fewE
  rw [List.take_of_length_le (by simp; omega), List.map_map]
  apply List.map_congr_left
  intro x _
  show cutE (cutE x) = cutE x
  unfold cutE
  simp only [cut210_idem]
theorem Ent.Ok.num {x : Ent} (h : x.Ok) : x.Num := ⟨h.s0, h.s1, h.a0, h.a1, Nat.le_trans h.t (by decide), h.m0, h.m1⟩
end Go.Proofs.Ytclhbimlpamjiaa
