/- A changed sum is found, in plain words; lists of texts among the arguments. -/
import Derived.Test.YtclhbimlpamjiaaLong16
import Derived.Test.YtclhbimlpamjiaaOpenLog
import Derived.SliceStrings
namespace Go.Proofs.Ytclhbimlpamjiaa
open Go.ChangeShapes Go.WideShapes Go.ChangeAt Go.RowKit Go.Joins Go.Deep

/-- a slice's cells read as a list of texts -/
def Strs (W : World) (s : Option Addr) (L : List ByteArray) : Prop :=
  ∀ (i : Nat) (x : ByteArray), L[i]? = some x → ∃ g o, s = some ⟨g, o, none⟩ ∧ g < W.heap.size ∧ W.cell? ⟨g, o + i, none⟩ = some (.string x)
section
variable {H : Type} {enc : TypeId × Value → H} {w : World} {base : Nat} {spare : Nat → Bool} {held : Bool} {r : Reach} {b0 : Nat} {v : Value} {d : DataW H} {p : List MemPlace}
theorem cellsStr1 : Try.prog.cellsOf 9 = 1 := by kernel_rfl
theorem openStrs (hv : Value.okWide Try.prog w r b0 42 v) (h : DataW.Trod enc Try.prog w base spare held 42 v d p) :
    ∃ (s : Option Addr) (L : List ByteArray) (cap : Nat), v = .slice s L.length cap ∧ Strs w s L ∧ (∀ x ∈ L, x.size ≤ 9223372036854775807) ∧ L.length ≤ cap ∧ cap ≤ 9223372036854775807 ∧ (s = none → cap = 0) := by
  obtain ⟨a0, len, cap, rfl⟩ := okWide_slice Try.underlying42 hv
  obtain ⟨fuel, hf⟩ := h
  rcases open_strings Try.underlying42 Try.underlying9 cellsStr1 hf with ⟨hcs, _⟩ | ⟨a, len', cap', ss, hcs, _, hl, hm, hz, _, hcell, hws⟩
  · simp [Value.cells] at hcs
    obtain ⟨rfl, rfl, rfl⟩ := hcs
    exact ⟨none, [], 0, rfl, fun i x hx => by simp at hx, by simp, Nat.le_refl _, by omega, fun _ => rfl⟩
  · simp [Value.cells] at hcs
    obtain ⟨rfl, rfl, rfl⟩ := hcs
    have hsl : len ≤ ss.length := by rw [hz]; split <;> omega
    unfold maxLen at hm
    refine ⟨some a, ss.take len, cap, by rw [List.length_take, Nat.min_eq_left hsl], fun i x hx => ?_, fun x hx => ?_, by rw [List.length_take, Nat.min_eq_left hsl]; exact hl, hm, by simp⟩
    · rw [List.getElem?_take] at hx
      split at hx
      · rename_i hil
        have hc := hcell i (by omega)
        have e : ss.getD i ByteArray.empty = x := by simp [List.getD, hx]
        rw [e] at hc
        obtain ⟨b, off, spot⟩ := a
        have hsp : spot = none := by
          have := World.cell?_spot (hcell 0 (by omega))
          simpa [Addr.add] using this
        subst hsp
        rw [Addr.add_lit] at hc
        exact ⟨b, off, rfl, World.block_lt_of_cell? w _ hc, hc⟩
      · simp at hx
    · have := hws x (List.mem_of_mem_take hx)
      unfold maxLen at this
      exact this
end

theorem chain_take (a b : BitVec 64) (bf : Int) (L : List Ent) (j : Nat) (h : (chain a b bf L).2 = true) : (chain a b bf (L.take j)).2 = true := by
  have := chain_append a b bf (L.take j) (L.drop j)
  rw [List.take_append_drop] at this
  cases hc : (chain a b bf (L.take j)).2
  · rw [hc] at this
    simp at this
    rw [this, hc] at h
    cases h
  · rfl
/-- a chain goes as far as the changed sum -/
theorem chain_set (a b : BitVec 64) (bf : Int) (L : List Ent) (j : Nat) (x : Ent) (m : Int) (hx : L[j]? = some x) (h : (chain a b bf L).2 = true) (hm : m ≠ x.sum) : chain a b bf (L.set j (x.setSum m)) = (j, false) := by
  have hj : j < L.length := (List.getElem?_eq_some_iff.1 hx).1
  have ht := chain_take a b bf L j h
  have hw := chain_whole a b bf _ ht
  rw [List.length_take, Nat.min_eq_left (by omega)] at hw
  have hd : L.drop j = x :: L.drop (j + 1) := by
    rw [List.drop_eq_getElem_cons hj]
    have : L[j] = x := by simpa [List.getElem?_eq_getElem hj] using hx
    rw [this]
  have h1 := chain_append a b bf (L.take j) (L.drop j)
  rw [List.take_append_drop, if_pos ht, hd, chain_cons] at h1
  have hsum : x.sum = entSum a b (headE bf (L.take j)) x := by
    rw [h1] at h
    split at h
    · assumption
    · simp at h
  have e : L.set j (x.setSum m) = L.take j ++ (x.setSum m) :: L.drop (j + 1) := by
    rw [List.set_eq_take_append_cons_drop, if_pos hj]
  rw [e, chain_append, if_pos ht, chain_cons, if_neg ?_, hw]
  · simp
  · intro e2
    have e3 : entSum a b (headE bf (L.take j)) (x.setSum m) = entSum a b (headE bf (L.take j)) x := rfl
    rw [e3, ← hsum] at e2
    exact hm e2
theorem u64_id (n : Int) (h0 : 0 ≤ n) (h1 : n < 18446744073709551616) : IntKind.u64.wrap n = n := by
  obtain ⟨x, rfl⟩ := un_of n h0 h1
  exact wrap_un_id x
theorem xor_ne (x c : BitVec 64) (h : un c ≠ 0) : un (x ^^^ c) ≠ un x := by
  intro e
  apply h
  have h1 : x ^^^ c = x := un_inj e
  have h2 : c = 0#64 := by
    have := congrArg (x ^^^ ·) h1
    simpa [← BitVec.xor_assoc] using this
  rw [h2]
  decide
end Go.Proofs.Ytclhbimlpamjiaa
