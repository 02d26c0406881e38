/- Numbers and lists of texts among the arguments. -/
import Derived.Test.YtafabdgkinfceaaDoorOpen
import Derived.SliceStrings
import Derived.Deep.Slices
import Derived.Lib.SmallJoins
import Derived.Below
namespace Go.Proofs.YtafabdgkinfceaaDoor
open Go.ChangeShapes Go.WideShapes Go.ChangeAt Go.RowKit Go.Joins Go.Deep
set_option maxRecDepth 100000

/-- a slice's cells read as a list of texts -/
def Strs (W : World) (s : Option Addr) (L : List ByteArray) : Prop :=
  ∀ (i : Nat) (x : ByteArray), L[i]? = some x → ∃ g o, s = some ⟨g, o, none⟩ ∧ g < W.heap.size ∧ W.cell? ⟨g, o + i, none⟩ = some (.string x)
section
variable {H : Type} {enc : TypeId × Value → H} {w : World} {base : Nat} {spare : Nat → Bool} {held : Bool} {r : Reach} {b0 : Nat} {v : Value} {d : DataW H} {p : List MemPlace}
theorem cellsStr1 : Tryd.prog.cellsOf 9 = 1 := by kernel_rfl
theorem openStrs (hv : Value.okWide Tryd.prog w r b0 37 v) (h : DataW.Trod enc Tryd.prog w base spare held 37 v d p) :
    ∃ (s : Option Addr) (L : List ByteArray) (cap : Nat), v = .slice s L.length cap ∧ Strs w s L ∧ (∀ x ∈ L, x.size ≤ 9223372036854775807) ∧ L.length ≤ cap ∧ cap ≤ 9223372036854775807 ∧ (s = none → cap = 0) := by
  obtain ⟨a0, len, cap, rfl⟩ := okWide_slice Tryd.underlying37 hv
  obtain ⟨fuel, hf⟩ := h
  rcases open_strings Tryd.underlying37 Tryd.underlying9 cellsStr1 hf with ⟨hcs, _⟩ | ⟨a, len', cap', ss, hcs, _, hl, hm, hz, _, hcell, hws⟩
  · simp [Value.cells] at hcs
    obtain ⟨rfl, rfl, rfl⟩ := hcs
    exact ⟨none, [], 0, rfl, fun i x hx => by simp at hx, by simp, Nat.le_refl _, by omega, fun _ => rfl⟩
  · simp [Value.cells] at hcs
    obtain ⟨rfl, rfl, rfl⟩ := hcs
    have hsl : len ≤ ss.length := by rw [hz]; split <;> omega
    unfold maxLen at hm
    refine ⟨some a, ss.take len, cap, by rw [List.length_take, Nat.min_eq_left hsl], fun i x hx => ?_, fun x hx => ?_, by rw [List.length_take, Nat.min_eq_left hsl]; exact hl, hm, by simp⟩
    · rw [List.getElem?_take] at hx
      split at hx
      · rename_i hil
        have hc := hcell i (by omega)
        have e : ss.getD i ByteArray.empty = x := by simp [List.getD, hx]
        rw [e] at hc
        obtain ⟨b, off, spot⟩ := a
        have hsp : spot = none := by
          have := World.cell?_spot (hcell 0 (by omega))
          simpa [Addr.add] using this
        subst hsp
        rw [Addr.add_lit] at hc
        exact ⟨b, off, rfl, World.block_lt_of_cell? w _ hc, hc⟩
      · simp at hx
    · have := hws x (List.mem_of_mem_take hx)
      unfold maxLen at this
      exact this
theorem openU64i (hv : Value.okWide Tryd.prog w r b0 44 v) (h : DataW.Trod enc Tryd.prog w base spare held 44 v d p) : ∃ n : Int, v = .int .u64 n ∧ 0 ≤ n ∧ n < 18446744073709551616 := by
  obtain ⟨n, rfl, _, _, hw⟩ := open_int Tryd.underlying44 hv h
  have := bounds_u64 hw
  exact ⟨n, rfl, this.1, by omega⟩
theorem openInt (hv : Value.okWide Tryd.prog w r b0 3 v) (h : DataW.Trod enc Tryd.prog w base spare held 3 v d p) : ∃ n : Int, v = .int .i64 n ∧ -9223372036854775808 ≤ n ∧ n ≤ 9223372036854775807 := by
  obtain ⟨n, rfl, _, _, hw⟩ := open_int Tryd.underlying3 hv h
  have := bounds_i64 hw
  exact ⟨n, rfl, this.1, this.2⟩
end

theorem Strs.below {W0 W : World} {s : Option Addr} {L : List ByteArray} {n : Nat} (hn : W0.heap.size ≤ n) (h : Strs W0 s L) (hb : Below n W0 W) : Strs W s L := by
  intro i x hx
  obtain ⟨g, o, e, hg, hc⟩ := h i x hx
  have hb' := hb.mono hn
  exact ⟨g, o, e, Nat.lt_of_lt_of_le hg hb'.size, (hb'.cell (p := ⟨g, o + i, none⟩) hg).trans hc⟩
theorem Strs.keep {s : Option Addr} {L : List ByteArray} : ∀ W W' : World, Strs W s L → Below W.heap.size W W' → Strs W' s L := fun _ _ h hb => h.below (Nat.le_refl _) hb
end Go.Proofs.YtafabdgkinfceaaDoor
