/- A log among the arguments: what its value looks like. -/
import Derived.Test.YtclhbimlpamjiaaOpen
import Derived.Test.YtclhbimlpamjiaaFew
import Derived.Deep.Slices
import Derived.Lib.SmallJoins
namespace Go.Proofs.Ytclhbimlpamjiaa
open Go.ChangeShapes Go.WideShapes Go.ChangeAt Go.RowKit Go.Joins Go.Deep

section
variable {H : Type} {enc : TypeId × Value → H} {w : World} {base : Nat} {spare : Nat → Bool} {held : Bool} {r : Reach} {b0 : Nat} {v : Value} {d : DataW H} {p : List MemPlace}

theorem cellsEnt : Try.prog.cellsOf 38 = 4 := by kernel_rfl
theorem cellsLog : Try.prog.cellsOf 27 = 2 := by kernel_rfl
theorem cellsU64 : Try.prog.cellsOf 22 = 1 := by kernel_rfl
theorem cellsStr : Try.prog.cellsOf 9 = 1 := by kernel_rfl

/-- an entry's cells, read -/
theorem readEnt {fuel : Nat} {cs : List Value} {x : DataW H × List MemPlace} (h : DataW.trod enc Try.prog w base spare held fuel 38 cs = some x) : ∃ e : Ent, cs = e.cells ∧ e.Num := by
  obtain ⟨y0, y1, y2, y3, n, _, hl, h0, h1, h2, h3⟩ := trod_struct4 Try.underlying38 h
  rw [cellsEnt] at hl
  match cs, hl with
  | [c0, c1, c2, c3], _ =>
    obtain ⟨n0, e0, _, w0⟩ := DataW.trod_int Try.underlying22 h0
    obtain ⟨n1, e1, _, w1⟩ := DataW.trod_int Try.underlying22 h1
    obtain ⟨s2, e2, _, w2⟩ := DataW.trod_string Try.underlying9 h2
    obtain ⟨n3, e3, _, w3⟩ := DataW.trod_int Try.underlying22 h3
    simp [cellsU64, cellsStr] at e0 e1 e2 e3
    have b0 := bounds_u64 w0
    have b1 := bounds_u64 w1
    have b3 := bounds_u64 w3
    unfold maxLen at w2
    subst e0 e1 e2 e3
    exact ⟨⟨n0, n1, s2, n3⟩, rfl, ⟨b0.1, by show n0 < _; omega, b1.1, by show n1 < _; omega, w2, b3.1, by show n3 < _; omega⟩⟩

theorem readEnts {fuel : Nat} {c : Value} {x : DataW H × List MemPlace} (h : DataW.trod enc Try.prog w base spare held fuel 25 [c] = some x) :
    ∃ (s : Option Addr) (L : List Ent) (cap : Nat), c = .slice s L.length cap ∧ Ents w s L ∧ (∀ x ∈ L, x.Num) ∧ L.length ≤ cap ∧ cap ≤ 9223372036854775807 ∧ (s = none → cap = 0) := by
  rcases open_slice Try.underlying25 h with ⟨h0, _⟩ | ⟨a, len, cap, m, n, D, Pl, hcs, hb, hl, hm, hmm, _, hi⟩
  · simp at h0
    exact ⟨none, [], 0, h0, fun i x hx => by simp at hx, by simp, Nat.le_refl _, by omega, fun _ => rfl⟩
  · simp at hcs
    subst hcs
    rw [cellsEnt] at hi
    have hml : len ≤ m := by rw [hmm]; split <;> omega
    have hall : ∀ i, i < len → ∃ e : Ent, e.Num ∧ (∀ j, j < 4 → w.cell? ((a.add (i * 4)).add j) = e.cells[j]?) := by
      intro i hil
      obtain ⟨cs', hc, ht⟩ := hi i (by omega)
      obtain ⟨_, _, hat⟩ := World.cells?_some hc
      obtain ⟨e, rfl, he⟩ := readEnt ht
      exact ⟨e, he, hat⟩
    obtain ⟨b, off, spot⟩ := a
    by_cases hz : len = 0
    · subst hz
      exact ⟨_, [], cap, rfl, fun i x hx => by simp at hx, by simp, by simp, by unfold maxLen at hm; omega, by simp⟩
    · have hsp : spot = none := by
        obtain ⟨e, _, he⟩ := hall 0 (by omega)
        have h1 := he 0 (by omega)
        have h2 := World.cell?_spot (h1.trans (show e.cells[0]? = some (.int .u64 e.seq) from rfl))
        simpa [Addr.add] using h2
      subst hsp
      have hch : ∃ L : List Ent, L.length = len ∧ ∀ (i : Nat) (x : Ent), L[i]? = some x → x.Num ∧ (∀ j, j < 4 → w.cell? ((Addr.add ⟨b, off, none⟩ (i * 4)).add j) = x.cells[j]?) := by
        have key : ∀ k, k ≤ len → ∃ L : List Ent, L.length = k ∧ ∀ (i : Nat) (x : Ent), L[i]? = some x → x.Num ∧ (∀ j, j < 4 → w.cell? ((Addr.add ⟨b, off, none⟩ (i * 4)).add j) = x.cells[j]?) := by
          intro k
          induction k with
          | zero => exact fun _ => ⟨[], rfl, fun i x hx => by simp at hx⟩
          | succ k ih =>
            intro hk
            obtain ⟨L, hL, hx⟩ := ih (by omega)
            obtain ⟨e, he⟩ := hall k (by omega)
            refine ⟨L ++ [e], by simp [hL], fun i x hi' => ?_⟩
            by_cases hik : i < L.length
            · rw [List.getElem?_append_left hik] at hi'
              exact hx i x hi'
            · rw [List.getElem?_append_right (by omega)] at hi'
              have : i = k := by
                have := (List.getElem?_eq_some_iff.1 hi').1
                simp at this
                omega
              subst this
              simp [hL] at hi'
              subst hi'
              exact he
        exact key len (Nat.le_refl _)
      obtain ⟨L, hL, hx⟩ := hch
      have hgl : b < w.heap.size := by
        obtain ⟨e, _, he⟩ := hall 0 (by omega)
        have h1 := (he 0 (by omega)).trans (show e.cells[0]? = some (.int .u64 e.seq) from rfl)
        exact World.block_lt_of_cell? w _ h1
      refine ⟨_, L, cap, by rw [hL], fun i x hi' => ?_, fun x hm' => ?_, by omega, by unfold maxLen at hm; omega, by simp⟩
      · obtain ⟨_, hc⟩ := hx i x hi'
        have e4 : ∀ j, (Addr.add ⟨b, off, none⟩ (i * 4)).add j = ⟨b, off + i * 4 + j, none⟩ := by
          intro j
          simp only [Addr.add_lit]
        refine ⟨b, off, rfl, hgl, ?_, ?_, ?_, ?_⟩
        · have := hc 0 (by omega); rw [e4] at this; exact this
        · have := hc 1 (by omega); rw [e4] at this; exact this
        · have := hc 2 (by omega); rw [e4] at this; exact this
        · have := hc 3 (by omega); rw [e4] at this; exact this
      · obtain ⟨i, hi'⟩ := List.mem_iff_getElem?.1 hm'
        exact (hx i x hi').1

theorem openLog (hv : Value.okWide Try.prog w r b0 27 v) (h : DataW.Trod enc Try.prog w base spare held 27 v d p) :
    ∃ (bf : Int) (s : Option Addr) (L : List Ent) (cap : Nat), v = lv bf s L.length cap ∧ 0 ≤ bf ∧ bf < 18446744073709551616 ∧ Ents w s L ∧ (∀ x ∈ L, x.Num) ∧ L.length ≤ cap ∧ cap ≤ 9223372036854775807 ∧ (s = none → cap = 0) := by
  obtain ⟨c0, c1, y0, y1, m, rfl, _, _, h0, h1⟩ := open_agg2 Try.underlying27 (by kernel_rfl) cellsLog hv h
  obtain ⟨n0, e0, _, w0⟩ := DataW.trod_int Try.underlying22 h0
  obtain ⟨s, L, cap, e1, hE, hN, hl, hc, hn⟩ := readEnts h1
  simp at e0
  have b0 := bounds_u64 w0
  exact ⟨n0, s, L, cap, by rw [e0, e1], b0.1, by omega, hE, hN, hl, hc, hn⟩

theorem openU64i (hv : Value.okWide Try.prog w r b0 22 v) (h : DataW.Trod enc Try.prog w base spare held 22 v d p) : ∃ n : Int, v = .int .u64 n ∧ 0 ≤ n ∧ n < 18446744073709551616 := by
  obtain ⟨n, rfl, _, _, hw⟩ := open_int Try.underlying22 hv h
  have := bounds_u64 hw
  exact ⟨n, rfl, this.1, by omega⟩
theorem openInt (hv : Value.okWide Try.prog w r b0 3 v) (h : DataW.Trod enc Try.prog w base spare held 3 v d p) : ∃ n : Int, v = .int .i64 n ∧ -9223372036854775808 ≤ n ∧ n ≤ 9223372036854775807 := by
  obtain ⟨n, rfl, _, _, hw⟩ := open_int Try.underlying3 hv h
  have := bounds_i64 hw
  exact ⟨n, rfl, this.1, this.2⟩
end
end Go.Proofs.Ytclhbimlpamjiaa
