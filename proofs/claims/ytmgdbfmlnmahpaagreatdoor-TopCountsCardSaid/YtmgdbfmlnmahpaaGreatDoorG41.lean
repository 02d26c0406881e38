/- A part of the proof of TopCounts. -/
import Derived.Test.YtmgdbfmlnmahpaaGreatDoorG02
import Derived.Test.YtmgdbfmlnmahpaaGreatDoorG40
import Derived.Deep.Slices
import Derived.ChangeSame
import Derived.Lib.SmallJoins
namespace Go.Proofs.YtmgdbfmlnmahpaaGreatDoor
open Go.ChangeShapes Go.WideShapes Go.ChangeAt Go.RowKit Go.Joins Go.Deep
set_option linter.unusedVariables false
set_option maxRecDepth 100000
section
variable {H : Type} {enc : TypeId × Value → H} {w : World} {base : Nat} {spare : Nat → Bool} {held : Bool} {r : Reach} {b0 : Nat} {v : Value} {d : DataW H} {p : List MemPlace}
theorem readRows {P : Program} {α : Type} {k : Nat} {ec : α → List Value} {Q : α → Prop} {t e : TypeId} (ht : P.underlying t = some (.slice e)) (hce : P.cellsOf e = k) (hk0 : 0 < k) (hk : ∀ x, (ec x).length = k) (hone : ∀ x, ∀ u ∈ ec x, u.oneCell' = true)
    (hr : ∀ (fuel : Nat) (cs : List Value) (x : DataW H × List MemPlace), DataW.trod enc P w base spare held fuel e cs = some x → ∃ y, cs = ec y ∧ Q y) {fuel : Nat} {c : Value} {x : DataW H × List MemPlace} (h : DataW.trod enc P w base spare held fuel t [c] = some x) :
    ∃ (s : Option Addr) (L : List α) (cap : Nat), c = .slice s L.length cap ∧ Rd k ec w s L ∧ (∀ x ∈ L, Q x) ∧ L.length ≤ cap ∧ cap ≤ 9223372036854775807 ∧ (s = none → cap = 0) := by
  rcases open_slice ht h with ⟨h0, _⟩ | ⟨a, len, cap, m, n, D, Pl, hcs, hb, hl, hm, hmm, _, hi⟩
  · simp at h0
    exact ⟨none, [], 0, h0, fun i x hx => by simp at hx, by simp, Nat.le_refl _, by omega, fun _ => rfl⟩
  · simp at hcs
    subst hcs
    rw [hce] at hi
    have hml : len ≤ m := by rw [hmm]; split <;> omega
    have hall : ∀ i, i < len → ∃ y, Q y ∧ (∀ j, j < k → w.cell? ((a.add (i * k)).add j) = (ec y)[j]?) := by
      intro i hil
      obtain ⟨cs', hc, ht⟩ := hi i (by omega)
      obtain ⟨_, _, hat⟩ := World.cells?_some hc
      obtain ⟨y, rfl, he⟩ := hr _ _ _ ht
      exact ⟨y, he, hat⟩
    obtain ⟨b, off, spot⟩ := a
    by_cases hz : len = 0
    · subst hz
      exact ⟨_, [], cap, rfl, fun i x hx => by simp at hx, by simp, by simp, by unfold maxLen at hm; omega, by simp⟩
    · have hfst : ∀ y : α, ∃ u, (ec y)[0]? = some u := fun y => ⟨_, List.getElem?_eq_getElem (by rw [hk]; exact hk0)⟩
      have hsp : spot = none := by
        obtain ⟨y, _, he⟩ := hall 0 (by omega)
        obtain ⟨u, hu⟩ := hfst y
        have h1 := he 0 hk0
        have h2 := World.cell?_spot (h1.trans hu)
        simpa [Addr.add] using h2
      subst hsp
      have hch : ∃ L : List α, L.length = len ∧ ∀ (i : Nat) (x : α), L[i]? = some x → Q x ∧ (∀ j, j < k → w.cell? ((Addr.add ⟨b, off, none⟩ (i * k)).add j) = (ec x)[j]?) := by
        have key : ∀ q, q ≤ len → ∃ L : List α, L.length = q ∧ ∀ (i : Nat) (x : α), L[i]? = some x → Q x ∧ (∀ j, j < k → w.cell? ((Addr.add ⟨b, off, none⟩ (i * k)).add j) = (ec x)[j]?) := by
          intro q
          induction q with
          | zero => exact fun _ => ⟨[], rfl, fun i x hx => by simp at hx⟩
          | succ q ih =>
            intro hk
            obtain ⟨L, hL, hx⟩ := ih (by omega)
            obtain ⟨e, he⟩ := hall q (by omega)
            refine ⟨L ++ [e], by simp [hL], fun i x hi' => ?_⟩
            by_cases hik : i < L.length
            · rw [List.getElem?_append_left hik] at hi'
              exact hx i x hi'
            · rw [List.getElem?_append_right (by omega)] at hi'
              have : i = q := by
                have := (List.getElem?_eq_some_iff.1 hi').1
                simp at this
                omega
              subst this
              simp [hL] at hi'
              subst hi'
              exact he
        exact key len (Nat.le_refl _)
      obtain ⟨L, hL, hx⟩ := hch
      have hgl : b < w.heap.size := by
        obtain ⟨y, _, he⟩ := hall 0 (by omega)
        obtain ⟨u, hu⟩ := hfst y
        have h1 := (he 0 hk0).trans hu
        have h2 := World.block_lt_of_cell? w _ h1
        simpa only [Addr.add_lit] using h2
      refine ⟨_, L, cap, by rw [hL], fun i x hi' => ?_, fun x hm' => ?_, by omega, by unfold maxLen at hm; omega, by simp⟩
      · obtain ⟨_, hc⟩ := hx i x hi'
        refine ⟨b, off, rfl, hgl, fun j u hu => ?_⟩
        have hj : j < k := by rw [← hk x]; exact (List.getElem?_eq_some_iff.1 hu).1
        have := hc j hj
        rw [hu] at this
        simpa only [Addr.add_lit] using this
      · obtain ⟨i, hi'⟩ := List.mem_iff_getElem?.1 hm'
        exact (hx i x hi').1
theorem cellsU1 : Tryz.prog.cellsOf 22 = 1 := by kernel_rfl
theorem cellsItem : Tryz.prog.cellsOf 45 = 2 := by kernel_rfl
theorem readItem (fuel : Nat) (cs : List Value) (x : DataW H × List MemPlace) (h : DataW.trod enc Tryz.prog w base spare held fuel 45 cs = some x) : ∃ y : Nat × Nat, cs = encIt y ∧ (y.1 ≤ maxU ∧ y.2 ≤ maxU) := by
  obtain ⟨y0, y1, n, _, hl, h0, h1⟩ := trod_struct2 Tryz.underlying45 h
  rw [cellsItem] at hl
  match cs, hl with
  | [c0, c1], _ =>
    obtain ⟨n0, e0, _, w0⟩ := DataW.trod_int Tryz.underlying22 h0
    obtain ⟨n1, e1, _, w1⟩ := DataW.trod_int Tryz.underlying22 h1
    simp [cellsU1] at e0 e1
    have b0 := bounds_u64 w0
    have b1 := bounds_u64 w1
    subst e0 e1
    obtain ⟨m0, rfl⟩ := Int.eq_ofNat_of_zero_le b0.1
    obtain ⟨m1, rfl⟩ := Int.eq_ofNat_of_zero_le b1.1
    exact ⟨(m0, m1), rfl, by unfold maxU; omega, by unfold maxU; omega⟩
theorem openItems (hv : Value.okWide Tryz.prog w r b0 25 v) (h : DataW.Trod enc Tryz.prog w base spare held 25 v d p) :
    ∃ (s : Option Addr) (L : List (Nat × Nat)) (cap : Nat), v = .slice s L.length cap ∧ Rd 2 encIt w s L ∧ SmallI L ∧ L.length ≤ cap ∧ cap ≤ 9223372036854775807 ∧ (s = none → cap = 0) := by
  obtain ⟨a0, len, cap, rfl⟩ := okWide_slice Tryz.underlying25 hv
  obtain ⟨fuel, hf⟩ := h
  exact readRows (P := Tryz.prog) (ec := encIt) (Q := fun y => y.1 ≤ maxU ∧ y.2 ≤ maxU) Tryz.underlying25 cellsItem (by decide) encIt_len (fun x u hu => by simp [encIt] at hu; rcases hu with rfl | rfl <;> rfl) readItem (c := .slice a0 len cap) hf
theorem openNat (hv : Value.okWide Tryz.prog w r b0 22 v) (h : DataW.Trod enc Tryz.prog w base spare held 22 v d p) : ∃ n : Nat, v = .int .u64 n ∧ n ≤ maxU := by
  obtain ⟨n, rfl, _, _, hw⟩ := open_int Tryz.underlying22 hv h
  have := bounds_u64 hw
  obtain ⟨m, rfl⟩ := Int.eq_ofNat_of_zero_le this.1
  exact ⟨m, rfl, by unfold maxU; omega⟩
theorem openInt (hv : Value.okWide Tryz.prog w r b0 3 v) (h : DataW.Trod enc Tryz.prog w base spare held 3 v d p) : ∃ n : Int, v = .int .i64 n ∧ -9223372036854775808 ≤ n ∧ n ≤ 9223372036854775807 := by
  obtain ⟨n, rfl, _, _, hw⟩ := open_int Tryz.underlying3 hv h
  have := bounds_i64 hw
  exact ⟨n, rfl, this.1, this.2⟩
end
end Go.Proofs.YtmgdbfmlnmahpaaGreatDoor
