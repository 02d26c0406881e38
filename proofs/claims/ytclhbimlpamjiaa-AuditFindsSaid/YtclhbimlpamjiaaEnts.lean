/- Rows of entries of the call's own, and append. -/
import Derived.Test.YtclhbimlpamjiaaChain
import Derived.Laws.AppendOwnNone
namespace Go.Proofs.Ytclhbimlpamjiaa
open Go.RowKit

/-- an entry's cells -/
def Ent.cells (x : Ent) : List Value := [.int .u64 x.seq, .int .u64 x.at', .string x.text, .int .u64 x.sum]
def cellsE (L : List Ent) : List Value := L.flatMap Ent.cells
theorem cellsE_nil : cellsE [] = [] := rfl
theorem cellsE_cons (x : Ent) (L : List Ent) : cellsE (x :: L) = .int .u64 x.seq :: .int .u64 x.at' :: .string x.text :: .int .u64 x.sum :: cellsE L := rfl
theorem cellsE_append (L M : List Ent) : cellsE (L ++ M) = cellsE L ++ cellsE M := by simp [cellsE]
theorem cellsE_length (L : List Ent) : (cellsE L).length = L.length * 4 := by
  induction L with
  | nil => rfl
  | cons x L ih => rw [cellsE_cons]; simp [ih]; omega
theorem cellsE_at (L : List Ent) (i : Nat) (x : Ent) (h : L[i]? = some x) :
    (cellsE L)[i * 4]? = some (.int .u64 x.seq) ∧ (cellsE L)[i * 4 + 1]? = some (.int .u64 x.at') ∧ (cellsE L)[i * 4 + 2]? = some (.string x.text) ∧ (cellsE L)[i * 4 + 3]? = some (.int .u64 x.sum) := by
  induction L generalizing i with
  | nil => simp at h
  | cons y L ih =>
    cases i with
    | zero => simp at h; subst h; simp [cellsE_cons]
    | succ i =>
      simp only [List.getElem?_cons_succ] at h
      have := ih i h
      have e : (i + 1) * 4 = i * 4 + 4 := by omega
      rw [e, cellsE_cons]
      exact this
theorem cellsE_one (L : List Ent) : ∀ u ∈ cellsE L, u.oneCell' = true := by
  induction L with
  | nil => simp [cellsE]
  | cons x L ih =>
    intro u hu
    rw [cellsE_cons] at hu
    simp only [List.mem_cons] at hu
    rcases hu with rfl | rfl | rfl | rfl | hu
    · rfl
    · rfl
    · rfl
    · rfl
    · exact ih u hu

/-- what a list's cells are, place by place -/
theorem cellsE_spot (L : List Ent) (j : Nat) (u : Value) (h : (cellsE L)[j]? = some u) : ∃ x, L[j / 4]? = some x ∧ x.cells[j % 4]? = some u := by
  have hj : j < L.length * 4 := by
    have := (List.getElem?_eq_some_iff.1 h).1
    rwa [cellsE_length] at this
  have hx : L[j / 4]? = some (L[j / 4]'(by omega)) := List.getElem?_eq_getElem (by omega)
  refine ⟨_, hx, ?_⟩
  obtain ⟨h0, h1, h2, h3⟩ := cellsE_at L (j / 4) _ hx
  generalize (L[j / 4]'(by omega)) = x at *
  have e : j % 4 = 0 ∨ j % 4 = 1 ∨ j % 4 = 2 ∨ j % 4 = 3 := by omega
  rcases e with e | e | e | e
  · have e' : j / 4 * 4 = j := by omega
    rw [e'] at h0
    rw [e]; exact h0.symm.trans h
  · have e' : j / 4 * 4 + 1 = j := by omega
    rw [e'] at h1
    rw [e]; exact h1.symm.trans h
  · have e' : j / 4 * 4 + 2 = j := by omega
    rw [e'] at h2
    rw [e]; exact h2.symm.trans h
  · have e' : j / 4 * 4 + 3 = j := by omega
    rw [e'] at h3
    rw [e]; exact h3.symm.trans h

/-- a row of entries of the call's own -/
abbrev OwnE (w : World) (B : Nat) (v : Value) (L : List Ent) : Prop := w.ownsRow B 38 4 v L.length (cellsE L)

/-- .. is a slice that reads so -/
theorem own_ents {w : World} {B : Nat} {v : Value} {L : List Ent} (h : OwnE w B v L) : ∃ s cap, v = .slice s L.length cap ∧ (s = none → cap = 0) ∧ Ents w s L ∧ (∀ a, s = some a → ∃ g, a = ⟨g, 0, none⟩ ∧ B ≤ g ∧ g < w.heap.size) := by
  have h' := h
  rcases h.2 with ⟨rfl, h0⟩ | ⟨g, cap, cur, rfl, hBg, hg, hnc, hcm, hcs, htake⟩
  · obtain rfl : L = [] := List.eq_nil_of_length_eq_zero h0
    exact ⟨none, 0, rfl, fun _ => rfl, fun i x hx => by simp at hx, by simp⟩
  · have hlt : g < w.heap.size := by
      rcases Nat.lt_or_ge g w.heap.size with h' | h'
      · exact h'
      · simp [Array.getElem?_eq_none h'] at hg
    refine ⟨some ⟨g, 0, none⟩, cap, rfl, by simp, fun i x hx => ?_, fun a ha => ⟨g, by simpa using ha.symm, hBg, hlt⟩⟩
    have hi : i < L.length := (List.getElem?_eq_some_iff.1 hx).1
    obtain ⟨h0, h1, h2, h3⟩ := cellsE_at L i x hx
    refine ⟨g, 0, rfl, hlt, ?_, ?_, ?_, ?_⟩
    · rw [Nat.zero_add, h'.cellAt _ (by omega)]; exact h0
    · rw [Nat.zero_add, h'.cellAt _ (by omega)]; exact h1
    · rw [Nat.zero_add, h'.cellAt _ (by omega)]; exact h2
    · rw [Nat.zero_add, h'.cellAt _ (by omega)]; exact h3

theorem infoEnt : (Try.prog.info? 38).map (fun i => (i.zero, i.size, i.bytes)) = some (some (.agg #[.int .u64 0, .int .u64 0, .string ⟨#[]⟩, .int .u64 0]), 4, 40) := by kernel_rfl

/-- append of a slice that reads as entries, to a row of the call's own -/
theorem append_ents {w : World} {ops : Array Oper} {rest : List Oper} {o : Oper} {a : Act} {Q : Exit → Act → World → Prop} (hgd : o.guard = none) (s x : Operand)
    (ho : o.op = .call { callee := .builtin .append, args := #[s, x], argTypes := #[25, 25] }) (B : Nat) (v : Value) (L : List Ent) (hs : a.eval s = v) (hown : OwnE w B v L)
    (M : List Ent) (m : Nat) (hm : m = M.length) (sx : Option Addr) (cx : Nat) (hx : a.eval x = .slice sx m cx) (hc : sx = none → cx = 0) (hM : Ents w sx M) (hn : L.length + M.length ≤ 100000) (hB : B ≤ w.heap.size)
    (h : ∀ v' w', OwnE w' B v' (L ++ M) → w.grownBy w' v.ownBlock → wpList Try.prog ops Q rest (a.put o.dst v') w') :
    wpList Try.prog ops Q (o :: rest) a w := by
  subst hm
  obtain ⟨i0, hi, hz0, hz1, hz2⟩ := info_parts infoEnt
  cases sx with
  | none =>
    obtain rfl : M = [] := by
      cases M with
      | nil => rfl
      | cons y M => obtain ⟨g, o, he, _⟩ := hM 0 y rfl; cases he
    obtain rfl := hc rfl
    refine wpList_append_own_none hgd s x 25 ho B 38 i0 4 Try.underlying25 hi v L.length (cellsE L) hs hown hx ?_
    refine h v w ?_ ⟨rfl, rfl, rfl, Nat.le_refl _, fun _ _ _ => rfl⟩
    unfold OwnE
    rw [List.append_nil]; exact hown
  | some ad =>
    refine wpList_append_own _ hgd s x 25 ho B 38 i0 _ 4 40 Try.underlying25 hi hz0 hz1 hz2 rfl (by decide) v L.length (cellsE L) hs hown ad M.length cx (cellsE M) hx (cellsE_length M) ?_ (cellsE_one M) (by unfold maxLen; omega) (by omega) hB ?_
    · intro j u hj
      obtain ⟨y, hy, hu⟩ := cellsE_spot M j u hj
      obtain ⟨g, o, he, hg, c0, c1, c2, c3⟩ := hM _ _ hy
      cases he
      rw [Addr.add_lit]
      have e : j % 4 = 0 ∨ j % 4 = 1 ∨ j % 4 = 2 ∨ j % 4 = 3 := by omega
      rcases e with e | e | e | e <;> rw [e] at hu <;> simp [Ent.cells] at hu <;> subst hu
      · have e' : o + j / 4 * 4 = o + j := by omega
        rw [e'] at c0; exact c0
      · have e' : o + j / 4 * 4 + 1 = o + j := by omega
        rw [e'] at c1; exact c1
      · have e' : o + j / 4 * 4 + 2 = o + j := by omega
        rw [e'] at c2; exact c2
      · have e' : o + j / 4 * 4 + 3 = o + j := by omega
        rw [e'] at c3; exact c3
    · intro v' w' hown' hg _
      refine h v' w' ?_ hg
      unfold OwnE
      rw [cellsE_append, List.length_append]; exact hown'

/-- a new slice of one entry -/
theorem ents_one (w : World) (x : Ent) : Ents (w.alloc (.cells #[.int .u64 x.seq, .int .u64 x.at', .string x.text, .int .u64 x.sum] 38)) (some ⟨w.heap.size, 0, none⟩) [x] := by
  intro i y hy
  have hi : i = 0 := by
    have := (List.getElem?_eq_some_iff.1 hy).1
    simp at this; exact this
  subst hi
  simp at hy
  subst hy
  exact ⟨w.heap.size, 0, rfl, by simp, by rw [World.cell?_alloc_new]; rfl, by rw [World.cell?_alloc_new]; rfl, by rw [World.cell?_alloc_new]; rfl, by rw [World.cell?_alloc_new]; rfl⟩
end Go.Proofs.Ytclhbimlpamjiaa
