/- Plain: the frames that a stream begins with. -/
import Derived.Test.YtafabdgkinfceaaDoorFrm
namespace Go.Proofs.YtafabdgkinfceaaDoor

def allF : Nat → List UInt8 → List (List UInt8) × List UInt8 × Nat
  | 0, s => ([], s, 20)
  | f + 1, s => match readL s with
    | .bad no => ([], s, no)
    | .ok b r => (b :: (allF f r).1, (allF f r).2)
def allL (s : List UInt8) : List (List UInt8) × List UInt8 × Nat := allF (s.length + 1) s

theorem readL_less {s b r : List UInt8} (h : readL s = .ok b r) : r.length < s.length := by
  obtain ⟨e, _, _⟩ := readL_back _ _ _ h
  rw [e, List.length_append, frmL_length]
  omega
theorem allF_bad {s : List UInt8} {no f : Nat} (h : readL s = .bad no) : allF (f + 1) s = ([], s, no) := by
  show (match readL s with | .bad no => ([], s, no) | .ok b r => (b :: (allF f r).1, (allF f r).2)) = _
  rw [h]
theorem allF_ok {s b r : List UInt8} {f : Nat} (h : readL s = .ok b r) : allF (f + 1) s = (b :: (allF f r).1, (allF f r).2) := by
  show (match readL s with | .bad no => ([], s, no) | .ok b r => (b :: (allF f r).1, (allF f r).2)) = _
  rw [h]
theorem allF_fuel : ∀ (f g : Nat) (s : List UInt8), s.length < f → s.length < g → allF f s = allF g s
  | 0, _, _, h, _ => absurd h (by omega)
  | _, 0, _, _, h => absurd h (by omega)
  | f + 1, g + 1, s, hf, hg => by
    cases h : readL s with
    | bad no => rw [allF_bad h, allF_bad h]
    | ok b r =>
      have := readL_less h
      rw [allF_ok h, allF_ok h, allF_fuel f g r (by omega) (by omega)]
theorem allL_bad {s : List UInt8} {no : Nat} (h : readL s = .bad no) : allL s = ([], s, no) := allF_bad h
theorem allL_ok {s b r : List UInt8} (h : readL s = .ok b r) : allL s = (b :: (allL r).1, (allL r).2) := by
  have := readL_less h
  unfold allL
  rw [allF_ok h, allF_fuel s.length (r.length + 1) r (by omega) (by omega)]

/-- what has been found, and what is still to be read -/
def AllRel (s : List UInt8) (acc : List (List UInt8)) (cur : List UInt8) : Prop := allL s = (acc ++ (allL cur).1, (allL cur).2) ∧ cur.length ≤ s.length
theorem AllRel.start (s : List UInt8) : AllRel s [] s := ⟨rfl, Nat.le_refl _⟩
theorem AllRel.next {s cur b r : List UInt8} {acc : List (List UInt8)} (h : AllRel s acc cur) (hr : readL cur = .ok b r) : AllRel s (acc ++ [b]) r := by
  have := readL_less hr
  refine ⟨?_, by have := h.2; omega⟩
  rw [h.1, allL_ok hr]
  simp
theorem AllRel.done {s cur : List UInt8} {acc : List (List UInt8)} {no : Nat} (h : AllRel s acc cur) (hr : readL cur = .bad no) : allL s = (acc, cur, no) := by
  rw [h.1, allL_bad hr]
  simp
theorem all_len : ∀ (f : Nat) (s : List UInt8), (allF f s).1.length ≤ s.length
  | 0, s => by simp [allF]
  | f + 1, s => by
    cases h : readL s with
    | bad no => rw [allF_bad h]; simp
    | ok b r =>
      have := readL_less h
      have := all_len f r
      rw [allF_ok h]
      simp
      omega

/-- frames, one behind the other -/
def catF (Ls : List (List UInt8)) : List UInt8 := (Ls.map frmL).flatten
def GoodF (Ls : List (List UInt8)) : Prop := ∀ x ∈ Ls, x ≠ [] ∧ x.length ≤ 2000
theorem all_cat (tl : List UInt8) (no : Nat) (ht : readL tl = .bad no) : ∀ (Ls : List (List UInt8)), GoodF Ls → allL (catF Ls ++ tl) = (Ls, tl, no)
  | [], _ => by simpa [catF] using allL_bad ht
  | x :: Ls, h => by
    have hx := h x (by simp)
    have ih := all_cat tl no ht Ls (fun y hy => h y (by simp [hy]))
    have hr : readL (catF (x :: Ls) ++ tl) = .ok x (catF Ls ++ tl) := by
      have := readL_frm x (catF Ls ++ tl) hx.1 hx.2
      simpa [catF] using this
    rw [allL_ok hr, ih]
/-- a stream of frames, cut -/
theorem cut_cat : ∀ (Ls : List (List UInt8)) (j : Nat), GoodF Ls → j ≤ (catF Ls).length → ∃ A B tl, Ls = A ++ B ∧ (catF Ls).take j = catF A ++ tl ∧ readL tl = .bad 20 ∧ tl ++ (catF Ls).drop j = catF B
  | [], j, _, hj => ⟨[], [], [], rfl, by simp [catF], rfl, by simp [catF]⟩
  | x :: Ls, j, h, hj => by
    have hx := h x (by simp)
    have e : catF (x :: Ls) = frmL x ++ catF Ls := by simp [catF]
    rcases Nat.lt_or_ge j (frmL x).length with hlt | hge
    · refine ⟨[], x :: Ls, (frmL x).take j, rfl, ?_, readL_take x hx.1 hx.2 j hlt, ?_⟩
      · rw [e, List.take_append_of_le_length (by omega)]
        simp [catF]
      · rw [e, List.drop_append_of_le_length (by omega), ← List.append_assoc, List.take_append_drop]
    · rw [e, List.length_append] at hj
      obtain ⟨A, B, tl, h1, h2, h3, h4⟩ := cut_cat Ls (j - (frmL x).length) (fun y hy => h y (by simp [hy])) (by omega)
      refine ⟨x :: A, B, tl, by rw [h1]; rfl, ?_, h3, ?_⟩
      · rw [e, List.take_append, List.take_of_length_le hge, h2]
        simp [catF]
      · rw [e, List.drop_append, List.drop_of_length_le hge, List.nil_append]
        exact h4
theorem streams (Ls : List (List UInt8)) (j : Nat) (h : GoodF Ls) (hj : j ≤ (catF Ls).length) : ∃ A B tl, Ls = A ++ B ∧ allL ((catF Ls).take j) = (A, tl, 20) ∧ allL (tl ++ (catF Ls).drop j) = (B, [], 20) := by
  obtain ⟨A, B, tl, h1, h2, h3, h4⟩ := cut_cat Ls j h hj
  refine ⟨A, B, tl, h1, ?_, ?_⟩
  · rw [h2, all_cat tl 20 h3 A (fun y hy => h y (by rw [h1]; exact List.mem_append_left _ hy))]
  · have := all_cat [] 20 rfl B (fun y hy => h y (by rw [h1]; exact List.mem_append_right _ hy))
    rw [h4]
    simpa using this
end Go.Proofs.YtafabdgkinfceaaDoor
