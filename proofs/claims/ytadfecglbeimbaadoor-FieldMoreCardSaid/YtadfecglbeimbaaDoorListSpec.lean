/- Plain: lists of texts and their bytes are one to one; fewer bytes ask for more. -/
import Derived.Test.YtadfecglbeimbaaDoorBack02
namespace Go.Proofs.YtadfecglbeimbaaDoor

/-- what reading a list gives -/
inductive GotS where
  | more
  | field
  | ok (ts : List (List UInt8)) (rest : List UInt8)
def textsA : Nat → List (List UInt8) → List UInt8 → GotS
  | 0, acc, l => .ok acc l
  | n + 1, acc, l => match textL l with
    | .more => .more
    | .field => .field
    | .ok t r => textsA n (acc ++ [t]) r
def listG : Got → GotS
  | .more => .more
  | .field => .field
  | .ok n r => if 100 < n then .field else textsA n [] r
def listL (l : List UInt8) : GotS := listG (getL l)

/-- a list's bytes -/
def putTextsL (L : List (List UInt8)) : List UInt8 := (L.map putTextL).flatten
def putListL (L : List (List UInt8)) : List UInt8 := put L.length ++ putTextsL L

theorem textsA_succ (n : Nat) (acc : List (List UInt8)) (l : List UInt8) : textsA (n + 1) acc l = match textL l with
    | .more => .more
    | .field => .field
    | .ok t r => textsA n (acc ++ [t]) r := rfl
theorem textsA_more {n : Nat} {acc : List (List UInt8)} {l : List UInt8} (h : textL l = .more) : textsA (n + 1) acc l = .more := by rw [textsA_succ, h]
theorem textsA_field {n : Nat} {acc : List (List UInt8)} {l : List UInt8} (h : textL l = .field) : textsA (n + 1) acc l = .field := by rw [textsA_succ, h]
theorem textsA_ok {n : Nat} {acc : List (List UInt8)} {l t r : List UInt8} (h : textL l = .ok t r) : textsA (n + 1) acc l = textsA n (acc ++ [t]) r := by rw [textsA_succ, h]

theorem textL_back (l t r : List UInt8) (h : textL l = .ok t r) : putTextL t ++ r = l ∧ t.length ≤ 400 ∧ r.length < l.length := by
  unfold textL at h
  cases hg : getL l with
  | more => rw [hg] at h; cases h
  | field => rw [hg] at h; cases h
  | ok n u =>
    rw [hg] at h
    obtain ⟨h1, _, h3⟩ := getL_back l n u hg
    by_cases c1 : 400 < n
    · rw [textG_1 c1] at h; cases h
    · by_cases c2 : u.length < n
      · rw [textG_2 c1 c2] at h; cases h
      · rw [textG_3 c1 c2] at h
        injection h with e1 e2
        subst e1 e2
        have hl : (u.take n).length = n := by rw [List.length_take]; omega
        refine ⟨?_, by omega, by rw [List.length_drop]; omega⟩
        unfold putTextL
        rw [hl, List.append_assoc, List.take_append_drop, h1]

theorem textsA_put (L : List (List UInt8)) : ∀ (acc : List (List UInt8)) (r : List UInt8), (∀ x ∈ L, x.length ≤ 400) → textsA L.length acc (putTextsL L ++ r) = .ok (acc ++ L) r := by
  induction L with
  | nil => intro acc r _; simp [textsA, putTextsL]
  | cons x L ih =>
    intro acc r h
    have e : putTextsL (x :: L) ++ r = putTextL x ++ (putTextsL L ++ r) := by simp [putTextsL]
    rw [List.length_cons, e, textsA_ok (textL_put x _ (h x (by simp))), ih _ _ (fun y hy => h y (by simp [hy]))]
    simp
theorem textsA_back (n : Nat) : ∀ (acc : List (List UInt8)) (l : List UInt8) (ts : List (List UInt8)) (r : List UInt8), textsA n acc l = .ok ts r → ∃ L, ts = acc ++ L ∧ L.length = n ∧ (∀ x ∈ L, x.length ≤ 400) ∧ putTextsL L ++ r = l := by
  induction n with
  | zero =>
    intro acc l ts r h
    injection h with e1 e2
    exact ⟨[], by simp [e1], rfl, by simp, by simp [putTextsL, e2]⟩
  | succ n ih =>
    intro acc l ts r h
    cases hg : textL l with
    | more => rw [textsA_more hg] at h; cases h
    | field => rw [textsA_field hg] at h; cases h
    | ok t u =>
      rw [textsA_ok hg] at h
      obtain ⟨L, h1, h2, h3, h4⟩ := ih _ _ _ _ h
      obtain ⟨g1, g2, _⟩ := textL_back l t u hg
      refine ⟨t :: L, by simp [h1], by simp [h2], ?_, ?_⟩
      · intro x hx
        rcases List.mem_cons.1 hx with rfl | hx
        · exact g2
        · exact h3 x hx
      · rw [← g1, ← h4]; simp [putTextsL]
theorem listL_put (L : List (List UInt8)) (hL : L.length ≤ 100) (h : ∀ x ∈ L, x.length ≤ 400) (r : List UInt8) : listL (putListL L ++ r) = .ok L r := by
  unfold listL putListL
  rw [List.append_assoc, getL_put _ (by omega)]
  show (if 100 < L.length then GotS.field else textsA L.length [] (putTextsL L ++ r)) = _
  rw [if_neg (by omega), textsA_put L [] r h]
  simp
theorem listL_back (l : List UInt8) (L : List (List UInt8)) (r : List UInt8) (h : listL l = .ok L r) : putListL L ++ r = l ∧ L.length ≤ 100 ∧ (∀ x ∈ L, x.length ≤ 400) := by
  unfold listL at h
  cases hg : getL l with
  | more => rw [hg] at h; cases h
  | field => rw [hg] at h; cases h
  | ok n u =>
    rw [hg] at h
    have h' : (if 100 < n then GotS.field else textsA n [] u) = .ok L r := h
    by_cases c : 100 < n
    · rw [if_pos c] at h'; cases h'
    · rw [if_neg c] at h'
      obtain ⟨M, h1, h2, h3, h4⟩ := textsA_back n _ _ _ _ h'
      rw [List.nil_append] at h1
      subst h1
      refine ⟨?_, by omega, h3⟩
      unfold putListL
      rw [List.append_assoc, h4, h2]
      exact (getL_back l n u hg).1

/-- fewer bytes of a number ask for more -/
theorem getL_take (n j : Nat) (hj : j < (put n).length) : getL ((put n).take j) = .more := by
  rw [put_len] at hj
  rw [put_hd]
  cases j with
  | zero => rfl
  | succ j =>
    rw [List.take_succ_cons, getL_cons, hd_toNat, behind_hd, if_pos]
    rw [List.length_take, be_length]
    omega
theorem take_app (a b : List UInt8) (j : Nat) : (j < a.length ∧ (a ++ b).take j = a.take j) ∨ (a.length ≤ j ∧ (a ++ b).take j = a ++ b.take (j - a.length)) := by
  by_cases h : j < a.length
  · exact .inl ⟨h, List.take_append_of_le_length (by omega)⟩
  · refine .inr ⟨by omega, ?_⟩
    rw [List.take_append, List.take_of_length_le (by omega)]
theorem textL_take (t : List UInt8) (ht : t.length ≤ 400) (j : Nat) (hj : j < (putTextL t).length) : textL ((putTextL t).take j) = .more := by
  unfold putTextL at hj ⊢
  unfold textL
  rcases take_app (put t.length) t j with ⟨h1, h2⟩ | ⟨h1, h2⟩
  · rw [h2, getL_take _ _ h1]; rfl
  · rw [h2, getL_put _ (by omega), textG_2 (by omega) (by rw [List.length_append] at hj; rw [List.length_take]; omega)]
theorem textsA_take (L : List (List UInt8)) : ∀ (acc : List (List UInt8)) (j : Nat), (∀ x ∈ L, x.length ≤ 400) → j < (putTextsL L).length → textsA L.length acc ((putTextsL L).take j) = .more := by
  induction L with
  | nil => intro acc j _ h; simp [putTextsL] at h
  | cons x L ih =>
    intro acc j h hj
    have e : putTextsL (x :: L) = putTextL x ++ putTextsL L := by simp [putTextsL]
    rw [e] at hj ⊢
    rw [List.length_cons]
    rcases take_app (putTextL x) (putTextsL L) j with ⟨h1, h2⟩ | ⟨h1, h2⟩
    · rw [h2, textsA_more (textL_take x (h x (by simp)) j h1)]
    · rw [h2, textsA_ok (textL_put x _ (h x (by simp))), ih _ _ (fun y hy => h y (by simp [hy])) (by rw [List.length_append] at hj; omega)]
theorem listL_take (L : List (List UInt8)) (hL : L.length ≤ 100) (h : ∀ x ∈ L, x.length ≤ 400) (j : Nat) (hj : j < (putListL L).length) : listL ((putListL L).take j) = .more := by
  unfold listL
  unfold putListL at hj ⊢
  rcases take_app (put L.length) (putTextsL L) j with ⟨h1, h2⟩ | ⟨h1, h2⟩
  · rw [h2, getL_take _ _ h1]; rfl
  · rw [h2, getL_put _ (by omega)]
    show (if 100 < L.length then GotS.field else textsA L.length [] _) = _
    rw [if_neg (by omega), textsA_take L [] _ h (by rw [List.length_append] at hj; omega)]

theorem putTextL_len (t : List UInt8) (h : t.length ≤ 400) : (putTextL t).length ≤ 409 := by
  have := put_length t.length
  unfold putTextL
  rw [List.length_append]
  omega
theorem putTextsL_len (L : List (List UInt8)) (h : ∀ x ∈ L, x.length ≤ 400) : (putTextsL L).length ≤ 409 * L.length := by
  induction L with
  | nil => simp [putTextsL]
  | cons x L ih =>
    have e : putTextsL (x :: L) = putTextL x ++ putTextsL L := by simp [putTextsL]
    have h1 := putTextL_len x (h x (by simp))
    have h2 := ih (fun y hy => h y (by simp [hy]))
    rw [e, List.length_append, List.length_cons]
    omega
theorem putListL_len (L : List (List UInt8)) (hL : L.length ≤ 100) (h : ∀ x ∈ L, x.length ≤ 400) : (putListL L).length ≤ 50000 := by
  have h1 := putTextsL_len L h
  have h2 := put_length L.length
  unfold putListL
  rw [List.length_append]
  omega

end Go.Proofs.YtadfecglbeimbaaDoor
