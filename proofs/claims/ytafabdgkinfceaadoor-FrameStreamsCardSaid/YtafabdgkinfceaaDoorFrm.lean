/- Plain: checks, frames, and what is read. -/
import Derived.Test.YtafabdgkinfceaaDoorGetLaws
namespace Go.Proofs.YtafabdgkinfceaaDoor

/-- a byte taken into a check's halves -/
def stepC (p : Nat × Nat) (x : UInt8) : Nat × Nat := ((p.1 + x.toNat) % 65521, (p.2 + (p.1 + x.toNat) % 65521) % 65521)
def chkP (l : List UInt8) : Nat × Nat := l.foldl stepC (1, 0)
def chkN (l : List UInt8) : Nat := (chkP l).2 * 65536 + (chkP l).1
theorem chkP_snoc (l : List UInt8) (x : UInt8) : chkP (l ++ [x]) = stepC (chkP l) x := by simp [chkP]
theorem step_lt (p : Nat × Nat) (x : UInt8) : (stepC p x).1 < 65521 ∧ (stepC p x).2 < 65521 := ⟨Nat.mod_lt _ (by decide), Nat.mod_lt _ (by decide)⟩
theorem fold_lt (l : List UInt8) : ∀ p : Nat × Nat, p.1 < 65521 → p.2 < 65521 → (l.foldl stepC p).1 < 65521 ∧ (l.foldl stepC p).2 < 65521 := by
  induction l with
  | nil => intro p h1 h2; exact ⟨h1, h2⟩
  | cons x l ih => intro p _ _; exact ih _ (step_lt p x).1 (step_lt p x).2
theorem chkP_lt (l : List UInt8) : (chkP l).1 < 65521 ∧ (chkP l).2 < 65521 := fold_lt l _ (by decide) (by decide)
theorem chkN_lt (l : List UInt8) : chkN l < 4294967296 := by
  have := chkP_lt l
  unfold chkN
  omega
theorem chkP_take {l : List UInt8} {k : Nat} {x : UInt8} (h : l[k]? = some x) : chkP (l.take (k + 1)) = stepC (chkP (l.take k)) x := by
  rw [List.take_add_one, h]
  exact chkP_snoc _ _
/-- the first half is a sum -/
theorem fold_fst (l : List UInt8) : ∀ p : Nat × Nat, p.1 < 65521 → (l.foldl stepC p).1 = (p.1 + (l.map UInt8.toNat).sum) % 65521 := by
  induction l with
  | nil => intro p h; simp; omega
  | cons x l ih =>
    intro p h
    rw [List.foldl_cons, ih _ (step_lt p x).1]
    simp only [stepC, List.map_cons, List.sum_cons]
    omega
theorem chkP_fst (l : List UInt8) : (chkP l).1 = (1 + (l.map UInt8.toNat).sum) % 65521 := fold_fst l (1, 0) (by decide)

/-- the frame of bytes -/
def frmL (l : List UInt8) : List UInt8 := 167 :: (put l.length ++ (l ++ be (chkN l) 4))
inductive RGot where
  | bad (no : Nat)
  | ok (body rest : List UInt8)
def readN (n : Nat) (r : List UInt8) : RGot :=
  if n = 0 ∨ 2000 < n then .bad 30 else if r.length < n + 4 then .bad 20 else if chkN (r.take n) ≠ val ((r.drop n).take 4) then .bad 31 else .ok (r.take n) (r.drop (n + 4))
def readG : Got → RGot
  | .more => .bad 20
  | .field => .bad 30
  | .ok n r => readN n r
def readL : List UInt8 → RGot
  | [] => .bad 20
  | b :: t => if b ≠ 167 then .bad 30 else readG (getL t)
theorem readL_mark (t : List UInt8) : readL (167 :: t) = readG (getL t) := by
  show (if (167 : UInt8) ≠ 167 then RGot.bad 30 else readG (getL t)) = _
  rw [if_neg (by decide)]

theorem frmL_length (l : List UInt8) : (frmL l).length = 1 + (put l.length).length + l.length + 4 := by
  simp [frmL, be_length]; omega
theorem readL_frm (l more : List UInt8) (h1 : l ≠ []) (h2 : l.length ≤ 2000) : readL (frmL l ++ more) = .ok l more := by
  have h0 : 0 < l.length := List.length_pos_iff.2 h1
  unfold frmL
  rw [List.cons_append, readL_mark, List.append_assoc, getL_put _ (by omega)]
  show readN _ _ = _
  have hb : (be (chkN l) 4).length = 4 := be_length _ _
  unfold readN
  rw [if_neg (by omega), if_neg (by simp [hb])]
  have e1 : (l ++ be (chkN l) 4 ++ more).take l.length = l := by rw [List.append_assoc, List.take_left]
  have e2 : (l ++ be (chkN l) 4 ++ more).drop l.length = be (chkN l) 4 ++ more := by rw [List.append_assoc, List.drop_left]
  have e3 : (be (chkN l) 4 ++ more).take 4 = be (chkN l) 4 := by rw [List.take_append_of_le_length (by omega), List.take_of_length_le (by omega)]
  have e4 : (l ++ be (chkN l) 4 ++ more).drop (l.length + 4) = more := by
    rw [← List.drop_drop, e2, List.drop_append_of_le_length (by omega), List.drop_of_length_le (by omega), List.nil_append]
  rw [e1, e2, e3, e4, val_be 4 _ (by have := chkN_lt l; simpa using this), if_neg (by simp)]

/-- what reads is a frame -/
theorem readL_back (s b r : List UInt8) (h : readL s = .ok b r) : s = frmL b ++ r ∧ b ≠ [] ∧ b.length ≤ 2000 := by
  cases s with
  | nil => cases h
  | cons x t =>
    by_cases hx : x = 167
    · subst hx
      rw [readL_mark] at h
      cases hg : getL t with
      | more => rw [hg] at h; cases h
      | field => rw [hg] at h; cases h
      | ok n q =>
        rw [hg] at h
        replace h : readN n q = .ok b r := h
        unfold readN at h
        obtain ⟨hb, hn, _⟩ := getL_back _ _ _ hg
        by_cases c1 : n = 0 ∨ 2000 < n
        · rw [if_pos c1] at h; cases h
        rw [if_neg c1] at h
        by_cases c2 : q.length < n + 4
        · rw [if_pos c2] at h; cases h
        rw [if_neg c2] at h
        by_cases c3 : chkN (q.take n) ≠ val ((q.drop n).take 4)
        · rw [if_pos c3] at h; cases h
        rw [if_neg c3] at h
        injection h with e1 e2
        have hl : (q.take n).length = n := by rw [List.length_take]; omega
        have h4 : ((q.drop n).take 4).length = 4 := by rw [List.length_take, List.length_drop]; omega
        refine ⟨?_, ?_, by rw [← e1, hl]; omega⟩
        · rw [← e1, ← e2]
          unfold frmL
          rw [hl, Decidable.not_not.1 c3]
          have hv := be_val ((q.drop n).take 4)
          rw [h4] at hv
          rw [hv, List.cons_append, List.append_assoc, List.append_assoc]
          congr 1
          rw [← hb]
          congr 1
          have e5 : q.drop (n + 4) = (q.drop n).drop 4 := by rw [List.drop_drop]
          rw [e5, List.take_append_drop, List.take_append_drop]
        · intro e
          rw [← e1] at e
          rw [e] at hl
          simp at hl
          omega
    · have : readL (x :: t) = .bad 30 := if_pos hx
      rw [this] at h
      cases h

theorem getL_take (n j : Nat) (hj : j < (put n).length) : getL ((put n).take j) = .more := by
  cases j with
  | zero => rfl
  | succ j =>
    rw [put_len] at hj
    rw [put_hd, List.take_succ_cons, getL_cons, hd_toNat, behind_hd, if_pos]
    rw [List.length_take, be_length]
    omega
theorem take_app (a b : List UInt8) (j : Nat) : (j < a.length ∧ (a ++ b).take j = a.take j) ∨ (a.length ≤ j ∧ (a ++ b).take j = a ++ b.take (j - a.length)) := by
  rcases Nat.lt_or_ge j a.length with h | h
  · exact .inl ⟨h, List.take_append_of_le_length (by omega)⟩
  · exact .inr ⟨h, by rw [List.take_append, List.take_of_length_le h]⟩
/-- fewer bytes of a frame ask for more -/
theorem readL_take (l : List UInt8) (h1 : l ≠ []) (h2 : l.length ≤ 2000) (j : Nat) (hj : j < (frmL l).length) : readL ((frmL l).take j) = .bad 20 := by
  have h0 : 0 < l.length := List.length_pos_iff.2 h1
  rw [frmL_length] at hj
  cases j with
  | zero => rfl
  | succ j =>
    unfold frmL
    rw [List.take_succ_cons, readL_mark]
    rcases take_app (put l.length) (l ++ be (chkN l) 4) j with ⟨h, e⟩ | ⟨h, e⟩
    · rw [e, getL_take _ _ h]; rfl
    · rw [e, getL_put _ (by omega)]
      show readN _ _ = _
      unfold readN
      rw [if_neg (by omega), if_pos]
      rw [List.length_take, List.length_append, be_length]
      omega

/-- one byte of a frame's content or check that is another one is found -/
theorem sum_set (l : List UInt8) : ∀ (i : Nat) (x : UInt8), i < l.length → ((l.set i x).map UInt8.toNat).sum + (l.getD i 0).toNat = (l.map UInt8.toNat).sum + x.toNat := by
  induction l with
  | nil => intro i x h; simp at h
  | cons y l ih =>
    intro i x h
    cases i with
    | zero => simp; omega
    | succ i =>
      have := ih i x (by simpa using h)
      simp at this ⊢
      omega
theorem chk_set (l : List UInt8) (i : Nat) (x : UInt8) (hi : i < l.length) (hx : x ≠ l.getD i 0) : chkN (l.set i x) ≠ chkN l := by
  intro e
  have a1 := chkP_lt l
  have a2 := chkP_lt (l.set i x)
  have b1 := chkP_fst l
  have b2 := chkP_fst (l.set i x)
  have hs := sum_set l i x hi
  have hn : x.toNat ≠ (l.getD i 0).toNat := fun h => hx (UInt8.toNat_inj.1 h)
  have c1 := x.toNat_lt
  have c2 := (l.getD i 0).toNat_lt
  unfold chkN at e
  have e1 : (chkP (l.set i x)).1 = (chkP l).1 := by omega
  omega
theorem val_set_ne (l m : List UInt8) (h : l ≠ m) (hl : l.length = m.length) : val l ≠ val m := by
  intro e
  apply h
  rw [← be_val l, ← be_val m, e, hl]

/-- .. at a place behind the frame's head -/
theorem readL_set (l : List UInt8) (h1 : l ≠ []) (h2 : l.length ≤ 2000) (i : Nat) (hi : i < l.length + 4) (x : UInt8) (hx : x ≠ (l ++ be (chkN l) 4).getD i 0) :
    readL (167 :: (put l.length ++ (l ++ be (chkN l) 4).set i x)) = .bad 31 := by
  have h0 : 0 < l.length := List.length_pos_iff.2 h1
  have hb : (be (chkN l) 4).length = 4 := be_length _ _
  rw [readL_mark, getL_put _ (by omega)]
  show readN _ _ = _
  unfold readN
  rw [if_neg (by omega), if_neg (by simp [hb])]
  have hv := val_be 4 (chkN l) (by have := chkN_lt l; simpa using this)
  rcases Nat.lt_or_ge i l.length with h | h
  · have hx' : x ≠ l.getD i 0 := by
      have e : (l ++ be (chkN l) 4).getD i 0 = l.getD i 0 := by simp [List.getD, List.getElem?_append_left h]
      rwa [e] at hx
    rw [List.set_append_left _ _ h]
    have e1 : (l.set i x ++ be (chkN l) 4).take l.length = l.set i x := List.take_left' (by simp)
    have e2 : (l.set i x ++ be (chkN l) 4).drop l.length = be (chkN l) 4 := List.drop_left' (by simp)
    rw [e1, e2, List.take_of_length_le (by omega), hv, if_pos (chk_set l i x h hx')]
  · have hx' : x ≠ (be (chkN l) 4).getD (i - l.length) 0 := by
      have e : (l ++ be (chkN l) 4).getD i 0 = (be (chkN l) 4).getD (i - l.length) 0 := by simp [List.getD, List.getElem?_append_right h]
      rwa [e] at hx
    rw [List.set_append_right _ _ h]
    have e1 : (l ++ (be (chkN l) 4).set (i - l.length) x).take l.length = l := List.take_left
    have e2 : (l ++ (be (chkN l) 4).set (i - l.length) x).drop l.length = (be (chkN l) 4).set (i - l.length) x := List.drop_left
    rw [e1, e2, List.take_of_length_le (by simp [hb]), if_pos]
    intro e
    refine val_set_ne ((be (chkN l) 4).set (i - l.length) x) (be (chkN l) 4) ?_ (by simp) (e.symm.trans hv.symm)
    intro e5
    apply hx'
    have h6 : ((be (chkN l) 4).set (i - l.length) x)[i - l.length]? = some x := List.getElem?_set_self (by omega)
    rw [e5] at h6
    simp [List.getD, h6]

end Go.Proofs.YtafabdgkinfceaaDoor
