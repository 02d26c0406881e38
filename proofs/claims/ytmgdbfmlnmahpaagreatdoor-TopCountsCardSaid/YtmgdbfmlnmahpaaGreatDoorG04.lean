/- A part of the proof of TopCounts. -/
import Derived.Lib.Hide
import Derived.Maps.Views
namespace Go.Proofs.YtmgdbfmlnmahpaaGreatDoor
def Asc (l : List Nat) : Prop := l.Pairwise (· < ·)
def ins (n : Nat) : List Nat → List Nat
  | [] => [n]
  | x :: l => if n < x then n :: x :: l else if n = x then x :: l else x :: ins n l
def lessN (l : List Nat) (n : Nat) : Nat := l.countP (fun x => decide (x < n))
def insAll (l ys : List Nat) : List Nat := ys.foldl (fun a n => ins n a) l
theorem ins_mem (n y : Nat) : ∀ l : List Nat, y ∈ ins n l ↔ y = n ∨ y ∈ l
  | [] => by simp [ins]
  | x :: l => by
    unfold ins
    split
    · simp
    · split
      · rename_i h; subst h; simp
      · rw [List.mem_cons, ins_mem n y l, List.mem_cons]
        constructor
        · rintro (h | h | h)
          · exact .inr (.inl h)
          · exact .inl h
          · exact .inr (.inr h)
        · rintro (h | h | h)
          · exact .inr (.inl h)
          · exact .inl h
          · exact .inr (.inr h)
theorem ins_asc (n : Nat) : ∀ l : List Nat, Asc l → Asc (ins n l)
  | [], _ => by simp [ins, Asc]
  | x :: l, h => by
    obtain ⟨h1, h2⟩ := List.pairwise_cons.1 h
    unfold ins
    split
    · rename_i c
      refine List.pairwise_cons.2 ⟨fun y hy => ?_, h⟩
      rcases List.mem_cons.1 hy with rfl | hy
      · exact c
      · exact Nat.lt_trans c (h1 y hy)
    · split
      · exact h
      · rename_i c1 c2
        refine List.pairwise_cons.2 ⟨fun y hy => ?_, ins_asc n l h2⟩
        rcases (ins_mem n y l).1 hy with rfl | hy
        · omega
        · exact h1 y hy
theorem ins_length_mem (n : Nat) : ∀ l : List Nat, Asc l → n ∈ l → ins n l = l
  | [], _, h => by simp at h
  | x :: l, ha, h => by
    obtain ⟨h1, h2⟩ := List.pairwise_cons.1 ha
    unfold ins
    rcases List.mem_cons.1 h with rfl | h
    · rw [if_neg (by omega), if_pos rfl]
    · have := h1 n h
      rw [if_neg (by omega), if_neg (by omega), ins_length_mem n l h2 h]
theorem ins_length_new (n : Nat) : ∀ l : List Nat, n ∉ l → (ins n l).length = l.length + 1
  | [], _ => rfl
  | x :: l, h => by
    unfold ins
    split
    · simp
    · split
      · rename_i c; exact absurd (List.mem_cons.2 (.inl c)) h
      · have := ins_length_new n l (fun h' => h (List.mem_cons_of_mem _ h'))
        simp [this]
theorem ins_le (n : Nat) (l : List Nat) : (ins n l).length ≤ l.length + 1 := by
  induction l with
  | nil => simp [ins]
  | cons x l ih =>
    unfold ins
    split
    · simp
    · split
      · simp
      · simp at ih ⊢; omega
theorem lessN_le (l : List Nat) (n : Nat) : lessN l n ≤ l.length := List.countP_le_length
theorem lessN_cons (x n : Nat) (l : List Nat) : lessN (x :: l) n = lessN l n + if x < n then 1 else 0 := by
  unfold lessN
  rw [List.countP_cons]
  simp
theorem lessN_zero {n : Nat} : ∀ {l : List Nat}, (∀ y ∈ l, n ≤ y) → lessN l n = 0
  | [], _ => rfl
  | x :: l, h => by
    have := h x (by simp)
    rw [lessN_cons, lessN_zero (fun y hy => h y (by simp [hy])), if_neg (by omega)]
theorem lessN_spec (n : Nat) : ∀ (l : List Nat), Asc l → ∀ (i x : Nat), l[i]? = some x → (i < lessN l n ↔ x < n)
  | [], _, i, x, h => by simp at h
  | y :: l, ha, i, x, h => by
    obtain ⟨h1, h2⟩ := List.pairwise_cons.1 ha
    rw [lessN_cons]
    cases i with
    | zero =>
      simp at h
      subst h
      by_cases c : y < n
      · rw [if_pos c]; omega
      · rw [if_neg c, lessN_zero (fun z hz => by have := h1 z hz; omega)]; omega
    | succ i =>
      simp at h
      have ih := lessN_spec n l h2 i x h
      have hx := h1 x (List.mem_of_getElem? h)
      by_cases c : y < n
      · rw [if_pos c]; omega
      · rw [if_neg c, lessN_zero (fun z hz => by have := h1 z hz; omega)]; omega
theorem ins_eq (n : Nat) : ∀ (l : List Nat), Asc l → ins n l = if l[lessN l n]? = some n then l else l.take (lessN l n) ++ n :: l.drop (lessN l n)
  | [], _ => rfl
  | x :: l, ha => by
    obtain ⟨h1, h2⟩ := List.pairwise_cons.1 ha
    have ih := ins_eq n l h2
    unfold ins
    by_cases c : n < x
    · have e0 : lessN (x :: l) n = 0 := lessN_zero (fun z hz => by
        rcases List.mem_cons.1 hz with rfl | hz
        · omega
        · have := h1 z hz; omega)
      rw [if_pos c, e0, if_neg (by simp; omega)]
      simp
    · rw [if_neg c]
      by_cases c2 : n = x
      · have e0 : lessN (x :: l) n = 0 := lessN_zero (fun z hz => by
          rcases List.mem_cons.1 hz with rfl | hz
          · omega
          · have := h1 z hz; omega)
        rw [if_pos c2, e0, if_pos (by simp [c2])]
      · have e1 : lessN (x :: l) n = lessN l n + 1 := by rw [lessN_cons, if_pos (by omega)]
        rw [if_neg c2, e1, ih, List.getElem?_cons_succ, List.take_succ_cons, List.drop_succ_cons]
        split <;> rfl
theorem ins_snoc (n : Nat) : ∀ l : List Nat, (∀ y ∈ l, y < n) → ins n l = l ++ [n]
  | [], _ => rfl
  | x :: l, h => by
    have := h x (by simp)
    unfold ins
    rw [if_neg (by omega), if_neg (by omega), ins_snoc n l (fun y hy => h y (by simp [hy]))]
    rfl
theorem insAll_snoc (l ys : List Nat) (n : Nat) : insAll l (ys ++ [n]) = ins n (insAll l ys) := by simp [insAll]
theorem insAll_asc (l : List Nat) (h : Asc l) : ∀ ys : List Nat, Asc (insAll l ys) := by
  intro ys
  induction ys generalizing l with
  | nil => exact h
  | cons y ys ih => exact ih _ (ins_asc y l h)
theorem insAll_le (l : List Nat) : ∀ ys : List Nat, (insAll l ys).length ≤ l.length + ys.length := by
  intro ys
  induction ys generalizing l with
  | nil => simp [insAll]
  | cons y ys ih =>
    have h1 := ih (ins y l)
    have h2 := ins_le y l
    simp [insAll] at h1 ⊢
    omega
theorem insAll_mem (y : Nat) : ∀ (ys l : List Nat), y ∈ insAll l ys ↔ y ∈ l ∨ y ∈ ys := by
  intro ys
  induction ys with
  | nil => intro l; simp [insAll]
  | cons z ys ih =>
    intro l
    have := ih (ins z l)
    simp only [insAll, List.foldl_cons] at this ⊢
    rw [this, ins_mem, List.mem_cons]
    constructor
    · rintro ((h | h) | h)
      · exact .inr (.inl h)
      · exact .inl h
      · exact .inr (.inr h)
    · rintro (h | h | h)
      · exact .inl (.inr h)
      · exact .inl (.inl h)
      · exact .inr h
theorem insAll_self : ∀ (k : Nat) (y : List Nat), Asc y → insAll [] (y.take k) = y.take k
  | 0, _, _ => rfl
  | k + 1, y, h => by
    cases hk : y[k]? with
    | none =>
      rw [List.getElem?_eq_none_iff] at hk
      rw [List.take_of_length_le (by omega)]
      have := insAll_self k y h
      rwa [List.take_of_length_le hk] at this
    | some n =>
      rw [List.take_add_one, hk]
      show insAll [] (y.take k ++ [n]) = y.take k ++ [n]
      rw [insAll_snoc, insAll_self k y h, ins_snoc]
      intro z hz
      obtain ⟨i, hi⟩ := List.mem_iff_getElem?.1 hz
      rw [List.getElem?_take] at hi
      split at hi
      · rename_i hik
        have hkl := (List.getElem?_eq_some_iff.1 hk).1
        have hil := (List.getElem?_eq_some_iff.1 hi).1
        have := List.pairwise_iff_getElem.1 h i k hil hkl hik
        have e1 : y[i] = z := by simpa [List.getElem?_eq_getElem hil] using hi
        have e2 : y[k] = n := by simpa [List.getElem?_eq_getElem hkl] using hk
        omega
      · cases hi
theorem insAll_all (y : List Nat) (h : Asc y) : insAll [] y = y := by
  have := insAll_self y.length y h
  rwa [List.take_of_length_le (Nat.le_refl _)] at this
def diffN (hs : List Nat) : Nat := (insAll [] hs).length
theorem diffN_snoc (hs : List Nat) (x : Nat) : diffN (hs ++ [x]) = diffN hs + if x ∈ hs then 0 else 1 := by
  unfold diffN
  rw [insAll_snoc]
  have ha := insAll_asc [] (by simp [Asc]) hs
  by_cases h : x ∈ hs
  · rw [if_pos h, ins_length_mem x _ ha ((insAll_mem x hs []).2 (.inr h))]
    rfl
  · rw [if_neg h, ins_length_new]
    intro hm
    rcases (insAll_mem x hs []).1 hm with h' | h'
    · simp at h'
    · exact h h'
end Go.Proofs.YtmgdbfmlnmahpaaGreatDoor
namespace Go.Proofs.YtmgdbfmlnmahpaaGreatDoor
def maxU : Nat := 18446744073709551615
def sat (a b : Nat) : Nat := min (a + b) maxU
theorem sat_le (a b : Nat) : sat a b ≤ maxU := Nat.min_le_right _ _
theorem sat_mono {a b c d : Nat} (h : a ≤ c) (k : b ≤ d) : sat a b ≤ sat c d := by unfold sat; omega
theorem sat_ge {a : Nat} (b : Nat) (h : a ≤ maxU) : a ≤ sat a b := by unfold sat; omega
theorem sat_zero {a : Nat} (h : a ≤ maxU) : sat a 0 = a := by unfold sat; omega
theorem zero_sat {a : Nat} (h : a ≤ maxU) : sat 0 a = a := by unfold sat; omega
def colC (r h : Nat) : Nat := (h / 4294967296 + r * (h % 4294967296)) % 32
def plcC (r h : Nat) : Nat := r * 32 + colC r h
theorem colC_lt (r h : Nat) : colC r h < 32 := Nat.mod_lt _ (by decide)
def bump (l : List Nat) (p n : Nat) : List Nat := l.set p (sat (l.getD p 0) n)
def addC (l : List Nat) (h n : Nat) : List Nat := bump (bump l (plcC 0 h) n) (plcC 1 h) n
theorem bump_length (l : List Nat) (p n : Nat) : (bump l p n).length = l.length := by simp [bump]
theorem addC_length (l : List Nat) (h n : Nat) : (addC l h n).length = l.length := by simp [addC, bump_length]
theorem bump_getD (l : List Nat) (p n q : Nat) (hp : p < l.length) : (bump l p n).getD q 0 = if p = q then sat (l.getD p 0) n else l.getD q 0 := by
  unfold bump
  simp only [List.getD, List.getElem?_set]
  by_cases e : p = q
  · rw [if_pos e, if_pos hp, if_pos e]; rfl
  · rw [if_neg e, if_neg e]
def SmallC (l : List Nat) : Prop := ∀ x ∈ l, x ≤ maxU
theorem getD_small {l : List Nat} (h : SmallC l) (p : Nat) : l.getD p 0 ≤ maxU := by
  simp only [List.getD]
  cases e : l[p]? with
  | none => simp
  | some x => exact h x (List.mem_of_getElem? e)
theorem bump_small {l : List Nat} (h : SmallC l) (p n : Nat) : SmallC (bump l p n) := by
  intro x hx
  unfold bump at hx
  rcases List.mem_or_eq_of_mem_set hx with h' | h'
  · exact h x h'
  · rw [h']; exact sat_le _ _
theorem addC_small {l : List Nat} (h : SmallC l) (k n : Nat) : SmallC (addC l k n) := bump_small (bump_small h _ _) _ _
theorem bump_ge {l : List Nat} (h : SmallC l) (p n q : Nat) (hp : p < l.length) : l.getD q 0 ≤ (bump l p n).getD q 0 := by
  rw [bump_getD l p n q hp]
  split
  · rename_i e; subst e; exact sat_ge _ (getD_small h _)
  · exact Nat.le_refl _
theorem addC_ge {l : List Nat} (h : SmallC l) (hl : l.length = 64) (k n q : Nat) : l.getD q 0 ≤ (addC l k n).getD q 0 := by
  have h0 := colC_lt 0 k
  have h1 := colC_lt 1 k
  refine Nat.le_trans (bump_ge h (plcC 0 k) n q (by unfold plcC; omega)) ?_
  exact bump_ge (bump_small h _ _) _ n q (by rw [bump_length]; unfold plcC; omega)
theorem addC_at {l : List Nat} (h : SmallC l) (hl : l.length = 64) (k n r : Nat) (hr : r < 2) : sat (l.getD (plcC r k) 0) n ≤ (addC l k n).getD (plcC r k) 0 := by
  have h0 := colC_lt 0 k
  have h1 := colC_lt 1 k
  have hs := bump_small h (plcC 0 k) n
  have e0 : plcC 0 k < l.length := by unfold plcC; omega
  have e1 : plcC 1 k < (bump l (plcC 0 k) n).length := by rw [bump_length]; unfold plcC; omega
  have hc : r = 0 ∨ r = 1 := by omega
  rcases hc with rfl | rfl
  · refine Nat.le_trans ?_ (bump_ge hs (plcC 1 k) n (plcC 0 k) e1)
    rw [bump_getD l _ n _ e0, if_pos rfl]
    exact Nat.le_refl _
  · unfold addC
    rw [bump_getD _ _ n _ e1, if_pos rfl]
    exact sat_mono (bump_ge h _ n _ e0) (Nat.le_refl _)
def allC (l : List Nat) (its : List (Nat × Nat)) : List Nat := its.foldl (fun a x => addC a x.1 x.2) l
def leastC (h : Nat) (its : List (Nat × Nat)) : Nat := its.foldl (fun a x => if x.1 = h then sat a x.2 else a) 0
theorem allC_snoc (l : List Nat) (its : List (Nat × Nat)) (x : Nat × Nat) : allC l (its ++ [x]) = addC (allC l its) x.1 x.2 := by simp [allC]
theorem leastC_snoc (h : Nat) (its : List (Nat × Nat)) (x : Nat × Nat) : leastC h (its ++ [x]) = if x.1 = h then sat (leastC h its) x.2 else leastC h its := by simp [leastC]
theorem allC_ok (l : List Nat) (h : SmallC l) (hl : l.length = 64) : ∀ its : List (Nat × Nat), SmallC (allC l its) ∧ (allC l its).length = 64 := by
  intro its
  induction its generalizing l with
  | nil => exact ⟨h, hl⟩
  | cons x its ih => exact ih _ (addC_small h _ _) (by rw [addC_length]; exact hl)
def zerosC : List Nat := List.replicate 64 0
theorem zerosC_ok : SmallC zerosC ∧ zerosC.length = 64 := ⟨fun x hx => by rw [(List.mem_replicate.1 hx).2]; exact Nat.zero_le _, by simp [zerosC]⟩
theorem leastC_max (h : Nat) : ∀ (k : Nat) (its : List (Nat × Nat)), leastC h (its.take k) ≤ maxU
  | 0, its => by simp [leastC]
  | k + 1, its => by
    cases e : its[k]? with
    | none =>
      rw [List.getElem?_eq_none_iff] at e
      have := leastC_max h k its
      rw [List.take_of_length_le e] at this
      rwa [List.take_of_length_le (by omega)]
    | some x =>
      rw [List.take_add_one, e]
      show leastC h (its.take k ++ [x]) ≤ _
      rw [leastC_snoc]
      split
      · exact sat_le _ _
      · exact leastC_max h k its
theorem countC_ge (h r : Nat) (hr : r < 2) : ∀ (k : Nat) (its : List (Nat × Nat)), leastC h (its.take k) ≤ (allC zerosC (its.take k)).getD (plcC r h) 0
  | 0, its => by simp [leastC]
  | k + 1, its => by
    cases e : its[k]? with
    | none =>
      rw [List.getElem?_eq_none_iff] at e
      have := countC_ge h r hr k its
      rw [List.take_of_length_le e] at this
      rwa [List.take_of_length_le (by omega)]
    | some x =>
      have ih := countC_ge h r hr k its
      obtain ⟨h1, h2⟩ := allC_ok zerosC zerosC_ok.1 zerosC_ok.2 (its.take k)
      rw [List.take_add_one, e]
      show leastC h (its.take k ++ [x]) ≤ (allC zerosC (its.take k ++ [x])).getD _ 0
      rw [leastC_snoc, allC_snoc]
      by_cases c : x.1 = h
      · rw [if_pos c, c]
        exact Nat.le_trans (sat_mono ih (Nat.le_refl _)) (addC_at h1 h2 h x.2 r hr)
      · rw [if_neg c]
        exact Nat.le_trans ih (addC_ge h1 h2 x.1 x.2 _)
def countC (l : List Nat) (h : Nat) : Nat := min (l.getD (plcC 0 h) 0) (l.getD (plcC 1 h) 0)
theorem countC_least (h : Nat) (its : List (Nat × Nat)) : leastC h its ≤ countC (allC zerosC its) h := by
  have h0 := countC_ge h 0 (by decide) its.length its
  have h1 := countC_ge h 1 (by decide) its.length its
  rw [List.take_of_length_le (Nat.le_refl _)] at h0 h1
  unfold countC
  omega
def zipC (a b : List Nat) : List Nat := (a.zip b).map fun x => sat x.1 x.2
theorem zipC_zeros (b : List Nat) (h : SmallC b) (hl : b.length = 64) : zipC zerosC b = b := by
  have hlen : (zipC zerosC b).length = b.length := by unfold zipC zerosC; simp [hl]
  apply List.ext_getElem hlen
  intro i h1 h2
  have e0 : ∀ (k : Nat) (hk : i < (List.replicate k 0).length), (List.replicate k 0)[i] = 0 := fun k hk => List.getElem_replicate ..
  simp only [zipC, zerosC, List.getElem_map, List.getElem_zip]
  rw [e0, zero_sat (h b[i] (List.getElem_mem h2))]
end Go.Proofs.YtmgdbfmlnmahpaaGreatDoor
namespace Go.Proofs.YtmgdbfmlnmahpaaGreatDoor
def topB (v : Nat) : Nat := Nat.log2 v
def bkt (v : Nat) : Nat := if v = 0 then 0 else 1 + Nat.log2 v * 8 + (v - 2 ^ Nat.log2 v) * 8 / 2 ^ Nat.log2 v
theorem log2_le {v : Nat} (h : v ≠ 0) : 2 ^ Nat.log2 v ≤ v := Nat.log2_self_le h
theorem lt_log2 {v : Nat} : v < 2 ^ (Nat.log2 v + 1) := Nat.lt_log2_self
theorem part_lt (v : Nat) : (v - 2 ^ Nat.log2 v) * 8 / 2 ^ Nat.log2 v < 8 := by
  have h := lt_log2 (v := v)
  have hp : 0 < 2 ^ Nat.log2 v := Nat.pow_pos (by decide)
  rw [Nat.pow_succ] at h
  rw [Nat.div_lt_iff_lt_mul hp]
  omega
theorem bkt_mono {v w : Nat} (h : v ≤ w) : bkt v ≤ bkt w := by
  unfold bkt
  by_cases hv : v = 0
  · rw [if_pos hv]; exact Nat.zero_le _
  have hw : w ≠ 0 := by omega
  rw [if_neg hv, if_neg hw]
  have h1 := part_lt v
  have hl : Nat.log2 v ≤ Nat.log2 w := by
    rcases Nat.lt_or_ge (Nat.log2 w) (Nat.log2 v) with c | c
    · exfalso
      have a1 := log2_le hv
      have a2 := lt_log2 (v := w)
      have a3 : 2 ^ (Nat.log2 w + 1) ≤ 2 ^ Nat.log2 v := Nat.pow_le_pow_right (by decide) c
      omega
    · exact c
  rcases Nat.lt_or_ge (Nat.log2 v) (Nat.log2 w) with c | c
  · generalize (v - 2 ^ Nat.log2 v) * 8 / 2 ^ Nat.log2 v = p at *
    generalize (w - 2 ^ Nat.log2 w) * 8 / 2 ^ Nat.log2 w = q at *
    omega
  · have e : Nat.log2 w = Nat.log2 v := by omega
    rw [e]
    have : (v - 2 ^ Nat.log2 v) * 8 / 2 ^ Nat.log2 v ≤ (w - 2 ^ Nat.log2 v) * 8 / 2 ^ Nat.log2 v := Nat.div_le_div_right (Nat.mul_le_mul_right 8 (by omega))
    omega
def putH (at' n : Nat) : List (Nat × Nat) → List (Nat × Nat)
  | [] => if n = 0 then [] else [(at', n)]
  | x :: l => if at' < x.1 then (if n = 0 then x :: l else (at', n) :: x :: l) else if at' = x.1 then (at', sat x.2 n) :: l else x :: putH at' n l
def AscH (l : List (Nat × Nat)) : Prop := l.Pairwise (fun x y => x.1 < y.1)
def PosH (l : List (Nat × Nat)) : Prop := ∀ x ∈ l, 0 < x.2 ∧ x.2 ≤ maxU
def sumH (last : Nat) (l : List (Nat × Nat)) : Nat := (l.map fun x => if x.1 ≤ last then x.2 else 0).sum
theorem sumH_cons (last : Nat) (x : Nat × Nat) (l : List (Nat × Nat)) : sumH last (x :: l) = (if x.1 ≤ last then x.2 else 0) + sumH last l := by simp [sumH]
theorem putH_pos (a n : Nat) (hn : n ≤ maxU) : ∀ l, PosH l → PosH (putH a n l)
  | [], _ => by
    unfold putH
    split
    · intro x hx; simp at hx
    · rename_i c
      intro x hx
      simp at hx
      subst hx
      exact ⟨by show 0 < n; omega, hn⟩
  | x :: l, h => by
    have hx := h x (by simp)
    have hl : PosH l := fun y hy => h y (by simp [hy])
    unfold putH
    split
    · split
      · exact h
      · rename_i c
        intro y hy
        rcases List.mem_cons.1 hy with rfl | hy
        · exact ⟨by show 0 < n; omega, hn⟩
        · exact h y hy
    · split
      · intro y hy
        rcases List.mem_cons.1 hy with rfl | hy
        · refine ⟨?_, sat_le _ _⟩
          show 0 < sat x.2 n
          unfold sat maxU
          have := hx.1
          omega
        · exact hl y hy
      · intro y hy
        rcases List.mem_cons.1 hy with rfl | hy
        · exact hx
        · exact putH_pos a n hn l hl y hy
theorem putH_sum (last a n : Nat) (ha : a ≤ last) : ∀ l, sat (min (sumH last l) maxU) n ≤ min (sumH last (putH a n l)) maxU
  | [] => by
    unfold putH
    split
    · rename_i c; subst c; unfold sat; simp [sumH]
    · rw [sumH_cons, if_pos ha]; unfold sat; simp [sumH]
  | x :: l => by
    have ih := putH_sum last a n ha l
    unfold putH
    split
    · split
      · rename_i c; subst c; unfold sat; omega
      · rw [sumH_cons last (a, n), if_pos ha]; unfold sat; show min (min _ _ + n) _ ≤ min (n + _) _; omega
    · split
      · rename_i _ c
        rw [sumH_cons, sumH_cons, ← c, if_pos ha, if_pos ha]
        unfold sat
        show min (min (x.2 + _) _ + n) _ ≤ min (min (x.2 + n) _ + _) _
        omega
      · rw [sumH_cons, sumH_cons]
        unfold sat at ih ⊢
        omega
theorem putH_sum_ge (last a n : Nat) : ∀ l, PosH l → min (sumH last l) maxU ≤ min (sumH last (putH a n l)) maxU
  | [], _ => by simp [sumH]
  | x :: l, h => by
    have ih := putH_sum_ge last a n l (fun y hy => h y (by simp [hy]))
    have hx := (h x (by simp)).2
    unfold putH
    split
    · split
      · exact Nat.le_refl _
      · rw [sumH_cons last (a, n)]; omega
    · split
      · rename_i _ c
        rw [sumH_cons, sumH_cons, ← c]
        show min ((if a ≤ last then x.2 else 0) + _) _ ≤ min ((if a ≤ last then sat x.2 n else 0) + _) _
        split
        · unfold sat; omega
        · omega
      · rw [sumH_cons, sumH_cons]; omega
def allH (its : List (Nat × Nat)) : List (Nat × Nat) := its.foldl (fun a x => putH (bkt x.1) x.2 a) []
def leastH (h : Nat) (its : List (Nat × Nat)) : Nat := its.foldl (fun a x => if x.1 ≤ h then sat a x.2 else a) 0
theorem allH_snoc (its : List (Nat × Nat)) (x : Nat × Nat) : allH (its ++ [x]) = putH (bkt x.1) x.2 (allH its) := by simp [allH]
theorem leastH_snoc (h : Nat) (its : List (Nat × Nat)) (x : Nat × Nat) : leastH h (its ++ [x]) = if x.1 ≤ h then sat (leastH h its) x.2 else leastH h its := by simp [leastH]
def SmallI (its : List (Nat × Nat)) : Prop := ∀ x ∈ its, x.1 ≤ maxU ∧ x.2 ≤ maxU
theorem rankH_ge (h : Nat) : ∀ (k : Nat) (its : List (Nat × Nat)), SmallI its → PosH (allH (its.take k)) ∧ leastH h (its.take k) ≤ min (sumH (bkt h) (allH (its.take k))) maxU
  | 0, its, _ => ⟨fun x hx => by simp [allH] at hx, by simp [leastH]⟩
  | k + 1, its, hs => by
    have ih := rankH_ge h k its hs
    cases e : its[k]? with
    | none =>
      rw [List.getElem?_eq_none_iff] at e
      rw [List.take_of_length_le e] at ih
      rwa [List.take_of_length_le (by omega)]
    | some x =>
      have hx := hs x (List.mem_of_getElem? e)
      rw [List.take_add_one, e]
      show PosH (allH (its.take k ++ [x])) ∧ leastH h (its.take k ++ [x]) ≤ min (sumH _ (allH (its.take k ++ [x]))) _
      rw [leastH_snoc, allH_snoc]
      refine ⟨putH_pos _ _ hx.2 _ ih.1, ?_⟩
      by_cases c : x.1 ≤ h
      · rw [if_pos c]
        exact Nat.le_trans (sat_mono ih.2 (Nat.le_refl _)) (putH_sum _ _ _ (bkt_mono c) _)
      · rw [if_neg c]
        exact Nat.le_trans ih.2 (putH_sum_ge _ _ _ _ ih.1)
theorem putH_mem (a n : Nat) : ∀ (l : List (Nat × Nat)) (y : Nat × Nat), y ∈ putH a n l → y.1 = a ∨ y ∈ l
  | [], y, h => by
    unfold putH at h
    split at h
    · simp at h
    · simp at h; subst h; exact .inl rfl
  | x :: l, y, h => by
    unfold putH at h
    split at h
    · split at h
      · exact .inr h
      · rcases List.mem_cons.1 h with rfl | h
        · exact .inl rfl
        · exact .inr h
    · split at h
      · rcases List.mem_cons.1 h with rfl | h
        · exact .inl rfl
        · exact .inr (List.mem_cons_of_mem _ h)
      · rcases List.mem_cons.1 h with rfl | h
        · exact .inr (by simp)
        · rcases putH_mem a n l y h with h | h
          · exact .inl h
          · exact .inr (List.mem_cons_of_mem _ h)
theorem putH_asc (a n : Nat) : ∀ l, AscH l → AscH (putH a n l)
  | [], _ => by unfold putH; split <;> simp [AscH]
  | x :: l, h => by
    obtain ⟨h1, h2⟩ := List.pairwise_cons.1 h
    unfold putH
    split
    · split
      · exact h
      · rename_i c _
        refine List.pairwise_cons.2 ⟨fun y hy => ?_, h⟩
        rcases List.mem_cons.1 hy with rfl | hy
        · exact c
        · exact Nat.lt_trans c (h1 y hy)
    · split
      · rename_i _ c
        refine List.pairwise_cons.2 ⟨fun y hy => ?_, h2⟩
        have := h1 y hy
        show a < y.1
        omega
      · refine List.pairwise_cons.2 ⟨fun y hy => ?_, putH_asc a n l h2⟩
        rcases putH_mem a n l y hy with e | hy
        · rw [e]; omega
        · exact h1 y hy
end Go.Proofs.YtmgdbfmlnmahpaaGreatDoor
namespace Go.Proofs.YtmgdbfmlnmahpaaGreatDoor
open Go.Maps
def entM (x : Nat × Nat) : Lit × DataW Unit := (.int .i64 (x.1 : Nat), .lit (.int .u64 (x.2 : Nat)))
def dM (l : List (Nat × Nat)) : DataW Unit := .map (l.map entM)
def putM (a n : Nat) : List (Nat × Nat) → List (Nat × Nat)
  | [] => [(a, n)]
  | x :: l => if a < x.1 then (a, n) :: x :: l else if a = x.1 then (a, n) :: l else x :: putM a n l
def getM (a : Nat) : List (Nat × Nat) → Nat
  | [] => 0
  | x :: l => if a = x.1 then x.2 else getM a l
theorem ent_before (x y : Nat × Nat) : (entM x).1.before (entM y).1 = decide (x.1 < y.1) := by
  simp [entM, Lit.before]
theorem ent_same (a : Nat) (x : Nat × Nat) : (entM x).1.sameKey (.int .i64 (a : Nat)) = decide (x.1 = a) := by
  simp [entM, Lit.sameKey]
  omega
theorem filter_none (a : Nat) : ∀ l : List (Nat × Nat), (∀ x ∈ l, x.1 ≠ a) → (l.map entM).filter (fun p => !p.1.sameKey (.int .i64 (a : Nat))) = l.map entM := by
  intro l h
  rw [List.filter_eq_self]
  intro p hp
  obtain ⟨x, hx, rfl⟩ := List.mem_map.1 hp
  rw [ent_same]
  simpa using h x hx
theorem insert_low (x : Nat × Nat) : ∀ l : List (Nat × Nat), (∀ y ∈ l, x.1 < y.1) → DataW.insert (entM x) (l.map entM) = entM x :: l.map entM
  | [], _ => rfl
  | y :: l, h => by
    show (if (entM x).1.before (entM y).1 then _ else _) = _
    rw [ent_before, decide_eq_true (h y (by simp))]
    rfl
theorem putM_eq (a n : Nat) : ∀ l : List (Nat × Nat), AscH l → DataW.insert (entM (a, n)) ((l.map entM).filter (fun p => !p.1.sameKey (.int .i64 (a : Nat)))) = (putM a n l).map entM
  | [], _ => rfl
  | x :: l, h => by
    have hl : AscH l := (List.pairwise_cons.1 h).2
    have hx : ∀ y ∈ l, x.1 < y.1 := (List.pairwise_cons.1 h).1
    unfold putM
    by_cases c1 : a < x.1
    · rw [if_pos c1, filter_none a (x :: l) (fun y hy => by
        rcases List.mem_cons.1 hy with rfl | hy
        · omega
        · have := hx y hy; omega)]
      rw [insert_low (a, n) (x :: l) (fun y hy => by
        rcases List.mem_cons.1 hy with rfl | hy
        · exact c1
        · exact Nat.lt_trans c1 (hx y hy))]
      rfl
    · rw [if_neg c1]
      by_cases c2 : a = x.1
      · rw [if_pos c2]
        rw [List.map_cons, List.filter_cons_of_neg (by rw [ent_same]; simp [c2]), filter_none a l (fun y hy => by have := hx y hy; omega), insert_low (a, n) l (fun y hy => by have := hx y hy; show a < _; omega)]
        rfl
      · rw [if_neg c2]
        rw [List.map_cons, List.filter_cons_of_pos (by rw [ent_same]; simp; omega)]
        show (if (entM (a, n)).1.before (entM x).1 then _ else _) = _
        rw [ent_before, decide_eq_false (by show ¬ a < x.1; exact c1), if_neg (by decide), putM_eq a n l hl]
        rfl
theorem dM_put {l : List (Nat × Nat)} (h : AscH l) (a n : Nat) : (dM l).put (.int .i64 (a : Nat)) (.lit (.int .u64 (n : Nat))) = dM (putM a n l) := congrArg DataW.map (putM_eq a n l h)
theorem dM_at (a : Nat) : ∀ l : List (Nat × Nat), (dM l).atKey (.int .i64 (a : Nat)) (.lit (.int .u64 0)) = .lit (.int .u64 (getM a l : Nat))
  | [] => rfl
  | x :: l => by
    have ih := dM_at a l
    simp only [dM, List.map_cons, DataW.atKey] at ih ⊢
    unfold getM
    by_cases c : a = x.1
    · rw [List.find?_cons_of_pos (by rw [ent_same]; simp [c]), if_pos c]
      rfl
    · rw [List.find?_cons_of_neg (by rw [ent_same]; simp; omega), if_neg c]
      exact ih
theorem putM_asc (a n : Nat) : ∀ l, AscH l → AscH (putM a n l) ∧ ∀ x ∈ putM a n l, x.1 = a ∨ x ∈ l
  | [], _ => ⟨List.pairwise_singleton _ _, by simp [putM]⟩
  | x :: l, h => by
    obtain ⟨h1, h2⟩ := List.pairwise_cons.1 h
    unfold putM
    split
    · rename_i c
      refine ⟨List.pairwise_cons.2 ⟨fun y hy => ?_, h⟩, fun y hy => ?_⟩
      · rcases List.mem_cons.1 hy with rfl | hy
        · exact c
        · exact Nat.lt_trans c (h1 y hy)
      · rcases List.mem_cons.1 hy with rfl | hy
        · exact .inl rfl
        · exact .inr hy
    · split
      · rename_i c
        refine ⟨List.pairwise_cons.2 ⟨fun y hy => by have := h1 y hy; show a < _; omega, h2⟩, fun y hy => ?_⟩
        rcases List.mem_cons.1 hy with rfl | hy
        · exact .inl rfl
        · exact .inr (by simp [hy])
      · obtain ⟨i1, i2⟩ := putM_asc a n l h2
        refine ⟨List.pairwise_cons.2 ⟨fun y hy => ?_, i1⟩, fun y hy => ?_⟩
        · rcases i2 y hy with e | hy
          · rw [e]; omega
          · exact h1 y hy
        · rcases List.mem_cons.1 hy with rfl | hy
          · exact .inr (by simp)
          · rcases i2 y hy with e | hy
            · exact .inl e
            · exact .inr (by simp [hy])
def hitM (a n : Nat) (l : List (Nat × Nat)) : List (Nat × Nat) := putM a (sat (getM a l) n) l
def keepM (l : List (Nat × Nat)) : List (Nat × Nat) := l.filter (fun x => x.2 != 0)
theorem keepM_pos {l : List (Nat × Nat)} (h : PosH l) : keepM l = l := List.filter_eq_self.2 (fun x hx => by have := (h x hx).1; simp; omega)
theorem hitM_keep (a n : Nat) (hn : n ≤ maxU) : ∀ l, AscH l → PosH l → keepM (hitM a n l) = putH a n l
  | [], _, _ => by
    show List.filter _ [(a, sat 0 n)] = putH a n []
    have e : sat 0 n = n := by unfold sat; omega
    rw [e]
    unfold putH
    by_cases c : n = 0
    · rw [if_pos c]; simp [c]
    · rw [if_neg c]; simp [c]
  | x :: l, h, hp => by
    obtain ⟨h1, h2⟩ := List.pairwise_cons.1 h
    have hpl : PosH l := fun y hy => hp y (by simp [hy])
    have hpx := hp x (by simp)
    unfold hitM putM putH getM
    by_cases c1 : a < x.1
    · have e0 : getM a l = 0 := by
        clear hp hpl
        induction l with
        | nil => rfl
        | cons y l ih =>
          unfold getM
          have := h1 y (by simp)
          rw [if_neg (by omega)]
          exact ih (List.pairwise_cons.2 ⟨fun z hz => h1 z (by simp [hz]), (List.pairwise_cons.1 h2).2⟩) (fun z hz => h1 z (by simp [hz])) (List.pairwise_cons.1 h2).2
      have e : sat 0 n = n := by unfold sat; omega
      rw [if_pos c1, if_pos c1, if_neg (by omega), e0, e]
      show List.filter _ ((a, n) :: x :: l) = _
      have hk := keepM_pos hp
      unfold keepM at hk
      by_cases c : n = 0
      · rw [if_pos c, List.filter_cons_of_neg (by simp [c])]; exact hk
      · rw [if_neg c, List.filter_cons_of_pos (by simp [c]), hk]
    · rw [if_neg c1, if_neg c1]
      by_cases c2 : a = x.1
      · rw [if_pos c2, if_pos c2, if_pos c2]
        have hk := keepM_pos hpl
        unfold keepM at hk ⊢
        rw [List.filter_cons_of_pos (by simp; unfold sat maxU; omega), hk]
      · rw [if_neg c2, if_neg c2, if_neg c2]
        have ih := hitM_keep a n hn l h2 hpl
        unfold hitM keepM at ih
        unfold keepM
        rw [List.filter_cons_of_pos (by simp; omega), ih]
end Go.Proofs.YtmgdbfmlnmahpaaGreatDoor
