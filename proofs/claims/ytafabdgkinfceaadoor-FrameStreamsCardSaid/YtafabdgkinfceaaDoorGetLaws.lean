/- Plain: numbers and their bytes are one to one. -/
import Derived.Test.YtafabdgkinfceaaDoorGetSpec
import Derived.Test.YtafabdgkinfceaaDoorOrd02
namespace Go.Proofs.YtafabdgkinfceaaDoor

theorem val_cons_aux (l : List UInt8) : ∀ n : Nat, l.foldl (fun n b => 256 * n + b.toNat) n = n * 256 ^ l.length + val l := by
  induction l with
  | nil => intro n; simp [val]
  | cons b l ih =>
    intro n
    have h0 : val (b :: l) = b.toNat * 256 ^ l.length + val l := by
      show l.foldl _ (256 * 0 + b.toNat) = _
      rw [ih]; simp
    rw [List.foldl_cons, ih, h0, List.length_cons, Nat.pow_succ, Nat.add_mul]
    rw [← Nat.add_assoc, Nat.mul_comm 256 n, Nat.mul_assoc, Nat.mul_comm 256]
theorem val_cons (b : UInt8) (l : List UInt8) : val (b :: l) = b.toNat * 256 ^ l.length + val l := by
  show l.foldl _ (256 * 0 + b.toNat) = _
  rw [val_cons_aux]; simp
theorem pow8 (k : Nat) : (2 : Nat) ^ (8 * k) = 256 ^ k := by rw [Nat.pow_mul]
theorem be_mod (k : Nat) : ∀ n P : Nat, be (n + P * 256 ^ k) k = be n k := by
  induction k with
  | zero => intro n P; rfl
  | succ k ih =>
    intro n P
    have hP : 0 < 256 ^ k := Nat.pow_pos (by decide)
    have e : n + P * 256 ^ (k + 1) = n + (256 * P) * 256 ^ k := by rw [Nat.pow_succ, Nat.mul_comm 256 P, Nat.mul_assoc, Nat.mul_comm 256]
    simp only [be, pow8]
    rw [e, ih, Nat.add_mul_div_right _ _ hP]
    congr 1
    rw [u8_mod' (n / 256 ^ k + 256 * P), Nat.add_mul_mod_self_left, ← u8_mod']
theorem be_val (l : List UInt8) : be (val l) l.length = l := by
  induction l with
  | nil => rfl
  | cons b l ih =>
    have hv := val_lt l
    have hP : 0 < 256 ^ l.length := Nat.pow_pos (by decide)
    rw [List.length_cons]
    simp only [be, pow8]
    rw [val_cons, Nat.add_comm, Nat.add_mul_div_right _ _ hP, Nat.div_eq_of_lt hv, Nat.zero_add, be_mod, ih]
    simp
theorem val_be (k : Nat) : ∀ n, n < 256 ^ k → val (be n k) = n := by
  induction k with
  | zero => intro n h; simp at h; subst h; rfl
  | succ k ih =>
    intro n h
    have hP : 0 < 256 ^ k := Nat.pow_pos (by decide)
    have hq : n / 256 ^ k < 256 := by rw [Nat.div_lt_iff_lt_mul hP]; rw [Nat.pow_succ, Nat.mul_comm] at h; exact h
    have hm : be n k = be (n % 256 ^ k) k := by
      have := be_mod k (n % 256 ^ k) (n / 256 ^ k)
      rw [Nat.mul_comm, Nat.mod_add_div] at this
      exact this
    simp only [be, pow8]
    rw [val_cons, be_length, hm, ih _ (Nat.mod_lt _ hP)]
    have e : (UInt8.ofNat (n / 256 ^ k)).toNat = n / 256 ^ k := by simp; omega
    rw [e, Nat.mul_comm, Nat.div_add_mod]

theorem behind_hd (n : Nat) : behind (hd n) = wd n := by
  have := width_bounds n
  unfold behind hd wd
  by_cases a1 : n ≤ 240
  · simp only [if_pos a1]
  by_cases a2 : n ≤ 2287
  · simp only [if_neg a1, if_pos a2]; rw [if_neg (by omega), if_pos (by omega)]
  by_cases a3 : n ≤ 67823
  · simp only [if_neg a1, if_neg a2, if_pos a3]; rfl
  · simp only [if_neg a1, if_neg a2, if_neg a3]; rw [if_neg (by omega), if_neg (by omega), if_neg (by omega)]; omega
theorem valOf_hd (n : Nat) : valOf (hd n) (tl n) = n := by
  have := width_bounds n
  unfold valOf hd tl
  by_cases a1 : n ≤ 240
  · simp only [if_pos a1]
  by_cases a2 : n ≤ 2287
  · simp only [if_neg a1, if_pos a2]; rw [if_neg (by omega), if_pos (by omega)]; omega
  by_cases a3 : n ≤ 67823
  · simp only [if_neg a1, if_neg a2, if_pos a3]; rw [if_neg (by omega), if_neg (by omega)]; simp; omega
  · simp only [if_neg a1, if_neg a2, if_neg a3]; rw [if_neg (by omega), if_neg (by omega), if_neg (by omega)]

/-- as many bytes: the same first byte, and the same number behind it -/
theorem wd_valOf (b x : Nat) (hb : b < 256) (hx : x < 256 ^ behind b) (h : wd (valOf b x) = behind b) : hd (valOf b x) = b ∧ tl (valOf b x) = x := by
  unfold behind at hx h
  by_cases a1 : b ≤ 240
  · rw [if_pos a1] at hx
    have e : valOf b x = b := by unfold valOf; rw [if_pos a1]
    rw [e]
    unfold hd tl
    rw [if_pos a1, if_pos a1]
    simp at hx
    omega
  rw [if_neg a1] at hx h
  by_cases a2 : b ≤ 248
  · rw [if_pos a2] at hx h
    have e : valOf b x = x + (240 + 256 * (b - 241)) := by unfold valOf; rw [if_neg a1, if_pos a2]
    rw [e] at h ⊢
    simp only [Nat.pow_one] at hx
    unfold wd at h
    unfold hd tl
    have n1 : ¬ x + (240 + 256 * (b - 241)) ≤ 240 := by
      intro h'
      rw [if_pos h'] at h
      omega
    rw [if_neg n1, if_neg n1, if_pos (by omega), if_pos (by omega)]
    omega
  rw [if_neg a2] at hx h
  by_cases a3 : b = 249
  · rw [if_pos a3] at hx h
    have e : valOf b x = x + 2288 := by unfold valOf; rw [if_neg a1, if_neg a2, if_pos a3]
    rw [e] at h ⊢
    simp only [Nat.reducePow] at hx
    unfold hd tl
    rw [if_neg (by omega), if_neg (by omega), if_pos (by omega), if_neg (by omega), if_neg (by omega), if_pos (by omega)]
    omega
  rw [if_neg a3] at hx h
  have e : valOf b x = x := by unfold valOf; rw [if_neg a1, if_neg a2, if_neg a3]
  rw [e] at h ⊢
  have hw := width_bounds x
  unfold wd at h
  unfold hd tl
  have n3 : ¬ x ≤ 67823 := by
    intro h'
    by_cases c1 : x ≤ 240
    · rw [if_pos c1] at h; omega
    rw [if_neg c1] at h
    by_cases c2 : x ≤ 2287
    · rw [if_pos c2] at h; omega
    rw [if_neg c2, if_pos h'] at h
    omega
  rw [if_neg (by omega), if_neg (by omega), if_neg n3] at h ⊢
  rw [if_neg (by omega), if_neg (by omega), if_neg n3]
  omega

/-- as many bytes are those bytes -/
theorem put_valOf (b : UInt8) (t : List UInt8) (ht : behind b.toNat ≤ t.length) (h : (put (valOf b.toNat (val (t.take (behind b.toNat))))).length = 1 + behind b.toNat) :
    put (valOf b.toNat (val (t.take (behind b.toNat)))) = b :: t.take (behind b.toNat) := by
  have hl : (t.take (behind b.toNat)).length = behind b.toNat := by rw [List.length_take]; omega
  have hv := val_lt (t.take (behind b.toNat))
  rw [hl] at hv
  rw [put_len] at h
  obtain ⟨e1, e2⟩ := wd_valOf b.toNat _ b.toNat_lt hv (by omega)
  rw [put_hd, e1, e2, show wd (valOf b.toNat (val (t.take (behind b.toNat)))) = (t.take (behind b.toNat)).length by omega, be_val]
  simp

theorem getL_cons (b : UInt8) (t : List UInt8) : getL (b :: t) = if t.length < behind b.toNat then .more
    else if (put (valOf b.toNat (val (t.take (behind b.toNat))))).length ≠ 1 + behind b.toNat then .field
    else .ok (valOf b.toNat (val (t.take (behind b.toNat)))) (t.drop (behind b.toNat)) := rfl
theorem hd_toNat (n : Nat) : (UInt8.ofNat (hd n)).toNat = hd n := by have := hd_lt n; simp; omega
theorem getL_put (n : Nat) (hn : n < 18446744073709551616) (r : List UInt8) : getL (put n ++ r) = .ok n r := by
  rw [put_hd, List.cons_append, getL_cons, hd_toNat, behind_hd]
  have hl : (be (tl n) (wd n)).length = wd n := be_length _ _
  have ht : (be (tl n) (wd n) ++ r).take (wd n) = be (tl n) (wd n) := by rw [List.take_append_of_le_length (by omega), List.take_of_length_le (by omega)]
  have hdr : (be (tl n) (wd n) ++ r).drop (wd n) = r := by rw [List.drop_append_of_le_length (by omega), List.drop_of_length_le (by omega), List.nil_append]
  rw [ht, hdr, val_be _ _ (tl_lt n hn), valOf_hd, if_neg (by rw [List.length_append]; omega), if_neg (by rw [put_len]; simp)]
theorem valOf_lt (b x : Nat) (hb : b < 256) (hx : x < 256 ^ behind b) : valOf b x < 18446744073709551616 := by
  have hb8 : behind b ≤ 8 := by unfold behind; repeat' split
                                all_goals omega
  have h8 : x < 18446744073709551616 := Nat.lt_of_lt_of_le hx (Nat.le_trans (Nat.pow_le_pow_right (by decide) hb8) (by decide))
  unfold behind at hx
  unfold valOf
  by_cases a1 : b ≤ 240
  · rw [if_pos a1]; omega
  rw [if_neg a1] at hx ⊢
  by_cases a2 : b ≤ 248
  · rw [if_pos a2] at hx ⊢; omega
  rw [if_neg a2] at hx ⊢
  by_cases a3 : b = 249
  · rw [if_pos a3] at hx ⊢; simp only [Nat.reducePow] at hx; omega
  · rw [if_neg a3]; exact h8
theorem getL_back (l : List UInt8) (n : Nat) (r : List UInt8) (h : getL l = .ok n r) : put n ++ r = l ∧ n < 18446744073709551616 ∧ r.length < l.length := by
  cases l with
  | nil => cases h
  | cons b t =>
    rw [getL_cons] at h
    by_cases h1 : t.length < behind b.toNat
    · rw [if_pos h1] at h; cases h
    · rw [if_neg h1] at h
      by_cases h2 : (put (valOf b.toNat (val (t.take (behind b.toNat))))).length ≠ 1 + behind b.toNat
      · rw [if_pos h2] at h; cases h
      · rw [if_neg h2] at h
        injection h with e1 e2
        have hl : (t.take (behind b.toNat)).length = behind b.toNat := by rw [List.length_take]; omega
        have hv := val_lt (t.take (behind b.toNat))
        rw [hl] at hv
        refine ⟨?_, by rw [← e1]; exact valOf_lt _ _ b.toNat_lt hv, by rw [← e2]; simp; omega⟩
        rw [← e1, ← e2, put_valOf b t (by omega) (by simpa using h2), List.cons_append, List.take_append_drop]

end Go.Proofs.YtafabdgkinfceaaDoor
