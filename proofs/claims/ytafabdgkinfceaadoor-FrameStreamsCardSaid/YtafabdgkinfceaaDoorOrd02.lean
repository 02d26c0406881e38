/- Plain: numbers' bytes are in the numbers' order. -/
import Derived.Test.YtafabdgkinfceaaDoorPutSpec
import Derived.Lib.Bytealg
namespace Go.Proofs.YtafabdgkinfceaaDoor

/-- the order of two numbers -/
def cmpN (a b : Nat) : Int := if a < b then -1 else if b < a then 1 else 0

theorem ofNat_lt (a b : Nat) (ha : a < 256) (hb : b < 256) : (UInt8.ofNat a < UInt8.ofNat b) ↔ a < b := by
  rw [UInt8.lt_iff_toNat_lt]
  simp [Nat.mod_eq_of_lt ha, Nat.mod_eq_of_lt hb]

theorem cmp_cons (a b : Nat) (as bs : List UInt8) (ha : a < 256) (hb : b < 256) : Lib.compareBytes (UInt8.ofNat a :: as) (UInt8.ofNat b :: bs) = if a < b then -1 else if b < a then 1 else Lib.compareBytes as bs := by
  show (if UInt8.ofNat a < UInt8.ofNat b then (-1 : Int) else if UInt8.ofNat b < UInt8.ofNat a then 1 else _) = _
  simp only [ofNat_lt a b ha hb, ofNat_lt b a hb ha]

theorem u8_mod' (n : Nat) : UInt8.ofNat n = UInt8.ofNat (n % 256) := by
  apply UInt8.toNat_inj.1
  simp

theorem be_cmp (k : Nat) : ∀ n m : Nat, n < 256 ^ k → m < 256 ^ k → Lib.compareBytes (be n k) (be m k) = cmpN n m := by
  have key : ∀ k n m : Nat, Lib.compareBytes (be n k) (be m k) = cmpN (n % 256 ^ k) (m % 256 ^ k) := by
    intro k
    induction k with
    | zero => intro n m; simp [be, Lib.compareBytes, cmpN, Nat.mod_one]
    | succ k ih =>
      intro n m
      have hp : (2 : Nat) ^ (8 * k) = 256 ^ k := by rw [Nat.pow_mul]
      simp only [be, hp]
      rw [u8_mod' (n / 256 ^ k), u8_mod' (m / 256 ^ k), cmp_cons _ _ _ _ (Nat.mod_lt _ (by decide)) (Nat.mod_lt _ (by decide)), ih]
      have hP : 0 < 256 ^ k := Nat.pow_pos (by decide)
      have en : n % 256 ^ (k + 1) = n % 256 ^ k + 256 ^ k * (n / 256 ^ k % 256) := by rw [Nat.pow_succ, Nat.mod_mul]
      have em : m % 256 ^ (k + 1) = m % 256 ^ k + 256 ^ k * (m / 256 ^ k % 256) := by rw [Nat.pow_succ, Nat.mod_mul]
      have ln := Nat.mod_lt n hP
      have lm := Nat.mod_lt m hP
      rw [en, em]
      generalize n / 256 ^ k % 256 = a at *
      generalize m / 256 ^ k % 256 = b at *
      generalize n % 256 ^ k = x at *
      generalize m % 256 ^ k = y at *
      generalize 256 ^ k = P at *
      unfold cmpN
      by_cases h1 : a < b
      · have : P * a + P ≤ P * b := by rw [← Nat.mul_succ]; exact Nat.mul_le_mul_left P h1
        rw [if_pos h1, if_pos (by omega)]
      · by_cases h2 : b < a
        · have : P * b + P ≤ P * a := by rw [← Nat.mul_succ]; exact Nat.mul_le_mul_left P h2
          rw [if_neg h1, if_pos h2, if_neg (by omega), if_pos (by omega)]
        · obtain rfl : a = b := by omega
          rw [if_neg h1, if_neg h2]
          by_cases h3 : x < y
          · rw [if_pos h3, if_pos (by omega)]
          · by_cases h4 : y < x
            · rw [if_neg h3, if_pos h4, if_neg (by omega), if_pos (by omega)]
            · rw [if_neg h3, if_neg h4, if_neg (by omega), if_neg (by omega)]
  intro n m hn hm
  rw [key, Nat.mod_eq_of_lt hn, Nat.mod_eq_of_lt hm]

theorem be1 (n : Nat) : be n 1 = [UInt8.ofNat n] := by simp [be]
theorem be2 (n : Nat) : be n 2 = [UInt8.ofNat (n / 256), UInt8.ofNat n] := by simp [be]

/-- a number's first byte, and the number behind it with so many bytes -/
def hd (n : Nat) : Nat := if n ≤ 240 then n else if n ≤ 2287 then 241 + (n - 240) / 256 else if n ≤ 67823 then 249 else 247 + width n
def tl (n : Nat) : Nat := if n ≤ 240 then 0 else if n ≤ 2287 then (n - 240) % 256 else if n ≤ 67823 then n - 2288 else n
def wd (n : Nat) : Nat := if n ≤ 240 then 0 else if n ≤ 2287 then 1 else if n ≤ 67823 then 2 else width n
theorem put_hd (n : Nat) : put n = UInt8.ofNat (hd n) :: be (tl n) (wd n) := by
  unfold put hd tl wd
  split
  · simp [be]
  split
  · rw [be1, ← u8_mod']
  split
  · rw [be2]; rfl
  · rfl
theorem put_len (n : Nat) : (put n).length = 1 + wd n := by rw [put_hd]; simp [be_length]; omega
theorem hd_lt (n : Nat) : hd n < 256 := by
  have := width_bounds n
  unfold hd
  repeat' split
  all_goals omega
theorem width_pow (n : Nat) (h : n < 18446744073709551616) : n < 256 ^ width n := by
  unfold width
  repeat' split
  all_goals first | (simp only [Nat.reducePow]; omega)
theorem tl_lt (n : Nat) (h : n < 18446744073709551616) : tl n < 256 ^ wd n := by
  unfold tl wd
  split
  · decide
  split
  · rw [Nat.pow_one]; exact Nat.mod_lt _ (by decide)
  split
  · simp only [Nat.reducePow]; omega
  · exact width_pow n h
theorem width_mono {n m : Nat} (h : n ≤ m) : width n ≤ width m := by
  unfold width
  simp only [Nat.reducePow]
  repeat' split
  all_goals omega
theorem wd_mono {n m : Nat} (h : n ≤ m) : wd n ≤ wd m := by
  have h1 := width_bounds m
  have h2 := width_mono h
  unfold wd
  repeat' split
  all_goals omega
theorem hd_mono {n m : Nat} (h : n ≤ m) : hd n ≤ hd m := by
  have h1 := width_bounds m
  have h2 := width_mono h
  unfold hd
  repeat' split
  all_goals omega
/-- equal first bytes: as many bytes, and the numbers differ as those behind do -/
theorem hd_eq {n m : Nat} (h : hd n = hd m) : wd n = wd m ∧ cmpN (tl n) (tl m) = cmpN n m := by
  have h1 := width_bounds n
  have h2 := width_bounds m
  unfold hd at h
  unfold wd tl cmpN
  by_cases a1 : n ≤ 240 <;> by_cases a2 : n ≤ 2287 <;> by_cases a3 : n ≤ 67823 <;> by_cases b1 : m ≤ 240 <;> by_cases b2 : m ≤ 2287 <;> by_cases b3 : m ≤ 67823
  all_goals first | (exfalso; omega) | skip
  all_goals simp only [a1, a2, a3, b1, b2, b3, if_true, if_false] at h ⊢
  all_goals first | (exfalso; omega) | skip
  all_goals (refine ⟨by first | trivial | omega, ?_⟩; repeat' split)
  all_goals first | omega | trivial

theorem put_cmp (n m : Nat) (hn : n < 18446744073709551616) (hm : m < 18446744073709551616) : Lib.compareBytes (put n) (put m) = cmpN n m := by
  rw [put_hd, put_hd, cmp_cons _ _ _ _ (hd_lt n) (hd_lt m)]
  have h1 : hd n < hd m → n < m := fun h => by
    rcases Nat.lt_or_ge n m with h' | h'
    · exact h'
    · have := hd_mono h'; omega
  have h2 : hd m < hd n → m < n := fun h => by
    rcases Nat.lt_or_ge m n with h' | h'
    · exact h'
    · have := hd_mono h'; omega
  by_cases a : hd n < hd m
  · have := h1 a
    rw [if_pos a]; unfold cmpN; rw [if_pos this]
  · by_cases b : hd m < hd n
    · have := h2 b
      rw [if_neg a, if_pos b]; unfold cmpN; rw [if_neg (by omega), if_pos this]
    · rw [if_neg a, if_neg b]
      obtain ⟨e1, e2⟩ := hd_eq (show hd n = hd m by omega)
      rw [← e2, ← e1]
      exact be_cmp _ _ _ (tl_lt n hn) (by rw [e1]; exact tl_lt m hm)
theorem put_le {n m : Nat} (h : n ≤ m) : (put n).length ≤ (put m).length := by
  rw [put_len, put_len]
  have := wd_mono h
  omega
theorem cmpN_eq (a b : Nat) : cmpN a b = 0 ↔ a = b := by
  unfold cmpN
  repeat' split
  all_goals omega

end Go.Proofs.YtafabdgkinfceaaDoor
