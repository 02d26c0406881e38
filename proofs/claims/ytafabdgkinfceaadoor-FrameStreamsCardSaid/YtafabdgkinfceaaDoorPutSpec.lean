/- Plain: a number's bytes. -/
import Derived.Lib.BitFns
namespace Go.Proofs.YtafabdgkinfceaaDoor

/-- so many bytes of a number, the greatest one first -/
def be (n : Nat) : Nat → List UInt8
  | 0 => []
  | k + 1 => UInt8.ofNat (n / 2 ^ (8 * k)) :: be n k
theorem be_length (n k : Nat) : (be n k).length = k := by
  induction k with
  | zero => rfl
  | succ k ih => simp [be, ih]

/-- how many bytes a great number has: three to eight -/
def width (n : Nat) : Nat :=
  if n < 2 ^ 24 then 3 else if n < 2 ^ 32 then 4 else if n < 2 ^ 40 then 5 else if n < 2 ^ 48 then 6 else if n < 2 ^ 56 then 7 else 8

/-- a number's bytes -/
def put (n : Nat) : List UInt8 :=
  if n ≤ 240 then [UInt8.ofNat n]
  else if n ≤ 2287 then [UInt8.ofNat (241 + (n - 240) / 256), UInt8.ofNat (n - 240)]
  else if n ≤ 67823 then [249, UInt8.ofNat ((n - 2288) / 256), UInt8.ofNat (n - 2288)]
  else UInt8.ofNat (247 + width n) :: be n (width n)

/-- the bytes as a text -/
def putB (n : Nat) : ByteArray := ⟨(put n).toArray⟩

theorem width_bounds (n : Nat) : 3 ≤ width n ∧ width n ≤ 8 := by
  unfold width
  repeat' split
  all_goals omega
theorem put_length (n : Nat) : 1 ≤ (put n).length ∧ (put n).length ≤ 9 := by
  have := width_bounds n
  unfold put
  split
  · simp
  split
  · simp
  split
  · simp
  · simp only [List.length_cons, be_length]; omega
theorem putB_size (n : Nat) : 1 ≤ (putB n).size ∧ (putB n).size ≤ 9 := by
  have := put_length n
  show 1 ≤ (put n).toArray.size ∧ (put n).toArray.size ≤ 9
  simpa using this

theorem width_step (n j : Nat) (h3 : 3 ≤ j) (h8 : j < 8) : j < width n ↔ n / 2 ^ (8 * j) ≠ 0 := by
  have hq : n / 2 ^ (8 * j) ≠ 0 ↔ 2 ^ (8 * j) ≤ n := by
    rw [Ne, Nat.div_eq_zero_iff]
    have := Nat.two_pow_pos (8 * j)
    omega
  rw [hq]
  unfold width
  have e : j = 3 ∨ j = 4 ∨ j = 5 ∨ j = 6 ∨ j = 7 := by omega
  rcases e with rfl | rfl | rfl | rfl | rfl <;> simp only [Nat.reduceMul, Nat.reducePow] <;> repeat' split
  all_goals omega

/-- what Len64 says of a number of so many bytes -/
theorem bitLen_width (n : Nat) (h0 : 67823 < n) (h1 : n < 2 ^ 64) : (Lib.bitLen n + 7) / 8 = width n := by
  have lo : ∀ k, 2 ^ k ≤ n → k < Lib.bitLen n := by
    intro k hk
    rw [Lib.bitLen_shift k n hk h1]
    have hq : n / 2 ^ k ≠ 0 := by
      have : 1 ≤ n / 2 ^ k := (Nat.one_le_div_iff (Nat.two_pow_pos k)).2 hk
      omega
    have hlt : n / 2 ^ k < 2 ^ 64 := Nat.lt_of_le_of_lt (Nat.div_le_self _ _) h1
    rw [Lib.bitLen_half _ hq hlt]
    omega
  have hi : ∀ k, k ≤ 64 → n < 2 ^ k → Lib.bitLen n ≤ k := fun k hk h => Lib.bitLen_le n k hk h
  unfold width
  split
  · rename_i h
    have := lo 16 (by omega); have := hi 24 (by omega) h; omega
  split
  · rename_i g h
    have := lo 24 (by omega); have := hi 32 (by omega) h; omega
  split
  · rename_i g h
    have := lo 32 (by omega); have := hi 40 (by omega) h; omega
  split
  · rename_i g h
    have := lo 40 (by omega); have := hi 48 (by omega) h; omega
  split
  · rename_i g h
    have := lo 48 (by omega); have := hi 56 (by omega) h; omega
  · rename_i g
    have := lo 56 (by omega); have := hi 64 (by omega) h1; omega
end Go.Proofs.YtafabdgkinfceaaDoor
