/- Plain: texts in order. -/
import Derived.Lib.Bytealg
namespace Go.Proofs.YtadfecglbeimbaaDoor

theorem cmp_anti : ∀ a b : List UInt8, Lib.compareBytes b a = -Lib.compareBytes a b
  | [], [] => rfl
  | [], _ :: _ => rfl
  | _ :: _, [] => rfl
  | a :: as, b :: bs => by
    show (if b < a then (-1 : Int) else if a < b then 1 else Lib.compareBytes bs as) = -(if a < b then -1 else if b < a then 1 else Lib.compareBytes as bs)
    have ih := cmp_anti as bs
    have h : a < b → ¬ b < a := fun h h' => by rw [UInt8.lt_iff_toNat_lt] at h h'; omega
    by_cases h1 : a < b
    · rw [if_neg (h h1), if_pos h1, if_pos h1]; rfl
    · by_cases h2 : b < a
      · rw [if_pos h2, if_neg h1, if_pos h2]
      · rw [if_neg h2, if_neg h1, if_neg h1, if_neg h2, ih]
theorem cmp_zero : ∀ a b : List UInt8, Lib.compareBytes a b = 0 ↔ a = b
  | [], [] => by simp [Lib.compareBytes]
  | [], _ :: _ => by simp [Lib.compareBytes]
  | _ :: _, [] => by simp [Lib.compareBytes]
  | a :: as, b :: bs => by
    show (if a < b then (-1 : Int) else if b < a then 1 else Lib.compareBytes as bs) = 0 ↔ _
    have ih := cmp_zero as bs
    by_cases h1 : a < b
    · rw [if_pos h1]
      refine ⟨fun h => by omega, fun h => ?_⟩
      injection h with h _
      rw [UInt8.lt_iff_toNat_lt, h] at h1
      omega
    · by_cases h2 : b < a
      · rw [if_neg h1, if_pos h2]
        refine ⟨fun h => by omega, fun h => ?_⟩
        injection h with h _
        rw [UInt8.lt_iff_toNat_lt, h] at h2
        omega
      · rw [if_neg h1, if_neg h2, ih]
        rw [UInt8.lt_iff_toNat_lt] at h1 h2
        have e : a = b := UInt8.toNat_inj.1 (by omega)
        rw [e]
        simp
theorem cmp_range : ∀ a b : List UInt8, -1 ≤ Lib.compareBytes a b ∧ Lib.compareBytes a b ≤ 1
  | [], [] => by simp [Lib.compareBytes]
  | [], _ :: _ => by simp [Lib.compareBytes]
  | _ :: _, [] => by simp [Lib.compareBytes]
  | a :: as, b :: bs => by
    show -1 ≤ (if a < b then (-1 : Int) else if b < a then 1 else Lib.compareBytes as bs) ∧ (if a < b then (-1 : Int) else if b < a then 1 else Lib.compareBytes as bs) ≤ 1
    have ih := cmp_range as bs
    split
    · omega
    · split
      · omega
      · exact ih
theorem cmp_trans : ∀ a b c : List UInt8, Lib.compareBytes a b < 0 → Lib.compareBytes b c < 0 → Lib.compareBytes a c < 0
  | [], [], c => fun h _ => absurd h (by simp [Lib.compareBytes])
  | _ :: _, [], c => fun h _ => absurd h (by simp [Lib.compareBytes])
  | [], _ :: _, [] => fun _ h => absurd h (by simp [Lib.compareBytes])
  | [], _ :: _, _ :: _ => fun _ _ => by simp [Lib.compareBytes]
  | _ :: _, _ :: _, [] => fun _ h => absurd h (by simp [Lib.compareBytes])
  | a :: as, b :: bs, c :: cs => by
    show (if a < b then (-1 : Int) else if b < a then 1 else Lib.compareBytes as bs) < 0 → (if b < c then (-1 : Int) else if c < b then 1 else Lib.compareBytes bs cs) < 0 → (if a < c then (-1 : Int) else if c < a then 1 else Lib.compareBytes as cs) < 0
    have ih := cmp_trans as bs cs
    simp only [UInt8.lt_iff_toNat_lt]
    intro h1 h2
    by_cases k1 : a.toNat < b.toNat
    · by_cases k2 : b.toNat < c.toNat
      · rw [if_pos (by omega)]; omega
      · rw [if_neg k2] at h2
        by_cases k3 : c.toNat < b.toNat
        · rw [if_pos k3] at h2; omega
        · rw [if_pos (by omega)]; omega
    · rw [if_neg k1] at h1
      by_cases k3 : b.toNat < a.toNat
      · rw [if_pos k3] at h1; omega
      · rw [if_neg k3] at h1
        by_cases k2 : b.toNat < c.toNat
        · rw [if_pos (by omega)]; omega
        · rw [if_neg k2] at h2
          by_cases k4 : c.toNat < b.toNat
          · rw [if_pos k4] at h2; omega
          · rw [if_neg k4] at h2
            rw [if_neg (by omega), if_neg (by omega)]
            exact ih h1 h2
theorem cmp_prefix : ∀ a c : List UInt8, Lib.compareBytes a (a ++ c) ≤ 0
  | [], [] => by simp [Lib.compareBytes]
  | [], _ :: _ => by simp [Lib.compareBytes]
  | a :: as, c => by
    show (if a < a then (-1 : Int) else if a < a then 1 else Lib.compareBytes as (as ++ c)) ≤ 0
    have ih := cmp_prefix as c
    have h : ¬ a < a := by rw [UInt8.lt_iff_toNat_lt]; omega
    rw [if_neg h, if_neg h]
    exact ih

end Go.Proofs.YtadfecglbeimbaaDoor
