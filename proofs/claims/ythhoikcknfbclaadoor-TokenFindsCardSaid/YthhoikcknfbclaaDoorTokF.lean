/- Plain: a token whose last eight bytes are others. -/
import Derived.Test.YthhoikcknfbclaaDoorTokL
import Derived.Test.YthhoikcknfbclaaDoorBts
namespace Go.Proofs.YthhoikcknfbclaaDoor

/-- the byte of a change, by its place -/
def chB (ch k : Nat) : UInt8 := UInt8.ofNat (ch / 2 ^ (8 * k))
/-- the last k bytes changed -/
def mixS (l : List UInt8) (ch : Nat) : Nat → List UInt8
  | 0 => l
  | k + 1 => (mixS l ch k).set (l.length - 1 - k) (l.getD (l.length - 1 - k) 0 ^^^ chB ch k)
theorem mixS_length (l : List UInt8) (ch : Nat) : ∀ k, (mixS l ch k).length = l.length
  | 0 => rfl
  | k + 1 => by simp [mixS, mixS_length l ch k]
theorem mixS_at (l : List UInt8) (ch : Nat) : ∀ k, k ≤ l.length → ∀ j, j < l.length → (mixS l ch k)[j]? = some (if l.length - k ≤ j then l.getD j 0 ^^^ chB ch (l.length - 1 - j) else l.getD j 0)
  | 0, _, j, hj => by
    rw [if_neg (by omega)]
    simp [mixS, List.getD, List.getElem?_eq_getElem hj]
  | k + 1, hk, j, hj => by
    have ih := mixS_at l ch k (by omega) j hj
    by_cases e : l.length - 1 - k = j
    · subst e
      have hl := mixS_length l ch k
      rw [mixS, List.getElem?_set_self (by rw [hl]; exact hj), if_pos (by omega), show l.length - 1 - (l.length - 1 - k) = k by omega]
    · rw [mixS, List.getElem?_set_ne e, ih]
      by_cases h : l.length - k ≤ j
      · rw [if_pos h, if_pos (by omega)]
      · rw [if_neg h, if_neg (by omega)]
theorem chB_zero {ch : Nat} (h : ch < 18446744073709551616) (hz : ∀ k, k < 8 → chB ch k = 0) : ch = 0 := by
  have h1 : be ch 8 = be 0 8 := by
    have e : ∀ k, k < 8 → UInt8.ofNat (ch / 2 ^ (8 * k)) = 0 := hz
    simp only [be]
    rw [e 7 (by omega), e 6 (by omega), e 5 (by omega), e 4 (by omega), e 3 (by omega), e 2 (by omega), e 1 (by omega), e 0 (by omega)]
    simp
  have h2 := val_be 8 ch (by simpa using h)
  have h3 := val_be 8 0 (by decide)
  rw [h1] at h2
  omega
theorem xor_self_ne {a b : UInt8} (h : a ^^^ b = a) : b = 0 := by
  have : a ^^^ (a ^^^ b) = a ^^^ a := by rw [h]
  rwa [← UInt8.xor_assoc, UInt8.xor_self, UInt8.zero_xor] at this
theorem mixS_ne (l : List UInt8) (ch : Nat) (hl : 8 ≤ l.length) (h : ch < 18446744073709551616) (h0 : ch ≠ 0) : mixS l ch 8 ≠ l := by
  intro e
  apply h0
  refine chB_zero h fun k hk => ?_
  have h1 := mixS_at l ch 8 hl (l.length - 1 - k) (by omega)
  rw [e, if_pos (by omega), show l.length - 1 - (l.length - 1 - k) = k by omega] at h1
  have h2 : l[l.length - 1 - k]? = some (l.getD (l.length - 1 - k) 0) := by simp [List.getD, List.getElem?_eq_getElem (show l.length - 1 - k < l.length by omega)]
  rw [h2] at h1
  exact xor_self_ne (Option.some.inj h1).symm
theorem mixS_head (bd sm : List UInt8) (ch : Nat) (hs : sm.length = 8) : ∃ x, mixS (bd ++ sm) ch 8 = bd ++ x ∧ x.length = 8 := by
  have hl := mixS_length (bd ++ sm) ch 8
  refine ⟨(mixS (bd ++ sm) ch 8).drop bd.length, ?_, by rw [List.length_drop, hl, List.length_append]; omega⟩
  have ht : (mixS (bd ++ sm) ch 8).take bd.length = bd := by
    apply List.ext_getElem?
    intro j
    by_cases hj : j < bd.length
    · rw [List.getElem?_take_of_lt hj, mixS_at (bd ++ sm) ch 8 (by rw [List.length_append]; omega) j (by rw [List.length_append]; omega), if_neg (by rw [List.length_append]; omega)]
      simp [List.getD, List.getElem?_append_left hj, List.getElem?_eq_getElem hj]
    · rw [List.getElem?_eq_none (by rw [List.length_take]; omega), List.getElem?_eq_none (by omega)]
  exact (List.take_append_drop bd.length _).symm.trans (by rw [ht])

/-- the token's bytes, the last eight changed, as a text -/
def mixB (M : ByteArray) (ch : Nat) : ByteArray := ⟨(mixS M.data.toList ch 8).toArray⟩
section
variable (a b : BitVec 64) (t r u : Nat) (ht : t < 18446744073709551616) (hu : u < 18446744073709551616) (h1 : 1 ≤ r) (h3 : r ≤ 3) (now : Nat)
include ht hu h1 h3
theorem finds_mix (ch : Nat) (hc : ch < 18446744073709551616) (h0 : ch ≠ 0) : checkV a b (mixB (mintB a b t r u) ch) now (bodyOf (mixB (mintB a b t r u) ch).data.toList) = .tuple #[cv 0 0 0, .int .i64 170] := by
  have hsz := mintB_size a b t r u
  have hz : (mintB a b t r u).data.toList.length = (mintB a b t r u).size := by simp
  have hne : mintB a b t r u ≠ mixB (mintB a b t r u) ch := by
    intro e
    have e2 := congrArg (fun x : ByteArray => x.data.toList) e
    simp only [mixB] at e2
    exact mixS_ne _ ch (by omega) hc h0 e2.symm
  have hb : bodyOf (mixB (mintB a b t r u) ch).data.toList = some (t, r, u) := by
    obtain ⟨x, hx, hx8⟩ := mixS_head (bodyL t r u) (sumL a b (bodyL t r u)) ch (sumL_length _ _ _)
    show bodyOf (mixS (mintB a b t r u).data.toList ch 8).toArray.toList = _
    rw [mintB_list, hx]
    show bodyOf (bodyL t r u ++ x) = _
    rw [bodyOf_cat t r u x ht (by omega) hu, if_pos ⟨hx8, h1, h3⟩]
  rw [hb]
  exact checkV_1 hne
theorem finds_more : checkV a b (mintB a b t r u ++ ⟨#[120]⟩) now (bodyOf (mintB a b t r u ++ ⟨#[120]⟩).data.toList) = .tuple #[cv 0 0 0, .int .i64 170] := by
  have hb : bodyOf (mintB a b t r u ++ (⟨#[120]⟩ : ByteArray)).data.toList = none := by
    rw [ByteArray.data_append, Array.toList_append, mintB_list, List.append_assoc, bodyOf_cat t r u _ ht (by omega) hu, if_neg]
    intro h
    have := h.1
    rw [List.length_append, sumL_length] at this
    simp at this
  rw [hb]
  rfl
theorem finds_less (m : Nat) (hm : (mintB a b t r u).size = m + 1) : checkV a b ((mintB a b t r u).extract 0 m) now (bodyOf ((mintB a b t r u).extract 0 m).data.toList) = .tuple #[cv 0 0 0, .int .i64 170] := by
  have hz : (mintB a b t r u).data.toList.length = (mintB a b t r u).size := by simp
  have hb : bodyOf ((mintB a b t r u).extract 0 m).data.toList = none := by
    rw [mintB_list, List.length_append, sumL_length] at hz
    rw [ByteArray.data_extract, Array.toList_extract, mintB_list, List.extract_eq_take_drop, List.drop_zero, Nat.sub_zero, List.take_append, List.take_of_length_le (by omega), bodyOf_cat t r u _ ht (by omega) hu, if_neg]
    intro h
    have := h.1
    rw [List.length_take, sumL_length] at this
    omega
  rw [hb]
  rfl
end
end Go.Proofs.YthhoikcknfbclaaDoor
