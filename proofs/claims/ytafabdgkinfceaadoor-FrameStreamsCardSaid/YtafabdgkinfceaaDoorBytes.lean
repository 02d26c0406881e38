/- Plain laws: bytes as numbers, the least one first; the numbers of a text by eights; the sum. -/
import Derived.Test.YtafabdgkinfceaaDoorU64
namespace Go.Proofs.YtafabdgkinfceaaDoor

/-- bytes as a natural number, the least one first -/
def le : List UInt8 → Nat
  | [] => 0
  | b :: l => b.toNat + 256 * le l

theorem le_lt (l : List UInt8) : le l < 256 ^ l.length := by
  induction l with
  | nil => simp [le]
  | cons b l ih =>
    have hb := b.toNat_lt
    simp only [le, List.length_cons, Nat.pow_succ]
    omega

theorem le_append (l m : List UInt8) : le (l ++ m) = le l + 256 ^ l.length * le m := by
  induction l with
  | nil => simp [le]
  | cons b l ih =>
    simp only [List.cons_append, le, List.length_cons, ih, Nat.pow_succ]
    rw [Nat.mul_add, ← Nat.mul_assoc, Nat.mul_comm 256 (256 ^ l.length)]
    omega

/-- bytes as a number of 64 bits -/
def num (l : List UInt8) : BitVec 64 := BitVec.ofNat 64 (le l)

theorem num_or (l : List UInt8) (b : BitVec 64) : num l ||| b <<< (8 * l.length) = num l + b <<< (8 * l.length) := by
  have hl := le_lt l
  have e : (256 : Nat) ^ l.length = 2 ^ (8 * l.length) := by
    rw [Nat.pow_mul]
  symm
  apply BitVec.add_eq_or_of_and_eq_zero
  apply BitVec.eq_of_getLsbD_eq
  intro i hi
  simp only [BitVec.getLsbD_and, BitVec.getLsbD_shiftLeft, num, BitVec.getLsbD_ofNat]
  by_cases h1 : i < 8 * l.length
  · simp [h1]
  · have : (le l).testBit i = false := Nat.testBit_lt_two_pow (by
      calc le l < 2 ^ (8 * l.length) := by rw [← e]; exact hl
        _ ≤ 2 ^ i := Nat.pow_le_pow_right (by omega) (by omega))
    simp [this]

theorem num_snoc_add (l : List UInt8) (c : UInt8) : num (l ++ [c]) = num l + (BitVec.ofNat 64 c.toNat) <<< (8 * l.length) := by
  have e : (256 : Nat) ^ l.length = 2 ^ (8 * l.length) := by
    rw [Nat.pow_mul]
  unfold num
  rw [le_append]
  simp only [le, Nat.mul_zero, Nat.add_zero]
  apply BitVec.eq_of_toNat_eq
  simp only [BitVec.toNat_ofNat, BitVec.toNat_add, BitVec.toNat_shiftLeft, Nat.shiftLeft_eq]
  rw [e, Nat.mul_comm (2 ^ (8 * l.length)) c.toNat]
  have h2 : c.toNat % 2 ^ 64 = c.toNat := Nat.mod_eq_of_lt (Nat.lt_of_lt_of_le c.toNat_lt (by decide))
  rw [h2, Nat.add_mod]
  
theorem num_snoc (l : List UInt8) (c : UInt8) : num (l ++ [c]) = num l ||| (BitVec.ofNat 64 c.toNat) <<< (8 * l.length) := by
  rw [num_or, num_snoc_add]

/-- the i-th eight of bytes as a number -/
def blk (l : List UInt8) (i : Nat) : BitVec 64 := num ((l.drop (8 * i)).take 8)
/-- what ends a sum: what is left of the bytes, and how many they are -/
def endBlk (l : List UInt8) : BitVec 64 := num (l.drop (8 * (l.length / 8))) ||| (BitVec.ofNat 64 l.length) <<< 56
/-- the numbers of a text -/
def msgs (l : List UInt8) : List (BitVec 64) := (List.range (l.length / 8)).map (blk l) ++ [endBlk l]

/-- how many zeros are put behind a text of n bytes -/
def padN (n : Nat) : Nat := 7 - n % 8
/-- a text, its zeros, and how many bytes it has, in one byte -/
def padded (l : List UInt8) : List UInt8 := l ++ List.replicate (padN l.length) 0 ++ [UInt8.ofNat l.length]

theorem padded_length (l : List UInt8) : (padded l).length = 8 * (l.length / 8 + 1) := by
  simp only [padded, padN, List.length_append, List.length_replicate, List.length_cons, List.length_nil]
  omega

theorem le_replicate (k : Nat) : le (List.replicate k 0) = 0 := by
  induction k with
  | zero => rfl
  | succ k ih => simp [List.replicate_succ, le, ih]

theorem blk_padded (l : List UInt8) (i : Nat) (h : i < l.length / 8) : blk (padded l) i = blk l i := by
  unfold blk padded
  rw [List.append_assoc, List.drop_append_of_le_length (by omega), List.take_append_of_le_length (by simp; omega)]

theorem shl_nat (n : Nat) : ((BitVec.ofNat 64 n) <<< 56).toNat = n % 256 * 2 ^ 56 := by
  simp only [BitVec.toNat_shiftLeft, BitVec.toNat_ofNat, Nat.shiftLeft_eq]
  rw [show (2 : Nat) ^ 64 = 256 * 2 ^ 56 from rfl, Nat.mul_mod_mul_right]
  rw [Nat.mod_mul_right_mod]
theorem shl_len (n : Nat) : (BitVec.ofNat 64 (UInt8.ofNat n).toNat) <<< (8 * 7) = (BitVec.ofNat 64 n) <<< 56 := by
  apply BitVec.eq_of_toNat_eq
  show ((BitVec.ofNat 64 (UInt8.ofNat n).toNat) <<< 56).toNat = _
  rw [shl_nat, shl_nat]
  simp

theorem blk_padded_end (l : List UInt8) : blk (padded l) (l.length / 8) = endBlk l := by
  have hd : (l.drop (8 * (l.length / 8))).length = l.length % 8 := by simp; omega
  have e : ((padded l).drop (8 * (l.length / 8))).take 8 = l.drop (8 * (l.length / 8)) ++ List.replicate (padN l.length) 0 ++ [UInt8.ofNat l.length] := by
    rw [List.take_of_length_le (by rw [List.length_drop, padded_length]; omega)]
    unfold padded
    rw [List.append_assoc, List.drop_append_of_le_length (by omega), ← List.append_assoc]
  unfold blk endBlk
  rw [e, num_snoc]
  have e2 : num (l.drop (8 * (l.length / 8)) ++ List.replicate (padN l.length) 0) = num (l.drop (8 * (l.length / 8))) := by
    unfold num
    rw [le_append, le_replicate]
    simp
  have e3 : (l.drop (8 * (l.length / 8)) ++ List.replicate (padN l.length) (0 : UInt8)).length = 7 := by
    rw [List.length_append, hd, List.length_replicate]
    unfold padN
    omega
  rw [e2, e3, shl_len]

theorem msgs_padded (l : List UInt8) : (List.range (l.length / 8 + 1)).map (blk (padded l)) = msgs l := by
  unfold msgs
  rw [List.range_succ, List.map_append]
  congr 1
  · exact List.map_congr_left fun i hi => blk_padded l i (by simpa using hi)
  · simp [blk_padded_end]

/-- the numbers of a text, and which one is the last -/
def evs (l : List UInt8) : List (BitVec 64 × Bool) := (List.range (l.length / 8)).map (fun i => (blk l i, false)) ++ [(endBlk l, true)]
/-- the first k of them, k at most those of whole eights -/
def evsTo (l : List UInt8) (k : Nat) : List (BitVec 64 × Bool) := (List.range k).map (fun i => (blk l i, false))

theorem evsTo_zero (l : List UInt8) : evsTo l 0 = [] := rfl
theorem evsTo_succ (l : List UInt8) (k : Nat) : evsTo l (k + 1) = evsTo l k ++ [(blk l k, false)] := by
  simp [evsTo, List.range_succ]
theorem evsTo_length (l : List UInt8) (k : Nat) : (evsTo l k).length = k := by simp [evsTo]
theorem evs_eq (l : List UInt8) : evs l = evsTo l (l.length / 8) ++ [(endBlk l, true)] := rfl
theorem evsTo_prefix (l : List UInt8) (k : Nat) (h : k ≤ l.length / 8) : evsTo l k <+: evs l := by
  refine ⟨(evs l).drop k, ?_⟩
  have e : evsTo l k = (evs l).take k := by
    rw [evs_eq, List.take_append_of_le_length (by rw [evsTo_length]; exact h)]
    unfold evsTo
    rw [← List.map_take, List.take_range, Nat.min_eq_left h]
  rw [e, List.take_append_drop]
theorem evs_whole (l : List UInt8) (p : List (BitVec 64 × Bool)) (x : BitVec 64 × Bool) (h : p ++ [x] <+: evs l) (hx : x.2 = true) : p ++ [x] = evs l := by
  obtain ⟨r, hr⟩ := h
  rw [evs_eq] at hr ⊢
  rcases List.eq_nil_or_concat r with rfl | ⟨r', y, rfl⟩
  · rw [List.append_nil] at hr; exact hr
  · have h2 : p ++ [x] ++ r' = evsTo l (l.length / 8) := by
      rw [List.concat_eq_append, ← List.append_assoc] at hr
      exact (List.append_inj' hr rfl).1
    have h3 : x ∈ evsTo l (l.length / 8) := by rw [← h2]; simp
    simp only [evsTo, List.mem_map] at h3
    obtain ⟨i, _, rfl⟩ := h3
    simp at hx
theorem evs_fst (l : List UInt8) : (evs l).map Prod.fst = msgs l := by
  simp [evs, msgs, List.map_map, Function.comp_def]

end Go.Proofs.YtafabdgkinfceaaDoor
