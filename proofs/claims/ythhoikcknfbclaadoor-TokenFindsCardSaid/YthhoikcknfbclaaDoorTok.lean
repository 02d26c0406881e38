/- Plain: tokens, and claims of tokens. -/
import Derived.Test.YthhoikcknfbclaaDoorGetLaws
import Derived.Test.YthhoikcknfbclaaDoorChild
namespace Go.Proofs.YthhoikcknfbclaaDoor

/-- the word of a token's key -/
abbrev tokB : ByteArray := ⟨#[116, 111, 107, 101, 110]⟩
/-- the sum of a body -/
def sumV (a b : BitVec 64) (l : List UInt8) : BitVec 64 := sipSum (childA a b tokB.data.toList) (childB a b tokB.data.toList) l
def sumL (a b : BitVec 64) (l : List UInt8) : List UInt8 := be (sumV a b l).toNat 8
def bodyL (t r u : Nat) : List UInt8 := put t ++ (put r ++ put u)
def bodyB (t r u : Nat) : ByteArray := ⟨(bodyL t r u).toArray⟩
def sumB (a b : BitVec 64) (s : ByteArray) : ByteArray := ⟨(sumL a b s.data.toList).toArray⟩
def mintB (a b : BitVec 64) (t r u : Nat) : ByteArray := bodyB t r u ++ sumB a b (bodyB t r u)

theorem sumL_length (a b : BitVec 64) (l : List UInt8) : (sumL a b l).length = 8 := be_length _ _
theorem sumB_size (a b : BitVec 64) (s : ByteArray) : (sumB a b s).size = 8 := by
  have := sumL_length a b s.data.toList
  show (sumL _ _ _).toArray.size = 8
  simpa using this
theorem bodyL_length (t r u : Nat) : 3 ≤ (bodyL t r u).length ∧ (bodyL t r u).length ≤ 27 := by
  have h1 := put_length t
  have h2 := put_length r
  have h3 := put_length u
  simp [bodyL]
  omega
theorem bodyB_size (t r u : Nat) : 3 ≤ (bodyB t r u).size ∧ (bodyB t r u).size ≤ 27 := by
  have := bodyL_length t r u
  show 3 ≤ (bodyL t r u).toArray.size ∧ (bodyL t r u).toArray.size ≤ 27
  simpa using this
theorem bodyB_list (t r u : Nat) : (bodyB t r u).data.toList = bodyL t r u := by simp [bodyB]
theorem sumB_list (a b : BitVec 64) (s : ByteArray) : (sumB a b s).data.toList = sumL a b s.data.toList := by simp [sumB]
theorem mintB_list (a b : BitVec 64) (t r u : Nat) : (mintB a b t r u).data.toList = bodyL t r u ++ sumL a b (bodyL t r u) := by
  unfold mintB
  rw [ByteArray.data_append, Array.toList_append, sumB_list, bodyB_list]
theorem mintB_size (a b : BitVec 64) (t r u : Nat) : 11 ≤ (mintB a b t r u).size ∧ (mintB a b t r u).size ≤ 35 := by
  have h1 := bodyB_size t r u
  have h2 := sumB_size a b (bodyB t r u)
  unfold mintB
  rw [ByteArray.size_append]
  omega

/-- the claim that bytes say, whatever the sum is -/
def bodyOf (l : List UInt8) : Option (Nat × Nat × Nat) :=
  match getL l with
  | .ok t l1 => match getL l1 with
    | .ok r l2 => match getL l2 with
      | .ok u l3 => if l3.length = 8 ∧ 1 ≤ r ∧ r ≤ 3 then some (t, r, u) else none
      | _ => none
    | _ => none
  | _ => none

theorem bodyOf_some {l : List UInt8} {t r u : Nat} (h : bodyOf l = some (t, r, u)) :
    (∃ l3, l = bodyL t r u ++ l3 ∧ l3.length = 8) ∧ 1 ≤ r ∧ r ≤ 3 ∧ t < 18446744073709551616 ∧ u < 18446744073709551616 := by
  unfold bodyOf at h
  cases h1 : getL l with
  | more => rw [h1] at h; cases h
  | field => rw [h1] at h; cases h
  | ok t' l1 =>
    rw [h1] at h
    simp only at h
    cases h2 : getL l1 with
    | more => rw [h2] at h; cases h
    | field => rw [h2] at h; cases h
    | ok r' l2 =>
      rw [h2] at h
      simp only at h
      cases h3 : getL l2 with
      | more => rw [h3] at h; cases h
      | field => rw [h3] at h; cases h
      | ok u' l3 =>
        rw [h3] at h
        simp only at h
        by_cases c : l3.length = 8 ∧ 1 ≤ r' ∧ r' ≤ 3
        · rw [if_pos c] at h
          injection h with h
          injection h with e1 h
          injection h with e2 e3
          subst e1 e2 e3
          obtain ⟨b1, d1, _⟩ := getL_back _ _ _ h1
          obtain ⟨b2, d2, _⟩ := getL_back _ _ _ h2
          obtain ⟨b3, d3, _⟩ := getL_back _ _ _ h3
          exact ⟨⟨l3, by rw [← b1, ← b2, ← b3]; simp [bodyL], c.1⟩, c.2.1, c.2.2, d1, d3⟩
        · rw [if_neg c] at h; cases h

theorem bodyOf_cat (t r u : Nat) (x : List UInt8) (ht : t < 18446744073709551616) (hr : r < 18446744073709551616) (hu : u < 18446744073709551616) :
    bodyOf (bodyL t r u ++ x) = if x.length = 8 ∧ 1 ≤ r ∧ r ≤ 3 then some (t, r, u) else none := by
  unfold bodyOf bodyL
  rw [List.append_assoc, List.append_assoc, getL_put t ht]
  simp only
  rw [getL_put r hr]
  simp only
  rw [getL_put u hu]

/-- bodies are one to one -/
theorem bodyL_inj {t r u t' r' u' : Nat} {x x' : List UInt8} (ht : t < 18446744073709551616) (hr : r < 18446744073709551616) (hu : u < 18446744073709551616)
    (ht' : t' < 18446744073709551616) (hr' : r' < 18446744073709551616) (hu' : u' < 18446744073709551616) (h : bodyL t r u ++ x = bodyL t' r' u' ++ x') : t = t' ∧ r = r' ∧ u = u' ∧ x = x' := by
  unfold bodyL at h
  simp only [List.append_assoc] at h
  have h1 := getL_put t ht (put r ++ (put u ++ x))
  rw [h, getL_put t' ht'] at h1
  injection h1 with e1 e2
  have h2 := getL_put r hr (put u ++ x)
  rw [← e2, getL_put r' hr'] at h2
  injection h2 with e3 e4
  have h3 := getL_put u hu x
  rw [← e4, getL_put u' hu'] at h3
  injection h3 with e5 e6
  exact ⟨e1.symm, e3.symm, e5.symm, e6.symm⟩

/-- what a claim looks like as a value -/
abbrev cv (t : Int) (r : Int) (u : Int) : Value := .agg #[.int .u64 t, .int .i64 r, .int .u64 u]
def bodyV : Option (Nat × Nat × Nat) → Value
  | none => .tuple #[cv 0 0 0, .bool false]
  | some (t, r, u) => .tuple #[cv t r u, .bool true]
/-- what checking a token tells -/
def checkV (a b : BitVec 64) (s : ByteArray) (now : Nat) : Option (Nat × Nat × Nat) → Value
  | none => .tuple #[cv 0 0 0, .int .i64 170]
  | some (t, r, u) => if mintB a b t r u ≠ s then .tuple #[cv 0 0 0, .int .i64 170] else if u < now then .tuple #[cv 0 0 0, .int .i64 171] else .tuple #[cv t r u, .int .i64 0]
def mintV (a b : BitVec 64) (t : Nat) (r : Int) (u : Nat) : Value :=
  if 1 ≤ r ∧ r ≤ 3 then .tuple #[.string (mintB a b t r.toNat u), .int .i64 0] else .tuple #[.string ⟨#[]⟩, .int .i64 170]

theorem ba_ext {x y : ByteArray} (h : x.data.toList = y.data.toList) : x = y := by
  apply ByteArray.ext
  exact Array.toList_inj.1 h

/-- the sum's part of a token -/
theorem split_token {s : ByteArray} {t r u : Nat} (h : bodyOf s.data.toList = some (t, r, u)) :
    8 ≤ s.size ∧ s.extract 0 (s.size - 8) = bodyB t r u ∧ ∀ a b : BitVec 64, (s.extract (s.size - 8) s.size = sumB a b (bodyB t r u) ↔ mintB a b t r u = s) := by
  obtain ⟨⟨l3, hl, h8⟩, -⟩ := bodyOf_some h
  have hsz : s.size = (bodyL t r u).length + 8 := by
    have : s.data.toList.length = s.size := by simp
    rw [← this, hl, List.length_append, h8]
  have e1 : (s.extract 0 (s.size - 8)).data.toList = bodyL t r u := by
    rw [ByteArray.data_extract, Array.toList_extract, hl, List.extract_eq_take_drop, List.drop_zero, Nat.sub_zero, hsz, Nat.add_sub_cancel, List.take_left]
  have e2 : (s.extract (s.size - 8) s.size).data.toList = l3 := by
    rw [ByteArray.data_extract, Array.toList_extract, hl, List.extract_eq_take_drop, hsz, Nat.add_sub_cancel, List.drop_left, List.take_of_length_le (by omega)]
  refine ⟨by omega, ba_ext (by rw [e1, bodyB_list]), fun a b => ⟨fun e => ?_, fun e => ?_⟩⟩
  · apply ba_ext
    rw [mintB_list, hl]
    congr 1
    have := congrArg (fun x : ByteArray => x.data.toList) e
    rw [e2, sumB_list, bodyB_list] at this
    exact this.symm
  · apply ba_ext
    rw [e2, sumB_list, bodyB_list]
    have := congrArg (fun x : ByteArray => x.data.toList) e
    rw [mintB_list, hl] at this
    exact (List.append_cancel_left this).symm

theorem bodyOf_mint (a b : BitVec 64) (t r u : Nat) (ht : t < 18446744073709551616) (hu : u < 18446744073709551616) (h1 : 1 ≤ r) (h3 : r ≤ 3) :
    bodyOf (mintB a b t r u).data.toList = some (t, r, u) := by
  rw [mintB_list, bodyOf_cat t r u _ ht (by omega) hu, if_pos ⟨sumL_length _ _ _, h1, h3⟩]

end Go.Proofs.YthhoikcknfbclaaDoor
