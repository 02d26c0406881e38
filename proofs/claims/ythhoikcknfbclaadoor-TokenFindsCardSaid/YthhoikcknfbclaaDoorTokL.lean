/- Plain: different claims have different tokens. -/
import Derived.Test.YthhoikcknfbclaaDoorTokS
namespace Go.Proofs.YthhoikcknfbclaaDoor
theorem mint_apart (a b : BitVec 64) (t r u t' r' u' : Nat) (ht : t < 18446744073709551616) (ht' : t' < 18446744073709551616) (hu : u < 18446744073709551616) (hu' : u' < 18446744073709551616) (hr : r ≤ 3) (hr' : r' ≤ 3) (h : ¬ (t = t' ∧ r = r' ∧ u = u')) : mintB a b t r u ≠ mintB a b t' r' u' := by
  intro e
  have e2 := congrArg (fun x : ByteArray => x.data.toList) e
  simp only [mintB_list] at e2
  obtain ⟨h1, h2, h3, -⟩ := bodyL_inj ht (by omega) hu ht' (by omega) hu' e2
  exact h ⟨h1, h2, h3⟩
theorem mintV_form (a b : BitVec 64) (t : Nat) (r : Int) (u : Nat) : ∃ (x : ByteArray) (n : Int), mintV a b t r u = .tuple #[.string x, .int .i64 n] := by
  by_cases h : 1 ≤ r ∧ r ≤ 3
  · exact ⟨_, _, mintV_ok _ _ _ _ _ h⟩
  · exact ⟨_, _, mintV_no _ _ _ _ _ h⟩
theorem checkV_form (a b : BitVec 64) (s : ByteArray) (now : Nat) (o : Option (Nat × Nat × Nat)) : ∃ x y z e : Int, checkV a b s now o = .tuple #[.agg #[.int .u64 x, .int .i64 y, .int .u64 z], .int .i64 e] := by
  cases o with
  | none => exact ⟨0, 0, 0, 170, rfl⟩
  | some o =>
    obtain ⟨t, r, u⟩ := o
    by_cases h : mintB a b t r u = s
    · by_cases h2 : u < now
      · exact ⟨0, 0, 0, 171, checkV_2 h h2⟩
      · exact ⟨t, r, u, 0, checkV_3 h h2⟩
    · exact ⟨0, 0, 0, 170, checkV_1 h⟩
theorem bodyV_form (o : Option (Nat × Nat × Nat)) : ∃ (x y z : Int) (e : Bool), bodyV o = .tuple #[.agg #[.int .u64 x, .int .i64 y, .int .u64 z], .bool e] := by
  cases o with
  | none => exact ⟨0, 0, 0, false, rfl⟩
  | some o => obtain ⟨t, r, u⟩ := o; exact ⟨t, r, u, true, rfl⟩
theorem back_form (a b : BitVec 64) (c : ByteArray) :
    (∃ t r u : Nat, checkV a b c 0 (bodyOf c.data.toList) = .tuple #[cv t r u, .int .i64 0] ∧ mintV a b t r u = .tuple #[.string c, .int .i64 0] ∧ t < 18446744073709551616 ∧ u < 18446744073709551616 ∧ r ≤ 3) ∨
    checkV a b c 0 (bodyOf c.data.toList) = .tuple #[cv 0 0 0, .int .i64 170] := by
  cases h : bodyOf c.data.toList with
  | none => exact .inr rfl
  | some o =>
    obtain ⟨t, r, u⟩ := o
    obtain ⟨-, h1, h3, ht, hu⟩ := bodyOf_some h
    by_cases h2 : mintB a b t r u = c
    · refine .inl ⟨t, r, u, checkV_3 h2 (by omega), ?_, ht, hu, h3⟩
      rw [mintV_ok _ _ _ _ _ (by omega), Int.toNat_natCast, h2]
    · exact .inr (checkV_1 h2)
end Go.Proofs.YthhoikcknfbclaaDoor
