/- Plain: different claims have different tokens. -/
import Derived.Test.YthhoikcknfbclaaDoorTokS
namespace Go.Proofs.YthhoikcknfbclaaDoor
theorem mint_apart (a b : BitVec 64) (t r u t' r' u' : Nat) (ht : t < 18446744073709551616) (ht' : t' < 18446744073709551616) (hu : u < 18446744073709551616) (hu' : u' < 18446744073709551616) (hr : r ≤ 3) (hr' : r' ≤ 3) (h : ¬ (t = t' ∧ r = r' ∧ u = u')) : mintB a b t r u ≠ mintB a b t' r' u' := by
  intro e
  have e2 := congrArg (fun x : ByteArray => x.data.toList) e
  simp only [mintB_list] at e2
  obtain ⟨h1, h2, h3, -⟩ := bodyL_inj ht (by omega) hu ht' (by omega) hu' e2
  exact h ⟨h1, h2, h3⟩
end Go.Proofs.YthhoikcknfbclaaDoor
