/- Numbers and claims among the arguments. -/
import Derived.Test.YthhoikcknfbclaaDoorOpen
import Derived.Lib.SmallJoins
import Derived.Below
namespace Go.Proofs.YthhoikcknfbclaaDoor
open Go.ChangeShapes Go.WideShapes Go.ChangeAt Go.RowKit Go.Joins
set_option maxRecDepth 100000

section
variable {H : Type} {enc : TypeId × Value → H} {w : World} {base : Nat} {spare : Nat → Bool} {held : Bool} {r : Reach} {b0 : Nat} {v : Value} {d : DataW H} {p : List MemPlace}

theorem openNat (hv : Value.okWide Tryd.prog w r b0 22 v) (h : DataW.Trod enc Tryd.prog w base spare held 22 v d p) : ∃ n : Nat, v = .int .u64 n ∧ n < 18446744073709551616 := by
  obtain ⟨n, rfl, _, _, hw⟩ := open_int Tryd.underlying22 hv h
  have := bounds_u64 hw
  obtain ⟨n, rfl⟩ := Int.eq_ofNat_of_zero_le this.1
  exact ⟨n, rfl, by omega⟩
theorem openInt (hv : Value.okWide Tryd.prog w r b0 3 v) (h : DataW.Trod enc Tryd.prog w base spare held 3 v d p) : ∃ n : Int, v = .int .i64 n ∧ -9223372036854775808 ≤ n ∧ n ≤ 9223372036854775807 := by
  obtain ⟨n, rfl, _, _, hw⟩ := open_int Tryd.underlying3 hv h
  have := bounds_i64 hw
  exact ⟨n, rfl, this.1, this.2⟩
theorem cellsClaim : Tryd.prog.cellsOf 26 = 3 := by kernel_rfl
theorem openClaim (hv : Value.okWide Tryd.prog w r b0 26 v) (h : DataW.Trod enc Tryd.prog w base spare held 26 v d p) : ∃ (t : Nat) (r : Int) (u : Nat), v = .agg #[.int .u64 t, .int .i64 r, .int .u64 u] ∧ t < 18446744073709551616 ∧ -9223372036854775808 ≤ r ∧ r ≤ 9223372036854775807 ∧ u < 18446744073709551616 := by
  obtain ⟨c0, c1, c2, y0, y1, y2, m, rfl, _, _, h0, h1, h2⟩ := open_agg3 Tryd.underlying26 (by kernel_rfl) cellsClaim hv h
  obtain ⟨n0, e0, _, w0⟩ := DataW.trod_int Tryd.underlying22 h0
  obtain ⟨n1, e1, _, w1⟩ := DataW.trod_int Tryd.underlying3 h1
  obtain ⟨n2, e2, _, w2⟩ := DataW.trod_int Tryd.underlying22 h2
  simp at e0 e1 e2
  have b0 := bounds_u64 w0
  have b1 := bounds_i64 w1
  have b2 := bounds_u64 w2
  obtain ⟨n0, rfl⟩ := Int.eq_ofNat_of_zero_le b0.1
  obtain ⟨n2, rfl⟩ := Int.eq_ofNat_of_zero_le b2.1
  exact ⟨n0, n1, n2, by rw [e0, e1, e2], by omega, b1.1, b1.2, by omega⟩
end
end Go.Proofs.YthhoikcknfbclaaDoor
