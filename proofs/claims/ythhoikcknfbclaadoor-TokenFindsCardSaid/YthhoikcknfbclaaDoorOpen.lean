/- What an argument's value looks like, out of its reading. -/
import Derived.Test.YthhoikcknfbclaaDoorU64
import Derived.Test.YthhoikcknfbclaaDoorProg
import Derived.ProofKit
import Derived.OpenShut
import Derived.Lib.SmallJoins
namespace Go.Proofs.YthhoikcknfbclaaDoor
open Go.ChangeShapes Go.WideShapes Go.ChangeAt Go.RowKit Go.Joins
open Go.ChangeMaps (open_string shut_string)

set_option maxRecDepth 100000
section
variable {H : Type} {enc : TypeId × Value → H} {w : World} {base : Nat} {spare : Nat → Bool} {held : Bool} {r : Reach} {b0 : Nat} {v : Value} {d : DataW H} {p : List MemPlace}

theorem wf_un {n : Int} (h : (Lit.int .u64 n).wf = true) : ∃ x : BitVec 64, n = un x := by
  have := bounds_u64 h
  exact un_of n this.1 (by omega)

theorem openU64 (hv : Value.okWide Tryd.prog w r b0 22 v) (h : DataW.Trod enc Tryd.prog w base spare held 22 v d p) : ∃ x : BitVec 64, v = .int .u64 (un x) := by
  obtain ⟨n, rfl, _, _, hw⟩ := open_int Tryd.underlying22 hv h
  obtain ⟨x, rfl⟩ := wf_un hw
  exact ⟨x, rfl⟩

theorem openStr (hv : Value.okWide Tryd.prog w r b0 9 v) (h : DataW.Trod enc Tryd.prog w base spare held 9 v d p) : ∃ s : ByteArray, v = .string s ∧ s.size ≤ 9223372036854775807 := by
  obtain ⟨s, rfl, _, _, hs⟩ := open_string Tryd.underlying9 hv h
  exact ⟨s, rfl, hs⟩

theorem cellsKey : Tryd.prog.cellsOf 24 = 2 := by kernel_rfl
theorem openKey (hv : Value.okWide Tryd.prog w r b0 24 v) (h : DataW.Trod enc Tryd.prog w base spare held 24 v d p) : ∃ a b : BitVec 64, v = .agg #[.int .u64 (un a), .int .u64 (un b)] := by
  obtain ⟨c0, c1, y0, y1, m, rfl, _, _, h0, h1⟩ := open_agg2 Tryd.underlying24 (by kernel_rfl) cellsKey hv h
  obtain ⟨n0, e0, _, w0⟩ := DataW.trod_int Tryd.underlying22 h0
  obtain ⟨n1, e1, _, w1⟩ := DataW.trod_int Tryd.underlying22 h1
  simp at e0 e1
  obtain ⟨a, rfl⟩ := wf_un w0
  obtain ⟨b, rfl⟩ := wf_un w1
  exact ⟨a, b, by rw [e0, e1]⟩

end
end Go.Proofs.YthhoikcknfbclaaDoor
