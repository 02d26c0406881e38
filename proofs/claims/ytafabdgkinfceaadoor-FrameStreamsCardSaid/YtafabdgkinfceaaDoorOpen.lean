/- What an argument's value looks like, out of its reading. -/
import Derived.Test.YtafabdgkinfceaaDoorU64
import Derived.Test.YtafabdgkinfceaaDoorProg
import Derived.ProofKit
import Derived.OpenShut
import Derived.Lib.SmallJoins
namespace Go.Proofs.YtafabdgkinfceaaDoor
open Go.ChangeShapes Go.WideShapes Go.ChangeAt Go.RowKit Go.Joins
open Go.ChangeMaps (open_string shut_string)

set_option maxRecDepth 100000
section
variable {H : Type} {enc : TypeId × Value → H} {w : World} {base : Nat} {spare : Nat → Bool} {held : Bool} {r : Reach} {b0 : Nat} {v : Value} {d : DataW H} {p : List MemPlace}

theorem wf_un {n : Int} (h : (Lit.int .u64 n).wf = true) : ∃ x : BitVec 64, n = un x := by
  have := bounds_u64 h
  exact un_of n this.1 (by omega)

theorem openU64 (hv : Value.okWide Tryd.prog w r b0 44 v) (h : DataW.Trod enc Tryd.prog w base spare held 44 v d p) : ∃ x : BitVec 64, v = .int .u64 (un x) := by
  obtain ⟨n, rfl, _, _, hw⟩ := open_int Tryd.underlying44 hv h
  obtain ⟨x, rfl⟩ := wf_un hw
  exact ⟨x, rfl⟩

theorem openStr (hv : Value.okWide Tryd.prog w r b0 9 v) (h : DataW.Trod enc Tryd.prog w base spare held 9 v d p) : ∃ s : ByteArray, v = .string s ∧ s.size ≤ 9223372036854775807 := by
  obtain ⟨s, rfl, _, _, hs⟩ := open_string Tryd.underlying9 hv h
  exact ⟨s, rfl, hs⟩


end
end Go.Proofs.YtafabdgkinfceaaDoor
