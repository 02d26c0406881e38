/- What an argument's value looks like, out of its reading. -/
import Derived.Test.YtddggjimggikpaaU64
import Derived.Test.YtddggjimggikpaaProg
import Derived.ProofKit
import Derived.OpenShut
import Derived.Lib.SmallJoins
namespace Go.Proofs.Ytddggjimggikpaa
open Go.ChangeShapes Go.WideShapes Go.ChangeAt Go.RowKit Go.Joins
open Go.ChangeMaps (open_string shut_string)

section
variable {H : Type} {enc : TypeId × Value → H} {w : World} {base : Nat} {spare : Nat → Bool} {held : Bool} {r : Reach} {b0 : Nat} {v : Value} {d : DataW H} {p : List MemPlace}

theorem wf_un {n : Int} (h : (Lit.int .u64 n).wf = true) : ∃ x : BitVec 64, n = un x := by
  have := bounds_u64 h
  exact un_of n this.1 (by omega)

theorem openU64 (hv : Value.okWide Try.prog w r b0 22 v) (h : DataW.Trod enc Try.prog w base spare held 22 v d p) : ∃ x : BitVec 64, v = .int .u64 (un x) := by
  obtain ⟨n, rfl, _, _, hw⟩ := open_int Try.underlying22 hv h
  obtain ⟨x, rfl⟩ := wf_un hw
  exact ⟨x, rfl⟩

theorem openStr (hv : Value.okWide Try.prog w r b0 9 v) (h : DataW.Trod enc Try.prog w base spare held 9 v d p) : ∃ s : ByteArray, v = .string s ∧ s.size ≤ 9223372036854775807 := by
  obtain ⟨s, rfl, _, _, hs⟩ := open_string Try.underlying9 hv h
  exact ⟨s, rfl, hs⟩

theorem cellsKey : Try.prog.cellsOf 24 = 2 := by kernel_rfl
theorem openKey (hv : Value.okWide Try.prog w r b0 24 v) (h : DataW.Trod enc Try.prog w base spare held 24 v d p) : ∃ a b : BitVec 64, v = .agg #[.int .u64 (un a), .int .u64 (un b)] := by
  obtain ⟨c0, c1, y0, y1, m, rfl, _, _, h0, h1⟩ := open_agg2 Try.underlying24 (by kernel_rfl) cellsKey hv h
  obtain ⟨n0, e0, _, w0⟩ := DataW.trod_int Try.underlying22 h0
  obtain ⟨n1, e1, _, w1⟩ := DataW.trod_int Try.underlying22 h1
  simp at e0 e1
  obtain ⟨a, rfl⟩ := wf_un w0
  obtain ⟨b, rfl⟩ := wf_un w1
  exact ⟨a, b, by rw [e0, e1]⟩

theorem cellsArr4 : Try.prog.cellsOf 29 = 4 := by kernel_rfl
theorem cellsU64 : Try.prog.cellsOf 22 = 1 := by kernel_rfl
theorem openV4 (hv : Value.okWide Try.prog w r b0 29 v) (h : DataW.Trod enc Try.prog w base spare held 29 v d p) : ∃ x : V4, v = .agg #[.int .u64 (un x.a), .int .u64 (un x.b), .int .u64 (un x.c), .int .u64 (un x.d)] := by
  simp only [Value.okWide, Try.underlying29] at hv
  obtain ⟨cs, rfl, hsz, _⟩ := hv
  rw [cellsArr4] at hsz
  obtain ⟨c0, c1, c2, c3, rfl⟩ := array4 hsz
  obtain ⟨fuel, hf⟩ := h
  obtain ⟨xs, m, _, _, _, hl, hi⟩ := DataW.trod_array Try.underlying29 hf
  have h0 := hi 0 (by omega)
  have h1 := hi 1 (by omega)
  have h2 := hi 2 (by omega)
  have h3 := hi 3 (by omega)
  rw [List.getElem?_eq_getElem (by omega)] at h0 h1 h2 h3
  simp only [Value.cells, cellsU64] at h0 h1 h2 h3
  obtain ⟨n0, e0, _, w0⟩ := DataW.trod_int Try.underlying22 h0
  obtain ⟨n1, e1, _, w1⟩ := DataW.trod_int Try.underlying22 h1
  obtain ⟨n2, e2, _, w2⟩ := DataW.trod_int Try.underlying22 h2
  obtain ⟨n3, e3, _, w3⟩ := DataW.trod_int Try.underlying22 h3
  simp at e0 e1 e2 e3
  obtain ⟨a, rfl⟩ := wf_un w0
  obtain ⟨b, rfl⟩ := wf_un w1
  obtain ⟨c, rfl⟩ := wf_un w2
  obtain ⟨d, rfl⟩ := wf_un w3
  exact ⟨⟨a, b, c, d⟩, by rw [e0, e1, e2, e3]⟩
end
end Go.Proofs.Ytddggjimggikpaa
