/- What the rows' list of package-level variables gives: the two sentinels and the type's handle lie; and a world that meets it. -/
import Derived.Test.YtafabdgkinfceaaDoorRows
import Derived.Test.YtafabdgkinfceaaDoorFrmE
import Derived.ProofKit
import Derived.LaidLaws
import Derived.LaidHandle
import Derived.Stop.LaidErr
import Derived.Stop.LaidTwo
import Derived.Stop.Texts
namespace Go.Proofs.YtafabdgkinfceaaDoor
open Go.ChangeShapes Go.WideShapes Go.ChangeAt Go.RowKit Go.Kit

/-- the rows' list -/
abbrev laidS : List (String × DataW Unit) := [("aviary/field.errMore", Rows.laid_aviary_field_errMore), ("aviary/field.errField", Rows.laid_aviary_field_errField)]
abbrev laidL : List (String × DataW Unit) := [("errors.errorType", Rows.laid_errors_errorType), ("aviary/field.errMore", Rows.laid_aviary_field_errMore), ("aviary/field.errField", Rows.laid_aviary_field_errField)]

theorem gM : Tryd.prog.globalNamed "aviary/field.errMore" = some 1 := by kernel_rfl
theorem gF : Tryd.prog.globalNamed "aviary/field.errField" = some 2 := by kernel_rfl
theorem gMType : (Tryd.prog.globals[1]?).map (·.type) = some 47 := by kernel_rfl
theorem gFType : (Tryd.prog.globals[2]?).map (·.type) = some 47 := by kernel_rfl
theorem cellsES : Tryd.prog.cellsOf 138 = 1 := by kernel_rfl
theorem cellsStr : Tryd.prog.cellsOf 9 = 1 := by kernel_rfl
theorem starES : "*" ++ "errors.errorString" = "*errors.errorString" := by decide
theorem rowES (u : TypeId) (h : Tryd.prog.typeName? 3 u = some "*errors.errorString") : u = 117 :=
  typeName_ptr_named (nm := "errors.errorString") (by rw [starES]; kernel_rfl) (by kernel_rfl) (by decide) u (by rw [starES]; exact h)
theorem gE : Tryd.prog.globalNamed "errors.errorType" = some 0 := by kernel_rfl
theorem rtE : (Tryd.prog.cutTypes.find? (·.1 == "internal/reflectlite.rtype")).map (·.2) = some 99 := by kernel_rfl
theorem oneE : ((List.range 150).filter fun t => Tryd.prog.rowNamed t [101, 114, 114, 111, 114]) = [47] := by kernel_rfl
theorem sizeE : Tryd.prog.types.size = 150 := by kernel_rfl

theorem snt_of_laid {W : World} (h : laidMetH Tryd.prog laidL W) : ∃ p q, Snt p q W := by
  have h' : laidMet Tryd.prog laidS W ∧ handlesMet Tryd.prog [("errors.errorType", Rows.laid_errors_errorType)] W := h
  obtain ⟨a0, a1, s0, s1, c0, c1, t0, t1, hv0, hv1, hc0, hs0, hz0, hc1, hs1, hz1, hne, hb0, hb1⟩ := laid_sentinels2 h'.1 gM gMType gF gFType Tryd.underlying47 rowES Tryd.underlying117 Tryd.underlying138 rfl rfl Tryd.underlying9 cellsES cellsStr
  obtain ⟨name, u, ty, e1, e2, e3, e4, e5⟩ := h'.2 _ (List.mem_singleton.2 rfl)
  have en : name = [101, 114, 114, 111, 114] := (Option.some.inj e1).symm
  subst en
  obtain rfl := Option.some.inj (rtE.symm.trans e2)
  have hm : ty ∈ (List.range 150).filter fun t => Tryd.prog.rowNamed t [101, 114, 114, 111, 114] := List.mem_filter.2 ⟨List.mem_range.2 (by rw [← sizeE]; exact e3), e4⟩
  rw [oneE] at hm
  obtain rfl := List.mem_singleton.1 hm
  have hh : typeHandle Tryd.prog 47 = .pointer (some ⟨3, 47, none⟩) := by kernel_rfl
  rw [hh] at e5
  exact ⟨a0, a1, ⟨hne, by simpa using World.var?_cell gM hv0 0, by simpa using World.var?_cell gF hv1 0, ⟨_, _, hb0⟩, ⟨_, _, hb1⟩⟩, by simpa using World.var?_cell gE e5 0⟩

abbrev moreS : ByteArray := ⟨#[102, 105, 101, 108, 100, 58, 32, 98, 121, 116, 101, 115, 32, 97, 114, 101, 32, 109, 105, 115, 115, 105, 110, 103]⟩
abbrev fieldS : ByteArray := ⟨#[102, 105, 101, 108, 100, 58, 32, 116, 104, 101, 115, 101, 32, 98, 121, 116, 101, 115, 32, 97, 114, 101, 32, 110, 111, 110, 101]⟩
noncomputable def lowB : Nat := (World.holding Tryd.prog default ⟨#[], #[], []⟩).heap.size
noncomputable def laidWorld (os : Os) : World :=
  let w0 := World.holding Tryd.prog os ⟨#[.cells #[.string moreS] 138, .cells #[.string fieldS] 138], #[], []⟩
  { w0 with heap := ((w0.heap.modify 1 fun
      | .cells _ t frozen => .cells #[.iface 117 (.pointer (some ⟨lowB, 0, none⟩))] t frozen
      | o => o).modify 2 fun
      | .cells _ t frozen => .cells #[.iface 117 (.pointer (some ⟨lowB + 1, 0, none⟩))] t frozen
      | o => o).modify 0 fun
      | .cells _ t frozen => .cells #[.iface 99 (.agg #[.pointer (some ⟨3, 47, none⟩)])] t frozen
      | o => o }
theorem laidWorld_met (os : Os) (args : Array Value) : laidMet Tryd.prog laidS ((laidWorld os).forCall (fun _ _ => 0) ⟨#[], args, []⟩).memory :=
  laidMet_of_run (ps := [.cell 1 0, .cell lowB 0, .cell 2 0, .cell (lowB + 1) 0]) 8 (by kernel_rfl) (by kernel_rfl) (by kernel_rfl)
theorem laidWorld_metH (os : Os) (args : Array Value) : laidMetH Tryd.prog laidL ((laidWorld os).forCall (fun _ _ => 0) ⟨#[], args, []⟩).memory :=
  laidMetH_of_parts (laidWorld_met os args) (by kernel_rfl)

end Go.Proofs.YtafabdgkinfceaaDoor
