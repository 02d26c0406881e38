/- What the rows' list of package-level variables gives: the two sentinels lie; and a world that meets it. -/
import Derived.Test.YthhoikcknfbclaaDoorRows
import Derived.Test.YthhoikcknfbclaaDoorGetSmall
import Derived.ProofKit
import Derived.LaidLaws
import Derived.LaidHandle
import Derived.Stop.LaidErr
import Derived.Stop.LaidTwo
import Derived.Stop.Texts
namespace Go.Proofs.YthhoikcknfbclaaDoor
open Go.ChangeShapes Go.WideShapes Go.ChangeAt Go.RowKit Go.Kit

/-- the rows' list -/
abbrev laidL : List (String × DataW Unit) := [("aviary/field.errMore", Rows.laid_aviary_field_errMore), ("aviary/field.errField", Rows.laid_aviary_field_errField)]

theorem gM : Tryd.prog.globalNamed "aviary/field.errMore" = some 0 := by kernel_rfl
theorem gF : Tryd.prog.globalNamed "aviary/field.errField" = some 1 := by kernel_rfl
theorem gMType : (Tryd.prog.globals[0]?).map (·.type) = some 84 := by kernel_rfl
theorem gFType : (Tryd.prog.globals[1]?).map (·.type) = some 84 := by kernel_rfl
theorem cellsES : Tryd.prog.cellsOf 140 = 1 := by kernel_rfl
theorem cellsStr : Tryd.prog.cellsOf 9 = 1 := by kernel_rfl
theorem starES : "*" ++ "errors.errorString" = "*errors.errorString" := by decide
theorem rowES (u : TypeId) (h : Tryd.prog.typeName? 3 u = some "*errors.errorString") : u = 114 :=
  typeName_ptr_named (nm := "errors.errorString") (by rw [starES]; kernel_rfl) (by kernel_rfl) (by decide) u (by rw [starES]; exact h)

theorem sents_of_laid {W : World} (h : laidMetH Tryd.prog laidL W) : ∃ p q, Sents p q W := by
  have hL : laidMet Tryd.prog laidL W := h
  obtain ⟨a0, a1, s0, s1, c0, c1, t0, t1, hv0, hv1, hc0, hs0, hz0, hc1, hs1, hz1, hne, hb0, hb1⟩ := laid_sentinels2 hL gM gMType gF gFType Tryd.underlying84 rowES Tryd.underlying114 Tryd.underlying140 rfl rfl Tryd.underlying9 cellsES cellsStr
  exact ⟨a0, a1, hne, by simpa using World.var?_cell gM hv0 0, by simpa using World.var?_cell gF hv1 0, ⟨_, _, hb0⟩, ⟨_, _, hb1⟩⟩

abbrev moreS : ByteArray := ⟨#[102, 105, 101, 108, 100, 58, 32, 98, 121, 116, 101, 115, 32, 97, 114, 101, 32, 109, 105, 115, 115, 105, 110, 103]⟩
abbrev fieldS : ByteArray := ⟨#[102, 105, 101, 108, 100, 58, 32, 116, 104, 101, 115, 101, 32, 98, 121, 116, 101, 115, 32, 97, 114, 101, 32, 110, 111, 110, 101]⟩
noncomputable def lowB : Nat := (World.holding Tryd.prog default ⟨#[], #[], []⟩).heap.size
noncomputable def laidWorld (os : Os) : World :=
  let w0 := World.holding Tryd.prog os ⟨#[.cells #[.string moreS] 140, .cells #[.string fieldS] 140], #[], []⟩
  { w0 with heap := (w0.heap.modify 0 fun
      | .cells _ t frozen => .cells #[.iface 114 (.pointer (some ⟨lowB, 0, none⟩))] t frozen
      | o => o).modify 1 fun
      | .cells _ t frozen => .cells #[.iface 114 (.pointer (some ⟨lowB + 1, 0, none⟩))] t frozen
      | o => o }
theorem laidWorld_met (os : Os) (args : Array Value) : laidMet Tryd.prog laidL ((laidWorld os).forCall (fun _ _ => 0) ⟨#[], args, []⟩).memory :=
  laidMet_of_run (ps := [.cell 0 0, .cell lowB 0, .cell 1 0, .cell (lowB + 1) 0]) 8 (by kernel_rfl) (by kernel_rfl) (by kernel_rfl)
theorem laidWorld_metH (os : Os) (args : Array Value) : laidMetH Tryd.prog laidL ((laidWorld os).forCall (fun _ _ => 0) ⟨#[], args, []⟩).memory := laidWorld_met os args

end Go.Proofs.YthhoikcknfbclaaDoor
