/-
  DERIVED. GIVEN WITH THE SEED: THE CARDS: each row of YtadfecglbeimbaaDoorRows.lean that lists a variable, with what it lists TIED to the program's text (the seventh form; the later family's looks); each row that meets fmt, with fmt's text TOLD by the authors' own Lean function (tested against real Go, not proved from fmt's source: count such statements apart). THE CARD IS WHAT COUNTS. Prove the row's statement (the work); the ties are given (YtadfecglbeimbaaDoorTie.lean); close each card by the builder's one call (the guide's Derived/Test/ToyasCard.lean, 'card_holds'). Laid BY PROGRAM, IN A SANDBOX (cutbox-door.mjs). By AI agents, Wed Nov 11 2026. No macro, syntax, notation, axiom, sorry.
-/
import Derived.Test.YtadfecglbeimbaaDoorRows
import GoSem.ClaimSeven
namespace Go.Proofs.YtadfecglbeimbaaDoor
namespace Rows

/-- THE TIED CARD OF 'aviarylaw02.FieldPuts'. -/
def fieldPutsCard : Claim7 := { stood := { row := fieldPutsRow, standIns := [], harness := (true, "6ae4648317dcfb3ae9d794fa040ab92907e7c81a62f7b34f3cd3ba8218a1a83c"), looks := true }, kinds := [], alts := [], laidByText := true, laidKinds := [.sentinel, .sentinel], laidTests := true, laidLooks := .later }
def FieldPutsCardSaid : Prop := Claim7.holds Tryd.pinned (.plain (OpenSpec.ofChange fieldPutsSpec)) fieldPutsCard

/-- THE TIED CARD OF 'aviarylaw02.FieldOrders'. -/
def fieldOrdersCard : Claim7 := { stood := { row := fieldOrdersRow, standIns := [], harness := (true, "6ae4648317dcfb3ae9d794fa040ab92907e7c81a62f7b34f3cd3ba8218a1a83c"), looks := true }, kinds := [], alts := [], laidByText := true, laidKinds := [.sentinel, .sentinel], laidTests := true, laidLooks := .later }
def FieldOrdersCardSaid : Prop := Claim7.holds Tryd.pinned (.plain (OpenSpec.ofChange fieldOrdersSpec)) fieldOrdersCard

/-- THE TIED CARD OF 'aviarylaw02.FieldOne'. -/
def fieldOneCard : Claim7 := { stood := { row := fieldOneRow, standIns := [], harness := (true, "6ae4648317dcfb3ae9d794fa040ab92907e7c81a62f7b34f3cd3ba8218a1a83c"), looks := true }, kinds := [], alts := [], laidByText := true, laidKinds := [.sentinel, .sentinel], laidTests := true, laidLooks := .later }
def FieldOneCardSaid : Prop := Claim7.holds Tryd.pinned (.plain (OpenSpec.ofChange fieldOneSpec)) fieldOneCard

/-- THE TIED CARD OF 'aviarylaw02.FieldBack'. -/
def fieldBackCard : Claim7 := { stood := { row := fieldBackRow, standIns := [], harness := (true, "6ae4648317dcfb3ae9d794fa040ab92907e7c81a62f7b34f3cd3ba8218a1a83c"), looks := true }, kinds := [], alts := [], laidByText := true, laidKinds := [.sentinel, .sentinel], laidTests := true, laidLooks := .later }
def FieldBackCardSaid : Prop := Claim7.holds Tryd.pinned (.plain (OpenSpec.ofChange fieldBackSpec)) fieldBackCard

/-- THE TIED CARD OF 'aviarylaw02.FieldLists'. -/
def fieldListsCard : Claim7 := { stood := { row := fieldListsRow, standIns := [], harness := (true, "6ae4648317dcfb3ae9d794fa040ab92907e7c81a62f7b34f3cd3ba8218a1a83c"), looks := true }, kinds := [], alts := [], laidByText := true, laidKinds := [.sentinel, .sentinel], laidTests := true, laidLooks := .later }
def FieldListsCardSaid : Prop := Claim7.holds Tryd.pinned (.plain (OpenSpec.ofChange fieldListsSpec)) fieldListsCard

/-- THE TIED CARD OF 'aviarylaw02.FieldMore'. -/
def fieldMoreCard : Claim7 := { stood := { row := fieldMoreRow, standIns := [], harness := (true, "6ae4648317dcfb3ae9d794fa040ab92907e7c81a62f7b34f3cd3ba8218a1a83c"), looks := true }, kinds := [], alts := [], laidByText := true, laidKinds := [.sentinel, .sentinel], laidTests := true, laidLooks := .later }
def FieldMoreCardSaid : Prop := Claim7.holds Tryd.pinned (.plain (OpenSpec.ofChange fieldMoreSpec)) fieldMoreCard

/-- THE TIED CARD OF 'aviarylaw02.FieldTexts'. -/
def fieldTextsCard : Claim7 := { stood := { row := fieldTextsRow, standIns := [], harness := (true, "6ae4648317dcfb3ae9d794fa040ab92907e7c81a62f7b34f3cd3ba8218a1a83c"), looks := true }, kinds := [], alts := [], laidByText := true, laidKinds := [.sentinel, .sentinel], laidTests := true, laidLooks := .later }
def FieldTextsCardSaid : Prop := Claim7.holds Tryd.pinned (.plain (OpenSpec.ofChange fieldTextsSpec)) fieldTextsCard

/-- THE SECOND FORM's CARD OF 'aviarylaw02.FieldPuts'. -/
def fieldPutsUptoCard : Claim7 := { stood := { row := fieldPutsUptoRow, standIns := [], harness := (true, "6ae4648317dcfb3ae9d794fa040ab92907e7c81a62f7b34f3cd3ba8218a1a83c"), looks := true }, kinds := [], alts := [], laidByText := true, laidKinds := [.sentinel, .sentinel], laidTests := true, laidLooks := .later }
def FieldPutsUptoCardSaid : Prop := Claim7.holds Tryd.pinned (.plain (OpenSpec.upto fieldPutsSpec)) fieldPutsUptoCard

/-- THE SECOND FORM's CARD OF 'aviarylaw02.FieldOrders'. -/
def fieldOrdersUptoCard : Claim7 := { stood := { row := fieldOrdersUptoRow, standIns := [], harness := (true, "6ae4648317dcfb3ae9d794fa040ab92907e7c81a62f7b34f3cd3ba8218a1a83c"), looks := true }, kinds := [], alts := [], laidByText := true, laidKinds := [.sentinel, .sentinel], laidTests := true, laidLooks := .later }
def FieldOrdersUptoCardSaid : Prop := Claim7.holds Tryd.pinned (.plain (OpenSpec.upto fieldOrdersSpec)) fieldOrdersUptoCard

/-- THE SECOND FORM's CARD OF 'aviarylaw02.FieldOne'. -/
def fieldOneUptoCard : Claim7 := { stood := { row := fieldOneUptoRow, standIns := [], harness := (true, "6ae4648317dcfb3ae9d794fa040ab92907e7c81a62f7b34f3cd3ba8218a1a83c"), looks := true }, kinds := [], alts := [], laidByText := true, laidKinds := [.sentinel, .sentinel], laidTests := true, laidLooks := .later }
def FieldOneUptoCardSaid : Prop := Claim7.holds Tryd.pinned (.plain (OpenSpec.upto fieldOneSpec)) fieldOneUptoCard

/-- THE SECOND FORM's CARD OF 'aviarylaw02.FieldBack'. -/
def fieldBackUptoCard : Claim7 := { stood := { row := fieldBackUptoRow, standIns := [], harness := (true, "6ae4648317dcfb3ae9d794fa040ab92907e7c81a62f7b34f3cd3ba8218a1a83c"), looks := true }, kinds := [], alts := [], laidByText := true, laidKinds := [.sentinel, .sentinel], laidTests := true, laidLooks := .later }
def FieldBackUptoCardSaid : Prop := Claim7.holds Tryd.pinned (.plain (OpenSpec.upto fieldBackSpec)) fieldBackUptoCard

/-- THE SECOND FORM's CARD OF 'aviarylaw02.FieldLists'. -/
def fieldListsUptoCard : Claim7 := { stood := { row := fieldListsUptoRow, standIns := [], harness := (true, "6ae4648317dcfb3ae9d794fa040ab92907e7c81a62f7b34f3cd3ba8218a1a83c"), looks := true }, kinds := [], alts := [], laidByText := true, laidKinds := [.sentinel, .sentinel], laidTests := true, laidLooks := .later }
def FieldListsUptoCardSaid : Prop := Claim7.holds Tryd.pinned (.plain (OpenSpec.upto fieldListsSpec)) fieldListsUptoCard

/-- THE SECOND FORM's CARD OF 'aviarylaw02.FieldMore'. -/
def fieldMoreUptoCard : Claim7 := { stood := { row := fieldMoreUptoRow, standIns := [], harness := (true, "6ae4648317dcfb3ae9d794fa040ab92907e7c81a62f7b34f3cd3ba8218a1a83c"), looks := true }, kinds := [], alts := [], laidByText := true, laidKinds := [.sentinel, .sentinel], laidTests := true, laidLooks := .later }
def FieldMoreUptoCardSaid : Prop := Claim7.holds Tryd.pinned (.plain (OpenSpec.upto fieldMoreSpec)) fieldMoreUptoCard

/-- THE SECOND FORM's CARD OF 'aviarylaw02.FieldTexts'. -/
def fieldTextsUptoCard : Claim7 := { stood := { row := fieldTextsUptoRow, standIns := [], harness := (true, "6ae4648317dcfb3ae9d794fa040ab92907e7c81a62f7b34f3cd3ba8218a1a83c"), looks := true }, kinds := [], alts := [], laidByText := true, laidKinds := [.sentinel, .sentinel], laidTests := true, laidLooks := .later }
def FieldTextsUptoCardSaid : Prop := Claim7.holds Tryd.pinned (.plain (OpenSpec.upto fieldTextsSpec)) fieldTextsUptoCard
end Rows
end Go.Proofs.YtadfecglbeimbaaDoor
