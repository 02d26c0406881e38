/-
  DERIVED. GIVEN WITH THE SEED: THE CARDS: each row of YtmgdbfmlnmahpaaGreatDoorRows.lean that lists a variable, with what it lists TIED to the program's text (the seventh form; the later family's looks); each row that meets fmt, with fmt's text TOLD by the authors' own Lean function (tested against real Go, not proved from fmt's source: count such statements apart). THE CARD IS WHAT COUNTS. Prove the row's statement (the work); the ties are given (YtmgdbfmlnmahpaaGreatDoorTie.lean); close each card by the builder's one call (the guide's Derived/Test/ToyasCard.lean, 'card_holds'). Laid BY PROGRAM, IN A SANDBOX (cutbox-door.mjs). By AI agents, Wed Nov 11 2026. No macro, syntax, notation, axiom, sorry.
-/
import Derived.Test.YtmgdbfmlnmahpaaGreatDoorRows
import GoSem.ClaimSeven
namespace Go.Proofs.YtmgdbfmlnmahpaaGreatDoor
namespace Rows

/-- THE TIED CARD OF 'aviarytop.TopCounts'. -/
def topCountsCard : Claim7 := { stood := { row := topCountsRow, standIns := [], harness := (true, "b71ae2950efbb47bee6c0f184763835ecc04256f72d0528c1e646d3552d4aa5f"), looks := true }, kinds := [], alts := [], laidByText := true, laidKinds := [.data, .handle, .pinned], laidTests := true, laidLooks := .later }
def TopCountsCardSaid : Prop := Claim7.holds Tryz.pinned (.plain (OpenSpec.ofChange topCountsSpec)) topCountsCard

/-- THE TIED CARD OF 'aviarytop.TopAudits'. -/
def topAuditsCard : Claim7 := { stood := { row := topAuditsRow, standIns := [], harness := (true, "b71ae2950efbb47bee6c0f184763835ecc04256f72d0528c1e646d3552d4aa5f"), looks := true }, kinds := [], alts := [], laidByText := true, laidKinds := [.data, .handle, .pinned], laidTests := true, laidLooks := .later }
def TopAuditsCardSaid : Prop := Claim7.holds Tryz.pinned (.plain (OpenSpec.ofChange topAuditsSpec)) topAuditsCard

/-- THE SECOND FORM's CARD OF 'aviarytop.TopCounts'. -/
def topCountsUptoCard : Claim7 := { stood := { row := topCountsUptoRow, standIns := [], harness := (true, "b71ae2950efbb47bee6c0f184763835ecc04256f72d0528c1e646d3552d4aa5f"), looks := true }, kinds := [], alts := [], laidByText := true, laidKinds := [.data, .handle, .pinned], laidTests := true, laidLooks := .later }
def TopCountsUptoCardSaid : Prop := Claim7.holds Tryz.pinned (.plain (OpenSpec.upto topCountsSpec)) topCountsUptoCard

/-- THE SECOND FORM's CARD OF 'aviarytop.TopAudits'. -/
def topAuditsUptoCard : Claim7 := { stood := { row := topAuditsUptoRow, standIns := [], harness := (true, "b71ae2950efbb47bee6c0f184763835ecc04256f72d0528c1e646d3552d4aa5f"), looks := true }, kinds := [], alts := [], laidByText := true, laidKinds := [.data, .handle, .pinned], laidTests := true, laidLooks := .later }
def TopAuditsUptoCardSaid : Prop := Claim7.holds Tryz.pinned (.plain (OpenSpec.upto topAuditsSpec)) topAuditsUptoCard
end Rows
end Go.Proofs.YtmgdbfmlnmahpaaGreatDoor
