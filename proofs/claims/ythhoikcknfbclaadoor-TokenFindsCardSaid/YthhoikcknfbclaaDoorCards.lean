/-
  DERIVED. GIVEN WITH THE SEED: THE CARDS: each row of YthhoikcknfbclaaDoorRows.lean that lists a variable, with what it lists TIED to the program's text (the seventh form; the later family's looks); each row that meets fmt, with fmt's text TOLD by the authors' own Lean function (tested against real Go, not proved from fmt's source: count such statements apart). THE CARD IS WHAT COUNTS. Prove the row's statement (the work); the ties are given (YthhoikcknfbclaaDoorTie.lean); close each card by the builder's one call (the guide's Derived/Test/ToyasCard.lean, 'card_holds'). Laid BY PROGRAM, IN A SANDBOX (cutbox-door.mjs). By AI agents, Wed Nov 11 2026. No macro, syntax, notation, axiom, sorry.
-/
import Derived.Test.YthhoikcknfbclaaDoorRows
import GoSem.ClaimSeven
namespace Go.Proofs.YthhoikcknfbclaaDoor
namespace Rows

/-- THE TIED CARD OF 'aviarylaw17.TokenMints'. -/
def tokenMintsCard : Claim7 := { stood := { row := tokenMintsRow, standIns := [], harness := (true, "1b7da3c5a94ea13fcc79b8a8769df1e1d50133e5b9e72efa033b27bba30105ab"), looks := true }, kinds := [], alts := [], laidByText := true, laidKinds := [.sentinel, .sentinel], laidTests := true, laidLooks := .later }
def TokenMintsCardSaid : Prop := Claim7.holds Tryd.pinned (.plain (OpenSpec.ofChange tokenMintsSpec)) tokenMintsCard

/-- THE TIED CARD OF 'aviarylaw17.TokenBack'. -/
def tokenBackCard : Claim7 := { stood := { row := tokenBackRow, standIns := [], harness := (true, "1b7da3c5a94ea13fcc79b8a8769df1e1d50133e5b9e72efa033b27bba30105ab"), looks := true }, kinds := [], alts := [], laidByText := true, laidKinds := [.sentinel, .sentinel], laidTests := true, laidLooks := .later }
def TokenBackCardSaid : Prop := Claim7.holds Tryd.pinned (.plain (OpenSpec.ofChange tokenBackSpec)) tokenBackCard

/-- THE TIED CARD OF 'aviarylaw17.TokenFinds'. -/
def tokenFindsCard : Claim7 := { stood := { row := tokenFindsRow, standIns := [], harness := (true, "1b7da3c5a94ea13fcc79b8a8769df1e1d50133e5b9e72efa033b27bba30105ab"), looks := true }, kinds := [], alts := [], laidByText := true, laidKinds := [.sentinel, .sentinel], laidTests := true, laidLooks := .later }
def TokenFindsCardSaid : Prop := Claim7.holds Tryd.pinned (.plain (OpenSpec.ofChange tokenFindsSpec)) tokenFindsCard

/-- THE TIED CARD OF 'aviarylaw17.TokenRoles'. -/
def tokenRolesCard : Claim7 := { stood := { row := tokenRolesRow, standIns := [], harness := (true, "1b7da3c5a94ea13fcc79b8a8769df1e1d50133e5b9e72efa033b27bba30105ab"), looks := true }, kinds := [], alts := [], laidByText := true, laidKinds := [.sentinel, .sentinel], laidTests := true, laidLooks := .later }
def TokenRolesCardSaid : Prop := Claim7.holds Tryd.pinned (.plain (OpenSpec.ofChange tokenRolesSpec)) tokenRolesCard

/-- THE TIED CARD OF 'aviarylaw17.TokenTimes'. -/
def tokenTimesCard : Claim7 := { stood := { row := tokenTimesRow, standIns := [], harness := (true, "1b7da3c5a94ea13fcc79b8a8769df1e1d50133e5b9e72efa033b27bba30105ab"), looks := true }, kinds := [], alts := [], laidByText := true, laidKinds := [.sentinel, .sentinel], laidTests := true, laidLooks := .later }
def TokenTimesCardSaid : Prop := Claim7.holds Tryd.pinned (.plain (OpenSpec.ofChange tokenTimesSpec)) tokenTimesCard

/-- THE TIED CARD OF 'aviarylaw17.TokenApart'. -/
def tokenApartCard : Claim7 := { stood := { row := tokenApartRow, standIns := [], harness := (true, "1b7da3c5a94ea13fcc79b8a8769df1e1d50133e5b9e72efa033b27bba30105ab"), looks := true }, kinds := [], alts := [], laidByText := true, laidKinds := [.sentinel, .sentinel], laidTests := true, laidLooks := .later }
def TokenApartCardSaid : Prop := Claim7.holds Tryd.pinned (.plain (OpenSpec.ofChange tokenApartSpec)) tokenApartCard

/-- THE SECOND FORM's CARD OF 'aviarylaw17.TokenMints'. -/
def tokenMintsUptoCard : Claim7 := { stood := { row := tokenMintsUptoRow, standIns := [], harness := (true, "1b7da3c5a94ea13fcc79b8a8769df1e1d50133e5b9e72efa033b27bba30105ab"), looks := true }, kinds := [], alts := [], laidByText := true, laidKinds := [.sentinel, .sentinel], laidTests := true, laidLooks := .later }
def TokenMintsUptoCardSaid : Prop := Claim7.holds Tryd.pinned (.plain (OpenSpec.upto tokenMintsSpec)) tokenMintsUptoCard

/-- THE SECOND FORM's CARD OF 'aviarylaw17.TokenBack'. -/
def tokenBackUptoCard : Claim7 := { stood := { row := tokenBackUptoRow, standIns := [], harness := (true, "1b7da3c5a94ea13fcc79b8a8769df1e1d50133e5b9e72efa033b27bba30105ab"), looks := true }, kinds := [], alts := [], laidByText := true, laidKinds := [.sentinel, .sentinel], laidTests := true, laidLooks := .later }
def TokenBackUptoCardSaid : Prop := Claim7.holds Tryd.pinned (.plain (OpenSpec.upto tokenBackSpec)) tokenBackUptoCard

/-- THE SECOND FORM's CARD OF 'aviarylaw17.TokenFinds'. -/
def tokenFindsUptoCard : Claim7 := { stood := { row := tokenFindsUptoRow, standIns := [], harness := (true, "1b7da3c5a94ea13fcc79b8a8769df1e1d50133e5b9e72efa033b27bba30105ab"), looks := true }, kinds := [], alts := [], laidByText := true, laidKinds := [.sentinel, .sentinel], laidTests := true, laidLooks := .later }
def TokenFindsUptoCardSaid : Prop := Claim7.holds Tryd.pinned (.plain (OpenSpec.upto tokenFindsSpec)) tokenFindsUptoCard

/-- THE SECOND FORM's CARD OF 'aviarylaw17.TokenRoles'. -/
def tokenRolesUptoCard : Claim7 := { stood := { row := tokenRolesUptoRow, standIns := [], harness := (true, "1b7da3c5a94ea13fcc79b8a8769df1e1d50133e5b9e72efa033b27bba30105ab"), looks := true }, kinds := [], alts := [], laidByText := true, laidKinds := [.sentinel, .sentinel], laidTests := true, laidLooks := .later }
def TokenRolesUptoCardSaid : Prop := Claim7.holds Tryd.pinned (.plain (OpenSpec.upto tokenRolesSpec)) tokenRolesUptoCard

/-- THE SECOND FORM's CARD OF 'aviarylaw17.TokenTimes'. -/
def tokenTimesUptoCard : Claim7 := { stood := { row := tokenTimesUptoRow, standIns := [], harness := (true, "1b7da3c5a94ea13fcc79b8a8769df1e1d50133e5b9e72efa033b27bba30105ab"), looks := true }, kinds := [], alts := [], laidByText := true, laidKinds := [.sentinel, .sentinel], laidTests := true, laidLooks := .later }
def TokenTimesUptoCardSaid : Prop := Claim7.holds Tryd.pinned (.plain (OpenSpec.upto tokenTimesSpec)) tokenTimesUptoCard

/-- THE SECOND FORM's CARD OF 'aviarylaw17.TokenApart'. -/
def tokenApartUptoCard : Claim7 := { stood := { row := tokenApartUptoRow, standIns := [], harness := (true, "1b7da3c5a94ea13fcc79b8a8769df1e1d50133e5b9e72efa033b27bba30105ab"), looks := true }, kinds := [], alts := [], laidByText := true, laidKinds := [.sentinel, .sentinel], laidTests := true, laidLooks := .later }
def TokenApartUptoCardSaid : Prop := Claim7.holds Tryd.pinned (.plain (OpenSpec.upto tokenApartSpec)) tokenApartUptoCard
end Rows
end Go.Proofs.YthhoikcknfbclaaDoor
