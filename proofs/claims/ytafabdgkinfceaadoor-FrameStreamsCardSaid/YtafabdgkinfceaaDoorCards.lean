/-
  DERIVED. GIVEN WITH THE SEED: THE CARDS: each row of YtafabdgkinfceaaDoorRows.lean that lists a variable, with what it lists TIED to the program's text (the seventh form; the later family's looks); each row that meets fmt, with fmt's text TOLD by the authors' own Lean function (tested against real Go, not proved from fmt's source: count such statements apart). THE CARD IS WHAT COUNTS. Prove the row's statement (the work); the ties are given (YtafabdgkinfceaaDoorTie.lean); close each card by the builder's one call (the guide's Derived/Test/ToyasCard.lean, 'card_holds'). Laid BY PROGRAM, IN A SANDBOX (cutbox-door.mjs). By AI agents, Wed Nov 11 2026. No macro, syntax, notation, axiom, sorry.
-/
import Derived.Test.YtafabdgkinfceaaDoorRows
import GoSem.ClaimSeven
namespace Go.Proofs.YtafabdgkinfceaaDoor
namespace Rows

/-- THE TIED CARD OF 'aviarylaw03.FrameMakes'. -/
def frameMakesCard : Claim7 := { stood := { row := frameMakesRow, standIns := [], harness := (true, "e4a5e060aaf58e90906387013fdf30ff6e99b8831602106b281c79eebe3bb1cb"), looks := true }, kinds := [], alts := [], laidByText := true, laidKinds := [.handle, .sentinel, .sentinel], laidTests := true, laidLooks := .later }
def FrameMakesCardSaid : Prop := Claim7.holds Tryd.pinned (.plain (OpenSpec.ofChange frameMakesSpec)) frameMakesCard

/-- THE TIED CARD OF 'aviarylaw03.FrameBack'. -/
def frameBackCard : Claim7 := { stood := { row := frameBackRow, standIns := [], harness := (true, "e4a5e060aaf58e90906387013fdf30ff6e99b8831602106b281c79eebe3bb1cb"), looks := true }, kinds := [], alts := [], laidByText := true, laidKinds := [.handle, .sentinel, .sentinel], laidTests := true, laidLooks := .later }
def FrameBackCardSaid : Prop := Claim7.holds Tryd.pinned (.plain (OpenSpec.ofChange frameBackSpec)) frameBackCard

/-- THE TIED CARD OF 'aviarylaw03.FrameFinds'. -/
def frameFindsCard : Claim7 := { stood := { row := frameFindsRow, standIns := [], harness := (true, "e4a5e060aaf58e90906387013fdf30ff6e99b8831602106b281c79eebe3bb1cb"), looks := true }, kinds := [], alts := [], laidByText := true, laidKinds := [.handle, .sentinel, .sentinel], laidTests := true, laidLooks := .later }
def FrameFindsCardSaid : Prop := Claim7.holds Tryd.pinned (.plain (OpenSpec.ofChange frameFindsSpec)) frameFindsCard

/-- THE TIED CARD OF 'aviarylaw03.FrameMore'. -/
def frameMoreCard : Claim7 := { stood := { row := frameMoreRow, standIns := [], harness := (true, "e4a5e060aaf58e90906387013fdf30ff6e99b8831602106b281c79eebe3bb1cb"), looks := true }, kinds := [], alts := [], laidByText := true, laidKinds := [.handle, .sentinel, .sentinel], laidTests := true, laidLooks := .later }
def FrameMoreCardSaid : Prop := Claim7.holds Tryd.pinned (.plain (OpenSpec.ofChange frameMoreSpec)) frameMoreCard

/-- THE TIED CARD OF 'aviarylaw03.FrameSizes'. -/
def frameSizesCard : Claim7 := { stood := { row := frameSizesRow, standIns := [], harness := (true, "e4a5e060aaf58e90906387013fdf30ff6e99b8831602106b281c79eebe3bb1cb"), looks := true }, kinds := [], alts := [], laidByText := true, laidKinds := [.handle, .sentinel, .sentinel], laidTests := true, laidLooks := .later }
def FrameSizesCardSaid : Prop := Claim7.holds Tryd.pinned (.plain (OpenSpec.ofChange frameSizesSpec)) frameSizesCard

/-- THE TIED CARD OF 'aviarylaw03.FrameAll'. -/
def frameAllCard : Claim7 := { stood := { row := frameAllRow, standIns := [], harness := (true, "e4a5e060aaf58e90906387013fdf30ff6e99b8831602106b281c79eebe3bb1cb"), looks := true }, kinds := [], alts := [], laidByText := true, laidKinds := [.handle, .sentinel, .sentinel], laidTests := true, laidLooks := .later }
def FrameAllCardSaid : Prop := Claim7.holds Tryd.pinned (.plain (OpenSpec.ofChange frameAllSpec)) frameAllCard

/-- THE TIED CARD OF 'aviarylaw03.FrameStreams'. -/
def frameStreamsCard : Claim7 := { stood := { row := frameStreamsRow, standIns := [], harness := (true, "e4a5e060aaf58e90906387013fdf30ff6e99b8831602106b281c79eebe3bb1cb"), looks := true }, kinds := [], alts := [], laidByText := true, laidKinds := [.handle, .sentinel, .sentinel], laidTests := true, laidLooks := .later }
def FrameStreamsCardSaid : Prop := Claim7.holds Tryd.pinned (.plain (OpenSpec.ofChange frameStreamsSpec)) frameStreamsCard

/-- THE SECOND FORM's CARD OF 'aviarylaw03.FrameMakes'. -/
def frameMakesUptoCard : Claim7 := { stood := { row := frameMakesUptoRow, standIns := [], harness := (true, "e4a5e060aaf58e90906387013fdf30ff6e99b8831602106b281c79eebe3bb1cb"), looks := true }, kinds := [], alts := [], laidByText := true, laidKinds := [.handle, .sentinel, .sentinel], laidTests := true, laidLooks := .later }
def FrameMakesUptoCardSaid : Prop := Claim7.holds Tryd.pinned (.plain (OpenSpec.upto frameMakesSpec)) frameMakesUptoCard

/-- THE SECOND FORM's CARD OF 'aviarylaw03.FrameBack'. -/
def frameBackUptoCard : Claim7 := { stood := { row := frameBackUptoRow, standIns := [], harness := (true, "e4a5e060aaf58e90906387013fdf30ff6e99b8831602106b281c79eebe3bb1cb"), looks := true }, kinds := [], alts := [], laidByText := true, laidKinds := [.handle, .sentinel, .sentinel], laidTests := true, laidLooks := .later }
def FrameBackUptoCardSaid : Prop := Claim7.holds Tryd.pinned (.plain (OpenSpec.upto frameBackSpec)) frameBackUptoCard

/-- THE SECOND FORM's CARD OF 'aviarylaw03.FrameFinds'. -/
def frameFindsUptoCard : Claim7 := { stood := { row := frameFindsUptoRow, standIns := [], harness := (true, "e4a5e060aaf58e90906387013fdf30ff6e99b8831602106b281c79eebe3bb1cb"), looks := true }, kinds := [], alts := [], laidByText := true, laidKinds := [.handle, .sentinel, .sentinel], laidTests := true, laidLooks := .later }
def FrameFindsUptoCardSaid : Prop := Claim7.holds Tryd.pinned (.plain (OpenSpec.upto frameFindsSpec)) frameFindsUptoCard

/-- THE SECOND FORM's CARD OF 'aviarylaw03.FrameMore'. -/
def frameMoreUptoCard : Claim7 := { stood := { row := frameMoreUptoRow, standIns := [], harness := (true, "e4a5e060aaf58e90906387013fdf30ff6e99b8831602106b281c79eebe3bb1cb"), looks := true }, kinds := [], alts := [], laidByText := true, laidKinds := [.handle, .sentinel, .sentinel], laidTests := true, laidLooks := .later }
def FrameMoreUptoCardSaid : Prop := Claim7.holds Tryd.pinned (.plain (OpenSpec.upto frameMoreSpec)) frameMoreUptoCard

/-- THE SECOND FORM's CARD OF 'aviarylaw03.FrameSizes'. -/
def frameSizesUptoCard : Claim7 := { stood := { row := frameSizesUptoRow, standIns := [], harness := (true, "e4a5e060aaf58e90906387013fdf30ff6e99b8831602106b281c79eebe3bb1cb"), looks := true }, kinds := [], alts := [], laidByText := true, laidKinds := [.handle, .sentinel, .sentinel], laidTests := true, laidLooks := .later }
def FrameSizesUptoCardSaid : Prop := Claim7.holds Tryd.pinned (.plain (OpenSpec.upto frameSizesSpec)) frameSizesUptoCard

/-- THE SECOND FORM's CARD OF 'aviarylaw03.FrameAll'. -/
def frameAllUptoCard : Claim7 := { stood := { row := frameAllUptoRow, standIns := [], harness := (true, "e4a5e060aaf58e90906387013fdf30ff6e99b8831602106b281c79eebe3bb1cb"), looks := true }, kinds := [], alts := [], laidByText := true, laidKinds := [.handle, .sentinel, .sentinel], laidTests := true, laidLooks := .later }
def FrameAllUptoCardSaid : Prop := Claim7.holds Tryd.pinned (.plain (OpenSpec.upto frameAllSpec)) frameAllUptoCard

/-- THE SECOND FORM's CARD OF 'aviarylaw03.FrameStreams'. -/
def frameStreamsUptoCard : Claim7 := { stood := { row := frameStreamsUptoRow, standIns := [], harness := (true, "e4a5e060aaf58e90906387013fdf30ff6e99b8831602106b281c79eebe3bb1cb"), looks := true }, kinds := [], alts := [], laidByText := true, laidKinds := [.handle, .sentinel, .sentinel], laidTests := true, laidLooks := .later }
def FrameStreamsUptoCardSaid : Prop := Claim7.holds Tryd.pinned (.plain (OpenSpec.upto frameStreamsSpec)) frameStreamsUptoCard
end Rows
end Go.Proofs.YtafabdgkinfceaaDoor
