/-
  NARROWER THAN 'FOR EVERY INPUT', by the rows' own cells (each row's printed sentence says how): FrameMakes: laid · FrameBack: laid · FrameFinds: laid · FrameMore: laid · FrameSizes: laid · FrameAll: laid · FrameStreams: laid.
  DERIVED. THE GIVEN ROWS OF THIS SEAT. 7 by the template 'for every input the law returns true; each argument reads behind the call as it read before'; 0 by the template 'total and deterministic' (their statements: YtafabdgkinfceaaDoorTotals.lean).
  GIVEN WITH THE SEED: the statements are not yours to turn. If you find one false, say at which input.
  Laid BY PROGRAM, IN A SANDBOX (cutbox-rows.mjs): the forced cells as the released guide's own fill.sh prints them over the translation 504935b1fe5a5234… (all of the seat's roots in one cut). By AI agents, Wed Nov 11 2026. No macro, syntax, notation, axiom, sorry.
-/
import Derived.Test.YtafabdgkinfceaaDoorChecked
import GoSem.Claim
import GoSem.ClaimJoined
import GoSem.ClaimMapViews
import Derived.JoinedTies
import Derived.KernelRfl
namespace Go.Proofs.YtafabdgkinfceaaDoor
/- THE CELL 'sum', in the pinned program and in every row, IS THE sha256 OF THE DUMP (.gsa) THAT YtafabdgkinfceaaDoorProg.lean LOADS. Nothing in Lean hashes anything: it is a label: what it is worth is what the hold of that sum in a sandbox is worth. -/
noncomputable def Tryd.pinned : Pinned := { name := "ytafabdgkinfceaadoor", sum := "504935b1fe5a52348f14f4bb83997494d8a6080e526b89062ec6ff3c532203a1", checked := Tryd.checked }
namespace Rows
def none {H : Type} : Left H := { results := [], args := [] }

/- WHAT THE LISTED PACKAGE-LEVEL VARIABLES READ AS WHEN THE CALL BEGINS. Each datum BY PROGRAM (the guide's laid-datum.mjs) off the statement by which the dump's own 'gosem.cut.vars' lays the variable. In a bare row this is a premise. The card (YtafabdgkinfceaaDoorCards.lean) ties it to the program's text. -/
def laid_errors_errorType {H : Type} : DataW H := .iface "internal/reflectlite.rtype" (.agg [.ptr (.lit (.string [101, 114, 114, 111, 114]))])
def laid_aviary_field_errMore {H : Type} : DataW H := .iface "*errors.errorString" (.ptr (.agg [.lit (.string [102, 105, 101, 108, 100, 58, 32, 98, 121, 116, 101, 115, 32, 97, 114, 101, 32, 109, 105, 115, 115, 105, 110, 103])]))
def laid_aviary_field_errField {H : Type} : DataW H := .iface "*errors.errorString" (.ptr (.agg [.lit (.string [102, 105, 101, 108, 100, 58, 32, 116, 104, 101, 115, 101, 32, 98, 121, 116, 101, 115, 32, 97, 114, 101, 32, 110, 111, 110, 101])]))

/-- 'aviarylaw03.FrameMakes': WHATEVER THE INPUT: true; the input reads as it did. -/
def frameMakesSpec : ChangeSpec := { name := "frameMakes", fn := fun _ => fun
  | [d1, d2] => { results := [.lit (.bool true)], args := [d1, d2] }
  | _ => none }
def frameMakesRow : OpenClaim := { program := "ytafabdgkinfceaadoor", sum := "504935b1fe5a52348f14f4bb83997494d8a6080e526b89062ec6ff3c532203a1", func := "aviary/aviarylaw03.FrameMakes", spec := "frameMakes", inPlace := ["internal/reflectlite.TypeOf", "internal/reflectlite.ValueOf", "(internal/reflectlite.Value).Type", "(internal/reflectlite.Value).IsNil", "(internal/reflectlite.Value).Elem", "(internal/reflectlite.Value).Set"], unfollowed := true, recurses := true, named := ["aviary/field.errMore", "aviary/field.errField", "errors.errorType"], apart := false, laid := [("errors.errorType", laid_errors_errorType), ("aviary/field.errMore", laid_aviary_field_errMore), ("aviary/field.errField", laid_aviary_field_errField)] }
def FrameMakesSaid : Prop := frameMakesRow.holds Tryd.pinned (OpenSpec.ofChange frameMakesSpec)

/-- ITS FALSE NEIGHBOUR: 'it returns false'. Refute it at one input. -/
def frameMakesWrong : ChangeSpec := { name := "frameMakes", fn := fun _ => fun
  | [d1, d2] => { results := [.lit (.bool false)], args := [d1, d2] }
  | _ => none }
def FrameMakesWrongFalsely : Prop := frameMakesRow.holds Tryd.pinned (OpenSpec.ofChange frameMakesWrong)

/-- 'aviarylaw03.FrameBack': WHATEVER THE INPUT: true; the input reads as it did. -/
def frameBackSpec : ChangeSpec := { name := "frameBack", fn := fun _ => fun
  | [d1, d2] => { results := [.lit (.bool true)], args := [d1, d2] }
  | _ => none }
def frameBackRow : OpenClaim := { program := "ytafabdgkinfceaadoor", sum := "504935b1fe5a52348f14f4bb83997494d8a6080e526b89062ec6ff3c532203a1", func := "aviary/aviarylaw03.FrameBack", spec := "frameBack", inPlace := ["internal/reflectlite.TypeOf", "internal/reflectlite.ValueOf", "(internal/reflectlite.Value).Type", "(internal/reflectlite.Value).IsNil", "(internal/reflectlite.Value).Elem", "(internal/reflectlite.Value).Set"], unfollowed := true, recurses := true, named := ["aviary/field.errMore", "aviary/field.errField", "errors.errorType"], apart := false, laid := [("errors.errorType", laid_errors_errorType), ("aviary/field.errMore", laid_aviary_field_errMore), ("aviary/field.errField", laid_aviary_field_errField)] }
def FrameBackSaid : Prop := frameBackRow.holds Tryd.pinned (OpenSpec.ofChange frameBackSpec)

/-- ITS FALSE NEIGHBOUR: 'it returns false'. Refute it at one input. -/
def frameBackWrong : ChangeSpec := { name := "frameBack", fn := fun _ => fun
  | [d1, d2] => { results := [.lit (.bool false)], args := [d1, d2] }
  | _ => none }
def FrameBackWrongFalsely : Prop := frameBackRow.holds Tryd.pinned (OpenSpec.ofChange frameBackWrong)

/-- 'aviarylaw03.FrameFinds': WHATEVER THE INPUT: true; the input reads as it did. -/
def frameFindsSpec : ChangeSpec := { name := "frameFinds", fn := fun _ => fun
  | [d1, d2, d3] => { results := [.lit (.bool true)], args := [d1, d2, d3] }
  | _ => none }
def frameFindsRow : OpenClaim := { program := "ytafabdgkinfceaadoor", sum := "504935b1fe5a52348f14f4bb83997494d8a6080e526b89062ec6ff3c532203a1", func := "aviary/aviarylaw03.FrameFinds", spec := "frameFinds", inPlace := ["internal/reflectlite.TypeOf", "internal/reflectlite.ValueOf", "(internal/reflectlite.Value).Type", "(internal/reflectlite.Value).IsNil", "(internal/reflectlite.Value).Elem", "(internal/reflectlite.Value).Set"], unfollowed := true, recurses := true, named := ["aviary/field.errMore", "aviary/field.errField", "errors.errorType"], apart := false, laid := [("errors.errorType", laid_errors_errorType), ("aviary/field.errMore", laid_aviary_field_errMore), ("aviary/field.errField", laid_aviary_field_errField)] }
def FrameFindsSaid : Prop := frameFindsRow.holds Tryd.pinned (OpenSpec.ofChange frameFindsSpec)

/-- ITS FALSE NEIGHBOUR: 'it returns false'. Refute it at one input. -/
def frameFindsWrong : ChangeSpec := { name := "frameFinds", fn := fun _ => fun
  | [d1, d2, d3] => { results := [.lit (.bool false)], args := [d1, d2, d3] }
  | _ => none }
def FrameFindsWrongFalsely : Prop := frameFindsRow.holds Tryd.pinned (OpenSpec.ofChange frameFindsWrong)

/-- 'aviarylaw03.FrameMore': WHATEVER THE INPUT: true; the input reads as it did. -/
def frameMoreSpec : ChangeSpec := { name := "frameMore", fn := fun _ => fun
  | [d1, d2] => { results := [.lit (.bool true)], args := [d1, d2] }
  | _ => none }
def frameMoreRow : OpenClaim := { program := "ytafabdgkinfceaadoor", sum := "504935b1fe5a52348f14f4bb83997494d8a6080e526b89062ec6ff3c532203a1", func := "aviary/aviarylaw03.FrameMore", spec := "frameMore", inPlace := ["internal/reflectlite.TypeOf", "internal/reflectlite.ValueOf", "(internal/reflectlite.Value).Type", "(internal/reflectlite.Value).IsNil", "(internal/reflectlite.Value).Elem", "(internal/reflectlite.Value).Set"], unfollowed := true, recurses := true, named := ["aviary/field.errMore", "aviary/field.errField", "errors.errorType"], apart := false, laid := [("errors.errorType", laid_errors_errorType), ("aviary/field.errMore", laid_aviary_field_errMore), ("aviary/field.errField", laid_aviary_field_errField)] }
def FrameMoreSaid : Prop := frameMoreRow.holds Tryd.pinned (OpenSpec.ofChange frameMoreSpec)

/-- ITS FALSE NEIGHBOUR: 'it returns false'. Refute it at one input. -/
def frameMoreWrong : ChangeSpec := { name := "frameMore", fn := fun _ => fun
  | [d1, d2] => { results := [.lit (.bool false)], args := [d1, d2] }
  | _ => none }
def FrameMoreWrongFalsely : Prop := frameMoreRow.holds Tryd.pinned (OpenSpec.ofChange frameMoreWrong)

/-- 'aviarylaw03.FrameSizes': WHATEVER THE INPUT: true; the input reads as it did. -/
def frameSizesSpec : ChangeSpec := { name := "frameSizes", fn := fun _ => fun
  | [d] => { results := [.lit (.bool true)], args := [d] }
  | _ => none }
def frameSizesRow : OpenClaim := { program := "ytafabdgkinfceaadoor", sum := "504935b1fe5a52348f14f4bb83997494d8a6080e526b89062ec6ff3c532203a1", func := "aviary/aviarylaw03.FrameSizes", spec := "frameSizes", inPlace := ["internal/reflectlite.TypeOf", "internal/reflectlite.ValueOf", "(internal/reflectlite.Value).Type", "(internal/reflectlite.Value).IsNil", "(internal/reflectlite.Value).Elem", "(internal/reflectlite.Value).Set"], unfollowed := true, recurses := true, named := ["aviary/field.errMore", "aviary/field.errField", "errors.errorType"], apart := false, laid := [("errors.errorType", laid_errors_errorType), ("aviary/field.errMore", laid_aviary_field_errMore), ("aviary/field.errField", laid_aviary_field_errField)] }
def FrameSizesSaid : Prop := frameSizesRow.holds Tryd.pinned (OpenSpec.ofChange frameSizesSpec)

/-- ITS FALSE NEIGHBOUR: 'it returns false'. Refute it at one input. -/
def frameSizesWrong : ChangeSpec := { name := "frameSizes", fn := fun _ => fun
  | [d] => { results := [.lit (.bool false)], args := [d] }
  | _ => none }
def FrameSizesWrongFalsely : Prop := frameSizesRow.holds Tryd.pinned (OpenSpec.ofChange frameSizesWrong)

/-- 'aviarylaw03.FrameAll': WHATEVER THE INPUT: true; the input reads as it did. -/
def frameAllSpec : ChangeSpec := { name := "frameAll", fn := fun _ => fun
  | [d] => { results := [.lit (.bool true)], args := [d] }
  | _ => none }
def frameAllRow : OpenClaim := { program := "ytafabdgkinfceaadoor", sum := "504935b1fe5a52348f14f4bb83997494d8a6080e526b89062ec6ff3c532203a1", func := "aviary/aviarylaw03.FrameAll", spec := "frameAll", inPlace := ["internal/reflectlite.TypeOf", "internal/reflectlite.ValueOf", "(internal/reflectlite.Value).Type", "(internal/reflectlite.Value).IsNil", "(internal/reflectlite.Value).Elem", "(internal/reflectlite.Value).Set"], unfollowed := true, recurses := true, named := ["aviary/field.errMore", "aviary/field.errField", "errors.errorType"], apart := false, laid := [("errors.errorType", laid_errors_errorType), ("aviary/field.errMore", laid_aviary_field_errMore), ("aviary/field.errField", laid_aviary_field_errField)] }
def FrameAllSaid : Prop := frameAllRow.holds Tryd.pinned (OpenSpec.ofChange frameAllSpec)

/-- ITS FALSE NEIGHBOUR: 'it returns false'. Refute it at one input. -/
def frameAllWrong : ChangeSpec := { name := "frameAll", fn := fun _ => fun
  | [d] => { results := [.lit (.bool false)], args := [d] }
  | _ => none }
def FrameAllWrongFalsely : Prop := frameAllRow.holds Tryd.pinned (OpenSpec.ofChange frameAllWrong)

/-- 'aviarylaw03.FrameStreams': WHATEVER THE INPUT: true; the input reads as it did. -/
def frameStreamsSpec : ChangeSpec := { name := "frameStreams", fn := fun _ => fun
  | [d1, d2] => { results := [.lit (.bool true)], args := [d1, d2] }
  | _ => none }
def frameStreamsRow : OpenClaim := { program := "ytafabdgkinfceaadoor", sum := "504935b1fe5a52348f14f4bb83997494d8a6080e526b89062ec6ff3c532203a1", func := "aviary/aviarylaw03.FrameStreams", spec := "frameStreams", inPlace := ["internal/reflectlite.TypeOf", "internal/reflectlite.ValueOf", "(internal/reflectlite.Value).Type", "(internal/reflectlite.Value).IsNil", "(internal/reflectlite.Value).Elem", "(internal/reflectlite.Value).Set"], unfollowed := true, recurses := true, named := ["aviary/field.errMore", "aviary/field.errField", "errors.errorType"], apart := false, laid := [("errors.errorType", laid_errors_errorType), ("aviary/field.errMore", laid_aviary_field_errMore), ("aviary/field.errField", laid_aviary_field_errField)] }
def FrameStreamsSaid : Prop := frameStreamsRow.holds Tryd.pinned (OpenSpec.ofChange frameStreamsSpec)

/-- ITS FALSE NEIGHBOUR: 'it returns false'. Refute it at one input. -/
def frameStreamsWrong : ChangeSpec := { name := "frameStreams", fn := fun _ => fun
  | [d1, d2] => { results := [.lit (.bool false)], args := [d1, d2] }
  | _ => none }
def FrameStreamsWrongFalsely : Prop := frameStreamsRow.holds Tryd.pinned (OpenSpec.ofChange frameStreamsWrong)

/- THE SECOND FORM. 'bulk': how many values and letters a reading holds, each counted each time it is reached (what is shared counts as often as it is met; a slice's spare places count too). A statement '..UptoSaid' is the law's where the arguments, and the package variables that the reading takes, are together of bulk at most 1048576: NARROWER than '..Said'. Prove '..Said' where nothing that the law and all that it calls make is longer than what came in: it says more and counts as full. Else prove '..UptoSaid'. A law counts once. -/
mutual
def uptoBulk {H : Type} : DataW H → Nat
  | .lit (.string bytes) => bytes.length + 1
  | .lit _ => 1
  | .nil => 1
  | .ptr d => uptoBulk d + 1
  | .slice elems spare => uptoBulkAll elems + uptoBulkAll spare + 1
  | .agg parts => uptoBulkAll parts + 1
  | .iface _ d => uptoBulk d + 1
  | .map entries => uptoBulkEntries entries + 1
  | .held _ => 1
def uptoBulkAll {H : Type} : List (DataW H) → Nat
  | [] => 0
  | d :: r => uptoBulk d + uptoBulkAll r
def uptoBulkEntries {H : Type} : List (Lit × DataW H) → Nat
  | [] => 0
  | x :: r => uptoBulkEntry x + uptoBulkEntries r
def uptoBulkEntry {H : Type} : Lit × DataW H → Nat
  | (.string bytes, d) => bytes.length + uptoBulk d + 1
  | (_, d) => uptoBulk d + 1
 end
def uptoSmall : (H : Type) → List (DataW H) → Bool := fun _ ds => decide (uptoBulkAll ds ≤ 1048576)
def OpenSpec.upto (s : _root_.Go.ChangeSpec) : _root_.Go.OpenSpec := { _root_.Go.OpenSpec.ofChange s with cond := some uptoSmall }

/-- 'aviarylaw03.FrameMakes', WHERE WHAT IT READS IS OF BULK AT MOST 1048576: true; the input reads as it did. -/
def frameMakesUptoRow : OpenClaim := { program := "ytafabdgkinfceaadoor", sum := "504935b1fe5a52348f14f4bb83997494d8a6080e526b89062ec6ff3c532203a1", func := "aviary/aviarylaw03.FrameMakes", spec := "frameMakes", inPlace := ["internal/reflectlite.TypeOf", "internal/reflectlite.ValueOf", "(internal/reflectlite.Value).Type", "(internal/reflectlite.Value).IsNil", "(internal/reflectlite.Value).Elem", "(internal/reflectlite.Value).Set"], unfollowed := true, recurses := true, named := ["aviary/field.errMore", "aviary/field.errField", "errors.errorType"], apart := false, laid := [("errors.errorType", laid_errors_errorType), ("aviary/field.errMore", laid_aviary_field_errMore), ("aviary/field.errField", laid_aviary_field_errField)], narrowed := true }
def FrameMakesUptoSaid : Prop := frameMakesUptoRow.holds Tryd.pinned (OpenSpec.upto frameMakesSpec)

/-- 'aviarylaw03.FrameBack', WHERE WHAT IT READS IS OF BULK AT MOST 1048576: true; the input reads as it did. -/
def frameBackUptoRow : OpenClaim := { program := "ytafabdgkinfceaadoor", sum := "504935b1fe5a52348f14f4bb83997494d8a6080e526b89062ec6ff3c532203a1", func := "aviary/aviarylaw03.FrameBack", spec := "frameBack", inPlace := ["internal/reflectlite.TypeOf", "internal/reflectlite.ValueOf", "(internal/reflectlite.Value).Type", "(internal/reflectlite.Value).IsNil", "(internal/reflectlite.Value).Elem", "(internal/reflectlite.Value).Set"], unfollowed := true, recurses := true, named := ["aviary/field.errMore", "aviary/field.errField", "errors.errorType"], apart := false, laid := [("errors.errorType", laid_errors_errorType), ("aviary/field.errMore", laid_aviary_field_errMore), ("aviary/field.errField", laid_aviary_field_errField)], narrowed := true }
def FrameBackUptoSaid : Prop := frameBackUptoRow.holds Tryd.pinned (OpenSpec.upto frameBackSpec)

/-- 'aviarylaw03.FrameFinds', WHERE WHAT IT READS IS OF BULK AT MOST 1048576: true; the input reads as it did. -/
def frameFindsUptoRow : OpenClaim := { program := "ytafabdgkinfceaadoor", sum := "504935b1fe5a52348f14f4bb83997494d8a6080e526b89062ec6ff3c532203a1", func := "aviary/aviarylaw03.FrameFinds", spec := "frameFinds", inPlace := ["internal/reflectlite.TypeOf", "internal/reflectlite.ValueOf", "(internal/reflectlite.Value).Type", "(internal/reflectlite.Value).IsNil", "(internal/reflectlite.Value).Elem", "(internal/reflectlite.Value).Set"], unfollowed := true, recurses := true, named := ["aviary/field.errMore", "aviary/field.errField", "errors.errorType"], apart := false, laid := [("errors.errorType", laid_errors_errorType), ("aviary/field.errMore", laid_aviary_field_errMore), ("aviary/field.errField", laid_aviary_field_errField)], narrowed := true }
def FrameFindsUptoSaid : Prop := frameFindsUptoRow.holds Tryd.pinned (OpenSpec.upto frameFindsSpec)

/-- 'aviarylaw03.FrameMore', WHERE WHAT IT READS IS OF BULK AT MOST 1048576: true; the input reads as it did. -/
def frameMoreUptoRow : OpenClaim := { program := "ytafabdgkinfceaadoor", sum := "504935b1fe5a52348f14f4bb83997494d8a6080e526b89062ec6ff3c532203a1", func := "aviary/aviarylaw03.FrameMore", spec := "frameMore", inPlace := ["internal/reflectlite.TypeOf", "internal/reflectlite.ValueOf", "(internal/reflectlite.Value).Type", "(internal/reflectlite.Value).IsNil", "(internal/reflectlite.Value).Elem", "(internal/reflectlite.Value).Set"], unfollowed := true, recurses := true, named := ["aviary/field.errMore", "aviary/field.errField", "errors.errorType"], apart := false, laid := [("errors.errorType", laid_errors_errorType), ("aviary/field.errMore", laid_aviary_field_errMore), ("aviary/field.errField", laid_aviary_field_errField)], narrowed := true }
def FrameMoreUptoSaid : Prop := frameMoreUptoRow.holds Tryd.pinned (OpenSpec.upto frameMoreSpec)

/-- 'aviarylaw03.FrameSizes', WHERE WHAT IT READS IS OF BULK AT MOST 1048576: true; the input reads as it did. -/
def frameSizesUptoRow : OpenClaim := { program := "ytafabdgkinfceaadoor", sum := "504935b1fe5a52348f14f4bb83997494d8a6080e526b89062ec6ff3c532203a1", func := "aviary/aviarylaw03.FrameSizes", spec := "frameSizes", inPlace := ["internal/reflectlite.TypeOf", "internal/reflectlite.ValueOf", "(internal/reflectlite.Value).Type", "(internal/reflectlite.Value).IsNil", "(internal/reflectlite.Value).Elem", "(internal/reflectlite.Value).Set"], unfollowed := true, recurses := true, named := ["aviary/field.errMore", "aviary/field.errField", "errors.errorType"], apart := false, laid := [("errors.errorType", laid_errors_errorType), ("aviary/field.errMore", laid_aviary_field_errMore), ("aviary/field.errField", laid_aviary_field_errField)], narrowed := true }
def FrameSizesUptoSaid : Prop := frameSizesUptoRow.holds Tryd.pinned (OpenSpec.upto frameSizesSpec)

/-- 'aviarylaw03.FrameAll', WHERE WHAT IT READS IS OF BULK AT MOST 1048576: true; the input reads as it did. -/
def frameAllUptoRow : OpenClaim := { program := "ytafabdgkinfceaadoor", sum := "504935b1fe5a52348f14f4bb83997494d8a6080e526b89062ec6ff3c532203a1", func := "aviary/aviarylaw03.FrameAll", spec := "frameAll", inPlace := ["internal/reflectlite.TypeOf", "internal/reflectlite.ValueOf", "(internal/reflectlite.Value).Type", "(internal/reflectlite.Value).IsNil", "(internal/reflectlite.Value).Elem", "(internal/reflectlite.Value).Set"], unfollowed := true, recurses := true, named := ["aviary/field.errMore", "aviary/field.errField", "errors.errorType"], apart := false, laid := [("errors.errorType", laid_errors_errorType), ("aviary/field.errMore", laid_aviary_field_errMore), ("aviary/field.errField", laid_aviary_field_errField)], narrowed := true }
def FrameAllUptoSaid : Prop := frameAllUptoRow.holds Tryd.pinned (OpenSpec.upto frameAllSpec)

/-- 'aviarylaw03.FrameStreams', WHERE WHAT IT READS IS OF BULK AT MOST 1048576: true; the input reads as it did. -/
def frameStreamsUptoRow : OpenClaim := { program := "ytafabdgkinfceaadoor", sum := "504935b1fe5a52348f14f4bb83997494d8a6080e526b89062ec6ff3c532203a1", func := "aviary/aviarylaw03.FrameStreams", spec := "frameStreams", inPlace := ["internal/reflectlite.TypeOf", "internal/reflectlite.ValueOf", "(internal/reflectlite.Value).Type", "(internal/reflectlite.Value).IsNil", "(internal/reflectlite.Value).Elem", "(internal/reflectlite.Value).Set"], unfollowed := true, recurses := true, named := ["aviary/field.errMore", "aviary/field.errField", "errors.errorType"], apart := false, laid := [("errors.errorType", laid_errors_errorType), ("aviary/field.errMore", laid_aviary_field_errMore), ("aviary/field.errField", laid_aviary_field_errField)], narrowed := true }
def FrameStreamsUptoSaid : Prop := frameStreamsUptoRow.holds Tryd.pinned (OpenSpec.upto frameStreamsSpec)

end Rows
end Go.Proofs.YtafabdgkinfceaaDoor
