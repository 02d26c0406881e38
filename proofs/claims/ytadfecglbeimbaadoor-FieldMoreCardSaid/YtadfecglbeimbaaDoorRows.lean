/-
  NARROWER THAN 'FOR EVERY INPUT', by the rows' own cells (each row's printed sentence says how): FieldPuts: laid · FieldOrders: laid · FieldOne: laid · FieldBack: laid · FieldLists: laid · FieldMore: laid · FieldTexts: laid.
  DERIVED. THE GIVEN ROWS OF THIS SEAT. 7 by the template 'for every input the law returns true; each argument reads behind the call as it read before'; 0 by the template 'total and deterministic' (their statements: YtadfecglbeimbaaDoorTotals.lean).
  GIVEN WITH THE SEED: the statements are not yours to turn. If you find one false, say at which input.
  Laid BY PROGRAM, IN A SANDBOX (cutbox-rows.mjs): the forced cells as the released guide's own fill.sh prints them over the translation 5a45ad392a4a0d2b… (all of the seat's roots in one cut). By AI agents, Wed Nov 11 2026. No macro, syntax, notation, axiom, sorry.
-/
import Derived.Test.YtadfecglbeimbaaDoorChecked
import GoSem.Claim
import GoSem.ClaimJoined
import GoSem.ClaimMapViews
import Derived.JoinedTies
import Derived.KernelRfl
namespace Go.Proofs.YtadfecglbeimbaaDoor
/- THE CELL 'sum', in the pinned program and in every row, IS THE sha256 OF THE DUMP (.gsa) THAT YtadfecglbeimbaaDoorProg.lean LOADS. Nothing in Lean hashes anything: it is a label: what it is worth is what the hold of that sum in a sandbox is worth. -/
noncomputable def Tryd.pinned : Pinned := { name := "ytadfecglbeimbaadoor", sum := "5a45ad392a4a0d2bb4114660ef583b5234a345fb311da39b1c837067a334ceb9", checked := Tryd.checked }
namespace Rows
def none {H : Type} : Left H := { results := [], args := [] }

/- WHAT THE LISTED PACKAGE-LEVEL VARIABLES READ AS WHEN THE CALL BEGINS. Each datum BY PROGRAM (the guide's laid-datum.mjs) off the statement by which the dump's own 'gosem.cut.vars' lays the variable. In a bare row this is a premise. The card (YtadfecglbeimbaaDoorCards.lean) ties it to the program's text. -/
def laid_aviary_field_errMore {H : Type} : DataW H := .iface "*errors.errorString" (.ptr (.agg [.lit (.string [102, 105, 101, 108, 100, 58, 32, 98, 121, 116, 101, 115, 32, 97, 114, 101, 32, 109, 105, 115, 115, 105, 110, 103])]))
def laid_aviary_field_errField {H : Type} : DataW H := .iface "*errors.errorString" (.ptr (.agg [.lit (.string [102, 105, 101, 108, 100, 58, 32, 116, 104, 101, 115, 101, 32, 98, 121, 116, 101, 115, 32, 97, 114, 101, 32, 110, 111, 110, 101])]))

/-- 'aviarylaw02.FieldPuts': WHATEVER THE INPUT: true; the input reads as it did. -/
def fieldPutsSpec : ChangeSpec := { name := "fieldPuts", fn := fun _ => fun
  | [d1, d2, d3] => { results := [.lit (.bool true)], args := [d1, d2, d3] }
  | _ => none }
def fieldPutsRow : OpenClaim := { program := "ytadfecglbeimbaadoor", sum := "5a45ad392a4a0d2bb4114660ef583b5234a345fb311da39b1c837067a334ceb9", func := "aviary/aviarylaw02.FieldPuts", spec := "fieldPuts", inPlace := ["internal/abi.NoEscape", "internal/bytealg.MakeNoZero", "internal/reflectlite.TypeOf", "internal/bytealg.abigen_runtime_cmpstring"], unfollowed := true, recurses := true, named := ["aviary/field.errMore", "aviary/field.errField"], apart := false, laid := [("aviary/field.errMore", laid_aviary_field_errMore), ("aviary/field.errField", laid_aviary_field_errField)] }
def FieldPutsSaid : Prop := fieldPutsRow.holds Tryd.pinned (OpenSpec.ofChange fieldPutsSpec)

/-- ITS FALSE NEIGHBOUR: 'it returns false'. Refute it at one input. -/
def fieldPutsWrong : ChangeSpec := { name := "fieldPuts", fn := fun _ => fun
  | [d1, d2, d3] => { results := [.lit (.bool false)], args := [d1, d2, d3] }
  | _ => none }
def FieldPutsWrongFalsely : Prop := fieldPutsRow.holds Tryd.pinned (OpenSpec.ofChange fieldPutsWrong)

/-- 'aviarylaw02.FieldOrders': WHATEVER THE INPUT: true; the input reads as it did. -/
def fieldOrdersSpec : ChangeSpec := { name := "fieldOrders", fn := fun _ => fun
  | [d1, d2] => { results := [.lit (.bool true)], args := [d1, d2] }
  | _ => none }
def fieldOrdersRow : OpenClaim := { program := "ytadfecglbeimbaadoor", sum := "5a45ad392a4a0d2bb4114660ef583b5234a345fb311da39b1c837067a334ceb9", func := "aviary/aviarylaw02.FieldOrders", spec := "fieldOrders", inPlace := ["internal/abi.NoEscape", "internal/bytealg.MakeNoZero", "internal/reflectlite.TypeOf", "internal/bytealg.abigen_runtime_cmpstring"], unfollowed := true, recurses := true, named := ["aviary/field.errMore", "aviary/field.errField"], apart := false, laid := [("aviary/field.errMore", laid_aviary_field_errMore), ("aviary/field.errField", laid_aviary_field_errField)] }
def FieldOrdersSaid : Prop := fieldOrdersRow.holds Tryd.pinned (OpenSpec.ofChange fieldOrdersSpec)

/-- ITS FALSE NEIGHBOUR: 'it returns false'. Refute it at one input. -/
def fieldOrdersWrong : ChangeSpec := { name := "fieldOrders", fn := fun _ => fun
  | [d1, d2] => { results := [.lit (.bool false)], args := [d1, d2] }
  | _ => none }
def FieldOrdersWrongFalsely : Prop := fieldOrdersRow.holds Tryd.pinned (OpenSpec.ofChange fieldOrdersWrong)

/-- 'aviarylaw02.FieldOne': WHATEVER THE INPUT: true; the input reads as it did. -/
def fieldOneSpec : ChangeSpec := { name := "fieldOne", fn := fun _ => fun
  | [d1, d2, d3] => { results := [.lit (.bool true)], args := [d1, d2, d3] }
  | _ => none }
def fieldOneRow : OpenClaim := { program := "ytadfecglbeimbaadoor", sum := "5a45ad392a4a0d2bb4114660ef583b5234a345fb311da39b1c837067a334ceb9", func := "aviary/aviarylaw02.FieldOne", spec := "fieldOne", inPlace := ["internal/abi.NoEscape", "internal/bytealg.MakeNoZero", "internal/reflectlite.TypeOf", "internal/bytealg.abigen_runtime_cmpstring"], unfollowed := true, recurses := true, named := ["aviary/field.errMore", "aviary/field.errField"], apart := false, laid := [("aviary/field.errMore", laid_aviary_field_errMore), ("aviary/field.errField", laid_aviary_field_errField)] }
def FieldOneSaid : Prop := fieldOneRow.holds Tryd.pinned (OpenSpec.ofChange fieldOneSpec)

/-- ITS FALSE NEIGHBOUR: 'it returns false'. Refute it at one input. -/
def fieldOneWrong : ChangeSpec := { name := "fieldOne", fn := fun _ => fun
  | [d1, d2, d3] => { results := [.lit (.bool false)], args := [d1, d2, d3] }
  | _ => none }
def FieldOneWrongFalsely : Prop := fieldOneRow.holds Tryd.pinned (OpenSpec.ofChange fieldOneWrong)

/-- 'aviarylaw02.FieldBack': WHATEVER THE INPUT: true; the input reads as it did. -/
def fieldBackSpec : ChangeSpec := { name := "fieldBack", fn := fun _ => fun
  | [d1, d2, d3] => { results := [.lit (.bool true)], args := [d1, d2, d3] }
  | _ => none }
def fieldBackRow : OpenClaim := { program := "ytadfecglbeimbaadoor", sum := "5a45ad392a4a0d2bb4114660ef583b5234a345fb311da39b1c837067a334ceb9", func := "aviary/aviarylaw02.FieldBack", spec := "fieldBack", inPlace := ["internal/abi.NoEscape", "internal/bytealg.MakeNoZero", "internal/reflectlite.TypeOf"], unfollowed := true, recurses := true, named := ["aviary/field.errMore", "aviary/field.errField"], apart := false, laid := [("aviary/field.errMore", laid_aviary_field_errMore), ("aviary/field.errField", laid_aviary_field_errField)] }
def FieldBackSaid : Prop := fieldBackRow.holds Tryd.pinned (OpenSpec.ofChange fieldBackSpec)

/-- ITS FALSE NEIGHBOUR: 'it returns false'. Refute it at one input. -/
def fieldBackWrong : ChangeSpec := { name := "fieldBack", fn := fun _ => fun
  | [d1, d2, d3] => { results := [.lit (.bool false)], args := [d1, d2, d3] }
  | _ => none }
def FieldBackWrongFalsely : Prop := fieldBackRow.holds Tryd.pinned (OpenSpec.ofChange fieldBackWrong)

/-- 'aviarylaw02.FieldLists': WHATEVER THE INPUT: true; the input reads as it did. -/
def fieldListsSpec : ChangeSpec := { name := "fieldLists", fn := fun _ => fun
  | [d1, d2] => { results := [.lit (.bool true)], args := [d1, d2] }
  | _ => none }
def fieldListsRow : OpenClaim := { program := "ytadfecglbeimbaadoor", sum := "5a45ad392a4a0d2bb4114660ef583b5234a345fb311da39b1c837067a334ceb9", func := "aviary/aviarylaw02.FieldLists", spec := "fieldLists", inPlace := ["internal/abi.NoEscape", "internal/bytealg.MakeNoZero", "internal/reflectlite.TypeOf"], unfollowed := true, recurses := true, named := ["aviary/field.errMore", "aviary/field.errField"], apart := false, laid := [("aviary/field.errMore", laid_aviary_field_errMore), ("aviary/field.errField", laid_aviary_field_errField)] }
def FieldListsSaid : Prop := fieldListsRow.holds Tryd.pinned (OpenSpec.ofChange fieldListsSpec)

/-- ITS FALSE NEIGHBOUR: 'it returns false'. Refute it at one input. -/
def fieldListsWrong : ChangeSpec := { name := "fieldLists", fn := fun _ => fun
  | [d1, d2] => { results := [.lit (.bool false)], args := [d1, d2] }
  | _ => none }
def FieldListsWrongFalsely : Prop := fieldListsRow.holds Tryd.pinned (OpenSpec.ofChange fieldListsWrong)

/-- 'aviarylaw02.FieldMore': WHATEVER THE INPUT: true; the input reads as it did. -/
def fieldMoreSpec : ChangeSpec := { name := "fieldMore", fn := fun _ => fun
  | [d1, d2, d3] => { results := [.lit (.bool true)], args := [d1, d2, d3] }
  | _ => none }
def fieldMoreRow : OpenClaim := { program := "ytadfecglbeimbaadoor", sum := "5a45ad392a4a0d2bb4114660ef583b5234a345fb311da39b1c837067a334ceb9", func := "aviary/aviarylaw02.FieldMore", spec := "fieldMore", inPlace := ["internal/abi.NoEscape", "internal/bytealg.MakeNoZero", "internal/reflectlite.TypeOf"], unfollowed := true, recurses := true, named := ["aviary/field.errMore", "aviary/field.errField"], apart := false, laid := [("aviary/field.errMore", laid_aviary_field_errMore), ("aviary/field.errField", laid_aviary_field_errField)] }
def FieldMoreSaid : Prop := fieldMoreRow.holds Tryd.pinned (OpenSpec.ofChange fieldMoreSpec)

/-- ITS FALSE NEIGHBOUR: 'it returns false'. Refute it at one input. -/
def fieldMoreWrong : ChangeSpec := { name := "fieldMore", fn := fun _ => fun
  | [d1, d2, d3] => { results := [.lit (.bool false)], args := [d1, d2, d3] }
  | _ => none }
def FieldMoreWrongFalsely : Prop := fieldMoreRow.holds Tryd.pinned (OpenSpec.ofChange fieldMoreWrong)

/-- 'aviarylaw02.FieldTexts': WHATEVER THE INPUT: true; the input reads as it did. -/
def fieldTextsSpec : ChangeSpec := { name := "fieldTexts", fn := fun _ => fun
  | [d1, d2] => { results := [.lit (.bool true)], args := [d1, d2] }
  | _ => none }
def fieldTextsRow : OpenClaim := { program := "ytadfecglbeimbaadoor", sum := "5a45ad392a4a0d2bb4114660ef583b5234a345fb311da39b1c837067a334ceb9", func := "aviary/aviarylaw02.FieldTexts", spec := "fieldTexts", inPlace := ["internal/abi.NoEscape", "internal/bytealg.MakeNoZero", "internal/reflectlite.TypeOf"], unfollowed := true, recurses := true, named := ["aviary/field.errMore", "aviary/field.errField"], apart := false, laid := [("aviary/field.errMore", laid_aviary_field_errMore), ("aviary/field.errField", laid_aviary_field_errField)] }
def FieldTextsSaid : Prop := fieldTextsRow.holds Tryd.pinned (OpenSpec.ofChange fieldTextsSpec)

/-- ITS FALSE NEIGHBOUR: 'it returns false'. Refute it at one input. -/
def fieldTextsWrong : ChangeSpec := { name := "fieldTexts", fn := fun _ => fun
  | [d1, d2] => { results := [.lit (.bool false)], args := [d1, d2] }
  | _ => none }
def FieldTextsWrongFalsely : Prop := fieldTextsRow.holds Tryd.pinned (OpenSpec.ofChange fieldTextsWrong)

/- THE SECOND FORM. 'bulk': how many values and letters a reading holds, each counted each time it is reached (what is shared counts as often as it is met; a slice's spare places count too). A statement '..UptoSaid' is the law's where the arguments, and the package variables that the reading takes, are together of bulk at most 1048576: NARROWER than '..Said'. Prove '..Said' where nothing that the law and all that it calls make is longer than what came in: it says more and counts as full. Else prove '..UptoSaid'. A law counts once. -/
mutual
def uptoBulk {H : Type} : DataW H → Nat
  | .lit (.string bytes) => bytes.length + 1
  | .lit _ => 1
  | .nil => 1
  | .ptr d => uptoBulk d + 1
  | .slice elems spare => uptoBulkAll elems + uptoBulkAll spare + 1
  | .agg parts => uptoBulkAll parts + 1
  | .iface _ d => uptoBulk d + 1
  | .map entries => uptoBulkEntries entries + 1
  | .held _ => 1
def uptoBulkAll {H : Type} : List (DataW H) → Nat
  | [] => 0
  | d :: r => uptoBulk d + uptoBulkAll r
def uptoBulkEntries {H : Type} : List (Lit × DataW H) → Nat
  | [] => 0
  | x :: r => uptoBulkEntry x + uptoBulkEntries r
def uptoBulkEntry {H : Type} : Lit × DataW H → Nat
  | (.string bytes, d) => bytes.length + uptoBulk d + 1
  | (_, d) => uptoBulk d + 1
 end
def uptoSmall : (H : Type) → List (DataW H) → Bool := fun _ ds => decide (uptoBulkAll ds ≤ 1048576)
def OpenSpec.upto (s : _root_.Go.ChangeSpec) : _root_.Go.OpenSpec := { _root_.Go.OpenSpec.ofChange s with cond := some uptoSmall }

/-- 'aviarylaw02.FieldPuts', WHERE WHAT IT READS IS OF BULK AT MOST 1048576: true; the input reads as it did. -/
def fieldPutsUptoRow : OpenClaim := { program := "ytadfecglbeimbaadoor", sum := "5a45ad392a4a0d2bb4114660ef583b5234a345fb311da39b1c837067a334ceb9", func := "aviary/aviarylaw02.FieldPuts", spec := "fieldPuts", inPlace := ["internal/abi.NoEscape", "internal/bytealg.MakeNoZero", "internal/reflectlite.TypeOf", "internal/bytealg.abigen_runtime_cmpstring"], unfollowed := true, recurses := true, named := ["aviary/field.errMore", "aviary/field.errField"], apart := false, laid := [("aviary/field.errMore", laid_aviary_field_errMore), ("aviary/field.errField", laid_aviary_field_errField)], narrowed := true }
def FieldPutsUptoSaid : Prop := fieldPutsUptoRow.holds Tryd.pinned (OpenSpec.upto fieldPutsSpec)

/-- 'aviarylaw02.FieldOrders', WHERE WHAT IT READS IS OF BULK AT MOST 1048576: true; the input reads as it did. -/
def fieldOrdersUptoRow : OpenClaim := { program := "ytadfecglbeimbaadoor", sum := "5a45ad392a4a0d2bb4114660ef583b5234a345fb311da39b1c837067a334ceb9", func := "aviary/aviarylaw02.FieldOrders", spec := "fieldOrders", inPlace := ["internal/abi.NoEscape", "internal/bytealg.MakeNoZero", "internal/reflectlite.TypeOf", "internal/bytealg.abigen_runtime_cmpstring"], unfollowed := true, recurses := true, named := ["aviary/field.errMore", "aviary/field.errField"], apart := false, laid := [("aviary/field.errMore", laid_aviary_field_errMore), ("aviary/field.errField", laid_aviary_field_errField)], narrowed := true }
def FieldOrdersUptoSaid : Prop := fieldOrdersUptoRow.holds Tryd.pinned (OpenSpec.upto fieldOrdersSpec)

/-- 'aviarylaw02.FieldOne', WHERE WHAT IT READS IS OF BULK AT MOST 1048576: true; the input reads as it did. -/
def fieldOneUptoRow : OpenClaim := { program := "ytadfecglbeimbaadoor", sum := "5a45ad392a4a0d2bb4114660ef583b5234a345fb311da39b1c837067a334ceb9", func := "aviary/aviarylaw02.FieldOne", spec := "fieldOne", inPlace := ["internal/abi.NoEscape", "internal/bytealg.MakeNoZero", "internal/reflectlite.TypeOf", "internal/bytealg.abigen_runtime_cmpstring"], unfollowed := true, recurses := true, named := ["aviary/field.errMore", "aviary/field.errField"], apart := false, laid := [("aviary/field.errMore", laid_aviary_field_errMore), ("aviary/field.errField", laid_aviary_field_errField)], narrowed := true }
def FieldOneUptoSaid : Prop := fieldOneUptoRow.holds Tryd.pinned (OpenSpec.upto fieldOneSpec)

/-- 'aviarylaw02.FieldBack', WHERE WHAT IT READS IS OF BULK AT MOST 1048576: true; the input reads as it did. -/
def fieldBackUptoRow : OpenClaim := { program := "ytadfecglbeimbaadoor", sum := "5a45ad392a4a0d2bb4114660ef583b5234a345fb311da39b1c837067a334ceb9", func := "aviary/aviarylaw02.FieldBack", spec := "fieldBack", inPlace := ["internal/abi.NoEscape", "internal/bytealg.MakeNoZero", "internal/reflectlite.TypeOf"], unfollowed := true, recurses := true, named := ["aviary/field.errMore", "aviary/field.errField"], apart := false, laid := [("aviary/field.errMore", laid_aviary_field_errMore), ("aviary/field.errField", laid_aviary_field_errField)], narrowed := true }
def FieldBackUptoSaid : Prop := fieldBackUptoRow.holds Tryd.pinned (OpenSpec.upto fieldBackSpec)

/-- 'aviarylaw02.FieldLists', WHERE WHAT IT READS IS OF BULK AT MOST 1048576: true; the input reads as it did. -/
def fieldListsUptoRow : OpenClaim := { program := "ytadfecglbeimbaadoor", sum := "5a45ad392a4a0d2bb4114660ef583b5234a345fb311da39b1c837067a334ceb9", func := "aviary/aviarylaw02.FieldLists", spec := "fieldLists", inPlace := ["internal/abi.NoEscape", "internal/bytealg.MakeNoZero", "internal/reflectlite.TypeOf"], unfollowed := true, recurses := true, named := ["aviary/field.errMore", "aviary/field.errField"], apart := false, laid := [("aviary/field.errMore", laid_aviary_field_errMore), ("aviary/field.errField", laid_aviary_field_errField)], narrowed := true }
def FieldListsUptoSaid : Prop := fieldListsUptoRow.holds Tryd.pinned (OpenSpec.upto fieldListsSpec)

/-- 'aviarylaw02.FieldMore', WHERE WHAT IT READS IS OF BULK AT MOST 1048576: true; the input reads as it did. -/
def fieldMoreUptoRow : OpenClaim := { program := "ytadfecglbeimbaadoor", sum := "5a45ad392a4a0d2bb4114660ef583b5234a345fb311da39b1c837067a334ceb9", func := "aviary/aviarylaw02.FieldMore", spec := "fieldMore", inPlace := ["internal/abi.NoEscape", "internal/bytealg.MakeNoZero", "internal/reflectlite.TypeOf"], unfollowed := true, recurses := true, named := ["aviary/field.errMore", "aviary/field.errField"], apart := false, laid := [("aviary/field.errMore", laid_aviary_field_errMore), ("aviary/field.errField", laid_aviary_field_errField)], narrowed := true }
def FieldMoreUptoSaid : Prop := fieldMoreUptoRow.holds Tryd.pinned (OpenSpec.upto fieldMoreSpec)

/-- 'aviarylaw02.FieldTexts', WHERE WHAT IT READS IS OF BULK AT MOST 1048576: true; the input reads as it did. -/
def fieldTextsUptoRow : OpenClaim := { program := "ytadfecglbeimbaadoor", sum := "5a45ad392a4a0d2bb4114660ef583b5234a345fb311da39b1c837067a334ceb9", func := "aviary/aviarylaw02.FieldTexts", spec := "fieldTexts", inPlace := ["internal/abi.NoEscape", "internal/bytealg.MakeNoZero", "internal/reflectlite.TypeOf"], unfollowed := true, recurses := true, named := ["aviary/field.errMore", "aviary/field.errField"], apart := false, laid := [("aviary/field.errMore", laid_aviary_field_errMore), ("aviary/field.errField", laid_aviary_field_errField)], narrowed := true }
def FieldTextsUptoSaid : Prop := fieldTextsUptoRow.holds Tryd.pinned (OpenSpec.upto fieldTextsSpec)

end Rows
end Go.Proofs.YtadfecglbeimbaaDoor
