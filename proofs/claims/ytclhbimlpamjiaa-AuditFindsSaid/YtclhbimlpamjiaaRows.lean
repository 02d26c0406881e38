/-
  No cell of these rows narrows 'for every input' (looked for: loops, veiled, ifaces, maps, wideKeys, modest, calm, conditions, laid).
  DERIVED. THE GIVEN ROWS OF THIS SEAT. 7 by the template 'for every input the law returns true; each argument reads behind the call as it read before'; 0 by the template 'total and deterministic' (their statements: YtclhbimlpamjiaaTotals.lean).
  GIVEN WITH THE SEED: the statements are not yours to turn. If you find one false, say at which input.
  Laid BY PROGRAM, IN A SANDBOX (cutbox-rows.mjs): the forced cells as the released guide's own fill.sh prints them over the translation f00b00d7bc21157b… (all of the seat's roots in one cut). By AI agents, Wed Nov 11 2026. No macro, syntax, notation, axiom, sorry.
-/
import Derived.Test.YtclhbimlpamjiaaChecked
import GoSem.Claim
import GoSem.ClaimJoined
import GoSem.ClaimMapViews
import Derived.JoinedTies
import Derived.KernelRfl
namespace Go.Proofs.Ytclhbimlpamjiaa
/- THE CELL 'sum', in the pinned program and in every row, IS THE sha256 OF THE DUMP (.gsa) THAT YtclhbimlpamjiaaProg.lean LOADS. Nothing in Lean hashes anything: it is a label: what it is worth is what the hold of that sum in a sandbox is worth. -/
noncomputable def Try.pinned : Pinned := { name := "ytclhbimlpamjiaa", sum := "f00b00d7bc21157b9257d28a9b106b199e7abab8d987c0e068d4c897efa44bea", checked := Try.checked }
namespace Rows
def none {H : Type} : Left H := { results := [], args := [] }

/-- 'aviarylaw16.AuditAppends': WHATEVER THE INPUT: true; the input reads as it did. -/
def auditAppendsSpec : ChangeSpec := { name := "auditAppends", fn := fun _ => fun
  | [d1, d2, d3, d4] => { results := [.lit (.bool true)], args := [d1, d2, d3, d4] }
  | _ => none }
def auditAppendsRow : OpenClaim := { program := "ytclhbimlpamjiaa", sum := "f00b00d7bc21157b9257d28a9b106b199e7abab8d987c0e068d4c897efa44bea", func := "aviary/aviarylaw16.AuditAppends", spec := "auditAppends", inPlace := ["internal/abi.NoEscape"], unfollowed := true, recurses := true, apart := false }
def AuditAppendsSaid : Prop := auditAppendsRow.holds Try.pinned (OpenSpec.ofChange auditAppendsSpec)

/-- ITS FALSE NEIGHBOUR: 'it returns false'. Refute it at one input. -/
def auditAppendsWrong : ChangeSpec := { name := "auditAppends", fn := fun _ => fun
  | [d1, d2, d3, d4] => { results := [.lit (.bool false)], args := [d1, d2, d3, d4] }
  | _ => none }
def AuditAppendsWrongFalsely : Prop := auditAppendsRow.holds Try.pinned (OpenSpec.ofChange auditAppendsWrong)

/-- 'aviarylaw16.AuditGrows': WHATEVER THE INPUT: true; the input reads as it did. -/
def auditGrowsSpec : ChangeSpec := { name := "auditGrows", fn := fun _ => fun
  | [d1, d2, d3, d4] => { results := [.lit (.bool true)], args := [d1, d2, d3, d4] }
  | _ => none }
def auditGrowsRow : OpenClaim := { program := "ytclhbimlpamjiaa", sum := "f00b00d7bc21157b9257d28a9b106b199e7abab8d987c0e068d4c897efa44bea", func := "aviary/aviarylaw16.AuditGrows", spec := "auditGrows", inPlace := ["internal/abi.NoEscape"], unfollowed := true, recurses := true, apart := false }
def AuditGrowsSaid : Prop := auditGrowsRow.holds Try.pinned (OpenSpec.ofChange auditGrowsSpec)

/-- ITS FALSE NEIGHBOUR: 'it returns false'. Refute it at one input. -/
def auditGrowsWrong : ChangeSpec := { name := "auditGrows", fn := fun _ => fun
  | [d1, d2, d3, d4] => { results := [.lit (.bool false)], args := [d1, d2, d3, d4] }
  | _ => none }
def AuditGrowsWrongFalsely : Prop := auditGrowsRow.holds Try.pinned (OpenSpec.ofChange auditGrowsWrong)

/-- 'aviarylaw16.AuditFinds': WHATEVER THE INPUT: true; the input reads as it did. -/
def auditFindsSpec : ChangeSpec := { name := "auditFinds", fn := fun _ => fun
  | [d1, d2, d3, d4] => { results := [.lit (.bool true)], args := [d1, d2, d3, d4] }
  | _ => none }
def auditFindsRow : OpenClaim := { program := "ytclhbimlpamjiaa", sum := "f00b00d7bc21157b9257d28a9b106b199e7abab8d987c0e068d4c897efa44bea", func := "aviary/aviarylaw16.AuditFinds", spec := "auditFinds", inPlace := ["internal/abi.NoEscape"], unfollowed := true, recurses := true, apart := false }
def AuditFindsSaid : Prop := auditFindsRow.holds Try.pinned (OpenSpec.ofChange auditFindsSpec)

/-- ITS FALSE NEIGHBOUR: 'it returns false'. Refute it at one input. -/
def auditFindsWrong : ChangeSpec := { name := "auditFinds", fn := fun _ => fun
  | [d1, d2, d3, d4] => { results := [.lit (.bool false)], args := [d1, d2, d3, d4] }
  | _ => none }
def AuditFindsWrongFalsely : Prop := auditFindsRow.holds Try.pinned (OpenSpec.ofChange auditFindsWrong)

/-- 'aviarylaw16.AuditParts': WHATEVER THE INPUT: true; the input reads as it did. -/
def auditPartsSpec : ChangeSpec := { name := "auditParts", fn := fun _ => fun
  | [d1, d2, d3, d4] => { results := [.lit (.bool true)], args := [d1, d2, d3, d4] }
  | _ => none }
def auditPartsRow : OpenClaim := { program := "ytclhbimlpamjiaa", sum := "f00b00d7bc21157b9257d28a9b106b199e7abab8d987c0e068d4c897efa44bea", func := "aviary/aviarylaw16.AuditParts", spec := "auditParts", inPlace := ["internal/abi.NoEscape"], unfollowed := true, recurses := true, apart := false }
def AuditPartsSaid : Prop := auditPartsRow.holds Try.pinned (OpenSpec.ofChange auditPartsSpec)

/-- ITS FALSE NEIGHBOUR: 'it returns false'. Refute it at one input. -/
def auditPartsWrong : ChangeSpec := { name := "auditParts", fn := fun _ => fun
  | [d1, d2, d3, d4] => { results := [.lit (.bool false)], args := [d1, d2, d3, d4] }
  | _ => none }
def AuditPartsWrongFalsely : Prop := auditPartsRow.holds Try.pinned (OpenSpec.ofChange auditPartsWrong)

/-- 'aviarylaw16.AuditOwn': WHATEVER THE INPUT: true; the input reads as it did. -/
def auditOwnSpec : ChangeSpec := { name := "auditOwn", fn := fun _ => fun
  | [d1, d2, d3, d4] => { results := [.lit (.bool true)], args := [d1, d2, d3, d4] }
  | _ => none }
def auditOwnRow : OpenClaim := { program := "ytclhbimlpamjiaa", sum := "f00b00d7bc21157b9257d28a9b106b199e7abab8d987c0e068d4c897efa44bea", func := "aviary/aviarylaw16.AuditOwn", spec := "auditOwn", inPlace := ["internal/abi.NoEscape"], unfollowed := true, recurses := true, apart := false }
def AuditOwnSaid : Prop := auditOwnRow.holds Try.pinned (OpenSpec.ofChange auditOwnSpec)

/-- ITS FALSE NEIGHBOUR: 'it returns false'. Refute it at one input. -/
def auditOwnWrong : ChangeSpec := { name := "auditOwn", fn := fun _ => fun
  | [d1, d2, d3, d4] => { results := [.lit (.bool false)], args := [d1, d2, d3, d4] }
  | _ => none }
def AuditOwnWrongFalsely : Prop := auditOwnRow.holds Try.pinned (OpenSpec.ofChange auditOwnWrong)

/-- 'aviarylaw16.AuditLong': WHATEVER THE INPUT: true; the input reads as it did. -/
def auditLongSpec : ChangeSpec := { name := "auditLong", fn := fun _ => fun
  | [d1, d2, d3] => { results := [.lit (.bool true)], args := [d1, d2, d3] }
  | _ => none }
def auditLongRow : OpenClaim := { program := "ytclhbimlpamjiaa", sum := "f00b00d7bc21157b9257d28a9b106b199e7abab8d987c0e068d4c897efa44bea", func := "aviary/aviarylaw16.AuditLong", spec := "auditLong", inPlace := ["internal/abi.NoEscape"], unfollowed := true, recurses := true, apart := false }
def AuditLongSaid : Prop := auditLongRow.holds Try.pinned (OpenSpec.ofChange auditLongSpec)

/-- ITS FALSE NEIGHBOUR: 'it returns false'. Refute it at one input. -/
def auditLongWrong : ChangeSpec := { name := "auditLong", fn := fun _ => fun
  | [d1, d2, d3] => { results := [.lit (.bool false)], args := [d1, d2, d3] }
  | _ => none }
def AuditLongWrongFalsely : Prop := auditLongRow.holds Try.pinned (OpenSpec.ofChange auditLongWrong)

/-- 'aviarylaw16.AuditTells': WHATEVER THE INPUT: true; the input reads as it did. -/
def auditTellsSpec : ChangeSpec := { name := "auditTells", fn := fun _ => fun
  | [d1, d2, d3, d4, d5] => { results := [.lit (.bool true)], args := [d1, d2, d3, d4, d5] }
  | _ => none }
def auditTellsRow : OpenClaim := { program := "ytclhbimlpamjiaa", sum := "f00b00d7bc21157b9257d28a9b106b199e7abab8d987c0e068d4c897efa44bea", func := "aviary/aviarylaw16.AuditTells", spec := "auditTells", inPlace := ["internal/abi.NoEscape"], unfollowed := true, recurses := true, apart := false }
def AuditTellsSaid : Prop := auditTellsRow.holds Try.pinned (OpenSpec.ofChange auditTellsSpec)

/-- ITS FALSE NEIGHBOUR: 'it returns false'. Refute it at one input. -/
def auditTellsWrong : ChangeSpec := { name := "auditTells", fn := fun _ => fun
  | [d1, d2, d3, d4, d5] => { results := [.lit (.bool false)], args := [d1, d2, d3, d4, d5] }
  | _ => none }
def AuditTellsWrongFalsely : Prop := auditTellsRow.holds Try.pinned (OpenSpec.ofChange auditTellsWrong)

/- THE SECOND FORM. 'bulk': how many values and letters a reading holds, each counted each time it is reached (what is shared counts as often as it is met; a slice's spare places count too). A statement '..UptoSaid' is the law's where the arguments, and the package variables that the reading takes, are together of bulk at most 1048576: NARROWER than '..Said'. Prove '..Said' where nothing that the law and all that it calls make is longer than what came in: it says more and counts as full. Else prove '..UptoSaid'. A law counts once. -/
mutual
def uptoBulk {H : Type} : DataW H → Nat
  | .lit (.string bytes) => bytes.length + 1
  | .lit _ => 1
  | .nil => 1
  | .ptr d => uptoBulk d + 1
  | .slice elems spare => uptoBulkAll elems + uptoBulkAll spare + 1
  | .agg parts => uptoBulkAll parts + 1
  | .iface _ d => uptoBulk d + 1
  | .map entries => uptoBulkEntries entries + 1
  | .held _ => 1
def uptoBulkAll {H : Type} : List (DataW H) → Nat
  | [] => 0
  | d :: r => uptoBulk d + uptoBulkAll r
def uptoBulkEntries {H : Type} : List (Lit × DataW H) → Nat
  | [] => 0
  | x :: r => uptoBulkEntry x + uptoBulkEntries r
def uptoBulkEntry {H : Type} : Lit × DataW H → Nat
  | (.string bytes, d) => bytes.length + uptoBulk d + 1
  | (_, d) => uptoBulk d + 1
 end
def uptoSmall : (H : Type) → List (DataW H) → Bool := fun _ ds => decide (uptoBulkAll ds ≤ 1048576)
def OpenSpec.upto (s : _root_.Go.ChangeSpec) : _root_.Go.OpenSpec := { _root_.Go.OpenSpec.ofChange s with cond := some uptoSmall }

/-- 'aviarylaw16.AuditAppends', WHERE WHAT IT READS IS OF BULK AT MOST 1048576: true; the input reads as it did. -/
def auditAppendsUptoRow : OpenClaim := { program := "ytclhbimlpamjiaa", sum := "f00b00d7bc21157b9257d28a9b106b199e7abab8d987c0e068d4c897efa44bea", func := "aviary/aviarylaw16.AuditAppends", spec := "auditAppends", inPlace := ["internal/abi.NoEscape"], unfollowed := true, recurses := true, apart := false, narrowed := true }
def AuditAppendsUptoSaid : Prop := auditAppendsUptoRow.holds Try.pinned (OpenSpec.upto auditAppendsSpec)

/-- 'aviarylaw16.AuditGrows', WHERE WHAT IT READS IS OF BULK AT MOST 1048576: true; the input reads as it did. -/
def auditGrowsUptoRow : OpenClaim := { program := "ytclhbimlpamjiaa", sum := "f00b00d7bc21157b9257d28a9b106b199e7abab8d987c0e068d4c897efa44bea", func := "aviary/aviarylaw16.AuditGrows", spec := "auditGrows", inPlace := ["internal/abi.NoEscape"], unfollowed := true, recurses := true, apart := false, narrowed := true }
def AuditGrowsUptoSaid : Prop := auditGrowsUptoRow.holds Try.pinned (OpenSpec.upto auditGrowsSpec)

/-- 'aviarylaw16.AuditFinds', WHERE WHAT IT READS IS OF BULK AT MOST 1048576: true; the input reads as it did. -/
def auditFindsUptoRow : OpenClaim := { program := "ytclhbimlpamjiaa", sum := "f00b00d7bc21157b9257d28a9b106b199e7abab8d987c0e068d4c897efa44bea", func := "aviary/aviarylaw16.AuditFinds", spec := "auditFinds", inPlace := ["internal/abi.NoEscape"], unfollowed := true, recurses := true, apart := false, narrowed := true }
def AuditFindsUptoSaid : Prop := auditFindsUptoRow.holds Try.pinned (OpenSpec.upto auditFindsSpec)

/-- 'aviarylaw16.AuditParts', WHERE WHAT IT READS IS OF BULK AT MOST 1048576: true; the input reads as it did. -/
def auditPartsUptoRow : OpenClaim := { program := "ytclhbimlpamjiaa", sum := "f00b00d7bc21157b9257d28a9b106b199e7abab8d987c0e068d4c897efa44bea", func := "aviary/aviarylaw16.AuditParts", spec := "auditParts", inPlace := ["internal/abi.NoEscape"], unfollowed := true, recurses := true, apart := false, narrowed := true }
def AuditPartsUptoSaid : Prop := auditPartsUptoRow.holds Try.pinned (OpenSpec.upto auditPartsSpec)

/-- 'aviarylaw16.AuditOwn', WHERE WHAT IT READS IS OF BULK AT MOST 1048576: true; the input reads as it did. -/
def auditOwnUptoRow : OpenClaim := { program := "ytclhbimlpamjiaa", sum := "f00b00d7bc21157b9257d28a9b106b199e7abab8d987c0e068d4c897efa44bea", func := "aviary/aviarylaw16.AuditOwn", spec := "auditOwn", inPlace := ["internal/abi.NoEscape"], unfollowed := true, recurses := true, apart := false, narrowed := true }
def AuditOwnUptoSaid : Prop := auditOwnUptoRow.holds Try.pinned (OpenSpec.upto auditOwnSpec)

/-- 'aviarylaw16.AuditLong', WHERE WHAT IT READS IS OF BULK AT MOST 1048576: true; the input reads as it did. -/
def auditLongUptoRow : OpenClaim := { program := "ytclhbimlpamjiaa", sum := "f00b00d7bc21157b9257d28a9b106b199e7abab8d987c0e068d4c897efa44bea", func := "aviary/aviarylaw16.AuditLong", spec := "auditLong", inPlace := ["internal/abi.NoEscape"], unfollowed := true, recurses := true, apart := false, narrowed := true }
def AuditLongUptoSaid : Prop := auditLongUptoRow.holds Try.pinned (OpenSpec.upto auditLongSpec)

/-- 'aviarylaw16.AuditTells', WHERE WHAT IT READS IS OF BULK AT MOST 1048576: true; the input reads as it did. -/
def auditTellsUptoRow : OpenClaim := { program := "ytclhbimlpamjiaa", sum := "f00b00d7bc21157b9257d28a9b106b199e7abab8d987c0e068d4c897efa44bea", func := "aviary/aviarylaw16.AuditTells", spec := "auditTells", inPlace := ["internal/abi.NoEscape"], unfollowed := true, recurses := true, apart := false, narrowed := true }
def AuditTellsUptoSaid : Prop := auditTellsUptoRow.holds Try.pinned (OpenSpec.upto auditTellsSpec)

end Rows
end Go.Proofs.Ytclhbimlpamjiaa
