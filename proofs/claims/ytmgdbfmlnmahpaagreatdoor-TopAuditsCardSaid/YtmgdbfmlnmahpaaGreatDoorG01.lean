/- Part of TopAudits. -/
import Derived.Test.YtmgdbfmlnmahpaaGreatDoorRows
import Derived.ProofKit
import Derived.LaidLaws
import Derived.LaidHandle
import Derived.LaidMore
import Derived.Lay
namespace Go.Proofs.YtmgdbfmlnmahpaaGreatDoor
set_option linter.unusedSimpArgs false
set_option linter.unusedVariables false
set_option maxRecDepth 100000
set_option maxHeartbeats 4000000
open Go.Proofs.Tryz
open Go.ChangeShapes Go.WideShapes Go.ChangeAt Go.RowKit
abbrev aPs :List (String×DataW Unit):=[("unicode/utf8.acceptRanges",Rows.laid_unicode_utf8_acceptRanges),("unicode/utf8.first",Rows.laid_unicode_utf8_first)]
abbrev aDt :List (String×DataW Unit):=[("unicode/utf8.acceptRanges",Rows.laid_unicode_utf8_acceptRanges),("errors.errorType",Rows.laid_errors_errorType),("unicode/utf8.first",Rows.laid_unicode_utf8_first)]
noncomputable def aAh (os:Os):World:=
 let w0:=World.holding prog os ⟨#[],#[],[]⟩
 {w0 with heap:=w0.heap.modify 1 λ
   | .cells _ t frozen=>.cells #[.iface 392 (.agg #[typeHandle prog 137])] t frozen
   |o=>o}
noncomputable def lM (os:Os):World:=(aAh os).layVars prog aPs
theorem aBe (os:Os):(lM os).os=os:=(World.layVars_os _ _ _).trans rfl
theorem yZ (os:Os):laidMet prog aPs (lM os):=
 laidMet_layVars (w0:=aAh os) ["unicode/utf8.acceptRanges", "unicode/utf8.first"] [] rfl (by kernel_rfl) (by kernel_rfl) LaidIn.none
theorem xL (os:Os)(args:Array Value):laidMetH prog aDt ((lM os).forCall (λ_ _=>0) ⟨#[],args,[]⟩).memory:=
 laidMetH_of_parts ((yZ os).of_heap (by simp[World.memory,World.forCall,Input.heap])) (by kernel_rfl)
theorem tU (os:Os)(args:Array Value):((lM os).forCall (λ_ _=>0) ⟨#[],args,[]⟩).Shaped prog:=
 World.shaped_of_ZipB (by kernel_rfl) (by kernel_rfl)
end Go.Proofs.YtmgdbfmlnmahpaaGreatDoor
