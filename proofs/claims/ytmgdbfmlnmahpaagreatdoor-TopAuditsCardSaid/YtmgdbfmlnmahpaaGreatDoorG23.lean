/- Part of TopAudits. -/
import Derived.Shelf.Unicode.DecodeAny
import Derived.Test.YtmgdbfmlnmahpaaGreatDoorProg
namespace Go.Proofs
open Go.Shelf
def Tryz.lays197_ren :Go.Shelf.Ren:=⟨fun|197=>167|260=>202|n=>n,fun|9=>9|21=>21|3=>3|4=>4|5=>5|105=>314|119=>385|0=>0|46=>118|139=>388|138=>387|n=>n,fun|3=>2|4=>3|n=>n⟩
theorem Tryz.lays197 :Go.Proofs.Lays.n197 Tryz.prog Tryz.lays197_ren:={
 mixed:=by kernel_rfl
 f197:=Tryz.func167.trans (congrArg some (by kernel_rfl))
 f260:=Tryz.func202.trans (congrArg some (by kernel_rfl))
 t0:=Tryz.underlying0
 a0:=Tryz.isAgg0
 z0:=Tryz.sizeOf0
 v0:=Tryz.zeroValue0
 t3:=Tryz.underlying3
 a3:=Tryz.isAgg3
 z3:=Tryz.sizeOf3
 v3:=Tryz.zeroValue3
 t4:=Tryz.underlying4
 a4:=Tryz.isAgg4
 z4:=Tryz.sizeOf4
 v4:=Tryz.zeroValue4
 t5:=Tryz.underlying5
 a5:=Tryz.isAgg5
 z5:=Tryz.sizeOf5
 v5:=Tryz.zeroValue5
 t9:=Tryz.underlying9
 a9:=Tryz.isAgg9
 z9:=Tryz.sizeOf9
 v9:=Tryz.zeroValue9
 t21:=Tryz.underlying21
 a21:=Tryz.isAgg21
 z21:=Tryz.sizeOf21
 v21:=Tryz.zeroValue21
 t46:=Tryz.underlying118
 a46:=Tryz.isAgg118
 z46:=Tryz.sizeOf118
 v46:=Tryz.zeroValue118
 t105:=Tryz.underlying314
 a105:=Tryz.isAgg314
 z105:=Tryz.sizeOf314
 v105:=Tryz.zeroValue314
 t119:=Tryz.underlying385
 a119:=Tryz.isAgg385
 z119:=Tryz.sizeOf385
 t138:=Tryz.underlying387
 a138:=Tryz.isAgg387
 z138:=Tryz.sizeOf387
 v138:=Tryz.zeroValue387
 t139:=Tryz.underlying388
 a139:=Tryz.isAgg388
 z139:=Tryz.sizeOf388
 v139:=Tryz.zeroValue388
 g3:=by kernel_rfl
 g4:=by kernel_rfl}
open Go.RowKit Go.Lib in
theorem Tryz.utf8_DecodeRuneInString (s:ByteArray)(w:World)(hT:Lib.Utf8Tabs 2 3 w):
  Calls Tryz.prog 167 #[.string s] w λe w'=>e=.returned (.tuple #[.int .i32 (Lib.decodeGo s).1,.int .i64 (Lib.decodeGo s).2])/\Below w.heap.size w w':=Any.utf8_DecodeRuneInString Tryz.lays197 s w hT
end Go.Proofs
