/- Part of TopAudits. -/
import Derived.Shelf.Strings.Search1
import Derived.Shelf.Strings.Search2
import Derived.Test.YtmgdbfmlnmahpaaGreatDoorProg
namespace Go.Proofs
open Go.Shelf
def Tryz.lays217_ren :Go.Shelf.Ren:=⟨fun|217=>203|266=>228|n=>n,fun|9=>9|5=>5|3=>3|n=>n,fun|n=>n⟩
theorem Tryz.lays217 :Go.Proofs.Lays.n217 Tryz.prog Tryz.lays217_ren:={
 mixed:=by kernel_rfl
 f217:=Tryz.func203.trans (congrArg some (by kernel_rfl))
 f266:=Tryz.func228.trans (congrArg some (by kernel_rfl))
 t3:=Tryz.underlying3
 a3:=Tryz.isAgg3
 z3:=Tryz.sizeOf3
 v3:=Tryz.zeroValue3
 t5:=Tryz.underlying5
 a5:=Tryz.isAgg5
 z5:=Tryz.sizeOf5
 v5:=Tryz.zeroValue5
 t9:=Tryz.underlying9
 a9:=Tryz.isAgg9
 z9:=Tryz.sizeOf9
 v9:=Tryz.zeroValue9}
open Go.RowKit Go.Lib in
theorem Tryz.stringslite_IndexByte (s:ByteArray)(c:Int)(w:World):
  Calls Tryz.prog 203 #[.string s,.int .u8 c] w λe w'=>e=.returned (.int .i64 (Lib.indexByte s.data.toList c.toNat.toUInt8))/\w'=w:=Any.stringslite_IndexByte Tryz.lays217 s c w
def Tryz.lays219_ren :Go.Shelf.Ren:=⟨fun|219=>169|217=>203|225=>204|224=>205|267=>206|266=>228|314=>229|n=>n,fun|9=>9|3=>3|4=>4|5=>5|46=>118|146=>389|51=>342|n=>n,fun|1=>0|n=>n⟩
theorem Tryz.lays219 :Go.Proofs.Lays.n219 Tryz.prog Tryz.lays219_ren:={
 mixed:=by kernel_rfl
 f217:=Tryz.func203.trans (congrArg some (by kernel_rfl))
 f219:=Tryz.func169.trans (congrArg some (by kernel_rfl))
 f224:=Tryz.func205.trans (congrArg some (by kernel_rfl))
 f225:=Tryz.func204.trans (congrArg some (by kernel_rfl))
 f266:=Tryz.func228.trans (congrArg some (by kernel_rfl))
 f267:=Tryz.func206.trans (congrArg some (by kernel_rfl))
 f314:=Tryz.func229.trans (congrArg some (by kernel_rfl))
 t3:=Tryz.underlying3
 a3:=Tryz.isAgg3
 z3:=Tryz.sizeOf3
 v3:=Tryz.zeroValue3
 t4:=Tryz.underlying4
 a4:=Tryz.isAgg4
 z4:=Tryz.sizeOf4
 v4:=Tryz.zeroValue4
 t5:=Tryz.underlying5
 a5:=Tryz.isAgg5
 z5:=Tryz.sizeOf5
 v5:=Tryz.zeroValue5
 t9:=Tryz.underlying9
 a9:=Tryz.isAgg9
 z9:=Tryz.sizeOf9
 v9:=Tryz.zeroValue9
 t46:=Tryz.underlying118
 a46:=Tryz.isAgg118
 z46:=Tryz.sizeOf118
 v46:=Tryz.zeroValue118
 t51:=Tryz.underlying342
 a51:=Tryz.isAgg342
 z51:=Tryz.sizeOf342
 v51:=Tryz.zeroValue342
 t146:=Tryz.underlying389
 a146:=Tryz.isAgg389
 z146:=Tryz.sizeOf389
 v146:=Tryz.zeroValue389
 g1:=by kernel_rfl}
open Go.RowKit Go.Lib in
theorem Tryz.stringslite_Index_one (s:ByteArray)(c:UInt8)(w:World):
  Calls Tryz.prog 169 #[.string s,.string ⟨#[c]⟩] w λe w'=>e=.returned (.int .i64 (Lib.indexByte s.data.toList c))/\w'=w:=Any.stringslite_Index_one Tryz.lays219 s c w
def Tryz.lays143_ren :Go.Shelf.Ren:=⟨fun|143=>168|219=>169|217=>203|225=>204|224=>205|267=>206|266=>228|314=>229|n=>n,fun|9=>9|3=>3|4=>4|5=>5|46=>118|146=>389|51=>342|n=>n,fun|1=>0|n=>n⟩
theorem Tryz.lays143 :Go.Proofs.Lays.n143 Tryz.prog Tryz.lays143_ren:={
 mixed:=by kernel_rfl
 f143:=Tryz.func168.trans (congrArg some (by kernel_rfl))
 f217:=Tryz.func203.trans (congrArg some (by kernel_rfl))
 f219:=Tryz.func169.trans (congrArg some (by kernel_rfl))
 f224:=Tryz.func205.trans (congrArg some (by kernel_rfl))
 f225:=Tryz.func204.trans (congrArg some (by kernel_rfl))
 f266:=Tryz.func228.trans (congrArg some (by kernel_rfl))
 f267:=Tryz.func206.trans (congrArg some (by kernel_rfl))
 f314:=Tryz.func229.trans (congrArg some (by kernel_rfl))
 t3:=Tryz.underlying3
 a3:=Tryz.isAgg3
 z3:=Tryz.sizeOf3
 v3:=Tryz.zeroValue3
 t4:=Tryz.underlying4
 a4:=Tryz.isAgg4
 z4:=Tryz.sizeOf4
 v4:=Tryz.zeroValue4
 t5:=Tryz.underlying5
 a5:=Tryz.isAgg5
 z5:=Tryz.sizeOf5
 v5:=Tryz.zeroValue5
 t9:=Tryz.underlying9
 a9:=Tryz.isAgg9
 z9:=Tryz.sizeOf9
 v9:=Tryz.zeroValue9
 t46:=Tryz.underlying118
 a46:=Tryz.isAgg118
 z46:=Tryz.sizeOf118
 v46:=Tryz.zeroValue118
 t51:=Tryz.underlying342
 a51:=Tryz.isAgg342
 z51:=Tryz.sizeOf342
 v51:=Tryz.zeroValue342
 t146:=Tryz.underlying389
 a146:=Tryz.isAgg389
 z146:=Tryz.sizeOf389
 v146:=Tryz.zeroValue389
 g1:=by kernel_rfl}
end Go.Proofs
