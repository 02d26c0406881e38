/- Part of TopAudits. -/
import Derived.Shelf.Strings.Builder1
import Derived.Test.YtmgdbfmlnmahpaaGreatDoorG29
namespace Go.Proofs
open Go.Shelf
open Go.RowKit in
theorem Tryz.Builder_String (B b:Nat)(l:List UInt8)(w:World)(h:Lib.IsBuilder 286 5 B b (Lib.byteCells l) w)(h0:l≠[]):
  Calls Tryz.prog 147 #[.pointer (some ⟨b,0,none⟩)] w λe w'=>e=.returned (.string ⟨l.toArray⟩)/\Below B w w':=Any.Builder_String Tryz.lays169 Tryz.Builder_Extra_169 B b l w h h0
end Go.Proofs
