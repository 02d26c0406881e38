/- string([]byte{..}) of one, two, three bytes that were just laid. -/
import Derived.Test.YtafabdgkinfceaaDoorProg
import Derived.Laws.IdiomStrings
import Derived.WalkKit
namespace Go.Proofs.YtafabdgkinfceaaDoor
open Go.RowKit

theorem conv_list {P : Program} (W : World) (src dst e : TypeId) (hs : P.underlying src = some (.slice e)) (he : P.underlying e = some (.int .u8)) (hd : P.underlying dst = some .string) (ns : List Int) (g cap : Nat) (hg : g = W.heap.size) :
    (convert src dst (.slice (some ⟨g, 0, none⟩) ns.length cap)).run P (W.alloc (.cells (ns.map (Value.int .u8)).toArray e)) = .ok (.string (ns.foldl (fun r n => r.push (UInt8.ofNat n.toNat)) ByteArray.empty)) (W.alloc (.cells (ns.map (Value.int .u8)).toArray e)) := by
  subst hg
  rw [run_convert_bytes_string _ src dst e (some ⟨W.heap.size, 0, none⟩) ns.length cap hs he hd]
  have hl := run_loadCells_list (P := P) (W.alloc (.cells (ns.map (Value.int .u8)).toArray e)) ⟨W.heap.size, 0, none⟩ (ns.map (Value.int .u8)) (fun j v hj => by
    have e : (⟨W.heap.size, 0, none⟩ : Addr).add j = ⟨W.heap.size, j, none⟩ := by rw [Addr.add_lit, Nat.zero_add]
    rw [e, World.cell?_alloc_new, List.getElem?_toArray, hj])
  rw [List.length_map] at hl
  rw [run_bytesToString _ _ _ cap _ hl]

@[go_sem] theorem conv1 (W : World) (g : Nat) (x : Int) (hg : g = W.heap.size) :
    (convert 32 9 (.slice (some ⟨g, 0, none⟩) 1 1)).run Tryd.prog (W.alloc (.cells #[.int .u8 x] 5)) = .ok (.string ⟨#[UInt8.ofNat x.toNat]⟩) (W.alloc (.cells #[.int .u8 x] 5)) :=
  conv_list (P := Tryd.prog) W 32 9 5 Tryd.underlying32 Tryd.underlying5 Tryd.underlying9 [x] g 1 hg
@[go_sem] theorem conv2 (W : World) (g : Nat) (x y : Int) (hg : g = W.heap.size) :
    (convert 32 9 (.slice (some ⟨g, 0, none⟩) 2 2)).run Tryd.prog (W.alloc (.cells #[.int .u8 x, .int .u8 y] 5)) = .ok (.string ⟨#[UInt8.ofNat x.toNat, UInt8.ofNat y.toNat]⟩) (W.alloc (.cells #[.int .u8 x, .int .u8 y] 5)) :=
  conv_list (P := Tryd.prog) W 32 9 5 Tryd.underlying32 Tryd.underlying5 Tryd.underlying9 [x, y] g 2 hg
@[go_sem] theorem conv3 (W : World) (g : Nat) (x y z : Int) (hg : g = W.heap.size) :
    (convert 32 9 (.slice (some ⟨g, 0, none⟩) 3 3)).run Tryd.prog (W.alloc (.cells #[.int .u8 x, .int .u8 y, .int .u8 z] 5)) = .ok (.string ⟨#[UInt8.ofNat x.toNat, UInt8.ofNat y.toNat, UInt8.ofNat z.toNat]⟩) (W.alloc (.cells #[.int .u8 x, .int .u8 y, .int .u8 z] 5)) :=
  conv_list (P := Tryd.prog) W 32 9 5 Tryd.underlying32 Tryd.underlying5 Tryd.underlying9 [x, y, z] g 3 hg
end Go.Proofs.YtafabdgkinfceaaDoor
