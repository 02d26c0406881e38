/- An entry's sum: the program's and the reference's, walked. -/
import Derived.Test.YtclhbimlpamjiaaBuilder
import Derived.Test.YtclhbimlpamjiaaShelf
import Derived.Test.YtclhbimlpamjiaaPut
import Derived.Test.YtclhbimlpamjiaaRefPut
import Derived.Test.YtclhbimlpamjiaaSum3
import Derived.Test.YtclhbimlpamjiaaRefSum
namespace Go.Proofs.Ytclhbimlpamjiaa
open Go.RowKit

/-- an entry -/
structure Ent where
  seq : Int
  at' : Int
  text : ByteArray
  sum : Int
/-- .. as a value -/
def Ent.v (x : Ent) : Value := .agg #[.int .u64 x.seq, .int .u64 x.at', .string x.text, .int .u64 x.sum]
/-- .. whose numbers are numbers, and whose text is short -/
structure Ent.Ok (x : Ent) : Prop where
  s0 : 0 ≤ x.seq
  s1 : x.seq < 18446744073709551616
  a0 : 0 ≤ x.at'
  a1 : x.at' < 18446744073709551616
  t : x.text.size ≤ 1000
  m0 : 0 ≤ x.sum
  m1 : x.sum < 18446744073709551616

/-- a key as a value -/
abbrev kv (a b : BitVec 64) : Value := .agg #[.int .u64 (un a), .int .u64 (un b)]

/-- the bytes that are summed -/
def entText (bf : Int) (x : Ent) : ByteArray := putB bf.toNat ++ putB x.seq.toNat ++ putB x.at'.toNat ++ putB x.text.size ++ x.text
def entSum (a b : BitVec 64) (bf : Int) (x : Ent) : Int := un (sipSum a b (entText bf x).data.toList)
theorem entText_size (bf : Int) (x : Ent) : (entText bf x).size ≤ x.text.size + 36 := by
  have h1 := putB_size bf.toNat
  have h2 := putB_size x.seq.toNat
  have h3 := putB_size x.at'.toNat
  have h4 := putB_size x.text.size
  unfold entText
  simp only [ByteArray.size_append]
  omega
theorem entSum_bounds (a b : BitVec 64) (bf : Int) (x : Ent) : 0 ≤ entSum a b bf x ∧ entSum a b bf x < 18446744073709551616 := by
  unfold entSum
  exact ⟨un_nonneg _, un_lt _⟩

set_option maxRecDepth 100000 in
set_option maxHeartbeats 4000000 in
theorem refEntSum_any (a b : BitVec 64) (bf : Int) (h0 : 0 ≤ bf) (h1 : bf < 18446744073709551616) (x : Ent) (hx : x.Ok) (w : World) :
    Calls Try.prog 25 #[kv a b, .int .u64 bf, x.v] w fun e w' => e = .returned (.int .u64 (entSum a b bf x)) ∧ Below w.heap.size w w' := by
  obtain ⟨s0, s1, a0, a1, t, m0, m1⟩ := hx
  have z1 := putB_size bf.toNat
  have z2 := putB_size x.seq.toNat
  have z3 := putB_size x.at'.toNat
  have z4 := putB_size x.text.size
  have HZ := Lib.hid (entText_size bf x)
  obtain ⟨sq, at', tx, sm⟩ := x
  simp only at s0 s1 a0 a1 t m0 m1 z1 z2 z3 z4 HZ
  unfold Ent.v
  simp only
  go_enter Try.func25, Try.ntmps25
  go_wp2_with fail
  have hB0 : Below w.heap.size w ((w.alloc (Obj.cells #[Value.int IntKind.u64 (un a), Value.int IntKind.u64 (un b)] 24)).alloc (Obj.cells #[.int .u64 sq, .int .u64 at', .string tx, .int .u64 sm] 38)) := ((Below.refl _ _).alloc (Nat.le_refl _) _).alloc (by simp) _
  have hz0 : ((w.alloc (Obj.cells #[Value.int IntKind.u64 (un a), Value.int IntKind.u64 (un b)] 24)).alloc (Obj.cells #[.int .u64 sq, .int .u64 at', .string tx, .int .u64 sm] 38)).heap.size = w.heap.size + 2 := by simp
  have C0 := Cw.cell (w := ((w.alloc (Obj.cells #[Value.int IntKind.u64 (un a), Value.int IntKind.u64 (un b)] 24)).alloc (Obj.cells #[.int .u64 sq, .int .u64 at', .string tx, .int .u64 sm] 38))) w.heap.size 0 (.int .u64 (un a)) (by rw [hz0]; omega) (by go_simp)
  have C1 := Cw.cell (w := ((w.alloc (Obj.cells #[Value.int IntKind.u64 (un a), Value.int IntKind.u64 (un b)] 24)).alloc (Obj.cells #[.int .u64 sq, .int .u64 at', .string tx, .int .u64 sm] 38))) w.heap.size 1 (.int .u64 (un b)) (by rw [hz0]; omega) (by go_simp)
  have D0 := Cw.cell (w := ((w.alloc (Obj.cells #[Value.int IntKind.u64 (un a), Value.int IntKind.u64 (un b)] 24)).alloc (Obj.cells #[.int .u64 sq, .int .u64 at', .string tx, .int .u64 sm] 38))) (w.heap.size + 1) 0 (.int .u64 sq) (by rw [hz0]; omega) (by go_simp)
  have D1 := Cw.cell (w := ((w.alloc (Obj.cells #[Value.int IntKind.u64 (un a), Value.int IntKind.u64 (un b)] 24)).alloc (Obj.cells #[.int .u64 sq, .int .u64 at', .string tx, .int .u64 sm] 38))) (w.heap.size + 1) 1 (.int .u64 at') (by rw [hz0]; omega) (by go_simp)
  have D2 := Cw.cell (w := ((w.alloc (Obj.cells #[Value.int IntKind.u64 (un a), Value.int IntKind.u64 (un b)] 24)).alloc (Obj.cells #[.int .u64 sq, .int .u64 at', .string tx, .int .u64 sm] 38))) (w.heap.size + 1) 2 (.string tx) (by rw [hz0]; omega) (by go_simp)
  have hz1 : w.heap.size ≤ ((w.alloc (Obj.cells #[Value.int IntKind.u64 (un a), Value.int IntKind.u64 (un b)] 24)).alloc (Obj.cells #[.int .u64 sq, .int .u64 at', .string tx, .int .u64 sm] 38)).heap.size := hB0.size
  clear hz0
  generalize ((w.alloc (Obj.cells #[Value.int IntKind.u64 (un a), Value.int IntKind.u64 (un b)] 24)).alloc (Obj.cells #[.int .u64 sq, .int .u64 at', .string tx, .int .u64 sm] 38)) = w0 at *
  refine region_cw_tail 21 (by kernel_rfl) (by kernel_rfl) ?_
  simp only [List.take_succ_cons, List.take_zero, List.drop_succ_cons, List.drop_zero]
  repeat (first | go_big_quiet_step (first | (go_at_call 37; exact Cw.call (refPut_any _ (by omega) (by omega) _)) | (go_at_call 36; exact Cw.call (refSum_any _ _ _ (by go_simp; omega) _))) | quiet_step (first | (go_at_call 37; exact Cw.call (refPut_any _ (by omega) (by omega) _)) | (go_at_call 36; exact Cw.call (refSum_any _ _ _ (by go_simp; omega) _))))
  refine wpQuiet_nil ?_
  intro x
  have hx : Below w.heap.size w x.W := hB0.trans (x.below.mono hz1)
  clear C0 C1 D0 D1 D2
  generalize x.W = W at *
  go_wp2
  go_ret
  exact ⟨rfl, hx⟩
end Go.Proofs.Ytclhbimlpamjiaa
