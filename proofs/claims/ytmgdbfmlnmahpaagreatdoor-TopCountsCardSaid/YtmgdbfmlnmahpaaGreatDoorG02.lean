/- A part of the proof of TopCounts. -/
import Derived.Laws.Bits64
import Derived.Laws.BitsAllLaws
import Derived.Laws.Shifts
import Derived.Attr
import Derived.Test.YtmgdbfmlnmahpaaGreatDoorProg
import Derived.ProofKit
import Derived.OpenShut
import Derived.Lib.SmallJoins
namespace Go.Proofs.YtmgdbfmlnmahpaaGreatDoor
def un (x : BitVec 64) : Int := (x.toNat : Int)
theorem un_nonneg (x : BitVec 64) : 0 ≤ un x := Int.natCast_nonneg _
theorem un_lt (x : BitVec 64) : un x < 18446744073709551616 := by unfold un; have := x.isLt; omega
theorem un_inj {x y : BitVec 64} (h : un x = un y) : x = y := by
  unfold un at h; exact BitVec.eq_of_toNat_eq (by omega)
theorem un_ofInt (n : Int) (h0 : 0 ≤ n) (h1 : n < 18446744073709551616) : un (BitVec.ofInt 64 n) = n := by
  unfold un; rw [BitVec.toNat_ofInt]; omega
theorem ofInt_un (x : BitVec 64) : BitVec.ofInt 64 (un x) = x := by
  apply un_inj; exact un_ofInt _ (un_nonneg x) (un_lt x)
theorem un_of (n : Int) (h0 : 0 ≤ n) (h1 : n < 18446744073709551616) : ∃ x : BitVec 64, n = un x := ⟨_, (un_ofInt n h0 h1).symm⟩
theorem wrap_un (n : Int) : IntKind.u64.wrap n = un (BitVec.ofInt 64 n) := by
  rw [IntKind.wrap_u64]; unfold un; rw [BitVec.toNat_ofInt]; omega
theorem wrap_un_id (x : BitVec 64) : IntKind.u64.wrap (un x) = un x := by rw [wrap_un, ofInt_un]
theorem wrap_add (x y : BitVec 64) : IntKind.u64.wrap (un x + un y) = un (x + y) := by
  rw [wrap_un, BitVec.ofInt_add, ofInt_un, ofInt_un]
theorem wrap_sub (x y : BitVec 64) : IntKind.u64.wrap (un x - un y) = un (x - y) := by
  have hx := x.isLt
  have hy := y.isLt
  rw [IntKind.wrap_u64]; unfold un; rw [BitVec.toNat_sub]; omega
theorem bits_xor (x y : BitVec 64) : bits .xor .u64 (un x) (un y) = un (x ^^^ y) := by
  show IntKind.u64.wrap ((BitVec.ofInt 64 (un x) ^^^ BitVec.ofInt 64 (un y)).toNat : Int) = _
  rw [wrap_un, ofInt_un, ofInt_un]; exact congrArg un (ofInt_un _)
theorem bits_or (x y : BitVec 64) : bits .or .u64 (un x) (un y) = un (x ||| y) := by
  show IntKind.u64.wrap ((BitVec.ofInt 64 (un x) ||| BitVec.ofInt 64 (un y)).toNat : Int) = _
  rw [wrap_un, ofInt_un, ofInt_un]; exact congrArg un (ofInt_un _)
theorem bits_and (x y : BitVec 64) : bits .and .u64 (un x) (un y) = un (x &&& y) := by
  show IntKind.u64.wrap ((BitVec.ofInt 64 (un x) &&& BitVec.ofInt 64 (un y)).toNat : Int) = _
  rw [wrap_un, ofInt_un, ofInt_un]; exact congrArg un (ofInt_un _)
theorem un_lit (n : Nat) (h : n < 18446744073709551616) : ((n : Nat) : Int) = un (BitVec.ofNat 64 n) := by
  unfold un; rw [BitVec.toNat_ofNat]; omega
theorem shl_un (yk : IntKind) (x : BitVec 64) (y : Int) (h₀ : 0 ≤ y) : Op.shift .shl .u64 (un x) yk y = pure (.int .u64 (un (x <<< y.toNat))) := by
  rw [shift_shl_any _ _ _ _ h₀]
  congr 2
  rw [wrap_un]
  refine congrArg un ?_
  apply BitVec.eq_of_toNat_eq
  obtain ⟨k, rfl⟩ := Int.eq_ofNat_of_zero_le h₀
  have e : (un x * 2 ^ min (k : Int).toNat IntKind.u64.bits : Int) = ((x.toNat * 2 ^ min k 64 : Nat) : Int) := by
    unfold un; simp [IntKind.bits]
  rw [e, BitVec.ofInt_natCast, BitVec.toNat_ofNat]
  simp only [Int.toNat_natCast, BitVec.toNat_shiftLeft, Nat.shiftLeft_eq]
  by_cases h : k ≤ 64
  · rw [Nat.min_eq_left h]
  · rw [Nat.min_eq_right (by omega)]
    rw [Nat.mul_mod_left]
    obtain ⟨d, rfl⟩ : ∃ d, k = 64 + d := ⟨k - 64, by omega⟩
    rw [Nat.pow_add, ← Nat.mul_assoc, Nat.mul_right_comm, Nat.mul_mod_left]
theorem shr_un (yk : IntKind) (x : BitVec 64) (y : Int) (h₀ : 0 ≤ y) : Op.shift .shr .u64 (un x) yk y = pure (.int .u64 (un (x >>> y.toNat))) := by
  rw [shift_shr_any _ _ _ _ h₀]
  congr 2
  obtain ⟨k, rfl⟩ := Int.eq_ofNat_of_zero_le h₀
  unfold un
  simp only [Int.toNat_natCast, BitVec.toNat_ushiftRight, Nat.shiftRight_eq_div_pow]
  have e : ((x.toNat : Int) / 2 ^ min k IntKind.u64.bits : Int) = ((x.toNat / 2 ^ min k 64 : Nat) : Int) := by
    simp [IntKind.bits]
  rw [e]
  congr 1
  by_cases h : k ≤ 64
  · rw [Nat.min_eq_left h]
  · rw [Nat.min_eq_right (by omega)]
    have hx := x.isLt
    rw [Nat.div_eq_of_lt hx, Nat.div_eq_of_lt (Nat.lt_of_lt_of_le hx (Nat.pow_le_pow_right (by omega) (by omega)))]
theorem wrap_shl (x : BitVec 64) (k : Nat) : IntKind.u64.wrap (un x * 2 ^ k) = un (x <<< k) := by
  rw [wrap_un]
  refine congrArg un ?_
  apply BitVec.eq_of_toNat_eq
  have e : (un x * 2 ^ k : Int) = ((x.toNat * 2 ^ k : Nat) : Int) := by unfold un; simp
  rw [e, BitVec.ofInt_natCast, BitVec.toNat_ofNat]
  simp only [BitVec.toNat_shiftLeft, Nat.shiftLeft_eq]
theorem div_shr (x : BitVec 64) (k : Nat) : un x / 2 ^ k = un (x >>> k) := by
  unfold un
  simp only [BitVec.toNat_ushiftRight, Nat.shiftRight_eq_div_pow]
  simp
def rotl (x : BitVec 64) (k : Nat) : BitVec 64 := x <<< k ||| x >>> (64 - k)
structure V4 where
  a : BitVec 64
  b : BitVec 64
  c : BitVec 64
  d : BitVec 64
def rnd (v : V4) : V4 :=
  let a := v.a + v.b
  let b := rotl v.b 13 ^^^ a
  let a := rotl a 32
  let c := v.c + v.d
  let d := rotl v.d 16 ^^^ c
  let a := a + d
  let d := rotl d 21 ^^^ a
  let c := c + b
  let b := rotl b 17 ^^^ c
  let c := rotl c 32
  ⟨a, b, c, d⟩
def bck (v : V4) : V4 :=
  let c := rotl v.c 32
  let b := rotl (v.b ^^^ c) 47
  let c := c - b
  let d := rotl (v.d ^^^ v.a) 43
  let a := v.a - d
  let d := rotl (d ^^^ c) 48
  let c := c - d
  let a := rotl a 32
  let b := rotl (b ^^^ a) 51
  let a := a - b
  ⟨a, b, c, d⟩
theorem xor_zero_un (x : BitVec 64) : bits .xor .u64 0 (un x) = un x := by
  have h := bits_xor 0#64 x
  rw [BitVec.zero_xor] at h
  exact h
theorem xor_c0 (x : BitVec 64) : bits .xor .u64 (un x) 8317987319222330741 = un (x ^^^ 0x736f6d6570736575#64) := bits_xor x 0x736f6d6570736575#64
theorem xor_c1 (x : BitVec 64) : bits .xor .u64 (un x) 7237128888997146477 = un (x ^^^ 0x646f72616e646f6d#64) := bits_xor x 0x646f72616e646f6d#64
theorem xor_c2 (x : BitVec 64) : bits .xor .u64 (un x) 7816392313619706465 = un (x ^^^ 0x6c7967656e657261#64) := bits_xor x 0x6c7967656e657261#64
theorem xor_c3 (x : BitVec 64) : bits .xor .u64 (un x) 8387220255154660723 = un (x ^^^ 0x7465646279746573#64) := bits_xor x 0x7465646279746573#64
theorem xor_ff (x : BitVec 64) : bits .xor .u64 (un x) 255 = un (x ^^^ 255#64) := bits_xor x 255#64
theorem len_shl56 (k : Nat) : IntKind.u64.wrap ((k : Int) * 72057594037927936) = un ((BitVec.ofNat 64 k) <<< 56) := by
  rw [← wrap_shl, IntKind.wrap_u64, IntKind.wrap_u64]
  unfold un
  rw [BitVec.toNat_ofNat]
  omega
theorem eq_un (x y : BitVec 64) : (un x == un y) = (x == y) := by
  rw [Bool.eq_iff_iff]; simp only [beq_iff_eq]; exact ⟨un_inj, fun h => by rw [h]⟩
end Go.Proofs.YtmgdbfmlnmahpaaGreatDoor
namespace Go.Proofs.YtmgdbfmlnmahpaaGreatDoor
open Go.ChangeShapes Go.WideShapes Go.ChangeAt Go.RowKit Go.Joins
open Go.ChangeMaps (open_string shut_string)
set_option maxRecDepth 100000
section
variable {H : Type} {enc : TypeId × Value → H} {w : World} {base : Nat} {spare : Nat → Bool} {held : Bool} {r : Reach} {b0 : Nat} {v : Value} {d : DataW H} {p : List MemPlace}
theorem wf_un {n : Int} (h : (Lit.int .u64 n).wf = true) : ∃ x : BitVec 64, n = un x := by
  have := bounds_u64 h
  exact un_of n this.1 (by omega)
theorem openU64 (hv : Value.okWide Tryz.prog w r b0 22 v) (h : DataW.Trod enc Tryz.prog w base spare held 22 v d p) : ∃ x : BitVec 64, v = .int .u64 (un x) := by
  obtain ⟨n, rfl, _, _, hw⟩ := open_int Tryz.underlying22 hv h
  obtain ⟨x, rfl⟩ := wf_un hw
  exact ⟨x, rfl⟩
theorem openStr (hv : Value.okWide Tryz.prog w r b0 9 v) (h : DataW.Trod enc Tryz.prog w base spare held 9 v d p) : ∃ s : ByteArray, v = .string s ∧ s.size ≤ 9223372036854775807 := by
  obtain ⟨s, rfl, _, _, hs⟩ := open_string Tryz.underlying9 hv h
  exact ⟨s, rfl, hs⟩
theorem cellsKey : Tryz.prog.cellsOf 24 = 2 := by kernel_rfl
theorem openKey (hv : Value.okWide Tryz.prog w r b0 24 v) (h : DataW.Trod enc Tryz.prog w base spare held 24 v d p) : ∃ a b : BitVec 64, v = .agg #[.int .u64 (un a), .int .u64 (un b)] := by
  obtain ⟨c0, c1, y0, y1, m, rfl, _, _, h0, h1⟩ := open_agg2 Tryz.underlying24 (by kernel_rfl) cellsKey hv h
  obtain ⟨n0, e0, _, w0⟩ := DataW.trod_int Tryz.underlying22 h0
  obtain ⟨n1, e1, _, w1⟩ := DataW.trod_int Tryz.underlying22 h1
  simp at e0 e1
  obtain ⟨a, rfl⟩ := wf_un w0
  obtain ⟨b, rfl⟩ := wf_un w1
  exact ⟨a, b, by rw [e0, e1]⟩
end
end Go.Proofs.YtmgdbfmlnmahpaaGreatDoor
