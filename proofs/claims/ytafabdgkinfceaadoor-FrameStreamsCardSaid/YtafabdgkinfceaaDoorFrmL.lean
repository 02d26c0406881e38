/- Plain: frames made and read again, of fewer bytes, with another byte; their sizes. -/
import Derived.Test.YtafabdgkinfceaaDoorFrmE
import Derived.Test.YtafabdgkinfceaaDoorBts
namespace Go.Proofs.YtafabdgkinfceaaDoor
open Go.RowKit

theorem ne_nil {s : ByteArray} (h : ¬ (s.size = 0 ∨ 2000 < s.size)) : s.data.toList ≠ [] ∧ s.data.toList.length ≤ 2000 := by
  have hz : s.data.toList.length = s.size := by simp
  constructor
  · intro e
    rw [e] at hz
    simp at hz
    omega
  · omega
theorem readV_form (s : ByteArray) (g : RGot) : ∃ (a b : ByteArray) (no : Int), readV s g = .tuple #[.string a, .string b, .int .i64 no] := by
  cases g with
  | bad no => exact ⟨_, _, _, rfl⟩
  | ok b r => exact ⟨_, _, _, rfl⟩
theorem makeV_form (s : ByteArray) : ∃ (a : ByteArray) (no : Int), makeV s = .tuple #[.string a, .int .i64 no] := by
  unfold makeV
  split <;> exact ⟨_, _, rfl⟩
theorem frm_back (c m : ByteArray) (h : ¬ (c.size = 0 ∨ 2000 < c.size)) : readV (frmB c ++ m) (readL (frmB c ++ m).data.toList) = .tuple #[.string c, .string m, .int .i64 0] := by
  obtain ⟨h1, h2⟩ := ne_nil h
  rw [ByteArray.data_append, Array.toList_append, frmB_list, readL_frm _ _ h1 h2]
  rfl
theorem frm_more (c : ByteArray) (h : ¬ (c.size = 0 ∨ 2000 < c.size)) (j : Nat) (hj : j < (frmB c).size) : readV ((frmB c).extract 0 j) (readL ((frmB c).extract 0 j).data.toList) = .tuple #[.string ⟨#[]⟩, .string ((frmB c).extract 0 j), .int .i64 20] := by
  obtain ⟨h1, h2⟩ := ne_nil h
  have hl : ((frmB c).extract 0 j).data.toList = (frmL c.data.toList).take j := by
    rw [ByteArray.data_extract, Array.toList_extract, frmB_list, List.extract_eq_take_drop, List.drop_zero, Nat.sub_zero]
  have hz : (frmL c.data.toList).length = (frmB c).size := by
    rw [← frmB_list]; simp
  rw [hl, readL_take _ h1 h2 j (by omega)]
  rfl
theorem put1 {n : Nat} (h : n ≤ 240) : (putB n).size = 1 := by
  show (put n).toArray.size = 1
  unfold put
  rw [if_pos h]
  rfl
theorem put2 {n : Nat} (h : 240 < n) (h2 : n ≤ 2000) : (putB n).size = 2 := by
  show (put n).toArray.size = 2
  unfold put
  rw [if_neg (by omega), if_pos (by omega)]
  rfl
theorem and_low (N : Nat) (hN : N < 4294967296) : bits .and .u32 (N : Int) 65535 = ((N % 65536 : Nat) : Int) := by
  show IntKind.u32.wrap ((BitVec.ofInt 32 (N : Int) &&& BitVec.ofInt 32 65535).toNat : Int) = _
  have h1 : (BitVec.ofInt 32 (N : Int)).toNat = N := by
    rw [BitVec.ofInt_natCast, BitVec.toNat_ofNat]; exact Nat.mod_eq_of_lt (by omega)
  have h2 : (BitVec.ofInt 32 65535).toNat = 2 ^ 16 - 1 := by decide
  rw [BitVec.toNat_and, h1, h2, Nat.and_two_pow_sub_one_eq_mod]
  have h3 : N % 2 ^ 16 < 65536 := Nat.mod_lt _ (by decide)
  generalize hm : N % 2 ^ 16 = m at *
  simp [IntKind.wrap, IntKind.bits, IntKind.signed]
  omega
def SmallN (N : Nat) : Prop := N < 4294967296 ∧ (N : Int) / 65536 < 65521 ∧ (N : Int) % 65536 < 65521
@[go_sem high] theorem and_low_op (N : Nat) (hN : N < 4294967296) : Op.intBits .and .u32 (N : Int) 65535 = pure (.int .u32 ((N : Int) % 65536)) := by
  rw [intBits_and, and_low N hN]
  simp
theorem chk_halves (l : List UInt8) : chkN l / 65536 < 65521 ∧ chkN l % 65536 < 65521 := by
  have := chkP_lt l
  unfold chkN
  omega

theorem bytes_made (w : World) (s : ByteArray) : ∃ W cap, (convert 9 32 (.string s)).run Tryd.prog w = .ok (.slice (some ⟨w.heap.size, 0, none⟩) s.size cap) W ∧ Bts w.heap.size s.data.toList W ∧ Below w.heap.size w W :=
  ⟨_, _, bytes_of w s, Bts.made w s _, ((Below.refl _ _).alloc (Nat.le_refl _) _).drew⟩

/-- the frame, with one byte changed -/
def turnB (F : ByteArray) (k : Nat) (x : UInt8) : ByteArray := ⟨(F.data.toList.set k x).toArray⟩
theorem xor_ne (a b : UInt8) (h : b ≠ 0) : a ^^^ b ≠ a := by
  intro e
  apply h
  have : a ^^^ (a ^^^ b) = a ^^^ a := by rw [e]
  rwa [← UInt8.xor_assoc, UInt8.xor_self, UInt8.zero_xor] at this
theorem frm_turn (c : ByteArray) (h : ¬ (c.size = 0 ∨ 2000 < c.size)) (k : Nat) (hk : (frmB c).size ≤ k + c.size + 4) (hk2 : k < (frmB c).size) (x : UInt8) (hx : x ≠ (frmB c).data.toList.getD k 0) :
    readV (turnB (frmB c) k x) (readL (turnB (frmB c) k x).data.toList) = .tuple #[.string ⟨#[]⟩, .string (turnB (frmB c) k x), .int .i64 31] := by
  obtain ⟨h1, h2⟩ := ne_nil h
  have hz : c.data.toList.length = c.size := by simp
  have hF := frmB_size c
  have hp : (putB c.size).size = (put c.data.toList.length).length := by
    rw [hz]
    show (put c.size).toArray.size = _
    simp
  have hl : (turnB (frmB c) k x).data.toList = 167 :: (put c.data.toList.length ++ (c.data.toList ++ be (chkN c.data.toList) 4).set (k - 1 - (put c.data.toList.length).length) x) := by
    show ((frmB c).data.toList.set k x).toArray.toList = _
    rw [frmB_list]
    show (frmL c.data.toList).set k x = _
    unfold frmL
    obtain ⟨k, rfl⟩ : ∃ k', k = k' + 1 := ⟨k - 1, by omega⟩
    rw [List.set_cons_succ, List.set_append_right _ _ (by omega)]
    rfl
  rw [hl, readL_set _ h1 h2 _ (by omega) x]
  · rfl
  · intro e
    apply hx
    rw [e, frmB_list]
    obtain ⟨k, rfl⟩ : ∃ k', k = k' + 1 := ⟨k - 1, by omega⟩
    unfold frmL
    simp only [List.getD, List.getElem?_cons_succ]
    rw [List.getElem?_append_right (l₁ := put _) (by omega)]
    rfl
end Go.Proofs.YtafabdgkinfceaaDoor
