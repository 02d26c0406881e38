/- aviaryref02's size, number, Get and Least, walked. -/
import Derived.Test.YtafabdgkinfceaaDoorRefPut
import Derived.Test.YtafabdgkinfceaaDoorGet
import Derived.Test.YtafabdgkinfceaaDoorGetLaws
namespace Go.Proofs.YtafabdgkinfceaaDoor
open Go.RowKit Go.Shelf

theorem refSize_any (b : Nat) (hb : b < 256) (w : World) :
    Calls Tryd.prog 35 #[.int .i64 (b : Int)] w fun e w' => e = .returned (.int .i64 ((1 + behind b : Nat) : Int)) ∧ w' = w := by
  by_cases h1 : b ≤ 240
  · have HP : Hid (behind b = 0) := by show _ = _; unfold behind; rw [if_pos h1]
    go_enter Tryd.func35, Tryd.ntmps35
    go_wp2
    go_ret
    exact ⟨by rw [HP.out]; rfl, rfl⟩
  · by_cases h2 : b ≤ 248
    · have HP : Hid (behind b = 1) := by show _ = _; unfold behind; rw [if_neg h1, if_pos h2]
      go_enter Tryd.func35, Tryd.ntmps35
      go_wp2
      go_ret
      exact ⟨by rw [HP.out]; rfl, rfl⟩
    · have HP : Hid (1 + behind b = b - 246) := by
        show _ = _
        unfold behind
        rw [if_neg h1, if_neg h2]
        split <;> omega
      go_enter Tryd.func35, Tryd.ntmps35
      go_wp2
      go_ret
      exact ⟨congrArg (fun i => Ending.returned (.int .i64 i)) (by rw [HP.out]; omega), rfl⟩

theorem take_snocB (s : ByteArray) (k : Nat) (h : k < s.size) : s.data.toList.take (k + 1) = s.data.toList.take k ++ [s[k]] := by
  rw [List.take_succ_eq_append_getElem (by simpa using h)]; rfl

set_option maxHeartbeats 1000000 in
theorem refNumber_any (s : ByteArray) (hs : s.size ≤ 8) (w : World) :
    Calls Tryd.prog 36 #[.string s] w fun e w' => e = .returned (.int .u64 (val s.data.toList : Int)) ∧ w' = w := by
  go_enter Tryd.func36, Tryd.ntmps36
  go_wp2
  go_loop [3, 4] (fun n i => ∃ k : Nat, k ≤ s.size ∧ i = .int .i64 k ∧ n = .int .u64 (val (s.data.toList.take k) : Int)) (fun _ i => s.size - (intOf i).toNat)
  case atStart => exact ⟨0, Nat.zero_le _, rfl, rfl⟩
  case round =>
    obtain ⟨k, hk, rfl, rfl⟩ := hrel
    by_cases hlt : k < s.size
    · have HS : Hid (val (s.data.toList.take (k + 1)) = 256 * val (s.data.toList.take k) + s[k].toNat) := by
        show _ = _
        rw [take_snocB s k hlt, val_snoc]
      have hv := val_lt (s.data.toList.take k)
      have hl : (s.data.toList.take k).length = k := by rw [List.length_take]; simp; omega
      rw [hl] at hv
      have hp : 256 ^ k ≤ 256 ^ 7 := Nat.pow_le_pow_right (by decide) (by omega)
      have e7 : (256 : Nat) ^ 7 = 72057594037927936 := by decide
      have hv7 : val (s.data.toList.take k) < 72057594037927936 := by omega
      have hb := s[k].toNat_lt
      clear hv hl hp e7
      generalize val (s.data.toList.take k) = m at *
      go_wp2
      go_round
      case rel => exact ⟨k + 1, by omega, by go_num, by rw [HS.out]; go_num⟩
      case measure => simp [intOf]; omega
    · go_wp2
      go_ret
      obtain rfl : k = s.size := by omega
      have e : s.data.toList.take s.size = s.data.toList := List.take_of_length_le (by simp)
      exact ⟨ret_int (by rw [e]), rfl⟩

theorem first_of {s : ByteArray} {b : UInt8} {t : List UInt8} (hl : s.data.toList = b :: t) : s.size = t.length + 1 ∧ s.toList.isEmpty = false ∧ ∀ h : 0 < s.size, s[0] = b := by
  have hs1 : s.size = t.length + 1 := by
    have : s.data.toList.length = s.size := by simp
    rw [hl] at this
    simpa using this.symm
  refine ⟨hs1, by rw [Lib.toList_data, hl]; rfl, fun h => ?_⟩
  have := congrArg (fun l => l[0]?) hl
  simpa [ByteArray.getElem_eq_getElem_data, Array.getElem?_eq_getElem (show 0 < s.data.size by rw [ByteArray.size_data]; omega)] using this

set_option maxRecDepth 100000 in
set_option maxHeartbeats 1000000 in
theorem refGet_empty (w : World) :
    Calls Tryd.prog 27 #[.string ⟨#[]⟩] w fun e w' => e = .returned (getV ⟨#[]⟩ .more) ∧ Below w.heap.size w w' := by
  go_enter Tryd.func27, Tryd.ntmps27
  go_wp2_with fail
  go_ret3
  exact ⟨rfl, Below.refl _ _⟩

set_option maxRecDepth 100000 in
set_option maxHeartbeats 1000000 in
theorem refGet_short (s : ByteArray) (b : UInt8) (t : List UInt8) (hl : s.data.toList = b :: t) (hs : s.size ≤ 9223372036854775807) (hlt : t.length < behind b.toNat) (w : World) :
    Calls Tryd.prog 27 #[.string s] w fun e w' => e = .returned (getV s .more) ∧ Below w.heap.size w w' := by
  obtain ⟨hs1, hne, hb0⟩ := first_of hl
  have hb0 : s[0] = b := hb0 (by omega)
  have hbt := b.toNat_lt
  go_enter Tryd.func27, Tryd.ntmps27
  go_wp2_with fail
  refine (refSize_any _ hbt _).mono ?_
  rintro e w1 ⟨rfl, hw1⟩
  obtain rfl : w = w1 := hw1.symm
  go_wp2_with fail
  go_ret3
  exact ⟨rfl, Below.refl _ _⟩

end Go.Proofs.YtafabdgkinfceaaDoor
