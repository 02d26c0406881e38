/- aviarylaw02.shown and cut, walked. -/
import Derived.Test.YtadfecglbeimbaaDoorGet
import Derived.Test.YtadfecglbeimbaaDoorPutText
namespace Go.Proofs.YtadfecglbeimbaaDoor
open Go.RowKit Go.Shelf

theorem k1 : putTextV ⟨#[97, 98]⟩ = .tuple #[.string ⟨#[2, 97, 98]⟩, .int .i64 0] := by kernel_rfl
theorem k2 : getV ⟨#[249, 0]⟩ (getL (ByteArray.mk #[249, 0]).data.toList) = .tuple #[.int .u64 0, .string ⟨#[249, 0]⟩, .int .i64 20] := by kernel_rfl
theorem k3 : getV ⟨#[250, 0, 0, 1]⟩ (getL (ByteArray.mk #[250, 0, 0, 1]).data.toList) = .tuple #[.int .u64 0, .string ⟨#[250, 0, 0, 1]⟩, .int .i64 21] := by kernel_rfl
theorem k4 : putB (2287 : Int).toNat = ⟨#[248, 255]⟩ := by kernel_rfl
theorem k5 : putB (67824 : Int).toNat = ⟨#[250, 1, 8, 240]⟩ := by kernel_rfl

set_option maxRecDepth 100000 in
set_option maxHeartbeats 1000000 in
theorem shown_any {p q : Addr} {w : World} (h : Sents p q w) :
    Calls Tryd.prog 10 #[] w fun e w' => e = .returned (.bool true) ∧ Below w.heap.size w w' := by
  go_enter Tryd.func10, Tryd.ntmps10
  go_wp2_with fail
  refine (putText_any _ (by decide) _).mono ?_
  rw [k1]
  rintro e w1 ⟨rfl, hb1⟩
  go_wp2_with fail
  refine (get_any (h.below (Nat.le_refl _) hb1) _ (by decide)).mono ?_
  rw [k2]
  rintro e w2 ⟨rfl, hb2⟩
  have hb2 := hb1.trans (hb2.mono hb1.size)
  clear hb1
  go_wp2_with fail
  refine (get_any (h.below (Nat.le_refl _) hb2) _ (by decide)).mono ?_
  rw [k3]
  rintro e w3 ⟨rfl, hb3⟩
  have hb3 := hb2.trans (hb3.mono hb2.size)
  clear hb2
  go_wp2_with fail
  refine (put_any 2287 (by decide) (by decide) _).mono ?_
  rw [k4]
  rintro e w4 ⟨rfl, hb4⟩
  have hb4 := hb3.trans (hb4.mono hb3.size)
  clear hb3
  go_wp2_with fail
  refine (put_any 67824 (by decide) (by decide) _).mono ?_
  rw [k5]
  rintro e w5 ⟨rfl, hb5⟩
  have hb5 := hb4.trans (hb5.mono hb4.size)
  clear hb4
  go_wp2_with fail
  go_ret
  exact ⟨rfl, hb5⟩

/-- the first three thousand bytes -/
def cutB (s : ByteArray) : ByteArray := if 3000 < s.size then s.extract 0 3000 else s
theorem cutB_list (s : ByteArray) : (cutB s).data.toList = s.data.toList.take 3000 := by
  unfold cutB
  split
  · rw [ByteArray.data_extract, Array.toList_extract, List.extract_eq_take_drop, List.drop_zero]
  · rw [List.take_of_length_le]
    simp
    omega
theorem cutB_size (s : ByteArray) : (cutB s).size ≤ 3000 := by
  unfold cutB
  split
  · simp; omega
  · omega

theorem cut_any (s : ByteArray) (hs : s.size ≤ 9223372036854775807) (w : World) :
    Calls Tryd.prog 12 #[.string s] w fun e w' => e = .returned (.string (cutB s)) ∧ w' = w := by
  unfold cutB
  by_cases h : 3000 < s.size
  · rw [if_pos h]
    have hm : min (s.size : Int) 3000 = 3000 := by omega
    go_enter Tryd.func12, Tryd.ntmps12
    go_wp2_with fail
    go_ret
    exact ⟨rfl, rfl⟩
  · rw [if_neg h]
    have hm : min (s.size : Int) 3000 = (s.size : Int) := by omega
    go_enter Tryd.func12, Tryd.ntmps12
    go_wp2_with fail
    go_ret
    exact ⟨ret_str (by simp), rfl⟩

end Go.Proofs.YtadfecglbeimbaaDoor
