/- The reference's greatest and Put, walked. -/
import Derived.Test.YtafabdgkinfceaaDoorPutSpec
import Derived.Test.YtafabdgkinfceaaDoorConv
import Derived.Test.YtafabdgkinfceaaDoorQuiet
import Derived.WalkKit
import Derived.WalkLawsBesides
import Derived.WalkSpells
import Derived.Outline
import Derived.LoopTactic
import Derived.Lib.Hide
namespace Go.Proofs.YtafabdgkinfceaaDoor
open Go.RowKit

theorem ofNat_mod256 (n : Nat) : UInt8.ofNat (n % 256) = UInt8.ofNat n := by
  apply UInt8.toNat_inj.1
  simp
/-- a number's last k bytes as a text -/
def beB (n k : Nat) : ByteArray := ⟨(be n k).toArray⟩
theorem beB_succ (n k : Nat) : (⟨#[UInt8.ofNat (n / 2 ^ (8 * k))]⟩ : ByteArray) ++ beB n k = beB n (k + 1) := by
  unfold beB
  rw [be]
  apply ByteArray.ext
  simp [ByteArray.data_append]
theorem beB_size (n k : Nat) : (beB n k).size = k := by
  have := be_length n k
  show (be n k).toArray.size = k
  simpa using this

set_option maxHeartbeats 1000000 in
theorem greatest_any (n : Int) (h0 : 0 ≤ n) (h1 : n < 18446744073709551616) (k : Int) (hk0 : 0 ≤ k) (hk : k ≤ 8) (w : World) :
    Calls Tryd.prog 31 #[.int .u64 n, .int .i64 k] w fun e w' => e = .returned (.string (beB n.toNat k.toNat)) ∧ Below w.heap.size w w' := by
  obtain ⟨n, rfl⟩ := Int.eq_ofNat_of_zero_le h0
  obtain ⟨k, rfl⟩ := Int.eq_ofNat_of_zero_le hk0
  rw [Int.toNat_natCast, Int.toNat_natCast]
  go_enter Tryd.func31, Tryd.ntmps31
  go_wp2
  go_loopw [5, 6] (fun s i wr => ∃ j : Nat, j ≤ k ∧ i = .int .i64 j ∧ s = .string (beB n j) ∧ Below w.heap.size w wr) (fun _ i _ => k - (intOf i).toNat)
  case atStart => exact ⟨0, Nat.zero_le _, rfl, rfl, Below.refl _ _⟩
  case round =>
    obtain ⟨j, hj, rfl, rfl, hB⟩ := hrel
    have hz := beB_size n j
    by_cases hlt : j < k
    · have HS := Lib.hid (beB_succ n j)
      have e : (((n : Int) / 2 ^ (8 * j)) % 256).toNat = n / 2 ^ (8 * j) % 256 := by
        have : ((n : Int) / 2 ^ (8 * j)) % 256 = ((n / 2 ^ (8 * j) % 256 : Nat) : Int) := by simp
        rw [this, Int.toNat_natCast]
      have HE := Lib.hid e
      clear e
      go_wp2
      go_roundw
      case rel => exact ⟨j + 1, hlt, by go_num, by rw [HE.out, ofNat_mod256, HS.out], hB.alloc hB.size _⟩
      case measure => simp [intOf]; omega
    · obtain rfl : j = k := by omega
      go_wp2
      go_ret
      exact ⟨rfl, hB⟩

theorem beB_one (n : Nat) : beB n 1 = ⟨#[UInt8.ofNat n]⟩ := by
  unfold beB be
  simp [be]
theorem beB_two (n : Nat) : beB n 2 = ⟨#[UInt8.ofNat (n / 256), UInt8.ofNat n]⟩ := by
  unfold beB be
  simp [be]
theorem beB_cat (n k : Nat) (c : UInt8) : (⟨#[c]⟩ : ByteArray) ++ beB n k = ⟨(c :: be n k).toArray⟩ := by
  unfold beB
  apply ByteArray.ext
  simp [ByteArray.data_append]

set_option maxRecDepth 100000 in
set_option maxHeartbeats 4000000 in
theorem refPut_any (n : Int) (h0 : 0 ≤ n) (h1 : n < 18446744073709551616) (w : World) :
    Calls Tryd.prog 23 #[.int .u64 n] w fun e w' => e = .returned (.string (putB n.toNat)) ∧ Below w.heap.size w w' := by
  by_cases a : n ≤ 240
  · have HP := Lib.hid (show putB n.toNat = beB n.toNat 1 by unfold putB put; rw [if_pos (by omega), beB_one])
    go_enter Tryd.func23, Tryd.ntmps23
    go_wp2_with fail
    refine (greatest_any n (by omega) (by omega) 1 (by omega) (by omega) _).mono ?_
    rintro e w1 ⟨rfl, hb1⟩
    go_wp2_with fail
    go_ret
    exact ⟨by rw [HP.out]; rfl, hb1⟩
  by_cases b : n ≤ 2287
  · have HP := Lib.hid (show putB n.toNat = beB (241 + (n - 240) / 256).toNat 1 ++ beB (n - 240).toNat 1 by
      have e1 : (241 + (n - 240) / 256).toNat = 241 + (n.toNat - 240) / 256 := by omega
      have e2 : (n - 240).toNat = n.toNat - 240 := by omega
      unfold putB put; rw [if_neg (by omega), if_pos (by omega), e1, e2, beB_one, beB_one]; apply ByteArray.ext; simp [ByteArray.data_append])
    have hz1 := beB_size (241 + (n - 240) / 256).toNat 1
    have hz2 := beB_size (n - 240).toNat 1
    go_enter Tryd.func23, Tryd.ntmps23
    go_wp2_with fail
    refine (greatest_any _ (by omega) (by omega) _ (by omega) (by omega) _).mono ?_
    rintro e w1 ⟨rfl, hb1⟩
    go_wp2_with fail
    refine (greatest_any _ (by omega) (by omega) _ (by omega) (by omega) _).mono ?_
    rintro e w2 ⟨rfl, hb2⟩
    go_wp2_with fail
    go_ret
    exact ⟨by rw [HP.out]; rfl, hb1.trans (hb2.mono hb1.size)⟩
  by_cases c : n ≤ 67823
  · have HP := Lib.hid (show putB n.toNat = beB (249 : Int).toNat 1 ++ beB (n - 2288).toNat 2 by
      have e2 : (n - 2288).toNat = n.toNat - 2288 := by omega
      unfold putB put; rw [if_neg (by omega), if_neg (by omega), if_pos (by omega), e2, beB_one, beB_two]; apply ByteArray.ext; simp [ByteArray.data_append])
    have hz1 := beB_size (249 : Int).toNat 1
    have hz2 := beB_size (n - 2288).toNat 2
    go_enter Tryd.func23, Tryd.ntmps23
    go_wp2_with fail
    refine (greatest_any _ (by omega) (by omega) _ (by omega) (by omega) _).mono ?_
    rintro e w1 ⟨rfl, hb1⟩
    go_wp2_with fail
    refine (greatest_any _ (by omega) (by omega) _ (by omega) (by omega) _).mono ?_
    rintro e w2 ⟨rfl, hb2⟩
    go_wp2_with fail
    go_ret
    exact ⟨by rw [HP.out]; rfl, hb1.trans (hb2.mono hb1.size)⟩
  obtain ⟨hw3, hw8⟩ := width_bounds n.toNat
  have HP := Lib.hid (show putB n.toNat = beB (247 + (width n.toNat : Int)).toNat 1 ++ beB n.toNat (width n.toNat : Int).toNat by
      have e1 : (247 + (width n.toNat : Int)).toNat = 247 + width n.toNat := by omega
      rw [e1, Int.toNat_natCast, beB_one, beB_cat]
      unfold putB put; rw [if_neg (by omega), if_neg (by omega), if_neg (by omega)])
  have hz1 := beB_size (247 + (width n.toNat : Int)).toNat 1
  have hz2 : (beB n.toNat (width n.toNat : Int).toNat).size = width n.toNat := by rw [beB_size, Int.toNat_natCast]
  rw [Int.toNat_natCast] at hz2
  have hz3 := hz2
  have HW := Lib.hid (fun j h3 h8 => width_step n.toNat j h3 h8)
  generalize width n.toNat = k at *
  go_enter Tryd.func23, Tryd.ntmps23
  go_wp2_with fail
  go_loopw [3] (fun i wr => ∃ j : Nat, 3 ≤ j ∧ j ≤ k ∧ i = .int .i64 j ∧ wr = w) (fun i _ => k - (intOf i).toNat)
  case atStart => exact ⟨3, Nat.le_refl _, hw3, rfl, rfl⟩
  case round =>
    obtain ⟨j, hj3, hj, rfl, rfl⟩ := hrel
    by_cases h8 : j < 8
    · have hs := HW.out j hj3 h8
      have e : n / 2 ^ (8 * j) = ((n.toNat / 2 ^ (8 * j) : Nat) : Int) := by
        obtain ⟨m, rfl⟩ := Int.eq_ofNat_of_zero_le h0
        simp
      have HE := Lib.hid e
      clear e
      by_cases hlt : j < k
      · have hne : (n / 2 ^ (8 * j) != 0) = true := by
          rw [HE.out]
          have := hs.1 hlt
          simp only [bne_iff_ne, ne_eq]
          omega
        clear hs
        go_wp2_with fail
        go_roundw
        case rel => exact ⟨j + 1, by omega, hlt, by go_num, trivial⟩
        case measure => simp [intOf]; omega
      · have hne : (n / 2 ^ (8 * j) != 0) = false := by
          rw [HE.out]
          have := mt hs.2 hlt
          simp only [bne_eq_false_iff_eq]
          omega
        obtain rfl : j = k := by omega
        clear hs
        go_wp2_with fail
        refine (greatest_any _ (by omega) (by omega) _ (by omega) (by omega) _).mono ?_
        rintro e w1 ⟨rfl, hb1⟩
        go_wp2_with fail
        refine (greatest_any _ (by omega) (by omega) _ (by omega) (by omega) _).mono ?_
        rintro e w2 ⟨rfl, hb2⟩
        go_wp2_with fail
        go_ret
        exact ⟨by rw [HP.out]; rfl, hb1.trans (hb2.mono hb1.size)⟩
    · obtain rfl : j = k := by omega
      go_wp2_with fail
      refine (greatest_any _ (by omega) (by omega) _ (by omega) (by omega) _).mono ?_
      rintro e w1 ⟨rfl, hb1⟩
      go_wp2_with fail
      refine (greatest_any _ (by omega) (by omega) _ (by omega) (by omega) _).mono ?_
      rintro e w2 ⟨rfl, hb2⟩
      go_wp2_with fail
      go_ret
      exact ⟨by rw [HP.out]; rfl, hb1.trans (hb2.mono hb1.size)⟩
end Go.Proofs.YtafabdgkinfceaaDoor
