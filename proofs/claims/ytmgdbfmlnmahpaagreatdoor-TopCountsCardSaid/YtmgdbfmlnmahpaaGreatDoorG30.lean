/- A part of the proof of TopCounts. -/
import Derived.Lib.BitFns
import Derived.Test.YtmgdbfmlnmahpaaGreatDoorG12
import Derived.Test.YtmgdbfmlnmahpaaGreatDoorG26
import Derived.Test.YtmgdbfmlnmahpaaGreatDoorG03
import Derived.WalkKit
import Derived.WalkLawsBesides
import Derived.WalkSpells
import Derived.Outline
import Derived.Lib.Hide
namespace Go.Proofs.YtmgdbfmlnmahpaaGreatDoor
def be (n : Nat) : Nat → List UInt8
  | 0 => []
  | k + 1 => UInt8.ofNat (n / 2 ^ (8 * k)) :: be n k
theorem be_length (n k : Nat) : (be n k).length = k := by
  induction k with
  | zero => rfl
  | succ k ih => simp [be, ih]
def width (n : Nat) : Nat :=
  if n < 2 ^ 24 then 3 else if n < 2 ^ 32 then 4 else if n < 2 ^ 40 then 5 else if n < 2 ^ 48 then 6 else if n < 2 ^ 56 then 7 else 8
def put (n : Nat) : List UInt8 :=
  if n ≤ 240 then [UInt8.ofNat n]
  else if n ≤ 2287 then [UInt8.ofNat (241 + (n - 240) / 256), UInt8.ofNat (n - 240)]
  else if n ≤ 67823 then [249, UInt8.ofNat ((n - 2288) / 256), UInt8.ofNat (n - 2288)]
  else UInt8.ofNat (247 + width n) :: be n (width n)
def putB (n : Nat) : ByteArray := ⟨(put n).toArray⟩
theorem width_bounds (n : Nat) : 3 ≤ width n ∧ width n ≤ 8 := by
  unfold width
  repeat' split
  all_goals omega
theorem put_length (n : Nat) : 1 ≤ (put n).length ∧ (put n).length ≤ 9 := by
  have := width_bounds n
  unfold put
  split
  · simp
  split
  · simp
  split
  · simp
  · simp only [List.length_cons, be_length]; omega
theorem putB_size (n : Nat) : 1 ≤ (putB n).size ∧ (putB n).size ≤ 9 := by
  have := put_length n
  show 1 ≤ (put n).toArray.size ∧ (put n).toArray.size ≤ 9
  simpa using this
theorem width_step (n j : Nat) (h3 : 3 ≤ j) (h8 : j < 8) : j < width n ↔ n / 2 ^ (8 * j) ≠ 0 := by
  have hq : n / 2 ^ (8 * j) ≠ 0 ↔ 2 ^ (8 * j) ≤ n := by
    rw [Ne, Nat.div_eq_zero_iff]
    have := Nat.two_pow_pos (8 * j)
    omega
  rw [hq]
  unfold width
  have e : j = 3 ∨ j = 4 ∨ j = 5 ∨ j = 6 ∨ j = 7 := by omega
  rcases e with rfl | rfl | rfl | rfl | rfl <;> simp only [Nat.reduceMul, Nat.reducePow] <;> repeat' split
  all_goals omega
theorem bitLen_width (n : Nat) (h0 : 67823 < n) (h1 : n < 2 ^ 64) : (Lib.bitLen n + 7) / 8 = width n := by
  have lo : ∀ k, 2 ^ k ≤ n → k < Lib.bitLen n := by
    intro k hk
    rw [Lib.bitLen_shift k n hk h1]
    have hq : n / 2 ^ k ≠ 0 := by
      have : 1 ≤ n / 2 ^ k := (Nat.one_le_div_iff (Nat.two_pow_pos k)).2 hk
      omega
    have hlt : n / 2 ^ k < 2 ^ 64 := Nat.lt_of_le_of_lt (Nat.div_le_self _ _) h1
    rw [Lib.bitLen_half _ hq hlt]
    omega
  have hi : ∀ k, k ≤ 64 → n < 2 ^ k → Lib.bitLen n ≤ k := fun k hk h => Lib.bitLen_le n k hk h
  unfold width
  split
  · rename_i h
    have := lo 16 (by omega); have := hi 24 (by omega) h; omega
  split
  · rename_i g h
    have := lo 24 (by omega); have := hi 32 (by omega) h; omega
  split
  · rename_i g h
    have := lo 32 (by omega); have := hi 40 (by omega) h; omega
  split
  · rename_i g h
    have := lo 40 (by omega); have := hi 48 (by omega) h; omega
  split
  · rename_i g h
    have := lo 48 (by omega); have := hi 56 (by omega) h; omega
  · rename_i g
    have := lo 56 (by omega); have := hi 64 (by omega) h1; omega
end Go.Proofs.YtmgdbfmlnmahpaaGreatDoor
namespace Go.Proofs.YtmgdbfmlnmahpaaGreatDoor
open Go.RowKit
theorem u8_mod (n : Nat) : UInt8.ofNat (n % 256) = UInt8.ofNat n := by
  apply UInt8.toNat_inj.1
  simp
theorem ret_str {a b : ByteArray} (h : a = b) : Ending.returned (.string a) = .returned (.string b) := by rw [h]
theorem ba_eq {l m : List UInt8} (h : l = m) : (⟨l.toArray⟩ : ByteArray) = ⟨m.toArray⟩ := by rw [h]
set_option maxHeartbeats 1000000 in
theorem put_small (n : Nat) (h : n ≤ 67823) (w : World) :
    Calls Tryz.prog 27 #[.int .u64 (n : Int)] w fun e w' => e = .returned (.string (putB n)) ∧ Below w.heap.size w w' := by
  by_cases h1 : n ≤ 240
  · have HP : Hid (put n = [UInt8.ofNat n]) := by show _ = _; unfold put; rw [if_pos h1]
    go_enter Tryz.func27, Tryz.ntmps27
    go_wp2
    go_ret
    exact ⟨ret_str (by unfold putB; rw [HP.out]), (Below.refl _ _).alloc (Nat.le_refl _) _⟩
  · by_cases h2 : n ≤ 2287
    · have HP : Hid (put n = [UInt8.ofNat (241 + (n - 240) / 256), UInt8.ofNat ((n - 240) % 256)]) := by show _ = _; unfold put; rw [if_neg h1, if_pos h2, u8_mod]
      go_enter Tryz.func27, Tryz.ntmps27
      go_wp2
      go_ret
      exact ⟨ret_str (by unfold putB; rw [HP.out]), (Below.refl _ _).alloc (Nat.le_refl _) _⟩
    · have HP : Hid (put n = [249, UInt8.ofNat ((n - 2288) / 256), UInt8.ofNat ((n - 2288) % 256)]) := by show _ = _; unfold put; rw [if_neg h1, if_neg h2, if_pos h, u8_mod]
      go_enter Tryz.func27, Tryz.ntmps27
      go_wp2
      go_ret
      exact ⟨ret_str (by unfold putB; rw [HP.out]), (Below.refl _ _).alloc (Nat.le_refl _) _⟩
set_option maxRecDepth 100000 in
set_option maxHeartbeats 2000000 in
theorem put_great3 (n : Nat) (h0 : 67823 < n) (_hlo : 67824 ≤ n) (hhi : n < 16777216) (w : World) :
    Calls Tryz.prog 27 #[.int .u64 (n : Int)] w fun e w' => e = .returned (.string (putB n)) ∧ Below w.heap.size w w' := by
  have hw : width n = 3 := by unfold width; rw [if_pos (by omega)]
  have HP : Hid (put n = [UInt8.ofNat 250, UInt8.ofNat (n / 65536 % 256), UInt8.ofNat (n / 256 % 256), UInt8.ofNat (n % 256)]) := by
    show _ = _
    unfold put
    rw [if_neg (by omega), if_neg (by omega), if_neg (by omega), hw]
    simp only [u8_mod, be]
    simp
  have hb : (Lib.bitLen n + 7) / 8 = 3 := by rw [bitLen_width n h0 (by omega), hw]
  have hb1 : Lib.bitLen n ≤ 64 := by omega
  have hb2 : ((Lib.bitLen n : Int) + 7) / 8 = 3 := by omega
  clear hw hb
  go_enter Tryz.func27, Tryz.ntmps27
  go_wp2_with fail
  refine (len64_any n _ (by omega) (by omega)).mono ?_
  rintro e w' ⟨rfl, rfl⟩
  rw [Int.toNat_natCast]
  have o0 : (w'.alloc (.cells #[.int .u8 250] 5)).ownsRow w'.heap.size 5 1 (.slice (some ⟨w'.heap.size, 0, none⟩) 1 1) 1 [.int .u8 250] := World.ownsRow_lit w' _ 1 (Nat.le_refl _) (by unfold maxLen; omega) rfl
  have g0 : Below w'.heap.size w' (w'.alloc (.cells #[.int .u8 250] 5)) := (Below.refl _ _).alloc (Nat.le_refl _) _
  go_wp2_with (first | (at_builtin; refine append3 rfl (.tmp 86) (.tmp 95) rfl w'.heap.size (.slice (some ⟨w'.heap.size, 0, none⟩) 1 1) 1 _ _ _ _ rfl o0 _ ((World.size_alloc _ _).symm) rfl (by decide) g0.size ?_; intro v9 w9 o9 q9; have g9 := g0.trans q9; have hc := conv_own (ns := [250, (n : Int) / 65536, (n : Int) / 256 % 256, (n : Int) % 256]) o9 (by decide)))
  go_ret
  refine ⟨ret_str ?_, g9⟩
  unfold putB
  refine ba_eq ?_
  rw [HP.out]
  have t0 : n / 65536 % 256 = n / 65536 := Nat.mod_eq_of_lt (by omega)
  rw [t0]
  rfl
set_option maxRecDepth 100000 in
set_option maxHeartbeats 2000000 in
theorem put_great4 (n : Nat) (h0 : 67823 < n) (hlo : 16777216 ≤ n) (hhi : n < 4294967296) (w : World) :
    Calls Tryz.prog 27 #[.int .u64 (n : Int)] w fun e w' => e = .returned (.string (putB n)) ∧ Below w.heap.size w w' := by
  have hw : width n = 4 := by unfold width; rw [if_neg (by omega), if_pos (by omega)]
  have HP : Hid (put n = [UInt8.ofNat 251, UInt8.ofNat (n / 16777216 % 256), UInt8.ofNat (n / 65536 % 256), UInt8.ofNat (n / 256 % 256), UInt8.ofNat (n % 256)]) := by
    show _ = _
    unfold put
    rw [if_neg (by omega), if_neg (by omega), if_neg (by omega), hw]
    simp only [u8_mod, be]
    simp
  have hb : (Lib.bitLen n + 7) / 8 = 4 := by rw [bitLen_width n h0 (by omega), hw]
  have hb1 : Lib.bitLen n ≤ 64 := by omega
  have hb2 : ((Lib.bitLen n : Int) + 7) / 8 = 4 := by omega
  clear hw hb
  go_enter Tryz.func27, Tryz.ntmps27
  go_wp2_with fail
  refine (len64_any n _ (by omega) (by omega)).mono ?_
  rintro e w' ⟨rfl, rfl⟩
  rw [Int.toNat_natCast]
  have o0 : (w'.alloc (.cells #[.int .u8 251] 5)).ownsRow w'.heap.size 5 1 (.slice (some ⟨w'.heap.size, 0, none⟩) 1 1) 1 [.int .u8 251] := World.ownsRow_lit w' _ 1 (Nat.le_refl _) (by unfold maxLen; omega) rfl
  have g0 : Below w'.heap.size w' (w'.alloc (.cells #[.int .u8 251] 5)) := (Below.refl _ _).alloc (Nat.le_refl _) _
  go_wp2_with (first | (at_builtin; refine append1 rfl (.tmp 80) (.tmp 84) rfl w'.heap.size (.slice (some ⟨w'.heap.size, 0, none⟩) 1 1) 1 _ _ rfl o0 _ ((World.size_alloc _ _).symm) rfl (by decide) g0.size ?_; intro v1 w1 o1 q1; have g1 := g0.trans q1) | (at_builtin; refine append3 rfl (.tmp 86) (.tmp 95) rfl w'.heap.size v1 2 _ _ _ _ rfl o1 _ (rfl) rfl (by decide) g1.size ?_; intro v9 w9 o9 q9; have g9 := g1.trans q9; have hc := conv_own (ns := [251, (n : Int) / 16777216, (n : Int) / 65536 % 256, (n : Int) / 256 % 256, (n : Int) % 256]) o9 (by decide)))
  go_ret
  refine ⟨ret_str ?_, g9⟩
  unfold putB
  refine ba_eq ?_
  rw [HP.out]
  have t0 : n / 16777216 % 256 = n / 16777216 := Nat.mod_eq_of_lt (by omega)
  rw [t0]
  rfl
set_option maxRecDepth 100000 in
set_option maxHeartbeats 2000000 in
theorem put_great5 (n : Nat) (h0 : 67823 < n) (hlo : 4294967296 ≤ n) (hhi : n < 1099511627776) (w : World) :
    Calls Tryz.prog 27 #[.int .u64 (n : Int)] w fun e w' => e = .returned (.string (putB n)) ∧ Below w.heap.size w w' := by
  have hw : width n = 5 := by unfold width; rw [if_neg (by omega), if_neg (by omega), if_pos (by omega)]
  have HP : Hid (put n = [UInt8.ofNat 252, UInt8.ofNat (n / 4294967296 % 256), UInt8.ofNat (n / 16777216 % 256), UInt8.ofNat (n / 65536 % 256), UInt8.ofNat (n / 256 % 256), UInt8.ofNat (n % 256)]) := by
    show _ = _
    unfold put
    rw [if_neg (by omega), if_neg (by omega), if_neg (by omega), hw]
    simp only [u8_mod, be]
    simp
  have hb : (Lib.bitLen n + 7) / 8 = 5 := by rw [bitLen_width n h0 (by omega), hw]
  have hb1 : Lib.bitLen n ≤ 64 := by omega
  have hb2 : ((Lib.bitLen n : Int) + 7) / 8 = 5 := by omega
  clear hw hb
  go_enter Tryz.func27, Tryz.ntmps27
  go_wp2_with fail
  refine (len64_any n _ (by omega) (by omega)).mono ?_
  rintro e w' ⟨rfl, rfl⟩
  rw [Int.toNat_natCast]
  have o0 : (w'.alloc (.cells #[.int .u8 252] 5)).ownsRow w'.heap.size 5 1 (.slice (some ⟨w'.heap.size, 0, none⟩) 1 1) 1 [.int .u8 252] := World.ownsRow_lit w' _ 1 (Nat.le_refl _) (by unfold maxLen; omega) rfl
  have g0 : Below w'.heap.size w' (w'.alloc (.cells #[.int .u8 252] 5)) := (Below.refl _ _).alloc (Nat.le_refl _) _
  go_wp2_with (first | (at_builtin; refine append1 rfl (.tmp 74) (.tmp 78) rfl w'.heap.size (.slice (some ⟨w'.heap.size, 0, none⟩) 1 1) 1 _ _ rfl o0 _ ((World.size_alloc _ _).symm) rfl (by decide) g0.size ?_; intro v1 w1 o1 q1; have g1 := g0.trans q1) | (at_builtin; refine append1 rfl (.tmp 80) (.tmp 84) rfl w'.heap.size v1 2 _ _ rfl o1 _ (rfl) rfl (by decide) g1.size ?_; intro v2 w2 o2 q2; have g2 := g1.trans q2) | (at_builtin; refine append3 rfl (.tmp 86) (.tmp 95) rfl w'.heap.size v2 3 _ _ _ _ rfl o2 _ (rfl) rfl (by decide) g2.size ?_; intro v9 w9 o9 q9; have g9 := g2.trans q9; have hc := conv_own (ns := [252, (n : Int) / 4294967296, (n : Int) / 16777216 % 256, (n : Int) / 65536 % 256, (n : Int) / 256 % 256, (n : Int) % 256]) o9 (by decide)))
  go_ret
  refine ⟨ret_str ?_, g9⟩
  unfold putB
  refine ba_eq ?_
  rw [HP.out]
  have t0 : n / 4294967296 % 256 = n / 4294967296 := Nat.mod_eq_of_lt (by omega)
  rw [t0]
  rfl
set_option maxRecDepth 100000 in
set_option maxHeartbeats 2000000 in
theorem put_great6 (n : Nat) (h0 : 67823 < n) (hlo : 1099511627776 ≤ n) (hhi : n < 281474976710656) (w : World) :
    Calls Tryz.prog 27 #[.int .u64 (n : Int)] w fun e w' => e = .returned (.string (putB n)) ∧ Below w.heap.size w w' := by
  have hw : width n = 6 := by unfold width; rw [if_neg (by omega), if_neg (by omega), if_neg (by omega), if_pos (by omega)]
  have HP : Hid (put n = [UInt8.ofNat 253, UInt8.ofNat (n / 1099511627776 % 256), UInt8.ofNat (n / 4294967296 % 256), UInt8.ofNat (n / 16777216 % 256), UInt8.ofNat (n / 65536 % 256), UInt8.ofNat (n / 256 % 256), UInt8.ofNat (n % 256)]) := by
    show _ = _
    unfold put
    rw [if_neg (by omega), if_neg (by omega), if_neg (by omega), hw]
    simp only [u8_mod, be]
    simp
  have hb : (Lib.bitLen n + 7) / 8 = 6 := by rw [bitLen_width n h0 (by omega), hw]
  have hb1 : Lib.bitLen n ≤ 64 := by omega
  have hb2 : ((Lib.bitLen n : Int) + 7) / 8 = 6 := by omega
  clear hw hb
  go_enter Tryz.func27, Tryz.ntmps27
  go_wp2_with fail
  refine (len64_any n _ (by omega) (by omega)).mono ?_
  rintro e w' ⟨rfl, rfl⟩
  rw [Int.toNat_natCast]
  have o0 : (w'.alloc (.cells #[.int .u8 253] 5)).ownsRow w'.heap.size 5 1 (.slice (some ⟨w'.heap.size, 0, none⟩) 1 1) 1 [.int .u8 253] := World.ownsRow_lit w' _ 1 (Nat.le_refl _) (by unfold maxLen; omega) rfl
  have g0 : Below w'.heap.size w' (w'.alloc (.cells #[.int .u8 253] 5)) := (Below.refl _ _).alloc (Nat.le_refl _) _
  go_wp2_with (first | (at_builtin; refine append1 rfl (.tmp 68) (.tmp 72) rfl w'.heap.size (.slice (some ⟨w'.heap.size, 0, none⟩) 1 1) 1 _ _ rfl o0 _ ((World.size_alloc _ _).symm) rfl (by decide) g0.size ?_; intro v1 w1 o1 q1; have g1 := g0.trans q1) | (at_builtin; refine append1 rfl (.tmp 74) (.tmp 78) rfl w'.heap.size v1 2 _ _ rfl o1 _ (rfl) rfl (by decide) g1.size ?_; intro v2 w2 o2 q2; have g2 := g1.trans q2) | (at_builtin; refine append1 rfl (.tmp 80) (.tmp 84) rfl w'.heap.size v2 3 _ _ rfl o2 _ (rfl) rfl (by decide) g2.size ?_; intro v3 w3 o3 q3; have g3 := g2.trans q3) | (at_builtin; refine append3 rfl (.tmp 86) (.tmp 95) rfl w'.heap.size v3 4 _ _ _ _ rfl o3 _ (rfl) rfl (by decide) g3.size ?_; intro v9 w9 o9 q9; have g9 := g3.trans q9; have hc := conv_own (ns := [253, (n : Int) / 1099511627776, (n : Int) / 4294967296 % 256, (n : Int) / 16777216 % 256, (n : Int) / 65536 % 256, (n : Int) / 256 % 256, (n : Int) % 256]) o9 (by decide)))
  go_ret
  refine ⟨ret_str ?_, g9⟩
  unfold putB
  refine ba_eq ?_
  rw [HP.out]
  have t0 : n / 1099511627776 % 256 = n / 1099511627776 := Nat.mod_eq_of_lt (by omega)
  rw [t0]
  rfl
set_option maxRecDepth 100000 in
set_option maxHeartbeats 2000000 in
theorem put_great7 (n : Nat) (h0 : 67823 < n) (hlo : 281474976710656 ≤ n) (hhi : n < 72057594037927936) (w : World) :
    Calls Tryz.prog 27 #[.int .u64 (n : Int)] w fun e w' => e = .returned (.string (putB n)) ∧ Below w.heap.size w w' := by
  have hw : width n = 7 := by unfold width; rw [if_neg (by omega), if_neg (by omega), if_neg (by omega), if_neg (by omega), if_pos (by omega)]
  have HP : Hid (put n = [UInt8.ofNat 254, UInt8.ofNat (n / 281474976710656 % 256), UInt8.ofNat (n / 1099511627776 % 256), UInt8.ofNat (n / 4294967296 % 256), UInt8.ofNat (n / 16777216 % 256), UInt8.ofNat (n / 65536 % 256), UInt8.ofNat (n / 256 % 256), UInt8.ofNat (n % 256)]) := by
    show _ = _
    unfold put
    rw [if_neg (by omega), if_neg (by omega), if_neg (by omega), hw]
    simp only [u8_mod, be]
    simp
  have hb : (Lib.bitLen n + 7) / 8 = 7 := by rw [bitLen_width n h0 (by omega), hw]
  have hb1 : Lib.bitLen n ≤ 64 := by omega
  have hb2 : ((Lib.bitLen n : Int) + 7) / 8 = 7 := by omega
  clear hw hb
  go_enter Tryz.func27, Tryz.ntmps27
  go_wp2_with fail
  refine (len64_any n _ (by omega) (by omega)).mono ?_
  rintro e w' ⟨rfl, rfl⟩
  rw [Int.toNat_natCast]
  have o0 : (w'.alloc (.cells #[.int .u8 254] 5)).ownsRow w'.heap.size 5 1 (.slice (some ⟨w'.heap.size, 0, none⟩) 1 1) 1 [.int .u8 254] := World.ownsRow_lit w' _ 1 (Nat.le_refl _) (by unfold maxLen; omega) rfl
  have g0 : Below w'.heap.size w' (w'.alloc (.cells #[.int .u8 254] 5)) := (Below.refl _ _).alloc (Nat.le_refl _) _
  go_wp2_with (first | (at_builtin; refine append1 rfl (.tmp 62) (.tmp 66) rfl w'.heap.size (.slice (some ⟨w'.heap.size, 0, none⟩) 1 1) 1 _ _ rfl o0 _ ((World.size_alloc _ _).symm) rfl (by decide) g0.size ?_; intro v1 w1 o1 q1; have g1 := g0.trans q1) | (at_builtin; refine append1 rfl (.tmp 68) (.tmp 72) rfl w'.heap.size v1 2 _ _ rfl o1 _ (rfl) rfl (by decide) g1.size ?_; intro v2 w2 o2 q2; have g2 := g1.trans q2) | (at_builtin; refine append1 rfl (.tmp 74) (.tmp 78) rfl w'.heap.size v2 3 _ _ rfl o2 _ (rfl) rfl (by decide) g2.size ?_; intro v3 w3 o3 q3; have g3 := g2.trans q3) | (at_builtin; refine append1 rfl (.tmp 80) (.tmp 84) rfl w'.heap.size v3 4 _ _ rfl o3 _ (rfl) rfl (by decide) g3.size ?_; intro v4 w4 o4 q4; have g4 := g3.trans q4) | (at_builtin; refine append3 rfl (.tmp 86) (.tmp 95) rfl w'.heap.size v4 5 _ _ _ _ rfl o4 _ (rfl) rfl (by decide) g4.size ?_; intro v9 w9 o9 q9; have g9 := g4.trans q9; have hc := conv_own (ns := [254, (n : Int) / 281474976710656, (n : Int) / 1099511627776 % 256, (n : Int) / 4294967296 % 256, (n : Int) / 16777216 % 256, (n : Int) / 65536 % 256, (n : Int) / 256 % 256, (n : Int) % 256]) o9 (by decide)))
  go_ret
  refine ⟨ret_str ?_, g9⟩
  unfold putB
  refine ba_eq ?_
  rw [HP.out]
  have t0 : n / 281474976710656 % 256 = n / 281474976710656 := Nat.mod_eq_of_lt (by omega)
  rw [t0]
  rfl
set_option maxRecDepth 100000 in
set_option maxHeartbeats 2000000 in
theorem put_great8 (n : Nat) (h0 : 67823 < n) (hlo : 72057594037927936 ≤ n) (hhi : n < 18446744073709551616) (w : World) :
    Calls Tryz.prog 27 #[.int .u64 (n : Int)] w fun e w' => e = .returned (.string (putB n)) ∧ Below w.heap.size w w' := by
  have hw : width n = 8 := by unfold width; rw [if_neg (by omega), if_neg (by omega), if_neg (by omega), if_neg (by omega), if_neg (by omega)]
  have HP : Hid (put n = [UInt8.ofNat 255, UInt8.ofNat (n / 72057594037927936 % 256), UInt8.ofNat (n / 281474976710656 % 256), UInt8.ofNat (n / 1099511627776 % 256), UInt8.ofNat (n / 4294967296 % 256), UInt8.ofNat (n / 16777216 % 256), UInt8.ofNat (n / 65536 % 256), UInt8.ofNat (n / 256 % 256), UInt8.ofNat (n % 256)]) := by
    show _ = _
    unfold put
    rw [if_neg (by omega), if_neg (by omega), if_neg (by omega), hw]
    simp only [u8_mod, be]
    simp
  have hb : (Lib.bitLen n + 7) / 8 = 8 := by rw [bitLen_width n h0 (by omega), hw]
  have hb1 : Lib.bitLen n ≤ 64 := by omega
  have hb2 : ((Lib.bitLen n : Int) + 7) / 8 = 8 := by omega
  clear hw hb
  go_enter Tryz.func27, Tryz.ntmps27
  go_wp2_with fail
  refine (len64_any n _ (by omega) (by omega)).mono ?_
  rintro e w' ⟨rfl, rfl⟩
  rw [Int.toNat_natCast]
  have o0 : (w'.alloc (.cells #[.int .u8 255] 5)).ownsRow w'.heap.size 5 1 (.slice (some ⟨w'.heap.size, 0, none⟩) 1 1) 1 [.int .u8 255] := World.ownsRow_lit w' _ 1 (Nat.le_refl _) (by unfold maxLen; omega) rfl
  have g0 : Below w'.heap.size w' (w'.alloc (.cells #[.int .u8 255] 5)) := (Below.refl _ _).alloc (Nat.le_refl _) _
  go_wp2_with (first | (at_builtin; refine append1 rfl (.tmp 56) (.tmp 60) rfl w'.heap.size (.slice (some ⟨w'.heap.size, 0, none⟩) 1 1) 1 _ _ rfl o0 _ ((World.size_alloc _ _).symm) rfl (by decide) g0.size ?_; intro v1 w1 o1 q1; have g1 := g0.trans q1) | (at_builtin; refine append1 rfl (.tmp 62) (.tmp 66) rfl w'.heap.size v1 2 _ _ rfl o1 _ (rfl) rfl (by decide) g1.size ?_; intro v2 w2 o2 q2; have g2 := g1.trans q2) | (at_builtin; refine append1 rfl (.tmp 68) (.tmp 72) rfl w'.heap.size v2 3 _ _ rfl o2 _ (rfl) rfl (by decide) g2.size ?_; intro v3 w3 o3 q3; have g3 := g2.trans q3) | (at_builtin; refine append1 rfl (.tmp 74) (.tmp 78) rfl w'.heap.size v3 4 _ _ rfl o3 _ (rfl) rfl (by decide) g3.size ?_; intro v4 w4 o4 q4; have g4 := g3.trans q4) | (at_builtin; refine append1 rfl (.tmp 80) (.tmp 84) rfl w'.heap.size v4 5 _ _ rfl o4 _ (rfl) rfl (by decide) g4.size ?_; intro v5 w5 o5 q5; have g5 := g4.trans q5) | (at_builtin; refine append3 rfl (.tmp 86) (.tmp 95) rfl w'.heap.size v5 6 _ _ _ _ rfl o5 _ (rfl) rfl (by decide) g5.size ?_; intro v9 w9 o9 q9; have g9 := g5.trans q9; have hc := conv_own (ns := [255, (n : Int) / 72057594037927936, (n : Int) / 281474976710656 % 256, (n : Int) / 1099511627776 % 256, (n : Int) / 4294967296 % 256, (n : Int) / 16777216 % 256, (n : Int) / 65536 % 256, (n : Int) / 256 % 256, (n : Int) % 256]) o9 (by decide)))
  go_ret
  refine ⟨ret_str ?_, g9⟩
  unfold putB
  refine ba_eq ?_
  rw [HP.out]
  have t0 : n / 72057594037927936 % 256 = n / 72057594037927936 := Nat.mod_eq_of_lt (by omega)
  rw [t0]
  rfl
theorem put_any (n : Int) (h0 : 0 ≤ n) (h1 : n < 18446744073709551616) (w : World) :
    Calls Tryz.prog 27 #[.int .u64 n] w fun e w' => e = .returned (.string (putB n.toNat)) ∧ Below w.heap.size w w' := by
  obtain ⟨n, rfl⟩ := Int.eq_ofNat_of_zero_le h0
  rw [Int.toNat_natCast]
  by_cases a : n ≤ 67823
  · exact put_small n a w
  by_cases b : n < 16777216
  · exact put_great3 n (by omega) (by omega) b w
  by_cases c : n < 4294967296
  · exact put_great4 n (by omega) (by omega) c w
  by_cases d : n < 1099511627776
  · exact put_great5 n (by omega) (by omega) d w
  by_cases e : n < 281474976710656
  · exact put_great6 n (by omega) (by omega) e w
  by_cases f : n < 72057594037927936
  · exact put_great7 n (by omega) (by omega) f w
  exact put_great8 n (by omega) (by omega) (by omega) w
end Go.Proofs.YtmgdbfmlnmahpaaGreatDoor
