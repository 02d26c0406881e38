/- A part of the proof of TopCounts. -/
import Derived.Test.YtmgdbfmlnmahpaaGreatDoorG11
import Derived.Test.YtmgdbfmlnmahpaaGreatDoorG04
import Derived.Test.YtmgdbfmlnmahpaaGreatDoorG12
import Derived.Lib.ItoaNum
import Derived.Laws.BitsLemmas
import Derived.Laws.BitsAllLaws
namespace Go.Proofs.YtmgdbfmlnmahpaaGreatDoor
open Go.RowKit Go.Shelf
set_option linter.unusedSimpArgs false
set_option linter.unusedVariables false
set_option maxRecDepth 100000
theorem isFine_any (w : World) : Calls Tryz.prog 216 #[.int .i64 3] w fun e w' => e = .returned (.bool true) ∧ w' = w := by
  go_enter Tryz.func216, Tryz.ntmps216
  go_wp2_with fail
  go_ret
  exact ⟨rfl, rfl⟩
theorem hTogether_any (A : Nat) (a b : Nat) (ha : a ≤ maxU) (hb : b ≤ maxU) (w : World) (hA : w.heap[A]? = some (.cells #[.int .u64 (a : Int), .int .u64 (b : Int)] 22 (0, 0))) :
    Calls Tryz.prog 332 #[.slice (some ⟨A, 0, none⟩) 2 2] w fun e w' => e = .returned (.int .u64 (sat a b : Nat)) ∧ w' = w := by
  have c0 := blk_cell hA 0
  have c1 := blk_cell hA 1
  have hm : maxU = 18446744073709551615 := rfl
  have ha' : (a : Int) ≤ 18446744073709551615 := by have := ha; rw [hm] at this; omega
  have hb' : (b : Int) ≤ 18446744073709551615 := by have := hb; rw [hm] at this; omega
  by_cases hs : 18446744073709551615 < a + b
  · have HSAT : Hid (((sat a b : Nat) : Int) = 18446744073709551615) := by
      show _ = _
      unfold sat
      rw [hm]
      omega
    clear hm ha hb
    go_enter Tryz.func332, Tryz.ntmps332
    go_wp2_with fail
    go_loop [3, 8] (fun sm i => (i = .int .i64 0 ∧ sm = .int .u64 0) ∨ (i = .int .i64 1 ∧ sm = .int .u64 (a : Int))) (fun _ i => 2 - (intOf i).toNat)
    case atStart => exact .inl ⟨rfl, rfl⟩
    case round =>
      rcases hrel with ⟨rfl, rfl⟩ | ⟨rfl, rfl⟩
      · go_wp2_with fail
        go_round
        case rel => exact .inr ⟨rfl, by first | rfl | simp⟩
        case measure => simp [intOf]
      · have hd : 18446744073709551615 - (a : Int) < (b : Int) := by omega
        go_wp2_with fail
        go_ret
        exact ⟨by rw [HSAT.out]; rfl, rfl⟩
  · have HSAT : Hid (((sat a b : Nat) : Int) = (a : Int) + (b : Int)) := by
      show _ = _
      unfold sat
      rw [hm]
      omega
    clear hm ha hb
    go_enter Tryz.func332, Tryz.ntmps332
    go_wp2_with fail
    go_loop [3, 8] (fun sm i => (i = .int .i64 0 ∧ sm = .int .u64 0) ∨ (i = .int .i64 1 ∧ sm = .int .u64 (a : Int)) ∨ (i = .int .i64 2 ∧ sm = .int .u64 ((a : Int) + (b : Int)))) (fun _ i => 2 - (intOf i).toNat)
    case atStart => exact .inl ⟨rfl, rfl⟩
    case round =>
      rcases hrel with ⟨rfl, rfl⟩ | ⟨rfl, rfl⟩ | ⟨rfl, rfl⟩
      · go_wp2_with fail
        go_round
        case rel => exact .inr (.inl ⟨rfl, by first | rfl | simp⟩)
        case measure => simp [intOf]
      · have hd : ¬ (18446744073709551615 - (a : Int) < (b : Int)) := by omega
        have hs2 : (a : Int) + (b : Int) ≤ 18446744073709551615 := by omega
        go_wp2_with fail
        go_round
        case rel => exact .inr (.inr ⟨rfl, by first | rfl | simp⟩)
        case measure => simp [intOf]
      · go_wp2_with fail
        go_ret
        exact ⟨by rw [HSAT.out]; rfl, rfl⟩
theorem bitLen_log2 (v : Nat) (hv : v ≤ maxU) (h0 : v ≠ 0) : Lib.bitLen v = Nat.log2 v + 1 ∧ Nat.log2 v ≤ 63 := by
  have hv' : v ≤ 18446744073709551615 := hv
  obtain ⟨h1, h2, h3⟩ := Lib.bitLenAux_bounds 64 v (by omega) h0
  have hle : Lib.bitLenAux 64 v ≤ 64 := Lib.bitLen_le v 64 (by omega) (by omega)
  have e : Nat.log2 v = Lib.bitLenAux 64 v - 1 := (Nat.log2_eq_iff h0).2 ⟨h2, by rwa [Nat.sub_add_cancel h1]⟩
  refine ⟨?_, by omega⟩
  show Lib.bitLenAux 64 v = _
  omega
theorem others_nat (v k : Nat) (h1 : 2 ^ k ≤ v) (h2 : v < 2 ^ (k + 1)) (hk : k ≤ 63) : v * 2 ^ (63 - k) < 2 ^ 64 ∧ v * 2 ^ (63 - k) * 2 = (v - 2 ^ k) * 2 ^ (64 - k) + 2 ^ 64 ∧ (v - 2 ^ k) * 2 ^ (64 - k) < 2 ^ 64 := by
  have e1 : 2 ^ k * 2 ^ (63 - k) = 2 ^ 63 := by rw [← Nat.pow_add]; congr 1; omega
  have e2 : 2 ^ (k + 1) * 2 ^ (63 - k) = 2 ^ 64 := by rw [← Nat.pow_add]; congr 1; omega
  have e3 : 2 ^ (64 - k) = 2 ^ (63 - k) * 2 := by rw [← Nat.pow_succ]; congr 1; omega
  have p : 0 < 2 ^ (63 - k) := Nat.pow_pos (by decide)
  have a1 : v * 2 ^ (63 - k) < 2 ^ (k + 1) * 2 ^ (63 - k) := Nat.mul_lt_mul_of_pos_right h2 p
  have a2 : (v - 2 ^ k) * 2 ^ (64 - k) = v * 2 ^ (63 - k) * 2 - 2 ^ 64 := by
    rw [e3, Nat.sub_mul, ← Nat.mul_assoc, ← Nat.mul_assoc, e1]
  have a3 : 2 ^ k * 2 ^ (63 - k) ≤ v * 2 ^ (63 - k) := Nat.mul_le_mul_right _ h1
  rw [e2] at a1
  rw [e1] at a3
  refine ⟨a1, ?_, ?_⟩
  · rw [a2]; omega
  · rw [a2]; omega
theorem others_shr (x k : Nat) (hk : k ≤ 63) : x * 2 ^ (64 - k) / 2 ^ 61 = x * 8 / 2 ^ k := by
  have p : 0 < 2 ^ k := Nat.pow_pos (by decide)
  have e1 : 2 ^ (64 - k) * 2 ^ k = 8 * 2 ^ 61 := by rw [← Nat.pow_add, show 64 - k + k = 64 from by omega]
  rw [← Nat.mul_div_mul_right (x * 2 ^ (64 - k)) (2 ^ 61) p, Nat.mul_assoc, e1, ← Nat.mul_assoc, Nat.mul_comm (2 ^ 61) (2 ^ k), Nat.mul_div_mul_right _ _ (by decide)]
theorem others_wrap (v k : Nat) (h1 : 2 ^ k ≤ v) (h2 : v < 2 ^ (k + 1)) (hk : k ≤ 63) : IntKind.u64.wrap (IntKind.u64.wrap ((v : Int) * 2 ^ (63 - k)) * 2) = (((v - 2 ^ k) * 2 ^ (64 - k) : Nat) : Int) := by
  obtain ⟨a1, a2, a3⟩ := others_nat v k h1 h2 hk
  have c : (v : Int) * 2 ^ (63 - k) = ((v * 2 ^ (63 - k) : Nat) : Int) := by push_cast; rfl
  rw [c]
  generalize v * 2 ^ (63 - k) = m at *
  generalize (v - 2 ^ k) * 2 ^ (64 - k) = n at *
  simp [IntKind.wrap, IntKind.bits, IntKind.signed]
  omega
theorem hiBucket0_any (w : World) : Calls Tryz.prog 328 #[.int .i64 3, .int .u64 0] w fun e w' => e = .returned (.int .i64 0) ∧ w' = w := by
  go_enter Tryz.func328, Tryz.ntmps328
  go_wp2_with fail
  refine (isFine_any _).mono ?_
  rintro e w1 ⟨rfl, rfl⟩
  go_wp2_with fail
  go_ret
  exact ⟨rfl, rfl⟩
theorem hiBucket_any (v : Nat) (hv : v ≤ maxU) (w : World) : Calls Tryz.prog 328 #[.int .i64 3, .int .u64 (v : Int)] w fun e w' => e = .returned (.int .i64 (bkt v : Nat)) ∧ Below w.heap.size w w' := by
  by_cases h0 : v = 0
  · subst h0
    refine (hiBucket0_any w).mono ?_
    rintro e w' ⟨rfl, rfl⟩
    exact ⟨rfl, Below.refl _ _⟩
  have hL := Lib.hid (len64_any (v : Int) w (by omega) (by have : v ≤ 18446744073709551615 := hv; omega))
  have hz : ¬ (v : Int) = 0 := by omega
  obtain ⟨hb1, hb2⟩ := bitLen_log2 v hv h0
  have hp1 := log2_le h0
  have hp2 := lt_log2 (v := v)
  have HE : Hid (bkt v = 1 + Nat.log2 v * 8 + (v - 2 ^ Nat.log2 v) * 8 / 2 ^ Nat.log2 v) := by
    show _ = _
    unfold bkt
    rw [if_neg h0]
  have hq := part_lt v
  generalize Nat.log2 v = k at *
  rw [show (v : Int).toNat = v from rfl, hb1] at hL
  have HW := Lib.hid (others_wrap v k hp1 hp2 hb2)
  have HS := Lib.hid (others_shr (v - 2 ^ k) k hb2)
  generalize bkt v = r at *
  clear hv hb1 hp1 hp2
  have hk : (k : Int) ≤ 63 := by omega
  go_enter Tryz.func328, Tryz.ntmps328
  go_wp2_with fail
  refine (isFine_any _).mono ?_
  rintro e w1 ⟨rfl, rfl⟩
  go_wp2_with fail
  refine hL.out.mono ?_
  rintro e w1 ⟨rfl, rfl⟩
  clear hL
  go_wp2_with fail
  rw [HW.out]
  generalize (v - 2 ^ k) * 2 ^ (64 - k) = m at *
  generalize (v - 2 ^ k) * 8 / 2 ^ k = q at *
  have st := St.start w1
  obtain ⟨bl2, E2, hne2, sh2, rl, hEx, hbx, hst⟩ := st.hide
  refine region_st sh2 (by kernel_rfl) (by kernel_rfl) ?_
  repeat (first | go_big_quiet_step (fail) | quiet_step (fail))
  refine wpQuiet_nil ?_
  intro y
  have hb := (hbx y).out
  clear hbx rl hst sh2 hEx st
  generalize y.W = w4 at *
  have hfin : wrap64 (1 + (k : Int) * 8 + wrap64 ((m : Int) / 2305843009213693952)) = (r : Int) := by
    have hs : m / 2305843009213693952 = q := HS.out
    have he := HE.out
    have e1 : (m : Int) / 2305843009213693952 = (q : Int) := by omega
    rw [e1]
    simp [wrap64]
    omega
  rw [hfin]
  go_wp2_with fail
  go_ret
  exact ⟨rfl, hb⟩
def GoodB (a : Nat) : Prop := a = 0 ∨ (1 ≤ a ∧ (a - 1) / 8 < 64 ∧ (3 ≤ (a - 1) / 8 ∨ (a - 1) % 8 % 2 ^ (3 - (a - 1) / 8) = 0))
theorem bkt_good (v : Nat) (hv : v ≤ maxU) : GoodB (bkt v) := by
  by_cases h0 : v = 0
  · subst h0; exact .inl rfl
  obtain ⟨_, h63⟩ := bitLen_log2 v hv h0
  have hp1 := log2_le h0
  have hq := part_lt v
  have e : bkt v = 1 + Nat.log2 v * 8 + (v - 2 ^ Nat.log2 v) * 8 / 2 ^ Nat.log2 v := by unfold bkt; rw [if_neg h0]
  refine .inr ?_
  rw [e]
  generalize Nat.log2 v = k at *
  have hk3 : k < 3 → (v - 2 ^ k) * 8 / 2 ^ k = (v - 2 ^ k) * 2 ^ (3 - k) := by
    intro h
    have hc : k = 0 ∨ k = 1 ∨ k = 2 := by omega
    rcases hc with rfl | rfl | rfl <;> simp <;> omega
  generalize v - 2 ^ k = x at *
  generalize x * 8 / 2 ^ k = p at *
  have e1 : (1 + k * 8 + p - 1) / 8 = k := by omega
  have e2 : (1 + k * 8 + p - 1) % 8 = p := by omega
  rw [e1, e2]
  refine ⟨by omega, by omega, ?_⟩
  by_cases h3 : 3 ≤ k
  · exact .inl h3
  · exact .inr (by rw [hk3 (by omega)]; exact Nat.mul_mod_left _ _)
theorem i64_wraps (n : Int) (h₀ : 0 ≤ n) (h₁ : n < 2 ^ 63) : IntKind.i64.wrap n = n := by rw [IntKind.wrap_i64]; omega
theorem i64_and7 (x : Int) (h₀ : 0 ≤ x) (h₁ : x < 2 ^ 63) : bits .and .i64 x 7 = x % 8 := bits_mask .i64 63 (by decide) i64_wraps 3 (by decide) x h₀ h₁
theorem i64_and3 (x : Int) (h₀ : 0 ≤ x) (h₁ : x < 2 ^ 63) : bits .and .i64 x 3 = x % 4 := bits_mask .i64 63 (by decide) i64_wraps 2 (by decide) x h₀ h₁
theorem i64_and1 (x : Int) (h₀ : 0 ≤ x) (h₁ : x < 2 ^ 63) : bits .and .i64 x 1 = x % 2 := bits_mask .i64 63 (by decide) i64_wraps 1 (by decide) x h₀ h₁
theorem hiBounds0_any (w : World) : Calls Tryz.prog 217 #[.int .i64 3, .int .i64 0] w fun e w' => (∃ x y : Int, e = .returned (.tuple #[.int .u64 x, .int .u64 y, .bool true])) ∧ Below w.heap.size w w' := by
  go_enter Tryz.func217, Tryz.ntmps217
  go_wp2_with fail
  refine wp_scope_straight ?_
  go_wp2_with fail
  refine (isFine_any _).mono ?_
  rintro e w1 ⟨rfl, rfl⟩
  go_wp2_with fail
  simp only [Exit.noGoto]
  go_ret3
  exact ⟨⟨_, _, rfl⟩, Below.refl _ _⟩
theorem hiBounds_any (a : Nat) (ha : GoodB a) (w : World) : Calls Tryz.prog 217 #[.int .i64 3, .int .i64 (a : Int)] w fun e w' => (∃ x y : Int, e = .returned (.tuple #[.int .u64 x, .int .u64 y, .bool true])) ∧ Below w.heap.size w w' := by
  rcases ha with rfl | ⟨h1, h64, hc⟩
  · exact hiBounds0_any w
  obtain ⟨k, hk⟩ : ∃ k, (a - 1) / 8 = k := ⟨_, rfl⟩
  obtain ⟨p, hp⟩ : ∃ p, (a - 1) % 8 = p := ⟨_, rfl⟩
  rw [hk] at h64
  rw [hk, hp] at hc
  have hp8 : p < 8 := by omega
  have hap : ¬ (a : Int) = 0 := by omega
  have haq : ¬ (a : Int) < 0 := by omega
  have HA := Lib.hid (show bits .and .i64 ((a : Int) - 1) 7 = (p : Int) by rw [i64_and7 _ (by omega) (by omega)]; omega)
  have HK := Lib.hid (show ((a : Int) - 1) / 8 = (k : Int) by omega)
  have hau : (a : Int) ≤ 512 := by omega
  clear hk hp
  have hk64 : ¬ 64 ≤ (k : Int) := by omega
  go_enter Tryz.func217, Tryz.ntmps217
  go_wp2_with fail
  refine wp_scope_straight ?_
  go_wp2_with fail
  refine (isFine_any _).mono ?_
  rintro e w1 ⟨rfl, rfl⟩
  go_wp2_with fail
  obtain ⟨bl2, E2, hne2, sh2, rl, hEx, hbx, hst⟩ := (St.start w1).hide
  refine region_st sh2 (by kernel_rfl) (by kernel_rfl) ?_
  repeat (first | go_big_quiet_step (fail) | quiet_step (fail))
  rw [HA.out, HK.out]
  refine wpQuiet_nil ?_
  intro y
  have hb := (hbx y).out
  clear hbx rl hst sh2 hEx HA HK hau hap haq
  generalize y.W = w4 at *
  by_cases h3 : 3 ≤ k
  · have h3' : 3 ≤ (k : Int) := by omega
    clear hc
    go_wp2_with fail
    obtain ⟨bl2, E2, hne2, sh2, rl, hEx, hbx, hst⟩ := (St.start w4).hide
    refine region_st sh2 (by kernel_rfl) (by kernel_rfl) ?_
    repeat (first | go_big_quiet_step (fail) | quiet_step (fail))
    refine wpQuiet_nil ?_
    intro y
    have hb5 := (hbx y).out
    clear hbx rl hst sh2 hEx
    generalize y.W = w5 at *
    go_wp2_with fail
    simp only [Exit.noGoto]
    go_ret3
    exact ⟨⟨_, _, rfl⟩, hb.trans (hb5.mono hb.size)⟩
  · have hk' : k = 0 ∨ k = 1 ∨ k = 2 := by omega
    have hc' := hc.resolve_left h3
    clear hc h3
    rcases hk' with rfl | rfl | rfl
    · have hm : bits .and .i64 (p : Int) 7 = 0 := by rw [i64_and7 _ (by omega) (by omega)]; simp at hc'; omega
      clear hc'
      go_wp2_with fail
      simp only [Exit.noGoto]
      go_ret3
      exact ⟨⟨_, _, rfl⟩, hb⟩
    · have hm : bits .and .i64 (p : Int) 3 = 0 := by rw [i64_and3 _ (by omega) (by omega)]; simp at hc'; omega
      clear hc'
      go_wp2_with fail
      simp only [Exit.noGoto]
      go_ret3
      exact ⟨⟨_, _, rfl⟩, hb⟩
    · have hm : bits .and .i64 (p : Int) 1 = 0 := by rw [i64_and1 _ (by omega) (by omega)]; simp at hc'; omega
      clear hc'
      go_wp2_with fail
      simp only [Exit.noGoto]
      go_ret3
      exact ⟨⟨_, _, rfl⟩, hb⟩
end Go.Proofs.YtmgdbfmlnmahpaaGreatDoor
namespace Go.Proofs.YtmgdbfmlnmahpaaGreatDoor
open Go.RowKit Go.Shelf
set_option linter.unusedSimpArgs false
set_option linter.unusedVariables false
set_option maxRecDepth 100000
def encB (x : Nat × Nat) : List Value := [.int .i64 (x.1 : Nat), .int .u64 (x.2 : Nat)]
theorem encB_len (x : Nat × Nat) : (encB x).length = 2 := rfl
theorem encB_one (x : Nat × Nat) : ∀ v ∈ encB x, v.oneCell' = true := by intro v hv; simp [encB] at hv; rcases hv with rfl | rfl <;> rfl
abbrev histV (s : Option Addr) (n cap : Nat) : Value := .agg #[.int .i64 3, .slice s n cap]
def GoodL (l : List (Nat × Nat)) : Prop := AscH l ∧ PosH l ∧ ∀ x ∈ l, GoodB x.1
theorem bin_at {W : World} {s : Option Addr} {l : List (Nat × Nat)} (h : Rd 2 encB W s l) {i : Nat} {x : Nat × Nat} (hx : l[i]? = some x) : ∃ g o, s = some ⟨g, o, none⟩ ∧ g < W.heap.size ∧ W.cell? ⟨g, o + i * 2, none⟩ = some (.int .i64 (x.1 : Nat)) ∧ W.cell? ⟨g, o + i * 2 + 1, none⟩ = some (.int .u64 (x.2 : Nat)) := by
  obtain ⟨g, o, e, hg, hc⟩ := h i x hx
  exact ⟨g, o, e, hg, hc 0 _ rfl, hc 1 _ rfl⟩
def befH (l : List (Nat × Nat)) : Nat → Int
  | 0 => -1
  | k + 1 => ((l.getD k (0, 0)).1 : Nat)
theorem befH_lt {l : List (Nat × Nat)} (h : AscH l) {k : Nat} {x : Nat × Nat} (hx : l[k]? = some x) : befH l k < (x.1 : Int) := by
  cases k with
  | zero => show (-1 : Int) < _; omega
  | succ k =>
    obtain ⟨hk, e⟩ := List.getElem?_eq_some_iff.1 hx
    have := List.pairwise_iff_getElem.1 h k (k + 1) (by omega) hk (by omega)
    rw [e] at this
    show (((l.getD k (0, 0)).1 : Nat) : Int) < _
    have e2 : l.getD k (0, 0) = l[k] := by simp [List.getD, List.getElem?_eq_getElem (show k < l.length by omega)]
    rw [e2]
    omega
theorem befH_next {l : List (Nat × Nat)} {k : Nat} {x : Nat × Nat} (hx : l[k]? = some x) : befH l (k + 1) = (x.1 : Nat) := by
  show (((l.getD k (0, 0)).1 : Nat) : Int) = _
  simp [List.getD, hx]
theorem hiRight_any (l : List (Nat × Nat)) (hl : GoodL l) (s : Option Addr) (cap : Nat) (hlen : l.length ≤ 1000000) (hcap : l.length ≤ cap) (w : World) (hL : Rd 2 encB w s l) :
    Calls Tryz.prog 177 #[histV s l.length cap] w fun e w' => e = .returned (.bool true) ∧ Below w.heap.size w w' := by
  have st := (St.start w).alloc (cs := #[.int .i64 3, .slice s l.length cap]) (T := 101)
  have rl := st.rules
  simp only [Rules, World.size_alloc] at rl
  go_enter Tryz.func177, Tryz.ntmps177
  go_wp2_with fail
  refine (isFine_any _).mono ?_
  rintro e w1 ⟨rfl, rfl⟩
  go_wp2_with fail
  go_loopw [3, 16] (fun bf i wr => ∃ k : Nat, k ≤ l.length ∧ i = .int .i64 (k : Int) ∧ (∃ z : Int, z = befH l k ∧ bf = .int .i64 z) ∧ St w [(w.heap.size, #[.int .i64 3, .slice s l.length cap], 101)] (fun _ => True) wr) (fun _ i _ => l.length - (intOf i).toNat)
  case atStart => exact ⟨0, Nat.zero_le _, rfl, ⟨_, rfl, rfl⟩, st⟩
  case round =>
    clear rl st
    obtain ⟨k, hk, rfl, ⟨z, hz, rfl⟩, st⟩ := hrel
    have rl := st.rules
    simp only [Rules] at rl
    by_cases hlt : k < l.length
    · obtain ⟨x, hx⟩ : ∃ x, l[k]? = some x := ⟨_, List.getElem?_eq_getElem hlt⟩
      obtain ⟨g, o, rfl, hg, hc1, hc2⟩ := bin_at (hL.keepB (Nat.le_refl _) st.below) hx
      have hgb := hl.2.2 x (List.mem_of_getElem? hx)
      have hpos := (hl.2.1 x (List.mem_of_getElem? hx)).1
      have hbf := befH_lt hl.1 hx
      have HN := Lib.hid (befH_next hx)
      obtain ⟨xa, xn⟩ := x
      simp only at hc1 hc2 hgb hpos hbf HN
      rw [← hz] at hbf
      have hn0 : ¬ ((xn : Int) = 0) := by omega
      have hle : ¬ ((xa : Int) ≤ z) := by omega
      have HB := Lib.hid (fun W => hiBounds_any xa hgb W)
      have stb := st.alloc (cs := #[.int .i64 (xa : Nat), .int .u64 (xn : Nat)]) (T := 277)
      clear hx hz hgb hpos hbf
      go_wp2_with fail
      refine (HB.out _).mono ?_
      rintro e w2 ⟨⟨y1, y2, rfl⟩, hb2⟩
      have st2 := stb.to hb2
      have rl := st2.rules
      simp only [Rules] at rl
      clear stb hb2 st hc1 hc2 HB
      go_wp2_with fail
      · rename_i hor
        exfalso
        rcases hor with hor | hor
        · rw [beq_iff_eq] at hor; omega
        · omega
      · refine ⟨⟨k + 1, hlt, by go_num, ⟨_, HN.out.symm, rfl⟩, st2.less _ (List.sublist_cons_self _ _)⟩, ?_⟩
        simp [intOf]; omega
    · obtain rfl : k = l.length := by omega
      go_wp2_with fail
      go_ret
      exact ⟨rfl, st.below⟩
end Go.Proofs.YtmgdbfmlnmahpaaGreatDoor
