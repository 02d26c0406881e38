/- aviaryref17.Mint, walked. -/
import Derived.Test.YthhoikcknfbclaaDoorTokR
import Derived.Test.YthhoikcknfbclaaDoorApp
namespace Go.Proofs.YthhoikcknfbclaaDoor
open Go.RowKit
set_option linter.unusedSimpArgs false

set_option maxRecDepth 100000 in
set_option maxHeartbeats 4000000 in
theorem refMint_any (a b : BitVec 64) (t : Nat) (r : Int) (u : Nat) (ht : t < 18446744073709551616) (hr0 : -9223372036854775808 ≤ r) (hr : r ≤ 9223372036854775807) (hu : u < 18446744073709551616) (w : World) :
    Calls Tryd.prog 11 #[kv a b, cv t r u] w fun e w' => e = .returned (mintV a b t r u) ∧ Below w.heap.size w w' := by
  unfold mintV
  have st0 := ((St.start w).alloc (cs := #[.int .u64 (un a), .int .u64 (un b)]) (T := 24)).alloc (cs := #[.int .u64 t, .int .i64 r, .int .u64 u]) (T := 26)
  by_cases h1 : r < 1
  · rw [if_neg (by omega)]
    go_enter Tryd.func11, Tryd.ntmps11
    go_wp2_with fail
    go_ret2
    exact ⟨rfl, st0.below⟩
  by_cases h3 : 3 < r
  · rw [if_neg (by omega)]
    go_enter Tryd.func11, Tryd.ntmps11
    go_wp2_with fail
    go_ret2
    exact ⟨rfl, st0.below⟩
  rw [if_pos (by omega)]
  obtain ⟨r, rfl⟩ := Int.eq_ofNat_of_zero_le (show 0 ≤ r by omega)
  rw [Int.toNat_natCast]
  have hr1 : 1 ≤ r := by omega
  have hr3 : r ≤ 3 := by omega
  clear h1 h3 hr0 hr
  have HM : Hid (mintB a b t r u = bodyB t r u ++ ⟨(be (sipSum (childA a b tokB.data.toList) (childB a b tokB.data.toList) (bodyB t r u).data.toList).toNat 8).toArray⟩) := rfl
  generalize mintB a b t r u = MB at *
  go_enter Tryd.func11, Tryd.ntmps11
  go_wp2_with fail
  refine (refBody0_any t r u ht hr3 hu _).mono ?_
  rintro e w1 ⟨rfl, hb1⟩
  have st1 := st0.to hb1
  clear st0 hb1
  have rl := st1.rules
  simp only [Rules, World.size_alloc] at rl
  have hz := (bodyB_size t r u).2
  generalize bodyB t r u = bd at *
  go_wp2_with fail
  refine (refChild_any a b _ (by decide) _).mono ?_
  rintro e w2 ⟨rfl, hb2⟩
  have st2 := st1.to hb2
  clear st1 hb2 rl
  go_wp2_with fail
  refine (refSum_any _ _ bd (by omega) _).mono ?_
  rintro e w3 ⟨rfl, hb3⟩
  have st3 := st2.to hb3
  clear st2 hb3
  generalize sipSum (childA a b tokB.data.toList) (childB a b tokB.data.toList) bd.data.toList = v at *
  obtain ⟨n, hn⟩ : ∃ n : Nat, un v = (n : Int) ∧ v.toNat = n := ⟨v.toNat, rfl, rfl⟩
  rw [hn.1]
  rw [hn.2] at HM
  have hn64 : n < 18446744073709551616 := by have := v.isLt; omega
  clear hn
  have o0 : w3.ownsRow w3.heap.size 5 1 (.slice none 0 0) 0 [] := World.ownsRow_nil _ _ _ _
  have g0 : Below w3.heap.size w3 w3 := Below.refl _ _
  go_wp2_with fail
  refine wp_loop_rounds 9 ?_
  rw [rounds_succ]
  go_wp2_with (first | (at_builtin; refine append1 rfl (.tmp 28) (.tmp 34) rfl w3.heap.size (.slice none 0 0) 0 _ _ rfl o0 _ (rfl) rfl (by decide) g0.size ?_; intro v1 x1 o1 q1; have g1 := g0.trans q1))
  clear o0 g0 q1
  rw [rounds_succ]
  go_wp2_with (first | (at_builtin; refine append1 rfl (.tmp 28) (.tmp 34) rfl w3.heap.size v1 1 _ _ rfl o1 _ (rfl) rfl (by decide) g1.size ?_; intro v2 x2 o2 q2; have g2 := g1.trans q2))
  clear o1 g1 q2
  rw [rounds_succ]
  go_wp2_with (first | (at_builtin; refine append1 rfl (.tmp 28) (.tmp 34) rfl w3.heap.size v2 2 _ _ rfl o2 _ (rfl) rfl (by decide) g2.size ?_; intro v3 x3 o3 q3; have g3 := g2.trans q3))
  clear o2 g2 q3
  rw [rounds_succ]
  go_wp2_with (first | (at_builtin; refine append1 rfl (.tmp 28) (.tmp 34) rfl w3.heap.size v3 3 _ _ rfl o3 _ (rfl) rfl (by decide) g3.size ?_; intro v4 x4 o4 q4; have g4 := g3.trans q4))
  clear o3 g3 q4
  rw [rounds_succ]
  go_wp2_with (first | (at_builtin; refine append1 rfl (.tmp 28) (.tmp 34) rfl w3.heap.size v4 4 _ _ rfl o4 _ (rfl) rfl (by decide) g4.size ?_; intro v5 x5 o5 q5; have g5 := g4.trans q5))
  clear o4 g4 q5
  rw [rounds_succ]
  go_wp2_with (first | (at_builtin; refine append1 rfl (.tmp 28) (.tmp 34) rfl w3.heap.size v5 5 _ _ rfl o5 _ (rfl) rfl (by decide) g5.size ?_; intro v6 x6 o6 q6; have g6 := g5.trans q6))
  clear o5 g5 q6
  rw [rounds_succ]
  go_wp2_with (first | (at_builtin; refine append1 rfl (.tmp 28) (.tmp 34) rfl w3.heap.size v6 6 _ _ rfl o6 _ (rfl) rfl (by decide) g6.size ?_; intro v7 x7 o7 q7; have g7 := g6.trans q7))
  clear o6 g6 q7
  rw [rounds_succ]
  go_wp2_with (first | (at_builtin; refine append1 rfl (.tmp 28) (.tmp 34) rfl w3.heap.size v7 7 _ _ rfl o7 _ (rfl) rfl (by decide) g7.size ?_; intro v8 x8 o8 q8; have g8 := g7.trans q8))
  clear o7 g7 q8
  have hc := conv_own (ns := [(n : Int) / 72057594037927936, (n : Int) / 281474976710656 % 256, (n : Int) / 1099511627776 % 256, (n : Int) / 4294967296 % 256, (n : Int) / 16777216 % 256, (n : Int) / 65536 % 256, (n : Int) / 256 % 256, (n : Int) % 256]) o8 (by decide)
  have hcz : (⟨([(n : Int) / 72057594037927936, (n : Int) / 281474976710656 % 256, (n : Int) / 1099511627776 % 256, (n : Int) / 4294967296 % 256, (n : Int) / 16777216 % 256, (n : Int) / 65536 % 256, (n : Int) / 256 % 256, (n : Int) % 256].map fun m => UInt8.ofNat m.toNat).toArray⟩ : ByteArray).size = 8 := rfl
  rw [rounds_succ]
  go_wp2_with fail
  go_ret2
  exact ⟨by rw [HM.out, be8]; rfl, st3.below.trans (g8.mono st3.below.size)⟩

end Go.Proofs.YthhoikcknfbclaaDoor
