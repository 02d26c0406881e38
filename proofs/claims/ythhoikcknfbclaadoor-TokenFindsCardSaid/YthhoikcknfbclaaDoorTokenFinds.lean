/- TokenFinds: for every key, claim, change (not 0) and time, a token whose last eight bytes are others, or with a byte more or less, is none. No condition (the two sentinels of package field as the program's text lays them). -/
import Derived.Test.YthhoikcknfbclaaDoorCards
import Derived.Test.YthhoikcknfbclaaDoorTie
import Derived.Test.YthhoikcknfbclaaDoorLaid02
import Derived.Test.YthhoikcknfbclaaDoorOpen17
import Derived.SevenTiedAt
import Derived.JoinedOf
import Derived.ChangeSame
import Derived.ChangeVars
import Derived.Test.YthhoikcknfbclaaDoorTokF
import Derived.Test.YthhoikcknfbclaaDoorSpec3
import Derived.Test.YthhoikcknfbclaaDoorOpen
import Derived.WalkKit
import Derived.ProofKit
import Derived.OpenShut
import Derived.ShutString
import Derived.ChangeOld
import Derived.Below
namespace Go.Proofs.YthhoikcknfbclaaDoor.tokenFinds
open Go.ChangeShapes Go.WideShapes Go.ChangeAt Go.RowKit Go.Joins
set_option linter.unusedVariables false

theorem own : ownKnob Tryd.prog.godebug = none := by kernel_rfl
theorem laidOut : laidOutB Tryd.prog = true := by kernel_rfl

set_option linter.unusedSimpArgs false
set_option maxRecDepth 100000 in
set_option maxHeartbeats 4000000 in
theorem walk (ka kb : BitVec 64) (t1 : Nat) (r1 : Int) (u1 : Nat) (tb1 : t1 < 18446744073709551616) (ra1 : -9223372036854775808 ≤ r1) (rb1 : r1 ≤ 9223372036854775807) (ub1 : u1 < 18446744073709551616) (x2 : Nat) (xb2 : x2 < 18446744073709551616) (x3 : Nat) (xb3 : x3 < 18446744073709551616) (w : World) {sp sq : Addr} (hS : Sents sp sq w) :
    Calls Tryd.prog 5 #[.agg #[.int .u64 (un ka), .int .u64 (un kb)], .agg #[.int .u64 t1, .int .i64 r1, .int .u64 u1], .int .u64 x2, .int .u64 x3] w fun e w' => e = .returned (.bool true) ∧ Below w.heap.size w w' := by
  have st0 := ((St.start w).alloc (cs := #[.int .u64 (un ka), .int .u64 (un kb)]) (T := 24)).alloc (cs := #[.int .u64 t1, .int .i64 r1, .int .u64 u1]) (T := 26)
  simp only [World.size_alloc] at st0
  have C1 := Lib.hid (mint_any ka kb t1 r1 u1 tb1 ra1 rb1 ub1)
  by_cases h1 : 1 ≤ r1 ∧ r1 ≤ 3
  · rw [mintV_ok _ _ _ _ _ h1] at C1
    obtain ⟨q1, rfl⟩ := Int.eq_ofNat_of_zero_le (show 0 ≤ r1 by omega)
    rw [Int.toNat_natCast] at C1
    obtain ⟨hMz1, hMz2⟩ := mintB_size ka kb t1 q1 u1
    by_cases h0 : x2 = 0
    · subst h0
      generalize mintB ka kb t1 q1 u1 = M at *
      go_enter Tryd.func5, Tryd.ntmps5
      go_wp2_with fail
      refine (shown_any (hS.below (Nat.le_refl _) st0.below)).mono ?_
      rintro e w1 ⟨rfl, hb1⟩
      have st1 := st0.to hb1
      clear st0 hb1
      have rl := st1.rules
      simp only [Rules] at rl
      go_wp2_with fail
      refine (C1.out _).mono ?_
      rintro e w2 ⟨rfl, hb2⟩
      have st2 := st1.to hb2
      clear st1 hb2 rl
      have rl := st2.rules
      simp only [Rules] at rl
      go_wp2_with fail
      go_ret
      exact ⟨by first | rfl | (simp; done), st2.below⟩
    have K1 := Lib.hid (fun (w : World) (h : Sents sp sq w) => check_any h ka kb (mixB (mintB ka kb t1 q1 u1) x2) (by show (mixS _ _ _).toArray.size ≤ _; rw [List.size_toArray, mixS_length]; simp; omega) x3)
    rw [finds_mix ka kb t1 q1 u1 tb1 ub1 (by omega) (by omega) x3 x2 xb2 h0] at K1
    have K2 := Lib.hid (fun (w : World) (h : Sents sp sq w) => check_any h ka kb (mintB ka kb t1 q1 u1 ++ ⟨#[120]⟩) (by rw [ByteArray.size_append]; show _ + 1 ≤ _; omega) x3)
    rw [finds_more ka kb t1 q1 u1 tb1 ub1 (by omega) (by omega) x3] at K2
    obtain ⟨m, hm, hm2⟩ : ∃ m : Nat, (mintB ka kb t1 q1 u1).size = m + 1 ∧ ((mintB ka kb t1 q1 u1).size : Int) - 1 = (m : Int) := ⟨(mintB ka kb t1 q1 u1).size - 1, by omega, by omega⟩
    have K3 := Lib.hid (fun (w : World) (h : Sents sp sq w) => check_any h ka kb ((mintB ka kb t1 q1 u1).extract 0 m) (by simp; omega) x3)
    rw [finds_less ka kb t1 q1 u1 tb1 ub1 (by omega) (by omega) x3 m hm] at K3
    have HM := Lib.hid hm
    have HM2 := Lib.hid hm2
    clear hm hm2
    have hx0 : ((x2 : Int) == 0) = false := by rw [beq_eq_false_iff_ne]; omega
    have HX : Hid (mixB (mintB ka kb t1 q1 u1) x2 = ⟨(mixS (mintB ka kb t1 q1 u1).data.toList x2 8).toArray⟩) := rfl
    have hxz : (mintB ka kb t1 q1 u1 ++ (⟨#[120]⟩ : ByteArray)).size ≤ 40 := by rw [ByteArray.size_append]; show _ + 1 ≤ _; omega
    generalize mixB (mintB ka kb t1 q1 u1) x2 = R at *
    obtain ⟨T7, hT7⟩ : ∃ T7, (mintB ka kb t1 q1 u1).extract 0 m = T7 := ⟨_, rfl⟩
    have HT7 := Lib.hid hT7
    rw [hT7] at K3
    clear hT7
    generalize mintB ka kb t1 q1 u1 = M at *
    clear h1 tb1 ub1 ra1 rb1 xb3
    have hcv := bytes_of
    go_enter Tryd.func5, Tryd.ntmps5
    go_wp2_with fail
    refine (shown_any (hS.below (Nat.le_refl _) st0.below)).mono ?_
    rintro e w1 ⟨rfl, hb1⟩
    have st1 := st0.to hb1
    clear st0 hb1
    have rl := st1.rules
    simp only [Rules] at rl
    go_wp2_with fail
    refine (C1.out _).mono ?_
    rintro e w2 ⟨rfl, hb2⟩
    have st2 := st1.to hb2
    clear st1 hb2 rl
    have rl := st2.rules
    simp only [Rules] at rl
    go_wp2_with fail
    clear hcv rl
    obtain ⟨cap, hcap⟩ : ∃ cap, grownCap w2 M.size 0 5 = cap := ⟨_, rfl⟩
    rw [hcap]
    clear hcap
    have st3 := ((st2.to (((Below.refl _ _).alloc (Nat.le_refl _) (.cells (bytesRow M cap) 5 ((bytesRow M cap).size, (bytesRow M cap).size + 1))).drew)).also (F := Bts w2.heap.size (mixS M.data.toList x2 0)) (Bts.made w2 M cap) Bts.keep)
    have hg0 : w.heap.size ≤ w2.heap.size := st2.below.size
    have hgb : ∀ x ∈ [(w.heap.size + 1, (#[.int .u64 t1, .int .i64 q1, .int .u64 u1] : Array Value), (26 : TypeId)), (w.heap.size, #[.int .u64 (un ka), .int .u64 (un kb)], 24)], x.1 ≠ w2.heap.size := by
      intro x hx
      have := blk_lt (st2.blk x hx)
      omega
    clear st2
    have hlen : M.data.toList.length = M.size := by simp
    go_loopw [13] (fun i wr => ∃ k : Nat, k ≤ 8 ∧ i = .int .i64 k ∧ St w [(w.heap.size + 1, #[.int .u64 t1, .int .i64 q1, .int .u64 u1], 26), (w.heap.size, #[.int .u64 (un ka), .int .u64 (un kb)], 24)] (Bts w2.heap.size (mixS M.data.toList x2 k)) wr) (fun i _ => 8 - (intOf i).toNat)
    case atStart => exact ⟨0, Nat.zero_le _, rfl, st3.lessE st3.ex.2 Bts.keep⟩
    case round =>
      obtain ⟨k, hk, rfl, st4⟩ := hrel
      clear st3
      by_cases hlt : k < 8
      · obtain ⟨j, hj1, hj2⟩ : ∃ j : Nat, (M.size : Int) - 1 - (k : Int) = (j : Int) ∧ M.size - 1 - k = j := ⟨M.size - 1 - k, by omega, rfl⟩
        have hjl : j < M.size := by omega
        have hjm : (mixS M.data.toList x2 k)[j]? = some (M.data.toList.getD j 0) := by
          rw [mixS_at M.data.toList x2 k (by omega) j (by omega), if_neg (by omega)]
        have HS : Hid (mixS M.data.toList x2 (k + 1) = (mixS M.data.toList x2 k).set j (M.data.toList.getD j 0 ^^^ chB x2 k)) := by
          show (mixS M.data.toList x2 k).set (M.data.toList.length - 1 - k) (M.data.toList.getD (M.data.toList.length - 1 - k) 0 ^^^ chB x2 k) = _
          rw [hlen, hj2]
        have c := st4.ex.cell j _ hjm
        have f := st4.ex.free j (by rw [mixS_length]; omega)
        have hset := fun v => st4.ex.set j (by rw [mixS_length]; omega) v
        generalize M.data.toList.getD j 0 = y at *
        have hx8 : bits .xor .u8 (y.toNat : Int) ((x2 : Int) / 2 ^ (8 * k) % 256) = ((y ^^^ chB x2 k).toNat : Int) := by
          rw [show (x2 : Int) / 2 ^ (8 * k) = ((x2 / 2 ^ (8 * k) : Nat) : Int) by simp]
          exact xor_u8 _ _
        clear hjm
        have hwa : IntKind.i64.wrap ((M.size : Int) - 1) = (M.size : Int) - 1 := IntWalk.i64_in _ (by omega)
        have hwb : IntKind.i64.wrap (j : Int) = (j : Int) := IntWalk.i64_in _ (by omega)
        have hwc : IntKind.i64.wrap (8 * (k : Int)) = 8 * (k : Int) := IntWalk.i64_in _ (by omega)
        have hwd : (8 * (k : Int)).toNat = 8 * k := by omega
        have hwe : (0 : Int) ≤ 8 * (k : Int) := by omega
        have hwf : 8 * (k : Int) ≤ 64 := by omega
        go_wp2_with fail
        refine region_tail 20 (by kernel_rfl) (by kernel_rfl) ?_
        simp only [List.take_succ_cons, List.take_zero, List.drop_succ_cons, List.drop_zero]
        repeat still_step
        refine wpStill_nil ?_
        go_wp2_with fail
        go_roundw
        case rel => exact ⟨k + 1, by omega, by go_num, by rw [HS.out]; exact (st4.poke (o := j) hg0 hgb (hset _) Bts.keep).drew⟩
        case measure => simp [intOf]; omega
      · obtain rfl : k = 8 := by omega
        have hcv2 := st4.ex.conv M.size cap (by rw [mixS_length, hlen])
        rw [← HX.out] at hcv2
        have st5 := st4.lessE (F := fun _ => True) trivial (fun _ _ _ _ => trivial)
        clear st4
        have rl := st5.rules
        simp only [Rules] at rl
        go_wp2_with fail
        refine (K1.out _ (hS.below (Nat.le_refl _) st5.below)).mono ?_
        rintro e w6 ⟨rfl, hb6⟩
        have st6 := (st5.to hb6).alloc (cs := #[.int .u64 0, .int .i64 0, .int .u64 0]) (T := 26)
        clear rl hcv2
        have rl := (st5.to hb6).rules
        clear st5 hb6
        simp only [Rules] at rl
        go_wp2_with fail
        refine (K2.out _ (hS.below (Nat.le_refl _) st6.below)).mono ?_
        rintro e w7 ⟨rfl, hb7⟩
        have st8 := (st6.to hb7).alloc (cs := #[.int .u64 0, .int .i64 0, .int .u64 0]) (T := 26)
        clear rl
        have rl := (st6.to hb7).rules
        clear st6 hb7
        simp only [Rules] at rl
        go_wp2_with fail
        clear rl
        generalize w7.alloc (Obj.cells #[Value.int IntKind.u64 0, Value.int IntKind.i64 0, Value.int IntKind.u64 0] 26) = X8 at *
        refine region_late 12 10 (.int .i64 170) (Fs [IsVal (kv ka kb), IsVal (.string M), IsVal (.string M), IsVal (.int .i64 (M.size : Int)), IsVal (.int .i64 (m : Int)), IsVal (.string T7), IsVal (.int .u64 (x3 : Int)), IsVal (.tuple #[.agg #[.int .u64 0, .int .i64 0, .int .u64 0], .int .i64 170]), IsVal (.tuple #[.agg #[.int .u64 0, .int .i64 0, .int .u64 0], .int .i64 170]), IsVal (.agg #[.int .u64 0, .int .i64 0, .int .u64 0]), IsVal (.int .i64 170), IsNew X8.heap.size #[.int .u64 0, .int .i64 0, .int .u64 0] 26]) (by kernel_rfl) (by kernel_rfl) (by kernel_rfl) (Fs_stable _ ?stab) ?spec ?late (fun _ => rfl) ?store ?endd
        case stab =>
          simp only [List.forall_mem_cons]
          exact ⟨stableVal _, stableVal _, stableVal _, stableVal _, stableVal _, stableVal _, stableVal _, stableVal _, stableVal _, stableVal _, stableVal _, stableNew _ _ _, by simp⟩
        case spec =>
          refine ⟨?_, ?_, ?_, ?_, ?_, ?_, ?_, ?_, ?_, ?_, ?_, ?_, trivial⟩
          · intro a W hW hu hd
            have kc : ∀ c, a.eval (Operand.const c) = c := fun _ => rfl
            have kf : ∀ f, a.eval (Operand.func f) = .func (.func f) #[] #[] := fun _ => rfl
            have sW := st8.to hW
            have rl := sW.rules
            simp only [Rules, World.size_alloc] at rl
            have u4 : a.eval (Operand.tmp 4) = .pointer (some ⟨w.heap.size, 0, none⟩) := hu 4 (by decide)
            unfold StepOk
            rw [if_pos (by rfl)]
            clear hu hd
            generalize a.eval = ρ at *
            go_simp
            exact opOk_val rfl
          · intro a W hW hu hd
            have kc : ∀ c, a.eval (Operand.const c) = c := fun _ => rfl
            have kf : ∀ f, a.eval (Operand.func f) = .func (.func f) #[] #[] := fun _ => rfl
            have sW := st8.to hW
            have rl := sW.rules
            simp only [Rules, World.size_alloc] at rl
            have u10 : a.eval (Operand.tmp 10) = .string M := hu 10 (by decide)
            unfold StepOk
            rw [if_pos (by rfl)]
            clear hu hd
            generalize a.eval = ρ at *
            go_simp
            exact opOk_val rfl
          · intro a W hW hu hd
            have kc : ∀ c, a.eval (Operand.const c) = c := fun _ => rfl
            have kf : ∀ f, a.eval (Operand.func f) = .func (.func f) #[] #[] := fun _ => rfl
            have sW := st8.to hW
            have rl := sW.rules
            simp only [Rules, World.size_alloc] at rl
            have u10 : a.eval (Operand.tmp 10) = .string M := hu 10 (by decide)
            unfold StepOk
            rw [if_pos (by rfl)]
            clear hu hd
            generalize a.eval = ρ at *
            go_simp
            exact opOk_val rfl
          · intro a W hW hu hd
            have kc : ∀ c, a.eval (Operand.const c) = c := fun _ => rfl
            have kf : ∀ f, a.eval (Operand.func f) = .func (.func f) #[] #[] := fun _ => rfl
            have sW := st8.to hW
            have rl := sW.rules
            simp only [Rules, World.size_alloc] at rl
            have u83 : a.eval (Operand.tmp 83) = .string M := hd 2 83 (by kernel_rfl) rfl
            unfold StepOk
            rw [if_pos (by rfl)]
            clear hu hd
            generalize a.eval = ρ at *
            go_simp
            exact opOk_val rfl
          · intro a W hW hu hd
            have kc : ∀ c, a.eval (Operand.const c) = c := fun _ => rfl
            have kf : ∀ f, a.eval (Operand.func f) = .func (.func f) #[] #[] := fun _ => rfl
            have sW := st8.to hW
            have rl := sW.rules
            simp only [Rules, World.size_alloc] at rl
            have u84 : a.eval (Operand.tmp 84) = .int .i64 (M.size : Int) := hd 3 84 (by kernel_rfl) rfl
            have hm2 := HM2.out
            have hmb : IntKind.i64.wrap (m : Int) = (m : Int) := IntWalk.i64_in _ (by have := HM.out; omega)
            unfold StepOk
            rw [if_pos (by rfl)]
            clear hu hd
            generalize a.eval = ρ at *
            go_simp
            exact opOk_val rfl
          · intro a W hW hu hd
            have kc : ∀ c, a.eval (Operand.const c) = c := fun _ => rfl
            have kf : ∀ f, a.eval (Operand.func f) = .func (.func f) #[] #[] := fun _ => rfl
            have sW := st8.to hW
            have rl := sW.rules
            simp only [Rules, World.size_alloc] at rl
            have u82 : a.eval (Operand.tmp 82) = .string M := hd 1 82 (by kernel_rfl) rfl
            have u85 : a.eval (Operand.tmp 85) = .int .i64 (m : Int) := hd 4 85 (by kernel_rfl) rfl
            have hT := HT7.out
            have hmz : m ≤ M.size := by have := HM.out; omega
            unfold StepOk
            rw [if_pos (by rfl)]
            clear hu hd
            generalize a.eval = ρ at *
            go_simp
            exact opOk_val rfl
          · intro a W hW hu hd
            have kc : ∀ c, a.eval (Operand.const c) = c := fun _ => rfl
            have kf : ∀ f, a.eval (Operand.func f) = .func (.func f) #[] #[] := fun _ => rfl
            have sW := st8.to hW
            have rl := sW.rules
            simp only [Rules, World.size_alloc] at rl
            have u3 : a.eval (Operand.tmp 3) = .int .u64 (x3 : Int) := hu 3 (by decide)
            unfold StepOk
            rw [if_pos (by rfl)]
            clear hu hd
            generalize a.eval = ρ at *
            go_simp
            exact opOk_val rfl
          · intro a W hW hu hd
            have kc : ∀ c, a.eval (Operand.const c) = c := fun _ => rfl
            have kf : ∀ f, a.eval (Operand.func f) = .func (.func f) #[] #[] := fun _ => rfl
            have sW := st8.to hW
            have rl := sW.rules
            simp only [Rules, World.size_alloc] at rl
            have u81 : a.eval (Operand.tmp 81) = kv ka kb := hd 0 81 (by kernel_rfl) rfl
            have u86 : a.eval (Operand.tmp 86) = .string T7 := hd 5 86 (by kernel_rfl) rfl
            have u87 : a.eval (Operand.tmp 87) = .int .u64 (x3 : Int) := hd 6 87 (by kernel_rfl) rfl
            unfold StepOk
            rw [if_pos (by rfl)]
            clear hu hd
            generalize a.eval = ρ at *
            go_simp
            exact opOk_call (K3.out _ (hS.below (Nat.le_refl _) sW.below)) (fun _ _ => rfl)
          · intro a W hW hu hd
            have kc : ∀ c, a.eval (Operand.const c) = c := fun _ => rfl
            have kf : ∀ f, a.eval (Operand.func f) = .func (.func f) #[] #[] := fun _ => rfl
            have sW := st8.to hW
            have rl := sW.rules
            simp only [Rules, World.size_alloc] at rl
            have u88 : a.eval (Operand.tmp 88) = .tuple #[.agg #[.int .u64 0, .int .i64 0, .int .u64 0], .int .i64 170] := hd 7 88 (by kernel_rfl) rfl
            unfold StepOk
            rw [if_pos (by rfl)]
            clear hu hd
            generalize a.eval = ρ at *
            go_simp
            exact opOk_val rfl
          · intro a W hW hu hd
            have kc : ∀ c, a.eval (Operand.const c) = c := fun _ => rfl
            have kf : ∀ f, a.eval (Operand.func f) = .func (.func f) #[] #[] := fun _ => rfl
            have sW := st8.to hW
            have rl := sW.rules
            simp only [Rules, World.size_alloc] at rl
            have u80 : a.eval (Operand.tmp 80) = .tuple #[.agg #[.int .u64 0, .int .i64 0, .int .u64 0], .int .i64 170] := hd 8 80 (by kernel_rfl) rfl
            unfold StepOk
            rw [if_pos (by rfl)]
            clear hu hd
            generalize a.eval = ρ at *
            go_simp
            exact opOk_val rfl
          · intro a W hW hu hd
            have kc : ∀ c, a.eval (Operand.const c) = c := fun _ => rfl
            have kf : ∀ f, a.eval (Operand.func f) = .func (.func f) #[] #[] := fun _ => rfl
            have sW := st8.to hW
            have rl := sW.rules
            simp only [Rules, World.size_alloc] at rl
            have u80 : a.eval (Operand.tmp 80) = .tuple #[.agg #[.int .u64 0, .int .i64 0, .int .u64 0], .int .i64 170] := hd 8 80 (by kernel_rfl) rfl
            unfold StepOk
            rw [if_pos (by rfl)]
            clear hu hd
            generalize a.eval = ρ at *
            go_simp
            exact opOk_val rfl
          · intro a W hW hu hd
            have kc : ∀ c, a.eval (Operand.const c) = c := fun _ => rfl
            have kf : ∀ f, a.eval (Operand.func f) = .func (.func f) #[] #[] := fun _ => rfl
            have sW := st8.to hW
            have rl := sW.rules
            simp only [Rules, World.size_alloc] at rl
            unfold StepOk
            rw [if_pos (by rfl)]
            clear hu hd
            generalize a.eval = ρ at *
            go_simp
            exact opOk_new hW.size
        case late =>
          intro oq hoq a W hW hu hd W'
          cases hoq
          have u80 : a.eval (Operand.tmp 80) = .tuple #[.agg #[.int .u64 0, .int .i64 0, .int .u64 0], .int .i64 170] := hd 8 80 (by kernel_rfl) rfl
          clear hu hd
          generalize a.eval = ρ at *
          go_simp
        case store =>
          intro os hos a W hW hu hd
          cases hos
          have sW := st8.to hW
          have u89 : a.eval (Operand.tmp 89) = .agg #[.int .u64 0, .int .i64 0, .int .u64 0] := hd 9 89 (by kernel_rfl) rfl
          obtain ⟨A9, hA, hA9, hN9⟩ : IsNew X8.heap.size #[.int .u64 0, .int .i64 0, .int .u64 0] 26 (a.eval (Operand.tmp 18)) W := hd 11 18 (by kernel_rfl) rfl
          have rl := blk_cell hN9
          have rf := blk_free hN9
          clear hu hd
          generalize a.eval = ρ at *
          go_simp
        case endd =>
          intro v W hW hv
          have v0 : v 0 = (kv ka kb) := hv 0 (by omega)
          have v1 : v 1 = (.string M) := hv 1 (by omega)
          have v2 : v 2 = (.string M) := hv 2 (by omega)
          have v3 : v 3 = (.int .i64 (M.size : Int)) := hv 3 (by omega)
          have v4 : v 4 = (.int .i64 (m : Int)) := hv 4 (by omega)
          have v5 : v 5 = (.string T7) := hv 5 (by omega)
          have v6 : v 6 = (.int .u64 (x3 : Int)) := hv 6 (by omega)
          have v7 : v 7 = (.tuple #[.agg #[.int .u64 0, .int .i64 0, .int .u64 0], .int .i64 170]) := hv 7 (by omega)
          have v8 : v 8 = (.tuple #[.agg #[.int .u64 0, .int .i64 0, .int .u64 0], .int .i64 170]) := hv 8 (by omega)
          have v9 : v 9 = (.agg #[.int .u64 0, .int .i64 0, .int .u64 0]) := hv 9 (by omega)
          have v10 : v 10 = (.int .i64 170) := hv 10 (by omega)
          obtain ⟨D11, v11, hD11, hN11⟩ : IsNew X8.heap.size #[.int .u64 0, .int .i64 0, .int .u64 0] 26 (v 11) W := hv 11 (by omega)
          clear hv
          simp only [List.take_succ_cons, List.take_zero, List.drop_succ_cons, List.drop_zero, putAll, Nat.zero_add, Nat.reduceAdd]
          rw [v0, v1, v2, v3, v4, v5, v6, v7, v8, v9, v10, v11]
          clear v0 v1 v2 v3 v4 v5 v6 v7 v8 v9 v10 v11
          have sW := st8.to hW
          have sN := St.addNew st8 sW hD11 hN11
          have rl := sN.rules
          simp only [Rules] at rl
          have hle : w.heap.size ≤ D11 := Nat.le_trans st8.below.size hD11
          have sS := ((sN.setT 0 (o := 0) (v := .int .u64 0) rfl hle).setT 0 (o := 1) (v := .int .i64 0) rfl hle).setT 0 (o := 2) (v := .int .u64 0) rfl hle
          simp only [setB, List.modify_zero_cons, List.setIfInBounds_toArray, List.set_cons_succ, List.set_cons_zero] at sS
          go_wp2_with fail
          clear sN sW hN11 rl hW
          generalize ((W.setCell ⟨D11, 0, none⟩ (.int .u64 0)).setCell ⟨D11, 1, none⟩ (.int .i64 0)).setCell ⟨D11, 2, none⟩ (.int .u64 0) = XD at *
          clear st8
          rename St w _ _ XD => st9
          go_ret
          exact ⟨by first | rfl | (simp; done), st9.below⟩
  · rw [mintV_no _ _ _ _ _ h1] at C1
    clear h1
    go_enter Tryd.func5, Tryd.ntmps5
    go_wp2_with fail
    refine (shown_any (hS.below (Nat.le_refl _) st0.below)).mono ?_
    rintro e w1 ⟨rfl, hb1⟩
    have st1 := st0.to hb1
    clear st0 hb1
    have rl := st1.rules
    simp only [Rules] at rl
    go_wp2_with fail
    refine (C1.out _).mono ?_
    rintro e w2 ⟨rfl, hb2⟩
    have st2 := st1.to hb2
    clear st1 hb2 rl
    have rl := st2.rules
    simp only [Rules] at rl
    go_wp2_with fail
    go_ret
    exact ⟨by first | rfl | (simp; done), st2.below⟩


set_option maxRecDepth 100000 in
theorem lifted (os : Os) (started : os.Started) (H : Type) (enc : TypeId × Value → H) :
    ReturnsInHanded {} Tryd.checked os 5 .any (fun w args => (Rows.tokenFindsSpec.pre enc Tryd.prog Tryd.f5 Rows.tokenFindsRow.domain false w args ∧ laidMetH Tryd.prog laidL w) ∧ sizedMet enc Tryd.prog Tryd.f5 (OpenSpec.ofChange Rows.tokenFindsSpec) false w args) (Rows.tokenFindsSpec.post enc Tryd.prog Tryd.f5 false true false false) := by
  refine returnsInHanded_of_change_and (C := Tryd.checked) (X := fun w _ => laidMetH Tryd.prog laidL w) (fun _ _ _ hh h => h.of_heap hh) own started (by kernel_rfl) Tryd.func5
    (ChangeSpec.witness_at (enc := enc) (C := Tryd.checked) (os := os) (X := fun w _ => laidMetH Tryd.prog laidL w) false (laidWorld os) #[.agg #[.int .u64 0, .int .u64 0], .agg #[.int .u64 0, .int .i64 0, .int .u64 0], .int .u64 0, .int .u64 0] 8 rfl (by kernel_rfl) (by kernel_rfl) (by kernel_rfl) (by kernel_rfl) (by kernel_rfl) (laidWorld_metH os _)) ?_
  intro W base args ds gs before hval0 hW hcnd _ hL _
  obtain ⟨sp, sq, hS⟩ := sents_of_laid hL
  have hval : ∀ (j : Nat) t v, Tryd.f5.params[j]? = some t → args[j]? = some v → Value.okWide Tryd.prog W .any base t v := hval0
  have hW' := hW
  obtain ⟨p, q, hA0, hV, rfl, hfz, hnd⟩ := hW
  have hA : DataW.TrodAll enc Tryd.prog W 0 (fun _ => true) true Tryd.f5.params.toList args.toList ds p := hA0
  rw [Tryd.params5] at hA hval
  obtain ⟨v0, vs0, d0, ds0, p0, q0, hargs, rfl, rfl, h0, r0⟩ := trodAll_cons hA
  obtain ⟨v1, vs1, d1, ds1, p1, q1, rfl, rfl, rfl, h1, r1⟩ := trodAll_cons r0
  obtain ⟨v2, vs2, d2, ds2, p2, q2, rfl, rfl, rfl, h2, r2⟩ := trodAll_cons r1
  obtain ⟨v3, vs3, d3, ds3, p3, q3, rfl, rfl, rfl, h3, r3⟩ := trodAll_cons r2
  obtain ⟨rfl, rfl, rfl⟩ := trodAll_nil r3
  obtain rfl : args = #[v0, v1, v2, v3] := by cases args; simp_all
  obtain ⟨rfl, rfl⟩ := trodVars_none hV
  have k0 := h0
  have lt0 : ∀ x ∈ p0, x.block < W.heap.size := by obtain ⟨m, hm⟩ := k0; exact DataW.trod_lt m _ _ _ hm
  obtain ⟨a0, b0, rfl⟩ := openKey (hval 0 24 v0 rfl rfl) h0
  have k1 := h1
  have lt1 : ∀ x ∈ p1, x.block < W.heap.size := by obtain ⟨m, hm⟩ := k1; exact DataW.trod_lt m _ _ _ hm
  obtain ⟨ct1, cr1, cu1, rfl, tb1, ra1, rb1, ub1⟩ := openClaim (hval 1 26 v1 rfl rfl) h1
  have k2 := h2
  have lt2 : ∀ x ∈ p2, x.block < W.heap.size := by obtain ⟨m, hm⟩ := k2; exact DataW.trod_lt m _ _ _ hm
  obtain ⟨x2, rfl, xb2⟩ := openNat (hval 2 22 v2 rfl rfl) h2
  have k3 := h3
  have lt3 : ∀ x ∈ p3, x.block < W.heap.size := by obtain ⟨m, hm⟩ := k3; exact DataW.trod_lt m _ _ _ hm
  obtain ⟨x3, rfl, xb3⟩ := openNat (hval 3 22 v3 rfl rfl) h3
  clear hA0 hval0
  refine (walk a0 b0 ct1 cr1 cu1 tb1 ra1 rb1 ub1 x2 xb2 x3 xb3 W hS ).mono fun e W' ⟨he, bel⟩ => ?_
  subst he
  exact ⟨_, rfl, _, _, _, [], _, [], hW', trodAll_mk1 (shut_bool Tryd.underlying4 _), (trodAll_cons_mk (Below.trod laidOut (by kernel_rfl) (of_decide_eq_true (by kernel_rfl)) k0 bel lt0) (trodAll_cons_mk (Below.trod laidOut (by kernel_rfl) (of_decide_eq_true (by kernel_rfl)) k1 bel lt1) (trodAll_cons_mk (Below.trod laidOut (by kernel_rfl) (of_decide_eq_true (by kernel_rfl)) k2 bel lt2) (trodAll_cons_mk (Below.trod laidOut (by kernel_rfl) (of_decide_eq_true (by kernel_rfl)) k3 bel lt3) trodAll_mk0)))), rfl, bel.frame _, fun h => by cases h⟩

theorem over : Rows.tokenFindsRow.holds Tryd.pinned (OpenSpec.ofChange Rows.tokenFindsSpec) :=
  OpenClaim.holds_of_wide 5 Tryd.f5 rfl rfl rfl rfl rfl rfl rfl ⟨rfl, rfl, rfl, rfl, rfl⟩ rfl rfl rfl rfl rfl (by kernel_rfl) Tryd.func5 (by kernel_rfl)
    (of_decide_eq_true (by kernel_rfl)) (by unfold Func.isWrapper; first | (rw [if_pos (by decide +kernel)]; kernel_rfl) | (rw [if_neg (by decide +kernel)]; exact ⟨rfl, rfl⟩))
    (fun os started H enc _ => lifted os started H enc)

/-- THE STATEMENT -/
theorem proved : Rows.TokenFindsCardSaid :=
  Claim7.holds_tied_plain_at .later [] [.sentinel, .sentinel] true _ true over (fun _ h => by cases h) (by kernel_rfl) (fun _ h => by cases h) tokenFinds_row_tie rfl ⟨rfl, rfl⟩ (by kernel_rfl) rfl
    (fun f fn hf hfn => by
      obtain rfl : f = 5 := Option.some.inj ((show Tryd.prog.funcNamed "aviary/aviarylaw17.TokenFinds" = some 5 by kernel_rfl).symm.trans hf) |>.symm
      obtain rfl : fn = Tryd.f5 := (Option.some.inj (Tryd.func5.symm.trans hfn)).symm
      refine ⟨by kernel_rfl, fun j t ht => ?_⟩
      rw [Tryd.params5] at ht
      rcases j with _ | _ | _ | _ | j
      · obtain rfl : t = 24 := by simpa using ht.symm
        exact (show Tryd.prog.wantsStandIn 24 = false by kernel_rfl)
      · obtain rfl : t = 26 := by simpa using ht.symm
        exact (show Tryd.prog.wantsStandIn 26 = false by kernel_rfl)
      · obtain rfl : t = 22 := by simpa using ht.symm
        exact (show Tryd.prog.wantsStandIn 22 = false by kernel_rfl)
      · obtain rfl : t = 22 := by simpa using ht.symm
        exact (show Tryd.prog.wantsStandIn 22 = false by kernel_rfl)
      · simp at ht)
    (by kernel_rfl)
#print axioms proved
end Go.Proofs.YthhoikcknfbclaaDoor.tokenFinds
