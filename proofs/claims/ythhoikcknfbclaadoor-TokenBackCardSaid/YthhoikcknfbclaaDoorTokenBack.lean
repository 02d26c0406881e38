/- TokenBack: for every key, claim, time and text (its first hundred bytes), claims and tokens of the key are one to one. No condition (the two sentinels of package field as the program's text lays them). -/
import Derived.Test.YthhoikcknfbclaaDoorCards
import Derived.Test.YthhoikcknfbclaaDoorTie
import Derived.Test.YthhoikcknfbclaaDoorLaid02
import Derived.Test.YthhoikcknfbclaaDoorOpen17
import Derived.SevenTiedAt
import Derived.JoinedOf
import Derived.ChangeSame
import Derived.ChangeVars
import Derived.Test.YthhoikcknfbclaaDoorTokL
import Derived.Test.YthhoikcknfbclaaDoorSpec3
import Derived.Test.YthhoikcknfbclaaDoorOpen
import Derived.WalkKit
import Derived.ProofKit
import Derived.OpenShut
import Derived.ShutString
import Derived.ChangeOld
import Derived.Below
namespace Go.Proofs.YthhoikcknfbclaaDoor.tokenBack
open Go.ChangeShapes Go.WideShapes Go.ChangeAt Go.RowKit Go.Joins
set_option linter.unusedVariables false

theorem own : ownKnob Tryd.prog.godebug = none := by kernel_rfl
theorem laidOut : laidOutB Tryd.prog = true := by kernel_rfl

set_option linter.unusedSimpArgs false
set_option maxRecDepth 100000 in
set_option maxHeartbeats 4000000 in
theorem walk (ka kb : BitVec 64) (t1 : Nat) (r1 : Int) (u1 : Nat) (tb1 : t1 < 18446744073709551616) (ra1 : -9223372036854775808 ≤ r1) (rb1 : r1 ≤ 9223372036854775807) (ub1 : u1 < 18446744073709551616) (x2 : Nat) (xb2 : x2 < 18446744073709551616) (s3 : ByteArray) (hs3 : s3.size ≤ 9223372036854775807) (w : World) {sp sq : Addr} (hS : Sents sp sq w) :
    Calls Tryd.prog 4 #[.agg #[.int .u64 (un ka), .int .u64 (un kb)], .agg #[.int .u64 t1, .int .i64 r1, .int .u64 u1], .int .u64 x2, .string s3] w fun e w' => e = .returned (.bool true) ∧ Below w.heap.size w w' := by
  have st0 := ((St.start w).alloc (cs := #[.int .u64 (un ka), .int .u64 (un kb)]) (T := 24)).alloc (cs := #[.int .u64 t1, .int .i64 r1, .int .u64 u1]) (T := 26)
  simp only [World.size_alloc] at st0
  have C1 := Lib.hid (mint_any ka kb t1 r1 u1 tb1 ra1 rb1 ub1)
  have HC := Lib.hid (cut_any s3 hs3)
  have hc := cut100_size s3
  generalize cut100 s3 = c at *
  have K1 := Lib.hid (fun (w : World) (h : Sents sp sq w) => check_any h ka kb c (by omega) 0)
  by_cases h1 : 1 ≤ r1 ∧ r1 ≤ 3
  · rw [mintV_ok _ _ _ _ _ h1] at C1
    obtain ⟨q1, rfl⟩ := Int.eq_ofNat_of_zero_le (show 0 ≤ r1 by omega)
    rw [Int.toNat_natCast] at C1
    have K0 := Lib.hid (fun (w : World) (h : Sents sp sq w) => check_any h ka kb (mintB ka kb t1 q1 u1) (by have := (mintB_size ka kb t1 q1 u1).2; omega) x2)
    have B0 := Lib.hid (fun (w : World) (h : Sents sp sq w) => body_any h (mintB ka kb t1 q1 u1) (by have := (mintB_size ka kb t1 q1 u1).2; omega))
    rw [bodyOf_mint ka kb t1 q1 u1 tb1 ub1 (by omega) (by omega)] at K0 B0
    simp only [bodyV] at B0
    have E2 := Lib.hid (fun (h : u1 < x2) => checkV_2 (a := ka) (b := kb) (r := q1) (t := t1) rfl h)
    have E3 := Lib.hid (fun (h : ¬ u1 < x2) => checkV_3 (a := ka) (b := kb) (r := q1) (t := t1) rfl h)
    generalize mintB ka kb t1 q1 u1 = M at *
    clear h1 tb1 ub1 ra1 rb1 xb2
    rcases back_form ka kb c with ⟨t3, r3, u3, k1, k2, k3, k4, k5⟩ | k1
    · have C3 := Lib.hid (mint_any ka kb t3 r3 u3 k3 (by omega) (by omega) k4)
      rw [k2] at C3
      rw [k1] at K1
      clear k1 k2 k3 k4 k5
      by_cases hu : u1 < x2
      · rw [E2.out hu] at K0
        clear E2 E3
        go_enter Tryd.func4, Tryd.ntmps4
        go_wp2_with fail
        refine (shown_any (hS.below (Nat.le_refl _) st0.below)).mono ?_
        rintro e w1 ⟨rfl, hb1⟩
        have st1 := st0.to hb1
        clear st0 hb1
        have rl := st1.rules
        simp only [Rules] at rl
        go_wp2_with fail
        refine (C1.out _).mono ?_
        rintro e w2 ⟨rfl, hb2⟩
        have st2 := st1.to hb2
        clear st1 hb2 rl
        have rl := st2.rules
        simp only [Rules] at rl
        go_wp2_with fail
        refine (K0.out _ (hS.below (Nat.le_refl _) st2.below)).mono ?_
        rintro e w3 ⟨rfl, hb3⟩
        have st3 := (st2.to hb3).alloc (cs := #[.int .u64 0, .int .i64 0, .int .u64 0]) (T := 26)
        clear rl
        have rl := (st2.to hb3).rules
        clear st2 hb3
        simp only [Rules] at rl
        go_wp2_with fail
        refine (B0.out _ (hS.below (Nat.le_refl _) st3.below)).mono ?_
        rintro e w4 ⟨rfl, hb4⟩
        have st4 := (st3.to hb4).alloc (cs := #[.int .u64 t1, .int .i64 q1, .int .u64 u1]) (T := 26)
        clear rl
        have rl := (st3.to hb4).rules
        clear st3 hb4
        simp only [Rules] at rl
        go_wp2_with fail
        clear rl
        generalize w4.alloc (Obj.cells #[Value.int IntKind.u64 t1, Value.int IntKind.i64 q1, Value.int IntKind.u64 u1] 26) = X4 at *
        refine region_late 8 6 (.int .i64 0) (Fs [IsVal (kv ka kb), IsVal (.string s3), IsVal (.string c), IsVal (.tuple #[.agg #[.int .u64 (t3 : Int), .int .i64 (r3 : Int), .int .u64 (u3 : Int)], .int .i64 0]), IsVal (.tuple #[.agg #[.int .u64 (t3 : Int), .int .i64 (r3 : Int), .int .u64 (u3 : Int)], .int .i64 0]), IsVal (.agg #[.int .u64 (t3 : Int), .int .i64 (r3 : Int), .int .u64 (u3 : Int)]), IsVal (.int .i64 0), IsNew X4.heap.size #[.int .u64 0, .int .i64 0, .int .u64 0] 26]) (by kernel_rfl) (by kernel_rfl) (by kernel_rfl) (Fs_stable _ ?stab) ?spec ?late (fun _ => rfl) ?store ?endd
        case stab =>
          simp only [List.forall_mem_cons]
          exact ⟨stableVal _, stableVal _, stableVal _, stableVal _, stableVal _, stableVal _, stableVal _, stableNew _ _ _, by simp⟩
        case spec =>
          refine ⟨?_, ?_, ?_, ?_, ?_, ?_, ?_, ?_, trivial⟩
          · intro a W hW hu hd
            have kc : ∀ c, a.eval (Operand.const c) = c := fun _ => rfl
            have kf : ∀ f, a.eval (Operand.func f) = .func (.func f) #[] #[] := fun _ => rfl
            have sW := st4.to hW
            have rl := sW.rules
            simp only [Rules, World.size_alloc] at rl
            have u4 : a.eval (Operand.tmp 4) = .pointer (some ⟨w.heap.size, 0, none⟩) := hu 4 (by decide)
            unfold StepOk
            rw [if_pos (by rfl)]
            clear hu hd
            generalize a.eval = ρ at *
            go_simp
            exact opOk_val rfl
          · intro a W hW hu hd
            have kc : ∀ c, a.eval (Operand.const c) = c := fun _ => rfl
            have kf : ∀ f, a.eval (Operand.func f) = .func (.func f) #[] #[] := fun _ => rfl
            have sW := st4.to hW
            have rl := sW.rules
            simp only [Rules, World.size_alloc] at rl
            have u3 : a.eval (Operand.tmp 3) = .string s3 := hu 3 (by decide)
            unfold StepOk
            rw [if_pos (by rfl)]
            clear hu hd
            generalize a.eval = ρ at *
            go_simp
            exact opOk_val rfl
          · intro a W hW hu hd
            have kc : ∀ c, a.eval (Operand.const c) = c := fun _ => rfl
            have kf : ∀ f, a.eval (Operand.func f) = .func (.func f) #[] #[] := fun _ => rfl
            have sW := st4.to hW
            have rl := sW.rules
            simp only [Rules, World.size_alloc] at rl
            have u58 : a.eval (Operand.tmp 58) = .string s3 := hd 1 58 (by kernel_rfl) rfl
            unfold StepOk
            rw [if_pos (by rfl)]
            clear hu hd
            generalize a.eval = ρ at *
            go_simp
            exact opOk_call_same (HC.out _) rfl
          · intro a W hW hu hd
            have kc : ∀ c, a.eval (Operand.const c) = c := fun _ => rfl
            have kf : ∀ f, a.eval (Operand.func f) = .func (.func f) #[] #[] := fun _ => rfl
            have sW := st4.to hW
            have rl := sW.rules
            simp only [Rules, World.size_alloc] at rl
            have u57 : a.eval (Operand.tmp 57) = kv ka kb := hd 0 57 (by kernel_rfl) rfl
            have u59 : a.eval (Operand.tmp 59) = .string c := hd 2 59 (by kernel_rfl) rfl
            unfold StepOk
            rw [if_pos (by rfl)]
            clear hu hd
            generalize a.eval = ρ at *
            go_simp
            exact opOk_call (K1.out _ (hS.below (Nat.le_refl _) sW.below)) (fun _ _ => rfl)
          · intro a W hW hu hd
            have kc : ∀ c, a.eval (Operand.const c) = c := fun _ => rfl
            have kf : ∀ f, a.eval (Operand.func f) = .func (.func f) #[] #[] := fun _ => rfl
            have sW := st4.to hW
            have rl := sW.rules
            simp only [Rules, World.size_alloc] at rl
            have u60 : a.eval (Operand.tmp 60) = .tuple #[.agg #[.int .u64 (t3 : Int), .int .i64 (r3 : Int), .int .u64 (u3 : Int)], .int .i64 0] := hd 3 60 (by kernel_rfl) rfl
            unfold StepOk
            rw [if_pos (by rfl)]
            clear hu hd
            generalize a.eval = ρ at *
            go_simp
            exact opOk_val rfl
          · intro a W hW hu hd
            have kc : ∀ c, a.eval (Operand.const c) = c := fun _ => rfl
            have kf : ∀ f, a.eval (Operand.func f) = .func (.func f) #[] #[] := fun _ => rfl
            have sW := st4.to hW
            have rl := sW.rules
            simp only [Rules, World.size_alloc] at rl
            have u56 : a.eval (Operand.tmp 56) = .tuple #[.agg #[.int .u64 (t3 : Int), .int .i64 (r3 : Int), .int .u64 (u3 : Int)], .int .i64 0] := hd 4 56 (by kernel_rfl) rfl
            unfold StepOk
            rw [if_pos (by rfl)]
            clear hu hd
            generalize a.eval = ρ at *
            go_simp
            exact opOk_val rfl
          · intro a W hW hu hd
            have kc : ∀ c, a.eval (Operand.const c) = c := fun _ => rfl
            have kf : ∀ f, a.eval (Operand.func f) = .func (.func f) #[] #[] := fun _ => rfl
            have sW := st4.to hW
            have rl := sW.rules
            simp only [Rules, World.size_alloc] at rl
            have u56 : a.eval (Operand.tmp 56) = .tuple #[.agg #[.int .u64 (t3 : Int), .int .i64 (r3 : Int), .int .u64 (u3 : Int)], .int .i64 0] := hd 4 56 (by kernel_rfl) rfl
            unfold StepOk
            rw [if_pos (by rfl)]
            clear hu hd
            generalize a.eval = ρ at *
            go_simp
            exact opOk_val rfl
          · intro a W hW hu hd
            have kc : ∀ c, a.eval (Operand.const c) = c := fun _ => rfl
            have kf : ∀ f, a.eval (Operand.func f) = .func (.func f) #[] #[] := fun _ => rfl
            have sW := st4.to hW
            have rl := sW.rules
            simp only [Rules, World.size_alloc] at rl
            unfold StepOk
            rw [if_pos (by rfl)]
            clear hu hd
            generalize a.eval = ρ at *
            go_simp
            exact opOk_new hW.size
        case late =>
          intro oq hoq a W hW hu hd W'
          cases hoq
          have u56 : a.eval (Operand.tmp 56) = .tuple #[.agg #[.int .u64 (t3 : Int), .int .i64 (r3 : Int), .int .u64 (u3 : Int)], .int .i64 0] := hd 4 56 (by kernel_rfl) rfl
          clear hu hd
          generalize a.eval = ρ at *
          go_simp
        case store =>
          intro os hos a W hW hu hd
          cases hos
          have sW := st4.to hW
          have u61 : a.eval (Operand.tmp 61) = .agg #[.int .u64 (t3 : Int), .int .i64 (r3 : Int), .int .u64 (u3 : Int)] := hd 5 61 (by kernel_rfl) rfl
          obtain ⟨A9, hA, hA9, hN9⟩ : IsNew X4.heap.size #[.int .u64 0, .int .i64 0, .int .u64 0] 26 (a.eval (Operand.tmp 16)) W := hd 7 16 (by kernel_rfl) rfl
          have rl := blk_cell hN9
          have rf := blk_free hN9
          clear hu hd
          generalize a.eval = ρ at *
          go_simp
        case endd =>
          intro v W hW hv
          have v0 : v 0 = (kv ka kb) := hv 0 (by omega)
          have v1 : v 1 = (.string s3) := hv 1 (by omega)
          have v2 : v 2 = (.string c) := hv 2 (by omega)
          have v3 : v 3 = (.tuple #[.agg #[.int .u64 (t3 : Int), .int .i64 (r3 : Int), .int .u64 (u3 : Int)], .int .i64 0]) := hv 3 (by omega)
          have v4 : v 4 = (.tuple #[.agg #[.int .u64 (t3 : Int), .int .i64 (r3 : Int), .int .u64 (u3 : Int)], .int .i64 0]) := hv 4 (by omega)
          have v5 : v 5 = (.agg #[.int .u64 (t3 : Int), .int .i64 (r3 : Int), .int .u64 (u3 : Int)]) := hv 5 (by omega)
          have v6 : v 6 = (.int .i64 0) := hv 6 (by omega)
          obtain ⟨D7, v7, hD7, hN7⟩ : IsNew X4.heap.size #[.int .u64 0, .int .i64 0, .int .u64 0] 26 (v 7) W := hv 7 (by omega)
          clear hv
          simp only [List.take_succ_cons, List.take_zero, List.drop_succ_cons, List.drop_zero, putAll, Nat.zero_add, Nat.reduceAdd]
          rw [v0, v1, v2, v3, v4, v5, v6, v7]
          clear v0 v1 v2 v3 v4 v5 v6 v7
          have sW := st4.to hW
          have sN := St.addNew st4 sW hD7 hN7
          have rl := sN.rules
          simp only [Rules] at rl
          have hle : w.heap.size ≤ D7 := Nat.le_trans st4.below.size hD7
          have sS := ((sN.setT 0 (o := 0) (v := .int .u64 (t3 : Int)) rfl hle).setT 0 (o := 1) (v := .int .i64 (r3 : Int)) rfl hle).setT 0 (o := 2) (v := .int .u64 (u3 : Int)) rfl hle
          simp only [setB, List.modify_zero_cons, List.setIfInBounds_toArray, List.set_cons_succ, List.set_cons_zero] at sS
          have hk := blk_lt (st4.blk _ (List.mem_of_getElem? (i := 3) rfl))
          have qa : ¬ (w.heap.size = D7) := by omega
          have qb : ¬ (D7 = w.heap.size) := by omega
          clear hk
          go_wp2_with fail
          clear sN sW hN7 rl hW
          generalize ((W.setCell ⟨D7, 0, none⟩ (.int .u64 (t3 : Int))).setCell ⟨D7, 1, none⟩ (.int .i64 (r3 : Int))).setCell ⟨D7, 2, none⟩ (.int .u64 (u3 : Int)) = XD at *
          clear st4
          rename St w _ _ XD => st5
          have rl := st5.rules
          simp only [Rules] at rl
          refine (C3.out _).mono ?_
          rintro e w6 ⟨rfl, hb6⟩
          have st6 := st5.to hb6
          clear st5 hb6 rl
          have rl := st6.rules
          simp only [Rules] at rl
          go_wp2_with fail
          refine (HC.out _).mono ?_
          rintro e w9 ⟨rfl, rfl⟩
          go_wp2_with fail
          go_ret
          exact ⟨by first | rfl | (simp; done), st6.below⟩
      · rw [E3.out hu] at K0
        clear E2 E3
        go_enter Tryd.func4, Tryd.ntmps4
        go_wp2_with fail
        refine (shown_any (hS.below (Nat.le_refl _) st0.below)).mono ?_
        rintro e w1 ⟨rfl, hb1⟩
        have st1 := st0.to hb1
        clear st0 hb1
        have rl := st1.rules
        simp only [Rules] at rl
        go_wp2_with fail
        refine (C1.out _).mono ?_
        rintro e w2 ⟨rfl, hb2⟩
        have st2 := st1.to hb2
        clear st1 hb2 rl
        have rl := st2.rules
        simp only [Rules] at rl
        go_wp2_with fail
        refine (K0.out _ (hS.below (Nat.le_refl _) st2.below)).mono ?_
        rintro e w3 ⟨rfl, hb3⟩
        have st3 := (st2.to hb3).alloc (cs := #[.int .u64 t1, .int .i64 q1, .int .u64 u1]) (T := 26)
        clear rl
        have rl := (st2.to hb3).rules
        clear st2 hb3
        simp only [Rules] at rl
        go_wp2_with fail
        refine (B0.out _ (hS.below (Nat.le_refl _) st3.below)).mono ?_
        rintro e w4 ⟨rfl, hb4⟩
        have st4 := (st3.to hb4).alloc (cs := #[.int .u64 t1, .int .i64 q1, .int .u64 u1]) (T := 26)
        clear rl
        have rl := (st3.to hb4).rules
        clear st3 hb4
        simp only [Rules] at rl
        go_wp2_with fail
        clear rl
        generalize w4.alloc (Obj.cells #[Value.int IntKind.u64 t1, Value.int IntKind.i64 q1, Value.int IntKind.u64 u1] 26) = X4 at *
        refine region_late 8 6 (.int .i64 0) (Fs [IsVal (kv ka kb), IsVal (.string s3), IsVal (.string c), IsVal (.tuple #[.agg #[.int .u64 (t3 : Int), .int .i64 (r3 : Int), .int .u64 (u3 : Int)], .int .i64 0]), IsVal (.tuple #[.agg #[.int .u64 (t3 : Int), .int .i64 (r3 : Int), .int .u64 (u3 : Int)], .int .i64 0]), IsVal (.agg #[.int .u64 (t3 : Int), .int .i64 (r3 : Int), .int .u64 (u3 : Int)]), IsVal (.int .i64 0), IsNew X4.heap.size #[.int .u64 0, .int .i64 0, .int .u64 0] 26]) (by kernel_rfl) (by kernel_rfl) (by kernel_rfl) (Fs_stable _ ?stab) ?spec ?late (fun _ => rfl) ?store ?endd
        case stab =>
          simp only [List.forall_mem_cons]
          exact ⟨stableVal _, stableVal _, stableVal _, stableVal _, stableVal _, stableVal _, stableVal _, stableNew _ _ _, by simp⟩
        case spec =>
          refine ⟨?_, ?_, ?_, ?_, ?_, ?_, ?_, ?_, trivial⟩
          · intro a W hW hu hd
            have kc : ∀ c, a.eval (Operand.const c) = c := fun _ => rfl
            have kf : ∀ f, a.eval (Operand.func f) = .func (.func f) #[] #[] := fun _ => rfl
            have sW := st4.to hW
            have rl := sW.rules
            simp only [Rules, World.size_alloc] at rl
            have u4 : a.eval (Operand.tmp 4) = .pointer (some ⟨w.heap.size, 0, none⟩) := hu 4 (by decide)
            unfold StepOk
            rw [if_pos (by rfl)]
            clear hu hd
            generalize a.eval = ρ at *
            go_simp
            exact opOk_val rfl
          · intro a W hW hu hd
            have kc : ∀ c, a.eval (Operand.const c) = c := fun _ => rfl
            have kf : ∀ f, a.eval (Operand.func f) = .func (.func f) #[] #[] := fun _ => rfl
            have sW := st4.to hW
            have rl := sW.rules
            simp only [Rules, World.size_alloc] at rl
            have u3 : a.eval (Operand.tmp 3) = .string s3 := hu 3 (by decide)
            unfold StepOk
            rw [if_pos (by rfl)]
            clear hu hd
            generalize a.eval = ρ at *
            go_simp
            exact opOk_val rfl
          · intro a W hW hu hd
            have kc : ∀ c, a.eval (Operand.const c) = c := fun _ => rfl
            have kf : ∀ f, a.eval (Operand.func f) = .func (.func f) #[] #[] := fun _ => rfl
            have sW := st4.to hW
            have rl := sW.rules
            simp only [Rules, World.size_alloc] at rl
            have u58 : a.eval (Operand.tmp 58) = .string s3 := hd 1 58 (by kernel_rfl) rfl
            unfold StepOk
            rw [if_pos (by rfl)]
            clear hu hd
            generalize a.eval = ρ at *
            go_simp
            exact opOk_call_same (HC.out _) rfl
          · intro a W hW hu hd
            have kc : ∀ c, a.eval (Operand.const c) = c := fun _ => rfl
            have kf : ∀ f, a.eval (Operand.func f) = .func (.func f) #[] #[] := fun _ => rfl
            have sW := st4.to hW
            have rl := sW.rules
            simp only [Rules, World.size_alloc] at rl
            have u57 : a.eval (Operand.tmp 57) = kv ka kb := hd 0 57 (by kernel_rfl) rfl
            have u59 : a.eval (Operand.tmp 59) = .string c := hd 2 59 (by kernel_rfl) rfl
            unfold StepOk
            rw [if_pos (by rfl)]
            clear hu hd
            generalize a.eval = ρ at *
            go_simp
            exact opOk_call (K1.out _ (hS.below (Nat.le_refl _) sW.below)) (fun _ _ => rfl)
          · intro a W hW hu hd
            have kc : ∀ c, a.eval (Operand.const c) = c := fun _ => rfl
            have kf : ∀ f, a.eval (Operand.func f) = .func (.func f) #[] #[] := fun _ => rfl
            have sW := st4.to hW
            have rl := sW.rules
            simp only [Rules, World.size_alloc] at rl
            have u60 : a.eval (Operand.tmp 60) = .tuple #[.agg #[.int .u64 (t3 : Int), .int .i64 (r3 : Int), .int .u64 (u3 : Int)], .int .i64 0] := hd 3 60 (by kernel_rfl) rfl
            unfold StepOk
            rw [if_pos (by rfl)]
            clear hu hd
            generalize a.eval = ρ at *
            go_simp
            exact opOk_val rfl
          · intro a W hW hu hd
            have kc : ∀ c, a.eval (Operand.const c) = c := fun _ => rfl
            have kf : ∀ f, a.eval (Operand.func f) = .func (.func f) #[] #[] := fun _ => rfl
            have sW := st4.to hW
            have rl := sW.rules
            simp only [Rules, World.size_alloc] at rl
            have u56 : a.eval (Operand.tmp 56) = .tuple #[.agg #[.int .u64 (t3 : Int), .int .i64 (r3 : Int), .int .u64 (u3 : Int)], .int .i64 0] := hd 4 56 (by kernel_rfl) rfl
            unfold StepOk
            rw [if_pos (by rfl)]
            clear hu hd
            generalize a.eval = ρ at *
            go_simp
            exact opOk_val rfl
          · intro a W hW hu hd
            have kc : ∀ c, a.eval (Operand.const c) = c := fun _ => rfl
            have kf : ∀ f, a.eval (Operand.func f) = .func (.func f) #[] #[] := fun _ => rfl
            have sW := st4.to hW
            have rl := sW.rules
            simp only [Rules, World.size_alloc] at rl
            have u56 : a.eval (Operand.tmp 56) = .tuple #[.agg #[.int .u64 (t3 : Int), .int .i64 (r3 : Int), .int .u64 (u3 : Int)], .int .i64 0] := hd 4 56 (by kernel_rfl) rfl
            unfold StepOk
            rw [if_pos (by rfl)]
            clear hu hd
            generalize a.eval = ρ at *
            go_simp
            exact opOk_val rfl
          · intro a W hW hu hd
            have kc : ∀ c, a.eval (Operand.const c) = c := fun _ => rfl
            have kf : ∀ f, a.eval (Operand.func f) = .func (.func f) #[] #[] := fun _ => rfl
            have sW := st4.to hW
            have rl := sW.rules
            simp only [Rules, World.size_alloc] at rl
            unfold StepOk
            rw [if_pos (by rfl)]
            clear hu hd
            generalize a.eval = ρ at *
            go_simp
            exact opOk_new hW.size
        case late =>
          intro oq hoq a W hW hu hd W'
          cases hoq
          have u56 : a.eval (Operand.tmp 56) = .tuple #[.agg #[.int .u64 (t3 : Int), .int .i64 (r3 : Int), .int .u64 (u3 : Int)], .int .i64 0] := hd 4 56 (by kernel_rfl) rfl
          clear hu hd
          generalize a.eval = ρ at *
          go_simp
        case store =>
          intro os hos a W hW hu hd
          cases hos
          have sW := st4.to hW
          have u61 : a.eval (Operand.tmp 61) = .agg #[.int .u64 (t3 : Int), .int .i64 (r3 : Int), .int .u64 (u3 : Int)] := hd 5 61 (by kernel_rfl) rfl
          obtain ⟨A9, hA, hA9, hN9⟩ : IsNew X4.heap.size #[.int .u64 0, .int .i64 0, .int .u64 0] 26 (a.eval (Operand.tmp 16)) W := hd 7 16 (by kernel_rfl) rfl
          have rl := blk_cell hN9
          have rf := blk_free hN9
          clear hu hd
          generalize a.eval = ρ at *
          go_simp
        case endd =>
          intro v W hW hv
          have v0 : v 0 = (kv ka kb) := hv 0 (by omega)
          have v1 : v 1 = (.string s3) := hv 1 (by omega)
          have v2 : v 2 = (.string c) := hv 2 (by omega)
          have v3 : v 3 = (.tuple #[.agg #[.int .u64 (t3 : Int), .int .i64 (r3 : Int), .int .u64 (u3 : Int)], .int .i64 0]) := hv 3 (by omega)
          have v4 : v 4 = (.tuple #[.agg #[.int .u64 (t3 : Int), .int .i64 (r3 : Int), .int .u64 (u3 : Int)], .int .i64 0]) := hv 4 (by omega)
          have v5 : v 5 = (.agg #[.int .u64 (t3 : Int), .int .i64 (r3 : Int), .int .u64 (u3 : Int)]) := hv 5 (by omega)
          have v6 : v 6 = (.int .i64 0) := hv 6 (by omega)
          obtain ⟨D7, v7, hD7, hN7⟩ : IsNew X4.heap.size #[.int .u64 0, .int .i64 0, .int .u64 0] 26 (v 7) W := hv 7 (by omega)
          clear hv
          simp only [List.take_succ_cons, List.take_zero, List.drop_succ_cons, List.drop_zero, putAll, Nat.zero_add, Nat.reduceAdd]
          rw [v0, v1, v2, v3, v4, v5, v6, v7]
          clear v0 v1 v2 v3 v4 v5 v6 v7
          have sW := st4.to hW
          have sN := St.addNew st4 sW hD7 hN7
          have rl := sN.rules
          simp only [Rules] at rl
          have hle : w.heap.size ≤ D7 := Nat.le_trans st4.below.size hD7
          have sS := ((sN.setT 0 (o := 0) (v := .int .u64 (t3 : Int)) rfl hle).setT 0 (o := 1) (v := .int .i64 (r3 : Int)) rfl hle).setT 0 (o := 2) (v := .int .u64 (u3 : Int)) rfl hle
          simp only [setB, List.modify_zero_cons, List.setIfInBounds_toArray, List.set_cons_succ, List.set_cons_zero] at sS
          have hk := blk_lt (st4.blk _ (List.mem_of_getElem? (i := 3) rfl))
          have qa : ¬ (w.heap.size = D7) := by omega
          have qb : ¬ (D7 = w.heap.size) := by omega
          clear hk
          go_wp2_with fail
          clear sN sW hN7 rl hW
          generalize ((W.setCell ⟨D7, 0, none⟩ (.int .u64 (t3 : Int))).setCell ⟨D7, 1, none⟩ (.int .i64 (r3 : Int))).setCell ⟨D7, 2, none⟩ (.int .u64 (u3 : Int)) = XD at *
          clear st4
          rename St w _ _ XD => st5
          have rl := st5.rules
          simp only [Rules] at rl
          refine (C3.out _).mono ?_
          rintro e w6 ⟨rfl, hb6⟩
          have st6 := st5.to hb6
          clear st5 hb6 rl
          have rl := st6.rules
          simp only [Rules] at rl
          go_wp2_with fail
          refine (HC.out _).mono ?_
          rintro e w9 ⟨rfl, rfl⟩
          go_wp2_with fail
          go_ret
          exact ⟨by first | rfl | (simp; done), st6.below⟩
    · have C3 := Lib.hid (mint_any ka kb 0 0 0 (by decide) (by decide) (by decide) (by decide))
      rw [mintV_no _ _ _ _ _ (by decide)] at C3
      rw [k1] at K1
      clear k1
      by_cases hu : u1 < x2
      · rw [E2.out hu] at K0
        clear E2 E3
        go_enter Tryd.func4, Tryd.ntmps4
        go_wp2_with fail
        refine (shown_any (hS.below (Nat.le_refl _) st0.below)).mono ?_
        rintro e w1 ⟨rfl, hb1⟩
        have st1 := st0.to hb1
        clear st0 hb1
        have rl := st1.rules
        simp only [Rules] at rl
        go_wp2_with fail
        refine (C1.out _).mono ?_
        rintro e w2 ⟨rfl, hb2⟩
        have st2 := st1.to hb2
        clear st1 hb2 rl
        have rl := st2.rules
        simp only [Rules] at rl
        go_wp2_with fail
        refine (K0.out _ (hS.below (Nat.le_refl _) st2.below)).mono ?_
        rintro e w3 ⟨rfl, hb3⟩
        have st3 := (st2.to hb3).alloc (cs := #[.int .u64 0, .int .i64 0, .int .u64 0]) (T := 26)
        clear rl
        have rl := (st2.to hb3).rules
        clear st2 hb3
        simp only [Rules] at rl
        go_wp2_with fail
        refine (B0.out _ (hS.below (Nat.le_refl _) st3.below)).mono ?_
        rintro e w4 ⟨rfl, hb4⟩
        have st4 := (st3.to hb4).alloc (cs := #[.int .u64 t1, .int .i64 q1, .int .u64 u1]) (T := 26)
        clear rl
        have rl := (st3.to hb4).rules
        clear st3 hb4
        simp only [Rules] at rl
        go_wp2_with fail
        clear rl
        generalize w4.alloc (Obj.cells #[Value.int IntKind.u64 t1, Value.int IntKind.i64 q1, Value.int IntKind.u64 u1] 26) = X4 at *
        refine region_late 8 6 (.int .i64 170) (Fs [IsVal (kv ka kb), IsVal (.string s3), IsVal (.string c), IsVal (.tuple #[.agg #[.int .u64 0, .int .i64 0, .int .u64 0], .int .i64 170]), IsVal (.tuple #[.agg #[.int .u64 0, .int .i64 0, .int .u64 0], .int .i64 170]), IsVal (.agg #[.int .u64 0, .int .i64 0, .int .u64 0]), IsVal (.int .i64 170), IsNew X4.heap.size #[.int .u64 0, .int .i64 0, .int .u64 0] 26]) (by kernel_rfl) (by kernel_rfl) (by kernel_rfl) (Fs_stable _ ?stab) ?spec ?late (fun _ => rfl) ?store ?endd
        case stab =>
          simp only [List.forall_mem_cons]
          exact ⟨stableVal _, stableVal _, stableVal _, stableVal _, stableVal _, stableVal _, stableVal _, stableNew _ _ _, by simp⟩
        case spec =>
          refine ⟨?_, ?_, ?_, ?_, ?_, ?_, ?_, ?_, trivial⟩
          · intro a W hW hu hd
            have kc : ∀ c, a.eval (Operand.const c) = c := fun _ => rfl
            have kf : ∀ f, a.eval (Operand.func f) = .func (.func f) #[] #[] := fun _ => rfl
            have sW := st4.to hW
            have rl := sW.rules
            simp only [Rules, World.size_alloc] at rl
            have u4 : a.eval (Operand.tmp 4) = .pointer (some ⟨w.heap.size, 0, none⟩) := hu 4 (by decide)
            unfold StepOk
            rw [if_pos (by rfl)]
            clear hu hd
            generalize a.eval = ρ at *
            go_simp
            exact opOk_val rfl
          · intro a W hW hu hd
            have kc : ∀ c, a.eval (Operand.const c) = c := fun _ => rfl
            have kf : ∀ f, a.eval (Operand.func f) = .func (.func f) #[] #[] := fun _ => rfl
            have sW := st4.to hW
            have rl := sW.rules
            simp only [Rules, World.size_alloc] at rl
            have u3 : a.eval (Operand.tmp 3) = .string s3 := hu 3 (by decide)
            unfold StepOk
            rw [if_pos (by rfl)]
            clear hu hd
            generalize a.eval = ρ at *
            go_simp
            exact opOk_val rfl
          · intro a W hW hu hd
            have kc : ∀ c, a.eval (Operand.const c) = c := fun _ => rfl
            have kf : ∀ f, a.eval (Operand.func f) = .func (.func f) #[] #[] := fun _ => rfl
            have sW := st4.to hW
            have rl := sW.rules
            simp only [Rules, World.size_alloc] at rl
            have u58 : a.eval (Operand.tmp 58) = .string s3 := hd 1 58 (by kernel_rfl) rfl
            unfold StepOk
            rw [if_pos (by rfl)]
            clear hu hd
            generalize a.eval = ρ at *
            go_simp
            exact opOk_call_same (HC.out _) rfl
          · intro a W hW hu hd
            have kc : ∀ c, a.eval (Operand.const c) = c := fun _ => rfl
            have kf : ∀ f, a.eval (Operand.func f) = .func (.func f) #[] #[] := fun _ => rfl
            have sW := st4.to hW
            have rl := sW.rules
            simp only [Rules, World.size_alloc] at rl
            have u57 : a.eval (Operand.tmp 57) = kv ka kb := hd 0 57 (by kernel_rfl) rfl
            have u59 : a.eval (Operand.tmp 59) = .string c := hd 2 59 (by kernel_rfl) rfl
            unfold StepOk
            rw [if_pos (by rfl)]
            clear hu hd
            generalize a.eval = ρ at *
            go_simp
            exact opOk_call (K1.out _ (hS.below (Nat.le_refl _) sW.below)) (fun _ _ => rfl)
          · intro a W hW hu hd
            have kc : ∀ c, a.eval (Operand.const c) = c := fun _ => rfl
            have kf : ∀ f, a.eval (Operand.func f) = .func (.func f) #[] #[] := fun _ => rfl
            have sW := st4.to hW
            have rl := sW.rules
            simp only [Rules, World.size_alloc] at rl
            have u60 : a.eval (Operand.tmp 60) = .tuple #[.agg #[.int .u64 0, .int .i64 0, .int .u64 0], .int .i64 170] := hd 3 60 (by kernel_rfl) rfl
            unfold StepOk
            rw [if_pos (by rfl)]
            clear hu hd
            generalize a.eval = ρ at *
            go_simp
            exact opOk_val rfl
          · intro a W hW hu hd
            have kc : ∀ c, a.eval (Operand.const c) = c := fun _ => rfl
            have kf : ∀ f, a.eval (Operand.func f) = .func (.func f) #[] #[] := fun _ => rfl
            have sW := st4.to hW
            have rl := sW.rules
            simp only [Rules, World.size_alloc] at rl
            have u56 : a.eval (Operand.tmp 56) = .tuple #[.agg #[.int .u64 0, .int .i64 0, .int .u64 0], .int .i64 170] := hd 4 56 (by kernel_rfl) rfl
            unfold StepOk
            rw [if_pos (by rfl)]
            clear hu hd
            generalize a.eval = ρ at *
            go_simp
            exact opOk_val rfl
          · intro a W hW hu hd
            have kc : ∀ c, a.eval (Operand.const c) = c := fun _ => rfl
            have kf : ∀ f, a.eval (Operand.func f) = .func (.func f) #[] #[] := fun _ => rfl
            have sW := st4.to hW
            have rl := sW.rules
            simp only [Rules, World.size_alloc] at rl
            have u56 : a.eval (Operand.tmp 56) = .tuple #[.agg #[.int .u64 0, .int .i64 0, .int .u64 0], .int .i64 170] := hd 4 56 (by kernel_rfl) rfl
            unfold StepOk
            rw [if_pos (by rfl)]
            clear hu hd
            generalize a.eval = ρ at *
            go_simp
            exact opOk_val rfl
          · intro a W hW hu hd
            have kc : ∀ c, a.eval (Operand.const c) = c := fun _ => rfl
            have kf : ∀ f, a.eval (Operand.func f) = .func (.func f) #[] #[] := fun _ => rfl
            have sW := st4.to hW
            have rl := sW.rules
            simp only [Rules, World.size_alloc] at rl
            unfold StepOk
            rw [if_pos (by rfl)]
            clear hu hd
            generalize a.eval = ρ at *
            go_simp
            exact opOk_new hW.size
        case late =>
          intro oq hoq a W hW hu hd W'
          cases hoq
          have u56 : a.eval (Operand.tmp 56) = .tuple #[.agg #[.int .u64 0, .int .i64 0, .int .u64 0], .int .i64 170] := hd 4 56 (by kernel_rfl) rfl
          clear hu hd
          generalize a.eval = ρ at *
          go_simp
        case store =>
          intro os hos a W hW hu hd
          cases hos
          have sW := st4.to hW
          have u61 : a.eval (Operand.tmp 61) = .agg #[.int .u64 0, .int .i64 0, .int .u64 0] := hd 5 61 (by kernel_rfl) rfl
          obtain ⟨A9, hA, hA9, hN9⟩ : IsNew X4.heap.size #[.int .u64 0, .int .i64 0, .int .u64 0] 26 (a.eval (Operand.tmp 16)) W := hd 7 16 (by kernel_rfl) rfl
          have rl := blk_cell hN9
          have rf := blk_free hN9
          clear hu hd
          generalize a.eval = ρ at *
          go_simp
        case endd =>
          intro v W hW hv
          have v0 : v 0 = (kv ka kb) := hv 0 (by omega)
          have v1 : v 1 = (.string s3) := hv 1 (by omega)
          have v2 : v 2 = (.string c) := hv 2 (by omega)
          have v3 : v 3 = (.tuple #[.agg #[.int .u64 0, .int .i64 0, .int .u64 0], .int .i64 170]) := hv 3 (by omega)
          have v4 : v 4 = (.tuple #[.agg #[.int .u64 0, .int .i64 0, .int .u64 0], .int .i64 170]) := hv 4 (by omega)
          have v5 : v 5 = (.agg #[.int .u64 0, .int .i64 0, .int .u64 0]) := hv 5 (by omega)
          have v6 : v 6 = (.int .i64 170) := hv 6 (by omega)
          obtain ⟨D7, v7, hD7, hN7⟩ : IsNew X4.heap.size #[.int .u64 0, .int .i64 0, .int .u64 0] 26 (v 7) W := hv 7 (by omega)
          clear hv
          simp only [List.take_succ_cons, List.take_zero, List.drop_succ_cons, List.drop_zero, putAll, Nat.zero_add, Nat.reduceAdd]
          rw [v0, v1, v2, v3, v4, v5, v6, v7]
          clear v0 v1 v2 v3 v4 v5 v6 v7
          have sW := st4.to hW
          have sN := St.addNew st4 sW hD7 hN7
          have rl := sN.rules
          simp only [Rules] at rl
          have hle : w.heap.size ≤ D7 := Nat.le_trans st4.below.size hD7
          have sS := ((sN.setT 0 (o := 0) (v := .int .u64 0) rfl hle).setT 0 (o := 1) (v := .int .i64 0) rfl hle).setT 0 (o := 2) (v := .int .u64 0) rfl hle
          simp only [setB, List.modify_zero_cons, List.setIfInBounds_toArray, List.set_cons_succ, List.set_cons_zero] at sS
          have hk := blk_lt (st4.blk _ (List.mem_of_getElem? (i := 3) rfl))
          have qa : ¬ (w.heap.size = D7) := by omega
          have qb : ¬ (D7 = w.heap.size) := by omega
          clear hk
          go_wp2_with fail
          clear sN sW hN7 rl hW
          generalize ((W.setCell ⟨D7, 0, none⟩ (.int .u64 0)).setCell ⟨D7, 1, none⟩ (.int .i64 0)).setCell ⟨D7, 2, none⟩ (.int .u64 0) = XD at *
          clear st4
          rename St w _ _ XD => st5
          have rl := st5.rules
          simp only [Rules] at rl
          refine (C3.out _).mono ?_
          rintro e w6 ⟨rfl, hb6⟩
          have st6 := st5.to hb6
          clear st5 hb6 rl
          have rl := st6.rules
          simp only [Rules] at rl
          go_wp2_with fail
          go_ret
          exact ⟨by first | rfl | (simp; done), st6.below⟩
      · rw [E3.out hu] at K0
        clear E2 E3
        go_enter Tryd.func4, Tryd.ntmps4
        go_wp2_with fail
        refine (shown_any (hS.below (Nat.le_refl _) st0.below)).mono ?_
        rintro e w1 ⟨rfl, hb1⟩
        have st1 := st0.to hb1
        clear st0 hb1
        have rl := st1.rules
        simp only [Rules] at rl
        go_wp2_with fail
        refine (C1.out _).mono ?_
        rintro e w2 ⟨rfl, hb2⟩
        have st2 := st1.to hb2
        clear st1 hb2 rl
        have rl := st2.rules
        simp only [Rules] at rl
        go_wp2_with fail
        refine (K0.out _ (hS.below (Nat.le_refl _) st2.below)).mono ?_
        rintro e w3 ⟨rfl, hb3⟩
        have st3 := (st2.to hb3).alloc (cs := #[.int .u64 t1, .int .i64 q1, .int .u64 u1]) (T := 26)
        clear rl
        have rl := (st2.to hb3).rules
        clear st2 hb3
        simp only [Rules] at rl
        go_wp2_with fail
        refine (B0.out _ (hS.below (Nat.le_refl _) st3.below)).mono ?_
        rintro e w4 ⟨rfl, hb4⟩
        have st4 := (st3.to hb4).alloc (cs := #[.int .u64 t1, .int .i64 q1, .int .u64 u1]) (T := 26)
        clear rl
        have rl := (st3.to hb4).rules
        clear st3 hb4
        simp only [Rules] at rl
        go_wp2_with fail
        clear rl
        generalize w4.alloc (Obj.cells #[Value.int IntKind.u64 t1, Value.int IntKind.i64 q1, Value.int IntKind.u64 u1] 26) = X4 at *
        refine region_late 8 6 (.int .i64 170) (Fs [IsVal (kv ka kb), IsVal (.string s3), IsVal (.string c), IsVal (.tuple #[.agg #[.int .u64 0, .int .i64 0, .int .u64 0], .int .i64 170]), IsVal (.tuple #[.agg #[.int .u64 0, .int .i64 0, .int .u64 0], .int .i64 170]), IsVal (.agg #[.int .u64 0, .int .i64 0, .int .u64 0]), IsVal (.int .i64 170), IsNew X4.heap.size #[.int .u64 0, .int .i64 0, .int .u64 0] 26]) (by kernel_rfl) (by kernel_rfl) (by kernel_rfl) (Fs_stable _ ?stab) ?spec ?late (fun _ => rfl) ?store ?endd
        case stab =>
          simp only [List.forall_mem_cons]
          exact ⟨stableVal _, stableVal _, stableVal _, stableVal _, stableVal _, stableVal _, stableVal _, stableNew _ _ _, by simp⟩
        case spec =>
          refine ⟨?_, ?_, ?_, ?_, ?_, ?_, ?_, ?_, trivial⟩
          · intro a W hW hu hd
            have kc : ∀ c, a.eval (Operand.const c) = c := fun _ => rfl
            have kf : ∀ f, a.eval (Operand.func f) = .func (.func f) #[] #[] := fun _ => rfl
            have sW := st4.to hW
            have rl := sW.rules
            simp only [Rules, World.size_alloc] at rl
            have u4 : a.eval (Operand.tmp 4) = .pointer (some ⟨w.heap.size, 0, none⟩) := hu 4 (by decide)
            unfold StepOk
            rw [if_pos (by rfl)]
            clear hu hd
            generalize a.eval = ρ at *
            go_simp
            exact opOk_val rfl
          · intro a W hW hu hd
            have kc : ∀ c, a.eval (Operand.const c) = c := fun _ => rfl
            have kf : ∀ f, a.eval (Operand.func f) = .func (.func f) #[] #[] := fun _ => rfl
            have sW := st4.to hW
            have rl := sW.rules
            simp only [Rules, World.size_alloc] at rl
            have u3 : a.eval (Operand.tmp 3) = .string s3 := hu 3 (by decide)
            unfold StepOk
            rw [if_pos (by rfl)]
            clear hu hd
            generalize a.eval = ρ at *
            go_simp
            exact opOk_val rfl
          · intro a W hW hu hd
            have kc : ∀ c, a.eval (Operand.const c) = c := fun _ => rfl
            have kf : ∀ f, a.eval (Operand.func f) = .func (.func f) #[] #[] := fun _ => rfl
            have sW := st4.to hW
            have rl := sW.rules
            simp only [Rules, World.size_alloc] at rl
            have u58 : a.eval (Operand.tmp 58) = .string s3 := hd 1 58 (by kernel_rfl) rfl
            unfold StepOk
            rw [if_pos (by rfl)]
            clear hu hd
            generalize a.eval = ρ at *
            go_simp
            exact opOk_call_same (HC.out _) rfl
          · intro a W hW hu hd
            have kc : ∀ c, a.eval (Operand.const c) = c := fun _ => rfl
            have kf : ∀ f, a.eval (Operand.func f) = .func (.func f) #[] #[] := fun _ => rfl
            have sW := st4.to hW
            have rl := sW.rules
            simp only [Rules, World.size_alloc] at rl
            have u57 : a.eval (Operand.tmp 57) = kv ka kb := hd 0 57 (by kernel_rfl) rfl
            have u59 : a.eval (Operand.tmp 59) = .string c := hd 2 59 (by kernel_rfl) rfl
            unfold StepOk
            rw [if_pos (by rfl)]
            clear hu hd
            generalize a.eval = ρ at *
            go_simp
            exact opOk_call (K1.out _ (hS.below (Nat.le_refl _) sW.below)) (fun _ _ => rfl)
          · intro a W hW hu hd
            have kc : ∀ c, a.eval (Operand.const c) = c := fun _ => rfl
            have kf : ∀ f, a.eval (Operand.func f) = .func (.func f) #[] #[] := fun _ => rfl
            have sW := st4.to hW
            have rl := sW.rules
            simp only [Rules, World.size_alloc] at rl
            have u60 : a.eval (Operand.tmp 60) = .tuple #[.agg #[.int .u64 0, .int .i64 0, .int .u64 0], .int .i64 170] := hd 3 60 (by kernel_rfl) rfl
            unfold StepOk
            rw [if_pos (by rfl)]
            clear hu hd
            generalize a.eval = ρ at *
            go_simp
            exact opOk_val rfl
          · intro a W hW hu hd
            have kc : ∀ c, a.eval (Operand.const c) = c := fun _ => rfl
            have kf : ∀ f, a.eval (Operand.func f) = .func (.func f) #[] #[] := fun _ => rfl
            have sW := st4.to hW
            have rl := sW.rules
            simp only [Rules, World.size_alloc] at rl
            have u56 : a.eval (Operand.tmp 56) = .tuple #[.agg #[.int .u64 0, .int .i64 0, .int .u64 0], .int .i64 170] := hd 4 56 (by kernel_rfl) rfl
            unfold StepOk
            rw [if_pos (by rfl)]
            clear hu hd
            generalize a.eval = ρ at *
            go_simp
            exact opOk_val rfl
          · intro a W hW hu hd
            have kc : ∀ c, a.eval (Operand.const c) = c := fun _ => rfl
            have kf : ∀ f, a.eval (Operand.func f) = .func (.func f) #[] #[] := fun _ => rfl
            have sW := st4.to hW
            have rl := sW.rules
            simp only [Rules, World.size_alloc] at rl
            have u56 : a.eval (Operand.tmp 56) = .tuple #[.agg #[.int .u64 0, .int .i64 0, .int .u64 0], .int .i64 170] := hd 4 56 (by kernel_rfl) rfl
            unfold StepOk
            rw [if_pos (by rfl)]
            clear hu hd
            generalize a.eval = ρ at *
            go_simp
            exact opOk_val rfl
          · intro a W hW hu hd
            have kc : ∀ c, a.eval (Operand.const c) = c := fun _ => rfl
            have kf : ∀ f, a.eval (Operand.func f) = .func (.func f) #[] #[] := fun _ => rfl
            have sW := st4.to hW
            have rl := sW.rules
            simp only [Rules, World.size_alloc] at rl
            unfold StepOk
            rw [if_pos (by rfl)]
            clear hu hd
            generalize a.eval = ρ at *
            go_simp
            exact opOk_new hW.size
        case late =>
          intro oq hoq a W hW hu hd W'
          cases hoq
          have u56 : a.eval (Operand.tmp 56) = .tuple #[.agg #[.int .u64 0, .int .i64 0, .int .u64 0], .int .i64 170] := hd 4 56 (by kernel_rfl) rfl
          clear hu hd
          generalize a.eval = ρ at *
          go_simp
        case store =>
          intro os hos a W hW hu hd
          cases hos
          have sW := st4.to hW
          have u61 : a.eval (Operand.tmp 61) = .agg #[.int .u64 0, .int .i64 0, .int .u64 0] := hd 5 61 (by kernel_rfl) rfl
          obtain ⟨A9, hA, hA9, hN9⟩ : IsNew X4.heap.size #[.int .u64 0, .int .i64 0, .int .u64 0] 26 (a.eval (Operand.tmp 16)) W := hd 7 16 (by kernel_rfl) rfl
          have rl := blk_cell hN9
          have rf := blk_free hN9
          clear hu hd
          generalize a.eval = ρ at *
          go_simp
        case endd =>
          intro v W hW hv
          have v0 : v 0 = (kv ka kb) := hv 0 (by omega)
          have v1 : v 1 = (.string s3) := hv 1 (by omega)
          have v2 : v 2 = (.string c) := hv 2 (by omega)
          have v3 : v 3 = (.tuple #[.agg #[.int .u64 0, .int .i64 0, .int .u64 0], .int .i64 170]) := hv 3 (by omega)
          have v4 : v 4 = (.tuple #[.agg #[.int .u64 0, .int .i64 0, .int .u64 0], .int .i64 170]) := hv 4 (by omega)
          have v5 : v 5 = (.agg #[.int .u64 0, .int .i64 0, .int .u64 0]) := hv 5 (by omega)
          have v6 : v 6 = (.int .i64 170) := hv 6 (by omega)
          obtain ⟨D7, v7, hD7, hN7⟩ : IsNew X4.heap.size #[.int .u64 0, .int .i64 0, .int .u64 0] 26 (v 7) W := hv 7 (by omega)
          clear hv
          simp only [List.take_succ_cons, List.take_zero, List.drop_succ_cons, List.drop_zero, putAll, Nat.zero_add, Nat.reduceAdd]
          rw [v0, v1, v2, v3, v4, v5, v6, v7]
          clear v0 v1 v2 v3 v4 v5 v6 v7
          have sW := st4.to hW
          have sN := St.addNew st4 sW hD7 hN7
          have rl := sN.rules
          simp only [Rules] at rl
          have hle : w.heap.size ≤ D7 := Nat.le_trans st4.below.size hD7
          have sS := ((sN.setT 0 (o := 0) (v := .int .u64 0) rfl hle).setT 0 (o := 1) (v := .int .i64 0) rfl hle).setT 0 (o := 2) (v := .int .u64 0) rfl hle
          simp only [setB, List.modify_zero_cons, List.setIfInBounds_toArray, List.set_cons_succ, List.set_cons_zero] at sS
          have hk := blk_lt (st4.blk _ (List.mem_of_getElem? (i := 3) rfl))
          have qa : ¬ (w.heap.size = D7) := by omega
          have qb : ¬ (D7 = w.heap.size) := by omega
          clear hk
          go_wp2_with fail
          clear sN sW hN7 rl hW
          generalize ((W.setCell ⟨D7, 0, none⟩ (.int .u64 0)).setCell ⟨D7, 1, none⟩ (.int .i64 0)).setCell ⟨D7, 2, none⟩ (.int .u64 0) = XD at *
          clear st4
          rename St w _ _ XD => st5
          have rl := st5.rules
          simp only [Rules] at rl
          refine (C3.out _).mono ?_
          rintro e w6 ⟨rfl, hb6⟩
          have st6 := st5.to hb6
          clear st5 hb6 rl
          have rl := st6.rules
          simp only [Rules] at rl
          go_wp2_with fail
          go_ret
          exact ⟨by first | rfl | (simp; done), st6.below⟩
  · rw [mintV_no _ _ _ _ _ h1] at C1
    clear K1 HC
    by_cases h2 : r1 < 1
    · clear h1
      go_enter Tryd.func4, Tryd.ntmps4
      go_wp2_with fail
      refine (shown_any (hS.below (Nat.le_refl _) st0.below)).mono ?_
      rintro e w1 ⟨rfl, hb1⟩
      have st1 := st0.to hb1
      clear st0 hb1
      have rl := st1.rules
      simp only [Rules] at rl
      go_wp2_with fail
      refine (C1.out _).mono ?_
      rintro e w2 ⟨rfl, hb2⟩
      have st2 := st1.to hb2
      clear st1 hb2 rl
      have rl := st2.rules
      simp only [Rules] at rl
      go_wp2_with fail
      go_ret
      exact ⟨by first | rfl | (simp; done), st2.below⟩
    · have h3 : 3 < r1 := by omega
      clear h1
      go_enter Tryd.func4, Tryd.ntmps4
      go_wp2_with fail
      refine (shown_any (hS.below (Nat.le_refl _) st0.below)).mono ?_
      rintro e w1 ⟨rfl, hb1⟩
      have st1 := st0.to hb1
      clear st0 hb1
      have rl := st1.rules
      simp only [Rules] at rl
      go_wp2_with fail
      refine (C1.out _).mono ?_
      rintro e w2 ⟨rfl, hb2⟩
      have st2 := st1.to hb2
      clear st1 hb2 rl
      have rl := st2.rules
      simp only [Rules] at rl
      go_wp2_with fail
      go_ret
      exact ⟨by first | rfl | (simp; done) | (simp; omega), st2.below⟩


set_option maxRecDepth 100000 in
theorem lifted (os : Os) (started : os.Started) (H : Type) (enc : TypeId × Value → H) :
    ReturnsInHanded {} Tryd.checked os 4 .any (fun w args => (Rows.tokenBackSpec.pre enc Tryd.prog Tryd.f4 Rows.tokenBackRow.domain false w args ∧ laidMetH Tryd.prog laidL w) ∧ sizedMet enc Tryd.prog Tryd.f4 (OpenSpec.ofChange Rows.tokenBackSpec) false w args) (Rows.tokenBackSpec.post enc Tryd.prog Tryd.f4 false true false false) := by
  refine returnsInHanded_of_change_and (C := Tryd.checked) (X := fun w _ => laidMetH Tryd.prog laidL w) (fun _ _ _ hh h => h.of_heap hh) own started (by kernel_rfl) Tryd.func4
    (ChangeSpec.witness_at (enc := enc) (C := Tryd.checked) (os := os) (X := fun w _ => laidMetH Tryd.prog laidL w) false (laidWorld os) #[.agg #[.int .u64 0, .int .u64 0], .agg #[.int .u64 0, .int .i64 0, .int .u64 0], .int .u64 0, .string ⟨#[]⟩] 8 rfl (by kernel_rfl) (by kernel_rfl) (by kernel_rfl) (by kernel_rfl) (by kernel_rfl) (laidWorld_metH os _)) ?_
  intro W base args ds gs before hval0 hW hcnd _ hL _
  obtain ⟨sp, sq, hS⟩ := sents_of_laid hL
  have hval : ∀ (j : Nat) t v, Tryd.f4.params[j]? = some t → args[j]? = some v → Value.okWide Tryd.prog W .any base t v := hval0
  have hW' := hW
  obtain ⟨p, q, hA0, hV, rfl, hfz, hnd⟩ := hW
  have hA : DataW.TrodAll enc Tryd.prog W 0 (fun _ => true) true Tryd.f4.params.toList args.toList ds p := hA0
  rw [Tryd.params4] at hA hval
  obtain ⟨v0, vs0, d0, ds0, p0, q0, hargs, rfl, rfl, h0, r0⟩ := trodAll_cons hA
  obtain ⟨v1, vs1, d1, ds1, p1, q1, rfl, rfl, rfl, h1, r1⟩ := trodAll_cons r0
  obtain ⟨v2, vs2, d2, ds2, p2, q2, rfl, rfl, rfl, h2, r2⟩ := trodAll_cons r1
  obtain ⟨v3, vs3, d3, ds3, p3, q3, rfl, rfl, rfl, h3, r3⟩ := trodAll_cons r2
  obtain ⟨rfl, rfl, rfl⟩ := trodAll_nil r3
  obtain rfl : args = #[v0, v1, v2, v3] := by cases args; simp_all
  obtain ⟨rfl, rfl⟩ := trodVars_none hV
  have k0 := h0
  have lt0 : ∀ x ∈ p0, x.block < W.heap.size := by obtain ⟨m, hm⟩ := k0; exact DataW.trod_lt m _ _ _ hm
  obtain ⟨a0, b0, rfl⟩ := openKey (hval 0 24 v0 rfl rfl) h0
  have k1 := h1
  have lt1 : ∀ x ∈ p1, x.block < W.heap.size := by obtain ⟨m, hm⟩ := k1; exact DataW.trod_lt m _ _ _ hm
  obtain ⟨ct1, cr1, cu1, rfl, tb1, ra1, rb1, ub1⟩ := openClaim (hval 1 26 v1 rfl rfl) h1
  have k2 := h2
  have lt2 : ∀ x ∈ p2, x.block < W.heap.size := by obtain ⟨m, hm⟩ := k2; exact DataW.trod_lt m _ _ _ hm
  obtain ⟨x2, rfl, xb2⟩ := openNat (hval 2 22 v2 rfl rfl) h2
  have k3 := h3
  have lt3 : ∀ x ∈ p3, x.block < W.heap.size := by obtain ⟨m, hm⟩ := k3; exact DataW.trod_lt m _ _ _ hm
  obtain ⟨s3, rfl, hs3⟩ := openStr (hval 3 9 v3 rfl rfl) h3
  clear hA0 hval0
  refine (walk a0 b0 ct1 cr1 cu1 tb1 ra1 rb1 ub1 x2 xb2 s3 hs3 W hS ).mono fun e W' ⟨he, bel⟩ => ?_
  subst he
  exact ⟨_, rfl, _, _, _, [], _, [], hW', trodAll_mk1 (shut_bool Tryd.underlying4 _), (trodAll_cons_mk (Below.trod laidOut (by kernel_rfl) (of_decide_eq_true (by kernel_rfl)) k0 bel lt0) (trodAll_cons_mk (Below.trod laidOut (by kernel_rfl) (of_decide_eq_true (by kernel_rfl)) k1 bel lt1) (trodAll_cons_mk (Below.trod laidOut (by kernel_rfl) (of_decide_eq_true (by kernel_rfl)) k2 bel lt2) (trodAll_cons_mk (Below.trod laidOut (by kernel_rfl) (of_decide_eq_true (by kernel_rfl)) k3 bel lt3) trodAll_mk0)))), rfl, bel.frame _, fun h => by cases h⟩

theorem over : Rows.tokenBackRow.holds Tryd.pinned (OpenSpec.ofChange Rows.tokenBackSpec) :=
  OpenClaim.holds_of_wide 4 Tryd.f4 rfl rfl rfl rfl rfl rfl rfl ⟨rfl, rfl, rfl, rfl, rfl⟩ rfl rfl rfl rfl rfl (by kernel_rfl) Tryd.func4 (by kernel_rfl)
    (of_decide_eq_true (by kernel_rfl)) (by unfold Func.isWrapper; first | (rw [if_pos (by decide +kernel)]; kernel_rfl) | (rw [if_neg (by decide +kernel)]; exact ⟨rfl, rfl⟩))
    (fun os started H enc _ => lifted os started H enc)

/-- THE STATEMENT -/
theorem proved : Rows.TokenBackCardSaid :=
  Claim7.holds_tied_plain_at .later [] [.sentinel, .sentinel] true _ true over (fun _ h => by cases h) (by kernel_rfl) (fun _ h => by cases h) tokenBack_row_tie rfl ⟨rfl, rfl⟩ (by kernel_rfl) rfl
    (fun f fn hf hfn => by
      obtain rfl : f = 4 := Option.some.inj ((show Tryd.prog.funcNamed "aviary/aviarylaw17.TokenBack" = some 4 by kernel_rfl).symm.trans hf) |>.symm
      obtain rfl : fn = Tryd.f4 := (Option.some.inj (Tryd.func4.symm.trans hfn)).symm
      refine ⟨by kernel_rfl, fun j t ht => ?_⟩
      rw [Tryd.params4] at ht
      rcases j with _ | _ | _ | _ | j
      · obtain rfl : t = 24 := by simpa using ht.symm
        exact (show Tryd.prog.wantsStandIn 24 = false by kernel_rfl)
      · obtain rfl : t = 26 := by simpa using ht.symm
        exact (show Tryd.prog.wantsStandIn 26 = false by kernel_rfl)
      · obtain rfl : t = 22 := by simpa using ht.symm
        exact (show Tryd.prog.wantsStandIn 22 = false by kernel_rfl)
      · obtain rfl : t = 9 := by simpa using ht.symm
        exact (show Tryd.prog.wantsStandIn 9 = false by kernel_rfl)
      · simp at ht)
    (by kernel_rfl)
#print axioms proved
end Go.Proofs.YthhoikcknfbclaaDoor.tokenBack
