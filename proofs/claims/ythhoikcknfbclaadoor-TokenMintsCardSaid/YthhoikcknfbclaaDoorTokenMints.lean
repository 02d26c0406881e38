/- TokenMints: for every key, claim, text (its first hundred bytes), time, role and whatever is to be done, tokens, claims of tokens and what roles may do are as the document says. No condition (the two sentinels of package field as the program's text lays them). -/
import Derived.Test.YthhoikcknfbclaaDoorCards
import Derived.Test.YthhoikcknfbclaaDoorTie
import Derived.Test.YthhoikcknfbclaaDoorLaid02
import Derived.Test.YthhoikcknfbclaaDoorOpen17
import Derived.SevenTiedAt
import Derived.JoinedOf
import Derived.ChangeSame
import Derived.ChangeVars
import Derived.Test.YthhoikcknfbclaaDoorTokL
import Derived.Test.YthhoikcknfbclaaDoorSpec3
import Derived.Test.YthhoikcknfbclaaDoorOpen
import Derived.WalkKit
import Derived.ProofKit
import Derived.OpenShut
import Derived.ShutString
import Derived.ChangeOld
import Derived.Below
namespace Go.Proofs.YthhoikcknfbclaaDoor.tokenMints
open Go.ChangeShapes Go.WideShapes Go.ChangeAt Go.RowKit Go.Joins
set_option linter.unusedVariables false

theorem own : ownKnob Tryd.prog.godebug = none := by kernel_rfl
theorem laidOut : laidOutB Tryd.prog = true := by kernel_rfl

set_option linter.unusedSimpArgs false
set_option maxRecDepth 100000 in
set_option maxHeartbeats 4000000 in
theorem walk (ka kb : BitVec 64) (t1 : Nat) (r1 : Int) (u1 : Nat) (tb1 : t1 < 18446744073709551616) (ra1 : -9223372036854775808 ≤ r1) (rb1 : r1 ≤ 9223372036854775807) (ub1 : u1 < 18446744073709551616) (s2 : ByteArray) (hs2 : s2.size ≤ 9223372036854775807) (x3 : Nat) (xb3 : x3 < 18446744073709551616) (r4 : Int) (na4 : -9223372036854775808 ≤ r4) (nb4 : r4 ≤ 9223372036854775807) (r5 : Int) (na5 : -9223372036854775808 ≤ r5) (nb5 : r5 ≤ 9223372036854775807) (w : World) {sp sq : Addr} (hS : Sents sp sq w) :
    Calls Tryd.prog 3 #[.agg #[.int .u64 (un ka), .int .u64 (un kb)], .agg #[.int .u64 t1, .int .i64 r1, .int .u64 u1], .string s2, .int .u64 x3, .int .i64 r4, .int .i64 r5] w fun e w' => e = .returned (.bool true) ∧ Below w.heap.size w w' := by
  have st0 := ((St.start w).alloc (cs := #[.int .u64 (un ka), .int .u64 (un kb)]) (T := 24)).alloc (cs := #[.int .u64 t1, .int .i64 r1, .int .u64 u1]) (T := 26)
  simp only [World.size_alloc] at st0
  have C1 := Lib.hid (mint_any ka kb t1 r1 u1 tb1 ra1 rb1 ub1)
  have C2 := Lib.hid (refMint_any ka kb t1 r1 u1 tb1 ra1 rb1 ub1)
  obtain ⟨mx, mn, hm⟩ := mintV_form ka kb t1 r1 u1
  rw [hm] at C1 C2
  have HC := Lib.hid (cut_any s2 hs2)
  have hc := cut100_size s2
  generalize cut100 s2 = c at *
  have K1 := Lib.hid (fun (w : World) (h : Sents sp sq w) => check_any h ka kb c (by omega) x3)
  have K2 := Lib.hid (refCheck_any ka kb c (by omega) x3)
  obtain ⟨d0, d1, d2, de, hd⟩ := checkV_form ka kb c x3 (bodyOf c.data.toList)
  rw [hd] at K1 K2
  have B1 := Lib.hid (fun (w : World) (h : Sents sp sq w) => body_any h c (by omega))
  have B2 := Lib.hid (refBody_any c (by omega))
  obtain ⟨e0, e1, e2, ee, he⟩ := bodyV_form (bodyOf c.data.toList)
  rw [he] at B1 B2
  clear hm hd he tb1 ra1 rb1 ub1 xb3 hs2
  go_enter Tryd.func3, Tryd.ntmps3
  go_wp2_with fail
  refine (shown_any (hS.below (Nat.le_refl _) st0.below)).mono ?_
  rintro e w1 ⟨rfl, hb1⟩
  have st1 := st0.to hb1
  clear st0 hb1
  have rl := st1.rules
  simp only [Rules] at rl
  go_wp2_with fail
  refine (C1.out _).mono ?_
  rintro e w9 ⟨rfl, hb9⟩
  have st2 := st1.to hb9
  clear st1 hb9
  have rl := st2.rules
  simp only [Rules] at rl
  generalize w9 = st2W at *
  go_wp2_with fail
  refine (C2.out _).mono ?_
  rintro e w9 ⟨rfl, hb9⟩
  have st3 := st2.to hb9
  clear st2 hb9
  have rl := st3.rules
  simp only [Rules] at rl
  generalize w9 = st3W at *
  go_wp2_with fail
  refine region_late 9 7 (.int .i64 de) (Fs [IsVal (kv ka kb), IsVal (.string s2), IsVal (.string c), IsVal (.int .u64 (x3 : Int)), IsVal (.tuple #[.agg #[.int .u64 d0, .int .i64 d1, .int .u64 d2], .int .i64 de]), IsVal (.tuple #[.agg #[.int .u64 d0, .int .i64 d1, .int .u64 d2], .int .i64 de]), IsVal (.agg #[.int .u64 d0, .int .i64 d1, .int .u64 d2]), IsVal (.int .i64 de), IsNew st3W.heap.size #[.int .u64 0, .int .i64 0, .int .u64 0] 26]) (by kernel_rfl) (by kernel_rfl) (by kernel_rfl) (Fs_stable _ ?stab) ?spec ?late (fun _ => rfl) ?store ?endd
  case stab =>
    simp only [List.forall_mem_cons]
    exact ⟨stableVal _, stableVal _, stableVal _, stableVal _, stableVal _, stableVal _, stableVal _, stableVal _, stableNew _ _ _, by simp⟩
  case spec =>
    refine ⟨?_, ?_, ?_, ?_, ?_, ?_, ?_, ?_, ?_, trivial⟩
    · intro a W hW hu hd
      have kc : ∀ c, a.eval (Operand.const c) = c := fun _ => rfl
      have kf : ∀ f, a.eval (Operand.func f) = .func (.func f) #[] #[] := fun _ => rfl
      have sW := st3.to hW
      have rl := sW.rules
      simp only [Rules, World.size_alloc] at rl
      have u6 : a.eval (Operand.tmp 6) = .pointer (some ⟨w.heap.size, 0, none⟩) := hu 6 (by decide)
      unfold StepOk
      rw [if_pos (by rfl)]
      clear hu hd
      generalize a.eval = ρ at *
      go_simp
      exact opOk_val rfl
    · intro a W hW hu hd
      have kc : ∀ c, a.eval (Operand.const c) = c := fun _ => rfl
      have kf : ∀ f, a.eval (Operand.func f) = .func (.func f) #[] #[] := fun _ => rfl
      have sW := st3.to hW
      have rl := sW.rules
      simp only [Rules, World.size_alloc] at rl
      have u2 : a.eval (Operand.tmp 2) = .string s2 := hu 2 (by decide)
      unfold StepOk
      rw [if_pos (by rfl)]
      clear hu hd
      generalize a.eval = ρ at *
      go_simp
      exact opOk_val rfl
    · intro a W hW hu hd
      have kc : ∀ c, a.eval (Operand.const c) = c := fun _ => rfl
      have kf : ∀ f, a.eval (Operand.func f) = .func (.func f) #[] #[] := fun _ => rfl
      have sW := st3.to hW
      have rl := sW.rules
      simp only [Rules, World.size_alloc] at rl
      have u41 : a.eval (Operand.tmp 41) = .string s2 := hd 1 41 (by kernel_rfl) rfl
      unfold StepOk
      rw [if_pos (by rfl)]
      clear hu hd
      generalize a.eval = ρ at *
      go_simp
      exact opOk_call_same (HC.out _) rfl
    · intro a W hW hu hd
      have kc : ∀ c, a.eval (Operand.const c) = c := fun _ => rfl
      have kf : ∀ f, a.eval (Operand.func f) = .func (.func f) #[] #[] := fun _ => rfl
      have sW := st3.to hW
      have rl := sW.rules
      simp only [Rules, World.size_alloc] at rl
      have u3 : a.eval (Operand.tmp 3) = .int .u64 (x3 : Int) := hu 3 (by decide)
      unfold StepOk
      rw [if_pos (by rfl)]
      clear hu hd
      generalize a.eval = ρ at *
      go_simp
      exact opOk_val rfl
    · intro a W hW hu hd
      have kc : ∀ c, a.eval (Operand.const c) = c := fun _ => rfl
      have kf : ∀ f, a.eval (Operand.func f) = .func (.func f) #[] #[] := fun _ => rfl
      have sW := st3.to hW
      have rl := sW.rules
      simp only [Rules, World.size_alloc] at rl
      have u40 : a.eval (Operand.tmp 40) = kv ka kb := hd 0 40 (by kernel_rfl) rfl
      have u42 : a.eval (Operand.tmp 42) = .string c := hd 2 42 (by kernel_rfl) rfl
      have u43 : a.eval (Operand.tmp 43) = .int .u64 (x3 : Int) := hd 3 43 (by kernel_rfl) rfl
      unfold StepOk
      rw [if_pos (by rfl)]
      clear hu hd
      generalize a.eval = ρ at *
      go_simp
      exact opOk_call (K1.out _ (hS.below (Nat.le_refl _) sW.below)) (fun _ _ => rfl)
    · intro a W hW hu hd
      have kc : ∀ c, a.eval (Operand.const c) = c := fun _ => rfl
      have kf : ∀ f, a.eval (Operand.func f) = .func (.func f) #[] #[] := fun _ => rfl
      have sW := st3.to hW
      have rl := sW.rules
      simp only [Rules, World.size_alloc] at rl
      have u44 : a.eval (Operand.tmp 44) = .tuple #[.agg #[.int .u64 d0, .int .i64 d1, .int .u64 d2], .int .i64 de] := hd 4 44 (by kernel_rfl) rfl
      unfold StepOk
      rw [if_pos (by rfl)]
      clear hu hd
      generalize a.eval = ρ at *
      go_simp
      exact opOk_val rfl
    · intro a W hW hu hd
      have kc : ∀ c, a.eval (Operand.const c) = c := fun _ => rfl
      have kf : ∀ f, a.eval (Operand.func f) = .func (.func f) #[] #[] := fun _ => rfl
      have sW := st3.to hW
      have rl := sW.rules
      simp only [Rules, World.size_alloc] at rl
      have u39 : a.eval (Operand.tmp 39) = .tuple #[.agg #[.int .u64 d0, .int .i64 d1, .int .u64 d2], .int .i64 de] := hd 5 39 (by kernel_rfl) rfl
      unfold StepOk
      rw [if_pos (by rfl)]
      clear hu hd
      generalize a.eval = ρ at *
      go_simp
      exact opOk_val rfl
    · intro a W hW hu hd
      have kc : ∀ c, a.eval (Operand.const c) = c := fun _ => rfl
      have kf : ∀ f, a.eval (Operand.func f) = .func (.func f) #[] #[] := fun _ => rfl
      have sW := st3.to hW
      have rl := sW.rules
      simp only [Rules, World.size_alloc] at rl
      have u39 : a.eval (Operand.tmp 39) = .tuple #[.agg #[.int .u64 d0, .int .i64 d1, .int .u64 d2], .int .i64 de] := hd 5 39 (by kernel_rfl) rfl
      unfold StepOk
      rw [if_pos (by rfl)]
      clear hu hd
      generalize a.eval = ρ at *
      go_simp
      exact opOk_val rfl
    · intro a W hW hu hd
      have kc : ∀ c, a.eval (Operand.const c) = c := fun _ => rfl
      have kf : ∀ f, a.eval (Operand.func f) = .func (.func f) #[] #[] := fun _ => rfl
      have sW := st3.to hW
      have rl := sW.rules
      simp only [Rules, World.size_alloc] at rl
      unfold StepOk
      rw [if_pos (by rfl)]
      clear hu hd
      generalize a.eval = ρ at *
      go_simp
      exact opOk_new hW.size
  case late =>
    intro oq hoq a W hW hu hd W'
    cases hoq
    have u39 : a.eval (Operand.tmp 39) = .tuple #[.agg #[.int .u64 d0, .int .i64 d1, .int .u64 d2], .int .i64 de] := hd 5 39 (by kernel_rfl) rfl
    clear hu hd
    generalize a.eval = ρ at *
    go_simp
  case store =>
    intro os hos a W hW hu hd
    cases hos
    have sW := st3.to hW
    have u45 : a.eval (Operand.tmp 45) = .agg #[.int .u64 d0, .int .i64 d1, .int .u64 d2] := hd 6 45 (by kernel_rfl) rfl
    obtain ⟨A9, hA, hA9, hN9⟩ : IsNew st3W.heap.size #[.int .u64 0, .int .i64 0, .int .u64 0] 26 (a.eval (Operand.tmp 18)) W := hd 8 18 (by kernel_rfl) rfl
    have rl := blk_cell hN9
    have rf := blk_free hN9
    clear hu hd
    generalize a.eval = ρ at *
    go_simp
  case endd =>
    intro v W hW hv
    have v0 : v 0 = (kv ka kb) := hv 0 (by omega)
    have v1 : v 1 = (.string s2) := hv 1 (by omega)
    have v2 : v 2 = (.string c) := hv 2 (by omega)
    have v3 : v 3 = (.int .u64 (x3 : Int)) := hv 3 (by omega)
    have v4 : v 4 = (.tuple #[.agg #[.int .u64 d0, .int .i64 d1, .int .u64 d2], .int .i64 de]) := hv 4 (by omega)
    have v5 : v 5 = (.tuple #[.agg #[.int .u64 d0, .int .i64 d1, .int .u64 d2], .int .i64 de]) := hv 5 (by omega)
    have v6 : v 6 = (.agg #[.int .u64 d0, .int .i64 d1, .int .u64 d2]) := hv 6 (by omega)
    have v7 : v 7 = (.int .i64 de) := hv 7 (by omega)
    obtain ⟨D8, v8, hD8, hN8⟩ : IsNew st3W.heap.size #[.int .u64 0, .int .i64 0, .int .u64 0] 26 (v 8) W := hv 8 (by omega)
    clear hv
    simp only [List.take_succ_cons, List.take_zero, List.drop_succ_cons, List.drop_zero, putAll, Nat.zero_add, Nat.reduceAdd]
    rw [v0, v1, v2, v3, v4, v5, v6, v7, v8]
    clear v0 v1 v2 v3 v4 v5 v6 v7 v8
    have sW := st3.to hW
    have sN := St.addNew st3 sW hD8 hN8
    have rl := sN.rules
    simp only [Rules] at rl
    have hle : w.heap.size ≤ D8 := Nat.le_trans st3.below.size hD8
    have sS := ((sN.setT 0 (o := 0) (v := .int .u64 d0) rfl hle).setT 0 (o := 1) (v := .int .i64 d1) rfl hle).setT 0 (o := 2) (v := .int .u64 d2) rfl hle
    simp only [setB, List.modify_zero_cons, List.setIfInBounds_toArray, List.set_cons_succ, List.set_cons_zero] at sS
    go_wp2_with fail
    clear sN sW hN8 rl hW
    generalize ((W.setCell ⟨D8, 0, none⟩ (.int .u64 d0)).setCell ⟨D8, 1, none⟩ (.int .i64 d1)).setCell ⟨D8, 2, none⟩ (.int .u64 d2) = XD at *
    rename St w _ _ XD => st4
    refine region_late 9 7 (.int .i64 de) (Fs [IsVal (kv ka kb), IsVal (.string s2), IsVal (.string c), IsVal (.int .u64 (x3 : Int)), IsVal (.tuple #[.agg #[.int .u64 d0, .int .i64 d1, .int .u64 d2], .int .i64 de]), IsVal (.tuple #[.agg #[.int .u64 d0, .int .i64 d1, .int .u64 d2], .int .i64 de]), IsVal (.agg #[.int .u64 d0, .int .i64 d1, .int .u64 d2]), IsVal (.int .i64 de), IsNew XD.heap.size #[.int .u64 0, .int .i64 0, .int .u64 0] 26]) (by kernel_rfl) (by kernel_rfl) (by kernel_rfl) (Fs_stable _ ?stab) ?spec ?late (fun _ => rfl) ?store ?endd
    case stab =>
      simp only [List.forall_mem_cons]
      exact ⟨stableVal _, stableVal _, stableVal _, stableVal _, stableVal _, stableVal _, stableVal _, stableVal _, stableNew _ _ _, by simp⟩
    case spec =>
      refine ⟨?_, ?_, ?_, ?_, ?_, ?_, ?_, ?_, ?_, trivial⟩
      · intro a W hW hu hd
        have kc : ∀ c, a.eval (Operand.const c) = c := fun _ => rfl
        have kf : ∀ f, a.eval (Operand.func f) = .func (.func f) #[] #[] := fun _ => rfl
        have sW := st4.to hW
        have rl := sW.rules
        simp only [Rules, World.size_alloc] at rl
        have u6 : a.eval (Operand.tmp 6) = .pointer (some ⟨w.heap.size, 0, none⟩) := hu 6 (by decide)
        unfold StepOk
        rw [if_pos (by rfl)]
        clear hu hd
        generalize a.eval = ρ at *
        go_simp
        exact opOk_val rfl
      · intro a W hW hu hd
        have kc : ∀ c, a.eval (Operand.const c) = c := fun _ => rfl
        have kf : ∀ f, a.eval (Operand.func f) = .func (.func f) #[] #[] := fun _ => rfl
        have sW := st4.to hW
        have rl := sW.rules
        simp only [Rules, World.size_alloc] at rl
        have u2 : a.eval (Operand.tmp 2) = .string s2 := hu 2 (by decide)
        unfold StepOk
        rw [if_pos (by rfl)]
        clear hu hd
        generalize a.eval = ρ at *
        go_simp
        exact opOk_val rfl
      · intro a W hW hu hd
        have kc : ∀ c, a.eval (Operand.const c) = c := fun _ => rfl
        have kf : ∀ f, a.eval (Operand.func f) = .func (.func f) #[] #[] := fun _ => rfl
        have sW := st4.to hW
        have rl := sW.rules
        simp only [Rules, World.size_alloc] at rl
        have u49 : a.eval (Operand.tmp 49) = .string s2 := hd 1 49 (by kernel_rfl) rfl
        unfold StepOk
        rw [if_pos (by rfl)]
        clear hu hd
        generalize a.eval = ρ at *
        go_simp
        exact opOk_call_same (HC.out _) rfl
      · intro a W hW hu hd
        have kc : ∀ c, a.eval (Operand.const c) = c := fun _ => rfl
        have kf : ∀ f, a.eval (Operand.func f) = .func (.func f) #[] #[] := fun _ => rfl
        have sW := st4.to hW
        have rl := sW.rules
        simp only [Rules, World.size_alloc] at rl
        have u3 : a.eval (Operand.tmp 3) = .int .u64 (x3 : Int) := hu 3 (by decide)
        unfold StepOk
        rw [if_pos (by rfl)]
        clear hu hd
        generalize a.eval = ρ at *
        go_simp
        exact opOk_val rfl
      · intro a W hW hu hd
        have kc : ∀ c, a.eval (Operand.const c) = c := fun _ => rfl
        have kf : ∀ f, a.eval (Operand.func f) = .func (.func f) #[] #[] := fun _ => rfl
        have sW := st4.to hW
        have rl := sW.rules
        simp only [Rules, World.size_alloc] at rl
        have u48 : a.eval (Operand.tmp 48) = kv ka kb := hd 0 48 (by kernel_rfl) rfl
        have u50 : a.eval (Operand.tmp 50) = .string c := hd 2 50 (by kernel_rfl) rfl
        have u51 : a.eval (Operand.tmp 51) = .int .u64 (x3 : Int) := hd 3 51 (by kernel_rfl) rfl
        unfold StepOk
        rw [if_pos (by rfl)]
        clear hu hd
        generalize a.eval = ρ at *
        go_simp
        exact opOk_call (K2.out _) (fun _ _ => rfl)
      · intro a W hW hu hd
        have kc : ∀ c, a.eval (Operand.const c) = c := fun _ => rfl
        have kf : ∀ f, a.eval (Operand.func f) = .func (.func f) #[] #[] := fun _ => rfl
        have sW := st4.to hW
        have rl := sW.rules
        simp only [Rules, World.size_alloc] at rl
        have u52 : a.eval (Operand.tmp 52) = .tuple #[.agg #[.int .u64 d0, .int .i64 d1, .int .u64 d2], .int .i64 de] := hd 4 52 (by kernel_rfl) rfl
        unfold StepOk
        rw [if_pos (by rfl)]
        clear hu hd
        generalize a.eval = ρ at *
        go_simp
        exact opOk_val rfl
      · intro a W hW hu hd
        have kc : ∀ c, a.eval (Operand.const c) = c := fun _ => rfl
        have kf : ∀ f, a.eval (Operand.func f) = .func (.func f) #[] #[] := fun _ => rfl
        have sW := st4.to hW
        have rl := sW.rules
        simp only [Rules, World.size_alloc] at rl
        have u47 : a.eval (Operand.tmp 47) = .tuple #[.agg #[.int .u64 d0, .int .i64 d1, .int .u64 d2], .int .i64 de] := hd 5 47 (by kernel_rfl) rfl
        unfold StepOk
        rw [if_pos (by rfl)]
        clear hu hd
        generalize a.eval = ρ at *
        go_simp
        exact opOk_val rfl
      · intro a W hW hu hd
        have kc : ∀ c, a.eval (Operand.const c) = c := fun _ => rfl
        have kf : ∀ f, a.eval (Operand.func f) = .func (.func f) #[] #[] := fun _ => rfl
        have sW := st4.to hW
        have rl := sW.rules
        simp only [Rules, World.size_alloc] at rl
        have u47 : a.eval (Operand.tmp 47) = .tuple #[.agg #[.int .u64 d0, .int .i64 d1, .int .u64 d2], .int .i64 de] := hd 5 47 (by kernel_rfl) rfl
        unfold StepOk
        rw [if_pos (by rfl)]
        clear hu hd
        generalize a.eval = ρ at *
        go_simp
        exact opOk_val rfl
      · intro a W hW hu hd
        have kc : ∀ c, a.eval (Operand.const c) = c := fun _ => rfl
        have kf : ∀ f, a.eval (Operand.func f) = .func (.func f) #[] #[] := fun _ => rfl
        have sW := st4.to hW
        have rl := sW.rules
        simp only [Rules, World.size_alloc] at rl
        unfold StepOk
        rw [if_pos (by rfl)]
        clear hu hd
        generalize a.eval = ρ at *
        go_simp
        exact opOk_new hW.size
    case late =>
      intro oq hoq a W hW hu hd W'
      cases hoq
      have u47 : a.eval (Operand.tmp 47) = .tuple #[.agg #[.int .u64 d0, .int .i64 d1, .int .u64 d2], .int .i64 de] := hd 5 47 (by kernel_rfl) rfl
      clear hu hd
      generalize a.eval = ρ at *
      go_simp
    case store =>
      intro os hos a W hW hu hd
      cases hos
      have sW := st4.to hW
      have u53 : a.eval (Operand.tmp 53) = .agg #[.int .u64 d0, .int .i64 d1, .int .u64 d2] := hd 6 53 (by kernel_rfl) rfl
      obtain ⟨A9, hA, hA9, hN9⟩ : IsNew XD.heap.size #[.int .u64 0, .int .i64 0, .int .u64 0] 26 (a.eval (Operand.tmp 20)) W := hd 8 20 (by kernel_rfl) rfl
      have rl := blk_cell hN9
      have rf := blk_free hN9
      clear hu hd
      generalize a.eval = ρ at *
      go_simp
    case endd =>
      intro v W hW hv
      have v0 : v 0 = (kv ka kb) := hv 0 (by omega)
      have v1 : v 1 = (.string s2) := hv 1 (by omega)
      have v2 : v 2 = (.string c) := hv 2 (by omega)
      have v3 : v 3 = (.int .u64 (x3 : Int)) := hv 3 (by omega)
      have v4 : v 4 = (.tuple #[.agg #[.int .u64 d0, .int .i64 d1, .int .u64 d2], .int .i64 de]) := hv 4 (by omega)
      have v5 : v 5 = (.tuple #[.agg #[.int .u64 d0, .int .i64 d1, .int .u64 d2], .int .i64 de]) := hv 5 (by omega)
      have v6 : v 6 = (.agg #[.int .u64 d0, .int .i64 d1, .int .u64 d2]) := hv 6 (by omega)
      have v7 : v 7 = (.int .i64 de) := hv 7 (by omega)
      obtain ⟨E8, v8, hE8, hN8⟩ : IsNew XD.heap.size #[.int .u64 0, .int .i64 0, .int .u64 0] 26 (v 8) W := hv 8 (by omega)
      clear hv
      simp only [List.take_succ_cons, List.take_zero, List.drop_succ_cons, List.drop_zero, putAll, Nat.zero_add, Nat.reduceAdd]
      rw [v0, v1, v2, v3, v4, v5, v6, v7, v8]
      clear v0 v1 v2 v3 v4 v5 v6 v7 v8
      have sW := st4.to hW
      have sN := St.addNew st4 sW hE8 hN8
      have rl := sN.rules
      simp only [Rules] at rl
      have hle : w.heap.size ≤ E8 := Nat.le_trans st4.below.size hE8
      have sS := ((sN.setT 0 (o := 0) (v := .int .u64 d0) rfl hle).setT 0 (o := 1) (v := .int .i64 d1) rfl hle).setT 0 (o := 2) (v := .int .u64 d2) rfl hle
      simp only [setB, List.modify_zero_cons, List.setIfInBounds_toArray, List.set_cons_succ, List.set_cons_zero] at sS
      go_wp2_with fail
      clear sN sW hN8 rl hW
      generalize ((W.setCell ⟨E8, 0, none⟩ (.int .u64 d0)).setCell ⟨E8, 1, none⟩ (.int .i64 d1)).setCell ⟨E8, 2, none⟩ (.int .u64 d2) = XE at *
      rename St w _ _ XE => st5
      have rl := st5.rules
      simp only [Rules] at rl
      refine (HC.out _).mono ?_
      rintro e w9 ⟨rfl, rfl⟩
      go_wp2_with fail
      refine (B1.out _ (hS.below (Nat.le_refl _) st5.below)).mono ?_
      rintro e w10 ⟨rfl, hb10⟩
      have st6 := (st5.to hb10).alloc (cs := #[.int .u64 e0, .int .i64 e1, .int .u64 e2]) (T := 26)
      clear rl
      have rl := (st5.to hb10).rules
      clear st5 hb10
      simp only [Rules] at rl
      go_wp2_with fail
      refine (HC.out _).mono ?_
      rintro e w9 ⟨rfl, rfl⟩
      go_wp2_with fail
      refine (B2.out _).mono ?_
      rintro e w11 ⟨rfl, hb11⟩
      have st7 := (st6.to hb11).alloc (cs := #[.int .u64 e0, .int .i64 e1, .int .u64 e2]) (T := 26)
      clear rl
      have rl := (st6.to hb11).rules
      clear st6 hb11
      simp only [Rules] at rl
      go_wp2_with fail
      refine (may_any r4 r5 _).mono ?_
      rintro e w12 ⟨rfl, hb12⟩
      have st8 := st7.to hb12
      clear rl
      go_wp2_with fail
      refine (refMay_any r4 r5 _).mono ?_
      rintro e w13 ⟨rfl, rfl⟩
      go_wp2_with fail
      go_ret
      exact ⟨by first | rfl | (simp; done), st8.below⟩


set_option maxRecDepth 100000 in
theorem lifted (os : Os) (started : os.Started) (H : Type) (enc : TypeId × Value → H) :
    ReturnsInHanded {} Tryd.checked os 3 .any (fun w args => (Rows.tokenMintsSpec.pre enc Tryd.prog Tryd.f3 Rows.tokenMintsRow.domain false w args ∧ laidMetH Tryd.prog laidL w) ∧ sizedMet enc Tryd.prog Tryd.f3 (OpenSpec.ofChange Rows.tokenMintsSpec) false w args) (Rows.tokenMintsSpec.post enc Tryd.prog Tryd.f3 false true false false) := by
  refine returnsInHanded_of_change_and (C := Tryd.checked) (X := fun w _ => laidMetH Tryd.prog laidL w) (fun _ _ _ hh h => h.of_heap hh) own started (by kernel_rfl) Tryd.func3
    (ChangeSpec.witness_at (enc := enc) (C := Tryd.checked) (os := os) (X := fun w _ => laidMetH Tryd.prog laidL w) false (laidWorld os) #[.agg #[.int .u64 0, .int .u64 0], .agg #[.int .u64 0, .int .i64 0, .int .u64 0], .string ⟨#[]⟩, .int .u64 0, .int .i64 0, .int .i64 0] 8 rfl (by kernel_rfl) (by kernel_rfl) (by kernel_rfl) (by kernel_rfl) (by kernel_rfl) (laidWorld_metH os _)) ?_
  intro W base args ds gs before hval0 hW hcnd _ hL _
  obtain ⟨sp, sq, hS⟩ := sents_of_laid hL
  have hval : ∀ (j : Nat) t v, Tryd.f3.params[j]? = some t → args[j]? = some v → Value.okWide Tryd.prog W .any base t v := hval0
  have hW' := hW
  obtain ⟨p, q, hA0, hV, rfl, hfz, hnd⟩ := hW
  have hA : DataW.TrodAll enc Tryd.prog W 0 (fun _ => true) true Tryd.f3.params.toList args.toList ds p := hA0
  rw [Tryd.params3] at hA hval
  obtain ⟨v0, vs0, d0, ds0, p0, q0, hargs, rfl, rfl, h0, r0⟩ := trodAll_cons hA
  obtain ⟨v1, vs1, d1, ds1, p1, q1, rfl, rfl, rfl, h1, r1⟩ := trodAll_cons r0
  obtain ⟨v2, vs2, d2, ds2, p2, q2, rfl, rfl, rfl, h2, r2⟩ := trodAll_cons r1
  obtain ⟨v3, vs3, d3, ds3, p3, q3, rfl, rfl, rfl, h3, r3⟩ := trodAll_cons r2
  obtain ⟨v4, vs4, d4, ds4, p4, q4, rfl, rfl, rfl, h4, r4⟩ := trodAll_cons r3
  obtain ⟨v5, vs5, d5, ds5, p5, q5, rfl, rfl, rfl, h5, r5⟩ := trodAll_cons r4
  obtain ⟨rfl, rfl, rfl⟩ := trodAll_nil r5
  obtain rfl : args = #[v0, v1, v2, v3, v4, v5] := by cases args; simp_all
  obtain ⟨rfl, rfl⟩ := trodVars_none hV
  have k0 := h0
  have lt0 : ∀ x ∈ p0, x.block < W.heap.size := by obtain ⟨m, hm⟩ := k0; exact DataW.trod_lt m _ _ _ hm
  obtain ⟨a0, b0, rfl⟩ := openKey (hval 0 24 v0 rfl rfl) h0
  have k1 := h1
  have lt1 : ∀ x ∈ p1, x.block < W.heap.size := by obtain ⟨m, hm⟩ := k1; exact DataW.trod_lt m _ _ _ hm
  obtain ⟨ct1, cr1, cu1, rfl, tb1, ra1, rb1, ub1⟩ := openClaim (hval 1 26 v1 rfl rfl) h1
  have k2 := h2
  have lt2 : ∀ x ∈ p2, x.block < W.heap.size := by obtain ⟨m, hm⟩ := k2; exact DataW.trod_lt m _ _ _ hm
  obtain ⟨s2, rfl, hs2⟩ := openStr (hval 2 9 v2 rfl rfl) h2
  have k3 := h3
  have lt3 : ∀ x ∈ p3, x.block < W.heap.size := by obtain ⟨m, hm⟩ := k3; exact DataW.trod_lt m _ _ _ hm
  obtain ⟨x3, rfl, xb3⟩ := openNat (hval 3 22 v3 rfl rfl) h3
  have k4 := h4
  have lt4 : ∀ x ∈ p4, x.block < W.heap.size := by obtain ⟨m, hm⟩ := k4; exact DataW.trod_lt m _ _ _ hm
  obtain ⟨n4, rfl, na4, nb4⟩ := openInt (hval 4 3 v4 rfl rfl) h4
  have k5 := h5
  have lt5 : ∀ x ∈ p5, x.block < W.heap.size := by obtain ⟨m, hm⟩ := k5; exact DataW.trod_lt m _ _ _ hm
  obtain ⟨n5, rfl, na5, nb5⟩ := openInt (hval 5 3 v5 rfl rfl) h5
  clear hA0 hval0
  refine (walk a0 b0 ct1 cr1 cu1 tb1 ra1 rb1 ub1 s2 hs2 x3 xb3 n4 na4 nb4 n5 na5 nb5 W hS ).mono fun e W' ⟨he, bel⟩ => ?_
  subst he
  exact ⟨_, rfl, _, _, _, [], _, [], hW', trodAll_mk1 (shut_bool Tryd.underlying4 _), (trodAll_cons_mk (Below.trod laidOut (by kernel_rfl) (of_decide_eq_true (by kernel_rfl)) k0 bel lt0) (trodAll_cons_mk (Below.trod laidOut (by kernel_rfl) (of_decide_eq_true (by kernel_rfl)) k1 bel lt1) (trodAll_cons_mk (Below.trod laidOut (by kernel_rfl) (of_decide_eq_true (by kernel_rfl)) k2 bel lt2) (trodAll_cons_mk (Below.trod laidOut (by kernel_rfl) (of_decide_eq_true (by kernel_rfl)) k3 bel lt3) (trodAll_cons_mk (Below.trod laidOut (by kernel_rfl) (of_decide_eq_true (by kernel_rfl)) k4 bel lt4) (trodAll_cons_mk (Below.trod laidOut (by kernel_rfl) (of_decide_eq_true (by kernel_rfl)) k5 bel lt5) trodAll_mk0)))))), rfl, bel.frame _, fun h => by cases h⟩

theorem over : Rows.tokenMintsRow.holds Tryd.pinned (OpenSpec.ofChange Rows.tokenMintsSpec) :=
  OpenClaim.holds_of_wide 3 Tryd.f3 rfl rfl rfl rfl rfl rfl rfl ⟨rfl, rfl, rfl, rfl, rfl⟩ rfl rfl rfl rfl rfl (by kernel_rfl) Tryd.func3 (by kernel_rfl)
    (of_decide_eq_true (by kernel_rfl)) (by unfold Func.isWrapper; first | (rw [if_pos (by decide +kernel)]; kernel_rfl) | (rw [if_neg (by decide +kernel)]; exact ⟨rfl, rfl⟩))
    (fun os started H enc _ => lifted os started H enc)

/-- THE STATEMENT -/
theorem proved : Rows.TokenMintsCardSaid :=
  Claim7.holds_tied_plain_at .later [] [.sentinel, .sentinel] true _ true over (fun _ h => by cases h) (by kernel_rfl) (fun _ h => by cases h) tokenMints_row_tie rfl ⟨rfl, rfl⟩ (by kernel_rfl) rfl
    (fun f fn hf hfn => by
      obtain rfl : f = 3 := Option.some.inj ((show Tryd.prog.funcNamed "aviary/aviarylaw17.TokenMints" = some 3 by kernel_rfl).symm.trans hf) |>.symm
      obtain rfl : fn = Tryd.f3 := (Option.some.inj (Tryd.func3.symm.trans hfn)).symm
      refine ⟨by kernel_rfl, fun j t ht => ?_⟩
      rw [Tryd.params3] at ht
      rcases j with _ | _ | _ | _ | _ | _ | j
      · obtain rfl : t = 24 := by simpa using ht.symm
        exact (show Tryd.prog.wantsStandIn 24 = false by kernel_rfl)
      · obtain rfl : t = 26 := by simpa using ht.symm
        exact (show Tryd.prog.wantsStandIn 26 = false by kernel_rfl)
      · obtain rfl : t = 9 := by simpa using ht.symm
        exact (show Tryd.prog.wantsStandIn 9 = false by kernel_rfl)
      · obtain rfl : t = 22 := by simpa using ht.symm
        exact (show Tryd.prog.wantsStandIn 22 = false by kernel_rfl)
      · obtain rfl : t = 3 := by simpa using ht.symm
        exact (show Tryd.prog.wantsStandIn 3 = false by kernel_rfl)
      · obtain rfl : t = 3 := by simpa using ht.symm
        exact (show Tryd.prog.wantsStandIn 3 = false by kernel_rfl)
      · simp at ht)
    (by kernel_rfl)
#print axioms proved
end Go.Proofs.YthhoikcknfbclaaDoor.tokenMints
