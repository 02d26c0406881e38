/- AuditTells: for every key, sum, two logs and number, the sums, what is last, what is from a number on, and how far a chain goes are the reference's. No condition. -/
import Derived.Test.YtclhbimlpamjiaaRows
import Derived.Test.YtclhbimlpamjiaaShown16
import Derived.Test.YtclhbimlpamjiaaOpenLog
import Derived.Test.YtclhbimlpamjiaaEntEq
import Derived.Test.YtclhbimlpamjiaaAppSpec
import Derived.Test.YtclhbimlpamjiaaSpec3
import Derived.Test.YtclhbimlpamjiaaFrom
import Derived.Test.YtclhbimlpamjiaaOpen
import Derived.WalkKit
import Derived.ProofKit
import Derived.OpenShut
import Derived.ShutString
import Derived.ChangeOld
import Derived.Below
namespace Go.Proofs.Ytclhbimlpamjiaa.auditTells
open Go.ChangeShapes Go.WideShapes Go.ChangeAt Go.RowKit Go.Joins
set_option linter.unusedVariables false

theorem own : ownKnob Try.prog.godebug = none := by kernel_rfl
theorem laidOut : laidOutB Try.prog = true := by kernel_rfl

set_option linter.unusedSimpArgs false
set_option maxRecDepth 100000 in
set_option maxHeartbeats 2000000 in
theorem walk (a0 b0 : BitVec 64) (x1 : Int) (xa1 : 0 ≤ x1) (xb1 : x1 < 18446744073709551616) (bf2 : Int) (fa2 : 0 ≤ bf2) (fb2 : bf2 < 18446744073709551616) (s2 : Option Addr) (L2 : List Ent) (cap2 : Nat) (hN2 : ∀ x ∈ L2, x.Num) (hl2 : L2.length ≤ cap2) (hc2 : cap2 ≤ 9223372036854775807) (hn2 : s2 = none → cap2 = 0) (x3 : Int) (xa3 : 0 ≤ x3) (xb3 : x3 < 18446744073709551616) (bf4 : Int) (fa4 : 0 ≤ bf4) (fb4 : bf4 < 18446744073709551616) (s4 : Option Addr) (L4 : List Ent) (cap4 : Nat) (hN4 : ∀ x ∈ L4, x.Num) (hl4 : L4.length ≤ cap4) (hc4 : cap4 ≤ 9223372036854775807) (hn4 : s4 = none → cap4 = 0) (w : World) (hE2 : Ents w s2 L2) (hE4 : Ents w s4 L4) :
    Calls Try.prog 9 #[kv a0 b0, .int .u64 x1, lv bf2 s2 L2.length cap2, .int .u64 x3, lv bf4 s4 L4.length cap4] w fun e w' => e = .returned (.bool true) ∧ Below w.heap.size w w' := by
  classical
  have st0 := (St.start w).alloc (cs := #[.int .u64 (un a0), .int .u64 (un b0)]) (T := 24) |>.alloc (cs := #[.int .u64 bf2, .slice s2 L2.length cap2]) (T := 27) |>.alloc (cs := #[.int .u64 bf4, .slice s4 L4.length cap4]) (T := 27)
  go_enter Try.func9, Try.ntmps9
  go_wp2_with fail
  refine (st0.call (shown_any _)).mono ?_
  rintro e w1 ⟨rfl, st1⟩
  have rl := st1.rules
  simp only [Rules, World.size_alloc] at rl
  have hz2 := rl.2.2.1
  go_wp2_with fail
  refine (fewLog_any bf2 L2 hN2 (by omega) s2 cap2 _ (hE2.below st1.below)).mono ?_
  rintro e w2 ⟨v2, rfl, hown2, hb2⟩
  have hM := fewE_ok L2 hN2
  have hMl := fewE_length L2
  generalize fewE L2 = M at *
  obtain ⟨sl, cl, hv2, _⟩ := own_ents hown2
  subst hv2
  have st2 := (st1.to hb2).lessE (F := fun W => OwnE W w1.heap.size (.slice sl M.length cl) M) hown2 ownsRow_keep
  have hz1 : w.heap.size + 1 < w1.heap.size := by omega
  have hsz2 : w1.heap.size ≤ w2.heap.size := hb2.size
  have st3 := (st2.set 1 rfl (o := 0) (v := .int .u64 bf2) (by simp) (fun h => ownsRow_setCell_below h (by simpa using hz1) _)).set 1 rfl (o := 1) (v := .slice sl M.length cl) (by simp) (fun h => ownsRow_setCell_below h (by simpa using hz1) _)
  simp only [setB, List.modify_succ_cons, List.modify_zero_cons, List.setIfInBounds_toArray, List.set_cons_succ, List.set_cons_zero, World.size_alloc] at st3
  clear rl hb2 hown2
  have rl := st2.rules
  simp only [Rules, World.size_alloc] at rl
  go_wp2_with fail
  clear rl st2
  refine (fewLog_any bf4 L4 hN4 (by omega) s4 cap4 _ (hE4.below st3.below)).mono ?_
  rintro e w4 ⟨v4, rfl, hown4, hb4⟩
  have hN := fewE_ok L4 hN4
  have hNl := fewE_length L4
  generalize fewE L4 = N at *
  obtain ⟨sm, cm, hv4, _⟩ := own_ents hown4
  subst hv4
  replace hown4 : OwnE w4 w1.heap.size (.slice sm N.length cm) N := ownsRow_base hown4 (by simp only [World.setCell, Array.size_modify]; exact hsz2)
  have hz0 : w.heap.size + 1 + 1 < w1.heap.size := by omega
  have st4 := (st3.to hb4).also (F := fun W => OwnE W w1.heap.size (.slice sm N.length cm) N) hown4 ownsRow_keep
  have st5 := (st4.set 0 rfl (o := 0) (v := .int .u64 bf4) (by omega) (fun h => ⟨ownsRow_setCell_below h.1 (by simpa using hz0) _, ownsRow_setCell_below h.2 (by simpa using hz0) _⟩)).set 0 rfl (o := 1) (v := .slice sm N.length cm) (by omega) (fun h => ⟨ownsRow_setCell_below h.1 (by simpa using hz0) _, ownsRow_setCell_below h.2 (by simpa using hz0) _⟩)
  simp only [setB, List.modify_succ_cons, List.modify_zero_cons, List.setIfInBounds_toArray, List.set_cons_succ, List.set_cons_zero, World.size_alloc] at st5
  clear hb4 hown4 st3
  have rl := st4.rules
  simp only [Rules, World.size_alloc] at rl
  have hM1 : M.length ≤ 1000 := by omega
  have hN1 : N.length ≤ 1000 := by omega
  go_wp2_with fail
  clear rl st4
  refine (st5.call' (fun st => chained_any a0 b0 x1 xa1 xb1 M hM hM1 _ cl _ (own_ents_at st.ex.1))).mono ?_
  rintro e w6 ⟨rfl, st6⟩
  clear st5
  have rl := st6.rules
  simp only [Rules, World.size_alloc] at rl
  go_wp2_with fail
  clear rl
  refine (st6.call' (fun st => refChained_any a0 b0 x1 xa1 xb1 M hM hM1 _ cl _ (own_ents_at st.ex.1))).mono ?_
  rintro e w7 ⟨rfl, st7⟩
  clear st6
  have rl := st7.rules
  simp only [Rules, World.size_alloc] at rl
  go_wp2_with fail
  clear rl
  go_loopw [16] (fun i wr => ∃ k : Nat, k ≤ M.length ∧ i = .int .i64 k ∧ St w [(w.heap.size + 1 + 1, #[.int .u64 bf4, .slice sm N.length cm], 27), (w.heap.size + 1, #[.int .u64 bf2, .slice sl M.length cl], 27), (w.heap.size, #[.int .u64 (un a0), .int .u64 (un b0)], 24)] (fun W => OwnE W w1.heap.size (.slice sl M.length cl) M ∧ OwnE W w1.heap.size (.slice sm N.length cm) N) wr) (fun i _ => M.length - (intOf i).toNat)
  case atStart => exact ⟨0, Nat.zero_le _, rfl, st7⟩
  case round =>
    obtain ⟨k, hk, rfl, st⟩ := hrel
    clear st7
    by_cases hlt : k < M.length
    · have hx := List.getElem?_eq_getElem hlt
      have hok := hM _ (List.getElem_mem hlt)
      obtain ⟨g, o, he, _⟩ := own_ents_at st.ex.1 k _ hx
      subst he
      have rl := st.rules
      simp only [Rules] at rl
      go_wp2_with fail
      clear rl
      obtain ⟨bl8, E8, hne8, sh8, rl, hEx, hbx, hst⟩ := st.hide
      refine region_st sh8 (by kernel_rfl) (by kernel_rfl) ?_
      simp only [Rules] at rl
      have d0 : ∀ z : Cs w bl8 E8, z.W.cell? ⟨g, o + k * 4, none⟩ = some (.int .u64 (M[k]'hlt).seq) := fun z => by
        obtain ⟨g', o', he, _, c0, _⟩ := own_ents_at (hEx z).out.1 k _ hx
        cases he
        exact c0
      have d1 : ∀ z : Cs w bl8 E8, z.W.cell? ⟨g, o + k * 4 + 1, none⟩ = some (.int .u64 (M[k]'hlt).at') := fun z => by
        obtain ⟨g', o', he, _, _, c1, _⟩ := own_ents_at (hEx z).out.1 k _ hx
        cases he
        exact c1
      have d2 : ∀ z : Cs w bl8 E8, z.W.cell? ⟨g, o + k * 4 + 2, none⟩ = some (.string (M[k]'hlt).text) := fun z => by
        obtain ⟨g', o', he, _, _, _, c2, _⟩ := own_ents_at (hEx z).out.1 k _ hx
        cases he
        exact c2
      have d3 : ∀ z : Cs w bl8 E8, z.W.cell? ⟨g, o + k * 4 + 3, none⟩ = some (.int .u64 (M[k]'hlt).sum) := fun z => by
        obtain ⟨g', o', he, _, _, _, _, c3⟩ := own_ents_at (hEx z).out.1 k _ hx
        cases he
        exact c3
      clear hx
      generalize (M[k]'hlt) = x at *
      repeat (first | go_big_quiet_step ((first | (go_at_call 20; exact Cs.call (auditSum_any a0 b0 x1 xa1 xb1 x hok _)) | (go_at_call 25; exact Cs.call (refEntSum_any a0 b0 x1 xa1 xb1 x hok _)))) | quiet_step ((first | (go_at_call 20; exact Cs.call (auditSum_any a0 b0 x1 xa1 xb1 x hok _)) | (go_at_call 25; exact Cs.call (refEntSum_any a0 b0 x1 xa1 xb1 x hok _)))))
      refine wpQuiet_nil ?_
      intro z
      have st9 := (hst z).out
      clear d0 d1 d2 d3 hbx hst sh8 hEx rl
      generalize z.W = w9 at *
      go_wp2_with fail
      go_roundw
      case rel => exact ⟨k + 1, hlt, by go_num, st9⟩
      case measure => simp [intOf]; omega
    · obtain rfl : k = M.length := by omega
      obtain ⟨rS, hRS⟩ : ∃ r : Bool, r = true ↔ (bf2 = bf4 ∧ M = N) := ⟨decide (bf2 = bf4 ∧ M = N), decide_eq_true_iff⟩
      have HRS := Lib.hid hRS
      have hF1 : (fromE x3 M).length ≤ 1000 := Nat.le_trans (fromE_length _ _) hM1
      clear hRS
      have rl := st.rules
      simp only [Rules] at rl
      go_wp2_with fail
      clear rl
      obtain ⟨w5, hw5⟩ : ∃ w5, w5 = wr := ⟨_, rfl⟩
      subst hw5
      have st5 := st
      refine region_spec 48 (Fs [IsVal (.bool true), IsVal (.bool true), IsVal (.int .i64 (chain a0 b0 x1 M).1), IsVal (.int .i64 (chain a0 b0 x1 M).1), IsVal (.bool true), IsVal (.bool true), IsVal (.bool true), IsVal (.bool (chain a0 b0 x1 M).2), IsVal (.bool (chain a0 b0 x1 M).2), IsVal (.bool true), IsVal (.bool true), IsVal (.bool true), IsVal (lv bf2 sl M.length cl), IsVal (.int .u64 (headE bf2 M)), IsVal (lv bf2 sl M.length cl), IsVal (.int .u64 (headE bf2 M)), IsVal (.bool true), IsVal (.bool true), IsVal (.bool true), IsVal (lv bf2 sl M.length cl), IsVal (.int .u64 (lastE M)), IsVal (lv bf2 sl M.length cl), IsVal (.int .u64 (lastE M)), IsVal (.bool true), IsVal (.bool true), IsVal (.bool true), IsVal (lv bf2 sl M.length cl), IsVal (.int .u64 x3), IsOwnE w5.heap.size (fromE x3 M), IsVal (lv bf2 sl M.length cl), IsVal (.int .u64 x3), IsOwnE w5.heap.size (fromE x3 M), IsVal (.bool true), IsVal (.bool true), IsVal (.bool true), IsVal (lv bf2 sl M.length cl), IsVal (lv bf4 sm N.length cm), IsVal (.bool rS), IsVal (lv bf2 sl M.length cl), IsVal (lv bf4 sm N.length cm), IsVal (.bool rS), IsVal (.bool true), IsVal (.bool true), IsVal (.bool true), IsVal (lv bf2 sl M.length cl), IsVal (lv bf2 sl M.length cl), IsVal (.bool true), IsVal (.bool true)]) (by kernel_rfl) (by kernel_rfl) (by kernel_rfl) (Fs_stable _ ?stab) ?spec ?endd
      case stab =>
        simp only [List.forall_mem_cons]
        exact ⟨stableVal _, stableVal _, stableVal _, stableVal _, stableVal _, stableVal _, stableVal _, stableVal _, stableVal _, stableVal _, stableVal _, stableVal _, stableVal _, stableVal _, stableVal _, stableVal _, stableVal _, stableVal _, stableVal _, stableVal _, stableVal _, stableVal _, stableVal _, stableVal _, stableVal _, stableVal _, stableVal _, stableVal _, stableOwnE _ _, stableVal _, stableVal _, stableOwnE _ _, stableVal _, stableVal _, stableVal _, stableVal _, stableVal _, stableVal _, stableVal _, stableVal _, stableVal _, stableVal _, stableVal _, stableVal _, stableVal _, stableVal _, stableVal _, stableVal _, by simp⟩
      case spec =>
        refine ⟨?_, ?_, ?_, ?_, ?_, ?_, ?_, ?_, ?_, ?_, ?_, ?_, ?_, ?_, ?_, ?_, ?_, ?_, ?_, ?_, ?_, ?_, ?_, ?_, ?_, ?_, ?_, ?_, ?_, ?_, ?_, ?_, ?_, ?_, ?_, ?_, ?_, ?_, ?_, ?_, ?_, ?_, ?_, ?_, ?_, ?_, ?_, ?_, trivial⟩
        · intro a W hW hu hd
          have kc : ∀ c, a.eval (Operand.const c) = c := fun _ => rfl
          have kf : ∀ f, a.eval (Operand.func f) = .func (.func f) #[] #[] := fun _ => rfl
          have sW := st5.to hW
          have rl := sW.rules
          simp only [Rules, World.size_alloc] at rl
          have u11 : a.eval (Operand.tmp 11) = .bool true := hu 11 (by decide)
          unfold StepOk
          rw [if_pos (by rfl)]
          clear hu hd
          generalize a.eval = ρ at *
          go_simp
          exact opOk_val rfl
        · intro a W hW hu hd
          have kc : ∀ c, a.eval (Operand.const c) = c := fun _ => rfl
          have kf : ∀ f, a.eval (Operand.func f) = .func (.func f) #[] #[] := fun _ => rfl
          have sW := st5.to hW
          have rl := sW.rules
          simp only [Rules, World.size_alloc] at rl
          have u62 : a.eval (Operand.tmp 62) = .bool true := hd 0 62 (by kernel_rfl) rfl
          unfold StepOk
          rw [if_pos (by rfl)]
          clear hu hd
          generalize a.eval = ρ at *
          go_simp
          exact opOk_val rfl
        · intro a W hW hu hd
          have kc : ∀ c, a.eval (Operand.const c) = c := fun _ => rfl
          have kf : ∀ f, a.eval (Operand.func f) = .func (.func f) #[] #[] := fun _ => rfl
          have sW := st5.to hW
          have rl := sW.rules
          simp only [Rules, World.size_alloc] at rl
          have ug : a.tmps.getD 63 undef = .bool true := hd 1 63 (by kernel_rfl) rfl
          have u12 : a.eval (Operand.tmp 12) = .int .i64 (chain a0 b0 x1 M).1 := hu 12 (by decide)
          unfold StepOk
          rw [if_pos (wanted_of (by kernel_rfl) ug)]
          clear hu hd
          generalize a.eval = ρ at *
          go_simp
          exact opOk_val rfl
        · intro a W hW hu hd
          have kc : ∀ c, a.eval (Operand.const c) = c := fun _ => rfl
          have kf : ∀ f, a.eval (Operand.func f) = .func (.func f) #[] #[] := fun _ => rfl
          have sW := st5.to hW
          have rl := sW.rules
          simp only [Rules, World.size_alloc] at rl
          have ug : a.tmps.getD 63 undef = .bool true := hd 1 63 (by kernel_rfl) rfl
          have u14 : a.eval (Operand.tmp 14) = .int .i64 (chain a0 b0 x1 M).1 := hu 14 (by decide)
          unfold StepOk
          rw [if_pos (wanted_of (by kernel_rfl) ug)]
          clear hu hd
          generalize a.eval = ρ at *
          go_simp
          exact opOk_val rfl
        · intro a W hW hu hd
          have kc : ∀ c, a.eval (Operand.const c) = c := fun _ => rfl
          have kf : ∀ f, a.eval (Operand.func f) = .func (.func f) #[] #[] := fun _ => rfl
          have sW := st5.to hW
          have rl := sW.rules
          simp only [Rules, World.size_alloc] at rl
          have ug : a.tmps.getD 63 undef = .bool true := hd 1 63 (by kernel_rfl) rfl
          have u64 : a.eval (Operand.tmp 64) = .int .i64 (chain a0 b0 x1 M).1 := hd 2 64 (by kernel_rfl) rfl
          have u65 : a.eval (Operand.tmp 65) = .int .i64 (chain a0 b0 x1 M).1 := hd 3 65 (by kernel_rfl) rfl
          unfold StepOk
          rw [if_pos (wanted_of (by kernel_rfl) ug)]
          clear hu hd
          generalize a.eval = ρ at *
          go_simp
          exact opOk_val rfl
        · intro a W hW hu hd
          have kc : ∀ c, a.eval (Operand.const c) = c := fun _ => rfl
          have kf : ∀ f, a.eval (Operand.func f) = .func (.func f) #[] #[] := fun _ => rfl
          have sW := st5.to hW
          have rl := sW.rules
          simp only [Rules, World.size_alloc] at rl
          have u63 : a.eval (Operand.tmp 63) = .bool true := hd 1 63 (by kernel_rfl) rfl
          have u66 : a.eval (Operand.tmp 66) = .bool true := hd 4 66 (by kernel_rfl) rfl
          unfold StepOk
          rw [if_pos (by rfl)]
          clear hu hd
          generalize a.eval = ρ at *
          go_simp
          exact opOk_val rfl
        · intro a W hW hu hd
          have kc : ∀ c, a.eval (Operand.const c) = c := fun _ => rfl
          have kf : ∀ f, a.eval (Operand.func f) = .func (.func f) #[] #[] := fun _ => rfl
          have sW := st5.to hW
          have rl := sW.rules
          simp only [Rules, World.size_alloc] at rl
          have u67 : a.eval (Operand.tmp 67) = .bool true := hd 5 67 (by kernel_rfl) rfl
          unfold StepOk
          rw [if_pos (by rfl)]
          clear hu hd
          generalize a.eval = ρ at *
          go_simp
          exact opOk_val rfl
        · intro a W hW hu hd
          have kc : ∀ c, a.eval (Operand.const c) = c := fun _ => rfl
          have kf : ∀ f, a.eval (Operand.func f) = .func (.func f) #[] #[] := fun _ => rfl
          have sW := st5.to hW
          have rl := sW.rules
          simp only [Rules, World.size_alloc] at rl
          have ug : a.tmps.getD 68 undef = .bool true := hd 6 68 (by kernel_rfl) rfl
          have u13 : a.eval (Operand.tmp 13) = .bool (chain a0 b0 x1 M).2 := hu 13 (by decide)
          unfold StepOk
          rw [if_pos (wanted_of (by kernel_rfl) ug)]
          clear hu hd
          generalize a.eval = ρ at *
          go_simp
          exact opOk_val rfl
        · intro a W hW hu hd
          have kc : ∀ c, a.eval (Operand.const c) = c := fun _ => rfl
          have kf : ∀ f, a.eval (Operand.func f) = .func (.func f) #[] #[] := fun _ => rfl
          have sW := st5.to hW
          have rl := sW.rules
          simp only [Rules, World.size_alloc] at rl
          have ug : a.tmps.getD 68 undef = .bool true := hd 6 68 (by kernel_rfl) rfl
          have u15 : a.eval (Operand.tmp 15) = .bool (chain a0 b0 x1 M).2 := hu 15 (by decide)
          unfold StepOk
          rw [if_pos (wanted_of (by kernel_rfl) ug)]
          clear hu hd
          generalize a.eval = ρ at *
          go_simp
          exact opOk_val rfl
        · intro a W hW hu hd
          have kc : ∀ c, a.eval (Operand.const c) = c := fun _ => rfl
          have kf : ∀ f, a.eval (Operand.func f) = .func (.func f) #[] #[] := fun _ => rfl
          have sW := st5.to hW
          have rl := sW.rules
          simp only [Rules, World.size_alloc] at rl
          have ug : a.tmps.getD 68 undef = .bool true := hd 6 68 (by kernel_rfl) rfl
          have u69 : a.eval (Operand.tmp 69) = .bool (chain a0 b0 x1 M).2 := hd 7 69 (by kernel_rfl) rfl
          have u70 : a.eval (Operand.tmp 70) = .bool (chain a0 b0 x1 M).2 := hd 8 70 (by kernel_rfl) rfl
          unfold StepOk
          rw [if_pos (wanted_of (by kernel_rfl) ug)]
          clear hu hd
          generalize a.eval = ρ at *
          go_simp
          exact opOk_val rfl
        · intro a W hW hu hd
          have kc : ∀ c, a.eval (Operand.const c) = c := fun _ => rfl
          have kf : ∀ f, a.eval (Operand.func f) = .func (.func f) #[] #[] := fun _ => rfl
          have sW := st5.to hW
          have rl := sW.rules
          simp only [Rules, World.size_alloc] at rl
          have u68 : a.eval (Operand.tmp 68) = .bool true := hd 6 68 (by kernel_rfl) rfl
          have u71 : a.eval (Operand.tmp 71) = .bool true := hd 9 71 (by kernel_rfl) rfl
          unfold StepOk
          rw [if_pos (by rfl)]
          clear hu hd
          generalize a.eval = ρ at *
          go_simp
          exact opOk_val rfl
        · intro a W hW hu hd
          have kc : ∀ c, a.eval (Operand.const c) = c := fun _ => rfl
          have kf : ∀ f, a.eval (Operand.func f) = .func (.func f) #[] #[] := fun _ => rfl
          have sW := st5.to hW
          have rl := sW.rules
          simp only [Rules, World.size_alloc] at rl
          have u72 : a.eval (Operand.tmp 72) = .bool true := hd 10 72 (by kernel_rfl) rfl
          unfold StepOk
          rw [if_pos (by rfl)]
          clear hu hd
          generalize a.eval = ρ at *
          go_simp
          exact opOk_val rfl
        · intro a W hW hu hd
          have kc : ∀ c, a.eval (Operand.const c) = c := fun _ => rfl
          have kf : ∀ f, a.eval (Operand.func f) = .func (.func f) #[] #[] := fun _ => rfl
          have sW := st5.to hW
          have rl := sW.rules
          simp only [Rules, World.size_alloc] at rl
          have ug : a.tmps.getD 73 undef = .bool true := hd 11 73 (by kernel_rfl) rfl
          have u7 : a.eval (Operand.tmp 7) = .pointer (some ⟨w.heap.size + 1, 0, none⟩) := hu 7 (by decide)
          unfold StepOk
          rw [if_pos (wanted_of (by kernel_rfl) ug)]
          clear hu hd
          generalize a.eval = ρ at *
          go_simp
          exact opOk_val rfl
        · intro a W hW hu hd
          have kc : ∀ c, a.eval (Operand.const c) = c := fun _ => rfl
          have kf : ∀ f, a.eval (Operand.func f) = .func (.func f) #[] #[] := fun _ => rfl
          have sW := st5.to hW
          have rl := sW.rules
          simp only [Rules, World.size_alloc] at rl
          have ug : a.tmps.getD 73 undef = .bool true := hd 11 73 (by kernel_rfl) rfl
          have u74 : a.eval (Operand.tmp 74) = lv bf2 sl M.length cl := hd 12 74 (by kernel_rfl) rfl
          unfold StepOk
          rw [if_pos (wanted_of (by kernel_rfl) ug)]
          clear hu hd
          generalize a.eval = ρ at *
          go_simp
          exact opOk_call (head_any bf2 M hM1 sl cl _ (own_ents_at sW.ex.1)) (fun _ _ => rfl)
        · intro a W hW hu hd
          have kc : ∀ c, a.eval (Operand.const c) = c := fun _ => rfl
          have kf : ∀ f, a.eval (Operand.func f) = .func (.func f) #[] #[] := fun _ => rfl
          have sW := st5.to hW
          have rl := sW.rules
          simp only [Rules, World.size_alloc] at rl
          have ug : a.tmps.getD 73 undef = .bool true := hd 11 73 (by kernel_rfl) rfl
          have u7 : a.eval (Operand.tmp 7) = .pointer (some ⟨w.heap.size + 1, 0, none⟩) := hu 7 (by decide)
          unfold StepOk
          rw [if_pos (wanted_of (by kernel_rfl) ug)]
          clear hu hd
          generalize a.eval = ρ at *
          go_simp
          exact opOk_val rfl
        · intro a W hW hu hd
          have kc : ∀ c, a.eval (Operand.const c) = c := fun _ => rfl
          have kf : ∀ f, a.eval (Operand.func f) = .func (.func f) #[] #[] := fun _ => rfl
          have sW := st5.to hW
          have rl := sW.rules
          simp only [Rules, World.size_alloc] at rl
          have ug : a.tmps.getD 73 undef = .bool true := hd 11 73 (by kernel_rfl) rfl
          have u76 : a.eval (Operand.tmp 76) = lv bf2 sl M.length cl := hd 14 76 (by kernel_rfl) rfl
          unfold StepOk
          rw [if_pos (wanted_of (by kernel_rfl) ug)]
          clear hu hd
          generalize a.eval = ρ at *
          go_simp
          exact opOk_call (refHead_any bf2 M hM1 sl cl _ (own_ents_at sW.ex.1)) (fun _ _ => rfl)
        · intro a W hW hu hd
          have kc : ∀ c, a.eval (Operand.const c) = c := fun _ => rfl
          have kf : ∀ f, a.eval (Operand.func f) = .func (.func f) #[] #[] := fun _ => rfl
          have sW := st5.to hW
          have rl := sW.rules
          simp only [Rules, World.size_alloc] at rl
          have ug : a.tmps.getD 73 undef = .bool true := hd 11 73 (by kernel_rfl) rfl
          have u75 : a.eval (Operand.tmp 75) = .int .u64 (headE bf2 M) := hd 13 75 (by kernel_rfl) rfl
          have u77 : a.eval (Operand.tmp 77) = .int .u64 (headE bf2 M) := hd 15 77 (by kernel_rfl) rfl
          unfold StepOk
          rw [if_pos (wanted_of (by kernel_rfl) ug)]
          clear hu hd
          generalize a.eval = ρ at *
          go_simp
          exact opOk_val rfl
        · intro a W hW hu hd
          have kc : ∀ c, a.eval (Operand.const c) = c := fun _ => rfl
          have kf : ∀ f, a.eval (Operand.func f) = .func (.func f) #[] #[] := fun _ => rfl
          have sW := st5.to hW
          have rl := sW.rules
          simp only [Rules, World.size_alloc] at rl
          have u73 : a.eval (Operand.tmp 73) = .bool true := hd 11 73 (by kernel_rfl) rfl
          have u78 : a.eval (Operand.tmp 78) = .bool true := hd 16 78 (by kernel_rfl) rfl
          unfold StepOk
          rw [if_pos (by rfl)]
          clear hu hd
          generalize a.eval = ρ at *
          go_simp
          exact opOk_val rfl
        · intro a W hW hu hd
          have kc : ∀ c, a.eval (Operand.const c) = c := fun _ => rfl
          have kf : ∀ f, a.eval (Operand.func f) = .func (.func f) #[] #[] := fun _ => rfl
          have sW := st5.to hW
          have rl := sW.rules
          simp only [Rules, World.size_alloc] at rl
          have u79 : a.eval (Operand.tmp 79) = .bool true := hd 17 79 (by kernel_rfl) rfl
          unfold StepOk
          rw [if_pos (by rfl)]
          clear hu hd
          generalize a.eval = ρ at *
          go_simp
          exact opOk_val rfl
        · intro a W hW hu hd
          have kc : ∀ c, a.eval (Operand.const c) = c := fun _ => rfl
          have kf : ∀ f, a.eval (Operand.func f) = .func (.func f) #[] #[] := fun _ => rfl
          have sW := st5.to hW
          have rl := sW.rules
          simp only [Rules, World.size_alloc] at rl
          have ug : a.tmps.getD 80 undef = .bool true := hd 18 80 (by kernel_rfl) rfl
          have u7 : a.eval (Operand.tmp 7) = .pointer (some ⟨w.heap.size + 1, 0, none⟩) := hu 7 (by decide)
          unfold StepOk
          rw [if_pos (wanted_of (by kernel_rfl) ug)]
          clear hu hd
          generalize a.eval = ρ at *
          go_simp
          exact opOk_val rfl
        · intro a W hW hu hd
          have kc : ∀ c, a.eval (Operand.const c) = c := fun _ => rfl
          have kf : ∀ f, a.eval (Operand.func f) = .func (.func f) #[] #[] := fun _ => rfl
          have sW := st5.to hW
          have rl := sW.rules
          simp only [Rules, World.size_alloc] at rl
          have ug : a.tmps.getD 80 undef = .bool true := hd 18 80 (by kernel_rfl) rfl
          have u81 : a.eval (Operand.tmp 81) = lv bf2 sl M.length cl := hd 19 81 (by kernel_rfl) rfl
          unfold StepOk
          rw [if_pos (wanted_of (by kernel_rfl) ug)]
          clear hu hd
          generalize a.eval = ρ at *
          go_simp
          exact opOk_call (last_any bf2 M hM1 sl cl _ (own_ents_at sW.ex.1)) (fun _ _ => rfl)
        · intro a W hW hu hd
          have kc : ∀ c, a.eval (Operand.const c) = c := fun _ => rfl
          have kf : ∀ f, a.eval (Operand.func f) = .func (.func f) #[] #[] := fun _ => rfl
          have sW := st5.to hW
          have rl := sW.rules
          simp only [Rules, World.size_alloc] at rl
          have ug : a.tmps.getD 80 undef = .bool true := hd 18 80 (by kernel_rfl) rfl
          have u7 : a.eval (Operand.tmp 7) = .pointer (some ⟨w.heap.size + 1, 0, none⟩) := hu 7 (by decide)
          unfold StepOk
          rw [if_pos (wanted_of (by kernel_rfl) ug)]
          clear hu hd
          generalize a.eval = ρ at *
          go_simp
          exact opOk_val rfl
        · intro a W hW hu hd
          have kc : ∀ c, a.eval (Operand.const c) = c := fun _ => rfl
          have kf : ∀ f, a.eval (Operand.func f) = .func (.func f) #[] #[] := fun _ => rfl
          have sW := st5.to hW
          have rl := sW.rules
          simp only [Rules, World.size_alloc] at rl
          have ug : a.tmps.getD 80 undef = .bool true := hd 18 80 (by kernel_rfl) rfl
          have u83 : a.eval (Operand.tmp 83) = lv bf2 sl M.length cl := hd 21 83 (by kernel_rfl) rfl
          unfold StepOk
          rw [if_pos (wanted_of (by kernel_rfl) ug)]
          clear hu hd
          generalize a.eval = ρ at *
          go_simp
          exact opOk_call (refLast_any bf2 M hM1 sl cl _ (own_ents_at sW.ex.1)) (fun _ _ => rfl)
        · intro a W hW hu hd
          have kc : ∀ c, a.eval (Operand.const c) = c := fun _ => rfl
          have kf : ∀ f, a.eval (Operand.func f) = .func (.func f) #[] #[] := fun _ => rfl
          have sW := st5.to hW
          have rl := sW.rules
          simp only [Rules, World.size_alloc] at rl
          have ug : a.tmps.getD 80 undef = .bool true := hd 18 80 (by kernel_rfl) rfl
          have u82 : a.eval (Operand.tmp 82) = .int .u64 (lastE M) := hd 20 82 (by kernel_rfl) rfl
          have u84 : a.eval (Operand.tmp 84) = .int .u64 (lastE M) := hd 22 84 (by kernel_rfl) rfl
          unfold StepOk
          rw [if_pos (wanted_of (by kernel_rfl) ug)]
          clear hu hd
          generalize a.eval = ρ at *
          go_simp
          exact opOk_val rfl
        · intro a W hW hu hd
          have kc : ∀ c, a.eval (Operand.const c) = c := fun _ => rfl
          have kf : ∀ f, a.eval (Operand.func f) = .func (.func f) #[] #[] := fun _ => rfl
          have sW := st5.to hW
          have rl := sW.rules
          simp only [Rules, World.size_alloc] at rl
          have u80 : a.eval (Operand.tmp 80) = .bool true := hd 18 80 (by kernel_rfl) rfl
          have u85 : a.eval (Operand.tmp 85) = .bool true := hd 23 85 (by kernel_rfl) rfl
          unfold StepOk
          rw [if_pos (by rfl)]
          clear hu hd
          generalize a.eval = ρ at *
          go_simp
          exact opOk_val rfl
        · intro a W hW hu hd
          have kc : ∀ c, a.eval (Operand.const c) = c := fun _ => rfl
          have kf : ∀ f, a.eval (Operand.func f) = .func (.func f) #[] #[] := fun _ => rfl
          have sW := st5.to hW
          have rl := sW.rules
          simp only [Rules, World.size_alloc] at rl
          have u86 : a.eval (Operand.tmp 86) = .bool true := hd 24 86 (by kernel_rfl) rfl
          unfold StepOk
          rw [if_pos (by rfl)]
          clear hu hd
          generalize a.eval = ρ at *
          go_simp
          exact opOk_val rfl
        · intro a W hW hu hd
          have kc : ∀ c, a.eval (Operand.const c) = c := fun _ => rfl
          have kf : ∀ f, a.eval (Operand.func f) = .func (.func f) #[] #[] := fun _ => rfl
          have sW := st5.to hW
          have rl := sW.rules
          simp only [Rules, World.size_alloc] at rl
          have ug : a.tmps.getD 87 undef = .bool true := hd 25 87 (by kernel_rfl) rfl
          have u7 : a.eval (Operand.tmp 7) = .pointer (some ⟨w.heap.size + 1, 0, none⟩) := hu 7 (by decide)
          unfold StepOk
          rw [if_pos (wanted_of (by kernel_rfl) ug)]
          clear hu hd
          generalize a.eval = ρ at *
          go_simp
          exact opOk_val rfl
        · intro a W hW hu hd
          have kc : ∀ c, a.eval (Operand.const c) = c := fun _ => rfl
          have kf : ∀ f, a.eval (Operand.func f) = .func (.func f) #[] #[] := fun _ => rfl
          have sW := st5.to hW
          have rl := sW.rules
          simp only [Rules, World.size_alloc] at rl
          have ug : a.tmps.getD 87 undef = .bool true := hd 25 87 (by kernel_rfl) rfl
          have u3 : a.eval (Operand.tmp 3) = .int .u64 x3 := hu 3 (by decide)
          unfold StepOk
          rw [if_pos (wanted_of (by kernel_rfl) ug)]
          clear hu hd
          generalize a.eval = ρ at *
          go_simp
          exact opOk_val rfl
        · intro a W hW hu hd
          have kc : ∀ c, a.eval (Operand.const c) = c := fun _ => rfl
          have kf : ∀ f, a.eval (Operand.func f) = .func (.func f) #[] #[] := fun _ => rfl
          have sW := st5.to hW
          have rl := sW.rules
          simp only [Rules, World.size_alloc] at rl
          have ug : a.tmps.getD 87 undef = .bool true := hd 25 87 (by kernel_rfl) rfl
          have u88 : a.eval (Operand.tmp 88) = lv bf2 sl M.length cl := hd 26 88 (by kernel_rfl) rfl
          have u89 : a.eval (Operand.tmp 89) = .int .u64 x3 := hd 27 89 (by kernel_rfl) rfl
          unfold StepOk
          rw [if_pos (wanted_of (by kernel_rfl) ug)]
          clear hu hd
          generalize a.eval = ρ at *
          go_simp
          exact opOk_callE ((from_any bf2 M hM hM1 sl cl x3 xa3 xb3 _ (own_ents_at sW.ex.1)).mono fun e w' ⟨v, he, ho, hb⟩ => ⟨v, he, hb, ownsRow_base ho hW.size⟩)
        · intro a W hW hu hd
          have kc : ∀ c, a.eval (Operand.const c) = c := fun _ => rfl
          have kf : ∀ f, a.eval (Operand.func f) = .func (.func f) #[] #[] := fun _ => rfl
          have sW := st5.to hW
          have rl := sW.rules
          simp only [Rules, World.size_alloc] at rl
          have ug : a.tmps.getD 87 undef = .bool true := hd 25 87 (by kernel_rfl) rfl
          have u7 : a.eval (Operand.tmp 7) = .pointer (some ⟨w.heap.size + 1, 0, none⟩) := hu 7 (by decide)
          unfold StepOk
          rw [if_pos (wanted_of (by kernel_rfl) ug)]
          clear hu hd
          generalize a.eval = ρ at *
          go_simp
          exact opOk_val rfl
        · intro a W hW hu hd
          have kc : ∀ c, a.eval (Operand.const c) = c := fun _ => rfl
          have kf : ∀ f, a.eval (Operand.func f) = .func (.func f) #[] #[] := fun _ => rfl
          have sW := st5.to hW
          have rl := sW.rules
          simp only [Rules, World.size_alloc] at rl
          have ug : a.tmps.getD 87 undef = .bool true := hd 25 87 (by kernel_rfl) rfl
          have u3 : a.eval (Operand.tmp 3) = .int .u64 x3 := hu 3 (by decide)
          unfold StepOk
          rw [if_pos (wanted_of (by kernel_rfl) ug)]
          clear hu hd
          generalize a.eval = ρ at *
          go_simp
          exact opOk_val rfl
        · intro a W hW hu hd
          have kc : ∀ c, a.eval (Operand.const c) = c := fun _ => rfl
          have kf : ∀ f, a.eval (Operand.func f) = .func (.func f) #[] #[] := fun _ => rfl
          have sW := st5.to hW
          have rl := sW.rules
          simp only [Rules, World.size_alloc] at rl
          have ug : a.tmps.getD 87 undef = .bool true := hd 25 87 (by kernel_rfl) rfl
          have u91 : a.eval (Operand.tmp 91) = lv bf2 sl M.length cl := hd 29 91 (by kernel_rfl) rfl
          have u92 : a.eval (Operand.tmp 92) = .int .u64 x3 := hd 30 92 (by kernel_rfl) rfl
          unfold StepOk
          rw [if_pos (wanted_of (by kernel_rfl) ug)]
          clear hu hd
          generalize a.eval = ρ at *
          go_simp
          exact opOk_callE ((refFrom_any bf2 M hM hM1 sl cl x3 xa3 xb3 _ (own_ents_at sW.ex.1)).mono fun e w' ⟨v, he, ho, hb⟩ => ⟨v, he, hb, ownsRow_base ho hW.size⟩)
        · intro a W hW hu hd
          have kc : ∀ c, a.eval (Operand.const c) = c := fun _ => rfl
          have kf : ∀ f, a.eval (Operand.func f) = .func (.func f) #[] #[] := fun _ => rfl
          have sW := st5.to hW
          have rl := sW.rules
          simp only [Rules, World.size_alloc] at rl
          have ug : a.tmps.getD 87 undef = .bool true := hd 25 87 (by kernel_rfl) rfl
          have f90 : IsOwnE w5.heap.size (fromE x3 M) (a.eval (Operand.tmp 90)) W := hd 28 90 (by kernel_rfl) rfl
          have f93 : IsOwnE w5.heap.size (fromE x3 M) (a.eval (Operand.tmp 93)) W := hd 31 93 (by kernel_rfl) rfl
          unfold IsOwnE at f90 f93
          obtain ⟨s90, c90, h90, _, e90, _⟩ := own_ents f90
          obtain ⟨s93, c93, h93, _, e93, _⟩ := own_ents f93
          clear f90 f93
          unfold StepOk
          rw [if_pos (wanted_of (by kernel_rfl) ug)]
          clear hu hd
          generalize a.eval = ρ at *
          go_simp
          exact opOk_call (entries_any (fromE x3 M) (fromE x3 M) hF1 hF1 s90 s93 c90 c93 true ⟨fun _ => rfl, fun _ => rfl⟩ _ e90 e93) (fun _ _ => rfl)
        · intro a W hW hu hd
          have kc : ∀ c, a.eval (Operand.const c) = c := fun _ => rfl
          have kf : ∀ f, a.eval (Operand.func f) = .func (.func f) #[] #[] := fun _ => rfl
          have sW := st5.to hW
          have rl := sW.rules
          simp only [Rules, World.size_alloc] at rl
          have u87 : a.eval (Operand.tmp 87) = .bool true := hd 25 87 (by kernel_rfl) rfl
          have u94 : a.eval (Operand.tmp 94) = .bool true := hd 32 94 (by kernel_rfl) rfl
          unfold StepOk
          rw [if_pos (by rfl)]
          clear hu hd
          generalize a.eval = ρ at *
          go_simp
          exact opOk_val rfl
        · intro a W hW hu hd
          have kc : ∀ c, a.eval (Operand.const c) = c := fun _ => rfl
          have kf : ∀ f, a.eval (Operand.func f) = .func (.func f) #[] #[] := fun _ => rfl
          have sW := st5.to hW
          have rl := sW.rules
          simp only [Rules, World.size_alloc] at rl
          have u95 : a.eval (Operand.tmp 95) = .bool true := hd 33 95 (by kernel_rfl) rfl
          unfold StepOk
          rw [if_pos (by rfl)]
          clear hu hd
          generalize a.eval = ρ at *
          go_simp
          exact opOk_val rfl
        · intro a W hW hu hd
          have kc : ∀ c, a.eval (Operand.const c) = c := fun _ => rfl
          have kf : ∀ f, a.eval (Operand.func f) = .func (.func f) #[] #[] := fun _ => rfl
          have sW := st5.to hW
          have rl := sW.rules
          simp only [Rules, World.size_alloc] at rl
          have ug : a.tmps.getD 96 undef = .bool true := hd 34 96 (by kernel_rfl) rfl
          have u7 : a.eval (Operand.tmp 7) = .pointer (some ⟨w.heap.size + 1, 0, none⟩) := hu 7 (by decide)
          unfold StepOk
          rw [if_pos (wanted_of (by kernel_rfl) ug)]
          clear hu hd
          generalize a.eval = ρ at *
          go_simp
          exact opOk_val rfl
        · intro a W hW hu hd
          have kc : ∀ c, a.eval (Operand.const c) = c := fun _ => rfl
          have kf : ∀ f, a.eval (Operand.func f) = .func (.func f) #[] #[] := fun _ => rfl
          have sW := st5.to hW
          have rl := sW.rules
          simp only [Rules, World.size_alloc] at rl
          have ug : a.tmps.getD 96 undef = .bool true := hd 34 96 (by kernel_rfl) rfl
          have u9 : a.eval (Operand.tmp 9) = .pointer (some ⟨w.heap.size + 1 + 1, 0, none⟩) := hu 9 (by decide)
          unfold StepOk
          rw [if_pos (wanted_of (by kernel_rfl) ug)]
          clear hu hd
          generalize a.eval = ρ at *
          go_simp
          exact opOk_val rfl
        · intro a W hW hu hd
          have kc : ∀ c, a.eval (Operand.const c) = c := fun _ => rfl
          have kf : ∀ f, a.eval (Operand.func f) = .func (.func f) #[] #[] := fun _ => rfl
          have sW := st5.to hW
          have rl := sW.rules
          simp only [Rules, World.size_alloc] at rl
          have ug : a.tmps.getD 96 undef = .bool true := hd 34 96 (by kernel_rfl) rfl
          have u97 : a.eval (Operand.tmp 97) = lv bf2 sl M.length cl := hd 35 97 (by kernel_rfl) rfl
          have u98 : a.eval (Operand.tmp 98) = lv bf4 sm N.length cm := hd 36 98 (by kernel_rfl) rfl
          unfold StepOk
          rw [if_pos (wanted_of (by kernel_rfl) ug)]
          clear hu hd
          generalize a.eval = ρ at *
          go_simp
          exact opOk_call (same_any bf2 bf4 M N hM1 hN1 sl sm cl cm rS HRS.out _ (own_ents_at sW.ex.1) (own_ents_at sW.ex.2)) (fun _ _ => rfl)
        · intro a W hW hu hd
          have kc : ∀ c, a.eval (Operand.const c) = c := fun _ => rfl
          have kf : ∀ f, a.eval (Operand.func f) = .func (.func f) #[] #[] := fun _ => rfl
          have sW := st5.to hW
          have rl := sW.rules
          simp only [Rules, World.size_alloc] at rl
          have ug : a.tmps.getD 96 undef = .bool true := hd 34 96 (by kernel_rfl) rfl
          have u7 : a.eval (Operand.tmp 7) = .pointer (some ⟨w.heap.size + 1, 0, none⟩) := hu 7 (by decide)
          unfold StepOk
          rw [if_pos (wanted_of (by kernel_rfl) ug)]
          clear hu hd
          generalize a.eval = ρ at *
          go_simp
          exact opOk_val rfl
        · intro a W hW hu hd
          have kc : ∀ c, a.eval (Operand.const c) = c := fun _ => rfl
          have kf : ∀ f, a.eval (Operand.func f) = .func (.func f) #[] #[] := fun _ => rfl
          have sW := st5.to hW
          have rl := sW.rules
          simp only [Rules, World.size_alloc] at rl
          have ug : a.tmps.getD 96 undef = .bool true := hd 34 96 (by kernel_rfl) rfl
          have u9 : a.eval (Operand.tmp 9) = .pointer (some ⟨w.heap.size + 1 + 1, 0, none⟩) := hu 9 (by decide)
          unfold StepOk
          rw [if_pos (wanted_of (by kernel_rfl) ug)]
          clear hu hd
          generalize a.eval = ρ at *
          go_simp
          exact opOk_val rfl
        · intro a W hW hu hd
          have kc : ∀ c, a.eval (Operand.const c) = c := fun _ => rfl
          have kf : ∀ f, a.eval (Operand.func f) = .func (.func f) #[] #[] := fun _ => rfl
          have sW := st5.to hW
          have rl := sW.rules
          simp only [Rules, World.size_alloc] at rl
          have ug : a.tmps.getD 96 undef = .bool true := hd 34 96 (by kernel_rfl) rfl
          have u100 : a.eval (Operand.tmp 100) = lv bf2 sl M.length cl := hd 38 100 (by kernel_rfl) rfl
          have u101 : a.eval (Operand.tmp 101) = lv bf4 sm N.length cm := hd 39 101 (by kernel_rfl) rfl
          unfold StepOk
          rw [if_pos (wanted_of (by kernel_rfl) ug)]
          clear hu hd
          generalize a.eval = ρ at *
          go_simp
          exact opOk_call (refSame_any bf2 bf4 M N hM1 hN1 sl sm cl cm rS HRS.out _ (own_ents_at sW.ex.1) (own_ents_at sW.ex.2)) (fun _ _ => rfl)
        · intro a W hW hu hd
          have kc : ∀ c, a.eval (Operand.const c) = c := fun _ => rfl
          have kf : ∀ f, a.eval (Operand.func f) = .func (.func f) #[] #[] := fun _ => rfl
          have sW := st5.to hW
          have rl := sW.rules
          simp only [Rules, World.size_alloc] at rl
          have ug : a.tmps.getD 96 undef = .bool true := hd 34 96 (by kernel_rfl) rfl
          have u99 : a.eval (Operand.tmp 99) = .bool rS := hd 37 99 (by kernel_rfl) rfl
          have u102 : a.eval (Operand.tmp 102) = .bool rS := hd 40 102 (by kernel_rfl) rfl
          unfold StepOk
          rw [if_pos (wanted_of (by kernel_rfl) ug)]
          clear hu hd
          generalize a.eval = ρ at *
          go_simp
          exact opOk_val rfl
        · intro a W hW hu hd
          have kc : ∀ c, a.eval (Operand.const c) = c := fun _ => rfl
          have kf : ∀ f, a.eval (Operand.func f) = .func (.func f) #[] #[] := fun _ => rfl
          have sW := st5.to hW
          have rl := sW.rules
          simp only [Rules, World.size_alloc] at rl
          have u96 : a.eval (Operand.tmp 96) = .bool true := hd 34 96 (by kernel_rfl) rfl
          have u103 : a.eval (Operand.tmp 103) = .bool true := hd 41 103 (by kernel_rfl) rfl
          unfold StepOk
          rw [if_pos (by rfl)]
          clear hu hd
          generalize a.eval = ρ at *
          go_simp
          exact opOk_val rfl
        · intro a W hW hu hd
          have kc : ∀ c, a.eval (Operand.const c) = c := fun _ => rfl
          have kf : ∀ f, a.eval (Operand.func f) = .func (.func f) #[] #[] := fun _ => rfl
          have sW := st5.to hW
          have rl := sW.rules
          simp only [Rules, World.size_alloc] at rl
          have u104 : a.eval (Operand.tmp 104) = .bool true := hd 42 104 (by kernel_rfl) rfl
          unfold StepOk
          rw [if_pos (by rfl)]
          clear hu hd
          generalize a.eval = ρ at *
          go_simp
          exact opOk_val rfl
        · intro a W hW hu hd
          have kc : ∀ c, a.eval (Operand.const c) = c := fun _ => rfl
          have kf : ∀ f, a.eval (Operand.func f) = .func (.func f) #[] #[] := fun _ => rfl
          have sW := st5.to hW
          have rl := sW.rules
          simp only [Rules, World.size_alloc] at rl
          have ug : a.tmps.getD 105 undef = .bool true := hd 43 105 (by kernel_rfl) rfl
          have u7 : a.eval (Operand.tmp 7) = .pointer (some ⟨w.heap.size + 1, 0, none⟩) := hu 7 (by decide)
          unfold StepOk
          rw [if_pos (wanted_of (by kernel_rfl) ug)]
          clear hu hd
          generalize a.eval = ρ at *
          go_simp
          exact opOk_val rfl
        · intro a W hW hu hd
          have kc : ∀ c, a.eval (Operand.const c) = c := fun _ => rfl
          have kf : ∀ f, a.eval (Operand.func f) = .func (.func f) #[] #[] := fun _ => rfl
          have sW := st5.to hW
          have rl := sW.rules
          simp only [Rules, World.size_alloc] at rl
          have ug : a.tmps.getD 105 undef = .bool true := hd 43 105 (by kernel_rfl) rfl
          have u7 : a.eval (Operand.tmp 7) = .pointer (some ⟨w.heap.size + 1, 0, none⟩) := hu 7 (by decide)
          unfold StepOk
          rw [if_pos (wanted_of (by kernel_rfl) ug)]
          clear hu hd
          generalize a.eval = ρ at *
          go_simp
          exact opOk_val rfl
        · intro a W hW hu hd
          have kc : ∀ c, a.eval (Operand.const c) = c := fun _ => rfl
          have kf : ∀ f, a.eval (Operand.func f) = .func (.func f) #[] #[] := fun _ => rfl
          have sW := st5.to hW
          have rl := sW.rules
          simp only [Rules, World.size_alloc] at rl
          have ug : a.tmps.getD 105 undef = .bool true := hd 43 105 (by kernel_rfl) rfl
          have u106 : a.eval (Operand.tmp 106) = lv bf2 sl M.length cl := hd 44 106 (by kernel_rfl) rfl
          have u107 : a.eval (Operand.tmp 107) = lv bf2 sl M.length cl := hd 45 107 (by kernel_rfl) rfl
          unfold StepOk
          rw [if_pos (wanted_of (by kernel_rfl) ug)]
          clear hu hd
          generalize a.eval = ρ at *
          go_simp
          exact opOk_call (same_any bf2 bf2 M M hM1 hM1 sl sl cl cl true ⟨fun _ => ⟨rfl, rfl⟩, fun _ => rfl⟩ _ (own_ents_at sW.ex.1) (own_ents_at sW.ex.1)) (fun _ _ => rfl)
        · intro a W hW hu hd
          have kc : ∀ c, a.eval (Operand.const c) = c := fun _ => rfl
          have kf : ∀ f, a.eval (Operand.func f) = .func (.func f) #[] #[] := fun _ => rfl
          have sW := st5.to hW
          have rl := sW.rules
          simp only [Rules, World.size_alloc] at rl
          have u105 : a.eval (Operand.tmp 105) = .bool true := hd 43 105 (by kernel_rfl) rfl
          have u108 : a.eval (Operand.tmp 108) = .bool true := hd 46 108 (by kernel_rfl) rfl
          unfold StepOk
          rw [if_pos (by rfl)]
          clear hu hd
          generalize a.eval = ρ at *
          go_simp
          exact opOk_val rfl
      case endd =>
        intro v W hW hv
        have v0 : v 0 = (.bool true) := hv 0 (by omega)
        have v1 : v 1 = (.bool true) := hv 1 (by omega)
        have v2 : v 2 = (.int .i64 (chain a0 b0 x1 M).1) := hv 2 (by omega)
        have v3 : v 3 = (.int .i64 (chain a0 b0 x1 M).1) := hv 3 (by omega)
        have v4 : v 4 = (.bool true) := hv 4 (by omega)
        have v5 : v 5 = (.bool true) := hv 5 (by omega)
        have v6 : v 6 = (.bool true) := hv 6 (by omega)
        have v7 : v 7 = (.bool (chain a0 b0 x1 M).2) := hv 7 (by omega)
        have v8 : v 8 = (.bool (chain a0 b0 x1 M).2) := hv 8 (by omega)
        have v9 : v 9 = (.bool true) := hv 9 (by omega)
        have v10 : v 10 = (.bool true) := hv 10 (by omega)
        have v11 : v 11 = (.bool true) := hv 11 (by omega)
        have v12 : v 12 = (lv bf2 sl M.length cl) := hv 12 (by omega)
        have v13 : v 13 = (.int .u64 (headE bf2 M)) := hv 13 (by omega)
        have v14 : v 14 = (lv bf2 sl M.length cl) := hv 14 (by omega)
        have v15 : v 15 = (.int .u64 (headE bf2 M)) := hv 15 (by omega)
        have v16 : v 16 = (.bool true) := hv 16 (by omega)
        have v17 : v 17 = (.bool true) := hv 17 (by omega)
        have v18 : v 18 = (.bool true) := hv 18 (by omega)
        have v19 : v 19 = (lv bf2 sl M.length cl) := hv 19 (by omega)
        have v20 : v 20 = (.int .u64 (lastE M)) := hv 20 (by omega)
        have v21 : v 21 = (lv bf2 sl M.length cl) := hv 21 (by omega)
        have v22 : v 22 = (.int .u64 (lastE M)) := hv 22 (by omega)
        have v23 : v 23 = (.bool true) := hv 23 (by omega)
        have v24 : v 24 = (.bool true) := hv 24 (by omega)
        have v25 : v 25 = (.bool true) := hv 25 (by omega)
        have v26 : v 26 = (lv bf2 sl M.length cl) := hv 26 (by omega)
        have v27 : v 27 = (.int .u64 x3) := hv 27 (by omega)
        have hf28 : IsOwnE w5.heap.size (fromE x3 M) (v 28) W := hv 28 (by omega)
        have v29 : v 29 = (lv bf2 sl M.length cl) := hv 29 (by omega)
        have v30 : v 30 = (.int .u64 x3) := hv 30 (by omega)
        have hf31 : IsOwnE w5.heap.size (fromE x3 M) (v 31) W := hv 31 (by omega)
        have v32 : v 32 = (.bool true) := hv 32 (by omega)
        have v33 : v 33 = (.bool true) := hv 33 (by omega)
        have v34 : v 34 = (.bool true) := hv 34 (by omega)
        have v35 : v 35 = (lv bf2 sl M.length cl) := hv 35 (by omega)
        have v36 : v 36 = (lv bf4 sm N.length cm) := hv 36 (by omega)
        have v37 : v 37 = (.bool rS) := hv 37 (by omega)
        have v38 : v 38 = (lv bf2 sl M.length cl) := hv 38 (by omega)
        have v39 : v 39 = (lv bf4 sm N.length cm) := hv 39 (by omega)
        have v40 : v 40 = (.bool rS) := hv 40 (by omega)
        have v41 : v 41 = (.bool true) := hv 41 (by omega)
        have v42 : v 42 = (.bool true) := hv 42 (by omega)
        have v43 : v 43 = (.bool true) := hv 43 (by omega)
        have v44 : v 44 = (lv bf2 sl M.length cl) := hv 44 (by omega)
        have v45 : v 45 = (lv bf2 sl M.length cl) := hv 45 (by omega)
        have v46 : v 46 = (.bool true) := hv 46 (by omega)
        have v47 : v 47 = (.bool true) := hv 47 (by omega)
        clear hv
        simp only [List.take_succ_cons, List.take_zero, List.drop_succ_cons, List.drop_zero, putAll, Nat.zero_add, Nat.reduceAdd]
        rw [v0, v1, v2, v3, v4, v5, v6, v7, v8, v9, v10, v11, v12, v13, v14, v15, v16, v17, v18, v19, v20, v21, v22, v23, v24, v25, v26, v27, v29, v30, v32, v33, v34, v35, v36, v37, v38, v39, v40, v41, v42, v43, v44, v45, v46, v47]
        clear v0 v1 v2 v3 v4 v5 v6 v7 v8 v9 v10 v11 v12 v13 v14 v15 v16 v17 v18 v19 v20 v21 v22 v23 v24 v25 v26 v27 v29 v30 v32 v33 v34 v35 v36 v37 v38 v39 v40 v41 v42 v43 v44 v45 v46 v47
        have sW := st5.to hW
        go_wp2_with fail
        go_ret
        exact ⟨rfl, sW.below⟩


set_option maxRecDepth 100000 in
theorem lifted (os : Os) (started : os.Started) (H : Type) (enc : TypeId × Value → H) :
    ReturnsInHanded {} Try.checked os 9 .any (Rows.auditTellsSpec.pre6 enc Try.prog Try.f9 Rows.auditTellsRow.domain false) (Rows.auditTellsSpec.post enc Try.prog Try.f9 false true false false) := by
  refine returnsInHanded_of_change (C := Try.checked) own started (by kernel_rfl) Try.func9
    (ChangeSpec.witness6 (enc := enc) (C := Try.checked) false ⟨#[], #[.agg #[.int .u64 0, .int .u64 0], .int .u64 0, .agg #[.int .u64 0, .slice none 0 0], .int .u64 0, .agg #[.int .u64 0, .slice none 0 0]], []⟩ 8 (by kernel_rfl) (by kernel_rfl) (by kernel_rfl) (by kernel_rfl)) ?_
  intro W base args ds gs before hval0 hW hcnd _
  have hval : ∀ (j : Nat) t v, Try.f9.params[j]? = some t → args[j]? = some v → Value.okWide Try.prog W .any base t v := hval0
  have hW' := hW
  obtain ⟨p, q, hA0, hV, rfl, hfz, hnd⟩ := hW
  have hA : DataW.TrodAll enc Try.prog W 0 (fun _ => true) true Try.f9.params.toList args.toList ds p := hA0
  rw [Try.params9] at hA hval
  obtain ⟨v0, vs0, d0, ds0, p0, q0, hargs, rfl, rfl, h0, r0⟩ := trodAll_cons hA
  obtain ⟨v1, vs1, d1, ds1, p1, q1, rfl, rfl, rfl, h1, r1⟩ := trodAll_cons r0
  obtain ⟨v2, vs2, d2, ds2, p2, q2, rfl, rfl, rfl, h2, r2⟩ := trodAll_cons r1
  obtain ⟨v3, vs3, d3, ds3, p3, q3, rfl, rfl, rfl, h3, r3⟩ := trodAll_cons r2
  obtain ⟨v4, vs4, d4, ds4, p4, q4, rfl, rfl, rfl, h4, r4⟩ := trodAll_cons r3
  obtain ⟨rfl, rfl, rfl⟩ := trodAll_nil r4
  obtain rfl : args = #[v0, v1, v2, v3, v4] := by cases args; simp_all
  obtain ⟨rfl, rfl⟩ := trodVars_none hV
  have k0 := h0
  have lt0 : ∀ x ∈ p0, x.block < W.heap.size := by obtain ⟨m, hm⟩ := k0; exact DataW.trod_lt m _ _ _ hm
  obtain ⟨a0, b0, rfl⟩ := openKey (hval 0 24 v0 rfl rfl) h0
  have k1 := h1
  have lt1 : ∀ x ∈ p1, x.block < W.heap.size := by obtain ⟨m, hm⟩ := k1; exact DataW.trod_lt m _ _ _ hm
  obtain ⟨x1, rfl, xa1, xb1⟩ := openU64i (hval 1 22 v1 rfl rfl) h1
  have k2 := h2
  have lt2 : ∀ x ∈ p2, x.block < W.heap.size := by obtain ⟨m, hm⟩ := k2; exact DataW.trod_lt m _ _ _ hm
  obtain ⟨bf2, s2, L2, cap2, rfl, fa2, fb2, hE2, hN2, hl2, hc2, hn2⟩ := openLog (hval 2 27 v2 rfl rfl) h2
  have k3 := h3
  have lt3 : ∀ x ∈ p3, x.block < W.heap.size := by obtain ⟨m, hm⟩ := k3; exact DataW.trod_lt m _ _ _ hm
  obtain ⟨x3, rfl, xa3, xb3⟩ := openU64i (hval 3 22 v3 rfl rfl) h3
  have k4 := h4
  have lt4 : ∀ x ∈ p4, x.block < W.heap.size := by obtain ⟨m, hm⟩ := k4; exact DataW.trod_lt m _ _ _ hm
  obtain ⟨bf4, s4, L4, cap4, rfl, fa4, fb4, hE4, hN4, hl4, hc4, hn4⟩ := openLog (hval 4 27 v4 rfl rfl) h4
  clear hA0 hval0
  refine (walk a0 b0 x1 xa1 xb1 bf2 fa2 fb2 s2 L2 cap2 hN2 hl2 hc2 hn2 x3 xa3 xb3 bf4 fa4 fb4 s4 L4 cap4 hN4 hl4 hc4 hn4 W hE2 hE4).mono fun e W' ⟨he, bel⟩ => ?_
  subst he
  exact ⟨_, rfl, _, _, _, [], _, [], hW', trodAll_mk1 (shut_bool Try.underlying4 _), (trodAll_cons_mk (Below.trod laidOut (by kernel_rfl) (of_decide_eq_true (by kernel_rfl)) k0 bel lt0) (trodAll_cons_mk (Below.trod laidOut (by kernel_rfl) (of_decide_eq_true (by kernel_rfl)) k1 bel lt1) (trodAll_cons_mk (Below.trod laidOut (by kernel_rfl) (of_decide_eq_true (by kernel_rfl)) k2 bel lt2) (trodAll_cons_mk (Below.trod laidOut (by kernel_rfl) (of_decide_eq_true (by kernel_rfl)) k3 bel lt3) (trodAll_cons_mk (Below.trod laidOut (by kernel_rfl) (of_decide_eq_true (by kernel_rfl)) k4 bel lt4) trodAll_mk0))))), rfl, bel.frame _, fun h => by cases h⟩

theorem over : Rows.auditTellsRow.holds Try.pinned (OpenSpec.ofChange Rows.auditTellsSpec) :=
  OpenClaim.holds_of_wide 9 Try.f9 rfl rfl rfl rfl rfl rfl rfl ⟨rfl, rfl, rfl, rfl, rfl⟩ rfl rfl rfl rfl rfl (by kernel_rfl) Try.func9 (by kernel_rfl)
    (of_decide_eq_true (by kernel_rfl)) (by unfold Func.isWrapper; first | (rw [if_pos (by decide +kernel)]; kernel_rfl) | (rw [if_neg (by decide +kernel)]; exact ⟨rfl, rfl⟩))
    (fun os started H enc _ => lifted os started H enc)

/-- THE STATEMENT -/
theorem proved : Rows.AuditTellsSaid := over
#print axioms proved
end Go.Proofs.Ytclhbimlpamjiaa.auditTells
