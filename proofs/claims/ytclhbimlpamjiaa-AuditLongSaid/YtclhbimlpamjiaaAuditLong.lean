/- AuditLong: for every key, number (0 to 60) and text, a log of many entries has the last thirty, and the sum ahead of them. No condition. -/
import Derived.Test.YtclhbimlpamjiaaRows
import Derived.Test.YtclhbimlpamjiaaShown16
import Derived.Test.YtclhbimlpamjiaaOpenLog
import Derived.Test.YtclhbimlpamjiaaAppSpec
import Derived.Test.YtclhbimlpamjiaaSpec3
import Derived.Test.YtclhbimlpamjiaaLong16
import Derived.Test.YtclhbimlpamjiaaOpen
import Derived.WalkKit
import Derived.ProofKit
import Derived.OpenShut
import Derived.ShutString
import Derived.ChangeOld
import Derived.Below
namespace Go.Proofs.Ytclhbimlpamjiaa.auditLong
open Go.ChangeShapes Go.WideShapes Go.ChangeAt Go.RowKit Go.Joins
set_option linter.unusedVariables false

theorem own : ownKnob Try.prog.godebug = none := by kernel_rfl
theorem laidOut : laidOutB Try.prog = true := by kernel_rfl

set_option linter.unusedSimpArgs false
set_option maxRecDepth 100000 in
set_option maxHeartbeats 2000000 in
theorem walk (a0 b0 : BitVec 64) (n1 : Int) (na1 : -9223372036854775808 ≤ n1) (nb1 : n1 ≤ 9223372036854775807) (s2 : ByteArray) (hs2 : s2.size ≤ 9223372036854775807) (w : World) :
    Calls Try.prog 8 #[kv a0 b0, .int .i64 n1, .string s2] w fun e w' => e = .returned (.bool true) ∧ Below w.heap.size w w' := by
  have st0 := (St.start w).alloc (cs := #[.int .u64 (un a0), .int .u64 (un b0)]) (T := 24)
  go_enter Try.func8, Try.ntmps8
  go_wp2_with fail
  refine (st0.call (shown_any _)).mono ?_
  rintro e w1 ⟨rfl, st1⟩
  clear st0
  have rl := st1.rules
  simp only [Rules] at rl
  by_cases hneg : n1 < 0
  · go_wp2_with fail
    go_ret
    exact ⟨rfl, st1.below⟩
  by_cases hbig : 60 < n1
  · go_wp2_with fail
    go_ret
    exact ⟨rfl, st1.below⟩
  obtain ⟨n, rfl⟩ : ∃ n : Nat, n1 = (n : Int) := ⟨n1.toNat, by omega⟩
  have hn60 : n ≤ 60 := by omega
  have hw1 : w.heap.size < w1.heap.size := rl.2.2.1
  clear hneg hbig
  obtain ⟨f, hfe⟩ : ∃ f : Nat → Int × ByteArray, ∀ k, f k = (7, cut200 s2) := ⟨fun _ => (7, cut200 s2), fun _ => rfl⟩
  have HF := Lib.hid hfe
  clear hfe
  have hfo : LgOk f := ⟨fun k => by rw [HF.out]; show (0 : Int) ≤ 7; decide, fun k => by rw [HF.out]; show (7 : Int) < 18446744073709551616; decide, fun k => by rw [HF.out, HF.out]; exact Int.le_refl _, fun k => by rw [HF.out]; exact cut200_size _⟩
  have st2 : St w [(w1.heap.size, #[.int .u64 0, .slice none 0 0], 27), (w.heap.size, #[.int .u64 (un a0), .int .u64 (un b0)], 24)] (fun W => OwnE W (w1.heap.size + 1) (.slice none 0 0) [] ∧ OwnU W (w1.heap.size + 1) (.slice none 0 0) []) (w1.alloc (.cells #[.int .u64 0, .slice none 0 0] 27)) := (st1.alloc).lessE ⟨World.ownsRow_nil _ _ _ _, World.ownsRow_nil _ _ _ _⟩ (fun _ _ h hb => ⟨ownsRow_keep _ _ h.1 hb, ownsRow_keep _ _ h.2 hb⟩)
  go_wp2_with fail
  clear rl st1
  go_loopw [9, 10] (fun v9 i wr => ∃ (k : Nat) (sK : Option Addr) (cK : Nat), k ≤ n ∧ i = .int .i64 k ∧ St w [(w1.heap.size, #[.int .u64 (lgB a0 b0 f k).1, .slice sK (lgB a0 b0 f k).2.length cK], 27), (w.heap.size, #[.int .u64 (un a0), .int .u64 (un b0)], 24)] (fun W => OwnE W (w1.heap.size + 1) (.slice sK (lgB a0 b0 f k).2.length cK) (lgB a0 b0 f k).2 ∧ OwnU W (w1.heap.size + 1) v9 ((List.range k).map fun j => (lgE a0 b0 f j).sum)) wr) (fun _ i _ => n - (intOf i).toNat)
  case atStart => exact ⟨0, none, 0, Nat.zero_le _, rfl, st2⟩
  case round =>
    obtain ⟨k, sK, cK, hk, rfl, st⟩ := hrel
    clear st2
    by_cases hlt : k < n
    · have hall := lgB_all a0 b0 f hfo k (by omega)
      have hs1 := lgB_succ a0 b0 f k
      have hhd := lgB_head a0 b0 f k
      have hlen := lgB_length a0 b0 f k
      rw [HF.out k] at hall hs1
      rw [hs1] at hhd
      have HS1 := Lib.hid hs1
      have HSU := Lib.hid (range_snoc (fun j => (lgE a0 b0 f j).sum) k)
      clear hs1
      have hSl : ((List.range k).map fun j => (lgE a0 b0 f j).sum).length ≤ 60 := by simp; omega
      generalize (List.range k).map (fun j => (lgE a0 b0 f j).sum) = SU at *
      generalize (lgE a0 b0 f k).sum = hdk at *
      generalize lgB a0 b0 f k = lk at *
      obtain ⟨bk, LK⟩ := lk
      simp only at hall hhd hlen HS1 st
      obtain ⟨hKok, ⟨hb0, hb1⟩, hKr, hKa⟩ := hall
      have HOK := Lib.hid hKa
      obtain ⟨_, hcapK, hnilK⟩ := own_facts st.ex.1
      have hn30 := hKr.n
      have hLA30 := (right_app a0 b0 bk LK hKok 7 (cut200 s2) hKa).n
      have hLAok := appL_ok a0 b0 bk LK hKok 7 (by omega) (by omega) _ hKa
      have HHD := Lib.hid hhd
      clear hKr hKa hhd hlen
      have rl := st.rules
      simp only [Rules] at rl
      have hz1 := rl.2.2.1
      go_wp2_with fail
      clear rl
      refine region_late 12 10 (.int .i64 0) (Fs [IsVal (kv a0 b0), IsVal (lv bk sK LK.length cK), IsVal (.string s2), IsVal (.string s2), IsVal (.int .i64 (s2.size : Int)), IsVal (.int .i64 (min (s2.size : Int) 200)), IsVal (.string (cut200 s2)), IsApp wr.heap.size (appB bk LK) (appL a0 b0 bk LK 7 (cut200 s2)), IsApp wr.heap.size (appB bk LK) (appL a0 b0 bk LK 7 (cut200 s2)), IsLogE wr.heap.size (appB bk LK) (appL a0 b0 bk LK 7 (cut200 s2)), IsVal (.int .i64 0), IsNew wr.heap.size #[.int .u64 0, .slice none 0 0] 27]) (by kernel_rfl) (by kernel_rfl) (by kernel_rfl) (Fs_stable _ ?stab) ?spec ?late (fun _ => rfl) ?store ?endd
      case stab =>
        simp only [List.forall_mem_cons]
        exact ⟨stableVal _, stableVal _, stableVal _, stableVal _, stableVal _, stableVal _, stableVal _, stableApp _ _ _, stableApp _ _ _, stableLogE _ _ _, stableVal _, stableNew _ _ _, by simp⟩
      case spec =>
        refine ⟨?_, ?_, ?_, ?_, ?_, ?_, ?_, ?_, ?_, ?_, ?_, ?_, trivial⟩
        · intro a W hW hu hd
          have kc : ∀ c, a.eval (Operand.const c) = c := fun _ => rfl
          have kf : ∀ f, a.eval (Operand.func f) = .func (.func f) #[] #[] := fun _ => rfl
          have sW := st.to hW
          have rl := sW.rules
          simp only [Rules, World.size_alloc] at rl
          have u3 : a.eval (Operand.tmp 3) = .pointer (some ⟨w.heap.size, 0, none⟩) := hu 3 (by decide)
          unfold StepOk
          rw [if_pos (by rfl)]
          clear hu hd
          generalize a.eval = ρ at *
          go_simp
          exact opOk_val rfl
        · intro a W hW hu hd
          have kc : ∀ c, a.eval (Operand.const c) = c := fun _ => rfl
          have kf : ∀ f, a.eval (Operand.func f) = .func (.func f) #[] #[] := fun _ => rfl
          have sW := st.to hW
          have rl := sW.rules
          simp only [Rules, World.size_alloc] at rl
          have u8 : a.eval (Operand.tmp 8) = .pointer (some ⟨w1.heap.size, 0, none⟩) := hu 8 (by decide)
          unfold StepOk
          rw [if_pos (by rfl)]
          clear hu hd
          generalize a.eval = ρ at *
          go_simp
          exact opOk_val rfl
        · intro a W hW hu hd
          have kc : ∀ c, a.eval (Operand.const c) = c := fun _ => rfl
          have kf : ∀ f, a.eval (Operand.func f) = .func (.func f) #[] #[] := fun _ => rfl
          have sW := st.to hW
          have rl := sW.rules
          simp only [Rules, World.size_alloc] at rl
          have u2 : a.eval (Operand.tmp 2) = .string s2 := hu 2 (by decide)
          unfold StepOk
          rw [if_pos (by rfl)]
          clear hu hd
          generalize a.eval = ρ at *
          go_simp
          exact opOk_val rfl
        · intro a W hW hu hd
          have kc : ∀ c, a.eval (Operand.const c) = c := fun _ => rfl
          have kf : ∀ f, a.eval (Operand.func f) = .func (.func f) #[] #[] := fun _ => rfl
          have sW := st.to hW
          have rl := sW.rules
          simp only [Rules, World.size_alloc] at rl
          have u2 : a.eval (Operand.tmp 2) = .string s2 := hu 2 (by decide)
          unfold StepOk
          rw [if_pos (by rfl)]
          clear hu hd
          generalize a.eval = ρ at *
          go_simp
          exact opOk_val rfl
        · intro a W hW hu hd
          have kc : ∀ c, a.eval (Operand.const c) = c := fun _ => rfl
          have kf : ∀ f, a.eval (Operand.func f) = .func (.func f) #[] #[] := fun _ => rfl
          have sW := st.to hW
          have rl := sW.rules
          simp only [Rules, World.size_alloc] at rl
          have u32 : a.eval (Operand.tmp 32) = .string s2 := hd 3 32 (by kernel_rfl) rfl
          unfold StepOk
          rw [if_pos (by rfl)]
          clear hu hd
          generalize a.eval = ρ at *
          go_simp
          exact opOk_val rfl
        · intro a W hW hu hd
          have kc : ∀ c, a.eval (Operand.const c) = c := fun _ => rfl
          have kf : ∀ f, a.eval (Operand.func f) = .func (.func f) #[] #[] := fun _ => rfl
          have sW := st.to hW
          have rl := sW.rules
          simp only [Rules, World.size_alloc] at rl
          have u33 : a.eval (Operand.tmp 33) = .int .i64 (s2.size : Int) := hd 4 33 (by kernel_rfl) rfl
          unfold StepOk
          rw [if_pos (by rfl)]
          clear hu hd
          generalize a.eval = ρ at *
          go_simp
          exact opOk_val rfl
        · intro a W hW hu hd
          have kc : ∀ c, a.eval (Operand.const c) = c := fun _ => rfl
          have kf : ∀ f, a.eval (Operand.func f) = .func (.func f) #[] #[] := fun _ => rfl
          have sW := st.to hW
          have rl := sW.rules
          simp only [Rules, World.size_alloc] at rl
          have u31 : a.eval (Operand.tmp 31) = .string s2 := hd 2 31 (by kernel_rfl) rfl
          have u34 : a.eval (Operand.tmp 34) = .int .i64 (min (s2.size : Int) 200) := hd 5 34 (by kernel_rfl) rfl
          have m0 : (0 : Int) ≤ min (s2.size : Int) 200 := by omega
          have m1 : min (s2.size : Int) 200 ≤ (s2.size : Int) := by omega
          have m2 : ((min (s2.size : Int) 200).toNat : Int) = min (s2.size : Int) 200 := by omega
          unfold StepOk
          rw [if_pos (by rfl)]
          clear hu hd
          generalize a.eval = ρ at *
          go_simp
          exact opOk_val rfl
        · intro a W hW hu hd
          have kc : ∀ c, a.eval (Operand.const c) = c := fun _ => rfl
          have kf : ∀ f, a.eval (Operand.func f) = .func (.func f) #[] #[] := fun _ => rfl
          have sW := st.to hW
          have rl := sW.rules
          simp only [Rules, World.size_alloc] at rl
          have u29 : a.eval (Operand.tmp 29) = kv a0 b0 := hd 0 29 (by kernel_rfl) rfl
          have u30 : a.eval (Operand.tmp 30) = lv bk sK LK.length cK := hd 1 30 (by kernel_rfl) rfl
          have u35 : a.eval (Operand.tmp 35) = .string (cut200 s2) := hd 6 35 (by kernel_rfl) rfl
          unfold StepOk
          rw [if_pos (by rfl)]
          clear hu hd
          generalize a.eval = ρ at *
          go_simp
          exact opOk_callE ((append_yes a0 b0 bk hb0 hb1 LK hKok sK cK hcapK hnilK 7 (by omega) (by omega) _ _ (own_ents_at sW.ex.1) HOK.out).mono fun e w' ⟨v, he, ho, hb⟩ => ⟨_, he, hb, v, rfl, ownsRow_base ho hW.size⟩)
        · intro a W hW hu hd
          have kc : ∀ c, a.eval (Operand.const c) = c := fun _ => rfl
          have kf : ∀ f, a.eval (Operand.func f) = .func (.func f) #[] #[] := fun _ => rfl
          have sW := st.to hW
          have rl := sW.rules
          simp only [Rules, World.size_alloc] at rl
          have f36 : IsApp wr.heap.size (appB bk LK) (appL a0 b0 bk LK 7 (cut200 s2)) (a.eval (Operand.tmp 36)) W := hd 7 36 (by kernel_rfl) rfl
          obtain ⟨u, hu1, hu2⟩ := f36
          unfold StepOk
          rw [if_pos (by rfl)]
          clear hu hd
          generalize a.eval = ρ at *
          go_simp
          exact opOk_val ⟨u, rfl, hu2⟩
        · intro a W hW hu hd
          have kc : ∀ c, a.eval (Operand.const c) = c := fun _ => rfl
          have kf : ∀ f, a.eval (Operand.func f) = .func (.func f) #[] #[] := fun _ => rfl
          have sW := st.to hW
          have rl := sW.rules
          simp only [Rules, World.size_alloc] at rl
          have f28 : IsApp wr.heap.size (appB bk LK) (appL a0 b0 bk LK 7 (cut200 s2)) (a.eval (Operand.tmp 28)) W := hd 8 28 (by kernel_rfl) rfl
          obtain ⟨u, hu1, hu2⟩ := f28
          unfold StepOk
          rw [if_pos (by rfl)]
          clear hu hd
          generalize a.eval = ρ at *
          go_simp
          exact opOk_val ⟨u, rfl, hu2⟩
        · intro a W hW hu hd
          have kc : ∀ c, a.eval (Operand.const c) = c := fun _ => rfl
          have kf : ∀ f, a.eval (Operand.func f) = .func (.func f) #[] #[] := fun _ => rfl
          have sW := st.to hW
          have rl := sW.rules
          simp only [Rules, World.size_alloc] at rl
          have f28 : IsApp wr.heap.size (appB bk LK) (appL a0 b0 bk LK 7 (cut200 s2)) (a.eval (Operand.tmp 28)) W := hd 8 28 (by kernel_rfl) rfl
          obtain ⟨u, hu1, hu2⟩ := f28
          unfold StepOk
          rw [if_pos (by rfl)]
          clear hu hd
          generalize a.eval = ρ at *
          go_simp
          exact opOk_val rfl
        · intro a W hW hu hd
          have kc : ∀ c, a.eval (Operand.const c) = c := fun _ => rfl
          have kf : ∀ f, a.eval (Operand.func f) = .func (.func f) #[] #[] := fun _ => rfl
          have sW := st.to hW
          have rl := sW.rules
          simp only [Rules, World.size_alloc] at rl
          unfold StepOk
          rw [if_pos (by rfl)]
          clear hu hd
          generalize a.eval = ρ at *
          go_simp
          exact opOk_new hW.size
      case late =>
        intro oq hoq a W hW hu hd W'
        cases hoq
        obtain ⟨u, hu1, hu2⟩ : IsApp wr.heap.size (appB bk LK) (appL a0 b0 bk LK 7 (cut200 s2)) (a.eval (Operand.tmp 28)) W := hd 8 28 (by kernel_rfl) rfl
        clear hu hd
        generalize a.eval = ρ at *
        go_simp
      case store =>
        intro os hos a W hW hu hd
        cases hos
        have sW := st.to hW
        obtain ⟨u, hu1, hu2⟩ : IsLogE wr.heap.size (appB bk LK) (appL a0 b0 bk LK 7 (cut200 s2)) (a.eval (Operand.tmp 37)) W := hd 9 37 (by kernel_rfl) rfl
        obtain ⟨s9, c9, hv9, _⟩ := own_ents hu2
        subst hv9
        obtain ⟨A9, hA, hA9, hN9⟩ : IsNew wr.heap.size #[.int .u64 0, .slice none 0 0] 27 (a.eval (Operand.tmp 11)) W := hd 11 11 (by kernel_rfl) rfl
        have rl := blk_cell hN9
        have rf := blk_free hN9
        clear hu hd
        generalize a.eval = ρ at *
        go_simp
      case endd =>
        intro v W hW hv
        have v0 : v 0 = (kv a0 b0) := hv 0 (by omega)
        have v1 : v 1 = (lv bk sK LK.length cK) := hv 1 (by omega)
        have v2 : v 2 = (.string s2) := hv 2 (by omega)
        have v3 : v 3 = (.string s2) := hv 3 (by omega)
        have v4 : v 4 = (.int .i64 (s2.size : Int)) := hv 4 (by omega)
        have v5 : v 5 = (.int .i64 (min (s2.size : Int) 200)) := hv 5 (by omega)
        have v6 : v 6 = (.string (cut200 s2)) := hv 6 (by omega)
        have hf7 : IsApp wr.heap.size (appB bk LK) (appL a0 b0 bk LK 7 (cut200 s2)) (v 7) W := hv 7 (by omega)
        have hf8 : IsApp wr.heap.size (appB bk LK) (appL a0 b0 bk LK 7 (cut200 s2)) (v 8) W := hv 8 (by omega)
        have hf9 : IsLogE wr.heap.size (appB bk LK) (appL a0 b0 bk LK 7 (cut200 s2)) (v 9) W := hv 9 (by omega)
        have v10 : v 10 = (.int .i64 0) := hv 10 (by omega)
        obtain ⟨A11, v11, hA11, hN11⟩ : IsNew wr.heap.size #[.int .u64 0, .slice none 0 0] 27 (v 11) W := hv 11 (by omega)
        clear hv
        simp only [List.take_succ_cons, List.take_zero, List.drop_succ_cons, List.drop_zero, putAll, Nat.zero_add, Nat.reduceAdd]
        rw [v0, v1, v2, v3, v4, v5, v6, v10, v11]
        clear v0 v1 v2 v3 v4 v5 v6 v10 v11
        have sW := st.to hW
        clear hf7 hf8
        obtain ⟨uA, huA, hownA⟩ := hf9
        rw [huA]
        generalize v 7 = v7 at *
        generalize v 8 = v8 at *
        generalize appB bk LK = b1 at *
        generalize appL a0 b0 bk LK 7 (cut200 s2) = L1 at *
        obtain ⟨sA, cA, huA2, _⟩ := own_ents hownA
        subst huA2
        clear huA
        have sN := (St.addNew st sW hA11 hN11).also (F := fun W => OwnE W wr.heap.size (.slice sA L1.length cA) L1) hownA ownsRow_keep
        have hne1 := own_old (A := A11) st.ex.1 hA11
        have hne3 := row_old (A := A11) st.ex.2 hA11
        have hne2 := own_tag hownA hN11 (by decide)
        have hwA : w.heap.size ≤ A11 := Nat.le_trans st.below.size hA11
        have sS := (sN.set 0 rfl (o := 0) (v := .int .u64 b1) hwA (fun h => ⟨⟨ownsRow_setCell_other h.1.1 hne1 _, ownsRow_setCell_other h.1.2 hne3 _⟩, ownsRow_setCell_other h.2 hne2 _⟩)).set 0 rfl (o := 1) (v := .slice sA L1.length cA) hwA (fun h => ⟨⟨ownsRow_setCell_other h.1.1 hne1 _, ownsRow_setCell_other h.1.2 hne3 _⟩, ownsRow_setCell_other h.2 hne2 _⟩)
        have hb1' : w1.heap.size < w1.heap.size + 1 := by omega
        have sT := (sS.set 1 rfl (o := 0) (v := .int .u64 b1) (by omega) (fun h => ⟨⟨ownsRow_setCell_below h.1.1 hb1' _, ownsRow_setCell_below h.1.2 hb1' _⟩, ownsRow_setCell_below h.2 hz1 _⟩)).set 1 rfl (o := 1) (v := .slice sA L1.length cA) (by omega) (fun h => ⟨⟨ownsRow_setCell_below h.1.1 hb1' _, ownsRow_setCell_below h.1.2 hb1' _⟩, ownsRow_setCell_below h.2 hz1 _⟩)
        simp only [setB, List.modify_succ_cons, List.modify_zero_cons, List.setIfInBounds_toArray, List.set_cons_succ, List.set_cons_zero, World.size_alloc] at sT
        have rl := sN.rules
        simp only [Rules, World.size_alloc] at rl
        have q1 : ¬ (w1.heap.size = A11) := by omega
        have q2 : ¬ (A11 = w1.heap.size) := by omega
        go_wp2_with fail
        clear rl q1 q2 sS sN
        refine (sT.call' (fun st => head_any b1 L1 (by omega) sA cA _ (own_ents_at st.ex.2))).mono ?_
        rintro e w6 ⟨rfl, s6⟩
        have s7 := (s6.less _ (List.sublist_cons_self _ _)).lessE (F := fun W => OwnE W (w1.heap.size + 1) (.slice sA L1.length cA) L1 ∧ OwnU W (w1.heap.size + 1) u9 SU) ⟨ownsRow_base s6.ex.2 hz1, s6.ex.1.2⟩ (fun _ _ h hb => ⟨ownsRow_keep _ _ h.1 hb, ownsRow_keep _ _ h.2 hb⟩)
        clear sT s6 sW
        have hz7 : w1.heap.size + 1 ≤ w6.heap.size := (s7.rules).2.2.1
        obtain ⟨i0, hi, hz0, hzz1, hz2⟩ := info_parts infoU
        go_wp2_with (at_builtin; refine wpList_append_own _ rfl (.tmp 42) (.tmp 45) 48 rfl (w1.heap.size + 1) 22 i0 (.int .u64 0) 1 8 Try.underlying48 hi hz0 hzz1 hz2 rfl (by decide) u9 SU.length (SU.map (Value.int .u64)) rfl (s7.ex.2.alloc _) ⟨w6.heap.size, 0, none⟩ 1 1 [.int .u64 (headE b1 L1)] rfl rfl ?c1 ?c2 ?c3 ?c4 ?c5 ?c6)
        case c1 =>
          intro j u hj
          have hj0 : j = 0 := by
            have := (List.getElem?_eq_some_iff.1 hj).1
            simp at this
            exact this
          subst hj0
          simp at hj
          subst hj
          rw [Addr.add_lit]
          rw [World.cell?_alloc_new]
          rfl
        case c2 => simp [Value.oneCell']
        case c3 => unfold maxLen; omega
        case c4 => omega
        case c5 => simp; omega
        case c6 =>
          intro v' w8 hown' hg' _
          have hown2 : OwnU w8 (w1.heap.size + 1) v' (SU ++ [headE b1 L1]) := by
            unfold OwnU
            rw [List.length_append, List.map_append]
            exact hown'
          have s8 := St.sumGrown (s7.to ((Below.refl _ _).alloc (Nat.le_refl _) _)) (by simp; omega) (by omega) hg' hown2
          rw [HHD.out] at s8
          clear s7 hown' hg' hown2
          go_wp2_with fail
          go_roundw
          case rel => exact ⟨k + 1, sA, cA, hlt, by go_num, by rw [HS1.out, HSU.out]; exact s8⟩
          case measure => simp [intOf]; omega
    · obtain rfl : k = n := by omega
      have hall := lgB_all a0 b0 f hfo k (by omega)
      obtain ⟨hKok, ⟨hb0, hb1⟩, _, _⟩ := hall
      have hlen := lgB_length a0 b0 f k
      have hbef := lgB_before a0 b0 f k
      have hlast := lgB_last a0 b0 f k
      have hfirst := lgB_first a0 b0 f k
      have hsq := lgE_seq a0 b0 f (k - 30)
      have hfrom := lgB_from a0 b0 f k
      have hSl : ((List.range k).map fun j => (lgE a0 b0 f j).sum).length = k := by simp
      have hS31 : 30 < k → ((List.range k).map fun j => (lgE a0 b0 f j).sum)[k - 31]? = some (lgE a0 b0 f (k - 31)).sum := fun h => by
        rw [List.getElem?_map, List.getElem?_range (by omega)]
        rfl
      generalize (List.range k).map (fun j => (lgE a0 b0 f j).sum) = SU at *
      generalize (lgE a0 b0 f (k - 31)).sum = bsum at *
      generalize lgE a0 b0 f (k - 30) = x0 at *
      generalize lgB a0 b0 f k = lk at *
      obtain ⟨bk, LK⟩ := lk
      simp only at hKok hb0 hb1 hlen hbef hlast hfirst hfrom st
      have hlen30 : LK.length ≤ 30 := by omega
      have HLEN := Lib.hid hlen
      have HBEF := Lib.hid hbef
      have HLAST := Lib.hid hlast
      have HFIRST := Lib.hid hfirst
      have HSQ := Lib.hid hsq
      have HFROM := Lib.hid hfrom
      have HSL := Lib.hid hSl
      have HS31 := Lib.hid hS31
      clear hlen hbef hlast hfirst hsq hfrom hSl hS31
      have rl := st.rules
      simp only [Rules] at rl
      have hla : (lastE LK == (k : Int)) = true := by rw [HLAST.out]; simp
      have hlm : ((LK.length : Int) == min (k : Int) 30) = true := by rw [HLEN.out, beq_iff_eq]; omega
      have hfl : (((fromE (k : Int) LK).length : Int) == min (k : Int) 1) = true := by rw [HFROM.out, beq_iff_eq]; omega
      have HFL := Lib.hid hfl
      clear hfl
      by_cases h0 : k = 0
      · obtain rfl : LK = [] := List.eq_nil_of_length_eq_zero (by have := HLEN.out; omega)
        obtain rfl : bk = 0 := by have := HBEF.out; rw [if_pos (by omega)] at this; exact this
        simp only [List.length_nil] at rl hla hlm st
        have hk0 : k ≤ 0 := by omega
        have hla' : (lastE [] == (k : Int)) = true := by rw [show lastE [] = 0 from rfl, beq_iff_eq]; omega
        have hlm' : ((0 : Int) == min (k : Int) 30) = true := by rw [beq_iff_eq]; omega
        have hl1 : ((0 : Int) == min (k : Int) 1) = true := by rw [beq_iff_eq]; omega
        clear hb0 hb1 hlm hla h0
        go_wp2_with fail
        refine (st.call' (fun st => last_n 0 0 [] rfl (by omega) _ cK _ (own_ents_at st.ex.1))).mono ?_
        rintro e w6 ⟨rfl, s6⟩
        clear rl
        have rl := s6.rules
        simp only [Rules] at rl
        go_wp2_with fail
        refine (from_n 0 0 [] (by simp) rfl (by omega) _ cK (k : Int) (by omega) (by omega) _ (own_ents_at s6.ex.1)).mono ?_
        rintro e w7 ⟨v7, rfl, hown7, hb7⟩
        have s7 := s6.to hb7
        obtain ⟨sN, cN, hv7, _⟩ := own_ents hown7
        subst hv7
        have hN0 : (fromE (k : Int) []).length = 0 := rfl
        rw [hN0]
        clear rl hown7 hN0
        go_wp2_with fail
        go_ret
        exact ⟨rfl, s7.below⟩
      · by_cases h30 : 30 < k
        · rcases st.ex.2.2 with ⟨_, hz⟩ | ⟨gS, cS, cur, hu9, _, _, _, _, _⟩
          · exfalso; have := HSL.out; omega
          have hcell : wr.cell? ⟨gS, k - 31, none⟩ = some (.int .u64 bsum) := by
            have h2 := st.ex.2
            rw [hu9] at h2
            have := World.ownsRow.cellAt h2 (k - 31) (by rw [HSL.out]; omega)
            rw [this, List.getElem?_map, HS31.out h30]
            rfl
          rw [HSL.out] at hu9
          subst hu9
          have hx := HFIRST.out (by omega)
          obtain ⟨g, o, he, hg, b0', b1', b2', b3'⟩ := own_ents_at st.ex.1 0 _ hx
          subst he
          rw [Nat.zero_mul, Nat.add_zero] at b0'
          clear b1' b2' b3' hx
          have hLpos : 0 < LK.length := by have := HLEN.out; omega
          have hnb : (x0.seq != max 1 ((k : Int) - 29)) = false := by
            have : x0.seq = max 1 ((k : Int) - 29) := by have := HSQ.out; omega
            rw [this]; simp
          obtain rfl : bk = bsum := by have := HBEF.out; rw [if_neg (by omega)] at this; exact this
          go_wp2_with fail
          refine (st.call' (fun st => last_any bk LK (by omega) _ cK _ (own_ents_at st.ex.1))).mono ?_
          rintro e w6 ⟨rfl, s6⟩
          clear rl hcell b0'
          have rl := s6.rules
          simp only [Rules] at rl
          go_wp2_with fail
          refine (from_any bk LK hKok (by omega) _ cK (k : Int) (by omega) (by omega) _ (own_ents_at s6.ex.1)).mono ?_
          rintro e w7 ⟨v7, rfl, hown7, hb7⟩
          have s7 := s6.to hb7
          have hfl := HFL.out
          clear HFL HFROM
          generalize fromE (k : Int) LK = N at *
          obtain ⟨sN, cN, hv7, _⟩ := own_ents hown7
          subst hv7
          clear rl hown7
          go_wp2_with fail
          go_ret
          exact ⟨rfl, s7.below⟩
        · obtain rfl : bk = 0 := by have := HBEF.out; rw [if_pos (by omega)] at this; exact this
          have hx := HFIRST.out (by omega)
          obtain ⟨g, o, he, hg, b0', b1', b2', b3'⟩ := own_ents_at st.ex.1 0 _ hx
          subst he
          rw [Nat.zero_mul, Nat.add_zero] at b0'
          clear b1' b2' b3' hx
          have hLpos : 0 < LK.length := by have := HLEN.out; omega
          have hnb : (x0.seq != max 1 ((k : Int) - 29)) = false := by
            have : x0.seq = max 1 ((k : Int) - 29) := by have := HSQ.out; omega
            rw [this]; simp
          go_wp2_with fail
          refine (st.call' (fun st => last_any 0 LK (by omega) _ cK _ (own_ents_at st.ex.1))).mono ?_
          rintro e w6 ⟨rfl, s6⟩
          clear rl b0'
          have rl := s6.rules
          simp only [Rules] at rl
          go_wp2_with fail
          refine (from_any 0 LK hKok (by omega) _ cK (k : Int) (by omega) (by omega) _ (own_ents_at s6.ex.1)).mono ?_
          rintro e w7 ⟨v7, rfl, hown7, hb7⟩
          have s7 := s6.to hb7
          have hfl := HFL.out
          clear HFL HFROM
          generalize fromE (k : Int) LK = N at *
          obtain ⟨sN, cN, hv7, _⟩ := own_ents hown7
          subst hv7
          clear rl hown7
          go_wp2_with fail
          go_ret
          exact ⟨rfl, s7.below⟩


set_option maxRecDepth 100000 in
theorem lifted (os : Os) (started : os.Started) (H : Type) (enc : TypeId × Value → H) :
    ReturnsInHanded {} Try.checked os 8 .any (Rows.auditLongSpec.pre6 enc Try.prog Try.f8 Rows.auditLongRow.domain false) (Rows.auditLongSpec.post enc Try.prog Try.f8 false true false false) := by
  refine returnsInHanded_of_change (C := Try.checked) own started (by kernel_rfl) Try.func8
    (ChangeSpec.witness6 (enc := enc) (C := Try.checked) false ⟨#[], #[.agg #[.int .u64 0, .int .u64 0], .int .i64 0, .string ⟨#[]⟩], []⟩ 8 (by kernel_rfl) (by kernel_rfl) (by kernel_rfl) (by kernel_rfl)) ?_
  intro W base args ds gs before hval0 hW hcnd _
  have hval : ∀ (j : Nat) t v, Try.f8.params[j]? = some t → args[j]? = some v → Value.okWide Try.prog W .any base t v := hval0
  have hW' := hW
  obtain ⟨p, q, hA0, hV, rfl, hfz, hnd⟩ := hW
  have hA : DataW.TrodAll enc Try.prog W 0 (fun _ => true) true Try.f8.params.toList args.toList ds p := hA0
  rw [Try.params8] at hA hval
  obtain ⟨v0, vs0, d0, ds0, p0, q0, hargs, rfl, rfl, h0, r0⟩ := trodAll_cons hA
  obtain ⟨v1, vs1, d1, ds1, p1, q1, rfl, rfl, rfl, h1, r1⟩ := trodAll_cons r0
  obtain ⟨v2, vs2, d2, ds2, p2, q2, rfl, rfl, rfl, h2, r2⟩ := trodAll_cons r1
  obtain ⟨rfl, rfl, rfl⟩ := trodAll_nil r2
  obtain rfl : args = #[v0, v1, v2] := by cases args; simp_all
  obtain ⟨rfl, rfl⟩ := trodVars_none hV
  have k0 := h0
  have lt0 : ∀ x ∈ p0, x.block < W.heap.size := by obtain ⟨m, hm⟩ := k0; exact DataW.trod_lt m _ _ _ hm
  obtain ⟨a0, b0, rfl⟩ := openKey (hval 0 24 v0 rfl rfl) h0
  have k1 := h1
  have lt1 : ∀ x ∈ p1, x.block < W.heap.size := by obtain ⟨m, hm⟩ := k1; exact DataW.trod_lt m _ _ _ hm
  obtain ⟨n1, rfl, na1, nb1⟩ := openInt (hval 1 3 v1 rfl rfl) h1
  have k2 := h2
  have lt2 : ∀ x ∈ p2, x.block < W.heap.size := by obtain ⟨m, hm⟩ := k2; exact DataW.trod_lt m _ _ _ hm
  obtain ⟨s2, rfl, hs2⟩ := openStr (hval 2 9 v2 rfl rfl) h2
  clear hA0 hval0
  refine (walk a0 b0 n1 na1 nb1 s2 hs2 W ).mono fun e W' ⟨he, bel⟩ => ?_
  subst he
  exact ⟨_, rfl, _, _, _, [], _, [], hW', trodAll_mk1 (shut_bool Try.underlying4 _), (trodAll_cons_mk (Below.trod laidOut (by kernel_rfl) (of_decide_eq_true (by kernel_rfl)) k0 bel lt0) (trodAll_cons_mk (Below.trod laidOut (by kernel_rfl) (of_decide_eq_true (by kernel_rfl)) k1 bel lt1) (trodAll_cons_mk (Below.trod laidOut (by kernel_rfl) (of_decide_eq_true (by kernel_rfl)) k2 bel lt2) trodAll_mk0))), rfl, bel.frame _, fun h => by cases h⟩

theorem over : Rows.auditLongRow.holds Try.pinned (OpenSpec.ofChange Rows.auditLongSpec) :=
  OpenClaim.holds_of_wide 8 Try.f8 rfl rfl rfl rfl rfl rfl rfl ⟨rfl, rfl, rfl, rfl, rfl⟩ rfl rfl rfl rfl rfl (by kernel_rfl) Try.func8 (by kernel_rfl)
    (of_decide_eq_true (by kernel_rfl)) (by unfold Func.isWrapper; first | (rw [if_pos (by decide +kernel)]; kernel_rfl) | (rw [if_neg (by decide +kernel)]; exact ⟨rfl, rfl⟩))
    (fun os started H enc _ => lifted os started H enc)

/-- THE STATEMENT -/
theorem proved : Rows.AuditLongSaid := over
#print axioms proved
end Go.Proofs.Ytclhbimlpamjiaa.auditLong
