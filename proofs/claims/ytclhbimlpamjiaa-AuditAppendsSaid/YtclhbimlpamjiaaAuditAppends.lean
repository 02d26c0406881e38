/- AuditAppends: for every key, log, time and text, which logs are right, and what is appended, are the reference's. No condition. -/
import Derived.Test.YtclhbimlpamjiaaRows
import Derived.Test.YtclhbimlpamjiaaShown16
import Derived.Test.YtclhbimlpamjiaaOpenLog
import Derived.Test.YtclhbimlpamjiaaEntEq
import Derived.Test.YtclhbimlpamjiaaAppSpec
import Derived.Test.YtclhbimlpamjiaaSpec3
import Derived.Test.YtclhbimlpamjiaaRefAppend
import Derived.Test.YtclhbimlpamjiaaRefSpec
import Derived.Test.YtclhbimlpamjiaaOpen
import Derived.WalkKit
import Derived.ProofKit
import Derived.OpenShut
import Derived.ShutString
import Derived.ChangeOld
import Derived.Below
namespace Go.Proofs.Ytclhbimlpamjiaa.auditAppends
open Go.ChangeShapes Go.WideShapes Go.ChangeAt Go.RowKit Go.Joins
set_option linter.unusedVariables false

theorem own : ownKnob Try.prog.godebug = none := by kernel_rfl
theorem laidOut : laidOutB Try.prog = true := by kernel_rfl

set_option linter.unusedSimpArgs false
set_option maxRecDepth 100000 in
set_option maxHeartbeats 2000000 in
theorem walk (a0 b0 : BitVec 64) (bf1 : Int) (fa1 : 0 ≤ bf1) (fb1 : bf1 < 18446744073709551616) (s1 : Option Addr) (L1 : List Ent) (cap1 : Nat) (hN1 : ∀ x ∈ L1, x.Num) (hl1 : L1.length ≤ cap1) (hc1 : cap1 ≤ 9223372036854775807) (hn1 : s1 = none → cap1 = 0) (x2 : Int) (xa2 : 0 ≤ x2) (xb2 : x2 < 18446744073709551616) (s3 : ByteArray) (hs3 : s3.size ≤ 9223372036854775807) (w : World) (hE1 : Ents w s1 L1) :
    Calls Try.prog 3 #[kv a0 b0, lv bf1 s1 L1.length cap1, .int .u64 x2, .string s3] w fun e w' => e = .returned (.bool true) ∧ Below w.heap.size w w' := by
  classical
  have st0 := (St.start w).alloc (cs := #[.int .u64 (un a0), .int .u64 (un b0)]) (T := 24) |>.alloc (cs := #[.int .u64 bf1, .slice s1 L1.length cap1]) (T := 27)
  go_enter Try.func3, Try.ntmps3
  go_wp2_with fail
  refine (st0.call (shown_any _)).mono ?_
  rintro e w1 ⟨rfl, st1⟩
  have rl := st1.rules
  simp only [Rules, World.size_alloc] at rl
  go_wp2_with fail
  refine (fewLog_any bf1 L1 hN1 (by omega) s1 cap1 _ (hE1.below st1.below)).mono ?_
  rintro e w2 ⟨v2, rfl, hown2, hb2⟩
  have hM := fewE_ok L1 hN1
  have hMl := fewE_length L1
  generalize fewE L1 = M at *
  have hlt := (st1.rules).2.2.1
  simp only [World.size_alloc] at hlt
  obtain ⟨s', c', hv2, _⟩ := own_ents hown2
  subst hv2
  obtain ⟨_, hcap', hnil'⟩ := own_facts hown2
  have st2 := (st1.to hb2).lessE (F := fun W => OwnE W w1.heap.size (.slice s' M.length c') M) hown2 ownsRow_keep
  have st3 := (st2.set 0 rfl (o := 0) (v := .int .u64 bf1) (by simp) (fun h => ownsRow_setCell_below h (by simpa using hlt) _)).set 0 rfl (o := 1) (v := .slice s' M.length c') (by simp) (fun h => ownsRow_setCell_below h (by simpa using hlt) _)
  simp only [setB, List.modify_zero_cons, List.setIfInBounds_toArray, List.set_cons_succ, List.set_cons_zero, World.size_alloc] at st3
  clear rl hb2 hown2
  have rl := st2.rules
  simp only [Rules, World.size_alloc] at rl
  go_wp2_with fail
  clear rl st2
  generalize ((w2.setCell { block := w.heap.size + 1, off := 0 } (Value.int IntKind.u64 bf1)).setCell { block := w.heap.size + 1, off := 1 } (Value.slice s' M.length c')) = w3 at *
  have fa := fa1
  have fb := fb1
  have ta := xa2
  have tb := xb2
  have hs := hs3
  obtain ⟨rM, hrM⟩ : ∃ r : Bool, r = true ↔ RightP a0 b0 bf1 M := ⟨decide (RightP a0 b0 bf1 M), decide_eq_true_iff⟩
  have HRM := Lib.hid hrM
  clear hrM
  have hM1000 : M.length ≤ 1000 := by omega
  have hlt3 : w.heap.size + 1 < w3.heap.size := (st3.rules).2.2.1
  by_cases hok : AppOk a0 b0 bf1 M x2 (cut210 s3)
  · have HOK := Lib.hid hok
    obtain ⟨d, hf⟩ := appF a0 b0 bf1 fa fb M hM x2 ta tb _ hok
    clear hok
    refine region_late 10 8 (.int .i64 0) (Fs [IsVal (kv a0 b0), IsVal (lv bf1 s' M.length c'), IsVal (.int .u64 x2), IsVal (.string s3), IsVal (.string (cut210 s3)), IsApp w3.heap.size (appB bf1 M) (appL a0 b0 bf1 M x2 (cut210 s3)), IsApp w3.heap.size (appB bf1 M) (appL a0 b0 bf1 M x2 (cut210 s3)), IsLogE w3.heap.size (appB bf1 M) (appL a0 b0 bf1 M x2 (cut210 s3)), IsVal (.int .i64 0), IsNew w3.heap.size #[.int .u64 0, .slice none 0 0] 27]) (by kernel_rfl) (by kernel_rfl) (by kernel_rfl) (Fs_stable _ ?stab) ?spec ?late (fun _ => rfl) ?store ?endd
    case stab =>
      simp only [List.forall_mem_cons]
      exact ⟨stableVal _, stableVal _, stableVal _, stableVal _, stableVal _, stableApp _ _ _, stableApp _ _ _, stableLogE _ _ _, stableVal _, stableNew _ _ _, by simp⟩
    case spec =>
      refine ⟨?_, ?_, ?_, ?_, ?_, ?_, ?_, ?_, ?_, ?_, trivial⟩
      · intro a W hW hu hd
        have kc : ∀ c, a.eval (Operand.const c) = c := fun _ => rfl
        have kf : ∀ f, a.eval (Operand.func f) = .func (.func f) #[] #[] := fun _ => rfl
        have sW := st3.to hW
        have rl := sW.rules
        simp only [Rules, World.size_alloc] at rl
        have u4 : a.eval (Operand.tmp 4) = .pointer (some ⟨w.heap.size, 0, none⟩) := hu 4 (by decide)
        unfold StepOk
        rw [if_pos (by rfl)]
        clear hu hd
        generalize a.eval = ρ at *
        go_simp
        exact opOk_val rfl
      · intro a W hW hu hd
        have kc : ∀ c, a.eval (Operand.const c) = c := fun _ => rfl
        have kf : ∀ f, a.eval (Operand.func f) = .func (.func f) #[] #[] := fun _ => rfl
        have sW := st3.to hW
        have rl := sW.rules
        simp only [Rules, World.size_alloc] at rl
        have u5 : a.eval (Operand.tmp 5) = .pointer (some ⟨w.heap.size + 1, 0, none⟩) := hu 5 (by decide)
        unfold StepOk
        rw [if_pos (by rfl)]
        clear hu hd
        generalize a.eval = ρ at *
        go_simp
        exact opOk_val rfl
      · intro a W hW hu hd
        have kc : ∀ c, a.eval (Operand.const c) = c := fun _ => rfl
        have kf : ∀ f, a.eval (Operand.func f) = .func (.func f) #[] #[] := fun _ => rfl
        have sW := st3.to hW
        have rl := sW.rules
        simp only [Rules, World.size_alloc] at rl
        have u2 : a.eval (Operand.tmp 2) = .int .u64 x2 := hu 2 (by decide)
        unfold StepOk
        rw [if_pos (by rfl)]
        clear hu hd
        generalize a.eval = ρ at *
        go_simp
        exact opOk_val rfl
      · intro a W hW hu hd
        have kc : ∀ c, a.eval (Operand.const c) = c := fun _ => rfl
        have kf : ∀ f, a.eval (Operand.func f) = .func (.func f) #[] #[] := fun _ => rfl
        have sW := st3.to hW
        have rl := sW.rules
        simp only [Rules, World.size_alloc] at rl
        have u3 : a.eval (Operand.tmp 3) = .string s3 := hu 3 (by decide)
        unfold StepOk
        rw [if_pos (by rfl)]
        clear hu hd
        generalize a.eval = ρ at *
        go_simp
        exact opOk_val rfl
      · intro a W hW hu hd
        have kc : ∀ c, a.eval (Operand.const c) = c := fun _ => rfl
        have kf : ∀ f, a.eval (Operand.func f) = .func (.func f) #[] #[] := fun _ => rfl
        have sW := st3.to hW
        have rl := sW.rules
        simp only [Rules, World.size_alloc] at rl
        have u21 : a.eval (Operand.tmp 21) = .string s3 := hd 3 21 (by kernel_rfl) rfl
        unfold StepOk
        rw [if_pos (by rfl)]
        clear hu hd
        generalize a.eval = ρ at *
        go_simp
        exact opOk_call_same (cut_any _ hs _) rfl
      · intro a W hW hu hd
        have kc : ∀ c, a.eval (Operand.const c) = c := fun _ => rfl
        have kf : ∀ f, a.eval (Operand.func f) = .func (.func f) #[] #[] := fun _ => rfl
        have sW := st3.to hW
        have rl := sW.rules
        simp only [Rules, World.size_alloc] at rl
        have u18 : a.eval (Operand.tmp 18) = kv a0 b0 := hd 0 18 (by kernel_rfl) rfl
        have u19 : a.eval (Operand.tmp 19) = (lv bf1 s' M.length c') := hd 1 19 (by kernel_rfl) rfl
        have u20 : a.eval (Operand.tmp 20) = .int .u64 x2 := hd 2 20 (by kernel_rfl) rfl
        have u22 : a.eval (Operand.tmp 22) = .string (cut210 s3) := hd 4 22 (by kernel_rfl) rfl
        unfold StepOk
        rw [if_pos (by rfl)]
        clear hu hd
        generalize a.eval = ρ at *
        go_simp
        exact opOk_callE ((append_yes a0 b0 bf1 fa fb M hM s' c' hcap' hnil' x2 ta tb _ _ (own_ents_at sW.ex) HOK.out).mono fun e w' ⟨v, he, ho, hb⟩ => ⟨_, he, hb, v, rfl, ownsRow_base ho hW.size⟩)
      · intro a W hW hu hd
        have kc : ∀ c, a.eval (Operand.const c) = c := fun _ => rfl
        have kf : ∀ f, a.eval (Operand.func f) = .func (.func f) #[] #[] := fun _ => rfl
        have sW := st3.to hW
        have rl := sW.rules
        simp only [Rules, World.size_alloc] at rl
        obtain ⟨u, hu1, hu2⟩ : IsApp w3.heap.size (appB bf1 M) (appL a0 b0 bf1 M x2 (cut210 s3)) (a.eval (Operand.tmp 23)) W := hd 5 23 (by kernel_rfl) rfl
        unfold StepOk
        rw [if_pos (by rfl)]
        clear hu hd
        generalize a.eval = ρ at *
        go_simp
        exact opOk_val ⟨u, rfl, hu2⟩
      · intro a W hW hu hd
        have kc : ∀ c, a.eval (Operand.const c) = c := fun _ => rfl
        have kf : ∀ f, a.eval (Operand.func f) = .func (.func f) #[] #[] := fun _ => rfl
        have sW := st3.to hW
        have rl := sW.rules
        simp only [Rules, World.size_alloc] at rl
        obtain ⟨u, hu1, hu2⟩ : IsApp w3.heap.size (appB bf1 M) (appL a0 b0 bf1 M x2 (cut210 s3)) (a.eval (Operand.tmp 17)) W := hd 6 17 (by kernel_rfl) rfl
        unfold StepOk
        rw [if_pos (by rfl)]
        clear hu hd
        generalize a.eval = ρ at *
        go_simp
        exact opOk_val ⟨u, rfl, hu2⟩
      · intro a W hW hu hd
        have kc : ∀ c, a.eval (Operand.const c) = c := fun _ => rfl
        have kf : ∀ f, a.eval (Operand.func f) = .func (.func f) #[] #[] := fun _ => rfl
        have sW := st3.to hW
        have rl := sW.rules
        simp only [Rules, World.size_alloc] at rl
        obtain ⟨u, hu1, hu2⟩ : IsApp w3.heap.size (appB bf1 M) (appL a0 b0 bf1 M x2 (cut210 s3)) (a.eval (Operand.tmp 17)) W := hd 6 17 (by kernel_rfl) rfl
        unfold StepOk
        rw [if_pos (by rfl)]
        clear hu hd
        generalize a.eval = ρ at *
        go_simp
        exact opOk_val rfl
      · intro a W hW hu hd
        have kc : ∀ c, a.eval (Operand.const c) = c := fun _ => rfl
        have kf : ∀ f, a.eval (Operand.func f) = .func (.func f) #[] #[] := fun _ => rfl
        have sW := st3.to hW
        have rl := sW.rules
        simp only [Rules, World.size_alloc] at rl
        unfold StepOk
        rw [if_pos (by rfl)]
        clear hu hd
        generalize a.eval = ρ at *
        go_simp
        exact opOk_new hW.size
    case late =>
      intro oq hoq a W hW hu hd W'
      cases hoq
      obtain ⟨u, hu1, hu2⟩ : IsApp w3.heap.size (appB bf1 M) (appL a0 b0 bf1 M x2 (cut210 s3)) (a.eval (Operand.tmp 17)) W := hd 6 17 (by kernel_rfl) rfl
      clear hu hd
      generalize a.eval = ρ at *
      go_simp
    case store =>
      intro os hos a W hW hu hd
      cases hos
      have sW := st3.to hW
      obtain ⟨u, hu1, hu2⟩ : IsLogE w3.heap.size (appB bf1 M) (appL a0 b0 bf1 M x2 (cut210 s3)) (a.eval (Operand.tmp 24)) W := hd 7 24 (by kernel_rfl) rfl
      obtain ⟨s9, c9, hv9, _⟩ := own_ents hu2
      subst hv9
      obtain ⟨A9, hA, hA9, hN9⟩ : IsNew w3.heap.size #[.int .u64 0, .slice none 0 0] 27 (a.eval (Operand.tmp 10)) W := hd 9 10 (by kernel_rfl) rfl
      have rl := blk_cell hN9
      have rf := blk_free hN9
      clear hu hd
      generalize a.eval = ρ at *
      go_simp
    case endd =>
      intro v W hW hv
      have v0 : v 0 = (kv a0 b0) := hv 0 (by omega)
      have v1 : v 1 = (lv bf1 s' M.length c') := hv 1 (by omega)
      have v2 : v 2 = (.int .u64 x2) := hv 2 (by omega)
      have v3 : v 3 = (.string s3) := hv 3 (by omega)
      have v4 : v 4 = (.string (cut210 s3)) := hv 4 (by omega)
      have hf5 : IsApp w3.heap.size (appB bf1 M) (appL a0 b0 bf1 M x2 (cut210 s3)) (v 5) W := hv 5 (by omega)
      have hf6 : IsApp w3.heap.size (appB bf1 M) (appL a0 b0 bf1 M x2 (cut210 s3)) (v 6) W := hv 6 (by omega)
      have hf7 : IsLogE w3.heap.size (appB bf1 M) (appL a0 b0 bf1 M x2 (cut210 s3)) (v 7) W := hv 7 (by omega)
      have v8 : v 8 = (.int .i64 0) := hv 8 (by omega)
      obtain ⟨A9, v9, hA9, hN9⟩ : IsNew w3.heap.size #[.int .u64 0, .slice none 0 0] 27 (v 9) W := hv 9 (by omega)
      clear hv
      simp only [List.take_succ_cons, List.take_zero, List.drop_succ_cons, List.drop_zero, putAll, Nat.zero_add, Nat.reduceAdd]
      rw [v0, v1, v2, v3, v4, v8, v9]
      clear v0 v1 v2 v3 v4 v8 v9
      have sW := st3.to hW
      clear hf5 hf6
      obtain ⟨uA, huA, hownA⟩ := hf7
      rw [huA]
      generalize v 5 = v5 at *
      generalize v 6 = v6 at *
      obtain ⟨bA, hbA⟩ : ∃ bA, appB bf1 M = bA := ⟨_, rfl⟩
      obtain ⟨LA, hLA⟩ : ∃ LA, appL a0 b0 bf1 M x2 (cut210 s3) = LA := ⟨_, rfl⟩
      rw [hbA, hLA] at hf
      rw [hLA] at hownA
      rw [hbA]
      have HBA := Lib.hid hbA
      have HLA := Lib.hid hLA
      clear hbA hLA huA
      have hLpos : 1 ≤ LA.length := by have := hf.len; have := hf.d0; omega
      have hn30 := hf.n30
      obtain ⟨sA, cA, huA2, _⟩ := own_ents hownA
      subst huA2
      have sN := (St.addNew st3 sW hA9 hN9).also (F := fun W => OwnE W w3.heap.size (.slice sA LA.length cA) LA) hownA ownsRow_keep
      have hne1 := own_old (A := A9) st3.ex hA9
      have hne2 := own_tag hownA hN9 (by decide)
      have sS := (sN.set 0 rfl (o := 0) (v := .int .u64 bA) (Nat.le_trans st3.below.size hA9) (fun h => ⟨ownsRow_setCell_other h.1 hne1 _, ownsRow_setCell_other h.2 hne2 _⟩)).set 0 rfl (o := 1) (v := .slice sA LA.length cA) (Nat.le_trans st3.below.size hA9) (fun h => ⟨ownsRow_setCell_other h.1 hne1 _, ownsRow_setCell_other h.2 hne2 _⟩)
      simp only [setB, List.modify_zero_cons, List.setIfInBounds_toArray, List.set_cons_succ, List.set_cons_zero, World.size_alloc] at sS
      have rl := sN.rules
      simp only [Rules, World.size_alloc] at rl
      go_wp2_with fail
      clear rl sN
      generalize ((W.setCell { block := A9, off := 0 } (Value.int IntKind.u64 bA)).setCell { block := A9, off := 1 } (Value.slice sA LA.length cA)) = w5 at *
      have hA9' : A9 < w5.heap.size := (sS.rules).2.2.1
      refine region_late 10 8 (.int .i64 0) (Fs [IsVal (kv a0 b0), IsVal (lv bf1 s' M.length c'), IsVal (.int .u64 x2), IsVal (.string s3), IsVal (.string (cut210 s3)), IsRefApp bA LA, IsRefApp bA LA, IsRefLog bA LA, IsVal (.int .i64 0), IsNew w5.heap.size #[.int .u64 0, .slice none 0 0] 27]) (by kernel_rfl) (by kernel_rfl) (by kernel_rfl) (Fs_stable _ ?stab) ?spec ?late (fun _ => rfl) ?store ?endd
      case stab =>
        simp only [List.forall_mem_cons]
        exact ⟨stableVal _, stableVal _, stableVal _, stableVal _, stableVal _, stableRefApp _ _, stableRefApp _ _, stableRefLog _ _, stableVal _, stableNew _ _ _, by simp⟩
      case spec =>
        refine ⟨?_, ?_, ?_, ?_, ?_, ?_, ?_, ?_, ?_, ?_, trivial⟩
        · intro a W hW hu hd
          have kc : ∀ c, a.eval (Operand.const c) = c := fun _ => rfl
          have kf : ∀ f, a.eval (Operand.func f) = .func (.func f) #[] #[] := fun _ => rfl
          have sW := sS.to hW
          have rl := sW.rules
          simp only [Rules, World.size_alloc] at rl
          have u4 : a.eval (Operand.tmp 4) = .pointer (some ⟨w.heap.size, 0, none⟩) := hu 4 (by decide)
          unfold StepOk
          rw [if_pos (by rfl)]
          clear hu hd
          generalize a.eval = ρ at *
          go_simp
          exact opOk_val rfl
        · intro a W hW hu hd
          have kc : ∀ c, a.eval (Operand.const c) = c := fun _ => rfl
          have kf : ∀ f, a.eval (Operand.func f) = .func (.func f) #[] #[] := fun _ => rfl
          have sW := sS.to hW
          have rl := sW.rules
          simp only [Rules, World.size_alloc] at rl
          have u5 : a.eval (Operand.tmp 5) = .pointer (some ⟨w.heap.size + 1, 0, none⟩) := hu 5 (by decide)
          unfold StepOk
          rw [if_pos (by rfl)]
          clear hu hd
          generalize a.eval = ρ at *
          go_simp
          exact opOk_val rfl
        · intro a W hW hu hd
          have kc : ∀ c, a.eval (Operand.const c) = c := fun _ => rfl
          have kf : ∀ f, a.eval (Operand.func f) = .func (.func f) #[] #[] := fun _ => rfl
          have sW := sS.to hW
          have rl := sW.rules
          simp only [Rules, World.size_alloc] at rl
          have u2 : a.eval (Operand.tmp 2) = .int .u64 x2 := hu 2 (by decide)
          unfold StepOk
          rw [if_pos (by rfl)]
          clear hu hd
          generalize a.eval = ρ at *
          go_simp
          exact opOk_val rfl
        · intro a W hW hu hd
          have kc : ∀ c, a.eval (Operand.const c) = c := fun _ => rfl
          have kf : ∀ f, a.eval (Operand.func f) = .func (.func f) #[] #[] := fun _ => rfl
          have sW := sS.to hW
          have rl := sW.rules
          simp only [Rules, World.size_alloc] at rl
          have u3 : a.eval (Operand.tmp 3) = .string s3 := hu 3 (by decide)
          unfold StepOk
          rw [if_pos (by rfl)]
          clear hu hd
          generalize a.eval = ρ at *
          go_simp
          exact opOk_val rfl
        · intro a W hW hu hd
          have kc : ∀ c, a.eval (Operand.const c) = c := fun _ => rfl
          have kf : ∀ f, a.eval (Operand.func f) = .func (.func f) #[] #[] := fun _ => rfl
          have sW := sS.to hW
          have rl := sW.rules
          simp only [Rules, World.size_alloc] at rl
          have u30 : a.eval (Operand.tmp 30) = .string s3 := hd 3 30 (by kernel_rfl) rfl
          unfold StepOk
          rw [if_pos (by rfl)]
          clear hu hd
          generalize a.eval = ρ at *
          go_simp
          exact opOk_call_same (cut_any _ hs _) rfl
        · intro a W hW hu hd
          have kc : ∀ c, a.eval (Operand.const c) = c := fun _ => rfl
          have kf : ∀ f, a.eval (Operand.func f) = .func (.func f) #[] #[] := fun _ => rfl
          have sW := sS.to hW
          have rl := sW.rules
          simp only [Rules, World.size_alloc] at rl
          have u27 : a.eval (Operand.tmp 27) = kv a0 b0 := hd 0 27 (by kernel_rfl) rfl
          have u28 : a.eval (Operand.tmp 28) = (lv bf1 s' M.length c') := hd 1 28 (by kernel_rfl) rfl
          have u29 : a.eval (Operand.tmp 29) = .int .u64 x2 := hd 2 29 (by kernel_rfl) rfl
          have u31 : a.eval (Operand.tmp 31) = .string (cut210 s3) := hd 4 31 (by kernel_rfl) rfl
          unfold StepOk
          rw [if_pos (by rfl)]
          clear hu hd
          generalize a.eval = ρ at *
          go_simp
          refine opOk_callE ((refAppend_yes a0 b0 bf1 fa fb M hM s' c' hcap' hnil' x2 ta tb _ _ (own_ents_at sW.ex.1) HOK.out).mono fun e w' ⟨s2, c2, he, ho, hb⟩ => ?_)
          rw [HBA.out, HLA.out] at he
          rw [HLA.out] at ho
          exact ⟨_, he, hb, s2, c2, rfl, ho⟩
        · intro a W hW hu hd
          have kc : ∀ c, a.eval (Operand.const c) = c := fun _ => rfl
          have kf : ∀ f, a.eval (Operand.func f) = .func (.func f) #[] #[] := fun _ => rfl
          have sW := sS.to hW
          have rl := sW.rules
          simp only [Rules, World.size_alloc] at rl
          obtain ⟨u, cu, hu1, hu2⟩ : IsRefApp bA LA (a.eval (Operand.tmp 32)) W := hd 5 32 (by kernel_rfl) rfl
          unfold StepOk
          rw [if_pos (by rfl)]
          clear hu hd
          generalize a.eval = ρ at *
          go_simp
          exact opOk_val ⟨u, cu, rfl, hu2⟩
        · intro a W hW hu hd
          have kc : ∀ c, a.eval (Operand.const c) = c := fun _ => rfl
          have kf : ∀ f, a.eval (Operand.func f) = .func (.func f) #[] #[] := fun _ => rfl
          have sW := sS.to hW
          have rl := sW.rules
          simp only [Rules, World.size_alloc] at rl
          obtain ⟨u, cu, hu1, hu2⟩ : IsRefApp bA LA (a.eval (Operand.tmp 26)) W := hd 6 26 (by kernel_rfl) rfl
          unfold StepOk
          rw [if_pos (by rfl)]
          clear hu hd
          generalize a.eval = ρ at *
          go_simp
          exact opOk_val ⟨u, cu, rfl, hu2⟩
        · intro a W hW hu hd
          have kc : ∀ c, a.eval (Operand.const c) = c := fun _ => rfl
          have kf : ∀ f, a.eval (Operand.func f) = .func (.func f) #[] #[] := fun _ => rfl
          have sW := sS.to hW
          have rl := sW.rules
          simp only [Rules, World.size_alloc] at rl
          obtain ⟨u, cu, hu1, hu2⟩ : IsRefApp bA LA (a.eval (Operand.tmp 26)) W := hd 6 26 (by kernel_rfl) rfl
          unfold StepOk
          rw [if_pos (by rfl)]
          clear hu hd
          generalize a.eval = ρ at *
          go_simp
          exact opOk_val rfl
        · intro a W hW hu hd
          have kc : ∀ c, a.eval (Operand.const c) = c := fun _ => rfl
          have kf : ∀ f, a.eval (Operand.func f) = .func (.func f) #[] #[] := fun _ => rfl
          have sW := sS.to hW
          have rl := sW.rules
          simp only [Rules, World.size_alloc] at rl
          unfold StepOk
          rw [if_pos (by rfl)]
          clear hu hd
          generalize a.eval = ρ at *
          go_simp
          exact opOk_new hW.size
      case late =>
        intro oq hoq a W hW hu hd W'
        cases hoq
        obtain ⟨u, cu, hu1, hu2⟩ : IsRefApp bA LA (a.eval (Operand.tmp 26)) W := hd 6 26 (by kernel_rfl) rfl
        clear hu hd
        generalize a.eval = ρ at *
        go_simp
      case store =>
        intro os hos a W hW hu hd
        cases hos
        have sW := sS.to hW
        obtain ⟨u, cu, hu1, hu2⟩ : IsRefLog bA LA (a.eval (Operand.tmp 33)) W := hd 7 33 (by kernel_rfl) rfl
        obtain ⟨A9, hA, hA9, hN9⟩ : IsNew w5.heap.size #[.int .u64 0, .slice none 0 0] 27 (a.eval (Operand.tmp 12)) W := hd 9 12 (by kernel_rfl) rfl
        have rl := blk_cell hN9
        have rf := blk_free hN9
        clear hu hd
        generalize a.eval = ρ at *
        go_simp
      case endd =>
        intro v W hW hv
        have v0 : v 0 = (kv a0 b0) := hv 0 (by omega)
        have v1 : v 1 = (lv bf1 s' M.length c') := hv 1 (by omega)
        have v2 : v 2 = (.int .u64 x2) := hv 2 (by omega)
        have v3 : v 3 = (.string s3) := hv 3 (by omega)
        have v4 : v 4 = (.string (cut210 s3)) := hv 4 (by omega)
        have hf5 : IsRefApp bA LA (v 5) W := hv 5 (by omega)
        have hf6 : IsRefApp bA LA (v 6) W := hv 6 (by omega)
        have hf7 : IsRefLog bA LA (v 7) W := hv 7 (by omega)
        have v8 : v 8 = (.int .i64 0) := hv 8 (by omega)
        obtain ⟨D9, v9, hD9, hN9⟩ : IsNew w5.heap.size #[.int .u64 0, .slice none 0 0] 27 (v 9) W := hv 9 (by omega)
        clear hv
        simp only [List.take_succ_cons, List.take_zero, List.drop_succ_cons, List.drop_zero, putAll, Nat.zero_add, Nat.reduceAdd]
        rw [v0, v1, v2, v3, v4, v8, v9]
        clear v0 v1 v2 v3 v4 v8 v9
        have sW := sS.to hW
        clear hf5 hf6
        obtain ⟨sB, cB, huB, hEB⟩ := hf7
        rw [huB]
        generalize v 5 = w5' at *
        generalize v 6 = w6' at *
        clear huB
        have tN := (St.addNew sS sW hD9 hN9).also (F := fun W => Ents W sB LA) hEB (fun _ _ h hb => h.below hb)
        have mne1 := own_old (A := D9) sS.ex.1 hD9
        have mne2 := own_old (A := D9) sS.ex.2 hD9
        have tS := (tN.set 0 rfl (o := 0) (v := .int .u64 bA) (Nat.le_trans sS.below.size hD9) (fun h => ⟨⟨ownsRow_setCell_other h.1.1 mne1 _, ownsRow_setCell_other h.1.2 mne2 _⟩, h.2.small hN9 (by decide) _ _⟩)).set 0 rfl (o := 1) (v := .slice sB LA.length cB) (Nat.le_trans sS.below.size hD9) (fun h => ⟨⟨ownsRow_setCell_other h.1.1 mne1 _, ownsRow_setCell_other h.1.2 mne2 _⟩, h.2.small (blk_set hN9 0 (.int .u64 bA)) (by simp) _ _⟩)
        simp only [setB, List.modify_zero_cons, List.setIfInBounds_toArray, List.set_cons_succ, List.set_cons_zero, World.size_alloc] at tS
        have rl := tN.rules
        simp only [Rules, World.size_alloc] at rl
        have z1 : ¬ (A9 = D9) := by omega
        have z2 : ¬ (D9 = A9) := by omega
        go_wp2_with fail
        clear rl tN
        generalize ((W.setCell { block := D9, off := 0 } (Value.int IntKind.u64 bA)).setCell { block := D9, off := 1 } (Value.slice sB LA.length cB)) = w7 at *
        obtain ⟨bl9, E9, hne9, sh9, rl, hEx, hbx, hst⟩ := tS.hide
        refine region_st sh9 (by kernel_rfl) (by kernel_rfl) ?_
        simp only [Rules, World.size_alloc] at rl
        repeat (first | go_big_quiet_step ((first | (go_at_call 15; exact Cs.call (right_any a0 b0 bf1 fa fb M hM hM1000 _ c' rM HRM.out _ (own_ents_at (hEx _).out.1.1))) | (go_at_call 16; exact Cs.call (refRight_any a0 b0 bf1 fa fb M hM hM1000 _ c' rM HRM.out _ (own_ents_at (hEx _).out.1.1))) | (go_at_call 17; exact Cs.call (refSame_any bA bA LA LA (by omega) (by omega) _ _ _ _ true ⟨fun _ => ⟨rfl, rfl⟩, fun _ => rfl⟩ _ (own_ents_at (hEx _).out.1.2) (hEx _).out.2)))) | quiet_step ((first | (go_at_call 15; exact Cs.call (right_any a0 b0 bf1 fa fb M hM hM1000 _ c' rM HRM.out _ (own_ents_at (hEx _).out.1.1))) | (go_at_call 16; exact Cs.call (refRight_any a0 b0 bf1 fa fb M hM hM1000 _ c' rM HRM.out _ (own_ents_at (hEx _).out.1.1))) | (go_at_call 17; exact Cs.call (refSame_any bA bA LA LA (by omega) (by omega) _ _ _ _ true ⟨fun _ => ⟨rfl, rfl⟩, fun _ => rfl⟩ _ (own_ents_at (hEx _).out.1.2) (hEx _).out.2)))))
        refine wpQuiet_nil ?_
        intro y
        have hfin := (hbx y).out
        clear hbx rl hst sh9 hEx
        generalize y.W = w9 at *
        go_wp2_with fail
        go_ret
        exact ⟨by first | rfl | (simp; done), hfin⟩
  · have HNO := Lib.hid hok
    clear hok
    refine region_late 10 8 (.int .i64 160) (Fs [IsVal (kv a0 b0), IsVal (lv bf1 s' M.length c'), IsVal (.int .u64 x2), IsVal (.string s3), IsVal (.string (cut210 s3)), IsVal noLog, IsVal noLog, IsVal (lv 0 none 0 0), IsVal (.int .i64 160), IsNew w3.heap.size #[.int .u64 0, .slice none 0 0] 27]) (by kernel_rfl) (by kernel_rfl) (by kernel_rfl) (Fs_stable _ ?stab) ?spec ?late (fun _ => rfl) ?store ?endd
    case stab =>
      simp only [List.forall_mem_cons]
      exact ⟨stableVal _, stableVal _, stableVal _, stableVal _, stableVal _, stableVal _, stableVal _, stableVal _, stableVal _, stableNew _ _ _, by simp⟩
    case spec =>
      refine ⟨?_, ?_, ?_, ?_, ?_, ?_, ?_, ?_, ?_, ?_, trivial⟩
      · intro a W hW hu hd
        have kc : ∀ c, a.eval (Operand.const c) = c := fun _ => rfl
        have kf : ∀ f, a.eval (Operand.func f) = .func (.func f) #[] #[] := fun _ => rfl
        have sW := st3.to hW
        have rl := sW.rules
        simp only [Rules, World.size_alloc] at rl
        have u4 : a.eval (Operand.tmp 4) = .pointer (some ⟨w.heap.size, 0, none⟩) := hu 4 (by decide)
        unfold StepOk
        rw [if_pos (by rfl)]
        clear hu hd
        generalize a.eval = ρ at *
        go_simp
        exact opOk_val rfl
      · intro a W hW hu hd
        have kc : ∀ c, a.eval (Operand.const c) = c := fun _ => rfl
        have kf : ∀ f, a.eval (Operand.func f) = .func (.func f) #[] #[] := fun _ => rfl
        have sW := st3.to hW
        have rl := sW.rules
        simp only [Rules, World.size_alloc] at rl
        have u5 : a.eval (Operand.tmp 5) = .pointer (some ⟨w.heap.size + 1, 0, none⟩) := hu 5 (by decide)
        unfold StepOk
        rw [if_pos (by rfl)]
        clear hu hd
        generalize a.eval = ρ at *
        go_simp
        exact opOk_val rfl
      · intro a W hW hu hd
        have kc : ∀ c, a.eval (Operand.const c) = c := fun _ => rfl
        have kf : ∀ f, a.eval (Operand.func f) = .func (.func f) #[] #[] := fun _ => rfl
        have sW := st3.to hW
        have rl := sW.rules
        simp only [Rules, World.size_alloc] at rl
        have u2 : a.eval (Operand.tmp 2) = .int .u64 x2 := hu 2 (by decide)
        unfold StepOk
        rw [if_pos (by rfl)]
        clear hu hd
        generalize a.eval = ρ at *
        go_simp
        exact opOk_val rfl
      · intro a W hW hu hd
        have kc : ∀ c, a.eval (Operand.const c) = c := fun _ => rfl
        have kf : ∀ f, a.eval (Operand.func f) = .func (.func f) #[] #[] := fun _ => rfl
        have sW := st3.to hW
        have rl := sW.rules
        simp only [Rules, World.size_alloc] at rl
        have u3 : a.eval (Operand.tmp 3) = .string s3 := hu 3 (by decide)
        unfold StepOk
        rw [if_pos (by rfl)]
        clear hu hd
        generalize a.eval = ρ at *
        go_simp
        exact opOk_val rfl
      · intro a W hW hu hd
        have kc : ∀ c, a.eval (Operand.const c) = c := fun _ => rfl
        have kf : ∀ f, a.eval (Operand.func f) = .func (.func f) #[] #[] := fun _ => rfl
        have sW := st3.to hW
        have rl := sW.rules
        simp only [Rules, World.size_alloc] at rl
        have u21 : a.eval (Operand.tmp 21) = .string s3 := hd 3 21 (by kernel_rfl) rfl
        unfold StepOk
        rw [if_pos (by rfl)]
        clear hu hd
        generalize a.eval = ρ at *
        go_simp
        exact opOk_call_same (cut_any _ hs _) rfl
      · intro a W hW hu hd
        have kc : ∀ c, a.eval (Operand.const c) = c := fun _ => rfl
        have kf : ∀ f, a.eval (Operand.func f) = .func (.func f) #[] #[] := fun _ => rfl
        have sW := st3.to hW
        have rl := sW.rules
        simp only [Rules, World.size_alloc] at rl
        have u18 : a.eval (Operand.tmp 18) = kv a0 b0 := hd 0 18 (by kernel_rfl) rfl
        have u19 : a.eval (Operand.tmp 19) = (lv bf1 s' M.length c') := hd 1 19 (by kernel_rfl) rfl
        have u20 : a.eval (Operand.tmp 20) = .int .u64 x2 := hd 2 20 (by kernel_rfl) rfl
        have u22 : a.eval (Operand.tmp 22) = .string (cut210 s3) := hd 4 22 (by kernel_rfl) rfl
        unfold StepOk
        rw [if_pos (by rfl)]
        clear hu hd
        generalize a.eval = ρ at *
        go_simp
        exact opOk_call (append_no a0 b0 bf1 fa fb M hM (by omega) s' c' x2 _ (Nat.le_trans (cut210_size _) (by decide)) _ (own_ents_at sW.ex) HNO.out) (fun _ _ => rfl)
      · intro a W hW hu hd
        have kc : ∀ c, a.eval (Operand.const c) = c := fun _ => rfl
        have kf : ∀ f, a.eval (Operand.func f) = .func (.func f) #[] #[] := fun _ => rfl
        have sW := st3.to hW
        have rl := sW.rules
        simp only [Rules, World.size_alloc] at rl
        have u23 : a.eval (Operand.tmp 23) = noLog := hd 5 23 (by kernel_rfl) rfl
        unfold StepOk
        rw [if_pos (by rfl)]
        clear hu hd
        generalize a.eval = ρ at *
        go_simp
        exact opOk_val rfl
      · intro a W hW hu hd
        have kc : ∀ c, a.eval (Operand.const c) = c := fun _ => rfl
        have kf : ∀ f, a.eval (Operand.func f) = .func (.func f) #[] #[] := fun _ => rfl
        have sW := st3.to hW
        have rl := sW.rules
        simp only [Rules, World.size_alloc] at rl
        have u17 : a.eval (Operand.tmp 17) = noLog := hd 6 17 (by kernel_rfl) rfl
        unfold StepOk
        rw [if_pos (by rfl)]
        clear hu hd
        generalize a.eval = ρ at *
        go_simp
        exact opOk_val rfl
      · intro a W hW hu hd
        have kc : ∀ c, a.eval (Operand.const c) = c := fun _ => rfl
        have kf : ∀ f, a.eval (Operand.func f) = .func (.func f) #[] #[] := fun _ => rfl
        have sW := st3.to hW
        have rl := sW.rules
        simp only [Rules, World.size_alloc] at rl
        have u17 : a.eval (Operand.tmp 17) = noLog := hd 6 17 (by kernel_rfl) rfl
        unfold StepOk
        rw [if_pos (by rfl)]
        clear hu hd
        generalize a.eval = ρ at *
        go_simp
        exact opOk_val rfl
      · intro a W hW hu hd
        have kc : ∀ c, a.eval (Operand.const c) = c := fun _ => rfl
        have kf : ∀ f, a.eval (Operand.func f) = .func (.func f) #[] #[] := fun _ => rfl
        have sW := st3.to hW
        have rl := sW.rules
        simp only [Rules, World.size_alloc] at rl
        unfold StepOk
        rw [if_pos (by rfl)]
        clear hu hd
        generalize a.eval = ρ at *
        go_simp
        exact opOk_new hW.size
    case late =>
      intro oq hoq a W hW hu hd W'
      cases hoq
      have u17 : a.eval (Operand.tmp 17) = noLog := hd 6 17 (by kernel_rfl) rfl
      clear hu hd
      generalize a.eval = ρ at *
      go_simp
    case store =>
      intro os hos a W hW hu hd
      cases hos
      have sW := st3.to hW
      have u24 : a.eval (Operand.tmp 24) = lv 0 none 0 0 := hd 7 24 (by kernel_rfl) rfl
      obtain ⟨A9, hA, hA9, hN9⟩ : IsNew w3.heap.size #[.int .u64 0, .slice none 0 0] 27 (a.eval (Operand.tmp 10)) W := hd 9 10 (by kernel_rfl) rfl
      have rl := blk_cell hN9
      have rf := blk_free hN9
      clear hu hd
      generalize a.eval = ρ at *
      go_simp
    case endd =>
      intro v W hW hv
      have v0 : v 0 = (kv a0 b0) := hv 0 (by omega)
      have v1 : v 1 = (lv bf1 s' M.length c') := hv 1 (by omega)
      have v2 : v 2 = (.int .u64 x2) := hv 2 (by omega)
      have v3 : v 3 = (.string s3) := hv 3 (by omega)
      have v4 : v 4 = (.string (cut210 s3)) := hv 4 (by omega)
      have v5 : v 5 = noLog := hv 5 (by omega)
      have v6 : v 6 = noLog := hv 6 (by omega)
      have v7 : v 7 = (lv 0 none 0 0) := hv 7 (by omega)
      have v8 : v 8 = (.int .i64 160) := hv 8 (by omega)
      obtain ⟨A9, v9, hA9, hN9⟩ : IsNew w3.heap.size #[.int .u64 0, .slice none 0 0] 27 (v 9) W := hv 9 (by omega)
      clear hv
      simp only [List.take_succ_cons, List.take_zero, List.drop_succ_cons, List.drop_zero, putAll, Nat.zero_add, Nat.reduceAdd]
      rw [v0, v1, v2, v3, v4, v5, v6, v7, v8, v9]
      clear v0 v1 v2 v3 v4 v5 v6 v7 v8 v9
      have sW := st3.to hW
      have sN := St.addNew st3 sW hA9 hN9
      have hne1 := own_old (A := A9) st3.ex hA9
      have sS := (sN.set 0 rfl (o := 0) (v := .int .u64 0) (Nat.le_trans st3.below.size hA9) (fun h => ownsRow_setCell_other h hne1 _)).set 0 rfl (o := 1) (v := .slice none 0 0) (Nat.le_trans st3.below.size hA9) (fun h => ownsRow_setCell_other h hne1 _)
      simp only [setB, List.modify_zero_cons, List.setIfInBounds_toArray, List.set_cons_succ, List.set_cons_zero, World.size_alloc] at sS
      have rl := sN.rules
      simp only [Rules, World.size_alloc] at rl
      go_wp2_with fail
      clear rl sN
      generalize ((W.setCell { block := A9, off := 0 } (Value.int IntKind.u64 0)).setCell { block := A9, off := 1 } (Value.slice none 0 0)) = w5 at *
      have hA9' : A9 < w5.heap.size := (sS.rules).2.2.1
      refine region_late 10 8 (.int .i64 160) (Fs [IsVal (kv a0 b0), IsVal (lv bf1 s' M.length c'), IsVal (.int .u64 x2), IsVal (.string s3), IsVal (.string (cut210 s3)), IsVal noLog, IsVal noLog, IsVal (lv 0 none 0 0), IsVal (.int .i64 160), IsNew w5.heap.size #[.int .u64 0, .slice none 0 0] 27]) (by kernel_rfl) (by kernel_rfl) (by kernel_rfl) (Fs_stable _ ?stab) ?spec ?late (fun _ => rfl) ?store ?endd
      case stab =>
        simp only [List.forall_mem_cons]
        exact ⟨stableVal _, stableVal _, stableVal _, stableVal _, stableVal _, stableVal _, stableVal _, stableVal _, stableVal _, stableNew _ _ _, by simp⟩
      case spec =>
        refine ⟨?_, ?_, ?_, ?_, ?_, ?_, ?_, ?_, ?_, ?_, trivial⟩
        · intro a W hW hu hd
          have kc : ∀ c, a.eval (Operand.const c) = c := fun _ => rfl
          have kf : ∀ f, a.eval (Operand.func f) = .func (.func f) #[] #[] := fun _ => rfl
          have sW := sS.to hW
          have rl := sW.rules
          simp only [Rules, World.size_alloc] at rl
          have u4 : a.eval (Operand.tmp 4) = .pointer (some ⟨w.heap.size, 0, none⟩) := hu 4 (by decide)
          unfold StepOk
          rw [if_pos (by rfl)]
          clear hu hd
          generalize a.eval = ρ at *
          go_simp
          exact opOk_val rfl
        · intro a W hW hu hd
          have kc : ∀ c, a.eval (Operand.const c) = c := fun _ => rfl
          have kf : ∀ f, a.eval (Operand.func f) = .func (.func f) #[] #[] := fun _ => rfl
          have sW := sS.to hW
          have rl := sW.rules
          simp only [Rules, World.size_alloc] at rl
          have u5 : a.eval (Operand.tmp 5) = .pointer (some ⟨w.heap.size + 1, 0, none⟩) := hu 5 (by decide)
          unfold StepOk
          rw [if_pos (by rfl)]
          clear hu hd
          generalize a.eval = ρ at *
          go_simp
          exact opOk_val rfl
        · intro a W hW hu hd
          have kc : ∀ c, a.eval (Operand.const c) = c := fun _ => rfl
          have kf : ∀ f, a.eval (Operand.func f) = .func (.func f) #[] #[] := fun _ => rfl
          have sW := sS.to hW
          have rl := sW.rules
          simp only [Rules, World.size_alloc] at rl
          have u2 : a.eval (Operand.tmp 2) = .int .u64 x2 := hu 2 (by decide)
          unfold StepOk
          rw [if_pos (by rfl)]
          clear hu hd
          generalize a.eval = ρ at *
          go_simp
          exact opOk_val rfl
        · intro a W hW hu hd
          have kc : ∀ c, a.eval (Operand.const c) = c := fun _ => rfl
          have kf : ∀ f, a.eval (Operand.func f) = .func (.func f) #[] #[] := fun _ => rfl
          have sW := sS.to hW
          have rl := sW.rules
          simp only [Rules, World.size_alloc] at rl
          have u3 : a.eval (Operand.tmp 3) = .string s3 := hu 3 (by decide)
          unfold StepOk
          rw [if_pos (by rfl)]
          clear hu hd
          generalize a.eval = ρ at *
          go_simp
          exact opOk_val rfl
        · intro a W hW hu hd
          have kc : ∀ c, a.eval (Operand.const c) = c := fun _ => rfl
          have kf : ∀ f, a.eval (Operand.func f) = .func (.func f) #[] #[] := fun _ => rfl
          have sW := sS.to hW
          have rl := sW.rules
          simp only [Rules, World.size_alloc] at rl
          have u30 : a.eval (Operand.tmp 30) = .string s3 := hd 3 30 (by kernel_rfl) rfl
          unfold StepOk
          rw [if_pos (by rfl)]
          clear hu hd
          generalize a.eval = ρ at *
          go_simp
          exact opOk_call_same (cut_any _ hs _) rfl
        · intro a W hW hu hd
          have kc : ∀ c, a.eval (Operand.const c) = c := fun _ => rfl
          have kf : ∀ f, a.eval (Operand.func f) = .func (.func f) #[] #[] := fun _ => rfl
          have sW := sS.to hW
          have rl := sW.rules
          simp only [Rules, World.size_alloc] at rl
          have u27 : a.eval (Operand.tmp 27) = kv a0 b0 := hd 0 27 (by kernel_rfl) rfl
          have u28 : a.eval (Operand.tmp 28) = (lv bf1 s' M.length c') := hd 1 28 (by kernel_rfl) rfl
          have u29 : a.eval (Operand.tmp 29) = .int .u64 x2 := hd 2 29 (by kernel_rfl) rfl
          have u31 : a.eval (Operand.tmp 31) = .string (cut210 s3) := hd 4 31 (by kernel_rfl) rfl
          unfold StepOk
          rw [if_pos (by rfl)]
          clear hu hd
          generalize a.eval = ρ at *
          go_simp
          exact opOk_call (refAppend_no a0 b0 bf1 fa fb M hM (by omega) s' c' x2 _ (Nat.le_trans (cut210_size _) (by decide)) _ (own_ents_at sW.ex) HNO.out) (fun _ _ => rfl)
        · intro a W hW hu hd
          have kc : ∀ c, a.eval (Operand.const c) = c := fun _ => rfl
          have kf : ∀ f, a.eval (Operand.func f) = .func (.func f) #[] #[] := fun _ => rfl
          have sW := sS.to hW
          have rl := sW.rules
          simp only [Rules, World.size_alloc] at rl
          have u32 : a.eval (Operand.tmp 32) = noLog := hd 5 32 (by kernel_rfl) rfl
          unfold StepOk
          rw [if_pos (by rfl)]
          clear hu hd
          generalize a.eval = ρ at *
          go_simp
          exact opOk_val rfl
        · intro a W hW hu hd
          have kc : ∀ c, a.eval (Operand.const c) = c := fun _ => rfl
          have kf : ∀ f, a.eval (Operand.func f) = .func (.func f) #[] #[] := fun _ => rfl
          have sW := sS.to hW
          have rl := sW.rules
          simp only [Rules, World.size_alloc] at rl
          have u26 : a.eval (Operand.tmp 26) = noLog := hd 6 26 (by kernel_rfl) rfl
          unfold StepOk
          rw [if_pos (by rfl)]
          clear hu hd
          generalize a.eval = ρ at *
          go_simp
          exact opOk_val rfl
        · intro a W hW hu hd
          have kc : ∀ c, a.eval (Operand.const c) = c := fun _ => rfl
          have kf : ∀ f, a.eval (Operand.func f) = .func (.func f) #[] #[] := fun _ => rfl
          have sW := sS.to hW
          have rl := sW.rules
          simp only [Rules, World.size_alloc] at rl
          have u26 : a.eval (Operand.tmp 26) = noLog := hd 6 26 (by kernel_rfl) rfl
          unfold StepOk
          rw [if_pos (by rfl)]
          clear hu hd
          generalize a.eval = ρ at *
          go_simp
          exact opOk_val rfl
        · intro a W hW hu hd
          have kc : ∀ c, a.eval (Operand.const c) = c := fun _ => rfl
          have kf : ∀ f, a.eval (Operand.func f) = .func (.func f) #[] #[] := fun _ => rfl
          have sW := sS.to hW
          have rl := sW.rules
          simp only [Rules, World.size_alloc] at rl
          unfold StepOk
          rw [if_pos (by rfl)]
          clear hu hd
          generalize a.eval = ρ at *
          go_simp
          exact opOk_new hW.size
      case late =>
        intro oq hoq a W hW hu hd W'
        cases hoq
        have u26 : a.eval (Operand.tmp 26) = noLog := hd 6 26 (by kernel_rfl) rfl
        clear hu hd
        generalize a.eval = ρ at *
        go_simp
      case store =>
        intro os hos a W hW hu hd
        cases hos
        have sW := sS.to hW
        have u33 : a.eval (Operand.tmp 33) = lv 0 none 0 0 := hd 7 33 (by kernel_rfl) rfl
        obtain ⟨A9, hA, hA9, hN9⟩ : IsNew w5.heap.size #[.int .u64 0, .slice none 0 0] 27 (a.eval (Operand.tmp 12)) W := hd 9 12 (by kernel_rfl) rfl
        have rl := blk_cell hN9
        have rf := blk_free hN9
        clear hu hd
        generalize a.eval = ρ at *
        go_simp
      case endd =>
        intro v W hW hv
        have v0 : v 0 = (kv a0 b0) := hv 0 (by omega)
        have v1 : v 1 = (lv bf1 s' M.length c') := hv 1 (by omega)
        have v2 : v 2 = (.int .u64 x2) := hv 2 (by omega)
        have v3 : v 3 = (.string s3) := hv 3 (by omega)
        have v4 : v 4 = (.string (cut210 s3)) := hv 4 (by omega)
        have v5 : v 5 = noLog := hv 5 (by omega)
        have v6 : v 6 = noLog := hv 6 (by omega)
        have v7 : v 7 = (lv 0 none 0 0) := hv 7 (by omega)
        have v8 : v 8 = (.int .i64 160) := hv 8 (by omega)
        obtain ⟨D9, v9, hD9, hN9⟩ : IsNew w5.heap.size #[.int .u64 0, .slice none 0 0] 27 (v 9) W := hv 9 (by omega)
        clear hv
        simp only [List.take_succ_cons, List.take_zero, List.drop_succ_cons, List.drop_zero, putAll, Nat.zero_add, Nat.reduceAdd]
        rw [v0, v1, v2, v3, v4, v5, v6, v7, v8, v9]
        clear v0 v1 v2 v3 v4 v5 v6 v7 v8 v9
        have sW := sS.to hW
        have tN := St.addNew sS sW hD9 hN9
        have mne1 := own_old (A := D9) sS.ex hD9
        have tS := (tN.set 0 rfl (o := 0) (v := .int .u64 0) (Nat.le_trans sS.below.size hD9) (fun h => ownsRow_setCell_other h mne1 _)).set 0 rfl (o := 1) (v := .slice none 0 0) (Nat.le_trans sS.below.size hD9) (fun h => ownsRow_setCell_other h mne1 _)
        simp only [setB, List.modify_zero_cons, List.setIfInBounds_toArray, List.set_cons_succ, List.set_cons_zero, World.size_alloc] at tS
        have rl := tN.rules
        simp only [Rules, World.size_alloc] at rl
        have z1 : ¬ (A9 = D9) := by omega
        have z2 : ¬ (D9 = A9) := by omega
        go_wp2_with fail
        clear rl tN
        generalize ((W.setCell { block := D9, off := 0 } (Value.int IntKind.u64 0)).setCell { block := D9, off := 1 } (Value.slice none 0 0)) = w7 at *
        obtain ⟨bl9, E9, hne9, sh9, rl, hEx, hbx, hst⟩ := tS.hide
        refine region_st sh9 (by kernel_rfl) (by kernel_rfl) ?_
        simp only [Rules, World.size_alloc] at rl
        repeat (first | go_big_quiet_step ((first | (go_at_call 15; exact Cs.call (right_any a0 b0 bf1 fa fb M hM hM1000 _ c' rM HRM.out _ (own_ents_at (hEx _).out))) | (go_at_call 16; exact Cs.call (refRight_any a0 b0 bf1 fa fb M hM hM1000 _ c' rM HRM.out _ (own_ents_at (hEx _).out))) | (go_at_call 17; exact Cs.call (refSame_nil _)))) | quiet_step ((first | (go_at_call 15; exact Cs.call (right_any a0 b0 bf1 fa fb M hM hM1000 _ c' rM HRM.out _ (own_ents_at (hEx _).out))) | (go_at_call 16; exact Cs.call (refRight_any a0 b0 bf1 fa fb M hM hM1000 _ c' rM HRM.out _ (own_ents_at (hEx _).out))) | (go_at_call 17; exact Cs.call (refSame_nil _)))))
        refine wpQuiet_nil ?_
        intro y
        have hfin := (hbx y).out
        clear hbx rl hst sh9 hEx
        generalize y.W = w9 at *
        go_wp2_with fail
        go_ret
        exact ⟨by first | rfl | (simp; done), hfin⟩


set_option maxRecDepth 100000 in
theorem lifted (os : Os) (started : os.Started) (H : Type) (enc : TypeId × Value → H) :
    ReturnsInHanded {} Try.checked os 3 .any (Rows.auditAppendsSpec.pre6 enc Try.prog Try.f3 Rows.auditAppendsRow.domain false) (Rows.auditAppendsSpec.post enc Try.prog Try.f3 false true false false) := by
  refine returnsInHanded_of_change (C := Try.checked) own started (by kernel_rfl) Try.func3
    (ChangeSpec.witness6 (enc := enc) (C := Try.checked) false ⟨#[], #[.agg #[.int .u64 0, .int .u64 0], .agg #[.int .u64 0, .slice none 0 0], .int .u64 0, .string ⟨#[]⟩], []⟩ 8 (by kernel_rfl) (by kernel_rfl) (by kernel_rfl) (by kernel_rfl)) ?_
  intro W base args ds gs before hval0 hW hcnd _
  have hval : ∀ (j : Nat) t v, Try.f3.params[j]? = some t → args[j]? = some v → Value.okWide Try.prog W .any base t v := hval0
  have hW' := hW
  obtain ⟨p, q, hA0, hV, rfl, hfz, hnd⟩ := hW
  have hA : DataW.TrodAll enc Try.prog W 0 (fun _ => true) true Try.f3.params.toList args.toList ds p := hA0
  rw [Try.params3] at hA hval
  obtain ⟨v0, vs0, d0, ds0, p0, q0, hargs, rfl, rfl, h0, r0⟩ := trodAll_cons hA
  obtain ⟨v1, vs1, d1, ds1, p1, q1, rfl, rfl, rfl, h1, r1⟩ := trodAll_cons r0
  obtain ⟨v2, vs2, d2, ds2, p2, q2, rfl, rfl, rfl, h2, r2⟩ := trodAll_cons r1
  obtain ⟨v3, vs3, d3, ds3, p3, q3, rfl, rfl, rfl, h3, r3⟩ := trodAll_cons r2
  obtain ⟨rfl, rfl, rfl⟩ := trodAll_nil r3
  obtain rfl : args = #[v0, v1, v2, v3] := by cases args; simp_all
  obtain ⟨rfl, rfl⟩ := trodVars_none hV
  have k0 := h0
  have lt0 : ∀ x ∈ p0, x.block < W.heap.size := by obtain ⟨m, hm⟩ := k0; exact DataW.trod_lt m _ _ _ hm
  obtain ⟨a0, b0, rfl⟩ := openKey (hval 0 24 v0 rfl rfl) h0
  have k1 := h1
  have lt1 : ∀ x ∈ p1, x.block < W.heap.size := by obtain ⟨m, hm⟩ := k1; exact DataW.trod_lt m _ _ _ hm
  obtain ⟨bf1, s1, L1, cap1, rfl, fa1, fb1, hE1, hN1, hl1, hc1, hn1⟩ := openLog (hval 1 27 v1 rfl rfl) h1
  have k2 := h2
  have lt2 : ∀ x ∈ p2, x.block < W.heap.size := by obtain ⟨m, hm⟩ := k2; exact DataW.trod_lt m _ _ _ hm
  obtain ⟨x2, rfl, xa2, xb2⟩ := openU64i (hval 2 22 v2 rfl rfl) h2
  have k3 := h3
  have lt3 : ∀ x ∈ p3, x.block < W.heap.size := by obtain ⟨m, hm⟩ := k3; exact DataW.trod_lt m _ _ _ hm
  obtain ⟨s3, rfl, hs3⟩ := openStr (hval 3 9 v3 rfl rfl) h3
  clear hA0 hval0
  refine (walk a0 b0 bf1 fa1 fb1 s1 L1 cap1 hN1 hl1 hc1 hn1 x2 xa2 xb2 s3 hs3 W hE1).mono fun e W' ⟨he, bel⟩ => ?_
  subst he
  exact ⟨_, rfl, _, _, _, [], _, [], hW', trodAll_mk1 (shut_bool Try.underlying4 _), (trodAll_cons_mk (Below.trod laidOut (by kernel_rfl) (of_decide_eq_true (by kernel_rfl)) k0 bel lt0) (trodAll_cons_mk (Below.trod laidOut (by kernel_rfl) (of_decide_eq_true (by kernel_rfl)) k1 bel lt1) (trodAll_cons_mk (Below.trod laidOut (by kernel_rfl) (of_decide_eq_true (by kernel_rfl)) k2 bel lt2) (trodAll_cons_mk (Below.trod laidOut (by kernel_rfl) (of_decide_eq_true (by kernel_rfl)) k3 bel lt3) trodAll_mk0)))), rfl, bel.frame _, fun h => by cases h⟩

theorem over : Rows.auditAppendsRow.holds Try.pinned (OpenSpec.ofChange Rows.auditAppendsSpec) :=
  OpenClaim.holds_of_wide 3 Try.f3 rfl rfl rfl rfl rfl rfl rfl ⟨rfl, rfl, rfl, rfl, rfl⟩ rfl rfl rfl rfl rfl (by kernel_rfl) Try.func3 (by kernel_rfl)
    (of_decide_eq_true (by kernel_rfl)) (by unfold Func.isWrapper; first | (rw [if_pos (by decide +kernel)]; kernel_rfl) | (rw [if_neg (by decide +kernel)]; exact ⟨rfl, rfl⟩))
    (fun os started H enc _ => lifted os started H enc)

/-- THE STATEMENT -/
theorem proved : Rows.AuditAppendsSaid := over
#print axioms proved
end Go.Proofs.Ytclhbimlpamjiaa.auditAppends
