/- AuditOwn: for every key, log, time and text, what is told shares no list with what was given. No condition. -/
import Derived.Test.YtclhbimlpamjiaaRows
import Derived.Test.YtclhbimlpamjiaaShown16
import Derived.Test.YtclhbimlpamjiaaOpenLog
import Derived.Test.YtclhbimlpamjiaaEntEq
import Derived.Test.YtclhbimlpamjiaaAppSpec
import Derived.Test.YtclhbimlpamjiaaSpec3
import Derived.Test.YtclhbimlpamjiaaRowSet
import Derived.Test.YtclhbimlpamjiaaOpen
import Derived.WalkKit
import Derived.ProofKit
import Derived.OpenShut
import Derived.ShutString
import Derived.ChangeOld
import Derived.Below
namespace Go.Proofs.Ytclhbimlpamjiaa.auditOwn
open Go.ChangeShapes Go.WideShapes Go.ChangeAt Go.RowKit Go.Joins
set_option linter.unusedVariables false

theorem own : ownKnob Try.prog.godebug = none := by kernel_rfl
theorem laidOut : laidOutB Try.prog = true := by kernel_rfl

set_option linter.unusedSimpArgs false
set_option maxRecDepth 100000 in
set_option maxHeartbeats 2000000 in
theorem walk (a0 b0 : BitVec 64) (bf1 : Int) (fa1 : 0 ≤ bf1) (fb1 : bf1 < 18446744073709551616) (s1 : Option Addr) (L1 : List Ent) (cap1 : Nat) (hN1 : ∀ x ∈ L1, x.Num) (hl1 : L1.length ≤ cap1) (hc1 : cap1 ≤ 9223372036854775807) (hn1 : s1 = none → cap1 = 0) (x2 : Int) (xa2 : 0 ≤ x2) (xb2 : x2 < 18446744073709551616) (s3 : ByteArray) (hs3 : s3.size ≤ 9223372036854775807) (w : World) (hE1 : Ents w s1 L1) :
    Calls Try.prog 7 #[kv a0 b0, lv bf1 s1 L1.length cap1, .int .u64 x2, .string s3] w fun e w' => e = .returned (.bool true) ∧ Below w.heap.size w w' := by
  have st0 := (St.start w).alloc (cs := #[.int .u64 (un a0), .int .u64 (un b0)]) (T := 24) |>.alloc (cs := #[.int .u64 bf1, .slice s1 L1.length cap1]) (T := 27)
  go_enter Try.func7, Try.ntmps7
  go_wp2_with fail
  refine (st0.call (shown_any _)).mono ?_
  rintro e w1 ⟨rfl, st1⟩
  have rl := st1.rules
  simp only [Rules, World.size_alloc] at rl
  go_wp2_with fail
  refine (fewLog_any bf1 L1 hN1 (by omega) s1 cap1 _ (hE1.below st1.below)).mono ?_
  rintro e w2 ⟨v2, rfl, hown2, hb2⟩
  have hM := fewE_ok L1 hN1
  have hMl := fewE_length L1
  have HMM := Lib.hid (fewE_idem L1)
  generalize fewE L1 = M at *
  have hlt := (st1.rules).2.2.1
  simp only [World.size_alloc] at hlt
  obtain ⟨s', c', hv2, _⟩ := own_ents hown2
  subst hv2
  obtain ⟨_, hcap', hnil'⟩ := own_facts hown2
  have st2 := (st1.to hb2).lessE (F := fun W => OwnE W w1.heap.size (.slice s' M.length c') M) hown2 ownsRow_keep
  have st3 := (st2.set 0 rfl (o := 0) (v := .int .u64 bf1) (by simp) (fun h => ownsRow_setCell_below h (by simpa using hlt) _)).set 0 rfl (o := 1) (v := .slice s' M.length c') (by simp) (fun h => ownsRow_setCell_below h (by simpa using hlt) _)
  simp only [setB, List.modify_zero_cons, List.setIfInBounds_toArray, List.set_cons_succ, List.set_cons_zero, World.size_alloc] at st3
  clear rl hb2 hown2
  have rl := st2.rules
  simp only [Rules, World.size_alloc] at rl
  go_wp2_with fail
  clear rl st2
  generalize ((w2.setCell { block := w.heap.size + 1, off := 0 } (Value.int IntKind.u64 bf1)).setCell { block := w.heap.size + 1, off := 1 } (Value.slice s' M.length c')) = w3 at *
  have fa := fa1
  have fb := fb1
  have ta := xa2
  have tb := xb2
  have hs := hs3
  have hM1000 : M.length ≤ 1000 := by omega
  have hlt3 : w.heap.size + 1 < w3.heap.size := (st3.rules).2.2.1
  refine (fewLog_any bf1 M (fun x hx => (hM x hx).num) (by omega) s' c' _ (own_ents_at st3.ex)).mono ?_
  rintro e w4 ⟨v4, rfl, hown4, hb4⟩
  rw [HMM.out] at hown4
  obtain ⟨s4, c4, hv4, _⟩ := own_ents hown4
  subst hv4
  have st4 := (st3.to hb4).also (F := fun W => OwnE W w3.heap.size (.slice s4 M.length c4) M) hown4 ownsRow_keep
  have hsz4 : w3.heap.size ≤ w4.heap.size := hb4.size
  clear hb4 hown4
  have rl := st4.rules
  simp only [Rules, World.size_alloc] at rl
  go_wp2_with fail
  clear rl
  have st5 := st4.alloc (cs := #[.int .u64 bf1, .slice s4 M.length c4]) (T := 27)
  generalize (w4.alloc (.cells #[Value.int .u64 bf1, .slice s4 M.length c4] 27)) = w5 at *
  have hlt5 : w4.heap.size < w5.heap.size := (st5.rules).2.2.1
  by_cases hok : AppOk a0 b0 bf1 M x2 (cut210 s3)
  · have HOK := Lib.hid hok
    obtain ⟨d, hf⟩ := appF a0 b0 bf1 fa fb M hM x2 ta tb _ hok
    clear hok
    refine region_late 10 8 (.int .i64 0) (Fs [IsVal (kv a0 b0), IsVal (lv bf1 s' M.length c'), IsVal (.int .u64 x2), IsVal (.string s3), IsVal (.string (cut210 s3)), IsApp w5.heap.size (appB bf1 M) (appL a0 b0 bf1 M x2 (cut210 s3)), IsApp w5.heap.size (appB bf1 M) (appL a0 b0 bf1 M x2 (cut210 s3)), IsLogE w5.heap.size (appB bf1 M) (appL a0 b0 bf1 M x2 (cut210 s3)), IsVal (.int .i64 0), IsNew w5.heap.size #[.int .u64 0, .slice none 0 0] 27]) (by kernel_rfl) (by kernel_rfl) (by kernel_rfl) (Fs_stable _ ?stab) ?spec ?late (fun _ => rfl) ?store ?endd
    case stab =>
      simp only [List.forall_mem_cons]
      exact ⟨stableVal _, stableVal _, stableVal _, stableVal _, stableVal _, stableApp _ _ _, stableApp _ _ _, stableLogE _ _ _, stableVal _, stableNew _ _ _, by simp⟩
    case spec =>
      refine ⟨?_, ?_, ?_, ?_, ?_, ?_, ?_, ?_, ?_, ?_, trivial⟩
      · intro a W hW hu hd
        have kc : ∀ c, a.eval (Operand.const c) = c := fun _ => rfl
        have kf : ∀ f, a.eval (Operand.func f) = .func (.func f) #[] #[] := fun _ => rfl
        have sW := st5.to hW
        have rl := sW.rules
        simp only [Rules, World.size_alloc] at rl
        have u4 : a.eval (Operand.tmp 4) = .pointer (some ⟨w.heap.size, 0, none⟩) := hu 4 (by decide)
        unfold StepOk
        rw [if_pos (by rfl)]
        clear hu hd
        generalize a.eval = ρ at *
        go_simp
        exact opOk_val rfl
      · intro a W hW hu hd
        have kc : ∀ c, a.eval (Operand.const c) = c := fun _ => rfl
        have kf : ∀ f, a.eval (Operand.func f) = .func (.func f) #[] #[] := fun _ => rfl
        have sW := st5.to hW
        have rl := sW.rules
        simp only [Rules, World.size_alloc] at rl
        have u5 : a.eval (Operand.tmp 5) = .pointer (some ⟨w.heap.size + 1, 0, none⟩) := hu 5 (by decide)
        unfold StepOk
        rw [if_pos (by rfl)]
        clear hu hd
        generalize a.eval = ρ at *
        go_simp
        exact opOk_val rfl
      · intro a W hW hu hd
        have kc : ∀ c, a.eval (Operand.const c) = c := fun _ => rfl
        have kf : ∀ f, a.eval (Operand.func f) = .func (.func f) #[] #[] := fun _ => rfl
        have sW := st5.to hW
        have rl := sW.rules
        simp only [Rules, World.size_alloc] at rl
        have u2 : a.eval (Operand.tmp 2) = .int .u64 x2 := hu 2 (by decide)
        unfold StepOk
        rw [if_pos (by rfl)]
        clear hu hd
        generalize a.eval = ρ at *
        go_simp
        exact opOk_val rfl
      · intro a W hW hu hd
        have kc : ∀ c, a.eval (Operand.const c) = c := fun _ => rfl
        have kf : ∀ f, a.eval (Operand.func f) = .func (.func f) #[] #[] := fun _ => rfl
        have sW := st5.to hW
        have rl := sW.rules
        simp only [Rules, World.size_alloc] at rl
        have u3 : a.eval (Operand.tmp 3) = .string s3 := hu 3 (by decide)
        unfold StepOk
        rw [if_pos (by rfl)]
        clear hu hd
        generalize a.eval = ρ at *
        go_simp
        exact opOk_val rfl
      · intro a W hW hu hd
        have kc : ∀ c, a.eval (Operand.const c) = c := fun _ => rfl
        have kf : ∀ f, a.eval (Operand.func f) = .func (.func f) #[] #[] := fun _ => rfl
        have sW := st5.to hW
        have rl := sW.rules
        simp only [Rules, World.size_alloc] at rl
        have u25 : a.eval (Operand.tmp 25) = .string s3 := hd 3 25 (by kernel_rfl) rfl
        unfold StepOk
        rw [if_pos (by rfl)]
        clear hu hd
        generalize a.eval = ρ at *
        go_simp
        exact opOk_call_same (cut_any _ hs _) rfl
      · intro a W hW hu hd
        have kc : ∀ c, a.eval (Operand.const c) = c := fun _ => rfl
        have kf : ∀ f, a.eval (Operand.func f) = .func (.func f) #[] #[] := fun _ => rfl
        have sW := st5.to hW
        have rl := sW.rules
        simp only [Rules, World.size_alloc] at rl
        have u22 : a.eval (Operand.tmp 22) = kv a0 b0 := hd 0 22 (by kernel_rfl) rfl
        have u23 : a.eval (Operand.tmp 23) = (lv bf1 s' M.length c') := hd 1 23 (by kernel_rfl) rfl
        have u24 : a.eval (Operand.tmp 24) = .int .u64 x2 := hd 2 24 (by kernel_rfl) rfl
        have u26 : a.eval (Operand.tmp 26) = .string (cut210 s3) := hd 4 26 (by kernel_rfl) rfl
        unfold StepOk
        rw [if_pos (by rfl)]
        clear hu hd
        generalize a.eval = ρ at *
        go_simp
        exact opOk_callE ((append_yes a0 b0 bf1 fa fb M hM s' c' hcap' hnil' x2 ta tb _ _ (own_ents_at sW.ex.1) HOK.out).mono fun e w' ⟨v, he, ho, hb⟩ => ⟨_, he, hb, v, rfl, ownsRow_base ho hW.size⟩)
      · intro a W hW hu hd
        have kc : ∀ c, a.eval (Operand.const c) = c := fun _ => rfl
        have kf : ∀ f, a.eval (Operand.func f) = .func (.func f) #[] #[] := fun _ => rfl
        have sW := st5.to hW
        have rl := sW.rules
        simp only [Rules, World.size_alloc] at rl
        obtain ⟨u, hu1, hu2⟩ : IsApp w5.heap.size (appB bf1 M) (appL a0 b0 bf1 M x2 (cut210 s3)) (a.eval (Operand.tmp 27)) W := hd 5 27 (by kernel_rfl) rfl
        unfold StepOk
        rw [if_pos (by rfl)]
        clear hu hd
        generalize a.eval = ρ at *
        go_simp
        exact opOk_val ⟨u, rfl, hu2⟩
      · intro a W hW hu hd
        have kc : ∀ c, a.eval (Operand.const c) = c := fun _ => rfl
        have kf : ∀ f, a.eval (Operand.func f) = .func (.func f) #[] #[] := fun _ => rfl
        have sW := st5.to hW
        have rl := sW.rules
        simp only [Rules, World.size_alloc] at rl
        obtain ⟨u, hu1, hu2⟩ : IsApp w5.heap.size (appB bf1 M) (appL a0 b0 bf1 M x2 (cut210 s3)) (a.eval (Operand.tmp 21)) W := hd 6 21 (by kernel_rfl) rfl
        unfold StepOk
        rw [if_pos (by rfl)]
        clear hu hd
        generalize a.eval = ρ at *
        go_simp
        exact opOk_val ⟨u, rfl, hu2⟩
      · intro a W hW hu hd
        have kc : ∀ c, a.eval (Operand.const c) = c := fun _ => rfl
        have kf : ∀ f, a.eval (Operand.func f) = .func (.func f) #[] #[] := fun _ => rfl
        have sW := st5.to hW
        have rl := sW.rules
        simp only [Rules, World.size_alloc] at rl
        obtain ⟨u, hu1, hu2⟩ : IsApp w5.heap.size (appB bf1 M) (appL a0 b0 bf1 M x2 (cut210 s3)) (a.eval (Operand.tmp 21)) W := hd 6 21 (by kernel_rfl) rfl
        unfold StepOk
        rw [if_pos (by rfl)]
        clear hu hd
        generalize a.eval = ρ at *
        go_simp
        exact opOk_val rfl
      · intro a W hW hu hd
        have kc : ∀ c, a.eval (Operand.const c) = c := fun _ => rfl
        have kf : ∀ f, a.eval (Operand.func f) = .func (.func f) #[] #[] := fun _ => rfl
        have sW := st5.to hW
        have rl := sW.rules
        simp only [Rules, World.size_alloc] at rl
        unfold StepOk
        rw [if_pos (by rfl)]
        clear hu hd
        generalize a.eval = ρ at *
        go_simp
        exact opOk_new hW.size
    case late =>
      intro oq hoq a W hW hu hd W'
      cases hoq
      obtain ⟨u, hu1, hu2⟩ : IsApp w5.heap.size (appB bf1 M) (appL a0 b0 bf1 M x2 (cut210 s3)) (a.eval (Operand.tmp 21)) W := hd 6 21 (by kernel_rfl) rfl
      clear hu hd
      generalize a.eval = ρ at *
      go_simp
    case store =>
      intro os hos a W hW hu hd
      cases hos
      have sW := st5.to hW
      obtain ⟨u, hu1, hu2⟩ : IsLogE w5.heap.size (appB bf1 M) (appL a0 b0 bf1 M x2 (cut210 s3)) (a.eval (Operand.tmp 28)) W := hd 7 28 (by kernel_rfl) rfl
      obtain ⟨s9, c9, hv9, _⟩ := own_ents hu2
      subst hv9
      obtain ⟨A9, hA, hA9, hN9⟩ : IsNew w5.heap.size #[.int .u64 0, .slice none 0 0] 27 (a.eval (Operand.tmp 11)) W := hd 9 11 (by kernel_rfl) rfl
      have rl := blk_cell hN9
      have rf := blk_free hN9
      clear hu hd
      generalize a.eval = ρ at *
      go_simp
    case endd =>
      intro v W hW hv
      have v0 : v 0 = (kv a0 b0) := hv 0 (by omega)
      have v1 : v 1 = (lv bf1 s' M.length c') := hv 1 (by omega)
      have v2 : v 2 = (.int .u64 x2) := hv 2 (by omega)
      have v3 : v 3 = (.string s3) := hv 3 (by omega)
      have v4 : v 4 = (.string (cut210 s3)) := hv 4 (by omega)
      have hf5 : IsApp w5.heap.size (appB bf1 M) (appL a0 b0 bf1 M x2 (cut210 s3)) (v 5) W := hv 5 (by omega)
      have hf6 : IsApp w5.heap.size (appB bf1 M) (appL a0 b0 bf1 M x2 (cut210 s3)) (v 6) W := hv 6 (by omega)
      have hf7 : IsLogE w5.heap.size (appB bf1 M) (appL a0 b0 bf1 M x2 (cut210 s3)) (v 7) W := hv 7 (by omega)
      have v8 : v 8 = (.int .i64 0) := hv 8 (by omega)
      obtain ⟨A9, v9, hA9, hN9⟩ : IsNew w5.heap.size #[.int .u64 0, .slice none 0 0] 27 (v 9) W := hv 9 (by omega)
      clear hv
      simp only [List.take_succ_cons, List.take_zero, List.drop_succ_cons, List.drop_zero, putAll, Nat.zero_add, Nat.reduceAdd]
      rw [v0, v1, v2, v3, v4, v8, v9]
      clear v0 v1 v2 v3 v4 v8 v9
      have sW := st5.to hW
      clear hf5 hf6
      obtain ⟨uA, huA, hownA⟩ := hf7
      rw [huA]
      generalize v 5 = v5 at *
      generalize v 6 = v6 at *
      generalize appB bf1 M = bA at *
      generalize appL a0 b0 bf1 M x2 (cut210 s3) = LA at *
      generalize newEnt a0 b0 bf1 M x2 (cut210 s3) = x at *
      have hn30 := hf.n30
      have hLpos : 1 ≤ LA.length := by have := hf.len; have := hf.d0; omega
      rcases hownA.2 with ⟨_, hz⟩ | ⟨gA, cA, cur, huA2, hBg, hcur, hcapA, hcmA, _⟩
      · exfalso; omega
      subst huA2
      have sN := (St.addNew st5 sW hA9 hN9).also (F := fun W => OwnE W w5.heap.size (.slice (some ⟨gA, 0, none⟩) LA.length cA) LA) hownA ownsRow_keep
      have hne1 := own_old (A := A9) st5.ex.1 hA9
      have hne3 := own_old (A := A9) st5.ex.2 hA9
      have hne2 := own_tag hownA hN9 (by decide)
      have hgW : gA < W.heap.size := (Array.getElem?_eq_some_iff.1 hcur).1
      have sS := (sN.set 0 rfl (o := 0) (v := .int .u64 bA) (Nat.le_trans st5.below.size hA9) (fun h => ⟨⟨ownsRow_setCell_other h.1.1 hne1 _, ownsRow_setCell_other h.1.2 hne3 _⟩, ownsRow_setCell_other h.2 hne2 _⟩)).set 0 rfl (o := 1) (v := .slice (some ⟨gA, 0, none⟩) LA.length cA) (Nat.le_trans st5.below.size hA9) (fun h => ⟨⟨ownsRow_setCell_other h.1.1 hne1 _, ownsRow_setCell_other h.1.2 hne3 _⟩, ownsRow_setCell_other h.2 hne2 _⟩)
      simp only [setB, List.modify_zero_cons, List.setIfInBounds_toArray, List.set_cons_succ, List.set_cons_zero, World.size_alloc] at sS
      have rl := sN.rules
      simp only [Rules, World.size_alloc] at rl
      have q1 : ¬ (w.heap.size + 1 = A9) := by omega
      have q2 : ¬ (A9 = w.heap.size + 1) := by omega
      have hgS : gA < ((W.setCell { block := A9, off := 0 } (Value.int IntKind.u64 bA)).setCell { block := A9, off := 1 } (Value.slice (some { block := gA, off := 0 }) LA.length cA)).heap.size := by simpa [World.setCell] using hgW
      go_wp2_with fail
      clear rl sN q1 q2
      generalize ((W.setCell { block := A9, off := 0 } (Value.int IntKind.u64 bA)).setCell { block := A9, off := 1 } (Value.slice (some { block := gA, off := 0 }) LA.length cA)) = w6 at *
      have s6 := sS
      clear sS
      refine (from_any bf1 M hM hM1000 s' c' 0 (by omega) (by omega) _ (own_ents_at s6.ex.1.1)).mono ?_
      rintro e w7 ⟨v7, rfl, hown7, hb7⟩
      have hNl : (fromE 0 M).length ≤ 1000 := Nat.le_trans (fromE_length _ _) hM1000
      generalize fromE 0 M = N at *
      obtain ⟨sN, cN, hv7, _⟩ := own_ents hown7
      subst hv7
      have s7 := (s6.to hb7).lessE (F := fun W => ((OwnE W w1.heap.size (.slice s' M.length c') M ∧ OwnE W w3.heap.size (.slice s4 M.length c4) M) ∧ OwnE W w6.heap.size (.slice sN N.length cN) N) ∧ OwnE W w5.heap.size (.slice (some ⟨gA, 0, none⟩) LA.length cA) LA) ⟨⟨(s6.to hb7).ex.1, hown7⟩, (s6.to hb7).ex.2⟩ (fun _ _ h hb => ⟨⟨⟨ownsRow_keep _ _ h.1.1.1 hb, ownsRow_keep _ _ h.1.1.2 hb⟩, ownsRow_keep _ _ h.1.2 hb⟩, ownsRow_keep _ _ h.2 hb⟩)
      clear hb7 hown7
      have s6M := s6.ex.1.1
      have s6W := s6.ex.1.2
      have neM := own_old (A := gA) st5.ex.1 hBg
      have neW := own_old (A := gA) st5.ex.2 hBg
      have neN : (Value.slice sN N.length cN).ownBlock ≠ some gA := fun e => by
        have := (s7.ex.1.2.lt gA e).1
        omega
      go_wp2_with fail
      go_loopw [14] (fun i wr => ∃ (k : Nat) (LA' : List Ent), k ≤ LA.length ∧ i = .int .i64 k ∧ LA'.length = LA.length ∧ St w [(A9, #[.int .u64 bA, .slice (some ⟨gA, 0, none⟩) LA.length cA], 27), (w4.heap.size, #[.int .u64 bf1, .slice s4 M.length c4], 27), (w.heap.size + 1, #[.int .u64 bf1, .slice s' M.length c'], 27), (w.heap.size, #[.int .u64 (un a0), .int .u64 (un b0)], 24)] (fun W => ((OwnE W w1.heap.size (.slice s' M.length c') M ∧ OwnE W w3.heap.size (.slice s4 M.length c4) M) ∧ OwnE W w6.heap.size (.slice sN N.length cN) N) ∧ OwnE W w5.heap.size (.slice (some ⟨gA, 0, none⟩) LA.length cA) LA') wr) (fun i _ => LA.length - (intOf i).toNat)
      case atStart => exact ⟨0, LA, Nat.zero_le _, rfl, rfl, s7⟩
      case round =>
        obtain ⟨k, LA', hk, rfl, hLl', st⟩ := hrel
        clear s7
        have rl := st.rules
        simp only [Rules] at rl
        by_cases hlt : k < LA.length
        · have hx := List.getElem?_eq_getElem (show k < LA'.length by omega)
          obtain ⟨g, o, he, hg, b0', b1', b2', b3'⟩ := own_ents_at st.ex.2 k _ hx
          cases he
          have hown := st.ex.2
          have hfz : wr.frozen? ⟨gA, k * 4 + 2, none⟩ = false := own_frozen hown hLl'.symm _
          have HX := Lib.hid hx
          generalize (LA'[k]'(by omega)) = y at *
          rw [Nat.zero_add] at b2'
          clear b0' b1' b3' hx
          go_wp2_with fail
          go_roundw
          case rel =>
            refine ⟨k + 1, LA'.set k (y.setText ⟨#[111, 116, 104, 101, 114]⟩), hlt, by go_num, by rw [List.length_set]; exact hLl', ?_⟩
            exact st.setOut (by have := st5.below.size; omega) (st.apart hown (by simp)) ⟨⟨⟨ownsRow_setCell_other st.ex.1.1.1 neM _, ownsRow_setCell_other st.ex.1.1.2 neW _⟩, ownsRow_setCell_other st.ex.1.2 neN _⟩, own_set hown hLl'.symm k y (y.setText ⟨#[111, 116, 104, 101, 114]⟩) HX.out 2 (by omega) (.string ⟨#[111, 116, 104, 101, 114]⟩) rfl⟩ (fun _ _ h hb => ⟨⟨⟨ownsRow_keep _ _ h.1.1.1 hb, ownsRow_keep _ _ h.1.1.2 hb⟩, ownsRow_keep _ _ h.1.2 hb⟩, ownsRow_keep _ _ h.2 hb⟩)
          case measure => simp [intOf]; omega
        · obtain rfl : k = LA.length := by omega
          have s8 := st.lessE (F := fun W => (OwnE W w1.heap.size (.slice s' M.length c') M ∧ OwnE W w3.heap.size (.slice s4 M.length c4) M) ∧ OwnE W w6.heap.size (.slice sN N.length cN) N) st.ex.1 (fun _ _ h hb => ⟨⟨ownsRow_keep _ _ h.1.1 hb, ownsRow_keep _ _ h.1.2 hb⟩, ownsRow_keep _ _ h.2 hb⟩)
          clear st
          go_wp2_with fail
          clear rl
          go_loopw [15] (fun i wr => ∃ (k : Nat) (N' : List Ent), k ≤ N.length ∧ i = .int .i64 k ∧ N'.length = N.length ∧ St w [(A9, #[.int .u64 bA, .slice (some ⟨gA, 0, none⟩) LA.length cA], 27), (w4.heap.size, #[.int .u64 bf1, .slice s4 M.length c4], 27), (w.heap.size + 1, #[.int .u64 bf1, .slice s' M.length c'], 27), (w.heap.size, #[.int .u64 (un a0), .int .u64 (un b0)], 24)] (fun W => (OwnE W w1.heap.size (.slice s' M.length c') M ∧ OwnE W w3.heap.size (.slice s4 M.length c4) M) ∧ OwnE W w6.heap.size (.slice sN N.length cN) N') wr) (fun i _ => N.length - (intOf i).toNat)
          case atStart => exact ⟨0, N, Nat.zero_le _, rfl, rfl, s8⟩
          case round =>
            obtain ⟨k, N', hk, rfl, hNl', st⟩ := hrel
            clear s8
            have rl := st.rules
            simp only [Rules] at rl
            by_cases hlt : k < N.length
            · have hx := List.getElem?_eq_getElem (show k < N'.length by omega)
              obtain ⟨sx, cx, hvx, _, hEx, hgx⟩ := own_ents st.ex.2
              obtain ⟨g, o, he, hg, b0', b1', b2', b3'⟩ := hEx k _ hx
              have e1 := (Value.slice.inj hvx).1
              rw [he] at e1
              subst e1
              obtain ⟨g2, e2, hB2, _⟩ := hgx _ he
              cases e2
              have hown := st.ex.2
              have hfz : wr.frozen? ⟨g, k * 4, none⟩ = false := own_frozen hown hNl'.symm _
              have HX := Lib.hid hx
              generalize (N'[k]'(by omega)) = y at *
              rw [Nat.zero_add] at b0'
              clear hvx hEx hgx b1' b2' b3' hx
              go_wp2_with fail
              go_roundw
              case rel =>
                refine ⟨k + 1, N'.set k (y.setSeq 0), hlt, by go_num, by rw [List.length_set]; exact hNl', ?_⟩
                refine st.setOut (by have := s6.below.size; omega) (st.apart hown (by simp)) ⟨⟨ownsRow_setCell_other st.ex.1.1 (own_old s6M hB2) _, ownsRow_setCell_other st.ex.1.2 (own_old s6W hB2) _⟩, ?_⟩ (fun _ _ h hb => ⟨⟨ownsRow_keep _ _ h.1.1 hb, ownsRow_keep _ _ h.1.2 hb⟩, ownsRow_keep _ _ h.2 hb⟩)
                have := own_set hown hNl'.symm k y (y.setSeq 0) HX.out 0 (by omega) (.int .u64 0) rfl
                rwa [Nat.add_zero] at this
              case measure => simp [intOf]; omega
            · obtain rfl : k = N.length := by omega
              go_wp2_with fail
              refine (st.call' (fun st => refSame_any bf1 bf1 M M hM1000 hM1000 s' s4 c' c4 true ⟨fun _ => ⟨rfl, rfl⟩, fun _ => rfl⟩ _ (own_ents_at st.ex.1.1) (own_ents_at st.ex.1.2))).mono ?_
              rintro e w9 ⟨rfl, st9⟩
              clear rl
              go_wp2_with fail
              go_ret
              exact ⟨rfl, st9.below⟩
  · have HNO := Lib.hid hok
    clear hok
    refine region_late 10 8 (.int .i64 160) (Fs [IsVal (kv a0 b0), IsVal (lv bf1 s' M.length c'), IsVal (.int .u64 x2), IsVal (.string s3), IsVal (.string (cut210 s3)), IsVal noLog, IsVal noLog, IsVal (lv 0 none 0 0), IsVal (.int .i64 160), IsNew w5.heap.size #[.int .u64 0, .slice none 0 0] 27]) (by kernel_rfl) (by kernel_rfl) (by kernel_rfl) (Fs_stable _ ?stab) ?spec ?late (fun _ => rfl) ?store ?endd
    case stab =>
      simp only [List.forall_mem_cons]
      exact ⟨stableVal _, stableVal _, stableVal _, stableVal _, stableVal _, stableVal _, stableVal _, stableVal _, stableVal _, stableNew _ _ _, by simp⟩
    case spec =>
      refine ⟨?_, ?_, ?_, ?_, ?_, ?_, ?_, ?_, ?_, ?_, trivial⟩
      · intro a W hW hu hd
        have kc : ∀ c, a.eval (Operand.const c) = c := fun _ => rfl
        have kf : ∀ f, a.eval (Operand.func f) = .func (.func f) #[] #[] := fun _ => rfl
        have sW := st5.to hW
        have rl := sW.rules
        simp only [Rules, World.size_alloc] at rl
        have u4 : a.eval (Operand.tmp 4) = .pointer (some ⟨w.heap.size, 0, none⟩) := hu 4 (by decide)
        unfold StepOk
        rw [if_pos (by rfl)]
        clear hu hd
        generalize a.eval = ρ at *
        go_simp
        exact opOk_val rfl
      · intro a W hW hu hd
        have kc : ∀ c, a.eval (Operand.const c) = c := fun _ => rfl
        have kf : ∀ f, a.eval (Operand.func f) = .func (.func f) #[] #[] := fun _ => rfl
        have sW := st5.to hW
        have rl := sW.rules
        simp only [Rules, World.size_alloc] at rl
        have u5 : a.eval (Operand.tmp 5) = .pointer (some ⟨w.heap.size + 1, 0, none⟩) := hu 5 (by decide)
        unfold StepOk
        rw [if_pos (by rfl)]
        clear hu hd
        generalize a.eval = ρ at *
        go_simp
        exact opOk_val rfl
      · intro a W hW hu hd
        have kc : ∀ c, a.eval (Operand.const c) = c := fun _ => rfl
        have kf : ∀ f, a.eval (Operand.func f) = .func (.func f) #[] #[] := fun _ => rfl
        have sW := st5.to hW
        have rl := sW.rules
        simp only [Rules, World.size_alloc] at rl
        have u2 : a.eval (Operand.tmp 2) = .int .u64 x2 := hu 2 (by decide)
        unfold StepOk
        rw [if_pos (by rfl)]
        clear hu hd
        generalize a.eval = ρ at *
        go_simp
        exact opOk_val rfl
      · intro a W hW hu hd
        have kc : ∀ c, a.eval (Operand.const c) = c := fun _ => rfl
        have kf : ∀ f, a.eval (Operand.func f) = .func (.func f) #[] #[] := fun _ => rfl
        have sW := st5.to hW
        have rl := sW.rules
        simp only [Rules, World.size_alloc] at rl
        have u3 : a.eval (Operand.tmp 3) = .string s3 := hu 3 (by decide)
        unfold StepOk
        rw [if_pos (by rfl)]
        clear hu hd
        generalize a.eval = ρ at *
        go_simp
        exact opOk_val rfl
      · intro a W hW hu hd
        have kc : ∀ c, a.eval (Operand.const c) = c := fun _ => rfl
        have kf : ∀ f, a.eval (Operand.func f) = .func (.func f) #[] #[] := fun _ => rfl
        have sW := st5.to hW
        have rl := sW.rules
        simp only [Rules, World.size_alloc] at rl
        have u25 : a.eval (Operand.tmp 25) = .string s3 := hd 3 25 (by kernel_rfl) rfl
        unfold StepOk
        rw [if_pos (by rfl)]
        clear hu hd
        generalize a.eval = ρ at *
        go_simp
        exact opOk_call_same (cut_any _ hs _) rfl
      · intro a W hW hu hd
        have kc : ∀ c, a.eval (Operand.const c) = c := fun _ => rfl
        have kf : ∀ f, a.eval (Operand.func f) = .func (.func f) #[] #[] := fun _ => rfl
        have sW := st5.to hW
        have rl := sW.rules
        simp only [Rules, World.size_alloc] at rl
        have u22 : a.eval (Operand.tmp 22) = kv a0 b0 := hd 0 22 (by kernel_rfl) rfl
        have u23 : a.eval (Operand.tmp 23) = (lv bf1 s' M.length c') := hd 1 23 (by kernel_rfl) rfl
        have u24 : a.eval (Operand.tmp 24) = .int .u64 x2 := hd 2 24 (by kernel_rfl) rfl
        have u26 : a.eval (Operand.tmp 26) = .string (cut210 s3) := hd 4 26 (by kernel_rfl) rfl
        unfold StepOk
        rw [if_pos (by rfl)]
        clear hu hd
        generalize a.eval = ρ at *
        go_simp
        exact opOk_call (append_no a0 b0 bf1 fa fb M hM (by omega) s' c' x2 _ (Nat.le_trans (cut210_size _) (by decide)) _ (own_ents_at sW.ex.1) HNO.out) (fun _ _ => rfl)
      · intro a W hW hu hd
        have kc : ∀ c, a.eval (Operand.const c) = c := fun _ => rfl
        have kf : ∀ f, a.eval (Operand.func f) = .func (.func f) #[] #[] := fun _ => rfl
        have sW := st5.to hW
        have rl := sW.rules
        simp only [Rules, World.size_alloc] at rl
        have u27 : a.eval (Operand.tmp 27) = noLog := hd 5 27 (by kernel_rfl) rfl
        unfold StepOk
        rw [if_pos (by rfl)]
        clear hu hd
        generalize a.eval = ρ at *
        go_simp
        exact opOk_val rfl
      · intro a W hW hu hd
        have kc : ∀ c, a.eval (Operand.const c) = c := fun _ => rfl
        have kf : ∀ f, a.eval (Operand.func f) = .func (.func f) #[] #[] := fun _ => rfl
        have sW := st5.to hW
        have rl := sW.rules
        simp only [Rules, World.size_alloc] at rl
        have u21 : a.eval (Operand.tmp 21) = noLog := hd 6 21 (by kernel_rfl) rfl
        unfold StepOk
        rw [if_pos (by rfl)]
        clear hu hd
        generalize a.eval = ρ at *
        go_simp
        exact opOk_val rfl
      · intro a W hW hu hd
        have kc : ∀ c, a.eval (Operand.const c) = c := fun _ => rfl
        have kf : ∀ f, a.eval (Operand.func f) = .func (.func f) #[] #[] := fun _ => rfl
        have sW := st5.to hW
        have rl := sW.rules
        simp only [Rules, World.size_alloc] at rl
        have u21 : a.eval (Operand.tmp 21) = noLog := hd 6 21 (by kernel_rfl) rfl
        unfold StepOk
        rw [if_pos (by rfl)]
        clear hu hd
        generalize a.eval = ρ at *
        go_simp
        exact opOk_val rfl
      · intro a W hW hu hd
        have kc : ∀ c, a.eval (Operand.const c) = c := fun _ => rfl
        have kf : ∀ f, a.eval (Operand.func f) = .func (.func f) #[] #[] := fun _ => rfl
        have sW := st5.to hW
        have rl := sW.rules
        simp only [Rules, World.size_alloc] at rl
        unfold StepOk
        rw [if_pos (by rfl)]
        clear hu hd
        generalize a.eval = ρ at *
        go_simp
        exact opOk_new hW.size
    case late =>
      intro oq hoq a W hW hu hd W'
      cases hoq
      have u21 : a.eval (Operand.tmp 21) = noLog := hd 6 21 (by kernel_rfl) rfl
      clear hu hd
      generalize a.eval = ρ at *
      go_simp
    case store =>
      intro os hos a W hW hu hd
      cases hos
      have sW := st5.to hW
      have u28 : a.eval (Operand.tmp 28) = lv 0 none 0 0 := hd 7 28 (by kernel_rfl) rfl
      obtain ⟨A9, hA, hA9, hN9⟩ : IsNew w5.heap.size #[.int .u64 0, .slice none 0 0] 27 (a.eval (Operand.tmp 11)) W := hd 9 11 (by kernel_rfl) rfl
      have rl := blk_cell hN9
      have rf := blk_free hN9
      clear hu hd
      generalize a.eval = ρ at *
      go_simp
    case endd =>
      intro v W hW hv
      have v0 : v 0 = (kv a0 b0) := hv 0 (by omega)
      have v1 : v 1 = (lv bf1 s' M.length c') := hv 1 (by omega)
      have v2 : v 2 = (.int .u64 x2) := hv 2 (by omega)
      have v3 : v 3 = (.string s3) := hv 3 (by omega)
      have v4 : v 4 = (.string (cut210 s3)) := hv 4 (by omega)
      have v5 : v 5 = noLog := hv 5 (by omega)
      have v6 : v 6 = noLog := hv 6 (by omega)
      have v7 : v 7 = (lv 0 none 0 0) := hv 7 (by omega)
      have v8 : v 8 = (.int .i64 160) := hv 8 (by omega)
      obtain ⟨A9, v9, hA9, hN9⟩ : IsNew w5.heap.size #[.int .u64 0, .slice none 0 0] 27 (v 9) W := hv 9 (by omega)
      clear hv
      simp only [List.take_succ_cons, List.take_zero, List.drop_succ_cons, List.drop_zero, putAll, Nat.zero_add, Nat.reduceAdd]
      rw [v0, v1, v2, v3, v4, v5, v6, v7, v8, v9]
      clear v0 v1 v2 v3 v4 v5 v6 v7 v8 v9
      have sW := st5.to hW
      have sN := St.addNew st5 sW hA9 hN9
      have hne1 := own_old (A := A9) st5.ex.1 hA9
      have hne3 := own_old (A := A9) st5.ex.2 hA9
      have sS := (sN.set 0 rfl (o := 0) (v := .int .u64 0) (Nat.le_trans st5.below.size hA9) (fun h => ⟨ownsRow_setCell_other h.1 hne1 _, ownsRow_setCell_other h.2 hne3 _⟩)).set 0 rfl (o := 1) (v := .slice none 0 0) (Nat.le_trans st5.below.size hA9) (fun h => ⟨ownsRow_setCell_other h.1 hne1 _, ownsRow_setCell_other h.2 hne3 _⟩)
      simp only [setB, List.modify_zero_cons, List.setIfInBounds_toArray, List.set_cons_succ, List.set_cons_zero, World.size_alloc] at sS
      have rl := sN.rules
      simp only [Rules, World.size_alloc] at rl
      have q1 : ¬ (w.heap.size + 1 = A9) := by omega
      have q2 : ¬ (A9 = w.heap.size + 1) := by omega
      go_wp2_with fail
      clear rl sN q1 q2
      generalize ((W.setCell { block := A9, off := 0 } (Value.int IntKind.u64 0)).setCell { block := A9, off := 1 } (Value.slice none 0 0)) = w6 at *
      have s6 := sS
      clear sS
      refine (from_any bf1 M hM hM1000 s' c' 0 (by omega) (by omega) _ (own_ents_at s6.ex.1)).mono ?_
      rintro e w7 ⟨v7, rfl, hown7, hb7⟩
      have hNl : (fromE 0 M).length ≤ 1000 := Nat.le_trans (fromE_length _ _) hM1000
      generalize fromE 0 M = N at *
      obtain ⟨sN, cN, hv7, _⟩ := own_ents hown7
      subst hv7
      have s7 := (s6.to hb7).also (F := fun W => OwnE W w6.heap.size (.slice sN N.length cN) N) hown7 ownsRow_keep
      clear hb7 hown7
      have s6M := s6.ex.1
      have s6W := s6.ex.2
      go_wp2_with fail
      go_loopw [14] (fun i wr => i = .int .i64 0 ∧ St w [(A9, #[.int .u64 0, .slice none 0 0], 27), (w4.heap.size, #[.int .u64 bf1, .slice s4 M.length c4], 27), (w.heap.size + 1, #[.int .u64 bf1, .slice s' M.length c'], 27), (w.heap.size, #[.int .u64 (un a0), .int .u64 (un b0)], 24)] (fun W => (OwnE W w1.heap.size (.slice s' M.length c') M ∧ OwnE W w3.heap.size (.slice s4 M.length c4) M) ∧ OwnE W w6.heap.size (.slice sN N.length cN) N) wr) (fun _ _ => 0)
      case atStart => exact ⟨rfl, s7⟩
      case round =>
        obtain ⟨rfl, s8⟩ := hrel
        clear s7
        have rl := s8.rules
        simp only [Rules] at rl
        go_wp2_with fail
        clear rl
        go_loopw [15] (fun i wr => ∃ (k : Nat) (N' : List Ent), k ≤ N.length ∧ i = .int .i64 k ∧ N'.length = N.length ∧ St w [(A9, #[.int .u64 0, .slice none 0 0], 27), (w4.heap.size, #[.int .u64 bf1, .slice s4 M.length c4], 27), (w.heap.size + 1, #[.int .u64 bf1, .slice s' M.length c'], 27), (w.heap.size, #[.int .u64 (un a0), .int .u64 (un b0)], 24)] (fun W => (OwnE W w1.heap.size (.slice s' M.length c') M ∧ OwnE W w3.heap.size (.slice s4 M.length c4) M) ∧ OwnE W w6.heap.size (.slice sN N.length cN) N') wr) (fun i _ => N.length - (intOf i).toNat)
        case atStart => exact ⟨0, N, Nat.zero_le _, rfl, rfl, s8⟩
        case round =>
          obtain ⟨k, N', hk, rfl, hNl', st⟩ := hrel
          clear s8
          have rl := st.rules
          simp only [Rules] at rl
          by_cases hlt : k < N.length
          · have hx := List.getElem?_eq_getElem (show k < N'.length by omega)
            obtain ⟨sx, cx, hvx, _, hEx, hgx⟩ := own_ents st.ex.2
            obtain ⟨g, o, he, hg, b0', b1', b2', b3'⟩ := hEx k _ hx
            have e1 := (Value.slice.inj hvx).1
            rw [he] at e1
            subst e1
            obtain ⟨g2, e2, hB2, _⟩ := hgx _ he
            cases e2
            have hown := st.ex.2
            have hfz : wr.frozen? ⟨g, k * 4, none⟩ = false := own_frozen hown hNl'.symm _
            have HX := Lib.hid hx
            generalize (N'[k]'(by omega)) = y at *
            rw [Nat.zero_add] at b0'
            clear hvx hEx hgx b1' b2' b3' hx
            go_wp2_with fail
            go_roundw
            case rel =>
              refine ⟨k + 1, N'.set k (y.setSeq 0), hlt, by go_num, by rw [List.length_set]; exact hNl', ?_⟩
              refine st.setOut (by have := s6.below.size; omega) (st.apart hown (by simp)) ⟨⟨ownsRow_setCell_other st.ex.1.1 (own_old s6M hB2) _, ownsRow_setCell_other st.ex.1.2 (own_old s6W hB2) _⟩, ?_⟩ (fun _ _ h hb => ⟨⟨ownsRow_keep _ _ h.1.1 hb, ownsRow_keep _ _ h.1.2 hb⟩, ownsRow_keep _ _ h.2 hb⟩)
              have := own_set hown hNl'.symm k y (y.setSeq 0) HX.out 0 (by omega) (.int .u64 0) rfl
              rwa [Nat.add_zero] at this
            case measure => simp [intOf]; omega
          · obtain rfl : k = N.length := by omega
            go_wp2_with fail
            refine (st.call' (fun st => refSame_any bf1 bf1 M M hM1000 hM1000 s' s4 c' c4 true ⟨fun _ => ⟨rfl, rfl⟩, fun _ => rfl⟩ _ (own_ents_at st.ex.1.1) (own_ents_at st.ex.1.2))).mono ?_
            rintro e w9 ⟨rfl, st9⟩
            clear rl
            go_wp2_with fail
            go_ret
            exact ⟨rfl, st9.below⟩


set_option maxRecDepth 100000 in
theorem lifted (os : Os) (started : os.Started) (H : Type) (enc : TypeId × Value → H) :
    ReturnsInHanded {} Try.checked os 7 .any (Rows.auditOwnSpec.pre6 enc Try.prog Try.f7 Rows.auditOwnRow.domain false) (Rows.auditOwnSpec.post enc Try.prog Try.f7 false true false false) := by
  refine returnsInHanded_of_change (C := Try.checked) own started (by kernel_rfl) Try.func7
    (ChangeSpec.witness6 (enc := enc) (C := Try.checked) false ⟨#[], #[.agg #[.int .u64 0, .int .u64 0], .agg #[.int .u64 0, .slice none 0 0], .int .u64 0, .string ⟨#[]⟩], []⟩ 8 (by kernel_rfl) (by kernel_rfl) (by kernel_rfl) (by kernel_rfl)) ?_
  intro W base args ds gs before hval0 hW hcnd _
  have hval : ∀ (j : Nat) t v, Try.f7.params[j]? = some t → args[j]? = some v → Value.okWide Try.prog W .any base t v := hval0
  have hW' := hW
  obtain ⟨p, q, hA0, hV, rfl, hfz, hnd⟩ := hW
  have hA : DataW.TrodAll enc Try.prog W 0 (fun _ => true) true Try.f7.params.toList args.toList ds p := hA0
  rw [Try.params7] at hA hval
  obtain ⟨v0, vs0, d0, ds0, p0, q0, hargs, rfl, rfl, h0, r0⟩ := trodAll_cons hA
  obtain ⟨v1, vs1, d1, ds1, p1, q1, rfl, rfl, rfl, h1, r1⟩ := trodAll_cons r0
  obtain ⟨v2, vs2, d2, ds2, p2, q2, rfl, rfl, rfl, h2, r2⟩ := trodAll_cons r1
  obtain ⟨v3, vs3, d3, ds3, p3, q3, rfl, rfl, rfl, h3, r3⟩ := trodAll_cons r2
  obtain ⟨rfl, rfl, rfl⟩ := trodAll_nil r3
  obtain rfl : args = #[v0, v1, v2, v3] := by cases args; simp_all
  obtain ⟨rfl, rfl⟩ := trodVars_none hV
  have k0 := h0
  have lt0 : ∀ x ∈ p0, x.block < W.heap.size := by obtain ⟨m, hm⟩ := k0; exact DataW.trod_lt m _ _ _ hm
  obtain ⟨a0, b0, rfl⟩ := openKey (hval 0 24 v0 rfl rfl) h0
  have k1 := h1
  have lt1 : ∀ x ∈ p1, x.block < W.heap.size := by obtain ⟨m, hm⟩ := k1; exact DataW.trod_lt m _ _ _ hm
  obtain ⟨bf1, s1, L1, cap1, rfl, fa1, fb1, hE1, hN1, hl1, hc1, hn1⟩ := openLog (hval 1 27 v1 rfl rfl) h1
  have k2 := h2
  have lt2 : ∀ x ∈ p2, x.block < W.heap.size := by obtain ⟨m, hm⟩ := k2; exact DataW.trod_lt m _ _ _ hm
  obtain ⟨x2, rfl, xa2, xb2⟩ := openU64i (hval 2 22 v2 rfl rfl) h2
  have k3 := h3
  have lt3 : ∀ x ∈ p3, x.block < W.heap.size := by obtain ⟨m, hm⟩ := k3; exact DataW.trod_lt m _ _ _ hm
  obtain ⟨s3, rfl, hs3⟩ := openStr (hval 3 9 v3 rfl rfl) h3
  clear hA0 hval0
  refine (walk a0 b0 bf1 fa1 fb1 s1 L1 cap1 hN1 hl1 hc1 hn1 x2 xa2 xb2 s3 hs3 W hE1).mono fun e W' ⟨he, bel⟩ => ?_
  subst he
  exact ⟨_, rfl, _, _, _, [], _, [], hW', trodAll_mk1 (shut_bool Try.underlying4 _), (trodAll_cons_mk (Below.trod laidOut (by kernel_rfl) (of_decide_eq_true (by kernel_rfl)) k0 bel lt0) (trodAll_cons_mk (Below.trod laidOut (by kernel_rfl) (of_decide_eq_true (by kernel_rfl)) k1 bel lt1) (trodAll_cons_mk (Below.trod laidOut (by kernel_rfl) (of_decide_eq_true (by kernel_rfl)) k2 bel lt2) (trodAll_cons_mk (Below.trod laidOut (by kernel_rfl) (of_decide_eq_true (by kernel_rfl)) k3 bel lt3) trodAll_mk0)))), rfl, bel.frame _, fun h => by cases h⟩

theorem over : Rows.auditOwnRow.holds Try.pinned (OpenSpec.ofChange Rows.auditOwnSpec) :=
  OpenClaim.holds_of_wide 7 Try.f7 rfl rfl rfl rfl rfl rfl rfl ⟨rfl, rfl, rfl, rfl, rfl⟩ rfl rfl rfl rfl rfl (by kernel_rfl) Try.func7 (by kernel_rfl)
    (of_decide_eq_true (by kernel_rfl)) (by unfold Func.isWrapper; first | (rw [if_pos (by decide +kernel)]; kernel_rfl) | (rw [if_neg (by decide +kernel)]; exact ⟨rfl, rfl⟩))
    (fun os started H enc _ => lifted os started H enc)

/-- THE STATEMENT -/
theorem proved : Rows.AuditOwnSaid := over
#print axioms proved
end Go.Proofs.Ytclhbimlpamjiaa.auditOwn
