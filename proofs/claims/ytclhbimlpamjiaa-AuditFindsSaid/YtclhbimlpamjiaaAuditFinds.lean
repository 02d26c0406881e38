/- AuditFinds: for every key, texts, place and change (not 0), an entry whose Sum is another one is found, and none ahead of it. No condition. -/
import Derived.Test.YtclhbimlpamjiaaRows
import Derived.Test.YtclhbimlpamjiaaShown16
import Derived.Test.YtclhbimlpamjiaaOpenLog
import Derived.Test.YtclhbimlpamjiaaAppSpec
import Derived.Test.YtclhbimlpamjiaaSpec3
import Derived.Test.YtclhbimlpamjiaaFinds16
import Derived.Test.YtclhbimlpamjiaaOpen
import Derived.WalkKit
import Derived.ProofKit
import Derived.OpenShut
import Derived.ShutString
import Derived.ChangeOld
import Derived.Below
namespace Go.Proofs.Ytclhbimlpamjiaa.auditFinds
open Go.ChangeShapes Go.WideShapes Go.ChangeAt Go.RowKit Go.Joins
set_option linter.unusedVariables false

theorem own : ownKnob Try.prog.godebug = none := by kernel_rfl
theorem laidOut : laidOutB Try.prog = true := by kernel_rfl

set_option linter.unusedSimpArgs false
set_option maxRecDepth 100000 in
set_option maxHeartbeats 2000000 in
theorem walk (a0 b0 : BitVec 64) (s1 : Option Addr) (L1 : List ByteArray) (cap1 : Nat) (hN1 : ∀ x ∈ L1, x.size ≤ 9223372036854775807) (hl1 : L1.length ≤ cap1) (hc1 : cap1 ≤ 9223372036854775807) (hn1 : s1 = none → cap1 = 0) (n2 : Int) (na2 : -9223372036854775808 ≤ n2) (nb2 : n2 ≤ 9223372036854775807) (x3 : BitVec 64) (w : World) (hE1 : Strs w s1 L1) :
    Calls Try.prog 5 #[kv a0 b0, .slice s1 L1.length cap1, .int .i64 n2, .int .u64 (un x3)] w fun e w' => e = .returned (.bool true) ∧ Below w.heap.size w w' := by
  have st0 := (St.start w).alloc (cs := #[.int .u64 (un a0), .int .u64 (un b0)]) (T := 24)
  go_enter Try.func5, Try.ntmps5
  go_wp2_with fail
  refine (st0.call (shown_any _)).mono ?_
  rintro e w1 ⟨rfl, st1⟩
  clear st0
  have rl := st1.rules
  simp only [Rules] at rl
  have hw1 : w.heap.size < w1.heap.size := rl.2.2.1
  obtain ⟨f, hfe⟩ : ∃ f : Nat → Int × ByteArray, ∀ k, f k = (min (k : Int) 1000, cut200 (L1.getD k ⟨#[]⟩)) := ⟨fun k => (min (k : Int) 1000, cut200 (L1.getD k ⟨#[]⟩)), fun _ => rfl⟩
  have HF := Lib.hid hfe
  clear hfe
  have hfo : LgOk f := ⟨fun k => by rw [HF.out]; show (0 : Int) ≤ min (k : Int) 1000; omega, fun k => by rw [HF.out]; show min (k : Int) 1000 < 18446744073709551616; omega, fun k => by rw [HF.out, HF.out]; show min (k : Int) 1000 ≤ min ((k + 1 : Nat) : Int) 1000; omega, fun k => by rw [HF.out]; exact cut200_size _⟩
  have st2 : St w [(w1.heap.size, #[.int .u64 0, .slice none 0 0], 27), (w.heap.size, #[.int .u64 (un a0), .int .u64 (un b0)], 24)] (fun W => OwnE W (w1.heap.size + 1) (.slice none 0 0) [] ∧ True) (w1.alloc (.cells #[.int .u64 0, .slice none 0 0] 27)) := (st1.alloc).lessE ⟨World.ownsRow_nil _ _ _ _, trivial⟩ (fun _ _ h hb => ⟨ownsRow_keep _ _ h.1 hb, trivial⟩)
  go_wp2_with fail
  clear rl st1
  go_loopw [11] (fun i wr => ∃ (k : Nat) (sK : Option Addr) (cK : Nat), k ≤ L1.length ∧ k ≤ 30 ∧ i = .int .i64 k ∧ St w [(w1.heap.size, #[.int .u64 (lgB a0 b0 f k).1, .slice sK (lgB a0 b0 f k).2.length cK], 27), (w.heap.size, #[.int .u64 (un a0), .int .u64 (un b0)], 24)] (fun W => OwnE W (w1.heap.size + 1) (.slice sK (lgB a0 b0 f k).2.length cK) (lgB a0 b0 f k).2 ∧ True) wr) (fun i _ => L1.length - (intOf i).toNat)
  case atStart => exact ⟨0, none, 0, Nat.zero_le _, Nat.zero_le _, rfl, st2⟩
  case round =>
    obtain ⟨k, sK, cK, hk, hk30, rfl, st⟩ := hrel
    clear st2
    by_cases hlt : k < L1.length ∧ k < 30
    · obtain ⟨hlt, hlt30⟩ := hlt
      have hx := List.getElem?_eq_getElem hlt
      have hts := hN1 _ (List.getElem_mem hlt)
      obtain ⟨g, o, he, hg, hct⟩ := hE1 k _ hx
      subst he
      have hfk : f k = ((k : Int), cut200 (L1[k]'hlt)) := by
        rw [HF.out]
        have e : L1.getD k ⟨#[]⟩ = L1[k]'hlt := by simp [List.getD, hx]
        rw [e, Int.min_eq_left (by omega)]
      generalize (L1[k]'hlt) = tx at *
      clear hx
      have hall := lgB_all a0 b0 f hfo k (by omega)
      have hs1 := lgB_succ a0 b0 f k
      rw [hfk] at hall hs1
      have HS1 := Lib.hid hs1
      clear hs1 hfk
      generalize lgB a0 b0 f k = lk at *
      obtain ⟨bk, LK⟩ := lk
      simp only at hall HS1 st
      obtain ⟨hKok, ⟨hb0, hb1⟩, hKr, hKa⟩ := hall
      have HOK := Lib.hid hKa
      obtain ⟨_, hcapK, hnilK⟩ := own_facts st.ex.1
      clear hKr hKa
      have rl := st.rules
      simp only [Rules] at rl
      have hz1 := rl.2.2.1
      go_wp2_with fail
      · clear rl
        refine region_late 20 18 (.int .i64 0) (Fs [IsVal (kv a0 b0), IsVal (lv bk sK LK.length cK), IsVal (.int .i64 (k : Int)), IsVal (.int .u64 (k : Int)), IsVal (.slice (some ⟨g, o, none⟩) L1.length cap1), IsVal (.int .i64 (k : Int)), IsVal (.pointer (some ⟨g, o + k, none⟩)), IsVal (.string tx), IsVal (.slice (some ⟨g, o, none⟩) L1.length cap1), IsVal (.int .i64 (k : Int)), IsVal (.pointer (some ⟨g, o + k, none⟩)), IsVal (.string tx), IsVal (.int .i64 (tx.size : Int)), IsVal (.int .i64 (min (tx.size : Int) 200)), IsVal (.string (cut200 tx)), IsApp wr.heap.size (appB bk LK) (appL a0 b0 bk LK (k : Int) (cut200 tx)), IsApp wr.heap.size (appB bk LK) (appL a0 b0 bk LK (k : Int) (cut200 tx)), IsLogE wr.heap.size (appB bk LK) (appL a0 b0 bk LK (k : Int) (cut200 tx)), IsVal (.int .i64 0), IsNew wr.heap.size #[.int .u64 0, .slice none 0 0] 27]) (by kernel_rfl) (by kernel_rfl) (by kernel_rfl) (Fs_stable _ ?stab) ?spec ?late (fun _ => rfl) ?store ?endd
        case stab =>
          simp only [List.forall_mem_cons]
          exact ⟨stableVal _, stableVal _, stableVal _, stableVal _, stableVal _, stableVal _, stableVal _, stableVal _, stableVal _, stableVal _, stableVal _, stableVal _, stableVal _, stableVal _, stableVal _, stableApp _ _ _, stableApp _ _ _, stableLogE _ _ _, stableVal _, stableNew _ _ _, by simp⟩
        case spec =>
          refine ⟨?_, ?_, ?_, ?_, ?_, ?_, ?_, ?_, ?_, ?_, ?_, ?_, ?_, ?_, ?_, ?_, ?_, ?_, ?_, ?_, trivial⟩
          · intro a W hW hu hd
            have kc : ∀ c, a.eval (Operand.const c) = c := fun _ => rfl
            have kf : ∀ f, a.eval (Operand.func f) = .func (.func f) #[] #[] := fun _ => rfl
            have sW := st.to hW
            have rl := sW.rules
            simp only [Rules, World.size_alloc] at rl
            have u4 : a.eval (Operand.tmp 4) = .pointer (some ⟨w.heap.size, 0, none⟩) := hu 4 (by decide)
            unfold StepOk
            rw [if_pos (by rfl)]
            clear hu hd
            generalize a.eval = ρ at *
            go_simp
            exact opOk_val rfl
          · intro a W hW hu hd
            have kc : ∀ c, a.eval (Operand.const c) = c := fun _ => rfl
            have kf : ∀ f, a.eval (Operand.func f) = .func (.func f) #[] #[] := fun _ => rfl
            have sW := st.to hW
            have rl := sW.rules
            simp only [Rules, World.size_alloc] at rl
            have u10 : a.eval (Operand.tmp 10) = .pointer (some ⟨w1.heap.size, 0, none⟩) := hu 10 (by decide)
            unfold StepOk
            rw [if_pos (by rfl)]
            clear hu hd
            generalize a.eval = ρ at *
            go_simp
            exact opOk_val rfl
          · intro a W hW hu hd
            have kc : ∀ c, a.eval (Operand.const c) = c := fun _ => rfl
            have kf : ∀ f, a.eval (Operand.func f) = .func (.func f) #[] #[] := fun _ => rfl
            have sW := st.to hW
            have rl := sW.rules
            simp only [Rules, World.size_alloc] at rl
            have u11 : a.eval (Operand.tmp 11) = .int .i64 (k : Int) := hu 11 (by decide)
            unfold StepOk
            rw [if_pos (by rfl)]
            clear hu hd
            generalize a.eval = ρ at *
            go_simp
            exact opOk_val rfl
          · intro a W hW hu hd
            have kc : ∀ c, a.eval (Operand.const c) = c := fun _ => rfl
            have kf : ∀ f, a.eval (Operand.func f) = .func (.func f) #[] #[] := fun _ => rfl
            have sW := st.to hW
            have rl := sW.rules
            simp only [Rules, World.size_alloc] at rl
            have u33 : a.eval (Operand.tmp 33) = .int .i64 (k : Int) := hd 2 33 (by kernel_rfl) rfl
            have hwr : IntKind.u64.wrap (k : Int) = (k : Int) := u64_id _ (by omega) (by omega)
            unfold StepOk
            rw [if_pos (by rfl)]
            clear hu hd
            generalize a.eval = ρ at *
            go_simp
            exact opOk_val rfl
          · intro a W hW hu hd
            have kc : ∀ c, a.eval (Operand.const c) = c := fun _ => rfl
            have kf : ∀ f, a.eval (Operand.func f) = .func (.func f) #[] #[] := fun _ => rfl
            have sW := st.to hW
            have rl := sW.rules
            simp only [Rules, World.size_alloc] at rl
            have u1 : a.eval (Operand.tmp 1) = .slice (some ⟨g, o, none⟩) L1.length cap1 := hu 1 (by decide)
            unfold StepOk
            rw [if_pos (by rfl)]
            clear hu hd
            generalize a.eval = ρ at *
            go_simp
            exact opOk_val rfl
          · intro a W hW hu hd
            have kc : ∀ c, a.eval (Operand.const c) = c := fun _ => rfl
            have kf : ∀ f, a.eval (Operand.func f) = .func (.func f) #[] #[] := fun _ => rfl
            have sW := st.to hW
            have rl := sW.rules
            simp only [Rules, World.size_alloc] at rl
            have u11 : a.eval (Operand.tmp 11) = .int .i64 (k : Int) := hu 11 (by decide)
            unfold StepOk
            rw [if_pos (by rfl)]
            clear hu hd
            generalize a.eval = ρ at *
            go_simp
            exact opOk_val rfl
          · intro a W hW hu hd
            have kc : ∀ c, a.eval (Operand.const c) = c := fun _ => rfl
            have kf : ∀ f, a.eval (Operand.func f) = .func (.func f) #[] #[] := fun _ => rfl
            have sW := st.to hW
            have rl := sW.rules
            simp only [Rules, World.size_alloc] at rl
            have u35 : a.eval (Operand.tmp 35) = .slice (some ⟨g, o, none⟩) L1.length cap1 := hd 4 35 (by kernel_rfl) rfl
            have u36 : a.eval (Operand.tmp 36) = .int .i64 (k : Int) := hd 5 36 (by kernel_rfl) rfl
            unfold StepOk
            rw [if_pos (by rfl)]
            clear hu hd
            generalize a.eval = ρ at *
            go_simp
            exact opOk_val rfl
          · intro a W hW hu hd
            have kc : ∀ c, a.eval (Operand.const c) = c := fun _ => rfl
            have kf : ∀ f, a.eval (Operand.func f) = .func (.func f) #[] #[] := fun _ => rfl
            have sW := st.to hW
            have rl := sW.rules
            simp only [Rules, World.size_alloc] at rl
            have u37 : a.eval (Operand.tmp 37) = .pointer (some ⟨g, o + k, none⟩) := hd 6 37 (by kernel_rfl) rfl
            have ct := (sW.below.cell (p := ⟨g, o + k, none⟩) hg).trans hct
            unfold StepOk
            rw [if_pos (by rfl)]
            clear hu hd
            generalize a.eval = ρ at *
            go_simp
            exact opOk_val rfl
          · intro a W hW hu hd
            have kc : ∀ c, a.eval (Operand.const c) = c := fun _ => rfl
            have kf : ∀ f, a.eval (Operand.func f) = .func (.func f) #[] #[] := fun _ => rfl
            have sW := st.to hW
            have rl := sW.rules
            simp only [Rules, World.size_alloc] at rl
            have u1 : a.eval (Operand.tmp 1) = .slice (some ⟨g, o, none⟩) L1.length cap1 := hu 1 (by decide)
            unfold StepOk
            rw [if_pos (by rfl)]
            clear hu hd
            generalize a.eval = ρ at *
            go_simp
            exact opOk_val rfl
          · intro a W hW hu hd
            have kc : ∀ c, a.eval (Operand.const c) = c := fun _ => rfl
            have kf : ∀ f, a.eval (Operand.func f) = .func (.func f) #[] #[] := fun _ => rfl
            have sW := st.to hW
            have rl := sW.rules
            simp only [Rules, World.size_alloc] at rl
            have u11 : a.eval (Operand.tmp 11) = .int .i64 (k : Int) := hu 11 (by decide)
            unfold StepOk
            rw [if_pos (by rfl)]
            clear hu hd
            generalize a.eval = ρ at *
            go_simp
            exact opOk_val rfl
          · intro a W hW hu hd
            have kc : ∀ c, a.eval (Operand.const c) = c := fun _ => rfl
            have kf : ∀ f, a.eval (Operand.func f) = .func (.func f) #[] #[] := fun _ => rfl
            have sW := st.to hW
            have rl := sW.rules
            simp only [Rules, World.size_alloc] at rl
            have u39 : a.eval (Operand.tmp 39) = .slice (some ⟨g, o, none⟩) L1.length cap1 := hd 8 39 (by kernel_rfl) rfl
            have u40 : a.eval (Operand.tmp 40) = .int .i64 (k : Int) := hd 9 40 (by kernel_rfl) rfl
            unfold StepOk
            rw [if_pos (by rfl)]
            clear hu hd
            generalize a.eval = ρ at *
            go_simp
            exact opOk_val rfl
          · intro a W hW hu hd
            have kc : ∀ c, a.eval (Operand.const c) = c := fun _ => rfl
            have kf : ∀ f, a.eval (Operand.func f) = .func (.func f) #[] #[] := fun _ => rfl
            have sW := st.to hW
            have rl := sW.rules
            simp only [Rules, World.size_alloc] at rl
            have u41 : a.eval (Operand.tmp 41) = .pointer (some ⟨g, o + k, none⟩) := hd 10 41 (by kernel_rfl) rfl
            have ct := (sW.below.cell (p := ⟨g, o + k, none⟩) hg).trans hct
            unfold StepOk
            rw [if_pos (by rfl)]
            clear hu hd
            generalize a.eval = ρ at *
            go_simp
            exact opOk_val rfl
          · intro a W hW hu hd
            have kc : ∀ c, a.eval (Operand.const c) = c := fun _ => rfl
            have kf : ∀ f, a.eval (Operand.func f) = .func (.func f) #[] #[] := fun _ => rfl
            have sW := st.to hW
            have rl := sW.rules
            simp only [Rules, World.size_alloc] at rl
            have u42 : a.eval (Operand.tmp 42) = .string tx := hd 11 42 (by kernel_rfl) rfl
            unfold StepOk
            rw [if_pos (by rfl)]
            clear hu hd
            generalize a.eval = ρ at *
            go_simp
            exact opOk_val rfl
          · intro a W hW hu hd
            have kc : ∀ c, a.eval (Operand.const c) = c := fun _ => rfl
            have kf : ∀ f, a.eval (Operand.func f) = .func (.func f) #[] #[] := fun _ => rfl
            have sW := st.to hW
            have rl := sW.rules
            simp only [Rules, World.size_alloc] at rl
            have u43 : a.eval (Operand.tmp 43) = .int .i64 (tx.size : Int) := hd 12 43 (by kernel_rfl) rfl
            unfold StepOk
            rw [if_pos (by rfl)]
            clear hu hd
            generalize a.eval = ρ at *
            go_simp
            exact opOk_val rfl
          · intro a W hW hu hd
            have kc : ∀ c, a.eval (Operand.const c) = c := fun _ => rfl
            have kf : ∀ f, a.eval (Operand.func f) = .func (.func f) #[] #[] := fun _ => rfl
            have sW := st.to hW
            have rl := sW.rules
            simp only [Rules, World.size_alloc] at rl
            have u38 : a.eval (Operand.tmp 38) = .string tx := hd 7 38 (by kernel_rfl) rfl
            have u44 : a.eval (Operand.tmp 44) = .int .i64 (min (tx.size : Int) 200) := hd 13 44 (by kernel_rfl) rfl
            have m0 : (0 : Int) ≤ min (tx.size : Int) 200 := by omega
            have m1 : min (tx.size : Int) 200 ≤ (tx.size : Int) := by omega
            have m2 : ((min (tx.size : Int) 200).toNat : Int) = min (tx.size : Int) 200 := by omega
            unfold StepOk
            rw [if_pos (by rfl)]
            clear hu hd
            generalize a.eval = ρ at *
            go_simp
            exact opOk_val rfl
          · intro a W hW hu hd
            have kc : ∀ c, a.eval (Operand.const c) = c := fun _ => rfl
            have kf : ∀ f, a.eval (Operand.func f) = .func (.func f) #[] #[] := fun _ => rfl
            have sW := st.to hW
            have rl := sW.rules
            simp only [Rules, World.size_alloc] at rl
            have u31 : a.eval (Operand.tmp 31) = kv a0 b0 := hd 0 31 (by kernel_rfl) rfl
            have u32 : a.eval (Operand.tmp 32) = lv bk sK LK.length cK := hd 1 32 (by kernel_rfl) rfl
            have u34 : a.eval (Operand.tmp 34) = .int .u64 (k : Int) := hd 3 34 (by kernel_rfl) rfl
            have u45 : a.eval (Operand.tmp 45) = .string (cut200 tx) := hd 14 45 (by kernel_rfl) rfl
            unfold StepOk
            rw [if_pos (by rfl)]
            clear hu hd
            generalize a.eval = ρ at *
            go_simp
            exact opOk_callE ((append_yes a0 b0 bk hb0 hb1 LK hKok sK cK hcapK hnilK (k : Int) (by omega) (by omega) _ _ (own_ents_at sW.ex.1) HOK.out).mono fun e w' ⟨v, he, ho, hb⟩ => ⟨_, he, hb, v, rfl, ownsRow_base ho hW.size⟩)
          · intro a W hW hu hd
            have kc : ∀ c, a.eval (Operand.const c) = c := fun _ => rfl
            have kf : ∀ f, a.eval (Operand.func f) = .func (.func f) #[] #[] := fun _ => rfl
            have sW := st.to hW
            have rl := sW.rules
            simp only [Rules, World.size_alloc] at rl
            have f46 : IsApp wr.heap.size (appB bk LK) (appL a0 b0 bk LK (k : Int) (cut200 tx)) (a.eval (Operand.tmp 46)) W := hd 15 46 (by kernel_rfl) rfl
            obtain ⟨u, hu1, hu2⟩ := f46
            unfold StepOk
            rw [if_pos (by rfl)]
            clear hu hd
            generalize a.eval = ρ at *
            go_simp
            exact opOk_val ⟨u, rfl, hu2⟩
          · intro a W hW hu hd
            have kc : ∀ c, a.eval (Operand.const c) = c := fun _ => rfl
            have kf : ∀ f, a.eval (Operand.func f) = .func (.func f) #[] #[] := fun _ => rfl
            have sW := st.to hW
            have rl := sW.rules
            simp only [Rules, World.size_alloc] at rl
            have f30 : IsApp wr.heap.size (appB bk LK) (appL a0 b0 bk LK (k : Int) (cut200 tx)) (a.eval (Operand.tmp 30)) W := hd 16 30 (by kernel_rfl) rfl
            obtain ⟨u, hu1, hu2⟩ := f30
            unfold StepOk
            rw [if_pos (by rfl)]
            clear hu hd
            generalize a.eval = ρ at *
            go_simp
            exact opOk_val ⟨u, rfl, hu2⟩
          · intro a W hW hu hd
            have kc : ∀ c, a.eval (Operand.const c) = c := fun _ => rfl
            have kf : ∀ f, a.eval (Operand.func f) = .func (.func f) #[] #[] := fun _ => rfl
            have sW := st.to hW
            have rl := sW.rules
            simp only [Rules, World.size_alloc] at rl
            have f30 : IsApp wr.heap.size (appB bk LK) (appL a0 b0 bk LK (k : Int) (cut200 tx)) (a.eval (Operand.tmp 30)) W := hd 16 30 (by kernel_rfl) rfl
            obtain ⟨u, hu1, hu2⟩ := f30
            unfold StepOk
            rw [if_pos (by rfl)]
            clear hu hd
            generalize a.eval = ρ at *
            go_simp
            exact opOk_val rfl
          · intro a W hW hu hd
            have kc : ∀ c, a.eval (Operand.const c) = c := fun _ => rfl
            have kf : ∀ f, a.eval (Operand.func f) = .func (.func f) #[] #[] := fun _ => rfl
            have sW := st.to hW
            have rl := sW.rules
            simp only [Rules, World.size_alloc] at rl
            unfold StepOk
            rw [if_pos (by rfl)]
            clear hu hd
            generalize a.eval = ρ at *
            go_simp
            exact opOk_new hW.size
        case late =>
          intro oq hoq a W hW hu hd W'
          cases hoq
          obtain ⟨u, hu1, hu2⟩ : IsApp wr.heap.size (appB bk LK) (appL a0 b0 bk LK (k : Int) (cut200 tx)) (a.eval (Operand.tmp 30)) W := hd 16 30 (by kernel_rfl) rfl
          clear hu hd
          generalize a.eval = ρ at *
          go_simp
        case store =>
          intro os hos a W hW hu hd
          cases hos
          have sW := st.to hW
          obtain ⟨u, hu1, hu2⟩ : IsLogE wr.heap.size (appB bk LK) (appL a0 b0 bk LK (k : Int) (cut200 tx)) (a.eval (Operand.tmp 47)) W := hd 17 47 (by kernel_rfl) rfl
          obtain ⟨s9, c9, hv9, _⟩ := own_ents hu2
          subst hv9
          obtain ⟨A9, hA, hA9, hN9⟩ : IsNew wr.heap.size #[.int .u64 0, .slice none 0 0] 27 (a.eval (Operand.tmp 12)) W := hd 19 12 (by kernel_rfl) rfl
          have rl := blk_cell hN9
          have rf := blk_free hN9
          clear hu hd
          generalize a.eval = ρ at *
          go_simp
        case endd =>
          intro v W hW hv
          have v0 : v 0 = (kv a0 b0) := hv 0 (by omega)
          have v1 : v 1 = (lv bk sK LK.length cK) := hv 1 (by omega)
          have v2 : v 2 = (.int .i64 (k : Int)) := hv 2 (by omega)
          have v3 : v 3 = (.int .u64 (k : Int)) := hv 3 (by omega)
          have v4 : v 4 = (.slice (some ⟨g, o, none⟩) L1.length cap1) := hv 4 (by omega)
          have v5 : v 5 = (.int .i64 (k : Int)) := hv 5 (by omega)
          have v6 : v 6 = (.pointer (some ⟨g, o + k, none⟩)) := hv 6 (by omega)
          have v7 : v 7 = (.string tx) := hv 7 (by omega)
          have v8 : v 8 = (.slice (some ⟨g, o, none⟩) L1.length cap1) := hv 8 (by omega)
          have v9 : v 9 = (.int .i64 (k : Int)) := hv 9 (by omega)
          have v10 : v 10 = (.pointer (some ⟨g, o + k, none⟩)) := hv 10 (by omega)
          have v11 : v 11 = (.string tx) := hv 11 (by omega)
          have v12 : v 12 = (.int .i64 (tx.size : Int)) := hv 12 (by omega)
          have v13 : v 13 = (.int .i64 (min (tx.size : Int) 200)) := hv 13 (by omega)
          have v14 : v 14 = (.string (cut200 tx)) := hv 14 (by omega)
          have hf15 : IsApp wr.heap.size (appB bk LK) (appL a0 b0 bk LK (k : Int) (cut200 tx)) (v 15) W := hv 15 (by omega)
          have hf16 : IsApp wr.heap.size (appB bk LK) (appL a0 b0 bk LK (k : Int) (cut200 tx)) (v 16) W := hv 16 (by omega)
          have hf17 : IsLogE wr.heap.size (appB bk LK) (appL a0 b0 bk LK (k : Int) (cut200 tx)) (v 17) W := hv 17 (by omega)
          have v18 : v 18 = (.int .i64 0) := hv 18 (by omega)
          obtain ⟨A19, v19, hA19, hN19⟩ : IsNew wr.heap.size #[.int .u64 0, .slice none 0 0] 27 (v 19) W := hv 19 (by omega)
          clear hv
          simp only [List.take_succ_cons, List.take_zero, List.drop_succ_cons, List.drop_zero, putAll, Nat.zero_add, Nat.reduceAdd]
          rw [v0, v1, v2, v3, v4, v5, v6, v7, v8, v9, v10, v11, v12, v13, v14, v18, v19]
          clear v0 v1 v2 v3 v4 v5 v6 v7 v8 v9 v10 v11 v12 v13 v14 v18 v19
          have sW := st.to hW
          clear hf15 hf16
          obtain ⟨uA, huA, hownA⟩ := hf17
          rw [huA]
          generalize v 15 = v15 at *
          generalize v 16 = v16 at *
          generalize appB bk LK = b1 at *
          generalize appL a0 b0 bk LK (k : Int) (cut200 tx) = L2 at *
          obtain ⟨sA, cA, huA2, _⟩ := own_ents hownA
          subst huA2
          clear huA
          have sN := (St.addNew st sW hA19 hN19).also (F := fun W => OwnE W wr.heap.size (.slice sA L2.length cA) L2) hownA ownsRow_keep
          have hne1 := own_old (A := A19) st.ex.1 hA19
          have hne2 := own_tag hownA hN19 (by decide)
          have hwA : w.heap.size ≤ A19 := Nat.le_trans st.below.size hA19
          have sS := (sN.set 0 rfl (o := 0) (v := .int .u64 b1) hwA (fun h => ⟨⟨ownsRow_setCell_other h.1.1 hne1 _, trivial⟩, ownsRow_setCell_other h.2 hne2 _⟩)).set 0 rfl (o := 1) (v := .slice sA L2.length cA) hwA (fun h => ⟨⟨ownsRow_setCell_other h.1.1 hne1 _, trivial⟩, ownsRow_setCell_other h.2 hne2 _⟩)
          have hb1' : w1.heap.size < w1.heap.size + 1 := by omega
          have sT := (sS.set 1 rfl (o := 0) (v := .int .u64 b1) (by omega) (fun h => ⟨⟨ownsRow_setCell_below h.1.1 hb1' _, trivial⟩, ownsRow_setCell_below h.2 hz1 _⟩)).set 1 rfl (o := 1) (v := .slice sA L2.length cA) (by omega) (fun h => ⟨⟨ownsRow_setCell_below h.1.1 hb1' _, trivial⟩, ownsRow_setCell_below h.2 hz1 _⟩)
          simp only [setB, List.modify_succ_cons, List.modify_zero_cons, List.setIfInBounds_toArray, List.set_cons_succ, List.set_cons_zero, World.size_alloc] at sT
          have rl := sN.rules
          simp only [Rules, World.size_alloc] at rl
          have q1 : ¬ (w1.heap.size = A19) := by omega
          have q2 : ¬ (A19 = w1.heap.size) := by omega
          have s7 := (sT.less _ (List.sublist_cons_self _ _)).lessE (F := fun W => OwnE W (w1.heap.size + 1) (.slice sA L2.length cA) L2 ∧ True) ⟨ownsRow_base sT.ex.2 hz1, trivial⟩ (fun _ _ h hb => ⟨ownsRow_keep _ _ h.1 hb, trivial⟩)
          go_wp2_with fail
          go_roundw
          case rel => exact ⟨k + 1, sA, cA, hlt, hlt30, by go_num, by rw [HS1.out]; exact s7⟩
          case measure => simp [intOf]; omega
    · by_cases hk1 : k < L1.length
      · have hk2 : 30 ≤ k := by omega
        clear hlt
        have hall := lgB_all a0 b0 f hfo k (by omega)
        have hbef := lgB_before a0 b0 f k
        have hlen := lgB_length a0 b0 f k
        rw [if_pos hk30] at hbef
        generalize lgB a0 b0 f k = lk at *
        obtain ⟨bk, LK⟩ := lk
        simp only at hall hbef hlen st
        subst hbef
        obtain ⟨hKok, _, hKr, _⟩ := hall
        have HCP := Lib.hid (show chain a0 b0 0 LK = (LK.length, true) from Prod.ext (chain_whole a0 b0 0 LK hKr.c) hKr.c)
        have hL30 : LK.length ≤ 30 := hKr.n
        clear hKr hlen
        have rl := st.rules
        simp only [Rules] at rl
        go_wp2_with fail
        clear rl
        refine (st.call' (fun st => chained_any a0 b0 0 (by omega) (by omega) LK hKok (by omega) _ cK _ (own_ents_at st.ex.1))).mono ?_
        rintro e w6 ⟨rfl, s6⟩
        rw [HCP.out]
        clear st
        have rl := s6.rules
        simp only [Rules] at rl
        by_cases hneg : n2 < 0
        · go_wp2_with fail
          go_ret
          exact ⟨rfl, s6.below⟩
        by_cases hbig : (LK.length : Int) ≤ n2
        · go_wp2_with fail
          go_ret
          exact ⟨rfl, s6.below⟩
        obtain ⟨j, rfl⟩ : ∃ j : Nat, n2 = (j : Int) := ⟨n2.toNat, by omega⟩
        have hj : j < LK.length := by omega
        by_cases hc0 : un x3 = 0
        · have hcb : (un x3 == 0) = true := by simp [hc0]
          clear hc0
          go_wp2_with fail
          go_ret
          exact ⟨rfl, s6.below⟩
        have hcb : (un x3 == 0) = false := by simp [hc0]
        have HC0 := Lib.hid hc0
        have hx := List.getElem?_eq_getElem hj
        have hxo := hKok _ (List.getElem_mem hj)
        obtain ⟨sx, cx, hvx, _, _, hgx⟩ := own_ents s6.ex.1
        obtain ⟨gK, oK, he, hgK, _, _, _, b3'⟩ := own_ents_at s6.ex.1 j _ hx
        have e1 := (Value.slice.inj hvx).1
        rw [he] at e1
        obtain ⟨g2, e2, hB2, _⟩ := hgx _ e1.symm
        cases e2
        subst he
        obtain ⟨y, hy⟩ := un_of (LK[j]'hj).sum hxo.m0 hxo.m1
        have HX := Lib.hid hx
        have HY := Lib.hid hy
        rw [hy, Nat.zero_add] at b3'
        generalize (LK[j]'hj) = x at *
        clear hx hvx hgx e1 hy hc0 hneg hbig
        have hfz : w6.frozen? ⟨gK, j * 4 + 3, none⟩ = false := own_frozen s6.ex.1 rfl _
        have hxor : bits .xor .u64 (un y) (un x3) = un (y ^^^ x3) := bits_xor y x3
        go_wp2_with fail
        clear rl
        obtain ⟨bl7, E7, hne7, sh7, rl, hEx, hbx, hst⟩ := s6.hide
        refine region_st_tail sh7 13 (by kernel_rfl) (by kernel_rfl) ?_
        simp only [Rules] at rl
        have d3 : ∀ z : Cs w bl7 E7, z.W.cell? ⟨gK, j * 4 + 3, none⟩ = some (.int .u64 (un y)) := fun z => by
          obtain ⟨g', o', he, _, _, _, _, c3⟩ := own_ents_at (hEx z).out.1 j _ HX.out
          cases he
          rw [Nat.zero_add, HY.out] at c3
          exact c3
        simp only [List.take_succ_cons, List.take_zero, List.drop_succ_cons, List.drop_zero]
        repeat (first | go_big_quiet_step (fail) | quiet_step (fail))
        refine wpQuiet_nil ?_
        intro z
        have s8 := (hst z).out
        have c8 := d3 z
        clear hEx hbx rl hst sh7 d3 s6 b3' hfz
        generalize z.W = w8 at *
        have hown := s8.ex.1
        have hfz : w8.frozen? ⟨gK, j * 4 + 3, none⟩ = false := own_frozen hown rfl _
        have s9 : St w _ (fun W => OwnE W (w1.heap.size + 1) (.slice (some ⟨gK, 0, none⟩) LK.length cK) (LK.set j (x.setSum (un (y ^^^ x3)))) ∧ True) (w8.setCell ⟨gK, j * 4 + 3, none⟩ (.int .u64 (un (y ^^^ x3)))) := s8.setOut (by omega) (s8.apart hown (by simp)) ⟨own_set hown rfl j x (x.setSum (un (y ^^^ x3))) HX.out 3 (by omega) (.int .u64 (un (y ^^^ x3))) rfl, trivial⟩ (fun _ _ h hb => ⟨ownsRow_keep _ _ h.1 hb, trivial⟩)
        have rl := s8.rules
        simp only [Rules] at rl
        have q1 : ¬ (gK = w1.heap.size) := by omega
        have q2 : ¬ (w1.heap.size = gK) := by omega
        have q3 : ¬ (gK = w.heap.size) := by omega
        have q4 : ¬ (w.heap.size = gK) := by omega
        go_wp2_with fail
        clear rl c8 hfz q1 q2 q3 q4 hxor
        have hokS : ∀ z ∈ LK.set j (x.setSum (un (y ^^^ x3))), z.Ok := fun z hz => by
          rcases List.mem_or_eq_of_mem_set hz with h | rfl
          · exact hKok z h
          · exact ⟨hxo.s0, hxo.s1, hxo.a0, hxo.a1, hxo.t, un_nonneg _, un_lt _⟩
        have HCS := Lib.hid (chain_set a0 b0 0 LK j x (un (y ^^^ x3)) HX.out (by rw [HCP.out]) (by rw [HY.out]; exact xor_ne y x3 HC0.out))
        have hlS : (LK.set j (x.setSum (un (y ^^^ x3)))).length = LK.length := List.length_set
        generalize LK.set j (x.setSum (un (y ^^^ x3))) = LS at *
        refine (s9.call' (fun st => chained_n LK.length a0 b0 0 (by omega) (by omega) LS hokS hlS (by omega) _ cK _ (own_ents_at st.ex.1))).mono ?_
        rintro e w10 ⟨rfl, s10⟩
        rw [HCS.out]
        clear s9 s8 hown
        have rl := s10.rules
        simp only [Rules] at rl
        go_wp2_with fail
        refine (s10.call' (fun st => right_n LK.length a0 b0 0 (by omega) (by omega) LS hokS hlS (by omega) _ cK false ⟨(fun h => by cases h), fun h => absurd h.c (by rw [HCS.out]; simp)⟩ _ (own_ents_at st.ex.1))).mono ?_
        rintro e w11 ⟨rfl, s11⟩
        clear rl
        go_wp2_with fail
        go_ret
        exact ⟨rfl, s11.below⟩
      · clear hlt
        have hall := lgB_all a0 b0 f hfo k (by omega)
        have hbef := lgB_before a0 b0 f k
        have hlen := lgB_length a0 b0 f k
        rw [if_pos hk30] at hbef
        generalize lgB a0 b0 f k = lk at *
        obtain ⟨bk, LK⟩ := lk
        simp only at hall hbef hlen st
        subst hbef
        obtain ⟨hKok, _, hKr, _⟩ := hall
        have HCP := Lib.hid (show chain a0 b0 0 LK = (LK.length, true) from Prod.ext (chain_whole a0 b0 0 LK hKr.c) hKr.c)
        have hL30 : LK.length ≤ 30 := hKr.n
        clear hKr hlen
        have rl := st.rules
        simp only [Rules] at rl
        go_wp2_with fail
        clear rl
        refine (st.call' (fun st => chained_any a0 b0 0 (by omega) (by omega) LK hKok (by omega) _ cK _ (own_ents_at st.ex.1))).mono ?_
        rintro e w6 ⟨rfl, s6⟩
        rw [HCP.out]
        clear st
        have rl := s6.rules
        simp only [Rules] at rl
        by_cases hneg : n2 < 0
        · go_wp2_with fail
          go_ret
          exact ⟨rfl, s6.below⟩
        by_cases hbig : (LK.length : Int) ≤ n2
        · go_wp2_with fail
          go_ret
          exact ⟨rfl, s6.below⟩
        obtain ⟨j, rfl⟩ : ∃ j : Nat, n2 = (j : Int) := ⟨n2.toNat, by omega⟩
        have hj : j < LK.length := by omega
        by_cases hc0 : un x3 = 0
        · have hcb : (un x3 == 0) = true := by simp [hc0]
          clear hc0
          go_wp2_with fail
          go_ret
          exact ⟨rfl, s6.below⟩
        have hcb : (un x3 == 0) = false := by simp [hc0]
        have HC0 := Lib.hid hc0
        have hx := List.getElem?_eq_getElem hj
        have hxo := hKok _ (List.getElem_mem hj)
        obtain ⟨sx, cx, hvx, _, _, hgx⟩ := own_ents s6.ex.1
        obtain ⟨gK, oK, he, hgK, _, _, _, b3'⟩ := own_ents_at s6.ex.1 j _ hx
        have e1 := (Value.slice.inj hvx).1
        rw [he] at e1
        obtain ⟨g2, e2, hB2, _⟩ := hgx _ e1.symm
        cases e2
        subst he
        obtain ⟨y, hy⟩ := un_of (LK[j]'hj).sum hxo.m0 hxo.m1
        have HX := Lib.hid hx
        have HY := Lib.hid hy
        rw [hy, Nat.zero_add] at b3'
        generalize (LK[j]'hj) = x at *
        clear hx hvx hgx e1 hy hc0 hneg hbig
        have hfz : w6.frozen? ⟨gK, j * 4 + 3, none⟩ = false := own_frozen s6.ex.1 rfl _
        have hxor : bits .xor .u64 (un y) (un x3) = un (y ^^^ x3) := bits_xor y x3
        go_wp2_with fail
        clear rl
        obtain ⟨bl7, E7, hne7, sh7, rl, hEx, hbx, hst⟩ := s6.hide
        refine region_st_tail sh7 13 (by kernel_rfl) (by kernel_rfl) ?_
        simp only [Rules] at rl
        have d3 : ∀ z : Cs w bl7 E7, z.W.cell? ⟨gK, j * 4 + 3, none⟩ = some (.int .u64 (un y)) := fun z => by
          obtain ⟨g', o', he, _, _, _, _, c3⟩ := own_ents_at (hEx z).out.1 j _ HX.out
          cases he
          rw [Nat.zero_add, HY.out] at c3
          exact c3
        simp only [List.take_succ_cons, List.take_zero, List.drop_succ_cons, List.drop_zero]
        repeat (first | go_big_quiet_step (fail) | quiet_step (fail))
        refine wpQuiet_nil ?_
        intro z
        have s8 := (hst z).out
        have c8 := d3 z
        clear hEx hbx rl hst sh7 d3 s6 b3' hfz
        generalize z.W = w8 at *
        have hown := s8.ex.1
        have hfz : w8.frozen? ⟨gK, j * 4 + 3, none⟩ = false := own_frozen hown rfl _
        have s9 : St w _ (fun W => OwnE W (w1.heap.size + 1) (.slice (some ⟨gK, 0, none⟩) LK.length cK) (LK.set j (x.setSum (un (y ^^^ x3)))) ∧ True) (w8.setCell ⟨gK, j * 4 + 3, none⟩ (.int .u64 (un (y ^^^ x3)))) := s8.setOut (by omega) (s8.apart hown (by simp)) ⟨own_set hown rfl j x (x.setSum (un (y ^^^ x3))) HX.out 3 (by omega) (.int .u64 (un (y ^^^ x3))) rfl, trivial⟩ (fun _ _ h hb => ⟨ownsRow_keep _ _ h.1 hb, trivial⟩)
        have rl := s8.rules
        simp only [Rules] at rl
        have q1 : ¬ (gK = w1.heap.size) := by omega
        have q2 : ¬ (w1.heap.size = gK) := by omega
        have q3 : ¬ (gK = w.heap.size) := by omega
        have q4 : ¬ (w.heap.size = gK) := by omega
        go_wp2_with fail
        clear rl c8 hfz q1 q2 q3 q4 hxor
        have hokS : ∀ z ∈ LK.set j (x.setSum (un (y ^^^ x3))), z.Ok := fun z hz => by
          rcases List.mem_or_eq_of_mem_set hz with h | rfl
          · exact hKok z h
          · exact ⟨hxo.s0, hxo.s1, hxo.a0, hxo.a1, hxo.t, un_nonneg _, un_lt _⟩
        have HCS := Lib.hid (chain_set a0 b0 0 LK j x (un (y ^^^ x3)) HX.out (by rw [HCP.out]) (by rw [HY.out]; exact xor_ne y x3 HC0.out))
        have hlS : (LK.set j (x.setSum (un (y ^^^ x3)))).length = LK.length := List.length_set
        generalize LK.set j (x.setSum (un (y ^^^ x3))) = LS at *
        refine (s9.call' (fun st => chained_n LK.length a0 b0 0 (by omega) (by omega) LS hokS hlS (by omega) _ cK _ (own_ents_at st.ex.1))).mono ?_
        rintro e w10 ⟨rfl, s10⟩
        rw [HCS.out]
        clear s9 s8 hown
        have rl := s10.rules
        simp only [Rules] at rl
        go_wp2_with fail
        refine (s10.call' (fun st => right_n LK.length a0 b0 0 (by omega) (by omega) LS hokS hlS (by omega) _ cK false ⟨(fun h => by cases h), fun h => absurd h.c (by rw [HCS.out]; simp)⟩ _ (own_ents_at st.ex.1))).mono ?_
        rintro e w11 ⟨rfl, s11⟩
        clear rl
        go_wp2_with fail
        go_ret
        exact ⟨rfl, s11.below⟩


set_option maxRecDepth 100000 in
theorem lifted (os : Os) (started : os.Started) (H : Type) (enc : TypeId × Value → H) :
    ReturnsInHanded {} Try.checked os 5 .any (Rows.auditFindsSpec.pre6 enc Try.prog Try.f5 Rows.auditFindsRow.domain false) (Rows.auditFindsSpec.post enc Try.prog Try.f5 false true false false) := by
  refine returnsInHanded_of_change (C := Try.checked) own started (by kernel_rfl) Try.func5
    (ChangeSpec.witness6 (enc := enc) (C := Try.checked) false ⟨#[], #[.agg #[.int .u64 0, .int .u64 0], .slice none 0 0, .int .i64 0, .int .u64 0], []⟩ 8 (by kernel_rfl) (by kernel_rfl) (by kernel_rfl) (by kernel_rfl)) ?_
  intro W base args ds gs before hval0 hW hcnd _
  have hval : ∀ (j : Nat) t v, Try.f5.params[j]? = some t → args[j]? = some v → Value.okWide Try.prog W .any base t v := hval0
  have hW' := hW
  obtain ⟨p, q, hA0, hV, rfl, hfz, hnd⟩ := hW
  have hA : DataW.TrodAll enc Try.prog W 0 (fun _ => true) true Try.f5.params.toList args.toList ds p := hA0
  rw [Try.params5] at hA hval
  obtain ⟨v0, vs0, d0, ds0, p0, q0, hargs, rfl, rfl, h0, r0⟩ := trodAll_cons hA
  obtain ⟨v1, vs1, d1, ds1, p1, q1, rfl, rfl, rfl, h1, r1⟩ := trodAll_cons r0
  obtain ⟨v2, vs2, d2, ds2, p2, q2, rfl, rfl, rfl, h2, r2⟩ := trodAll_cons r1
  obtain ⟨v3, vs3, d3, ds3, p3, q3, rfl, rfl, rfl, h3, r3⟩ := trodAll_cons r2
  obtain ⟨rfl, rfl, rfl⟩ := trodAll_nil r3
  obtain rfl : args = #[v0, v1, v2, v3] := by cases args; simp_all
  obtain ⟨rfl, rfl⟩ := trodVars_none hV
  have k0 := h0
  have lt0 : ∀ x ∈ p0, x.block < W.heap.size := by obtain ⟨m, hm⟩ := k0; exact DataW.trod_lt m _ _ _ hm
  obtain ⟨a0, b0, rfl⟩ := openKey (hval 0 24 v0 rfl rfl) h0
  have k1 := h1
  have lt1 : ∀ x ∈ p1, x.block < W.heap.size := by obtain ⟨m, hm⟩ := k1; exact DataW.trod_lt m _ _ _ hm
  obtain ⟨s1, L1, cap1, rfl, hE1, hN1, hl1, hc1, hn1⟩ := openStrs (hval 1 42 v1 rfl rfl) h1
  have k2 := h2
  have lt2 : ∀ x ∈ p2, x.block < W.heap.size := by obtain ⟨m, hm⟩ := k2; exact DataW.trod_lt m _ _ _ hm
  obtain ⟨n2, rfl, na2, nb2⟩ := openInt (hval 2 3 v2 rfl rfl) h2
  have k3 := h3
  have lt3 : ∀ x ∈ p3, x.block < W.heap.size := by obtain ⟨m, hm⟩ := k3; exact DataW.trod_lt m _ _ _ hm
  obtain ⟨x3, rfl⟩ := openU64 (hval 3 22 v3 rfl rfl) h3
  clear hA0 hval0
  refine (walk a0 b0 s1 L1 cap1 hN1 hl1 hc1 hn1 n2 na2 nb2 x3 W hE1).mono fun e W' ⟨he, bel⟩ => ?_
  subst he
  exact ⟨_, rfl, _, _, _, [], _, [], hW', trodAll_mk1 (shut_bool Try.underlying4 _), (trodAll_cons_mk (Below.trod laidOut (by kernel_rfl) (of_decide_eq_true (by kernel_rfl)) k0 bel lt0) (trodAll_cons_mk (Below.trod laidOut (by kernel_rfl) (of_decide_eq_true (by kernel_rfl)) k1 bel lt1) (trodAll_cons_mk (Below.trod laidOut (by kernel_rfl) (of_decide_eq_true (by kernel_rfl)) k2 bel lt2) (trodAll_cons_mk (Below.trod laidOut (by kernel_rfl) (of_decide_eq_true (by kernel_rfl)) k3 bel lt3) trodAll_mk0)))), rfl, bel.frame _, fun h => by cases h⟩

theorem over : Rows.auditFindsRow.holds Try.pinned (OpenSpec.ofChange Rows.auditFindsSpec) :=
  OpenClaim.holds_of_wide 5 Try.f5 rfl rfl rfl rfl rfl rfl rfl ⟨rfl, rfl, rfl, rfl, rfl⟩ rfl rfl rfl rfl rfl (by kernel_rfl) Try.func5 (by kernel_rfl)
    (of_decide_eq_true (by kernel_rfl)) (by unfold Func.isWrapper; first | (rw [if_pos (by decide +kernel)]; kernel_rfl) | (rw [if_neg (by decide +kernel)]; exact ⟨rfl, rfl⟩))
    (fun os started H enc _ => lifted os started H enc)

/-- THE STATEMENT -/
theorem proved : Rows.AuditFindsSaid := over
#print axioms proved
end Go.Proofs.Ytclhbimlpamjiaa.auditFinds
