/- A part of the proof of TopCounts. -/
import Derived.Test.YtmgdbfmlnmahpaaGreatDoorG38
import Derived.Test.YtmgdbfmlnmahpaaGreatDoorG05
import Derived.Defers
namespace Go.Proofs.YtmgdbfmlnmahpaaGreatDoor
open Go.RowKit Go.Shelf
set_option linter.unusedSimpArgs false
set_option linter.unusedVariables false
set_option maxRecDepth 100000
theorem Tab1.up {W W' : World} {B : Nat} {t : Hd} {x : Sk} {sn : Nat} {l : Hd} {h : SkH} (r : Tab1 W t x sn l h) (hf : Fresh B t ∧ Fresh B l ∧ FreshK B h) (hk : KeepUp B W W') : Tab1 W' t x sn l h := ⟨r.t.up hf.1 hk, r.l.up hf.2.1 hk, r.k.up hf.2.2 hk, r.ok⟩
def IsX (B : Nat) (x : Sk) (sn : Nat) : Value → World → Prop := fun v W => ∃ v0, v = .tuple #[v0, .int .i64 0, .int .i64 0] ∧ IsT B x sn v0 W
theorem stableX (B : Nat) (x : Sk) (sn : Nat) : Stable (IsX B x sn) := fun _ _ _ ⟨v0, h1, h2⟩ hb => ⟨v0, h1, stableT _ _ _ _ _ _ h2 hb⟩
def IsX0 (B : Nat) : Value → World → Prop := fun v W => ∃ v0, v = .tuple #[v0, .int .i64 0, .int .i64 0] ∧ IsT0 B v0 W
theorem stableX0 (B : Nat) : Stable (IsX0 B) := fun _ _ _ ⟨v0, h1, h2⟩ _ => ⟨v0, h1, h2⟩
set_option maxHeartbeats 1000000 in
theorem come0 (b : Nat) (ts : Option Addr) (tc : Nat) (lgs : Option Addr) (ln lgc nw id bu ttl : Nat) (ka kb : BitVec 64) (w : World) (h0 : w.heap[b]? = some (.cells #[.slice ts 0 tc, .int .u64 1, .slice none 0 0, .int .u64 0, .slice lgs ln lgc, .int .u64 (nw : Int), .int .u64 (id : Int), .int .i64 (bu : Int), .int .u64 (ttl : Int), .int .u64 (un ka), .int .u64 (un kb)] 83 (0, 0)))  : Calls Tryz.prog 66 #[.pointer (some ⟨b, 0, none⟩), .int .u64 (nw : Int)] w fun e w' => ∃ b', e = .returned (.int .i64 0) ∧ w.heap.size ≤ b' ∧ Below w.heap.size (w.setRow b #[.slice (some ⟨b', 0, none⟩) 0 0, .int .u64 1, .slice none 0 0, .int .u64 0, .slice lgs ln lgc, .int .u64 (nw : Int), .int .u64 (id : Int), .int .i64 (bu : Int), .int .u64 (ttl : Int), .int .u64 (un ka), .int .u64 (un kb)]) w' := by
  have st0 := Stb.start h0
  have rl := st0.rules
  simp only [Rules] at rl
  go_enter Tryz.func66, Tryz.ntmps66
  go_wp2_with fail
  refine (ckAdvance_any nw nw (Nat.le_refl _) _).mono ?_
  rintro e w1 ⟨rfl, rfl⟩
  have rl := st0.rules
  simp only [Rules] at rl
  go_wp2_with fail
  have st1 := Stb.set h0 st0 0 rfl (o := 5) (v := .int .u64 (nw : Int))
  simp only [setB, List.modify_succ_cons, List.modify_zero_cons, List.setIfInBounds_toArray, List.set_cons_zero, List.set_cons_succ] at st1
  have hku : KeepUp (b + 1) w1 (w1.setCell ⟨b, 5, none⟩ (.int .u64 (nw : Int))) := (KeepUp.refl _ _).set (Nat.lt_succ_self _) _
  have hzr : (w1.setCell ⟨b, 5, none⟩ (.int .u64 (nw : Int))).heap.size = w1.heap.size := by simp [World.setCell]
  generalize w1.setCell ⟨b, 5, none⟩ (.int .u64 (nw : Int)) = wr at *
  have HE := Lib.hid (show ∀ W, Below wr.heap.size wr W → Calls Tryz.prog 99 #[.slice ts 0 tc, .int .u64 (nw : Int), .int .u64 (ttl : Int)] W fun e w' => ∃ v, e = .returned (.tuple #[v, .int .i64 0, .int .i64 0]) ∧ IsT0 wr.heap.size v w' ∧ Below W.heap.size W w' from fun W hW => (ckExpire0 nw ttl ts tc W).mono fun e w' ⟨v, h1, ⟨a1, b1, b2⟩, h3⟩ => ⟨v, h1, ⟨a1, b1, Nat.le_trans hW.size b2⟩, h3⟩)
  have HZR := Lib.hid hzr
  have H0 := Lib.hid h0
  clear rl st0 hku hzr h0 
  refine region_lates 24 [19, 20] (fun q => if q = 19 then .int .i64 0 else .int .i64 0) (Fs [IsVal (.pointer (some ⟨b, 0, none⟩)), IsVal (.pointer (some ⟨b, 0, none⟩)), IsVal (.pointer (some ⟨b, 0, none⟩)), IsVal (.pointer (some ⟨b, 0, none⟩)), IsVal (.pointer (some ⟨b, 0, none⟩)), IsVal (.slice ts 0 tc), IsVal (.pointer (some ⟨b, 0, none⟩)), IsVal (.pointer (some ⟨b, 0, none⟩)), IsVal (.pointer (some ⟨b, 0, none⟩)), IsVal (.pointer (some ⟨b, 5, none⟩)), IsVal (.int .u64 (nw : Int)), IsVal (.pointer (some ⟨b, 0, none⟩)), IsVal (.pointer (some ⟨b, 0, none⟩)), IsVal (.pointer (some ⟨b, 6, none⟩)), IsVal (.pointer (some ⟨b, 8, none⟩)), IsVal (.int .u64 (ttl : Int)), IsX0 wr.heap.size, IsX0 wr.heap.size, IsT0 wr.heap.size, IsVal (.int .i64 0), IsVal (.int .i64 0), IsVal (.pointer (some ⟨b, 0, none⟩)), IsVal (.pointer (some ⟨b, 0, none⟩)), IsVal (.pointer (some ⟨b, 0, none⟩))]) (by kernel_rfl) (by kernel_rfl) (by kernel_rfl) (Fs_stable _ ?stab) ?spec ?late ?lfact ?store ?endd
  case stab =>
    simp only [List.forall_mem_cons]
    exact ⟨stableVal _, stableVal _, stableVal _, stableVal _, stableVal _, stableVal _, stableVal _, stableVal _, stableVal _, stableVal _, stableVal _, stableVal _, stableVal _, stableVal _, stableVal _, stableVal _, stableX0 _, stableX0 _, stableT0 _, stableVal _, stableVal _, stableVal _, stableVal _, stableVal _, by simp⟩
  case spec =>
    refine ⟨?_, ?_, ?_, ?_, ?_, ?_, ?_, ?_, ?_, ?_, ?_, ?_, ?_, ?_, ?_, ?_, ?_, ?_, ?_, ?_, ?_, ?_, ?_, ?_, trivial⟩
    · intro a W hW hu hd
      have kc : ∀ c, a.eval (Operand.const c) = c := fun _ => rfl
      have kf : ∀ f, a.eval (Operand.func f) = .func (.func f) #[] #[] := fun _ => rfl
      have sW := st1.to hW
      have rl := sW.rules
      simp only [Rules, World.size_alloc] at rl
      have u0 : a.eval (Operand.tmp 0) = .pointer (some ⟨b, 0, none⟩) := hu 0 (by decide)
      unfold StepOk
      rw [if_pos (by rfl)]
      clear hu hd
      generalize a.eval = ρ at *
      go_simp
      exact opOk_val rfl
    · intro a W hW hu hd
      have kc : ∀ c, a.eval (Operand.const c) = c := fun _ => rfl
      have kf : ∀ f, a.eval (Operand.func f) = .func (.func f) #[] #[] := fun _ => rfl
      have sW := st1.to hW
      have rl := sW.rules
      simp only [Rules, World.size_alloc] at rl
      have u0 : a.eval (Operand.tmp 0) = .pointer (some ⟨b, 0, none⟩) := hu 0 (by decide)
      unfold StepOk
      rw [if_pos (by rfl)]
      clear hu hd
      generalize a.eval = ρ at *
      go_simp
      exact opOk_val rfl
    · intro a W hW hu hd
      have kc : ∀ c, a.eval (Operand.const c) = c := fun _ => rfl
      have kf : ∀ f, a.eval (Operand.func f) = .func (.func f) #[] #[] := fun _ => rfl
      have sW := st1.to hW
      have rl := sW.rules
      simp only [Rules, World.size_alloc] at rl
      have u24 : a.eval (Operand.tmp 24) = .pointer (some ⟨b, 0, none⟩) := hd 1 24 (by kernel_rfl) rfl
      unfold StepOk
      rw [if_pos (by rfl)]
      clear hu hd
      generalize a.eval = ρ at *
      go_simp
      exact opOk_val rfl
    · intro a W hW hu hd
      have kc : ∀ c, a.eval (Operand.const c) = c := fun _ => rfl
      have kf : ∀ f, a.eval (Operand.func f) = .func (.func f) #[] #[] := fun _ => rfl
      have sW := st1.to hW
      have rl := sW.rules
      simp only [Rules, World.size_alloc] at rl
      have u25 : a.eval (Operand.tmp 25) = .pointer (some ⟨b, 0, none⟩) := hd 2 25 (by kernel_rfl) rfl
      unfold StepOk
      rw [if_pos (by rfl)]
      clear hu hd
      generalize a.eval = ρ at *
      go_simp
      exact opOk_val rfl
    · intro a W hW hu hd
      have kc : ∀ c, a.eval (Operand.const c) = c := fun _ => rfl
      have kf : ∀ f, a.eval (Operand.func f) = .func (.func f) #[] #[] := fun _ => rfl
      have sW := st1.to hW
      have rl := sW.rules
      simp only [Rules, World.size_alloc] at rl
      have u26 : a.eval (Operand.tmp 26) = .pointer (some ⟨b, 0, none⟩) := hd 3 26 (by kernel_rfl) rfl
      unfold StepOk
      rw [if_pos (by rfl)]
      clear hu hd
      generalize a.eval = ρ at *
      go_simp
      exact opOk_val rfl
    · intro a W hW hu hd
      have kc : ∀ c, a.eval (Operand.const c) = c := fun _ => rfl
      have kf : ∀ f, a.eval (Operand.func f) = .func (.func f) #[] #[] := fun _ => rfl
      have sW := st1.to hW
      have rl := sW.rules
      simp only [Rules, World.size_alloc] at rl
      have u27 : a.eval (Operand.tmp 27) = .pointer (some ⟨b, 0, none⟩) := hd 4 27 (by kernel_rfl) rfl
      unfold StepOk
      rw [if_pos (by rfl)]
      clear hu hd
      generalize a.eval = ρ at *
      go_simp
      exact opOk_val rfl
    · intro a W hW hu hd
      have kc : ∀ c, a.eval (Operand.const c) = c := fun _ => rfl
      have kf : ∀ f, a.eval (Operand.func f) = .func (.func f) #[] #[] := fun _ => rfl
      have sW := st1.to hW
      have rl := sW.rules
      simp only [Rules, World.size_alloc] at rl
      have u0 : a.eval (Operand.tmp 0) = .pointer (some ⟨b, 0, none⟩) := hu 0 (by decide)
      unfold StepOk
      rw [if_pos (by rfl)]
      clear hu hd
      generalize a.eval = ρ at *
      go_simp
      exact opOk_val rfl
    · intro a W hW hu hd
      have kc : ∀ c, a.eval (Operand.const c) = c := fun _ => rfl
      have kf : ∀ f, a.eval (Operand.func f) = .func (.func f) #[] #[] := fun _ => rfl
      have sW := st1.to hW
      have rl := sW.rules
      simp only [Rules, World.size_alloc] at rl
      have u29 : a.eval (Operand.tmp 29) = .pointer (some ⟨b, 0, none⟩) := hd 6 29 (by kernel_rfl) rfl
      unfold StepOk
      rw [if_pos (by rfl)]
      clear hu hd
      generalize a.eval = ρ at *
      go_simp
      exact opOk_val rfl
    · intro a W hW hu hd
      have kc : ∀ c, a.eval (Operand.const c) = c := fun _ => rfl
      have kf : ∀ f, a.eval (Operand.func f) = .func (.func f) #[] #[] := fun _ => rfl
      have sW := st1.to hW
      have rl := sW.rules
      simp only [Rules, World.size_alloc] at rl
      have u30 : a.eval (Operand.tmp 30) = .pointer (some ⟨b, 0, none⟩) := hd 7 30 (by kernel_rfl) rfl
      unfold StepOk
      rw [if_pos (by rfl)]
      clear hu hd
      generalize a.eval = ρ at *
      go_simp
      exact opOk_val rfl
    · intro a W hW hu hd
      have kc : ∀ c, a.eval (Operand.const c) = c := fun _ => rfl
      have kf : ∀ f, a.eval (Operand.func f) = .func (.func f) #[] #[] := fun _ => rfl
      have sW := st1.to hW
      have rl := sW.rules
      simp only [Rules, World.size_alloc] at rl
      have u31 : a.eval (Operand.tmp 31) = .pointer (some ⟨b, 0, none⟩) := hd 8 31 (by kernel_rfl) rfl
      unfold StepOk
      rw [if_pos (by rfl)]
      clear hu hd
      generalize a.eval = ρ at *
      go_simp
      exact opOk_val rfl
    · intro a W hW hu hd
      have kc : ∀ c, a.eval (Operand.const c) = c := fun _ => rfl
      have kf : ∀ f, a.eval (Operand.func f) = .func (.func f) #[] #[] := fun _ => rfl
      have sW := st1.to hW
      have rl := sW.rules
      simp only [Rules, World.size_alloc] at rl
      have u32 : a.eval (Operand.tmp 32) = .pointer (some ⟨b, 5, none⟩) := hd 9 32 (by kernel_rfl) rfl
      unfold StepOk
      rw [if_pos (by rfl)]
      clear hu hd
      generalize a.eval = ρ at *
      go_simp
      exact opOk_val rfl
    · intro a W hW hu hd
      have kc : ∀ c, a.eval (Operand.const c) = c := fun _ => rfl
      have kf : ∀ f, a.eval (Operand.func f) = .func (.func f) #[] #[] := fun _ => rfl
      have sW := st1.to hW
      have rl := sW.rules
      simp only [Rules, World.size_alloc] at rl
      have u0 : a.eval (Operand.tmp 0) = .pointer (some ⟨b, 0, none⟩) := hu 0 (by decide)
      unfold StepOk
      rw [if_pos (by rfl)]
      clear hu hd
      generalize a.eval = ρ at *
      go_simp
      exact opOk_val rfl
    · intro a W hW hu hd
      have kc : ∀ c, a.eval (Operand.const c) = c := fun _ => rfl
      have kf : ∀ f, a.eval (Operand.func f) = .func (.func f) #[] #[] := fun _ => rfl
      have sW := st1.to hW
      have rl := sW.rules
      simp only [Rules, World.size_alloc] at rl
      have u34 : a.eval (Operand.tmp 34) = .pointer (some ⟨b, 0, none⟩) := hd 11 34 (by kernel_rfl) rfl
      unfold StepOk
      rw [if_pos (by rfl)]
      clear hu hd
      generalize a.eval = ρ at *
      go_simp
      exact opOk_val rfl
    · intro a W hW hu hd
      have kc : ∀ c, a.eval (Operand.const c) = c := fun _ => rfl
      have kf : ∀ f, a.eval (Operand.func f) = .func (.func f) #[] #[] := fun _ => rfl
      have sW := st1.to hW
      have rl := sW.rules
      simp only [Rules, World.size_alloc] at rl
      have u35 : a.eval (Operand.tmp 35) = .pointer (some ⟨b, 0, none⟩) := hd 12 35 (by kernel_rfl) rfl
      unfold StepOk
      rw [if_pos (by rfl)]
      clear hu hd
      generalize a.eval = ρ at *
      go_simp
      exact opOk_val rfl
    · intro a W hW hu hd
      have kc : ∀ c, a.eval (Operand.const c) = c := fun _ => rfl
      have kf : ∀ f, a.eval (Operand.func f) = .func (.func f) #[] #[] := fun _ => rfl
      have sW := st1.to hW
      have rl := sW.rules
      simp only [Rules, World.size_alloc] at rl
      have u36 : a.eval (Operand.tmp 36) = .pointer (some ⟨b, 6, none⟩) := hd 13 36 (by kernel_rfl) rfl
      unfold StepOk
      rw [if_pos (by rfl)]
      clear hu hd
      generalize a.eval = ρ at *
      go_simp
      exact opOk_val rfl
    · intro a W hW hu hd
      have kc : ∀ c, a.eval (Operand.const c) = c := fun _ => rfl
      have kf : ∀ f, a.eval (Operand.func f) = .func (.func f) #[] #[] := fun _ => rfl
      have sW := st1.to hW
      have rl := sW.rules
      simp only [Rules, World.size_alloc] at rl
      have u37 : a.eval (Operand.tmp 37) = .pointer (some ⟨b, 8, none⟩) := hd 14 37 (by kernel_rfl) rfl
      unfold StepOk
      rw [if_pos (by rfl)]
      clear hu hd
      generalize a.eval = ρ at *
      go_simp
      exact opOk_val rfl
    · intro a W hW hu hd
      have kc : ∀ c, a.eval (Operand.const c) = c := fun _ => rfl
      have kf : ∀ f, a.eval (Operand.func f) = .func (.func f) #[] #[] := fun _ => rfl
      have sW := st1.to hW
      have rl := sW.rules
      simp only [Rules, World.size_alloc] at rl
      have u28 : a.eval (Operand.tmp 28) = .slice ts 0 tc := hd 5 28 (by kernel_rfl) rfl
      have u33 : a.eval (Operand.tmp 33) = .int .u64 (nw : Int) := hd 10 33 (by kernel_rfl) rfl
      have u38 : a.eval (Operand.tmp 38) = .int .u64 (ttl : Int) := hd 15 38 (by kernel_rfl) rfl
      unfold StepOk
      rw [if_pos (by rfl)]
      clear hu hd
      generalize a.eval = ρ at *
      go_simp
      refine ⟨Below.refl _ _, (HE.out W hW).mono ?_⟩
      rintro e w' ⟨v9, rfl, t9, hb'⟩
      exact ⟨_, rfl, hb', v9, rfl, t9⟩
    · intro a W hW hu hd
      have kc : ∀ c, a.eval (Operand.const c) = c := fun _ => rfl
      have kf : ∀ f, a.eval (Operand.func f) = .func (.func f) #[] #[] := fun _ => rfl
      have sW := st1.to hW
      have rl := sW.rules
      simp only [Rules, World.size_alloc] at rl
      have f39 : IsX0 wr.heap.size (a.eval (Operand.tmp 39)) W := hd 16 39 (by kernel_rfl) rfl
      obtain ⟨v9, u39, t9⟩ := f39
      unfold StepOk
      rw [if_pos (by rfl)]
      clear hu hd
      generalize a.eval = ρ at *
      go_simp
      exact opOk_val ⟨v9, rfl, t9⟩
    · intro a W hW hu hd
      have kc : ∀ c, a.eval (Operand.const c) = c := fun _ => rfl
      have kf : ∀ f, a.eval (Operand.func f) = .func (.func f) #[] #[] := fun _ => rfl
      have sW := st1.to hW
      have rl := sW.rules
      simp only [Rules, World.size_alloc] at rl
      have f22 : IsX0 wr.heap.size (a.eval (Operand.tmp 22)) W := hd 17 22 (by kernel_rfl) rfl
      obtain ⟨v9, u22, t9⟩ := f22
      unfold StepOk
      rw [if_pos (by rfl)]
      clear hu hd
      generalize a.eval = ρ at *
      go_simp
      exact opOk_val t9
    · intro a W hW hu hd
      have kc : ∀ c, a.eval (Operand.const c) = c := fun _ => rfl
      have kf : ∀ f, a.eval (Operand.func f) = .func (.func f) #[] #[] := fun _ => rfl
      have sW := st1.to hW
      have rl := sW.rules
      simp only [Rules, World.size_alloc] at rl
      have f22 : IsX0 wr.heap.size (a.eval (Operand.tmp 22)) W := hd 17 22 (by kernel_rfl) rfl
      obtain ⟨v9, u22, t9⟩ := f22
      unfold StepOk
      rw [if_pos (by rfl)]
      clear hu hd
      generalize a.eval = ρ at *
      go_simp
      exact opOk_val rfl
    · intro a W hW hu hd
      have kc : ∀ c, a.eval (Operand.const c) = c := fun _ => rfl
      have kf : ∀ f, a.eval (Operand.func f) = .func (.func f) #[] #[] := fun _ => rfl
      have sW := st1.to hW
      have rl := sW.rules
      simp only [Rules, World.size_alloc] at rl
      have f22 : IsX0 wr.heap.size (a.eval (Operand.tmp 22)) W := hd 17 22 (by kernel_rfl) rfl
      obtain ⟨v9, u22, t9⟩ := f22
      unfold StepOk
      rw [if_pos (by rfl)]
      clear hu hd
      generalize a.eval = ρ at *
      go_simp
      exact opOk_val rfl
    · intro a W hW hu hd
      have kc : ∀ c, a.eval (Operand.const c) = c := fun _ => rfl
      have kf : ∀ f, a.eval (Operand.func f) = .func (.func f) #[] #[] := fun _ => rfl
      have sW := st1.to hW
      have rl := sW.rules
      simp only [Rules, World.size_alloc] at rl
      have u23 : a.eval (Operand.tmp 23) = .pointer (some ⟨b, 0, none⟩) := hd 0 23 (by kernel_rfl) rfl
      unfold StepOk
      rw [if_pos (by rfl)]
      clear hu hd
      generalize a.eval = ρ at *
      go_simp
      exact opOk_val rfl
    · intro a W hW hu hd
      have kc : ∀ c, a.eval (Operand.const c) = c := fun _ => rfl
      have kf : ∀ f, a.eval (Operand.func f) = .func (.func f) #[] #[] := fun _ => rfl
      have sW := st1.to hW
      have rl := sW.rules
      simp only [Rules, World.size_alloc] at rl
      have u43 : a.eval (Operand.tmp 43) = .pointer (some ⟨b, 0, none⟩) := hd 21 43 (by kernel_rfl) rfl
      unfold StepOk
      rw [if_pos (by rfl)]
      clear hu hd
      generalize a.eval = ρ at *
      go_simp
      exact opOk_val rfl
    · intro a W hW hu hd
      have kc : ∀ c, a.eval (Operand.const c) = c := fun _ => rfl
      have kf : ∀ f, a.eval (Operand.func f) = .func (.func f) #[] #[] := fun _ => rfl
      have sW := st1.to hW
      have rl := sW.rules
      simp only [Rules, World.size_alloc] at rl
      have u44 : a.eval (Operand.tmp 44) = .pointer (some ⟨b, 0, none⟩) := hd 22 44 (by kernel_rfl) rfl
      unfold StepOk
      rw [if_pos (by rfl)]
      clear hu hd
      generalize a.eval = ρ at *
      go_simp
      exact opOk_val rfl
  case late =>
    intro q hqm oq hoq a W hW hu hd W'
    simp only [List.mem_cons, List.not_mem_nil, or_false] at hqm
    rcases hqm with rfl | rfl
    · cases hoq
      obtain ⟨v9, u22, t9⟩ : IsX0 wr.heap.size (a.eval (Operand.tmp 22)) W := hd 17 22 (by kernel_rfl) rfl
      clear hu hd
      generalize a.eval = ρ at *
      go_simp
    · cases hoq
      obtain ⟨v9, u22, t9⟩ : IsX0 wr.heap.size (a.eval (Operand.tmp 22)) W := hd 17 22 (by kernel_rfl) rfl
      clear hu hd
      generalize a.eval = ρ at *
      go_simp
  case lfact =>
    intro q hqm W
    simp only [List.mem_cons, List.not_mem_nil, or_false] at hqm
    rcases hqm with rfl | rfl <;> rfl
  case store =>
    intro os hos a W hW hu hd
    cases hos
    have sW := st1.to hW
    have u45 : a.eval (Operand.tmp 45) = .pointer (some ⟨b, 0, none⟩) := hd 23 45 (by kernel_rfl) rfl
    obtain ⟨b9, u40, t9⟩ : IsT0 wr.heap.size (a.eval (Operand.tmp 40)) W := hd 18 40 (by kernel_rfl) rfl
    try simp only [Hd.v] at u40
    have rl := sW.rules
    simp only [Rules] at rl
    clear hu hd
    generalize a.eval = ρ at *
    go_simp
  case endd =>
    intro v W hW hv
    have v0 : v 0 = (.pointer (some ⟨b, 0, none⟩)) := hv 0 (by omega)
    have v1 : v 1 = (.pointer (some ⟨b, 0, none⟩)) := hv 1 (by omega)
    have v2 : v 2 = (.pointer (some ⟨b, 0, none⟩)) := hv 2 (by omega)
    have v3 : v 3 = (.pointer (some ⟨b, 0, none⟩)) := hv 3 (by omega)
    have v4 : v 4 = (.pointer (some ⟨b, 0, none⟩)) := hv 4 (by omega)
    have v5 : v 5 = (.slice ts 0 tc) := hv 5 (by omega)
    have v6 : v 6 = (.pointer (some ⟨b, 0, none⟩)) := hv 6 (by omega)
    have v7 : v 7 = (.pointer (some ⟨b, 0, none⟩)) := hv 7 (by omega)
    have v8 : v 8 = (.pointer (some ⟨b, 0, none⟩)) := hv 8 (by omega)
    have v9 : v 9 = (.pointer (some ⟨b, 5, none⟩)) := hv 9 (by omega)
    have v10 : v 10 = (.int .u64 (nw : Int)) := hv 10 (by omega)
    have v11 : v 11 = (.pointer (some ⟨b, 0, none⟩)) := hv 11 (by omega)
    have v12 : v 12 = (.pointer (some ⟨b, 0, none⟩)) := hv 12 (by omega)
    have v13 : v 13 = (.pointer (some ⟨b, 6, none⟩)) := hv 13 (by omega)
    have v14 : v 14 = (.pointer (some ⟨b, 8, none⟩)) := hv 14 (by omega)
    have v15 : v 15 = (.int .u64 (ttl : Int)) := hv 15 (by omega)
    have hf16 : IsX0 wr.heap.size (v 16) W := hv 16 (by omega)
    have hf17 : IsX0 wr.heap.size (v 17) W := hv 17 (by omega)
    have hf18 : IsT0 wr.heap.size (v 18) W := hv 18 (by omega)
    have v19 : v 19 = (.int .i64 0) := hv 19 (by omega)
    have v20 : v 20 = (.int .i64 0) := hv 20 (by omega)
    have v21 : v 21 = (.pointer (some ⟨b, 0, none⟩)) := hv 21 (by omega)
    have v22 : v 22 = (.pointer (some ⟨b, 0, none⟩)) := hv 22 (by omega)
    have v23 : v 23 = (.pointer (some ⟨b, 0, none⟩)) := hv 23 (by omega)
    clear hv
    simp only [List.take_succ_cons, List.take_zero, List.drop_succ_cons, List.drop_zero, putAll, Nat.zero_add, Nat.reduceAdd]
    rw [v0, v1, v2, v3, v4, v5, v6, v7, v8, v9, v10, v11, v12, v13, v14, v15, v19, v20, v21, v22, v23]
    clear v0 v1 v2 v3 v4 v5 v6 v7 v8 v9 v10 v11 v12 v13 v14 v15 v19 v20 v21 v22 v23
    have sW := st1.to hW
    obtain ⟨b9, v18, hB9⟩ := hf18
    rw [v18]
    generalize v 16 = v16 at *
    generalize v 17 = v17 at *
    have hbw := blk_lt (st1.blk _ (List.mem_of_getElem? (i := 0) rfl))
    have rl := sW.rules
    simp only [Rules] at rl
    clear hf16 hf17 HE
    go_wp2_with fail
    have st2 := Stb.set H0.out sW 0 rfl (o := 0) (v := .slice (some ⟨b9, 0, none⟩) 0 0)
    simp only [setB, List.modify_succ_cons, List.modify_zero_cons, List.setIfInBounds_toArray, List.set_cons_zero, List.set_cons_succ] at st2
    have hb2 := st2.below
    rw [setRow_size] at hb2
    have hzr := HZR.out
    exact bodyPost_ret (v := .int .i64 0) (by simp [results, Tryz.results66, go_sem]) rfl ⟨rfl, b9, by omega, hb2⟩
set_option maxHeartbeats 1000000 in
theorem come1 (b : Nat) (ts : Option Addr) (tc : Nat) (lgs : Option Addr) (ln lgc nw id bu ttl : Nat) (ka kb : BitVec 64) (w : World) (h0 : w.heap[b]? = some (.cells #[.slice ts 1 tc, .int .u64 1, .slice none 0 0, .int .u64 0, .slice lgs ln lgc, .int .u64 (nw : Int), .int .u64 (id : Int), .int .i64 (bu : Int), .int .u64 (ttl : Int), .int .u64 (un ka), .int .u64 (un kb)] 83 (0, 0))) (x : Sk) (hlen : x.e.length ≤ 100000 ∧ x.c.length ≤ 100000 ∧ x.g.length ≤ 100000) (sn : Nat) (hn : nw ≤ sn) (l : Hd) (h : SkH) (hT : Tab1 w ⟨ts, tc⟩ x sn l h) (hF : Fresh (b + 1) ⟨ts, tc⟩ ∧ Fresh (b + 1) l ∧ FreshK (b + 1) h) : Calls Tryz.prog 66 #[.pointer (some ⟨b, 0, none⟩), .int .u64 (nw : Int)] w fun e w' => ∃ (t' l' : Hd) (h' : SkH), e = .returned (.int .i64 0) ∧ Tab1 w' t' x sn l' h' ∧ (Fresh w.heap.size t' ∧ Fresh w.heap.size l' ∧ FreshK w.heap.size h') ∧ Below w.heap.size (w.setRow b #[t'.v 1, .int .u64 1, .slice none 0 0, .int .u64 0, .slice lgs ln lgc, .int .u64 (nw : Int), .int .u64 (id : Int), .int .i64 (bu : Int), .int .u64 (ttl : Int), .int .u64 (un ka), .int .u64 (un kb)]) w' := by
  have st0 := Stb.start h0
  have rl := st0.rules
  simp only [Rules] at rl
  go_enter Tryz.func66, Tryz.ntmps66
  go_wp2_with fail
  refine (ckAdvance_any nw nw (Nat.le_refl _) _).mono ?_
  rintro e w1 ⟨rfl, rfl⟩
  have rl := st0.rules
  simp only [Rules] at rl
  go_wp2_with fail
  have st1 := Stb.set h0 st0 0 rfl (o := 5) (v := .int .u64 (nw : Int))
  simp only [setB, List.modify_succ_cons, List.modify_zero_cons, List.setIfInBounds_toArray, List.set_cons_zero, List.set_cons_succ] at st1
  have hku : KeepUp (b + 1) w1 (w1.setCell ⟨b, 5, none⟩ (.int .u64 (nw : Int))) := (KeepUp.refl _ _).set (Nat.lt_succ_self _) _
  have hzr : (w1.setCell ⟨b, 5, none⟩ (.int .u64 (nw : Int))).heap.size = w1.heap.size := by simp [World.setCell]
  generalize w1.setCell ⟨b, 5, none⟩ (.int .u64 (nw : Int)) = wr at *
  have HE := Lib.hid (show ∀ W, Below wr.heap.size wr W → Calls Tryz.prog 99 #[.slice ts 1 tc, .int .u64 (nw : Int), .int .u64 (ttl : Int)] W fun e w' => ∃ v, e = .returned (.tuple #[v, .int .i64 0, .int .i64 0]) ∧ IsT wr.heap.size x sn v w' ∧ Below W.heap.size W w' from fun W hW => (ckExpire1 nw ttl ⟨ts, tc⟩ x hlen sn hn l h W ((hT.up hF hku).keepB hW)).mono fun e w' ⟨v, h1, ⟨a1, a2, a3, b1, b2, b3, b4, b5⟩, h3⟩ => ⟨v, h1, ⟨a1, a2, a3, b1, b2, b3.mono hW.size, b4.mono hW.size, b5.mono hW.size⟩, h3⟩)
  have HZR := Lib.hid hzr
  have H0 := Lib.hid h0
  clear rl st0 hku hzr h0 hT hF hlen hn
  refine region_lates 24 [19, 20] (fun q => if q = 19 then .int .i64 0 else .int .i64 0) (Fs [IsVal (.pointer (some ⟨b, 0, none⟩)), IsVal (.pointer (some ⟨b, 0, none⟩)), IsVal (.pointer (some ⟨b, 0, none⟩)), IsVal (.pointer (some ⟨b, 0, none⟩)), IsVal (.pointer (some ⟨b, 0, none⟩)), IsVal (.slice ts 1 tc), IsVal (.pointer (some ⟨b, 0, none⟩)), IsVal (.pointer (some ⟨b, 0, none⟩)), IsVal (.pointer (some ⟨b, 0, none⟩)), IsVal (.pointer (some ⟨b, 5, none⟩)), IsVal (.int .u64 (nw : Int)), IsVal (.pointer (some ⟨b, 0, none⟩)), IsVal (.pointer (some ⟨b, 0, none⟩)), IsVal (.pointer (some ⟨b, 6, none⟩)), IsVal (.pointer (some ⟨b, 8, none⟩)), IsVal (.int .u64 (ttl : Int)), IsX wr.heap.size x sn, IsX wr.heap.size x sn, IsT wr.heap.size x sn, IsVal (.int .i64 0), IsVal (.int .i64 0), IsVal (.pointer (some ⟨b, 0, none⟩)), IsVal (.pointer (some ⟨b, 0, none⟩)), IsVal (.pointer (some ⟨b, 0, none⟩))]) (by kernel_rfl) (by kernel_rfl) (by kernel_rfl) (Fs_stable _ ?stab) ?spec ?late ?lfact ?store ?endd
  case stab =>
    simp only [List.forall_mem_cons]
    exact ⟨stableVal _, stableVal _, stableVal _, stableVal _, stableVal _, stableVal _, stableVal _, stableVal _, stableVal _, stableVal _, stableVal _, stableVal _, stableVal _, stableVal _, stableVal _, stableVal _, stableX _ _ _, stableX _ _ _, stableT _ _ _, stableVal _, stableVal _, stableVal _, stableVal _, stableVal _, by simp⟩
  case spec =>
    refine ⟨?_, ?_, ?_, ?_, ?_, ?_, ?_, ?_, ?_, ?_, ?_, ?_, ?_, ?_, ?_, ?_, ?_, ?_, ?_, ?_, ?_, ?_, ?_, ?_, trivial⟩
    · intro a W hW hu hd
      have kc : ∀ c, a.eval (Operand.const c) = c := fun _ => rfl
      have kf : ∀ f, a.eval (Operand.func f) = .func (.func f) #[] #[] := fun _ => rfl
      have sW := st1.to hW
      have rl := sW.rules
      simp only [Rules, World.size_alloc] at rl
      have u0 : a.eval (Operand.tmp 0) = .pointer (some ⟨b, 0, none⟩) := hu 0 (by decide)
      unfold StepOk
      rw [if_pos (by rfl)]
      clear hu hd
      generalize a.eval = ρ at *
      go_simp
      exact opOk_val rfl
    · intro a W hW hu hd
      have kc : ∀ c, a.eval (Operand.const c) = c := fun _ => rfl
      have kf : ∀ f, a.eval (Operand.func f) = .func (.func f) #[] #[] := fun _ => rfl
      have sW := st1.to hW
      have rl := sW.rules
      simp only [Rules, World.size_alloc] at rl
      have u0 : a.eval (Operand.tmp 0) = .pointer (some ⟨b, 0, none⟩) := hu 0 (by decide)
      unfold StepOk
      rw [if_pos (by rfl)]
      clear hu hd
      generalize a.eval = ρ at *
      go_simp
      exact opOk_val rfl
    · intro a W hW hu hd
      have kc : ∀ c, a.eval (Operand.const c) = c := fun _ => rfl
      have kf : ∀ f, a.eval (Operand.func f) = .func (.func f) #[] #[] := fun _ => rfl
      have sW := st1.to hW
      have rl := sW.rules
      simp only [Rules, World.size_alloc] at rl
      have u24 : a.eval (Operand.tmp 24) = .pointer (some ⟨b, 0, none⟩) := hd 1 24 (by kernel_rfl) rfl
      unfold StepOk
      rw [if_pos (by rfl)]
      clear hu hd
      generalize a.eval = ρ at *
      go_simp
      exact opOk_val rfl
    · intro a W hW hu hd
      have kc : ∀ c, a.eval (Operand.const c) = c := fun _ => rfl
      have kf : ∀ f, a.eval (Operand.func f) = .func (.func f) #[] #[] := fun _ => rfl
      have sW := st1.to hW
      have rl := sW.rules
      simp only [Rules, World.size_alloc] at rl
      have u25 : a.eval (Operand.tmp 25) = .pointer (some ⟨b, 0, none⟩) := hd 2 25 (by kernel_rfl) rfl
      unfold StepOk
      rw [if_pos (by rfl)]
      clear hu hd
      generalize a.eval = ρ at *
      go_simp
      exact opOk_val rfl
    · intro a W hW hu hd
      have kc : ∀ c, a.eval (Operand.const c) = c := fun _ => rfl
      have kf : ∀ f, a.eval (Operand.func f) = .func (.func f) #[] #[] := fun _ => rfl
      have sW := st1.to hW
      have rl := sW.rules
      simp only [Rules, World.size_alloc] at rl
      have u26 : a.eval (Operand.tmp 26) = .pointer (some ⟨b, 0, none⟩) := hd 3 26 (by kernel_rfl) rfl
      unfold StepOk
      rw [if_pos (by rfl)]
      clear hu hd
      generalize a.eval = ρ at *
      go_simp
      exact opOk_val rfl
    · intro a W hW hu hd
      have kc : ∀ c, a.eval (Operand.const c) = c := fun _ => rfl
      have kf : ∀ f, a.eval (Operand.func f) = .func (.func f) #[] #[] := fun _ => rfl
      have sW := st1.to hW
      have rl := sW.rules
      simp only [Rules, World.size_alloc] at rl
      have u27 : a.eval (Operand.tmp 27) = .pointer (some ⟨b, 0, none⟩) := hd 4 27 (by kernel_rfl) rfl
      unfold StepOk
      rw [if_pos (by rfl)]
      clear hu hd
      generalize a.eval = ρ at *
      go_simp
      exact opOk_val rfl
    · intro a W hW hu hd
      have kc : ∀ c, a.eval (Operand.const c) = c := fun _ => rfl
      have kf : ∀ f, a.eval (Operand.func f) = .func (.func f) #[] #[] := fun _ => rfl
      have sW := st1.to hW
      have rl := sW.rules
      simp only [Rules, World.size_alloc] at rl
      have u0 : a.eval (Operand.tmp 0) = .pointer (some ⟨b, 0, none⟩) := hu 0 (by decide)
      unfold StepOk
      rw [if_pos (by rfl)]
      clear hu hd
      generalize a.eval = ρ at *
      go_simp
      exact opOk_val rfl
    · intro a W hW hu hd
      have kc : ∀ c, a.eval (Operand.const c) = c := fun _ => rfl
      have kf : ∀ f, a.eval (Operand.func f) = .func (.func f) #[] #[] := fun _ => rfl
      have sW := st1.to hW
      have rl := sW.rules
      simp only [Rules, World.size_alloc] at rl
      have u29 : a.eval (Operand.tmp 29) = .pointer (some ⟨b, 0, none⟩) := hd 6 29 (by kernel_rfl) rfl
      unfold StepOk
      rw [if_pos (by rfl)]
      clear hu hd
      generalize a.eval = ρ at *
      go_simp
      exact opOk_val rfl
    · intro a W hW hu hd
      have kc : ∀ c, a.eval (Operand.const c) = c := fun _ => rfl
      have kf : ∀ f, a.eval (Operand.func f) = .func (.func f) #[] #[] := fun _ => rfl
      have sW := st1.to hW
      have rl := sW.rules
      simp only [Rules, World.size_alloc] at rl
      have u30 : a.eval (Operand.tmp 30) = .pointer (some ⟨b, 0, none⟩) := hd 7 30 (by kernel_rfl) rfl
      unfold StepOk
      rw [if_pos (by rfl)]
      clear hu hd
      generalize a.eval = ρ at *
      go_simp
      exact opOk_val rfl
    · intro a W hW hu hd
      have kc : ∀ c, a.eval (Operand.const c) = c := fun _ => rfl
      have kf : ∀ f, a.eval (Operand.func f) = .func (.func f) #[] #[] := fun _ => rfl
      have sW := st1.to hW
      have rl := sW.rules
      simp only [Rules, World.size_alloc] at rl
      have u31 : a.eval (Operand.tmp 31) = .pointer (some ⟨b, 0, none⟩) := hd 8 31 (by kernel_rfl) rfl
      unfold StepOk
      rw [if_pos (by rfl)]
      clear hu hd
      generalize a.eval = ρ at *
      go_simp
      exact opOk_val rfl
    · intro a W hW hu hd
      have kc : ∀ c, a.eval (Operand.const c) = c := fun _ => rfl
      have kf : ∀ f, a.eval (Operand.func f) = .func (.func f) #[] #[] := fun _ => rfl
      have sW := st1.to hW
      have rl := sW.rules
      simp only [Rules, World.size_alloc] at rl
      have u32 : a.eval (Operand.tmp 32) = .pointer (some ⟨b, 5, none⟩) := hd 9 32 (by kernel_rfl) rfl
      unfold StepOk
      rw [if_pos (by rfl)]
      clear hu hd
      generalize a.eval = ρ at *
      go_simp
      exact opOk_val rfl
    · intro a W hW hu hd
      have kc : ∀ c, a.eval (Operand.const c) = c := fun _ => rfl
      have kf : ∀ f, a.eval (Operand.func f) = .func (.func f) #[] #[] := fun _ => rfl
      have sW := st1.to hW
      have rl := sW.rules
      simp only [Rules, World.size_alloc] at rl
      have u0 : a.eval (Operand.tmp 0) = .pointer (some ⟨b, 0, none⟩) := hu 0 (by decide)
      unfold StepOk
      rw [if_pos (by rfl)]
      clear hu hd
      generalize a.eval = ρ at *
      go_simp
      exact opOk_val rfl
    · intro a W hW hu hd
      have kc : ∀ c, a.eval (Operand.const c) = c := fun _ => rfl
      have kf : ∀ f, a.eval (Operand.func f) = .func (.func f) #[] #[] := fun _ => rfl
      have sW := st1.to hW
      have rl := sW.rules
      simp only [Rules, World.size_alloc] at rl
      have u34 : a.eval (Operand.tmp 34) = .pointer (some ⟨b, 0, none⟩) := hd 11 34 (by kernel_rfl) rfl
      unfold StepOk
      rw [if_pos (by rfl)]
      clear hu hd
      generalize a.eval = ρ at *
      go_simp
      exact opOk_val rfl
    · intro a W hW hu hd
      have kc : ∀ c, a.eval (Operand.const c) = c := fun _ => rfl
      have kf : ∀ f, a.eval (Operand.func f) = .func (.func f) #[] #[] := fun _ => rfl
      have sW := st1.to hW
      have rl := sW.rules
      simp only [Rules, World.size_alloc] at rl
      have u35 : a.eval (Operand.tmp 35) = .pointer (some ⟨b, 0, none⟩) := hd 12 35 (by kernel_rfl) rfl
      unfold StepOk
      rw [if_pos (by rfl)]
      clear hu hd
      generalize a.eval = ρ at *
      go_simp
      exact opOk_val rfl
    · intro a W hW hu hd
      have kc : ∀ c, a.eval (Operand.const c) = c := fun _ => rfl
      have kf : ∀ f, a.eval (Operand.func f) = .func (.func f) #[] #[] := fun _ => rfl
      have sW := st1.to hW
      have rl := sW.rules
      simp only [Rules, World.size_alloc] at rl
      have u36 : a.eval (Operand.tmp 36) = .pointer (some ⟨b, 6, none⟩) := hd 13 36 (by kernel_rfl) rfl
      unfold StepOk
      rw [if_pos (by rfl)]
      clear hu hd
      generalize a.eval = ρ at *
      go_simp
      exact opOk_val rfl
    · intro a W hW hu hd
      have kc : ∀ c, a.eval (Operand.const c) = c := fun _ => rfl
      have kf : ∀ f, a.eval (Operand.func f) = .func (.func f) #[] #[] := fun _ => rfl
      have sW := st1.to hW
      have rl := sW.rules
      simp only [Rules, World.size_alloc] at rl
      have u37 : a.eval (Operand.tmp 37) = .pointer (some ⟨b, 8, none⟩) := hd 14 37 (by kernel_rfl) rfl
      unfold StepOk
      rw [if_pos (by rfl)]
      clear hu hd
      generalize a.eval = ρ at *
      go_simp
      exact opOk_val rfl
    · intro a W hW hu hd
      have kc : ∀ c, a.eval (Operand.const c) = c := fun _ => rfl
      have kf : ∀ f, a.eval (Operand.func f) = .func (.func f) #[] #[] := fun _ => rfl
      have sW := st1.to hW
      have rl := sW.rules
      simp only [Rules, World.size_alloc] at rl
      have u28 : a.eval (Operand.tmp 28) = .slice ts 1 tc := hd 5 28 (by kernel_rfl) rfl
      have u33 : a.eval (Operand.tmp 33) = .int .u64 (nw : Int) := hd 10 33 (by kernel_rfl) rfl
      have u38 : a.eval (Operand.tmp 38) = .int .u64 (ttl : Int) := hd 15 38 (by kernel_rfl) rfl
      unfold StepOk
      rw [if_pos (by rfl)]
      clear hu hd
      generalize a.eval = ρ at *
      go_simp
      refine ⟨Below.refl _ _, (HE.out W hW).mono ?_⟩
      rintro e w' ⟨v9, rfl, t9, hb'⟩
      exact ⟨_, rfl, hb', v9, rfl, t9⟩
    · intro a W hW hu hd
      have kc : ∀ c, a.eval (Operand.const c) = c := fun _ => rfl
      have kf : ∀ f, a.eval (Operand.func f) = .func (.func f) #[] #[] := fun _ => rfl
      have sW := st1.to hW
      have rl := sW.rules
      simp only [Rules, World.size_alloc] at rl
      have f39 : IsX wr.heap.size x sn (a.eval (Operand.tmp 39)) W := hd 16 39 (by kernel_rfl) rfl
      obtain ⟨v9, u39, t9⟩ := f39
      unfold StepOk
      rw [if_pos (by rfl)]
      clear hu hd
      generalize a.eval = ρ at *
      go_simp
      exact opOk_val ⟨v9, rfl, t9⟩
    · intro a W hW hu hd
      have kc : ∀ c, a.eval (Operand.const c) = c := fun _ => rfl
      have kf : ∀ f, a.eval (Operand.func f) = .func (.func f) #[] #[] := fun _ => rfl
      have sW := st1.to hW
      have rl := sW.rules
      simp only [Rules, World.size_alloc] at rl
      have f22 : IsX wr.heap.size x sn (a.eval (Operand.tmp 22)) W := hd 17 22 (by kernel_rfl) rfl
      obtain ⟨v9, u22, t9⟩ := f22
      unfold StepOk
      rw [if_pos (by rfl)]
      clear hu hd
      generalize a.eval = ρ at *
      go_simp
      exact opOk_val t9
    · intro a W hW hu hd
      have kc : ∀ c, a.eval (Operand.const c) = c := fun _ => rfl
      have kf : ∀ f, a.eval (Operand.func f) = .func (.func f) #[] #[] := fun _ => rfl
      have sW := st1.to hW
      have rl := sW.rules
      simp only [Rules, World.size_alloc] at rl
      have f22 : IsX wr.heap.size x sn (a.eval (Operand.tmp 22)) W := hd 17 22 (by kernel_rfl) rfl
      obtain ⟨v9, u22, t9⟩ := f22
      unfold StepOk
      rw [if_pos (by rfl)]
      clear hu hd
      generalize a.eval = ρ at *
      go_simp
      exact opOk_val rfl
    · intro a W hW hu hd
      have kc : ∀ c, a.eval (Operand.const c) = c := fun _ => rfl
      have kf : ∀ f, a.eval (Operand.func f) = .func (.func f) #[] #[] := fun _ => rfl
      have sW := st1.to hW
      have rl := sW.rules
      simp only [Rules, World.size_alloc] at rl
      have f22 : IsX wr.heap.size x sn (a.eval (Operand.tmp 22)) W := hd 17 22 (by kernel_rfl) rfl
      obtain ⟨v9, u22, t9⟩ := f22
      unfold StepOk
      rw [if_pos (by rfl)]
      clear hu hd
      generalize a.eval = ρ at *
      go_simp
      exact opOk_val rfl
    · intro a W hW hu hd
      have kc : ∀ c, a.eval (Operand.const c) = c := fun _ => rfl
      have kf : ∀ f, a.eval (Operand.func f) = .func (.func f) #[] #[] := fun _ => rfl
      have sW := st1.to hW
      have rl := sW.rules
      simp only [Rules, World.size_alloc] at rl
      have u23 : a.eval (Operand.tmp 23) = .pointer (some ⟨b, 0, none⟩) := hd 0 23 (by kernel_rfl) rfl
      unfold StepOk
      rw [if_pos (by rfl)]
      clear hu hd
      generalize a.eval = ρ at *
      go_simp
      exact opOk_val rfl
    · intro a W hW hu hd
      have kc : ∀ c, a.eval (Operand.const c) = c := fun _ => rfl
      have kf : ∀ f, a.eval (Operand.func f) = .func (.func f) #[] #[] := fun _ => rfl
      have sW := st1.to hW
      have rl := sW.rules
      simp only [Rules, World.size_alloc] at rl
      have u43 : a.eval (Operand.tmp 43) = .pointer (some ⟨b, 0, none⟩) := hd 21 43 (by kernel_rfl) rfl
      unfold StepOk
      rw [if_pos (by rfl)]
      clear hu hd
      generalize a.eval = ρ at *
      go_simp
      exact opOk_val rfl
    · intro a W hW hu hd
      have kc : ∀ c, a.eval (Operand.const c) = c := fun _ => rfl
      have kf : ∀ f, a.eval (Operand.func f) = .func (.func f) #[] #[] := fun _ => rfl
      have sW := st1.to hW
      have rl := sW.rules
      simp only [Rules, World.size_alloc] at rl
      have u44 : a.eval (Operand.tmp 44) = .pointer (some ⟨b, 0, none⟩) := hd 22 44 (by kernel_rfl) rfl
      unfold StepOk
      rw [if_pos (by rfl)]
      clear hu hd
      generalize a.eval = ρ at *
      go_simp
      exact opOk_val rfl
  case late =>
    intro q hqm oq hoq a W hW hu hd W'
    simp only [List.mem_cons, List.not_mem_nil, or_false] at hqm
    rcases hqm with rfl | rfl
    · cases hoq
      obtain ⟨v9, u22, t9⟩ : IsX wr.heap.size x sn (a.eval (Operand.tmp 22)) W := hd 17 22 (by kernel_rfl) rfl
      clear hu hd
      generalize a.eval = ρ at *
      go_simp
    · cases hoq
      obtain ⟨v9, u22, t9⟩ : IsX wr.heap.size x sn (a.eval (Operand.tmp 22)) W := hd 17 22 (by kernel_rfl) rfl
      clear hu hd
      generalize a.eval = ρ at *
      go_simp
  case lfact =>
    intro q hqm W
    simp only [List.mem_cons, List.not_mem_nil, or_false] at hqm
    rcases hqm with rfl | rfl <;> rfl
  case store =>
    intro os hos a W hW hu hd
    cases hos
    have sW := st1.to hW
    have u45 : a.eval (Operand.tmp 45) = .pointer (some ⟨b, 0, none⟩) := hd 23 45 (by kernel_rfl) rfl
    obtain ⟨⟨ts9, tc9⟩, l9, h9, u40, t9⟩ : IsT wr.heap.size x sn (a.eval (Operand.tmp 40)) W := hd 18 40 (by kernel_rfl) rfl
    try simp only [Hd.v] at u40
    have rl := sW.rules
    simp only [Rules] at rl
    clear hu hd
    generalize a.eval = ρ at *
    go_simp
  case endd =>
    intro v W hW hv
    have v0 : v 0 = (.pointer (some ⟨b, 0, none⟩)) := hv 0 (by omega)
    have v1 : v 1 = (.pointer (some ⟨b, 0, none⟩)) := hv 1 (by omega)
    have v2 : v 2 = (.pointer (some ⟨b, 0, none⟩)) := hv 2 (by omega)
    have v3 : v 3 = (.pointer (some ⟨b, 0, none⟩)) := hv 3 (by omega)
    have v4 : v 4 = (.pointer (some ⟨b, 0, none⟩)) := hv 4 (by omega)
    have v5 : v 5 = (.slice ts 1 tc) := hv 5 (by omega)
    have v6 : v 6 = (.pointer (some ⟨b, 0, none⟩)) := hv 6 (by omega)
    have v7 : v 7 = (.pointer (some ⟨b, 0, none⟩)) := hv 7 (by omega)
    have v8 : v 8 = (.pointer (some ⟨b, 0, none⟩)) := hv 8 (by omega)
    have v9 : v 9 = (.pointer (some ⟨b, 5, none⟩)) := hv 9 (by omega)
    have v10 : v 10 = (.int .u64 (nw : Int)) := hv 10 (by omega)
    have v11 : v 11 = (.pointer (some ⟨b, 0, none⟩)) := hv 11 (by omega)
    have v12 : v 12 = (.pointer (some ⟨b, 0, none⟩)) := hv 12 (by omega)
    have v13 : v 13 = (.pointer (some ⟨b, 6, none⟩)) := hv 13 (by omega)
    have v14 : v 14 = (.pointer (some ⟨b, 8, none⟩)) := hv 14 (by omega)
    have v15 : v 15 = (.int .u64 (ttl : Int)) := hv 15 (by omega)
    have hf16 : IsX wr.heap.size x sn (v 16) W := hv 16 (by omega)
    have hf17 : IsX wr.heap.size x sn (v 17) W := hv 17 (by omega)
    have hf18 : IsT wr.heap.size x sn (v 18) W := hv 18 (by omega)
    have v19 : v 19 = (.int .i64 0) := hv 19 (by omega)
    have v20 : v 20 = (.int .i64 0) := hv 20 (by omega)
    have v21 : v 21 = (.pointer (some ⟨b, 0, none⟩)) := hv 21 (by omega)
    have v22 : v 22 = (.pointer (some ⟨b, 0, none⟩)) := hv 22 (by omega)
    have v23 : v 23 = (.pointer (some ⟨b, 0, none⟩)) := hv 23 (by omega)
    clear hv
    simp only [List.take_succ_cons, List.take_zero, List.drop_succ_cons, List.drop_zero, putAll, Nat.zero_add, Nat.reduceAdd]
    rw [v0, v1, v2, v3, v4, v5, v6, v7, v8, v9, v10, v11, v12, v13, v14, v15, v19, v20, v21, v22, v23]
    clear v0 v1 v2 v3 v4 v5 v6 v7 v8 v9 v10 v11 v12 v13 v14 v15 v19 v20 v21 v22 v23
    have sW := st1.to hW
    obtain ⟨⟨ts9, tc9⟩, l9, h9, v18, hT9, hF9⟩ := hf18
    rw [v18]
    simp only [Hd.v]
    generalize v 16 = v16 at *
    generalize v 17 = v17 at *
    have hbw := blk_lt (st1.blk _ (List.mem_of_getElem? (i := 0) rfl))
    have rl := sW.rules
    simp only [Rules] at rl
    clear hf16 hf17 HE
    go_wp2_with fail
    have st2 := Stb.set H0.out sW 0 rfl (o := 0) (v := .slice ts9 1 tc9)
    simp only [setB, List.modify_succ_cons, List.modify_zero_cons, List.setIfInBounds_toArray, List.set_cons_zero, List.set_cons_succ] at st2
    have hb2 := st2.below
    rw [setRow_size] at hb2
    have hzr := HZR.out
    exact bodyPost_ret (v := .int .i64 0) (by simp [results, Tryz.results66, go_sem]) rfl ⟨rfl, ⟨ts9, tc9⟩, l9, h9, hT9.up hF9 ((KeepUp.refl _ _).set hbw _), ⟨hF9.1.mono (by omega), hF9.2.1.mono (by omega), hF9.2.2.mono (by omega)⟩, hb2⟩
end Go.Proofs.YtmgdbfmlnmahpaaGreatDoor
namespace Go.Proofs.YtmgdbfmlnmahpaaGreatDoor
open Go.RowKit Go.Shelf
set_option linter.unusedSimpArgs false
set_option linter.unusedVariables false
set_option maxRecDepth 100000
theorem tenCost0 (b : Nat) (ts : Option Addr) (tc : Nat) (w : World) (hbl : b < w.heap.size) (hb0 : w.cell? ⟨b, 0, none⟩ = some (.slice ts 0 tc)) : Calls Tryz.prog 29 #[.pointer (some ⟨b, 0, none⟩)] w fun e w' => e = .returned (.int .i64 0) ∧ Below w.heap.size w w' := by
  go_enter Tryz.func29, Tryz.ntmps29
  go_wp2_with fail
  refine (tenNone_any _ _).mono ?_
  rintro e w0 ⟨rfl, rfl⟩
  go_wp2_with fail
  refine (seCost0 _ _ _).mono ?_
  rintro e w0 ⟨rfl, rfl⟩
  go_wp2_with fail
  go_ret
  exact ⟨rfl, Below.refl _ _⟩
theorem tenCost1 (b : Nat) (ts : Option Addr) (tc : Nat) (w : World) (hbl : b < w.heap.size) (hb0 : w.cell? ⟨b, 0, none⟩ = some (.slice ts 1 tc)) (x : Sk) (sn : Nat) (l : Hd) (h : SkH) (hT : Tab1 w ⟨ts, tc⟩ x sn l h) : Calls Tryz.prog 29 #[.pointer (some ⟨b, 0, none⟩)] w fun e w' => e = .returned (.int .i64 (x.cost + 3 : Nat)) ∧ Below w.heap.size w w' := by
  have HC := Lib.hid (seCost1 ⟨ts, tc⟩ x sn l h w hT)
  clear hT
  generalize x.cost + 3 = co at *
  go_enter Tryz.func29, Tryz.ntmps29
  go_wp2_with fail
  refine (tenNone_any _ _).mono ?_
  rintro e w0 ⟨rfl, rfl⟩
  go_wp2_with fail
  refine HC.out.mono ?_
  rintro e w1 ⟨rfl, hb1⟩
  go_wp2_with fail
  go_ret
  exact ⟨rfl, hb1⟩
set_option maxHeartbeats 1000000 in
theorem own0 (b : Nat) (ts : Option Addr) (tc : Nat) (w : World) (hbl : b < w.heap.size) (hb0 : w.cell? ⟨b, 0, none⟩ = some (.slice ts 0 tc)) (sc : ByteArray) (hS : ScOk sc) (k : Nat) (h1 : 1 ≤ k) (h3 : k ≤ 3) : Calls Tryz.prog 49 #[.pointer (some ⟨b, 0, none⟩), .string sc, .int .i64 (k : Int)] w (GivesK0 w (Sk.new k)) := by
  have HM := Lib.hid (show ∀ W, Below w.heap.size w W → Calls Tryz.prog 76 #[.slice ts 0 tc, .string sc, .int .i64 (k : Int)] W (GivesK0 W (Sk.new k)) from fun W _ => seMerged0 k h1 h3 sc hS ts tc W)
  clear hS h1 h3
  generalize Sk.new k = y at *
  have st0 := (St.start w).alloc (cs := #[.int .i64 0, .int .i64 0, .slice none 0 0, .int .i64 0, .string ⟨#[]⟩, .int .i64 0, .int .i64 0, .slice none 0 0, .int .i64 0, .slice none 0 0]) (T := 103)
  go_enter Tryz.func49, Tryz.ntmps49
  go_wp2_with fail
  refine (tenNone_any _ _).mono ?_
  rintro e w0 ⟨rfl, hw0⟩
  subst hw0
  go_wp2_with fail
  refine (HM.out _ st0.below).mono ?_
  rintro e w1 ⟨⟨⟨es1, ec1⟩, ⟨cs1, cc1⟩, ⟨gs1, gc1⟩⟩, rfl, hd, hf, hb1⟩
  have HF := hf.mono (show w.heap.size + 1 ≤ _ by simp)
  have HD := Lib.hid hd
  have st1 := st0.to hb1
  have rl := st1.rules
  simp only [Rules] at rl
  clear st0 hb1 HM hd hf
  go_wp2_with fail
  refine bodyPost_ret (v := .tuple #[.agg #[.int .i64 y.kind, .int .i64 0, .slice es1 y.e.length ec1, .int .i64 0, .string ⟨#[]⟩, .int .i64 y.rows, .int .i64 y.cols, .slice cs1 y.c.length cc1, .int .i64 y.fine, .slice gs1 y.g.length gc1], .int .i64 0]) (by simp [results, Tryz.results49, go_sem, rl]) rfl ⟨⟨⟨es1, ec1⟩, ⟨cs1, cc1⟩, ⟨gs1, gc1⟩⟩, rfl, HD.out.up HF ?_, HF.mono (by omega), ?_⟩
  · repeat (with_reducible refine KeepUp.set ?_ (by omega) _)
    exact KeepUp.refl _ _
  · repeat (with_reducible refine Below.setCell ?_ (by simp; try omega) _)
    exact st1.below
set_option maxHeartbeats 1000000 in
theorem own1 (b : Nat) (ts : Option Addr) (tc : Nat) (w : World) (hbl : b < w.heap.size) (hb0 : w.cell? ⟨b, 0, none⟩ = some (.slice ts 1 tc)) (sc : ByteArray) (hS : ScOk sc) (k : Nat) (h1 : 1 ≤ k) (h3 : k ≤ 3) (x : Sk) (sn : Nat) (l : Hd) (h : SkH) (hT : Tab1 w ⟨ts, tc⟩ x sn l h) (hk : x.kind = (k : Int)) (hxl : x.len ≤ 60) : Calls Tryz.prog 49 #[.pointer (some ⟨b, 0, none⟩), .string sc, .int .i64 (k : Int)] w (GivesK0 w x) := by
  have HM := Lib.hid (show ∀ W, Below w.heap.size w W → Calls Tryz.prog 76 #[.slice ts 1 tc, .string sc, .int .i64 (k : Int)] W (GivesK0 W x) from fun W hW => seMerged1 k h1 h3 sc hS ⟨ts, tc⟩ x hk hxl sn l h W (hT.keepB hW))
  clear hS h1 h3 hT hxl hk
  generalize x = y at *
  have st0 := (St.start w).alloc (cs := #[.int .i64 0, .int .i64 0, .slice none 0 0, .int .i64 0, .string ⟨#[]⟩, .int .i64 0, .int .i64 0, .slice none 0 0, .int .i64 0, .slice none 0 0]) (T := 103)
  go_enter Tryz.func49, Tryz.ntmps49
  go_wp2_with fail
  refine (tenNone_any _ _).mono ?_
  rintro e w0 ⟨rfl, hw0⟩
  subst hw0
  go_wp2_with fail
  refine (HM.out _ st0.below).mono ?_
  rintro e w1 ⟨⟨⟨es1, ec1⟩, ⟨cs1, cc1⟩, ⟨gs1, gc1⟩⟩, rfl, hd, hf, hb1⟩
  have HF := hf.mono (show w.heap.size + 1 ≤ _ by simp)
  have HD := Lib.hid hd
  have st1 := st0.to hb1
  have rl := st1.rules
  simp only [Rules] at rl
  clear st0 hb1 HM hd hf
  go_wp2_with fail
  refine bodyPost_ret (v := .tuple #[.agg #[.int .i64 y.kind, .int .i64 0, .slice es1 y.e.length ec1, .int .i64 0, .string ⟨#[]⟩, .int .i64 y.rows, .int .i64 y.cols, .slice cs1 y.c.length cc1, .int .i64 y.fine, .slice gs1 y.g.length gc1], .int .i64 0]) (by simp [results, Tryz.results49, go_sem, rl]) rfl ⟨⟨⟨es1, ec1⟩, ⟨cs1, cc1⟩, ⟨gs1, gc1⟩⟩, rfl, HD.out.up HF ?_, HF.mono (by omega), ?_⟩
  · repeat (with_reducible refine KeepUp.set ?_ (by omega) _)
    exact KeepUp.refl _ _
  · repeat (with_reducible refine Below.setCell ?_ (by simp; try omega) _)
    exact st1.below
end Go.Proofs.YtmgdbfmlnmahpaaGreatDoor
namespace Go.Proofs.YtmgdbfmlnmahpaaGreatDoor
open Go.RowKit Go.Shelf
set_option linter.unusedSimpArgs false
set_option linter.unusedVariables false
set_option maxRecDepth 100000
theorem find_n0 (b v : Nat) (w : World) (hb2 : w.cell? ⟨b, 2, none⟩ = some (.slice none 0 0)) : Calls Tryz.prog 11 #[.pointer (some ⟨b, 0, none⟩), .int .u64 (v : Int)] w fun e w' => e = .returned (.pointer none) ∧ w' = w := by
  go_enter Tryz.func11, Tryz.ntmps11
  go_wp2_with fail
  refine (ix_none _ _).mono ?_
  rintro e w0 ⟨rfl, hw0⟩
  subst hw0
  go_wp2_with fail
  go_ret
  exact ⟨rfl, rfl⟩
theorem find_n1 (b v : Nat) (w : World) (c : Nat) (hc : v ≠ c) (g o cap : Nat) (hb2 : w.cell? ⟨b, 2, none⟩ = some (.slice (some ⟨g, o, none⟩) 1 cap)) (k0 : w.cell? ⟨g, o, none⟩ = some (.int .u64 (c : Int))) : Calls Tryz.prog 11 #[.pointer (some ⟨b, 0, none⟩), .int .u64 (v : Int)] w fun e w' => e = .returned (.pointer none) ∧ w' = w := by
  go_enter Tryz.func11, Tryz.ntmps11
  go_wp2_with fail
  refine (ix_one_no c v hc g o cap _ k0).mono ?_
  rintro e w0 ⟨rfl, hw0⟩
  subst hw0
  go_wp2_with fail
  go_ret
  exact ⟨rfl, rfl⟩
theorem find_20 (b v : Nat) (w : World) (c t : Nat) (g o cap g' o' cap' : Nat) (hb2 : w.cell? ⟨b, 2, none⟩ = some (.slice (some ⟨g, o, none⟩) 2 cap)) (hb3 : w.cell? ⟨b, 3, none⟩ = some (.slice (some ⟨g', o', none⟩) 2 cap')) (k0 : w.cell? ⟨g, o, none⟩ = some (.int .u64 (v : Int))) (k1 : w.cell? ⟨g, o + 1, none⟩ = some (.int .u64 (c : Int))) (p0 : w.cell? ⟨g', o', none⟩ = some (.pointer (some ⟨t, 0, none⟩))) : Calls Tryz.prog 11 #[.pointer (some ⟨b, 0, none⟩), .int .u64 (v : Int)] w fun e w' => e = .returned (.pointer (some ⟨t, 0, none⟩)) ∧ w' = w := by
  go_enter Tryz.func11, Tryz.ntmps11
  go_wp2_with fail
  refine (ix_two_0 c v g o cap _ k0 k1).mono ?_
  rintro e w0 ⟨rfl, hw0⟩
  subst hw0
  go_wp2_with fail
  go_ret
  exact ⟨rfl, rfl⟩
theorem find_21 (b v : Nat) (w : World) (c t : Nat) (hc : v ≠ c) (g o cap g' o' cap' : Nat) (hb2 : w.cell? ⟨b, 2, none⟩ = some (.slice (some ⟨g, o, none⟩) 2 cap)) (hb3 : w.cell? ⟨b, 3, none⟩ = some (.slice (some ⟨g', o', none⟩) 2 cap')) (k0 : w.cell? ⟨g, o, none⟩ = some (.int .u64 (c : Int))) (k1 : w.cell? ⟨g, o + 1, none⟩ = some (.int .u64 (v : Int))) (p1 : w.cell? ⟨g', o' + 1, none⟩ = some (.pointer (some ⟨t, 0, none⟩))) : Calls Tryz.prog 11 #[.pointer (some ⟨b, 0, none⟩), .int .u64 (v : Int)] w fun e w' => e = .returned (.pointer (some ⟨t, 0, none⟩)) ∧ w' = w := by
  go_enter Tryz.func11, Tryz.ntmps11
  go_wp2_with fail
  refine (ix_two_1 c v hc g o cap _ k0 k1).mono ?_
  rintro e w0 ⟨rfl, hw0⟩
  subst hw0
  go_wp2_with fail
  go_ret
  exact ⟨rfl, rfl⟩
end Go.Proofs.YtmgdbfmlnmahpaaGreatDoor
namespace Go.Proofs.YtmgdbfmlnmahpaaGreatDoor
open Go.RowKit Go.Shelf
set_option linter.unusedSimpArgs false
set_option linter.unusedVariables false
set_option maxRecDepth 100000
theorem admin_any (v : Nat) (w : World) : Calls Tryz.prog 9 #[.int .u64 (v : Int)] w fun e w' => e = .returned (.agg #[.int .u64 (v : Int), .int .i64 3, .int .u64 0]) ∧ Below w.heap.size w w' := by
  go_enter Tryz.func9, Tryz.ntmps9
  go_wp2_with fail
  exact bodyPost_ret (v := .agg #[.int .u64 (v : Int), .int .i64 3, .int .u64 0]) (by simp [results, Tryz.results9, go_sem]) rfl ⟨rfl, (Below.refl _ _).alloc (Nat.le_refl _) _⟩
theorem run_buildC (a0 a1 a2 b0 b1 b2 : Value) (w : World) : (Instr.buildSlice 31 2 #[(0, .agg #[a0, a1, a2]), (1, .agg #[b0, b1, b2])]).run Tryz.prog w = .ok (.slice (some ⟨w.heap.size, 0, none⟩) 2 2) (w.alloc (.cells #[a0, a1, a2, b0, b1, b2] 59)) := by kernel_rfl
set_option maxHeartbeats 1000000 in
theorem two_any (bu ttl : Nat) (w : World) : Calls Tryz.prog 7 #[.int .i64 (bu : Int), .int .u64 (ttl : Int)] w fun e w' => e = .returned (.slice (some ⟨w.heap.size, 0, none⟩) 2 2) ∧ w' = w.alloc (.cells #[.int .u64 1, .int .i64 (bu : Int), .int .u64 (ttl : Int), .int .u64 2, .int .i64 (bu : Int), .int .u64 (ttl : Int)] 59) := by
  go_enter Tryz.func7, Tryz.ntmps7
  go_wp2_with fail
  go_ret
  exact ⟨rfl, rfl⟩
end Go.Proofs.YtmgdbfmlnmahpaaGreatDoor
namespace Go.Proofs.YtmgdbfmlnmahpaaGreatDoor
open Go.RowKit Go.Shelf
set_option linter.unusedSimpArgs false
set_option linter.unusedVariables false
set_option maxRecDepth 100000
set_option maxHeartbeats 1000000 in
theorem queryB (y : Sk) (hy : y.Ok) (a k : Nat) (ha : a ≤ maxU) (sc : ByteArray) (b g0 o0 g1 o1 g2 o2 g3 o3 B4 : Nat) (w : World) (c0 : w.cell? ⟨g0, o0, none⟩ = some (.pointer (some ⟨b, 0, none⟩))) (c1 : w.cell? ⟨g1, o1, none⟩ = some (.string sc)) (c2 : w.cell? ⟨g2, o2, none⟩ = some (.int .i64 (k : Int))) (c3 : w.cell? ⟨g3, o3, none⟩ = some (.int .u64 (a : Int))) (h3 : g3 < w.heap.size) (h4 : w.heap[B4]? = some (.cells #[.int .u64 0] 22 (0, 0)))
    (HO : Calls Tryz.prog 49 #[.pointer (some ⟨b, 0, none⟩), .string sc, .int .i64 (k : Int)] w (GivesK0 w y)) :
    Calls Tryz.prog 48 #[.pointer (some ⟨g0, o0, none⟩), .pointer (some ⟨g1, o1, none⟩), .pointer (some ⟨g2, o2, none⟩), .pointer (some ⟨g3, o3, none⟩), .pointer (some ⟨B4, 0, none⟩)] w fun e w' => e = .returned (.int .i64 0) ∧ Below w.heap.size (w.setRow B4 #[.int .u64 (y.ask a : Nat)]) w' := by
  have HA := Lib.hid (fun h' W hK => ladAsk_any y hy a ha h' W hK)
  have HO' := Lib.hid HO
  have st0 := Stb.start h4
  have H4 := Lib.hid h4
  clear HO h4 hy ha
  generalize y.ask a = r at *
  go_enter Tryz.func48, Tryz.ntmps48
  go_wp2_with fail
  refine HO'.out.mono ?_
  rintro e w1 ⟨⟨⟨es1, ec1⟩, ⟨cs1, cc1⟩, ⟨gs1, gc1⟩⟩, rfl, hd, _, hb1⟩
  have c3' : w1.cell? ⟨g3, o3, none⟩ = some (.int .u64 (a : Int)) := (hb1.cell (p := ⟨g3, o3, none⟩) h3).trans c3
  have h3' : g3 < w1.heap.size := Nat.lt_of_lt_of_le h3 hb1.size
  have st1 := (st0.to hb1).alloc (cs := #[.int .i64 y.kind, .int .i64 0, .slice es1 y.e.length ec1, .int .i64 0, .string ⟨#[]⟩, .int .i64 y.rows, .int .i64 y.cols, .slice cs1 y.c.length cc1, .int .i64 y.fine, .slice gs1 y.g.length gc1]) (T := 103)
  have HD := Lib.hid (hd.keepB ((Below.refl w1.heap.size w1).alloc (Nat.le_refl _) (.cells #[.int .i64 y.kind, .int .i64 0, .slice es1 y.e.length ec1, .int .i64 0, .string ⟨#[]⟩, .int .i64 y.rows, .int .i64 y.cols, .slice cs1 y.c.length cc1, .int .i64 y.fine, .slice gs1 y.g.length gc1] 103)))
  simp only [SkH.v, Hd.v]
  clear c0 c1 c2 c3 hd hb1 HO' st0
  go_wp2_with fail
  refine (HA.out _ _ HD.out).mono ?_
  rintro e w2 ⟨rfl, hb2⟩
  have st2 := st1.to hb2
  have rl := st2.rules
  simp only [Rules] at rl
  clear st1 hb2 HA
  go_wp2_with fail
  have st3 := Stb.set H4.out st2 1 rfl (o := 0) (v := .int .u64 (r : Nat))
  simp only [setB, List.modify_succ_cons, List.modify_zero_cons, List.setIfInBounds_toArray, List.set_cons_zero, List.set_cons_succ] at st3
  have hb3 := st3.below
  rw [setRow_size] at hb3
  go_ret
  exact ⟨rfl, hb3⟩
end Go.Proofs.YtmgdbfmlnmahpaaGreatDoor
namespace Go.Proofs.YtmgdbfmlnmahpaaGreatDoor
open Go.RowKit Go.Shelf
set_option linter.unusedSimpArgs false
set_option linter.unusedVariables false
set_option maxRecDepth 100000
theorem doD_ok (g o : Nat) (p q : Value) (u : FrameMode) (w : World) (c : w.cell? ⟨g, o, none⟩ = some (.int .i64 0)) : CallsD Tryz.prog 65 #[.pointer (some ⟨g, o, none⟩), p, q] u w fun e u' w' => u' = u ∧ (e = .returned (.tuple #[]) ∧ w' = w) := by
  go_enter_d Tryz.func65, Tryz.ntmps65
  go_wp2_with fail
  go_end0
  exact ⟨rfl, rfl⟩
end Go.Proofs.YtmgdbfmlnmahpaaGreatDoor
namespace Go.Proofs.YtmgdbfmlnmahpaaGreatDoor
open Go.RowKit
set_option linter.unusedSimpArgs false
set_option linter.unusedVariables false
structure FrB (S : List Nat) (w w' : World) : Prop where
  os : w'.os = w.os
  tape : w'.tape = w.tape
  output : w'.output = w.output
  size : w.heap.size ≤ w'.heap.size
  block : ∀ k, k < w.heap.size → k ∉ S → w'.heap[k]? = w.heap[k]?
theorem FrB.refl (S : List Nat) (w : World) : FrB S w w := ⟨rfl, rfl, rfl, Nat.le_refl _, fun _ _ _ => rfl⟩
theorem FrB.of {S : List Nat} {w w' : World} (h : Below w.heap.size w w') : FrB S w w' := ⟨h.os, h.tape, h.output, h.size, fun k hk _ => h.block k hk⟩
theorem FrB.trans {S S' : List Nat} {w W W' : World} (h : FrB S w W) (h' : FrB S' W W') (hS : ∀ k ∈ S', k ∈ S ∨ w.heap.size ≤ k) : FrB S w W' :=
  ⟨h'.os.trans h.os, h'.tape.trans h.tape, h'.output.trans h.output, Nat.le_trans h.size h'.size, fun k hk hn => (h'.block k (Nat.lt_of_lt_of_le hk h.size) (fun hm => by rcases hS k hm with e | e; exact hn e; omega)).trans (h.block k hk hn)⟩
theorem FrB.mono {S S' : List Nat} {w W : World} (h : FrB S' w W) (hS : ∀ k ∈ S', k ∈ S ∨ w.heap.size ≤ k) : FrB S w W := (FrB.refl S w).trans h hS
theorem FrB.below {w w' : World} (h : FrB [] w w') : Below w.heap.size w w' := ⟨h.os, h.tape, h.output, h.size, fun k hk => h.block k hk (by simp)⟩
theorem FrB.ofRow {w w' : World} {b : Nat} {cs0 cs : Array Value} {T : TypeId} (h0 : w.heap[b]? = some (.cells cs0 T (0, 0))) (h : Below w.heap.size (w.setRow b cs) w') : FrB [b] w w' ∧ w'.heap[b]? = some (.cells cs T (0, 0)) := by
  refine ⟨⟨h.os, h.tape, h.output, ?_, fun k hk hn => ?_⟩, ?_⟩
  · have := h.size
    rwa [setRow_size] at this
  · exact (h.block k hk).trans (setRow_other w b k _ (by simpa using hn))
  · exact (h.block b (blk_lt h0)).trans (setRow_heap w b cs0 cs T _ h0)
theorem FrB.set {S : List Nat} {w W : World} (h : FrB S w W) {A o : Nat} {v : Value} (hA : A ∈ S ∨ w.heap.size ≤ A) : FrB S w (W.setCell ⟨A, o, none⟩ v) := by
  refine ⟨h.os, h.tape, h.output, ?_, fun k hk hn => ?_⟩
  · simpa [World.setCell] using h.size
  · have hne : k ≠ A := by rintro rfl; rcases hA with e | e; exact hn e; omega
    exact (Below.heap_setCell W ⟨A, o, none⟩ v k hne).trans (h.block k hk hn)
structure Fr (w0 : World) (S : List Nat) (bl : List Blk) (W : World) : Prop where
  st : St { w0 with heap := #[] } bl (fun _ => True) W
  fr : FrB S w0 W
theorem Fr.start (w : World) (S : List Nat) : Fr w S [] w := ⟨Stb.zero (St.start w), FrB.refl _ _⟩
theorem Fr.add {w0 : World} {S : List Nat} {bl : List Blk} {W : World} (h : Fr w0 S bl W) {b : Nat} {cs : Array Value} {T : TypeId} (hb : W.heap[b]? = some (.cells cs T (0, 0))) (hn : ∀ x ∈ bl, b ≠ x.1) : Fr w0 S ((b, cs, T) :: bl) W :=
  ⟨⟨h.st.below, fun x hx => by rcases List.mem_cons.1 hx with rfl | hx; exact hb; exact h.st.blk x hx, List.pairwise_cons.2 ⟨fun x hx => hn x hx, h.st.nd⟩, trivial, fun _ _ _ _ => trivial⟩, h.fr⟩
theorem Fr.to {w0 : World} {S : List Nat} {bl : List Blk} {W W' : World} (h : Fr w0 S bl W) (hb : Below W.heap.size W W') : Fr w0 S bl W' := ⟨h.st.to hb, h.fr.trans (FrB.of (S := []) hb) (by simp)⟩
theorem Fr.alloc {w0 : World} {S : List Nat} {bl : List Blk} {W : World} (h : Fr w0 S bl W) {cs : Array Value} {T : TypeId} : Fr w0 S ((W.heap.size, cs, T) :: bl) (W.alloc (.cells cs T)) := ⟨h.st.alloc, h.fr.trans (FrB.of (S := []) ((Below.refl _ _).alloc (Nat.le_refl _) _)) (by simp)⟩
theorem Fr.set {w0 : World} {S : List Nat} {bl : List Blk} {W : World} (h : Fr w0 S bl W) (i : Nat) {A : Nat} {cs : Array Value} {T : TypeId} (hi : bl[i]? = some (A, cs, T)) (hA : A ∈ S ∨ w0.heap.size ≤ A) {o : Nat} {v : Value} : Fr w0 S (setB bl i o v) (W.setCell ⟨A, o, none⟩ v) := ⟨h.st.setT i hi (Nat.zero_le _), h.fr.set hA⟩
theorem Fr.less {w0 : World} {S : List Nat} {bl : List Blk} {W : World} (h : Fr w0 S bl W) (bl' : List Blk) (hs : bl'.Sublist bl) : Fr w0 S bl' W := ⟨h.st.less bl' hs, h.fr⟩
theorem Fr.rules {w0 : World} {S : List Nat} {bl : List Blk} {W : World} (h : Fr w0 S bl W) : Rules W bl := h.st.rules
theorem Fr.blk {w0 : World} {S : List Nat} {bl : List Blk} {W : World} (h : Fr w0 S bl W) (i : Nat) {A : Nat} {cs : Array Value} {T : TypeId} (hi : bl[i]? = some (A, cs, T)) : W.heap[A]? = some (.cells cs T (0, 0)) := h.st.blk _ (List.mem_of_getElem? hi)
theorem Fr.row {w0 : World} {S S' : List Nat} {b : Nat} {cs cs' : Array Value} {T : TypeId} {bl : List Blk} {W W' : World} (h : Fr w0 S ((b, cs, T) :: bl) W) (hc : FrB S' W W') (hS : ∀ k ∈ S', k ∈ S ∨ w0.heap.size ≤ k) (hb : W'.heap[b]? = some (.cells cs' T (0, 0))) (hn : ∀ x ∈ bl, x.1 ∉ S') : Fr w0 S ((b, cs', T) :: bl) W' := by
  have hp := List.pairwise_cons.1 h.st.nd
  refine ⟨⟨⟨hc.os.trans h.st.below.os, hc.tape.trans h.st.below.tape, hc.output.trans h.st.below.output, Nat.zero_le _, fun _ hk => absurd hk (Nat.not_lt_zero _)⟩, fun x hx => ?_, List.pairwise_cons.2 hp, trivial, fun _ _ _ _ => trivial⟩, h.fr.trans hc hS⟩
  rcases List.mem_cons.1 hx with rfl | hx
  · exact hb
  · have h1 := h.st.blk x (by simp [hx])
    exact (hc.block x.1 (blk_lt h1) (hn x hx)).trans h1
theorem Fr.row2 {w0 : World} {S S' : List Nat} {b d : Nat} {cs cs' ds ds' : Array Value} {T U : TypeId} {bl : List Blk} {W W' : World} (h : Fr w0 S ((b, cs, T) :: (d, ds, U) :: bl) W) (hc : FrB S' W W') (hS : ∀ k ∈ S', k ∈ S ∨ w0.heap.size ≤ k) (hb : W'.heap[b]? = some (.cells cs' T (0, 0))) (hd : W'.heap[d]? = some (.cells ds' U (0, 0))) (hn : ∀ x ∈ bl, x.1 ∉ S') : Fr w0 S ((b, cs', T) :: (d, ds', U) :: bl) W' := by
  have hp := List.pairwise_cons.1 h.st.nd
  have hq := List.pairwise_cons.1 hp.2
  refine ⟨⟨⟨hc.os.trans h.st.below.os, hc.tape.trans h.st.below.tape, hc.output.trans h.st.below.output, Nat.zero_le _, fun _ hk => absurd hk (Nat.not_lt_zero _)⟩, fun x hx => ?_, List.pairwise_cons.2 ⟨fun x hx => ?_, List.pairwise_cons.2 hq⟩, trivial, fun _ _ _ _ => trivial⟩, h.fr.trans hc hS⟩
  · rcases List.mem_cons.1 hx with rfl | hx
    · exact hb
    · rcases List.mem_cons.1 hx with rfl | hx
      · exact hd
      · have h1 := h.st.blk x (by simp [hx])
        exact (hc.block x.1 (blk_lt h1) (hn x hx)).trans h1
  · rcases List.mem_cons.1 hx with rfl | hx
    · exact hp.1 (d, ds, U) (by simp)
    · exact hp.1 x (by simp [hx])
theorem Fr.front {w0 : World} {S : List Nat} {l1 l2 : List Blk} {x : Blk} {W : World} (h : Fr w0 S (l1 ++ x :: l2) W) : Fr w0 S (x :: (l1 ++ l2)) W := by
  have hp : (l1 ++ x :: l2).Perm (x :: (l1 ++ l2)) := List.perm_middle
  exact ⟨⟨h.st.below, fun y hy => h.st.blk y (hp.symm.subset hy), (hp.pairwise_iff (fun h e => h e.symm)).1 h.st.nd, trivial, fun _ _ _ _ => trivial⟩, h.fr⟩
def Off (S : List Nat) (d : Hd) : Prop := ∀ g o, d.s = some ⟨g, o, none⟩ → g ∉ S
theorem Off.fresh {S : List Nat} {d : Hd} {B : Nat} (h : Fresh B d) (hS : ∀ k ∈ S, k < B) : Off S d := fun g o e hm => by have := h g o e; have := hS g hm; omega
theorem RdH.fr {α : Type} {k : Nat} {enc : α → List Value} {S : List Nat} {W W' : World} {h : Hd} {L : List α} (r : RdH k enc W h L) (hf : Off S h) (hk : FrB S W W') : RdH k enc W' h L := by
  refine ⟨fun i x hx => ?_, r.cap, r.max, r.nil, r.plain⟩
  obtain ⟨g, o, e, hg, hc⟩ := r.rd i x hx
  refine ⟨g, o, e, Nat.lt_of_lt_of_le hg hk.size, fun j u hu => ?_⟩
  rw [← hc j u hu]
  simp only [World.cell?, hk.block g hg (hf g o e)]
def OffK (S : List Nat) (h : SkH) : Prop := Off S h.e ∧ Off S h.c ∧ Off S h.g
def OffT (S : List Nat) (t l : Hd) (h : SkH) : Prop := Off S t ∧ Off S l ∧ OffK S h
theorem OffT.fresh {S : List Nat} {t l : Hd} {h : SkH} {B : Nat} (f1 : Fresh B t) (f2 : Fresh B l) (f3 : FreshK B h) (hS : ∀ k ∈ S, k < B) : OffT S t l h := ⟨.fresh f1 hS, .fresh f2 hS, .fresh f3.1 hS, .fresh f3.2.1 hS, .fresh f3.2.2 hS⟩
theorem RdK.fr {S : List Nat} {W W' : World} {x : Sk} {h : SkH} (r : RdK W x h) (hf : OffK S h) (hk : FrB S W W') : RdK W' x h := ⟨r.e.fr hf.1 hk, r.c.fr hf.2.1 hk, r.g.fr hf.2.2 hk⟩
theorem Tab1.fr {S : List Nat} {W W' : World} {t : Hd} {x : Sk} {sn : Nat} {l : Hd} {h : SkH} (r : Tab1 W t x sn l h) (hf : OffT S t l h) (hk : FrB S W W') : Tab1 W' t x sn l h := ⟨r.t.fr hf.1 hk, r.l.fr hf.2.1 hk, r.k.fr hf.2.2 hk, r.ok⟩
end Go.Proofs.YtmgdbfmlnmahpaaGreatDoor
