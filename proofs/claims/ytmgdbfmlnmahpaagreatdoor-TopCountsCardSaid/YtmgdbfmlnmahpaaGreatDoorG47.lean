/- A part of the proof of TopCounts. -/
import Derived.Test.YtmgdbfmlnmahpaaGreatDoorG39
namespace Go.Proofs.YtmgdbfmlnmahpaaGreatDoor
open Go.RowKit Go.Shelf
set_option linter.unusedSimpArgs false
set_option linter.unusedVariables false
set_option maxRecDepth 100000
structure TS where
  ts : Option Addr
  tn : Nat
  tc : Nat
  gn : Nat
  gs : Option Addr
  gl : Nat
  gc : Nat
def IsA2 (B : Nat) (M : List Ent) : Value → World → Prop := fun v W => ∃ v0, v = .tuple #[.agg #[.int .u64 0, v0], .int .i64 0] ∧ OwnE W B v0 M
theorem stableA2 (B : Nat) (M : List Ent) : Stable (IsA2 B M) := fun _ W W' ⟨v0, h1, h2⟩ hb => ⟨v0, h1, ownsRow_keep W W' h2 hb⟩
def IsA1 (B : Nat) (M : List Ent) : Value → World → Prop := fun v W => ∃ v0, v = .agg #[.int .u64 0, v0] ∧ OwnE W B v0 M
theorem stableA1 (B : Nat) (M : List Ent) : Stable (IsA1 B M) := fun _ W W' ⟨v0, h1, h2⟩ hb => ⟨v0, h1, ownsRow_keep W W' h2 hb⟩
set_option maxHeartbeats 4000000 in
theorem do_ok (w : World) (b nw id ttl : Nat) (bu : Int) (ka kb : BitVec 64) (hnw : nw ≤ maxU) (x0 : TS) (L : List Ent) (hL : ∀ x ∈ L, x.Ok) (hl30 : L.length < 30) (lgs : Option Addr) (lgc : Nat) (hcap : L.length ≤ lgc) (hcn : lgs = none → lgc = 0) (tx : ByteArray) (hyes : AppOk ka kb 0 L nw tx)
    (fn : Nat) (caps : Array Value) (S : List Nat) (hS : ∀ k ∈ S, k < w.heap.size) (sb : Nat) (hsb : sb ∉ S) (h0 : w.heap[b]? = some (.cells #[.slice x0.ts x0.tn x0.tc, .int .u64 (x0.gn : Int), .slice x0.gs x0.gl x0.gc, .int .u64 0, .slice lgs L.length lgc, .int .u64 (nw : Int), .int .u64 (id : Int), .int .i64 bu, .int .u64 (ttl : Int), .int .u64 (un ka), .int .u64 (un kb)] 83 (0, 0))) (hs : w.heap[sb]? = some (.cells #[.func (.func fn) #[] caps] 122 (0, 0)))
    (P Q : TS → World → Prop) (HP : ∀ x W W', P x W → FrB [w.heap.size + 1] W W' → P x W') (HQ : ∀ x W W', Q x W → FrB [b, w.heap.size + 1] W W' → Q x W') (HLog : ∀ W, FrB (b :: S) w W → Ents W lgs L)
    (hE : ∀ (args : Array Value) (w : World), (callFunc fn args).run Tryz.prog w = .ok (.enter fn args) w)
    (HC : ∀ W, FrB [] w W → w.heap.size + 3 ≤ W.heap.size → Calls Tryz.prog 66 #[.pointer (some ⟨b, 0, none⟩), .int .u64 (nw : Int)] W fun e w' => ∃ x, e = .returned (.int .i64 0) ∧ P x w' ∧ FrB [b] W w' ∧ w'.heap[b]? = some (.cells #[.slice x.ts x.tn x.tc, .int .u64 (x.gn : Int), .slice x.gs x.gl x.gc, .int .u64 0, .slice lgs L.length lgc, .int .u64 (nw : Int), .int .u64 (id : Int), .int .i64 bu, .int .u64 (ttl : Int), .int .u64 (un ka), .int .u64 (un kb)] 83 (0, 0)))
    (HF : ∀ x W, P x W → FrB [b] w W → w.heap.size + 3 ≤ W.heap.size → W.heap[b]? = some (.cells #[.slice x.ts x.tn x.tc, .int .u64 (x.gn : Int), .slice x.gs x.gl x.gc, .int .u64 0, .slice lgs L.length lgc, .int .u64 (nw : Int), .int .u64 (id : Int), .int .i64 bu, .int .u64 (ttl : Int), .int .u64 (un ka), .int .u64 (un kb)] 83 (0, 0)) → Calls Tryz.prog fn caps W fun e w' => ∃ y, e = .returned (.int .i64 0) ∧ Q y w' ∧ FrB (b :: S) W w' ∧ w'.heap[b]? = some (.cells #[.slice y.ts y.tn y.tc, .int .u64 (y.gn : Int), .slice y.gs y.gl y.gc, .int .u64 0, .slice lgs L.length lgc, .int .u64 (nw : Int), .int .u64 (id : Int), .int .i64 bu, .int .u64 (ttl : Int), .int .u64 (un ka), .int .u64 (un kb)] 83 (0, 0))) :
    Calls Tryz.prog 43 #[.pointer (some ⟨b, 0, none⟩), .int .u64 (nw : Int), .string tx, .slice (some ⟨sb, 0, none⟩) 1 1] w fun e w' => ∃ y v, e = .returned (.int .i64 0) ∧ Q y w' ∧ OwnE w' w.heap.size v (appL ka kb 0 L nw tx) ∧ FrB (b :: S) w w' ∧ w'.heap[b]? = some (.cells #[.slice y.ts y.tn y.tc, .int .u64 (y.gn : Int), .slice y.gs y.gl y.gc, .int .u64 0, v, .int .u64 (nw : Int), .int .u64 (id : Int), .int .i64 bu, .int .u64 (ttl : Int), .int .u64 (un ka), .int .u64 (un kb)] 83 (0, 0)) := by
  have hne : b ≠ sb := by rintro rfl; rw [h0] at hs; cases hs
  have f0 := ((((Fr.start w (b :: S)).add hs (by simp)).add h0 (by intro x hx; simp at hx; subst hx; exact hne)).alloc (cs := #[.pointer (some ⟨b, 0, none⟩)]) (T := 60)).alloc (cs := #[.int .i64 0]) (T := 28)
  have hbw := blk_lt h0
  have hsw := blk_lt hs
  have hmf : ∀ (fn : Fn) (first cap : Array Value) (w : World), (Instr.makeFunc fn first cap).run Tryz.prog w = .ok (.func fn first cap) w := fun _ _ _ _ => rfl
  have HC' := Lib.hid HC
  have HF' := Lib.hid HF
  have HP' := Lib.hid HP
  have HQ' := Lib.hid HQ
  have HL' := Lib.hid HLog
  have HA := Lib.hid (fun W hW => append_yes ka kb 0 (Int.le_refl _) (by decide) L hL lgs lgc hcap hcn (nw : Int) (by omega) (by unfold maxU at hnw; omega) tx W hW hyes)
  have HB := Lib.hid (show appB 0 L = 0 by unfold appB; rw [if_neg (by omega)])
  clear HC HF HP HQ HLog hL hyes hcap hcn hnw h0 hs hl30
  simp only [World.size_alloc] at f0
  have rl := f0.rules
  simp only [Rules, World.size_alloc] at rl
  go_enter_defers Tryz.func43, Tryz.ntmps43
  go_wp2_with fail
  refine (tenNone_any _ _).mono ?_
  rintro e w1 ⟨rfl, hw1⟩
  subst hw1
  go_wp2_with fail
  have hnS : ∀ k, w.heap.size ≤ k → k ∉ b :: S := fun k hk hm => by
    rcases List.mem_cons.1 hm with rfl | hm
    · omega
    · have := hS k hm; omega
  have HNS := Lib.hid hnS
  have fa := (f0.alloc (cs := #[.slice x0.ts x0.tn x0.tc, .int .u64 (x0.gn : Int), .slice x0.gs x0.gl x0.gc, .int .u64 0, .slice lgs L.length lgc, .int .u64 (nw : Int)]) (T := 81)).front (l1 := [_, _, _])
  simp only [World.size_alloc, List.cons_append, List.nil_append] at fa
  refine (HC'.out _ ?fb (by simp)).mono ?_
  case fb => exact FrB.of ((((Below.refl w.heap.size w).alloc (Nat.le_refl _) _).alloc (by simp) _).alloc (by simp; omega) _)
  rintro e w1 ⟨x1, rfl, hP1, hc1, hb1⟩
  have f1 := fa.row hc1 (by simp) hb1 (by intro x hx; simp at hx; rcases hx with rfl | rfl | rfl | rfl <;> simp <;> omega)
  have rl := f1.rules
  simp only [Rules] at rl
  have f2 := f1.set 2 (A := w.heap.size + 1) rfl (.inr (by omega)) (o := 0) (v := .int .i64 0)
  simp only [setB, List.modify_succ_cons, List.modify_zero_cons, List.setIfInBounds_toArray, List.set_cons_zero, List.set_cons_succ] at f2
  have hP2 := HP'.out _ _ _ hP1 ((FrB.refl [w.heap.size + 1] w1).set (A := w.heap.size + 1) (o := 0) (v := .int .i64 0) (.inl (by simp)))
  have HP2 := Lib.hid hP2
  have HFb := Lib.hid (show FrB [b] w (w1.setCell ⟨w.heap.size + 1, 0, none⟩ (.int .i64 0)) from ((FrB.of (S := [b]) ((((Below.refl w.heap.size w).alloc (Nat.le_refl _) (.cells #[.pointer (some ⟨b, 0, none⟩)] 60)).alloc (by simp) (.cells #[.int .i64 0] 28)).alloc (by simp; omega) (.cells #[.slice x0.ts x0.tn x0.tc, .int .u64 (x0.gn : Int), .slice x0.gs x0.gl x0.gc, .int .u64 0, .slice lgs L.length lgc, .int .u64 (nw : Int)] 81))).trans hc1 (by simp)).set (.inr (by omega)))
  clear hP1 hc1 hb1 fa f0 HC' HP' hP2
  go_wp2_with fail
  refine wp_loop_rounds 2 ?_
  rw [rounds_succ]
  generalize w1.setCell ⟨w.heap.size + 1, 0, none⟩ (.int .i64 0) = w2 at *
  have rl := f2.rules
  simp only [Rules] at rl
  clear f1
  go_wp2_with fail
  refine (HF'.out _ _ HP2.out HFb.out (by have := blk_lt (f2.blk 1 rfl); omega) (f2.blk 0 rfl)).mono ?_
  rintro e w3 ⟨x2, rfl, hQ3, hc3, hb3⟩
  have f3 := f2.row hc3 (fun k hk => .inl hk) hb3 (by intro x hx; simp only [List.mem_cons, List.not_mem_nil, or_false] at hx; rcases hx with rfl | rfl | rfl | rfl; exact hnS _ (by simp <;> omega); exact hnS _ (by simp <;> omega); exact hnS _ (by simp <;> omega); exact fun hm => by rcases List.mem_cons.1 hm with e | e; exact hne e.symm; exact hsb e)
  have f4 := f3.set 2 (A := w.heap.size + 1) rfl (.inr (by omega)) (o := 0) (v := .int .i64 0)
  simp only [setB, List.modify_succ_cons, List.modify_zero_cons, List.setIfInBounds_toArray, List.set_cons_zero, List.set_cons_succ] at f4
  have HQ4 := Lib.hid (HQ'.out _ _ _ hQ3 ((FrB.refl [b, w.heap.size + 1] w3).set (A := w.heap.size + 1) (o := 0) (v := .int .i64 0) (.inl (by simp))))
  have rl := f3.rules
  simp only [Rules] at rl
  clear hQ3 hc3 hb3 HF' f2 HP2 HFb
  go_wp2_with fail
  rw [rounds_succ]
  generalize w3.setCell ⟨w.heap.size + 1, 0, none⟩ (.int .i64 0) = wr at *
  have rl := f4.rules
  simp only [Rules] at rl
  clear f3
  go_wp2_with fail
  have HAP := Lib.hid (show ∀ W, Below wr.heap.size wr W → Calls Tryz.prog 67 #[.agg #[.int .u64 (un ka), .int .u64 (un kb)], .agg #[.int .u64 0, .slice lgs L.length lgc], .int .u64 (nw : Int), .string tx] W fun e w' => ∃ v, e = .returned (.tuple #[.agg #[.int .u64 0, v], .int .i64 0]) ∧ OwnE w' wr.heap.size v (appL ka kb 0 L nw tx) ∧ Below W.heap.size W w' from fun W hW => by
    have := HA.out W (HL'.out W (f4.fr.trans (FrB.of (S := []) hW) (by simp)))
    rw [HB.out] at this
    exact this.mono fun e w' ⟨v, h1, h2, h3⟩ => ⟨v, h1, ownsRow_base h2 hW.size, h3⟩)
  clear HA HB HL'
  refine region_lates 23 [19] (fun q => .int .i64 0) (Fs [IsVal (.pointer (some ⟨b, 0, none⟩)), IsVal (.pointer (some ⟨b, 0, none⟩)), IsVal (.pointer (some ⟨b, 0, none⟩)), IsVal (.pointer (some ⟨b, 9, none⟩)), IsVal (.agg #[.int .u64 (un ka), .int .u64 (un kb)]), IsVal (.pointer (some ⟨b, 0, none⟩)), IsVal (.pointer (some ⟨b, 0, none⟩)), IsVal (.pointer (some ⟨b, 0, none⟩)), IsVal (.pointer (some ⟨b, 3, none⟩)), IsVal (.agg #[.int .u64 0, .slice lgs L.length lgc]), IsVal (.pointer (some ⟨b, 0, none⟩)), IsVal (.pointer (some ⟨b, 0, none⟩)), IsVal (.pointer (some ⟨b, 0, none⟩)), IsVal (.pointer (some ⟨b, 5, none⟩)), IsVal (.int .u64 (nw : Int)), IsVal (.string tx), IsA2 wr.heap.size (appL ka kb 0 L nw tx), IsA2 wr.heap.size (appL ka kb 0 L nw tx), IsA1 wr.heap.size (appL ka kb 0 L nw tx), IsVal (.int .i64 0), IsVal (.pointer (some ⟨b, 0, none⟩)), IsVal (.pointer (some ⟨b, 0, none⟩)), IsVal (.pointer (some ⟨b, 3, none⟩))]) (by kernel_rfl) (by kernel_rfl) (by kernel_rfl) (Fs_stable _ ?stab) ?spec ?late ?lfact ?store ?endd
  case stab =>
    simp only [List.forall_mem_cons]
    exact ⟨stableVal _, stableVal _, stableVal _, stableVal _, stableVal _, stableVal _, stableVal _, stableVal _, stableVal _, stableVal _, stableVal _, stableVal _, stableVal _, stableVal _, stableVal _, stableVal _, stableA2 _ _, stableA2 _ _, stableA1 _ _, stableVal _, stableVal _, stableVal _, stableVal _, by simp⟩
  case spec =>
    refine ⟨?_, ?_, ?_, ?_, ?_, ?_, ?_, ?_, ?_, ?_, ?_, ?_, ?_, ?_, ?_, ?_, ?_, ?_, ?_, ?_, ?_, ?_, ?_, trivial⟩
    · intro a W hW hu hd
      have kc : ∀ c, a.eval (Operand.const c) = c := fun _ => rfl
      have kf : ∀ f, a.eval (Operand.func f) = .func (.func f) #[] #[] := fun _ => rfl
      have sW := f4.to hW
      have rl := sW.rules
      simp only [Rules, World.size_alloc] at rl
      have u4 : a.eval (Operand.tmp 4) = .pointer (some ⟨w.heap.size, 0, none⟩) := hu 4 (by decide)
      unfold StepOk
      rw [if_pos (by rfl)]
      clear hu hd
      generalize a.eval = ρ at *
      go_simp
      exact opOk_val rfl
    · intro a W hW hu hd
      have kc : ∀ c, a.eval (Operand.const c) = c := fun _ => rfl
      have kf : ∀ f, a.eval (Operand.func f) = .func (.func f) #[] #[] := fun _ => rfl
      have sW := f4.to hW
      have rl := sW.rules
      simp only [Rules, World.size_alloc] at rl
      have u4 : a.eval (Operand.tmp 4) = .pointer (some ⟨w.heap.size, 0, none⟩) := hu 4 (by decide)
      unfold StepOk
      rw [if_pos (by rfl)]
      clear hu hd
      generalize a.eval = ρ at *
      go_simp
      exact opOk_val rfl
    · intro a W hW hu hd
      have kc : ∀ c, a.eval (Operand.const c) = c := fun _ => rfl
      have kf : ∀ f, a.eval (Operand.func f) = .func (.func f) #[] #[] := fun _ => rfl
      have sW := f4.to hW
      have rl := sW.rules
      simp only [Rules, World.size_alloc] at rl
      have u39 : a.eval (Operand.tmp 39) = .pointer (some ⟨b, 0, none⟩) := hd 1 39 (by kernel_rfl) rfl
      unfold StepOk
      rw [if_pos (by rfl)]
      clear hu hd
      generalize a.eval = ρ at *
      go_simp
      exact opOk_val rfl
    · intro a W hW hu hd
      have kc : ∀ c, a.eval (Operand.const c) = c := fun _ => rfl
      have kf : ∀ f, a.eval (Operand.func f) = .func (.func f) #[] #[] := fun _ => rfl
      have sW := f4.to hW
      have rl := sW.rules
      simp only [Rules, World.size_alloc] at rl
      have u40 : a.eval (Operand.tmp 40) = .pointer (some ⟨b, 0, none⟩) := hd 2 40 (by kernel_rfl) rfl
      unfold StepOk
      rw [if_pos (by rfl)]
      clear hu hd
      generalize a.eval = ρ at *
      go_simp
      exact opOk_val rfl
    · intro a W hW hu hd
      have kc : ∀ c, a.eval (Operand.const c) = c := fun _ => rfl
      have kf : ∀ f, a.eval (Operand.func f) = .func (.func f) #[] #[] := fun _ => rfl
      have sW := f4.to hW
      have rl := sW.rules
      simp only [Rules, World.size_alloc] at rl
      have u41 : a.eval (Operand.tmp 41) = .pointer (some ⟨b, 9, none⟩) := hd 3 41 (by kernel_rfl) rfl
      unfold StepOk
      rw [if_pos (by rfl)]
      clear hu hd
      generalize a.eval = ρ at *
      go_simp
      exact opOk_val rfl
    · intro a W hW hu hd
      have kc : ∀ c, a.eval (Operand.const c) = c := fun _ => rfl
      have kf : ∀ f, a.eval (Operand.func f) = .func (.func f) #[] #[] := fun _ => rfl
      have sW := f4.to hW
      have rl := sW.rules
      simp only [Rules, World.size_alloc] at rl
      have u4 : a.eval (Operand.tmp 4) = .pointer (some ⟨w.heap.size, 0, none⟩) := hu 4 (by decide)
      unfold StepOk
      rw [if_pos (by rfl)]
      clear hu hd
      generalize a.eval = ρ at *
      go_simp
      exact opOk_val rfl
    · intro a W hW hu hd
      have kc : ∀ c, a.eval (Operand.const c) = c := fun _ => rfl
      have kf : ∀ f, a.eval (Operand.func f) = .func (.func f) #[] #[] := fun _ => rfl
      have sW := f4.to hW
      have rl := sW.rules
      simp only [Rules, World.size_alloc] at rl
      have u43 : a.eval (Operand.tmp 43) = .pointer (some ⟨b, 0, none⟩) := hd 5 43 (by kernel_rfl) rfl
      unfold StepOk
      rw [if_pos (by rfl)]
      clear hu hd
      generalize a.eval = ρ at *
      go_simp
      exact opOk_val rfl
    · intro a W hW hu hd
      have kc : ∀ c, a.eval (Operand.const c) = c := fun _ => rfl
      have kf : ∀ f, a.eval (Operand.func f) = .func (.func f) #[] #[] := fun _ => rfl
      have sW := f4.to hW
      have rl := sW.rules
      simp only [Rules, World.size_alloc] at rl
      have u44 : a.eval (Operand.tmp 44) = .pointer (some ⟨b, 0, none⟩) := hd 6 44 (by kernel_rfl) rfl
      unfold StepOk
      rw [if_pos (by rfl)]
      clear hu hd
      generalize a.eval = ρ at *
      go_simp
      exact opOk_val rfl
    · intro a W hW hu hd
      have kc : ∀ c, a.eval (Operand.const c) = c := fun _ => rfl
      have kf : ∀ f, a.eval (Operand.func f) = .func (.func f) #[] #[] := fun _ => rfl
      have sW := f4.to hW
      have rl := sW.rules
      simp only [Rules, World.size_alloc] at rl
      have u45 : a.eval (Operand.tmp 45) = .pointer (some ⟨b, 0, none⟩) := hd 7 45 (by kernel_rfl) rfl
      unfold StepOk
      rw [if_pos (by rfl)]
      clear hu hd
      generalize a.eval = ρ at *
      go_simp
      exact opOk_val rfl
    · intro a W hW hu hd
      have kc : ∀ c, a.eval (Operand.const c) = c := fun _ => rfl
      have kf : ∀ f, a.eval (Operand.func f) = .func (.func f) #[] #[] := fun _ => rfl
      have sW := f4.to hW
      have rl := sW.rules
      simp only [Rules, World.size_alloc] at rl
      have u46 : a.eval (Operand.tmp 46) = .pointer (some ⟨b, 3, none⟩) := hd 8 46 (by kernel_rfl) rfl
      unfold StepOk
      rw [if_pos (by rfl)]
      clear hu hd
      generalize a.eval = ρ at *
      go_simp
      exact opOk_val rfl
    · intro a W hW hu hd
      have kc : ∀ c, a.eval (Operand.const c) = c := fun _ => rfl
      have kf : ∀ f, a.eval (Operand.func f) = .func (.func f) #[] #[] := fun _ => rfl
      have sW := f4.to hW
      have rl := sW.rules
      simp only [Rules, World.size_alloc] at rl
      have u4 : a.eval (Operand.tmp 4) = .pointer (some ⟨w.heap.size, 0, none⟩) := hu 4 (by decide)
      unfold StepOk
      rw [if_pos (by rfl)]
      clear hu hd
      generalize a.eval = ρ at *
      go_simp
      exact opOk_val rfl
    · intro a W hW hu hd
      have kc : ∀ c, a.eval (Operand.const c) = c := fun _ => rfl
      have kf : ∀ f, a.eval (Operand.func f) = .func (.func f) #[] #[] := fun _ => rfl
      have sW := f4.to hW
      have rl := sW.rules
      simp only [Rules, World.size_alloc] at rl
      have u48 : a.eval (Operand.tmp 48) = .pointer (some ⟨b, 0, none⟩) := hd 10 48 (by kernel_rfl) rfl
      unfold StepOk
      rw [if_pos (by rfl)]
      clear hu hd
      generalize a.eval = ρ at *
      go_simp
      exact opOk_val rfl
    · intro a W hW hu hd
      have kc : ∀ c, a.eval (Operand.const c) = c := fun _ => rfl
      have kf : ∀ f, a.eval (Operand.func f) = .func (.func f) #[] #[] := fun _ => rfl
      have sW := f4.to hW
      have rl := sW.rules
      simp only [Rules, World.size_alloc] at rl
      have u49 : a.eval (Operand.tmp 49) = .pointer (some ⟨b, 0, none⟩) := hd 11 49 (by kernel_rfl) rfl
      unfold StepOk
      rw [if_pos (by rfl)]
      clear hu hd
      generalize a.eval = ρ at *
      go_simp
      exact opOk_val rfl
    · intro a W hW hu hd
      have kc : ∀ c, a.eval (Operand.const c) = c := fun _ => rfl
      have kf : ∀ f, a.eval (Operand.func f) = .func (.func f) #[] #[] := fun _ => rfl
      have sW := f4.to hW
      have rl := sW.rules
      simp only [Rules, World.size_alloc] at rl
      have u50 : a.eval (Operand.tmp 50) = .pointer (some ⟨b, 0, none⟩) := hd 12 50 (by kernel_rfl) rfl
      unfold StepOk
      rw [if_pos (by rfl)]
      clear hu hd
      generalize a.eval = ρ at *
      go_simp
      exact opOk_val rfl
    · intro a W hW hu hd
      have kc : ∀ c, a.eval (Operand.const c) = c := fun _ => rfl
      have kf : ∀ f, a.eval (Operand.func f) = .func (.func f) #[] #[] := fun _ => rfl
      have sW := f4.to hW
      have rl := sW.rules
      simp only [Rules, World.size_alloc] at rl
      have u51 : a.eval (Operand.tmp 51) = .pointer (some ⟨b, 5, none⟩) := hd 13 51 (by kernel_rfl) rfl
      unfold StepOk
      rw [if_pos (by rfl)]
      clear hu hd
      generalize a.eval = ρ at *
      go_simp
      exact opOk_val rfl
    · intro a W hW hu hd
      have kc : ∀ c, a.eval (Operand.const c) = c := fun _ => rfl
      have kf : ∀ f, a.eval (Operand.func f) = .func (.func f) #[] #[] := fun _ => rfl
      have sW := f4.to hW
      have rl := sW.rules
      simp only [Rules, World.size_alloc] at rl
      have u2 : a.eval (Operand.tmp 2) = .string tx := hu 2 (by decide)
      unfold StepOk
      rw [if_pos (by rfl)]
      clear hu hd
      generalize a.eval = ρ at *
      go_simp
      exact opOk_val rfl
    · intro a W hW hu hd
      have kc : ∀ c, a.eval (Operand.const c) = c := fun _ => rfl
      have kf : ∀ f, a.eval (Operand.func f) = .func (.func f) #[] #[] := fun _ => rfl
      have sW := f4.to hW
      have rl := sW.rules
      simp only [Rules, World.size_alloc] at rl
      have u42 : a.eval (Operand.tmp 42) = .agg #[.int .u64 (un ka), .int .u64 (un kb)] := hd 4 42 (by kernel_rfl) rfl
      have u47 : a.eval (Operand.tmp 47) = .agg #[.int .u64 0, .slice lgs L.length lgc] := hd 9 47 (by kernel_rfl) rfl
      have u52 : a.eval (Operand.tmp 52) = .int .u64 (nw : Int) := hd 14 52 (by kernel_rfl) rfl
      have u53 : a.eval (Operand.tmp 53) = .string tx := hd 15 53 (by kernel_rfl) rfl
      unfold StepOk
      rw [if_pos (by rfl)]
      clear hu hd
      generalize a.eval = ρ at *
      go_simp
      refine ⟨Below.refl _ _, (HAP.out W hW).mono ?_⟩
      rintro e w' ⟨v9, rfl, t9, hb'⟩
      exact ⟨_, rfl, hb', v9, rfl, t9⟩
    · intro a W hW hu hd
      have kc : ∀ c, a.eval (Operand.const c) = c := fun _ => rfl
      have kf : ∀ f, a.eval (Operand.func f) = .func (.func f) #[] #[] := fun _ => rfl
      have sW := f4.to hW
      have rl := sW.rules
      simp only [Rules, World.size_alloc] at rl
      have f54 : IsA2 wr.heap.size (appL ka kb 0 L nw tx) (a.eval (Operand.tmp 54)) W := hd 16 54 (by kernel_rfl) rfl
      obtain ⟨v9, u54, t9⟩ := f54
      unfold StepOk
      rw [if_pos (by rfl)]
      clear hu hd
      generalize a.eval = ρ at *
      go_simp
      exact opOk_val ⟨v9, rfl, t9⟩
    · intro a W hW hu hd
      have kc : ∀ c, a.eval (Operand.const c) = c := fun _ => rfl
      have kf : ∀ f, a.eval (Operand.func f) = .func (.func f) #[] #[] := fun _ => rfl
      have sW := f4.to hW
      have rl := sW.rules
      simp only [Rules, World.size_alloc] at rl
      have f37 : IsA2 wr.heap.size (appL ka kb 0 L nw tx) (a.eval (Operand.tmp 37)) W := hd 17 37 (by kernel_rfl) rfl
      obtain ⟨v9, u37, t9⟩ := f37
      unfold StepOk
      rw [if_pos (by rfl)]
      clear hu hd
      generalize a.eval = ρ at *
      go_simp
      exact opOk_val ⟨v9, rfl, t9⟩
    · intro a W hW hu hd
      have kc : ∀ c, a.eval (Operand.const c) = c := fun _ => rfl
      have kf : ∀ f, a.eval (Operand.func f) = .func (.func f) #[] #[] := fun _ => rfl
      have sW := f4.to hW
      have rl := sW.rules
      simp only [Rules, World.size_alloc] at rl
      have f37 : IsA2 wr.heap.size (appL ka kb 0 L nw tx) (a.eval (Operand.tmp 37)) W := hd 17 37 (by kernel_rfl) rfl
      obtain ⟨v9, u37, t9⟩ := f37
      unfold StepOk
      rw [if_pos (by rfl)]
      clear hu hd
      generalize a.eval = ρ at *
      go_simp
      exact opOk_val rfl
    · intro a W hW hu hd
      have kc : ∀ c, a.eval (Operand.const c) = c := fun _ => rfl
      have kf : ∀ f, a.eval (Operand.func f) = .func (.func f) #[] #[] := fun _ => rfl
      have sW := f4.to hW
      have rl := sW.rules
      simp only [Rules, World.size_alloc] at rl
      have u38 : a.eval (Operand.tmp 38) = .pointer (some ⟨b, 0, none⟩) := hd 0 38 (by kernel_rfl) rfl
      unfold StepOk
      rw [if_pos (by rfl)]
      clear hu hd
      generalize a.eval = ρ at *
      go_simp
      exact opOk_val rfl
    · intro a W hW hu hd
      have kc : ∀ c, a.eval (Operand.const c) = c := fun _ => rfl
      have kf : ∀ f, a.eval (Operand.func f) = .func (.func f) #[] #[] := fun _ => rfl
      have sW := f4.to hW
      have rl := sW.rules
      simp only [Rules, World.size_alloc] at rl
      have u57 : a.eval (Operand.tmp 57) = .pointer (some ⟨b, 0, none⟩) := hd 20 57 (by kernel_rfl) rfl
      unfold StepOk
      rw [if_pos (by rfl)]
      clear hu hd
      generalize a.eval = ρ at *
      go_simp
      exact opOk_val rfl
    · intro a W hW hu hd
      have kc : ∀ c, a.eval (Operand.const c) = c := fun _ => rfl
      have kf : ∀ f, a.eval (Operand.func f) = .func (.func f) #[] #[] := fun _ => rfl
      have sW := f4.to hW
      have rl := sW.rules
      simp only [Rules, World.size_alloc] at rl
      have u58 : a.eval (Operand.tmp 58) = .pointer (some ⟨b, 0, none⟩) := hd 21 58 (by kernel_rfl) rfl
      unfold StepOk
      rw [if_pos (by rfl)]
      clear hu hd
      generalize a.eval = ρ at *
      go_simp
      exact opOk_val rfl
  case late =>
    intro q hqm oq hoq a W hW hu hd W'
    simp only [List.mem_cons, List.not_mem_nil, or_false] at hqm
    rcases hqm with rfl
    · cases hoq
      obtain ⟨v9, u37, t9⟩ : IsA2 wr.heap.size (appL ka kb 0 L nw tx) (a.eval (Operand.tmp 37)) W := hd 17 37 (by kernel_rfl) rfl
      clear hu hd
      generalize a.eval = ρ at *
      go_simp
  case lfact =>
    intro q hqm W
    simp only [List.mem_cons, List.not_mem_nil, or_false] at hqm
    rcases hqm with rfl <;> rfl
  case store =>
    intro os hos a W hW hu hd
    cases hos
    have sW := f4.to hW
    have u59 : a.eval (Operand.tmp 59) = .pointer (some ⟨b, 3, none⟩) := hd 22 59 (by kernel_rfl) rfl
    obtain ⟨v8, u55, t8⟩ : IsA1 wr.heap.size (appL ka kb 0 L nw tx) (a.eval (Operand.tmp 55)) W := hd 18 55 (by kernel_rfl) rfl
    obtain ⟨s8, c8, rfl, -, -, -⟩ := own_ents t8
    have rl := sW.rules
    simp only [Rules] at rl
    clear hu hd
    generalize a.eval = ρ at *
    go_simp
  case endd =>
    intro v W hW hv
    have v0 : v 0 = (.pointer (some ⟨b, 0, none⟩)) := hv 0 (by omega)
    have v1 : v 1 = (.pointer (some ⟨b, 0, none⟩)) := hv 1 (by omega)
    have v2 : v 2 = (.pointer (some ⟨b, 0, none⟩)) := hv 2 (by omega)
    have v3 : v 3 = (.pointer (some ⟨b, 9, none⟩)) := hv 3 (by omega)
    have v4 : v 4 = (.agg #[.int .u64 (un ka), .int .u64 (un kb)]) := hv 4 (by omega)
    have v5 : v 5 = (.pointer (some ⟨b, 0, none⟩)) := hv 5 (by omega)
    have v6 : v 6 = (.pointer (some ⟨b, 0, none⟩)) := hv 6 (by omega)
    have v7 : v 7 = (.pointer (some ⟨b, 0, none⟩)) := hv 7 (by omega)
    have v8 : v 8 = (.pointer (some ⟨b, 3, none⟩)) := hv 8 (by omega)
    have v9 : v 9 = (.agg #[.int .u64 0, .slice lgs L.length lgc]) := hv 9 (by omega)
    have v10 : v 10 = (.pointer (some ⟨b, 0, none⟩)) := hv 10 (by omega)
    have v11 : v 11 = (.pointer (some ⟨b, 0, none⟩)) := hv 11 (by omega)
    have v12 : v 12 = (.pointer (some ⟨b, 0, none⟩)) := hv 12 (by omega)
    have v13 : v 13 = (.pointer (some ⟨b, 5, none⟩)) := hv 13 (by omega)
    have v14 : v 14 = (.int .u64 (nw : Int)) := hv 14 (by omega)
    have v15 : v 15 = (.string tx) := hv 15 (by omega)
    have hf16 : IsA2 wr.heap.size (appL ka kb 0 L nw tx) (v 16) W := hv 16 (by omega)
    have hf17 : IsA2 wr.heap.size (appL ka kb 0 L nw tx) (v 17) W := hv 17 (by omega)
    have hf18 : IsA1 wr.heap.size (appL ka kb 0 L nw tx) (v 18) W := hv 18 (by omega)
    have v19 : v 19 = (.int .i64 0) := hv 19 (by omega)
    have v20 : v 20 = (.pointer (some ⟨b, 0, none⟩)) := hv 20 (by omega)
    have v21 : v 21 = (.pointer (some ⟨b, 0, none⟩)) := hv 21 (by omega)
    have v22 : v 22 = (.pointer (some ⟨b, 3, none⟩)) := hv 22 (by omega)
    clear hv
    simp only [List.take_succ_cons, List.take_zero, List.drop_succ_cons, List.drop_zero, putAll, Nat.zero_add, Nat.reduceAdd]
    rw [v0, v1, v2, v3, v4, v5, v6, v7, v8, v9, v10, v11, v12, v13, v14, v15, v19, v20, v21, v22]
    clear v0 v1 v2 v3 v4 v5 v6 v7 v8 v9 v10 v11 v12 v13 v14 v15 v19 v20 v21 v22
    have sW := f4.to hW
    obtain ⟨v18, v18', hO⟩ := hf18
    obtain ⟨s8, c8, rfl, -, -, -⟩ := own_ents hO
    rw [v18']
    generalize v 16 = q16 at *
    generalize v 17 = q17 at *
    have rl := sW.rules
    simp only [Rules] at rl
    have hBz := f4.fr.size
    have f5a := sW.set 0 (A := b) rfl (.inl (by simp)) (o := 3) (v := .int .u64 0)
    simp only [setB, List.modify_succ_cons, List.modify_zero_cons, List.setIfInBounds_toArray, List.set_cons_zero, List.set_cons_succ] at f5a
    have f5 := f5a.set 0 (A := b) rfl (.inl (by simp)) (o := 4) (v := .slice s8 (appL ka kb 0 L nw tx).length c8)
    simp only [setB, List.modify_succ_cons, List.modify_zero_cons, List.setIfInBounds_toArray, List.set_cons_zero, List.set_cons_succ] at f5
    have f6 := f5.set 2 (A := w.heap.size + 1) rfl (.inr (by omega)) (o := 0) (v := .int .i64 0)
    simp only [setB, List.modify_succ_cons, List.modify_zero_cons, List.setIfInBounds_toArray, List.set_cons_zero, List.set_cons_succ] at f6
    have HO := Lib.hid (And.intro hO (And.intro sW hW))
    have HA8 := Lib.hid (blk_lt (f4.blk 2 rfl))
    clear hf16 hf17 v18' hO HAP hW sW f4 f5 f5a
    go_wp2_with fail
    have f7 := f6.set 2 (A := w.heap.size + 1) rfl (.inr (by omega)) (o := 0) (v := .int .i64 0)
    simp only [setB, List.modify_succ_cons, List.modify_zero_cons, List.setIfInBounds_toArray, List.set_cons_zero, List.set_cons_succ] at f7
    have hQz := HQ'.out _ _ _ (HQ'.out _ _ _ HQ4.out (FrB.of (S := [b, w.heap.size + 1]) HO.out.2.2)) (((((FrB.refl [b, w.heap.size + 1] W).set (A := b) (o := 3) (v := .int .u64 0) (.inl (by simp))).set (A := b) (o := 4) (v := .slice s8 (appL ka kb 0 L nw tx).length c8) (.inl (by simp))).set (A := w.heap.size + 1) (o := 0) (v := .int .i64 0) (.inl (by simp))).set (A := w.heap.size + 1) (o := 0) (v := .int .i64 0) (.inl (by simp)))
    have hA8 : w.heap.size + 1 < wr.heap.size := by
      have := HA8.out
      omega
    have hbr : b < wr.heap.size := by omega
    have hOz := ownsRow_base (ownsRow_setCell_below (ownsRow_setCell_below (ownsRow_setCell_below (ownsRow_setCell_below HO.out.1 (a := ⟨b, 3, none⟩) hbr (.int .u64 0)) (a := ⟨b, 4, none⟩) hbr (.slice s8 (appL ka kb 0 L nw tx).length c8)) (a := ⟨w.heap.size + 1, 0, none⟩) hA8 (.int .i64 0)) (a := ⟨w.heap.size + 1, 0, none⟩) hA8 (.int .i64 0)) hBz
    generalize (((W.setCell ⟨b, 3, none⟩ (.int .u64 0)).setCell ⟨b, 4, none⟩ (.slice s8 (appL ka kb 0 L nw tx).length c8)).setCell ⟨w.heap.size + 1, 0, none⟩ (.int .i64 0)).setCell ⟨w.heap.size + 1, 0, none⟩ (.int .i64 0) = wz at *
    have hce : wz.cell? ⟨w.heap.size + 1, 0, none⟩ = some (.int .i64 0) := blk_cell (f7.blk 2 rfl) 0
    refine leaves_cons (f := 65) (args := #[.pointer (some ⟨w.heap.size + 1, 0, none⟩), .pointer (some ⟨w.heap.size + 1 + 1, 0, none⟩), .pointer (some ⟨w.heap.size, 0, none⟩)]) (by simp) (by simp [go_sem]) ?_
    refine (doD_ok _ _ _ _ .returning wz hce).mono ?_
    rintro e u' w'' ⟨rfl, rfl, rfl⟩
    exact ⟨.int .i64 0, by simp [results, Tryz.results43, go_sem, hce], x2, _, rfl, hQz, hOz, f7.fr, f7.blk 0 rfl⟩
end Go.Proofs.YtmgdbfmlnmahpaaGreatDoor
