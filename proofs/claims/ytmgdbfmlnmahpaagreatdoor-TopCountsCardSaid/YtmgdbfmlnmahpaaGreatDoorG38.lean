/- A part of the proof of TopCounts. -/
import Derived.Test.YtmgdbfmlnmahpaaGreatDoorG28
import Derived.Test.YtmgdbfmlnmahpaaGreatDoorG29
import Derived.Test.YtmgdbfmlnmahpaaGreatDoorG36
import Derived.Test.YtmgdbfmlnmahpaaGreatDoorG37
namespace Go.Proofs.YtmgdbfmlnmahpaaGreatDoor
open Go.RowKit Go.Shelf
set_option linter.unusedSimpArgs false
set_option linter.unusedVariables false
set_option maxRecDepth 100000
theorem tenNone_any (b : Nat) (w : World) : Calls Tryz.prog 46 #[.pointer (some ⟨b, 0, none⟩)] w fun e w' => e = .returned (.bool false) ∧ w' = w := by
  go_enter Tryz.func46, Tryz.ntmps46
  go_wp2_with fail
  go_ret
  exact ⟨rfl, rfl⟩
theorem colNone_any (b : Nat) (w : World) : Calls Tryz.prog 14 #[.pointer (some ⟨b, 0, none⟩)] w fun e w' => e = .returned (.bool false) ∧ w' = w := by
  go_enter Tryz.func14, Tryz.ntmps14
  go_wp2_with fail
  go_ret
  exact ⟨rfl, rfl⟩
theorem grNew_any (w : World) : Calls Tryz.prog 25 #[] w fun e w' => e = .returned (.agg #[.int .u64 1, .slice none 0 0]) ∧ Below w.heap.size w w' := by
  go_enter Tryz.func25, Tryz.ntmps25
  go_wp2_with fail
  exact bodyPost_ret (v := .agg #[.int .u64 1, .slice none 0 0]) (by simp [results, Tryz.results25, go_sem]) rfl ⟨rfl, (Below.refl _ _).alloc (Nat.le_refl _) _⟩
end Go.Proofs.YtmgdbfmlnmahpaaGreatDoor
namespace Go.Proofs.YtmgdbfmlnmahpaaGreatDoor
open Go.RowKit
theorem setRow_size (w : World) (b : Nat) (cs : Array Value) : (w.setRow b cs).heap.size = w.heap.size := by simp [World.setRow]
theorem Stb.start {w : World} {b : Nat} {cs : Array Value} {T : TypeId} (h : w.heap[b]? = some (.cells cs T (0, 0))) : St (w.setRow b cs) [(b, cs, T)] (fun _ => True) w := by
  refine ⟨⟨rfl, rfl, rfl, by rw [setRow_size]; exact Nat.le_refl _, fun k _ => ?_⟩, ?_, List.pairwise_singleton _ _, trivial, fun _ _ _ _ => trivial⟩
  · by_cases e : k = b
    · subst e
      rw [setRow_heap w k cs cs T _ h, h]
    · exact (setRow_other w b k cs e).symm
  · intro x hx
    simp at hx
    subst hx
    exact h
theorem Stb.zero {w0 : World} {bl : List Blk} {E : World → Prop} {W : World} (h : St w0 bl E W) : St { W with heap := #[] } bl (fun _ => True) W :=
  ⟨⟨rfl, rfl, rfl, Nat.zero_le _, fun _ hk => absurd hk (Nat.not_lt_zero _)⟩, h.blk, h.nd, trivial, fun _ _ _ _ => trivial⟩
theorem Stb.set {w : World} {b : Nat} {cs0 cs : Array Value} {T : TypeId} {bl : List Blk} {W : World} (h0 : w.heap[b]? = some (.cells cs0 T (0, 0))) (h : St (w.setRow b cs) bl (fun _ => True) W) (i : Nat) (hi : bl[i]? = some (b, cs, T)) {o : Nat} {v : Value} :
    St (w.setRow b (cs.setIfInBounds o v)) (setB bl i o v) (fun _ => True) (W.setCell ⟨b, o, none⟩ v) := by
  have hz := (Stb.zero h).set i hi (Nat.zero_le _) (o := o) (v := v) (fun _ => trivial)
  refine ⟨⟨h.below.os, h.below.tape, h.below.output, ?_, fun k hk => ?_⟩, hz.blk, hz.nd, trivial, fun _ _ _ _ => trivial⟩
  · have := h.below.size
    rw [setRow_size] at this ⊢
    simpa [World.setCell] using this
  · rw [setRow_size] at hk
    by_cases e : k = b
    · subst e
      rw [setRow_heap w k cs0 _ T _ h0]
      exact blk_set (h.blk _ (List.mem_of_getElem? hi)) o v
    · rw [setRow_other w b k _ e, Below.heap_setCell W ⟨b, o, none⟩ v k e, h.below.block k (by rw [setRow_size]; exact hk), setRow_other w b k _ e]
theorem Stb.row {w : World} {b : Nat} {cs0 cs cs' : Array Value} {T : TypeId} {bl : List Blk} {W W' : World} (h0 : w.heap[b]? = some (.cells cs0 T (0, 0))) (h : St (w.setRow b cs) ((b, cs, T) :: bl) (fun _ => True) W) (hc : Below W.heap.size (W.setRow b cs') W') : St (w.setRow b cs') ((b, cs', T) :: bl) (fun _ => True) W' := by
  have hb := h.blk (b, cs, T) (by simp)
  have hnd := List.pairwise_cons.1 h.nd
  have hW : W'.heap[b]? = some (.cells cs' T (0, 0)) := (hc.block b (blk_lt hb)).trans (setRow_heap W b cs cs' T _ hb)
  have ho : ∀ k, k ≠ b → k < W.heap.size → W'.heap[k]? = W.heap[k]? := fun k e hk => (hc.block k hk).trans (setRow_other W b k _ e)
  have hs : w.heap.size ≤ W.heap.size := by have := h.below.size; rwa [setRow_size] at this
  refine ⟨⟨hc.os.trans h.below.os, hc.tape.trans h.below.tape, hc.output.trans h.below.output, ?_, fun k hk => ?_⟩, ?_, List.pairwise_cons.2 hnd, trivial, fun _ _ _ _ => trivial⟩
  · have := hc.size
    rw [setRow_size] at this ⊢
    omega
  · rw [setRow_size] at hk
    by_cases e : k = b
    · subst e
      rw [setRow_heap w k cs0 _ T _ h0, hW]
    · rw [setRow_other w b k _ e, ho k e (by omega), h.below.block k (by rw [setRow_size]; exact hk), setRow_other w b k _ e]
  · intro x hx
    rcases List.mem_cons.1 hx with rfl | hx
    · exact hW
    · have h1 := h.blk x (by simp [hx])
      exact (ho x.1 (fun e => hnd.1 x hx e.symm) (blk_lt h1)).trans h1
end Go.Proofs.YtmgdbfmlnmahpaaGreatDoor
namespace Go.Proofs.YtmgdbfmlnmahpaaGreatDoor
open Go.RowKit Go.Shelf
set_option linter.unusedSimpArgs false
set_option linter.unusedVariables false
set_option maxRecDepth 100000
def keyText (n : Nat) : ByteArray := ⟨#[116, 101, 110, 97, 110, 116]⟩ ++ putB n
set_option maxHeartbeats 1000000 in
theorem tenNew_any (id bu ttl : Nat) (hbu : bu ≤ 1000000) (a b : BitVec 64) (w : World) : Calls Tryz.prog 12 #[.agg #[.int .u64 (id : Int), .int .i64 (bu : Int), .int .u64 (ttl : Int)], kv a b] w fun e w' => ∃ B, e = .returned (.tuple #[.pointer (some ⟨B, 0, none⟩), .int .i64 0]) ∧ w.heap.size ≤ B ∧ w'.heap[B]? = some (.cells #[.slice none 0 0, .int .u64 1, .slice none 0 0, .int .u64 0, .slice none 0 0, .int .u64 0, .int .u64 (id : Int), .int .i64 (bu : Int), .int .u64 (ttl : Int), .int .u64 (un a), .int .u64 (un b)] 83 (0, 0)) ∧ Below w.heap.size w w' := by
  have h2 : decide (1000000 < bu) = false := by simp; omega
  go_enter Tryz.func12, Tryz.ntmps12
  go_wp2_with fail
  have st0 := (((St.start w).alloc (cs := #[.int .u64 (id : Int), .int .i64 (bu : Int), .int .u64 (ttl : Int)]) (T := 59)).alloc (cs := #[.int .u64 (un a), .int .u64 (un b)]) (T := 24)).alloc (cs := #[.slice none 0 0, .int .u64 0, .slice none 0 0, .int .u64 0, .slice none 0 0, .int .u64 0, .int .u64 (id : Int), .int .i64 (bu : Int), .int .u64 (ttl : Int), .int .u64 (un a), .int .u64 (un b)]) (T := 83)
  simp only [World.size_alloc] at st0
  refine (grNew_any _).mono ?_
  rintro e w1 ⟨rfl, hb1⟩
  have st1 := st0.to hb1
  have rl := st1.rules
  simp only [Rules] at rl
  clear st0 hb1
  go_wp2_with fail
  have st2 := (St.setT st1 0 (A := w.heap.size + 1 + 1) rfl (o := 1) (v := .int .u64 1) (by omega)).setT 0 (A := w.heap.size + 1 + 1) rfl (o := 2) (v := .slice none 0 0) (by omega)
  simp only [setB, List.modify_succ_cons, List.modify_zero_cons, List.setIfInBounds_toArray, List.set_cons_zero, List.set_cons_succ] at st2
  exact bodyPost_ret (v := .tuple #[.pointer (some ⟨w.heap.size + 1 + 1, 0, none⟩), .int .i64 0]) (by simp [results, Tryz.results12, go_sem]) rfl ⟨_, rfl, by omega, st2.blk _ (List.mem_of_getElem? (i := 0) rfl), st2.below⟩
theorem seven : ((⟨#[116, 101, 110, 97, 110, 116]⟩ : ByteArray)).size = 6 := rfl
set_option maxHeartbeats 1000000 in
theorem key_any (ka kb : BitVec 64) (n : Nat) (hn : n < 18446744073709551616) (w : World) : Calls Tryz.prog 13 #[kv ka kb, .int .u64 (n : Int)] w fun e w' => e = .returned (kv (childA ka kb (keyText n).data.toList) (childB ka kb (keyText n).data.toList)) ∧ Below w.heap.size w w' := by
  have HP := Lib.hid (show ∀ W, Calls Tryz.prog 27 #[.int .u64 (n : Int)] W fun e w' => e = .returned (.string (putB n)) ∧ Below W.heap.size W w' from fun W => by have := put_any (n : Int) (by omega) (by omega) W; rwa [Int.toNat_natCast] at this)
  have HC := Lib.hid (fun W => child_any ka kb (keyText n) (by have := putB_size n; unfold keyText; rw [ByteArray.size_append, seven]; omega) W)
  have st0 := ((St.start w).alloc (cs := #[.int .u64 (un ka), .int .u64 (un kb)]) (T := 24)).alloc (cs := #[.int .u64 0, .int .u64 0]) (T := 24)
  simp only [World.size_alloc] at st0
  go_enter Tryz.func13, Tryz.ntmps13
  go_wp2_with fail
  refine region_spec 5 (Fs [IsVal (.agg #[.int .u64 (un ka), .int .u64 (un kb)]), IsVal (.int .u64 (n : Int)), IsVal (.string (putB n)), IsVal (.string (keyText n)), IsVal (.agg #[.int .u64 (un (childA ka kb (keyText n).data.toList)), .int .u64 (un (childB ka kb (keyText n).data.toList))])]) (by kernel_rfl) (by kernel_rfl) (by kernel_rfl) (Fs_stable _ ?stab) ?spec ?endd
  case stab =>
    simp only [List.forall_mem_cons]
    exact ⟨stableVal _, stableVal _, stableVal _, stableVal _, stableVal _, by simp⟩
  case spec =>
    refine ⟨?_, ?_, ?_, ?_, ?_, trivial⟩
    · intro a W hW hu hd
      have kc : ∀ c, a.eval (Operand.const c) = c := fun _ => rfl
      have kf : ∀ f, a.eval (Operand.func f) = .func (.func f) #[] #[] := fun _ => rfl
      have sW := st0.to hW
      have rl := sW.rules
      simp only [Rules, World.size_alloc] at rl
      have u2 : a.eval (Operand.tmp 2) = .pointer (some ⟨w.heap.size, 0, none⟩) := hu 2 (by decide)
      unfold StepOk
      rw [if_pos (by rfl)]
      clear hu hd
      generalize a.eval = ρ at *
      go_simp
      exact opOk_val rfl
    · intro a W hW hu hd
      have kc : ∀ c, a.eval (Operand.const c) = c := fun _ => rfl
      have kf : ∀ f, a.eval (Operand.func f) = .func (.func f) #[] #[] := fun _ => rfl
      have sW := st0.to hW
      have rl := sW.rules
      simp only [Rules, World.size_alloc] at rl
      have u1 : a.eval (Operand.tmp 1) = .int .u64 (n : Int) := hu 1 (by decide)
      unfold StepOk
      rw [if_pos (by rfl)]
      clear hu hd
      generalize a.eval = ρ at *
      go_simp
      exact opOk_val rfl
    · intro a W hW hu hd
      have kc : ∀ c, a.eval (Operand.const c) = c := fun _ => rfl
      have kf : ∀ f, a.eval (Operand.func f) = .func (.func f) #[] #[] := fun _ => rfl
      have sW := st0.to hW
      have rl := sW.rules
      simp only [Rules, World.size_alloc] at rl
      have u6 : a.eval (Operand.tmp 6) = .int .u64 (n : Int) := hd 1 6 (by kernel_rfl) rfl
      unfold StepOk
      rw [if_pos (by rfl)]
      clear hu hd
      generalize a.eval = ρ at *
      go_simp
      exact opOk_call (HP.out W) (fun _ _ => rfl)
    · intro a W hW hu hd
      have kc : ∀ c, a.eval (Operand.const c) = c := fun _ => rfl
      have kf : ∀ f, a.eval (Operand.func f) = .func (.func f) #[] #[] := fun _ => rfl
      have sW := st0.to hW
      have rl := sW.rules
      simp only [Rules, World.size_alloc] at rl
      have u7 : a.eval (Operand.tmp 7) = .string (putB n) := hd 2 7 (by kernel_rfl) rfl
      unfold StepOk
      rw [if_pos (by rfl)]
      clear hu hd
      generalize a.eval = ρ at *
      go_simp
      have := putB_size n
      rw [if_neg (by omega)]
      exact opOk_val rfl
    · intro a W hW hu hd
      have kc : ∀ c, a.eval (Operand.const c) = c := fun _ => rfl
      have kf : ∀ f, a.eval (Operand.func f) = .func (.func f) #[] #[] := fun _ => rfl
      have sW := st0.to hW
      have rl := sW.rules
      simp only [Rules, World.size_alloc] at rl
      have u5 : a.eval (Operand.tmp 5) = .agg #[.int .u64 (un ka), .int .u64 (un kb)] := hd 0 5 (by kernel_rfl) rfl
      have u8 : a.eval (Operand.tmp 8) = .string (keyText n) := hd 3 8 (by kernel_rfl) rfl
      unfold StepOk
      rw [if_pos (by rfl)]
      clear hu hd
      generalize a.eval = ρ at *
      go_simp
      exact opOk_call (HC.out W) (fun _ _ => rfl)
  case endd =>
    intro v W hW hv
    have v0 : v 0 = (.agg #[.int .u64 (un ka), .int .u64 (un kb)]) := hv 0 (by omega)
    have v1 : v 1 = (.int .u64 (n : Int)) := hv 1 (by omega)
    have v2 : v 2 = (.string (putB n)) := hv 2 (by omega)
    have v3 : v 3 = (.string (keyText n)) := hv 3 (by omega)
    have v4 : v 4 = (.agg #[.int .u64 (un (childA ka kb (keyText n).data.toList)), .int .u64 (un (childB ka kb (keyText n).data.toList))]) := hv 4 (by omega)
    clear hv
    simp only [List.take_succ_cons, List.take_zero, List.drop_succ_cons, List.drop_zero, putAll, Nat.zero_add, Nat.reduceAdd]
    rw [v0, v1, v2, v3, v4]
    clear v0 v1 v2 v3 v4
    have sW := st0.to hW
    have rl := sW.rules
    simp only [Rules] at rl
    have hb := sW.below
    clear HP HC st0 hW
    go_wp2_with fail
    refine bodyPost_ret (v := .agg #[.int .u64 (un (childA ka kb (keyText n).data.toList)), .int .u64 (un (childB ka kb (keyText n).data.toList))]) (by simp [results, Tryz.results13, go_sem, rl]) rfl ⟨rfl, ?_⟩
    repeat (with_reducible refine Below.setCell ?_ (by simp; try omega) _)
    exact hb
end Go.Proofs.YtmgdbfmlnmahpaaGreatDoor
namespace Go.Proofs.YtmgdbfmlnmahpaaGreatDoor
open Go.RowKit Go.Shelf
set_option linter.unusedSimpArgs false
set_option linter.unusedVariables false
set_option maxRecDepth 100000
theorem ix_none (v : Value) (w : World) : Calls Tryz.prog 24 #[.slice none 0 0, v] w fun e w' => e = .returned (.int .i64 (-1)) ∧ w' = w := by
  go_enter Tryz.func24, Tryz.ntmps24
  go_wp2_with fail
  refine wp_loop_rounds 1 ?_
  rw [rounds_succ]
  go_wp2_with fail
  go_ret
  exact ⟨rfl, rfl⟩
theorem ix_one_no (c v : Nat) (hc : v ≠ c) (g o cap : Nat) (w : World) (k0 : w.cell? ⟨g, o, none⟩ = some (.int .u64 (c : Int))) : Calls Tryz.prog 24 #[.slice (some ⟨g, o, none⟩) 1 cap, .int .u64 (v : Int)] w fun e w' => e = .returned (.int .i64 (-1)) ∧ w' = w := by
  have hne : decide (v = c) = false := by simpa using hc
  have hne' : decide ((v : Int) = (c : Int)) = false := by simp; omega
  go_enter Tryz.func24, Tryz.ntmps24
  go_wp2_with fail
  refine wp_loop_rounds 2 ?_
  rw [rounds_succ]
  go_wp2_with fail
  rw [rounds_succ]
  go_wp2_with fail
  go_ret
  exact ⟨rfl, rfl⟩
theorem ix_two_0 (c v : Nat) (g o cap : Nat) (w : World) (k0 : w.cell? ⟨g, o, none⟩ = some (.int .u64 (v : Int))) (k1 : w.cell? ⟨g, o + 1, none⟩ = some (.int .u64 (c : Int))) : Calls Tryz.prog 24 #[.slice (some ⟨g, o, none⟩) 2 cap, .int .u64 (v : Int)] w fun e w' => e = .returned (.int .i64 0) ∧ w' = w := by
  go_enter Tryz.func24, Tryz.ntmps24
  go_wp2_with fail
  refine wp_loop_rounds 1 ?_
  rw [rounds_succ]
  go_wp2_with fail
  go_ret
  exact ⟨rfl, rfl⟩
theorem ix_two_1 (c v : Nat) (hc : v ≠ c) (g o cap : Nat) (w : World) (k0 : w.cell? ⟨g, o, none⟩ = some (.int .u64 (c : Int))) (k1 : w.cell? ⟨g, o + 1, none⟩ = some (.int .u64 (v : Int))) : Calls Tryz.prog 24 #[.slice (some ⟨g, o, none⟩) 2 cap, .int .u64 (v : Int)] w fun e w' => e = .returned (.int .i64 1) ∧ w' = w := by
  have hne : decide (v = c) = false := by simpa using hc
  have hne' : decide ((v : Int) = (c : Int)) = false := by simp; omega
  go_enter Tryz.func24, Tryz.ntmps24
  go_wp2_with fail
  refine wp_loop_rounds 2 ?_
  rw [rounds_succ]
  go_wp2_with fail
  rw [rounds_succ]
  go_wp2_with fail
  go_ret
  exact ⟨rfl, rfl⟩
end Go.Proofs.YtmgdbfmlnmahpaaGreatDoor
