/- The first bytes of a text, and the first entries of a log: walked. -/
import Derived.Test.YtclhbimlpamjiaaFew
import Derived.Test.YtclhbimlpamjiaaSt
namespace Go.Proofs.Ytclhbimlpamjiaa
open Go.RowKit

theorem opOk_callE {P : Program} {f : FuncId} {args : Array Value} {W : World} {F : Value → World → Prop} (h : Calls P f args W fun e w' => ∃ v, e = .returned v ∧ Below W.heap.size W w' ∧ F v w') :
    OpOk P W F (.ok (.enter f args) W) := ⟨Below.refl _ _, h⟩
/-- the value is a row of entries of the call's own -/
def IsOwnE (B : Nat) (L : List Ent) : Value → World → Prop := fun v W => OwnE W B v L
theorem stableOwnE (B : Nat) (L : List Ent) : Stable (IsOwnE B L) := fun _ _ _ h hb => ownsRow_keep _ _ h hb

theorem cut_any (s : ByteArray) (hs : s.size ≤ 9223372036854775807) (w : World) :
    Calls Try.prog 13 #[.string s] w fun e w' => e = .returned (.string (cut210 s)) ∧ w' = w := by
  go_enter Try.func13, Try.ntmps13
  go_wp2_with fail
  go_ret
  exact ⟨rfl, rfl⟩

set_option maxRecDepth 100000 in
set_option maxHeartbeats 1000000 in
theorem fewLog_any (bf : Int) (L : List Ent) (hL : ∀ x ∈ L, x.Num) (hl : L.length ≤ 9223372036854775807) (s : Option Addr) (cap : Nat) (w : World) (hE : Ents w s L) :
    Calls Try.prog 11 #[lv bf s L.length cap] w fun e w' => ∃ v, e = .returned (.agg #[.int .u64 bf, v]) ∧ OwnE w' w.heap.size v (fewE L) ∧ Below w.heap.size w w' := by
  have st := (St.start w).alloc (cs := #[.int .u64 bf, .slice s L.length cap]) (T := 27) |>.alloc (cs := #[.int .u64 0, .slice none 0 0]) (T := 27)
  go_enter Try.func11, Try.ntmps11
  go_wp2_with fail
  refine region_spec 5 (Fs [IsVal (.pointer (some ⟨w.heap.size, 0, none⟩)), IsVal (.int .u64 bf), IsVal (.pointer (some ⟨w.heap.size, 1, none⟩)), IsVal (.slice s L.length cap), IsOwnE (w.heap.size + 2) (fewE L)]) (by kernel_rfl) (by kernel_rfl) (by kernel_rfl) (Fs_stable _ ?stab) ?spec ?endd
  case stab =>
    simp only [List.forall_mem_cons]
    exact ⟨stableVal _, stableVal _, stableVal _, stableVal _, stableOwnE _ _, by simp⟩
  case spec =>
    refine ⟨?_, ?_, ?_, ?_, ?_, trivial⟩
    · intro a W hW hu hd
      have kc : ∀ c, a.eval (Operand.const c) = c := fun _ => rfl
      have kf : ∀ f, a.eval (Operand.func f) = .func (.func f) #[] #[] := fun _ => rfl
      have sW := st.to hW
      have rl := sW.rules
      simp only [Rules, World.size_alloc] at rl
      have u1 : a.eval (Operand.tmp 1) = .pointer (some ⟨w.heap.size, 0, none⟩) := hu 1 (by decide)
      unfold StepOk
      rw [if_pos (by rfl)]
      clear hu hd
      generalize a.eval = ρ at *
      go_simp
      exact opOk_val rfl
    · intro a W hW hu hd
      have kc : ∀ c, a.eval (Operand.const c) = c := fun _ => rfl
      have kf : ∀ f, a.eval (Operand.func f) = .func (.func f) #[] #[] := fun _ => rfl
      have sW := st.to hW
      have rl := sW.rules
      simp only [Rules, World.size_alloc] at rl
      have u3 : a.eval (Operand.tmp 3) = .pointer (some ⟨w.heap.size, 0, none⟩) := hd 0 3 (by kernel_rfl) rfl
      unfold StepOk
      rw [if_pos (by rfl)]
      clear hu hd
      generalize a.eval = ρ at *
      go_simp
      exact opOk_val rfl
    · intro a W hW hu hd
      have kc : ∀ c, a.eval (Operand.const c) = c := fun _ => rfl
      have kf : ∀ f, a.eval (Operand.func f) = .func (.func f) #[] #[] := fun _ => rfl
      have sW := st.to hW
      have rl := sW.rules
      simp only [Rules, World.size_alloc] at rl
      have u1 : a.eval (Operand.tmp 1) = .pointer (some ⟨w.heap.size, 0, none⟩) := hu 1 (by decide)
      unfold StepOk
      rw [if_pos (by rfl)]
      clear hu hd
      generalize a.eval = ρ at *
      go_simp
      exact opOk_val rfl
    · intro a W hW hu hd
      have kc : ∀ c, a.eval (Operand.const c) = c := fun _ => rfl
      have kf : ∀ f, a.eval (Operand.func f) = .func (.func f) #[] #[] := fun _ => rfl
      have sW := st.to hW
      have rl := sW.rules
      simp only [Rules, World.size_alloc] at rl
      have u5 : a.eval (Operand.tmp 5) = .pointer (some ⟨w.heap.size, 1, none⟩) := hd 2 5 (by kernel_rfl) rfl
      unfold StepOk
      rw [if_pos (by rfl)]
      clear hu hd
      generalize a.eval = ρ at *
      go_simp
      exact opOk_val rfl
    · intro a W hW hu hd
      have kc : ∀ c, a.eval (Operand.const c) = c := fun _ => rfl
      have kf : ∀ f, a.eval (Operand.func f) = .func (.func f) #[] #[] := fun _ => rfl
      have sW := st.to hW
      have rl := sW.rules
      simp only [Rules, World.size_alloc] at rl
      have u6 : a.eval (Operand.tmp 6) = .slice s L.length cap := hd 3 6 (by kernel_rfl) rfl
      unfold StepOk
      rw [if_pos (by rfl)]
      clear hu hd
      generalize a.eval = ρ at *
      go_simp
      exact opOk_callE ((few_any L hL hl s cap _ (hE.below sW.below)).mono fun e w' ⟨v, he, ho, hb⟩ => ⟨v, he, hb, ownsRow_base ho (by have := hW.size; simp at this; omega)⟩)
  case endd =>
    intro v W hW hv
    have v0 : v 0 = (.pointer (some ⟨w.heap.size, 0, none⟩)) := hv 0 (by omega)
    have v1 : v 1 = (.int .u64 bf) := hv 1 (by omega)
    have v2 : v 2 = (.pointer (some ⟨w.heap.size, 1, none⟩)) := hv 2 (by omega)
    have v3 : v 3 = (.slice s L.length cap) := hv 3 (by omega)
    have hf4 : IsOwnE (w.heap.size + 2) (fewE L) (v 4) W := hv 4 (by omega)
    clear hv
    simp only [List.take_succ_cons, List.take_zero, List.drop_succ_cons, List.drop_zero, putAll, Nat.zero_add, Nat.reduceAdd]
    rw [v0, v1, v2, v3]
    clear v0 v1 v2 v3
    have sW := st.to hW
    have hown := hf4
    unfold IsOwnE at hown
    obtain ⟨s4, c4, hv4, _, _, _⟩ := own_ents hown
    rw [hv4] at hown ⊢
    clear hf4
    have rl := sW.rules
    simp only [Rules, World.size_alloc] at rl
    go_wp2_with fail
    refine bodyPost_ret (v := .agg #[.int .u64 bf, .slice s4 (fewE L).length c4]) (by simp [results, Try.results11, go_sem, rl]) rfl ⟨.slice s4 (fewE L).length c4, rfl, ?_, ?_⟩
    · exact ownsRow_base (ownsRow_setCell_below (ownsRow_setCell_below hown (a := ⟨w.heap.size + 1, 0, none⟩) (by show w.heap.size + 1 < w.heap.size + 2; omega) _) (a := ⟨w.heap.size + 1, 1, none⟩) (by show w.heap.size + 1 < w.heap.size + 2; omega) _) (by omega)
    · exact (sW.below.setCell (p := ⟨w.heap.size + 1, 0, none⟩) (by show w.heap.size ≤ w.heap.size + 1; omega) _).setCell (p := ⟨w.heap.size + 1, 1, none⟩) (by show w.heap.size ≤ w.heap.size + 1; omega) _
end Go.Proofs.Ytclhbimlpamjiaa
