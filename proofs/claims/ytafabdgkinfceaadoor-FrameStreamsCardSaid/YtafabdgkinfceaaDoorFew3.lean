/- aviarylaw03.Few and aviaryref02.Texts, walked. -/
import Derived.Test.YtafabdgkinfceaaDoorStrRow
import Derived.Test.YtafabdgkinfceaaDoorPut
import Derived.LoopTactic
namespace Go.Proofs.YtafabdgkinfceaaDoor
open Go.RowKit Go.Shelf
set_option linter.unusedSimpArgs false
set_option linter.unusedVariables false

/-- the first three hundred bytes -/
def cut300 (s : ByteArray) : ByteArray := s.extract 0 (min s.size 300)
/-- the first eight texts, cut -/
def fewL (L : List ByteArray) : List ByteArray := (L.take 8).map cut300
theorem cut300_size (s : ByteArray) : (cut300 s).size ≤ 300 := by unfold cut300; simp; omega
theorem fewL_length (L : List ByteArray) : (fewL L).length ≤ 8 := by unfold fewL; simp; omega
theorem fewL_size (L : List ByteArray) : ∀ x ∈ fewL L, x.size ≤ 300 := by
  intro x hx
  obtain ⟨y, _, rfl⟩ := List.mem_map.1 hx
  exact cut300_size y
theorem fewL_succ (L : List ByteArray) (k : Nat) (x : ByteArray) (hx : L[k]? = some x) : (L.take (k + 1)).map cut300 = (L.take k).map cut300 ++ [cut300 x] := by
  have hk : k < L.length := (List.getElem?_eq_some_iff.1 hx).1
  have e : L[k] = x := by simpa [List.getElem?_eq_getElem hk] using hx
  rw [List.take_succ_eq_append_getElem hk, List.map_append, e]
  rfl

set_option maxRecDepth 100000 in
set_option maxHeartbeats 2000000 in
theorem few_any (L : List ByteArray) (hN : ∀ x ∈ L, x.size ≤ 9223372036854775807) (hl : L.length ≤ 9223372036854775807) (s : Option Addr) (cap : Nat) (hcl : L.length ≤ cap) (w : World) (hE : Strs w s L) :
    Calls Tryd.prog 21 #[.slice s L.length cap] w fun e w' => ∃ v, e = .returned v ∧ OwnS w' w.heap.size v (fewL L) ∧ Below w.heap.size w w' := by
  go_enter Tryd.func21, Tryd.ntmps21
  go_wp2_with fail
  go_loopw [3, 4] (fun v i wr => ∃ (k : Nat) (vv : Value), vv = v ∧ k ≤ L.length ∧ k ≤ 8 ∧ i = .int .i64 k ∧ St w [] (fun _ => True) wr ∧ OwnS wr w.heap.size v ((L.take k).map cut300)) (fun _ i _ => L.length - (intOf i).toNat)
  case atStart => exact ⟨0, _, rfl, Nat.zero_le _, by omega, rfl, St.start w, OwnS.nil _ _⟩
  case round =>
    obtain ⟨k, vv, rfl, hk, hk1, rfl, st, hown⟩ := hrel
    by_cases h1 : k < L.length
    · by_cases h2 : k < 8
      · obtain ⟨x, hx⟩ : ∃ x, L[k]? = some x := ⟨_, List.getElem?_eq_getElem h1⟩
        have hxs := hN x (List.mem_of_getElem? hx)
        obtain ⟨g, o, rfl, hgl, hc⟩ := hE k x hx
        obtain ⟨m, hm, hmm, hms⟩ : ∃ m : Nat, min (x.size : Int) 300 = (m : Int) ∧ min x.size 300 = m ∧ m ≤ x.size := ⟨min x.size 300, by omega, rfl, by omega⟩
        have HX : Hid ((L.take (k + 1)).map cut300 = (L.take k).map cut300 ++ [x.extract 0 m]) := by show _ = _; rw [fewL_succ L k x hx]; unfold cut300; rw [hmm]
        have hln : ((L.take k).map cut300).length ≤ 8 := by simp; omega
        have HX2 := Lib.hid hx
        clear hmm hx
        generalize (L.take k).map cut300 = M at *
        go_wp2_with fail
        refine region_spec 13 (Fs [IsVal (vv), IsVal (.slice (some ⟨g, o, none⟩) L.length cap), IsVal (.int .i64 (k : Int)), IsVal (.pointer (some ⟨g, o + k, none⟩)), IsVal (.string x), IsVal (.slice (some ⟨g, o, none⟩) L.length cap), IsVal (.int .i64 (k : Int)), IsVal (.pointer (some ⟨g, o + k, none⟩)), IsVal (.string x), IsVal (.int .i64 (x.size : Int)), IsVal (.int .i64 (m : Int)), IsVal (.string (x.extract 0 m)), IsRow1 (x.extract 0 m)]) (by kernel_rfl) (by kernel_rfl) (by kernel_rfl) (Fs_stable _ ?stab) ?spec ?endd
        case stab =>
          simp only [List.forall_mem_cons]
          exact ⟨stableVal _, stableVal _, stableVal _, stableVal _, stableVal _, stableVal _, stableVal _, stableVal _, stableVal _, stableVal _, stableVal _, stableVal _, stableRow1 _, by simp⟩
        case spec =>
          refine ⟨?_, ?_, ?_, ?_, ?_, ?_, ?_, ?_, ?_, ?_, ?_, ?_, ?_, trivial⟩
          · intro a W hW hu hd
            have kc : ∀ c, a.eval (Operand.const c) = c := fun _ => rfl
            have kf : ∀ f, a.eval (Operand.func f) = .func (.func f) #[] #[] := fun _ => rfl
            have sW := st.to hW
            have rl := sW.rules
            simp only [Rules, World.size_alloc] at rl
            have u3 : a.eval (Operand.tmp 3) = vv := hu 3 (by decide)
            unfold StepOk
            rw [if_pos (by rfl)]
            clear hu hd
            generalize a.eval = ρ at *
            go_simp
            exact opOk_val rfl
          · intro a W hW hu hd
            have kc : ∀ c, a.eval (Operand.const c) = c := fun _ => rfl
            have kf : ∀ f, a.eval (Operand.func f) = .func (.func f) #[] #[] := fun _ => rfl
            have sW := st.to hW
            have rl := sW.rules
            simp only [Rules, World.size_alloc] at rl
            have u0 : a.eval (Operand.tmp 0) = .slice (some ⟨g, o, none⟩) L.length cap := hu 0 (by decide)
            unfold StepOk
            rw [if_pos (by rfl)]
            clear hu hd
            generalize a.eval = ρ at *
            go_simp
            exact opOk_val rfl
          · intro a W hW hu hd
            have kc : ∀ c, a.eval (Operand.const c) = c := fun _ => rfl
            have kf : ∀ f, a.eval (Operand.func f) = .func (.func f) #[] #[] := fun _ => rfl
            have sW := st.to hW
            have rl := sW.rules
            simp only [Rules, World.size_alloc] at rl
            have u4 : a.eval (Operand.tmp 4) = .int .i64 (k : Int) := hu 4 (by decide)
            unfold StepOk
            rw [if_pos (by rfl)]
            clear hu hd
            generalize a.eval = ρ at *
            go_simp
            exact opOk_val rfl
          · intro a W hW hu hd
            have kc : ∀ c, a.eval (Operand.const c) = c := fun _ => rfl
            have kf : ∀ f, a.eval (Operand.func f) = .func (.func f) #[] #[] := fun _ => rfl
            have sW := st.to hW
            have rl := sW.rules
            simp only [Rules, World.size_alloc] at rl
            have u16 : a.eval (Operand.tmp 16) = .slice (some ⟨g, o, none⟩) L.length cap := hd 1 16 (by kernel_rfl) rfl
            have u17 : a.eval (Operand.tmp 17) = .int .i64 (k : Int) := hd 2 17 (by kernel_rfl) rfl
            unfold StepOk
            rw [if_pos (by rfl)]
            clear hu hd
            generalize a.eval = ρ at *
            go_simp
            exact opOk_val rfl
          · intro a W hW hu hd
            have kc : ∀ c, a.eval (Operand.const c) = c := fun _ => rfl
            have kf : ∀ f, a.eval (Operand.func f) = .func (.func f) #[] #[] := fun _ => rfl
            have sW := st.to hW
            have rl := sW.rules
            simp only [Rules, World.size_alloc] at rl
            have u18 : a.eval (Operand.tmp 18) = .pointer (some ⟨g, o + k, none⟩) := hd 3 18 (by kernel_rfl) rfl
            have hcW : W.cell? ⟨g, o + k, none⟩ = some (.string x) := (sW.below.cell (p := ⟨g, o + k, none⟩) hgl).trans hc
            unfold StepOk
            rw [if_pos (by rfl)]
            clear hu hd
            generalize a.eval = ρ at *
            go_simp
            exact opOk_val rfl
          · intro a W hW hu hd
            have kc : ∀ c, a.eval (Operand.const c) = c := fun _ => rfl
            have kf : ∀ f, a.eval (Operand.func f) = .func (.func f) #[] #[] := fun _ => rfl
            have sW := st.to hW
            have rl := sW.rules
            simp only [Rules, World.size_alloc] at rl
            have u0 : a.eval (Operand.tmp 0) = .slice (some ⟨g, o, none⟩) L.length cap := hu 0 (by decide)
            unfold StepOk
            rw [if_pos (by rfl)]
            clear hu hd
            generalize a.eval = ρ at *
            go_simp
            exact opOk_val rfl
          · intro a W hW hu hd
            have kc : ∀ c, a.eval (Operand.const c) = c := fun _ => rfl
            have kf : ∀ f, a.eval (Operand.func f) = .func (.func f) #[] #[] := fun _ => rfl
            have sW := st.to hW
            have rl := sW.rules
            simp only [Rules, World.size_alloc] at rl
            have u4 : a.eval (Operand.tmp 4) = .int .i64 (k : Int) := hu 4 (by decide)
            unfold StepOk
            rw [if_pos (by rfl)]
            clear hu hd
            generalize a.eval = ρ at *
            go_simp
            exact opOk_val rfl
          · intro a W hW hu hd
            have kc : ∀ c, a.eval (Operand.const c) = c := fun _ => rfl
            have kf : ∀ f, a.eval (Operand.func f) = .func (.func f) #[] #[] := fun _ => rfl
            have sW := st.to hW
            have rl := sW.rules
            simp only [Rules, World.size_alloc] at rl
            have u20 : a.eval (Operand.tmp 20) = .slice (some ⟨g, o, none⟩) L.length cap := hd 5 20 (by kernel_rfl) rfl
            have u21 : a.eval (Operand.tmp 21) = .int .i64 (k : Int) := hd 6 21 (by kernel_rfl) rfl
            unfold StepOk
            rw [if_pos (by rfl)]
            clear hu hd
            generalize a.eval = ρ at *
            go_simp
            exact opOk_val rfl
          · intro a W hW hu hd
            have kc : ∀ c, a.eval (Operand.const c) = c := fun _ => rfl
            have kf : ∀ f, a.eval (Operand.func f) = .func (.func f) #[] #[] := fun _ => rfl
            have sW := st.to hW
            have rl := sW.rules
            simp only [Rules, World.size_alloc] at rl
            have u22 : a.eval (Operand.tmp 22) = .pointer (some ⟨g, o + k, none⟩) := hd 7 22 (by kernel_rfl) rfl
            have hcW : W.cell? ⟨g, o + k, none⟩ = some (.string x) := (sW.below.cell (p := ⟨g, o + k, none⟩) hgl).trans hc
            unfold StepOk
            rw [if_pos (by rfl)]
            clear hu hd
            generalize a.eval = ρ at *
            go_simp
            exact opOk_val rfl
          · intro a W hW hu hd
            have kc : ∀ c, a.eval (Operand.const c) = c := fun _ => rfl
            have kf : ∀ f, a.eval (Operand.func f) = .func (.func f) #[] #[] := fun _ => rfl
            have sW := st.to hW
            have rl := sW.rules
            simp only [Rules, World.size_alloc] at rl
            have u23 : a.eval (Operand.tmp 23) = .string x := hd 8 23 (by kernel_rfl) rfl
            unfold StepOk
            rw [if_pos (by rfl)]
            clear hu hd
            generalize a.eval = ρ at *
            go_simp
            exact opOk_val rfl
          · intro a W hW hu hd
            have kc : ∀ c, a.eval (Operand.const c) = c := fun _ => rfl
            have kf : ∀ f, a.eval (Operand.func f) = .func (.func f) #[] #[] := fun _ => rfl
            have sW := st.to hW
            have rl := sW.rules
            simp only [Rules, World.size_alloc] at rl
            have u24 : a.eval (Operand.tmp 24) = .int .i64 (x.size : Int) := hd 9 24 (by kernel_rfl) rfl
            unfold StepOk
            rw [if_pos (by rfl)]
            clear hu hd
            generalize a.eval = ρ at *
            go_simp
            exact opOk_val rfl
          · intro a W hW hu hd
            have kc : ∀ c, a.eval (Operand.const c) = c := fun _ => rfl
            have kf : ∀ f, a.eval (Operand.func f) = .func (.func f) #[] #[] := fun _ => rfl
            have sW := st.to hW
            have rl := sW.rules
            simp only [Rules, World.size_alloc] at rl
            have u19 : a.eval (Operand.tmp 19) = .string x := hd 4 19 (by kernel_rfl) rfl
            have u25 : a.eval (Operand.tmp 25) = .int .i64 (m : Int) := hd 10 25 (by kernel_rfl) rfl
            unfold StepOk
            rw [if_pos (by rfl)]
            clear hu hd
            generalize a.eval = ρ at *
            go_simp
            exact opOk_val rfl
          · intro a W hW hu hd
            have kc : ∀ c, a.eval (Operand.const c) = c := fun _ => rfl
            have kf : ∀ f, a.eval (Operand.func f) = .func (.func f) #[] #[] := fun _ => rfl
            have sW := st.to hW
            have rl := sW.rules
            simp only [Rules, World.size_alloc] at rl
            have u26 : a.eval (Operand.tmp 26) = .string (x.extract 0 m) := hd 11 26 (by kernel_rfl) rfl
            unfold StepOk
            rw [if_pos (by rfl)]
            clear hu hd
            generalize a.eval = ρ at *
            go_simp
            exact opOk_row1
        case endd =>
          intro v W hW hv
          have v0 : v 0 = (vv) := hv 0 (by omega)
          have v1 : v 1 = (.slice (some ⟨g, o, none⟩) L.length cap) := hv 1 (by omega)
          have v2 : v 2 = (.int .i64 (k : Int)) := hv 2 (by omega)
          have v3 : v 3 = (.pointer (some ⟨g, o + k, none⟩)) := hv 3 (by omega)
          have v4 : v 4 = (.string x) := hv 4 (by omega)
          have v5 : v 5 = (.slice (some ⟨g, o, none⟩) L.length cap) := hv 5 (by omega)
          have v6 : v 6 = (.int .i64 (k : Int)) := hv 6 (by omega)
          have v7 : v 7 = (.pointer (some ⟨g, o + k, none⟩)) := hv 7 (by omega)
          have v8 : v 8 = (.string x) := hv 8 (by omega)
          have v9 : v 9 = (.int .i64 (x.size : Int)) := hv 9 (by omega)
          have v10 : v 10 = (.int .i64 (m : Int)) := hv 10 (by omega)
          have v11 : v 11 = (.string (x.extract 0 m)) := hv 11 (by omega)
          have hf12 : IsRow1 (x.extract 0 m) (v 12) W := hv 12 (by omega)
          clear hv
          simp only [List.take_succ_cons, List.take_zero, List.drop_succ_cons, List.drop_zero, putAll, Nat.zero_add, Nat.reduceAdd]
          rw [v0, v1, v2, v3, v4, v5, v6, v7, v8, v9, v10, v11]
          clear v0 v1 v2 v3 v4 v5 v6 v7 v8 v9 v10 v11
          have sW := st.to hW
          obtain ⟨g1, v12, hg1⟩ := hf12
          rw [v12]
          clear v12
          have hown3 := OwnS.keep _ _ hown hW
          have hz4 := sW.below.size
          clear hc st hown
          refine append_strR rfl (.tmp 15) (.tmp 27) rfl w.heap.size vv M (x.extract 0 m) (by simp [Act.eval, Act.put]) sW hown3 (Nat.le_refl _) (by simp) hz4 g1 hg1 (by simp [Act.eval, Act.put]) (by omega) ?_
          intro v5 w5 st5 hown5 hz5
          go_wp2_with fail
          rw [← HX.out] at hown5
          go_roundw
          case rel => exact ⟨k + 1, _, rfl, h1, h2, by go_num, st5, hown5⟩
          case measure => simp [intOf]; omega
      · obtain rfl : k = 8 := by omega
        have d2 : ¬ (8 : Int) < 8 := by omega
        go_wp2_with fail
        go_ret
        exact ⟨_, rfl, hown, st.below⟩
    · obtain rfl : k = L.length := by omega
      have e : L.take L.length = L.take 8 := by rw [List.take_of_length_le (Nat.le_refl _), List.take_of_length_le (by omega)]
      rw [e] at hown
      clear e
      go_wp2_with fail
      go_ret
      exact ⟨_, rfl, hown, st.below⟩

end Go.Proofs.YtafabdgkinfceaaDoor
