/- A part of the proof of TopCounts. -/
import Derived.Test.YtmgdbfmlnmahpaaGreatDoorG26
import Derived.Test.YtmgdbfmlnmahpaaGreatDoorG10
namespace Go.Proofs.YtmgdbfmlnmahpaaGreatDoor
open Go.RowKit Go.Shelf
set_option linter.unusedSimpArgs false
set_option linter.unusedVariables false
set_option maxRecDepth 100000
theorem elemStr : Elem Tryz.prog 49 9 1 16 := Elem.mk (z := .string ⟨#[]⟩) Tryz.underlying49 (by kernel_rfl) rfl (by decide)
theorem join_one (s : ByteArray) (g o cap : Nat) (w : World) (h : w.cell? ⟨g, o, none⟩ = some (.string s)) : Calls Tryz.prog 122 #[.slice (some ⟨g, o, none⟩) 1 cap, .string ⟨#[44]⟩] w fun e w' => e = .returned (.string s) ∧ w' = w := by
  go_enter Tryz.func122, Tryz.ntmps122
  go_wp2_with fail
  go_ret
  exact ⟨rfl, rfl⟩
abbrev labAX : Lab := ⟨⟨#[97]⟩, ⟨#[120]⟩⟩
def StTt (w : World) (s : Option Addr) (cap b4 b : Nat) (pre : List Lab) (W : World) : Prop :=
  (pre = [] ∧ St w [(b, #[.slice s 1 cap], 161), (b4, #[.slice none 0 0], 49)] (fun _ => True) W) ∨
  (pre ≠ [] ∧ ∃ d : Hd, RdH 1 encStr W d [(⟨#[97, 61, 120]⟩ : ByteArray)] ∧ St w [(b, #[.slice s 1 cap], 161), (b4, #[.slice d.s 1 d.cap], 49)] (fun _ => True) W)
theorem RdH.own' {α : Type} {k : Nat} {enc : α → List Value} (hk : ∀ x, (enc x).length = k) (hk0 : 0 < k) {W W' : World} {row : Option Nat} {d : Hd} {L : List α} (h : RdH k enc W d L) (hg : W.grownBy W' row) (hrow : ∀ r, row = some r → ∃ o : Obj, W.heap[r]? = some o ∧ o.isCells = false) : RdH k enc W' d L :=
  ⟨rd_own hk hk0 h.rd hg hrow, h.cap, h.max, h.nil, h.plain⟩
theorem StTt.own (w : World) (s : Option Addr) (cap b4 b n : Nat) (hn : w.heap.size ≤ n) : OwnFrom n (StTt w s cap b4 b) := by
  rintro pre A B row (⟨h1, h2⟩ | ⟨h1, d, h2, h3⟩) hg hr
  · exact .inl ⟨h1, h2.own hg hr hn⟩
  · exact .inr ⟨h1, d, h2.own' encStr_len (by decide) hg (fun r e => (hr r e).2), h3.own hg hr hn⟩
theorem StTt.bears (w : World) (s : Option Addr) (cap b4 b : Nat) : Bears none (StTt w s cap b4 b) := by
  rintro pre A B (⟨h1, h2⟩ | ⟨h1, d, h2, h3⟩) hg
  · exact .inl ⟨h1, h2.grown hg (fun k e => by cases e)⟩
  · exact .inr ⟨h1, d, h2.own' encStr_len (by decide) hg (fun r e => by cases e), h3.grown hg (fun k e => by cases e)⟩
def IsSlS (B : Nat) : Value → World → Prop := fun v W => ∃ A, v = .slice (some ⟨A, 0, none⟩) 1 1 ∧ B ≤ A ∧ W.heap[A]? = some (.cells #[.string ⟨#[97, 61, 120]⟩] 9 (0, 0))
theorem stableSlS (B : Nat) : Stable (IsSlS B) := fun _ _ _ ⟨b, h1, h2, h3⟩ hb => ⟨b, h1, h2, (hb.block b (blk_lt h3)).trans h3⟩
def IsOwnS (B : Nat) : Value → World → Prop := fun v W => OwnR 1 encStr 9 W B v [(⟨#[97, 61, 120]⟩ : ByteArray)]
theorem stableOwnS (B : Nat) : Stable (IsOwnS B) := fun _ W W' h hb => OwnR.keep W W' h hb
def AxT (w : World) (x : Lab) (c : Nat) (W : World) : Prop := x = labAX ∧ w.heap.size ≤ c ∧ W.heap[c]? = some (.cells #[.string x.name, .string x.val] 229 (0, 0))
theorem AxT.own (w : World) (x : Lab) (c n : Nat) : OwnFrom n (fun (_ : Unit) W => AxT w x c W) := by
  rintro _ A B row ⟨h1, h2, h3⟩ hg hr
  exact ⟨h1, h2, (hg.block c (blk_lt h3) (fun e => by
    obtain ⟨_, o, ho, hc⟩ := hr _ e.symm
    rw [h3] at ho
    cases ho
    simp [Obj.isCells] at hc)).trans h3⟩
attribute [local go_sem] Oper.semAt_some
set_option maxHeartbeats 1000000 in
theorem lbText_ax (s : Option Addr) (cap : Nat) (w : World) (hL : Rd 2 encL w s [labAX]) :
    Calls Tryz.prog 74 #[.slice s 1 cap] w fun e w' => e = .returned (.tuple #[.string ⟨#[97, 61, 120]⟩, .int .i64 0]) ∧ Below w.heap.size w w' := by
  have hL' := Lib.hid hL
  have HR := Lib.hid (lbRight_one ⟨#[120]⟩ isValue_x s cap w hL)
  refine (callsIn_wide (n := 5)).1 ?_
  refine callsIn_of_wp_marks Tryz.func74 rfl trivial ?_ rfl
  simp only [Tryz.ntmps74, List.size_toArray, List.length_cons, List.length_nil, Nat.reduceAdd, Nat.reduceSub, Array.replicate_succ, Array.replicate_zero, List.push_toArray, List.append_toArray, List.nil_append, List.cons_append]
  refine wpIn_wide.2 ?_
  go_wp2_with fail
  refine HR.out.mono ?_
  rintro e w1 ⟨rfl, hb1⟩
  have st1 := ((St.start w).to hb1).alloc (cs := #[.slice none 0 0]) (T := 49)
  have hz1 : (w1.alloc (.cells #[.slice none 0 0] 49)).heap.size = w1.heap.size + 1 := by simp
  have hw1 := hb1.size
  clear hb1 HR
  have HZ1 := Lib.hid hz1
  clear hz1
  go_wp2_with fail
  generalize w1.alloc (.cells #[.slice none 0 0] 49) = w2 at *
  refine (eachL_any s 1 cap w2).mono ?_
  rintro e w3 ⟨rfl, rfl⟩
  go_wp2_with fail
  have st3 := st1.alloc (cs := #[.slice s 1 cap]) (T := 161)
  have hz2 : (w2.alloc (.cells #[.slice s 1 cap] 161)).heap.size = w2.heap.size + 1 := by simp
  have hz12 : w1.heap.size < w2.heap.size := by have := HZ1.out; omega
  clear st1
  generalize w2.alloc (.cells #[.slice s 1 cap] 161) = w3 at *
  have hz23 : w2.heap.size < w3.heap.size := by omega
  clear hz2
  have hw3 := st3.below.size
  have hlie : LieB [(w2.heap.size, #[.slice s 1 cap], 161)] w3 := fun x hx => st3.blk x (by simp at hx; rcases hx with rfl; simp)
  have stc : StTt w s cap w1.heap.size w2.heap.size [] w3 := .inl ⟨rfl, st3⟩
  have hr3 := hL.keepB (Nat.le_refl _) st3.below
  refine (wpIn_wide (n := 5)).1 (wpIn_rangeFunc_w (n := 5) (b := none) (fun _ e => by cases e) rfl (by omega) (gf := 197) (lb := #[.pointer (some ⟨w2.heap.size, 0, none⟩)]) rfl trivial (enters_of Tryz.func197 (by kernel_rfl) rfl)
    (fun W hb => valsL_seq [(w2.heap.size, #[.slice s 1 cap], 161)] w2.heap.size [labAX] (by simp) s cap (by simp) 4 (by omega) W (hlie.below hb) (hr3.keepB (Nat.le_refl _) hb)) (fun h k => ⟨fun x hx => (k.1 x hx).trans (h.1 x hx), fun r => k.2 (h.2 r)⟩) ?kb (fun _ => rfl)
    (StTt w s cap w1.heap.size w2.heap.size) (fun _ _ _ => False)
    (StTt.own w s cap _ _ _ hw3) (fun c _ _ _ _ h hg hr => h)
    (StTt.bears w s cap _ _) (fun c _ _ _ h hg => h) stc
    (fun x c => { tmps := #[.slice s 1 cap, undef, .string ⟨#[]⟩, .int .i64 0, .pointer (some ⟨w1.heap.size, 0, none⟩), .pointer (some ⟨c, 0, none⟩), .slice s 1 cap, .bool true, .bool false, .slice s 1 cap, .func (.func 197) #[] #[.pointer (some ⟨w2.heap.size, 0, none⟩)], labV x, undef, undef, undef, undef, undef, undef, undef, undef, undef, undef, undef, undef], defers := [] })
    (fun x c W => AxT w x c W) (fun x c => AxT.own w x c _) ?assign ?body ?done ?stop)
  case kb =>
    intro W l' o' hl' hlt
    refine ⟨fun x hx => ?_, fun r => ?_⟩
    · simp at hx
      subst hx
      exact World.putObj_heap_other (by show w2.heap.size ≠ _; omega)
    · intro i x hx
      obtain ⟨g0, o0, e0, hg0, _⟩ := hr3 i x hx
      obtain ⟨g, o, e, hg, hc⟩ := r i x hx
      rw [e0] at e
      cases e
      refine ⟨g0, o0, e0, by simpa [World.putObj] using hg, fun j u hu => ?_⟩
      rw [← hc j u hu]
      simp only [World.cell?, World.putObj_heap_other (show g0 ≠ l' by omega)]
  case assign =>
    intro l' pre x W K hI hP hK
    have hal := Below.alloc (Below.refl W.heap.size W) (Nat.le_refl _) (.cells #[.string x.name, .string x.val] 229)
    have hIb : w2.heap.size < W.heap.size ∧ w.heap.size ≤ W.heap.size := by
      rcases hI with ⟨_, h⟩ | ⟨_, d, _, h⟩
      · exact ⟨blk_lt (h.blk (w2.heap.size, #[.slice s 1 cap], 161) (by simp)), h.below.size⟩
      · exact ⟨blk_lt (h.blk (w2.heap.size, #[.slice s 1 cap], 161) (by simp)), h.below.size⟩
    have HK := Lib.hid (hK W.heap.size (W.alloc (.cells #[.string x.name, .string x.val] 229)) (keepsOthers_below hal) ⟨fun y hy => by
        simp at hy
        subst hy
        exact hal.block _ hIb.1, fun r => r.keepB (Nat.le_refl _) hal⟩ (StTt.bears w s cap _ _ _ _ _ hI (grownBy_ofBelow hal none)) ⟨by simpa using hP, hIb.2, World.alloc_heap_new W _⟩)
    clear hK
    gi_wp2_with fail
    exact HK.out
  case body =>
    rintro l' pre x c W hI ⟨rfl, hcw, hc⟩ hN
    obtain rfl : pre = [] := List.eq_nil_of_length_eq_zero (by simpa using hN)
    obtain ⟨_, stI⟩ : _ ∧ St w [(w2.heap.size, #[.slice s 1 cap], 161), (w1.heap.size, #[.slice none 0 0], 49)] (fun _ => True) W := by
      rcases hI with h | ⟨h, _⟩
      · exact h
      · exact (h rfl).elim
    have hne : ∀ y ∈ [(w2.heap.size, #[.slice s 1 cap], 161), (w1.heap.size, #[.slice none 0 0], 49)], (y : Blk).1 ≠ c := by
      intro y hy e
      have h1 := stI.blk y hy
      rw [e, hc] at h1
      simp at hy
      rcases hy with rfl | rfl <;> simp at h1
    have stJ := stI.cons hc hne
    clear hI stI hc hne hL hr3 hlie stc st3
    simp only [labAX] at stJ ⊢
    gi_wp2_with fail
    refine regionR_spec 10 (Fs [IsVal (.slice none 0 0), IsVal (.pointer (some ⟨c, 0, none⟩)), IsVal (.string ⟨#[97]⟩), IsVal (.string ⟨#[97, 61]⟩), IsVal (.pointer (some ⟨c, 1, none⟩)), IsVal (.string ⟨#[120]⟩), IsVal (.string ⟨#[120]⟩), IsVal (.string ⟨#[97, 61, 120]⟩), IsSlS w.heap.size, IsOwnS W.heap.size]) (by kernel_rfl) (by kernel_rfl) (by kernel_rfl) (by kernel_rfl) (Fs_stable _ ?stab) ?spec ?endd
    case stab =>
      simp only [List.forall_mem_cons]
      exact ⟨stableVal _, stableVal _, stableVal _, stableVal _, stableVal _, stableVal _, stableVal _, stableVal _, stableSlS _, stableOwnS _, by simp⟩
    case spec =>
      refine ⟨?_, ?_, ?_, ?_, ?_, ?_, ?_, ?_, ?_, ?_, trivial⟩
      · intro a W_ hW_ hu hd
        have kc : ∀ c, a.eval (Operand.const c) = c := fun _ => rfl
        have kf : ∀ f, a.eval (Operand.func f) = .func (.func f) #[] #[] := fun _ => rfl
        have sW := stJ.to hW_
        have rl := sW.rules
        simp only [Rules, World.size_alloc] at rl
        have u4 : a.eval (Operand.tmp 4) = .pointer (some ⟨w1.heap.size, 0, none⟩) := hu 4 (by decide)
        unfold StepOk
        rw [if_pos (by rfl)]
        clear hu hd
        generalize a.eval = ρ at *
        go_simp
        exact opOk_val rfl
      · intro a W_ hW_ hu hd
        have kc : ∀ c, a.eval (Operand.const c) = c := fun _ => rfl
        have kf : ∀ f, a.eval (Operand.func f) = .func (.func f) #[] #[] := fun _ => rfl
        have sW := stJ.to hW_
        have rl := sW.rules
        simp only [Rules, World.size_alloc] at rl
        have u5 : a.eval (Operand.tmp 5) = .pointer (some ⟨c, 0, none⟩) := hu 5 (by decide)
        unfold StepOk
        rw [if_pos (by rfl)]
        clear hu hd
        generalize a.eval = ρ at *
        go_simp
        exact opOk_val rfl
      · intro a W_ hW_ hu hd
        have kc : ∀ c, a.eval (Operand.const c) = c := fun _ => rfl
        have kf : ∀ f, a.eval (Operand.func f) = .func (.func f) #[] #[] := fun _ => rfl
        have sW := stJ.to hW_
        have rl := sW.rules
        simp only [Rules, World.size_alloc] at rl
        have u13 : a.eval (Operand.tmp 13) = .pointer (some ⟨c, 0, none⟩) := hd 1 13 (by kernel_rfl) rfl
        unfold StepOk
        rw [if_pos (by rfl)]
        clear hu hd
        generalize a.eval = ρ at *
        go_simp
        exact opOk_val rfl
      · intro a W_ hW_ hu hd
        have kc : ∀ c, a.eval (Operand.const c) = c := fun _ => rfl
        have kf : ∀ f, a.eval (Operand.func f) = .func (.func f) #[] #[] := fun _ => rfl
        have sW := stJ.to hW_
        have rl := sW.rules
        simp only [Rules, World.size_alloc] at rl
        have u14 : a.eval (Operand.tmp 14) = .string ⟨#[97]⟩ := hd 2 14 (by kernel_rfl) rfl
        unfold StepOk
        rw [if_pos (by rfl)]
        clear hu hd
        generalize a.eval = ρ at *
        go_simp
        exact opOk_val rfl
      · intro a W_ hW_ hu hd
        have kc : ∀ c, a.eval (Operand.const c) = c := fun _ => rfl
        have kf : ∀ f, a.eval (Operand.func f) = .func (.func f) #[] #[] := fun _ => rfl
        have sW := stJ.to hW_
        have rl := sW.rules
        simp only [Rules, World.size_alloc] at rl
        have u5 : a.eval (Operand.tmp 5) = .pointer (some ⟨c, 0, none⟩) := hu 5 (by decide)
        unfold StepOk
        rw [if_pos (by rfl)]
        clear hu hd
        generalize a.eval = ρ at *
        go_simp
        exact opOk_val rfl
      · intro a W_ hW_ hu hd
        have kc : ∀ c, a.eval (Operand.const c) = c := fun _ => rfl
        have kf : ∀ f, a.eval (Operand.func f) = .func (.func f) #[] #[] := fun _ => rfl
        have sW := stJ.to hW_
        have rl := sW.rules
        simp only [Rules, World.size_alloc] at rl
        have u16 : a.eval (Operand.tmp 16) = .pointer (some ⟨c, 1, none⟩) := hd 4 16 (by kernel_rfl) rfl
        unfold StepOk
        rw [if_pos (by rfl)]
        clear hu hd
        generalize a.eval = ρ at *
        go_simp
        exact opOk_val rfl
      · intro a W_ hW_ hu hd
        have kc : ∀ c, a.eval (Operand.const c) = c := fun _ => rfl
        have kf : ∀ f, a.eval (Operand.func f) = .func (.func f) #[] #[] := fun _ => rfl
        have sW := stJ.to hW_
        have rl := sW.rules
        simp only [Rules, World.size_alloc] at rl
        have u17 : a.eval (Operand.tmp 17) = .string ⟨#[120]⟩ := hd 5 17 (by kernel_rfl) rfl
        unfold StepOk
        rw [if_pos (by rfl)]
        clear hu hd
        generalize a.eval = ρ at *
        go_simp
        exact opOk_call (quoted_x W_) (fun _ _ => rfl)
      · intro a W_ hW_ hu hd
        have kc : ∀ c, a.eval (Operand.const c) = c := fun _ => rfl
        have kf : ∀ f, a.eval (Operand.func f) = .func (.func f) #[] #[] := fun _ => rfl
        have sW := stJ.to hW_
        have rl := sW.rules
        simp only [Rules, World.size_alloc] at rl
        have u15 : a.eval (Operand.tmp 15) = .string ⟨#[97, 61]⟩ := hd 3 15 (by kernel_rfl) rfl
        have u18 : a.eval (Operand.tmp 18) = .string ⟨#[120]⟩ := hd 6 18 (by kernel_rfl) rfl
        unfold StepOk
        rw [if_pos (by rfl)]
        clear hu hd
        generalize a.eval = ρ at *
        go_simp
        exact opOk_val rfl
      · intro a W_ hW_ hu hd
        have kc : ∀ c, a.eval (Operand.const c) = c := fun _ => rfl
        have kf : ∀ f, a.eval (Operand.func f) = .func (.func f) #[] #[] := fun _ => rfl
        have sW := stJ.to hW_
        have rl := sW.rules
        simp only [Rules, World.size_alloc] at rl
        have u19 : a.eval (Operand.tmp 19) = .string ⟨#[97, 61, 120]⟩ := hd 7 19 (by kernel_rfl) rfl
        unfold StepOk
        rw [if_pos (by rfl)]
        clear hu hd
        generalize a.eval = ρ at *
        go_simp
        exact ⟨(Below.refl _ _).alloc (Nat.le_refl _) _, W_.heap.size, rfl, sW.below.size, World.alloc_heap_new _ _⟩
      · intro a W_ hW_ hu hd
        have kc : ∀ c, a.eval (Operand.const c) = c := fun _ => rfl
        have kf : ∀ f, a.eval (Operand.func f) = .func (.func f) #[] #[] := fun _ => rfl
        have sW := stJ.to hW_
        have rl := sW.rules
        simp only [Rules, World.size_alloc] at rl
        have u12 : a.eval (Operand.tmp 12) = .slice none 0 0 := hd 0 12 (by kernel_rfl) rfl
        have f20 : IsSlS w.heap.size (a.eval (Operand.tmp 20)) W_ := hd 8 20 (by kernel_rfl) rfl
        obtain ⟨A, u20, hA, hN⟩ := f20
        unfold StepOk
        rw [if_pos (by rfl)]
        clear hu hd
        generalize a.eval = ρ at *
        exact opOk_append_nilR elemStr encStr_len encStr_one (.tmp 12) (.tmp 20) rfl W.heap.size u12 [(⟨#[97, 61, 120]⟩ : ByteArray)] 1 rfl A 0 1 u20 (Rd.ofBlock encStr_len hN rfl) (by simp) (by decide) hW_.size
    case endd =>
      intro v W_ hW_ hv
      have v0 : v 0 = (.slice none 0 0) := hv 0 (by omega)
      have v1 : v 1 = (.pointer (some ⟨c, 0, none⟩)) := hv 1 (by omega)
      have v2 : v 2 = (.string ⟨#[97]⟩) := hv 2 (by omega)
      have v3 : v 3 = (.string ⟨#[97, 61]⟩) := hv 3 (by omega)
      have v4 : v 4 = (.pointer (some ⟨c, 1, none⟩)) := hv 4 (by omega)
      have v5 : v 5 = (.string ⟨#[120]⟩) := hv 5 (by omega)
      have v6 : v 6 = (.string ⟨#[120]⟩) := hv 6 (by omega)
      have v7 : v 7 = (.string ⟨#[97, 61, 120]⟩) := hv 7 (by omega)
      have hf8 : IsSlS w.heap.size (v 8) W_ := hv 8 (by omega)
      have hf9 : IsOwnS W.heap.size (v 9) W_ := hv 9 (by omega)
      clear hv
      simp only [List.take_succ_cons, List.take_zero, List.drop_succ_cons, List.drop_zero, putAll, Nat.zero_add, Nat.reduceAdd]
      rw [v0, v1, v2, v3, v4, v5, v6, v7]
      clear v0 v1 v2 v3 v4 v5 v6 v7
      have sW := stJ.to hW_
      obtain ⟨⟨ds, dc⟩, v9, hd9, hfr9⟩ := RdH.ownF encStr_len hf9
      have v9' : v 9 = .slice ds 1 dc := v9
      rw [v9']
      generalize v 8 = v8 at *
      have rl := sW.rules
      simp only [Rules] at rl
      have HD := Lib.hid hd9
      have HF := Lib.hid hfr9
      have HW := Lib.hid hW_
      have hl1 : w1.heap.size < W.heap.size := blk_lt (stJ.blk (w1.heap.size, #[.slice none 0 0], 49) (by simp))
      have hl2 : w2.heap.size < W.heap.size := blk_lt (stJ.blk (w2.heap.size, #[.slice s 1 cap], 161) (by simp))
      clear hf8 hf9 hd9 hfr9 v9 v9' hW_ stJ
      gi_wp2_with fail
      have st6 := St.setT (sW.less _ (List.sublist_cons_self _ _)) 1 (A := w1.heap.size) rfl (o := 0) (v := .slice ds 1 dc) hw1
      simp only [setB, List.modify_succ_cons, List.modify_zero_cons, List.setIfInBounds_toArray, List.set_cons_zero] at st6
      refine ⟨(keepsOthers_below HW.out).trans (KeepsOthers.setCell W_ ⟨w1.heap.size, 0, none⟩ (.slice ds 1 dc)), ⟨fun y hy => ?_, fun r => hL'.out.keepB (Nat.le_refl _) st6.below⟩, .inr ⟨by simp, ⟨ds, dc⟩, HD.out.up HF.out ((KeepUp.refl _ _).set hl1 _), st6⟩⟩
      simp at hy
      subst hy
      exact (Below.heap_setCell W_ ⟨w1.heap.size, 0, none⟩ _ w2.heap.size (by show w2.heap.size ≠ w1.heap.size; omega)).trans (HW.out.block _ hl2)
  case done =>
    rintro D xs W hD rfl hI hK
    obtain ⟨⟨ds, dc⟩, hd, st9⟩ : ∃ d : Hd, RdH 1 encStr W d [(⟨#[97, 61, 120]⟩ : ByteArray)] ∧ St w [(w2.heap.size, #[.slice s 1 cap], 161), (w1.heap.size, #[.slice d.s 1 d.cap], 49)] (fun _ => True) W := by
      rcases hI with ⟨h, _⟩ | ⟨_, d, h1, h2⟩
      · cases h
      · exact ⟨d, h1, h2⟩
    obtain ⟨g, o, hds, hg, hc⟩ := hd.rd 0 _ rfl
    have hc0 : W.cell? ⟨g, o, none⟩ = some (.string ⟨#[97, 61, 120]⟩) := hc 0 _ rfl
    obtain rfl : ds = some ⟨g, o, none⟩ := hds
    have rl := st9.rules
    simp only [Rules] at rl
    clear hc hd hI
    go_wp2_with fail
    refine (join_one _ _ _ _ _ hc0).mono ?_
    rintro e w9 ⟨rfl, rfl⟩
    go_wp2_with fail
    refine ⟨by simp, .inl ⟨_, _, rfl, run_takeDeferred hK, ?_⟩⟩
    exact ⟨_, by simp [results, Tryz.results74, go_sem], rfl, (st9.own (base := w.heap.size) (grownBy_putObj' w9 D _) (fun r e => by cases e; exact ⟨by omega, _, hK, rfl⟩) (Nat.le_refl _)).below⟩
  case stop =>
    rintro D c pre W hD hp h
    exact h.elim
end Go.Proofs.YtmgdbfmlnmahpaaGreatDoor
namespace Go.Proofs.YtmgdbfmlnmahpaaGreatDoor
open Go.RowKit Go.Shelf
set_option linter.unusedSimpArgs false
set_option linter.unusedVariables false
set_option maxRecDepth 100000
theorem scName_a (w : World) : Calls Tryz.prog 79 #[.string ⟨#[97]⟩] w fun e w' => e = .returned (.bool true) ∧ Below w.heap.size w w' := by
  have hal := (Below.refl w.heap.size w).alloc (Nat.le_refl _) (.cells #[.string ⟨#[97]⟩, .string ⟨#[]⟩] 229)
  have hR := Lib.hid (lbRight_one ⟨#[]⟩ isValue_e (some ⟨w.heap.size, 0, none⟩) 1 _ (Rd.ofBlock (L := [⟨⟨#[97]⟩, ⟨#[]⟩⟩]) encL_len (World.alloc_heap_new w (.cells #[.string ⟨#[97]⟩, .string ⟨#[]⟩] 229)) rfl))
  go_enter Tryz.func79, Tryz.ntmps79
  go_wp2_with fail
  refine hR.out.mono ?_
  rintro e w1 ⟨rfl, hb⟩
  have h := hal.trans (hb.mono hal.size)
  clear hR
  go_wp2_with fail
  go_ret
  exact ⟨rfl, h⟩
theorem scValue_x (w : World) : Calls Tryz.prog 170 #[.string ⟨#[120]⟩] w fun e w' => e = .returned (.bool true) ∧ Below w.heap.size w w' := by
  have hal := (Below.refl w.heap.size w).alloc (Nat.le_refl _) (.cells #[.string ⟨#[97]⟩, .string ⟨#[120]⟩] 229)
  have hR := Lib.hid (lbRight_one ⟨#[120]⟩ isValue_x (some ⟨w.heap.size, 0, none⟩) 1 _ (Rd.ofBlock (L := [⟨⟨#[97]⟩, ⟨#[120]⟩⟩]) encL_len (World.alloc_heap_new w (.cells #[.string ⟨#[97]⟩, .string ⟨#[120]⟩] 229)) rfl))
  go_enter Tryz.func170, Tryz.ntmps170
  go_wp2_with fail
  refine hR.out.mono ?_
  rintro e w1 ⟨rfl, hb⟩
  have h := hal.trans (hb.mono hal.size)
  clear hR
  go_wp2_with fail
  go_ret
  exact ⟨rfl, h⟩
def encG (n : Nat) : List Value := [.iface 317 (.agg #[.int .i32 (n : Int)])]
theorem encG_len (n : Nat) : (encG n).length = 1 := rfl
theorem encG_one (n : Nat) : ∀ v ∈ encG n, v.oneCell' = true := by intro v hv; simp [encG] at hv; subst hv; rfl
theorem elemG : Elem Tryz.prog 251 410 1 16 := Elem.mk (z := .nilIface) Tryz.underlying251 (by kernel_rfl) rfl (by decide)
set_option maxHeartbeats 1000000 in
theorem signs_x (w : World) : Calls Tryz.prog 126 #[.string ⟨#[120]⟩] w fun e w' => ∃ d : Hd, e = .returned (.tuple #[d.v 1, .bool true]) ∧ RdH 1 encG w' d [120] ∧ Below w.heap.size w w' := by
  go_enter Tryz.func126, Tryz.ntmps126
  go_wp2_with fail
  refine (scValue_x _).mono ?_
  rintro e w1 ⟨rfl, hb1⟩
  have n0 : (Instr.next (.pointer (some ⟨w1.heap.size, 0, none⟩)) true 0).run Tryz.prog (w1.iter ⟨#[120]⟩ 0) = .ok (.tuple #[.bool true, .int .i64 0, .int .i32 120]) (w1.iter ⟨#[120]⟩ 1) := run_next_ascii w1 ⟨#[120]⟩ 0 0 (by decide) (by decide)
  have ne : (Instr.next (.pointer (some ⟨w1.heap.size, 0, none⟩)) true 0).run Tryz.prog (w1.iter ⟨#[120]⟩ 1) = .ok (.tuple #[.bool false]) (w1.iter ⟨#[120]⟩ 1) := run_next_end w1 ⟨#[120]⟩ 1 0 (by decide)
  go_wp2_with fail
  refine wp_loop_rounds 2 ?_
  rw [rounds_succ]
  have hal := (Below.refl w1.heap.size w1).alloc (Nat.le_refl _) (.stringIter ⟨#[120]⟩ 1)
  go_wp2_with (at_builtin; refine append_one elemG encG_len encG_one rfl (.tmp 16) (.tmp 20) rfl (w1.iter ⟨#[120]⟩ 1).heap.size (.slice none 0 0) ([] : List Nat) 120 rfl (St.start _) (OwnR.nil _ _) (Nat.le_refl _) (by simp) (Nat.le_refl _) _ rfl (w1.iter ⟨#[120]⟩ 1).heap.size rfl rfl (by simp) (by decide) ?_; intro v' w2 ap)
  obtain ⟨⟨ds, dc⟩, hv, hd, _⟩ := RdH.ownF encG_len ap.own
  have hv' : v' = .slice ds 1 dc := hv
  rw [hv']
  have hb2 := ap.st.below
  have hI2 := (hb2.block w1.heap.size (by simp [World.iter])).trans (World.iter_heap w1 ⟨#[120]⟩ 1)
  have hal' : Below w1.heap.size w1 (w1.iter ⟨#[120]⟩ 1) := hal
  have hb := hb1.trans ((hal'.trans (hb2.mono hal'.size)).mono hb1.size)
  have hn2 := Lib.run_next_end_at (P := Tryz.prog) w2 w1.heap.size ⟨#[120]⟩ 1 0 hI2 (by decide)
  have HD := Lib.hid hd
  clear hv hv' hb2 hI2 hal hal' hd ap n0 ne hb1
  rw [rounds_succ]
  go_wp2_with fail
  go_ret2
  exact ⟨⟨ds, dc⟩, rfl, HD.out, hb⟩
theorem isPattern_x (w : World) : Calls Tryz.prog 80 #[.string ⟨#[120]⟩] w fun e w' => e = .returned (.bool true) ∧ Below w.heap.size w w' := by
  go_enter Tryz.func80, Tryz.ntmps80
  go_wp2_with fail
  refine (signs_x _).mono ?_
  rintro e w1 ⟨d, rfl, _, hb⟩
  go_wp2_with fail
  go_ret
  exact ⟨rfl, hb⟩
end Go.Proofs.YtmgdbfmlnmahpaaGreatDoor
namespace Go.Proofs.YtmgdbfmlnmahpaaGreatDoor
open Go.RowKit Go.Shelf
set_option linter.unusedSimpArgs false
set_option linter.unusedVariables false
set_option maxRecDepth 100000
structure ScOk (sc : ByteArray) : Prop where
  right : ∀ w, Calls Tryz.prog 31 #[.string sc] w fun e w' => e = .returned (.bool true) ∧ Below w.heap.size w w'
  means : ∀ s cap w, Rd 2 encL w s [labAX] → Calls Tryz.prog 165 #[.string sc, .slice s 1 cap] w fun e w' => e = .returned (.tuple #[.bool true, .int .i64 0]) ∧ Below w.heap.size w w'
theorem scRead_e (w : World) : Calls Tryz.prog 50 #[.string ⟨#[]⟩] w fun e w' => e = .returned (.tuple #[.slice none 0 0, .bool true]) ∧ w' = w := by
  refine (callsIn_wide (n := 5)).1 ?_
  refine callsIn_of_wp_marks Tryz.func50 rfl trivial ?_ rfl
  simp only [Tryz.ntmps50, List.size_toArray, List.length_cons, List.length_nil, Nat.reduceAdd, Nat.reduceSub, Array.replicate_succ, Array.replicate_zero, List.push_toArray, List.append_toArray, List.nil_append, List.cons_append]
  refine wpIn_wide.2 ?_
  go_wp2_with fail
  refine wp_scope_straight ?_
  go_wp2_with fail
  rw [Exit.noGoto_ret]
  exact ⟨.tuple #[.slice none 0 0, .bool true], by simp [results, Tryz.results50, go_sem], rfl, rfl⟩
theorem scRight_e (w : World) : Calls Tryz.prog 31 #[.string ⟨#[]⟩] w fun e w' => e = .returned (.bool true) ∧ Below w.heap.size w w' := by
  go_enter Tryz.func31, Tryz.ntmps31
  go_wp2_with fail
  refine (scRead_e _).mono ?_
  rintro e w1 ⟨rfl, rfl⟩
  go_wp2_with fail
  go_ret
  exact ⟨rfl, Below.refl _ _⟩
theorem scMeans_e (s : Option Addr) (cap : Nat) (w : World) (hL : Rd 2 encL w s [labAX]) : Calls Tryz.prog 165 #[.string ⟨#[]⟩, .slice s 1 cap] w fun e w' => e = .returned (.tuple #[.bool true, .int .i64 0]) ∧ Below w.heap.size w w' := by
  have HR := Lib.hid (lbRight_one ⟨#[120]⟩ isValue_x s cap w hL)
  go_enter Tryz.func165, Tryz.ntmps165
  go_wp2_with fail
  refine (scRead_e _).mono ?_
  rintro e w1 ⟨rfl, rfl⟩
  go_wp2_with fail
  refine HR.out.mono ?_
  rintro e w2 ⟨rfl, hb⟩
  clear HR
  go_wp2_with fail
  refine wp_loop_rounds 1 ?_
  rw [rounds_succ]
  go_wp2_with fail
  go_ret2
  exact ⟨rfl, hb⟩
theorem scOk_e : ScOk ⟨#[]⟩ := ⟨scRight_e, scMeans_e⟩
end Go.Proofs.YtmgdbfmlnmahpaaGreatDoor
namespace Go.Proofs.YtmgdbfmlnmahpaaGreatDoor
open Go.RowKit Go.Shelf
set_option linter.unusedSimpArgs false
set_option linter.unusedVariables false
set_option maxRecDepth 100000
abbrev serC (x : Sk) (ls : Option Addr) (lc : Nat) (es : Option Addr) (ec : Nat) (cs : Option Addr) (cc : Nat) (gs : Option Addr) (gc sn : Nat) : Array Value := #[.slice ls 1 lc, .int .i64 x.kind, .int .i64 0, .slice es x.e.length ec, .int .i64 0, .string ⟨#[]⟩, .int .i64 x.rows, .int .i64 x.cols, .slice cs x.c.length cc, .int .i64 x.fine, .slice gs x.g.length gc, .int .u64 (sn : Int)]
def TabE (g o : Nat) (x : Sk) (ls : Option Addr) (lc : Nat) (es : Option Addr) (ec : Nat) (cs : Option Addr) (cc : Nat) (gs : Option Addr) (gc sn : Nat) (W : World) : Prop :=
  g < W.heap.size ∧ W.cell? ⟨g, o, none⟩ = some (.slice ls 1 lc) ∧ W.cell? ⟨g, o + 1, none⟩ = some (.int .i64 x.kind) ∧ W.cell? ⟨g, o + 2, none⟩ = some (.int .i64 0) ∧ W.cell? ⟨g, o + 3, none⟩ = some (.slice es x.e.length ec) ∧ W.cell? ⟨g, o + 4, none⟩ = some (.int .i64 0) ∧ W.cell? ⟨g, o + 5, none⟩ = some (.string ⟨#[]⟩) ∧ W.cell? ⟨g, o + 6, none⟩ = some (.int .i64 x.rows) ∧ W.cell? ⟨g, o + 7, none⟩ = some (.int .i64 x.cols) ∧ W.cell? ⟨g, o + 8, none⟩ = some (.slice cs x.c.length cc) ∧ W.cell? ⟨g, o + 9, none⟩ = some (.int .i64 x.fine) ∧ W.cell? ⟨g, o + 10, none⟩ = some (.slice gs x.g.length gc) ∧ W.cell? ⟨g, o + 11, none⟩ = some (.int .u64 (sn : Int))
theorem TabE.keep {g o : Nat} {x : Sk} {ls : Option Addr} {lc : Nat} {es : Option Addr} {ec : Nat} {cs : Option Addr} {cc : Nat} {gs : Option Addr} {gc sn : Nat} : ∀ W W', TabE g o x ls lc es ec cs cc gs gc sn W → Below W.heap.size W W' → TabE g o x ls lc es ec cs cc gs gc sn W' := by
  rintro W W' ⟨h0, h⟩ hb
  have hc : ∀ j, W'.cell? ⟨g, j, none⟩ = W.cell? ⟨g, j, none⟩ := fun j => hb.cell (p := ⟨g, j, none⟩) h0
  refine ⟨Nat.lt_of_lt_of_le h0 hb.size, ?_⟩
  simp only [hc]
  exact h
theorem TabE.set {g o : Nat} {x : Sk} {ls : Option Addr} {lc : Nat} {es : Option Addr} {ec : Nat} {cs : Option Addr} {cc : Nat} {gs : Option Addr} {gc sn : Nat} {W : World} (h : TabE g o x ls lc es ec cs cc gs gc sn W) {b i : Nat} (hb : g ≠ b) (v : Value) : TabE g o x ls lc es ec cs cc gs gc sn (W.setCell ⟨b, i, none⟩ v) := by
  obtain ⟨h0, h⟩ := h
  have hc : ∀ j, (W.setCell ⟨b, i, none⟩ v).cell? ⟨g, j, none⟩ = W.cell? ⟨g, j, none⟩ := fun j => by simp only [World.cell?, Below.heap_setCell W ⟨b, i, none⟩ v g hb]
  refine ⟨by simpa [World.setCell] using h0, ?_⟩
  simp only [hc]
  exact h
theorem TabE.of {W : World} {g o : Nat} {x : Sk} {ls : Option Addr} {lc : Nat} {es : Option Addr} {ec : Nat} {cs : Option Addr} {cc : Nat} {gs : Option Addr} {gc sn : Nat} (h : Rd 12 encS W (some ⟨g, o, none⟩) [⟨[labAX], x, sn, ⟨ls, lc⟩, ⟨⟨es, ec⟩, ⟨cs, cc⟩, ⟨gs, gc⟩⟩⟩]) : TabE g o x ls lc es ec cs cc gs gc sn W := by
  obtain ⟨g', o', e, hg, hc⟩ := h 0 _ rfl
  cases e
  exact ⟨hg, hc 0 _ rfl, hc 1 _ rfl, hc 2 _ rfl, hc 3 _ rfl, hc 4 _ rfl, hc 5 _ rfl, hc 6 _ rfl, hc 7 _ rfl, hc 8 _ rfl, hc 9 _ rfl, hc 10 _ rfl, hc 11 _ rfl⟩
structure Tab1 (W : World) (t : Hd) (x : Sk) (sn : Nat) (l : Hd) (h : SkH) : Prop where
  t : RdH 12 encS W t [⟨[labAX], x, sn, l, h⟩]
  l : RdH 2 encL W l [labAX]
  k : RdK W x h
  ok : x.Ok
theorem Tab1.keepB {W W' : World} {t : Hd} {x : Sk} {sn : Nat} {l : Hd} {h : SkH} (r : Tab1 W t x sn l h) (hb : Below W.heap.size W W') : Tab1 W' t x sn l h := ⟨r.t.keepB hb, r.l.keepB hb, r.k.keepB hb, r.ok⟩
theorem Tab1.at {W : World} {t : Hd} {x : Sk} {sn : Nat} {l : Hd} {h : SkH} (r : Tab1 W t x sn l h) : ∃ g o, t.s = some ⟨g, o, none⟩ ∧ TabE g o x l.s l.cap h.e.s h.e.cap h.c.s h.c.cap h.g.s h.g.cap sn W := by
  obtain ⟨g, o, e, hg, _⟩ := r.t.rd 0 _ rfl
  have := r.t.rd
  rw [e] at this
  obtain ⟨⟨es, ec⟩, ⟨cs, cc⟩, ⟨gs, gc⟩⟩ := h
  exact ⟨g, o, e, TabE.of this⟩
set_option maxHeartbeats 1000000 in
theorem rightSer_any (x : Sk) (hx : x.Ok) (ls : Option Addr) (lc : Nat) (es : Option Addr) (ec : Nat) (cs : Option Addr) (cc : Nat) (gs : Option Addr) (gc sn : Nat) (w : World) (hl : Rd 2 encL w ls [labAX]) (hK : RdK w x ⟨⟨es, ec⟩, ⟨cs, cc⟩, ⟨gs, gc⟩⟩) :
    Calls Tryz.prog 113 #[.agg #[.slice ls 1 lc, .int .i64 x.kind, .int .i64 0, .slice es x.e.length ec, .int .i64 0, .string ⟨#[]⟩, .int .i64 x.rows, .int .i64 x.cols, .slice cs x.c.length cc, .int .i64 x.fine, .slice gs x.g.length gc, .int .u64 (sn : Int)]] w fun e w' => e = .returned (.bool true) ∧ Below w.heap.size w w' := by
  have HL := Lib.hid (fun W (hW : Below w.heap.size w W) => lbRight_one ⟨#[120]⟩ isValue_x ls lc W (hl.keepB (Nat.le_refl _) hW))
  have HK := Lib.hid (show ∀ W, Below w.heap.size w W → Calls Tryz.prog 158 #[.agg #[.int .i64 x.kind, .int .i64 0, .slice es x.e.length ec, .int .i64 0, .string ⟨#[]⟩, .int .i64 x.rows, .int .i64 x.cols, .slice cs x.c.length cc, .int .i64 x.fine, .slice gs x.g.length gc]] W fun e w' => e = .returned (.bool true) ∧ Below W.heap.size W w' from fun W hW => ladRight_any x hx ⟨⟨es, ec⟩, ⟨cs, cc⟩, ⟨gs, gc⟩⟩ W (hK.keepB hW))
  have st0 := (St.start w).alloc (cs := #[.slice ls 1 lc, .int .i64 x.kind, .int .i64 0, .slice es x.e.length ec, .int .i64 0, .string ⟨#[]⟩, .int .i64 x.rows, .int .i64 x.cols, .slice cs x.c.length cc, .int .i64 x.fine, .slice gs x.g.length gc, .int .u64 (sn : Int)]) (T := 167)
  clear hl hK hx
  generalize x.kind = kd at *
  generalize x.rows = rw at *
  generalize x.cols = cl at *
  generalize x.fine = fi at *
  generalize x.e = E at *
  generalize x.c = C at *
  generalize x.g = G at *
  go_enter Tryz.func113, Tryz.ntmps113
  go_wp2_with fail
  refine (HL.out _ st0.below).mono ?_
  rintro e w1 ⟨rfl, hb1⟩
  have st1 := st0.to hb1
  have rl := st1.rules
  simp only [Rules] at rl
  clear st0 hb1 HL
  go_wp2_with fail
  refine (HK.out _ st1.below).mono ?_
  rintro e w2 ⟨rfl, hb2⟩
  have hb := (st1.to hb2).below
  clear HK rl st1
  go_wp2_with fail
  go_ret
  exact ⟨rfl, hb⟩
theorem seRight0 (s : Option Addr) (cap : Nat) (w : World) : Calls Tryz.prog 73 #[.slice s 0 cap] w fun e w' => e = .returned (.bool true) ∧ w' = w := by
  go_enter Tryz.func73, Tryz.ntmps73
  go_wp2_with fail
  refine wp_loop_rounds 1 ?_
  rw [rounds_succ]
  go_wp2_with fail
  go_ret
  exact ⟨rfl, rfl⟩
set_option maxHeartbeats 1000000 in
theorem seRight1 (t : Hd) (x : Sk) (sn : Nat) (l : Hd) (h : SkH) (w : World) (hT : Tab1 w t x sn l h) : Calls Tryz.prog 73 #[.slice t.s 1 t.cap] w fun e w' => e = .returned (.bool true) ∧ Below w.heap.size w w' := by
  obtain ⟨g, o, hts, hE⟩ := hT.at
  obtain ⟨ts, tc⟩ := t
  obtain ⟨ls, lc⟩ := l
  obtain ⟨⟨es, ec⟩, ⟨cs, cc⟩, ⟨gs, gc⟩⟩ := h
  simp only at hts hE
  subst hts
  change Calls Tryz.prog 73 #[.slice (some ⟨g, o, none⟩) 1 tc] w _
  have HR := Lib.hid (fun W (hW : Below w.heap.size w W) => rightSer_any x hT.ok ls lc es ec cs cc gs gc sn W (hT.l.rd.keepB (Nat.le_refl _) hW) (hT.k.keepB hW))
  have st0 := (St.startE hE TabE.keep).alloc (cs := #[.slice ls 1 lc, .int .i64 x.kind, .int .i64 0, .slice es x.e.length ec, .int .i64 0, .string ⟨#[]⟩, .int .i64 x.rows, .int .i64 x.cols, .slice cs x.c.length cc, .int .i64 x.fine, .slice gs x.g.length gc, .int .u64 (sn : Int)]) (T := 167)
  have tce := hE
  unfold TabE at tce
  clear hT hE
  generalize x.kind = kd at *
  go_enter Tryz.func73, Tryz.ntmps73
  go_wp2_with fail
  refine wp_loop_rounds 2 ?_
  rw [rounds_succ]
  go_wp2_with fail
  refine (HR.out _ st0.below).mono ?_
  rintro e w1 ⟨rfl, hb1⟩
  have st1 := st0.to hb1
  have rl := st1.rules
  simp only [Rules] at rl
  clear st0 hb1 HR
  go_wp2_with fail
  obtain ⟨bl2, E2, hne2, sh2, rl, hEx, hbx, hst⟩ := st1.hide
  simp only [Rules] at rl
  refine region_st sh2 (by kernel_rfl) (by kernel_rfl) ?_
  repeat (first | go_big_quiet_step (fail) | quiet_step (fail))
  refine wpQuiet_nil ?_
  intro y
  have st4 := (hst y).out
  clear hbx rl hst sh2 hEx st1
  generalize y.W = w4 at *
  have rl := st4.rules
  simp only [Rules] at rl
  go_wp2_with fail
  rw [rounds_succ]
  go_wp2_with fail
  go_ret
  exact ⟨rfl, st4.below⟩
end Go.Proofs.YtmgdbfmlnmahpaaGreatDoor
namespace Go.Proofs.YtmgdbfmlnmahpaaGreatDoor
open Go.RowKit Go.Shelf
set_option linter.unusedSimpArgs false
set_option linter.unusedVariables false
set_option maxRecDepth 100000
theorem append_oneG {α : Type} {k : Nat} {enc : α → List Value} {P : Program} {t e : TypeId} {bytes : Nat} (el : Elem P t e k bytes) (hk : ∀ x, (enc x).length = k) (h1 : ∀ x, ∀ v ∈ enc x, v.oneCell' = true) {ops : Array Oper} {rest : List Oper} {o : Oper} {a : Act} {Q : Exit → Act → World → Prop} {w0 W : World} {bl : List Blk} (hgd : o.guard = none) (s x : Operand)
    (ho : o.op = .call { callee := .builtin .append, args := #[s, x], argTypes := #[t, t] }) (B : Nat) (v : Value) (L : List α) (y : α) (hs : a.eval s = v) (st : St w0 bl (fun _ => True) W) (hown : OwnR k enc e W B v L)
    (hw : w0.heap.size ≤ B) (hbl : ∀ z ∈ bl, z.1 < B) (hB : B ≤ W.heap.size) (cs : Array Value) (hcs : cs = (enc y).toArray) (g : Nat) (hg : g = W.heap.size) (hx : a.eval x = .slice (some ⟨g, 0, none⟩) 1 1) (hn : L.length + 1 ≤ 1000000) (hby : bytes ≤ 10000)
    (h : ∀ v' w', Appd w0 bl W B k enc e (L ++ [y]) v' w' → (W.alloc (.cells cs e)).grownBy w' v.ownBlock → wpList P ops Q rest (a.put o.dst v') w') :
    wpList P ops Q (o :: rest) a (W.alloc (.cells cs e)) := by
  obtain ⟨h2, h0, i, z, h3, h4, h5, h6, h7⟩ := el
  subst hg
  subst hcs
  have hb := (Below.refl W.heap.size W).alloc (Nat.le_refl _) (.cells (enc y).toArray e)
  have hown1 := OwnR.keep _ _ hown hb
  have hmul : (L.length + 1) * bytes ≤ 1000000 * 10000 := Nat.mul_le_mul hn hby
  refine wpList_append_own _ hgd s x t ho B e i z k bytes h2 h3 h4 h5 h6 h7 h0 v L.length (L.flatMap enc) hs hown1 ⟨W.heap.size, 0, none⟩ 1 1 (enc y) hx (by rw [hk]; omega) ?_ (h1 y) (by unfold maxLen; omega) (by omega) (by simp; omega) ?_
  · intro j u hj
    rw [Addr.add_lit, Nat.zero_add, blk_cell (World.alloc_heap_new W _), List.getElem?_toArray, hj]
  · intro v' w' hown' hgr _
    exact h v' w' (appd_of (M := [y]) st hown1 hb hw hbl hB (by simpa using hown') hgr) hgr
theorem run_buildS (a0 a1 a2 a3 a4 a5 a6 a7 a8 a9 a10 a11 : Value) (w : World) : (Instr.buildSlice 74 1 #[(0, .agg #[a0, a1, a2, a3, a4, a5, a6, a7, a8, a9, a10, a11])]).run Tryz.prog w = .ok (.slice (some ⟨w.heap.size, 0, none⟩) 1 1) (w.alloc (.cells #[a0, a1, a2, a3, a4, a5, a6, a7, a8, a9, a10, a11] 167)) := by kernel_rfl
theorem wp_buildS {o : Oper} {a : Act} {w : World} {K : Act → World → Prop} {Q : Exit → Act → World → Prop} (x : Operand) (ho : o.op = .buildSlice 74 1 #[(0, x)]) (a0 a1 a2 a3 a4 a5 a6 a7 a8 a9 a10 a11 : Value) (hx : a.eval x = .agg #[a0, a1, a2, a3, a4, a5, a6, a7, a8, a9, a10, a11])
    (h : K (a.put o.dst (.slice (some ⟨w.heap.size, 0, none⟩) 1 1)) (w.alloc (.cells #[a0, a1, a2, a3, a4, a5, a6, a7, a8, a9, a10, a11] 167))) : o.wp Tryz.prog a w K Q := by
  unfold Oper.wp execOp
  simp only [ho, List.map_toArray, List.map_cons, List.map_nil, hx, Sem.run_bind, run_buildS, Result.andThen_ok]
  exact h
theorem wpList_buildS {ops : Array Oper} {rest : List Oper} {o : Oper} {a : Act} {w : World} {Q : Exit → Act → World → Prop} (hg : o.guard = none) (x : Operand) (ho : o.op = .buildSlice 74 1 #[(0, x)]) (a0 a1 a2 a3 a4 a5 a6 a7 a8 a9 a10 a11 : Value) (hx : a.eval x = .agg #[a0, a1, a2, a3, a4, a5, a6, a7, a8, a9, a10, a11])
    (h : wpList Tryz.prog ops Q rest (a.put o.dst (.slice (some ⟨w.heap.size, 0, none⟩) 1 1)) (w.alloc (.cells #[a0, a1, a2, a3, a4, a5, a6, a7, a8, a9, a10, a11] 167))) : wpList Tryz.prog ops Q (o :: rest) a w :=
  wpList_plain hg fun _ hK => wp_buildS x ho _ _ _ _ _ _ _ _ _ _ _ _ hx (hK _ _ h)
theorem RdH.grown {α : Type} {k : Nat} {enc : α → List Value} {W W' : World} {B : Nat} {h : Hd} {L : List α} {row : Option Nat} (r : RdH k enc W h L) (hf : Fresh B h) (hg : W.grownBy W' row) (hr : ∀ k, row = some k → k < B) : RdH k enc W' h L := by
  refine ⟨fun i x hx => ?_, r.cap, r.max, r.nil, r.plain⟩
  obtain ⟨g, o, e, hgl, hc⟩ := r.rd i x hx
  refine ⟨g, o, e, Nat.lt_of_lt_of_le hgl hg.size, fun j u hu => ?_⟩
  rw [← hc j u hu]
  simp only [World.cell?, hg.block g hgl (fun ee => by have := hr g ee.symm; have := hf g o e; omega)]
theorem seFind0 (s : Option Addr) (cap : Nat) (v : Value) (w : World) : Calls Tryz.prog 69 #[.slice s 0 cap, v] w fun e w' => e = .returned (.tuple #[.int .i64 0, .bool false]) ∧ w' = w := by
  go_enter Tryz.func69, Tryz.ntmps69
  go_wp2_with fail
  refine (seRight0 _ _ _).mono ?_
  rintro e w1 ⟨rfl, rfl⟩
  go_wp2_with fail
  refine wp_loop_rounds 1 ?_
  rw [rounds_succ]
  go_wp2_with fail
  go_ret2
  exact ⟨rfl, rfl⟩
theorem add0 (v : Value) (s : Option Addr) (cap : Nat) (w : World) : Calls Tryz.prog 114 #[v, .slice s 0 cap] w fun e w' => e = .returned v ∧ w' = w := by
  go_enter Tryz.func114, Tryz.ntmps114
  go_wp2_with fail
  refine wp_loop_rounds 1 ?_
  rw [rounds_succ]
  go_wp2_with fail
  go_ret
  exact ⟨rfl, rfl⟩
def Adds (w0 w : World) (B : Nat) (x : Sk) (sn : Nat) (e : Ending) (w' : World) : Prop :=
  ∃ (v' : Value) (l : Hd) (h : SkH), e = .returned v' ∧ OwnR 12 encS 167 w' B v' [⟨[labAX], x, sn, l, h⟩] ∧ RdH 2 encL w' l [labAX] ∧ RdK w' x h ∧ Fresh w.heap.size l ∧ FreshK w.heap.size h ∧ Below w0.heap.size w0 w' ∧ (∀ b, b < B → w'.heap[b]? = w.heap[b]?)
set_option maxHeartbeats 2000000 in
theorem add1 (v : Value) (t : Hd) (x : Sk) (sn : Nat) (l : Hd) (h : SkH) (w w0 : World) (B : Nat) (hT : Tab1 w t x sn l h) (hlen : x.e.length ≤ 100000 ∧ x.c.length ≤ 100000 ∧ x.g.length ≤ 100000) (hO : OwnR 12 encS 167 w B v ([] : List Ser)) (h0 : Below w0.heap.size w0 w) (hw0 : w0.heap.size ≤ B) (hB : B ≤ w.heap.size) : Calls Tryz.prog 114 #[v, .slice t.s 1 t.cap] w (Adds w0 w B x sn) := by
  obtain ⟨g, o, hts, hE⟩ := hT.at
  obtain ⟨ts, tc⟩ := t
  obtain ⟨ls, lc⟩ := l
  obtain ⟨⟨es, ec⟩, ⟨cs, cc⟩, ⟨gs, gc⟩⟩ := h
  simp only at hts hE
  subst hts
  change Calls Tryz.prog 114 #[v, .slice (some ⟨g, o, none⟩) 1 tc] w _
  have HC0 := Lib.hid (fun W (hW : Below w.heap.size w W) => cloneL_any [labAX] (by decide) ⟨ls, lc⟩ W (hT.l.keepB hW))
  have HC1 := Lib.hid (fun W (hW : Below w.heap.size w W) => cloneU_any x.e hlen.1 ⟨es, ec⟩ W (hT.k.e.keepB hW))
  have HC2 := Lib.hid (fun W (hW : Below w.heap.size w W) => cloneU_any x.c hlen.2.1 ⟨cs, cc⟩ W (hT.k.c.keepB hW))
  have HC3 := Lib.hid (fun W (hW : Below w.heap.size w W) => cloneB_any x.g hlen.2.2 ⟨gs, gc⟩ W (hT.k.g.keepB hW))
  have HO := Lib.hid hO
  have HB := Lib.hid (And.intro h0 (And.intro hw0 hB))
  have st0 := (St.start w).alloc (cs := #[.slice ls 1 lc, .int .i64 x.kind, .int .i64 0, .slice es x.e.length ec, .int .i64 0, .string ⟨#[]⟩, .int .i64 x.rows, .int .i64 x.cols, .slice cs x.c.length cc, .int .i64 x.fine, .slice gs x.g.length gc, .int .u64 (sn : Int)]) (T := 167)
  have tce := hE
  unfold TabE at tce
  clear hT hE hlen hO h0 hw0 hB
  go_enter Tryz.func114, Tryz.ntmps114
  go_wp2_with fail
  refine wp_loop_rounds 2 ?_
  rw [rounds_succ]
  go_wp2_with fail
  refine (HC0.out _ st0.below).mono ?_
  rintro e w1 ⟨⟨lS, lC⟩, rfl, hd, hf, hb1⟩
  have hz := blk_lt (st0.blk _ (List.mem_of_getElem? (i := 0) rfl))
  have HFl := hf.mono (show w.heap.size + 1 ≤ _ from hz)
  have HDl := Lib.hid hd
  have st1 := st0.to hb1
  have rl := st1.rules
  simp only [Rules] at rl
  try clear tce
  clear st0 hb1 hd hf hz HC0
  go_wp2_with fail
  have st0 := St.setT st1 0 (A := w.heap.size) rfl (o := 0) (v := .slice lS 1 lC) (Nat.le_refl _)
  simp only [setB, List.modify_succ_cons, List.modify_zero_cons, List.setIfInBounds_toArray, List.set_cons_zero, List.set_cons_succ] at st0
  replace HDl := Lib.hid (HDl.out.up HFl ((KeepUp.refl _ _).set (b := w.heap.size) (o := 0) (Nat.lt_succ_self _) (.slice lS 1 lC)))
  clear st1 rl
  refine (HC1.out _ st0.below).mono ?_
  rintro e w2 ⟨⟨eS, eC⟩, rfl, hd, hf, hb1⟩
  have hz := blk_lt (st0.blk _ (List.mem_of_getElem? (i := 0) rfl))
  have HFe := hf.mono (show w.heap.size + 1 ≤ _ from hz)
  replace HDl := Lib.hid (HDl.out.keepB hb1)
  have HDe := Lib.hid hd
  have st1 := st0.to hb1
  have rl := st1.rules
  simp only [Rules] at rl
  clear st0 hb1 hd hf hz HC1
  go_wp2_with fail
  have st0 := St.setT st1 0 (A := w.heap.size) rfl (o := 3) (v := .slice eS x.e.length eC) (Nat.le_refl _)
  simp only [setB, List.modify_succ_cons, List.modify_zero_cons, List.setIfInBounds_toArray, List.set_cons_zero, List.set_cons_succ] at st0
  replace HDl := Lib.hid (HDl.out.up HFl ((KeepUp.refl _ _).set (b := w.heap.size) (o := 3) (Nat.lt_succ_self _) (.slice eS x.e.length eC)))
  replace HDe := Lib.hid (HDe.out.up HFe ((KeepUp.refl _ _).set (b := w.heap.size) (o := 3) (Nat.lt_succ_self _) (.slice eS x.e.length eC)))
  clear st1 rl
  refine (HC2.out _ st0.below).mono ?_
  rintro e w3 ⟨⟨cS, cC⟩, rfl, hd, hf, hb1⟩
  have hz := blk_lt (st0.blk _ (List.mem_of_getElem? (i := 0) rfl))
  have HFc := hf.mono (show w.heap.size + 1 ≤ _ from hz)
  replace HDl := Lib.hid (HDl.out.keepB hb1)
  replace HDe := Lib.hid (HDe.out.keepB hb1)
  have HDc := Lib.hid hd
  have st1 := st0.to hb1
  have rl := st1.rules
  simp only [Rules] at rl
  clear st0 hb1 hd hf hz HC2
  go_wp2_with fail
  have st0 := St.setT st1 0 (A := w.heap.size) rfl (o := 8) (v := .slice cS x.c.length cC) (Nat.le_refl _)
  simp only [setB, List.modify_succ_cons, List.modify_zero_cons, List.setIfInBounds_toArray, List.set_cons_zero, List.set_cons_succ] at st0
  replace HDl := Lib.hid (HDl.out.up HFl ((KeepUp.refl _ _).set (b := w.heap.size) (o := 8) (Nat.lt_succ_self _) (.slice cS x.c.length cC)))
  replace HDe := Lib.hid (HDe.out.up HFe ((KeepUp.refl _ _).set (b := w.heap.size) (o := 8) (Nat.lt_succ_self _) (.slice cS x.c.length cC)))
  replace HDc := Lib.hid (HDc.out.up HFc ((KeepUp.refl _ _).set (b := w.heap.size) (o := 8) (Nat.lt_succ_self _) (.slice cS x.c.length cC)))
  clear st1 rl
  refine (HC3.out _ st0.below).mono ?_
  rintro e w4 ⟨⟨gS, gC⟩, rfl, hd, hf, hb1⟩
  have hz := blk_lt (st0.blk _ (List.mem_of_getElem? (i := 0) rfl))
  have HFg := hf.mono (show w.heap.size + 1 ≤ _ from hz)
  replace HDl := Lib.hid (HDl.out.keepB hb1)
  replace HDe := Lib.hid (HDe.out.keepB hb1)
  replace HDc := Lib.hid (HDc.out.keepB hb1)
  have HDg := Lib.hid hd
  have st1 := st0.to hb1
  have rl := st1.rules
  simp only [Rules] at rl
  clear st0 hb1 hd hf hz HC3
  have hst := (((St.start w0).to HB.out.1).to (Below.setCell st1.below (p := ⟨w.heap.size, 10, none⟩) (Nat.le_refl _) (.slice gS x.g.length gC)))
  have hbl4 := Below.setCell st1.below (p := ⟨w.heap.size, 10, none⟩) (Nat.le_refl _) (.slice gS x.g.length gC)
  have HO2 := Lib.hid (OwnR.keep _ _ HO.out hbl4)
  have hBW : B ≤ (w4.setCell ⟨w.heap.size, 10, none⟩ (.slice gS x.g.length gC)).heap.size := Nat.le_trans HB.out.2.2 hbl4.size
  have hzz : w4.heap.size = (w4.setCell ⟨w.heap.size, 10, none⟩ (.slice gS x.g.length gC)).heap.size := by simp [World.setCell]
  simp only [Hd.v]
  go_wp2_with (first | (refine wpList_buildS rfl (.tmp 42) rfl _ _ _ _ _ _ _ _ _ _ _ _ rfl ?_) | (at_builtin; refine append_oneG elemS encS_len encS_one rfl (.tmp 41) (.tmp 43) rfl B v ([] : List Ser) ⟨[labAX], x, sn, ⟨lS, lC⟩, ⟨⟨eS, eC⟩, ⟨cS, cC⟩, ⟨gS, gC⟩⟩⟩ rfl hst (HO2.out) HB.out.2.1 (by simp) hBW _ rfl _ rfl rfl (by simp) (by decide) ?_; intro v2 w5 ap hgr))
  go_frame
  go_wp2_with fail
  rw [rounds_succ]
  go_wp2_with fail
  have hr : ∀ k, v.ownBlock = some k → k < w.heap.size + 1 := fun k e => by have := (HO.out.lt k e).2; omega
  have hku : KeepUp (w.heap.size + 1) w4 (w4.setCell ⟨w.heap.size, 10, none⟩ (.slice gS x.g.length gC)) := (KeepUp.refl _ _).set (Nat.lt_succ_self _) _
  refine bodyPost_ret (v := v2) (by simp [results, Tryz.results114, go_sem]) rfl ⟨v2, ⟨lS, lC⟩, ⟨⟨eS, eC⟩, ⟨cS, cC⟩, ⟨gS, gC⟩⟩, rfl, ap.own, ?_, ⟨?_, ?_, ?_⟩, HFl.mono (by omega), ⟨HFe.mono (by omega), HFc.mono (by omega), HFg.mono (by omega)⟩, ap.st.below, fun b hb => ?_⟩
  · exact ((HDl.out.up HFl hku).keepB ((Below.refl _ _).alloc (Nat.le_refl _) _)).grown HFl hgr hr
  · exact ((HDe.out.up HFe hku).keepB ((Below.refl _ _).alloc (Nat.le_refl _) _)).grown HFe hgr hr
  · exact ((HDc.out.up HFc hku).keepB ((Below.refl _ _).alloc (Nat.le_refl _) _)).grown HFc hgr hr
  · exact ((HDg.out.up HFg hku).keepB ((Below.refl _ _).alloc (Nat.le_refl _) _)).grown HFg hgr hr
  · exact (ap.low b hb).trans (hbl4.block b (by have := HB.out.2.2; omega))
end Go.Proofs.YtmgdbfmlnmahpaaGreatDoor
namespace Go.Proofs.YtmgdbfmlnmahpaaGreatDoor
open Go.RowKit Go.Shelf
set_option linter.unusedSimpArgs false
set_option linter.unusedVariables false
set_option maxRecDepth 100000
theorem make_own {α : Type} {k : Nat} {enc : α → List Value} {P : Program} {t e : TypeId} {bytes : Nat} (el : Elem P t e k bytes) {ops : Array Oper} {rest : List Oper} {o : Oper} {a : Act} {Q : Exit → Act → World → Prop} {W : World} (hgd : o.guard = none) (l c : Operand) (ho : o.op = Op.makeSlice t l c) (n : Nat)
    (hl : a.eval l = .int .i64 0) (hc : a.eval c = .int .i64 (n : Int)) (hn : n ≤ 1000000) (hby : bytes ≤ 10000)
    (h : ∀ w', OwnR k enc e w' W.heap.size (.slice (some ⟨W.heap.size, 0, none⟩) 0 n) ([] : List α) → Below W.heap.size W w' → wpList P ops Q rest (a.put o.dst (.slice (some ⟨W.heap.size, 0, none⟩) 0 n)) w') :
    wpList P ops Q (o :: rest) a W := by
  obtain ⟨h2, h0, i, z, h3, h4, h5, h6, h7⟩ := el
  have hmul : i.bytes * n ≤ 10000 * 1000000 := Nat.mul_le_mul (by omega) hn
  refine wpList_make_own _ hgd l c t ho W.heap.size e i z k h2 h3 h4 h5 .i64 .i64 n n hl hc rfl (by omega) (by unfold maxLen; omega) (Nat.le_refl _) ?_
  intro w' hown hgr
  exact h w' hown ⟨hgr.os, hgr.tape, hgr.output, hgr.size, fun b hbl => hgr.block b hbl (by simp)⟩
def GivesT (w : World) (x : Sk) (sn : Nat) (v : Value) (w' : World) : Prop :=
  ∃ (t l : Hd) (h : SkH), v = t.v 1 ∧ Tab1 w' t x sn l h ∧ Fresh w.heap.size t ∧ Fresh w.heap.size l ∧ FreshK w.heap.size h
set_option maxHeartbeats 2000000 in
theorem sePut0 (x : Sk) (hx : x.Ok) (hlen : x.e.length ≤ 100000 ∧ x.c.length ≤ 100000 ∧ x.g.length ≤ 100000) (ls : Option Addr) (lc : Nat) (es : Option Addr) (ec : Nat) (cs : Option Addr) (cc : Nat) (gs : Option Addr) (gc sn : Nat) (tg t0 : Nat) (w : World) (hl : RdH 2 encL w ⟨ls, lc⟩ [labAX]) (hK : RdK w x ⟨⟨es, ec⟩, ⟨cs, cc⟩, ⟨gs, gc⟩⟩) :
    Calls Tryz.prog 71 #[.slice (some ⟨tg, t0, none⟩) 0 0, .agg #[.slice ls 1 lc, .int .i64 x.kind, .int .i64 0, .slice es x.e.length ec, .int .i64 0, .string ⟨#[]⟩, .int .i64 x.rows, .int .i64 x.cols, .slice cs x.c.length cc, .int .i64 x.fine, .slice gs x.g.length gc, .int .u64 (sn : Int)]] w fun e w' => ∃ v, e = .returned (.tuple #[v, .int .i64 0]) ∧ GivesT w x sn v w' ∧ Below w.heap.size w w' := by
  have HR := Lib.hid (fun W (hW : Below w.heap.size w W) => rightSer_any x hx ls lc es ec cs cc gs gc sn W (hl.rd.keepB (Nat.le_refl _) hW) (hK.keepB hW))
  have HL := Lib.hid (And.intro hl (And.intro hK (And.intro hx hlen)))
  have st0 := (St.start w).alloc (cs := #[.slice ls 1 lc, .int .i64 x.kind, .int .i64 0, .slice es x.e.length ec, .int .i64 0, .string ⟨#[]⟩, .int .i64 x.rows, .int .i64 x.cols, .slice cs x.c.length cc, .int .i64 x.fine, .slice gs x.g.length gc, .int .u64 (sn : Int)]) (T := 167)
  clear hl hK hx hlen
  go_enter Tryz.func71, Tryz.ntmps71
  go_wp2_with fail
  refine (seRight0 _ _ _).mono ?_
  rintro e w0 ⟨rfl, rfl⟩
  go_wp2_with fail
  refine (HR.out _ st0.below).mono ?_
  rintro e w1 ⟨rfl, hb1⟩
  have st1 := st0.to hb1
  have rl := st1.rules
  simp only [Rules] at rl
  clear st0 hb1 HR
  go_wp2_with fail
  refine (seFind0 _ _ _ _).mono ?_
  rintro e w1 ⟨rfl, rfl⟩
  go_wp2_with (at_make; refine make_own (enc := encS) elemS rfl _ _ rfl 1 rfl rfl (by decide) (by decide) ?_; intro w2 hO hb2)
  refine (add0 _ _ _ _).mono ?_
  rintro e w2 ⟨rfl, rfl⟩
  have hz1 := st1.below.size
  have st2 := st1.to hb2
  have rl := st2.rules
  simp only [Rules] at rl
  go_wp2_with (refine wpList_buildS rfl (.tmp 46) rfl _ _ _ _ _ _ _ _ _ _ _ _ rfl ?_)
  have hal := (Below.refl w2.heap.size w2).alloc (Nat.le_refl _) (.cells #[.slice ls 1 lc, .int .i64 x.kind, .int .i64 0, .slice es x.e.length ec, .int .i64 0, .string ⟨#[]⟩, .int .i64 x.rows, .int .i64 x.cols, .slice cs x.c.length cc, .int .i64 x.fine, .slice gs x.g.length gc, .int .u64 (sn : Int)] 167)
  have st3 := st2.alloc (cs := #[.slice ls 1 lc, .int .i64 x.kind, .int .i64 0, .slice es x.e.length ec, .int .i64 0, .string ⟨#[]⟩, .int .i64 x.rows, .int .i64 x.cols, .slice cs x.c.length cc, .int .i64 x.fine, .slice gs x.g.length gc, .int .u64 (sn : Int)]) (T := 167)
  have HT : Tab1 (w2.alloc (.cells #[.slice ls 1 lc, .int .i64 x.kind, .int .i64 0, .slice es x.e.length ec, .int .i64 0, .string ⟨#[]⟩, .int .i64 x.rows, .int .i64 x.cols, .slice cs x.c.length cc, .int .i64 x.fine, .slice gs x.g.length gc, .int .u64 (sn : Int)] 167)) ⟨some ⟨w2.heap.size, 0, none⟩, 1⟩ x sn ⟨ls, lc⟩ ⟨⟨es, ec⟩, ⟨cs, cc⟩, ⟨gs, gc⟩⟩ :=
    ⟨⟨Rd.ofBlock encS_len (World.alloc_heap_new _ _) rfl, by simp, (show 1 ≤ 9223372036854775807 by decide), (fun h => by cases h), PlainS.some _ _⟩, HL.out.1.keepB st3.below, HL.out.2.1.keepB st3.below, HL.out.2.2.1⟩
  refine (add1 _ ⟨some ⟨w2.heap.size, 0, none⟩, 1⟩ x sn ⟨ls, lc⟩ ⟨⟨es, ec⟩, ⟨cs, cc⟩, ⟨gs, gc⟩⟩ _ w w1.heap.size HT HL.out.2.2.2 (OwnR.keep _ _ hO hal) st3.below hz1 (Nat.le_trans hb2.size hal.size)).mono ?_
  rintro e w4 ⟨v', l', h', rfl, hO', hl', hk', hf1, hf2, hb4, _⟩
  have hz3 : w.heap.size ≤ (w2.alloc (.cells #[.slice ls 1 lc, .int .i64 x.kind, .int .i64 0, .slice es x.e.length ec, .int .i64 0, .string ⟨#[]⟩, .int .i64 x.rows, .int .i64 x.cols, .slice cs x.c.length cc, .int .i64 x.fine, .slice gs x.g.length gc, .int .u64 (sn : Int)] 167)).heap.size := st3.below.size
  clear rl st1 st2 st3 HT hal hb2
  go_wp2_with fail
  refine (add0 _ _ _ _).mono ?_
  rintro e w4 ⟨rfl, rfl⟩
  go_wp2_with fail
  obtain ⟨t, hv, ht, hft⟩ := RdH.ownF encS_len hO'
  refine bodyPost_ret (v := .tuple #[v', .int .i64 0]) (by simp [results, Tryz.results71, go_sem]) rfl ⟨v', rfl, ⟨t, l', h', hv, ⟨ht, hl', hk', HL.out.2.2.1⟩, hft.mono hz1, hf1.mono hz3, hf2.mono hz3⟩, hb4⟩
end Go.Proofs.YtmgdbfmlnmahpaaGreatDoor
namespace Go.Proofs.YtmgdbfmlnmahpaaGreatDoor
open Go.RowKit Go.Shelf
set_option linter.unusedSimpArgs false
set_option linter.unusedVariables false
set_option maxRecDepth 100000
theorem seCost0 (s : Option Addr) (cap : Nat) (w : World) : Calls Tryz.prog 47 #[.slice s 0 cap] w fun e w' => e = .returned (.int .i64 0) ∧ w' = w := by
  go_enter Tryz.func47, Tryz.ntmps47
  go_wp2_with fail
  refine (seRight0 _ _ _).mono ?_
  rintro e w1 ⟨rfl, rfl⟩
  go_wp2_with fail
  refine wp_loop_rounds 1 ?_
  rw [rounds_succ]
  go_wp2_with fail
  go_ret
  exact ⟨rfl, rfl⟩
set_option maxHeartbeats 1000000 in
theorem seCost1 (t : Hd) (x : Sk) (sn : Nat) (l : Hd) (h : SkH) (w : World) (hT : Tab1 w t x sn l h) : Calls Tryz.prog 47 #[.slice t.s 1 t.cap] w fun e w' => e = .returned (.int .i64 (x.cost + 3 : Nat)) ∧ Below w.heap.size w w' := by
  have HR := Lib.hid (seRight1 t x sn l h w hT)
  obtain ⟨g, o, hts, hE⟩ := hT.at
  obtain ⟨ts, tc⟩ := t
  obtain ⟨ls, lc⟩ := l
  obtain ⟨⟨es, ec⟩, ⟨cs, cc⟩, ⟨gs, gc⟩⟩ := h
  simp only at hts hE
  subst hts
  have tce := hE
  unfold TabE at tce
  change Calls Tryz.prog 47 #[.slice (some ⟨g, o, none⟩) 1 tc] w _
  have HT := Lib.hid (fun W (hW : Below w.heap.size w W) => lbText_ax ls lc W (hT.l.rd.keepB (Nat.le_refl _) hW))
  have HC := Lib.hid (show ∀ W, Below w.heap.size w W → Calls Tryz.prog 75 #[.agg #[.int .i64 x.kind, .int .i64 0, .slice es x.e.length ec, .int .i64 0, .string ⟨#[]⟩, .int .i64 x.rows, .int .i64 x.cols, .slice cs x.c.length cc, .int .i64 x.fine, .slice gs x.g.length gc]] W fun e w' => e = .returned (.int .i64 (x.cost : Nat)) ∧ Below W.heap.size W w' from fun W hW => ladCost_any x hT.ok ⟨⟨es, ec⟩, ⟨cs, cc⟩, ⟨gs, gc⟩⟩ W (hT.k.keepB hW))
  obtain ⟨c1, c2⟩ := x.cost_le hT.ok
  generalize x.cost = co at *
  have HE := Lib.hid hE
  clear hT hE tce
  go_enter Tryz.func47, Tryz.ntmps47
  go_wp2_with fail
  refine HR.out.mono ?_
  rintro e w1 ⟨rfl, hb1⟩
  have tce := TabE.keep _ _ HE.out hb1
  unfold TabE at tce
  have st0 := ((St.start w).to hb1).alloc (cs := #[.slice ls 1 lc, .int .i64 x.kind, .int .i64 0, .slice es x.e.length ec, .int .i64 0, .string ⟨#[]⟩, .int .i64 x.rows, .int .i64 x.cols, .slice cs x.c.length cc, .int .i64 x.fine, .slice gs x.g.length gc, .int .u64 (sn : Int)]) (T := 167)
  have hz1 := hb1.size
  clear hb1 HR HE
  go_wp2_with fail
  refine wp_loop_rounds 2 ?_
  rw [rounds_succ]
  go_wp2_with fail
  clear tce
  refine (HT.out _ st0.below).mono ?_
  rintro e w2 ⟨rfl, hb2⟩
  have st1 := st0.to hb2
  have rl := st1.rules
  simp only [Rules] at rl
  clear st0 hb2 HT
  go_wp2_with fail
  refine (HC.out _ st1.below).mono ?_
  rintro e w3 ⟨rfl, hb3⟩
  have st2 := st1.to hb3
  clear rl st1 hb3 HC
  go_wp2_with fail
  rw [rounds_succ]
  go_wp2_with fail
  go_ret
  exact ⟨ret_num (by push_cast; omega), st2.below⟩
def encN (x : Nat) : List Value := [.int .i64 (x : Int)]
theorem encN_len (x : Nat) : (encN x).length = 1 := rfl
theorem encN_one (x : Nat) : ∀ v ∈ encN x, v.oneCell' = true := by intro v hv; simp [encN] at hv; subst hv; rfl
theorem elemN : Elem Tryz.prog 33 3 1 8 := Elem.mk (z := .int .i64 0) Tryz.underlying33 (by kernel_rfl) rfl (by decide)
theorem seMeant0 (sc : ByteArray) (hS : ScOk sc) (s : Option Addr) (cap : Nat) (w : World) : Calls Tryz.prog 123 #[.slice s 0 cap, .string sc] w fun e w' => e = .returned (.tuple #[.slice none 0 0, .int .i64 0]) ∧ Below w.heap.size w w' := by
  have HS := Lib.hid (hS.right w)
  clear hS
  go_enter Tryz.func123, Tryz.ntmps123
  go_wp2_with fail
  refine (seRight0 _ _ _).mono ?_
  rintro e w1 ⟨rfl, rfl⟩
  go_wp2_with fail
  refine HS.out.mono ?_
  rintro e w2 ⟨rfl, hb⟩
  go_wp2_with fail
  refine wp_loop_rounds 1 ?_
  rw [rounds_succ]
  go_wp2_with fail
  go_ret2
  exact ⟨rfl, hb⟩
set_option maxHeartbeats 1000000 in
theorem seMeant1 (sc : ByteArray) (hS : ScOk sc) (t : Hd) (x : Sk) (sn : Nat) (l : Hd) (h : SkH) (w : World) (hT : Tab1 w t x sn l h) : Calls Tryz.prog 123 #[.slice t.s 1 t.cap, .string sc] w fun e w' => ∃ d : Hd, e = .returned (.tuple #[d.v 1, .int .i64 0]) ∧ RdH 1 encN w' d [0] ∧ Below w.heap.size w w' := by
  have HR := Lib.hid (seRight1 t x sn l h w hT)
  have HS := Lib.hid (fun W => hS.right W)
  obtain ⟨g, o, hts, hE⟩ := hT.at
  obtain ⟨ts, tc⟩ := t
  obtain ⟨ls, lc⟩ := l
  obtain ⟨⟨es, ec⟩, ⟨cs, cc⟩, ⟨gs, gc⟩⟩ := h
  simp only at hts hE
  subst hts
  have tce := hE
  unfold TabE at tce
  change Calls Tryz.prog 123 #[.slice (some ⟨g, o, none⟩) 1 tc, .string sc] w _
  have HM := Lib.hid (fun W (hW : Below w.heap.size w W) => hS.means ls lc W (hT.l.rd.keepB (Nat.le_refl _) hW))
  have HE := Lib.hid hE
  clear hT hE tce hS
  go_enter Tryz.func123, Tryz.ntmps123
  go_wp2_with fail
  refine HR.out.mono ?_
  rintro e w1 ⟨rfl, hb1⟩
  go_wp2_with fail
  refine (HS.out _).mono ?_
  rintro e w2 ⟨rfl, hb2⟩
  have tce := TabE.keep _ _ (TabE.keep _ _ HE.out hb1) hb2
  unfold TabE at tce
  have stA := (((St.start w).to hb1).to hb2)
  have st0 := stA.alloc (cs := #[.slice ls 1 lc, .int .i64 x.kind, .int .i64 0, .slice es x.e.length ec, .int .i64 0, .string ⟨#[]⟩, .int .i64 x.rows, .int .i64 x.cols, .slice cs x.c.length cc, .int .i64 x.fine, .slice gs x.g.length gc, .int .u64 (sn : Int)]) (T := 167)
  have hz1 := stA.below.size
  clear hb1 hb2 HR HE HS stA
  go_wp2_with fail
  refine wp_loop_rounds 2 ?_
  rw [rounds_succ]
  go_wp2_with fail
  clear tce
  refine (HM.out _ st0.below).mono ?_
  rintro e w3 ⟨rfl, hb3⟩
  have st1 := st0.to hb3
  clear st0 hb3 HM
  go_wp2_with (at_builtin; refine append_one elemN encN_len encN_one rfl (.tmp 35) (.tmp 37) rfl w3.heap.size (.slice none 0 0) ([] : List Nat) 0 rfl (St.start w3) (OwnR.nil _ _) (Nat.le_refl _) (by simp) (Nat.le_refl _) _ rfl w3.heap.size rfl rfl (by simp) (by decide) ?_; intro v' w4 ap)
  have hbw := (st1.to ap.st.below).below
  obtain ⟨⟨ds, dc⟩, hv, hd, _⟩ := RdH.ownF encN_len ap.own
  have hv' : v' = .slice ds 1 dc := hv
  rw [hv']
  clear hv hv' ap
  go_wp2_with fail
  rw [rounds_succ]
  go_wp2_with fail
  refine bodyPost_ret (v := .tuple #[.slice ds 1 dc, .int .i64 0]) (by simp [results, Tryz.results123, go_sem]) rfl ⟨⟨ds, dc⟩, rfl, hd, hbw⟩
end Go.Proofs.YtmgdbfmlnmahpaaGreatDoor
namespace Go.Proofs.YtmgdbfmlnmahpaaGreatDoor
open Go.RowKit Go.Shelf
set_option linter.unusedSimpArgs false
set_option linter.unusedVariables false
set_option maxRecDepth 100000
def IsKx (B : Nat) (x : Sk) : Value → World → Prop := fun v W => ∃ h : SkH, v = .tuple #[h.v x, .int .i64 0] ∧ RdK W x h ∧ FreshK B h
theorem stableKx (B : Nat) (x : Sk) : Stable (IsKx B x) := fun _ _ _ ⟨h, h1, h2, h3⟩ hb => ⟨h, h1, h2.keepB hb, h3⟩
def IsK0 (B : Nat) (x : Sk) : Value → World → Prop := fun v W => ∃ h : SkH, v = h.v x ∧ RdK W x h ∧ FreshK B h
theorem stableK0 (B : Nat) (x : Sk) : Stable (IsK0 B x) := fun _ _ _ ⟨h, h1, h2, h3⟩ hb => ⟨h, h1, h2.keepB hb, h3⟩
set_option maxHeartbeats 1000000 in
theorem seMerged0 (k : Nat) (h1 : 1 ≤ k) (h3 : k ≤ 3) (sc : ByteArray) (hS : ScOk sc) (s : Option Addr) (cap : Nat) (w : World) : Calls Tryz.prog 76 #[.slice s 0 cap, .string sc, .int .i64 (k : Int)] w (GivesK0 w (Sk.new k)) := by
  have HM := Lib.hid (fun W => seMeant0 sc hS s cap W)
  have HN := Lib.hid (fun W => ladNew_any k h1 h3 W)
  have hyk := Sk.new_kind k h1 h3
  generalize Sk.new k = y at *
  generalize (k : Int) = kd at *
  have st0 := (St.start w).alloc (cs := #[.int .i64 0, .int .i64 0, .slice none 0 0, .int .i64 0, .string ⟨#[]⟩, .int .i64 0, .int .i64 0, .slice none 0 0, .int .i64 0, .slice none 0 0]) (T := 103)
  clear hS h1 h3
  subst hyk
  go_enter Tryz.func76, Tryz.ntmps76
  go_wp2_with fail
  refine (HM.out _).mono ?_
  rintro e w1 ⟨rfl, hb1⟩
  have st1 := st0.to hb1
  clear st0 hb1 HM
  go_wp2_with fail
  refine (HN.out _).mono ?_
  rintro e w2 ⟨⟨⟨es1, ec1⟩, ⟨cs1, cc1⟩, ⟨gs1, gc1⟩⟩, rfl, hd, hf, hb2⟩
  have hz1 := st1.below.size
  have hb1 := blk_lt (st1.blk (w.heap.size, #[.int .i64 0, .int .i64 0, .slice none 0 0, .int .i64 0, .string ⟨#[]⟩, .int .i64 0, .int .i64 0, .slice none 0 0, .int .i64 0, .slice none 0 0], 103) (by simp))
  have HF := hf.mono (show w.heap.size + 1 ≤ _ from hb1)
  have st2 := st1.to hb2
  have rl := st2.rules
  simp only [Rules] at rl
  have HD := Lib.hid hd
  clear hd hf hb2 HN st1
  go_wp2_with fail
  refine wp_loop_rounds 1 ?_
  rw [rounds_succ]
  go_wp2_with fail
  refine bodyPost_ret (v := .tuple #[.agg #[.int .i64 y.kind, .int .i64 0, .slice es1 y.e.length ec1, .int .i64 0, .string ⟨#[]⟩, .int .i64 y.rows, .int .i64 y.cols, .slice cs1 y.c.length cc1, .int .i64 y.fine, .slice gs1 y.g.length gc1], .int .i64 0]) (by simp [results, Tryz.results76, go_sem, rl]) rfl ⟨⟨⟨es1, ec1⟩, ⟨cs1, cc1⟩, ⟨gs1, gc1⟩⟩, rfl, (HD.out.up HF ?_).keepB ((Below.refl _ _).alloc (Nat.le_refl _) _), HF.mono (by omega), ?_⟩
  · repeat (with_reducible refine KeepUp.set ?_ (by omega) _)
    exact KeepUp.refl _ _
  · refine Below.alloc ?_ (by simp [World.setCell]; omega) _
    repeat (with_reducible refine Below.setCell ?_ (by simp; try omega) _)
    exact st2.below
end Go.Proofs.YtmgdbfmlnmahpaaGreatDoor
namespace Go.Proofs.YtmgdbfmlnmahpaaGreatDoor
open Go.RowKit Go.Shelf
set_option linter.unusedSimpArgs false
set_option linter.unusedVariables false
set_option maxRecDepth 100000
set_option maxHeartbeats 2000000 in
theorem seMerged1 (k : Nat) (h1 : 1 ≤ k) (h3 : k ≤ 3) (sc : ByteArray) (hS : ScOk sc) (t : Hd) (x : Sk) (hk : x.kind = (k : Int)) (hxl : x.len ≤ 60) (sn : Nat) (l : Hd) (h : SkH) (w : World) (hT : Tab1 w t x sn l h) : Calls Tryz.prog 76 #[.slice t.s 1 t.cap, .string sc, .int .i64 (k : Int)] w (GivesK0 w x) := by
  have HM := Lib.hid (seMeant1 sc hS t x sn l h w hT)
  have HN := Lib.hid (fun W => ladNew_any k h1 h3 W)
  have hyk := (Sk.new_kind k h1 h3).trans hk.symm
  have hmn := merge_new k x hT.ok hyk.symm
  have hyo := Sk.new_ok k
  have HG := Lib.hid (show ∀ (h' : SkH) W, Below w.heap.size w W → RdK W (Sk.new k) h' → Calls Tryz.prog 53 #[h'.v (Sk.new k), h.v x] W (GivesK0 W x) from fun h' W hW hy => by
    have := ladMerge_any (Sk.new k) x hyk hyo.1 hT.ok (by rw [hyo.2]; omega) (by rw [hmn]; exact hT.ok) h' h W hy (hT.k.keepB hW)
    rw [hmn] at this
    exact this)
  generalize Sk.new k = y at *
  generalize (k : Int) = kd at *
  subst hk
  obtain ⟨g, o, hts, hE⟩ := hT.at
  obtain ⟨ts, tc⟩ := t
  obtain ⟨ls, lc⟩ := l
  obtain ⟨⟨es, ec⟩, ⟨cs, cc⟩, ⟨gs, gc⟩⟩ := h
  simp only at hts hE
  subst hts
  change Calls Tryz.prog 76 #[.slice (some ⟨g, o, none⟩) 1 tc, .string sc, .int .i64 x.kind] w _
  simp only [SkH.v, hyk] at HG
  have st0 := (St.startE hE TabE.keep).alloc (cs := #[.int .i64 0, .int .i64 0, .slice none 0 0, .int .i64 0, .string ⟨#[]⟩, .int .i64 0, .int .i64 0, .slice none 0 0, .int .i64 0, .slice none 0 0]) (T := 103)
  have hal := (Below.refl w.heap.size w).alloc (Nat.le_refl _) (.cells #[.int .i64 0, .int .i64 0, .slice none 0 0, .int .i64 0, .string ⟨#[]⟩, .int .i64 0, .int .i64 0, .slice none 0 0, .int .i64 0, .slice none 0 0] 103)
  have HM := Lib.hid (fun W (hW : Below w.heap.size w W) => seMeant1 sc hS ⟨some ⟨g, o, none⟩, tc⟩ x sn ⟨ls, lc⟩ ⟨⟨es, ec⟩, ⟨cs, cc⟩, ⟨gs, gc⟩⟩ W (hT.keepB hW))
  clear hS h1 h3 hE hmn hyo hT hxl
  go_enter Tryz.func76, Tryz.ntmps76
  go_wp2_with fail
  refine (HM.out _ st0.below).mono ?_
  rintro e w1 ⟨⟨ds, dc⟩, rfl, hds, hb1⟩
  have st1 := st0.to hb1
  obtain ⟨dg, d0, hde, hdg, hdc⟩ := hds.rd 0 _ rfl
  have hdc0 : w1.cell? ⟨dg, d0, none⟩ = some (.int .i64 0) := hdc 0 _ rfl
  simp only at hde
  subst hde
  clear st0 hb1 HM hds hdc hal
  simp only [Hd.v]
  go_wp2_with fail
  refine (HN.out _).mono ?_
  rintro e w2 ⟨⟨⟨es1, ec1⟩, ⟨cs1, cc1⟩, ⟨gs1, gc1⟩⟩, rfl, hd, hf, hb2⟩
  have hz1 := st1.below.size
  have hb1 := blk_lt (st1.blk (w.heap.size, #[.int .i64 0, .int .i64 0, .slice none 0 0, .int .i64 0, .string ⟨#[]⟩, .int .i64 0, .int .i64 0, .slice none 0 0, .int .i64 0, .slice none 0 0], 103) (by simp))
  have hz2 := hb2.size
  have stB := st1.to hb2
  have hdc2 : w2.cell? ⟨dg, d0, none⟩ = some (.int .i64 0) := (hb2.cell (p := ⟨dg, d0, none⟩) hdg).trans hdc0
  have hdg2 : dg < w2.heap.size := Nat.lt_of_lt_of_le hdg hb2.size
  have st2 := stB.alloc (cs := #[.int .i64 x.kind, .int .i64 0, .slice es1 y.e.length ec1, .int .i64 0, .string ⟨#[]⟩, .int .i64 y.rows, .int .i64 y.cols, .slice cs1 y.c.length cc1, .int .i64 y.fine, .slice gs1 y.g.length gc1]) (T := 103)
  have HD := Lib.hid (hd.keepB ((Below.refl w2.heap.size w2).alloc (Nat.le_refl _) (.cells #[.int .i64 x.kind, .int .i64 0, .slice es1 y.e.length ec1, .int .i64 0, .string ⟨#[]⟩, .int .i64 y.rows, .int .i64 y.cols, .slice cs1 y.c.length cc1, .int .i64 y.fine, .slice gs1 y.g.length gc1] 103)))
  have tce := stB.ex
  unfold TabE at tce
  simp only [SkH.v, hyk, Hd.v]
  clear hd hf hb2 HN st1 stB hdc0
  go_wp2_with fail
  refine wp_loop_rounds 2 ?_
  rw [rounds_succ]
  go_wp2_with fail
  have hzr : (w2.alloc (.cells #[.int .i64 x.kind, .int .i64 0, .slice es1 y.e.length ec1, .int .i64 0, .string ⟨#[]⟩, .int .i64 y.rows, .int .i64 y.cols, .slice cs1 y.c.length cc1, .int .i64 y.fine, .slice gs1 y.g.length gc1] 103)).heap.size = w2.heap.size + 1 := by simp
  have hzw : w.heap.size < w2.heap.size := Nat.lt_of_lt_of_le hb1 hz2
  generalize w2.alloc (.cells #[.int .i64 x.kind, .int .i64 0, .slice es1 y.e.length ec1, .int .i64 0, .string ⟨#[]⟩, .int .i64 y.rows, .int .i64 y.cols, .slice cs1 y.c.length cc1, .int .i64 y.fine, .slice gs1 y.g.length gc1] 103) = wr at *
  have HZR := Lib.hid hzr
  clear tce hdc2 hdg2 hzr
  refine region_late 10 9 (.int .i64 0) (Fs [IsVal (.agg #[.int .i64 x.kind, .int .i64 0, .slice es1 y.e.length ec1, .int .i64 0, .string ⟨#[]⟩, .int .i64 y.rows, .int .i64 y.cols, .slice cs1 y.c.length cc1, .int .i64 y.fine, .slice gs1 y.g.length gc1]), IsVal (.slice (some ⟨g, o, none⟩) 1 tc), IsVal (.int .i64 0), IsVal (.pointer (some ⟨g, o, none⟩)), IsVal (.pointer (some ⟨g, o + 1, none⟩)), IsVal (.agg #[.int .i64 x.kind, .int .i64 0, .slice es x.e.length ec, .int .i64 0, .string ⟨#[]⟩, .int .i64 x.rows, .int .i64 x.cols, .slice cs x.c.length cc, .int .i64 x.fine, .slice gs x.g.length gc]), IsKx wr.heap.size x, IsKx wr.heap.size x, IsK0 wr.heap.size x, IsVal (.int .i64 0)]) (by kernel_rfl) (by kernel_rfl) (by kernel_rfl) (Fs_stable _ ?stab) ?spec ?late (fun _ => rfl) ?store ?endd
  case stab =>
    simp only [List.forall_mem_cons]
    exact ⟨stableVal _, stableVal _, stableVal _, stableVal _, stableVal _, stableVal _, stableKx _ _, stableKx _ _, stableK0 _ _, stableVal _, by simp⟩
  case spec =>
    refine ⟨?_, ?_, ?_, ?_, ?_, ?_, ?_, ?_, ?_, ?_, trivial⟩
    · intro a W hW hu hd
      have kc : ∀ c, a.eval (Operand.const c) = c := fun _ => rfl
      have kf : ∀ f, a.eval (Operand.func f) = .func (.func f) #[] #[] := fun _ => rfl
      have sW := st2.to hW
      have rl := sW.rules
      simp only [Rules, World.size_alloc] at rl
      have u10 : a.eval (Operand.tmp 10) = .pointer (some ⟨w2.heap.size, 0, none⟩) := hu 10 (by decide)
      unfold StepOk
      rw [if_pos (by rfl)]
      clear hu hd
      generalize a.eval = ρ at *
      go_simp
      exact opOk_val rfl
    · intro a W hW hu hd
      have kc : ∀ c, a.eval (Operand.const c) = c := fun _ => rfl
      have kf : ∀ f, a.eval (Operand.func f) = .func (.func f) #[] #[] := fun _ => rfl
      have sW := st2.to hW
      have rl := sW.rules
      simp only [Rules, World.size_alloc] at rl
      have u0 : a.eval (Operand.tmp 0) = .slice (some ⟨g, o, none⟩) 1 tc := hu 0 (by decide)
      unfold StepOk
      rw [if_pos (by rfl)]
      clear hu hd
      generalize a.eval = ρ at *
      go_simp
      exact opOk_val rfl
    · intro a W hW hu hd
      have kc : ∀ c, a.eval (Operand.const c) = c := fun _ => rfl
      have kf : ∀ f, a.eval (Operand.func f) = .func (.func f) #[] #[] := fun _ => rfl
      have sW := st2.to hW
      have rl := sW.rules
      simp only [Rules, World.size_alloc] at rl
      have u12 : a.eval (Operand.tmp 12) = .int .i64 0 := hu 12 (by decide)
      unfold StepOk
      rw [if_pos (by rfl)]
      clear hu hd
      generalize a.eval = ρ at *
      go_simp
      exact opOk_val rfl
    · intro a W hW hu hd
      have kc : ∀ c, a.eval (Operand.const c) = c := fun _ => rfl
      have kf : ∀ f, a.eval (Operand.func f) = .func (.func f) #[] #[] := fun _ => rfl
      have sW := st2.to hW
      have rl := sW.rules
      simp only [Rules, World.size_alloc] at rl
      have u48 : a.eval (Operand.tmp 48) = .slice (some ⟨g, o, none⟩) 1 tc := hd 1 48 (by kernel_rfl) rfl
      have u49 : a.eval (Operand.tmp 49) = .int .i64 0 := hd 2 49 (by kernel_rfl) rfl
      unfold StepOk
      rw [if_pos (by rfl)]
      clear hu hd
      generalize a.eval = ρ at *
      go_simp
      exact opOk_val rfl
    · intro a W hW hu hd
      have kc : ∀ c, a.eval (Operand.const c) = c := fun _ => rfl
      have kf : ∀ f, a.eval (Operand.func f) = .func (.func f) #[] #[] := fun _ => rfl
      have sW := st2.to hW
      have rl := sW.rules
      simp only [Rules, World.size_alloc] at rl
      have u50 : a.eval (Operand.tmp 50) = .pointer (some ⟨g, o, none⟩) := hd 3 50 (by kernel_rfl) rfl
      unfold StepOk
      rw [if_pos (by rfl)]
      clear hu hd
      generalize a.eval = ρ at *
      go_simp
      exact opOk_val rfl
    · intro a W hW hu hd
      have kc : ∀ c, a.eval (Operand.const c) = c := fun _ => rfl
      have kf : ∀ f, a.eval (Operand.func f) = .func (.func f) #[] #[] := fun _ => rfl
      have sW := st2.to hW
      have rl := sW.rules
      simp only [Rules, World.size_alloc] at rl
      have u51 : a.eval (Operand.tmp 51) = .pointer (some ⟨g, o + 1, none⟩) := hd 4 51 (by kernel_rfl) rfl
      have te := sW.ex
      unfold TabE at te
      unfold StepOk
      rw [if_pos (by rfl)]
      clear hu hd
      generalize a.eval = ρ at *
      go_simp
      exact opOk_val rfl
    · intro a W hW hu hd
      have kc : ∀ c, a.eval (Operand.const c) = c := fun _ => rfl
      have kf : ∀ f, a.eval (Operand.func f) = .func (.func f) #[] #[] := fun _ => rfl
      have sW := st2.to hW
      have rl := sW.rules
      simp only [Rules, World.size_alloc] at rl
      have u47 : a.eval (Operand.tmp 47) = .agg #[.int .i64 x.kind, .int .i64 0, .slice es1 y.e.length ec1, .int .i64 0, .string ⟨#[]⟩, .int .i64 y.rows, .int .i64 y.cols, .slice cs1 y.c.length cc1, .int .i64 y.fine, .slice gs1 y.g.length gc1] := hd 0 47 (by kernel_rfl) rfl
      have u52 : a.eval (Operand.tmp 52) = .agg #[.int .i64 x.kind, .int .i64 0, .slice es x.e.length ec, .int .i64 0, .string ⟨#[]⟩, .int .i64 x.rows, .int .i64 x.cols, .slice cs x.c.length cc, .int .i64 x.fine, .slice gs x.g.length gc] := hd 5 52 (by kernel_rfl) rfl
      unfold StepOk
      rw [if_pos (by rfl)]
      clear hu hd
      generalize a.eval = ρ at *
      go_simp
      refine ⟨Below.refl _ _, (HG.out ⟨⟨es1, ec1⟩, ⟨cs1, cc1⟩, ⟨gs1, gc1⟩⟩ W sW.below (HD.out.keepB hW)).mono ?_⟩
      rintro e w' ⟨h9, rfl, hd9, hf9, hb'⟩
      exact ⟨_, rfl, hb', h9, rfl, hd9, hf9.mono hW.size⟩
    · intro a W hW hu hd
      have kc : ∀ c, a.eval (Operand.const c) = c := fun _ => rfl
      have kf : ∀ f, a.eval (Operand.func f) = .func (.func f) #[] #[] := fun _ => rfl
      have sW := st2.to hW
      have rl := sW.rules
      simp only [Rules, World.size_alloc] at rl
      have f53 : IsKx wr.heap.size x (a.eval (Operand.tmp 53)) W := hd 6 53 (by kernel_rfl) rfl
      obtain ⟨h9, u53, hd9, hf9⟩ := f53
      unfold StepOk
      rw [if_pos (by rfl)]
      clear hu hd
      generalize a.eval = ρ at *
      go_simp
      exact opOk_val ⟨h9, rfl, hd9, hf9⟩
    · intro a W hW hu hd
      have kc : ∀ c, a.eval (Operand.const c) = c := fun _ => rfl
      have kf : ∀ f, a.eval (Operand.func f) = .func (.func f) #[] #[] := fun _ => rfl
      have sW := st2.to hW
      have rl := sW.rules
      simp only [Rules, World.size_alloc] at rl
      have f46 : IsKx wr.heap.size x (a.eval (Operand.tmp 46)) W := hd 7 46 (by kernel_rfl) rfl
      obtain ⟨h9, u46, hd9, hf9⟩ := f46
      unfold StepOk
      rw [if_pos (by rfl)]
      clear hu hd
      generalize a.eval = ρ at *
      go_simp
      exact opOk_val ⟨h9, rfl, hd9, hf9⟩
    · intro a W hW hu hd
      have kc : ∀ c, a.eval (Operand.const c) = c := fun _ => rfl
      have kf : ∀ f, a.eval (Operand.func f) = .func (.func f) #[] #[] := fun _ => rfl
      have sW := st2.to hW
      have rl := sW.rules
      simp only [Rules, World.size_alloc] at rl
      have f46 : IsKx wr.heap.size x (a.eval (Operand.tmp 46)) W := hd 7 46 (by kernel_rfl) rfl
      obtain ⟨h9, u46, hd9, hf9⟩ := f46
      unfold StepOk
      rw [if_pos (by rfl)]
      clear hu hd
      generalize a.eval = ρ at *
      go_simp
      exact opOk_val rfl
  case late =>
    intro oq hoq a W hW hu hd W'
    cases hoq
    obtain ⟨h9, u46, hd9, hf9⟩ : IsKx wr.heap.size x (a.eval (Operand.tmp 46)) W := hd 7 46 (by kernel_rfl) rfl
    clear hu hd
    generalize a.eval = ρ at *
    go_simp
  case store =>
    intro os hos a W hW hu hd
    cases hos
    have sW := st2.to hW
    have u10 : a.eval (Operand.tmp 10) = .pointer (some ⟨w2.heap.size, 0, none⟩) := hu 10 (by decide)
    obtain ⟨h9, u54, hd9, hf9⟩ : IsK0 wr.heap.size x (a.eval (Operand.tmp 54)) W := hd 8 54 (by kernel_rfl) rfl
    simp only [SkH.v] at u54
    have rl := sW.rules
    simp only [Rules] at rl
    clear hu hd
    generalize a.eval = ρ at *
    go_simp
  case endd =>
    intro v W hW hv
    have v0 : v 0 = (.agg #[.int .i64 x.kind, .int .i64 0, .slice es1 y.e.length ec1, .int .i64 0, .string ⟨#[]⟩, .int .i64 y.rows, .int .i64 y.cols, .slice cs1 y.c.length cc1, .int .i64 y.fine, .slice gs1 y.g.length gc1]) := hv 0 (by omega)
    have v1 : v 1 = (.slice (some ⟨g, o, none⟩) 1 tc) := hv 1 (by omega)
    have v2 : v 2 = (.int .i64 0) := hv 2 (by omega)
    have v3 : v 3 = (.pointer (some ⟨g, o, none⟩)) := hv 3 (by omega)
    have v4 : v 4 = (.pointer (some ⟨g, o + 1, none⟩)) := hv 4 (by omega)
    have v5 : v 5 = (.agg #[.int .i64 x.kind, .int .i64 0, .slice es x.e.length ec, .int .i64 0, .string ⟨#[]⟩, .int .i64 x.rows, .int .i64 x.cols, .slice cs x.c.length cc, .int .i64 x.fine, .slice gs x.g.length gc]) := hv 5 (by omega)
    have hf6 : IsKx wr.heap.size x (v 6) W := hv 6 (by omega)
    have hf7 : IsKx wr.heap.size x (v 7) W := hv 7 (by omega)
    have hf8 : IsK0 wr.heap.size x (v 8) W := hv 8 (by omega)
    have v9 : v 9 = (.int .i64 0) := hv 9 (by omega)
    clear hv
    simp only [List.take_succ_cons, List.take_zero, List.drop_succ_cons, List.drop_zero, putAll, Nat.zero_add, Nat.reduceAdd]
    rw [v0, v1, v2, v3, v4, v5, v9]
    clear v0 v1 v2 v3 v4 v5 v9
    have sW := st2.to hW
    obtain ⟨⟨⟨es9, ec9⟩, ⟨cs9, cc9⟩, ⟨gs9, gc9⟩⟩, v8, hd9, hf9⟩ := hf8
    rw [v8]
    simp only [SkH.v, Hd.v]
    generalize v 6 = v6 at *
    generalize v 7 = v7 at *
    have rl := sW.rules
    simp only [Rules] at rl
    have HD9 := Lib.hid hd9
    have HF9 := Lib.hid hf9
    have hb := sW.below
    clear hf6 hf7 hd9 hf9 v8 hW st2 HG HD
    go_wp2_with fail
    rw [rounds_succ]
    go_wp2_with fail
    have hzr := HZR.out
    refine bodyPost_ret (v := .tuple #[.agg #[.int .i64 x.kind, .int .i64 0, .slice es9 x.e.length ec9, .int .i64 0, .string ⟨#[]⟩, .int .i64 x.rows, .int .i64 x.cols, .slice cs9 x.c.length cc9, .int .i64 x.fine, .slice gs9 x.g.length gc9], .int .i64 0]) (by simp [results, Tryz.results76, go_sem, rl]) rfl ⟨⟨⟨es9, ec9⟩, ⟨cs9, cc9⟩, ⟨gs9, gc9⟩⟩, rfl, HD9.out.up HF9.out ?_, HF9.out.mono (by omega), ?_⟩
    · repeat (with_reducible refine KeepUp.set ?_ (by omega) _)
      exact KeepUp.refl _ _
    · repeat (with_reducible refine Below.setCell ?_ (by simp; try omega) _)
      exact hb
end Go.Proofs.YtmgdbfmlnmahpaaGreatDoor
