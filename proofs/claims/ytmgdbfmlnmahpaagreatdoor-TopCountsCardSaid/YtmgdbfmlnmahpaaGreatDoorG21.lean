/- A part of the proof of TopCounts. -/
import Derived.Test.YtmgdbfmlnmahpaaGreatDoorG19
import Derived.Test.YtmgdbfmlnmahpaaGreatDoorG20
namespace Go.Proofs.YtmgdbfmlnmahpaaGreatDoor
open Go.RowKit Go.Shelf
set_option linter.unusedSimpArgs false
set_option linter.unusedVariables false
set_option maxRecDepth 100000
theorem SkH.b_form (x : Sk) (h : SkH) : ∃ D v, h.b x = .iface D v := by cases x <;> exact ⟨_, _, rfl⟩
theorem sketch_any (x : Sk) (hx : x.Ok) (h : SkH) (w : World) (hK : RdK w x h) : Calls Tryz.prog 89 #[h.w x] w (GivesK w x) := by
  cases x with
  | dist L => exact sketchDist_any L hx h w hK
  | cnt L => exact sketchCnt_any L hx h w hK
  | hst L => exact sketchHst_any L hx h w hK
theorem held_any (x : Sk) (hx : x.Ok) (h : SkH) (w : World) (hK : RdK w x h) : Calls Tryz.prog x.fn #[h.v x] w fun e w' => e = .returned (.tuple #[h.b x, .bool true]) ∧ Below w.heap.size w w' := by
  cases x with
  | dist L => exact heldDist_any L hx h w hK
  | cnt L => exact heldCnt_any L hx h w hK
  | hst L => exact heldHst_any L hx h w hK
theorem fn_enters (x : Sk) (args : Array Value) (w : World) : (callFunc x.fn args).run Tryz.prog w = .ok (.enter x.fn args) w := by
  cases x with
  | dist L => exact enters_of Tryz.func132 (by kernel_rfl) rfl args w
  | cnt L => exact enters_of Tryz.func133 (by kernel_rfl) rfl args w
  | hst L => exact enters_of Tryz.func134 (by kernel_rfl) rfl args w
def GivesK0 (w : World) (x : Sk) (e : Ending) (w' : World) : Prop := ∃ h : SkH, e = .returned (.tuple #[h.v x, .int .i64 0]) ∧ RdK w' x h ∧ FreshK w.heap.size h ∧ RowKit.Below w.heap.size w w'
set_option maxHeartbeats 1000000 in
theorem wtold_ok (x : Sk) (hx : x.Ok) (h : SkH) (w : World) (hK : RdK w x h) :
    Calls Tryz.prog 84 #[h.w x, .nilIface] w (GivesK0 w x) := by
  have HS := Lib.hid (show ∀ W, Below w.heap.size w W → Calls Tryz.prog 89 #[.agg #[h.b x, .int .i64 x.kind, .int .i64 0]] W (GivesK W x) from fun W hW => sketch_any x hx h W (hK.keepB hW))
  show Calls Tryz.prog 84 #[.agg #[h.b x, .int .i64 x.kind, .int .i64 0], .nilIface] w _
  generalize h.b x = bd at *
  have st0 := ((St.start w).alloc (cs := #[bd, .int .i64 x.kind, .int .i64 0]) (T := 135)).alloc (cs := #[.int .i64 0, .int .i64 0, .slice none 0 0, .int .i64 0, .string ⟨#[]⟩, .int .i64 0, .int .i64 0, .slice none 0 0, .int .i64 0, .slice none 0 0]) (T := 103)
  simp only [World.size_alloc] at st0
  clear hK
  go_enter Tryz.func84, Tryz.ntmps84
  go_wp2_with fail
  refine (HS.out _ st0.below).mono ?_
  rintro e w1 ⟨⟨⟨es, ec⟩, ⟨cs, cc⟩, ⟨gs, gc⟩⟩, rfl, hd, hf, hb1⟩
  have st1 := st0.to hb1
  have rl := st1.rules
  simp only [Rules] at rl
  have HF : FreshK (w.heap.size + 1 + 1) _ := hf.mono (by simp)
  have HD := Lib.hid hd
  clear st0 hb1 hd hf HS
  go_wp2_with fail
  refine bodyPost_ret (v := .tuple #[.agg #[.int .i64 x.kind, .int .i64 0, .slice es x.e.length ec, .int .i64 0, .string ⟨#[]⟩, .int .i64 x.rows, .int .i64 x.cols, .slice cs x.c.length cc, .int .i64 x.fine, .slice gs x.g.length gc], .int .i64 0]) (by simp [results, Tryz.results84, go_sem, rl]) rfl ⟨_, rfl, RdK.up HD.out HF ?_, HF.mono (by omega), ?_⟩
  · repeat (with_reducible refine KeepUp.set ?_ (by omega) _)
    exact KeepUp.refl _ _
  · repeat (with_reducible refine Below.setCell ?_ (by simp; try omega) _)
    exact st1.below
def IsKinds (B : Nat) : Value → World → Prop := fun v W => ∃ b, v = .map (some b) ∧ B ≤ b ∧ KMap W b
theorem stableKinds (B : Nat) : Stable (IsKinds B) := fun _ _ _ ⟨b, h1, h2, h3⟩ hb => ⟨b, h1, h2, h3.keep hb⟩
def IsSk (x : Sk) : Value → World → Prop := fun v W => ∃ h : SkH, v = h.v x ∧ RdK W x h
theorem stableSk (x : Sk) : Stable (IsSk x) := fun _ _ _ ⟨h, h1, h2⟩ hb => ⟨h, h1, h2.keepB hb⟩
set_option maxHeartbeats 1000000 in
theorem open_ok (x : Sk) (hx : x.Ok) (h : SkH) (w : World) (hK : RdK w x h) :
    Calls Tryz.prog 54 #[h.v x] w fun e w' => e = .returned (.tuple #[h.w x, .nilIface]) ∧ Below w.heap.size w w' := by
  have HS := Lib.hid (show ∀ W, Below w.heap.size w W → Calls Tryz.prog 89 #[.agg #[h.b x, .int .i64 x.kind, .int .i64 0]] W (GivesK W x) from fun W hW => sketch_any x hx h W (hK.keepB hW))
  have HE := Lib.hid (fun W hW => held_any x hx h W (hK.keepB hW))
  have HQ := Lib.hid (fun h' W hW hK' => ladSame_eq x hx h h' W (hK.keepB hW) hK')
  have HB := Lib.hid (fun W => bottom_any x W)
  have HL := Lib.hid (fun W b (hM : KMap W b) => hM.look x)
  have hbt : ¬ (if x.kind = 1 then (4 : Int) else 3) < 0 := by split <;> decide
  have hent := fun args w => fn_enters x args w
  obtain ⟨⟨es, ec⟩, ⟨cs, cc⟩, ⟨gs, gc⟩⟩ := h
  change Calls Tryz.prog 54 #[.agg #[.int .i64 x.kind, .int .i64 0, .slice es x.e.length ec, .int .i64 0, .string ⟨#[]⟩, .int .i64 x.rows, .int .i64 x.cols, .slice cs x.c.length cc, .int .i64 x.fine, .slice gs x.g.length gc]] w fun e w' => e = .returned (.tuple #[.agg #[SkH.b x ⟨⟨es, ec⟩, ⟨cs, cc⟩, ⟨gs, gc⟩⟩, .int .i64 x.kind, .int .i64 0], .nilIface]) ∧ _
  obtain ⟨bD, bV, hbd⟩ := SkH.b_form x ⟨⟨es, ec⟩, ⟨cs, cc⟩, ⟨gs, gc⟩⟩
  rw [hbd] at HS HE ⊢
  clear hbd
  generalize (if x.kind = 1 then (4 : Int) else 3) = bt at *
  generalize x.fn = fnx at *
  have st0 := (((St.start w).alloc (cs := #[.int .i64 x.kind, .int .i64 0, .slice es x.e.length ec, .int .i64 0, .string ⟨#[]⟩, .int .i64 x.rows, .int .i64 x.cols, .slice cs x.c.length cc, .int .i64 x.fine, .slice gs x.g.length gc]) (T := 103)).alloc (cs := #[.nilIface, .int .i64 0, .int .i64 0]) (T := 135)).alloc (cs := #[.int .i64 100]) (T := 195)
  simp only [World.size_alloc] at st0
  clear hK
  go_enter Tryz.func54, Tryz.ntmps54
  go_wp2_with fail
  refine region_all 9 (Fs [IsKinds w.heap.size, IsVal (.pointer (some ⟨w.heap.size, 0, none⟩)), IsVal (.int .i64 x.kind), IsVal (.tuple #[.func (.func fnx) #[] #[], .bool true]), IsVal (.tuple #[.func (.func fnx) #[] #[], .bool true]), IsVal (.func (.func fnx) #[] #[]), IsVal (.bool true), IsVal (.func (.func fnx) #[] #[]), IsVal (.bool true)]) (by kernel_rfl) (by kernel_rfl) (by kernel_rfl) (Fs_stable _ ?stab) ?spec ?endd
  case stab =>
    simp only [List.forall_mem_cons]
    exact ⟨stableKinds _, stableVal _, stableVal _, stableVal _, stableVal _, stableVal _, stableVal _, stableVal _, stableVal _, by simp⟩
  case spec =>
    refine ⟨?_, ?_, ?_, ?_, ?_, ?_, ?_, ?_, ?_, trivial⟩
    · intro a W hW hu hd
      have kc : ∀ c, a.eval (Operand.const c) = c := fun _ => rfl
      have kf : ∀ f, a.eval (Operand.func f) = .func (.func f) #[] #[] := fun _ => rfl
      have sW := st0.to hW
      have rl := sW.rules
      simp only [Rules, World.size_alloc] at rl
      unfold StepOk
      rw [if_pos (by rfl)]
      clear hu hd
      generalize a.eval = ρ at *
      go_simp
      refine ⟨Below.refl _ _, (kinds_any W).mono ?_⟩
      rintro e w' ⟨b, rfl, hB, hM, hb'⟩
      exact ⟨_, rfl, hb', b, rfl, Nat.le_trans sW.below.size hB, hM⟩
    · intro a W hW hu hd
      have kc : ∀ c, a.eval (Operand.const c) = c := fun _ => rfl
      have kf : ∀ f, a.eval (Operand.func f) = .func (.func f) #[] #[] := fun _ => rfl
      have sW := st0.to hW
      have rl := sW.rules
      simp only [Rules, World.size_alloc] at rl
      have u1 : a.eval (Operand.tmp 1) = .pointer (some ⟨w.heap.size, 0, none⟩) := hu 1 (by decide)
      unfold StepOk
      rw [if_pos (by rfl)]
      clear hu hd
      generalize a.eval = ρ at *
      go_simp
      exact opOk_val rfl
    · intro a W hW hu hd
      have kc : ∀ c, a.eval (Operand.const c) = c := fun _ => rfl
      have kf : ∀ f, a.eval (Operand.func f) = .func (.func f) #[] #[] := fun _ => rfl
      have sW := st0.to hW
      have rl := sW.rules
      simp only [Rules, World.size_alloc] at rl
      have u13 : a.eval (Operand.tmp 13) = .pointer (some ⟨w.heap.size, 0, none⟩) := hd 1 13 (by kernel_rfl) rfl
      unfold StepOk
      rw [if_pos (by rfl)]
      clear hu hd
      generalize a.eval = ρ at *
      go_simp
      exact opOk_val rfl
    · intro a W hW hu hd
      have kc : ∀ c, a.eval (Operand.const c) = c := fun _ => rfl
      have kf : ∀ f, a.eval (Operand.func f) = .func (.func f) #[] #[] := fun _ => rfl
      have sW := st0.to hW
      have rl := sW.rules
      simp only [Rules, World.size_alloc] at rl
      have f12 : IsKinds w.heap.size (a.eval (Operand.tmp 12)) W := hd 0 12 (by kernel_rfl) rfl
      have u14 : a.eval (Operand.tmp 14) = .int .i64 x.kind := hd 2 14 (by kernel_rfl) rfl
      obtain ⟨b, u12, hB, hM⟩ := f12
      have hlk := HL.out W b hM
      unfold StepOk
      rw [if_pos (by rfl)]
      clear hu hd
      generalize a.eval = ρ at *
      go_simp
      exact opOk_val rfl
    · intro a W hW hu hd
      have kc : ∀ c, a.eval (Operand.const c) = c := fun _ => rfl
      have kf : ∀ f, a.eval (Operand.func f) = .func (.func f) #[] #[] := fun _ => rfl
      have sW := st0.to hW
      have rl := sW.rules
      simp only [Rules, World.size_alloc] at rl
      have u15 : a.eval (Operand.tmp 15) = .tuple #[.func (.func fnx) #[] #[], .bool true] := hd 3 15 (by kernel_rfl) rfl
      unfold StepOk
      rw [if_pos (by rfl)]
      clear hu hd
      generalize a.eval = ρ at *
      go_simp
      exact opOk_val rfl
    · intro a W hW hu hd
      have kc : ∀ c, a.eval (Operand.const c) = c := fun _ => rfl
      have kf : ∀ f, a.eval (Operand.func f) = .func (.func f) #[] #[] := fun _ => rfl
      have sW := st0.to hW
      have rl := sW.rules
      simp only [Rules, World.size_alloc] at rl
      have u11 : a.eval (Operand.tmp 11) = .tuple #[.func (.func fnx) #[] #[], .bool true] := hd 4 11 (by kernel_rfl) rfl
      unfold StepOk
      rw [if_pos (by rfl)]
      clear hu hd
      generalize a.eval = ρ at *
      go_simp
      exact opOk_val rfl
    · intro a W hW hu hd
      have kc : ∀ c, a.eval (Operand.const c) = c := fun _ => rfl
      have kf : ∀ f, a.eval (Operand.func f) = .func (.func f) #[] #[] := fun _ => rfl
      have sW := st0.to hW
      have rl := sW.rules
      simp only [Rules, World.size_alloc] at rl
      have u11 : a.eval (Operand.tmp 11) = .tuple #[.func (.func fnx) #[] #[], .bool true] := hd 4 11 (by kernel_rfl) rfl
      unfold StepOk
      rw [if_pos (by rfl)]
      clear hu hd
      generalize a.eval = ρ at *
      go_simp
      exact opOk_val rfl
    · intro a W hW hu hd
      have kc : ∀ c, a.eval (Operand.const c) = c := fun _ => rfl
      have kf : ∀ f, a.eval (Operand.func f) = .func (.func f) #[] #[] := fun _ => rfl
      have sW := st0.to hW
      have rl := sW.rules
      simp only [Rules, World.size_alloc] at rl
      have u16 : a.eval (Operand.tmp 16) = .func (.func fnx) #[] #[] := hd 5 16 (by kernel_rfl) rfl
      unfold StepOk
      rw [if_pos (by rfl)]
      clear hu hd
      generalize a.eval = ρ at *
      go_simp
      exact opOk_val rfl
    · intro a W hW hu hd
      have kc : ∀ c, a.eval (Operand.const c) = c := fun _ => rfl
      have kf : ∀ f, a.eval (Operand.func f) = .func (.func f) #[] #[] := fun _ => rfl
      have sW := st0.to hW
      have rl := sW.rules
      simp only [Rules, World.size_alloc] at rl
      have u17 : a.eval (Operand.tmp 17) = .bool true := hd 6 17 (by kernel_rfl) rfl
      unfold StepOk
      rw [if_pos (by rfl)]
      clear hu hd
      generalize a.eval = ρ at *
      go_simp
      exact opOk_val rfl
  case endd =>
    intro v W hW hv
    have hf0 : IsKinds w.heap.size (v 0) W := hv 0 (by omega)
    have v1 : v 1 = (.pointer (some ⟨w.heap.size, 0, none⟩)) := hv 1 (by omega)
    have v2 : v 2 = (.int .i64 x.kind) := hv 2 (by omega)
    have v3 : v 3 = (.tuple #[.func (.func fnx) #[] #[], .bool true]) := hv 3 (by omega)
    have v4 : v 4 = (.tuple #[.func (.func fnx) #[] #[], .bool true]) := hv 4 (by omega)
    have v5 : v 5 = (.func (.func fnx) #[] #[]) := hv 5 (by omega)
    have v6 : v 6 = (.bool true) := hv 6 (by omega)
    have v7 : v 7 = (.func (.func fnx) #[] #[]) := hv 7 (by omega)
    have v8 : v 8 = (.bool true) := hv 8 (by omega)
    clear hv
    simp only [List.take_succ_cons, List.take_zero, List.drop_succ_cons, List.drop_zero, putAll, Nat.zero_add, Nat.reduceAdd]
    rw [v1, v2, v3, v4, v5, v6, v7, v8]
    clear v1 v2 v3 v4 v5 v6 v7 v8
    have sW := st0.to hW
    obtain ⟨b, vb, _, _⟩ := hf0
    rw [vb]
    clear vb hW st0 HL
    have rl := sW.rules
    simp only [Rules] at rl
    refine wpList_nil ?_
    go_frame
    go_wp2_with fail
    have stH := sW
    obtain ⟨bl2, E2, hne2, sh2, rl, hEx, hbx, hst⟩ := stH.hide
    simp only [Rules] at rl
    refine region_st sh2 (by kernel_rfl) (by kernel_rfl) ?_
    repeat (first | go_big_quiet_step ((go_at_call 87; exact Cs.call_same (HB.out _))) | quiet_step ((go_at_call 87; exact Cs.call_same (HB.out _))))
    refine wpQuiet_nil ?_
    intro y
    have st4 := (hst y).out
    clear hbx rl hst sh2 hEx stH sW
    generalize y.W = w4 at *
    have rl := st4.rules
    simp only [Rules] at rl
    go_wp2_with fail
    refine (HE.out _ st4.below).mono ?_
    rintro e w5 ⟨rfl, hb5⟩
    have st5 := (st4.to hb5).alloc (cs := #[.iface bD bV, .int .i64 x.kind, .int .i64 0]) (T := 135)
    have rl := (st4.to hb5).rules
    simp only [Rules] at rl
    clear st4 hb5 HE HB hent
    go_wp2_with fail
    refine region_all 5 (Fs [IsVal (.agg #[.int .i64 x.kind, .int .i64 0, .slice es x.e.length ec, .int .i64 0, .string ⟨#[]⟩, .int .i64 x.rows, .int .i64 x.cols, .slice cs x.c.length cc, .int .i64 x.fine, .slice gs x.g.length gc]), IsVal (.agg #[.iface bD bV, .int .i64 x.kind, .int .i64 0]), IsSk x, IsVal (.bool true), IsVal (.bool false)]) (by kernel_rfl) (by kernel_rfl) (by kernel_rfl) (Fs_stable _ ?stab) ?spec ?endd
    case stab =>
      simp only [List.forall_mem_cons]
      exact ⟨stableVal _, stableVal _, stableSk x, stableVal _, stableVal _, by simp⟩
    case spec =>
      refine ⟨?_, ?_, ?_, ?_, ?_, trivial⟩
      · intro a W hW hu hd
        have kc : ∀ c, a.eval (Operand.const c) = c := fun _ => rfl
        have kf : ∀ f, a.eval (Operand.func f) = .func (.func f) #[] #[] := fun _ => rfl
        have sW := st5.to hW
        have rl := sW.rules
        simp only [Rules, World.size_alloc] at rl
        have u1 : a.eval (Operand.tmp 1) = .pointer (some ⟨w.heap.size, 0, none⟩) := hu 1 (by decide)
        unfold StepOk
        rw [if_pos (by rfl)]
        clear hu hd
        generalize a.eval = ρ at *
        go_simp
        exact opOk_val rfl
      · intro a W hW hu hd
        have kc : ∀ c, a.eval (Operand.const c) = c := fun _ => rfl
        have kf : ∀ f, a.eval (Operand.func f) = .func (.func f) #[] #[] := fun _ => rfl
        have sW := st5.to hW
        have rl := sW.rules
        simp only [Rules, World.size_alloc] at rl
        have u8 : a.eval (Operand.tmp 8) = .pointer (some ⟨w5.heap.size, 0, none⟩) := hu 8 (by decide)
        unfold StepOk
        rw [if_pos (by rfl)]
        clear hu hd
        generalize a.eval = ρ at *
        go_simp
        exact opOk_val rfl
      · intro a W hW hu hd
        have kc : ∀ c, a.eval (Operand.const c) = c := fun _ => rfl
        have kf : ∀ f, a.eval (Operand.func f) = .func (.func f) #[] #[] := fun _ => rfl
        have sW := st5.to hW
        have rl := sW.rules
        simp only [Rules, World.size_alloc] at rl
        have u55 : a.eval (Operand.tmp 55) = .agg #[.iface bD bV, .int .i64 x.kind, .int .i64 0] := hd 1 55 (by kernel_rfl) rfl
        unfold StepOk
        rw [if_pos (by rfl)]
        clear hu hd
        generalize a.eval = ρ at *
        go_simp
        refine ⟨Below.refl _ _, (HS.out W sW.below).mono ?_⟩
        rintro e w' ⟨h', rfl, hk, _, hb'⟩
        exact ⟨_, rfl, hb', h', rfl, hk⟩
      · intro a W hW hu hd
        have kc : ∀ c, a.eval (Operand.const c) = c := fun _ => rfl
        have kf : ∀ f, a.eval (Operand.func f) = .func (.func f) #[] #[] := fun _ => rfl
        have sW := st5.to hW
        have rl := sW.rules
        simp only [Rules, World.size_alloc] at rl
        have u54 : a.eval (Operand.tmp 54) = .agg #[.int .i64 x.kind, .int .i64 0, .slice es x.e.length ec, .int .i64 0, .string ⟨#[]⟩, .int .i64 x.rows, .int .i64 x.cols, .slice cs x.c.length cc, .int .i64 x.fine, .slice gs x.g.length gc] := hd 0 54 (by kernel_rfl) rfl
        have f56 : IsSk x (a.eval (Operand.tmp 56)) W := hd 2 56 (by kernel_rfl) rfl
        obtain ⟨h', u56, hk⟩ := f56
        unfold StepOk
        rw [if_pos (by rfl)]
        clear hu hd
        generalize a.eval = ρ at *
        go_simp
        exact opOk_call (HQ.out h' W sW.below hk) (fun _ _ => rfl)
      · intro a W hW hu hd
        have kc : ∀ c, a.eval (Operand.const c) = c := fun _ => rfl
        have kf : ∀ f, a.eval (Operand.func f) = .func (.func f) #[] #[] := fun _ => rfl
        have sW := st5.to hW
        have rl := sW.rules
        simp only [Rules, World.size_alloc] at rl
        have u57 : a.eval (Operand.tmp 57) = .bool true := hd 3 57 (by kernel_rfl) rfl
        unfold StepOk
        rw [if_pos (by rfl)]
        clear hu hd
        generalize a.eval = ρ at *
        go_simp
        exact opOk_val rfl
    case endd =>
      intro v W hW hv
      have v0 : v 0 = (.agg #[.int .i64 x.kind, .int .i64 0, .slice es x.e.length ec, .int .i64 0, .string ⟨#[]⟩, .int .i64 x.rows, .int .i64 x.cols, .slice cs x.c.length cc, .int .i64 x.fine, .slice gs x.g.length gc]) := hv 0 (by omega)
      have v1 : v 1 = (.agg #[.iface bD bV, .int .i64 x.kind, .int .i64 0]) := hv 1 (by omega)
      have hf2 : IsSk x (v 2) W := hv 2 (by omega)
      have v3 : v 3 = (.bool true) := hv 3 (by omega)
      have v4 : v 4 = (.bool false) := hv 4 (by omega)
      clear hv
      simp only [List.take_succ_cons, List.take_zero, List.drop_succ_cons, List.drop_zero, putAll, Nat.zero_add, Nat.reduceAdd]
      rw [v0, v1, v3, v4]
      clear v0 v1 v3 v4
      have sW := st5.to hW
      refine wpList_nil ?_
      go_frame
      have rl := sW.rules
      simp only [Rules] at rl
      obtain ⟨h9, v9, _⟩ := hf2
      rw [v9]
      go_wp2_with fail
      refine bodyPost_ret (v := .tuple #[.agg #[.iface bD bV, .int .i64 x.kind, .int .i64 0], .nilIface]) (by simp [results, Tryz.results54, go_sem, rl]) rfl ⟨rfl, ?_⟩
      repeat (with_reducible refine Below.setCell ?_ (by simp; try omega) _)
      exact sW.below
end Go.Proofs.YtmgdbfmlnmahpaaGreatDoor
