/- A part of the proof of TopCounts. -/
import Derived.Test.YtmgdbfmlnmahpaaGreatDoorG16
import Derived.Test.YtmgdbfmlnmahpaaGreatDoorG18
import Derived.Test.YtmgdbfmlnmahpaaGreatDoorG08
import Derived.Maps.Own
import Derived.Maps.OwnSet
namespace Go.Proofs.YtmgdbfmlnmahpaaGreatDoor
open Go.RowKit Go.Shelf
set_option linter.unusedSimpArgs false
set_option linter.unusedVariables false
set_option maxRecDepth 100000
theorem Sk.Ok.len {x : Sk} (h : x.Ok) : x.e.length ≤ 1000 ∧ x.c.length ≤ 1000 ∧ x.g.length ≤ 1000 := by
  cases x with
  | dist L => exact ⟨by have := h.2.2; show L.length ≤ _; omega, Nat.zero_le _, Nat.zero_le _⟩
  | cnt L => exact ⟨Nat.zero_le _, by have := h.2; show L.length ≤ _; omega, Nat.zero_le _⟩
  | hst l => exact ⟨Nat.zero_le _, Nat.zero_le _, h.2.1⟩
set_option maxHeartbeats 1000000 in
theorem ladSame_eq (x : Sk) (hx : x.Ok) (h h' : SkH) (w : World) (hK : RdK w x h) (hK' : RdK w x h') :
    Calls Tryz.prog 88 #[h.v x, h'.v x] w fun e w' => e = .returned (.bool true) ∧ Below w.heap.size w w' := by
  obtain ⟨⟨es, ec⟩, ⟨cs, cc⟩, ⟨gs, gc⟩⟩ := h
  obtain ⟨⟨es', ec'⟩, ⟨cs', cc'⟩, ⟨gs', gc'⟩⟩ := h'
  obtain ⟨l1, l2, l3⟩ := hx.len
  have HE := Lib.hid (fun W hW => exSame_any x.e x.e (by omega) (by omega) es es' ec ec' W (hK.e.rd.keepB (Nat.le_refl _) hW) (hK'.e.rd.keepB (Nat.le_refl _) hW) true (by simp))
  have HC := Lib.hid (fun W hW => cmSame_eq x.rows x.cols x.c (by omega) cs cs' cc cc' W (hK.c.rd.keepB (Nat.le_refl _) hW) (hK'.c.rd.keepB (Nat.le_refl _) hW))
  have HG := Lib.hid (fun W hW => hiSame_eq x.fine x.g (by omega) gs gs' gc gc' W (hK.g.rd.keepB (Nat.le_refl _) hW) (hK'.g.rd.keepB (Nat.le_refl _) hW))
  have st0 := ((St.start w).alloc (cs := #[.int .i64 x.kind, .int .i64 0, .slice es x.e.length ec, .int .i64 0, .string ⟨#[]⟩, .int .i64 x.rows, .int .i64 x.cols, .slice cs x.c.length cc, .int .i64 x.fine, .slice gs x.g.length gc]) (T := 103)).alloc (cs := #[.int .i64 x.kind, .int .i64 0, .slice es' x.e.length ec', .int .i64 0, .string ⟨#[]⟩, .int .i64 x.rows, .int .i64 x.cols, .slice cs' x.c.length cc', .int .i64 x.fine, .slice gs' x.g.length gc']) (T := 103)
  simp only [World.size_alloc] at st0
  clear hK hK' hx l1 l2 l3
  show Calls Tryz.prog 88 #[.agg #[.int .i64 x.kind, .int .i64 0, .slice es x.e.length ec, .int .i64 0, .string ⟨#[]⟩, .int .i64 x.rows, .int .i64 x.cols, .slice cs x.c.length cc, .int .i64 x.fine, .slice gs x.g.length gc], .agg #[.int .i64 x.kind, .int .i64 0, .slice es' x.e.length ec', .int .i64 0, .string ⟨#[]⟩, .int .i64 x.rows, .int .i64 x.cols, .slice cs' x.c.length cc', .int .i64 x.fine, .slice gs' x.g.length gc']] w _
  generalize x.kind = kd at *
  generalize x.rows = rw at *
  generalize x.cols = cl at *
  generalize x.fine = fi at *
  generalize x.e = E at *
  generalize x.c = C at *
  generalize x.g = G at *
  go_enter Tryz.func88, Tryz.ntmps88
  go_wp2_with fail
  refine (HE.out _ st0.below).mono ?_
  rintro e w1 ⟨rfl, hb1⟩
  have st1 := st0.to hb1
  have rl := st1.rules
  simp only [Rules, World.size_alloc] at rl
  clear HE st0 hb1
  go_wp2_with fail
  refine (HC.out _ st1.below).mono ?_
  rintro e w2 ⟨rfl, hb2⟩
  have st2 := st1.to hb2
  have rl := st2.rules
  simp only [Rules, World.size_alloc] at rl
  clear HC st1 hb2
  go_wp2_with fail
  refine (HG.out _ st2.below).mono ?_
  rintro e w3 ⟨rfl, hb3⟩
  have st3 := st2.to hb3
  clear HG st2 hb3 rl
  go_wp2_with fail
  go_ret
  exact ⟨rfl, st3.below⟩
theorem bottom_any (x : Sk) (w : World) : Calls Tryz.prog 87 #[.int .i64 x.kind] w fun e w' => e = .returned (.int .i64 (if x.kind = 1 then 4 else 3)) ∧ w' = w := by
  cases x <;> (show Calls _ _ #[.int .i64 _] w _; simp only [Sk.kind]; go_enter Tryz.func87, Tryz.ntmps87; go_wp2_with fail; go_ret; exact ⟨rfl, rfl⟩)
theorem ladTold_ok (b : Value) (w : World) : Calls Tryz.prog 264 #[b, .int .i64 0] w fun e w' => e = .returned (.tuple #[b, .nilIface]) ∧ w' = w := by
  go_enter Tryz.func264, Tryz.ntmps264
  go_wp2_with fail
  go_ret2
  exact ⟨rfl, rfl⟩
abbrev heldE : Value → Option (DataW Value × List MemPlace) := fun v => some (.held v, [])
theorem intKeyed : Maps.Keyed Tryz.prog 3 := Maps.int_keyed Tryz.underlying3
theorem kindsMap : Tryz.prog.underlying 198 = some (.map 3 196) := Tryz.underlying198
theorem kindsZero (w : World) : (zeroValue 196).run Tryz.prog w = .ok .nilFunc w := by kernel_rfl
abbrev fnV (n : Nat) : Value := .func (.func n) #[] #[]
def kindsD : DataW Value := (((DataW.map []).put (.int .i64 1) (.held (fnV 132))).put (.int .i64 2) (.held (fnV 133))).put (.int .i64 3) (.held (fnV 134))
def KMap (W : World) (b : Nat) : Prop := W.ownsMap Tryz.prog 3 heldE b 3 kindsD
theorem keyI (n : Int) (h0 : 0 ≤ n) (h3 : n ≤ 1000) : keyOf Tryz.prog 3 (.int .i64 n) = some (.int .i64 n) := Maps.keyOf_int_mk Tryz.underlying3 (WalkArith.wf_i64 (by omega))
theorem KMap.keep {W W' : World} {b : Nat} (h : KMap W b) (hb : Below W.heap.size W W') : KMap W' b := World.ownsMap.kept h (grownBy_ofBelow hb none) (by simp)
def Sk.fn : Sk → Nat
  | .dist _ => 132
  | .cnt _ => 133
  | .hst _ => 134
theorem KMap.look {W : World} {b : Nat} (h : KMap W b) (x : Sk) : (Instr.lookup 198 (.map (some b)) (.int .i64 x.kind) true).run Tryz.prog W = .ok (.tuple #[fnV x.fn, .bool true]) W := by
  obtain ⟨v, ps, hrun, hv⟩ := World.ownsMap.look_ok h intKeyed kindsMap (kindsZero _) (zp := []) rfl (keyI x.kind (by cases x <;> simp [Sk.kind]) (by cases x <;> simp [Sk.kind]))
  have h1 : kindsD.atKey (.int .i64 x.kind) (.held .nilFunc) = .held (fnV x.fn) := by cases x <;> kernel_rfl
  have h2 : Maps.has kindsD (.int .i64 x.kind) = true := by cases x <;> kernel_rfl
  rw [h1] at hv
  rw [h2] at hrun
  simp only [heldE, Option.some.injEq, Prod.mk.injEq, DataW.held.injEq] at hv
  rw [hrun, hv.1]
theorem kinds_any (w : World) : Calls Tryz.prog 86 #[] w fun e w' => ∃ b, e = .returned (.map (some b)) ∧ w.heap.size ≤ b ∧ KMap w' b ∧ Below w.heap.size w w' := by
  have o0 := World.ownsMap_made w Tryz.prog 3 heldE
  obtain ⟨w1, h1, o1, g1⟩ := o0.update intKeyed kindsMap (by unfold maxLen; omega) (keyI 1 (by decide) (by decide)) (val := fnV 132) (d := .held (fnV 132)) (ps := []) rfl
  obtain ⟨w2, h2, o2, g2⟩ := o1.update intKeyed kindsMap (by unfold maxLen; omega) (keyI 2 (by decide) (by decide)) (val := fnV 133) (d := .held (fnV 133)) (ps := []) rfl
  obtain ⟨w3, h3, o3, g3⟩ := o2.update intKeyed kindsMap (by unfold maxLen; omega) (keyI 3 (by decide) (by decide)) (val := fnV 134) (d := .held (fnV 134)) (ps := []) rfl
  have b0 : Below w.heap.size w (w.alloc (.map #[] 0)) := (Below.refl _ _).alloc (Nat.le_refl _) _
  have b1 := b0.grown g1 b0.size (fun k e => by cases e; exact Nat.le_refl _)
  have b2 := b1.grown g2 b1.size (fun k e => by cases e; exact Nat.le_refl _)
  have b3 := b2.grown g3 b2.size (fun k e => by cases e; exact Nat.le_refl _)
  have hmm := @run_makeMap Tryz.prog
  have O := Lib.hid o3
  clear o0 o1 o2 o3 g1 g2 g3 b0 b1 b2
  go_enter Tryz.func86, Tryz.ntmps86
  go_wp2_with fail
  go_ret
  exact ⟨_, rfl, Nat.le_refl _, O.out, b3⟩
end Go.Proofs.YtmgdbfmlnmahpaaGreatDoor
namespace Go.Proofs.YtmgdbfmlnmahpaaGreatDoor
open Go.RowKit Go.Shelf
set_option linter.unusedSimpArgs false
set_option linter.unusedVariables false
set_option maxRecDepth 100000
def SkH.b : Sk → SkH → Value
  | .dist L, h => .iface 268 (.agg #[h.e.v L.length])
  | .cnt L, h => .iface 272 (.agg #[.int .i64 2, .int .i64 32, h.c.v L.length])
  | .hst l, h => .iface 274 (.agg #[.int .i64 3, h.g.v l.length])
set_option maxHeartbeats 1000000 in
theorem heldDist_any (L : List Nat) (hx : Sk.Ok (.dist L)) (h : SkH) (w : World) (hK : RdK w (.dist L) h) :
    Calls Tryz.prog 132 #[h.v (.dist L)] w fun e w' => e = .returned (.tuple #[h.b (.dist L), .bool true]) ∧ Below w.heap.size w w' := by
  obtain ⟨⟨es, ec⟩, ⟨cs, cc⟩, ⟨gs, gc⟩⟩ := h
  show Calls Tryz.prog 132 #[.agg #[.int .i64 1, .int .i64 0, .slice es L.length ec, .int .i64 0, .string ⟨#[]⟩, .int .i64 0, .int .i64 0, .slice cs 0 cc, .int .i64 0, .slice gs 0 gc]] w fun e w' => e = .returned (.tuple #[.iface 268 (.agg #[.slice es L.length ec]), .bool true]) ∧ Below w.heap.size w w'
  obtain ⟨hx1, hx2, hx3⟩ := hx
  have HR := Lib.hid (fun W hW => exRight_any L hx1 es ec (by omega) hK.e.cap W (hK.e.rd.keepB (Nat.le_refl _) hW))
  clear hx1 hx2 hx3 hK
  have st := (St.start w).alloc (cs := #[.int .i64 1, .int .i64 0, .slice es L.length ec, .int .i64 0, .string ⟨#[]⟩, .int .i64 0, .int .i64 0, .slice cs 0 cc, .int .i64 0, .slice gs 0 gc]) (T := 203)
  go_enter Tryz.func132, Tryz.ntmps132
  go_wp2_with fail
  obtain ⟨bl2, E2, hne2, sh2, rl, hEx, hbx, hst⟩ := st.hide
  simp only [Rules, World.size_alloc] at rl
  refine region_st sh2 (by kernel_rfl) (by kernel_rfl) ?_
  repeat (first | go_big_quiet_step ((go_at_call 174; exact Cs.call (HR.out _ (hbx _).out))) | quiet_step ((go_at_call 174; exact Cs.call (HR.out _ (hbx _).out))))
  refine wpQuiet_nil ?_
  intro y
  have st4 := (hst y).out
  clear hbx rl hst sh2 hEx st
  generalize y.W = w4 at *
  have hb := st4.below
  have rl := st4.rules
  simp only [Rules] at rl
  go_wp2_with fail
  go_ret2
  exact ⟨rfl, hb⟩
set_option maxHeartbeats 1000000 in
theorem heldCnt_any (L : List Nat) (hx : Sk.Ok (.cnt L)) (h : SkH) (w : World) (hK : RdK w (.cnt L) h) :
    Calls Tryz.prog 133 #[h.v (.cnt L)] w fun e w' => e = .returned (.tuple #[h.b (.cnt L), .bool true]) ∧ Below w.heap.size w w' := by
  obtain ⟨⟨es, ec⟩, ⟨cs, cc⟩, ⟨gs, gc⟩⟩ := h
  show Calls Tryz.prog 133 #[.agg #[.int .i64 2, .int .i64 0, .slice es 0 ec, .int .i64 0, .string ⟨#[]⟩, .int .i64 2, .int .i64 32, .slice cs L.length cc, .int .i64 0, .slice gs 0 gc]] w fun e w' => e = .returned (.tuple #[.iface 272 (.agg #[.int .i64 2, .int .i64 32, .slice cs L.length cc]), .bool true]) ∧ Below w.heap.size w w'
  obtain ⟨hx1, hx2⟩ := hx
  rw [hx2]
  have HR := Lib.hid (fun W (hW : Below w.heap.size w W) => cmRight_any cs cc W)
  clear hx1 hx2 hK
  have st := (St.start w).alloc (cs := #[.int .i64 2, .int .i64 0, .slice es 0 ec, .int .i64 0, .string ⟨#[]⟩, .int .i64 2, .int .i64 32, .slice cs 64 cc, .int .i64 0, .slice gs 0 gc]) (T := 203)
  go_enter Tryz.func133, Tryz.ntmps133
  go_wp2_with fail
  obtain ⟨bl2, E2, hne2, sh2, rl, hEx, hbx, hst⟩ := st.hide
  simp only [Rules, World.size_alloc] at rl
  refine region_st sh2 (by kernel_rfl) (by kernel_rfl) ?_
  repeat (first | go_big_quiet_step ((go_at_call 176; exact Cs.call (HR.out _ (hbx _).out))) | quiet_step ((go_at_call 176; exact Cs.call (HR.out _ (hbx _).out))))
  refine wpQuiet_nil ?_
  intro y
  have st4 := (hst y).out
  clear hbx rl hst sh2 hEx st
  generalize y.W = w4 at *
  have hb := st4.below
  have rl := st4.rules
  simp only [Rules] at rl
  go_wp2_with fail
  go_ret2
  exact ⟨rfl, hb⟩
set_option maxHeartbeats 1000000 in
theorem heldHst_any (L : List (Nat × Nat)) (hx : Sk.Ok (.hst L)) (h : SkH) (w : World) (hK : RdK w (.hst L) h) :
    Calls Tryz.prog 134 #[h.v (.hst L)] w fun e w' => e = .returned (.tuple #[h.b (.hst L), .bool true]) ∧ Below w.heap.size w w' := by
  obtain ⟨⟨es, ec⟩, ⟨cs, cc⟩, ⟨gs, gc⟩⟩ := h
  show Calls Tryz.prog 134 #[.agg #[.int .i64 3, .int .i64 0, .slice es 0 ec, .int .i64 0, .string ⟨#[]⟩, .int .i64 0, .int .i64 0, .slice cs 0 cc, .int .i64 3, .slice gs L.length gc]] w fun e w' => e = .returned (.tuple #[.iface 274 (.agg #[.int .i64 3, .slice gs L.length gc]), .bool true]) ∧ Below w.heap.size w w'
  obtain ⟨hx1, hx2, hx3⟩ := hx
  have HR := Lib.hid (fun W hW => hiRight_any L hx1 gs gc (by omega) hK.g.cap W (hK.g.rd.keepB (Nat.le_refl _) hW))
  clear hx1 hx2 hx3 hK
  have st := (St.start w).alloc (cs := #[.int .i64 3, .int .i64 0, .slice es 0 ec, .int .i64 0, .string ⟨#[]⟩, .int .i64 0, .int .i64 0, .slice cs 0 cc, .int .i64 3, .slice gs L.length gc]) (T := 203)
  go_enter Tryz.func134, Tryz.ntmps134
  go_wp2_with fail
  obtain ⟨bl2, E2, hne2, sh2, rl, hEx, hbx, hst⟩ := st.hide
  simp only [Rules, World.size_alloc] at rl
  refine region_st sh2 (by kernel_rfl) (by kernel_rfl) ?_
  repeat (first | go_big_quiet_step ((go_at_call 177; exact Cs.call (HR.out _ (hbx _).out))) | quiet_step ((go_at_call 177; exact Cs.call (HR.out _ (hbx _).out))))
  refine wpQuiet_nil ?_
  intro y
  have st4 := (hst y).out
  clear hbx rl hst sh2 hEx st
  generalize y.W = w4 at *
  have hb := st4.below
  have rl := st4.rules
  simp only [Rules] at rl
  go_wp2_with fail
  go_ret2
  exact ⟨rfl, hb⟩
end Go.Proofs.YtmgdbfmlnmahpaaGreatDoor
namespace Go.Proofs.YtmgdbfmlnmahpaaGreatDoor
open Go.RowKit Go.Shelf
set_option linter.unusedSimpArgs false
set_option linter.unusedVariables false
set_option maxRecDepth 100000
@[go_sem] theorem ta1_numbers (v : Value) (w : World) : (Instr.typeAssert (.iface 268 v) 133 268 false).run Tryz.prog w = .ok v w := by kernel_rfl
@[go_sem] theorem ta_numbers_numbers (v : Value) (w : World) : (Instr.typeAssert (.iface 268 v) 133 268 true).run Tryz.prog w = .ok (.tuple #[v, .bool true]) w := by kernel_rfl
@[go_sem] theorem ta_numbers_registers (v : Value) (w : World) : (Instr.typeAssert (.iface 268 v) 133 271 true).run Tryz.prog w = .ok (.tuple #[.agg #[.int .i64 0, .string ⟨#[]⟩], .bool false]) w := by kernel_rfl
@[go_sem] theorem ta_numbers_counters (v : Value) (w : World) : (Instr.typeAssert (.iface 268 v) 133 272 true).run Tryz.prog w = .ok (.tuple #[.agg #[.int .i64 0, .int .i64 0, .slice none 0 0], .bool false]) w := by kernel_rfl
@[go_sem] theorem ta_numbers_buckets (v : Value) (w : World) : (Instr.typeAssert (.iface 268 v) 133 274 true).run Tryz.prog w = .ok (.tuple #[.agg #[.int .i64 0, .slice none 0 0], .bool false]) w := by kernel_rfl
@[go_sem] theorem ta1_counters (v : Value) (w : World) : (Instr.typeAssert (.iface 272 v) 133 272 false).run Tryz.prog w = .ok v w := by kernel_rfl
@[go_sem] theorem ta_counters_numbers (v : Value) (w : World) : (Instr.typeAssert (.iface 272 v) 133 268 true).run Tryz.prog w = .ok (.tuple #[.agg #[.slice none 0 0], .bool false]) w := by kernel_rfl
@[go_sem] theorem ta_counters_registers (v : Value) (w : World) : (Instr.typeAssert (.iface 272 v) 133 271 true).run Tryz.prog w = .ok (.tuple #[.agg #[.int .i64 0, .string ⟨#[]⟩], .bool false]) w := by kernel_rfl
@[go_sem] theorem ta_counters_counters (v : Value) (w : World) : (Instr.typeAssert (.iface 272 v) 133 272 true).run Tryz.prog w = .ok (.tuple #[v, .bool true]) w := by kernel_rfl
@[go_sem] theorem ta_counters_buckets (v : Value) (w : World) : (Instr.typeAssert (.iface 272 v) 133 274 true).run Tryz.prog w = .ok (.tuple #[.agg #[.int .i64 0, .slice none 0 0], .bool false]) w := by kernel_rfl
@[go_sem] theorem ta1_buckets (v : Value) (w : World) : (Instr.typeAssert (.iface 274 v) 133 274 false).run Tryz.prog w = .ok v w := by kernel_rfl
@[go_sem] theorem ta_buckets_numbers (v : Value) (w : World) : (Instr.typeAssert (.iface 274 v) 133 268 true).run Tryz.prog w = .ok (.tuple #[.agg #[.slice none 0 0], .bool false]) w := by kernel_rfl
@[go_sem] theorem ta_buckets_registers (v : Value) (w : World) : (Instr.typeAssert (.iface 274 v) 133 271 true).run Tryz.prog w = .ok (.tuple #[.agg #[.int .i64 0, .string ⟨#[]⟩], .bool false]) w := by kernel_rfl
@[go_sem] theorem ta_buckets_counters (v : Value) (w : World) : (Instr.typeAssert (.iface 274 v) 133 272 true).run Tryz.prog w = .ok (.tuple #[.agg #[.int .i64 0, .int .i64 0, .slice none 0 0], .bool false]) w := by kernel_rfl
@[go_sem] theorem ta_buckets_buckets (v : Value) (w : World) : (Instr.typeAssert (.iface 274 v) 133 274 true).run Tryz.prog w = .ok (.tuple #[v, .bool true]) w := by kernel_rfl
abbrev SkH.w (x : Sk) (h : SkH) : Value := .agg #[h.b x, .int .i64 x.kind, .int .i64 0]
set_option maxHeartbeats 400000 in
theorem sketchDist_any (L : List Nat) (hx : Sk.Ok (.dist L)) (h : SkH) (w : World) (hK : RdK w (.dist L) h) :
    Calls Tryz.prog 89 #[h.w (.dist L)] w (GivesK w (.dist L)) := by
  obtain ⟨⟨es, ec⟩, ⟨cs, cc⟩, ⟨gs, gc⟩⟩ := h
  have hlen : L.length ≤ 1000 := hx.len.1
  show Calls Tryz.prog 89 #[.agg #[.iface 268 (.agg #[.slice es L.length ec]), .int .i64 1, .int .i64 0]] w _
  have st0 := ((((St.start w).alloc (cs := #[.iface 268 (.agg #[.slice es L.length ec]), .int .i64 1, .int .i64 0]) (T := 135)).alloc (cs := #[.int .i64 0, .int .i64 0, .slice none 0 0, .int .i64 0, .string ⟨#[]⟩, .int .i64 0, .int .i64 0, .slice none 0 0, .int .i64 0, .slice none 0 0]) (T := 103)).alloc (cs := #[.int .i64 1, .int .i64 0, .slice none 0 0, .int .i64 0, .string ⟨#[]⟩, .int .i64 0, .int .i64 0, .slice none 0 0, .int .i64 0, .slice none 0 0]) (T := 103)).alloc (cs := #[.slice es L.length ec]) (T := 268)
  simp only [World.size_alloc] at st0
  go_enter Tryz.func89, Tryz.ntmps89
  go_wp2_with fail
  refine (cloneU_any L (by omega) ⟨es, ec⟩ _ (hK.e.keepB st0.below)).mono ?_
  rintro e w1 ⟨⟨ds, dc⟩, rfl, hd, hf, hb1⟩
  have st1 := st0.to hb1
  have hlt := st1.below.size
  have hB : w.heap.size + 1 + 1 + 1 < w1.heap.size := blk_lt (st1.blk (w.heap.size + 1 + 1 + 1, #[.slice es L.length ec], 268) (by simp))
  have HD := Lib.hid hd
  have HF := hf.mono (show w.heap.size + 1 + 1 + 1 ≤ _ by simp)
  have rl := st1.rules
  simp only [Rules] at rl
  clear st0 hb1 hK hd hf
  change Fresh (w.heap.size + 1 + 1 + 1) ⟨ds, dc⟩ at HF
  go_wp2_with fail
  refine bodyPost_ret (v := .agg #[.int .i64 1, .int .i64 0, .slice ds L.length dc, .int .i64 0, .string ⟨#[]⟩, .int .i64 0, .int .i64 0, .slice none 0 0, .int .i64 0, .slice none 0 0]) (by simp [results, Tryz.results89, go_sem, rl]) rfl ⟨⟨⟨ds, dc⟩, ⟨none, 0⟩, ⟨none, 0⟩⟩, rfl, ?_, ?_, ?_⟩
  · refine ⟨RdH.up HD.out HF ?_, RdH.none _, RdH.none _⟩
    repeat (with_reducible refine KeepUp.set ?_ (by omega) _)
    exact KeepUp.refl _ _
  · have HF := HF.mono (show w.heap.size ≤ w.heap.size + 1 + 1 + 1 by omega)
    exact ⟨HF, Fresh.none _, Fresh.none _⟩
  · repeat (with_reducible refine Below.setCell ?_ (by simp; try omega) _)
    exact st1.below
set_option maxHeartbeats 400000 in
theorem sketchCnt_any (L : List Nat) (hx : Sk.Ok (.cnt L)) (h : SkH) (w : World) (hK : RdK w (.cnt L) h) :
    Calls Tryz.prog 89 #[h.w (.cnt L)] w (GivesK w (.cnt L)) := by
  obtain ⟨⟨es, ec⟩, ⟨cs, cc⟩, ⟨gs, gc⟩⟩ := h
  have hlen : L.length ≤ 1000 := hx.len.2.1
  show Calls Tryz.prog 89 #[.agg #[.iface 272 (.agg #[.int .i64 2, .int .i64 32, .slice cs L.length cc]), .int .i64 2, .int .i64 0]] w _
  have st0 := ((((St.start w).alloc (cs := #[.iface 272 (.agg #[.int .i64 2, .int .i64 32, .slice cs L.length cc]), .int .i64 2, .int .i64 0]) (T := 135)).alloc (cs := #[.int .i64 0, .int .i64 0, .slice none 0 0, .int .i64 0, .string ⟨#[]⟩, .int .i64 0, .int .i64 0, .slice none 0 0, .int .i64 0, .slice none 0 0]) (T := 103)).alloc (cs := #[.int .i64 2, .int .i64 0, .slice none 0 0, .int .i64 0, .string ⟨#[]⟩, .int .i64 2, .int .i64 32, .slice cs L.length cc, .int .i64 0, .slice none 0 0]) (T := 103)).alloc (cs := #[.int .i64 2, .int .i64 32, .slice cs L.length cc]) (T := 272)
  simp only [World.size_alloc] at st0
  go_enter Tryz.func89, Tryz.ntmps89
  go_wp2_with fail
  refine (cloneU_any L (by omega) ⟨cs, cc⟩ _ (hK.c.keepB st0.below)).mono ?_
  rintro e w1 ⟨⟨ds, dc⟩, rfl, hd, hf, hb1⟩
  have st1 := st0.to hb1
  have hlt := st1.below.size
  have hB : w.heap.size + 1 + 1 + 1 < w1.heap.size := blk_lt (st1.blk (w.heap.size + 1 + 1 + 1, #[.int .i64 2, .int .i64 32, .slice cs L.length cc], 272) (by simp))
  have HD := Lib.hid hd
  have HF := hf.mono (show w.heap.size + 1 + 1 + 1 ≤ _ by simp)
  have rl := st1.rules
  simp only [Rules] at rl
  clear st0 hb1 hK hd hf
  change Fresh (w.heap.size + 1 + 1 + 1) ⟨ds, dc⟩ at HF
  go_wp2_with fail
  refine bodyPost_ret (v := .agg #[.int .i64 2, .int .i64 0, .slice none 0 0, .int .i64 0, .string ⟨#[]⟩, .int .i64 2, .int .i64 32, .slice ds L.length dc, .int .i64 0, .slice none 0 0]) (by simp [results, Tryz.results89, go_sem, rl]) rfl ⟨⟨⟨none, 0⟩, ⟨ds, dc⟩, ⟨none, 0⟩⟩, rfl, ?_, ?_, ?_⟩
  · refine ⟨RdH.none _, RdH.up HD.out HF ?_, RdH.none _⟩
    repeat (with_reducible refine KeepUp.set ?_ (by omega) _)
    exact KeepUp.refl _ _
  · have HF := HF.mono (show w.heap.size ≤ w.heap.size + 1 + 1 + 1 by omega)
    exact ⟨Fresh.none _, HF, Fresh.none _⟩
  · repeat (with_reducible refine Below.setCell ?_ (by simp; try omega) _)
    exact st1.below
set_option maxHeartbeats 400000 in
theorem sketchHst_any (L : List (Nat × Nat)) (hx : Sk.Ok (.hst L)) (h : SkH) (w : World) (hK : RdK w (.hst L) h) :
    Calls Tryz.prog 89 #[h.w (.hst L)] w (GivesK w (.hst L)) := by
  obtain ⟨⟨es, ec⟩, ⟨cs, cc⟩, ⟨gs, gc⟩⟩ := h
  have hlen : L.length ≤ 1000 := hx.len.2.2
  show Calls Tryz.prog 89 #[.agg #[.iface 274 (.agg #[.int .i64 3, .slice gs L.length gc]), .int .i64 3, .int .i64 0]] w _
  have st0 := ((((St.start w).alloc (cs := #[.iface 274 (.agg #[.int .i64 3, .slice gs L.length gc]), .int .i64 3, .int .i64 0]) (T := 135)).alloc (cs := #[.int .i64 0, .int .i64 0, .slice none 0 0, .int .i64 0, .string ⟨#[]⟩, .int .i64 0, .int .i64 0, .slice none 0 0, .int .i64 0, .slice none 0 0]) (T := 103)).alloc (cs := #[.int .i64 3, .int .i64 0, .slice none 0 0, .int .i64 0, .string ⟨#[]⟩, .int .i64 0, .int .i64 0, .slice none 0 0, .int .i64 3, .slice gs L.length gc]) (T := 103)).alloc (cs := #[.int .i64 3, .slice gs L.length gc]) (T := 274)
  simp only [World.size_alloc] at st0
  go_enter Tryz.func89, Tryz.ntmps89
  go_wp2_with fail
  refine (cloneB_any L (by omega) ⟨gs, gc⟩ _ (hK.g.keepB st0.below)).mono ?_
  rintro e w1 ⟨⟨ds, dc⟩, rfl, hd, hf, hb1⟩
  have st1 := st0.to hb1
  have hlt := st1.below.size
  have hB : w.heap.size + 1 + 1 + 1 < w1.heap.size := blk_lt (st1.blk (w.heap.size + 1 + 1 + 1, #[.int .i64 3, .slice gs L.length gc], 274) (by simp))
  have HD := Lib.hid hd
  have HF := hf.mono (show w.heap.size + 1 + 1 + 1 ≤ _ by simp)
  have rl := st1.rules
  simp only [Rules] at rl
  clear st0 hb1 hK hd hf
  change Fresh (w.heap.size + 1 + 1 + 1) ⟨ds, dc⟩ at HF
  go_wp2_with fail
  refine bodyPost_ret (v := .agg #[.int .i64 3, .int .i64 0, .slice none 0 0, .int .i64 0, .string ⟨#[]⟩, .int .i64 0, .int .i64 0, .slice none 0 0, .int .i64 3, .slice ds L.length dc]) (by simp [results, Tryz.results89, go_sem, rl]) rfl ⟨⟨⟨none, 0⟩, ⟨none, 0⟩, ⟨ds, dc⟩⟩, rfl, ?_, ?_, ?_⟩
  · refine ⟨RdH.none _, RdH.none _, RdH.up HD.out HF ?_⟩
    repeat (with_reducible refine KeepUp.set ?_ (by omega) _)
    exact KeepUp.refl _ _
  · have HF := HF.mono (show w.heap.size ≤ w.heap.size + 1 + 1 + 1 by omega)
    exact ⟨Fresh.none _, Fresh.none _, HF⟩
  · repeat (with_reducible refine Below.setCell ?_ (by simp; try omega) _)
    exact st1.below
end Go.Proofs.YtmgdbfmlnmahpaaGreatDoor
