/- A part of the proof of TopCounts. -/
import Derived.Test.YtmgdbfmlnmahpaaGreatDoorG46
import Derived.Test.YtmgdbfmlnmahpaaGreatDoorG48
namespace Go.Proofs.YtmgdbfmlnmahpaaGreatDoor
open Go.RowKit Go.Shelf
set_option linter.unusedSimpArgs false
set_option linter.unusedVariables false
set_option maxRecDepth 100000
theorem doMap : Tryz.prog.underlying 68 = some (.map 3 67) := Tryz.underlying68
theorem doZero (w : World) : (zeroValue 67).run Tryz.prog w = .ok .nilFunc w := by kernel_rfl
abbrev dfV (n C b id : Nat) : Value := .func (.func n) #[.agg #[.pointer (some ⟨C, 0, none⟩), .pointer (some ⟨b, 0, none⟩), .int .u64 (id : Int)]] #[]
def doD (C b id : Nat) : DataW Value := (((((((DataW.map []).put (.int .i64 1) (.held (dfV 15 C b id))).put (.int .i64 2) (.held (dfV 16 C b id))).put (.int .i64 3) (.held (dfV 17 C b id))).put (.int .i64 4) (.held (dfV 18 C b id))).put (.int .i64 5) (.held (dfV 19 C b id))).put (.int .i64 6) (.held (dfV 20 C b id))).put (.int .i64 7) (.held (dfV 21 C b id))
def DMap (W : World) (m C b id : Nat) : Prop := W.ownsMap Tryz.prog 3 heldE m 7 (doD C b id)
theorem doHas (C b id : Nat) : ∀ n : Nat, 1 ≤ n → n ≤ 7 → Maps.has (doD C b id) (.int .i64 (n : Int)) = true := by
  intro n h1 h7
  rcases (show n = 1 ∨ n = 2 ∨ n = 3 ∨ n = 4 ∨ n = 5 ∨ n = 6 ∨ n = 7 by omega) with rfl | rfl | rfl | rfl | rfl | rfl | rfl <;> kernel_rfl
theorem DMap.look1 {W : World} {m C b id : Nat} (h : DMap W m C b id) : (Instr.lookup 68 (.map (some m)) (.int .i64 1) true).run Tryz.prog W = .ok (.tuple #[dfV 15 C b id, .bool true]) W := by
  obtain ⟨v, ps, hrun, hv⟩ := World.ownsMap.look_ok h intKeyed doMap (doZero _) (zp := []) rfl (keyI 1 (by decide) (by decide))
  have h1 : (doD C b id).atKey (.int .i64 1) (.held .nilFunc) = .held (dfV 15 C b id) := by kernel_rfl
  have h2 : Maps.has (doD C b id) (.int .i64 1) = true := by kernel_rfl
  rw [h1] at hv
  rw [h2] at hrun
  simp only [heldE, Option.some.injEq, Prod.mk.injEq, DataW.held.injEq] at hv
  rw [hrun, hv.1]
theorem DMap.look2 {W : World} {m C b id : Nat} (h : DMap W m C b id) : (Instr.lookup 68 (.map (some m)) (.int .i64 2) true).run Tryz.prog W = .ok (.tuple #[dfV 16 C b id, .bool true]) W := by
  obtain ⟨v, ps, hrun, hv⟩ := World.ownsMap.look_ok h intKeyed doMap (doZero _) (zp := []) rfl (keyI 2 (by decide) (by decide))
  have h1 : (doD C b id).atKey (.int .i64 2) (.held .nilFunc) = .held (dfV 16 C b id) := by kernel_rfl
  have h2 : Maps.has (doD C b id) (.int .i64 2) = true := by kernel_rfl
  rw [h1] at hv
  rw [h2] at hrun
  simp only [heldE, Option.some.injEq, Prod.mk.injEq, DataW.held.injEq] at hv
  rw [hrun, hv.1]
theorem DMap.look3 {W : World} {m C b id : Nat} (h : DMap W m C b id) : (Instr.lookup 68 (.map (some m)) (.int .i64 3) true).run Tryz.prog W = .ok (.tuple #[dfV 17 C b id, .bool true]) W := by
  obtain ⟨v, ps, hrun, hv⟩ := World.ownsMap.look_ok h intKeyed doMap (doZero _) (zp := []) rfl (keyI 3 (by decide) (by decide))
  have h1 : (doD C b id).atKey (.int .i64 3) (.held .nilFunc) = .held (dfV 17 C b id) := by kernel_rfl
  have h2 : Maps.has (doD C b id) (.int .i64 3) = true := by kernel_rfl
  rw [h1] at hv
  rw [h2] at hrun
  simp only [heldE, Option.some.injEq, Prod.mk.injEq, DataW.held.injEq] at hv
  rw [hrun, hv.1]
theorem DMap.look4 {W : World} {m C b id : Nat} (h : DMap W m C b id) : (Instr.lookup 68 (.map (some m)) (.int .i64 4) true).run Tryz.prog W = .ok (.tuple #[dfV 18 C b id, .bool true]) W := by
  obtain ⟨v, ps, hrun, hv⟩ := World.ownsMap.look_ok h intKeyed doMap (doZero _) (zp := []) rfl (keyI 4 (by decide) (by decide))
  have h1 : (doD C b id).atKey (.int .i64 4) (.held .nilFunc) = .held (dfV 18 C b id) := by kernel_rfl
  have h2 : Maps.has (doD C b id) (.int .i64 4) = true := by kernel_rfl
  rw [h1] at hv
  rw [h2] at hrun
  simp only [heldE, Option.some.injEq, Prod.mk.injEq, DataW.held.injEq] at hv
  rw [hrun, hv.1]
theorem DMap.look5 {W : World} {m C b id : Nat} (h : DMap W m C b id) : (Instr.lookup 68 (.map (some m)) (.int .i64 5) true).run Tryz.prog W = .ok (.tuple #[dfV 19 C b id, .bool true]) W := by
  obtain ⟨v, ps, hrun, hv⟩ := World.ownsMap.look_ok h intKeyed doMap (doZero _) (zp := []) rfl (keyI 5 (by decide) (by decide))
  have h1 : (doD C b id).atKey (.int .i64 5) (.held .nilFunc) = .held (dfV 19 C b id) := by kernel_rfl
  have h2 : Maps.has (doD C b id) (.int .i64 5) = true := by kernel_rfl
  rw [h1] at hv
  rw [h2] at hrun
  simp only [heldE, Option.some.injEq, Prod.mk.injEq, DataW.held.injEq] at hv
  rw [hrun, hv.1]
theorem DMap.look6 {W : World} {m C b id : Nat} (h : DMap W m C b id) : (Instr.lookup 68 (.map (some m)) (.int .i64 6) true).run Tryz.prog W = .ok (.tuple #[dfV 20 C b id, .bool true]) W := by
  obtain ⟨v, ps, hrun, hv⟩ := World.ownsMap.look_ok h intKeyed doMap (doZero _) (zp := []) rfl (keyI 6 (by decide) (by decide))
  have h1 : (doD C b id).atKey (.int .i64 6) (.held .nilFunc) = .held (dfV 20 C b id) := by kernel_rfl
  have h2 : Maps.has (doD C b id) (.int .i64 6) = true := by kernel_rfl
  rw [h1] at hv
  rw [h2] at hrun
  simp only [heldE, Option.some.injEq, Prod.mk.injEq, DataW.held.injEq] at hv
  rw [hrun, hv.1]
theorem DMap.look7 {W : World} {m C b id : Nat} (h : DMap W m C b id) : (Instr.lookup 68 (.map (some m)) (.int .i64 7) true).run Tryz.prog W = .ok (.tuple #[dfV 21 C b id, .bool true]) W := by
  obtain ⟨v, ps, hrun, hv⟩ := World.ownsMap.look_ok h intKeyed doMap (doZero _) (zp := []) rfl (keyI 7 (by decide) (by decide))
  have h1 : (doD C b id).atKey (.int .i64 7) (.held .nilFunc) = .held (dfV 21 C b id) := by kernel_rfl
  have h2 : Maps.has (doD C b id) (.int .i64 7) = true := by kernel_rfl
  rw [h1] at hv
  rw [h2] at hrun
  simp only [heldE, Option.some.injEq, Prod.mk.injEq, DataW.held.injEq] at hv
  rw [hrun, hv.1]
theorem made7 (w4 : World) (C b id : Nat) : ∃ w1 w2 w3 w5 w6 w7 w8 : World, (Instr.mapUpdate 68 (.map (some w4.heap.size)) (.int .i64 1) (dfV 15 C b id)).run Tryz.prog (w4.alloc (.map #[] 0)) = .ok () w1 ∧ (Instr.mapUpdate 68 (.map (some w4.heap.size)) (.int .i64 2) (dfV 16 C b id)).run Tryz.prog w1 = .ok () w2 ∧ (Instr.mapUpdate 68 (.map (some w4.heap.size)) (.int .i64 3) (dfV 17 C b id)).run Tryz.prog w2 = .ok () w3 ∧ (Instr.mapUpdate 68 (.map (some w4.heap.size)) (.int .i64 4) (dfV 18 C b id)).run Tryz.prog w3 = .ok () w5 ∧ (Instr.mapUpdate 68 (.map (some w4.heap.size)) (.int .i64 5) (dfV 19 C b id)).run Tryz.prog w5 = .ok () w6 ∧ (Instr.mapUpdate 68 (.map (some w4.heap.size)) (.int .i64 6) (dfV 20 C b id)).run Tryz.prog w6 = .ok () w7 ∧ (Instr.mapUpdate 68 (.map (some w4.heap.size)) (.int .i64 7) (dfV 21 C b id)).run Tryz.prog w7 = .ok () w8 ∧ DMap w8 w4.heap.size C b id ∧ Below w4.heap.size w4 w1 ∧ Below w4.heap.size w4 w2 ∧ Below w4.heap.size w4 w3 ∧ Below w4.heap.size w4 w5 ∧ Below w4.heap.size w4 w6 ∧ Below w4.heap.size w4 w7 ∧ Below w4.heap.size w4 w8 := by
  have o0 := World.ownsMap_made w4 Tryz.prog 3 heldE
  have b0 : Below w4.heap.size w4 (w4.alloc (.map #[] 0)) := (Below.refl _ _).alloc (Nat.le_refl _) _
  obtain ⟨w1, h1, o1, g1⟩ := o0.update intKeyed doMap (by unfold maxLen; omega) (keyI 1 (by decide) (by decide)) (val := dfV 15 C b id) (d := .held (dfV 15 C b id)) (ps := []) rfl
  have b1 := b0.grown g1 b0.size (fun k e => by cases e; exact Nat.le_refl _)
  obtain ⟨w2, h2, o2, g2⟩ := o1.update intKeyed doMap (by unfold maxLen; omega) (keyI 2 (by decide) (by decide)) (val := dfV 16 C b id) (d := .held (dfV 16 C b id)) (ps := []) rfl
  have b2 := b1.grown g2 b1.size (fun k e => by cases e; exact Nat.le_refl _)
  obtain ⟨w3, h3, o3, g3⟩ := o2.update intKeyed doMap (by unfold maxLen; omega) (keyI 3 (by decide) (by decide)) (val := dfV 17 C b id) (d := .held (dfV 17 C b id)) (ps := []) rfl
  have b3 := b2.grown g3 b2.size (fun k e => by cases e; exact Nat.le_refl _)
  obtain ⟨w5, h4, o4, g4⟩ := o3.update intKeyed doMap (by unfold maxLen; omega) (keyI 4 (by decide) (by decide)) (val := dfV 18 C b id) (d := .held (dfV 18 C b id)) (ps := []) rfl
  have b4 := b3.grown g4 b3.size (fun k e => by cases e; exact Nat.le_refl _)
  obtain ⟨w6, h5, o5, g5⟩ := o4.update intKeyed doMap (by unfold maxLen; omega) (keyI 5 (by decide) (by decide)) (val := dfV 19 C b id) (d := .held (dfV 19 C b id)) (ps := []) rfl
  have b5 := b4.grown g5 b4.size (fun k e => by cases e; exact Nat.le_refl _)
  obtain ⟨w7, h6, o6, g6⟩ := o5.update intKeyed doMap (by unfold maxLen; omega) (keyI 6 (by decide) (by decide)) (val := dfV 20 C b id) (d := .held (dfV 20 C b id)) (ps := []) rfl
  have b6 := b5.grown g6 b5.size (fun k e => by cases e; exact Nat.le_refl _)
  obtain ⟨w8, h7, o7, g7⟩ := o6.update intKeyed doMap (by unfold maxLen; omega) (keyI 7 (by decide) (by decide)) (val := dfV 21 C b id) (d := .held (dfV 21 C b id)) (ps := []) rfl
  have b7 := b6.grown g7 b6.size (fun k e => by cases e; exact Nat.le_refl _)
  exact ⟨w1, w2, w3, w5, w6, w7, w8, h1, h2, h3, h4, h5, h6, h7, o7, b1, b2, b3, b4, b5, b6, b7⟩
end Go.Proofs.YtmgdbfmlnmahpaaGreatDoor
namespace Go.Proofs.YtmgdbfmlnmahpaaGreatDoor
open Go.RowKit Go.Shelf
set_option linter.unusedSimpArgs false
set_option linter.unusedVariables false
set_option maxRecDepth 100000
set_option maxHeartbeats 2000000 in
theorem doingest (C b id n : Nat) (ka kb : BitVec 64) (ids bs : List Nat) (hn : ids[n]? = some id) (hv : ∀ j, j < n → ids[j]? ≠ some id) (hb : bs[n]? = some b) (hl : ids.length ≤ 1000) (now hh to rid : Nat) (lab sc : ByteArray) (k : Int) (si : Option Addr) (ni ci : Nat) (sn : Option Addr) (nn cn : Nat) (w : World) (hbw : b < w.heap.size) (hC : Col w C ka kb ids bs) (R : Nat → World → Prop)
    (HM : ∀ W, Below w.heap.size w W → w.heap.size + 4 ≤ W.heap.size → Calls Tryz.prog 15 #[.agg #[.pointer (some ⟨C, 0, none⟩), .pointer (some ⟨b, 0, none⟩), .int .u64 (id : Int)], .agg #[.int .i64 1, .int .u64 (now : Int), .string lab, .string sc, .int .i64 k, .slice si ni ci, .int .u64 (hh : Int), .int .u64 (to : Int), .int .u64 (rid : Int), .slice sn nn cn]] W fun e w' => ∃ m : Nat, e = .returned (.tuple #[.agg #[.int .i64 0, .int .u64 (m : Int), .slice none 0 0, .slice none 0 0], .int .i64 0]) ∧ R m w' ∧ FrB [b] W w') :
    Calls Tryz.prog 8 #[.pointer (some ⟨C, 0, none⟩), .agg #[.int .u64 (id : Int), .int .i64 3, .int .u64 0], .agg #[.int .i64 1, .int .u64 (now : Int), .string lab, .string sc, .int .i64 k, .slice si ni ci, .int .u64 (hh : Int), .int .u64 (to : Int), .int .u64 (rid : Int), .slice sn nn cn]] w fun e w' => ∃ (m : Nat) (w1 : World), e = .returned (.agg #[.int .i64 0, .int .u64 (m : Int), .slice none 0 0, .slice none 0 0]) ∧ R m w1 ∧ FrB [b] w w1 ∧ FrB [w.heap.size + 1 + 1] w1 w' := by
  obtain ⟨vI, vT, hCb, oI, oT⟩ := hC.ex
  obtain ⟨sI, cI, rfl, -, -, hI, -, -⟩ := oI.form encU_len
  obtain ⟨sT, cT, rfl, -, -, hT, -, -⟩ := oT.form encP_len
  have f3 := ((((Fr.start w [b]).add hCb (by simp)).alloc (cs := #[.int .u64 (id : Int), .int .i64 3, .int .u64 0]) (T := 39)).alloc (cs := #[.int .i64 1, .int .u64 (now : Int), .string lab, .string sc, .int .i64 k, .slice si ni ci, .int .u64 (hh : Int), .int .u64 (to : Int), .int .u64 (rid : Int), .slice sn nn cn]) (T := 43)).alloc (cs := #[.int .i64 0, .int .u64 0, .slice none 0 0, .slice none 0 0]) (T := 36)
  simp only [World.size_alloc] at f3
  have bl3 := (((Below.refl w.heap.size w).alloc (Nat.le_refl _) (.cells #[.int .u64 (id : Int), .int .i64 3, .int .u64 0] 39)).alloc (by simp) (.cells #[.int .i64 1, .int .u64 (now : Int), .string lab, .string sc, .int .i64 k, .slice si ni ci, .int .u64 (hh : Int), .int .u64 (to : Int), .int .u64 (rid : Int), .slice sn nn cn] 43)).alloc (by simp; omega) (.cells #[.int .i64 0, .int .u64 0, .slice none 0 0, .slice none 0 0] 36)
  have HF := Lib.hid (find_at C ids id n hn hv (by omega) sI cI bs sT cT b hb _ (hI.keepB (Nat.le_refl _) bl3) (hT.keepB (Nat.le_refl _) bl3) (blk_cell (f3.blk 3 rfl) 2) (blk_cell (f3.blk 3 rfl) 3))
  have f4 := f3.alloc (cs := #[.pointer (some ⟨C, 0, none⟩), .pointer (some ⟨b, 0, none⟩), .int .u64 (id : Int)]) (T := 66)
  simp only [World.size_alloc] at f4
  have bl4 := bl3.alloc (by simp; omega) (.cells #[.pointer (some ⟨C, 0, none⟩), .pointer (some ⟨b, 0, none⟩), .int .u64 (id : Int)] 66)
  obtain ⟨w1, w2, w3, w5, w6, w7, w8, h1, h2, h3, h4, h5, h6, h7, hD, b1, b2, b3, b5, b6, b7, b8⟩ := made7 ((((w.alloc (.cells #[.int .u64 (id : Int), .int .i64 3, .int .u64 0] 39)).alloc (.cells #[.int .i64 1, .int .u64 (now : Int), .string lab, .string sc, .int .i64 k, .slice si ni ci, .int .u64 (hh : Int), .int .u64 (to : Int), .int .u64 (rid : Int), .slice sn nn cn] 43)).alloc (.cells #[.int .i64 0, .int .u64 0, .slice none 0 0, .slice none 0 0] 36)).alloc (.cells #[.pointer (some ⟨C, 0, none⟩), .pointer (some ⟨b, 0, none⟩), .int .u64 (id : Int)] 66)) C b id
  have hlk := hD.look1
  have hz4 : ((((w.alloc (.cells #[.int .u64 (id : Int), .int .i64 3, .int .u64 0] 39)).alloc (.cells #[.int .i64 1, .int .u64 (now : Int), .string lab, .string sc, .int .i64 k, .slice si ni ci, .int .u64 (hh : Int), .int .u64 (to : Int), .int .u64 (rid : Int), .slice sn nn cn] 43)).alloc (.cells #[.int .i64 0, .int .u64 0, .slice none 0 0, .slice none 0 0] 36)).alloc (.cells #[.pointer (some ⟨C, 0, none⟩), .pointer (some ⟨b, 0, none⟩), .int .u64 (id : Int)] 66)).heap.size = w.heap.size + 1 + 1 + 1 + 1 := by simp
  rw [hz4] at h1 h2 h3 h4 h5 h6 h7 hlk
  have r1 := (f4.to b1).rules
  have r2 := (f4.to b2).rules
  have r3 := (f4.to b3).rules
  have r5 := (f4.to b5).rules
  have r6 := (f4.to b6).rules
  have r7 := (f4.to b7).rules
  have f8 := f4.to b8
  have bl8 := bl4.trans (b8.mono bl4.size)
  have r8 := f8.rules
  have r3' := f3.rules
  simp only [Rules, World.size_alloc] at r1 r2 r3 r5 r6 r7 r8 r3'
  have hmm := @run_makeMap Tryz.prog
  have hmf : ∀ (fn : Fn) (first cap : Array Value) (w : World), (Instr.makeFunc fn first cap).run Tryz.prog w = .ok (.func fn first cap) w := fun _ _ _ _ => rfl
  have hE : ∀ (args : Array Value) (w : World), (callFunc 15 args).run Tryz.prog w = .ok (.enter 15 args) w := enters_of Tryz.func15 (by kernel_rfl) rfl
  have hmay : mayB 3 1 = true := by decide
  have HM' := Lib.hid HM
  have HZ := Lib.hid hz4
  have HB8 := Lib.hid (And.intro bl8 b8)
  clear hn hv hb hl hC oI oT hI hT hCb bl3 bl4 f4 b1 b2 b3 b5 b6 b7 b8 hD HM hz4 bl8 f3
  go_enter Tryz.func8, Tryz.ntmps8
  go_wp2_with fail
  refine (colNone_any _ _).mono ?_
  rintro e w0 ⟨rfl, hw0⟩
  subst hw0
  go_wp2_with fail
  refine HF.out.mono ?_
  rintro e w0 ⟨rfl, hw0⟩
  subst hw0
  clear HF
  go_wp2_with fail
  refine (may_any 3 1 _).mono ?_
  rintro e w9 ⟨rfl, hb9⟩
  have f9 := f8.to hb9
  have HB9 := Lib.hid (HB8.out.1.trans (hb9.mono HB8.out.1.size))
  have hz9 : w.heap.size + 4 ≤ w9.heap.size := by
    have e1 := HB8.out.2.size
    rw [HZ.out] at e1
    have e2 := hb9.size
    omega
  have rl := f9.rules
  simp only [Rules] at rl
  clear f8 r1 r2 r3 r5 r6 r7 r8 r3' h1 h2 h3 h4 h5 h6 h7 hlk HB8 hb9 hmm
  go_wp2_with fail
  refine (HM'.out w9 HB9.out hz9).mono ?_
  rintro e w10 ⟨m, rfl, hR, hf10⟩
  have h6 := (hf10.block _ (blk_lt (f9.blk 1 rfl)) (by simp; omega)).trans (f9.blk 1 rfl)
  have hc6 := blk_cell h6
  have hz6 := blk_free h6
  have hl6 := blk_lt h6
  have HR := Lib.hid (And.intro hR ((FrB.of (S := [b]) HB9.out).trans hf10 (by simp)))
  clear f9 rl hR hf10 HM'
  have g0 := (Fr.start w10 [w.heap.size + 1 + 1]).add h6 (by simp)
  have g1 := g0.set 0 (A := w.heap.size + 1 + 1) rfl (.inl (by simp)) (o := 0) (v := .int .i64 0)
  simp only [setB, List.modify_succ_cons, List.modify_zero_cons, List.setIfInBounds_toArray, List.set_cons_zero, List.set_cons_succ] at g1
  have g2 := g1.set 0 (A := w.heap.size + 1 + 1) rfl (.inl (by simp)) (o := 1) (v := .int .u64 (m : Int))
  simp only [setB, List.modify_succ_cons, List.modify_zero_cons, List.setIfInBounds_toArray, List.set_cons_zero, List.set_cons_succ] at g2
  have g3 := g2.set 0 (A := w.heap.size + 1 + 1) rfl (.inl (by simp)) (o := 2) (v := .slice none 0 0)
  simp only [setB, List.modify_succ_cons, List.modify_zero_cons, List.setIfInBounds_toArray, List.set_cons_zero, List.set_cons_succ] at g3
  have g4 := g3.set 0 (A := w.heap.size + 1 + 1) rfl (.inl (by simp)) (o := 3) (v := .slice none 0 0)
  simp only [setB, List.modify_succ_cons, List.modify_zero_cons, List.setIfInBounds_toArray, List.set_cons_zero, List.set_cons_succ] at g4
  have g5 := (g4.alloc (cs := #[.int .i64 0, .int .u64 (m : Int), .slice none 0 0, .slice none 0 0]) (T := 36)).less _ (List.sublist_cons_self _ _)
  clear h6 g0 g1 g2 g3 g4
  go_wp2_with fail
  generalize ((((w10.setCell ⟨w.heap.size + 1 + 1, 0, none⟩ (.int .i64 0)).setCell ⟨w.heap.size + 1 + 1, 1, none⟩ (.int .u64 (m : Int))).setCell ⟨w.heap.size + 1 + 1, 2, none⟩ (.slice none 0 0)).setCell ⟨w.heap.size + 1 + 1, 3, none⟩ (.slice none 0 0)).alloc (.cells #[.int .i64 0, .int .u64 (m : Int), .slice none 0 0, .slice none 0 0] 36) = wz at *
  have rz := g5.rules
  simp only [Rules] at rz
  exact bodyPost_ret (v := .agg #[.int .i64 0, .int .u64 (m : Int), .slice none 0 0, .slice none 0 0]) (by simp [results, Tryz.results8, go_sem, rz]) rfl ⟨m, w10, rfl, HR.out.1, HR.out.2, g5.fr⟩
set_option maxHeartbeats 2000000 in
theorem doquery (C b id n : Nat) (ka kb : BitVec 64) (ids bs : List Nat) (hn : ids[n]? = some id) (hv : ∀ j, j < n → ids[j]? ≠ some id) (hb : bs[n]? = some b) (hl : ids.length ≤ 1000) (now hh to rid : Nat) (lab sc : ByteArray) (k : Int) (si : Option Addr) (ni ci : Nat) (sn : Option Addr) (nn cn : Nat) (w : World) (hbw : b < w.heap.size) (hC : Col w C ka kb ids bs) (R : Nat → World → Prop)
    (HM : ∀ W, Below w.heap.size w W → w.heap.size + 4 ≤ W.heap.size → Calls Tryz.prog 16 #[.agg #[.pointer (some ⟨C, 0, none⟩), .pointer (some ⟨b, 0, none⟩), .int .u64 (id : Int)], .agg #[.int .i64 2, .int .u64 (now : Int), .string lab, .string sc, .int .i64 k, .slice si ni ci, .int .u64 (hh : Int), .int .u64 (to : Int), .int .u64 (rid : Int), .slice sn nn cn]] W fun e w' => ∃ m : Nat, e = .returned (.tuple #[.agg #[.int .i64 0, .int .u64 (m : Int), .slice none 0 0, .slice none 0 0], .int .i64 0]) ∧ R m w' ∧ FrB [b] W w') :
    Calls Tryz.prog 8 #[.pointer (some ⟨C, 0, none⟩), .agg #[.int .u64 (id : Int), .int .i64 3, .int .u64 0], .agg #[.int .i64 2, .int .u64 (now : Int), .string lab, .string sc, .int .i64 k, .slice si ni ci, .int .u64 (hh : Int), .int .u64 (to : Int), .int .u64 (rid : Int), .slice sn nn cn]] w fun e w' => ∃ (m : Nat) (w1 : World), e = .returned (.agg #[.int .i64 0, .int .u64 (m : Int), .slice none 0 0, .slice none 0 0]) ∧ R m w1 ∧ FrB [b] w w1 ∧ FrB [w.heap.size + 1 + 1] w1 w' := by
  obtain ⟨vI, vT, hCb, oI, oT⟩ := hC.ex
  obtain ⟨sI, cI, rfl, -, -, hI, -, -⟩ := oI.form encU_len
  obtain ⟨sT, cT, rfl, -, -, hT, -, -⟩ := oT.form encP_len
  have f3 := ((((Fr.start w [b]).add hCb (by simp)).alloc (cs := #[.int .u64 (id : Int), .int .i64 3, .int .u64 0]) (T := 39)).alloc (cs := #[.int .i64 2, .int .u64 (now : Int), .string lab, .string sc, .int .i64 k, .slice si ni ci, .int .u64 (hh : Int), .int .u64 (to : Int), .int .u64 (rid : Int), .slice sn nn cn]) (T := 43)).alloc (cs := #[.int .i64 0, .int .u64 0, .slice none 0 0, .slice none 0 0]) (T := 36)
  simp only [World.size_alloc] at f3
  have bl3 := (((Below.refl w.heap.size w).alloc (Nat.le_refl _) (.cells #[.int .u64 (id : Int), .int .i64 3, .int .u64 0] 39)).alloc (by simp) (.cells #[.int .i64 2, .int .u64 (now : Int), .string lab, .string sc, .int .i64 k, .slice si ni ci, .int .u64 (hh : Int), .int .u64 (to : Int), .int .u64 (rid : Int), .slice sn nn cn] 43)).alloc (by simp; omega) (.cells #[.int .i64 0, .int .u64 0, .slice none 0 0, .slice none 0 0] 36)
  have HF := Lib.hid (find_at C ids id n hn hv (by omega) sI cI bs sT cT b hb _ (hI.keepB (Nat.le_refl _) bl3) (hT.keepB (Nat.le_refl _) bl3) (blk_cell (f3.blk 3 rfl) 2) (blk_cell (f3.blk 3 rfl) 3))
  have f4 := f3.alloc (cs := #[.pointer (some ⟨C, 0, none⟩), .pointer (some ⟨b, 0, none⟩), .int .u64 (id : Int)]) (T := 66)
  simp only [World.size_alloc] at f4
  have bl4 := bl3.alloc (by simp; omega) (.cells #[.pointer (some ⟨C, 0, none⟩), .pointer (some ⟨b, 0, none⟩), .int .u64 (id : Int)] 66)
  obtain ⟨w1, w2, w3, w5, w6, w7, w8, h1, h2, h3, h4, h5, h6, h7, hD, b1, b2, b3, b5, b6, b7, b8⟩ := made7 ((((w.alloc (.cells #[.int .u64 (id : Int), .int .i64 3, .int .u64 0] 39)).alloc (.cells #[.int .i64 2, .int .u64 (now : Int), .string lab, .string sc, .int .i64 k, .slice si ni ci, .int .u64 (hh : Int), .int .u64 (to : Int), .int .u64 (rid : Int), .slice sn nn cn] 43)).alloc (.cells #[.int .i64 0, .int .u64 0, .slice none 0 0, .slice none 0 0] 36)).alloc (.cells #[.pointer (some ⟨C, 0, none⟩), .pointer (some ⟨b, 0, none⟩), .int .u64 (id : Int)] 66)) C b id
  have hlk := hD.look2
  have hz4 : ((((w.alloc (.cells #[.int .u64 (id : Int), .int .i64 3, .int .u64 0] 39)).alloc (.cells #[.int .i64 2, .int .u64 (now : Int), .string lab, .string sc, .int .i64 k, .slice si ni ci, .int .u64 (hh : Int), .int .u64 (to : Int), .int .u64 (rid : Int), .slice sn nn cn] 43)).alloc (.cells #[.int .i64 0, .int .u64 0, .slice none 0 0, .slice none 0 0] 36)).alloc (.cells #[.pointer (some ⟨C, 0, none⟩), .pointer (some ⟨b, 0, none⟩), .int .u64 (id : Int)] 66)).heap.size = w.heap.size + 1 + 1 + 1 + 1 := by simp
  rw [hz4] at h1 h2 h3 h4 h5 h6 h7 hlk
  have r1 := (f4.to b1).rules
  have r2 := (f4.to b2).rules
  have r3 := (f4.to b3).rules
  have r5 := (f4.to b5).rules
  have r6 := (f4.to b6).rules
  have r7 := (f4.to b7).rules
  have f8 := f4.to b8
  have bl8 := bl4.trans (b8.mono bl4.size)
  have r8 := f8.rules
  have r3' := f3.rules
  simp only [Rules, World.size_alloc] at r1 r2 r3 r5 r6 r7 r8 r3'
  have hmm := @run_makeMap Tryz.prog
  have hmf : ∀ (fn : Fn) (first cap : Array Value) (w : World), (Instr.makeFunc fn first cap).run Tryz.prog w = .ok (.func fn first cap) w := fun _ _ _ _ => rfl
  have hE : ∀ (args : Array Value) (w : World), (callFunc 16 args).run Tryz.prog w = .ok (.enter 16 args) w := enters_of Tryz.func16 (by kernel_rfl) rfl
  have hmay : mayB 3 2 = true := by decide
  have HM' := Lib.hid HM
  have HZ := Lib.hid hz4
  have HB8 := Lib.hid (And.intro bl8 b8)
  clear hn hv hb hl hC oI oT hI hT hCb bl3 bl4 f4 b1 b2 b3 b5 b6 b7 b8 hD HM hz4 bl8 f3
  go_enter Tryz.func8, Tryz.ntmps8
  go_wp2_with fail
  refine (colNone_any _ _).mono ?_
  rintro e w0 ⟨rfl, hw0⟩
  subst hw0
  go_wp2_with fail
  refine HF.out.mono ?_
  rintro e w0 ⟨rfl, hw0⟩
  subst hw0
  clear HF
  go_wp2_with fail
  refine (may_any 3 2 _).mono ?_
  rintro e w9 ⟨rfl, hb9⟩
  have f9 := f8.to hb9
  have HB9 := Lib.hid (HB8.out.1.trans (hb9.mono HB8.out.1.size))
  have hz9 : w.heap.size + 4 ≤ w9.heap.size := by
    have e1 := HB8.out.2.size
    rw [HZ.out] at e1
    have e2 := hb9.size
    omega
  have rl := f9.rules
  simp only [Rules] at rl
  clear f8 r1 r2 r3 r5 r6 r7 r8 r3' h1 h2 h3 h4 h5 h6 h7 hlk HB8 hb9 hmm
  go_wp2_with fail
  refine (HM'.out w9 HB9.out hz9).mono ?_
  rintro e w10 ⟨m, rfl, hR, hf10⟩
  have h6 := (hf10.block _ (blk_lt (f9.blk 1 rfl)) (by simp; omega)).trans (f9.blk 1 rfl)
  have hc6 := blk_cell h6
  have hz6 := blk_free h6
  have hl6 := blk_lt h6
  have HR := Lib.hid (And.intro hR ((FrB.of (S := [b]) HB9.out).trans hf10 (by simp)))
  clear f9 rl hR hf10 HM'
  have g0 := (Fr.start w10 [w.heap.size + 1 + 1]).add h6 (by simp)
  have g1 := g0.set 0 (A := w.heap.size + 1 + 1) rfl (.inl (by simp)) (o := 0) (v := .int .i64 0)
  simp only [setB, List.modify_succ_cons, List.modify_zero_cons, List.setIfInBounds_toArray, List.set_cons_zero, List.set_cons_succ] at g1
  have g2 := g1.set 0 (A := w.heap.size + 1 + 1) rfl (.inl (by simp)) (o := 1) (v := .int .u64 (m : Int))
  simp only [setB, List.modify_succ_cons, List.modify_zero_cons, List.setIfInBounds_toArray, List.set_cons_zero, List.set_cons_succ] at g2
  have g3 := g2.set 0 (A := w.heap.size + 1 + 1) rfl (.inl (by simp)) (o := 2) (v := .slice none 0 0)
  simp only [setB, List.modify_succ_cons, List.modify_zero_cons, List.setIfInBounds_toArray, List.set_cons_zero, List.set_cons_succ] at g3
  have g4 := g3.set 0 (A := w.heap.size + 1 + 1) rfl (.inl (by simp)) (o := 3) (v := .slice none 0 0)
  simp only [setB, List.modify_succ_cons, List.modify_zero_cons, List.setIfInBounds_toArray, List.set_cons_zero, List.set_cons_succ] at g4
  have g5 := (g4.alloc (cs := #[.int .i64 0, .int .u64 (m : Int), .slice none 0 0, .slice none 0 0]) (T := 36)).less _ (List.sublist_cons_self _ _)
  clear h6 g0 g1 g2 g3 g4
  go_wp2_with fail
  generalize ((((w10.setCell ⟨w.heap.size + 1 + 1, 0, none⟩ (.int .i64 0)).setCell ⟨w.heap.size + 1 + 1, 1, none⟩ (.int .u64 (m : Int))).setCell ⟨w.heap.size + 1 + 1, 2, none⟩ (.slice none 0 0)).setCell ⟨w.heap.size + 1 + 1, 3, none⟩ (.slice none 0 0)).alloc (.cells #[.int .i64 0, .int .u64 (m : Int), .slice none 0 0, .slice none 0 0] 36) = wz at *
  have rz := g5.rules
  simp only [Rules] at rz
  exact bodyPost_ret (v := .agg #[.int .i64 0, .int .u64 (m : Int), .slice none 0 0, .slice none 0 0]) (by simp [results, Tryz.results8, go_sem, rz]) rfl ⟨m, w10, rfl, HR.out.1, HR.out.2, g5.fr⟩
end Go.Proofs.YtmgdbfmlnmahpaaGreatDoor
namespace Go.Proofs.YtmgdbfmlnmahpaaGreatDoor
open Go.RowKit Go.Shelf
set_option linter.unusedSimpArgs false
set_option linter.unusedVariables false
set_option maxRecDepth 100000
set_option maxHeartbeats 1000000 in
theorem d_ingest (C b id : Nat) (now hh to rid : Nat) (lab sc : ByteArray) (k : Int) (si : Option Addr) (ni ci : Nat) (sn : Option Addr) (nn cn : Nat) (w : World) (hbw : b < w.heap.size) (R : World → Prop) (RS : ∀ W W', R W → FrB [w.heap.size + 1 + 1] W W' → R W') (c : Nat) (hc : c ≤ 1000000) (HI : ∀ W, Below w.heap.size w W → w.heap.size + 3 ≤ W.heap.size → Calls Tryz.prog 28 #[.pointer (some ⟨b, 0, none⟩), .int .u64 (now : Int), .string lab, .int .i64 k, .slice si ni ci] W fun e w' => e = .returned (.tuple #[.slice none 0 0, .int .i64 0]) ∧ R w' ∧ FrB [b] W w') (HC : ∀ W, R W → Calls Tryz.prog 29 #[.pointer (some ⟨b, 0, none⟩)] W fun e w' => e = .returned (.int .i64 (c : Nat)) ∧ Below W.heap.size W w') (RB : ∀ W W', R W → Below W.heap.size W W' → R W') :
    Calls Tryz.prog 15 #[.agg #[.pointer (some ⟨C, 0, none⟩), .pointer (some ⟨b, 0, none⟩), .int .u64 (id : Int)], .agg #[.int .i64 1, .int .u64 (now : Int), .string lab, .string sc, .int .i64 k, .slice si ni ci, .int .u64 (hh : Int), .int .u64 (to : Int), .int .u64 (rid : Int), .slice sn nn cn]] w fun e w' => e = .returned (.tuple #[.agg #[.int .i64 0, .int .u64 (c : Int), .slice none 0 0, .slice none 0 0], .int .i64 0]) ∧ R w' ∧ FrB [b] w w' := by
  have f3 := ((((Fr.start w [b])).alloc (cs := #[.pointer (some ⟨C, 0, none⟩), .pointer (some ⟨b, 0, none⟩), .int .u64 (id : Int)]) (T := 66)).alloc (cs := #[.int .i64 1, .int .u64 (now : Int), .string lab, .string sc, .int .i64 k, .slice si ni ci, .int .u64 (hh : Int), .int .u64 (to : Int), .int .u64 (rid : Int), .slice sn nn cn]) (T := 43)).alloc (cs := #[.int .i64 0, .int .u64 0, .slice none 0 0, .slice none 0 0]) (T := 36)
  simp only [World.size_alloc] at f3
  have bl3 := (((Below.refl w.heap.size w).alloc (Nat.le_refl _) (.cells #[.pointer (some ⟨C, 0, none⟩), .pointer (some ⟨b, 0, none⟩), .int .u64 (id : Int)] 66)).alloc (by simp) (.cells #[.int .i64 1, .int .u64 (now : Int), .string lab, .string sc, .int .i64 k, .slice si ni ci, .int .u64 (hh : Int), .int .u64 (to : Int), .int .u64 (rid : Int), .slice sn nn cn] 43)).alloc (by simp; omega) (.cells #[.int .i64 0, .int .u64 0, .slice none 0 0, .slice none 0 0] 36)
  have HI' := Lib.hid (HI _ bl3 (by simp))
  have HR := Lib.hid RS
  have HCo := Lib.hid HC
  have HRB := Lib.hid RB
  have hcv : ((c : Int) % 18446744073709551616) = (c : Int) := by omega
  clear HC RB
  have HBL := Lib.hid bl3
  clear HI RS bl3
  go_enter Tryz.func15, Tryz.ntmps15
  go_wp2_with fail
  refine HI'.out.mono ?_
  rintro e w4 ⟨rfl, hR, hf⟩
  have h6 := (hf.block _ (blk_lt (f3.blk 0 rfl)) (by simp; omega)).trans (f3.blk 0 rfl)
  have h2 := (hf.block _ (blk_lt (f3.blk 2 rfl)) (by simp; omega)).trans (f3.blk 2 rfl)
  have hc2 := blk_cell h2
  have hfr := (FrB.of (S := [b]) HBL.out).trans hf (by simp)
  have HHR := Lib.hid (And.intro hR (And.intro hfr h6))
  clear f3 HI' hR hfr hf h2 HBL h6
  go_wp2_with fail
  refine (HCo.out _ HHR.out.1).mono ?_
  rintro e w5 ⟨rfl, hb5⟩
  have hR5 := HRB.out _ _ HHR.out.1 hb5
  have h6 := (hb5.block _ (blk_lt HHR.out.2.2)).trans HHR.out.2.2
  have hfr := HHR.out.2.1.trans (FrB.of (S := []) hb5) (by simp)
  have HR5 := Lib.hid (And.intro hR5 hfr)
  clear hR5 hfr hb5 HCo HRB HHR hc2
  have g0 := (Fr.start w5 [w.heap.size + 1 + 1]).add h6 (by simp)
  have g1 := g0.set 0 (A := w.heap.size + 1 + 1) rfl (.inl (by simp)) (o := 0) (v := .int .i64 0)
  simp only [setB, List.modify_succ_cons, List.modify_zero_cons, List.setIfInBounds_toArray, List.set_cons_zero, List.set_cons_succ] at g1
  have g2 := g1.set 0 (A := w.heap.size + 1 + 1) rfl (.inl (by simp)) (o := 1) (v := .int .u64 (c : Int))
  simp only [setB, List.modify_succ_cons, List.modify_zero_cons, List.setIfInBounds_toArray, List.set_cons_zero, List.set_cons_succ] at g2
  have g3 := g2.set 0 (A := w.heap.size + 1 + 1) rfl (.inl (by simp)) (o := 2) (v := .slice none 0 0)
  simp only [setB, List.modify_succ_cons, List.modify_zero_cons, List.setIfInBounds_toArray, List.set_cons_zero, List.set_cons_succ] at g3
  have g4 := g3.set 0 (A := w.heap.size + 1 + 1) rfl (.inl (by simp)) (o := 3) (v := .slice none 0 0)
  simp only [setB, List.modify_succ_cons, List.modify_zero_cons, List.setIfInBounds_toArray, List.set_cons_zero, List.set_cons_succ] at g4
  have rl6 := (Fr.start w5 [w.heap.size + 1 + 1]).add h6 (by simp) |>.rules
  simp only [Rules] at rl6
  clear h6 g0 g1 g2 g3
  go_wp2_with fail
  generalize ((((w5.setCell ⟨w.heap.size + 1 + 1, 0, none⟩ (.int .i64 0)).setCell ⟨w.heap.size + 1 + 1, 1, none⟩ (.int .u64 (c : Int))).setCell ⟨w.heap.size + 1 + 1, 2, none⟩ (.slice none 0 0)).setCell ⟨w.heap.size + 1 + 1, 3, none⟩ (.slice none 0 0)) = wz at *
  have rz := g4.rules
  simp only [Rules] at rz
  exact bodyPost_ret (v := .tuple #[.agg #[.int .i64 0, .int .u64 (c : Int), .slice none 0 0, .slice none 0 0], .int .i64 0]) (by simp [results, Tryz.results15, go_sem, rz]) rfl ⟨rfl, HR.out _ _ HR5.out.1 g4.fr, HR5.out.2.trans g4.fr (by simp; omega)⟩
set_option maxHeartbeats 1000000 in
theorem d_query (C b id : Nat) (now hh to rid : Nat) (lab sc : ByteArray) (k : Int) (si : Option Addr) (ni ci : Nat) (sn : Option Addr) (nn cn : Nat) (w : World) (hbw : b < w.heap.size) (R : World → Prop) (RS : ∀ W W', R W → FrB [w.heap.size + 1 + 1] W W' → R W') (m : Nat) (HI : ∀ W, Below w.heap.size w W → w.heap.size + 3 ≤ W.heap.size → Calls Tryz.prog 30 #[.pointer (some ⟨b, 0, none⟩), .int .u64 (now : Int), .string sc, .int .i64 k, .int .u64 (hh : Int)] W fun e w' => e = .returned (.tuple #[.int .u64 (m : Nat), .int .i64 0]) ∧ R w' ∧ FrB [b] W w') :
    Calls Tryz.prog 16 #[.agg #[.pointer (some ⟨C, 0, none⟩), .pointer (some ⟨b, 0, none⟩), .int .u64 (id : Int)], .agg #[.int .i64 2, .int .u64 (now : Int), .string lab, .string sc, .int .i64 k, .slice si ni ci, .int .u64 (hh : Int), .int .u64 (to : Int), .int .u64 (rid : Int), .slice sn nn cn]] w fun e w' => e = .returned (.tuple #[.agg #[.int .i64 0, .int .u64 (m : Int), .slice none 0 0, .slice none 0 0], .int .i64 0]) ∧ R w' ∧ FrB [b] w w' := by
  have f3 := ((((Fr.start w [b])).alloc (cs := #[.pointer (some ⟨C, 0, none⟩), .pointer (some ⟨b, 0, none⟩), .int .u64 (id : Int)]) (T := 66)).alloc (cs := #[.int .i64 2, .int .u64 (now : Int), .string lab, .string sc, .int .i64 k, .slice si ni ci, .int .u64 (hh : Int), .int .u64 (to : Int), .int .u64 (rid : Int), .slice sn nn cn]) (T := 43)).alloc (cs := #[.int .i64 0, .int .u64 0, .slice none 0 0, .slice none 0 0]) (T := 36)
  simp only [World.size_alloc] at f3
  have bl3 := (((Below.refl w.heap.size w).alloc (Nat.le_refl _) (.cells #[.pointer (some ⟨C, 0, none⟩), .pointer (some ⟨b, 0, none⟩), .int .u64 (id : Int)] 66)).alloc (by simp) (.cells #[.int .i64 2, .int .u64 (now : Int), .string lab, .string sc, .int .i64 k, .slice si ni ci, .int .u64 (hh : Int), .int .u64 (to : Int), .int .u64 (rid : Int), .slice sn nn cn] 43)).alloc (by simp; omega) (.cells #[.int .i64 0, .int .u64 0, .slice none 0 0, .slice none 0 0] 36)
  have HI' := Lib.hid (HI _ bl3 (by simp))
  have HR := Lib.hid RS
  skip
  have HBL := Lib.hid bl3
  clear HI RS bl3
  go_enter Tryz.func16, Tryz.ntmps16
  go_wp2_with fail
  refine HI'.out.mono ?_
  rintro e w4 ⟨rfl, hR, hf⟩
  have h6 := (hf.block _ (blk_lt (f3.blk 0 rfl)) (by simp; omega)).trans (f3.blk 0 rfl)
  have h2 := (hf.block _ (blk_lt (f3.blk 2 rfl)) (by simp; omega)).trans (f3.blk 2 rfl)
  have hc2 := blk_cell h2
  have hfr := (FrB.of (S := [b]) HBL.out).trans hf (by simp)
  have HR5 := Lib.hid (And.intro hR hfr)
  clear f3 HI' hR hfr hf h2 HBL
  have g0 := (Fr.start w4 [w.heap.size + 1 + 1]).add h6 (by simp)
  have g1 := g0.set 0 (A := w.heap.size + 1 + 1) rfl (.inl (by simp)) (o := 0) (v := .int .i64 0)
  simp only [setB, List.modify_succ_cons, List.modify_zero_cons, List.setIfInBounds_toArray, List.set_cons_zero, List.set_cons_succ] at g1
  have g2 := g1.set 0 (A := w.heap.size + 1 + 1) rfl (.inl (by simp)) (o := 1) (v := .int .u64 (m : Int))
  simp only [setB, List.modify_succ_cons, List.modify_zero_cons, List.setIfInBounds_toArray, List.set_cons_zero, List.set_cons_succ] at g2
  have g3 := g2.set 0 (A := w.heap.size + 1 + 1) rfl (.inl (by simp)) (o := 2) (v := .slice none 0 0)
  simp only [setB, List.modify_succ_cons, List.modify_zero_cons, List.setIfInBounds_toArray, List.set_cons_zero, List.set_cons_succ] at g3
  have g4 := g3.set 0 (A := w.heap.size + 1 + 1) rfl (.inl (by simp)) (o := 3) (v := .slice none 0 0)
  simp only [setB, List.modify_succ_cons, List.modify_zero_cons, List.setIfInBounds_toArray, List.set_cons_zero, List.set_cons_succ] at g4
  have rl6 := (Fr.start w4 [w.heap.size + 1 + 1]).add h6 (by simp) |>.rules
  simp only [Rules] at rl6
  clear h6 g0 g1 g2 g3
  go_wp2_with fail
  generalize ((((w4.setCell ⟨w.heap.size + 1 + 1, 0, none⟩ (.int .i64 0)).setCell ⟨w.heap.size + 1 + 1, 1, none⟩ (.int .u64 (m : Int))).setCell ⟨w.heap.size + 1 + 1, 2, none⟩ (.slice none 0 0)).setCell ⟨w.heap.size + 1 + 1, 3, none⟩ (.slice none 0 0)) = wz at *
  have rz := g4.rules
  simp only [Rules] at rz
  exact bodyPost_ret (v := .tuple #[.agg #[.int .i64 0, .int .u64 (m : Int), .slice none 0 0, .slice none 0 0], .int .i64 0]) (by simp [results, Tryz.results16, go_sem, rz]) rfl ⟨rfl, HR.out _ _ HR5.out.1 g4.fr, HR5.out.2.trans g4.fr (by simp; omega)⟩
end Go.Proofs.YtmgdbfmlnmahpaaGreatDoor
