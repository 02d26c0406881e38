/- A part of the proof of TopCounts. -/
import Derived.Test.YtmgdbfmlnmahpaaGreatDoorG03
import Derived.Test.YtmgdbfmlnmahpaaGreatDoorG26
import Derived.Maps.Own
import Derived.Lib.Hide
namespace Go.Proofs.YtmgdbfmlnmahpaaGreatDoor
open Go.RowKit
set_option linter.unusedSimpArgs false
theorem isRole_yes (r : Int) (h1 : 1 ≤ r) (h3 : r ≤ 3) (w : World) :
    Calls Tryz.prog 39 #[.int .i64 r] w fun e w' => e = .returned (.bool true) ∧ w' = w := by
  go_enter Tryz.func39, Tryz.ntmps39
  go_wp2
  go_ret
  exact ⟨rfl, rfl⟩
theorem isRole_no (r : Int) (h : r < 1 ∨ 3 < r) (w : World) :
    Calls Tryz.prog 39 #[.int .i64 r] w fun e w' => e = .returned (.bool false) ∧ w' = w := by
  rcases h with h | h
  · go_enter Tryz.func39, Tryz.ntmps39
    go_wp2
    go_ret
    exact ⟨rfl, rfl⟩
  · have h1 : 1 ≤ r := by omega
    go_enter Tryz.func39, Tryz.ntmps39
    go_wp2
    go_ret
    exact ⟨by simp; omega, rfl⟩
def mayB (r op : Int) : Bool := (r == 1 && (op == 1 || op == 7)) || (r == 2 && (op == 2 || op == 3 || op == 6 || op == 7)) || (r == 3 && (decide (1 ≤ op) && decide (op ≤ 7)))
abbrev arr1 : Value := .agg #[.int .i64 0, .int .i64 1, .int .i64 0, .int .i64 0, .int .i64 0, .int .i64 0, .int .i64 0, .int .i64 1]
abbrev arr2 : Value := .agg #[.int .i64 0, .int .i64 0, .int .i64 1, .int .i64 1, .int .i64 0, .int .i64 0, .int .i64 1, .int .i64 1]
abbrev arr3 : Value := .agg #[.int .i64 0, .int .i64 1, .int .i64 1, .int .i64 1, .int .i64 1, .int .i64 1, .int .i64 1, .int .i64 1]
def arrOf (r : Nat) : Value := if r = 1 then arr1 else if r = 2 then arr2 else arr3
abbrev heldElem : Value → Option (DataW Value × List MemPlace) := fun v => some (.held v, [])
theorem mayKeyed : Maps.Keyed Tryz.prog 3 := Maps.int_keyed Tryz.underlying3
theorem mayMap : Tryz.prog.underlying 114 = some (.map 3 113) := Tryz.underlying114
theorem mayZero (w : World) : (zeroValue 113).run Tryz.prog w = .ok (.agg #[.int .i64 0, .int .i64 0, .int .i64 0, .int .i64 0, .int .i64 0, .int .i64 0, .int .i64 0, .int .i64 0]) w := by kernel_rfl
theorem keyOne (n : Int) (h0 : 1 ≤ n) (h3 : n ≤ 3) : keyOf Tryz.prog 3 (.int .i64 n) = some (.int .i64 n) := Maps.keyOf_int_mk Tryz.underlying3 (by
  rcases (show n = 1 ∨ n = 2 ∨ n = 3 by omega) with rfl | rfl | rfl <;> decide)
theorem atRole (r : Nat) (h1 : 1 ≤ r) (h3 : r ≤ 3) (z : DataW Value) :
    ((((DataW.map []).put (.int .i64 1) (.held arr1)).put (.int .i64 2) (.held arr2)).put (.int .i64 3) (.held arr3)).atKey (.int .i64 r) z = .held (arrOf r) := by
  rcases (show r = 1 ∨ r = 2 ∨ r = 3 by omega) with rfl | rfl | rfl <;> kernel_rfl
theorem made (w : World) : ∃ w1 w2 w3, (Instr.mapUpdate 114 (.map (some w.heap.size)) (.int .i64 1) arr1).run Tryz.prog (w.alloc (.map #[] 0)) = .ok () w1 ∧
    (Instr.mapUpdate 114 (.map (some w.heap.size)) (.int .i64 2) arr2).run Tryz.prog w1 = .ok () w2 ∧ (Instr.mapUpdate 114 (.map (some w.heap.size)) (.int .i64 3) arr3).run Tryz.prog w2 = .ok () w3 ∧
    (∀ r : Nat, 1 ≤ r → r ≤ 3 → (Instr.lookup 114 (.map (some w.heap.size)) (.int .i64 r) false).run Tryz.prog w3 = .ok (arrOf r) w3) ∧ Below w.heap.size w w3 := by
  have o0 := World.ownsMap_made w Tryz.prog 3 heldElem
  obtain ⟨w1, h1, o1, g1⟩ := o0.update mayKeyed mayMap (by unfold maxLen; omega) (keyOne 1 (by decide) (by decide)) (val := arr1) (d := .held arr1) (ps := []) rfl
  obtain ⟨w2, h2, o2, g2⟩ := o1.update mayKeyed mayMap (by unfold maxLen; omega) (keyOne 2 (by decide) (by decide)) (val := arr2) (d := .held arr2) (ps := []) rfl
  obtain ⟨w3, h3, o3, g3⟩ := o2.update mayKeyed mayMap (by unfold maxLen; omega) (keyOne 3 (by decide) (by decide)) (val := arr3) (d := .held arr3) (ps := []) rfl
  refine ⟨w1, w2, w3, h1, h2, h3, fun r r1 r3 => ?_, ?_⟩
  · obtain ⟨v, ps, hrun, hv⟩ := o3.lookup mayKeyed mayMap (mayZero _) (zp := []) rfl (keyOne r (by omega) (by omega))
    rw [atRole r r1 r3] at hv
    simp only [heldElem, Option.some.injEq, Prod.mk.injEq, DataW.held.injEq] at hv
    rw [hrun, hv.1]
  · have b0 : Below w.heap.size w (w.alloc (.map #[] 0)) := (Below.refl _ _).alloc (Nat.le_refl _) _
    have b1 := b0.grown g1 b0.size (fun k e => by cases e; exact Nat.le_refl _)
    have b2 := b1.grown g2 b1.size (fun k e => by cases e; exact Nat.le_refl _)
    exact b2.grown g3 b2.size (fun k e => by cases e; exact Nat.le_refl _)
theorem atOp (r : Nat) (op : Int) (h1 : 1 ≤ r) (h3 : r ≤ 3) (o1 : 1 ≤ op) (o7 : op ≤ 7) (w : World) :
    (Instr.index 113 (arrOf r) (.int .i64 op)).run Tryz.prog w = .ok (.int .i64 (if mayB r op then 1 else 0)) w := by
  rcases (show op = 1 ∨ op = 2 ∨ op = 3 ∨ op = 4 ∨ op = 5 ∨ op = 6 ∨ op = 7 by omega) with rfl | rfl | rfl | rfl | rfl | rfl | rfl <;>
  rcases (show r = 1 ∨ r = 2 ∨ r = 3 by omega) with rfl | rfl | rfl <;> kernel_rfl
theorem mayB_bad {r op : Int} (h : r < 1 ∨ 3 < r ∨ op < 1 ∨ 7 < op) : mayB r op = false := by
  unfold mayB
  rw [Bool.eq_false_iff]
  intro h
  simp at h
  omega
set_option maxRecDepth 100000 in
set_option maxHeartbeats 2000000 in
theorem may_any (r op : Int) (w : World) :
    Calls Tryz.prog 22 #[.int .i64 r, .int .i64 op] w fun e w' => e = .returned (.bool (mayB r op)) ∧ Below w.heap.size w w' := by
  by_cases h1 : r < 1 ∨ 3 < r
  · rw [mayB_bad (by omega)]
    go_enter Tryz.func22, Tryz.ntmps22
    go_wp2_with (go_at_call 39; refine (isRole_no r h1 _).mono ?_; rintro e w' ⟨rfl, rfl⟩)
    go_ret
    exact ⟨rfl, Below.refl _ _⟩
  have hr1 : 1 ≤ r := by omega
  have hr3 : r ≤ 3 := by omega
  clear h1
  by_cases h2 : op < 1
  · rw [mayB_bad (by omega)]
    go_enter Tryz.func22, Tryz.ntmps22
    go_wp2_with (go_at_call 39; refine (isRole_yes r hr1 hr3 _).mono ?_; rintro e w' ⟨rfl, rfl⟩)
    go_ret
    exact ⟨rfl, Below.refl _ _⟩
  by_cases h3 : 7 < op
  · rw [mayB_bad (by omega)]
    go_enter Tryz.func22, Tryz.ntmps22
    go_wp2_with (go_at_call 39; refine (isRole_yes r hr1 hr3 _).mono ?_; rintro e w' ⟨rfl, rfl⟩)
    go_ret
    exact ⟨rfl, Below.refl _ _⟩
  obtain ⟨r, rfl⟩ := Int.eq_ofNat_of_zero_le (show 0 ≤ r by omega)
  obtain ⟨w1, w2, w3, u1, u2, u3, hl, hb⟩ := made w
  have hl := hl r (by omega) (by omega)
  have hi := atOp r op (by omega) (by omega) (by omega) (by omega)
  have hmm := @run_makeMap Tryz.prog
  have hbb : ((if mayB r op then (1 : Int) else 0) == 1) = mayB r op := by cases mayB r op <;> rfl
  have HB := Lib.hid hbb
  clear hbb
  generalize (if mayB r op then (1 : Int) else 0) = x at *
  generalize mayB r op = m at *
  generalize arrOf r = ar at *
  go_enter Tryz.func22, Tryz.ntmps22
  go_wp2_with (go_at_call 39; refine (isRole_yes r hr1 hr3 _).mono ?_; rintro e w' ⟨rfl, rfl⟩)
  go_ret
  exact ⟨by rw [← HB.out]; rfl, hb⟩
end Go.Proofs.YtmgdbfmlnmahpaaGreatDoor
