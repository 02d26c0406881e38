/- A part of the proof of TopCounts. -/
import Derived.Test.YtmgdbfmlnmahpaaGreatDoorProg
import Derived.Laws.IdiomStrings
import Derived.WalkKit
import Derived.OwnWalk
import Derived.Below
import Derived.Lib.SmallJoins
import Derived.Laws.OwnMore
import Derived.Test.YtmgdbfmlnmahpaaGreatDoorG23
import Derived.Test.YtmgdbfmlnmahpaaGreatDoorG24
import Derived.Test.YtmgdbfmlnmahpaaGreatDoorG25
namespace Go.Proofs.YtmgdbfmlnmahpaaGreatDoor
open Go.RowKit
theorem conv_list {P : Program} (W : World) (src dst e : TypeId) (hs : P.underlying src = some (.slice e)) (he : P.underlying e = some (.int .u8)) (hd : P.underlying dst = some .string) (ns : List Int) (g cap : Nat) (hg : g = W.heap.size) :
    (convert src dst (.slice (some ⟨g, 0, none⟩) ns.length cap)).run P (W.alloc (.cells (ns.map (Value.int .u8)).toArray e)) = .ok (.string (ns.foldl (fun r n => r.push (UInt8.ofNat n.toNat)) ByteArray.empty)) (W.alloc (.cells (ns.map (Value.int .u8)).toArray e)) := by
  subst hg
  rw [run_convert_bytes_string _ src dst e (some ⟨W.heap.size, 0, none⟩) ns.length cap hs he hd]
  have hl := run_loadCells_list (P := P) (W.alloc (.cells (ns.map (Value.int .u8)).toArray e)) ⟨W.heap.size, 0, none⟩ (ns.map (Value.int .u8)) (fun j v hj => by
    have e : (⟨W.heap.size, 0, none⟩ : Addr).add j = ⟨W.heap.size, j, none⟩ := by rw [Addr.add_lit, Nat.zero_add]
    rw [e, World.cell?_alloc_new, List.getElem?_toArray, hj])
  rw [List.length_map] at hl
  rw [run_bytesToString _ _ _ cap _ hl]
@[go_sem] theorem conv1 (W : World) (g : Nat) (x : Int) (hg : g = W.heap.size) :
    (convert 117 9 (.slice (some ⟨g, 0, none⟩) 1 1)).run Tryz.prog (W.alloc (.cells #[.int .u8 x] 5)) = .ok (.string ⟨#[UInt8.ofNat x.toNat]⟩) (W.alloc (.cells #[.int .u8 x] 5)) :=
  conv_list (P := Tryz.prog) W 117 9 5 Tryz.underlying117 Tryz.underlying5 Tryz.underlying9 [x] g 1 hg
@[go_sem] theorem conv2 (W : World) (g : Nat) (x y : Int) (hg : g = W.heap.size) :
    (convert 117 9 (.slice (some ⟨g, 0, none⟩) 2 2)).run Tryz.prog (W.alloc (.cells #[.int .u8 x, .int .u8 y] 5)) = .ok (.string ⟨#[UInt8.ofNat x.toNat, UInt8.ofNat y.toNat]⟩) (W.alloc (.cells #[.int .u8 x, .int .u8 y] 5)) :=
  conv_list (P := Tryz.prog) W 117 9 5 Tryz.underlying117 Tryz.underlying5 Tryz.underlying9 [x, y] g 2 hg
@[go_sem] theorem conv3 (W : World) (g : Nat) (x y z : Int) (hg : g = W.heap.size) :
    (convert 117 9 (.slice (some ⟨g, 0, none⟩) 3 3)).run Tryz.prog (W.alloc (.cells #[.int .u8 x, .int .u8 y, .int .u8 z] 5)) = .ok (.string ⟨#[UInt8.ofNat x.toNat, UInt8.ofNat y.toNat, UInt8.ofNat z.toNat]⟩) (W.alloc (.cells #[.int .u8 x, .int .u8 y, .int .u8 z] 5)) :=
  conv_list (P := Tryz.prog) W 117 9 5 Tryz.underlying117 Tryz.underlying5 Tryz.underlying9 [x, y, z] g 3 hg
end Go.Proofs.YtmgdbfmlnmahpaaGreatDoor
namespace Go.Proofs.YtmgdbfmlnmahpaaGreatDoor
open Go.RowKit
theorem infoU8 : (Tryz.prog.info? 5).map (fun i => (i.zero, i.size, i.bytes)) = some (some (.int .u8 0), 1, 1) := by kernel_rfl
theorem append_bytes {ops : Array Oper} {rest : List Oper} {o : Oper} {a : Act} {Q : Exit → Act → World → Prop} {W : World} (hgd : o.guard = none) (s x : Operand)
    (ho : o.op = .call { callee := .builtin .append, args := #[s, x], argTypes := #[117, 117] }) (B : Nat) (v : Value) (n : Nat) (xs : List Value) (hs : a.eval s = v) (hown : W.ownsRow B 5 1 v n xs)
    (ns : List Int) (hx : a.eval x = .slice (some ⟨W.heap.size, 0, none⟩) ns.length ns.length) (hn : n + ns.length ≤ 1000000) (hB : B ≤ W.heap.size)
    (h : ∀ v' w', w'.ownsRow B 5 1 v' (n + ns.length) (xs ++ ns.map (Value.int .u8)) → Below B W w' → wpList Tryz.prog ops Q rest (a.put o.dst v') w') :
    wpList Tryz.prog ops Q (o :: rest) a (W.alloc (.cells (ns.map (Value.int .u8)).toArray 5)) := by
  obtain ⟨i0, hi, hz0, hz1, hz2⟩ := info_parts infoU8
  refine wpList_append_own _ hgd s x 117 ho B 5 i0 (.int .u8 0) 1 1 Tryz.underlying117 hi hz0 hz1 hz2 rfl (by decide) v n xs hs (hown.alloc _) ⟨W.heap.size, 0, none⟩ ns.length ns.length (ns.map (Value.int .u8)) hx (by simp) ?_ ?_ (by unfold maxLen; omega) (by omega) (by simp; omega) ?_
  · intro j u hj
    rw [Addr.add_lit, Nat.zero_add, World.cell?_alloc_new, List.getElem?_toArray, hj]
  · intro u hu
    obtain ⟨m, _, rfl⟩ := List.mem_map.1 hu
    rfl
  · intro v' w' hown' hg _
    exact h v' w' hown' (((Below.refl B W).alloc hB _).grown hg (by simp; omega) (fun k e => by
      have := hown.lt k e
      exact this.1))
theorem append1 {ops : Array Oper} {rest : List Oper} {o : Oper} {a : Act} {Q : Exit → Act → World → Prop} {W : World} (hgd : o.guard = none) (s x : Operand)
    (ho : o.op = .call { callee := .builtin .append, args := #[s, x], argTypes := #[117, 117] }) (B : Nat) (v : Value) (n : Nat) (xs : List Value) (y : Int) (hs : a.eval s = v) (hown : W.ownsRow B 5 1 v n xs)
    (g : Nat) (hg : g = W.heap.size) (hx : a.eval x = .slice (some ⟨g, 0, none⟩) 1 1) (hn : n + 1 ≤ 1000000) (hB : B ≤ W.heap.size)
    (h : ∀ v' w', w'.ownsRow B 5 1 v' (n + 1) (xs ++ [.int .u8 y]) → Below B W w' → wpList Tryz.prog ops Q rest (a.put o.dst v') w') :
    wpList Tryz.prog ops Q (o :: rest) a (W.alloc (.cells #[.int .u8 y] 5)) :=
  append_bytes hgd s x ho B v n xs hs hown [y] (hg ▸ hx) hn hB h
theorem append3 {ops : Array Oper} {rest : List Oper} {o : Oper} {a : Act} {Q : Exit → Act → World → Prop} {W : World} (hgd : o.guard = none) (s x : Operand)
    (ho : o.op = .call { callee := .builtin .append, args := #[s, x], argTypes := #[117, 117] }) (B : Nat) (v : Value) (n : Nat) (xs : List Value) (y z u : Int) (hs : a.eval s = v) (hown : W.ownsRow B 5 1 v n xs)
    (g : Nat) (hg : g = W.heap.size) (hx : a.eval x = .slice (some ⟨g, 0, none⟩) 3 3) (hn : n + 3 ≤ 1000000) (hB : B ≤ W.heap.size)
    (h : ∀ v' w', w'.ownsRow B 5 1 v' (n + 3) (xs ++ [.int .u8 y, .int .u8 z, .int .u8 u]) → Below B W w' → wpList Tryz.prog ops Q rest (a.put o.dst v') w') :
    wpList Tryz.prog ops Q (o :: rest) a (W.alloc (.cells #[.int .u8 y, .int .u8 z, .int .u8 u] 5)) :=
  append_bytes hgd s x ho B v n xs hs hown [y, z, u] (hg ▸ hx) hn hB h
theorem conv_own {W : World} {B n : Nat} {v : Value} {ns : List Int} (hown : W.ownsRow B 5 1 v n (ns.map (Value.int .u8))) (hn : 0 < n) :
    (convert 117 9 v).run Tryz.prog W = .ok (.string ⟨(ns.map fun m => UInt8.ofNat m.toNat).toArray⟩) W := by
  obtain ⟨g, cap, rfl⟩ := Joins.ownsRow_form hown hn
  have hl : ns.length = n := by have := hown.1; simpa using this
  rw [run_convert_bytes_string _ 117 9 5 (some ⟨g, 0, none⟩) n cap Tryz.underlying117 Tryz.underlying5 Tryz.underlying9]
  have h1 := run_loadCells_list (P := Tryz.prog) W ⟨g, 0, none⟩ (ns.map (Value.int .u8)) (fun j u hj => by
    rw [Addr.add_lit, Nat.zero_add]
    have hj' : j < n := by have := (List.getElem?_eq_some_iff.1 hj).1; simp at this; omega
    rw [hown.cellAt j (by omega), hj])
  rw [List.length_map, hl] at h1
  rw [run_bytesToString _ _ _ cap _ h1]
  congr 2
  have : ∀ (l : List Int) (r : ByteArray), l.foldl (fun r n => r.push (UInt8.ofNat n.toNat)) r = ⟨r.data ++ (l.map fun m => UInt8.ofNat m.toNat).toArray⟩ := by
    intro l
    induction l with
    | nil => intro r; simp
    | cons m l ih => intro r; rw [List.foldl_cons, ih]; simp [ByteArray.push]
  rw [this]
  have he0 : ByteArray.empty.data = #[] := rfl
  rw [he0]
  simp
end Go.Proofs.YtmgdbfmlnmahpaaGreatDoor
namespace Go.Proofs.YtmgdbfmlnmahpaaGreatDoor
open Go.RowKit Go.Shelf
set_option linter.unusedSimpArgs false
set_option linter.unusedVariables false
set_option maxRecDepth 100000
def encStr (s : ByteArray) : List Value := [.string s]
theorem encStr_len (s : ByteArray) : (encStr s).length = 1 := rfl
theorem encStr_one (s : ByteArray) : ∀ v ∈ encStr s, v.oneCell' = true := by intro v hv; simp [encStr] at hv; subst hv; rfl
theorem appendRune0 (w : World) : Calls Tryz.prog 198 #[.slice none 0 0, .int .i32 120] w fun e w' => ∃ v', e = .returned v' ∧ w'.ownsRow w.heap.size 5 1 v' 1 [.int .u8 120] ∧ Below w.heap.size w w' := by
  go_enter Tryz.func198, Tryz.ntmps198
  go_wp2_with (at_builtin; refine append1 rfl (.tmp 8) (.tmp 11) rfl w.heap.size (.slice none 0 0) 0 [] 120 rfl (World.ownsRow_nil _ _ _ _) w.heap.size rfl rfl (by omega) (Nat.le_refl _) ?_; intro v' w' hown hb)
  go_ret
  exact ⟨v', rfl, hown, hb⟩
set_option maxHeartbeats 1000000 in
theorem writeRune0 (b : Nat) (w : World) (h : w.heap[b]? = some (.cells #[.pointer none, .slice none 0 0] 286 (0, 0))) :
    Calls Tryz.prog 163 #[.pointer (some ⟨b, 0, none⟩), .int .i32 120] w fun e w' => e = .returned (.tuple #[.int .i64 1, .nilIface]) ∧ ∃ v, w'.heap[b]? = some (.cells #[.pointer (some ⟨b, 0, none⟩), v] 286 (0, 0)) ∧ w'.ownsRow w.heap.size 5 1 v 1 [.int .u8 120] ∧ w.grownBy w' (some b) := by
  have hc := blk_cell h
  have hf := blk_free h
  have hl := blk_lt h
  have hsh : w.shape? b = some (286, 2) := by simp [World.shape?, h]
  go_enter Tryz.func163, Tryz.ntmps163
  go_wp2_with (go_at_call 181; refine (copyCheck_fresh b w (hc 0) hsh (hf 0)).mono ?_)
  rintro e w1 ⟨rfl, hw1⟩
  have hB1 := blk_set h 0 (.pointer (some ⟨b, 0, none⟩))
  have hg1 := grownBy_setOne w b 0 (.pointer (some ⟨b, 0, none⟩))
  rw [← hw1] at hB1 hg1
  simp only [List.setIfInBounds_toArray, List.set_cons_zero] at hB1
  have hz1 : w1.heap.size = w.heap.size := by rw [hw1]; simp [World.setCell]
  have HZ1 := Lib.hid hz1
  clear hc hf hl hsh hw1 hz1
  have hc := blk_cell hB1
  have hf := blk_free hB1
  have hl := blk_lt hB1
  have HB1 := Lib.hid hB1
  clear hB1
  go_wp2_with fail
  refine (appendRune0 _).mono ?_
  rintro e w2 ⟨v, rfl, hown, hb2⟩
  obtain ⟨s, cap, rfl⟩ : ∃ s cap, v = .slice s 1 cap := by
    rcases hown.2 with ⟨hv, h0⟩ | ⟨g, cap, cur, hv, _⟩
    · cases h0
    · exact ⟨_, _, hv⟩
  have hB2 := (hb2.block b hl).trans HB1.out
  have HO := Lib.hid hown
  have HB2 := Lib.hid hB2
  clear hc hf hown
  have hc := blk_cell hB2
  have hf := blk_free hB2
  have hl2 := blk_lt hB2
  clear hB2
  go_wp2_with fail
  go_ret2
  refine ⟨rfl, .slice s 1 cap, blk_set HB2.out 1 _, ?_, grownBy_then hg1 (grownBy_then (grownBy_ofBelow hb2 _) (grownBy_setOne _ _ _ _))⟩
  have := ownsRow_setCell_below HO.out (a := ⟨b, 1, none⟩) hl (.slice s 1 cap)
  rw [HZ1.out] at this
  exact this
set_option maxHeartbeats 1000000 in
theorem quoted_x (w : World) : Calls Tryz.prog 121 #[.string ⟨#[120]⟩] w fun e w' => e = .returned (.string ⟨#[120]⟩) ∧ Below w.heap.size w w' := by
  have hB := World.alloc_heap_new w (.cells #[.pointer none, .slice none 0 0] 286)
  go_enter Tryz.func121, Tryz.ntmps121
  go_wp2_with fail
  have hz1 : (w.alloc (.cells #[.pointer none, .slice none 0 0] 286)).heap.size = w.heap.size + 1 := by simp
  have hb1 := (Below.refl w.heap.size w).alloc (Nat.le_refl _) (.cells #[.pointer none, .slice none 0 0] 286)
  have HZ1 := Lib.hid hz1
  clear hz1
  generalize w.alloc (.cells #[.pointer none, .slice none 0 0] 286) = w1 at *
  have hal := (Below.refl w1.heap.size w1).alloc (Nat.le_refl _) (.stringIter ⟨#[120]⟩ 0)
  have hI : (w1.iter ⟨#[120]⟩ 0).heap[w1.heap.size]? = some (.stringIter ⟨#[120]⟩ 0) := World.iter_heap _ _ _
  have hB2 := (hal.block _ (blk_lt hB)).trans hB
  have hb2 := hb1.trans (hal.mono hb1.size)
  change (w1.iter ⟨#[120]⟩ 0).heap[w.heap.size]? = _ at hB2
  change Below w.heap.size w (w1.iter ⟨#[120]⟩ 0) at hb2
  rw [HZ1.out] at hI
  have hk : w.heap.size < w.heap.size + 1 := Nat.lt_succ_self _
  clear hal hB hb1 HZ1
  generalize w1.iter ⟨#[120]⟩ 0 = w2 at *
  generalize w.heap.size + 1 = k at *
  have hn := Lib.run_next_ascii_at (P := Tryz.prog) w2 k ⟨#[120]⟩ 0 0 hI (by decide) (by decide)
  change (Instr.next _ true 0).run Tryz.prog w2 = .ok (.tuple #[.bool true, .int .i64 0, .int .i32 120]) (w2.iterAt k ⟨#[120]⟩ 1) at hn
  have hI3 := Lib.iterAt_heap w2 k ⟨#[120]⟩ 0 1 hI
  have hB3 := (Lib.iterAt_other w2 k w.heap.size ⟨#[120]⟩ 1 (by omega)).trans hB2
  have hb3 := Lib.below_iterAt hb2 (Nat.le_of_lt hk) ⟨#[120]⟩ 1
  have HI3 := Lib.hid hI3
  have HB3 := Lib.hid hB3
  clear hI hB2 hb2 hI3 hB3
  refine wp_loop_rounds 2 ?_
  rw [rounds_succ]
  go_wp2_with fail
  generalize w2.iterAt k ⟨#[120]⟩ 1 = w3 at *
  clear hn
  refine (writeRune0 _ _ HB3.out).mono ?_
  rintro e w4 ⟨rfl, v, hB4, hown, hg4⟩
  have hI4 := (hg4.block k (blk_lt HI3.out) (by intro e; cases e; omega)).trans HI3.out
  have hb4 := below_of_grown hb3 (Nat.le_refl _) hg4 (Nat.le_refl _)
  have hlt := blk_lt HB3.out
  have hn := Lib.run_next_end_at (P := Tryz.prog) w4 k ⟨#[120]⟩ 1 0 hI4 (by decide)
  have HBd : Hid (Lib.IsBuilder 286 5 w.heap.size w.heap.size (Lib.byteCells [120]) w4) := by
    refine .inr ⟨Nat.le_refl _, v, hB4, ownsRow_base hown (Nat.le_of_lt hlt), fun e => ?_⟩
    have := (hown.lt _ e).1
    omega
  clear hI4 hB4 hown hg4 hlt HB3 HI3
  go_wp2_with fail
  rw [rounds_succ]
  go_wp2_with fail
  refine (Tryz.Builder_String _ _ [120] _ HBd.out (by decide)).mono ?_
  rintro e w5 ⟨rfl, hb5⟩
  clear hn
  go_wp2_with fail
  go_ret
  exact ⟨rfl, hb4.trans hb5⟩
def StTx2 (w : World) (s : Option Addr) (cap b b4 : Nat) (pre : List Lab) (W : World) : Prop :=
  ∃ d : Hd, RdH 1 encStr W d (pre.map fun _ => (⟨#[97, 61, 120]⟩ : ByteArray)) ∧ Fresh b d ∧ St w [(b, #[.slice s 1 cap], 161), (b4, #[d.v pre.length], 49)] (fun _ => True) W
end Go.Proofs.YtmgdbfmlnmahpaaGreatDoor
