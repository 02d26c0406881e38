/- A row of texts of the call's own; append of one text to it. -/
import Derived.Test.YtafabdgkinfceaaDoorRangeSt
import Derived.Test.YtafabdgkinfceaaDoorOpenStrs
import Derived.Test.YtafabdgkinfceaaDoorSpec2
import Derived.OwnWalk
import Derived.Below
import Derived.Lib.SmallJoins
import Derived.Laws.OwnMore
namespace Go.Proofs.YtafabdgkinfceaaDoor
open Go.RowKit

theorem infoStr : (Tryd.prog.info? 9).map (fun i => (i.zero, i.size, i.bytes)) = some (some (.string ⟨#[]⟩), 1, 16) := by kernel_rfl

/-- the slice is a row of the call's own, and reads as the texts -/
def OwnS (W : World) (B : Nat) (v : Value) (L : List ByteArray) : Prop := W.ownsRow B 9 1 v L.length (L.map Value.string)

theorem OwnS.nil (W : World) (B : Nat) : OwnS W B (.slice none 0 0) [] := ⟨rfl, .inl ⟨rfl, rfl⟩⟩
theorem OwnS.form {W : World} {B : Nat} {v : Value} {L : List ByteArray} (h : OwnS W B v L) : ∃ s cap, v = .slice s L.length cap ∧ L.length ≤ cap ∧ cap ≤ 9223372036854775807 ∧ Strs W s L ∧ (s = none → cap = 0) := by
  rcases h.2 with ⟨hv, hz⟩ | ⟨g, cap, cur, hv, hB, hbk, hcap, hcm, _⟩
  · have e : L = [] := List.eq_nil_of_length_eq_zero hz
    subst e
    exact ⟨none, 0, hv, Nat.le_refl _, by omega, fun i x hx => by simp at hx, fun _ => rfl⟩
  · refine ⟨some ⟨g, 0, none⟩, cap, hv, hcap, by unfold maxLen at hcm; omega, fun i x hx => ?_, fun h => by cases h⟩
    have hi : i < L.length := (List.getElem?_eq_some_iff.1 hx).1
    subst hv
    refine ⟨g, 0, rfl, blk_lt hbk, ?_⟩
    have := World.ownsRow.cellAt (show W.ownsRow B 9 1 (.slice (some ⟨g, 0, none⟩) L.length cap) L.length (L.map Value.string) from h) i (by omega)
    rw [Nat.zero_add, this, List.getElem?_map, hx]
    rfl
theorem OwnS.keep {B : Nat} {v : Value} {L : List ByteArray} : ∀ W W' : World, OwnS W B v L → Below W.heap.size W W' → OwnS W' B v L := fun W W' h hb => ownsRow_keep W W' h hb
theorem OwnS.other {W W' : World} {B R : Nat} {v : Value} {L : List ByteArray} (h : OwnS W B v L) (hg : W.grownBy W' (some R)) (hR : R < B) : OwnS W' B v L :=
  World.ownsRow.kept (row := some R) h hg (.inr (fun e => by
    have := (h.lt R e).1
    omega))

theorem append_str {ops : Array Oper} {rest : List Oper} {o : Oper} {a : Act} {Q : Exit → Act → World → Prop} {w0 W : World} {bl : List Blk} (hgd : o.guard = none) (s x : Operand)
    (ho : o.op = .call { callee := .builtin .append, args := #[s, x], argTypes := #[37, 37] }) (B : Nat) (v : Value) (L : List ByteArray) (y : ByteArray) (hs : a.eval s = v) (st : St w0 bl (fun _ => True) W) (hown : OwnS W B v L)
    (hw : w0.heap.size ≤ B) (hbl : ∀ z ∈ bl, z.1 < B) (hB : B ≤ W.heap.size) (g : Nat) (hg : g = W.heap.size) (hx : a.eval x = .slice (some ⟨g, 0, none⟩) 1 1) (hn : L.length + 1 ≤ 1000000)
    (h : ∀ v' w', St w0 bl (fun _ => True) w' → OwnS w' B v' (L ++ [y]) → W.heap.size ≤ w'.heap.size → wpList Tryd.prog ops Q rest (a.put o.dst v') w') :
    wpList Tryd.prog ops Q (o :: rest) a (W.alloc (.cells #[.string y] 9)) := by
  obtain ⟨i0, hi, hz0, hz1, hz2⟩ := info_parts infoStr
  subst hg
  refine wpList_append_own _ hgd s x 37 ho B 9 i0 (.string ⟨#[]⟩) 1 16 Tryd.underlying37 hi hz0 hz1 hz2 rfl (by decide) v L.length (L.map Value.string) hs (World.ownsRow.alloc hown _) ⟨W.heap.size, 0, none⟩ 1 1 [.string y] hx (by simp) ?_ ?_ (by unfold maxLen; omega) (by omega) (by simp; omega) ?_
  · intro j u hj
    rw [Addr.add_lit, Nat.zero_add, blk_cell (World.alloc_heap_new W _), List.getElem?_toArray, hj]
  · intro u hu
    obtain rfl := List.mem_singleton.1 hu
    rfl
  · intro v' w' hown' hgr _
    have sta := st.to ((Below.refl _ _).alloc (Nat.le_refl _) (.cells #[.string y] 9))
    refine h v' w' (sta.grown hgr fun k hk => ?_) ?_ ?_
    · have := (hown.lt k hk).1
      exact ⟨by omega, fun z hz => by have := hbl z hz; omega⟩
    · unfold OwnS
      rw [List.length_append, List.map_append]
      exact hown'
    · have := hgr.size
      simp at this
      omega

theorem append_strR {ops : Array Oper} {rest : List Oper} {o : Oper} {a : Act} {Q : Exit → Act → World → Prop} {w0 W : World} {bl : List Blk} (hgd : o.guard = none) (s x : Operand)
    (ho : o.op = .call { callee := .builtin .append, args := #[s, x], argTypes := #[37, 37] }) (B : Nat) (v : Value) (L : List ByteArray) (y : ByteArray) (hs : a.eval s = v) (st : St w0 bl (fun _ => True) W) (hown : OwnS W B v L)
    (hw : w0.heap.size ≤ B) (hbl : ∀ z ∈ bl, z.1 < B) (hB : B ≤ W.heap.size) (g : Nat) (hg : W.heap[g]? = some (.cells #[.string y] 9 (0, 0))) (hx : a.eval x = .slice (some ⟨g, 0, none⟩) 1 1) (hn : L.length + 1 ≤ 1000000)
    (h : ∀ v' w', St w0 bl (fun _ => True) w' → OwnS w' B v' (L ++ [y]) → W.heap.size ≤ w'.heap.size → wpList Tryd.prog ops Q rest (a.put o.dst v') w') :
    wpList Tryd.prog ops Q (o :: rest) a W := by
  obtain ⟨i0, hi, hz0, hz1, hz2⟩ := info_parts infoStr
  refine wpList_append_own _ hgd s x 37 ho B 9 i0 (.string ⟨#[]⟩) 1 16 Tryd.underlying37 hi hz0 hz1 hz2 rfl (by decide) v L.length (L.map Value.string) hs hown ⟨g, 0, none⟩ 1 1 [.string y] hx (by simp) ?_ ?_ (by unfold maxLen; omega) (by omega) hB ?_
  · intro j u hj
    rw [Addr.add_lit, Nat.zero_add, blk_cell hg, List.getElem?_toArray, hj]
  · intro u hu
    obtain rfl := List.mem_singleton.1 hu
    rfl
  · intro v' w' hown' hgr _
    refine h v' w' (st.grown hgr fun k hk => ?_) ?_ hgr.size
    · have := (hown.lt k hk).1
      exact ⟨by omega, fun z hz => by have := hbl z hz; omega⟩
    · unfold OwnS
      rw [List.length_append, List.map_append]
      exact hown'
/-- the value is a new row of one text -/
def IsRow1 (y : ByteArray) : Value → World → Prop := fun v W => ∃ g, v = .slice (some ⟨g, 0, none⟩) 1 1 ∧ W.heap[g]? = some (.cells #[.string y] 9 (0, 0))
theorem stableRow1 (y : ByteArray) : Stable (IsRow1 y) := fun _ _ _ ⟨g, h1, h2⟩ hb => ⟨g, h1, (hb.block g (blk_lt h2)).trans h2⟩
theorem opOk_row1 {P : Program} {W : World} {y : ByteArray} : OpOk P W (IsRow1 y) (.ok (.value (.slice (some ⟨W.heap.size, 0, none⟩) 1 1)) (W.alloc (.cells #[.string y] 9))) :=
  ⟨(Below.refl _ _).alloc (Nat.le_refl _) _, _, rfl, World.alloc_heap_new W _⟩

end Go.Proofs.YtafabdgkinfceaaDoor
