/- append of one byte, of three bytes, to a slice of the call's own; and its string. -/
import Derived.Test.YtafabdgkinfceaaDoorConv
import Derived.OwnWalk
import Derived.Below
import Derived.Lib.SmallJoins
import Derived.Laws.OwnMore
namespace Go.Proofs.YtafabdgkinfceaaDoor
open Go.RowKit

theorem infoU8 : (Tryd.prog.info? 5).map (fun i => (i.zero, i.size, i.bytes)) = some (some (.int .u8 0), 1, 1) := by kernel_rfl

theorem append_bytes {ops : Array Oper} {rest : List Oper} {o : Oper} {a : Act} {Q : Exit → Act → World → Prop} {W : World} (hgd : o.guard = none) (s x : Operand)
    (ho : o.op = .call { callee := .builtin .append, args := #[s, x], argTypes := #[32, 32] }) (B : Nat) (v : Value) (n : Nat) (xs : List Value) (hs : a.eval s = v) (hown : W.ownsRow B 5 1 v n xs)
    (ns : List Int) (hx : a.eval x = .slice (some ⟨W.heap.size, 0, none⟩) ns.length ns.length) (hn : n + ns.length ≤ 1000000) (hB : B ≤ W.heap.size)
    (h : ∀ v' w', w'.ownsRow B 5 1 v' (n + ns.length) (xs ++ ns.map (Value.int .u8)) → Below B W w' → wpList Tryd.prog ops Q rest (a.put o.dst v') w') :
    wpList Tryd.prog ops Q (o :: rest) a (W.alloc (.cells (ns.map (Value.int .u8)).toArray 5)) := by
  obtain ⟨i0, hi, hz0, hz1, hz2⟩ := info_parts infoU8
  refine wpList_append_own _ hgd s x 32 ho B 5 i0 (.int .u8 0) 1 1 Tryd.underlying32 hi hz0 hz1 hz2 rfl (by decide) v n xs hs (hown.alloc _) ⟨W.heap.size, 0, none⟩ ns.length ns.length (ns.map (Value.int .u8)) hx (by simp) ?_ ?_ (by unfold maxLen; omega) (by omega) (by simp; omega) ?_
  · intro j u hj
    rw [Addr.add_lit, Nat.zero_add, World.cell?_alloc_new, List.getElem?_toArray, hj]
  · intro u hu
    obtain ⟨m, _, rfl⟩ := List.mem_map.1 hu
    rfl
  · intro v' w' hown' hg _
    exact h v' w' hown' (((Below.refl B W).alloc hB _).grown hg (by simp; omega) (fun k e => by
      have := hown.lt k e
      exact this.1))

theorem append1 {ops : Array Oper} {rest : List Oper} {o : Oper} {a : Act} {Q : Exit → Act → World → Prop} {W : World} (hgd : o.guard = none) (s x : Operand)
    (ho : o.op = .call { callee := .builtin .append, args := #[s, x], argTypes := #[32, 32] }) (B : Nat) (v : Value) (n : Nat) (xs : List Value) (y : Int) (hs : a.eval s = v) (hown : W.ownsRow B 5 1 v n xs)
    (g : Nat) (hg : g = W.heap.size) (hx : a.eval x = .slice (some ⟨g, 0, none⟩) 1 1) (hn : n + 1 ≤ 1000000) (hB : B ≤ W.heap.size)
    (h : ∀ v' w', w'.ownsRow B 5 1 v' (n + 1) (xs ++ [.int .u8 y]) → Below B W w' → wpList Tryd.prog ops Q rest (a.put o.dst v') w') :
    wpList Tryd.prog ops Q (o :: rest) a (W.alloc (.cells #[.int .u8 y] 5)) :=
  append_bytes hgd s x ho B v n xs hs hown [y] (hg ▸ hx) hn hB h
theorem append3 {ops : Array Oper} {rest : List Oper} {o : Oper} {a : Act} {Q : Exit → Act → World → Prop} {W : World} (hgd : o.guard = none) (s x : Operand)
    (ho : o.op = .call { callee := .builtin .append, args := #[s, x], argTypes := #[32, 32] }) (B : Nat) (v : Value) (n : Nat) (xs : List Value) (y z u : Int) (hs : a.eval s = v) (hown : W.ownsRow B 5 1 v n xs)
    (g : Nat) (hg : g = W.heap.size) (hx : a.eval x = .slice (some ⟨g, 0, none⟩) 3 3) (hn : n + 3 ≤ 1000000) (hB : B ≤ W.heap.size)
    (h : ∀ v' w', w'.ownsRow B 5 1 v' (n + 3) (xs ++ [.int .u8 y, .int .u8 z, .int .u8 u]) → Below B W w' → wpList Tryd.prog ops Q rest (a.put o.dst v') w') :
    wpList Tryd.prog ops Q (o :: rest) a (W.alloc (.cells #[.int .u8 y, .int .u8 z, .int .u8 u] 5)) :=
  append_bytes hgd s x ho B v n xs hs hown [y, z, u] (hg ▸ hx) hn hB h

/-- string(b), b a slice of the call's own -/
theorem conv_own {W : World} {B n : Nat} {v : Value} {ns : List Int} (hown : W.ownsRow B 5 1 v n (ns.map (Value.int .u8))) (hn : 0 < n) :
    (convert 32 9 v).run Tryd.prog W = .ok (.string ⟨(ns.map fun m => UInt8.ofNat m.toNat).toArray⟩) W := by
  obtain ⟨g, cap, rfl⟩ := Joins.ownsRow_form hown hn
  have hl : ns.length = n := by have := hown.1; simpa using this
  rw [run_convert_bytes_string _ 32 9 5 (some ⟨g, 0, none⟩) n cap Tryd.underlying32 Tryd.underlying5 Tryd.underlying9]
  have h1 := run_loadCells_list (P := Tryd.prog) W ⟨g, 0, none⟩ (ns.map (Value.int .u8)) (fun j u hj => by
    rw [Addr.add_lit, Nat.zero_add]
    have hj' : j < n := by have := (List.getElem?_eq_some_iff.1 hj).1; simp at this; omega
    rw [hown.cellAt j (by omega), hj])
  rw [List.length_map, hl] at h1
  rw [run_bytesToString _ _ _ cap _ h1]
  congr 2
  have : ∀ (l : List Int) (r : ByteArray), l.foldl (fun r n => r.push (UInt8.ofNat n.toNat)) r = ⟨r.data ++ (l.map fun m => UInt8.ofNat m.toNat).toArray⟩ := by
    intro l
    induction l with
    | nil => intro r; simp
    | cons m l ih => intro r; rw [List.foldl_cons, ih]; simp [ByteArray.push]
  rw [this]
  have he0 : ByteArray.empty.data = #[] := rfl
  rw [he0]
  simp
end Go.Proofs.YtafabdgkinfceaaDoor
