/- The state of a walk: the blocks of the call's own, and facts that later steps keep; regions and calls under it. -/
import Derived.Test.YtafabdgkinfceaaDoorSpec2
namespace Go.Proofs.YtafabdgkinfceaaDoor
open Go.RowKit

/-- a block: its number, its cells, its type -/
abbrev Blk := Nat × Array Value × TypeId

theorem blk_cell {w : World} {b : Nat} {cs : Array Value} {T : TypeId} (h : w.heap[b]? = some (.cells cs T (0, 0))) (o : Nat) : w.cell? ⟨b, o, none⟩ = cs[o]? := by
  simp [World.cell?, h]
theorem blk_free {w : World} {b : Nat} {cs : Array Value} {T : TypeId} (h : w.heap[b]? = some (.cells cs T (0, 0))) (o : Nat) : w.frozen? ⟨b, o, none⟩ = false := by
  simp [World.frozen?, h]
theorem blk_lt {w : World} {b : Nat} {o : Obj} (h : w.heap[b]? = some o) : b < w.heap.size := (Array.getElem?_eq_some_iff.1 h).1

/-- what is known in w of a call that began in w0 -/
structure St (w0 : World) (bl : List Blk) (E : World → Prop) (w : World) : Prop where
  below : Below w0.heap.size w0 w
  blk : ∀ x ∈ bl, w.heap[x.1]? = some (.cells x.2.1 x.2.2 (0, 0))
  nd : bl.Pairwise (fun x y => x.1 ≠ y.1)
  ex : E w
  keep : ∀ W W', E W → Below W.heap.size W W' → E W'

theorem St.start (w : World) : St w [] (fun _ => True) w := ⟨Below.refl _ _, by simp, List.Pairwise.nil, trivial, fun _ _ _ _ => trivial⟩
theorem St.startE {w : World} {E : World → Prop} (h : E w) (k : ∀ W W', E W → Below W.heap.size W W' → E W') : St w [] E w := ⟨Below.refl _ _, by simp, List.Pairwise.nil, h, k⟩
theorem St.to {w0 : World} {bl : List Blk} {E : World → Prop} {w w' : World} (h : St w0 bl E w) (hb : Below w.heap.size w w') : St w0 bl E w' :=
  ⟨h.below.trans (hb.mono h.below.size), fun x hx => (hb.block _ (blk_lt (h.blk x hx))).trans (h.blk x hx), h.nd, h.keep _ _ h.ex hb, h.keep⟩
theorem St.alloc {w0 : World} {bl : List Blk} {E : World → Prop} {w : World} (h : St w0 bl E w) {cs : Array Value} {T : TypeId} : St w0 ((w.heap.size, cs, T) :: bl) E (w.alloc (.cells cs T)) := by
  have h' := h.to ((Below.refl _ _).alloc (Nat.le_refl _) (.cells cs T))
  refine ⟨h'.below, ?_, ?_, h'.ex, h'.keep⟩
  · intro x hx
    rcases List.mem_cons.1 hx with rfl | hx
    · exact World.alloc_heap_new w _
    · exact h'.blk x hx
  · refine List.Pairwise.cons ?_ h.nd
    intro x hx e
    have := blk_lt (h.blk x hx)
    simp only at e
    omega
theorem St.drew {w0 : World} {bl : List Blk} {E : World → Prop} {w : World} (h : St w0 bl E w) : St w0 bl E w.drew := h.to (Below.refl _ _).drew
theorem St.drewN {w0 : World} {bl : List Blk} {E : World → Prop} {w : World} (h : St w0 bl E w) {n : Nat} : St w0 bl E (w.drewN n) := h.to ⟨rfl, rfl, rfl, Nat.le_refl _, fun _ _ => rfl⟩
theorem St.also {w0 : World} {bl : List Blk} {E F : World → Prop} {w : World} (h : St w0 bl E w) (hF : F w) (k : ∀ W W', F W → Below W.heap.size W W' → F W') : St w0 bl (fun W => E W ∧ F W) w :=
  ⟨h.below, h.blk, h.nd, ⟨h.ex, hF⟩, fun _ _ e hb => ⟨h.keep _ _ e.1 hb, k _ _ e.2 hb⟩⟩
theorem St.less {w0 : World} {bl : List Blk} {E : World → Prop} {w : World} (h : St w0 bl E w) (bl' : List Blk) (hs : bl'.Sublist bl) : St w0 bl' E w :=
  ⟨h.below, fun x hx => h.blk x (hs.subset hx), h.nd.sublist hs, h.ex, h.keep⟩
theorem St.lessE {w0 : World} {bl : List Blk} {E F : World → Prop} {w : World} (h : St w0 bl E w) (hF : F w) (k : ∀ W W', F W → Below W.heap.size W W' → F W') : St w0 bl F w :=
  ⟨h.below, h.blk, h.nd, hF, k⟩
theorem blk_set {w : World} {b : Nat} {cs : Array Value} {T : TypeId} (h : w.heap[b]? = some (.cells cs T (0, 0))) (o : Nat) (v : Value) : (w.setCell ⟨b, o, none⟩ v).heap[b]? = some (.cells (cs.setIfInBounds o v) T (0, 0)) := by
  have hlt := blk_lt h
  have h' : w.heap[b] = .cells cs T (0, 0) := by simpa [Array.getElem?_eq_getElem hlt] using h
  show (w.heap.modify b _)[b]? = _
  rw [Array.getElem?_eq_getElem (by simpa using hlt), Array.getElem_modify_self, h']
  rfl
/-- one cell of one block written -/
def setB (bl : List Blk) (i o : Nat) (v : Value) : List Blk := bl.modify i fun x => (x.1, x.2.1.setIfInBounds o v, x.2.2)
theorem St.set {w0 : World} {bl : List Blk} {E : World → Prop} {w : World} (h : St w0 bl E w) (i : Nat) {A : Nat} {cs : Array Value} {T : TypeId} (hi : bl[i]? = some (A, cs, T)) (hA : w0.heap.size ≤ A) {o : Nat} {v : Value}
    (hE : E w → E (w.setCell ⟨A, o, none⟩ v)) : St w0 (setB bl i o v) E (w.setCell ⟨A, o, none⟩ v) := by
  have hil : i < bl.length := (List.getElem?_eq_some_iff.1 hi).1
  have hmem : ∀ j x, (setB bl i o v)[j]? = some x → ∃ y, bl[j]? = some y ∧ x.1 = y.1 ∧ x = (if i = j then (y.1, y.2.1.setIfInBounds o v, y.2.2) else y) := by
    intro j x hx
    unfold setB at hx
    rw [List.getElem?_modify] at hx
    cases hy : bl[j]? with
    | none => simp [hy] at hx
    | some y =>
      rw [hy] at hx
      have hx' : (if i = j then (y.1, y.2.1.setIfInBounds o v, y.2.2) else y) = x := by
        split at hx <;> simp_all
      refine ⟨y, rfl, ?_, hx'.symm⟩
      rw [← hx']
      split <;> rfl
  refine ⟨h.below.setCell hA _, ?_, ?_, hE h.ex, h.keep⟩
  · intro x hx
    obtain ⟨j, hj⟩ := List.mem_iff_getElem?.1 hx
    obtain ⟨y, hy, h1, h2⟩ := hmem j x hj
    by_cases e : i = j
    · subst e
      obtain rfl : (A, cs, T) = y := Option.some.inj (hi.symm.trans hy)
      rw [if_pos rfl] at h2
      subst h2
      exact blk_set (h.blk _ (List.mem_of_getElem? hi)) o v
    · rw [if_neg e] at h2
      subst h2
      have hne : x.1 ≠ A := by
        intro e'
        have hjl : j < bl.length := (List.getElem?_eq_some_iff.1 hy).1
        have hp := List.pairwise_iff_getElem.1 h.nd
        have ei : bl[i] = (A, cs, T) := by simpa [List.getElem?_eq_getElem hil] using hi
        have ej : bl[j] = x := by simpa [List.getElem?_eq_getElem hjl] using hy
        rcases Nat.lt_or_gt_of_ne e with hlt | hlt
        · exact hp i j hil hjl hlt (by rw [ei, ej]; exact e'.symm)
        · exact hp j i hjl hil hlt (by rw [ei, ej]; exact e')
      exact (Below.heap_setCell w ⟨A, o, none⟩ v x.1 hne).trans (h.blk x (List.mem_of_getElem? hy))
  · rw [List.pairwise_iff_getElem]
    intro j k hj hk hjk
    obtain ⟨y, hy, h1, _⟩ := hmem j _ (List.getElem?_eq_getElem hj)
    obtain ⟨z, hz, h3, _⟩ := hmem k _ (List.getElem?_eq_getElem hk)
    rw [h1, h3]
    have hjl : j < bl.length := (List.getElem?_eq_some_iff.1 hy).1
    have hkl : k < bl.length := (List.getElem?_eq_some_iff.1 hz).1
    have := List.pairwise_iff_getElem.1 h.nd j k hjl hkl hjk
    have ey : bl[j] = y := by simpa [List.getElem?_eq_getElem hjl] using hy
    have ez : bl[k] = z := by simpa [List.getElem?_eq_getElem hkl] using hz
    rwa [ey, ez] at this
theorem St.setT {w0 : World} {bl : List Blk} {w : World} (h : St w0 bl (fun _ => True) w) (i : Nat) {A : Nat} {cs : Array Value} {T : TypeId} (hi : bl[i]? = some (A, cs, T)) (hA : w0.heap.size ≤ A) {o : Nat} {v : Value} :
    St w0 (setB bl i o v) (fun _ => True) (w.setCell ⟨A, o, none⟩ v) := h.set i hi hA fun _ => trivial
/-- behind a law that ends in 'grownBy' -/
theorem St.grown {w0 : World} {bl : List Blk} {w w' : World} {row : Option Nat} (h : St w0 bl (fun _ => True) w) (hg : w.grownBy w' row) (hr : ∀ k, row = some k → w0.heap.size ≤ k ∧ ∀ x ∈ bl, x.1 < k) : St w0 bl (fun _ => True) w' :=
  ⟨h.below.grown hg h.below.size (fun k hk => (hr k hk).1), fun x hx => (hg.block _ (blk_lt (h.blk x hx)) (fun e => by have := (hr _ e.symm).2 x hx; omega)).trans (h.blk x hx), h.nd, trivial, fun _ _ _ _ => trivial⟩
/-- .. the row having been begun in wB -/
theorem St.grownB {w0 : World} {bl bl' : List Blk} {E : World → Prop} {w w' wB : World} {e : TypeId} {size : Nat} {v : Value} {n : Nat} {xs : List Value} (h : St w0 bl (fun _ => True) w) (hB : St w0 bl' E wB) (hown : w.ownsRow wB.heap.size e size v n xs) (hg : w.grownBy w' v.ownBlock) (hs : ∀ x ∈ bl, x ∈ bl' := by exact fun _ h => h) : St w0 bl (fun _ => True) w' :=
  h.grown hg fun k hk => by
    have h1 := (hown.lt k hk).1
    exact ⟨Nat.le_trans hB.below.size h1, fun x hx => Nat.lt_of_lt_of_le (blk_lt (hB.blk x (hs x hx))) h1⟩
theorem ownsRow_base {w : World} {B B' : Nat} {e : TypeId} {size : Nat} {v : Value} {n : Nat} {xs : List Value} (h : w.ownsRow B e size v n xs) (hb : B' ≤ B) : w.ownsRow B' e size v n xs := by
  refine ⟨h.1, ?_⟩
  rcases h.2 with hn | ⟨g, cap, cur, h1, h2, h3⟩
  · exact .inl hn
  · exact .inr ⟨g, cap, cur, h1, Nat.le_trans hb h2, h3⟩
theorem ownsRow_keep {B : Nat} {e : TypeId} {size : Nat} {v : Value} {n : Nat} {xs : List Value} : ∀ W W' : World, W.ownsRow B e size v n xs → Below W.heap.size W W' → W'.ownsRow B e size v n xs := by
  intro W W' h hb
  refine ⟨h.1, ?_⟩
  rcases h.2 with hn | ⟨g, cap, cur, h1, h2, h3, h4⟩
  · exact .inl hn
  · exact .inr ⟨g, cap, cur, h1, h2, (hb.block g (blk_lt h3)).trans h3, h4⟩

/-- a new block, made since -/
theorem St.addNew {w0 : World} {bl : List Blk} {E E' : World → Prop} {w W : World} (hw : St w0 bl E w) (h : St w0 bl E' W) {A : Nat} {cs : Array Value} {T : TypeId} (hA : w.heap.size ≤ A) (hN : W.heap[A]? = some (.cells cs T (0, 0))) : St w0 ((A, cs, T) :: bl) E' W :=
  ⟨h.below, fun x hx => by
    rcases List.mem_cons.1 hx with rfl | hx
    · exact hN
    · exact h.blk x hx, List.Pairwise.cons (fun x hx e => by have := blk_lt (hw.blk x hx); simp only at e; omega) h.nd, h.ex, h.keep⟩

/-- what the blocks are good for in a walk -/
def Rules (w : World) : List Blk → Prop
  | [] => True
  | x :: l => (∀ o, w.cell? ⟨x.1, o, none⟩ = x.2.1[o]?) ∧ (∀ o, w.frozen? ⟨x.1, o, none⟩ = false) ∧ x.1 < w.heap.size ∧ Rules w l
theorem rules_of {w : World} : ∀ (bl : List Blk), (∀ x ∈ bl, w.heap[x.1]? = some (.cells x.2.1 x.2.2 (0, 0))) → Rules w bl
  | [], _ => trivial
  | x :: l, h => ⟨blk_cell (h x (by simp)), blk_free (h x (by simp)), blk_lt (h x (by simp)), rules_of l fun y hy => h y (by simp [hy])⟩
theorem St.rules {w0 : World} {bl : List Blk} {E : World → Prop} {w : World} (h : St w0 bl E w) : Rules w bl := rules_of bl h.blk

@[go_sem] theorem lt_size_add {w : World} {n k : Nat} (h : n < w.heap.size) : (n < w.heap.size + k) = True := eq_true (by omega)
@[go_sem] theorem le_size {w : World} {n : Nat} (h : n < w.heap.size) : (n ≤ w.heap.size) = True := eq_true (by omega)

/-- THE CLASS of the worlds of which this is known -/
structure Cs (w0 : World) (bl : List Blk) (E : World → Prop) where
  W : World
  st : St w0 bl E W

theorem Cs.call {P : Program} {f : FuncId} {args : Array Value} {w0 : World} {bl : List Blk} {E : World → Prop} {x : Cs w0 bl E} {v : Value}
    (h : Calls P f args x.W fun e w' => e = .returned v ∧ Below x.W.heap.size x.W w') : Calls P f args x.W fun e w' => e = .returned v ∧ ∃ y : Cs w0 bl E, w' = y.W :=
  h.mono fun _ w' ⟨he, hb⟩ => ⟨he, ⟨w', x.st.to hb⟩, rfl⟩
theorem Cs.call_same {P : Program} {f : FuncId} {args : Array Value} {w0 : World} {bl : List Blk} {E : World → Prop} {x : Cs w0 bl E} {v : Value}
    (h : Calls P f args x.W fun e w' => e = .returned v ∧ w' = x.W) : Calls P f args x.W fun e w' => e = .returned v ∧ ∃ y : Cs w0 bl E, w' = y.W :=
  h.mono fun _ _ ⟨he, hb⟩ => ⟨he, x, hb⟩
theorem Cs.call_drewN {P : Program} {f : FuncId} {args : Array Value} {w0 : World} {bl : List Blk} {E : World → Prop} {x : Cs w0 bl E} {v : Value}
    (h : Calls P f args x.W fun e w' => e = .returned v ∧ ∃ m, w' = x.W.drewN m) : Calls P f args x.W fun e w' => e = .returned v ∧ ∃ y : Cs w0 bl E, w' = y.W :=
  h.mono fun _ w' ⟨he, m, hb⟩ => ⟨he, ⟨w', by rw [hb]; exact x.st.drewN⟩, rfl⟩
theorem St.cs {w0 : World} {bl : List Blk} {E : World → Prop} {w : World} (_ : St w0 bl E w) : ∀ x : Cs w0 bl E, Rules x.W bl := fun x => x.st.rules
theorem St.csE {w0 : World} {bl : List Blk} {E : World → Prop} {w : World} (_ : St w0 bl E w) : ∀ x : Cs w0 bl E, E x.W := fun x => x.st.ex
theorem St.hide {w0 : World} {bl : List Blk} {E : World → Prop} {w : World} (h : St w0 bl E w) : ∃ bl' E', Nonempty (Cs w0 bl' E') ∧ St w0 bl' E' w ∧ (∀ x : Cs w0 bl' E', Rules x.W bl) ∧ (∀ x : Cs w0 bl' E', Hid (E x.W)) ∧ (∀ x : Cs w0 bl' E', Hid (Below w0.heap.size w0 x.W)) ∧ (∀ x : Cs w0 bl' E', Hid (St w0 bl E x.W)) :=
  ⟨bl, E, ⟨⟨w, h⟩⟩, h, fun x => x.st.rules, fun x => x.st.ex, fun x => x.st.below, fun x => x.st⟩

/-- a call in a walk -/
theorem St.call {P : Program} {f : FuncId} {args : Array Value} {w0 : World} {bl : List Blk} {E : World → Prop} {w : World} {v : Value} (h : St w0 bl E w)
    (hc : Calls P f args w fun e w' => e = .returned v ∧ Below w.heap.size w w') : Calls P f args w fun e w' => e = .returned v ∧ St w0 bl E w' :=
  hc.mono fun _ _ ⟨he, hb⟩ => ⟨he, h.to hb⟩

theorem St.call' {P : Program} {f : FuncId} {args : Array Value} {w0 : World} {bl : List Blk} {E : World → Prop} {w : World} {v : Value} (h : St w0 bl E w)
    (hc : St w0 bl E w → Calls P f args w fun e w' => e = .returned v ∧ Below w.heap.size w w') : Calls P f args w fun e w' => e = .returned v ∧ St w0 bl E w' := h.call (hc h)
theorem St.ne {w0 : World} {bl : List Blk} {E : World → Prop} {w : World} (h : St w0 bl E w) : Nonempty (Cs w0 bl E) := ⟨⟨w, h⟩⟩

/-- a region that draws its order, quiet in the class -/
theorem region_st {P : Program} {id : Nat} {Q : Exit → Act → World → Prop} {a : Act} {w w0 : World} {bl : List Blk} {E : World → Prop} {l : List Oper} (st : St w0 bl E w) (hm : P.follows .mixedOrders = true) (hB : Region.lexB .any l.toArray = true)
    (h : wpQuiet P l.toArray (fun W => ∃ x : Cs w0 bl E, W = x.W) (fun a' => ∀ x : Cs w0 bl E, Q .normal a' x.W) l a) : (Code.region id l.toArray true).wp P Q a w :=
  region_quiet (fun W => ∃ x : Cs w0 bl E, W = x.W) hm hB ⟨⟨w.drew, st.drew⟩, rfl⟩ (by
    have e : (fun a' : Act => ∀ w', (∃ x : Cs w0 bl E, w' = x.W) → Q .normal a' w') = fun a' => ∀ x : Cs w0 bl E, Q .normal a' x.W := by
      funext a'
      exact propext ⟨fun h x => h _ ⟨x, rfl⟩, fun h w' ⟨x, e⟩ => e ▸ h x⟩
    rw [e]; exact h)
theorem region_st_tail {P : Program} {id : Nat} {Q : Exit → Act → World → Prop} {a : Act} {w w0 : World} {bl : List Blk} {E : World → Prop} {l : List Oper} (st : St w0 bl E w) (n : Nat) (hm : P.follows .mixedOrders = true) (hB : Region.lexTailB .any l.toArray n = true)
    (h : wpQuiet P l.toArray (fun W => ∃ x : Cs w0 bl E, W = x.W) (fun a' => ∀ x : Cs w0 bl E, wpList P l.toArray Q (l.drop n) a' x.W) (l.take n) a) : (Code.region id l.toArray true).wp P Q a w :=
  region_quiet_tail (fun W => ∃ x : Cs w0 bl E, W = x.W) n hm hB ⟨⟨w.drew, st.drew⟩, rfl⟩ (by
    have e : (fun a' : Act => ∀ w', (∃ x : Cs w0 bl E, w' = x.W) → wpList P l.toArray Q (l.drop n) a' w') = fun a' => ∀ x : Cs w0 bl E, wpList P l.toArray Q (l.drop n) a' x.W := by
      funext a'
      exact propext ⟨fun h x => h _ ⟨x, rfl⟩, fun h w' ⟨x, e⟩ => e ▸ h x⟩
    rw [e]; exact h)
end Go.Proofs.YtafabdgkinfceaaDoor
