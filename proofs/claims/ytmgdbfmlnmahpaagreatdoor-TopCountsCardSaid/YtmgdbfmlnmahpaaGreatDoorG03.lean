/- A part of the proof of TopCounts. -/
import Derived.StillTail
import Derived.StillTailTactics
import Derived.Deep.QuietTactic
import Derived.BigQuiet
import Derived.Below
import Derived.RangeFuncBox
import Derived.OwnWalk
import Derived.OwnWalkIn
import Derived.ArgAppend
import Derived.Laws.OwnMore
import Derived.Laws.AppendOwnNone
import Derived.Laws.CopyOwn
import Derived.Laws.MakeOwn
namespace Go.Proofs.YtmgdbfmlnmahpaaGreatDoor
open Go.RowKit
section
variable {P : Program} {ops : Array Oper} {md : Region.Mode} {C : World → Prop}
def wpAnyLQ (P : Program) (md : Region.Mode) (ops : Array Oper) (C : World → Prop) (n : Nat) (L : Array Bool → Act → Prop) : Nat → Array Bool → Act → Prop
  | 0, listed, a => L listed a
  | f + 1, listed, a =>
    Region.ready md ops listed ≠ [] ∧ ∀ i ∈ Region.ready md ops listed, i < n ∧ qOp P ops C i (wpAnyLQ P md ops C n L f (listed.setIfInBounds i true)) a
theorem wpAny_of_headQ {n g : Nat} {L : Array Bool → Act → Prop} {Q' : Exit → Act → World → Prop} (hL : ∀ listed a w, C w → L listed a → wpAny P md ops Q' g listed a w) :
    ∀ (f : Nat) (listed : Array Bool) (a : Act) (w : World), C w → wpAnyLQ P md ops C n L f listed a → wpAny P md ops Q' (f + g) listed a w
  | 0, listed, a, w, hw, h => by rw [Nat.zero_add]; exact hL _ _ _ hw h
  | f + 1, listed, a, w, hw, h => by
    rw [show f + 1 + g = (f + g) + 1 by omega]
    exact ⟨fun h0 => absurd h0 h.1, fun i hi => wpOp_of_qOp hw (fun a' w' hw' h' => wpAny_of_headQ hL f _ a' w' hw' h') (h.2 i hi).2⟩
theorem wpAnyLQ_first {n i : Nat} {oi : Oper} {v : Value} {L : Array Bool → Act → Prop} (hi : ops[i]? = some oi) (hsel : ∀ (j : Nat) (o : Oper) cs b, ops[j]? = some o → o.op ≠ .select cs b)
    (hs : Region.sinkB md ops n = true) (hc : Region.chainB md ops n = true) (hn : n < ops.size) (hin : i < n)
    (hdone : ∀ listed a, L listed a → ∀ j ∈ Region.ready md ops listed, n ≤ j) :
    ∀ (f : Nat) (listed : Array Bool) (a : Act), HeadInv md ops n listed →
      (∀ j oj, ops[j]? = some oj → j ≠ i → listed.getD j true = false → (∀ e ∈ oj.after, Region.binds md e = true → e.on ≠ i) → oi.apart ops oj = true) →
      i ∈ Region.ready md ops listed → YieldsIn P ops C oi v a →
      wpAnyLQ P md ops C n L f (listed.setIfInBounds i true) (a.put oi.dst v) → wpAnyLQ P md ops C n L (f + 1) listed a := by
  intro f
  induction f with
  | zero =>
    intro listed a inv _ hr hy H
    have hun := (mem_ready.1 hr).1
    refine ⟨fun h => (by rw [h] at hr; cases hr), fun j hj => ?_⟩
    have hjn : j < n := by
      rcases Nat.lt_or_ge j n with h | h
      · exact h
      · exact absurd hj (tail_waits hs hc hn inv _ i rfl hin hun j h)
    refine ⟨hjn, ?_⟩
    by_cases hji : j = i
    · subst hji; exact hy.qOp hi H
    · have := hdone _ _ H j (ready_mono hj hji)
      omega
  | succ f ih =>
    intro listed a inv hfree hr hy H
    have hun := (mem_ready.1 hr).1
    refine ⟨fun h => (by rw [h] at hr; cases hr), fun j hj => ?_⟩
    have hjn : j < n := by
      rcases Nat.lt_or_ge j n with h | h
      · exact h
      · exact absurd hj (tail_waits hs hc hn inv _ i rfl hin hun j h)
    refine ⟨hjn, ?_⟩
    by_cases hji : j = i
    · subst hji; exact hy.qOp hi H
    · have h1 := (H.2 j (ready_mono hj hji)).2
      obtain ⟨hjun, oj, hoj, hall⟩ := mem_ready.1 hj
      have hnot : ∀ e ∈ oj.after, Region.binds md e = true → e.on ≠ i := fun e he hb heq => by
        have h1 := hall e he hb
        rw [heq, getD_both hun] at h1
        cases h1
      have h2 := qOp_put hoj (hfree j oj hoj hji hjun hnot) (fun cs b => hsel i oi cs b hi) (fun cs b => hsel j oj cs b hoj) hy h1
      have hfree' : ∀ k ok, ops[k]? = some ok → k ≠ i → (listed.setIfInBounds j true).getD k true = false →
          (∀ e ∈ ok.after, Region.binds md e = true → e.on ≠ i) → oi.apart ops ok = true := fun k ok hk hki hun hno => by
        refine hfree k ok hk hki ?_ hno
        by_cases hjk : j = k
        · subst hjk; exact hjun
        · rw [getD_set_ne true hjk] at hun; exact hun
      refine qOp_mono (fun a' h3 => ih (listed.setIfInBounds j true) a' (inv.set hj hjn) hfree' (ready_mono hr (Ne.symm hji)) h3.1 ?_) h2
      rw [Array.setIfInBounds_comm _ _ hji]
      exact h3.2
theorem wpAnyLQ_lex {n g : Nat} {Lq : Act → Prop} (hsel : Region.noSelect ops = true) (hs : Region.sinkB md ops n = true) (hc : Region.chainB md ops n = true) (hn : n < ops.size) :
    ∀ (l : List Oper) (k : Nat) (listed : Array Bool) (a : Act), (∀ j, j < l.length → l[j]? = ops[k + j]?) → k + l.length = n → HeadInv md ops n listed →
    Region.lexHead md ops g l.length k listed = true → wpQuiet P ops C Lq l a →
    wpAnyLQ P md ops C n (fun listed' a' => Region.seqB md ops g n listed' = true ∧ Lq a') l.length listed a
  | [], k, listed, a, _, hk, _, hB, h => by
    have : k = n := by simpa using hk
    subst this
    exact ⟨by simpa [Region.lexHead] using hB, h⟩
  | o :: l, k, listed, a, hl, hk, inv, hB, h => by
    have h0 : ops[k]? = some o := by simpa using (hl 0 (by simp)).symm
    simp only [List.length_cons, Region.lexHead, Bool.and_eq_true] at hB
    obtain ⟨⟨hr, hf⟩, hB'⟩ := hB
    have hkn : k < n := by simp only [List.length_cons] at hk; omega
    have hr' : k ∈ Region.ready md ops listed := by simpa using hr
    have hst : qOp P ops C k (wpQuiet P ops C Lq l) a := by unfold qOp; simp only [h0]; exact h
    obtain ⟨v, hy, hK⟩ := yieldsIn_of_qOp h0 hst
    exact wpAnyLQ_first h0 (Region.noSelect_spec hsel) hs hc hn hkn (fun listed' a' hL => seqB_ready hL.1) l.length listed a inv (Region.free_spec h0 hf) hr' hy
      (wpAnyLQ_lex hsel hs hc hn l (k + 1) _ _ (fun j hj => by have := hl (j + 1) (by simp; omega); simpa [Nat.add_assoc, Nat.add_comm 1 j] using this) (by simp only [List.length_cons] at hk; omega) (inv.set hr' hkn) hB' hK)
theorem region_quiet_tail {id : Nat} {Q : Exit → Act → World → Prop} {a : Act} {w : World} {l : List Oper} (C : World → Prop) (n : Nat) (hm : P.follows .mixedOrders = true) (hB : Region.lexTailB .any l.toArray n = true) (hC : C w.drew)
    (h : wpQuiet P l.toArray C (fun a' => ∀ w', C w' → wpList P l.toArray Q (l.drop n) a' w') (l.take n) a) : (Code.region id l.toArray true).wp P Q a w := by
  simp only [Region.lexTailB, Bool.and_eq_true, decide_eq_true_eq] at hB
  obtain ⟨⟨⟨⟨hsel, hn⟩, hs⟩, hc⟩, hlex⟩ := hB
  have hn' : n < l.length := by simpa using hn
  have htl : (l.take n).length = n := by simp; omega
  have hdl : (l.drop n).length = l.toArray.size - n := by simp
  have inv0 : HeadInv .any l.toArray n (Array.replicate l.toArray.size false) :=
    ⟨by simp, fun j oj _ hl => (by rw [getD_replicate_false] at hl; cases hl), fun t _ ht => getD_in (by simpa using ht) (getD_replicate_false _ _)⟩
  have H := wpAnyLQ_lex (md := .any) (g := l.toArray.size - n) hsel hs hc hn (l.take n) 0 _ a (fun j hj => by
    have hj' : j < n := by rw [htl] at hj; exact hj
    simp [hj']) (by simpa using htl) inv0 (by rw [htl]; exact hlex) h
  refine wp_region_any hm ?_
  have := wpAny_of_headQ (Q' := Q) (g := l.toArray.size - n) (fun listed a' w' hw' hL => by
    have := wpAny_of_seq (md := .any) (Q' := Q) (l.drop n) n listed a' w' (fun j => by simp [List.getElem?_drop]) (by rw [hdl]; exact hL.1) (hL.2 w' hw')
    rwa [hdl] at this) _ _ _ w.drew hC H
  rw [htl, show n + (l.toArray.size - n) = l.toArray.size by omega] at this
  exact this
theorem region_quiet {id : Nat} {Q : Exit → Act → World → Prop} {a : Act} {w : World} {l : List Oper} (C : World → Prop) (hm : P.follows .mixedOrders = true) (hB : Region.lexB .any l.toArray = true) (hC : C w.drew)
    (h : wpQuiet P l.toArray C (fun a' => ∀ w', C w' → Q .normal a' w') l a) : (Code.region id l.toArray true).wp P Q a w :=
  wp_region_quiet (C := C) hm hB hC (by simpa using h)
end
theorem region_drewN_tail {P : Program} {id : Nat} {Q : Exit → Act → World → Prop} {a : Act} {w : World} {k : Nat} {l : List Oper} (n : Nat) (hm : P.follows .mixedOrders = true) (hB : Region.lexTailB .any l.toArray n = true)
    (h : wpQuiet P l.toArray (fun W => ∃ m, W = w.drewN m) (fun a' => ∀ m, wpList P l.toArray Q (l.drop n) a' (w.drewN m)) (l.take n) a) : (Code.region id l.toArray true).wp P Q a (w.drewN k) :=
  region_quiet_tail (fun W => ∃ m, W = w.drewN m) n hm hB ⟨k + 1, rfl⟩ (by
    have e : (fun a' : Act => ∀ w', (∃ m, w' = w.drewN m) → wpList P l.toArray Q (l.drop n) a' w') = fun a' => ∀ m, wpList P l.toArray Q (l.drop n) a' (w.drewN m) := by
      funext a'
      exact propext ⟨fun h m => h _ ⟨m, rfl⟩, fun h w' ⟨m, e⟩ => e ▸ h m⟩
    rw [e]; exact h)
theorem region_drew_tail {P : Program} {id : Nat} {Q : Exit → Act → World → Prop} {a : Act} {w : World} {l : List Oper} (n : Nat) (hm : P.follows .mixedOrders = true) (hB : Region.lexTailB .any l.toArray n = true)
    (h : wpQuiet P l.toArray (fun W => ∃ m, W = w.drewN m) (fun a' => ∀ m, wpList P l.toArray Q (l.drop n) a' (w.drewN m)) (l.take n) a) : (Code.region id l.toArray true).wp P Q a w :=
  region_drewN_tail (k := 0) n hm hB h
theorem ret_int {k : IntKind} {a b : Int} (h : a = b) : Ending.returned (.int k a) = .returned (.int k b) := by rw [h]
@[go_sem] theorem setCell_drewN (w : World) (n : Nat) (a : Addr) (v : Value) : (w.drewN n).setCell a v = (w.setCell a v).drewN n := rfl
@[go_sem] theorem alloc_drewN (w : World) (n : Nat) (o : Obj) : (w.drewN n).alloc o = (w.alloc o).drewN n := rfl
structure Cw (w : World) where
  W : World
  below : Below w.heap.size w W
instance (w : World) : Nonempty (Cw w) := ⟨⟨w, Below.refl _ _⟩⟩
theorem Cw.call {P : Program} {f : FuncId} {args : Array Value} {w : World} {x : Cw w} {v : Value}
    (h : Calls P f args x.W fun e w' => e = .returned v ∧ Below x.W.heap.size x.W w') : Calls P f args x.W fun e w' => e = .returned v ∧ ∃ y : Cw w, w' = y.W :=
  h.mono fun _ w' ⟨he, hb⟩ => ⟨he, ⟨w', x.below.trans (hb.mono x.below.size)⟩, rfl⟩
theorem Cw.call_same {P : Program} {f : FuncId} {args : Array Value} {w : World} {x : Cw w} {v : Value}
    (h : Calls P f args x.W fun e w' => e = .returned v ∧ w' = x.W) : Calls P f args x.W fun e w' => e = .returned v ∧ ∃ y : Cw w, w' = y.W :=
  h.mono fun _ _ ⟨he, hb⟩ => ⟨he, x, hb⟩
theorem Cw.call_drewN {P : Program} {f : FuncId} {args : Array Value} {w : World} {x : Cw w} {v : Value}
    (h : Calls P f args x.W fun e w' => e = .returned v ∧ ∃ m, w' = x.W.drewN m) : Calls P f args x.W fun e w' => e = .returned v ∧ ∃ y : Cw w, w' = y.W :=
  h.mono fun _ w' ⟨he, m, hb⟩ => ⟨he, ⟨w', x.below.trans (by rw [hb]; exact ⟨rfl, rfl, rfl, Nat.le_refl _, fun _ _ => rfl⟩)⟩, rfl⟩
theorem Cw.cell {w : World} (b o : Nat) (v : Value) (hb : b < w.heap.size) (h : w.cell? ⟨b, o, none⟩ = some v) : ∀ x : Cw w, x.W.cell? ⟨b, o, none⟩ = some v :=
  fun x => (x.below.cell (p := ⟨b, o, none⟩) hb).trans h
theorem Cw.frozen {w : World} (b o : Nat) (hb : b < w.heap.size) (h : w.frozen? ⟨b, o, none⟩ = false) : ∀ x : Cw w, x.W.frozen? ⟨b, o, none⟩ = false :=
  fun x => (x.below.frozen (p := ⟨b, o, none⟩) hb).trans h
theorem region_cw {P : Program} {id : Nat} {Q : Exit → Act → World → Prop} {a : Act} {w : World} {l : List Oper} (hm : P.follows .mixedOrders = true) (hB : Region.lexB .any l.toArray = true)
    (h : wpQuiet P l.toArray (fun W => ∃ x : Cw w, W = x.W) (fun a' => ∀ x : Cw w, Q .normal a' x.W) l a) : (Code.region id l.toArray true).wp P Q a w :=
  region_quiet (fun W => ∃ x : Cw w, W = x.W) hm hB ⟨⟨w.drew, (Below.refl _ _).drew⟩, rfl⟩ (by
    have e : (fun a' : Act => ∀ w', (∃ x : Cw w, w' = x.W) → Q .normal a' w') = fun a' => ∀ x : Cw w, Q .normal a' x.W := by
      funext a'
      exact propext ⟨fun h x => h _ ⟨x, rfl⟩, fun h w' ⟨x, e⟩ => e ▸ h x⟩
    rw [e]; exact h)
theorem region_cw_tail {P : Program} {id : Nat} {Q : Exit → Act → World → Prop} {a : Act} {w : World} {l : List Oper} (n : Nat) (hm : P.follows .mixedOrders = true) (hB : Region.lexTailB .any l.toArray n = true)
    (h : wpQuiet P l.toArray (fun W => ∃ x : Cw w, W = x.W) (fun a' => ∀ x : Cw w, wpList P l.toArray Q (l.drop n) a' x.W) (l.take n) a) : (Code.region id l.toArray true).wp P Q a w :=
  region_quiet_tail (fun W => ∃ x : Cw w, W = x.W) n hm hB ⟨⟨w.drew, (Below.refl _ _).drew⟩, rfl⟩ (by
    have e : (fun a' : Act => ∀ w', (∃ x : Cw w, w' = x.W) → wpList P l.toArray Q (l.drop n) a' w') = fun a' => ∀ x : Cw w, wpList P l.toArray Q (l.drop n) a' x.W := by
      funext a'
      exact propext ⟨fun h x => h _ ⟨x, rfl⟩, fun h w' ⟨x, e⟩ => e ▸ h x⟩
    rw [e]; exact h)
end Go.Proofs.YtmgdbfmlnmahpaaGreatDoor
namespace Go.Proofs.YtmgdbfmlnmahpaaGreatDoor
open Go.RowKit
def OpOk (P : Program) (W : World) (F : Value → World → Prop) : Result Next → Prop
  | .ok (.value v) W' => Below W.heap.size W W' ∧ F v W'
  | .ok .skip W' => Below W.heap.size W W' ∧ F undef W'
  | .ok (.enter f args) W' => Below W.heap.size W W' ∧ Calls P f args W' fun e W'' => ∃ v, e = .returned v ∧ Below W'.heap.size W' W'' ∧ F v W''
  | _ => False
def StepOk (P : Program) (ops : Array Oper) (o : Oper) (a : Act) (W : World) (F : Value → World → Prop) : Prop :=
  if Region.wanted o (yielded ops a.tmps) then OpOk P W F ((execOp a.eval o).run P W) else F undef W
def dsts (l : List Oper) : List Nat := l.filterMap (·.dst)
def putAll : List Oper → Nat → (Nat → Value) → Act → Act
  | [], _, _, a => a
  | o :: r, j, v, a => putAll r (j + 1) v (a.put o.dst (v j))
def SpecAll (P : Program) (ops : Array Oper) (a₀ : Act) (w : World) (head : List Oper) (F : Nat → Value → World → Prop) : Nat → List Oper → Prop
  | _, [] => True
  | j, o :: r => (∀ (a : Act) (W : World), Below w.heap.size w W →
      (∀ t, t ∉ dsts head → a.tmps.getD t undef = a₀.tmps.getD t undef) →
      (∀ i d, (o.after.any fun e => Region.binds .any e && e.on == i) = true → ((ops[i]?).bind (·.dst)) = some d → F i (a.tmps.getD d undef) W) →
      StepOk P ops o a W (F j)) ∧ SpecAll P ops a₀ w head F (j + 1) r
theorem SpecAll.get {P : Program} {ops : Array Oper} {a₀ : Act} {w : World} {head : List Oper} {F : Nat → Value → World → Prop} : ∀ (l : List Oper) (k j : Nat) (o : Oper), SpecAll P ops a₀ w head F k l → l[j]? = some o →
    ∀ (a : Act) (W : World), Below w.heap.size w W →
      (∀ t, t ∉ dsts head → a.tmps.getD t undef = a₀.tmps.getD t undef) →
      (∀ i d, (o.after.any fun e => Region.binds .any e && e.on == i) = true → ((ops[i]?).bind (·.dst)) = some d → F i (a.tmps.getD d undef) W) →
      StepOk P ops o a W (F (k + j))
  | [], _, _, _, _, h => by simp at h
  | _ :: _, k, 0, o, hs, h => by
    simp only [List.getElem?_cons_zero, Option.some.injEq] at h
    subst h
    exact hs.1
  | _ :: r, k, j + 1, o, hs, h => by
    have := SpecAll.get r (k + 1) j o hs.2 (by simpa using h)
    rw [show k + (j + 1) = k + 1 + j by omega]
    exact this
def headB (ops : Array Oper) (n : Nat) : Bool :=
  decide (n < ops.size) && Region.sinkB .any ops n && Region.chainB .any ops n &&
  ((List.range ops.size).all fun j => match ops[j]? with | some o => o.after.all fun e => !Region.binds .any e || decide (e.on < j) | none => true) &&
  ((ops.toList.take n).all fun o => o.dst.isSome) && decide (dsts (ops.toList.take n)).Nodup &&
  Region.seqB .any ops (ops.size - n) n (Array.replicate n true ++ Array.replicate (ops.size - n) false)
theorem exists_min (p : Nat → Prop) : ∀ j, p j → ∃ k, p k ∧ ∀ i, i < k → ¬ p i := by
  intro j
  induction j using Nat.strongRecOn with
  | _ j ih =>
    intro hj
    by_cases h : ∃ i, i < j ∧ p i
    · obtain ⟨i, hi, hp⟩ := h
      exact ih i hi hp
    · exact ⟨j, hj, fun i hi hp => h ⟨i, hi, hp⟩⟩
theorem putAll_eq : ∀ (r : List Oper) (k : Nat) (v : Nat → Value) (a b : Act), b.tmps.size = a.tmps.size → b.defers = a.defers →
    (∀ t, t ∉ dsts r → a.tmps[t]? = b.tmps[t]?) → (∀ j o, r[j]? = some o → ∃ d, o.dst = some d ∧ v (k + j) = a.tmps.getD d undef) → putAll r k v b = a
  | [], _, _, a, b, hs, hd, ht, _ => by
    obtain ⟨ta, da⟩ := a
    obtain ⟨tb, db⟩ := b
    simp only at hd hs ht
    subst hd
    have : tb = ta := Array.ext_getElem? fun i => (ht i (by simp [dsts])).symm
    subst this
    rfl
  | o :: r, k, v, a, b, hs, hd, ht, hv => by
    obtain ⟨d, ho, hvd⟩ := hv 0 o rfl
    rw [Nat.add_zero] at hvd
    refine putAll_eq r (k + 1) v a (b.put o.dst (v k)) ?_ ?_ ?_ ?_
    · rw [ho]; simpa [Act.put] using hs
    · rw [ho]; exact hd
    · intro t htr
      rw [ho]
      simp only [Act.put, Array.getElem?_setIfInBounds]
      by_cases e : d = t
      · subst e
        by_cases hlt : d < b.tmps.size
        · rw [if_pos rfl, if_pos hlt, hvd, Array.getElem?_eq_getElem (by omega)]
          simp [Array.getD, show d < a.tmps.size by omega]
        · rw [if_pos rfl, if_neg hlt]
          exact Array.getElem?_eq_none (by omega)
      · rw [if_neg e]
        exact ht t (by simp only [dsts, List.filterMap_cons, ho, List.mem_cons]; rintro (h | h); exact e h.symm; exact htr h)
    · intro j o' hj
      have := hv (j + 1) o' (by simpa using hj)
      rwa [show k + (j + 1) = k + 1 + j by omega] at this
section
variable {P : Program} {l : List Oper} {a₀ : Act} {w : World} {F : Nat → Value → World → Prop} {n : Nat} {Q : Exit → Act → World → Prop}
structure SInv (l : List Oper) (a₀ : Act) (w : World) (F : Nat → Value → World → Prop) (n : Nat) (listed : Array Bool) (a : Act) (W : World) : Prop where
  head : HeadInv .any l.toArray n listed
  below : Below w.heap.size w W
  tsize : a.tmps.size = a₀.tmps.size
  defers : a.defers = a₀.defers
  rest : ∀ t, t ∉ dsts (l.take n) → a.tmps[t]? = a₀.tmps[t]?
  facts : ∀ j o d, j < n → listed.getD j false = true → l[j]? = some o → o.dst = some d → F j (a.tmps.getD d undef) W
theorem mem_dsts {r : List Oper} {j : Nat} {o : Oper} {d : Nat} (h : r[j]? = some o) (hd : o.dst = some d) : d ∈ dsts r :=
  List.mem_filterMap.2 ⟨o, List.mem_of_getElem? h, hd⟩
theorem dsts_apart {r : List Oper} (hnd : (dsts r).Nodup) : ∀ {i j : Nat} {oi oj : Oper} {d : Nat}, r[i]? = some oi → r[j]? = some oj → oi.dst = some d → oj.dst = some d → i = j := by
  induction r with
  | nil => intro i j oi oj d hi; simp at hi
  | cons o r ih =>
    intro i j oi oj d hi hj hdi hdj
    have hnd' : (dsts r).Nodup := by
      unfold dsts at hnd ⊢
      rw [List.filterMap_cons] at hnd
      split at hnd
      · exact hnd
      · exact (List.nodup_cons.1 hnd).2
    cases i with
    | zero =>
      cases j with
      | zero => rfl
      | succ j =>
        simp only [List.getElem?_cons_zero, Option.some.injEq] at hi
        subst hi
        have hm := mem_dsts (r := r) (by simpa using hj) hdj
        unfold dsts at hnd
        rw [List.filterMap_cons, hdi] at hnd
        exact absurd hm (List.nodup_cons.1 hnd).1
    | succ i =>
      cases j with
      | zero =>
        simp only [List.getElem?_cons_zero, Option.some.injEq] at hj
        subst hj
        have hm := mem_dsts (r := r) (by simpa using hi) hdi
        unfold dsts at hnd
        rw [List.filterMap_cons, hdj] at hnd
        exact absurd hm (List.nodup_cons.1 hnd).1
      | succ j =>
        exact congrArg Nat.succ (ih hnd' (by simpa using hi) (by simpa using hj) hdi hdj)
theorem opOk_wp {o : Oper} {a : Act} {W : World} {G : Value → World → Prop} {K : Act → World → Prop} (h : OpOk P W G ((execOp a.eval o).run P W))
    (hK : ∀ v W', Below W.heap.size W W' → G v W' → K (a.put o.dst v) W') : o.wp P a W K Q := by
  unfold Oper.wp
  generalize (execOp a.eval o).run P W = r at *
  cases r with
  | ok x W' =>
    cases x <;> simp only [OpOk] at h <;> simp only [Oper.upon]
    case value v => exact hK _ _ h.1 h.2
    case skip => exact hK _ _ h.1 h.2
    case enter f args => exact h.2.mono fun e W'' ⟨v, he, hb, hg⟩ => by subst he; exact hK _ _ (h.1.trans (hb.mono h.1.size)) hg
  | halt x W' => simp only [OpOk] at h
theorem spec_any (hB : headB l.toArray n = true) (hF : ∀ i v W W', F i v W → Below W.heap.size W W' → F i v W')
    (hs : SpecAll P l.toArray a₀ w (l.take n) F 0 (l.take n))
    (hin_all : ∀ d, d ∈ dsts (l.take n) → ∀ {a : Act}, a.tmps.size = a₀.tmps.size → d < a.tmps.size)
    (hend : ∀ (v : Nat → Value) (W : World), Below w.heap.size w W → (∀ j, j < n → F j (v j) W) → wpList P l.toArray Q (l.drop n) (putAll (l.take n) 0 v a₀) W) :
    ∀ (f : Nat) (todo : List Nat) (listed : Array Bool) (a : Act) (W : World), todo.length = f → todo.Nodup → (∀ j, j ∈ todo ↔ j < n ∧ listed.getD j true = false) →
      SInv l a₀ w F n listed a W → wpAny P .any l.toArray Q (f + (l.length - n)) listed a W := by
  simp only [headB, Bool.and_eq_true, decide_eq_true_eq] at hB
  obtain ⟨⟨⟨⟨⟨⟨hn, hsk⟩, hch⟩, hback⟩, hsome⟩, hnd⟩, hseq⟩ := hB
  simp only [List.size_toArray] at hn hseq hback
  have hl : ∀ j, j < n → (l.take n)[j]? = l[j]? := fun j hj => by simp [hj]
  intro f
  induction f with
  | zero =>
    intro todo listed a W hlen _ hmem inv
    obtain rfl : todo = [] := List.length_eq_zero_iff.1 hlen
    have hall : ∀ j, j < n → listed.getD j true = true := fun j hj => by
      cases h : listed.getD j true with
      | true => rfl
      | false => exact absurd ((hmem j).2 ⟨hj, h⟩) (by simp)
    have hsz := inv.head.size
    simp only [List.size_toArray] at hsz
    have hL : listed = Array.replicate n true ++ Array.replicate (l.length - n) false := by
      apply Array.ext
      · simp [hsz]; omega
      · intro i h1 h2
        by_cases hi : i < n
        · have := hall i hi
          simp [Array.getD, h1] at this
          rw [Array.getElem_append_left (by simpa using hi)]
          simpa using this
        · have := inv.head.tail i (by omega) (by simpa using (by omega : i < l.length))
          simp [Array.getD, h1] at this
          rw [Array.getElem_append_right (by simp; omega)]
          simpa using this
    have hfacts : ∀ j, j < n → F j ((fun j => match (l[j]?).bind (·.dst) with | some d => a.tmps.getD d undef | none => undef) j) W := fun j hj => by
      have hjl : j < l.length := by omega
      have hlj : l[j]? = some l[j] := List.getElem?_eq_getElem hjl
      have hjt : listed.getD j false = true := by
        have := hall j hj
        have hjs : j < listed.size := by omega
        simp [Array.getD, hjs] at this ⊢
        exact this
      have hso : (l[j]).dst.isSome = true := List.all_eq_true.1 hsome l[j] (by
        have := hl j hj
        rw [hlj] at this
        exact List.mem_of_getElem? this)
      obtain ⟨d, hd⟩ := Option.isSome_iff_exists.1 hso
      simp only [hlj, Option.bind_some, hd]
      exact inv.facts j _ d hj hjt hlj hd
    have hput := putAll_eq (l.take n) 0 (fun j => match (l[j]?).bind (·.dst) with | some d => a.tmps.getD d undef | none => undef) a a₀ inv.tsize.symm inv.defers.symm inv.rest (fun j o hj => by
      have hjn : j < n := by
        have := (List.getElem?_eq_some_iff.1 hj).1
        simp at this
        omega
      have hso : o.dst.isSome = true := List.all_eq_true.1 hsome o (List.mem_of_getElem? hj)
      obtain ⟨d, hd⟩ := Option.isSome_iff_exists.1 hso
      refine ⟨d, hd, ?_⟩
      rw [Nat.zero_add, ← hl j hjn, hj]
      simp [hd])
    have := hend _ W inv.below hfacts
    rw [hput] at this
    have h3 := wpAny_of_seq (md := .any) (Q' := Q) (l.drop n) n listed a W (fun j => by simp [List.getElem?_drop]) (by rw [hL]; simpa using hseq) this
    simpa using h3
  | succ f ih =>
    intro todo listed a W hlen hnod hmem inv
    rw [show f + 1 + (l.length - n) = (f + (l.length - n)) + 1 by omega]
    have hne : ∃ j, j < n ∧ listed.getD j true = false := by
      cases todo with
      | nil => simp at hlen
      | cons j r => exact ⟨j, (hmem j).1 (by simp)⟩
    obtain ⟨j0, hj0⟩ := hne
    obtain ⟨k, hk, hmin⟩ := exists_min (fun j => j < n ∧ listed.getD j true = false) j0 hj0
    have hkl : k < l.length := by omega
    have hsz := inv.head.size
    simp only [List.size_toArray] at hsz
    have hready : k ∈ Region.ready .any l.toArray listed := by
      refine mem_ready.2 ⟨hk.2, l[k], by simp [List.getElem?_eq_getElem hkl], fun e he hb => ?_⟩
      have h1 := List.all_eq_true.1 hback k (List.mem_range.2 hkl)
      simp only [List.getElem?_toArray, List.getElem?_eq_getElem hkl] at h1
      have h2 := Array.all_eq_true'.1 h1 e he
      simp only [hb, Bool.not_true, Bool.false_or, decide_eq_true_eq] at h2
      have h3 := hmin e.on h2
      cases h4 : listed.getD e.on true with
      | false => exact absurd ⟨by omega, h4⟩ h3
      | true =>
        have h5 : e.on < listed.size := by omega
        simp [Array.getD, h5] at h4 ⊢
        exact h4
    refine ⟨fun h => (by rw [h] at hready; cases hready), fun i hi => ?_⟩
    have hin : i < n := by
      rcases Nat.lt_or_ge i n with h | h
      · exact h
      · exact absurd hi (tail_waits hsk hch (by simpa using hn) inv.head _ k rfl hk.1 hk.2 i h)
    obtain ⟨hiun, oi, hoi, hdeps⟩ := mem_ready.1 hi
    have hoi' : l[i]? = some oi := by simpa using hoi
    have hso : oi.dst.isSome = true := List.all_eq_true.1 hsome oi (List.mem_of_getElem? ((hl i hin).trans hoi'))
    obtain ⟨di, hdi⟩ := Option.isSome_iff_exists.1 hso
    have hstep := SpecAll.get (l.take n) 0 i oi hs ((hl i hin).trans hoi') a W inv.below
      (fun t ht => by have := inv.rest t ht; simp only [Array.getD_eq_getD_getElem?, this])
      (fun i' d ha hd => by
        obtain ⟨e, he, hb⟩ := Array.any_eq_true'.1 ha
        simp only [Bool.and_eq_true, beq_iff_eq] at hb
        have h1 := hdeps e he hb.1
        rw [hb.2] at h1
        cases ho' : l[i']? with
        | none => simp [ho'] at hd
        | some o' =>
          simp only [List.getElem?_toArray, ho', Option.bind_some] at hd
          have hi'n : i' < n := by
            rcases Nat.lt_or_ge i' n with h | h
            · exact h
            · have h2 := inv.head.tail i' h (by simpa using (List.getElem?_eq_some_iff.1 ho').1)
              rw [getD_both h2] at h1
              cases h1
          exact inv.facts i' o' d hi'n h1 ho' hd)
    rw [Nat.zero_add] at hstep
    have next : ∀ v W', Below W.heap.size W W' → F i v W' → wpAny P .any l.toArray Q (f + (l.length - n)) (listed.setIfInBounds i true) (a.put oi.dst v) W' := by
      intro v W' hbW hFv
      refine ih (todo.erase i) (listed.setIfInBounds i true) (a.put oi.dst v) W' ?_ (hnod.erase i) ?_ ?_
      · rw [List.length_erase_of_mem ((hmem i).2 ⟨hin, hiun⟩), hlen]; rfl
      · intro j
        rw [hnod.mem_erase_iff, hmem j]
        by_cases e : i = j
        · subst e
          have hi2 : i < listed.size := by omega
          simp [Array.getD, hi2]
        · rw [getD_set_ne true e]
          constructor
          · exact fun h => h.2
          · exact fun h => ⟨fun e' => e e'.symm, h⟩
      · refine ⟨inv.head.set hi hin, inv.below.trans (hbW.mono inv.below.size), ?_, ?_, ?_, ?_⟩
        · rw [hdi]; simpa [Act.put] using inv.tsize
        · rw [hdi]; exact inv.defers
        · intro t ht
          rw [hdi]
          simp only [Act.put]
          rw [Array.getElem?_setIfInBounds_ne (fun e => ht (by rw [← e]; exact mem_dsts ((hl i hin).trans hoi') hdi))]
          exact inv.rest t ht
        · intro j o d hj hlj hoj hd
          by_cases e : i = j
          · subst e
            have : o = oi := Option.some.inj (hoj.symm.trans hoi')
            subst this
            obtain rfl : d = di := Option.some.inj (hd.symm.trans hdi)
            by_cases hin2 : d < a.tmps.size
            · rw [hd]
              simp only [Act.put]
              have : (a.tmps.setIfInBounds d v).getD d undef = v := by simp [Array.getD, hin2]
              rw [this]
              exact hFv
            · exact absurd trivial (fun _ => hin2 (hin_all d (mem_dsts ((hl i hin).trans hoi') hd) inv.tsize))
          · have hne : di ≠ d := fun e' => e (dsts_apart hnd ((hl i hin).trans hoi') ((hl j hj).trans hoj) hdi (e' ▸ hd))
            rw [hdi]
            simp only [Act.put]
            have : (a.tmps.setIfInBounds di v).getD d undef = a.tmps.getD d undef := by
              simp only [Array.getD_eq_getD_getElem?]
              rw [Array.getElem?_setIfInBounds_ne hne]
            rw [this]
            rw [getD_set_ne false e] at hlj
            exact hF _ _ _ _ (inv.facts j o d hj hlj hoj hd) hbW
    unfold wpOp
    simp only [hoi]
    unfold StepOk at hstep
    split
    · rename_i hw
      simp only [hw, if_true] at hstep
      exact .inl (opOk_wp hstep next)
    · rename_i hw
      simp only [hw] at hstep
      exact next undef W (Below.refl _ _) hstep
theorem region_spec {id : Nat} (n : Nat) (F : Nat → Value → World → Prop) (hm : P.follows .mixedOrders = true) (hB : headB l.toArray n = true)
    (hslots : ((dsts (l.take n)).all fun d => decide (d < a₀.tmps.size)) = true)
    (hF : ∀ i v W W', F i v W → Below W.heap.size W W' → F i v W')
    (hs : SpecAll P l.toArray a₀ w (l.take n) F 0 (l.take n))
    (hend : ∀ (v : Nat → Value) (W : World), Below w.heap.size w W → (∀ j, j < n → F j (v j) W) → wpList P l.toArray Q (l.drop n) (putAll (l.take n) 0 v a₀) W) :
    (Code.region id l.toArray true).wp P Q a₀ w := by
  have hn : n < l.length := by
    simp only [headB, Bool.and_eq_true, decide_eq_true_eq] at hB
    simpa using hB.1.1.1.1.1.1
  refine wp_region_any hm ?_
  have inv : SInv l a₀ w F n (Array.replicate l.toArray.size false) a₀ w.drew :=
    ⟨⟨by simp, fun j oj _ hl => (by rw [getD_replicate_false] at hl; cases hl), fun t _ ht => getD_in (by simpa using ht) (getD_replicate_false _ _)⟩,
      (Below.refl _ _).drew, rfl, rfl, fun _ _ => rfl, fun j o d hj hl => by rw [getD_replicate_false] at hl; cases hl⟩
  have h := spec_any (P := P) (Q := Q) hB hF hs (fun d hd {a} he => by
    have := List.all_eq_true.1 hslots d hd
    simp only [decide_eq_true_eq] at this
    omega) hend n (List.range n) _ a₀ w.drew (by simp) List.nodup_range (fun j => by
      rw [List.mem_range]
      constructor
      · intro hj
        exact ⟨hj, getD_in (by simp; omega) (getD_replicate_false _ _)⟩
      · exact fun h => h.1) inv
  rw [show n + (l.length - n) = l.toArray.size by simp; omega] at h
  exact h
end
end Go.Proofs.YtmgdbfmlnmahpaaGreatDoor
namespace Go.Proofs.YtmgdbfmlnmahpaaGreatDoor
open Go.RowKit
def Stable (f : Value → World → Prop) : Prop := ∀ v W W', f v W → Below W.heap.size W W' → f v W'
def IsVal (c : Value) : Value → World → Prop := fun v _ => v = c
def IsNew (B : Nat) (cs : Array Value) (T : TypeId) : Value → World → Prop := fun v W => ∃ A, v = .pointer (some ⟨A, 0, none⟩) ∧ B ≤ A ∧ W.heap[A]? = some (.cells cs T (0, 0))
theorem stableVal (c : Value) : Stable (IsVal c) := fun _ _ _ h _ => h
theorem stableNew (B : Nat) (cs : Array Value) (T : TypeId) : Stable (IsNew B cs T) := fun _ _ _ ⟨A, h1, h2, h3⟩ hb =>
  ⟨A, h1, h2, (hb.block A (Array.getElem?_eq_some_iff.1 h3).1).trans h3⟩
def Fs (l : List (Value → World → Prop)) (i : Nat) : Value → World → Prop := l.getD i (fun _ _ => True)
theorem Fs_stable (l : List (Value → World → Prop)) (h : ∀ f, f ∈ l → Stable f) : ∀ i v W W', Fs l i v W → Below W.heap.size W W' → Fs l i v W' := by
  intro i v W W' hf hb
  unfold Fs at hf ⊢
  rw [List.getD_eq_getElem?_getD] at hf ⊢
  revert hf
  cases e : l[i]? with
  | none => exact fun _ => trivial
  | some f => exact fun hf => h f (List.mem_of_getElem? e) v W W' hf hb
theorem opOk_call {P : Program} {f : FuncId} {args : Array Value} {W : World} {v : Value} {F : Value → World → Prop} (h : Calls P f args W fun e w' => e = .returned v ∧ Below W.heap.size W w') (hF : ∀ w', Below W.heap.size W w' → F v w') :
    OpOk P W F (.ok (.enter f args) W) :=
  ⟨Below.refl _ _, h.mono fun _ _ ⟨he, hb⟩ => ⟨v, he, hb, hF _ hb⟩⟩
theorem opOk_call_same {P : Program} {f : FuncId} {args : Array Value} {W : World} {v : Value} {F : Value → World → Prop} (h : Calls P f args W fun e w' => e = .returned v ∧ w' = W) (hF : F v W) :
    OpOk P W F (.ok (.enter f args) W) :=
  ⟨Below.refl _ _, h.mono fun _ w' ⟨he, hb⟩ => ⟨v, he, by rw [hb]; exact Below.refl _ _, by rw [hb]; exact hF⟩⟩
theorem opOk_val {P : Program} {W : World} {v : Value} {F : Value → World → Prop} (hF : F v W) : OpOk P W F (.ok (.value v) W) := ⟨Below.refl _ _, hF⟩
theorem opOk_new {P : Program} {W : World} {B : Nat} {cs : Array Value} {T : TypeId} (hB : B ≤ W.heap.size) : OpOk P W (IsNew B cs T) (.ok (.value (.pointer (some ⟨W.heap.size, 0, none⟩))) (W.alloc (.cells cs T))) :=
  ⟨(Below.refl _ _).alloc (Nat.le_refl _) _, _, rfl, hB, World.alloc_heap_new W _⟩
end Go.Proofs.YtmgdbfmlnmahpaaGreatDoor
namespace Go.Proofs.YtmgdbfmlnmahpaaGreatDoor
open Go.RowKit
abbrev Blk := Nat × Array Value × TypeId
theorem blk_cell {w : World} {b : Nat} {cs : Array Value} {T : TypeId} (h : w.heap[b]? = some (.cells cs T (0, 0))) (o : Nat) : w.cell? ⟨b, o, none⟩ = cs[o]? := by
  simp [World.cell?, h]
theorem blk_free {w : World} {b : Nat} {cs : Array Value} {T : TypeId} (h : w.heap[b]? = some (.cells cs T (0, 0))) (o : Nat) : w.frozen? ⟨b, o, none⟩ = false := by
  simp [World.frozen?, h]
theorem blk_lt {w : World} {b : Nat} {o : Obj} (h : w.heap[b]? = some o) : b < w.heap.size := (Array.getElem?_eq_some_iff.1 h).1
structure St (w0 : World) (bl : List Blk) (E : World → Prop) (w : World) : Prop where
  below : Below w0.heap.size w0 w
  blk : ∀ x ∈ bl, w.heap[x.1]? = some (.cells x.2.1 x.2.2 (0, 0))
  nd : bl.Pairwise (fun x y => x.1 ≠ y.1)
  ex : E w
  keep : ∀ W W', E W → Below W.heap.size W W' → E W'
theorem St.start (w : World) : St w [] (fun _ => True) w := ⟨Below.refl _ _, by simp, List.Pairwise.nil, trivial, fun _ _ _ _ => trivial⟩
theorem St.startE {w : World} {E : World → Prop} (h : E w) (k : ∀ W W', E W → Below W.heap.size W W' → E W') : St w [] E w := ⟨Below.refl _ _, by simp, List.Pairwise.nil, h, k⟩
theorem St.to {w0 : World} {bl : List Blk} {E : World → Prop} {w w' : World} (h : St w0 bl E w) (hb : Below w.heap.size w w') : St w0 bl E w' :=
  ⟨h.below.trans (hb.mono h.below.size), fun x hx => (hb.block _ (blk_lt (h.blk x hx))).trans (h.blk x hx), h.nd, h.keep _ _ h.ex hb, h.keep⟩
theorem St.alloc {w0 : World} {bl : List Blk} {E : World → Prop} {w : World} (h : St w0 bl E w) {cs : Array Value} {T : TypeId} : St w0 ((w.heap.size, cs, T) :: bl) E (w.alloc (.cells cs T)) := by
  have h' := h.to ((Below.refl _ _).alloc (Nat.le_refl _) (.cells cs T))
  refine ⟨h'.below, ?_, ?_, h'.ex, h'.keep⟩
  · intro x hx
    rcases List.mem_cons.1 hx with rfl | hx
    · exact World.alloc_heap_new w _
    · exact h'.blk x hx
  · refine List.Pairwise.cons ?_ h.nd
    intro x hx e
    have := blk_lt (h.blk x hx)
    simp only at e
    omega
theorem St.drew {w0 : World} {bl : List Blk} {E : World → Prop} {w : World} (h : St w0 bl E w) : St w0 bl E w.drew := h.to (Below.refl _ _).drew
theorem St.drewN {w0 : World} {bl : List Blk} {E : World → Prop} {w : World} (h : St w0 bl E w) {n : Nat} : St w0 bl E (w.drewN n) := h.to ⟨rfl, rfl, rfl, Nat.le_refl _, fun _ _ => rfl⟩
theorem St.also {w0 : World} {bl : List Blk} {E F : World → Prop} {w : World} (h : St w0 bl E w) (hF : F w) (k : ∀ W W', F W → Below W.heap.size W W' → F W') : St w0 bl (fun W => E W ∧ F W) w :=
  ⟨h.below, h.blk, h.nd, ⟨h.ex, hF⟩, fun _ _ e hb => ⟨h.keep _ _ e.1 hb, k _ _ e.2 hb⟩⟩
theorem St.less {w0 : World} {bl : List Blk} {E : World → Prop} {w : World} (h : St w0 bl E w) (bl' : List Blk) (hs : bl'.Sublist bl) : St w0 bl' E w :=
  ⟨h.below, fun x hx => h.blk x (hs.subset hx), h.nd.sublist hs, h.ex, h.keep⟩
theorem St.lessE {w0 : World} {bl : List Blk} {E F : World → Prop} {w : World} (h : St w0 bl E w) (hF : F w) (k : ∀ W W', F W → Below W.heap.size W W' → F W') : St w0 bl F w :=
  ⟨h.below, h.blk, h.nd, hF, k⟩
theorem blk_set {w : World} {b : Nat} {cs : Array Value} {T : TypeId} (h : w.heap[b]? = some (.cells cs T (0, 0))) (o : Nat) (v : Value) : (w.setCell ⟨b, o, none⟩ v).heap[b]? = some (.cells (cs.setIfInBounds o v) T (0, 0)) := by
  have hlt := blk_lt h
  have h' : w.heap[b] = .cells cs T (0, 0) := by simpa [Array.getElem?_eq_getElem hlt] using h
  show (w.heap.modify b _)[b]? = _
  rw [Array.getElem?_eq_getElem (by simpa using hlt), Array.getElem_modify_self, h']
  rfl
def setB (bl : List Blk) (i o : Nat) (v : Value) : List Blk := bl.modify i fun x => (x.1, x.2.1.setIfInBounds o v, x.2.2)
theorem St.set {w0 : World} {bl : List Blk} {E : World → Prop} {w : World} (h : St w0 bl E w) (i : Nat) {A : Nat} {cs : Array Value} {T : TypeId} (hi : bl[i]? = some (A, cs, T)) (hA : w0.heap.size ≤ A) {o : Nat} {v : Value}
    (hE : E w → E (w.setCell ⟨A, o, none⟩ v)) : St w0 (setB bl i o v) E (w.setCell ⟨A, o, none⟩ v) := by
  have hil : i < bl.length := (List.getElem?_eq_some_iff.1 hi).1
  have hmem : ∀ j x, (setB bl i o v)[j]? = some x → ∃ y, bl[j]? = some y ∧ x.1 = y.1 ∧ x = (if i = j then (y.1, y.2.1.setIfInBounds o v, y.2.2) else y) := by
    intro j x hx
    unfold setB at hx
    rw [List.getElem?_modify] at hx
    cases hy : bl[j]? with
    | none => simp [hy] at hx
    | some y =>
      rw [hy] at hx
      have hx' : (if i = j then (y.1, y.2.1.setIfInBounds o v, y.2.2) else y) = x := by
        split at hx <;> simp_all
      refine ⟨y, rfl, ?_, hx'.symm⟩
      rw [← hx']
      split <;> rfl
  refine ⟨h.below.setCell hA _, ?_, ?_, hE h.ex, h.keep⟩
  · intro x hx
    obtain ⟨j, hj⟩ := List.mem_iff_getElem?.1 hx
    obtain ⟨y, hy, h1, h2⟩ := hmem j x hj
    by_cases e : i = j
    · subst e
      obtain rfl : (A, cs, T) = y := Option.some.inj (hi.symm.trans hy)
      rw [if_pos rfl] at h2
      subst h2
      exact blk_set (h.blk _ (List.mem_of_getElem? hi)) o v
    · rw [if_neg e] at h2
      subst h2
      have hne : x.1 ≠ A := by
        intro e'
        have hjl : j < bl.length := (List.getElem?_eq_some_iff.1 hy).1
        have hp := List.pairwise_iff_getElem.1 h.nd
        have ei : bl[i] = (A, cs, T) := by simpa [List.getElem?_eq_getElem hil] using hi
        have ej : bl[j] = x := by simpa [List.getElem?_eq_getElem hjl] using hy
        rcases Nat.lt_or_gt_of_ne e with hlt | hlt
        · exact hp i j hil hjl hlt (by rw [ei, ej]; exact e'.symm)
        · exact hp j i hjl hil hlt (by rw [ei, ej]; exact e')
      exact (Below.heap_setCell w ⟨A, o, none⟩ v x.1 hne).trans (h.blk x (List.mem_of_getElem? hy))
  · rw [List.pairwise_iff_getElem]
    intro j k hj hk hjk
    obtain ⟨y, hy, h1, _⟩ := hmem j _ (List.getElem?_eq_getElem hj)
    obtain ⟨z, hz, h3, _⟩ := hmem k _ (List.getElem?_eq_getElem hk)
    rw [h1, h3]
    have hjl : j < bl.length := (List.getElem?_eq_some_iff.1 hy).1
    have hkl : k < bl.length := (List.getElem?_eq_some_iff.1 hz).1
    have := List.pairwise_iff_getElem.1 h.nd j k hjl hkl hjk
    have ey : bl[j] = y := by simpa [List.getElem?_eq_getElem hjl] using hy
    have ez : bl[k] = z := by simpa [List.getElem?_eq_getElem hkl] using hz
    rwa [ey, ez] at this
theorem St.setT {w0 : World} {bl : List Blk} {w : World} (h : St w0 bl (fun _ => True) w) (i : Nat) {A : Nat} {cs : Array Value} {T : TypeId} (hi : bl[i]? = some (A, cs, T)) (hA : w0.heap.size ≤ A) {o : Nat} {v : Value} :
    St w0 (setB bl i o v) (fun _ => True) (w.setCell ⟨A, o, none⟩ v) := h.set i hi hA fun _ => trivial
theorem St.grown {w0 : World} {bl : List Blk} {w w' : World} {row : Option Nat} (h : St w0 bl (fun _ => True) w) (hg : w.grownBy w' row) (hr : ∀ k, row = some k → w0.heap.size ≤ k ∧ ∀ x ∈ bl, x.1 < k) : St w0 bl (fun _ => True) w' :=
  ⟨h.below.grown hg h.below.size (fun k hk => (hr k hk).1), fun x hx => (hg.block _ (blk_lt (h.blk x hx)) (fun e => by have := (hr _ e.symm).2 x hx; omega)).trans (h.blk x hx), h.nd, trivial, fun _ _ _ _ => trivial⟩
theorem St.grownB {w0 : World} {bl bl' : List Blk} {E : World → Prop} {w w' wB : World} {e : TypeId} {size : Nat} {v : Value} {n : Nat} {xs : List Value} (h : St w0 bl (fun _ => True) w) (hB : St w0 bl' E wB) (hown : w.ownsRow wB.heap.size e size v n xs) (hg : w.grownBy w' v.ownBlock) (hs : ∀ x ∈ bl, x ∈ bl' := by exact fun _ h => h) : St w0 bl (fun _ => True) w' :=
  h.grown hg fun k hk => by
    have h1 := (hown.lt k hk).1
    exact ⟨Nat.le_trans hB.below.size h1, fun x hx => Nat.lt_of_lt_of_le (blk_lt (hB.blk x (hs x hx))) h1⟩
theorem ownsRow_base {w : World} {B B' : Nat} {e : TypeId} {size : Nat} {v : Value} {n : Nat} {xs : List Value} (h : w.ownsRow B e size v n xs) (hb : B' ≤ B) : w.ownsRow B' e size v n xs := by
  refine ⟨h.1, ?_⟩
  rcases h.2 with hn | ⟨g, cap, cur, h1, h2, h3⟩
  · exact .inl hn
  · exact .inr ⟨g, cap, cur, h1, Nat.le_trans hb h2, h3⟩
theorem ownsRow_keep {B : Nat} {e : TypeId} {size : Nat} {v : Value} {n : Nat} {xs : List Value} : ∀ W W' : World, W.ownsRow B e size v n xs → Below W.heap.size W W' → W'.ownsRow B e size v n xs := by
  intro W W' h hb
  refine ⟨h.1, ?_⟩
  rcases h.2 with hn | ⟨g, cap, cur, h1, h2, h3, h4⟩
  · exact .inl hn
  · exact .inr ⟨g, cap, cur, h1, h2, (hb.block g (blk_lt h3)).trans h3, h4⟩
theorem St.addNew {w0 : World} {bl : List Blk} {E E' : World → Prop} {w W : World} (hw : St w0 bl E w) (h : St w0 bl E' W) {A : Nat} {cs : Array Value} {T : TypeId} (hA : w.heap.size ≤ A) (hN : W.heap[A]? = some (.cells cs T (0, 0))) : St w0 ((A, cs, T) :: bl) E' W :=
  ⟨h.below, fun x hx => by
    rcases List.mem_cons.1 hx with rfl | hx
    · exact hN
    · exact h.blk x hx, List.Pairwise.cons (fun x hx e => by have := blk_lt (hw.blk x hx); simp only at e; omega) h.nd, h.ex, h.keep⟩
def Rules (w : World) : List Blk → Prop
  | [] => True
  | x :: l => (∀ o, w.cell? ⟨x.1, o, none⟩ = x.2.1[o]?) ∧ (∀ o, w.frozen? ⟨x.1, o, none⟩ = false) ∧ x.1 < w.heap.size ∧ Rules w l
theorem rules_of {w : World} : ∀ (bl : List Blk), (∀ x ∈ bl, w.heap[x.1]? = some (.cells x.2.1 x.2.2 (0, 0))) → Rules w bl
  | [], _ => trivial
  | x :: l, h => ⟨blk_cell (h x (by simp)), blk_free (h x (by simp)), blk_lt (h x (by simp)), rules_of l fun y hy => h y (by simp [hy])⟩
theorem St.rules {w0 : World} {bl : List Blk} {E : World → Prop} {w : World} (h : St w0 bl E w) : Rules w bl := rules_of bl h.blk
@[go_sem] theorem lt_size_add {w : World} {n k : Nat} (h : n < w.heap.size) : (n < w.heap.size + k) = True := eq_true (by omega)
@[go_sem] theorem le_size {w : World} {n : Nat} (h : n < w.heap.size) : (n ≤ w.heap.size) = True := eq_true (by omega)
structure Cs (w0 : World) (bl : List Blk) (E : World → Prop) where
  W : World
  st : St w0 bl E W
theorem Cs.call {P : Program} {f : FuncId} {args : Array Value} {w0 : World} {bl : List Blk} {E : World → Prop} {x : Cs w0 bl E} {v : Value}
    (h : Calls P f args x.W fun e w' => e = .returned v ∧ Below x.W.heap.size x.W w') : Calls P f args x.W fun e w' => e = .returned v ∧ ∃ y : Cs w0 bl E, w' = y.W :=
  h.mono fun _ w' ⟨he, hb⟩ => ⟨he, ⟨w', x.st.to hb⟩, rfl⟩
theorem Cs.call_same {P : Program} {f : FuncId} {args : Array Value} {w0 : World} {bl : List Blk} {E : World → Prop} {x : Cs w0 bl E} {v : Value}
    (h : Calls P f args x.W fun e w' => e = .returned v ∧ w' = x.W) : Calls P f args x.W fun e w' => e = .returned v ∧ ∃ y : Cs w0 bl E, w' = y.W :=
  h.mono fun _ _ ⟨he, hb⟩ => ⟨he, x, hb⟩
theorem Cs.call_drewN {P : Program} {f : FuncId} {args : Array Value} {w0 : World} {bl : List Blk} {E : World → Prop} {x : Cs w0 bl E} {v : Value}
    (h : Calls P f args x.W fun e w' => e = .returned v ∧ ∃ m, w' = x.W.drewN m) : Calls P f args x.W fun e w' => e = .returned v ∧ ∃ y : Cs w0 bl E, w' = y.W :=
  h.mono fun _ w' ⟨he, m, hb⟩ => ⟨he, ⟨w', by rw [hb]; exact x.st.drewN⟩, rfl⟩
theorem St.cs {w0 : World} {bl : List Blk} {E : World → Prop} {w : World} (_ : St w0 bl E w) : ∀ x : Cs w0 bl E, Rules x.W bl := fun x => x.st.rules
theorem St.csE {w0 : World} {bl : List Blk} {E : World → Prop} {w : World} (_ : St w0 bl E w) : ∀ x : Cs w0 bl E, E x.W := fun x => x.st.ex
theorem St.hide {w0 : World} {bl : List Blk} {E : World → Prop} {w : World} (h : St w0 bl E w) : ∃ bl' E', Nonempty (Cs w0 bl' E') ∧ St w0 bl' E' w ∧ (∀ x : Cs w0 bl' E', Rules x.W bl) ∧ (∀ x : Cs w0 bl' E', Hid (E x.W)) ∧ (∀ x : Cs w0 bl' E', Hid (Below w0.heap.size w0 x.W)) ∧ (∀ x : Cs w0 bl' E', Hid (St w0 bl E x.W)) :=
  ⟨bl, E, ⟨⟨w, h⟩⟩, h, fun x => x.st.rules, fun x => x.st.ex, fun x => x.st.below, fun x => x.st⟩
theorem St.call {P : Program} {f : FuncId} {args : Array Value} {w0 : World} {bl : List Blk} {E : World → Prop} {w : World} {v : Value} (h : St w0 bl E w)
    (hc : Calls P f args w fun e w' => e = .returned v ∧ Below w.heap.size w w') : Calls P f args w fun e w' => e = .returned v ∧ St w0 bl E w' :=
  hc.mono fun _ _ ⟨he, hb⟩ => ⟨he, h.to hb⟩
theorem St.call' {P : Program} {f : FuncId} {args : Array Value} {w0 : World} {bl : List Blk} {E : World → Prop} {w : World} {v : Value} (h : St w0 bl E w)
    (hc : St w0 bl E w → Calls P f args w fun e w' => e = .returned v ∧ Below w.heap.size w w') : Calls P f args w fun e w' => e = .returned v ∧ St w0 bl E w' := h.call (hc h)
theorem St.ne {w0 : World} {bl : List Blk} {E : World → Prop} {w : World} (h : St w0 bl E w) : Nonempty (Cs w0 bl E) := ⟨⟨w, h⟩⟩
theorem region_st {P : Program} {id : Nat} {Q : Exit → Act → World → Prop} {a : Act} {w w0 : World} {bl : List Blk} {E : World → Prop} {l : List Oper} (st : St w0 bl E w) (hm : P.follows .mixedOrders = true) (hB : Region.lexB .any l.toArray = true)
    (h : wpQuiet P l.toArray (fun W => ∃ x : Cs w0 bl E, W = x.W) (fun a' => ∀ x : Cs w0 bl E, Q .normal a' x.W) l a) : (Code.region id l.toArray true).wp P Q a w :=
  region_quiet (fun W => ∃ x : Cs w0 bl E, W = x.W) hm hB ⟨⟨w.drew, st.drew⟩, rfl⟩ (by
    have e : (fun a' : Act => ∀ w', (∃ x : Cs w0 bl E, w' = x.W) → Q .normal a' w') = fun a' => ∀ x : Cs w0 bl E, Q .normal a' x.W := by
      funext a'
      exact propext ⟨fun h x => h _ ⟨x, rfl⟩, fun h w' ⟨x, e⟩ => e ▸ h x⟩
    rw [e]; exact h)
theorem region_st_tail {P : Program} {id : Nat} {Q : Exit → Act → World → Prop} {a : Act} {w w0 : World} {bl : List Blk} {E : World → Prop} {l : List Oper} (st : St w0 bl E w) (n : Nat) (hm : P.follows .mixedOrders = true) (hB : Region.lexTailB .any l.toArray n = true)
    (h : wpQuiet P l.toArray (fun W => ∃ x : Cs w0 bl E, W = x.W) (fun a' => ∀ x : Cs w0 bl E, wpList P l.toArray Q (l.drop n) a' x.W) (l.take n) a) : (Code.region id l.toArray true).wp P Q a w :=
  region_quiet_tail (fun W => ∃ x : Cs w0 bl E, W = x.W) n hm hB ⟨⟨w.drew, st.drew⟩, rfl⟩ (by
    have e : (fun a' : Act => ∀ w', (∃ x : Cs w0 bl E, w' = x.W) → wpList P l.toArray Q (l.drop n) a' w') = fun a' => ∀ x : Cs w0 bl E, wpList P l.toArray Q (l.drop n) a' x.W := by
      funext a'
      exact propext ⟨fun h x => h _ ⟨x, rfl⟩, fun h w' ⟨x, e⟩ => e ▸ h x⟩
    rw [e]; exact h)
end Go.Proofs.YtmgdbfmlnmahpaaGreatDoor
namespace Go.Proofs.YtmgdbfmlnmahpaaGreatDoor
open Go.RowKit
section
variable {α : Type} {k : Nat} {enc : α → List Value}
def Rd (k : Nat) (enc : α → List Value) (W : World) (s : Option Addr) (L : List α) : Prop :=
  ∀ i x, L[i]? = some x → ∃ g o, s = some ⟨g, o, none⟩ ∧ g < W.heap.size ∧ ∀ j u, (enc x)[j]? = some u → W.cell? ⟨g, o + i * k + j, none⟩ = some u
theorem Rd.nil (W : World) (s : Option Addr) : Rd k enc W s [] := fun i x h => by simp at h
theorem Rd.keepB {n : Nat} {W W' : World} {s : Option Addr} {L : List α} (h : Rd k enc W s L) (hn : W.heap.size ≤ n) (hb : Below n W W') : Rd k enc W' s L := by
  intro i x hx
  obtain ⟨g, o, e, hg, hc⟩ := h i x hx
  have := hb.size
  exact ⟨g, o, e, by omega, fun j u hu => (hb.cell (p := ⟨g, o + i * k + j, none⟩) (by show g < n; omega)).trans (hc j u hu)⟩
theorem Rd.keep {s : Option Addr} {L : List α} : ∀ W W' : World, Rd k enc W s L → Below W.heap.size W W' → Rd k enc W' s L := fun _ _ h hb => h.keepB (Nat.le_refl _) hb
theorem Rd.same {W W' : World} {s : Option Addr} {L : List α} {B : Nat} (h : Rd k enc W s L) (hB : W.heap.size ≤ B) (hz : W.heap.size ≤ W'.heap.size) (hk : ∀ b, b < B → W'.heap[b]? = W.heap[b]?) : Rd k enc W' s L := by
  intro i x hx
  obtain ⟨g, o, e, hg, hc⟩ := h i x hx
  refine ⟨g, o, e, by omega, fun j u hu => ?_⟩
  rw [← hc j u hu]
  simp only [World.cell?, hk g (by omega)]
theorem Rd.drop {W : World} {L : List α} {g o : Nat} (h : Rd k enc W (some ⟨g, o, none⟩) L) (n : Nat) : Rd k enc W (some ⟨g, o + n * k, none⟩) (L.drop n) := by
  intro i x hx
  rw [List.getElem?_drop] at hx
  obtain ⟨g', o', e, hg, hc⟩ := h _ x hx
  cases e
  refine ⟨g, o + n * k, rfl, hg, fun j u hu => ?_⟩
  rw [← hc j u hu]
  congr 2
  rw [Nat.add_mul]
  omega
theorem Rd.take {W : World} {s : Option Addr} {L : List α} (h : Rd k enc W s L) (n : Nat) : Rd k enc W s (L.take n) := by
  intro i x hx
  rw [List.getElem?_take] at hx
  split at hx
  · exact h i x hx
  · cases hx
def PlainS (s : Option Addr) : Prop := ∀ ad, s = some ad → ∃ g o, ad = ⟨g, o, none⟩
theorem PlainS.none : PlainS none := fun _ h => by cases h
theorem PlainS.some (g o : Nat) : PlainS (some ⟨g, o, .none⟩) := fun _ h => by cases h; exact ⟨g, o, rfl⟩
def OwnR (k : Nat) (enc : α → List Value) (e : TypeId) (W : World) (B : Nat) (v : Value) (L : List α) : Prop := W.ownsRow B e k v L.length (L.flatMap enc)
variable {e : TypeId}
theorem OwnR.nil (W : World) (B : Nat) : OwnR k enc e W B (.slice none 0 0) [] := ⟨by simp, .inl ⟨rfl, rfl⟩⟩
theorem flat_len (hk : ∀ x, (enc x).length = k) : ∀ L : List α, (L.flatMap enc).length = L.length * k
  | [] => by simp
  | x :: L => by simp [flat_len hk L, hk, Nat.add_mul, Nat.add_comm]
theorem flat_at (hk : ∀ x, (enc x).length = k) : ∀ (L : List α) (i : Nat) (x : α), L[i]? = some x → ∀ j u, (enc x)[j]? = some u → (L.flatMap enc)[i * k + j]? = some u
  | [], i, x, h, _, _, _ => by simp at h
  | y :: L, i, x, h, j, u, hu => by
    have hj : j < k := by have := (List.getElem?_eq_some_iff.1 hu).1; rw [hk] at this; exact this
    rw [List.flatMap_cons]
    cases i with
    | zero =>
      simp at h
      subst h
      rw [Nat.zero_mul, Nat.zero_add, List.getElem?_append_left (by rw [hk]; exact hj)]
      exact hu
    | succ i =>
      simp at h
      rw [List.getElem?_append_right (by rw [hk, Nat.add_mul]; omega), hk, show (i + 1) * k + j - k = i * k + j by rw [Nat.add_mul]; omega]
      exact flat_at hk L i x h j u hu
theorem flat_spot (hk : ∀ x, (enc x).length = k) (hk0 : 0 < k) (L : List α) (j : Nat) (u : Value) (h : (L.flatMap enc)[j]? = some u) : ∃ x, L[j / k]? = some x ∧ (enc x)[j % k]? = some u := by
  have hj : j < L.length * k := by have := (List.getElem?_eq_some_iff.1 h).1; rwa [flat_len hk] at this
  have hq : j / k < L.length := (Nat.div_lt_iff_lt_mul hk0).2 hj
  refine ⟨L[j / k], List.getElem?_eq_getElem hq, ?_⟩
  have hr : j % k < (enc L[j / k]).length := by rw [hk]; exact Nat.mod_lt _ hk0
  have := flat_at hk L (j / k) _ (List.getElem?_eq_getElem hq) (j % k) _ (List.getElem?_eq_getElem hr)
  rw [show j / k * k + j % k = j by rw [Nat.mul_comm]; exact Nat.div_add_mod j k] at this
  rw [List.getElem?_eq_getElem hr, ← h, this]
theorem OwnR.form {W : World} {B : Nat} {v : Value} {L : List α} (hk : ∀ x, (enc x).length = k) (h : OwnR k enc e W B v L) :
    ∃ s cap, v = .slice s L.length cap ∧ L.length ≤ cap ∧ cap ≤ 9223372036854775807 ∧ Rd k enc W s L ∧ (s = none → cap = 0) ∧ PlainS s := by
  rcases h.2 with ⟨hv, hz⟩ | ⟨g, cap, cur, hv, hB, hbk, hcap, hcm, hcs, hct⟩
  · have e0 : L = [] := List.eq_nil_of_length_eq_zero hz
    subst e0
    exact ⟨none, 0, hv, Nat.le_refl _, by omega, Rd.nil _ _, fun _ => rfl, PlainS.none⟩
  · refine ⟨some ⟨g, 0, none⟩, cap, hv, hcap, by unfold maxLen at hcm; omega, fun i x hx => ?_, (fun h => by cases h), PlainS.some _ _⟩
    refine ⟨g, 0, rfl, blk_lt hbk, fun j u hu => ?_⟩
    have hf := flat_at hk L i x hx j u hu
    have hlt := (List.getElem?_eq_some_iff.1 hf).1
    rw [flat_len hk] at hlt
    rw [Nat.zero_add, blk_cell hbk, ← hf, ← hct, List.getElem?_take, if_pos hlt, Array.getElem?_toList]
def PlainF (B : Nat) (s : Option Addr) : Prop := PlainS s ∧ ∀ g o, s = some ⟨g, o, none⟩ → B ≤ g
def PlainN (B : Nat) (s0 s : Option Addr) : Prop := PlainS s ∧ (s = s0 ∨ ∀ g o, s = some ⟨g, o, none⟩ → B ≤ g)
theorem PlainF.mono {B B' : Nat} {s : Option Addr} (h : PlainF B s) (hb : B' ≤ B) : PlainF B' s := ⟨h.1, fun g o e => Nat.le_trans hb (h.2 g o e)⟩
theorem OwnR.freshS {W : World} {B : Nat} {s : Option Addr} {n cap : Nat} {L : List α} (h : OwnR k enc e W B (.slice s n cap) L) : ∀ g o, s = some ⟨g, o, none⟩ → B ≤ g := by
  intro g o hs
  rcases h.2 with ⟨hv, _⟩ | ⟨g', cap', cur, hv, hB, _⟩
  · cases hv; cases hs
  · cases hv; cases hs; exact hB
theorem OwnR.keep {B : Nat} {v : Value} {L : List α} : ∀ W W' : World, OwnR k enc e W B v L → Below W.heap.size W W' → OwnR k enc e W' B v L := fun W W' h hb => ownsRow_keep W W' h hb
theorem OwnR.other {W W' : World} {B R : Nat} {v : Value} {L : List α} (h : OwnR k enc e W B v L) (hg : W.grownBy W' (some R)) (hR : R < B) : OwnR k enc e W' B v L :=
  World.ownsRow.kept (row := some R) h hg (.inr (fun e => by
    have := (h.lt R e).1
    omega))
theorem OwnR.base {W : World} {B B' : Nat} {v : Value} {L : List α} (h : OwnR k enc e W B v L) (hb : B' ≤ B) : OwnR k enc e W B' v L := ownsRow_base h hb
def Elem (P : Program) (t e : TypeId) (k bytes : Nat) : Prop := P.underlying t = some (.slice e) ∧ 0 < k ∧ ∃ i z, P.info? e = some i ∧ i.zero = some z ∧ i.size = k ∧ i.bytes = bytes ∧ z.cells.size = k
theorem Elem.mk {P : Program} {t e : TypeId} {k bytes : Nat} {z : Value} (h : P.underlying t = some (.slice e)) (hi : (P.info? e).map (fun i => (i.zero, i.size, i.bytes)) = some (some z, k, bytes)) (hz : z.cells.size = k) (h0 : 0 < k) : Elem P t e k bytes := by
  obtain ⟨i, h1, h2, h3, h4⟩ := info_parts hi
  exact ⟨h, h0, i, z, h1, h2, h3, h4, hz⟩
end
section
variable {α : Type} {k : Nat} {enc : α → List Value} {P : Program} {t e : TypeId} {bytes : Nat}
structure Appd (w0 : World) (bl : List Blk) (W : World) (B : Nat) (k : Nat) (enc : α → List Value) (e : TypeId) (L : List α) (v' : Value) (w' : World) : Prop where
  st : St w0 bl (fun _ => True) w'
  own : OwnR k enc e w' B v' L
  size : W.heap.size ≤ w'.heap.size
  low : ∀ b, b < B → w'.heap[b]? = W.heap[b]?
  others : KeepsOthers W w'
theorem ownsRow_cells {W : World} {B : Nat} {e : TypeId} {size : Nat} {v : Value} {k : Nat} {xs : List Value} (hr : W.ownsRow B e size v k xs) (j : Nat) (o : Obj) (h : v.ownBlock = some j) (ho : W.heap[j]? = some o) : o.isCells = true := by
  rcases hr.2 with ⟨rfl, _⟩ | ⟨g, cap, cur, rfl, _, hgb, _⟩
  · simp [Value.ownBlock] at h
  · obtain rfl : g = j := by simpa [Value.ownBlock] using h
    rw [hgb] at ho; cases ho; rfl
theorem keepsOthers_of_below {W W' : World} (h : Below W.heap.size W W') : KeepsOthers W W' := ⟨h.size, fun k _ hk _ => (h.block k (blk_lt hk)).trans hk⟩
theorem appd_of {w0 : World} {bl : List Blk} {W W1 : World} {B : Nat} {v v' : Value} {w' : World} {L M : List α} (st : St w0 bl (fun _ => True) W) (hown : OwnR k enc e W1 B v L) (h1 : Below W.heap.size W W1) (hw : w0.heap.size ≤ B) (hbl : ∀ z ∈ bl, z.1 < B) (hB : B ≤ W.heap.size)
    (ho : w'.ownsRow B e k v' (L.length + M.length) (L.flatMap enc ++ M.flatMap enc)) (hgr : W1.grownBy w' v.ownBlock) : Appd w0 bl W B k enc e (L ++ M) v' w' := by
  have st1 := st.to h1
  have hlt : ∀ b, v.ownBlock = some b → B ≤ b := fun b hb => (hown.lt b hb).1
  refine ⟨st1.grown hgr fun b hb => ?_, ?_, Nat.le_trans h1.size hgr.size, fun b hb => ?_, (keepsOthers_of_below h1).trans (KeepsOthers.of_grownBy hgr fun j o ej hj => ownsRow_cells hown j o ej hj)⟩
  · have := hlt b hb
    exact ⟨by omega, fun z hz => by have := hbl z hz; omega⟩
  · unfold OwnR
    rw [List.length_append, List.flatMap_append]
    exact ho
  · have hs := h1.size
    refine (hgr.block b (by omega) (fun ee => ?_)).trans (h1.block b (by omega))
    have := hlt b ee.symm
    omega
theorem append_one (el : Elem P t e k bytes) (hk : ∀ x, (enc x).length = k) (h1 : ∀ x, ∀ v ∈ enc x, v.oneCell' = true) {ops : Array Oper} {rest : List Oper} {o : Oper} {a : Act} {Q : Exit → Act → World → Prop} {w0 W : World} {bl : List Blk} (hgd : o.guard = none) (s x : Operand)
    (ho : o.op = .call { callee := .builtin .append, args := #[s, x], argTypes := #[t, t] }) (B : Nat) (v : Value) (L : List α) (y : α) (hs : a.eval s = v) (st : St w0 bl (fun _ => True) W) (hown : OwnR k enc e W B v L)
    (hw : w0.heap.size ≤ B) (hbl : ∀ z ∈ bl, z.1 < B) (hB : B ≤ W.heap.size) (cs : Array Value) (hcs : cs = (enc y).toArray) (g : Nat) (hg : g = W.heap.size) (hx : a.eval x = .slice (some ⟨g, 0, none⟩) 1 1) (hn : L.length + 1 ≤ 1000000) (hby : bytes ≤ 10000)
    (h : ∀ v' w', Appd w0 bl W B k enc e (L ++ [y]) v' w' → wpList P ops Q rest (a.put o.dst v') w') :
    wpList P ops Q (o :: rest) a (W.alloc (.cells cs e)) := by
  obtain ⟨h2, h0, i, z, h3, h4, h5, h6, h7⟩ := el
  subst hg
  subst hcs
  have hb := (Below.refl W.heap.size W).alloc (Nat.le_refl _) (.cells (enc y).toArray e)
  have hown1 := OwnR.keep _ _ hown hb
  have hmul : (L.length + 1) * bytes ≤ 1000000 * 10000 := Nat.mul_le_mul hn hby
  refine wpList_append_own _ hgd s x t ho B e i z k bytes h2 h3 h4 h5 h6 h7 h0 v L.length (L.flatMap enc) hs hown1 ⟨W.heap.size, 0, none⟩ 1 1 (enc y) hx (by rw [hk]; omega) ?_ (h1 y) (by unfold maxLen; omega) (by omega) (by simp; omega) ?_
  · intro j u hj
    rw [Addr.add_lit, Nat.zero_add, blk_cell (World.alloc_heap_new W _), List.getElem?_toArray, hj]
  · intro v' w' hown' hgr _
    exact h v' w' (appd_of (M := [y]) st hown1 hb hw hbl hB (by simpa using hown') hgr)
theorem append_oneIn (el : Elem P t e k bytes) (hk : ∀ x, (enc x).length = k) (h1 : ∀ x, ∀ v ∈ enc x, v.oneCell' = true) {F : Fence} {m : Nat} {ops : Array Oper} {rest : List Oper} {o : Oper} {a : Act} {Q : Exit → Act → World → Prop} {w0 W : World} {bl : List Blk} (hgd : o.guard = none) (s x : Operand)
    (ho : o.op = .call { callee := .builtin .append, args := #[s, x], argTypes := #[t, t] }) (B : Nat) (v : Value) (L : List α) (y : α) (hs : a.eval s = v) (st : St w0 bl (fun _ => True) W) (hown : OwnR k enc e W B v L)
    (hw : w0.heap.size ≤ B) (hbl : ∀ z ∈ bl, z.1 < B) (hB : B ≤ W.heap.size) (cs : Array Value) (hcs : cs = (enc y).toArray) (g : Nat) (hg : g = W.heap.size) (hx : a.eval x = .slice (some ⟨g, 0, none⟩) 1 1) (hn : L.length + 1 ≤ 1000000) (hby : bytes ≤ 10000)
    (h : ∀ v' w', Appd w0 bl W B k enc e (L ++ [y]) v' w' → wpListIn F m P ops Q rest (a.put o.dst v') w') :
    wpListIn F m P ops Q (o :: rest) a (W.alloc (.cells cs e)) := by
  obtain ⟨h2, h0, i, z, h3, h4, h5, h6, h7⟩ := el
  subst hg
  subst hcs
  have hb := (Below.refl W.heap.size W).alloc (Nat.le_refl _) (.cells (enc y).toArray e)
  have hown1 := OwnR.keep _ _ hown hb
  have hmul : (L.length + 1) * bytes ≤ 1000000 * 10000 := Nat.mul_le_mul hn hby
  refine wpListIn_append_own _ hgd s x t ho B e i z k bytes h2 h3 h4 h5 h6 h7 h0 v L.length (L.flatMap enc) hs hown1 ⟨W.heap.size, 0, none⟩ 1 1 (enc y) hx (by rw [hk]; omega) ?_ (h1 y) (by unfold maxLen; omega) (by omega) (by simp; omega) ?_
  · intro j u hj
    rw [Addr.add_lit, Nat.zero_add, blk_cell (World.alloc_heap_new W _), List.getElem?_toArray, hj]
  · intro v' w' hown' hgr _
    exact h v' w' (appd_of (M := [y]) st hown1 hb hw hbl hB (by simpa using hown') hgr)
theorem rd_news (hk : ∀ x, (enc x).length = k) (hk0 : 0 < k) {W : World} {g o : Nat} {M : List α} (hM : Rd k enc W (some ⟨g, o, none⟩) M) (j : Nat) (u : Value) (hj : (M.flatMap enc)[j]? = some u) : W.cell? ((⟨g, o, none⟩ : Addr).add j) = some u := by
  obtain ⟨x, hx, hu⟩ := flat_spot hk hk0 M j u hj
  obtain ⟨g', o', he, _, hc⟩ := hM _ _ hx
  cases he
  have := hc _ _ hu
  rw [Addr.add_lit]
  rw [show o + j / k * k + j % k = o + j by have := Nat.div_add_mod j k; rw [Nat.mul_comm] at this; omega] at this
  exact this
theorem rd_one (h1 : ∀ x, ∀ v ∈ enc x, v.oneCell' = true) (M : List α) : ∀ u ∈ M.flatMap enc, u.oneCell' = true := by
  intro u hu
  obtain ⟨x, _, hx⟩ := List.mem_flatMap.1 hu
  exact h1 x u hx
theorem rd_none {W : World} {M : List α} (h : Rd k enc W none M) : M = [] := by
  cases M with
  | nil => rfl
  | cons y M => obtain ⟨g, o, he, _⟩ := h 0 y rfl; cases he
theorem append_more (el : Elem P t e k bytes) (hk : ∀ x, (enc x).length = k) (h1 : ∀ x, ∀ v ∈ enc x, v.oneCell' = true) {ops : Array Oper} {rest : List Oper} {o : Oper} {a : Act} {Q : Exit → Act → World → Prop} {w0 W : World} {bl : List Blk} (hgd : o.guard = none) (s x : Operand)
    (ho : o.op = .call { callee := .builtin .append, args := #[s, x], argTypes := #[t, t] }) (B : Nat) (v : Value) (L : List α) (hs : a.eval s = v) (st : St w0 bl (fun _ => True) W) (hown : OwnR k enc e W B v L)
    (hw : w0.heap.size ≤ B) (hbl : ∀ z ∈ bl, z.1 < B) (hB : B ≤ W.heap.size) (M : List α) (m : Nat) (hm : m = M.length) (sx : Option Addr) (cx : Nat) (hx : a.eval x = .slice sx m cx) (hc : sx = none → cx = 0) (hM : Rd k enc W sx M)
    (hn : L.length + M.length ≤ 1000000) (hby : bytes ≤ 10000)
    (h : ∀ v' w', Appd w0 bl W B k enc e (L ++ M) v' w' → wpList P ops Q rest (a.put o.dst v') w') :
    wpList P ops Q (o :: rest) a W := by
  obtain ⟨h2, h0, i, z, h3, h4, h5, h6, h7⟩ := el
  subst hm
  have hmul : (L.length + M.length) * bytes ≤ 1000000 * 10000 := Nat.mul_le_mul hn hby
  cases sx with
  | none =>
    obtain rfl := rd_none hM
    obtain rfl := hc rfl
    refine wpList_append_own_none hgd s x t ho B e i k h2 h3 v L.length (L.flatMap enc) hs hown hx ?_
    refine h v W ⟨st, by rw [List.append_nil]; exact hown, Nat.le_refl _, fun _ _ => rfl, KeepsOthers.refl _⟩
  | some ad =>
    have hspot : ∀ j u, (M.flatMap enc)[j]? = some u → W.cell? (ad.add j) = some u := by
      intro j u hj
      obtain ⟨y, hy, _⟩ := flat_spot hk h0 M j u hj
      obtain ⟨g, o', he, _⟩ := hM _ _ hy
      cases he
      exact rd_news hk h0 hM j u hj
    refine wpList_append_own _ hgd s x t ho B e i z k bytes h2 h3 h4 h5 h6 h7 h0 v L.length (L.flatMap enc) hs hown ad M.length cx (M.flatMap enc) hx (flat_len hk M) hspot (rd_one h1 M) (by unfold maxLen; omega) (by omega) hB ?_
    intro v' w' hown' hgr _
    exact h v' w' (appd_of st hown (Below.refl _ _) hw hbl hB hown' hgr)
theorem append_full (el : Elem P t e k bytes) (hk : ∀ x, (enc x).length = k) (h1 : ∀ x, ∀ v ∈ enc x, v.oneCell' = true) {ops : Array Oper} {rest : List Oper} {o : Oper} {a : Act} {Q : Exit → Act → World → Prop} {w0 W : World} {bl : List Blk} (hgd : o.guard = none) (s x : Operand)
    (ho : o.op = .call { callee := .builtin .append, args := #[s, x], argTypes := #[t, t] }) (ss : Option Addr) (L : List α) (n : Nat) (hn0 : n = L.length) (y : α) (hs : a.eval s = .slice ss n n) (hsn : ss = none → n = 0) (st : St w0 bl (fun _ => True) W) (hL : Rd k enc W ss L)
    (cs : Array Value) (hcs : cs = (enc y).toArray) (g : Nat) (hg : g = W.heap.size) (hx : a.eval x = .slice (some ⟨g, 0, none⟩) 1 1) (hn : L.length + 1 ≤ 1000000) (hby : bytes ≤ 10000)
    (h : ∀ v' w', Appd w0 bl W W.heap.size k enc e (L ++ [y]) v' w' → wpList P ops Q rest (a.put o.dst v') w') :
    wpList P ops Q (o :: rest) a (W.alloc (.cells cs e)) := by
  obtain ⟨h2, h0, i, z, h3, h4, h5, h6, h7⟩ := el
  subst hg
  subst hcs
  subst hn0
  have hb := (Below.refl W.heap.size W).alloc (Nat.le_refl _) (.cells (enc y).toArray e)
  have hL1 := hL.keep _ _ hb
  have hmul : (L.length + 1) * bytes ≤ 1000000 * 10000 := Nat.mul_le_mul hn hby
  refine wpList_append_grows _ hgd s x t ho e i z k bytes h2 h3 h4 h5 h6 h7 h0 ss L.length L.length (L.flatMap enc) hs (fun hh => ⟨hsn hh, hsn hh⟩) (flat_len hk L) ?_ ⟨W.heap.size, 0, none⟩ 1 1 (enc y) hx (by rw [hk]; omega) ?_ (h1 y) (by omega) (by unfold maxLen; omega) (by omega) ?_
  · intro b hbb j u hj
    subst hbb
    obtain ⟨y', hy, _⟩ := flat_spot hk h0 L j u hj
    obtain ⟨g, o', he, _⟩ := hL1 _ _ hy
    cases he
    exact rd_news hk h0 hL1 j u hj
  · intro j u hj
    rw [Addr.add_lit, Nat.zero_add, blk_cell (World.alloc_heap_new W _), List.getElem?_toArray, hj]
  · intro v' w' hown' hgr
    have hgr' : W.grownBy w' none := ⟨hgr.os.trans hb.os, hgr.tape.trans hb.tape, hgr.output.trans hb.output, Nat.le_trans hb.size hgr.size, fun b hbl _ => (hgr.block b (Nat.lt_of_lt_of_le hbl hb.size) (by simp)).trans (hb.block b hbl)⟩
    have hbw : Below W.heap.size W w' := ⟨hgr'.os, hgr'.tape, hgr'.output, hgr'.size, fun b hbl => hgr'.block b hbl (by simp)⟩
    refine h v' w' ⟨st.to hbw, ?_, hbw.size, fun b hbl => hbw.block b hbl, keepsOthers_of_below hbw⟩
    unfold OwnR
    rw [List.length_append, List.flatMap_append]
    have : W.heap.size ≤ (W.alloc (.cells (enc y).toArray e)).heap.size := hb.size
    exact ownsRow_base (by simpa using hown') this
end
end Go.Proofs.YtmgdbfmlnmahpaaGreatDoor
namespace Go.Proofs.YtmgdbfmlnmahpaaGreatDoor
open Go.RowKit
theorem St.setRow {w0 : World} {bl1 bl2 : List Blk} {A : Nat} {cs : Array Value} {T : TypeId} {w : World} (h : St w0 (bl1 ++ (A, cs, T) :: bl2) (fun _ => True) w) (hA : w0.heap.size ≤ A) (cs' : Array Value) : St w0 (bl1 ++ (A, cs', T) :: bl2) (fun _ => True) (w.setRow A cs') := by
  have hnd := h.nd
  have hp1 := (List.pairwise_append.1 hnd).1
  have hp2 := (List.pairwise_append.1 hnd).2.1
  have hp3 := (List.pairwise_append.1 hnd).2.2
  obtain ⟨hq1, hq2⟩ := List.pairwise_cons.1 hp2
  refine ⟨below_setRow h.below hA cs', ?_, ?_, trivial, fun _ _ _ _ => trivial⟩
  · intro x hx
    rcases List.mem_append.1 hx with hx | hx
    · have := hp3 x hx (A, cs, T) (by simp)
      exact (setRow_other w A x.1 cs' this).trans (h.blk x (List.mem_append_left _ hx))
    · rcases List.mem_cons.1 hx with rfl | hx
      · exact setRow_heap w A cs cs' T (0, 0) (h.blk (A, cs, T) (by simp))
      · have := hq1 x hx
        exact (setRow_other w A x.1 cs' (fun e => this e.symm)).trans (h.blk x (List.mem_append_right _ (List.mem_cons_of_mem _ hx)))
  · refine List.pairwise_append.2 ⟨hp1, List.pairwise_cons.2 ⟨fun y hy => hq1 y hy, hq2⟩, fun x hx y hy => ?_⟩
    rcases List.mem_cons.1 hy with rfl | hy
    · exact hp3 x hx (A, cs, T) (by simp)
    · exact hp3 x hx y (List.mem_cons_of_mem _ hy)
theorem St.cons {w0 : World} {bl : List Blk} {E : World → Prop} {W : World} (h : St w0 bl E W) {b : Nat} {cs : Array Value} {T : TypeId} (hb : W.heap[b]? = some (.cells cs T (0, 0))) (hne : ∀ x ∈ bl, x.1 ≠ b) : St w0 ((b, cs, T) :: bl) E W :=
  ⟨h.below, fun x hx => by
    rcases List.mem_cons.1 hx with rfl | hx
    · exact hb
    · exact h.blk x hx, List.Pairwise.cons (fun x hx e => hne x hx e.symm) h.nd, h.ex, h.keep⟩
theorem St.perm {w0 : World} {bl bl' : List Blk} {E : World → Prop} {W : World} (h : St w0 bl E W) (hp : bl.Perm bl') : St w0 bl' E W :=
  ⟨h.below, fun x hx => h.blk x (hp.mem_iff.2 hx), (List.Perm.pairwise_iff (fun {a b} (e : a.1 ≠ b.1) => Ne.symm e) hp).1 h.nd, h.ex, h.keep⟩
theorem St.front {w0 : World} {x y : Blk} {bl : List Blk} {E : World → Prop} {W : World} (h : St w0 (x :: y :: bl) E W) : St w0 (y :: x :: bl) E W := h.perm (List.Perm.swap y x bl)
theorem Rd.ofBlock {α : Type} {k : Nat} {enc : α → List Value} {W : World} {A : Nat} {L : List α} {cs : Array Value} {T : TypeId} (hk : ∀ x, (enc x).length = k) (h : W.heap[A]? = some (.cells cs T (0, 0))) (hc : cs = (L.flatMap enc).toArray) : Rd k enc W (some ⟨A, 0, none⟩) L := by
  intro i x hx
  refine ⟨A, 0, rfl, blk_lt h, fun j u hu => ?_⟩
  rw [Nat.zero_add, blk_cell h, hc, List.getElem?_toArray]
  exact flat_at hk L i x hx j u hu
section
variable {α : Type} {enc : α → List Value} {P : Program} {t e : TypeId} {bytes : Nat}
theorem OwnR.ofBlock {W : World} {B A : Nat} {L : List α} {cs : Array Value} (hk : ∀ x, (enc x).length = 1) (h : W.heap[A]? = some (.cells cs e (0, 0))) (hc : cs = (L.flatMap enc).toArray) (hB : B ≤ A) (hm : L.length ≤ 1000000) : OwnR 1 enc e W B (.slice (some ⟨A, 0, none⟩) L.length L.length) L := by
  have hl := flat_len hk L
  refine ⟨hl, .inr ⟨A, L.length, cs, rfl, hB, h, Nat.le_refl _, by unfold maxLen; omega, by rw [hc, List.size_toArray, hl], ?_⟩⟩
  rw [hc, List.take_of_length_le (by simp [hl])]
theorem make_n (el : Elem P t e 1 bytes) {ops : Array Oper} {rest : List Oper} {o : Oper} {a : Act} {Q : Exit → Act → World → Prop} {w0 W : World} {bl : List Blk} (hgd : o.guard = none) (l c : Operand) (ho : o.op = Op.makeSlice t l c) (n : Nat)
    (hl : a.eval l = .int .i64 (n : Int)) (hc : a.eval c = .int .i64 (n : Int)) (st : St w0 bl (fun _ => True) W) (hn : n ≤ 1000000) (hby : bytes ≤ 10000)
    (h : ∀ cs w', St w0 ((W.heap.size, cs, e) :: bl) (fun _ => True) w' → Below W.heap.size W w' → cs.size = n → wpList P ops Q rest (a.put o.dst (.slice (some ⟨W.heap.size, 0, none⟩) n n)) w') :
    wpList P ops Q (o :: rest) a W := by
  obtain ⟨h2, h0, i, z, h3, h4, h5, h6, h7⟩ := el
  have hmul : i.bytes * n ≤ 10000 * 1000000 := Nat.mul_le_mul (by omega) hn
  refine wpList_make_full _ hgd l c t ho W.heap.size e i z 1 h2 h3 h4 h5 .i64 .i64 n n n hl hc rfl rfl (by omega) (by unfold maxLen; omega) (Nat.le_refl _) ?_
  intro w' hown hgr
  have hbw : Below W.heap.size W w' := ⟨hgr.os, hgr.tape, hgr.output, hgr.size, fun b hbl => hgr.block b hbl (by simp)⟩
  rcases hown.2 with ⟨hv, _⟩ | ⟨g, cap, cur, hv, _, hbk, _, _, hcs, _⟩
  · cases hv
  · cases hv
    exact h cur w' (St.addNew st (st.to hbw) (Nat.le_refl _) hbk) hbw (by rw [hcs, Nat.mul_one])
theorem make_nz {z : Value} (h2 : P.underlying t = some (.slice e)) (hi : (P.info? e).map (fun i => (i.zero, i.size, i.bytes)) = some (some z, 1, bytes)) (hz : z.cells = #[z]) {ops : Array Oper} {rest : List Oper} {o : Oper} {a : Act} {Q : Exit → Act → World → Prop} {w0 W : World} {bl : List Blk} (hgd : o.guard = none) (l c : Operand) (ho : o.op = Op.makeSlice t l c) (n : Nat)
    (hl : a.eval l = .int .i64 (n : Int)) (hc : a.eval c = .int .i64 (n : Int)) (st : St w0 bl (fun _ => True) W) (hn : n ≤ 1000000) (hby : bytes ≤ 10000)
    (h : ∀ w', St w0 ((W.heap.size, (List.replicate n z).toArray, e) :: bl) (fun _ => True) w' → Below W.heap.size W w' → wpList P ops Q rest (a.put o.dst (.slice (some ⟨W.heap.size, 0, none⟩) n n)) w') :
    wpList P ops Q (o :: rest) a W := by
  obtain ⟨i, h3, h4, h5, h6⟩ := info_parts hi
  have hmul : i.bytes * n ≤ 10000 * 1000000 := Nat.mul_le_mul (by omega) hn
  refine wpList_make_full _ hgd l c t ho W.heap.size e i z 1 h2 h3 h4 h5 .i64 .i64 n n n hl hc rfl rfl (by omega) (by unfold maxLen; omega) (Nat.le_refl _) ?_
  intro w' hown hgr
  have hbw : Below W.heap.size W w' := ⟨hgr.os, hgr.tape, hgr.output, hgr.size, fun b hbl => hgr.block b hbl (by simp)⟩
  rcases hown.2 with ⟨hv, _⟩ | ⟨g, cap, cur, hv, _, hbk, _, _, hcs, hct⟩
  · cases hv
  · cases hv
    have e1 : cur = (List.replicate n z).toArray := by
      rw [hz, Nat.mul_one, toList_madeCells_one] at hct
      rw [Nat.mul_one] at hcs
      rw [List.take_of_length_le (by simp [hcs])] at hct
      rw [← hct]
    rw [e1] at hbk
    exact h w' (St.addNew st (st.to hbw) (Nat.le_refl _) hbk) hbw
theorem copy_n (el : Elem P t e 1 bytes) (hk : ∀ x, (enc x).length = 1) (h1 : ∀ x, ∀ v ∈ enc x, v.oneCell' = true) {ops : Array Oper} {rest : List Oper} {o : Oper} {a : Act} {Q : Exit → Act → World → Prop} {w0 W : World} {bl1 bl2 : List Blk} (hgd : o.guard = none) (d s : Operand)
    (ho : o.op = .call { callee := .builtin .copy, args := #[d, s], argTypes := #[t, t] }) (A : Nat) (cs : Array Value) (L : List α) (n : Nat) (hn : n = L.length) (hcs : cs.size = n) (hd : a.eval d = .slice (some ⟨A, 0, none⟩) n n) (ss : Option Addr) (cap : Nat) (hs : a.eval s = .slice ss n cap)
    (st : St w0 (bl1 ++ (A, cs, e) :: bl2) (fun _ => True) W) (hA : w0.heap.size ≤ A) (hL : Rd 1 enc W ss L)
    (h : ∀ w', St w0 (bl1 ++ (A, (L.flatMap enc).toArray, e) :: bl2) (fun _ => True) w' → (∀ b, b ≠ A → w'.heap[b]? = W.heap[b]?) → w'.heap.size = W.heap.size → wpList P ops Q rest (a.put o.dst (.int .i64 (n : Int))) w') :
    wpList P ops Q (o :: rest) a W := by
  obtain ⟨h2, h0, i, z, h3, h4, h5, h6, h7⟩ := el
  subst hn
  have hA' := st.blk (A, cs, e) (by simp)
  have hl := flat_len hk L
  rw [Nat.mul_one] at hl
  have hsz : (P.info? e).map (·.size) = some 1 := by rw [h3, Option.map_some, h5]
  by_cases hz : L.length = 0
  · have hL0 : L = [] := List.eq_nil_of_length_eq_zero hz
    refine wpList_copy_nothing hgd d s t t ho e h2 hsz (some ⟨A, 0, none⟩) ss L.length L.length L.length cap hd hs (by rw [hz]; rfl) ?_
    have e0 : goInt 0 = .int .i64 (L.length : Int) := by rw [hz]; rfl
    rw [e0]
    rw [hz] at hcs
    refine h W ?_ (fun _ _ => rfl) rfl
    rw [hL0]
    have : cs = ([] : List Value).toArray := by simpa using hcs
    rw [this] at st
    exact st
  · cases ss with
    | none => exact absurd (by rw [rd_none hL]; rfl) hz
    | some ad =>
      obtain ⟨g, o', rfl⟩ : ∃ g o', ad = ⟨g, o', none⟩ := by
        obtain ⟨x, hx⟩ : ∃ x, L[0]? = some x := ⟨_, List.getElem?_eq_getElem (by omega)⟩
        obtain ⟨g, o', he, _⟩ := hL 0 x hx
        cases he
        exact ⟨g, o', rfl⟩
      refine wpList_copy_own hgd d s t t ho e h2 hsz A 0 L.length L.length ⟨g, o', none⟩ L.length cap hd hs cs e hA' (L.flatMap enc) (by rw [hl]; simp) (fun j v hj => rd_news hk h0 hL j v hj) (by rw [hl]; omega) (rd_one h1 L) ?_
      have he : (cs.toList.take 0 ++ (L.flatMap enc ++ cs.toList.drop (0 + (L.flatMap enc).length))).toArray = (L.flatMap enc).toArray := by
        rw [List.take_zero, List.nil_append, List.drop_of_length_le (by simp [hl, hcs]), List.append_nil]
      rw [he]
      have hint : goInt (L.flatMap enc).length = .int .i64 (L.length : Int) := by rw [hl]; rfl
      rw [hint]
      exact h _ (st.setRow hA _) (fun b hb => setRow_other W A b _ hb) (by simp)
end
end Go.Proofs.YtmgdbfmlnmahpaaGreatDoor
