/- A part of the proof of TopCounts. -/
import Derived.Test.YtmgdbfmlnmahpaaGreatDoorG09
import Derived.Test.YtmgdbfmlnmahpaaGreatDoorG03
import Derived.RangeFuncCalls
import Derived.OwnWalkIn
import Derived.OrdersIn
import Derived.TacticsIn
import Derived.WalkMore
namespace Go.Proofs.YtmgdbfmlnmahpaaGreatDoor
open Go.RowKit
section
variable {n r : Nat} {P : Program} {ops : Array Oper} {md : Region.Mode} {C : World → Prop}
theorem wpInR_of_quiet {o : Oper} {a : Act} {K : Act → Prop} {K' : Act → World → Prop} {Q' : Exit → Act → World → Prop} {w : World} (hw : C w) (h : ∀ a w', C w' → K a → K' a w') (hd : ∀ c, o.op ≠ .defer c) (hh : o.quiet P a C K) : o.wpIn (Fence.wide.inRound r) n P a w K' Q' := by
  obtain ⟨v, h1, h2⟩ := hh
  have h3 := h1 w hw
  unfold Oper.quietAt at h3
  unfold Oper.wpIn
  refine ⟨fun _ _ => trivial, ?_⟩
  rw [Oper.semAt_eq _ _ _ hd]
  generalize (execOp a.eval o).run P w = res at *
  cases res with
  | ok n w' =>
    cases n <;> simp only [Oper.quietUpon] at h3 <;> simp only [Oper.uponIn]
    case value u =>
      obtain ⟨e1, e2⟩ := h3
      rw [e1, e2]
      exact h _ _ hw h2
    case skip =>
      obtain ⟨e1, e2⟩ := h3
      rw [e1, ← e2]
      exact h _ _ hw h2
    case enter f args =>
      obtain ⟨e1, hc⟩ := h3
      rw [e1]
      refine ⟨fun hd' => by simp [Fence.wide, Fence.inRound] at hd', CallsIn.inRound r (callsIn_wide.2 ?_)⟩
      exact hc.mono fun e w'' ⟨he, hw''⟩ => by subst he; exact h _ _ hw'' h2
  | halt x w' => simp only [Oper.quietUpon] at h3
def noDeferB (ops : Array Oper) : Bool := ops.all fun o => match o.op with | .defer _ => false | _ => true
theorem noDefer_of {ops : Array Oper} (h : noDeferB ops = true) {i : Nat} {o : Oper} (hi : ops[i]? = some o) : ∀ c, o.op ≠ .defer c := by
  intro c e
  have hm : o ∈ ops := Array.mem_of_getElem? hi
  have := Array.all_eq_true_iff_forall_mem.1 h o hm
  rw [e] at this
  cases this
theorem wpOpInR_of_qOp (hnd : noDeferB ops = true) {i : Nat} {a : Act} {K : Act → Prop} {K' : Act → World → Prop} {Q' : Exit → Act → World → Prop} {w : World} (hC : C w) (h : ∀ a w', C w' → K a → K' a w') (hh : qOp P ops C i K a) : wpOpIn (Fence.wide.inRound r) n P ops Q' i K' a w := by
  unfold qOp at hh
  unfold wpOpIn
  split
  · rename_i ho; simp only [ho] at hh; exact h _ _ hC hh
  · rename_i o ho
    simp only [ho] at hh
    split
    · rename_i hw; simp only [hw, if_true] at hh; exact wpInR_of_quiet hC h (noDefer_of hnd (by assumption)) hh
    · rename_i hw; simp only [hw] at hh; exact ⟨fun _ _ => trivial, h _ _ hC hh⟩
theorem wpAnyInR_of_headQ (hnd : noDeferB ops = true) {m g : Nat} {L : Array Bool → Act → Prop} {Q' : Exit → Act → World → Prop} (hL : ∀ listed a w, C w → L listed a → wpAnyIn (Fence.wide.inRound r) n P md ops Q' g listed a w) :
    ∀ (f : Nat) (listed : Array Bool) (a : Act) (w : World), C w → wpAnyLQ P md ops C m L f listed a → wpAnyIn (Fence.wide.inRound r) n P md ops Q' (f + g) listed a w
  | 0, listed, a, w, hw, h => by rw [Nat.zero_add]; exact hL _ _ _ hw h
  | f + 1, listed, a, w, hw, h => by
    rw [show f + 1 + g = (f + g) + 1 by omega]
    exact ⟨fun h0 => absurd h0 h.1, fun i hi => wpOpInR_of_qOp hnd hw (fun a' w' hw' h' => wpAnyInR_of_headQ hnd hL f _ a' w' hw' h') (h.2 i hi).2⟩
theorem wpAnyInR_of_seq {Q' : Exit → Act → World → Prop} : ∀ (l : List Oper) (k : Nat) (listed : Array Bool) (a : Act) (w : World), (∀ j, l[j]? = ops[k + j]?) →
    Region.seqB md ops l.length k listed = true → wpListIn (Fence.wide.inRound r) n P ops Q' l a w → wpAnyIn (Fence.wide.inRound r) n P md ops Q' l.length listed a w
  | [], _, _, _, _, _, hB, h => ⟨by simpa [Region.seqB] using hB, h⟩
  | o :: l, k, listed, a, w, hl, hB, h => by
    have h0 : ops[k]? = some o := by simpa using (hl 0).symm
    simp only [List.length_cons, Region.seqB, Bool.and_eq_true, decide_eq_true_eq] at hB
    refine ⟨fun h1 => (by rw [hB.1] at h1; cases h1), fun i hi => ?_⟩
    rw [hB.1] at hi
    have hik : i = k := by simpa using hi
    subst hik
    have hw : wpOpIn (Fence.wide.inRound r) n P ops Q' i (wpListIn (Fence.wide.inRound r) n P ops Q' l) a w := by unfold wpOpIn; simp only [h0]; exact h
    exact wpOpIn_mono (fun a' w' h' => wpAnyInR_of_seq l (i + 1) _ a' w' (fun j => by have := hl (j + 1); simpa [Nat.add_assoc, Nat.add_comm 1 j] using this) hB.2 h') hw
theorem regionInR_quiet_tail {id : Nat} {Q : Exit → Act → World → Prop} {a : Act} {w : World} {l : List Oper} (C : World → Prop) (m : Nat) (hm : P.follows .mixedOrders = true) (hB : Region.lexTailB .any l.toArray m = true) (hnd : noDeferB l.toArray = true) (hC : C w.drew)
    (h : wpQuiet P l.toArray C (fun a' => ∀ w', C w' → wpListIn (Fence.wide.inRound r) n P l.toArray Q (l.drop m) a' w') (l.take m) a) : (Code.region id l.toArray true).wpIn (Fence.wide.inRound r) n P Q a w := by
  simp only [Region.lexTailB, Bool.and_eq_true, decide_eq_true_eq] at hB
  obtain ⟨⟨⟨⟨hsel, hn⟩, hs⟩, hc⟩, hlex⟩ := hB
  have hn' : m < l.length := by simpa using hn
  have htl : (l.take m).length = m := by simp; omega
  have hdl : (l.drop m).length = l.toArray.size - m := by simp
  have inv0 : HeadInv .any l.toArray m (Array.replicate l.toArray.size false) :=
    ⟨by simp, fun j oj _ hl => (by rw [getD_replicate_false] at hl; cases hl), fun t _ ht => getD_in (by simpa using ht) (getD_replicate_false _ _)⟩
  have H := wpAnyLQ_lex (md := .any) (g := l.toArray.size - m) hsel hs hc hn (l.take m) 0 _ a (fun j hj => by
    have hj' : j < m := by rw [htl] at hj; exact hj
    simp [hj']) (by simpa using htl) inv0 (by rw [htl]; exact hlex) h
  refine wpIn_region_any hm ?_
  have := wpAnyInR_of_headQ hnd (n := n) (Q' := Q) (g := l.toArray.size - m) (fun listed a' w' hw' hL => by
    have := wpAnyInR_of_seq (n := n) (md := .any) (Q' := Q) (l.drop m) m listed a' w' (fun j => by simp [List.getElem?_drop]) (by rw [hdl]; exact hL.1) (hL.2 w' hw')
    rwa [hdl] at this) _ _ _ w.drew hC H
  rw [htl, show m + (l.toArray.size - m) = l.toArray.size by omega] at this
  exact this
theorem regionInR_st_tail {id : Nat} {Q : Exit → Act → World → Prop} {a : Act} {w w0 : World} {bl : List Blk} {E : World → Prop} {l : List Oper} (st : St w0 bl E w) (m : Nat) (hm : P.follows .mixedOrders = true) (hB : Region.lexTailB .any l.toArray m = true) (hnd : noDeferB l.toArray = true)
    (h : wpQuiet P l.toArray (fun W => ∃ x : Cs w0 bl E, W = x.W) (fun a' => ∀ x : Cs w0 bl E, wpListIn (Fence.wide.inRound r) n P l.toArray Q (l.drop m) a' x.W) (l.take m) a) : (Code.region id l.toArray true).wpIn (Fence.wide.inRound r) n P Q a w :=
  regionInR_quiet_tail (fun W => ∃ x : Cs w0 bl E, W = x.W) m hm hB hnd ⟨⟨w.drew, st.drew⟩, rfl⟩ (by
    have e : (fun a' : Act => ∀ w', (∃ x : Cs w0 bl E, w' = x.W) → wpListIn (Fence.wide.inRound r) n P l.toArray Q (l.drop m) a' w') = fun a' => ∀ x : Cs w0 bl E, wpListIn (Fence.wide.inRound r) n P l.toArray Q (l.drop m) a' x.W := by
      funext a'
      exact propext ⟨fun h x => h _ ⟨x, rfl⟩, fun h w' ⟨x, e⟩ => e ▸ h x⟩
    rw [e]; exact h)
end
end Go.Proofs.YtmgdbfmlnmahpaaGreatDoor
namespace Go.Proofs.YtmgdbfmlnmahpaaGreatDoor
open Go.RowKit
section
variable {r d : Nat} {P : Program} {l : List Oper} {a₀ : Act} {w : World} {F : Nat → Value → World → Prop} {n : Nat} {Q : Exit → Act → World → Prop}
theorem opOk_wpInR {o : Oper} {a : Act} {W : World} {G : Value → World → Prop} {K : Act → World → Prop} {Q' : Exit → Act → World → Prop} (hd : ∀ c, o.op ≠ .defer c) (h : OpOk P W G ((execOp a.eval o).run P W))
    (hK : ∀ v W', Below W.heap.size W W' → G v W' → K (a.put o.dst v) W') : o.wpIn (Fence.wide.inRound r) d P a W K Q' := by
  unfold Oper.wpIn
  refine ⟨fun _ _ => trivial, ?_⟩
  rw [Oper.semAt_eq _ _ _ hd]
  generalize (execOp a.eval o).run P W = res at *
  cases res with
  | ok x W' =>
    cases x <;> simp only [OpOk] at h <;> simp only [Oper.uponIn]
    case value v => exact hK _ _ h.1 h.2
    case skip => exact hK _ _ h.1 h.2
    case enter f args =>
      refine ⟨fun hd' => by simp [Fence.wide, Fence.inRound] at hd', CallsIn.inRound r (callsIn_wide.2 ?_)⟩
      exact h.2.mono fun e W'' ⟨v, he, hb, hg⟩ => by subst he; exact hK _ _ (h.1.trans (hb.mono h.1.size)) hg
  | halt x W' => simp only [OpOk] at h
theorem specR_any (hnd : noDeferB l.toArray = true) (hB : headB l.toArray n = true) (hF : ∀ i v W W', F i v W → Below W.heap.size W W' → F i v W')
    (hs : SpecAll P l.toArray a₀ w (l.take n) F 0 (l.take n))
    (hin_all : ∀ d, d ∈ dsts (l.take n) → ∀ {a : Act}, a.tmps.size = a₀.tmps.size → d < a.tmps.size)
    (hend : ∀ (v : Nat → Value) (W : World), Below w.heap.size w W → (∀ j, j < n → F j (v j) W) → wpListIn (Fence.wide.inRound r) d P l.toArray Q (l.drop n) (putAll (l.take n) 0 v a₀) W) :
    ∀ (f : Nat) (todo : List Nat) (listed : Array Bool) (a : Act) (W : World), todo.length = f → todo.Nodup → (∀ j, j ∈ todo ↔ j < n ∧ listed.getD j true = false) →
      SInv l a₀ w F n listed a W → wpAnyIn (Fence.wide.inRound r) d P .any l.toArray Q (f + (l.length - n)) listed a W := by
  simp only [headB, Bool.and_eq_true, decide_eq_true_eq] at hB
  obtain ⟨⟨⟨⟨⟨⟨hn, hsk⟩, hch⟩, hback⟩, hsome⟩, hnod'⟩, hseq⟩ := hB
  simp only [List.size_toArray] at hn hseq hback
  have hl : ∀ j, j < n → (l.take n)[j]? = l[j]? := fun j hj => by simp [hj]
  intro f
  induction f with
  | zero =>
    intro todo listed a W hlen _ hmem inv
    obtain rfl : todo = [] := List.length_eq_zero_iff.1 hlen
    have hall : ∀ j, j < n → listed.getD j true = true := fun j hj => by
      cases h : listed.getD j true with
      | true => rfl
      | false => exact absurd ((hmem j).2 ⟨hj, h⟩) (by simp)
    have hsz := inv.head.size
    simp only [List.size_toArray] at hsz
    have hL : listed = Array.replicate n true ++ Array.replicate (l.length - n) false := by
      apply Array.ext
      · simp [hsz]; omega
      · intro i h1 h2
        by_cases hi : i < n
        · have := hall i hi
          simp [Array.getD, h1] at this
          rw [Array.getElem_append_left (by simpa using hi)]
          simpa using this
        · have := inv.head.tail i (by omega) (by simpa using (by omega : i < l.length))
          simp [Array.getD, h1] at this
          rw [Array.getElem_append_right (by simp; omega)]
          simpa using this
    have hfacts : ∀ j, j < n → F j ((fun j => match (l[j]?).bind (·.dst) with | some d => a.tmps.getD d undef | none => undef) j) W := fun j hj => by
      have hjl : j < l.length := by omega
      have hlj : l[j]? = some l[j] := List.getElem?_eq_getElem hjl
      have hjt : listed.getD j false = true := by
        have := hall j hj
        have hjs : j < listed.size := by omega
        simp [Array.getD, hjs] at this ⊢
        exact this
      have hso : (l[j]).dst.isSome = true := List.all_eq_true.1 hsome l[j] (by
        have := hl j hj
        rw [hlj] at this
        exact List.mem_of_getElem? this)
      obtain ⟨d, hd⟩ := Option.isSome_iff_exists.1 hso
      simp only [hlj, Option.bind_some, hd]
      exact inv.facts j _ d hj hjt hlj hd
    have hput := putAll_eq (l.take n) 0 (fun j => match (l[j]?).bind (·.dst) with | some d => a.tmps.getD d undef | none => undef) a a₀ inv.tsize.symm inv.defers.symm inv.rest (fun j o hj => by
      have hjn : j < n := by
        have := (List.getElem?_eq_some_iff.1 hj).1
        simp at this
        omega
      have hso : o.dst.isSome = true := List.all_eq_true.1 hsome o (List.mem_of_getElem? hj)
      obtain ⟨d, hd⟩ := Option.isSome_iff_exists.1 hso
      refine ⟨d, hd, ?_⟩
      rw [Nat.zero_add, ← hl j hjn, hj]
      simp [hd])
    have := hend _ W inv.below hfacts
    rw [hput] at this
    have h3 := wpAnyInR_of_seq (n := d) (r := r) (md := .any) (Q' := Q) (l.drop n) n listed a W (fun j => by simp [List.getElem?_drop]) (by rw [hL]; simpa using hseq) this
    simpa using h3
  | succ f ih =>
    intro todo listed a W hlen hnod hmem inv
    rw [show f + 1 + (l.length - n) = (f + (l.length - n)) + 1 by omega]
    have hne : ∃ j, j < n ∧ listed.getD j true = false := by
      cases todo with
      | nil => simp at hlen
      | cons j r => exact ⟨j, (hmem j).1 (by simp)⟩
    obtain ⟨j0, hj0⟩ := hne
    obtain ⟨k, hk, hmin⟩ := exists_min (fun j => j < n ∧ listed.getD j true = false) j0 hj0
    have hkl : k < l.length := by omega
    have hsz := inv.head.size
    simp only [List.size_toArray] at hsz
    have hready : k ∈ Region.ready .any l.toArray listed := by
      refine mem_ready.2 ⟨hk.2, l[k], by simp [List.getElem?_eq_getElem hkl], fun e he hb => ?_⟩
      have h1 := List.all_eq_true.1 hback k (List.mem_range.2 hkl)
      simp only [List.getElem?_toArray, List.getElem?_eq_getElem hkl] at h1
      have h2 := Array.all_eq_true'.1 h1 e he
      simp only [hb, Bool.not_true, Bool.false_or, decide_eq_true_eq] at h2
      have h3 := hmin e.on h2
      cases h4 : listed.getD e.on true with
      | false => exact absurd ⟨by omega, h4⟩ h3
      | true =>
        have h5 : e.on < listed.size := by omega
        simp [Array.getD, h5] at h4 ⊢
        exact h4
    refine ⟨fun h => (by rw [h] at hready; cases hready), fun i hi => ?_⟩
    have hin : i < n := by
      rcases Nat.lt_or_ge i n with h | h
      · exact h
      · exact absurd hi (tail_waits hsk hch (by simpa using hn) inv.head _ k rfl hk.1 hk.2 i h)
    obtain ⟨hiun, oi, hoi, hdeps⟩ := mem_ready.1 hi
    have hoi' : l[i]? = some oi := by simpa using hoi
    have hso : oi.dst.isSome = true := List.all_eq_true.1 hsome oi (List.mem_of_getElem? ((hl i hin).trans hoi'))
    obtain ⟨di, hdi⟩ := Option.isSome_iff_exists.1 hso
    have hstep := SpecAll.get (l.take n) 0 i oi hs ((hl i hin).trans hoi') a W inv.below
      (fun t ht => by have := inv.rest t ht; simp only [Array.getD_eq_getD_getElem?, this])
      (fun i' d ha hd => by
        obtain ⟨e, he, hb⟩ := Array.any_eq_true'.1 ha
        simp only [Bool.and_eq_true, beq_iff_eq] at hb
        have h1 := hdeps e he hb.1
        rw [hb.2] at h1
        cases ho' : l[i']? with
        | none => simp [ho'] at hd
        | some o' =>
          simp only [List.getElem?_toArray, ho', Option.bind_some] at hd
          have hi'n : i' < n := by
            rcases Nat.lt_or_ge i' n with h | h
            · exact h
            · have h2 := inv.head.tail i' h (by simpa using (List.getElem?_eq_some_iff.1 ho').1)
              rw [getD_both h2] at h1
              cases h1
          exact inv.facts i' o' d hi'n h1 ho' hd)
    rw [Nat.zero_add] at hstep
    have next : ∀ v W', Below W.heap.size W W' → F i v W' → wpAnyIn (Fence.wide.inRound r) d P .any l.toArray Q (f + (l.length - n)) (listed.setIfInBounds i true) (a.put oi.dst v) W' := by
      intro v W' hbW hFv
      refine ih (todo.erase i) (listed.setIfInBounds i true) (a.put oi.dst v) W' ?_ (hnod.erase i) ?_ ?_
      · rw [List.length_erase_of_mem ((hmem i).2 ⟨hin, hiun⟩), hlen]; rfl
      · intro j
        rw [hnod.mem_erase_iff, hmem j]
        by_cases e : i = j
        · subst e
          have hi2 : i < listed.size := by omega
          simp [Array.getD, hi2]
        · rw [getD_set_ne true e]
          constructor
          · exact fun h => h.2
          · exact fun h => ⟨fun e' => e e'.symm, h⟩
      · refine ⟨inv.head.set hi hin, inv.below.trans (hbW.mono inv.below.size), ?_, ?_, ?_, ?_⟩
        · rw [hdi]; simpa [Act.put] using inv.tsize
        · rw [hdi]; exact inv.defers
        · intro t ht
          rw [hdi]
          simp only [Act.put]
          rw [Array.getElem?_setIfInBounds_ne (fun e => ht (by rw [← e]; exact mem_dsts ((hl i hin).trans hoi') hdi))]
          exact inv.rest t ht
        · intro j o d hj hlj hoj hd
          by_cases e : i = j
          · subst e
            have : o = oi := Option.some.inj (hoj.symm.trans hoi')
            subst this
            obtain rfl : d = di := Option.some.inj (hd.symm.trans hdi)
            by_cases hin2 : d < a.tmps.size
            · rw [hd]
              simp only [Act.put]
              have : (a.tmps.setIfInBounds d v).getD d undef = v := by simp [Array.getD, hin2]
              rw [this]
              exact hFv
            · exact absurd trivial (fun _ => hin2 (hin_all d (mem_dsts ((hl i hin).trans hoi') hd) inv.tsize))
          · have hne : di ≠ d := fun e' => e (dsts_apart hnod' ((hl i hin).trans hoi') ((hl j hj).trans hoj) hdi (e' ▸ hd))
            rw [hdi]
            simp only [Act.put]
            have : (a.tmps.setIfInBounds di v).getD d undef = a.tmps.getD d undef := by
              simp only [Array.getD_eq_getD_getElem?]
              rw [Array.getElem?_setIfInBounds_ne hne]
            rw [this]
            rw [getD_set_ne false e] at hlj
            exact hF _ _ _ _ (inv.facts j o d hj hlj hoj hd) hbW
    unfold wpOpIn
    simp only [hoi]
    unfold StepOk at hstep
    split
    · rename_i hw
      simp only [hw, if_true] at hstep
      exact opOk_wpInR (noDefer_of hnd hoi) hstep next
    · rename_i hw
      simp only [hw] at hstep
      exact ⟨fun _ _ => trivial, next undef W (Below.refl _ _) hstep⟩
theorem regionR_spec {id : Nat} (n : Nat) (F : Nat → Value → World → Prop) (hm : P.follows .mixedOrders = true) (hnd : noDeferB l.toArray = true) (hB : headB l.toArray n = true)
    (hslots : ((dsts (l.take n)).all fun d => decide (d < a₀.tmps.size)) = true)
    (hF : ∀ i v W W', F i v W → Below W.heap.size W W' → F i v W')
    (hs : SpecAll P l.toArray a₀ w (l.take n) F 0 (l.take n))
    (hend : ∀ (v : Nat → Value) (W : World), Below w.heap.size w W → (∀ j, j < n → F j (v j) W) → wpListIn (Fence.wide.inRound r) d P l.toArray Q (l.drop n) (putAll (l.take n) 0 v a₀) W) :
    (Code.region id l.toArray true).wpIn (Fence.wide.inRound r) d P Q a₀ w := by
  have hn : n < l.length := by
    simp only [headB, Bool.and_eq_true, decide_eq_true_eq] at hB
    simpa using hB.1.1.1.1.1.1
  refine wpIn_region_any hm ?_
  have inv : SInv l a₀ w F n (Array.replicate l.toArray.size false) a₀ w.drew :=
    ⟨⟨by simp, fun j oj _ hl => (by rw [getD_replicate_false] at hl; cases hl), fun t _ ht => getD_in (by simpa using ht) (getD_replicate_false _ _)⟩,
      (Below.refl _ _).drew, rfl, rfl, fun _ _ => rfl, fun j o d hj hl => by rw [getD_replicate_false] at hl; cases hl⟩
  have h := specR_any (P := P) (Q := Q) hnd hB hF hs (fun d hd {a} he => by
    have := List.all_eq_true.1 hslots d hd
    simp only [decide_eq_true_eq] at this
    omega) hend n (List.range n) _ a₀ w.drew (by simp) List.nodup_range (fun j => by
      rw [List.mem_range]
      constructor
      · intro hj
        exact ⟨hj, getD_in (by simp; omega) (getD_replicate_false _ _)⟩
      · exact fun h => h.1) inv
  rw [show n + (l.length - n) = l.toArray.size by simp; omega] at h
  exact h
end
end Go.Proofs.YtmgdbfmlnmahpaaGreatDoor
