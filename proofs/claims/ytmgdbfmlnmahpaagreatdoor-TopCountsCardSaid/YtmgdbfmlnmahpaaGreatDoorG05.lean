/- A part of the proof of TopCounts. -/
import Derived.Test.YtmgdbfmlnmahpaaGreatDoorG03
namespace Go.Proofs.YtmgdbfmlnmahpaaGreatDoor
open Go.RowKit
def lateL (ops : Array Oper) (n q : Nat) : Array Bool := ((Array.replicate n true ++ Array.replicate (ops.size - n) false).setIfInBounds q false).setIfInBounds n true
def lateB (ops : Array Oper) (n q : Nat) : Bool :=
  decide (n + 1 < ops.size) && decide (q < n) && Region.noSelect ops &&
  ((List.range n).all fun i => i == q || Region.waitsFor .any ops n i) && Region.chainB .any ops n && Region.waitsFor .any ops (n + 1) q &&
  ((List.range ops.size).all fun j => match ops[j]? with | some o => o.after.all fun e => !Region.binds .any e || decide (e.on < j) | none => true) &&
  ((ops.toList.take n).all fun o => o.dst.isSome) && decide (dsts (ops.toList.take n)).Nodup &&
  Region.seqB .any ops (ops.size - n) n (Array.replicate n true ++ Array.replicate (ops.size - n) false) &&
  decide (Region.ready .any ops (lateL ops n q) = [q]) &&
  (match ops[n]?, ops[q]? with | some s, some o => s.guard.isNone && o.guard.isNone && s.dst.isNone && o.apart ops s | _, _ => false)
section
variable {P : Program} {l : List Oper} {a₀ : Act} {w : World} {F : Nat → Value → World → Prop} {n q : Nat} {Q : Exit → Act → World → Prop}
theorem spec_late (cq : Value) (hB : lateB l.toArray n q = true) (hF : ∀ i v W W', F i v W → Below W.heap.size W W' → F i v W')
    (hs : SpecAll P l.toArray a₀ w (l.take n) F 0 (l.take n))
    (hin_all : ∀ d, d ∈ dsts (l.take n) → ∀ {a : Act}, a.tmps.size = a₀.tmps.size → d < a.tmps.size)
    (hq : ∀ oq, l[q]? = some oq → ∀ (a : Act) (W : World), Below w.heap.size w W →
      (∀ t, t ∉ dsts (l.take n) → a.tmps.getD t undef = a₀.tmps.getD t undef) →
      (∀ i d, (oq.after.any fun e => Region.binds .any e && e.on == i) = true → ((l.toArray[i]?).bind (·.dst)) = some d → F i (a.tmps.getD d undef) W) →
      ∀ W', (execOp a.eval oq).run P W' = .ok (.value cq) W')
    (hFq : ∀ W, F q cq W)
    (hst : ∀ os, l[n]? = some os → ∀ (a : Act) (W : World), Below w.heap.size w W →
      (∀ t, t ∉ dsts (l.take n) → a.tmps.getD t undef = a₀.tmps.getD t undef) →
      (∀ i d, (os.after.any fun e => Region.binds .any e && e.on == i) = true → ((l.toArray[i]?).bind (·.dst)) = some d → F i (a.tmps.getD d undef) W) →
      ∃ W', (execOp a.eval os).run P W = .ok .skip W')
    (hend : ∀ (v : Nat → Value) (W : World), Below w.heap.size w W → (∀ j, j < n → F j (v j) W) → wpList P l.toArray Q (l.drop n) (putAll (l.take n) 0 v a₀) W) :
    ∀ (f : Nat) (todo : List Nat) (listed : Array Bool) (a : Act) (W : World), todo.length = f → todo.Nodup → (∀ j, j ∈ todo ↔ j < n ∧ listed.getD j true = false) →
      SInv l a₀ w F n listed a W → wpAny P .any l.toArray Q (f + (l.length - n)) listed a W := by
  simp only [lateB, Bool.and_eq_true, decide_eq_true_eq] at hB
  obtain ⟨⟨⟨⟨⟨⟨⟨⟨⟨⟨⟨hn, hqn⟩, hsel⟩, hwait⟩, hch⟩, hwq⟩, hback⟩, hsome⟩, hnd⟩, hseq⟩, hrq⟩, hcase⟩ := hB
  simp only [List.size_toArray] at hn hseq hback
  have hl : ∀ j, j < n → (l.take n)[j]? = l[j]? := fun j hj => by simp [hj]
  have ending : ∀ (a : Act) (W : World), a.tmps.size = a₀.tmps.size → a.defers = a₀.defers → (∀ t, t ∉ dsts (l.take n) → a.tmps[t]? = a₀.tmps[t]?) → Below w.heap.size w W →
      (∀ j o d, j < n → l[j]? = some o → o.dst = some d → F j (a.tmps.getD d undef) W) → wpList P l.toArray Q (l.drop n) a W := by
    intro a W hts hdf hrest hbel hfa
    have hfacts : ∀ j, j < n → F j ((fun j => match (l[j]?).bind (·.dst) with | some d => a.tmps.getD d undef | none => undef) j) W := fun j hj => by
      have hjl : j < l.length := by omega
      have hlj : l[j]? = some l[j] := List.getElem?_eq_getElem hjl
      have hso : (l[j]).dst.isSome = true := List.all_eq_true.1 hsome l[j] (by
        have := hl j hj
        rw [hlj] at this
        exact List.mem_of_getElem? this)
      obtain ⟨d, hd⟩ := Option.isSome_iff_exists.1 hso
      simp only [hlj, Option.bind_some, hd]
      exact hfa j _ d hj hlj hd
    have hput := putAll_eq (l.take n) 0 (fun j => match (l[j]?).bind (·.dst) with | some d => a.tmps.getD d undef | none => undef) a a₀ hts.symm hdf.symm hrest (fun j o hj => by
      have hjn : j < n := by
        have := (List.getElem?_eq_some_iff.1 hj).1
        simp at this
        omega
      have hso : o.dst.isSome = true := List.all_eq_true.1 hsome o (List.mem_of_getElem? hj)
      obtain ⟨d, hd⟩ := Option.isSome_iff_exists.1 hso
      refine ⟨d, hd, ?_⟩
      rw [Nat.zero_add, ← hl j hjn, hj]
      simp [hd])
    have := hend _ W hbel hfacts
    rwa [hput] at this
  intro f
  induction f with
  | zero =>
    intro todo listed a W hlen _ hmem inv
    obtain rfl : todo = [] := List.length_eq_zero_iff.1 hlen
    have hall : ∀ j, j < n → listed.getD j true = true := fun j hj => by
      cases h : listed.getD j true with
      | true => rfl
      | false => exact absurd ((hmem j).2 ⟨hj, h⟩) (by simp)
    have hsz := inv.head.size
    simp only [List.size_toArray] at hsz
    have hL : listed = Array.replicate n true ++ Array.replicate (l.length - n) false := by
      apply Array.ext
      · simp [hsz]; omega
      · intro i h1 h2
        by_cases hi : i < n
        · have := hall i hi
          simp [Array.getD, h1] at this
          rw [Array.getElem_append_left (by simpa using hi)]
          simpa using this
        · have := inv.head.tail i (by omega) (by simpa using (by omega : i < l.length))
          simp [Array.getD, h1] at this
          rw [Array.getElem_append_right (by simp; omega)]
          simpa using this
    have := ending a W inv.tsize inv.defers inv.rest inv.below (fun j o d hj hlj hd => by
      have hjt : listed.getD j false = true := by
        have := hall j hj
        have hjs : j < listed.size := by omega
        simp [Array.getD, hjs] at this ⊢
        exact this
      exact inv.facts j o d hj hjt hlj hd)
    have h3 := wpAny_of_seq (md := .any) (Q' := Q) (l.drop n) n listed a W (fun j => by simp [List.getElem?_drop]) (by rw [hL]; simpa using hseq) this
    simpa using h3
  | succ f ih =>
    intro todo listed a W hlen hnod hmem inv
    rw [show f + 1 + (l.length - n) = (f + (l.length - n)) + 1 by omega]
    have hne : ∃ j, j < n ∧ listed.getD j true = false := by
      cases todo with
      | nil => simp at hlen
      | cons j r => exact ⟨j, (hmem j).1 (by simp)⟩
    obtain ⟨j0, hj0⟩ := hne
    obtain ⟨k, hk, hmin⟩ := exists_min (fun j => j < n ∧ listed.getD j true = false) j0 hj0
    have hkl : k < l.length := by omega
    have hsz := inv.head.size
    simp only [List.size_toArray] at hsz
    have hready : k ∈ Region.ready .any l.toArray listed := by
      refine mem_ready.2 ⟨hk.2, l[k], by simp [List.getElem?_eq_getElem hkl], fun e he hb => ?_⟩
      have h1 := List.all_eq_true.1 hback k (List.mem_range.2 hkl)
      simp only [List.getElem?_toArray, List.getElem?_eq_getElem hkl] at h1
      have h2 := Array.all_eq_true'.1 h1 e he
      simp only [hb, Bool.not_true, Bool.false_or, decide_eq_true_eq] at h2
      have h3 := hmin e.on h2
      cases h4 : listed.getD e.on true with
      | false => exact absurd ⟨by omega, h4⟩ h3
      | true =>
        have h5 : e.on < listed.size := by omega
        simp [Array.getD, h5] at h4 ⊢
        exact h4
    refine ⟨fun h => (by rw [h] at hready; cases hready), fun i hi => ?_⟩
    obtain ⟨hiun, oi, hoi, hdeps⟩ := mem_ready.1 hi
    have hoi' : l[i]? = some oi := by simpa using hoi
    have hdepF : ∀ i' d, (oi.after.any fun e => Region.binds .any e && e.on == i') = true → ((l.toArray[i']?).bind (·.dst)) = some d → F i' (a.tmps.getD d undef) W := fun i' d ha hd => by
      obtain ⟨e, he, hb⟩ := Array.any_eq_true'.1 ha
      simp only [Bool.and_eq_true, beq_iff_eq] at hb
      have h1 := hdeps e he hb.1
      rw [hb.2] at h1
      cases ho' : l[i']? with
      | none => simp [ho'] at hd
      | some o' =>
        simp only [List.getElem?_toArray, ho', Option.bind_some] at hd
        have hi'n : i' < n := by
          rcases Nat.lt_or_ge i' n with h | h
          · exact h
          · have h2 := inv.head.tail i' h (by simpa using (List.getElem?_eq_some_iff.1 ho').1)
            rw [getD_both h2] at h1
            cases h1
        exact inv.facts i' o' d hi'n h1 ho' hd
    have hrestD : ∀ t, t ∉ dsts (l.take n) → a.tmps.getD t undef = a₀.tmps.getD t undef := fun t ht => by have := inv.rest t ht; simp only [Array.getD_eq_getD_getElem?, this]
    rcases Nat.lt_or_ge i n with hin | hin
    · have hso : oi.dst.isSome = true := List.all_eq_true.1 hsome oi (List.mem_of_getElem? ((hl i hin).trans hoi'))
      obtain ⟨di, hdi⟩ := Option.isSome_iff_exists.1 hso
      have hstep := SpecAll.get (l.take n) 0 i oi hs ((hl i hin).trans hoi') a W inv.below hrestD hdepF
      rw [Nat.zero_add] at hstep
      have next : ∀ v W', Below W.heap.size W W' → F i v W' → wpAny P .any l.toArray Q (f + (l.length - n)) (listed.setIfInBounds i true) (a.put oi.dst v) W' := by
        intro v W' hbW hFv
        refine ih (todo.erase i) (listed.setIfInBounds i true) (a.put oi.dst v) W' ?_ (hnod.erase i) ?_ ?_
        · rw [List.length_erase_of_mem ((hmem i).2 ⟨hin, hiun⟩), hlen]; rfl
        · intro j
          rw [hnod.mem_erase_iff, hmem j]
          by_cases e : i = j
          · subst e
            have hi2 : i < listed.size := by omega
            simp [Array.getD, hi2]
          · rw [getD_set_ne true e]
            constructor
            · exact fun h => h.2
            · exact fun h => ⟨fun e' => e e'.symm, h⟩
        · refine ⟨inv.head.set hi hin, inv.below.trans (hbW.mono inv.below.size), ?_, ?_, ?_, ?_⟩
          · rw [hdi]; simpa [Act.put] using inv.tsize
          · rw [hdi]; exact inv.defers
          · intro t ht
            rw [hdi]
            simp only [Act.put]
            rw [Array.getElem?_setIfInBounds_ne (fun e => ht (by rw [← e]; exact mem_dsts ((hl i hin).trans hoi') hdi))]
            exact inv.rest t ht
          · intro j o d hj hlj hoj hd
            by_cases e : i = j
            · subst e
              have : o = oi := Option.some.inj (hoj.symm.trans hoi')
              subst this
              obtain rfl : d = di := Option.some.inj (hd.symm.trans hdi)
              by_cases hin2 : d < a.tmps.size
              · rw [hd]
                simp only [Act.put]
                have : (a.tmps.setIfInBounds d v).getD d undef = v := by simp [Array.getD, hin2]
                rw [this]
                exact hFv
              · exact absurd trivial (fun _ => hin2 (hin_all d (mem_dsts ((hl i hin).trans hoi') hd) inv.tsize))
            · have hne : di ≠ d := fun e' => e (dsts_apart hnd ((hl i hin).trans hoi') ((hl j hj).trans hoj) hdi (e' ▸ hd))
              rw [hdi]
              simp only [Act.put]
              have : (a.tmps.setIfInBounds di v).getD d undef = a.tmps.getD d undef := by
                simp only [Array.getD_eq_getD_getElem?]
                rw [Array.getElem?_setIfInBounds_ne hne]
              rw [this]
              rw [getD_set_ne false e] at hlj
              exact hF _ _ _ _ (inv.facts j o d hj hlj hoj hd) hbW
      unfold wpOp
      simp only [hoi]
      unfold StepOk at hstep
      split
      · rename_i hw
        simp only [hw, if_true] at hstep
        exact .inl (opOk_wp hstep next)
      · rename_i hw
        simp only [hw] at hstep
        exact next undef W (Below.refl _ _) hstep
    · -- the first of the tail, operation q not yet
      obtain rfl : i = n := by
        by_cases e : i = n
        · exact e
        · exfalso
          have hilt : i < l.length := (List.getElem?_eq_some_iff.1 hoi').1
          have h1 := List.all_eq_true.1 hch i (List.mem_range.2 (by simpa using hilt))
          simp only [Bool.or_eq_true, decide_eq_true_eq] at h1
          rcases h1 with h1 | h1
          · omega
          · obtain ⟨oj, hoj, e', he', hb, hon⟩ := Region.waitsFor_spec h1
            rw [hoi] at hoj
            obtain rfl := Option.some.inj hoj
            have h2 := hdeps e' he' hb
            rw [hon] at h2
            have h3 := inv.head.tail (i - 1) (by omega) (by simp; omega)
            rw [getD_both h3] at h2
            cases h2
      have hothers : ∀ j, j < i → j ≠ q → listed.getD j false = true := fun j hj hjq => by
        have h1 := List.all_eq_true.1 hwait j (List.mem_range.2 hj)
        simp only [Bool.or_eq_true, beq_iff_eq, hjq, false_or] at h1
        obtain ⟨oj, hoj, e', he', hb, hon⟩ := Region.waitsFor_spec h1
        rw [hoi] at hoj
        obtain rfl := Option.some.inj hoj
        have h2 := hdeps e' he' hb
        rwa [hon] at h2
      have hkq : k = q := Classical.byContradiction fun e => by
        have := hothers k hk.1 e
        rw [getD_both hk.2] at this
        cases this
      subst hkq
      obtain ⟨oq, hoq⟩ : ∃ oq, l[k]? = some oq := ⟨_, List.getElem?_eq_getElem hkl⟩
      simp only [List.getElem?_toArray, hoi', hoq, Bool.and_eq_true, Option.isNone_iff_eq_none] at hcase
      obtain ⟨⟨⟨hgs, hgq⟩, hds⟩, hap⟩ := hcase
      have hso : oq.dst.isSome = true := List.all_eq_true.1 hsome oq (List.mem_of_getElem? ((hl k hqn).trans hoq))
      obtain ⟨dq, hdq⟩ := Option.isSome_iff_exists.1 hso
      have hrun := hq oq hoq a W inv.below hrestD (fun i' d ha hd => by
        obtain ⟨e, he, hb⟩ := Array.any_eq_true'.1 ha
        simp only [Bool.and_eq_true, beq_iff_eq] at hb
        obtain ⟨_, oq', hoq', hdq'⟩ := mem_ready.1 hready
        obtain rfl : oq = oq' := Option.some.inj (hoq.symm.trans (by simpa using hoq'))
        have h1 := hdq' e he hb.1
        rw [hb.2] at h1
        cases ho' : l[i']? with
        | none => simp [ho'] at hd
        | some o' =>
          simp only [List.getElem?_toArray, ho', Option.bind_some] at hd
          have hi'n : i' < i := by
            rcases Nat.lt_or_ge i' i with h | h
            · exact h
            · have h2 := inv.head.tail i' h (by simpa using (List.getElem?_eq_some_iff.1 ho').1)
              rw [getD_both h2] at h1
              cases h1
          exact inv.facts i' o' d hi'n h1 ho' hd)
      obtain ⟨W1, hW1⟩ := hst oi hoi' a W inv.below hrestD hdepF
      have hdqlt : dq < a.tmps.size := hin_all dq (mem_dsts ((hl k hqn).trans hoq) hdq) inv.tsize
      have hE := ending (a.put oq.dst cq) W (by rw [hdq]; simpa [Act.put] using inv.tsize) (by rw [hdq]; exact inv.defers) (fun t ht => by
        rw [hdq]
        simp only [Act.put]
        rw [Array.getElem?_setIfInBounds_ne (fun e => ht (by rw [← e]; exact mem_dsts ((hl k hqn).trans hoq) hdq))]
        exact inv.rest t ht) inv.below (fun j o d hj hlj hd => by
        by_cases e : k = j
        · subst e
          obtain rfl : o = oq := Option.some.inj (hlj.symm.trans hoq)
          obtain rfl : d = dq := Option.some.inj (hd.symm.trans hdq)
          rw [hd]
          simp only [Act.put]
          have : (a.tmps.setIfInBounds d cq).getD d undef = cq := by simp [Array.getD, hdqlt]
          rw [this]
          exact hFq W
        · have hne : dq ≠ d := fun e' => e (dsts_apart hnd ((hl k hqn).trans hoq) ((hl j hj).trans hlj) hdq (e' ▸ hd))
          rw [hdq]
          simp only [Act.put]
          have : (a.tmps.setIfInBounds dq cq).getD d undef = a.tmps.getD d undef := by
            simp only [Array.getD_eq_getD_getElem?]
            rw [Array.getElem?_setIfInBounds_ne hne]
          rw [this]
          exact inv.facts j o d hj (hothers j hj (fun e' => e e'.symm)) hlj hd)
      have hf0 : f = 0 := by
        have : todo = [k] := by
          have h1 : ∀ j ∈ todo, j = k := fun j hj => Classical.byContradiction fun e => by
            have h2 := (hmem j).1 hj
            have := hothers j h2.1 e
            rw [getD_both h2.2] at this
            cases this
          cases todo with
          | nil => simp at hlen
          | cons x r =>
            obtain rfl := h1 x (by simp)
            cases r with
            | nil => rfl
            | cons y r =>
              obtain rfl := h1 y (by simp)
              simp at hnod
        rw [this] at hlen
        simpa using hlen.symm
      subst hf0
      have hlistL : listed.setIfInBounds i true = lateL l.toArray i k := by
        unfold lateL
        congr 1
        apply Array.ext_getElem?
        intro j
        rw [Array.getElem?_setIfInBounds, Array.getElem?_append, Array.getElem?_replicate, Array.getElem?_replicate]
        simp only [Array.size_append, Array.size_replicate, List.size_toArray]
        by_cases hjl : j < l.length
        · have h1 : j < listed.size := by omega
          rw [Array.getElem?_eq_getElem h1]
          by_cases e : k = j
          · subst e
            rw [if_pos rfl, if_pos (by omega)]
            have := hk.2
            simp [Array.getD, h1] at this
            rw [this]
          · rw [if_neg e]
            by_cases hi' : j < i
            · have := hothers j hi' (fun e' => e e'.symm)
              simp [Array.getD, h1] at this
              rw [if_pos hi', if_pos hi', this]
            · have := inv.head.tail j (by omega) (by simpa using hjl)
              simp [Array.getD, h1] at this
              rw [if_neg hi', if_pos (by omega), this]
        · rw [Array.getElem?_eq_none (by omega), if_neg (by omega), if_neg (by omega), if_neg (by omega)]
      have hdrop : l.drop i = oi :: l.drop (i + 1) := by
        have hil : i < l.length := by omega
        rw [List.drop_eq_getElem_cons hil]
        have : l[i] = oi := by simpa [List.getElem?_eq_getElem hil] using hoi'
        rw [this]
      rw [hdrop] at hE
      unfold wpList at hE
      have hw1 : Region.wanted oi (yielded l.toArray (a.put oq.dst cq).tmps) = true := by simp [Region.wanted, hgs]
      rw [if_pos hw1] at hE
      obtain ⟨p1, _, _⟩ := Oper.apart_spec hap
      have hex : execOp (a.put oq.dst cq).eval oi = execOp a.eval oi := execOp_put oi (fun cs b => Region.noSelect_spec hsel i oi cs b hoi) a oq.dst cq p1
      unfold wpOp
      simp only [hoi]
      rw [if_pos (by simp [Region.wanted, hgs])]
      rcases hE with hE | ⟨has, hlo⟩
      · left
        unfold Oper.wp at hE ⊢
        rw [hex, hW1] at hE
        rw [hW1]
        simp only [Oper.upon] at hE ⊢
        rw [hds] at hE ⊢
        simp only [Act.put] at hE ⊢
        rw [hlistL, show 0 + (l.length - i) = (l.length - (i + 1)) + 1 by omega]
        refine ⟨fun h => (by rw [hrq] at h; cases h), fun j hj => ?_⟩
        rw [hrq] at hj
        obtain rfl : j = k := by simpa using hj
        unfold wpOp
        simp only [List.getElem?_toArray, hoq]
        rw [if_pos (by simp [Region.wanted, hgq])]
        left
        unfold Oper.wp
        rw [hrun W1]
        simp only [Oper.upon]
        have hseq' : Region.seqB .any l.toArray (l.length - (i + 1)) (i + 1) ((lateL l.toArray i j).setIfInBounds j true) = true := by
          rw [show l.length - i = (l.length - (i + 1)) + 1 by omega] at hseq
          unfold Region.seqB at hseq
          simp only [Bool.and_eq_true] at hseq
          have e : (lateL l.toArray i j).setIfInBounds j true = (Array.replicate i true ++ Array.replicate (l.length - (i + 1) + 1) false).setIfInBounds i true := by
            unfold lateL
            simp only [List.size_toArray]
            rw [show l.length - i = l.length - (i + 1) + 1 by omega]
            apply Array.ext_getElem?
            intro m
            simp only [Array.getElem?_setIfInBounds, Array.size_setIfInBounds]
            by_cases e1 : j = m
            · subst e1
              have hlt : j < (Array.replicate i true ++ Array.replicate (l.length - (i + 1) + 1) false).size := by simp; omega
              rw [if_pos rfl, if_pos hlt, if_neg (by omega), Array.getElem?_append_left (by simpa using hqn), Array.getElem?_replicate, if_pos hqn]
            · rw [if_neg e1]
              by_cases e2 : i = m
              · rw [if_pos e2, if_pos e2]
              · rw [if_neg e2, if_neg e2, if_neg e1]
          rw [e]
          exact hseq.2
        have h3 := wpAny_of_seq (P := P) (ops := l.toArray) (md := .any) (Q' := Q) (l.drop (i + 1)) (i + 1) _ (a.put oq.dst cq) W1 (fun m => by simp [List.getElem?_drop]) (by simpa using hseq') (by
          rw [hdq]
          rw [hdq] at hE
          exact hE)
        simpa using h3
      · right
        refine ⟨?_, hlo⟩
        unfold Oper.asks at has ⊢
        rw [hex] at has
        exact has
theorem region_late {id : Nat} (n q : Nat) (cq : Value) (F : Nat → Value → World → Prop) (hm : P.follows .mixedOrders = true) (hB : lateB l.toArray n q = true)
    (hslots : ((dsts (l.take n)).all fun d => decide (d < a₀.tmps.size)) = true)
    (hF : ∀ i v W W', F i v W → Below W.heap.size W W' → F i v W')
    (hs : SpecAll P l.toArray a₀ w (l.take n) F 0 (l.take n))
    (hq : ∀ oq, l[q]? = some oq → ∀ (a : Act) (W : World), Below w.heap.size w W →
      (∀ t, t ∉ dsts (l.take n) → a.tmps.getD t undef = a₀.tmps.getD t undef) →
      (∀ i d, (oq.after.any fun e => Region.binds .any e && e.on == i) = true → ((l.toArray[i]?).bind (·.dst)) = some d → F i (a.tmps.getD d undef) W) →
      ∀ W', (execOp a.eval oq).run P W' = .ok (.value cq) W')
    (hFq : ∀ W, F q cq W)
    (hst : ∀ os, l[n]? = some os → ∀ (a : Act) (W : World), Below w.heap.size w W →
      (∀ t, t ∉ dsts (l.take n) → a.tmps.getD t undef = a₀.tmps.getD t undef) →
      (∀ i d, (os.after.any fun e => Region.binds .any e && e.on == i) = true → ((l.toArray[i]?).bind (·.dst)) = some d → F i (a.tmps.getD d undef) W) →
      ∃ W', (execOp a.eval os).run P W = .ok .skip W')
    (hend : ∀ (v : Nat → Value) (W : World), Below w.heap.size w W → (∀ j, j < n → F j (v j) W) → wpList P l.toArray Q (l.drop n) (putAll (l.take n) 0 v a₀) W) :
    (Code.region id l.toArray true).wp P Q a₀ w := by
  have hn : n < l.length := by
    have := hB
    simp only [lateB, Bool.and_eq_true, decide_eq_true_eq] at this
    have h1 := this.1.1.1.1.1.1.1.1.1.1.1
    simp at h1
    omega
  refine wp_region_any hm ?_
  have inv : SInv l a₀ w F n (Array.replicate l.toArray.size false) a₀ w.drew :=
    ⟨⟨by simp, fun j oj _ hl => (by rw [getD_replicate_false] at hl; cases hl), fun t _ ht => getD_in (by simpa using ht) (getD_replicate_false _ _)⟩,
      (Below.refl _ _).drew, rfl, rfl, fun _ _ => rfl, fun j o d hj hl => by rw [getD_replicate_false] at hl; cases hl⟩
  have h := spec_late (P := P) (Q := Q) cq hB hF hs (fun d hd {a} he => by
    have := List.all_eq_true.1 hslots d hd
    simp only [decide_eq_true_eq] at this
    omega) hq hFq hst hend n (List.range n) _ a₀ w.drew (by simp) List.nodup_range (fun j => by
      rw [List.mem_range]
      constructor
      · intro hj
        exact ⟨hj, getD_in (by simp; omega) (getD_replicate_false _ _)⟩
      · exact fun h => h.1) inv
  rw [show n + (l.length - n) = l.toArray.size by simp; omega] at h
  exact h
end
def guardAt (ops : Array Oper) (o : Oper) (d : Nat) (b : Bool) : Bool :=
  match o.guard with
  | none => false
  | some (j, want) => (want == b) && (match ops[j]? with | some g => g.dst == some d | none => false)
theorem wanted_of {ops : Array Oper} {o : Oper} {d : Nat} {b : Bool} {a : Act} (h : guardAt ops o d b = true) (hg : a.tmps.getD d undef = .bool b) : Region.wanted o (yielded ops a.tmps) = true := by
  unfold guardAt at h
  unfold Region.wanted
  split at h
  · cases h
  · rename_i j want hgd
    rw [hgd]
    simp only [Bool.and_eq_true, beq_iff_eq] at h ⊢
    obtain ⟨rfl, h2⟩ := h
    split at h2
    · rename_i g hg2
      simp only [yielded, hg2]
      simp only [beq_iff_eq] at h2
      have ht : a.tmps[d]? = some (.bool want) := by
        rw [Array.getD_eq_getD_getElem?] at hg
        cases e : a.tmps[d]? with
        | none => rw [e] at hg; simp [undef] at hg
        | some v => rw [e] at hg; simpa using hg
      simp [h2, ht]
    · cases h2
end Go.Proofs.YtmgdbfmlnmahpaaGreatDoor
namespace Go.Proofs.YtmgdbfmlnmahpaaGreatDoor
open Go.RowKit
def latesB (ops : Array Oper) (n : Nat) (qs : List Nat) : Bool :=
  decide (n + 1 < ops.size) && (qs.all fun q => decide (q < n)) && Region.noSelect ops &&
  ((List.range n).all fun i => qs.contains i || Region.waitsFor .any ops n i || ((List.range n).any fun j => !(qs.contains j) && decide (i < j) && Region.waitsFor .any ops j i)) && Region.chainB .any ops n && (qs.all fun q => Region.waitsFor .any ops (n + 1) q) &&
  ((List.range ops.size).all fun j => match ops[j]? with | some o => o.after.all fun e => !Region.binds .any e || decide (e.on < j) | none => true) &&
  ((ops.toList.take n).all fun o => o.dst.isSome) && decide (dsts (ops.toList.take n)).Nodup &&
  Region.seqB .any ops (ops.size - n) n (Array.replicate n true ++ Array.replicate (ops.size - n) false) &&
  (match ops[n]? with | some s => s.guard.isNone && s.dst.isNone && (qs.all fun q => match ops[q]? with | some o => o.guard.isNone && o.apart ops s | none => false) | none => false)
def Closed (l : List Oper) (listed : Array Bool) : Prop := ∀ j oj, l[j]? = some oj → listed.getD j false = true → ∀ e ∈ oj.after, Region.binds .any e = true → listed.getD e.on false = true
theorem getD_set_mono {ls : Array Bool} {i k : Nat} (h : ls.getD k false = true) : (ls.setIfInBounds i true).getD k false = true := by
  by_cases e : i = k
  · subst e
    have hk : i < ls.size := by
      rcases Nat.lt_or_ge i ls.size with h1 | h1
      · exact h1
      · simp [Array.getD, Nat.not_lt.2 h1] at h
    simp [Array.getD, hk]
  · rw [getD_set_ne false e]
    exact h
theorem Closed.set {l : List Oper} {ls : Array Bool} (hc : Closed l ls) {i : Nat} {oi : Oper} (ho : l[i]? = some oi) (hd : ∀ e ∈ oi.after, Region.binds .any e = true → ls.getD e.on false = true) : Closed l (ls.setIfInBounds i true) := by
  intro j oj hoj hlj e he hb
  by_cases e1 : i = j
  · subst e1
    obtain rfl : oj = oi := Option.some.inj (hoj.symm.trans ho)
    exact getD_set_mono (hd e he hb)
  · rw [getD_set_ne false e1] at hlj
    exact getD_set_mono (hc j oj hoj hlj e he hb)
section
variable {P : Program} {l : List Oper} {a₀ : Act} {w : World} {F : Nat → Value → World → Prop} {n : Nat} {qs : List Nat} {Q : Exit → Act → World → Prop}
theorem spec_lates (cq : Nat → Value) (hB : latesB l.toArray n qs = true) (hF : ∀ i v W W', F i v W → Below W.heap.size W W' → F i v W')
    (hs : SpecAll P l.toArray a₀ w (l.take n) F 0 (l.take n))
    (hin_all : ∀ d, d ∈ dsts (l.take n) → ∀ {a : Act}, a.tmps.size = a₀.tmps.size → d < a.tmps.size)
    (hq : ∀ q, q ∈ qs → ∀ oq, l[q]? = some oq → ∀ (a : Act) (W : World), Below w.heap.size w W →
      (∀ t, t ∉ dsts (l.take n) → a.tmps.getD t undef = a₀.tmps.getD t undef) →
      (∀ i d, (oq.after.any fun e => Region.binds .any e && e.on == i) = true → ((l.toArray[i]?).bind (·.dst)) = some d → F i (a.tmps.getD d undef) W) →
      ∀ W', (execOp a.eval oq).run P W' = .ok (.value (cq q)) W')
    (hFq : ∀ q, q ∈ qs → ∀ W, F q (cq q) W)
    (hst : ∀ os, l[n]? = some os → ∀ (a : Act) (W : World), Below w.heap.size w W →
      (∀ t, t ∉ dsts (l.take n) → a.tmps.getD t undef = a₀.tmps.getD t undef) →
      (∀ i d, (os.after.any fun e => Region.binds .any e && e.on == i) = true → ((l.toArray[i]?).bind (·.dst)) = some d → F i (a.tmps.getD d undef) W) →
      ∃ W', (execOp a.eval os).run P W = .ok .skip W')
    (hend : ∀ (v : Nat → Value) (W : World), Below w.heap.size w W → (∀ j, j < n → F j (v j) W) → wpList P l.toArray Q (l.drop n) (putAll (l.take n) 0 v a₀) W) :
    ∀ (f : Nat) (todo : List Nat) (listed : Array Bool) (a : Act) (W : World), todo.length = f → todo.Nodup → (∀ j, j ∈ todo ↔ j < n ∧ listed.getD j true = false) →
      SInv l a₀ w F n listed a W → Closed l listed → wpAny P .any l.toArray Q (f + (l.length - n)) listed a W := by
  simp only [latesB, Bool.and_eq_true, decide_eq_true_eq] at hB
  obtain ⟨⟨⟨⟨⟨⟨⟨⟨⟨⟨hn, hqn⟩, hsel⟩, hwait⟩, hch⟩, hwq⟩, hback⟩, hsome⟩, hnd⟩, hseq⟩, hcase⟩ := hB
  simp only [List.size_toArray] at hn hseq hback
  have hqn' : ∀ q, q ∈ qs → q < n := fun q hq => by simpa using List.all_eq_true.1 hqn q hq
  have hl : ∀ j, j < n → (l.take n)[j]? = l[j]? := fun j hj => by simp [hj]
  have ending : ∀ (a : Act) (W : World), a.tmps.size = a₀.tmps.size → a.defers = a₀.defers → (∀ t, t ∉ dsts (l.take n) → a.tmps[t]? = a₀.tmps[t]?) → Below w.heap.size w W →
      (∀ j o d, j < n → l[j]? = some o → o.dst = some d → F j (a.tmps.getD d undef) W) → wpList P l.toArray Q (l.drop n) a W := by
    intro a W hts hdf hrest hbel hfa
    have hfacts : ∀ j, j < n → F j ((fun j => match (l[j]?).bind (·.dst) with | some d => a.tmps.getD d undef | none => undef) j) W := fun j hj => by
      have hjl : j < l.length := by omega
      have hlj : l[j]? = some l[j] := List.getElem?_eq_getElem hjl
      have hso : (l[j]).dst.isSome = true := List.all_eq_true.1 hsome l[j] (by
        have := hl j hj
        rw [hlj] at this
        exact List.mem_of_getElem? this)
      obtain ⟨d, hd⟩ := Option.isSome_iff_exists.1 hso
      simp only [hlj, Option.bind_some, hd]
      exact hfa j _ d hj hlj hd
    have hput := putAll_eq (l.take n) 0 (fun j => match (l[j]?).bind (·.dst) with | some d => a.tmps.getD d undef | none => undef) a a₀ hts.symm hdf.symm hrest (fun j o hj => by
      have hjn : j < n := by
        have := (List.getElem?_eq_some_iff.1 hj).1
        simp at this
        omega
      have hso : o.dst.isSome = true := List.all_eq_true.1 hsome o (List.mem_of_getElem? hj)
      obtain ⟨d, hd⟩ := Option.isSome_iff_exists.1 hso
      refine ⟨d, hd, ?_⟩
      rw [Nat.zero_add, ← hl j hjn, hj]
      simp [hd])
    have := hend _ W hbel hfacts
    rwa [hput] at this
  intro f
  induction f with
  | zero =>
    intro todo listed a W hlen _ hmem inv _
    obtain rfl : todo = [] := List.length_eq_zero_iff.1 hlen
    have hall : ∀ j, j < n → listed.getD j true = true := fun j hj => by
      cases h : listed.getD j true with
      | true => rfl
      | false => exact absurd ((hmem j).2 ⟨hj, h⟩) (by simp)
    have hsz := inv.head.size
    simp only [List.size_toArray] at hsz
    have hL : listed = Array.replicate n true ++ Array.replicate (l.length - n) false := by
      apply Array.ext
      · simp [hsz]; omega
      · intro i h1 h2
        by_cases hi : i < n
        · have := hall i hi
          simp [Array.getD, h1] at this
          rw [Array.getElem_append_left (by simpa using hi)]
          simpa using this
        · have := inv.head.tail i (by omega) (by simpa using (by omega : i < l.length))
          simp [Array.getD, h1] at this
          rw [Array.getElem_append_right (by simp; omega)]
          simpa using this
    have := ending a W inv.tsize inv.defers inv.rest inv.below (fun j o d hj hlj hd => by
      have hjt : listed.getD j false = true := by
        have := hall j hj
        have hjs : j < listed.size := by omega
        simp [Array.getD, hjs] at this ⊢
        exact this
      exact inv.facts j o d hj hjt hlj hd)
    have h3 := wpAny_of_seq (md := .any) (Q' := Q) (l.drop n) n listed a W (fun j => by simp [List.getElem?_drop]) (by rw [hL]; simpa using hseq) this
    simpa using h3
  | succ f ih =>
    intro todo listed a W hlen hnod hmem inv hcl
    rw [show f + 1 + (l.length - n) = (f + (l.length - n)) + 1 by omega]
    have hne : ∃ j, j < n ∧ listed.getD j true = false := by
      cases todo with
      | nil => simp at hlen
      | cons j r => exact ⟨j, (hmem j).1 (by simp)⟩
    obtain ⟨j0, hj0⟩ := hne
    obtain ⟨k, hk, hmin⟩ := exists_min (fun j => j < n ∧ listed.getD j true = false) j0 hj0
    have hkl : k < l.length := by omega
    have hsz := inv.head.size
    simp only [List.size_toArray] at hsz
    have hready : k ∈ Region.ready .any l.toArray listed := by
      refine mem_ready.2 ⟨hk.2, l[k], by simp [List.getElem?_eq_getElem hkl], fun e he hb => ?_⟩
      have h1 := List.all_eq_true.1 hback k (List.mem_range.2 hkl)
      simp only [List.getElem?_toArray, List.getElem?_eq_getElem hkl] at h1
      have h2 := Array.all_eq_true'.1 h1 e he
      simp only [hb, Bool.not_true, Bool.false_or, decide_eq_true_eq] at h2
      have h3 := hmin e.on h2
      cases h4 : listed.getD e.on true with
      | false => exact absurd ⟨by omega, h4⟩ h3
      | true =>
        have h5 : e.on < listed.size := by omega
        simp [Array.getD, h5] at h4 ⊢
        exact h4
    refine ⟨fun h => (by rw [h] at hready; cases hready), fun i hi => ?_⟩
    obtain ⟨hiun, oi, hoi, hdeps⟩ := mem_ready.1 hi
    have hoi' : l[i]? = some oi := by simpa using hoi
    have hdepF : ∀ i' d, (oi.after.any fun e => Region.binds .any e && e.on == i') = true → ((l.toArray[i']?).bind (·.dst)) = some d → F i' (a.tmps.getD d undef) W := fun i' d ha hd => by
      obtain ⟨e, he, hb⟩ := Array.any_eq_true'.1 ha
      simp only [Bool.and_eq_true, beq_iff_eq] at hb
      have h1 := hdeps e he hb.1
      rw [hb.2] at h1
      cases ho' : l[i']? with
      | none => simp [ho'] at hd
      | some o' =>
        simp only [List.getElem?_toArray, ho', Option.bind_some] at hd
        have hi'n : i' < n := by
          rcases Nat.lt_or_ge i' n with h | h
          · exact h
          · have h2 := inv.head.tail i' h (by simpa using (List.getElem?_eq_some_iff.1 ho').1)
            rw [getD_both h2] at h1
            cases h1
        exact inv.facts i' o' d hi'n h1 ho' hd
    have hrestD : ∀ t, t ∉ dsts (l.take n) → a.tmps.getD t undef = a₀.tmps.getD t undef := fun t ht => by have := inv.rest t ht; simp only [Array.getD_eq_getD_getElem?, this]
    rcases Nat.lt_or_ge i n with hin | hin
    · have hso : oi.dst.isSome = true := List.all_eq_true.1 hsome oi (List.mem_of_getElem? ((hl i hin).trans hoi'))
      obtain ⟨di, hdi⟩ := Option.isSome_iff_exists.1 hso
      have hstep := SpecAll.get (l.take n) 0 i oi hs ((hl i hin).trans hoi') a W inv.below hrestD hdepF
      rw [Nat.zero_add] at hstep
      have next : ∀ v W', Below W.heap.size W W' → F i v W' → wpAny P .any l.toArray Q (f + (l.length - n)) (listed.setIfInBounds i true) (a.put oi.dst v) W' := by
        intro v W' hbW hFv
        refine ih (todo.erase i) (listed.setIfInBounds i true) (a.put oi.dst v) W' ?_ (hnod.erase i) ?_ ?_ (hcl.set hoi' hdeps)
        · rw [List.length_erase_of_mem ((hmem i).2 ⟨hin, hiun⟩), hlen]; rfl
        · intro j
          rw [hnod.mem_erase_iff, hmem j]
          by_cases e : i = j
          · subst e
            have hi2 : i < listed.size := by omega
            simp [Array.getD, hi2]
          · rw [getD_set_ne true e]
            constructor
            · exact fun h => h.2
            · exact fun h => ⟨fun e' => e e'.symm, h⟩
        · refine ⟨inv.head.set hi hin, inv.below.trans (hbW.mono inv.below.size), ?_, ?_, ?_, ?_⟩
          · rw [hdi]; simpa [Act.put] using inv.tsize
          · rw [hdi]; exact inv.defers
          · intro t ht
            rw [hdi]
            simp only [Act.put]
            rw [Array.getElem?_setIfInBounds_ne (fun e => ht (by rw [← e]; exact mem_dsts ((hl i hin).trans hoi') hdi))]
            exact inv.rest t ht
          · intro j o d hj hlj hoj hd
            by_cases e : i = j
            · subst e
              have : o = oi := Option.some.inj (hoj.symm.trans hoi')
              subst this
              obtain rfl : d = di := Option.some.inj (hd.symm.trans hdi)
              by_cases hin2 : d < a.tmps.size
              · rw [hd]
                simp only [Act.put]
                have : (a.tmps.setIfInBounds d v).getD d undef = v := by simp [Array.getD, hin2]
                rw [this]
                exact hFv
              · exact absurd trivial (fun _ => hin2 (hin_all d (mem_dsts ((hl i hin).trans hoi') hd) inv.tsize))
            · have hne : di ≠ d := fun e' => e (dsts_apart hnd ((hl i hin).trans hoi') ((hl j hj).trans hoj) hdi (e' ▸ hd))
              rw [hdi]
              simp only [Act.put]
              have : (a.tmps.setIfInBounds di v).getD d undef = a.tmps.getD d undef := by
                simp only [Array.getD_eq_getD_getElem?]
                rw [Array.getElem?_setIfInBounds_ne hne]
              rw [this]
              rw [getD_set_ne false e] at hlj
              exact hF _ _ _ _ (inv.facts j o d hj hlj hoj hd) hbW
      unfold wpOp
      simp only [hoi]
      unfold StepOk at hstep
      split
      · rename_i hw
        simp only [hw, if_true] at hstep
        exact .inl (opOk_wp hstep next)
      · rename_i hw
        simp only [hw] at hstep
        exact next undef W (Below.refl _ _) hstep
    · -- the first of the tail, some of the late operations not yet
      obtain rfl : i = n := by
        by_cases e : i = n
        · exact e
        · exfalso
          have hilt : i < l.length := (List.getElem?_eq_some_iff.1 hoi').1
          have h1 := List.all_eq_true.1 hch i (List.mem_range.2 (by simpa using hilt))
          simp only [Bool.or_eq_true, decide_eq_true_eq] at h1
          rcases h1 with h1 | h1
          · omega
          · obtain ⟨oj, hoj, e', he', hb, hon⟩ := Region.waitsFor_spec h1
            rw [hoi] at hoj
            obtain rfl := Option.some.inj hoj
            have h2 := hdeps e' he' hb
            rw [hon] at h2
            have h3 := inv.head.tail (i - 1) (by omega) (by simp; omega)
            rw [getD_both h3] at h2
            cases h2
      have hothersD : ∀ d j, i - j = d → j < i → j ∉ qs → listed.getD j false = true := by
        intro d
        induction d using Nat.strongRecOn with
        | ind d ihd =>
          intro j hd hj hjq
          have h1 := List.all_eq_true.1 hwait j (List.mem_range.2 hj)
          simp only [Bool.or_eq_true, List.contains_iff_mem, hjq, false_or] at h1
          rcases h1 with h1 | h1
          · obtain ⟨oj, hoj, e', he', hb, hon⟩ := Region.waitsFor_spec h1
            rw [hoi] at hoj
            obtain rfl := Option.some.inj hoj
            have h2 := hdeps e' he' hb
            rwa [hon] at h2
          · obtain ⟨k, hk1, hk2⟩ := List.any_eq_true.1 h1
            simp only [Bool.and_eq_true, decide_eq_true_eq, Bool.not_eq_true', List.mem_range] at hk1 hk2
            obtain ⟨⟨hkq, hjk⟩, hkw⟩ := hk2
            have hkq' : k ∉ qs := fun hm => by
              rw [List.contains_iff_mem.2 hm] at hkq
              cases hkq
            have hkl := ihd (i - k) (by omega) k rfl hk1 hkq'
            obtain ⟨ok, hok, e', he', hb, hon⟩ := Region.waitsFor_spec hkw
            have h2 := hcl k ok (by simpa using hok) hkl e' he' hb
            rwa [hon] at h2
      have hothers : ∀ j, j < i → j ∉ qs → listed.getD j false = true := fun j hj hjq => hothersD _ j rfl hj hjq
      simp only [List.getElem?_toArray, hoi', Bool.and_eq_true, Option.isNone_iff_eq_none] at hcase
      obtain ⟨⟨hgs, hds⟩, hall⟩ := hcase
      have hapq : ∀ q, q ∈ qs → ∀ oq, l[q]? = some oq → oq.guard = none ∧ oq.apart l.toArray oi = true := fun q hq oq hoq => by
        have h1 := List.all_eq_true.1 hall q hq
        simp only [hoq, Bool.and_eq_true, Option.isNone_iff_eq_none] at h1
        exact h1
      obtain ⟨W1, hW1⟩ := hst oi hoi' a W inv.below hrestD hdepF
      have hdrop : l.drop i = oi :: l.drop (i + 1) := by
        have hil : i < l.length := by omega
        rw [List.drop_eq_getElem_cons hil]
        have : l[i] = oi := by simpa [List.getElem?_eq_getElem hil] using hoi'
        rw [this]
      have rest : (∀ a' : Act, a'.tmps.size = a₀.tmps.size → a'.defers = a₀.defers → (∀ t, t ∉ dsts (l.take i) → a'.tmps[t]? = a₀.tmps[t]?) → (∀ j o d, j < i → l[j]? = some o → o.dst = some d → F j (a'.tmps.getD d undef) W) → execOp a'.eval oi = execOp a.eval oi → wpList P l.toArray Q (l.drop (i + 1)) a' W1) →
          ∀ (r : Nat) (R : List Nat) (ls : Array Bool) (a' : Act), R.length = r → R.Nodup → (∀ j, j ∈ R ↔ j < i ∧ ls.getD j true = false) → (∀ j, j ∈ R → j ∈ qs) → ls.size = l.length → ls.getD i false = true → (∀ j, i < j → j < l.length → ls.getD j true = false) →
          a'.tmps.size = a₀.tmps.size → a'.defers = a₀.defers → (∀ t, t ∉ dsts (l.take i) → a'.tmps[t]? = a₀.tmps[t]?) → (∀ j o d, j < i → ls.getD j false = true → l[j]? = some o → o.dst = some d → F j (a'.tmps.getD d undef) W) → execOp a'.eval oi = execOp a.eval oi →
          wpAny P .any l.toArray Q (r + (l.length - (i + 1))) ls a' W1 := by
        intro fin r
        induction r with
        | zero =>
          intro R ls a' hRl _ hmR _ hls hli hlt hts hdf hre hfa hex
          obtain rfl : R = [] := List.length_eq_zero_iff.1 hRl
          have hall' : ∀ j, j < i → ls.getD j false = true := fun j hj => by
            cases h : ls.getD j true with
            | true => have hjs : j < ls.size := by omega
                      simp [Array.getD, hjs] at h ⊢
                      exact h
            | false => exact absurd ((hmR j).2 ⟨hj, h⟩) (by simp)
          have hL : ls = (Array.replicate i true ++ Array.replicate (l.length - i) false).setIfInBounds i true := by
            apply Array.ext_getElem?
            intro j
            rw [Array.getElem?_setIfInBounds, Array.getElem?_append, Array.getElem?_replicate, Array.getElem?_replicate]
            simp only [Array.size_append, Array.size_replicate]
            by_cases hjl : j < l.length
            · have h1 : j < ls.size := by omega
              rw [Array.getElem?_eq_getElem h1]
              by_cases e : i = j
              · subst e
                simp [Array.getD, h1] at hli
                rw [if_pos rfl, if_pos (by omega), hli]
              · rw [if_neg e]
                by_cases hi' : j < i
                · have := hall' j hi'
                  simp [Array.getD, h1] at this
                  rw [if_pos hi', if_pos hi', this]
                · have := hlt j (by omega) hjl
                  simp [Array.getD, h1] at this
                  rw [if_neg hi', if_pos (by omega), this]
            · rw [Array.getElem?_eq_none (by omega), if_neg (by omega), if_neg (by omega), if_neg (by omega)]
          have hseq' : Region.seqB .any l.toArray (l.length - (i + 1)) (i + 1) ls = true := by
            rw [show l.length - i = (l.length - (i + 1)) + 1 by omega] at hseq
            unfold Region.seqB at hseq
            simp only [Bool.and_eq_true] at hseq
            rw [hL, show l.length - i = (l.length - (i + 1)) + 1 by omega]
            exact hseq.2
          have hfin := fin a' hts hdf hre (fun j o d hj hlj hd => hfa j o d hj (hall' j hj) hlj hd) hex
          have h3 := wpAny_of_seq (P := P) (ops := l.toArray) (md := .any) (Q' := Q) (l.drop (i + 1)) (i + 1) ls a' W1 (fun m => by simp [List.getElem?_drop]) (by simpa using hseq') hfin
          simpa using h3
        | succ r ihr =>
          intro R ls a' hRl hRn hmR hRq hls hli hlt hts hdf hre hfa hex
          rw [show r + 1 + (l.length - (i + 1)) = (r + (l.length - (i + 1))) + 1 by omega]
          obtain ⟨j0, hj0⟩ : ∃ j, j < i ∧ ls.getD j true = false := by
            cases R with
            | nil => simp at hRl
            | cons j _ => exact ⟨j, (hmR j).1 (by simp)⟩
          obtain ⟨m, hm, hmmin⟩ := exists_min (fun j => j < i ∧ ls.getD j true = false) j0 hj0
          have hml : m < l.length := by omega
          have hmready : m ∈ Region.ready .any l.toArray ls := by
            refine mem_ready.2 ⟨hm.2, l[m], by simp [List.getElem?_eq_getElem hml], fun e he hb => ?_⟩
            have h1 := List.all_eq_true.1 hback m (List.mem_range.2 hml)
            simp only [List.getElem?_toArray, List.getElem?_eq_getElem hml] at h1
            have h2 := Array.all_eq_true'.1 h1 e he
            simp only [hb, Bool.not_true, Bool.false_or, decide_eq_true_eq] at h2
            have h3 := hmmin e.on h2
            cases h4 : ls.getD e.on true with
            | false => exact absurd ⟨by omega, h4⟩ h3
            | true =>
              have h5 : e.on < ls.size := by omega
              simp [Array.getD, h5] at h4 ⊢
              exact h4
          refine ⟨fun h => (by rw [h] at hmready; cases hmready), fun k hk => ?_⟩
          obtain ⟨hkun, ok, hok, hkdeps⟩ := mem_ready.1 hk
          have hok' : l[k]? = some ok := by simpa using hok
          have hkl : k < l.length := (List.getElem?_eq_some_iff.1 hok').1
          have hkR : k ∈ R := by
            rcases Nat.lt_trichotomy k i with h | h | h
            · exact (hmR k).2 ⟨h, hkun⟩
            · subst h
              have hks : k < ls.size := by omega
              simp [Array.getD, hks] at hli hkun
              rw [hli] at hkun
              cases hkun
            · exfalso
              by_cases e : k = i + 1
              · subst e
                have h1 := List.all_eq_true.1 hwq m (hRq m ((hmR m).2 hm))
                obtain ⟨oj, hoj, e', he', hb, hon⟩ := Region.waitsFor_spec h1
                rw [hok] at hoj
                obtain rfl := Option.some.inj hoj
                have h2 := hkdeps e' he' hb
                rw [hon, getD_both hm.2] at h2
                cases h2
              · have h1 := List.all_eq_true.1 hch k (List.mem_range.2 (by simpa using hkl))
                simp only [Bool.or_eq_true, decide_eq_true_eq] at h1
                rcases h1 with h1 | h1
                · omega
                · obtain ⟨oj, hoj, e', he', hb, hon⟩ := Region.waitsFor_spec h1
                  rw [hok] at hoj
                  obtain rfl := Option.some.inj hoj
                  have h2 := hkdeps e' he' hb
                  rw [hon, getD_both (hlt (k - 1) (by omega) (by omega))] at h2
                  cases h2
          have hki : k < i := ((hmR k).1 hkR).1
          have hkq := hRq k hkR
          obtain ⟨hgk, hap⟩ := hapq k hkq ok hok'
          have hsk : ok.dst.isSome = true := List.all_eq_true.1 hsome ok (List.mem_of_getElem? ((hl k hki).trans hok'))
          obtain ⟨dk, hdk⟩ := Option.isSome_iff_exists.1 hsk
          have hrun := hq k hkq ok hok' a' W inv.below (fun t ht => by have := hre t ht; simp only [Array.getD_eq_getD_getElem?, this]) (fun i' d ha hd => by
            obtain ⟨e, he, hb⟩ := Array.any_eq_true'.1 ha
            simp only [Bool.and_eq_true, beq_iff_eq] at hb
            have h1 := hkdeps e he hb.1
            rw [hb.2] at h1
            cases ho' : l[i']? with
            | none => simp [ho'] at hd
            | some o' =>
              simp only [List.getElem?_toArray, ho', Option.bind_some] at hd
              rcases Nat.lt_trichotomy i' i with h | h | h
              · exact hfa i' o' d h h1 ho' hd
              · subst h
                obtain rfl : o' = oi := Option.some.inj (ho'.symm.trans hoi')
                rw [hds] at hd
                cases hd
              · have h2 := hlt i' h (List.getElem?_eq_some_iff.1 ho').1
                rw [getD_both h2] at h1
                cases h1)
          have hdklt : dk < a'.tmps.size := hin_all dk (mem_dsts ((hl k hki).trans hok') hdk) hts
          obtain ⟨p1, _, _⟩ := Oper.apart_spec hap
          have hexk : execOp (a'.put ok.dst (cq k)).eval oi = execOp a'.eval oi := execOp_put oi (fun cs b => Region.noSelect_spec hsel i oi cs b hoi) a' ok.dst (cq k) p1
          unfold wpOp
          simp only [hok]
          rw [if_pos (by simp [Region.wanted, hgk])]
          left
          unfold Oper.wp
          rw [hrun W1]
          simp only [Oper.upon]
          refine ihr (R.erase k) (ls.setIfInBounds k true) (a'.put ok.dst (cq k)) ?_ (hRn.erase k) ?_ (fun j hj => hRq j (List.mem_of_mem_erase hj)) (by simpa using hls) ?_ ?_ ?_ ?_ ?_ ?_ (hexk.trans hex)
          · rw [List.length_erase_of_mem hkR, hRl]; rfl
          · intro j
            rw [hRn.mem_erase_iff, hmR j]
            by_cases e : k = j
            · subst e
              have hk2 : k < ls.size := by omega
              simp [Array.getD, hk2]
            · rw [getD_set_ne true e]
              exact ⟨fun h => h.2, fun h => ⟨fun e' => e e'.symm, h⟩⟩
          · rw [getD_set_ne false (by omega)]
            exact hli
          · intro j h1 h2
            rw [getD_set_ne true (by omega)]
            exact hlt j h1 h2
          · rw [hdk]; simpa [Act.put] using hts
          · rw [hdk]; exact hdf
          · intro t ht
            rw [hdk]
            simp only [Act.put]
            rw [Array.getElem?_setIfInBounds_ne (fun e => ht (by rw [← e]; exact mem_dsts ((hl k hki).trans hok') hdk))]
            exact hre t ht
          · intro j o d hj hlj hoj hd
            by_cases e : k = j
            · subst e
              obtain rfl : o = ok := Option.some.inj (hoj.symm.trans hok')
              obtain rfl : d = dk := Option.some.inj (hd.symm.trans hdk)
              rw [hd]
              simp only [Act.put]
              have : (a'.tmps.setIfInBounds d (cq k)).getD d undef = cq k := by simp [Array.getD, hdklt]
              rw [this]
              exact hFq k hkq W
            · have hne : dk ≠ d := fun e' => e (dsts_apart hnd ((hl k hki).trans hok') ((hl j hj).trans hoj) hdk (e' ▸ hd))
              rw [hdk]
              simp only [Act.put]
              have : (a'.tmps.setIfInBounds dk (cq k)).getD d undef = a'.tmps.getD d undef := by
                simp only [Array.getD_eq_getD_getElem?]
                rw [Array.getElem?_setIfInBounds_ne hne]
              rw [this]
              rw [getD_set_ne false e] at hlj
              exact hfa j o d hj hlj hoj hd
      unfold wpOp
      simp only [hoi]
      rw [if_pos (by simp [Region.wanted, hgs])]
      refine Classical.byContradiction fun hno => hno (.inl ?_)
      have hnB := fun b => hno (.inr b)
      clear hno
      unfold Oper.wp
      rw [hW1]
      simp only [Oper.upon]
      rw [hds]
      simp only [Act.put]
      rw [show f + (l.length - i) = (f + 1) + (l.length - (i + 1)) by omega]
      refine rest ?_ (f + 1) todo (listed.setIfInBounds i true) a hlen hnod ?_ ?_ (by simpa using hsz) ?_ ?_ inv.tsize inv.defers inv.rest ?_ rfl
      · intro a' hts hdf hre hfa hex
        have hE := ending a' W hts hdf hre inv.below hfa
        rw [hdrop] at hE
        unfold wpList at hE
        have hw1 : Region.wanted oi (yielded l.toArray a'.tmps) = true := by simp [Region.wanted, hgs]
        rw [if_pos hw1] at hE
        rcases hE with hE | ⟨has, hlo⟩
        · unfold Oper.wp at hE
          rw [hex, hW1] at hE
          simp only [Oper.upon] at hE
          rw [hds] at hE
          simp only [Act.put] at hE
          exact hE
        · exact absurd ⟨by unfold Oper.asks at has ⊢; rw [hex] at has; exact has, hlo⟩ hnB
      · intro j
        constructor
        · intro h
          have := (hmem j).1 h
          exact ⟨this.1, by rw [getD_set_ne true (by omega)]; exact this.2⟩
        · intro h
          refine (hmem j).2 ⟨h.1, ?_⟩
          have h2 := h.2
          rwa [getD_set_ne true (by omega)] at h2
      · intro j hj
        have h1 := (hmem j).1 hj
        refine Classical.byContradiction fun e => ?_
        have h2 := hothers j h1.1 e
        rw [getD_both h1.2] at h2
        cases h2
      · have hil : i < listed.size := by omega
        simp [Array.getD, hil]
      · intro j h1 h2
        rw [getD_set_ne true (by omega)]
        exact inv.head.tail j (by omega) (by simpa using h2)
      · intro j o d hj hlj hoj hd
        rw [getD_set_ne false (by omega)] at hlj
        exact inv.facts j o d hj hlj hoj hd
theorem region_lates {id : Nat} (n : Nat) (qs : List Nat) (cq : Nat → Value) (F : Nat → Value → World → Prop) (hm : P.follows .mixedOrders = true) (hB : latesB l.toArray n qs = true)
    (hslots : ((dsts (l.take n)).all fun d => decide (d < a₀.tmps.size)) = true)
    (hF : ∀ i v W W', F i v W → Below W.heap.size W W' → F i v W')
    (hs : SpecAll P l.toArray a₀ w (l.take n) F 0 (l.take n))
    (hq : ∀ q, q ∈ qs → ∀ oq, l[q]? = some oq → ∀ (a : Act) (W : World), Below w.heap.size w W →
      (∀ t, t ∉ dsts (l.take n) → a.tmps.getD t undef = a₀.tmps.getD t undef) →
      (∀ i d, (oq.after.any fun e => Region.binds .any e && e.on == i) = true → ((l.toArray[i]?).bind (·.dst)) = some d → F i (a.tmps.getD d undef) W) →
      ∀ W', (execOp a.eval oq).run P W' = .ok (.value (cq q)) W')
    (hFq : ∀ q, q ∈ qs → ∀ W, F q (cq q) W)
    (hst : ∀ os, l[n]? = some os → ∀ (a : Act) (W : World), Below w.heap.size w W →
      (∀ t, t ∉ dsts (l.take n) → a.tmps.getD t undef = a₀.tmps.getD t undef) →
      (∀ i d, (os.after.any fun e => Region.binds .any e && e.on == i) = true → ((l.toArray[i]?).bind (·.dst)) = some d → F i (a.tmps.getD d undef) W) →
      ∃ W', (execOp a.eval os).run P W = .ok .skip W')
    (hend : ∀ (v : Nat → Value) (W : World), Below w.heap.size w W → (∀ j, j < n → F j (v j) W) → wpList P l.toArray Q (l.drop n) (putAll (l.take n) 0 v a₀) W) :
    (Code.region id l.toArray true).wp P Q a₀ w := by
  have hn : n < l.length := by
    have := hB
    simp only [latesB, Bool.and_eq_true, decide_eq_true_eq] at this
    have h1 := this.1.1.1.1.1.1.1.1.1.1
    simp at h1
    omega
  refine wp_region_any hm ?_
  have inv : SInv l a₀ w F n (Array.replicate l.toArray.size false) a₀ w.drew :=
    ⟨⟨by simp, fun j oj _ hl => (by rw [getD_replicate_false] at hl; cases hl), fun t _ ht => getD_in (by simpa using ht) (getD_replicate_false _ _)⟩,
      (Below.refl _ _).drew, rfl, rfl, fun _ _ => rfl, fun j o d hj hl => by rw [getD_replicate_false] at hl; cases hl⟩
  have h := spec_lates (P := P) (Q := Q) cq hB hF hs (fun d hd {a} he => by
    have := List.all_eq_true.1 hslots d hd
    simp only [decide_eq_true_eq] at this
    omega) hq hFq hst hend n (List.range n) _ a₀ w.drew (by simp) List.nodup_range (fun j => by
      rw [List.mem_range]
      constructor
      · intro hj
        exact ⟨hj, getD_in (by simp; omega) (getD_replicate_false _ _)⟩
      · exact fun h => h.1) inv (fun j oj _ hl => (by rw [getD_replicate_false] at hl; cases hl))
  rw [show n + (l.length - n) = l.toArray.size by simp; omega] at h
  exact h
end
end Go.Proofs.YtmgdbfmlnmahpaaGreatDoor
