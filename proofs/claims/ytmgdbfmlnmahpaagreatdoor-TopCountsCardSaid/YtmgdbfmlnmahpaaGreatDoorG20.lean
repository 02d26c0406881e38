/- A part of the proof of TopCounts. -/
import Derived.Test.YtmgdbfmlnmahpaaGreatDoorG03
namespace Go.Proofs.YtmgdbfmlnmahpaaGreatDoor
open Go.RowKit
def allB (ops : Array Oper) (n : Nat) : Bool :=
  decide (n = ops.size) &&
  ((List.range ops.size).all fun j => match ops[j]? with | some o => o.after.all fun e => !Region.binds .any e || decide (e.on < j) | none => true) &&
  ((ops.toList.take n).all fun o => o.dst.isSome) && decide (dsts (ops.toList.take n)).Nodup &&
  Region.seqB .any ops (ops.size - n) n (Array.replicate n true ++ Array.replicate (ops.size - n) false)
section
variable {P : Program} {l : List Oper} {a₀ : Act} {w : World} {F : Nat → Value → World → Prop} {n : Nat} {Q : Exit → Act → World → Prop}
theorem specAll_any (hB : allB l.toArray n = true) (hF : ∀ i v W W', F i v W → Below W.heap.size W W' → F i v W')
    (hs : SpecAll P l.toArray a₀ w (l.take n) F 0 (l.take n))
    (hin_all : ∀ d, d ∈ dsts (l.take n) → ∀ {a : Act}, a.tmps.size = a₀.tmps.size → d < a.tmps.size)
    (hend : ∀ (v : Nat → Value) (W : World), Below w.heap.size w W → (∀ j, j < n → F j (v j) W) → wpList P l.toArray Q (l.drop n) (putAll (l.take n) 0 v a₀) W) :
    ∀ (f : Nat) (todo : List Nat) (listed : Array Bool) (a : Act) (W : World), todo.length = f → todo.Nodup → (∀ j, j ∈ todo ↔ j < n ∧ listed.getD j true = false) →
      SInv l a₀ w F n listed a W → wpAny P .any l.toArray Q (f + (l.length - n)) listed a W := by
  simp only [allB, Bool.and_eq_true, decide_eq_true_eq] at hB
  obtain ⟨⟨⟨⟨hn, hback⟩, hsome⟩, hnd⟩, hseq⟩ := hB
  simp only [List.size_toArray] at hn hseq hback
  have hl : ∀ j, j < n → (l.take n)[j]? = l[j]? := fun j hj => by simp [hj]
  intro f
  induction f with
  | zero =>
    intro todo listed a W hlen _ hmem inv
    obtain rfl : todo = [] := List.length_eq_zero_iff.1 hlen
    have hall : ∀ j, j < n → listed.getD j true = true := fun j hj => by
      cases h : listed.getD j true with
      | true => rfl
      | false => exact absurd ((hmem j).2 ⟨hj, h⟩) (by simp)
    have hsz := inv.head.size
    simp only [List.size_toArray] at hsz
    have hL : listed = Array.replicate n true ++ Array.replicate (l.length - n) false := by
      apply Array.ext
      · simp [hsz]; omega
      · intro i h1 h2
        by_cases hi : i < n
        · have := hall i hi
          simp [Array.getD, h1] at this
          rw [Array.getElem_append_left (by simpa using hi)]
          simpa using this
        · have := inv.head.tail i (by omega) (by simpa using (by omega : i < l.length))
          simp [Array.getD, h1] at this
          rw [Array.getElem_append_right (by simp; omega)]
          simpa using this
    have hfacts : ∀ j, j < n → F j ((fun j => match (l[j]?).bind (·.dst) with | some d => a.tmps.getD d undef | none => undef) j) W := fun j hj => by
      have hjl : j < l.length := by omega
      have hlj : l[j]? = some l[j] := List.getElem?_eq_getElem hjl
      have hjt : listed.getD j false = true := by
        have := hall j hj
        have hjs : j < listed.size := by omega
        simp [Array.getD, hjs] at this ⊢
        exact this
      have hso : (l[j]).dst.isSome = true := List.all_eq_true.1 hsome l[j] (by
        have := hl j hj
        rw [hlj] at this
        exact List.mem_of_getElem? this)
      obtain ⟨d, hd⟩ := Option.isSome_iff_exists.1 hso
      simp only [hlj, Option.bind_some, hd]
      exact inv.facts j _ d hj hjt hlj hd
    have hput := putAll_eq (l.take n) 0 (fun j => match (l[j]?).bind (·.dst) with | some d => a.tmps.getD d undef | none => undef) a a₀ inv.tsize.symm inv.defers.symm inv.rest (fun j o hj => by
      have hjn : j < n := by
        have := (List.getElem?_eq_some_iff.1 hj).1
        simp at this
        omega
      have hso : o.dst.isSome = true := List.all_eq_true.1 hsome o (List.mem_of_getElem? hj)
      obtain ⟨d, hd⟩ := Option.isSome_iff_exists.1 hso
      refine ⟨d, hd, ?_⟩
      rw [Nat.zero_add, ← hl j hjn, hj]
      simp [hd])
    have := hend _ W inv.below hfacts
    rw [hput] at this
    have h3 := wpAny_of_seq (md := .any) (Q' := Q) (l.drop n) n listed a W (fun j => by simp [List.getElem?_drop]) (by rw [hL]; simpa using hseq) this
    simpa using h3
  | succ f ih =>
    intro todo listed a W hlen hnod hmem inv
    rw [show f + 1 + (l.length - n) = (f + (l.length - n)) + 1 by omega]
    have hne : ∃ j, j < n ∧ listed.getD j true = false := by
      cases todo with
      | nil => simp at hlen
      | cons j r => exact ⟨j, (hmem j).1 (by simp)⟩
    obtain ⟨j0, hj0⟩ := hne
    obtain ⟨k, hk, hmin⟩ := exists_min (fun j => j < n ∧ listed.getD j true = false) j0 hj0
    have hkl : k < l.length := by omega
    have hsz := inv.head.size
    simp only [List.size_toArray] at hsz
    have hready : k ∈ Region.ready .any l.toArray listed := by
      refine mem_ready.2 ⟨hk.2, l[k], by simp [List.getElem?_eq_getElem hkl], fun e he hb => ?_⟩
      have h1 := List.all_eq_true.1 hback k (List.mem_range.2 hkl)
      simp only [List.getElem?_toArray, List.getElem?_eq_getElem hkl] at h1
      have h2 := Array.all_eq_true'.1 h1 e he
      simp only [hb, Bool.not_true, Bool.false_or, decide_eq_true_eq] at h2
      have h3 := hmin e.on h2
      cases h4 : listed.getD e.on true with
      | false => exact absurd ⟨by omega, h4⟩ h3
      | true =>
        have h5 : e.on < listed.size := by omega
        simp [Array.getD, h5] at h4 ⊢
        exact h4
    refine ⟨fun h => (by rw [h] at hready; cases hready), fun i hi => ?_⟩
    have hin : i < n := by
      obtain ⟨_, oi, hoi, _⟩ := mem_ready.1 hi
      have hoi' : l[i]? = some oi := by simpa using hoi
      rw [hn]
      exact (List.getElem?_eq_some_iff.1 hoi').1
    obtain ⟨hiun, oi, hoi, hdeps⟩ := mem_ready.1 hi
    have hoi' : l[i]? = some oi := by simpa using hoi
    have hso : oi.dst.isSome = true := List.all_eq_true.1 hsome oi (List.mem_of_getElem? ((hl i hin).trans hoi'))
    obtain ⟨di, hdi⟩ := Option.isSome_iff_exists.1 hso
    have hstep := SpecAll.get (l.take n) 0 i oi hs ((hl i hin).trans hoi') a W inv.below
      (fun t ht => by have := inv.rest t ht; simp only [Array.getD_eq_getD_getElem?, this])
      (fun i' d ha hd => by
        obtain ⟨e, he, hb⟩ := Array.any_eq_true'.1 ha
        simp only [Bool.and_eq_true, beq_iff_eq] at hb
        have h1 := hdeps e he hb.1
        rw [hb.2] at h1
        cases ho' : l[i']? with
        | none => simp [ho'] at hd
        | some o' =>
          simp only [List.getElem?_toArray, ho', Option.bind_some] at hd
          have hi'n : i' < n := by
            rcases Nat.lt_or_ge i' n with h | h
            · exact h
            · have h2 := inv.head.tail i' h (by simpa using (List.getElem?_eq_some_iff.1 ho').1)
              rw [getD_both h2] at h1
              cases h1
          exact inv.facts i' o' d hi'n h1 ho' hd)
    rw [Nat.zero_add] at hstep
    have next : ∀ v W', Below W.heap.size W W' → F i v W' → wpAny P .any l.toArray Q (f + (l.length - n)) (listed.setIfInBounds i true) (a.put oi.dst v) W' := by
      intro v W' hbW hFv
      refine ih (todo.erase i) (listed.setIfInBounds i true) (a.put oi.dst v) W' ?_ (hnod.erase i) ?_ ?_
      · rw [List.length_erase_of_mem ((hmem i).2 ⟨hin, hiun⟩), hlen]; rfl
      · intro j
        rw [hnod.mem_erase_iff, hmem j]
        by_cases e : i = j
        · subst e
          have hi2 : i < listed.size := by omega
          simp [Array.getD, hi2]
        · rw [getD_set_ne true e]
          constructor
          · exact fun h => h.2
          · exact fun h => ⟨fun e' => e e'.symm, h⟩
      · refine ⟨inv.head.set hi hin, inv.below.trans (hbW.mono inv.below.size), ?_, ?_, ?_, ?_⟩
        · rw [hdi]; simpa [Act.put] using inv.tsize
        · rw [hdi]; exact inv.defers
        · intro t ht
          rw [hdi]
          simp only [Act.put]
          rw [Array.getElem?_setIfInBounds_ne (fun e => ht (by rw [← e]; exact mem_dsts ((hl i hin).trans hoi') hdi))]
          exact inv.rest t ht
        · intro j o d hj hlj hoj hd
          by_cases e : i = j
          · subst e
            have : o = oi := Option.some.inj (hoj.symm.trans hoi')
            subst this
            obtain rfl : d = di := Option.some.inj (hd.symm.trans hdi)
            by_cases hin2 : d < a.tmps.size
            · rw [hd]
              simp only [Act.put]
              have : (a.tmps.setIfInBounds d v).getD d undef = v := by simp [Array.getD, hin2]
              rw [this]
              exact hFv
            · exact absurd trivial (fun _ => hin2 (hin_all d (mem_dsts ((hl i hin).trans hoi') hd) inv.tsize))
          · have hne : di ≠ d := fun e' => e (dsts_apart hnd ((hl i hin).trans hoi') ((hl j hj).trans hoj) hdi (e' ▸ hd))
            rw [hdi]
            simp only [Act.put]
            have : (a.tmps.setIfInBounds di v).getD d undef = a.tmps.getD d undef := by
              simp only [Array.getD_eq_getD_getElem?]
              rw [Array.getElem?_setIfInBounds_ne hne]
            rw [this]
            rw [getD_set_ne false e] at hlj
            exact hF _ _ _ _ (inv.facts j o d hj hlj hoj hd) hbW
    unfold wpOp
    simp only [hoi]
    unfold StepOk at hstep
    split
    · rename_i hw
      simp only [hw, if_true] at hstep
      exact .inl (opOk_wp hstep next)
    · rename_i hw
      simp only [hw] at hstep
      exact next undef W (Below.refl _ _) hstep
theorem region_all {id : Nat} (n : Nat) (F : Nat → Value → World → Prop) (hm : P.follows .mixedOrders = true) (hB : allB l.toArray n = true)
    (hslots : ((dsts (l.take n)).all fun d => decide (d < a₀.tmps.size)) = true)
    (hF : ∀ i v W W', F i v W → Below W.heap.size W W' → F i v W')
    (hs : SpecAll P l.toArray a₀ w (l.take n) F 0 (l.take n))
    (hend : ∀ (v : Nat → Value) (W : World), Below w.heap.size w W → (∀ j, j < n → F j (v j) W) → wpList P l.toArray Q (l.drop n) (putAll (l.take n) 0 v a₀) W) :
    (Code.region id l.toArray true).wp P Q a₀ w := by
  have hn : n = l.length := by
    simp only [allB, Bool.and_eq_true, decide_eq_true_eq] at hB
    simpa using hB.1.1.1.1
  refine wp_region_any hm ?_
  have inv : SInv l a₀ w F n (Array.replicate l.toArray.size false) a₀ w.drew :=
    ⟨⟨by simp, fun j oj _ hl => (by rw [getD_replicate_false] at hl; cases hl), fun t _ ht => getD_in (by simpa using ht) (getD_replicate_false _ _)⟩,
      (Below.refl _ _).drew, rfl, rfl, fun _ _ => rfl, fun j o d hj hl => by rw [getD_replicate_false] at hl; cases hl⟩
  have h := specAll_any (P := P) (Q := Q) hB hF hs (fun d hd {a} he => by
    have := List.all_eq_true.1 hslots d hd
    simp only [decide_eq_true_eq] at this
    omega) hend n (List.range n) _ a₀ w.drew (by simp) List.nodup_range (fun j => by
      rw [List.mem_range]
      constructor
      · intro hj
        exact ⟨hj, getD_in (by simp; omega) (getD_replicate_false _ _)⟩
      · exact fun h => h.1) inv
  rw [show n + (l.length - n) = l.toArray.size by simp; omega] at h
  exact h
end
end Go.Proofs.YtmgdbfmlnmahpaaGreatDoor
