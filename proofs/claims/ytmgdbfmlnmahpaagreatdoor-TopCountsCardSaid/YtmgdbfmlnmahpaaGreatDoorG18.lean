/- A part of the proof of TopCounts. -/
import Derived.Test.YtmgdbfmlnmahpaaGreatDoorG16
import Derived.Test.YtmgdbfmlnmahpaaGreatDoorG17
namespace Go.Proofs.YtmgdbfmlnmahpaaGreatDoor
def Sk.new (k : Nat) : Sk := if k = 1 then .dist [] else if k = 2 then .cnt zerosC else .hst []
def Sk.add (h n : Nat) : Sk → Sk
  | .dist L => .dist (ins h L)
  | .cnt L => .cnt (addC L h n)
  | .hst l => .hst (putH (bkt h) n l)
def Sk.ask (h : Nat) : Sk → Nat
  | .dist L => L.length
  | .cnt L => countC L h
  | .hst l => min (sumH (bkt h) l) maxU
def Sk.cost : Sk → Nat
  | .dist L => 8 * L.length + 16
  | .cnt L => 8 * L.length + 16
  | .hst l => 16 * l.length + 16
def Sk.len : Sk → Nat
  | .dist L => L.length
  | .cnt _ => 0
  | .hst l => l.length
theorem Sk.new_ok (k : Nat) : (Sk.new k).Ok ∧ (Sk.new k).len = 0 := by
  unfold Sk.new
  split
  · exact ⟨⟨List.Pairwise.nil, by simp [SmallC], by simp⟩, rfl⟩
  · split
    · exact ⟨zerosC_ok, rfl⟩
    · exact ⟨⟨⟨List.Pairwise.nil, by simp [PosH], by simp⟩, by simp, by simp⟩, rfl⟩
theorem putH_good {l : List (Nat × Nat)} (hl : GoodL l) (hs : ∀ x ∈ l, x.1 ≤ 1000) (h n : Nat) (hh : h ≤ maxU) (hn : n ≤ maxU) : GoodL (putH (bkt h) n l) ∧ ∀ x ∈ putH (bkt h) n l, x.1 ≤ 1000 := by
  refine ⟨⟨putH_asc _ _ _ hl.1, putH_pos _ _ hn _ hl.2.1, fun x hx => ?_⟩, fun x hx => ?_⟩
  · rcases putH_mem _ _ _ x hx with e | hx
    · rw [e]; exact bkt_good h hh
    · exact hl.2.2 x hx
  · rcases putH_mem _ _ _ x hx with e | hx
    · rw [e]; exact bkt_le h hh
    · exact hs x hx
theorem Sk.add_ok {x : Sk} (hx : x.Ok) (hl : x.len + 1 ≤ 60) (h n : Nat) (hh : h ≤ maxU) (hn : n ≤ maxU) : (x.add h n).Ok ∧ (x.add h n).len ≤ x.len + 1 := by
  cases x with
  | dist L =>
    obtain ⟨h1, h2, h3⟩ := hx
    have h4 := ins_le h L
    have h5 : L.length + 1 ≤ 60 := hl
    refine ⟨⟨ins_asc _ _ h1, fun y hy => ?_, by omega⟩, h4⟩
    rcases (ins_mem h y L).1 hy with rfl | hy
    · exact hh
    · exact h2 y hy
  | cnt L => exact ⟨⟨addC_small hx.1 _ _, by rw [addC_length]; exact hx.2⟩, Nat.zero_le _⟩
  | hst l =>
    obtain ⟨h1, h2, h3⟩ := hx
    have h4 := putH_len (bkt h) n hn l h1.1 h1.2.1
    have h5 : l.length + 1 ≤ 60 := hl
    have h6 := putH_good h1 h3 h n hh hn
    exact ⟨⟨h6.1, by omega, h6.2⟩, h4⟩
def allK (k : Nat) (its : List (Nat × Nat)) : Sk := its.foldl (fun a x => a.add x.1 x.2) (Sk.new k)
theorem allK_snoc (k : Nat) (its : List (Nat × Nat)) (x : Nat × Nat) : allK k (its ++ [x]) = (allK k its).add x.1 x.2 := by simp [allK]
theorem allK_ok (k : Nat) (its : List (Nat × Nat)) (hs : SmallI its) (hl : its.length ≤ 50) : ∀ j, j ≤ its.length → (allK k (its.take j)).Ok ∧ (allK k (its.take j)).len ≤ j := by
  intro j
  induction j with
  | zero => intro _; exact ⟨(Sk.new_ok k).1, by show (Sk.new k).len ≤ 0; rw [(Sk.new_ok k).2]; exact Nat.le_refl _⟩
  | succ j ih =>
    intro hj
    obtain ⟨h1, h2⟩ := ih (by omega)
    have hx : its[j]? = some its[j] := List.getElem?_eq_getElem (by omega)
    rw [List.take_add_one, hx]
    show (allK k (its.take j ++ [its[j]])).Ok ∧ _
    rw [Option.toList_some, allK_snoc]
    have h3 := hs its[j] (List.getElem_mem (by omega))
    have h4 := Sk.add_ok h1 (by omega) its[j].1 its[j].2 h3.1 h3.2
    exact ⟨h4.1, by omega⟩
theorem allK_kind (k : Nat) : ∀ its : List (Nat × Nat), (∀ a : Sk, (its.foldl (fun a x => a.add x.1 x.2) a).kind = a.kind)
  | [], _ => rfl
  | x :: its, a => by
    rw [List.foldl_cons, allK_kind k its]
    cases a <;> rfl
theorem Sk.new_kind (k : Nat) (h1 : 1 ≤ k) (h3 : k ≤ 3) : (Sk.new k).kind = (k : Int) := by
  unfold Sk.new
  split
  · subst_vars; rfl
  · split
    · subst_vars; rfl
    · show (3 : Int) = _; omega
theorem allK_dist : ∀ (its : List (Nat × Nat)) (L : List Nat), its.foldl (fun a x => a.add x.1 x.2) (Sk.dist L) = .dist (insAll L (its.map Prod.fst))
  | [], L => rfl
  | x :: its, L => by
    rw [List.foldl_cons]
    exact (allK_dist its (ins x.1 L)).trans (by simp [insAll])
theorem allK_cnt : ∀ (its : List (Nat × Nat)) (L : List Nat), its.foldl (fun a x => a.add x.1 x.2) (Sk.cnt L) = .cnt (allC L its)
  | [], L => rfl
  | x :: its, L => by
    rw [List.foldl_cons]
    exact (allK_cnt its (addC L x.1 x.2)).trans (by simp [allC])
theorem allK_hst : ∀ (its : List (Nat × Nat)) (l : List (Nat × Nat)), its.foldl (fun a x => a.add x.1 x.2) (Sk.hst l) = .hst (its.foldl (fun a x => putH (bkt x.1) x.2 a) l)
  | [], l => rfl
  | x :: its, l => by
    rw [List.foldl_cons]
    exact allK_hst its (putH (bkt x.1) x.2 l)
theorem allK1 (its : List (Nat × Nat)) (h : Nat) : (allK 1 its).ask h = diffN (its.map Prod.fst) := by
  show (its.foldl (fun a x => Sk.add x.1 x.2 a) (Sk.dist [])).ask h = _
  rw [allK_dist]
  rfl
theorem allK2 (its : List (Nat × Nat)) (h : Nat) : leastC h its ≤ (allK 2 its).ask h := by
  show _ ≤ (its.foldl (fun a x => Sk.add x.1 x.2 a) (Sk.cnt zerosC)).ask h
  rw [allK_cnt]
  exact countC_least h its
theorem allK3 (its : List (Nat × Nat)) (hs : SmallI its) (h : Nat) : leastH h its ≤ (allK 3 its).ask h := by
  show _ ≤ (its.foldl (fun a x => Sk.add x.1 x.2 a) (Sk.hst [])).ask h
  rw [allK_hst]
  have := (rankH_ge h its.length its hs).2
  rw [List.take_length] at this
  exact this
theorem mergeH_none {l : List (Nat × Nat)} (h : AscH l) (hp : PosH l) : mergeH [] l = l := by
  have key : ∀ k, mergeH [] (l.take k) = l.take k := by
    intro k
    induction k with
    | zero => rfl
    | succ k ih =>
      cases e : l[k]? with
      | none =>
        rw [List.getElem?_eq_none_iff] at e
        rw [List.take_of_length_le e] at ih
        rw [List.take_of_length_le (by omega)]
        exact ih
      | some x =>
        have hx := List.mem_of_getElem? e
        have h1 : mergeH [] (l.take (k + 1)) = putH x.1 x.2 (mergeH [] (l.take k)) := by
          rw [List.take_add_one, e]
          exact mergeH_snoc _ _ _
        have h2 : PosH (l.take k) := fun y hy => hp y (List.mem_of_mem_take hy)
        have h3 : AscH (l.take k) := List.Pairwise.sublist (List.take_sublist _ _) h
        rw [h1, ih, ← hitM_put (hp x hx).1 (hp x hx).2 h3 h2, hitM_take h hp e]
  have := key l.length
  rwa [List.take_length] at this
def Sk.merge : Sk → Sk → Sk
  | .dist L, .dist M => .dist (insAll L M)
  | .cnt L, .cnt M => .cnt (zipC L M)
  | .hst l, .hst m => .hst (mergeH l m)
  | x, _ => x
theorem merge_new (k : Nat) (x : Sk) (hx : x.Ok) (hk : x.kind = (Sk.new k).kind) : (Sk.new k).merge x = x := by
  unfold Sk.new at hk ⊢
  cases x with
  | dist L =>
    split at hk
    · rw [if_pos (by assumption)]; exact congrArg Sk.dist (insAll_all L hx.1)
    · split at hk <;> simp [Sk.kind] at hk
  | cnt L =>
    split at hk
    · simp [Sk.kind] at hk
    · split at hk
      · rw [if_neg (by assumption), if_pos (by assumption)]; exact congrArg Sk.cnt (zipC_zeros L hx.1 hx.2)
      · simp [Sk.kind] at hk
  | hst l =>
    split at hk
    · simp [Sk.kind] at hk
    · split at hk
      · simp [Sk.kind] at hk
      · rw [if_neg (by assumption), if_neg (by assumption)]; exact congrArg Sk.hst (mergeH_none hx.1.1 hx.1.2.1)
end Go.Proofs.YtmgdbfmlnmahpaaGreatDoor
