/- A part of the proof of TopCounts. -/
import Derived.Test.YtmgdbfmlnmahpaaGreatDoorG43
import Derived.Test.YtmgdbfmlnmahpaaGreatDoorG03
namespace Go.Proofs.YtmgdbfmlnmahpaaGreatDoor
open Go.RowKit
set_option linter.unusedVariables false
def StableR (Rel : World → World → Prop) (f : Value → World → Prop) : Prop := ∀ v W W', f v W → Rel W W' → f v W'
theorem stableRVal (Rel : World → World → Prop) (c : Value) : StableR Rel (IsVal c) := fun _ _ _ h _ => h
def AllR (Rel : World → World → Prop) (iA : Nat) : Nat → List (Value → World → Prop) → Prop
  | _, [] => True
  | j, f :: r => cond (Nat.beq j iA) True (StableR Rel f) ∧ AllR Rel iA (j + 1) r
theorem AllR.get {Rel : World → World → Prop} {iA : Nat} : ∀ (l : List (Value → World → Prop)) (k j : Nat) (f : Value → World → Prop), AllR Rel iA k l → l[j]? = some f → k + j ≠ iA → StableR Rel f
  | [], _, _, _, _, h, _ => by simp at h
  | _ :: _, k, 0, f, hs, h, hn => by
    simp only [List.getElem?_cons_zero, Option.some.injEq] at h
    subst h
    have h1 := hs.1
    have : Nat.beq k iA = false := by
      cases hb : Nat.beq k iA with
      | false => rfl
      | true => exact absurd (Nat.eq_of_beq_eq_true hb) hn
    rw [this] at h1
    exact h1
  | _ :: r, k, j + 1, f, hs, h, hn => AllR.get r (k + 1) j f hs.2 (by simpa using h) (by omega)
theorem Fs_stableR (Rel : World → World → Prop) (iA : Nat) (l : List (Value → World → Prop)) (h : AllR Rel iA 0 l) : ∀ i v W W', i ≠ iA → Fs l i v W → Rel W W' → Fs l i v W' := by
  intro i v W W' hi hf hb
  unfold Fs at hf ⊢
  rw [List.getD_eq_getElem?_getD] at hf ⊢
  revert hf
  cases e : l[i]? with
  | none => exact fun _ => trivial
  | some f => exact fun hf => AllR.get l 0 i f h e (by omega) v W W' hf hb
theorem stepM_append {α : Type} {k : Nat} {enc : α → List Value} {P : Program} {t e : TypeId} {bytes : Nat} (el : Elem P t e k bytes) (hk : ∀ x, (enc x).length = k) (h1 : ∀ x, ∀ v ∈ enc x, v.oneCell' = true) {ops : Array Oper} {o : Oper} {a : Act} {W : World} {F : Value → World → Prop} {Rel : World → World → Prop} {T : World → Prop} (hgd : o.guard = none) (s x : Operand)
    (ho : o.op = .call { callee := .builtin .append, args := #[s, x], argTypes := #[t, t] }) (B : Nat) (v : Value) (L : List α) (hs : a.eval s = v) (hown : OwnR k enc e W B v L) (M : List α) (mm : Nat) (hm : mm = M.length) (g o' cx : Nat) (hx : a.eval x = .slice (some ⟨g, o', none⟩) mm cx) (hM : Rd k enc W (some ⟨g, o', none⟩) M)
    (hn : L.length + M.length ≤ 1000000) (hby : bytes ≤ 10000) (hB : B ≤ W.heap.size) (h : ∀ v' W', OwnR k enc e W' B v' (L ++ M) → W.grownBy W' v.ownBlock → Rel W W' ∧ F v' W' ∧ T W') : StepM P ops o a W F Rel T := by
  subst hm
  obtain ⟨h2, h0, i, z, h3, h4, h5, h6, h7⟩ := el
  have hmul : (L.length + M.length) * bytes ≤ 1000000 * 10000 := Nat.mul_le_mul hn hby
  obtain ⟨v', w', hrun, hown', hg, _⟩ := run_append_own (P := P) W B t o.type e i z k bytes h2 h3 h4 h5 h6 h7 h0 v L.length (L.flatMap enc) hown ⟨g, o', none⟩ M.length cx (M.flatMap enc) (flat_len hk M) (fun j u hj => rd_news hk h0 hM j u hj) (rd_one h1 M) (by unfold maxLen; omega) (by omega) hB
  obtain ⟨r1, r2, r3⟩ := h v' w' (by unfold OwnR; rw [List.length_append, List.flatMap_append]; exact hown') hg
  refine ⟨by simp [Region.wanted, hgd], v', w', ?_, r1, r2, r3⟩
  simp [execOp, ho, resolve, invoke, builtin, hs, hx, hrun, Result.andThen]
theorem OwnR.row {α : Type} {k : Nat} {enc : α → List Value} {e : TypeId} {W : World} {B : Nat} {v : Value} {L : List α} (h : OwnR k enc e W B v L) : ∀ r, v.ownBlock = some r → B ≤ r ∧ ∃ cur, W.heap[r]? = some (.cells cur e (0, 0)) := by
  intro r hr
  rcases h.2 with ⟨rfl, _⟩ | ⟨g, cap, cur, rfl, hB, hb, _⟩
  · simp [Value.ownBlock] at hr
  · obtain rfl : g = r := by simpa [Value.ownBlock] using hr
    exact ⟨hB, cur, hb⟩
theorem grown_blk {W W' : World} {row : Option Nat} {e : TypeId} (hg : W.grownBy W' row) (hr : ∀ r, row = some r → ∃ cur, W.heap[r]? = some (.cells cur e (0, 0))) {b : Nat} {cs : Array Value} {T : TypeId} (hT : T ≠ e) (hb : W.heap[b]? = some (.cells cs T (0, 0))) : W'.heap[b]? = some (.cells cs T (0, 0)) := by
  refine (hg.block b (blk_lt hb) fun ee => ?_).trans hb
  obtain ⟨cur, hc⟩ := hr b ee.symm
  rw [hb] at hc
  cases hc
  exact hT rfl
theorem OwnR.grownT {α : Type} {k : Nat} {enc : α → List Value} {e e' : TypeId} {W W' : World} {B : Nat} {v : Value} {L : List α} (h : OwnR k enc e' W B v L) {row : Option Nat} (hT : e' ≠ e) (hg : W.grownBy W' row) (hr : ∀ r, row = some r → ∃ cur, W.heap[r]? = some (.cells cur e (0, 0))) : OwnR k enc e' W' B v L := by
  refine World.ownsRow.kept (row := row) h hg ?_
  cases hv : v.ownBlock with
  | none => exact .inl rfl
  | some g =>
    refine .inr fun ee => ?_
    obtain ⟨_, cur, hb⟩ := h.row g hv
    obtain ⟨cur', hc⟩ := hr g (ee.symm.trans rfl)
    rw [hb] at hc
    cases hc
    exact hT rfl
theorem St.grownT {w0 : World} {bl : List Blk} {W W' : World} {row : Option Nat} {e : TypeId} (h : St w0 bl (fun _ => True) W) (hg : W.grownBy W' row) (hr : ∀ r, row = some r → w0.heap.size ≤ r ∧ ∃ cur, W.heap[r]? = some (.cells cur e (0, 0))) (hT : ∀ x ∈ bl, x.2.2 ≠ e) : St w0 bl (fun _ => True) W' :=
  ⟨h.below.grown hg h.below.size (fun r e => (hr r e).1), fun x hx => grown_blk hg (fun r e => (hr r e).2) (hT x hx) (h.blk x hx), h.nd, trivial, fun _ _ _ _ => trivial⟩
end Go.Proofs.YtmgdbfmlnmahpaaGreatDoor
