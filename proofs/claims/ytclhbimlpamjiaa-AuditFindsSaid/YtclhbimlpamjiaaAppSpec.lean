/- Facts on what Append tells. -/
import Derived.Test.YtclhbimlpamjiaaFew2
import Derived.Test.YtclhbimlpamjiaaAppend2
import Derived.Test.YtclhbimlpamjiaaShown16
import Derived.Test.YtclhbimlpamjiaaEntEq
import Derived.OneCell
namespace Go.Proofs.Ytclhbimlpamjiaa
open Go.RowKit

/-- a log and the number 0 -/
def IsApp (B : Nat) (bf : Int) (L : List Ent) : Value → World → Prop := fun v W => ∃ u, v = .tuple #[.agg #[.int .u64 bf, u], .int .i64 0] ∧ OwnE W B u L
theorem stableApp (B : Nat) (bf : Int) (L : List Ent) : Stable (IsApp B bf L) := fun _ _ _ ⟨u, h1, h2⟩ hb => ⟨u, h1, ownsRow_keep _ _ h2 hb⟩
/-- a log -/
def IsLogE (B : Nat) (bf : Int) (L : List Ent) : Value → World → Prop := fun v W => ∃ u, v = .agg #[.int .u64 bf, u] ∧ OwnE W B u L
theorem stableLogE (B : Nat) (bf : Int) (L : List Ent) : Stable (IsLogE B bf L) := fun _ _ _ ⟨u, h1, h2⟩ hb => ⟨u, h1, ownsRow_keep _ _ h2 hb⟩
/-- a row of entries lies in no block of another type -/
theorem own_tag {W : World} {B A : Nat} {v : Value} {L : List Ent} {cs : Array Value} {T : TypeId} (h : OwnE W B v L) (hN : W.heap[A]? = some (.cells cs T (0, 0))) (hT : T ≠ 38) : v.ownBlock ≠ some A := by
  intro e
  rcases h.2 with ⟨rfl, _⟩ | ⟨g, cap, cur, rfl, _, hg, _⟩
  · simp [Value.ownBlock] at e
  · simp [Value.ownBlock] at e
    subst e
    rw [hN] at hg
    simp only [Option.some.injEq, Obj.cells.injEq] at hg
    exact hT hg.2.1
/-- .. nor in a new block -/
theorem own_old {W : World} {B A : Nat} {v : Value} {L : List Ent} (h : OwnE W B v L) (hA : W.heap.size ≤ A) : v.ownBlock ≠ some A := by
  intro e
  have := (h.lt A e).2
  omega
/-- what is known of a log that has been appended to -/
structure AppF (a b : BitVec 64) (bf : Int) (M : List Ent) (at' : Int) (tx : ByteArray) (d : Nat) (bA : Int) (LA : List Ent) (x : Ent) : Prop where
  len : LA.length = M.length + 1 - d
  d0 : d ≤ M.length
  d1 : max 0 ((M.length : Int) - 29) = (d : Int)
  r : RightP a b bA LA
  ok : ∀ y ∈ LA, y.Ok
  l : LA[M.length - d]? = some x
  sq : x.seq = lastE M + 1
  at' : x.at' = at'
  tx : x.text = tx
  sm : x.sum = entSum a b (headE bf M) x
  tk : LA.take (M.length - d) = M.drop d
  hd : headE bA LA = x.sum
  la : lastE LA = x.seq
  b0 : 0 ≤ bA
  b1 : bA < 18446744073709551616
  n30 : LA.length ≤ 30
theorem appF (a b : BitVec 64) (bf : Int) (h0 : 0 ≤ bf) (h1 : bf < 18446744073709551616) (M : List Ent) (hM : ∀ x ∈ M, x.Ok) (at' : Int) (q0 : 0 ≤ at') (q1 : at' < 18446744073709551616) (tx : ByteArray) (h : AppOk a b bf M at' tx) :
    ∃ d, AppF a b bf M at' tx d (appB bf M) (appL a b bf M at' tx) (newEnt a b bf M at' tx) := by
  have hn := h.r.n
  have hK : appK M = M.drop (if M.length = 30 then 1 else 0) := by
    unfold appK
    split <;> simp
  refine ⟨if M.length = 30 then 1 else 0, ?_, ?_, ?_, right_app a b bf M hM at' tx h, appL_ok a b bf M hM at' q0 q1 tx h, ?_, rfl, rfl, rfl, rfl, ?_, headE_app .., lastE_app .., (appB_bounds bf h0 h1 M hM).1, (appB_bounds bf h0 h1 M hM).2, (right_app a b bf M hM at' tx h).n⟩
  · unfold appL; rw [hK]; simp; split <;> omega
  · split <;> omega
  · split <;> omega
  · unfold appL
    rw [hK, List.getElem?_append_right (by simp)]
    simp
  · unfold appL
    rw [hK, List.take_append_of_le_length (by simp), List.take_of_length_le (by simp)]
theorem Ents.sliced {w : World} {s : Option Addr} {L : List Ent} (h : Ents w s L) (d c : Nat) (hc : L.length ≤ c) : Ents w (if c = d then s else s.map (·.add (d * 4))) (L.drop d) := by
  by_cases e : c = d
  · rw [if_pos e, List.drop_eq_nil_of_le (by omega)]
    exact fun i x hx => by simp at hx
  · rw [if_neg e]
    intro i x hx
    rw [List.getElem?_drop] at hx
    obtain ⟨g, o, rfl, q⟩ := h _ _ hx
    refine ⟨g, o + d * 4, by simp [Addr.add_lit], ?_⟩
    rw [show o + d * 4 + i * 4 = o + (d + i) * 4 by omega]
    exact q
theorem entries_n (n m : Nat) (L M : List Ent) (hln : L.length = n) (hmn : M.length = m) (hl : n ≤ 1000) (hm : m ≤ 1000) (s t : Option Addr) (c d : Nat) (r : Bool) (hr : r = true ↔ L = M) (w : World) (hE : Ents w s L) (hF : Ents w t M) :
    Calls Try.prog 18 #[.slice s n c, .slice t m d] w fun e w' => e = .returned (.bool r) ∧ Below w.heap.size w w' := by
  subst hln hmn
  exact entries_any L M hl hm s t c d r hr w hE hF
end Go.Proofs.Ytclhbimlpamjiaa
