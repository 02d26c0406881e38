/- field.octets and its iterator, walked. -/
import Derived.Test.YtafabdgkinfceaaDoorBytes
import Derived.Test.YtafabdgkinfceaaDoorQuietIn
import Derived.Test.YtafabdgkinfceaaDoorGetSmall
import Derived.RangeFuncCalls
import Derived.RangeFuncBox
import Derived.RangeFuncLeaves
import Derived.Shelf.Abstract
import Derived.OwnWalkIn
import Derived.TacticsInMore
import Derived.LoopNIn
import Derived.LoopIn
namespace Go.Proofs.YtafabdgkinfceaaDoor
open Go.RowKit Go.Shelf

/-- the first k places of a text, each with its byte -/
def octsTo (s : ByteArray) (k : Nat) : List (Nat × UInt8) := (List.range k).map fun i => (i, s.data.toList.getD i 0)
/-- the places of a text, each with its byte -/
def octs (s : ByteArray) : List (Nat × UInt8) := octsTo s s.size
theorem octsTo_length (s : ByteArray) (k : Nat) : (octsTo s k).length = k := by simp [octsTo]
theorem octsTo_succ (s : ByteArray) (k : Nat) : octsTo s (k + 1) = octsTo s k ++ [(k, s.data.toList.getD k 0)] := by simp [octsTo, List.range_succ]
theorem octsTo_prefix (s : ByteArray) (k n : Nat) (h : k ≤ n) : octsTo s k <+: octsTo s n := by
  induction n with
  | zero => obtain rfl : k = 0 := by omega
            exact List.prefix_refl _
  | succ n ih =>
    by_cases e : k = n + 1
    · rw [e]; exact List.prefix_refl _
    · rw [octsTo_succ]; exact (ih (by omega)).trans (List.prefix_append _ _)
theorem oct_get (s : ByteArray) (k : Nat) (h : k < s.size) : s.data.toList.getD k 0 = s[k] := by
  have h' : k < s.data.toList.length := by simpa using h
  rw [List.getD_eq_getElem?_getD, List.getElem?_eq_getElem h']; rfl

set_option maxRecDepth 100000 in
set_option maxHeartbeats 1000000 in
theorem octets1_in (n : Nat) (hn : 1 ≤ n) (l Bn : Nat) (s : ByteArray) (hs : s.size ≤ 9223372036854775807) (J Jx : List (Nat × UInt8) → World → Prop)
    (hY : ∀ pre x W, J pre W → pre.length < s.size → YieldAt Fence.wide (n - 1) Tryd.prog l #[.int .i64 (x.1 : Int), .int .u8 (x.2.toNat : Int)] W fun e W' =>
      (e = .returned (.bool true) ∧ J (pre ++ [x]) W' ∧ W'.cell? ⟨Bn, 0, none⟩ = W.cell? ⟨Bn, 0, none⟩) ∨ (e = .returned (.bool false) ∧ Jx (pre ++ [x]) W'))
    (W : World) (hBn : W.cell? ⟨Bn, 0, none⟩ = some (.string s)) (h0 : J [] W) :
    CallsIn Fence.wide n Tryd.prog 50 #[.func (.yield l) #[] #[], .pointer (some ⟨Bn, 0, none⟩)] W fun e W' => (∃ v, e = .returned v) ∧
      ((∃ ys, ys = octs s ∧ J ys W') ∨ (∃ pre, pre <+: octs s ∧ Jx pre W')) := by
  refine callsIn_of_wp Tryd.func50 rfl trivial ?_ rfl
  simp only [Tryd.ntmps50, List.size_toArray, List.length_cons, List.length_nil, Nat.reduceAdd, Nat.reduceSub, Array.replicate_succ, Array.replicate_zero, List.push_toArray, List.append_toArray, List.nil_append, List.cons_append]
  gi_wp2
  gi_loopw [6] (fun p wr => ∃ k : Nat, k ≤ s.size ∧ p = .int .i64 (k : Int) ∧ wr.cell? ⟨Bn, 0, none⟩ = some (.string s) ∧ J (octsTo s k) wr)
    (fun p _ => s.size - (intOf p).toNat)
  case atStart =>
    exact ⟨0, by omega, rfl, hBn, h0⟩
  case round =>
    obtain ⟨k, hk, rfl, hc, hJ⟩ := hrel
    by_cases hlt : k < s.size
    · obtain ⟨fn, tmps, assign, body, hy, hR⟩ := hY (octsTo s k) (k, s[k]) wr hJ (by rw [octsTo_length]; omega)
      simp only at hy hR
      gi_wp2_with fail
      refine hR.mono ?_
      have HS : Hid (octsTo s k ++ [(k, s[k])] = octsTo s (k + 1)) := by show _ = _; rw [octsTo_succ, oct_get s k hlt]
      rintro e W3 (⟨rfl, hJ3, hk3⟩ | ⟨rfl, hJx3⟩)
      · have hc3 : W3.cell? ⟨Bn, 0, none⟩ = some (.string s) := hk3.trans hc
        rw [HS.out] at hJ3
        clear hy hR hc hJ hBn hY HS
        gi_wp2
        go_roundw
        case rel => exact ⟨k + 1, by omega, by go_num, hc3, hJ3⟩
        case measure => simp [intOf]; omega
      · rw [HS.out] at hJx3
        clear hy hR hc hJ hBn hY HS
        gi_wp2
        refine bodyPost_ret (results_none rfl _ _ _) rfl ?_
        exact ⟨⟨_, rfl⟩, .inr ⟨_, octsTo_prefix s _ _ (by omega), hJx3⟩⟩
    · obtain rfl : k = s.size := by omega
      gi_wp2
      go_end0
      exact ⟨⟨_, rfl⟩, .inl ⟨_, rfl, hJ⟩⟩

theorem octets_any (s : ByteArray) (w : World) :
    Calls Tryd.prog 45 #[.string s] w fun e w' => e = .returned (.func (.func 50) #[] #[.pointer (some ⟨w.heap.size, 0, none⟩)]) ∧ w.alloc (.cells #[.string s] 9) = w' := by
  go_enter Tryd.func45, Tryd.ntmps45
  go_wp2
  go_ret
  exact ⟨rfl, rfl⟩

theorem octets_stops (n : Nat) (hn : 1 ≤ n) (Bn : Nat) (s : ByteArray) (hs : s.size ≤ 9223372036854775807) (w : World) (hBn : Bn < w.heap.size)
    (hc : w.cell? ⟨Bn, 0, none⟩ = some (.string s)) :
    SeqStopsK Fence.wide n Tryd.prog 50 #[.pointer (some ⟨Bn, 0, none⟩)] (fun x : Nat × UInt8 => #[Value.int .i64 (x.1 : Int), .int .u8 (x.2.toNat : Int)]) (fun W W' => W'.cell? ⟨Bn, 0, none⟩ = W.cell? ⟨Bn, 0, none⟩) (fun ys => ys = octs s) (fun pre => pre <+: octs s) s.size w := fun l J Jx W hW _ _ hY h0 =>
  octets1_in n hn l Bn s hs J Jx hY W ((hW.cell (p := ⟨Bn, 0, none⟩) hBn).trans hc) h0

end Go.Proofs.YtafabdgkinfceaaDoor
