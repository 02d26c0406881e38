/- How far a chain goes: the program's and the reference's, walked. -/
import Derived.Test.YtclhbimlpamjiaaEntSum
namespace Go.Proofs.Ytclhbimlpamjiaa
open Go.RowKit

/-- a slice's cells read as a list of entries -/
def Ents (W : World) (s : Option Addr) (L : List Ent) : Prop :=
  ∀ (i : Nat) (x : Ent), L[i]? = some x → ∃ g o, s = some ⟨g, o, none⟩ ∧ g < W.heap.size ∧ W.cell? ⟨g, o + i * 4, none⟩ = some (.int .u64 x.seq) ∧ W.cell? ⟨g, o + i * 4 + 1, none⟩ = some (.int .u64 x.at') ∧ W.cell? ⟨g, o + i * 4 + 2, none⟩ = some (.string x.text) ∧ W.cell? ⟨g, o + i * 4 + 3, none⟩ = some (.int .u64 x.sum)
theorem Ents.below {W W' : World} {s : Option Addr} {L : List Ent} (h : Ents W s L) (hb : Below W.heap.size W W') : Ents W' s L := by
  intro i x hx
  obtain ⟨g, o, rfl, hg, c0, c1, c2, c3⟩ := h i x hx
  exact ⟨g, o, rfl, Nat.lt_of_lt_of_le hg hb.size, (hb.cell (p := ⟨g, _, none⟩) hg).trans c0, (hb.cell (p := ⟨g, _, none⟩) hg).trans c1, (hb.cell (p := ⟨g, _, none⟩) hg).trans c2, (hb.cell (p := ⟨g, _, none⟩) hg).trans c3⟩

/-- how many entries have their sums, and whether all have -/
def chain (a b : BitVec 64) : Int → List Ent → Nat × Bool
  | _, [] => (0, true)
  | bf, x :: L => if x.sum = entSum a b bf x then ((chain a b x.sum L).1 + 1, (chain a b x.sum L).2) else (0, false)
theorem chain_le (a b : BitVec 64) (bf : Int) (L : List Ent) : (chain a b bf L).1 ≤ L.length := by
  induction L generalizing bf with
  | nil => exact Nat.le_refl _
  | cons x L ih =>
    rw [chain]
    split
    · have := ih x.sum; simp; omega
    · simp

set_option maxRecDepth 100000 in
set_option maxHeartbeats 4000000 in
theorem chained_any (a b : BitVec 64) (bf : Int) (h0 : 0 ≤ bf) (h1 : bf < 18446744073709551616) (L : List Ent) (hL : ∀ x ∈ L, x.Ok) (hl : L.length ≤ 1000) (s : Option Addr) (cap : Nat) (w : World) (hE : Ents w s L) :
    Calls Try.prog 22 #[kv a b, .int .u64 bf, .slice s L.length cap] w fun e w' => e = .returned (.tuple #[.int .i64 (chain a b bf L).1, .bool (chain a b bf L).2]) ∧ Below w.heap.size w w' := by
  go_enter Try.func22, Try.ntmps22
  go_wp2_with fail
  have HB0 : Below w.heap.size w (w.alloc (.cells #[Value.int IntKind.u64 (un a), Value.int IntKind.u64 (un b)] 24)) := (Below.refl _ _).alloc (Nat.le_refl _) _
  have HZ0 : w.heap.size < (w.alloc (.cells #[Value.int IntKind.u64 (un a), Value.int IntKind.u64 (un b)] 24)).heap.size := by simp
  have K00 : (w.alloc (.cells #[Value.int IntKind.u64 (un a), Value.int IntKind.u64 (un b)] 24)).cell? ⟨w.heap.size, 0, none⟩ = some (.int .u64 (un a)) := by go_simp
  have K10 : (w.alloc (.cells #[Value.int IntKind.u64 (un a), Value.int IntKind.u64 (un b)] 24)).cell? ⟨w.heap.size, 1, none⟩ = some (.int .u64 (un b)) := by go_simp
  generalize (w.alloc (.cells #[Value.int IntKind.u64 (un a), Value.int IntKind.u64 (un b)] 24)) = w4 at *
  go_loopw [1, 12] (fun c i wr => ∃ (k : Nat) (bk : Int), k ≤ L.length ∧ i = .int .i64 k ∧ c = .int .u64 bk ∧ 0 ≤ bk ∧ bk < 18446744073709551616 ∧ chain a b bf L = ((chain a b bk (L.drop k)).1 + k, (chain a b bk (L.drop k)).2) ∧ Below w.heap.size w wr ∧ w.heap.size < wr.heap.size ∧ wr.cell? ⟨w.heap.size, 0, none⟩ = some (.int .u64 (un a)) ∧ wr.cell? ⟨w.heap.size, 1, none⟩ = some (.int .u64 (un b))) (fun _ i _ => L.length - (intOf i).toNat)
  case atStart => exact ⟨0, bf, Nat.zero_le _, rfl, rfl, h0, h1, by simp, HB0, HZ0, K00, K10⟩
  case round =>
    obtain ⟨k, bk, hk, rfl, rfl, hb0, hb1, hch, HB, HZ, K0, K1⟩ := hrel
    clear HB0 HZ0 K00 K10
    have HC := Lib.hid hch
    clear hch
    by_cases hlt : k < L.length
    · have hx := List.getElem?_eq_getElem hlt
      have hok : (L[k]'hlt).Ok := hL _ (List.getElem_mem _)
      have hdrop : L.drop k = L[k]'hlt :: L.drop (k + 1) := List.drop_eq_getElem_cons hlt
      obtain ⟨g, o, rfl, hg, c0, c1, c2, c3⟩ := hE k _ hx
      generalize (L[k]'hlt) = x at *
      have d0 := (HB.cell (p := ⟨g, _, none⟩) hg).trans c0
      have d1 := (HB.cell (p := ⟨g, _, none⟩) hg).trans c1
      have d2 := (HB.cell (p := ⟨g, _, none⟩) hg).trans c2
      have d3 := (HB.cell (p := ⟨g, _, none⟩) hg).trans c3
      have HD := Lib.hid hdrop
      have HX := Lib.hid hx
      clear c0 c1 c2 c3 hdrop hx
      go_wp2_with fail
      have hBx : Below wr.heap.size wr (wr.alloc (.cells #[Value.int .u64 x.seq, .int .u64 x.at', .string x.text, .int .u64 x.sum] 38)) := (Below.refl _ _).alloc (Nat.le_refl _) _
      have hzx : wr.heap.size < (wr.alloc (.cells #[Value.int .u64 x.seq, .int .u64 x.at', .string x.text, .int .u64 x.sum] 38)).heap.size := by simp
      have e0 := Cw.cell (w := (wr.alloc (.cells #[Value.int .u64 x.seq, .int .u64 x.at', .string x.text, .int .u64 x.sum] 38))) wr.heap.size 0 (.int .u64 x.seq) hzx (by go_simp)
      have e1 := Cw.cell (w := (wr.alloc (.cells #[Value.int .u64 x.seq, .int .u64 x.at', .string x.text, .int .u64 x.sum] 38))) wr.heap.size 1 (.int .u64 x.at') hzx (by go_simp)
      have e2 := Cw.cell (w := (wr.alloc (.cells #[Value.int .u64 x.seq, .int .u64 x.at', .string x.text, .int .u64 x.sum] 38))) wr.heap.size 2 (.string x.text) hzx (by go_simp)
      have e3 := Cw.cell (w := (wr.alloc (.cells #[Value.int .u64 x.seq, .int .u64 x.at', .string x.text, .int .u64 x.sum] 38))) wr.heap.size 3 (.int .u64 x.sum) hzx (by go_simp)
      have f0 := Cw.cell (w := (wr.alloc (.cells #[Value.int .u64 x.seq, .int .u64 x.at', .string x.text, .int .u64 x.sum] 38))) w.heap.size 0 (.int .u64 (un a)) (by omega) ((hBx.cell (p := ⟨w.heap.size, 0, none⟩) HZ).trans K0)
      have f1 := Cw.cell (w := (wr.alloc (.cells #[Value.int .u64 x.seq, .int .u64 x.at', .string x.text, .int .u64 x.sum] 38))) w.heap.size 1 (.int .u64 (un b)) (by omega) ((hBx.cell (p := ⟨w.heap.size, 1, none⟩) HZ).trans K1)
      clear d0 d1 d2 d3 K0 K1
      generalize (wr.alloc (.cells #[Value.int .u64 x.seq, .int .u64 x.at', .string x.text, .int .u64 x.sum] 38)) = w5 at *
      refine region_cw (by kernel_rfl) (by kernel_rfl) ?_
      repeat (first | go_big_quiet_step ((go_at_call 20; exact Cw.call (auditSum_any a b bk hb0 hb1 x hok _))) | quiet_step ((go_at_call 20; exact Cw.call (auditSum_any a b bk hb0 hb1 x hok _))))
      refine wpQuiet_nil ?_
      intro y
      have hy : Below wr.heap.size wr y.W := hBx.trans (y.below.mono (by omega))
      have g0 := f0 y
      have g1 := f1 y
      have g3 := e3 y
      have hyz := hy.size
      clear e0 e1 e2 e3 f0 f1
      generalize y.W = W at *
      by_cases hs : x.sum = entSum a b bk x
      · have hsb : (x.sum != entSum a b bk x) = false := by simp [← hs]
        have hm0 := hok.m0
        have hm1 := hok.m1
        go_wp2_with fail
        go_roundw
        case rel =>
          refine ⟨k + 1, x.sum, hlt, by go_num, by first | rfl | (simp; done) | (rw [hs]), hm0, hm1, ?_, HB.trans (hy.mono HB.size), by omega, g0, g1⟩
          rw [HC.out, HD.out, chain, if_pos hs]
          simp only [Prod.mk.injEq, and_true]
          omega
        case measure => simp [intOf]; omega
      · have hsb : (x.sum != entSum a b bk x) = true := by simp [hs]
        go_wp2_with fail
        go_ret2
        refine ⟨?_, HB.trans (hy.mono HB.size)⟩
        rw [HC.out, HD.out, chain, if_neg hs]
        simp
    · obtain rfl : k = L.length := by omega
      go_wp2_with fail
      go_ret2
      refine ⟨?_, HB⟩
      rw [HC.out, List.drop_length, chain]
      simp
end Go.Proofs.Ytclhbimlpamjiaa
