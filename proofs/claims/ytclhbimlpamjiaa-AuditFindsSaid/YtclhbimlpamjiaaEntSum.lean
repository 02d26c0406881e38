/- An entry's sum, the program's own: walked. -/
import Derived.Test.YtclhbimlpamjiaaEnt
import Derived.LoopTactic
import Derived.Deep.RegionWith
namespace Go.Proofs.Ytclhbimlpamjiaa
open Go.RowKit

theorem strCells_append (a b : ByteArray) : Lib.strCells (a ++ b) = Lib.strCells a ++ Lib.strCells b := by
  simp [Lib.strCells, ByteArray.data_append]
theorem byteCells_str (s : ByteArray) : Lib.strCells s = Lib.byteCells s.data.toList := rfl

/-- what is written, number by number -/
def partB (bf sq at' tz : Int) : Nat → ByteArray
  | 0 => ⟨#[]⟩
  | 1 => putB bf.toNat
  | 2 => putB bf.toNat ++ putB sq.toNat
  | 3 => putB bf.toNat ++ putB sq.toNat ++ putB at'.toNat
  | _ => putB bf.toNat ++ putB sq.toNat ++ putB at'.toNat ++ putB tz.toNat
theorem partB_size (bf sq at' tz : Int) (k : Nat) : (partB bf sq at' tz k).size ≤ 36 := by
  have h1 := putB_size bf.toNat
  have h2 := putB_size sq.toNat
  have h3 := putB_size at'.toNat
  have h4 := putB_size tz.toNat
  unfold partB
  split
  · exact Nat.zero_le _
  all_goals (try simp only [ByteArray.size_append]); omega
theorem partB_next (bf sq at' tz : Int) (k : Nat) (n : Int) (hk : k < 4) (hn : [bf, sq, at', tz][k]? = some n) : Lib.strCells (partB bf sq at' tz k) ++ Lib.strCells (putB n.toNat) = Lib.strCells (partB bf sq at' tz (k + 1)) := by
  rw [← strCells_append]
  have e : k = 0 ∨ k = 1 ∨ k = 2 ∨ k = 3 := by omega
  rcases e with rfl | rfl | rfl | rfl <;> simp at hn <;> subst hn <;> simp [partB]
  congr 1

set_option maxRecDepth 100000 in
set_option maxHeartbeats 4000000 in
theorem auditSum_any (a b : BitVec 64) (bf : Int) (h0 : 0 ≤ bf) (h1 : bf < 18446744073709551616) (x : Ent) (hx : x.Ok) (w : World) :
    Calls Try.prog 20 #[kv a b, .int .u64 bf, x.v] w fun e w' => e = .returned (.int .u64 (entSum a b bf x)) ∧ Below w.heap.size w w' := by
  obtain ⟨s0, s1, a0, a1, t, m0, m1⟩ := hx
  have HZ := Lib.hid (entText_size bf x)
  obtain ⟨sq, at', tx, sm⟩ := x
  simp only at s0 s1 a0 a1 t m0 m1 HZ
  unfold Ent.v
  simp only
  go_enter Try.func20, Try.ntmps20
  go_wp2_with fail
  have H0 : Lib.IsBuilder 56 5 (w.heap.size + 2) (w.heap.size + 2) [] ((((w.alloc (.cells #[Value.int IntKind.u64 (un a), Value.int IntKind.u64 (un b)] 24)).alloc (.cells #[Value.int .u64 sq, .int .u64 at', .string tx, .int .u64 sm] 38)).alloc (.cells #[.pointer none, .slice none 0 0] 56)).alloc (.cells #[Value.int .u64 bf, .int .u64 sq, .int .u64 at', .int .u64 (tx.size : Int)] 22)) := by
    have h := Lib.fresh_isBuilder 56 5 ((w.alloc (.cells #[Value.int IntKind.u64 (un a), Value.int IntKind.u64 (un b)] 24)).alloc (.cells #[Value.int .u64 sq, .int .u64 at', .string tx, .int .u64 sm] 38))
    have hs : ((w.alloc (.cells #[Value.int IntKind.u64 (un a), Value.int IntKind.u64 (un b)] 24)).alloc (.cells #[Value.int .u64 sq, .int .u64 at', .string tx, .int .u64 sm] 38)).heap.size = w.heap.size + 2 := by simp
    rw [hs] at h
    exact builder_below h ((Below.refl _ _).alloc (Nat.le_refl _) _)
  have HB0 : Below w.heap.size w ((((w.alloc (.cells #[Value.int IntKind.u64 (un a), Value.int IntKind.u64 (un b)] 24)).alloc (.cells #[Value.int .u64 sq, .int .u64 at', .string tx, .int .u64 sm] 38)).alloc (.cells #[.pointer none, .slice none 0 0] 56)).alloc (.cells #[Value.int .u64 bf, .int .u64 sq, .int .u64 at', .int .u64 (tx.size : Int)] 22)) := ((((Below.refl _ _).alloc (Nat.le_refl _) _).alloc (by simp) _).alloc (by simp; omega) _).alloc (by simp; omega) _
  have HK0 : ((((w.alloc (.cells #[Value.int IntKind.u64 (un a), Value.int IntKind.u64 (un b)] 24)).alloc (.cells #[Value.int .u64 sq, .int .u64 at', .string tx, .int .u64 sm] 38)).alloc (.cells #[.pointer none, .slice none 0 0] 56)).alloc (.cells #[Value.int .u64 bf, .int .u64 sq, .int .u64 at', .int .u64 (tx.size : Int)] 22)).heap[w.heap.size]? = some (.cells #[Value.int IntKind.u64 (un a), Value.int IntKind.u64 (un b)] 24 (0, 0)) := by
    rw [Below.heap_alloc _ _ _ (by simp; omega), Below.heap_alloc _ _ _ (by simp; omega), Below.heap_alloc _ _ _ (by simp)]
    exact heap_alloc_new w _
  have HE0 : ((((w.alloc (.cells #[Value.int IntKind.u64 (un a), Value.int IntKind.u64 (un b)] 24)).alloc (.cells #[Value.int .u64 sq, .int .u64 at', .string tx, .int .u64 sm] 38)).alloc (.cells #[.pointer none, .slice none 0 0] 56)).alloc (.cells #[Value.int .u64 bf, .int .u64 sq, .int .u64 at', .int .u64 (tx.size : Int)] 22)).heap[w.heap.size + 1]? = some (.cells #[Value.int .u64 sq, .int .u64 at', .string tx, .int .u64 sm] 38 (0, 0)) := by
    rw [Below.heap_alloc _ _ _ (by simp), Below.heap_alloc _ _ _ (by simp)]
    have := heap_alloc_new (w.alloc (.cells #[Value.int IntKind.u64 (un a), Value.int IntKind.u64 (un b)] 24)) (.cells #[Value.int .u64 sq, .int .u64 at', .string tx, .int .u64 sm] 38)
    simpa using this
  have HS0 : ((((w.alloc (.cells #[Value.int IntKind.u64 (un a), Value.int IntKind.u64 (un b)] 24)).alloc (.cells #[Value.int .u64 sq, .int .u64 at', .string tx, .int .u64 sm] 38)).alloc (.cells #[.pointer none, .slice none 0 0] 56)).alloc (.cells #[Value.int .u64 bf, .int .u64 sq, .int .u64 at', .int .u64 (tx.size : Int)] 22)).heap[w.heap.size + 3]? = some (.cells #[Value.int .u64 bf, .int .u64 sq, .int .u64 at', .int .u64 (tx.size : Int)] 22 (0, 0)) := by
    have := heap_alloc_new (((w.alloc (.cells #[Value.int IntKind.u64 (un a), Value.int IntKind.u64 (un b)] 24)).alloc (.cells #[Value.int .u64 sq, .int .u64 at', .string tx, .int .u64 sm] 38)).alloc (.cells #[.pointer none, .slice none 0 0] 56)) (.cells #[Value.int .u64 bf, .int .u64 sq, .int .u64 at', .int .u64 (tx.size : Int)] 22)
    simpa using this
  generalize ((((w.alloc (.cells #[Value.int IntKind.u64 (un a), Value.int IntKind.u64 (un b)] 24)).alloc (.cells #[Value.int .u64 sq, .int .u64 at', .string tx, .int .u64 sm] 38)).alloc (.cells #[.pointer none, .slice none 0 0] 56)).alloc (.cells #[Value.int .u64 bf, .int .u64 sq, .int .u64 at', .int .u64 (tx.size : Int)] 22)) = w4 at *
  go_loopw [21] (fun i wr => ∃ k : Nat, k ≤ 4 ∧ i = .int .i64 k ∧ Lib.IsBuilder 56 5 (w.heap.size + 2) (w.heap.size + 2) (Lib.strCells (partB bf sq at' (tx.size : Int) k)) wr ∧ Below w.heap.size w wr ∧ wr.heap[w.heap.size]? = some (.cells #[Value.int IntKind.u64 (un a), Value.int IntKind.u64 (un b)] 24 (0, 0)) ∧ wr.heap[w.heap.size + 1]? = some (.cells #[Value.int .u64 sq, .int .u64 at', .string tx, .int .u64 sm] 38 (0, 0)) ∧ wr.heap[w.heap.size + 3]? = some (.cells #[Value.int .u64 bf, .int .u64 sq, .int .u64 at', .int .u64 (tx.size : Int)] 22 (0, 0))) (fun i _ => 4 - (intOf i).toNat)
  case atStart => exact ⟨0, Nat.zero_le _, rfl, H0, HB0, HK0, HE0, HS0⟩
  case round =>
    obtain ⟨k, hk, rfl, H, HB, HK, HE, HS⟩ := hrel
    clear H0 HB0 HK0 HE0 HS0
    by_cases hlt : k < 4
    · obtain ⟨n, hn, hn0, hn1⟩ : ∃ n : Int, [bf, sq, at', (tx.size : Int)][k]? = some n ∧ 0 ≤ n ∧ n < 18446744073709551616 := by
        have e : k = 0 ∨ k = 1 ∨ k = 2 ∨ k = 3 := by omega
        rcases e with rfl | rfl | rfl | rfl
        · exact ⟨_, rfl, by omega, by omega⟩
        · exact ⟨_, rfl, by omega, by omega⟩
        · exact ⟨_, rfl, by omega, by omega⟩
        · exact ⟨_, rfl, by omega, by omega⟩
      have hc : wr.cell? ⟨w.heap.size + 3, k, none⟩ = some (.int .u64 n) := by
        rw [Lib.cell_of_heap HS]
        have e : k = 0 ∨ k = 1 ∨ k = 2 ∨ k = 3 := by omega
        rcases e with rfl | rfl | rfl | rfl <;> simp at hn <;> subst hn <;> rfl
      have HN := Lib.hid (partB_next bf sq at' (tx.size : Int) k n hlt hn)
      have hps := partB_size bf sq at' (tx.size : Int) k
      have hz := putB_size n.toNat
      clear hn
      go_wp2_with fail
      refine (put_any n hn0 hn1 _).mono ?_
      rintro e w1 ⟨rfl, hb1⟩
      have H1 := builder_below H hb1
      have hsz := hb1.size
      have hsw := HB.size
      have hbl := H.elim Lib.BuilderAt.lt Lib.BuilderAt.lt
      have hsl : w.heap.size + 3 < wr.heap.size := by
        rcases Nat.lt_or_ge (w.heap.size + 3) wr.heap.size with h' | h'
        · exact h'
        · simp [Array.getElem?_eq_none h'] at HS
      go_wp2_with fail
      refine (writeString_any (w.heap.size + 2) (w.heap.size + 2) _ _ _ H1 (by rw [Lib.strCells_length]; omega) (by omega)).mono ?_
      rintro e w2 ⟨rfl, H2, hb2, ho2⟩
      go_wp2_with fail
      go_roundw
      case rel =>
        refine ⟨k + 1, hlt, by go_num, by rw [← HN.out]; exact H2, (HB.trans (hb1.mono hsw)).trans (hb2.mono (by omega)), ?_, ?_, ?_⟩
        · exact (hb2.block _ (by omega)).trans ((hb1.block _ (by omega)).trans HK)
        · exact (hb2.block _ (by omega)).trans ((hb1.block _ (by omega)).trans HE)
        · exact ho2 _ _ _ _ (by omega) (by decide) ((hb1.block _ (by omega)).trans HS)
      case measure => simp [intOf]; omega
    · obtain rfl : k = 4 := by omega
      have hps := partB_size bf sq at' (tx.size : Int) 4
      have hsw := HB.size
      have hbl := H.elim Lib.BuilderAt.lt Lib.BuilderAt.lt
      have c2 : wr.cell? ⟨w.heap.size + 1, 2, none⟩ = some (.string tx) := by rw [Lib.cell_of_heap HE]; rfl
      go_wp2_with fail
      refine (writeString_any (w.heap.size + 2) (w.heap.size + 2) _ _ _ H (by rw [Lib.strCells_length]; omega) (by omega)).mono ?_
      rintro e w2 ⟨rfl, H2, hb2, ho2⟩
      rw [← strCells_append, byteCells_str] at H2
      have HT : (partB bf sq at' (tx.size : Int) 4 ++ tx) = entText bf ⟨sq, at', tx, sm⟩ := by
        unfold partB entText
        simp
      rw [HT] at H2
      have HK2 : w2.heap[w.heap.size]? = some (.cells #[Value.int IntKind.u64 (un a), Value.int IntKind.u64 (un b)] 24 (0, 0)) := (hb2.block _ (by omega)).trans HK
      have k0 : w2.drew.cell? ⟨w.heap.size, 0, none⟩ = some (.int .u64 (un a)) := by
        have : w2.drew.heap[w.heap.size]? = some (.cells #[Value.int IntKind.u64 (un a), Value.int IntKind.u64 (un b)] 24 (0, 0)) := HK2
        rw [Lib.cell_of_heap this]; rfl
      have k1 : w2.drew.cell? ⟨w.heap.size, 1, none⟩ = some (.int .u64 (un b)) := by
        have : w2.drew.heap[w.heap.size]? = some (.cells #[Value.int IntKind.u64 (un a), Value.int IntKind.u64 (un b)] 24 (0, 0)) := HK2
        rw [Lib.cell_of_heap this]; rfl
      have H2' : Lib.IsBuilder 56 5 (w.heap.size + 2) (w.heap.size + 2) (Lib.byteCells (entText bf ⟨sq, at', tx, sm⟩).data.toList) w2.drew := H2
      have hne : (entText bf ⟨sq, at', tx, sm⟩).data.toList ≠ [] := by
        intro e
        have hs : (entText bf ⟨sq, at', tx, sm⟩).size = 0 := by
          have := congrArg List.length e
          simpa using this
        have := putB_size bf.toNat
        unfold entText at hs
        simp only [ByteArray.size_append] at hs
        omega
      have hsz2 := hb2.size
      clear H H2 c2 HK HE HS HT hps
      go_wp2_with fail
      go_region_with (first
        | (go_at_call 35; refine (Try.Builder_String _ _ _ _ H2' hne).mono ?_; rintro e w3 ⟨rfl, hb3⟩; have k2 := (hb3.cell (p := ⟨w.heap.size, 0, none⟩) (by show w.heap.size < _; omega)).trans k0; have k3 := (hb3.cell (p := ⟨w.heap.size, 1, none⟩) (by show w.heap.size < _; omega)).trans k1)
        | (go_at_call 34; refine (sum_any a b (entText bf ⟨sq, at', tx, sm⟩) (by have := HZ.out; omega) _).mono ?_; rintro e w4 ⟨rfl, hb4⟩))
      all_goals go_wp2_with fail
      all_goals refine bodyPost_ret (v := .int .u64 (entSum a b bf ⟨sq, at', tx, sm⟩)) (by simp [results, Try.results20, go_sem, Act.put, entSum]) rfl ⟨rfl, ?_⟩
      all_goals exact (HB.trans (hb2.mono (by omega))).trans ((((Below.refl _ _).drew).trans (hb3.mono (by omega))).trans (hb4.mono (by have := hb3.size; have e : w2.drew.heap.size = w2.heap.size := rfl; omega)))
end Go.Proofs.Ytclhbimlpamjiaa
