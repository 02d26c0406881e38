/- The first forty entries, of short texts: walked. -/
import Derived.Test.YtclhbimlpamjiaaEnts
import Derived.Test.YtclhbimlpamjiaaRight
namespace Go.Proofs.Ytclhbimlpamjiaa
open Go.RowKit

/-- the first two hundred and ten bytes -/
def cut210 (s : ByteArray) : ByteArray := s.extract 0 (min (s.size : Int) 210).toNat
theorem cut210_size (s : ByteArray) : (cut210 s).size ≤ 210 := by
  unfold cut210
  simp only [ByteArray.size_extract]
  omega
/-- an entry, its text cut -/
def cutE (x : Ent) : Ent := ⟨x.seq, x.at', cut210 x.text, x.sum⟩
def fewE (L : List Ent) : List Ent := (L.take 40).map cutE
/-- an entry whose numbers are numbers -/
structure Ent.Num (x : Ent) : Prop where
  s0 : 0 ≤ x.seq
  s1 : x.seq < 18446744073709551616
  a0 : 0 ≤ x.at'
  a1 : x.at' < 18446744073709551616
  t : x.text.size ≤ 9223372036854775807
  m0 : 0 ≤ x.sum
  m1 : x.sum < 18446744073709551616
theorem cutE_ok (x : Ent) (h : x.Num) : (cutE x).Ok :=
  ⟨h.s0, h.s1, h.a0, h.a1, Nat.le_trans (cut210_size _) (by decide), h.m0, h.m1⟩
theorem fewE_ok (L : List Ent) (h : ∀ x ∈ L, x.Num) : ∀ x ∈ fewE L, x.Ok := by
  intro x hx
  obtain ⟨y, hy, rfl⟩ := List.mem_map.1 hx
  exact cutE_ok y (h y (List.mem_of_mem_take hy))
theorem fewE_length (L : List Ent) : (fewE L).length ≤ 40 := by
  unfold fewE
  simp
  omega

set_option maxRecDepth 100000 in
set_option maxHeartbeats 4000000 in
theorem few_any (L : List Ent) (hL : ∀ x ∈ L, x.Num) (hl : L.length ≤ 9223372036854775807) (s : Option Addr) (cap : Nat) (w : World) (hE : Ents w s L) :
    Calls Try.prog 30 #[.slice s L.length cap] w fun e w' => ∃ v, e = .returned v ∧ OwnE w' w.heap.size v (fewE L) ∧ Below w.heap.size w w' := by
  go_enter Try.func30, Try.ntmps30
  go_wp2_with fail
  go_loopw [3, 4] (fun v i wr => ∃ (k : Nat), k ≤ L.length ∧ k ≤ 40 ∧ i = .int .i64 k ∧ OwnE wr w.heap.size v ((L.take k).map cutE) ∧ Below w.heap.size w wr) (fun _ i _ => L.length - (intOf i).toNat)
  case atStart => exact ⟨0, Nat.zero_le _, Nat.zero_le _, rfl, World.ownsRow_nil _ _ _ _, Below.refl _ _⟩
  case round =>
    obtain ⟨k, hk, hk40, rfl, hown, HB⟩ := hrel
    by_cases hlt : k < L.length
    · by_cases h40 : k < 40
      · have hx := List.getElem?_eq_getElem hlt
        have hok : (L[k]'hlt).Num := hL _ (List.getElem_mem _)
        obtain ⟨g, o, rfl, hg, c0, c1, c2, c3⟩ := hE k _ hx
        generalize (L[k]'hlt) = x at *
        have d0 := (HB.cell (p := ⟨g, _, none⟩) hg).trans c0
        have d1 := (HB.cell (p := ⟨g, _, none⟩) hg).trans c1
        have d2 := (HB.cell (p := ⟨g, _, none⟩) hg).trans c2
        have d3 := (HB.cell (p := ⟨g, _, none⟩) hg).trans c3
        have hsw := HB.size
        have HT := Lib.hid (show (L.take k).map cutE ++ [cutE x] = (L.take (k + 1)).map cutE by
          rw [List.take_add_one, hx]; simp)
        have hlen : ((L.take k).map cutE).length = k := by simp; omega
        have hts := hok.t
        clear c0 c1 c2 c3 hx
        generalize (L.take k).map cutE = M at *
        go_wp2_with (at_builtin; refine append_ents rfl (.tmp 28) (.tmp 30) rfl w.heap.size u3 M rfl ((hown.alloc _).alloc _) [cutE x] 1 rfl (some ⟨wr.heap.size + 1, 0, none⟩) 1 rfl (by simp) ?ents (by simp; omega) (by simp; omega) ?next)
        case ents =>
          have := ents_one (wr.alloc (.cells #[Value.int .u64 x.seq, .int .u64 x.at', .string (x.text.extract 0 (min (x.text.size : Int) 210).toNat), .int .u64 x.sum] 38)) (cutE x)
          rw [show (wr.alloc (.cells #[Value.int .u64 x.seq, .int .u64 x.at', .string (x.text.extract 0 (min (x.text.size : Int) 210).toNat), .int .u64 x.sum] 38)).heap.size = wr.heap.size + 1 by simp] at this
          exact this
        case next =>
          intro v' w' hown' hg'
          go_wp2_with fail
          go_roundw
          case rel =>
            refine ⟨k + 1, hlt, h40, by go_num, by rw [← HT.out]; exact hown', ?_⟩
            exact ((HB.alloc hsw _).alloc (by simp; omega) _).grown hg' (by simp; omega) (fun q hq => (hown.lt q hq).1)
          case measure => simp [intOf]; omega
      · obtain rfl : k = 40 := by omega
        have HF := Lib.hid (show fewE L = (L.take 40).map cutE from rfl)
        go_wp2_with fail
        exact bodyPost_ret (results_tmp (t := 2) rfl _ _ _) rfl ⟨_, rfl, by rw [HF.out]; exact hown, HB⟩
    · obtain rfl : k = L.length := by omega
      have HF := Lib.hid (show fewE L = (L.take L.length).map cutE by
        unfold fewE
        rw [List.take_length, List.take_of_length_le hk40])
      go_wp2_with fail
      exact bodyPost_ret (results_tmp (t := 2) rfl _ _ _) rfl ⟨_, rfl, by rw [HF.out]; exact hown, HB⟩
end Go.Proofs.Ytclhbimlpamjiaa
