/- The last entry's sum and number: walked. -/
import Derived.Test.YtclhbimlpamjiaaRefChain
namespace Go.Proofs.Ytclhbimlpamjiaa
open Go.RowKit

/-- a log as a value -/
abbrev lv (bf : Int) (s : Option Addr) (n cap : Nat) : Value := .agg #[.int .u64 bf, .slice s n cap]
def headE (bf : Int) (L : List Ent) : Int := match L[L.length - 1]? with | none => bf | some x => x.sum
def lastE (L : List Ent) : Int := match L[L.length - 1]? with | none => 0 | some x => x.seq
theorem headE_bounds (bf : Int) (h0 : 0 ≤ bf) (h1 : bf < 18446744073709551616) (L : List Ent) (hL : ∀ x ∈ L, x.Ok) : 0 ≤ headE bf L ∧ headE bf L < 18446744073709551616 := by
  unfold headE
  split
  · exact ⟨h0, h1⟩
  · rename_i x hx
    have := hL x (List.mem_of_getElem? hx)
    exact ⟨this.m0, this.m1⟩
theorem lastE_bounds (L : List Ent) (hL : ∀ x ∈ L, x.Ok) : 0 ≤ lastE L ∧ lastE L < 18446744073709551616 := by
  unfold lastE
  split
  · omega
  · rename_i x hx
    have := hL x (List.mem_of_getElem? hx)
    exact ⟨this.s0, this.s1⟩

set_option maxRecDepth 100000 in
set_option maxHeartbeats 1000000 in
theorem head_any (bf : Int) (L : List Ent) (hl : L.length ≤ 1000) (s : Option Addr) (cap : Nat) (w : World) (hE : Ents w s L) :
    Calls Try.prog 21 #[lv bf s L.length cap] w fun e w' => e = .returned (.int .u64 (headE bf L)) ∧ Below w.heap.size w w' := by
  by_cases h0 : L.length = 0
  · obtain rfl : L = [] := List.eq_nil_of_length_eq_zero h0
    have HS := Lib.hid (show headE bf [] = bf from rfl)
    simp only [List.length_nil]
    go_enter Try.func21, Try.ntmps21
    go_wp2_with fail
    go_ret
    exact ⟨by rw [HS.out]; rfl, (Below.refl _ _).alloc (Nat.le_refl _) _⟩
  · have hx := List.getElem?_eq_getElem (show L.length - 1 < L.length by omega)
    have HS := Lib.hid (show headE bf L = (L[L.length - 1]'(by omega)).sum by unfold headE; rw [hx])
    obtain ⟨g, o, rfl, hg, c0, c1, c2, c3⟩ := hE _ _ hx
    generalize (L[L.length - 1]'(by omega)) = x at *
    obtain ⟨n, hn⟩ : ∃ n, L.length = n + 1 := ⟨L.length - 1, by omega⟩
    rw [hn] at hl c0 c1 c2 c3 ⊢
    simp only [Nat.add_sub_cancel] at c0 c1 c2 c3
    clear hn hE hx h0
    go_enter Try.func21, Try.ntmps21
    go_wp2_with fail
    go_ret
    exact ⟨by rw [HS.out]; rfl, (Below.refl _ _).alloc (Nat.le_refl _) _⟩

set_option maxRecDepth 100000 in
set_option maxHeartbeats 1000000 in
theorem last_any (bf : Int) (L : List Ent) (hl : L.length ≤ 1000) (s : Option Addr) (cap : Nat) (w : World) (hE : Ents w s L) :
    Calls Try.prog 19 #[lv bf s L.length cap] w fun e w' => e = .returned (.int .u64 (lastE L)) ∧ Below w.heap.size w w' := by
  by_cases h0 : L.length = 0
  · obtain rfl : L = [] := List.eq_nil_of_length_eq_zero h0
    have HS := Lib.hid (show lastE [] = 0 from rfl)
    simp only [List.length_nil]
    go_enter Try.func19, Try.ntmps19
    go_wp2_with fail
    go_ret
    exact ⟨by rw [HS.out]; rfl, (Below.refl _ _).alloc (Nat.le_refl _) _⟩
  · have hx := List.getElem?_eq_getElem (show L.length - 1 < L.length by omega)
    have HS := Lib.hid (show lastE L = (L[L.length - 1]'(by omega)).seq by unfold lastE; rw [hx])
    obtain ⟨g, o, rfl, hg, c0, c1, c2, c3⟩ := hE _ _ hx
    generalize (L[L.length - 1]'(by omega)) = x at *
    obtain ⟨n, hn⟩ : ∃ n, L.length = n + 1 := ⟨L.length - 1, by omega⟩
    rw [hn] at hl c0 c1 c2 c3 ⊢
    simp only [Nat.add_sub_cancel] at c0 c1 c2 c3
    clear hn hE hx h0
    go_enter Try.func19, Try.ntmps19
    go_wp2_with fail
    go_ret
    exact ⟨by rw [HS.out]; rfl, (Below.refl _ _).alloc (Nat.le_refl _) _⟩

set_option maxRecDepth 100000 in
set_option maxHeartbeats 1000000 in
theorem refHead_any (bf : Int) (L : List Ent) (hl : L.length ≤ 1000) (s : Option Addr) (cap : Nat) (w : World) (hE : Ents w s L) :
    Calls Try.prog 26 #[lv bf s L.length cap] w fun e w' => e = .returned (.int .u64 (headE bf L)) ∧ Below w.heap.size w w' := by
  by_cases h0 : L.length = 0
  · obtain rfl : L = [] := List.eq_nil_of_length_eq_zero h0
    have HS := Lib.hid (show headE bf [] = bf from rfl)
    simp only [List.length_nil]
    go_enter Try.func26, Try.ntmps26
    go_wp2_with fail
    go_ret
    exact ⟨by rw [HS.out]; rfl, (Below.refl _ _).alloc (Nat.le_refl _) _⟩
  · have hx := List.getElem?_eq_getElem (show L.length - 1 < L.length by omega)
    have HS := Lib.hid (show headE bf L = (L[L.length - 1]'(by omega)).sum by unfold headE; rw [hx])
    obtain ⟨g, o, rfl, hg, c0, c1, c2, c3⟩ := hE _ _ hx
    generalize (L[L.length - 1]'(by omega)) = x at *
    obtain ⟨n, hn⟩ : ∃ n, L.length = n + 1 := ⟨L.length - 1, by omega⟩
    rw [hn] at hl c0 c1 c2 c3 ⊢
    simp only [Nat.add_sub_cancel] at c0 c1 c2 c3
    clear hn hE hx h0
    go_enter Try.func26, Try.ntmps26
    go_wp2_with fail
    go_ret
    exact ⟨by rw [HS.out]; rfl, (Below.refl _ _).alloc (Nat.le_refl _) _⟩

set_option maxRecDepth 100000 in
set_option maxHeartbeats 1000000 in
theorem refLast_any (bf : Int) (L : List Ent) (hl : L.length ≤ 1000) (s : Option Addr) (cap : Nat) (w : World) (hE : Ents w s L) :
    Calls Try.prog 27 #[lv bf s L.length cap] w fun e w' => e = .returned (.int .u64 (lastE L)) ∧ Below w.heap.size w w' := by
  by_cases h0 : L.length = 0
  · obtain rfl : L = [] := List.eq_nil_of_length_eq_zero h0
    have HS := Lib.hid (show lastE [] = 0 from rfl)
    simp only [List.length_nil]
    go_enter Try.func27, Try.ntmps27
    go_wp2_with fail
    go_ret
    exact ⟨by rw [HS.out]; rfl, (Below.refl _ _).alloc (Nat.le_refl _) _⟩
  · have hx := List.getElem?_eq_getElem (show L.length - 1 < L.length by omega)
    have HS := Lib.hid (show lastE L = (L[L.length - 1]'(by omega)).seq by unfold lastE; rw [hx])
    obtain ⟨g, o, rfl, hg, c0, c1, c2, c3⟩ := hE _ _ hx
    generalize (L[L.length - 1]'(by omega)) = x at *
    obtain ⟨n, hn⟩ : ∃ n, L.length = n + 1 := ⟨L.length - 1, by omega⟩
    rw [hn] at hl c0 c1 c2 c3 ⊢
    simp only [Nat.add_sub_cancel] at c0 c1 c2 c3
    clear hn hE hx h0
    go_enter Try.func27, Try.ntmps27
    go_wp2_with fail
    go_ret
    exact ⟨by rw [HS.out]; rfl, (Below.refl _ _).alloc (Nat.le_refl _) _⟩
end Go.Proofs.Ytclhbimlpamjiaa
