/- A part of the proof of TopCounts. -/
import Derived.Test.YtmgdbfmlnmahpaaGreatDoorG16
import Derived.Test.YtmgdbfmlnmahpaaGreatDoorG44
namespace Go.Proofs.YtmgdbfmlnmahpaaGreatDoor
open Go.RowKit Go.Shelf
set_option linter.unusedSimpArgs false
set_option linter.unusedVariables false
set_option maxRecDepth 100000
theorem ixU_no (L : List Nat) (v : Nat) (hv : v ∉ L) (s : Option Addr) (cap : Nat) (hl : L.length ≤ 1000000) (w : World) (hL : Rd 1 encU w s L) : Calls Tryz.prog 24 #[.slice s L.length cap, .int .u64 (v : Int)] w fun e w' => e = .returned (.int .i64 (-1)) ∧ w' = w := by
  go_enter Tryz.func24, Tryz.ntmps24
  go_wp2_with fail
  go_loopw [8] (fun i wr => ∃ k : Nat, k ≤ L.length ∧ i = .int .i64 (k : Int) ∧ wr = w) (fun i _ => L.length - (intOf i).toNat)
  case atStart => exact ⟨0, Nat.zero_le _, rfl, rfl⟩
  case round =>
    obtain ⟨k, hk, rfl, rfl⟩ := hrel
    by_cases hlt : k < L.length
    · obtain ⟨x, hx⟩ : ∃ x, L[k]? = some x := ⟨_, List.getElem?_eq_getElem hlt⟩
      obtain ⟨g, o, rfl, hg, hc⟩ := hL k x hx
      have hc0 := hc 0 _ rfl
      rw [Nat.mul_one, Nat.add_zero] at hc0
      clear hc
      have hvx : ¬ v = x := fun e => hv (e ▸ List.mem_of_getElem? hx)
      have hne' : ((v : Int) == (x : Int)) = false := by simp; omega
      clear hx hvx
      go_wp2_with fail
      go_roundw
      case rel => exact ⟨k + 1, hlt, by go_num, trivial⟩
      case measure => simp [intOf]; omega
    · obtain rfl : k = L.length := by omega
      go_wp2_with fail
      go_ret
      exact ⟨rfl, rfl⟩
theorem ixU_at (L : List Nat) (v : Nat) (n : Nat) (hn : L[n]? = some v) (hv : ∀ j, j < n → L[j]? ≠ some v) (s : Option Addr) (cap : Nat) (hl : L.length ≤ 1000000) (w : World) (hL : Rd 1 encU w s L) : Calls Tryz.prog 24 #[.slice s L.length cap, .int .u64 (v : Int)] w fun e w' => e = .returned (.int .i64 (n : Int)) ∧ w' = w := by
  go_enter Tryz.func24, Tryz.ntmps24
  go_wp2_with fail
  go_loopw [8] (fun i wr => ∃ k : Nat, k ≤ L.length ∧ i = .int .i64 (k : Int) ∧ wr = w ∧ k ≤ n) (fun i _ => L.length - (intOf i).toNat)
  case atStart => exact ⟨0, Nat.zero_le _, rfl, rfl, Nat.zero_le _⟩
  case round =>
    obtain ⟨k, hk, rfl, rfl, hkn⟩ := hrel
    by_cases hlt : k < L.length
    · obtain ⟨x, hx⟩ : ∃ x, L[k]? = some x := ⟨_, List.getElem?_eq_getElem hlt⟩
      obtain ⟨g, o, rfl, hg, hc⟩ := hL k x hx
      have hc0 := hc 0 _ rfl
      rw [Nat.mul_one, Nat.add_zero] at hc0
      clear hc
      by_cases hkn' : k = n
      · subst hkn'
        obtain rfl : v = x := Option.some.inj (hn.symm.trans hx)
        clear hx hn hv
        go_wp2_with fail
        go_ret
        exact ⟨rfl, rfl⟩
      · have hvx : ¬ v = x := fun e => hv k (by omega) (e ▸ hx)
        have hne' : ((v : Int) == (x : Int)) = false := by simp; omega
        clear hx hvx
        go_wp2_with fail
        go_roundw
        case rel => exact ⟨k + 1, hlt, by go_num, trivial, by omega⟩
        case measure => simp [intOf]; omega
    · obtain rfl : k = L.length := by omega
      have := (List.getElem?_eq_some_iff.1 hn).1
      omega
def encP (b : Nat) : List Value := [.pointer (some ⟨b, 0, none⟩)]
theorem encP_len (b : Nat) : (encP b).length = 1 := rfl
theorem encP_one (b : Nat) : ∀ v ∈ encP b, v.oneCell' = true := by intro v hv; simp [encP] at hv; subst hv; rfl
theorem elemP : Elem Tryz.prog 55 60 1 8 := Elem.mk (z := .pointer none) Tryz.underlying55 (by kernel_rfl) rfl (by decide)
theorem find_no (C : Nat) (L : List Nat) (v : Nat) (hv : v ∉ L) (hl : L.length ≤ 1000000) (s : Option Addr) (cap : Nat) (w : World) (hL : Rd 1 encU w s L) (hc : w.cell? ⟨C, 2, none⟩ = some (.slice s L.length cap)) : Calls Tryz.prog 11 #[.pointer (some ⟨C, 0, none⟩), .int .u64 (v : Int)] w fun e w' => e = .returned (.pointer none) ∧ w' = w := by
  have HI := Lib.hid (ixU_no L v hv s cap hl w hL)
  clear hL hv
  go_enter Tryz.func11, Tryz.ntmps11
  go_wp2_with fail
  refine HI.out.mono ?_
  rintro e w1 ⟨rfl, hw⟩
  subst hw
  go_wp2_with fail
  go_ret
  exact ⟨rfl, rfl⟩
theorem find_at (C : Nat) (L : List Nat) (v n : Nat) (hn : L[n]? = some v) (hv : ∀ j, j < n → L[j]? ≠ some v) (hl : L.length ≤ 1000000) (s : Option Addr) (cap : Nat) (bs : List Nat) (t : Option Addr) (tc b : Nat) (hb : bs[n]? = some b) (w : World) (hL : Rd 1 encU w s L) (hP : Rd 1 encP w t bs) (hc : w.cell? ⟨C, 2, none⟩ = some (.slice s L.length cap)) (hd : w.cell? ⟨C, 3, none⟩ = some (.slice t bs.length tc)) : Calls Tryz.prog 11 #[.pointer (some ⟨C, 0, none⟩), .int .u64 (v : Int)] w fun e w' => e = .returned (.pointer (some ⟨b, 0, none⟩)) ∧ w' = w := by
  have HI := Lib.hid (ixU_at L v n hn hv s cap hl w hL)
  obtain ⟨g, o, rfl, hg, hcc⟩ := hP n b hb
  have hc0 := hcc 0 _ rfl
  rw [Nat.mul_one, Nat.add_zero] at hc0
  have hnb : n < bs.length := (List.getElem?_eq_some_iff.1 hb).1
  clear hL hv hn hb hP hcc
  go_enter Tryz.func11, Tryz.ntmps11
  go_wp2_with fail
  refine HI.out.mono ?_
  rintro e w1 ⟨rfl, hw⟩
  subst hw
  go_wp2_with fail
  go_ret
  exact ⟨rfl, rfl⟩
end Go.Proofs.YtmgdbfmlnmahpaaGreatDoor
