/- A part of the proof of TopCounts. -/
import Derived.Test.YtmgdbfmlnmahpaaGreatDoorG33
namespace Go.Proofs.YtmgdbfmlnmahpaaGreatDoor
open Go.RowKit
abbrev lv (bf : Int) (s : Option Addr) (n cap : Nat) : Value := .agg #[.int .u64 bf, .slice s n cap]
def headE (bf : Int) (L : List Ent) : Int := match L[L.length - 1]? with | none => bf | some x => x.sum
def lastE (L : List Ent) : Int := match L[L.length - 1]? with | none => 0 | some x => x.seq
theorem headE_bounds (bf : Int) (h0 : 0 ≤ bf) (h1 : bf < 18446744073709551616) (L : List Ent) (hL : ∀ x ∈ L, x.Ok) : 0 ≤ headE bf L ∧ headE bf L < 18446744073709551616 := by
  unfold headE
  split
  · exact ⟨h0, h1⟩
  · rename_i x hx
    have := hL x (List.mem_of_getElem? hx)
    exact ⟨this.m0, this.m1⟩
theorem lastE_bounds (L : List Ent) (hL : ∀ x ∈ L, x.Ok) : 0 ≤ lastE L ∧ lastE L < 18446744073709551616 := by
  unfold lastE
  split
  · omega
  · rename_i x hx
    have := hL x (List.mem_of_getElem? hx)
    exact ⟨this.s0, this.s1⟩
set_option maxRecDepth 100000 in
set_option maxHeartbeats 1000000 in
theorem head_any (bf : Int) (L : List Ent) (hl : L.length ≤ 1000) (s : Option Addr) (cap : Nat) (w : World) (hE : Ents w s L) :
    Calls Tryz.prog 103 #[lv bf s L.length cap] w fun e w' => e = .returned (.int .u64 (headE bf L)) ∧ Below w.heap.size w w' := by
  by_cases h0 : L.length = 0
  · obtain rfl : L = [] := List.eq_nil_of_length_eq_zero h0
    have HS := Lib.hid (show headE bf [] = bf from rfl)
    simp only [List.length_nil]
    go_enter Tryz.func103, Tryz.ntmps103
    go_wp2_with fail
    go_ret
    exact ⟨by rw [HS.out]; rfl, (Below.refl _ _).alloc (Nat.le_refl _) _⟩
  · have hx := List.getElem?_eq_getElem (show L.length - 1 < L.length by omega)
    have HS := Lib.hid (show headE bf L = (L[L.length - 1]'(by omega)).sum by unfold headE; rw [hx])
    obtain ⟨g, o, rfl, hg, c0, c1, c2, c3⟩ := hE _ _ hx
    generalize (L[L.length - 1]'(by omega)) = x at *
    obtain ⟨n, hn⟩ : ∃ n, L.length = n + 1 := ⟨L.length - 1, by omega⟩
    rw [hn] at hl c0 c1 c2 c3 ⊢
    simp only [Nat.add_sub_cancel] at c0 c1 c2 c3
    clear hn hE hx h0
    go_enter Tryz.func103, Tryz.ntmps103
    go_wp2_with fail
    go_ret
    exact ⟨by rw [HS.out]; rfl, (Below.refl _ _).alloc (Nat.le_refl _) _⟩
set_option maxRecDepth 100000 in
set_option maxHeartbeats 1000000 in
theorem last_any (bf : Int) (L : List Ent) (hl : L.length ≤ 1000) (s : Option Addr) (cap : Nat) (w : World) (hE : Ents w s L) :
    Calls Tryz.prog 101 #[lv bf s L.length cap] w fun e w' => e = .returned (.int .u64 (lastE L)) ∧ Below w.heap.size w w' := by
  by_cases h0 : L.length = 0
  · obtain rfl : L = [] := List.eq_nil_of_length_eq_zero h0
    have HS := Lib.hid (show lastE [] = 0 from rfl)
    simp only [List.length_nil]
    go_enter Tryz.func101, Tryz.ntmps101
    go_wp2_with fail
    go_ret
    exact ⟨by rw [HS.out]; rfl, (Below.refl _ _).alloc (Nat.le_refl _) _⟩
  · have hx := List.getElem?_eq_getElem (show L.length - 1 < L.length by omega)
    have HS := Lib.hid (show lastE L = (L[L.length - 1]'(by omega)).seq by unfold lastE; rw [hx])
    obtain ⟨g, o, rfl, hg, c0, c1, c2, c3⟩ := hE _ _ hx
    generalize (L[L.length - 1]'(by omega)) = x at *
    obtain ⟨n, hn⟩ : ∃ n, L.length = n + 1 := ⟨L.length - 1, by omega⟩
    rw [hn] at hl c0 c1 c2 c3 ⊢
    simp only [Nat.add_sub_cancel] at c0 c1 c2 c3
    clear hn hE hx h0
    go_enter Tryz.func101, Tryz.ntmps101
    go_wp2_with fail
    go_ret
    exact ⟨by rw [HS.out]; rfl, (Below.refl _ _).alloc (Nat.le_refl _) _⟩
end Go.Proofs.YtmgdbfmlnmahpaaGreatDoor
namespace Go.Proofs.YtmgdbfmlnmahpaaGreatDoor
open Go.RowKit
def Fits (p x : Ent) : Prop := p.seq < 18446744073709551615 ∧ x.seq = p.seq + 1 ∧ p.at' ≤ x.at'
structure RightP (a b : BitVec 64) (bf : Int) (L : List Ent) : Prop where
  n : L.length ≤ 30
  e : L = [] → bf = 0
  f : ∀ x : Ent, L[0]? = some x → 1 ≤ x.seq ∧ (x.seq = 1 → bf = 0)
  t : ∀ (i : Nat) (x : Ent), L[i]? = some x → x.text.size ≤ 200
  s : ∀ (i : Nat) (p x : Ent), L[i]? = some p → L[i + 1]? = some x → Fits p x
  c : (chain a b bf L).2 = true
theorem bool_false {r : Bool} {p : Prop} (h : r = true ↔ p) (hn : ¬p) : r = false := by
  cases r
  · rfl
  · exact absurd (h.1 rfl) hn
theorem bool_true {r : Bool} {p : Prop} (h : r = true ↔ p) (hn : p) : r = true := h.2 hn
set_option maxRecDepth 100000 in
set_option maxHeartbeats 1000000 in
theorem follows_any (p x : Ent) (hp : p.Ok) (hx : x.Ok) (r : Bool) (hr : r = true ↔ Fits p x) (w : World) :
    Calls Tryz.prog 144 #[p.v, x.v] w fun e w' => e = .returned (.bool r) ∧ Below w.heap.size w w' := by
  obtain ⟨s0, s1, a0, a1, t, m0, m1⟩ := hp
  obtain ⟨t0, t1, b0, b1, u, n0, n1⟩ := hx
  have HR := Lib.hid hr
  clear hr
  unfold Ent.v
  by_cases h1 : p.seq < 18446744073709551615
  · by_cases h2 : x.seq = p.seq + 1
    · have h2b : (x.seq == p.seq + 1) = true := by simp [h2]
      by_cases h3 : p.at' ≤ x.at'
      · have hR := Lib.hid (bool_true HR.out ⟨h1, h2, h3⟩)
        go_enter Tryz.func144, Tryz.ntmps144
        go_wp2_with fail
        go_ret
        exact ⟨by rw [hR.out]; rfl, ((Below.refl _ _).alloc (Nat.le_refl _) _).alloc (by simp) _⟩
      · have hR := Lib.hid (bool_false HR.out (fun h => h3 h.2.2))
        go_enter Tryz.func144, Tryz.ntmps144
        go_wp2_with fail
        go_ret
        exact ⟨by rw [hR.out]; rfl, ((Below.refl _ _).alloc (Nat.le_refl _) _).alloc (by simp) _⟩
    · have h2b : (x.seq == p.seq + 1) = false := by simp [h2]
      have hR := Lib.hid (bool_false HR.out (fun h => h2 h.2.1))
      go_enter Tryz.func144, Tryz.ntmps144
      go_wp2_with fail
      go_ret
      exact ⟨by rw [hR.out]; rfl, ((Below.refl _ _).alloc (Nat.le_refl _) _).alloc (by simp) _⟩
  · have hR := Lib.hid (bool_false HR.out (fun h => h1 h.1))
    go_enter Tryz.func144, Tryz.ntmps144
    go_wp2_with fail
    go_ret
    exact ⟨by rw [hR.out]; rfl, ((Below.refl _ _).alloc (Nat.le_refl _) _).alloc (by simp) _⟩
set_option maxRecDepth 100000 in
set_option maxHeartbeats 4000000 in
theorem right_any (a b : BitVec 64) (bf : Int) (h0 : 0 ≤ bf) (h1 : bf < 18446744073709551616) (L : List Ent) (hL : ∀ x ∈ L, x.Ok) (hl : L.length ≤ 1000) (s : Option Addr) (cap : Nat) (r : Bool) (hr : r = true ↔ RightP a b bf L) (w : World) (hE : Ents w s L) :
    Calls Tryz.prog 100 #[kv a b, lv bf s L.length cap] w fun e w' => e = .returned (.bool r) ∧ Below w.heap.size w w' := by
  have HR := Lib.hid hr
  clear hr
  by_cases hn : 30 < L.length
  · have hR := Lib.hid (bool_false HR.out (fun h => absurd h.n (by omega)))
    go_enter Tryz.func100, Tryz.ntmps100
    go_wp2_with fail
    go_ret
    exact ⟨by rw [hR.out]; rfl, ((Below.refl _ _).alloc (Nat.le_refl _) _).alloc (by simp) _⟩
  by_cases hz : L.length = 0
  · obtain rfl : L = [] := List.eq_nil_of_length_eq_zero hz
    have HB : Hid (r = (bf == 0)) := by
      show _ = _
      by_cases hb : bf = 0
      · rw [bool_true HR.out ⟨by simp, fun _ => hb, by simp, by simp, by simp, rfl⟩]
        simp [hb]
      · rw [bool_false HR.out (fun h => hb (h.e rfl))]
        simp [hb]
    simp only [List.length_nil]
    go_enter Tryz.func100, Tryz.ntmps100
    go_wp2_with fail
    go_ret
    exact ⟨by rw [HB.out]; rfl, ((Below.refl _ _).alloc (Nat.le_refl _) _).alloc (by simp) _⟩
  have hx0 := List.getElem?_eq_getElem (show 0 < L.length by omega)
  have hok0 : (L[0]'(by omega)).Ok := hL _ (List.getElem_mem _)
  obtain ⟨g, o, rfl, hg, c0, c1, c2, c3⟩ := hE 0 _ hx0
  generalize (L[0]'(by omega)) = x0 at *
  have HX0 := Lib.hid hx0
  rw [Nat.zero_mul, Nat.add_zero] at c0 c1 c2 c3
  have q0 := hok0.s0
  have q1 := hok0.s1
  have hzb : ((L.length : Int) == 0) = false := by rw [beq_eq_false_iff_ne]; omega
  clear hx0
  by_cases hq : x0.seq < 1
  · have hR := Lib.hid (bool_false HR.out (fun h => absurd (h.f _ HX0.out).1 (by omega)))
    go_enter Tryz.func100, Tryz.ntmps100
    go_wp2_with fail
    go_ret
    exact ⟨by rw [hR.out]; rfl, ((Below.refl _ _).alloc (Nat.le_refl _) _).alloc (by simp) _⟩
  by_cases hq1 : x0.seq = 1 ∧ bf ≠ 0
  · have hq1b : (x0.seq == 1) = true := by simp [hq1.1]
    have hb1 : (bf != 0) = true := by simp [hq1.2]
    have hR := Lib.hid (bool_false HR.out (fun h => hq1.2 ((h.f _ HX0.out).2 hq1.1)))
    clear hq1
    go_enter Tryz.func100, Tryz.ntmps100
    go_wp2_with fail
    go_ret
    exact ⟨by rw [hR.out]; rfl, ((Below.refl _ _).alloc (Nat.le_refl _) _).alloc (by simp) _⟩
  have HF := Lib.hid (show 1 ≤ x0.seq ∧ (x0.seq = 1 → bf = 0) from ⟨by omega, fun h => Classical.byContradiction fun hb => hq1 ⟨h, hb⟩⟩)
  clear hq1
  by_cases hs1 : x0.seq = 1
  · have hbf := HF.out.2 hs1
    have hbb : (bf != 0) = false := by simp [hbf]
    have hq1b : (x0.seq == 1) = true := by simp [hs1]
    clear hbf
    go_enter Tryz.func100, Tryz.ntmps100
    go_wp2_with fail
    have HB0 : Below w.heap.size w ((w.alloc (.cells #[Value.int IntKind.u64 (un a), Value.int IntKind.u64 (un b)] 24)).alloc (.cells #[Value.int IntKind.u64 bf, .slice (some ⟨g, o, none⟩) L.length cap] 79)) := ((Below.refl _ _).alloc (Nat.le_refl _) _).alloc (by simp) _
    have HZ0 : w.heap.size + 1 < ((w.alloc (.cells #[Value.int IntKind.u64 (un a), Value.int IntKind.u64 (un b)] 24)).alloc (.cells #[Value.int IntKind.u64 bf, .slice (some ⟨g, o, none⟩) L.length cap] 79)).heap.size := by simp
    have K00 : ((w.alloc (.cells #[Value.int IntKind.u64 (un a), Value.int IntKind.u64 (un b)] 24)).alloc (.cells #[Value.int IntKind.u64 bf, .slice (some ⟨g, o, none⟩) L.length cap] 79)).cell? ⟨w.heap.size, 0, none⟩ = some (.int .u64 (un a)) := by go_simp
    have K10 : ((w.alloc (.cells #[Value.int IntKind.u64 (un a), Value.int IntKind.u64 (un b)] 24)).alloc (.cells #[Value.int IntKind.u64 bf, .slice (some ⟨g, o, none⟩) L.length cap] 79)).cell? ⟨w.heap.size, 1, none⟩ = some (.int .u64 (un b)) := by go_simp
    have G00 : ((w.alloc (.cells #[Value.int IntKind.u64 (un a), Value.int IntKind.u64 (un b)] 24)).alloc (.cells #[Value.int IntKind.u64 bf, .slice (some ⟨g, o, none⟩) L.length cap] 79)).cell? ⟨w.heap.size + 1, 0, none⟩ = some (.int .u64 bf) := by go_simp
    have G10 : ((w.alloc (.cells #[Value.int IntKind.u64 (un a), Value.int IntKind.u64 (un b)] 24)).alloc (.cells #[Value.int IntKind.u64 bf, .slice (some ⟨g, o, none⟩) L.length cap] 79)).cell? ⟨w.heap.size + 1, 1, none⟩ = some (.slice (some ⟨g, o, none⟩) L.length cap) := by go_simp
    generalize ((w.alloc (.cells #[Value.int IntKind.u64 (un a), Value.int IntKind.u64 (un b)] 24)).alloc (.cells #[Value.int IntKind.u64 bf, .slice (some ⟨g, o, none⟩) L.length cap] 79)) = w4 at *
    go_loopw [42] (fun i wr => ∃ (k : Nat), k ≤ L.length ∧ i = .int .i64 k ∧ Hid ((∀ (i : Nat) (x : Ent), i < k → L[i]? = some x → x.text.size ≤ 200) ∧ (∀ (i : Nat) (p x : Ent), i + 1 < k → L[i]? = some p → L[i + 1]? = some x → Fits p x)) ∧ Below w.heap.size w wr ∧ w.heap.size + 1 < wr.heap.size ∧ wr.cell? ⟨w.heap.size, 0, none⟩ = some (.int .u64 (un a)) ∧ wr.cell? ⟨w.heap.size, 1, none⟩ = some (.int .u64 (un b)) ∧ wr.cell? ⟨w.heap.size + 1, 0, none⟩ = some (.int .u64 bf) ∧ wr.cell? ⟨w.heap.size + 1, 1, none⟩ = some (.slice (some ⟨g, o, none⟩) L.length cap)) (fun i _ => L.length - (intOf i).toNat)
    case atStart => exact ⟨0, Nat.zero_le _, rfl, Lib.hid ⟨fun i x h => absurd h (by omega), fun i p x h => absurd h (by omega)⟩, HB0, HZ0, K00, K10, G00, G10⟩
    case round =>
      obtain ⟨k, hk, rfl, HI, HB, HZ, K0, K1, G0, G1⟩ := hrel
      clear HB0 HZ0 K00 K10 G00 G10 c0 c1 c2 c3
      by_cases hlt : k < L.length
      · have hx := List.getElem?_eq_getElem hlt
        have hok : (L[k]'hlt).Ok := hL _ (List.getElem_mem _)
        obtain ⟨g', o', he, hg', c0, c1, c2, c3⟩ := hE k _ hx
        obtain ⟨rfl, rfl⟩ : g' = g ∧ o' = o := by simp at he; exact ⟨he.1.symm, he.2.symm⟩
        generalize (L[k]'hlt) = x at *
        have hgz : g' < wr.heap.size := by have := HB.size; omega
        have d0 := (HB.cell (p := ⟨g', _, none⟩) hg').trans c0
        have d1 := (HB.cell (p := ⟨g', _, none⟩) hg').trans c1
        have d2 := (HB.cell (p := ⟨g', _, none⟩) hg').trans c2
        have d3 := (HB.cell (p := ⟨g', _, none⟩) hg').trans c3
        have HX := Lib.hid hx
        have hts := hok.t
        clear c0 c1 c2 c3 hx he
        by_cases ht : 200 < x.text.size
        · have hR := Lib.hid (bool_false HR.out (fun h => absurd (h.t k x HX.out) (by omega)))
          go_wp2_with fail
          go_ret
          exact ⟨by rw [hR.out]; rfl, HB.alloc HB.size _⟩
        · by_cases hk0 : k = 0
          · subst hk0
            rw [Nat.zero_mul, Nat.add_zero] at d0 d1 d2 d3
            go_wp2_with fail
            have hBx : Below wr.heap.size wr (wr.alloc (.cells #[Value.int .u64 x.seq, .int .u64 x.at', .string x.text, .int .u64 x.sum] 53)) := (Below.refl _ _).alloc (Nat.le_refl _) _
            have hzx : wr.heap.size < (wr.alloc (.cells #[Value.int .u64 x.seq, .int .u64 x.at', .string x.text, .int .u64 x.sum] 53)).heap.size := by simp
            have e0 := Cw.cell (w := (wr.alloc (.cells #[Value.int .u64 x.seq, .int .u64 x.at', .string x.text, .int .u64 x.sum] 53))) wr.heap.size 0 (.int .u64 x.seq) hzx (by go_simp)
            have e1 := Cw.cell (w := (wr.alloc (.cells #[Value.int .u64 x.seq, .int .u64 x.at', .string x.text, .int .u64 x.sum] 53))) wr.heap.size 1 (.int .u64 x.at') hzx (by go_simp)
            have e2 := Cw.cell (w := (wr.alloc (.cells #[Value.int .u64 x.seq, .int .u64 x.at', .string x.text, .int .u64 x.sum] 53))) wr.heap.size 2 (.string x.text) hzx (by go_simp)
            have e3 := Cw.cell (w := (wr.alloc (.cells #[Value.int .u64 x.seq, .int .u64 x.at', .string x.text, .int .u64 x.sum] 53))) wr.heap.size 3 (.int .u64 x.sum) hzx (by go_simp)
            have f0 := Cw.cell (w := (wr.alloc (.cells #[Value.int .u64 x.seq, .int .u64 x.at', .string x.text, .int .u64 x.sum] 53))) w.heap.size 0 (.int .u64 (un a)) (by omega) ((hBx.cell (p := ⟨w.heap.size, 0, none⟩) (by show w.heap.size < _; omega)).trans K0)
            have f1 := Cw.cell (w := (wr.alloc (.cells #[Value.int .u64 x.seq, .int .u64 x.at', .string x.text, .int .u64 x.sum] 53))) w.heap.size 1 (.int .u64 (un b)) (by omega) ((hBx.cell (p := ⟨w.heap.size, 1, none⟩) (by show w.heap.size < _; omega)).trans K1)
            have l0 := Cw.cell (w := (wr.alloc (.cells #[Value.int .u64 x.seq, .int .u64 x.at', .string x.text, .int .u64 x.sum] 53))) (w.heap.size + 1) 0 (.int .u64 bf) (by omega) ((hBx.cell (p := ⟨w.heap.size + 1, 0, none⟩) HZ).trans G0)
            have l1 := Cw.cell (w := (wr.alloc (.cells #[Value.int .u64 x.seq, .int .u64 x.at', .string x.text, .int .u64 x.sum] 53))) (w.heap.size + 1) 1 (.slice (some ⟨g', o', none⟩) L.length cap) (by omega) ((hBx.cell (p := ⟨w.heap.size + 1, 1, none⟩) HZ).trans G1)
            clear d0 d1 d2 d3 K0 K1 G0 G1
            generalize (wr.alloc (.cells #[Value.int .u64 x.seq, .int .u64 x.at', .string x.text, .int .u64 x.sum] 53)) = w5 at *
            refine region_cw (by kernel_rfl) (by kernel_rfl) ?_
            repeat (first | go_big_quiet_step (fail) | quiet_step (fail))
            refine wpQuiet_nil ?_
            intro y
            have hy : Below wr.heap.size wr y.W := hBx.trans (y.below.mono (by omega))
            have m0 := f0 y
            have m1 := f1 y
            have m2 := l0 y
            have m3 := l1 y
            have hyz := hy.size
            clear e0 e1 e2 e3 f0 f1 l0 l1
            generalize y.W = W at *
            go_wp2_with fail
            go_roundw
            case rel =>
              refine ⟨1, by omega, by go_num, Lib.hid ⟨fun i z hi hz' => ?_, fun i p z hi => absurd hi (by omega)⟩, HB.trans (hy.mono HB.size), by omega, m0, m1, m2, m3⟩
              obtain rfl : i = 0 := by omega
              have := hz'.symm.trans HX.out
              simp at this
              subst this
              omega
            case measure => simp [intOf]; omega
          · obtain ⟨j, rfl⟩ : ∃ j, k = j + 1 := ⟨k - 1, by omega⟩
            have hp := List.getElem?_eq_getElem (show j < L.length by omega)
            have hokp : (L[j]'(by omega)).Ok := hL _ (List.getElem_mem _)
            obtain ⟨g'', o'', he, hg'', c0, c1, c2, c3⟩ := hE j _ hp
            obtain ⟨rfl, rfl⟩ : g'' = g' ∧ o'' = o' := by simp at he; exact ⟨he.1.symm, he.2.symm⟩
            generalize (L[j]'(by omega)) = p at *
            have b0 := (HB.cell (p := ⟨g'', _, none⟩) hg'').trans c0
            have b1 := (HB.cell (p := ⟨g'', _, none⟩) hg'').trans c1
            have b2 := (HB.cell (p := ⟨g'', _, none⟩) hg'').trans c2
            have b3 := (HB.cell (p := ⟨g'', _, none⟩) hg'').trans c3
            have HP := Lib.hid hp
            clear c0 c1 c2 c3 hp he
            obtain ⟨q, hq2⟩ : ∃ q : Bool, q = true ↔ Fits p x := by
              classical
              exact ⟨decide (Fits p x), decide_eq_true_iff⟩
            go_wp2_with fail
            have hBx : Below wr.heap.size wr (wr.alloc (.cells #[Value.int .u64 x.seq, .int .u64 x.at', .string x.text, .int .u64 x.sum] 53)) := (Below.refl _ _).alloc (Nat.le_refl _) _
            have hzx : wr.heap.size < (wr.alloc (.cells #[Value.int .u64 x.seq, .int .u64 x.at', .string x.text, .int .u64 x.sum] 53)).heap.size := by simp
            have e0 := Cw.cell (w := (wr.alloc (.cells #[Value.int .u64 x.seq, .int .u64 x.at', .string x.text, .int .u64 x.sum] 53))) wr.heap.size 0 (.int .u64 x.seq) hzx (by go_simp)
            have e1 := Cw.cell (w := (wr.alloc (.cells #[Value.int .u64 x.seq, .int .u64 x.at', .string x.text, .int .u64 x.sum] 53))) wr.heap.size 1 (.int .u64 x.at') hzx (by go_simp)
            have e2 := Cw.cell (w := (wr.alloc (.cells #[Value.int .u64 x.seq, .int .u64 x.at', .string x.text, .int .u64 x.sum] 53))) wr.heap.size 2 (.string x.text) hzx (by go_simp)
            have e3 := Cw.cell (w := (wr.alloc (.cells #[Value.int .u64 x.seq, .int .u64 x.at', .string x.text, .int .u64 x.sum] 53))) wr.heap.size 3 (.int .u64 x.sum) hzx (by go_simp)
            have f0 := Cw.cell (w := (wr.alloc (.cells #[Value.int .u64 x.seq, .int .u64 x.at', .string x.text, .int .u64 x.sum] 53))) w.heap.size 0 (.int .u64 (un a)) (by omega) ((hBx.cell (p := ⟨w.heap.size, 0, none⟩) (by show w.heap.size < _; omega)).trans K0)
            have f1 := Cw.cell (w := (wr.alloc (.cells #[Value.int .u64 x.seq, .int .u64 x.at', .string x.text, .int .u64 x.sum] 53))) w.heap.size 1 (.int .u64 (un b)) (by omega) ((hBx.cell (p := ⟨w.heap.size, 1, none⟩) (by show w.heap.size < _; omega)).trans K1)
            have l0 := Cw.cell (w := (wr.alloc (.cells #[Value.int .u64 x.seq, .int .u64 x.at', .string x.text, .int .u64 x.sum] 53))) (w.heap.size + 1) 0 (.int .u64 bf) (by omega) ((hBx.cell (p := ⟨w.heap.size + 1, 0, none⟩) HZ).trans G0)
            have l1 := Cw.cell (w := (wr.alloc (.cells #[Value.int .u64 x.seq, .int .u64 x.at', .string x.text, .int .u64 x.sum] 53))) (w.heap.size + 1) 1 (.slice (some ⟨g'', o'', none⟩) L.length cap) (by omega) ((hBx.cell (p := ⟨w.heap.size + 1, 1, none⟩) HZ).trans G1)
            have p0 := Cw.cell (w := (wr.alloc (.cells #[Value.int .u64 x.seq, .int .u64 x.at', .string x.text, .int .u64 x.sum] 53))) g'' (o'' + j * 4) (.int .u64 p.seq) (by omega) ((hBx.cell (p := ⟨g'', o'' + j * 4, none⟩) hgz).trans b0)
            have p1 := Cw.cell (w := (wr.alloc (.cells #[Value.int .u64 x.seq, .int .u64 x.at', .string x.text, .int .u64 x.sum] 53))) g'' (o'' + j * 4 + 1) (.int .u64 p.at') (by omega) ((hBx.cell (p := ⟨g'', o'' + j * 4 + 1, none⟩) hgz).trans b1)
            have p2 := Cw.cell (w := (wr.alloc (.cells #[Value.int .u64 x.seq, .int .u64 x.at', .string x.text, .int .u64 x.sum] 53))) g'' (o'' + j * 4 + 2) (.string p.text) (by omega) ((hBx.cell (p := ⟨g'', o'' + j * 4 + 2, none⟩) hgz).trans b2)
            have p3 := Cw.cell (w := (wr.alloc (.cells #[Value.int .u64 x.seq, .int .u64 x.at', .string x.text, .int .u64 x.sum] 53))) g'' (o'' + j * 4 + 3) (.int .u64 p.sum) (by omega) ((hBx.cell (p := ⟨g'', o'' + j * 4 + 3, none⟩) hgz).trans b3)
            clear d0 d1 d2 d3 K0 K1 G0 G1
            generalize (wr.alloc (.cells #[Value.int .u64 x.seq, .int .u64 x.at', .string x.text, .int .u64 x.sum] 53)) = w5 at *
            refine region_cw (by kernel_rfl) (by kernel_rfl) ?_
            repeat (first | go_big_quiet_step ((go_at_call 144; exact Cw.call (follows_any p x hokp hok q hq2 _))) | quiet_step ((go_at_call 144; exact Cw.call (follows_any p x hokp hok q hq2 _))))
            refine wpQuiet_nil ?_
            intro y
            have hy : Below wr.heap.size wr y.W := hBx.trans (y.below.mono (by omega))
            have m0 := f0 y
            have m1 := f1 y
            have m2 := l0 y
            have m3 := l1 y
            have hyz := hy.size
            clear p0 p1 p2 p3 b0 b1 b2 b3 e0 e1 e2 e3 f0 f1 l0 l1
            generalize y.W = W at *
            cases q
            · have hR := Lib.hid (bool_false HR.out (fun h => absurd (hq2.2 (h.s j p x HP.out HX.out)) (by simp)))
              go_wp2_with fail
              go_ret
              exact ⟨by rw [hR.out]; rfl, HB.trans (hy.mono HB.size)⟩
            · have HQ := Lib.hid (hq2.1 rfl)
              clear hq2
              go_wp2_with fail
              go_roundw
              case rel =>
                refine ⟨j + 1 + 1, hlt, by go_num, Lib.hid ⟨fun i z hi hz' => ?_, fun i p' z hi hp' hz' => ?_⟩, HB.trans (hy.mono HB.size), by omega, m0, m1, m2, m3⟩
                · by_cases hij : i = j + 1
                  · subst hij
                    have := hz'.symm.trans HX.out
                    simp at this
                    subst this
                    omega
                  · exact HI.out.1 i z (by omega) hz'
                · by_cases hij : i = j
                  · subst hij
                    have e1 := hz'.symm.trans HX.out
                    have e2 := hp'.symm.trans HP.out
                    simp at e1 e2
                    subst e1 e2
                    exact HQ.out
                  · exact HI.out.2 i p' z (by omega) hp' hz'
              case measure => simp [intOf]; omega
      · obtain rfl : k = L.length := by omega
        have HCH : Hid (r = (chain a b bf L).2) := by
          show _ = _
          by_cases hc : (chain a b bf L).2 = true
          · rw [hc]
            exact bool_true HR.out ⟨by omega, fun h => absurd (congrArg List.length h) (by simpa using hz), fun y hy => by
              have := hy.symm.trans HX0.out
              simp at this
              subst this
              exact HF.out, fun i y hy => HI.out.1 i y (List.getElem?_eq_some_iff.1 hy).1 hy, fun i p y hp hy => HI.out.2 i p y (List.getElem?_eq_some_iff.1 hy).1 hp hy, hc⟩
          · rw [bool_false HR.out (fun h => hc h.c)]
            simpa using hc
        go_wp2_with fail
        refine (chained_any a b bf h0 h1 L hL hl _ cap _ (hE.below HB)).mono ?_
        rintro e w5 ⟨rfl, hb5⟩
        go_wp2_with fail
        go_ret
        exact ⟨by rw [HCH.out]; rfl, HB.trans (hb5.mono HB.size)⟩
  · have hq1b : (x0.seq == 1) = false := by simp [hs1]
    go_enter Tryz.func100, Tryz.ntmps100
    go_wp2_with fail
    have HB0 : Below w.heap.size w ((w.alloc (.cells #[Value.int IntKind.u64 (un a), Value.int IntKind.u64 (un b)] 24)).alloc (.cells #[Value.int IntKind.u64 bf, .slice (some ⟨g, o, none⟩) L.length cap] 79)) := ((Below.refl _ _).alloc (Nat.le_refl _) _).alloc (by simp) _
    have HZ0 : w.heap.size + 1 < ((w.alloc (.cells #[Value.int IntKind.u64 (un a), Value.int IntKind.u64 (un b)] 24)).alloc (.cells #[Value.int IntKind.u64 bf, .slice (some ⟨g, o, none⟩) L.length cap] 79)).heap.size := by simp
    have K00 : ((w.alloc (.cells #[Value.int IntKind.u64 (un a), Value.int IntKind.u64 (un b)] 24)).alloc (.cells #[Value.int IntKind.u64 bf, .slice (some ⟨g, o, none⟩) L.length cap] 79)).cell? ⟨w.heap.size, 0, none⟩ = some (.int .u64 (un a)) := by go_simp
    have K10 : ((w.alloc (.cells #[Value.int IntKind.u64 (un a), Value.int IntKind.u64 (un b)] 24)).alloc (.cells #[Value.int IntKind.u64 bf, .slice (some ⟨g, o, none⟩) L.length cap] 79)).cell? ⟨w.heap.size, 1, none⟩ = some (.int .u64 (un b)) := by go_simp
    have G00 : ((w.alloc (.cells #[Value.int IntKind.u64 (un a), Value.int IntKind.u64 (un b)] 24)).alloc (.cells #[Value.int IntKind.u64 bf, .slice (some ⟨g, o, none⟩) L.length cap] 79)).cell? ⟨w.heap.size + 1, 0, none⟩ = some (.int .u64 bf) := by go_simp
    have G10 : ((w.alloc (.cells #[Value.int IntKind.u64 (un a), Value.int IntKind.u64 (un b)] 24)).alloc (.cells #[Value.int IntKind.u64 bf, .slice (some ⟨g, o, none⟩) L.length cap] 79)).cell? ⟨w.heap.size + 1, 1, none⟩ = some (.slice (some ⟨g, o, none⟩) L.length cap) := by go_simp
    generalize ((w.alloc (.cells #[Value.int IntKind.u64 (un a), Value.int IntKind.u64 (un b)] 24)).alloc (.cells #[Value.int IntKind.u64 bf, .slice (some ⟨g, o, none⟩) L.length cap] 79)) = w4 at *
    go_loopw [42] (fun i wr => ∃ (k : Nat), k ≤ L.length ∧ i = .int .i64 k ∧ Hid ((∀ (i : Nat) (x : Ent), i < k → L[i]? = some x → x.text.size ≤ 200) ∧ (∀ (i : Nat) (p x : Ent), i + 1 < k → L[i]? = some p → L[i + 1]? = some x → Fits p x)) ∧ Below w.heap.size w wr ∧ w.heap.size + 1 < wr.heap.size ∧ wr.cell? ⟨w.heap.size, 0, none⟩ = some (.int .u64 (un a)) ∧ wr.cell? ⟨w.heap.size, 1, none⟩ = some (.int .u64 (un b)) ∧ wr.cell? ⟨w.heap.size + 1, 0, none⟩ = some (.int .u64 bf) ∧ wr.cell? ⟨w.heap.size + 1, 1, none⟩ = some (.slice (some ⟨g, o, none⟩) L.length cap)) (fun i _ => L.length - (intOf i).toNat)
    case atStart => exact ⟨0, Nat.zero_le _, rfl, Lib.hid ⟨fun i x h => absurd h (by omega), fun i p x h => absurd h (by omega)⟩, HB0, HZ0, K00, K10, G00, G10⟩
    case round =>
      obtain ⟨k, hk, rfl, HI, HB, HZ, K0, K1, G0, G1⟩ := hrel
      clear HB0 HZ0 K00 K10 G00 G10 c0 c1 c2 c3
      by_cases hlt : k < L.length
      · have hx := List.getElem?_eq_getElem hlt
        have hok : (L[k]'hlt).Ok := hL _ (List.getElem_mem _)
        obtain ⟨g', o', he, hg', c0, c1, c2, c3⟩ := hE k _ hx
        obtain ⟨rfl, rfl⟩ : g' = g ∧ o' = o := by simp at he; exact ⟨he.1.symm, he.2.symm⟩
        generalize (L[k]'hlt) = x at *
        have hgz : g' < wr.heap.size := by have := HB.size; omega
        have d0 := (HB.cell (p := ⟨g', _, none⟩) hg').trans c0
        have d1 := (HB.cell (p := ⟨g', _, none⟩) hg').trans c1
        have d2 := (HB.cell (p := ⟨g', _, none⟩) hg').trans c2
        have d3 := (HB.cell (p := ⟨g', _, none⟩) hg').trans c3
        have HX := Lib.hid hx
        have hts := hok.t
        clear c0 c1 c2 c3 hx he
        by_cases ht : 200 < x.text.size
        · have hR := Lib.hid (bool_false HR.out (fun h => absurd (h.t k x HX.out) (by omega)))
          go_wp2_with fail
          go_ret
          exact ⟨by rw [hR.out]; rfl, HB.alloc HB.size _⟩
        · by_cases hk0 : k = 0
          · subst hk0
            rw [Nat.zero_mul, Nat.add_zero] at d0 d1 d2 d3
            go_wp2_with fail
            have hBx : Below wr.heap.size wr (wr.alloc (.cells #[Value.int .u64 x.seq, .int .u64 x.at', .string x.text, .int .u64 x.sum] 53)) := (Below.refl _ _).alloc (Nat.le_refl _) _
            have hzx : wr.heap.size < (wr.alloc (.cells #[Value.int .u64 x.seq, .int .u64 x.at', .string x.text, .int .u64 x.sum] 53)).heap.size := by simp
            have e0 := Cw.cell (w := (wr.alloc (.cells #[Value.int .u64 x.seq, .int .u64 x.at', .string x.text, .int .u64 x.sum] 53))) wr.heap.size 0 (.int .u64 x.seq) hzx (by go_simp)
            have e1 := Cw.cell (w := (wr.alloc (.cells #[Value.int .u64 x.seq, .int .u64 x.at', .string x.text, .int .u64 x.sum] 53))) wr.heap.size 1 (.int .u64 x.at') hzx (by go_simp)
            have e2 := Cw.cell (w := (wr.alloc (.cells #[Value.int .u64 x.seq, .int .u64 x.at', .string x.text, .int .u64 x.sum] 53))) wr.heap.size 2 (.string x.text) hzx (by go_simp)
            have e3 := Cw.cell (w := (wr.alloc (.cells #[Value.int .u64 x.seq, .int .u64 x.at', .string x.text, .int .u64 x.sum] 53))) wr.heap.size 3 (.int .u64 x.sum) hzx (by go_simp)
            have f0 := Cw.cell (w := (wr.alloc (.cells #[Value.int .u64 x.seq, .int .u64 x.at', .string x.text, .int .u64 x.sum] 53))) w.heap.size 0 (.int .u64 (un a)) (by omega) ((hBx.cell (p := ⟨w.heap.size, 0, none⟩) (by show w.heap.size < _; omega)).trans K0)
            have f1 := Cw.cell (w := (wr.alloc (.cells #[Value.int .u64 x.seq, .int .u64 x.at', .string x.text, .int .u64 x.sum] 53))) w.heap.size 1 (.int .u64 (un b)) (by omega) ((hBx.cell (p := ⟨w.heap.size, 1, none⟩) (by show w.heap.size < _; omega)).trans K1)
            have l0 := Cw.cell (w := (wr.alloc (.cells #[Value.int .u64 x.seq, .int .u64 x.at', .string x.text, .int .u64 x.sum] 53))) (w.heap.size + 1) 0 (.int .u64 bf) (by omega) ((hBx.cell (p := ⟨w.heap.size + 1, 0, none⟩) HZ).trans G0)
            have l1 := Cw.cell (w := (wr.alloc (.cells #[Value.int .u64 x.seq, .int .u64 x.at', .string x.text, .int .u64 x.sum] 53))) (w.heap.size + 1) 1 (.slice (some ⟨g', o', none⟩) L.length cap) (by omega) ((hBx.cell (p := ⟨w.heap.size + 1, 1, none⟩) HZ).trans G1)
            clear d0 d1 d2 d3 K0 K1 G0 G1
            generalize (wr.alloc (.cells #[Value.int .u64 x.seq, .int .u64 x.at', .string x.text, .int .u64 x.sum] 53)) = w5 at *
            refine region_cw (by kernel_rfl) (by kernel_rfl) ?_
            repeat (first | go_big_quiet_step (fail) | quiet_step (fail))
            refine wpQuiet_nil ?_
            intro y
            have hy : Below wr.heap.size wr y.W := hBx.trans (y.below.mono (by omega))
            have m0 := f0 y
            have m1 := f1 y
            have m2 := l0 y
            have m3 := l1 y
            have hyz := hy.size
            clear e0 e1 e2 e3 f0 f1 l0 l1
            generalize y.W = W at *
            go_wp2_with fail
            go_roundw
            case rel =>
              refine ⟨1, by omega, by go_num, Lib.hid ⟨fun i z hi hz' => ?_, fun i p z hi => absurd hi (by omega)⟩, HB.trans (hy.mono HB.size), by omega, m0, m1, m2, m3⟩
              obtain rfl : i = 0 := by omega
              have := hz'.symm.trans HX.out
              simp at this
              subst this
              omega
            case measure => simp [intOf]; omega
          · obtain ⟨j, rfl⟩ : ∃ j, k = j + 1 := ⟨k - 1, by omega⟩
            have hp := List.getElem?_eq_getElem (show j < L.length by omega)
            have hokp : (L[j]'(by omega)).Ok := hL _ (List.getElem_mem _)
            obtain ⟨g'', o'', he, hg'', c0, c1, c2, c3⟩ := hE j _ hp
            obtain ⟨rfl, rfl⟩ : g'' = g' ∧ o'' = o' := by simp at he; exact ⟨he.1.symm, he.2.symm⟩
            generalize (L[j]'(by omega)) = p at *
            have b0 := (HB.cell (p := ⟨g'', _, none⟩) hg'').trans c0
            have b1 := (HB.cell (p := ⟨g'', _, none⟩) hg'').trans c1
            have b2 := (HB.cell (p := ⟨g'', _, none⟩) hg'').trans c2
            have b3 := (HB.cell (p := ⟨g'', _, none⟩) hg'').trans c3
            have HP := Lib.hid hp
            clear c0 c1 c2 c3 hp he
            obtain ⟨q, hq2⟩ : ∃ q : Bool, q = true ↔ Fits p x := by
              classical
              exact ⟨decide (Fits p x), decide_eq_true_iff⟩
            go_wp2_with fail
            have hBx : Below wr.heap.size wr (wr.alloc (.cells #[Value.int .u64 x.seq, .int .u64 x.at', .string x.text, .int .u64 x.sum] 53)) := (Below.refl _ _).alloc (Nat.le_refl _) _
            have hzx : wr.heap.size < (wr.alloc (.cells #[Value.int .u64 x.seq, .int .u64 x.at', .string x.text, .int .u64 x.sum] 53)).heap.size := by simp
            have e0 := Cw.cell (w := (wr.alloc (.cells #[Value.int .u64 x.seq, .int .u64 x.at', .string x.text, .int .u64 x.sum] 53))) wr.heap.size 0 (.int .u64 x.seq) hzx (by go_simp)
            have e1 := Cw.cell (w := (wr.alloc (.cells #[Value.int .u64 x.seq, .int .u64 x.at', .string x.text, .int .u64 x.sum] 53))) wr.heap.size 1 (.int .u64 x.at') hzx (by go_simp)
            have e2 := Cw.cell (w := (wr.alloc (.cells #[Value.int .u64 x.seq, .int .u64 x.at', .string x.text, .int .u64 x.sum] 53))) wr.heap.size 2 (.string x.text) hzx (by go_simp)
            have e3 := Cw.cell (w := (wr.alloc (.cells #[Value.int .u64 x.seq, .int .u64 x.at', .string x.text, .int .u64 x.sum] 53))) wr.heap.size 3 (.int .u64 x.sum) hzx (by go_simp)
            have f0 := Cw.cell (w := (wr.alloc (.cells #[Value.int .u64 x.seq, .int .u64 x.at', .string x.text, .int .u64 x.sum] 53))) w.heap.size 0 (.int .u64 (un a)) (by omega) ((hBx.cell (p := ⟨w.heap.size, 0, none⟩) (by show w.heap.size < _; omega)).trans K0)
            have f1 := Cw.cell (w := (wr.alloc (.cells #[Value.int .u64 x.seq, .int .u64 x.at', .string x.text, .int .u64 x.sum] 53))) w.heap.size 1 (.int .u64 (un b)) (by omega) ((hBx.cell (p := ⟨w.heap.size, 1, none⟩) (by show w.heap.size < _; omega)).trans K1)
            have l0 := Cw.cell (w := (wr.alloc (.cells #[Value.int .u64 x.seq, .int .u64 x.at', .string x.text, .int .u64 x.sum] 53))) (w.heap.size + 1) 0 (.int .u64 bf) (by omega) ((hBx.cell (p := ⟨w.heap.size + 1, 0, none⟩) HZ).trans G0)
            have l1 := Cw.cell (w := (wr.alloc (.cells #[Value.int .u64 x.seq, .int .u64 x.at', .string x.text, .int .u64 x.sum] 53))) (w.heap.size + 1) 1 (.slice (some ⟨g'', o'', none⟩) L.length cap) (by omega) ((hBx.cell (p := ⟨w.heap.size + 1, 1, none⟩) HZ).trans G1)
            have p0 := Cw.cell (w := (wr.alloc (.cells #[Value.int .u64 x.seq, .int .u64 x.at', .string x.text, .int .u64 x.sum] 53))) g'' (o'' + j * 4) (.int .u64 p.seq) (by omega) ((hBx.cell (p := ⟨g'', o'' + j * 4, none⟩) hgz).trans b0)
            have p1 := Cw.cell (w := (wr.alloc (.cells #[Value.int .u64 x.seq, .int .u64 x.at', .string x.text, .int .u64 x.sum] 53))) g'' (o'' + j * 4 + 1) (.int .u64 p.at') (by omega) ((hBx.cell (p := ⟨g'', o'' + j * 4 + 1, none⟩) hgz).trans b1)
            have p2 := Cw.cell (w := (wr.alloc (.cells #[Value.int .u64 x.seq, .int .u64 x.at', .string x.text, .int .u64 x.sum] 53))) g'' (o'' + j * 4 + 2) (.string p.text) (by omega) ((hBx.cell (p := ⟨g'', o'' + j * 4 + 2, none⟩) hgz).trans b2)
            have p3 := Cw.cell (w := (wr.alloc (.cells #[Value.int .u64 x.seq, .int .u64 x.at', .string x.text, .int .u64 x.sum] 53))) g'' (o'' + j * 4 + 3) (.int .u64 p.sum) (by omega) ((hBx.cell (p := ⟨g'', o'' + j * 4 + 3, none⟩) hgz).trans b3)
            clear d0 d1 d2 d3 K0 K1 G0 G1
            generalize (wr.alloc (.cells #[Value.int .u64 x.seq, .int .u64 x.at', .string x.text, .int .u64 x.sum] 53)) = w5 at *
            refine region_cw (by kernel_rfl) (by kernel_rfl) ?_
            repeat (first | go_big_quiet_step ((go_at_call 144; exact Cw.call (follows_any p x hokp hok q hq2 _))) | quiet_step ((go_at_call 144; exact Cw.call (follows_any p x hokp hok q hq2 _))))
            refine wpQuiet_nil ?_
            intro y
            have hy : Below wr.heap.size wr y.W := hBx.trans (y.below.mono (by omega))
            have m0 := f0 y
            have m1 := f1 y
            have m2 := l0 y
            have m3 := l1 y
            have hyz := hy.size
            clear p0 p1 p2 p3 b0 b1 b2 b3 e0 e1 e2 e3 f0 f1 l0 l1
            generalize y.W = W at *
            cases q
            · have hR := Lib.hid (bool_false HR.out (fun h => absurd (hq2.2 (h.s j p x HP.out HX.out)) (by simp)))
              go_wp2_with fail
              go_ret
              exact ⟨by rw [hR.out]; rfl, HB.trans (hy.mono HB.size)⟩
            · have HQ := Lib.hid (hq2.1 rfl)
              clear hq2
              go_wp2_with fail
              go_roundw
              case rel =>
                refine ⟨j + 1 + 1, hlt, by go_num, Lib.hid ⟨fun i z hi hz' => ?_, fun i p' z hi hp' hz' => ?_⟩, HB.trans (hy.mono HB.size), by omega, m0, m1, m2, m3⟩
                · by_cases hij : i = j + 1
                  · subst hij
                    have := hz'.symm.trans HX.out
                    simp at this
                    subst this
                    omega
                  · exact HI.out.1 i z (by omega) hz'
                · by_cases hij : i = j
                  · subst hij
                    have e1 := hz'.symm.trans HX.out
                    have e2 := hp'.symm.trans HP.out
                    simp at e1 e2
                    subst e1 e2
                    exact HQ.out
                  · exact HI.out.2 i p' z (by omega) hp' hz'
              case measure => simp [intOf]; omega
      · obtain rfl : k = L.length := by omega
        have HCH : Hid (r = (chain a b bf L).2) := by
          show _ = _
          by_cases hc : (chain a b bf L).2 = true
          · rw [hc]
            exact bool_true HR.out ⟨by omega, fun h => absurd (congrArg List.length h) (by simpa using hz), fun y hy => by
              have := hy.symm.trans HX0.out
              simp at this
              subst this
              exact HF.out, fun i y hy => HI.out.1 i y (List.getElem?_eq_some_iff.1 hy).1 hy, fun i p y hp hy => HI.out.2 i p y (List.getElem?_eq_some_iff.1 hy).1 hp hy, hc⟩
          · rw [bool_false HR.out (fun h => hc h.c)]
            simpa using hc
        go_wp2_with fail
        refine (chained_any a b bf h0 h1 L hL hl _ cap _ (hE.below HB)).mono ?_
        rintro e w5 ⟨rfl, hb5⟩
        go_wp2_with fail
        go_ret
        exact ⟨by rw [HCH.out]; rfl, HB.trans (hb5.mono HB.size)⟩
end Go.Proofs.YtmgdbfmlnmahpaaGreatDoor
