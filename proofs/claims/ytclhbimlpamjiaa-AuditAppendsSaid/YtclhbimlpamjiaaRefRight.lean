/- Which logs are right: the reference's answer, walked. -/
import Derived.Test.YtclhbimlpamjiaaAppSpec
namespace Go.Proofs.Ytclhbimlpamjiaa
open Go.RowKit
set_option linter.unusedVariables false
set_option linter.unusedSimpArgs false

/-- the first k entries are right -/
structure RefP (bf : Int) (L : List Ent) (k : Nat) : Prop where
  t : ∀ (i : Nat) (x : Ent), i < k → L[i]? = some x → x.text.size ≤ 200 ∧ 1 ≤ x.seq
  s : ∀ (i : Nat) (p x : Ent), i + 1 < k → L[i]? = some p → L[i + 1]? = some x → Fits p x
  f : ∀ x : Ent, 0 < k → L[0]? = some x → x.seq = 1 → bf = 0
theorem RefP.zero (bf : Int) (L : List Ent) : RefP bf L 0 := ⟨fun i x h => absurd h (by omega), fun i p x h => absurd h (by omega), fun x h => absurd h (by omega)⟩
theorem RefP.first {bf : Int} {L : List Ent} {x : Ent} (hx : L[0]? = some x) (ht : x.text.size ≤ 200) (hs : 1 ≤ x.seq) (hf : x.seq = 1 → bf = 0) : RefP bf L (0 + 1) := by
  refine ⟨fun i y hi hy => ?_, fun i p y h => absurd h (by omega), fun y _ hy => ?_⟩
  · obtain rfl : i = 0 := by omega
    obtain rfl := Option.some.inj (hy.symm.trans hx)
    exact ⟨ht, hs⟩
  · obtain rfl := Option.some.inj (hy.symm.trans hx)
    exact hf
theorem RefP.next {bf : Int} {L : List Ent} {j : Nat} {p x : Ent} (h : RefP bf L (j + 1)) (hp : L[j]? = some p) (hx : L[j + 1]? = some x) (ht : x.text.size ≤ 200) (hs : 1 ≤ x.seq) (hf : Fits p x) : RefP bf L (j + 1 + 1) := by
  refine ⟨fun i y hi hy => ?_, fun i q y hi hq hy => ?_, fun y _ hy => h.f y (by omega) hy⟩
  · by_cases e : i = j + 1
    · subst e
      obtain rfl := Option.some.inj (hy.symm.trans hx)
      exact ⟨ht, hs⟩
    · exact h.t i y (by omega) hy
  · by_cases e : i = j
    · subst e
      obtain rfl := Option.some.inj (hy.symm.trans hx)
      obtain rfl := Option.some.inj (hq.symm.trans hp)
      exact hf
    · exact h.s i q y (by omega) hq hy

set_option maxRecDepth 100000 in
set_option maxHeartbeats 4000000 in
theorem refRight_any (a b : BitVec 64) (bf : Int) (h0 : 0 ≤ bf) (h1 : bf < 18446744073709551616) (L : List Ent) (hL : ∀ x ∈ L, x.Ok) (hl : L.length ≤ 1000) (s : Option Addr) (cap : Nat) (r : Bool) (hr : r = true ↔ RightP a b bf L) (w : World) (hE : Ents w s L) :
    Calls Try.prog 16 #[kv a b, lv bf s L.length cap] w fun e w' => e = .returned (.bool r) ∧ Below w.heap.size w w' := by
  have HR := Lib.hid hr
  clear hr
  have st0 := (St.start w).alloc (cs := #[.int .u64 (un a), .int .u64 (un b)]) (T := 24) |>.alloc (cs := #[.int .u64 bf, .slice s L.length cap]) (T := 27)
  simp only [World.size_alloc] at st0
  go_enter Try.func16, Try.ntmps16
  go_wp2_with fail
  go_loopw [5] (fun i wr => ∃ k : Nat, k ≤ L.length ∧ i = .int .i64 k ∧ Hid (RefP bf L k) ∧ St w [(w.heap.size + 1, #[.int .u64 bf, .slice s L.length cap], 27), (w.heap.size, #[.int .u64 (un a), .int .u64 (un b)], 24)] (fun _ => True) wr) (fun i _ => L.length - (intOf i).toNat)
  case atStart => exact ⟨0, Nat.zero_le _, rfl, Lib.hid (RefP.zero bf L), st0⟩
  case round =>
    obtain ⟨k, hk, rfl, HI, st⟩ := hrel
    clear st0
    have rl := st.rules
    simp only [Rules] at rl
    by_cases hlt : k < L.length
    · have hx := List.getElem?_eq_getElem hlt
      have hok := hL _ (List.getElem_mem hlt)
      obtain ⟨g, o, he, hg, c0, c1, c2, c3⟩ := hE k _ hx
      subst he
      have d0 := (st.below.cell (p := ⟨g, _, none⟩) hg).trans c0
      have d1 := (st.below.cell (p := ⟨g, _, none⟩) hg).trans c1
      have d2 := (st.below.cell (p := ⟨g, _, none⟩) hg).trans c2
      have d3 := (st.below.cell (p := ⟨g, _, none⟩) hg).trans c3
      generalize (L[k]'hlt) = x at *
      have HX := Lib.hid hx
      have z0 := hok.s0
      have z1 := hok.s1
      have z2 := hok.t
      clear c0 c1 c2 c3 hx
      by_cases ht : 200 < x.text.size
      · have hR := Lib.hid (bool_false HR.out (fun h => absurd (h.t k x HX.out) (by omega)))
        have dT : decide ((200 : Int) < (x.text.size : Int)) = true := decide_eq_true (by omega)
        go_wp2_with fail
        clear rl
        obtain ⟨bl8, E8, hne8, sh8, rl, hEx, hbx, hst⟩ := (st.alloc (cs := #[.int .u64 x.seq, .int .u64 x.at', .string x.text, .int .u64 x.sum]) (T := 38)).hide
        refine region_st sh8 (by kernel_rfl) (by kernel_rfl) ?_
        simp only [Rules] at rl
        repeat (first | go_big_quiet_step (fail) | quiet_step (fail))
        refine wpQuiet_nil ?_
        intro z
        have st9 := (hst z).out.less _ (List.sublist_cons_self _ _)
        clear hbx hst sh8 hEx rl
        generalize z.W = w9 at *
        go_wp2_with fail
        go_ret
        exact ⟨by rw [hR.out]; rfl, st9.below⟩
      have dT : decide ((200 : Int) < (x.text.size : Int)) = false := decide_eq_false (by omega)
      by_cases hs : x.seq < 1
      · have hR := Lib.hid (bool_false HR.out (fun h => by
          by_cases hk0 : k = 0
          · subst hk0
            exact absurd (h.f x HX.out).1 (by omega)
          · obtain ⟨j, rfl⟩ : ∃ j, k = j + 1 := ⟨k - 1, by omega⟩
            have hp := List.getElem?_eq_getElem (show j < L.length by omega)
            have h2 := h.s j _ x hp HX.out
            have h3 := (hL _ (List.getElem_mem (show j < L.length by omega))).s0
            have h4 := h2.2.1
            omega))
        have dS : decide (x.seq < 1) = true := decide_eq_true (by omega)
        go_wp2_with fail
        clear rl
        obtain ⟨bl8, E8, hne8, sh8, rl, hEx, hbx, hst⟩ := (st.alloc (cs := #[.int .u64 x.seq, .int .u64 x.at', .string x.text, .int .u64 x.sum]) (T := 38)).hide
        refine region_st sh8 (by kernel_rfl) (by kernel_rfl) ?_
        simp only [Rules] at rl
        repeat (first | go_big_quiet_step (fail) | quiet_step (fail))
        refine wpQuiet_nil ?_
        intro z
        have st9 := (hst z).out.less _ (List.sublist_cons_self _ _)
        clear hbx hst sh8 hEx rl
        generalize z.W = w9 at *
        go_wp2_with fail
        go_ret
        exact ⟨by rw [hR.out]; rfl, st9.below⟩
      have dS : decide (x.seq < 1) = false := decide_eq_false (by omega)
      by_cases hk0 : k = 0
      · subst hk0
        have dK : decide ((0 : Int) < ((0 : Nat) : Int)) = false := by simp
        rw [Nat.zero_mul, Nat.add_zero] at d0 d1 d2 d3
        by_cases hq1 : x.seq = 1
        · have dQ : (x.seq == 1) = true := by simp [hq1]
          by_cases hb : bf = 0
          · have dB : (bf != 0) = false := by simp [hb]
            have HNEXT := Lib.hid (RefP.first HX.out (by omega) (by omega) (fun _ => hb))
            have hb0 : 0 ≤ bf ∧ bf ≤ 0 := by omega
            clear hb hq1
            go_wp2_with fail
            clear rl
            obtain ⟨bl8, E8, hne8, sh8, rl, hEx, hbx, hst⟩ := (st.alloc (cs := #[.int .u64 x.seq, .int .u64 x.at', .string x.text, .int .u64 x.sum]) (T := 38)).hide
            refine region_st sh8 (by kernel_rfl) (by kernel_rfl) ?_
            simp only [Rules] at rl
            repeat (first | go_big_quiet_step (fail) | quiet_step (fail))
            refine wpQuiet_nil ?_
            intro z
            have st9 := (hst z).out.less _ (List.sublist_cons_self _ _)
            clear hbx hst sh8 hEx rl
            generalize z.W = w9 at *
            go_wp2_with fail
            go_roundw
            case rel => exact ⟨0 + 1, hlt, by go_num, HNEXT, st9⟩
            case measure => simp [intOf]; omega
          · have dB : (bf != 0) = true := by simp [hb]
            have hR := Lib.hid (bool_false HR.out (fun h => hb ((h.f x HX.out).2 hq1)))
            clear hb hq1
            go_wp2_with fail
            clear rl
            obtain ⟨bl8, E8, hne8, sh8, rl, hEx, hbx, hst⟩ := (st.alloc (cs := #[.int .u64 x.seq, .int .u64 x.at', .string x.text, .int .u64 x.sum]) (T := 38)).hide
            refine region_st sh8 (by kernel_rfl) (by kernel_rfl) ?_
            simp only [Rules] at rl
            repeat (first | go_big_quiet_step (fail) | quiet_step (fail))
            refine wpQuiet_nil ?_
            intro z
            have st9 := (hst z).out.less _ (List.sublist_cons_self _ _)
            clear hbx hst sh8 hEx rl
            generalize z.W = w9 at *
            go_wp2_with fail
            go_ret
            exact ⟨by rw [hR.out]; rfl, st9.below⟩
        · have dQ : (x.seq == 1) = false := by simp [hq1]
          have HNEXT := Lib.hid (RefP.first (bf := bf) HX.out (by omega) (by omega) (fun e => absurd e hq1))
          clear hq1
          go_wp2_with fail
          clear rl
          obtain ⟨bl8, E8, hne8, sh8, rl, hEx, hbx, hst⟩ := (st.alloc (cs := #[.int .u64 x.seq, .int .u64 x.at', .string x.text, .int .u64 x.sum]) (T := 38)).hide
          refine region_st sh8 (by kernel_rfl) (by kernel_rfl) ?_
          simp only [Rules] at rl
          repeat (first | go_big_quiet_step (fail) | quiet_step (fail))
          refine wpQuiet_nil ?_
          intro z
          have st9 := (hst z).out.less _ (List.sublist_cons_self _ _)
          clear hbx hst sh8 hEx rl
          generalize z.W = w9 at *
          go_wp2_with fail
          go_roundw
          case rel => exact ⟨0 + 1, hlt, by go_num, HNEXT, st9⟩
          case measure => simp [intOf]; omega
      · obtain ⟨j, rfl⟩ : ∃ j, k = j + 1 := ⟨k - 1, by omega⟩
        have hp := List.getElem?_eq_getElem (show j < L.length by omega)
        have hokp := hL _ (List.getElem_mem (show j < L.length by omega))
        obtain ⟨g', o', he, _, e0, e1, e2, e3⟩ := hE j _ hp
        cases he
        generalize (L[j]'(by omega)) = p at *
        have HP := Lib.hid hp
        clear e2 e3 hp
        have y0 := hokp.s0
        have y1 := hokp.s1
        have dK : decide ((0 : Int) < ((j + 1 : Nat) : Int)) = true := decide_eq_true (by omega)
        have dK0 : (((j + 1 : Nat) : Int) == 0) = false := by rw [beq_eq_false_iff_ne]; omega
        by_cases hn : x.seq - 1 = p.seq
        · have dN : (x.seq - 1 != p.seq) = false := by simp [hn]
          by_cases ha : x.at' < p.at'
          · have dA : decide (x.at' < p.at') = true := decide_eq_true (by omega)
            have hR := Lib.hid (bool_false HR.out (fun h => absurd (h.s j p x HP.out HX.out).2.2 (by omega)))
            clear hn
            go_wp2_with fail
            clear rl
            obtain ⟨bl8, E8, hne8, sh8, rl, hEx, hbx, hst⟩ := (st.alloc (cs := #[.int .u64 x.seq, .int .u64 x.at', .string x.text, .int .u64 x.sum]) (T := 38)).hide
            refine region_st sh8 (by kernel_rfl) (by kernel_rfl) ?_
            simp only [Rules] at rl
            have f0 : ∀ z : Cs w bl8 E8, z.W.cell? ⟨g, o + j * 4, none⟩ = some (.int .u64 p.seq) := fun z => ((hbx z).out.cell (p := ⟨g, _, none⟩) hg).trans e0
            have f1 : ∀ z : Cs w bl8 E8, z.W.cell? ⟨g, o + j * 4 + 1, none⟩ = some (.int .u64 p.at') := fun z => ((hbx z).out.cell (p := ⟨g, _, none⟩) hg).trans e1
            repeat (first | go_big_quiet_step (fail) | quiet_step (fail))
            refine wpQuiet_nil ?_
            intro z
            have st9 := (hst z).out.less _ (List.sublist_cons_self _ _)
            clear hbx hst sh8 hEx rl
            generalize z.W = w9 at *
            go_wp2_with fail
            go_ret
            exact ⟨by rw [hR.out]; rfl, st9.below⟩
          · have dA : decide (x.at' < p.at') = false := decide_eq_false (by omega)
            have HNEXT := Lib.hid (HI.out.next HP.out HX.out (by omega) (by omega) ⟨by omega, by omega, by omega⟩)
            clear hn
            go_wp2_with fail
            clear rl
            obtain ⟨bl8, E8, hne8, sh8, rl, hEx, hbx, hst⟩ := (st.alloc (cs := #[.int .u64 x.seq, .int .u64 x.at', .string x.text, .int .u64 x.sum]) (T := 38)).hide
            refine region_st sh8 (by kernel_rfl) (by kernel_rfl) ?_
            simp only [Rules] at rl
            have f0 : ∀ z : Cs w bl8 E8, z.W.cell? ⟨g, o + j * 4, none⟩ = some (.int .u64 p.seq) := fun z => ((hbx z).out.cell (p := ⟨g, _, none⟩) hg).trans e0
            have f1 : ∀ z : Cs w bl8 E8, z.W.cell? ⟨g, o + j * 4 + 1, none⟩ = some (.int .u64 p.at') := fun z => ((hbx z).out.cell (p := ⟨g, _, none⟩) hg).trans e1
            repeat (first | go_big_quiet_step (fail) | quiet_step (fail))
            refine wpQuiet_nil ?_
            intro z
            have st9 := (hst z).out.less _ (List.sublist_cons_self _ _)
            clear hbx hst sh8 hEx rl
            generalize z.W = w9 at *
            go_wp2_with fail
            go_roundw
            case rel => exact ⟨j + 1 + 1, hlt, by go_num, HNEXT, st9⟩
            case measure => simp [intOf]; omega
        · have dN : (x.seq - 1 != p.seq) = true := by simp [hn]
          have hR := Lib.hid (bool_false HR.out (fun h => hn (by have := (h.s j p x HP.out HX.out).2.1; omega)))
          clear hn
          go_wp2_with fail
          clear rl
          obtain ⟨bl8, E8, hne8, sh8, rl, hEx, hbx, hst⟩ := (st.alloc (cs := #[.int .u64 x.seq, .int .u64 x.at', .string x.text, .int .u64 x.sum]) (T := 38)).hide
          refine region_st sh8 (by kernel_rfl) (by kernel_rfl) ?_
          simp only [Rules] at rl
          have f0 : ∀ z : Cs w bl8 E8, z.W.cell? ⟨g, o + j * 4, none⟩ = some (.int .u64 p.seq) := fun z => ((hbx z).out.cell (p := ⟨g, _, none⟩) hg).trans e0
          have f1 : ∀ z : Cs w bl8 E8, z.W.cell? ⟨g, o + j * 4 + 1, none⟩ = some (.int .u64 p.at') := fun z => ((hbx z).out.cell (p := ⟨g, _, none⟩) hg).trans e1
          repeat (first | go_big_quiet_step (fail) | quiet_step (fail))
          refine wpQuiet_nil ?_
          intro z
          have st9 := (hst z).out.less _ (List.sublist_cons_self _ _)
          clear hbx hst sh8 hEx rl
          generalize z.W = w9 at *
          go_wp2_with fail
          go_ret
          exact ⟨by rw [hR.out]; rfl, st9.below⟩
    · obtain rfl : k = L.length := by omega
      have HP : Hid (RightP a b bf L ↔ (chain a b bf L).2 = true ∧ L.length ≤ 30 ∧ (0 < L.length ∨ bf = 0)) := by
        show _ ↔ _
        have hI := HI.out
        constructor
        · intro h
          refine ⟨h.c, h.n, ?_⟩
          by_cases e : L.length = 0
          · exact .inr (h.e (List.eq_nil_of_length_eq_zero e))
          · exact .inl (by omega)
        · rintro ⟨q1, q2, q3⟩
          refine ⟨q2, fun e => ?_, fun x hx => ?_, fun i x hx => (hI.t i x (List.getElem?_eq_some_iff.1 hx).1 hx).1, fun i p x hp hx => hI.s i p x (List.getElem?_eq_some_iff.1 hx).1 hp hx, q1⟩
          · subst e
            simpa using q3
          · have hlt' := (List.getElem?_eq_some_iff.1 hx).1
            exact ⟨(hI.t 0 x hlt' hx).2, hI.f x hlt' hx⟩
      go_wp2_with fail
      clear rl
      refine (st.call' (fun st => refChained_any a b bf h0 h1 L hL hl _ cap _ (hE.below st.below))).mono ?_
      rintro e w7 ⟨rfl, st7⟩
      clear st
      have rl := st7.rules
      simp only [Rules] at rl
      cases hc : (chain a b bf L).2
      · have hR := Lib.hid (bool_false HR.out (fun h => by have := (HP.out.1 h).1; rw [hc] at this; cases this))
        clear HP HI
        go_wp2_with fail
        go_ret
        exact ⟨by rw [hR.out]; rfl, st7.below⟩
      · by_cases n30 : L.length ≤ 30
        · by_cases n0 : 0 < L.length
          · have hR := Lib.hid (bool_true HR.out (HP.out.2 ⟨hc, n30, .inl n0⟩))
            have dn : decide ((L.length : Int) ≤ 30) = true := decide_eq_true (by omega)
            have dm : decide ((0 : Int) < (L.length : Int)) = true := decide_eq_true (by omega)
            clear HP HI
            go_wp2_with fail
            go_ret
            exact ⟨by rw [hR.out]; first | rfl | simp, st7.below⟩
          · have dn : decide ((L.length : Int) ≤ 30) = true := decide_eq_true (by omega)
            have dm : decide ((0 : Int) < (L.length : Int)) = false := decide_eq_false (by omega)
            have HB : Hid (r = (bf == 0)) := by
              show _ = _
              by_cases hb : bf = 0
              · rw [bool_true HR.out (HP.out.2 ⟨hc, n30, .inr hb⟩)]; simp [hb]
              · rw [bool_false HR.out (fun h => by
                  rcases (HP.out.1 h).2.2 with q | q
                  · exact n0 q
                  · exact hb q)]
                simp [hb]
            clear HP HI
            go_wp2_with fail
            go_ret
            exact ⟨by rw [HB.out]; rfl, st7.below⟩
        · have hR := Lib.hid (bool_false HR.out (fun h => n30 (HP.out.1 h).2.1))
          have dn : decide ((L.length : Int) ≤ 30) = false := decide_eq_false (by omega)
          clear HP HI
          go_wp2_with fail
          go_ret
          exact ⟨by rw [hR.out]; rfl, st7.below⟩
end Go.Proofs.Ytclhbimlpamjiaa
