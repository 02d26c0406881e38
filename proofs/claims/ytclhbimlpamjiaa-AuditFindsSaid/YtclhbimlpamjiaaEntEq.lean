/- Lists of entries, and logs, compared: walked. -/
import Derived.Test.YtclhbimlpamjiaaShown16
import Derived.WalkSpells
import Derived.Laws.StructEq
import Derived.KernelRfl
namespace Go.Proofs.Ytclhbimlpamjiaa
open Go.RowKit
set_option linter.unusedVariables false
set_option linter.unusedSimpArgs false

theorem St.of_below {w0 w : World} (h : Below w0.heap.size w0 w) : St w0 [] (fun _ => True) w := ⟨h, by simp, List.Pairwise.nil, trivial, fun _ _ _ _ => trivial⟩

/-- the fields are the same -/
def entEqB (a b : Int) (t : ByteArray) (c a' b' : Int) (t' : ByteArray) (c' : Int) : Bool := a == a' && b == b' && t.toList == t'.toList && c == c'
theorem entEqB_iff (x y : Ent) : entEqB x.seq x.at' x.text x.sum y.seq y.at' y.text y.sum = true ↔ x = y := by
  unfold entEqB
  constructor
  · intro h
    simp only [Bool.and_eq_true, beq_iff_eq] at h
    obtain ⟨⟨⟨p1, p2⟩, p3⟩, p4⟩ := h
    have p3' : x.text = y.text := by
      rw [ByteArray.toList_eq, ByteArray.toList_eq] at p3
      exact Go.WideShapes.bytes_inj p3
    cases x; cases y
    simp_all
  · rintro rfl
    simp
@[go_sem high] theorem eqEnt (a b : Int) (t : ByteArray) (c a' b' : Int) (t' : ByteArray) (c' : Int) (w : World) : (Op.equalIn 10000 38 (.agg #[.int .u64 a, .int .u64 b, .string t, .int .u64 c]) (.agg #[.int .u64 a', .int .u64 b', .string t', .int .u64 c'])).run Try.prog w = .ok (entEqB a b t c a' b' t' c') w := by
  have u3 := Try.underlying22
  have a3 := Try.isAgg22
  have z3 := Try.sizeOf22
  have u4 := Try.underlying9
  have a4 := Try.isAgg9
  have z4 := Try.sizeOf9
  have hS : Try.prog.underlying 38 = some (.struct (Try.prog.fieldsOf 38)) := by kernel_rfl
  have hp : Try.prog.stoodInHeld 38 = false := by kernel_rfl
  rw [show (10000 : Nat) = 9999 + 1 from rfl, run_equalIn_agg w 9999 38 _ _ hS hp]
  simp only [Program.fieldsOf, Try.underlying38]
  unfold entEqB
  go_simp
  by_cases h1 : a = a' <;> by_cases h2 : b = b' <;> by_cases h3 : t.toList = t'.toList <;> by_cases h4 : c = c' <;> simp [h1, h2, h3, h4]

set_option maxRecDepth 100000 in
set_option maxHeartbeats 1000000 in
theorem entries_any (L M : List Ent) (hl : L.length ≤ 1000) (hm : M.length ≤ 1000) (s t : Option Addr) (c d : Nat) (r : Bool) (hr : r = true ↔ L = M) (w : World) (hE : Ents w s L) (hF : Ents w t M) :
    Calls Try.prog 18 #[.slice s L.length c, .slice t M.length d] w fun e w' => e = .returned (.bool r) ∧ Below w.heap.size w w' := by
  have HR := Lib.hid hr
  clear hr
  by_cases hlm : L.length = M.length
  · have hn : M.length = L.length := hlm.symm
    rw [hn] at hm ⊢
    have HN := Lib.hid hn
    clear hlm hn
    go_enter Try.func18, Try.ntmps18
    go_wp2_with fail
    go_loopw [5] (fun i wr => ∃ k : Nat, k ≤ L.length ∧ i = .int .i64 k ∧ Hid (L.take k = M.take k) ∧ Below w.heap.size w wr) (fun i _ => L.length - (intOf i).toNat)
    case atStart => exact ⟨0, Nat.zero_le _, rfl, Lib.hid (by simp), Below.refl _ _⟩
    case round =>
      obtain ⟨k, hk, rfl, HT, HB⟩ := hrel
      by_cases hlt : k < L.length
      · have hx := List.getElem?_eq_getElem hlt
        have hy := List.getElem?_eq_getElem (show k < M.length by rw [HN.out]; exact hlt)
        obtain ⟨g, o, rfl, hg, c0, c1, c2, c3⟩ := hE k _ hx
        obtain ⟨g', o', rfl, hg', e0, e1, e2, e3⟩ := hF k _ hy
        have HTX : Hid (L.take (k + 1) = M.take (k + 1) ↔ L[k] = M[k]'(by rw [HN.out]; exact hlt)) := by
          show _ ↔ _
          rw [List.take_add_one (l := L), List.take_add_one (l := M), hx, hy, HT.out]
          show _ ++ [L[k]] = _ ++ [_] ↔ _
          exact ⟨fun h => by simpa using List.append_cancel_left h, fun h => by rw [h]⟩
        have HXY : Hid (L[k] ≠ M[k]'(by rw [HN.out]; exact hlt) → L ≠ M) := fun h e => h (by
          have h1 : L[k]? = M[k]? := by rw [e]
          rw [hx, hy] at h1
          exact Option.some.inj h1)
        clear hx hy
        generalize (L[k]'hlt) = x at *
        generalize (M[k]'(by rw [HN.out]; exact hlt)) = y at *
        have st := St.of_below HB
        go_wp2_with fail
        obtain ⟨bl4, E4, hne4, sh4, _, _, hbx, hst⟩ := st.hide
        refine region_st sh4 (by kernel_rfl) (by kernel_rfl) ?_
        have d0 : ∀ z : Cs w bl4 E4, z.W.cell? ⟨g, o + k * 4, none⟩ = some (.int .u64 x.seq) := fun z => ((hbx z).out.cell (p := ⟨g, _, none⟩) hg).trans c0
        have d1 : ∀ z : Cs w bl4 E4, z.W.cell? ⟨g, o + k * 4 + 1, none⟩ = some (.int .u64 x.at') := fun z => ((hbx z).out.cell (p := ⟨g, _, none⟩) hg).trans c1
        have d2 : ∀ z : Cs w bl4 E4, z.W.cell? ⟨g, o + k * 4 + 2, none⟩ = some (.string x.text) := fun z => ((hbx z).out.cell (p := ⟨g, _, none⟩) hg).trans c2
        have d3 : ∀ z : Cs w bl4 E4, z.W.cell? ⟨g, o + k * 4 + 3, none⟩ = some (.int .u64 x.sum) := fun z => ((hbx z).out.cell (p := ⟨g, _, none⟩) hg).trans c3
        have f0 : ∀ z : Cs w bl4 E4, z.W.cell? ⟨g', o' + k * 4, none⟩ = some (.int .u64 y.seq) := fun z => ((hbx z).out.cell (p := ⟨g', _, none⟩) hg').trans e0
        have f1 : ∀ z : Cs w bl4 E4, z.W.cell? ⟨g', o' + k * 4 + 1, none⟩ = some (.int .u64 y.at') := fun z => ((hbx z).out.cell (p := ⟨g', _, none⟩) hg').trans e1
        have f2 : ∀ z : Cs w bl4 E4, z.W.cell? ⟨g', o' + k * 4 + 2, none⟩ = some (.string y.text) := fun z => ((hbx z).out.cell (p := ⟨g', _, none⟩) hg').trans e2
        have f3 : ∀ z : Cs w bl4 E4, z.W.cell? ⟨g', o' + k * 4 + 3, none⟩ = some (.int .u64 y.sum) := fun z => ((hbx z).out.cell (p := ⟨g', _, none⟩) hg').trans e3
        clear c0 c1 c2 c3 e0 e1 e2 e3
        repeat (first | go_big_quiet_step (fail) | quiet_step (fail))
        refine wpQuiet_nil ?_
        intro z
        have hz := (hbx z).out
        clear d0 d1 d2 d3 f0 f1 f2 f3 hbx hst sh4
        generalize z.W = w5 at *
        by_cases hxy : x = y
        · subst hxy
          have hb := (entEqB_iff x x).2 rfl
          have HT2 := Lib.hid (HTX.out.2 rfl)
          clear HTX HXY HT
          simp only [hb, Bool.not_true]
          go_wp2_with fail
          go_roundw
          case rel => exact ⟨k + 1, hlt, by go_num, HT2, hz⟩
          case measure => simp [intOf]; omega
        · have hb : entEqB x.seq x.at' x.text x.sum y.seq y.at' y.text y.sum = false := by
            cases h : entEqB x.seq x.at' x.text x.sum y.seq y.at' y.text y.sum
            · rfl
            · exact absurd ((entEqB_iff x y).1 h) hxy
          have hR := Lib.hid (bool_false HR.out (HXY.out hxy))
          clear HTX HXY HT hxy
          simp only [hb, Bool.not_false]
          go_wp2_with fail
          go_ret
          exact ⟨by rw [hR.out]; rfl, hz⟩
      · obtain rfl : k = L.length := by omega
        have hR := Lib.hid (bool_true HR.out (by
          have := HT.out
          rwa [List.take_length, List.take_of_length_le (by rw [HN.out]; exact Nat.le_refl _)] at this))
        go_wp2_with fail
        go_ret
        exact ⟨by rw [hR.out]; rfl, HB⟩
  · have hR := Lib.hid (bool_false HR.out (fun e => hlm (by rw [e])))
    have hb : ((L.length : Int) != (M.length : Int)) = true := by rw [bne_iff_ne]; omega
    clear hlm
    go_enter Try.func18, Try.ntmps18
    go_wp2_with fail
    go_ret
    exact ⟨by rw [hR.out]; rfl, Below.refl _ _⟩

set_option maxRecDepth 100000 in
set_option maxHeartbeats 1000000 in
theorem sliceEq_any (L M : List Ent) (hl : L.length ≤ 1000) (hm : M.length ≤ 1000) (s t : Option Addr) (c d : Nat) (r : Bool) (hr : r = true ↔ L = M) (w : World) (hE : Ents w s L) (hF : Ents w t M) :
    Calls Try.prog 38 #[.slice s L.length c, .slice t M.length d] w fun e w' => e = .returned (.bool r) ∧ Below w.heap.size w w' := by
  have HR := Lib.hid hr
  clear hr
  by_cases hlm : L.length = M.length
  · have hn : M.length = L.length := hlm.symm
    rw [hn] at hm ⊢
    have HN := Lib.hid hn
    clear hlm hn
    go_enter Try.func38, Try.ntmps38
    go_wp2_with fail
    go_loopw [13] (fun i wr => ∃ k : Nat, k ≤ L.length ∧ i = .int .i64 k ∧ Hid (L.take k = M.take k) ∧ Below w.heap.size w wr) (fun i _ => L.length - (intOf i).toNat)
    case atStart => exact ⟨0, Nat.zero_le _, rfl, Lib.hid (by simp), Below.refl _ _⟩
    case round =>
      obtain ⟨k, hk, rfl, HT, HB⟩ := hrel
      by_cases hlt : k < L.length
      · have hx := List.getElem?_eq_getElem hlt
        have hy := List.getElem?_eq_getElem (show k < M.length by rw [HN.out]; exact hlt)
        obtain ⟨g, o, rfl, hg, c0, c1, c2, c3⟩ := hE k _ hx
        obtain ⟨g', o', rfl, hg', e0, e1, e2, e3⟩ := hF k _ hy
        have HTX : Hid (L.take (k + 1) = M.take (k + 1) ↔ L[k] = M[k]'(by rw [HN.out]; exact hlt)) := by
          show _ ↔ _
          rw [List.take_add_one (l := L), List.take_add_one (l := M), hx, hy, HT.out]
          show _ ++ [L[k]] = _ ++ [_] ↔ _
          exact ⟨fun h => by simpa using List.append_cancel_left h, fun h => by rw [h]⟩
        have HXY : Hid (L[k] ≠ M[k]'(by rw [HN.out]; exact hlt) → L ≠ M) := fun h e => h (by
          have h1 : L[k]? = M[k]? := by rw [e]
          rw [hx, hy] at h1
          exact Option.some.inj h1)
        clear hx hy
        generalize (L[k]'hlt) = x at *
        generalize (M[k]'(by rw [HN.out]; exact hlt)) = y at *
        have st := St.of_below HB
        go_wp2_with fail
        obtain ⟨bl4, E4, hne4, sh4, _, _, hbx, hst⟩ := st.hide
        refine region_st sh4 (by kernel_rfl) (by kernel_rfl) ?_
        have d0 : ∀ z : Cs w bl4 E4, z.W.cell? ⟨g, o + k * 4, none⟩ = some (.int .u64 x.seq) := fun z => ((hbx z).out.cell (p := ⟨g, _, none⟩) hg).trans c0
        have d1 : ∀ z : Cs w bl4 E4, z.W.cell? ⟨g, o + k * 4 + 1, none⟩ = some (.int .u64 x.at') := fun z => ((hbx z).out.cell (p := ⟨g, _, none⟩) hg).trans c1
        have d2 : ∀ z : Cs w bl4 E4, z.W.cell? ⟨g, o + k * 4 + 2, none⟩ = some (.string x.text) := fun z => ((hbx z).out.cell (p := ⟨g, _, none⟩) hg).trans c2
        have d3 : ∀ z : Cs w bl4 E4, z.W.cell? ⟨g, o + k * 4 + 3, none⟩ = some (.int .u64 x.sum) := fun z => ((hbx z).out.cell (p := ⟨g, _, none⟩) hg).trans c3
        have f0 : ∀ z : Cs w bl4 E4, z.W.cell? ⟨g', o' + k * 4, none⟩ = some (.int .u64 y.seq) := fun z => ((hbx z).out.cell (p := ⟨g', _, none⟩) hg').trans e0
        have f1 : ∀ z : Cs w bl4 E4, z.W.cell? ⟨g', o' + k * 4 + 1, none⟩ = some (.int .u64 y.at') := fun z => ((hbx z).out.cell (p := ⟨g', _, none⟩) hg').trans e1
        have f2 : ∀ z : Cs w bl4 E4, z.W.cell? ⟨g', o' + k * 4 + 2, none⟩ = some (.string y.text) := fun z => ((hbx z).out.cell (p := ⟨g', _, none⟩) hg').trans e2
        have f3 : ∀ z : Cs w bl4 E4, z.W.cell? ⟨g', o' + k * 4 + 3, none⟩ = some (.int .u64 y.sum) := fun z => ((hbx z).out.cell (p := ⟨g', _, none⟩) hg').trans e3
        clear c0 c1 c2 c3 e0 e1 e2 e3
        repeat (first | go_big_quiet_step (fail) | quiet_step (fail))
        refine wpQuiet_nil ?_
        intro z
        have hz := (hbx z).out
        clear d0 d1 d2 d3 f0 f1 f2 f3 hbx hst sh4
        generalize z.W = w5 at *
        by_cases hxy : x = y
        · subst hxy
          have hb := (entEqB_iff x x).2 rfl
          have HT2 := Lib.hid (HTX.out.2 rfl)
          clear HTX HXY HT
          simp only [hb, Bool.not_true]
          go_wp2_with fail
          go_roundw
          case rel => exact ⟨k + 1, hlt, by go_num, HT2, hz⟩
          case measure => simp [intOf]; omega
        · have hb : entEqB x.seq x.at' x.text x.sum y.seq y.at' y.text y.sum = false := by
            cases h : entEqB x.seq x.at' x.text x.sum y.seq y.at' y.text y.sum
            · rfl
            · exact absurd ((entEqB_iff x y).1 h) hxy
          have hR := Lib.hid (bool_false HR.out (HXY.out hxy))
          clear HTX HXY HT hxy
          simp only [hb, Bool.not_false]
          go_wp2_with fail
          go_ret
          exact ⟨by rw [hR.out]; rfl, hz⟩
      · obtain rfl : k = L.length := by omega
        have hR := Lib.hid (bool_true HR.out (by
          have := HT.out
          rwa [List.take_length, List.take_of_length_le (by rw [HN.out]; exact Nat.le_refl _)] at this))
        go_wp2_with fail
        go_ret
        exact ⟨by rw [hR.out]; rfl, HB⟩
  · have hR := Lib.hid (bool_false HR.out (fun e => hlm (by rw [e])))
    have hb : ((L.length : Int) != (M.length : Int)) = true := by rw [bne_iff_ne]; omega
    clear hlm
    go_enter Try.func38, Try.ntmps38
    go_wp2_with fail
    go_ret
    exact ⟨by rw [hR.out]; rfl, Below.refl _ _⟩

set_option maxRecDepth 100000 in
set_option maxHeartbeats 1000000 in
theorem refSame_any (bf cf : Int) (L M : List Ent) (hl : L.length ≤ 1000) (hm : M.length ≤ 1000) (s t : Option Addr) (c d : Nat) (r : Bool) (hr : r = true ↔ (bf = cf ∧ L = M)) (w : World) (hE : Ents w s L) (hF : Ents w t M) :
    Calls Try.prog 17 #[lv bf s L.length c, lv cf t M.length d] w fun e w' => e = .returned (.bool r) ∧ Below w.heap.size w w' := by
  classical
  have HR := Lib.hid hr
  clear hr
  have st := (St.start w).alloc (cs := #[.int .u64 bf, .slice s L.length c]) (T := 27) |>.alloc (cs := #[.int .u64 cf, .slice t M.length d]) (T := 27)
  by_cases hb : bf = cf
  · have hbb : (bf == cf) = true := by simp [hb]
    have HB := Lib.hid hb
    clear hb
    go_enter Try.func17, Try.ntmps17
    go_wp2_with fail
    refine (st.call' (fun st => entries_any L M hl hm s t c d r (by rw [HR.out]; exact ⟨fun h => h.2, fun h => ⟨HB.out, h⟩⟩) _ (hE.below st.below) (hF.below st.below))).mono ?_
    rintro e w1 ⟨rfl, st1⟩
    go_wp2_with fail
    go_ret
    exact ⟨rfl, st1.below⟩
  · have hbb : (bf == cf) = false := by simp [hb]
    have hR := Lib.hid (bool_false HR.out (fun h => hb h.1))
    clear hb
    go_enter Try.func17, Try.ntmps17
    go_wp2_with fail
    go_ret
    exact ⟨by rw [hR.out]; rfl, st.below⟩

set_option maxRecDepth 100000 in
set_option maxHeartbeats 1000000 in
theorem same_any (bf cf : Int) (L M : List Ent) (hl : L.length ≤ 1000) (hm : M.length ≤ 1000) (s t : Option Addr) (c d : Nat) (r : Bool) (hr : r = true ↔ (bf = cf ∧ L = M)) (w : World) (hE : Ents w s L) (hF : Ents w t M) :
    Calls Try.prog 29 #[lv bf s L.length c, lv cf t M.length d] w fun e w' => e = .returned (.bool r) ∧ Below w.heap.size w w' := by
  classical
  have HR := Lib.hid hr
  clear hr
  have st := (St.start w).alloc (cs := #[.int .u64 bf, .slice s L.length c]) (T := 27) |>.alloc (cs := #[.int .u64 cf, .slice t M.length d]) (T := 27)
  by_cases hb : bf = cf
  · have hbb : (bf == cf) = true := by simp [hb]
    have HB := Lib.hid hb
    clear hb
    go_enter Try.func29, Try.ntmps29
    go_wp2_with fail
    refine (st.call' (fun st => sliceEq_any L M hl hm s t c d r (by rw [HR.out]; exact ⟨fun h => h.2, fun h => ⟨HB.out, h⟩⟩) _ (hE.below st.below) (hF.below st.below))).mono ?_
    rintro e w1 ⟨rfl, st1⟩
    go_wp2_with fail
    go_ret
    exact ⟨rfl, st1.below⟩
  · have hbb : (bf == cf) = false := by simp [hb]
    have hR := Lib.hid (bool_false HR.out (fun h => hb h.1))
    clear hb
    go_enter Try.func29, Try.ntmps29
    go_wp2_with fail
    go_ret
    exact ⟨by rw [hR.out]; rfl, st.below⟩
end Go.Proofs.Ytclhbimlpamjiaa
