/- (*token.reader).number, token.Body, token.Check, walked. -/
import Derived.Test.YthhoikcknfbclaaDoorTokW
import Derived.Test.YthhoikcknfbclaaDoorGet
namespace Go.Proofs.YthhoikcknfbclaaDoor
open Go.RowKit
set_option linter.unusedSimpArgs false

theorem tnum_wrong (R : Nat) (s : ByteArray) (T : TypeId) (w : World) (hR : w.heap[R]? = some (.cells #[.string s, .bool true] T (0, 0))) :
    Calls Tryd.prog 25 #[.pointer (some ⟨R, 0, none⟩)] w fun e w' => e = .returned (.int .u64 0) ∧ w' = w := by
  have c := blk_cell hR
  go_enter Tryd.func25, Tryd.ntmps25
  go_wp2_with fail
  go_ret
  exact ⟨rfl, rfl⟩

/-- a call that writes one cell of block R -/
def Puts (w : World) (R : Nat) (v : Value) (cs : Array Value) (T : TypeId) (e : Ending) (w' : World) : Prop :=
  e = .returned v ∧ w'.heap[R]? = some (.cells cs T (0, 0)) ∧ w.grownBy w' (some R)

set_option maxRecDepth 100000 in
set_option maxHeartbeats 1000000 in
theorem tnum_bad {p q : Addr} {w : World} (h : Sents p q w) (R : Nat) (s : ByteArray) (T : TypeId) (hs : s.size ≤ 9223372036854775807) (hR : w.heap[R]? = some (.cells #[.string s, .bool false] T (0, 0)))
    (hg : ∀ n r, getL s.data.toList ≠ .ok n r) :
    Calls Tryd.prog 25 #[.pointer (some ⟨R, 0, none⟩)] w (Puts w R (.int .u64 0) #[.string s, .bool true] T) := by
  have c := blk_cell hR
  have HC := Lib.hid (get_any h s hs)
  generalize getL s.data.toList = g at *
  go_enter Tryd.func25, Tryd.ntmps25
  go_wp2_with fail
  refine HC.out.mono ?_
  intro e w1 hh
  clear c HC
  cases g with
  | ok n r => exact absurd rfl (hg n r)
  | more =>
    simp only [getV, numOf, leftOf, noOf] at hh
    obtain ⟨rfl, hb1⟩ := hh
    have hR1 := (hb1.block _ (blk_lt hR)).trans hR
    have c := blk_cell hR1
    have f := blk_free hR1
    go_wp2_with fail
    go_ret
    exact ⟨rfl, blk_set hR1 1 _, grownBy_trans (grownBy_of_below hb1 (some R)) (grownBy_set _ _ _ _)⟩
  | field =>
    simp only [getV, numOf, leftOf, noOf] at hh
    obtain ⟨rfl, hb1⟩ := hh
    have hR1 := (hb1.block _ (blk_lt hR)).trans hR
    have c := blk_cell hR1
    have f := blk_free hR1
    go_wp2_with fail
    go_ret
    exact ⟨rfl, blk_set hR1 1 _, grownBy_trans (grownBy_of_below hb1 (some R)) (grownBy_set _ _ _ _)⟩

set_option maxRecDepth 100000 in
set_option maxHeartbeats 1000000 in
theorem tnum_ok {p q : Addr} {w : World} (h : Sents p q w) (R : Nat) (s : ByteArray) (T : TypeId) (hs : s.size ≤ 9223372036854775807) (hR : w.heap[R]? = some (.cells #[.string s, .bool false] T (0, 0)))
    (n : Nat) (r : List UInt8) (hg : getL s.data.toList = .ok n r) :
    Calls Tryd.prog 25 #[.pointer (some ⟨R, 0, none⟩)] w (Puts w R (.int .u64 n) #[.string ⟨r.toArray⟩, .bool false] T) := by
  have c := blk_cell hR
  have HC := Lib.hid (get_any h s hs)
  rw [hg] at HC
  clear hg
  go_enter Tryd.func25, Tryd.ntmps25
  go_wp2_with fail
  refine HC.out.mono ?_
  intro e w1 hh
  clear c HC
  simp only [getV, numOf, leftOf, noOf] at hh
  obtain ⟨rfl, hb1⟩ := hh
  have hR1 := (hb1.block _ (blk_lt hR)).trans hR
  have c := blk_cell hR1
  have f := blk_free hR1
  go_wp2_with fail
  go_ret
  exact ⟨rfl, blk_set hR1 0 _, grownBy_trans (grownBy_of_below hb1 (some R)) (grownBy_set _ _ _ _)⟩

theorem Puts.st {w0 : World} {bl : List Blk} {w w' : World} {R : Nat} {v u : Value} {cs : Array Value} {T : TypeId} {e : Ending} {o : Nat} (h : Puts w R v (cs.setIfInBounds o u) T e w') (st : St w0 bl (fun _ => True) w) (i : Nat) (hi : bl[i]? = some (R, cs, T)) (hA : w0.heap.size ≤ R) :
    St w0 (setB bl i o u) (fun _ => True) w' := st.change i hi hA h.2.2 h.2.1 trivial (fun _ _ _ _ => trivial)

theorem bodyOf_1 {l : List UInt8} (h : ∀ n r, getL l ≠ .ok n r) : bodyOf l = none := by
  unfold bodyOf
  cases h1 : getL l with
  | more => rfl
  | field => rfl
  | ok t r => exact absurd h1 (h t r)
theorem bodyOf_2 {l l1 : List UInt8} {t : Nat} (h0 : getL l = .ok t l1) (h : ∀ n r, getL l1 ≠ .ok n r) : bodyOf l = none := by
  unfold bodyOf
  rw [h0]
  simp only
theorem bodyOf_3 {l l1 l2 : List UInt8} {t r : Nat} (h0 : getL l = .ok t l1) (h1 : getL l1 = .ok r l2) (h : ∀ n r, getL l2 ≠ .ok n r) : bodyOf l = none := by
  unfold bodyOf
  rw [h0]
  simp only
  rw [h1]
  simp only
theorem bodyOf_4 {l l1 l2 l3 : List UInt8} {t r u : Nat} (h0 : getL l = .ok t l1) (h1 : getL l1 = .ok r l2) (h2 : getL l2 = .ok u l3) : bodyOf l = if l3.length = 8 ∧ 1 ≤ r ∧ r ≤ 3 then some (t, r, u) else none := by
  unfold bodyOf
  rw [h0]
  simp only
  rw [h1]
  simp only
  rw [h2]
theorem got_cases (g : Got) : (∀ n r, g ≠ .ok n r) ∨ ∃ n r, g = .ok n r := by
  cases g with
  | more => exact .inl fun _ _ h => by cases h
  | field => exact .inl fun _ _ h => by cases h
  | ok n r => exact .inr ⟨n, r, rfl⟩
theorem mk_list (r : List UInt8) : (⟨r.toArray⟩ : ByteArray).data.toList = r := by simp
theorem mk_size (r : List UInt8) : (⟨r.toArray⟩ : ByteArray).size = r.length := by show r.toArray.size = _; simp

set_option maxRecDepth 100000 in
set_option maxHeartbeats 4000000 in
theorem body_any {p q : Addr} {w : World} (h : Sents p q w) (s : ByteArray) (hz1 : s.size ≤ 9223372036854775807) :
    Calls Tryd.prog 15 #[.string s] w fun e w' => e = .returned (bodyV (bodyOf s.data.toList)) ∧ Below w.heap.size w w' := by
  obtain ⟨V, hV⟩ : ∃ V, bodyV (bodyOf s.data.toList) = V := ⟨_, rfl⟩
  rw [hV]
  have HV := Lib.hid hV
  clear hV
  have st0 := ((St.start w).alloc (cs := #[.int .u64 0, .int .i64 0, .int .u64 0]) (T := 26)).alloc (cs := #[.string s, .bool false]) (T := 52)
  simp only [World.size_alloc] at st0
  have hS0 := Lib.hid (h.below (Nat.le_refl _) st0.below)
  have hz : s.data.toList.length = s.size := by simp
  go_enter Tryd.func15, Tryd.ntmps15
  go_wp2_with fail
  rcases got_cases (getL s.data.toList) with hg1 | ⟨t, l1, hg1⟩
  · have HV2 := HV.out
    rw [bodyOf_1 hg1] at HV2
    have HV := Lib.hid HV2; clear HV2
    refine (tnum_bad hS0.out _ s _ hz1 (st0.blk _ (List.mem_of_getElem? (i := 0) rfl)) hg1).mono ?_
    intro e w1 hp
    have st1 := Puts.st (cs := #[.string s, .bool false]) (o := 1) hp st0 0 rfl (by omega)
    simp only [setB, List.modify_zero_cons, List.setIfInBounds_toArray, List.set_cons_zero, List.set_cons_succ] at st1
    obtain ⟨rfl, -, -⟩ := hp
    clear st0 hS0
    go_wp2_with fail
    refine (tnum_wrong _ s _ _ (st1.blk _ (List.mem_of_getElem? (i := 0) rfl))).mono ?_
    rintro e w' ⟨rfl, rfl⟩
    go_wp2_with fail
    refine (tnum_wrong _ s _ _ (st1.blk _ (List.mem_of_getElem? (i := 0) rfl))).mono ?_
    rintro e w' ⟨rfl, rfl⟩
    have rl := st1.rules
    simp only [Rules] at rl
    go_wp2_with fail
    refine bodyPost_ret (v := bodyV none) (by simp [results, Tryd.results15, go_sem, bodyV, rl]) rfl ⟨by rw [← HV.out], ?_⟩
    exact ((st1.below.setCell (Nat.le_refl _) _).setCell (Nat.le_refl _) _).setCell (Nat.le_refl _) _
  · refine (tnum_ok hS0.out _ s _ hz1 (st0.blk _ (List.mem_of_getElem? (i := 0) rfl)) t l1 hg1).mono ?_
    intro e w1 hp
    have st1 := Puts.st (cs := #[.string s, .bool false]) (o := 0) hp st0 0 rfl (by omega)
    simp only [setB, List.modify_zero_cons, List.setIfInBounds_toArray, List.set_cons_zero, List.set_cons_succ] at st1
    obtain ⟨rfl, -, -⟩ := hp
    have hS1 := Lib.hid (h.below (Nat.le_refl _) st1.below)
    have hq1 := (getL_back _ _ _ hg1).2
    rw [hz] at hq1
    have hz2 : (⟨l1.toArray⟩ : ByteArray).size ≤ 9223372036854775807 := by rw [mk_size]; omega
    clear st0 hS0
    go_wp2_with fail
    rcases got_cases (getL l1) with hg2 | ⟨r, l2, hg2⟩
    · have HV2 := HV.out
      rw [bodyOf_2 hg1 hg2] at HV2
      have HV := Lib.hid HV2; clear HV2
      refine (tnum_bad hS1.out _ ⟨l1.toArray⟩ _ hz2 (st1.blk _ (List.mem_of_getElem? (i := 0) rfl)) (by rw [mk_list]; exact hg2)).mono ?_
      intro e w2 hp
      have st2 := Puts.st (cs := #[.string ⟨l1.toArray⟩, .bool false]) (o := 1) hp st1 0 rfl (by omega)
      simp only [setB, List.modify_zero_cons, List.setIfInBounds_toArray, List.set_cons_zero, List.set_cons_succ] at st2
      obtain ⟨rfl, -, -⟩ := hp
      clear st1 hS1
      go_wp2_with fail
      refine (tnum_wrong _ ⟨l1.toArray⟩ _ _ (st2.blk _ (List.mem_of_getElem? (i := 0) rfl))).mono ?_
      rintro e w' ⟨rfl, rfl⟩
      have rl := st2.rules
      simp only [Rules] at rl
      go_wp2_with fail
      refine bodyPost_ret (v := bodyV none) (by simp [results, Tryd.results15, go_sem, bodyV, rl]) rfl ⟨by rw [← HV.out], ?_⟩
      exact ((st2.below.setCell (Nat.le_refl _) _).setCell (Nat.le_refl _) _).setCell (Nat.le_refl _) _
    · refine (tnum_ok hS1.out _ ⟨l1.toArray⟩ _ hz2 (st1.blk _ (List.mem_of_getElem? (i := 0) rfl)) r l2 (by rw [mk_list]; exact hg2)).mono ?_
      intro e w2 hp
      have st2 := Puts.st (cs := #[.string ⟨l1.toArray⟩, .bool false]) (o := 0) hp st1 0 rfl (by omega)
      simp only [setB, List.modify_zero_cons, List.setIfInBounds_toArray, List.set_cons_zero, List.set_cons_succ] at st2
      obtain ⟨rfl, -, -⟩ := hp
      have hS2 := Lib.hid (h.below (Nat.le_refl _) st2.below)
      have hq2 := (getL_back _ _ _ hg2).2
      have hz3 : (⟨l2.toArray⟩ : ByteArray).size ≤ 9223372036854775807 := by rw [mk_size]; omega
      clear st1 hS1
      go_wp2_with fail
      rcases got_cases (getL l2) with hg3 | ⟨u, l3, hg3⟩
      · have HV2 := HV.out
        rw [bodyOf_3 hg1 hg2 hg3] at HV2
        have HV := Lib.hid HV2; clear HV2
        refine (tnum_bad hS2.out _ ⟨l2.toArray⟩ _ hz3 (st2.blk _ (List.mem_of_getElem? (i := 0) rfl)) (by rw [mk_list]; exact hg3)).mono ?_
        intro e w3 hp
        have st3 := Puts.st (cs := #[.string ⟨l2.toArray⟩, .bool false]) (o := 1) hp st2 0 rfl (by omega)
        simp only [setB, List.modify_zero_cons, List.setIfInBounds_toArray, List.set_cons_zero, List.set_cons_succ] at st3
        obtain ⟨rfl, -, -⟩ := hp
        clear st2 hS2
        have rl := st3.rules
        simp only [Rules] at rl
        go_wp2_with fail
        refine bodyPost_ret (v := bodyV none) (by simp [results, Tryd.results15, go_sem, bodyV, rl]) rfl ⟨by rw [← HV.out], ?_⟩
        exact ((st3.below.setCell (Nat.le_refl _) _).setCell (Nat.le_refl _) _).setCell (Nat.le_refl _) _
      · refine (tnum_ok hS2.out _ ⟨l2.toArray⟩ _ hz3 (st2.blk _ (List.mem_of_getElem? (i := 0) rfl)) u l3 (by rw [mk_list]; exact hg3)).mono ?_
        intro e w3 hp
        have st3 := Puts.st (cs := #[.string ⟨l2.toArray⟩, .bool false]) (o := 0) hp st2 0 rfl (by omega)
        simp only [setB, List.modify_zero_cons, List.setIfInBounds_toArray, List.set_cons_zero, List.set_cons_succ] at st3
        obtain ⟨rfl, -, -⟩ := hp
        have hS3 := Lib.hid (h.below (Nat.le_refl _) st3.below)
        have hq3 := (getL_back _ _ _ hg3).2
        have hz4 : (⟨l3.toArray⟩ : ByteArray).size ≤ 9223372036854775807 := by rw [mk_size]; omega
        clear st2 hS2
        have HV2 := HV.out
        rw [bodyOf_4 hg1 hg2 hg3] at HV2
        have HV := Lib.hid HV2; clear HV2
        have hm := mk_size l3
        have rl := st3.rules
        simp only [Rules] at rl
        clear hg1 hg2 hg3
        generalize (⟨l3.toArray⟩ : ByteArray) = b3 at *
        by_cases c1 : b3.size = 8
        · by_cases c2 : r < 1
          · have HV := Lib.hid (HV.out.symm.trans (congrArg bodyV (if_neg (by omega))))
            clear hm
            go_wp2_with fail
            refine bodyPost_ret (v := bodyV none) (by simp [results, Tryd.results15, go_sem, bodyV, rl]) rfl ⟨by rw [HV.out], ?_⟩
            exact ((st3.below.setCell (Nat.le_refl _) _).setCell (Nat.le_refl _) _).setCell (Nat.le_refl _) _
          · by_cases c3 : 3 < r
            · have HV := Lib.hid (HV.out.symm.trans (congrArg bodyV (if_neg (by omega))))
              clear hm
              go_wp2_with fail
              refine bodyPost_ret (v := bodyV none) (by simp [results, Tryd.results15, go_sem, bodyV, rl]) rfl ⟨by rw [HV.out], ?_⟩
              exact ((st3.below.setCell (Nat.le_refl _) _).setCell (Nat.le_refl _) _).setCell (Nat.le_refl _) _
            · have HV := Lib.hid (HV.out.symm.trans (congrArg bodyV (if_pos ⟨by omega, by omega, by omega⟩)))
              clear hm
              go_wp2_with fail
              refine bodyPost_ret (v := bodyV (some (t, r, u))) (by simp [results, Tryd.results15, go_sem, bodyV, rl]) rfl ⟨by rw [HV.out], ?_⟩
              exact ((st3.below.setCell (Nat.le_refl _) _).setCell (Nat.le_refl _) _).setCell (Nat.le_refl _) _
        · have HV := Lib.hid (HV.out.symm.trans (congrArg bodyV (if_neg (by omega))))
          clear hm
          go_wp2_with fail
          refine bodyPost_ret (v := bodyV none) (by simp [results, Tryd.results15, go_sem, bodyV, rl]) rfl ⟨by rw [HV.out], ?_⟩
          exact ((st3.below.setCell (Nat.le_refl _) _).setCell (Nat.le_refl _) _).setCell (Nat.le_refl _) _

/- BODY ENDS -/
theorem below_set3 {w0 w : World} (h : Below w0.heap.size w0 w) {b : Nat} (hb : w0.heap.size ≤ b) (x y z : Value) : Below w0.heap.size w0 (((w.setCell ⟨b, 0, none⟩ x).setCell ⟨b, 1, none⟩ y).setCell ⟨b, 2, none⟩ z) :=
  ((h.setCell (p := ⟨b, 0, none⟩) hb _).setCell (p := ⟨b, 1, none⟩) hb _).setCell (p := ⟨b, 2, none⟩) hb _
theorem ba_same {x y : ByteArray} (h : x = y) : (x.toList == y.toList) = true := by rw [h]; simp
theorem ba_other {x y : ByteArray} (h : x ≠ y) : (x.toList == y.toList) = false := by
  have : x.toList ≠ y.toList := fun e => h (ba_ext (by rwa [Lib.toList_data, Lib.toList_data] at e))
  simpa using this
theorem checkV_1 {a b : BitVec 64} {s : ByteArray} {now t r u : Nat} (h : mintB a b t r u ≠ s) : checkV a b s now (some (t, r, u)) = .tuple #[cv 0 0 0, .int .i64 170] := if_pos h
theorem checkV_2 {a b : BitVec 64} {s : ByteArray} {now t r u : Nat} (h : mintB a b t r u = s) (h2 : u < now) : checkV a b s now (some (t, r, u)) = .tuple #[cv 0 0 0, .int .i64 171] := (if_neg (by simpa using h)).trans (if_pos h2)
theorem checkV_3 {a b : BitVec 64} {s : ByteArray} {now t r u : Nat} (h : mintB a b t r u = s) (h2 : ¬ u < now) : checkV a b s now (some (t, r, u)) = .tuple #[cv t r u, .int .i64 0] := (if_neg (by simpa using h)).trans (if_neg h2)

set_option maxRecDepth 100000 in
set_option maxHeartbeats 4000000 in
theorem check_any {p q : Addr} {w : World} (h : Sents p q w) (a b : BitVec 64) (s : ByteArray) (hs : s.size ≤ 100000) (now : Nat) :
    Calls Tryd.prog 12 #[kv a b, .string s, .int .u64 now] w fun e w' => e = .returned (checkV a b s now (bodyOf s.data.toList)) ∧ Below w.heap.size w w' := by
  have st0 := ((St.start w).alloc (cs := #[.int .u64 (un a), .int .u64 (un b)]) (T := 24)).alloc (cs := #[.int .u64 0, .int .i64 0, .int .u64 0]) (T := 26)
  simp only [World.size_alloc] at st0
  have hS0 := Lib.hid (h.below (Nat.le_refl _) st0.below)
  have HB := Lib.hid (body_any hS0.out s (by omega))
  have HX := Lib.hid (fun t r u => @split_token s t r u)
  generalize bodyOf s.data.toList = o at *
  cases o with
  | none =>
    simp only [checkV, bodyV] at *
    go_enter Tryd.func12, Tryd.ntmps12
    go_wp2_with fail
    refine HB.out.mono ?_
    rintro e w1 ⟨rfl, hb1⟩
    have st1 := (st0.to hb1).alloc (cs := #[.int .u64 0, .int .i64 0, .int .u64 0]) (T := 26)
    have st1' := (st0.to hb1)
    clear st0 HB
    have rl := st1'.rules
    simp only [Rules] at rl
    go_wp2_with fail
    refine bodyPost_ret (v := .tuple #[cv 0 0 0, .int .i64 170]) (by simp [results, Tryd.results12, go_sem, rl]) rfl ⟨rfl, ?_⟩
    have h3 := below_set3 st1'.below (Nat.le_succ _) (.int .u64 0) (.int .i64 0) (.int .u64 0)
    exact h3.alloc h3.size _
  | some o =>
    obtain ⟨t, r, u⟩ := o
    obtain ⟨h8, e1, e2⟩ := HX.out t r u rfl
    obtain ⟨m, hm, hm2, hms⟩ : ∃ m : Nat, (s.size : Int) - 8 = (m : Int) ∧ s.size - 8 = m ∧ m ≤ s.size := ⟨s.size - 8, by omega, rfl, by omega⟩
    have e2 := e2 a b
    rw [hm2] at e1 e2
    have HE2 := Lib.hid e2
    clear e2 HX hm2 h8
    simp only [bodyV] at HB
    obtain ⟨V, hV⟩ : ∃ V, checkV a b s now (some (t, r, u)) = V := ⟨_, rfl⟩
    rw [hV]
    have HV := Lib.hid hV
    clear hV
    go_enter Tryd.func12, Tryd.ntmps12
    go_wp2_with fail
    refine HB.out.mono ?_
    rintro e w1 ⟨rfl, hb1⟩
    have st1 := (st0.to hb1).alloc (cs := #[.int .u64 t, .int .i64 r, .int .u64 u]) (T := 26)
    clear st0 HB
    go_wp2_with fail
    obtain ⟨bl2, E2, hne2, sh2, rl, hEx, hbx, hst⟩ := st1.hide
    refine region_st sh2 (by kernel_rfl) (by kernel_rfl) ?_
    simp only [Rules] at rl
    have hzb := (bodyB_size t r u).2
    have hzs := sumB_size a b (bodyB t r u)
    repeat (first | go_big_quiet_step ((go_at_call 21; exact Cs.call (sumOf_any a b (bodyB t r u) (by omega) _))) | quiet_step ((go_at_call 21; exact Cs.call (sumOf_any a b (bodyB t r u) (by omega) _))))
    refine wpQuiet_nil ?_
    intro y
    have st3 := (hst y).out
    clear hbx rl hst sh2 hEx st1
    generalize y.W = w3 at *
    have rl := st3.rules
    simp only [Rules] at rl
    by_cases c1 : mintB a b t r u = s
    · have c2 := ba_same (HE2.out.2 c1)
      simp only [c2, Bool.not_true]
      by_cases c3 : u < now
      · have HV := Lib.hid (HV.out.symm.trans (checkV_2 c1 c3))
        clear HE2
        go_wp2_with fail
        refine bodyPost_ret (v := .tuple #[cv 0 0 0, .int .i64 171]) (by simp [results, Tryd.results12, go_sem, rl]) rfl ⟨by rw [HV.out], ?_⟩
        exact below_set3 st3.below (Nat.le_succ _) _ _ _
      · have HV := Lib.hid (HV.out.symm.trans (checkV_3 c1 c3))
        clear HE2
        go_wp2_with fail
        refine bodyPost_ret (v := .tuple #[cv t r u, .int .i64 0]) (by simp [results, Tryd.results12, go_sem, rl]) rfl ⟨by rw [HV.out], ?_⟩
        exact below_set3 st3.below (Nat.le_succ _) _ _ _
    · have c2 := ba_other (mt HE2.out.1 c1)
      simp only [c2, Bool.not_false]
      have HV := Lib.hid (HV.out.symm.trans (checkV_1 (now := now) c1))
      clear HE2
      go_wp2_with fail
      refine bodyPost_ret (v := .tuple #[cv 0 0 0, .int .i64 170]) (by simp [results, Tryd.results12, go_sem, rl]) rfl ⟨by rw [HV.out], ?_⟩
      exact below_set3 st3.below (Nat.le_succ _) _ _ _

end Go.Proofs.YthhoikcknfbclaaDoor
