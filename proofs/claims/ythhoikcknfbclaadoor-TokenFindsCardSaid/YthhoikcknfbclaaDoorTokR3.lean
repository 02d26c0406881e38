/- aviaryref17.Body, Check, walked. -/
import Derived.Test.YthhoikcknfbclaaDoorTokR2
namespace Go.Proofs.YthhoikcknfbclaaDoor
open Go.RowKit
set_option linter.unusedSimpArgs false

theorem leftOf_size (s : ByteArray) : (leftOf s (getL s.data.toList)).size ≤ s.size := by
  have hz : s.data.toList.length = s.size := by simp
  cases h : getL s.data.toList with
  | more => exact Nat.le_refl _
  | field => exact Nat.le_refl _
  | ok n r =>
    have := (getL_back _ _ _ h).2.2
    show (⟨r.toArray⟩ : ByteArray).size ≤ _
    rw [mk_size]
    omega
theorem numOf_nat (l : List UInt8) : ∃ n : Nat, numOf (getL l) = (n : Int) ∧ n < 18446744073709551616 := by
  cases h : getL l with
  | more => exact ⟨0, rfl, by decide⟩
  | field => exact ⟨0, rfl, by decide⟩
  | ok n r => exact ⟨n, rfl, (getL_back _ _ _ h).2.1⟩
theorem noOf_zero {g : Got} (h : noOf g = 0) : ∃ n r, g = .ok n r := by
  cases g with
  | more => cases h
  | field => cases h
  | ok n r => exact ⟨n, r, rfl⟩
theorem noOf_ne {g : Got} (h : noOf g ≠ 0) : ∀ n r, g ≠ .ok n r := by
  intro n r e
  rw [e] at h
  exact h rfl

/-- three readings, one behind the other -/
theorem bodyOf_three (s s1 s2 s3 : ByteArray) (n1 n2 n3 : Nat) (e1 e2 e3 : Int) (h1 : getV s (getL s.data.toList) = .tuple #[.int .u64 n1, .string s1, .int .i64 e1])
    (h2 : getV s1 (getL s1.data.toList) = .tuple #[.int .u64 n2, .string s2, .int .i64 e2]) (h3 : getV s2 (getL s2.data.toList) = .tuple #[.int .u64 n3, .string s3, .int .i64 e3]) :
    bodyOf s.data.toList = if e1 = 0 ∧ e2 = 0 ∧ e3 = 0 ∧ 1 ≤ n2 ∧ n2 ≤ 3 ∧ s3.size = 8 then some (n1, n2, n3) else none := by
  simp only [getV, Value.tuple.injEq, Array.mk.injEq, List.cons.injEq, Value.int.injEq, Value.string.injEq, true_and, and_true] at h1 h2 h3
  obtain ⟨a1, b1, c1⟩ := h1
  obtain ⟨a2, b2, c2⟩ := h2
  obtain ⟨a3, b3, c3⟩ := h3
  by_cases d1 : e1 = 0
  · obtain ⟨m1, r1, g1⟩ := noOf_zero (c1.trans d1)
    rw [g1] at a1 b1
    simp only [numOf, leftOf] at a1 b1
    by_cases d2 : e2 = 0
    · obtain ⟨m2, r2, g2⟩ := noOf_zero (c2.trans d2)
      rw [g2] at a2 b2
      simp only [numOf, leftOf] at a2 b2
      by_cases d3 : e3 = 0
      · obtain ⟨m3, r3, g3⟩ := noOf_zero (c3.trans d3)
        rw [g3] at a3 b3
        simp only [numOf, leftOf] at a3 b3
        subst b1 b2 b3
        rw [mk_list] at g2 g3
        rw [bodyOf_4 g1 g2 g3, mk_size]
        obtain rfl : m1 = n1 := by omega
        obtain rfl : m2 = n2 := by omega
        obtain rfl : m3 = n3 := by omega
        by_cases d : r3.length = 8 ∧ 1 ≤ m2 ∧ m2 ≤ 3
        · rw [if_pos d, if_pos ⟨d1, d2, d3, d.2.1, d.2.2, d.1⟩]
        · rw [if_neg d, if_neg (fun x => d ⟨x.2.2.2.2.2, x.2.2.2.1, x.2.2.2.2.1⟩)]
      · rw [if_neg (fun x => d3 x.2.2.1)]
        subst b1 b2
        rw [mk_list] at g2 c3
        exact bodyOf_3 g1 g2 (noOf_ne (c3 ▸ d3))
    · rw [if_neg (fun x => d2 x.2.1)]
      subst b1
      rw [mk_list] at c2
      exact bodyOf_2 g1 (noOf_ne (c2 ▸ d2))
  · rw [if_neg (fun x => d1 x.1)]
    exact bodyOf_1 (noOf_ne (c1 ▸ d1))

theorem get_form (s : ByteArray) : ∃ (n : Nat) (s1 : ByteArray) (e : Int), getV s (getL s.data.toList) = .tuple #[.int .u64 n, .string s1, .int .i64 e] ∧ n < 18446744073709551616 ∧ s1.size ≤ s.size := by
  obtain ⟨n, hn, hn2⟩ := numOf_nat s.data.toList
  exact ⟨n, leftOf s (getL s.data.toList), noOf (getL s.data.toList), by unfold getV; rw [hn], hn2, leftOf_size s⟩

set_option maxRecDepth 100000 in
set_option maxHeartbeats 4000000 in
theorem refBody_any (s : ByteArray) (hs : s.size ≤ 100000) (w : World) :
    Calls Tryd.prog 16 #[.string s] w fun e w' => e = .returned (bodyV (bodyOf s.data.toList)) ∧ Below w.heap.size w w' := by
  obtain ⟨n1, s1, e1, h1, hn1, hz1⟩ := get_form s
  obtain ⟨n2, s2, e2, h2, hn2, hz2⟩ := get_form s1
  obtain ⟨n3, s3, e3, h3, hn3, hz3⟩ := get_form s2
  have HT := Lib.hid (bodyOf_three s s1 s2 s3 n1 n2 n3 e1 e2 e3 h1 h2 h3)
  have C1 := Lib.hid (refGet_any s (by omega))
  have C2 := Lib.hid (refGet_any s1 (by omega))
  have C3 := Lib.hid (refGet_any s2 (by omega))
  rw [h1] at C1
  rw [h2] at C2
  rw [h3] at C3
  have hs3 : s3.size ≤ 100000 := by omega
  clear h1 h2 h3 hz1 hz2 hz3
  obtain ⟨V, hV⟩ : ∃ V, bodyV (bodyOf s.data.toList) = V := ⟨_, rfl⟩
  rw [hV]
  have HV : Hid (bodyV (if e1 = 0 ∧ e2 = 0 ∧ e3 = 0 ∧ 1 ≤ n2 ∧ n2 ≤ 3 ∧ s3.size = 8 then some (n1, n2, n3) else none) = V) := by show _ = _; rw [← HT.out]; exact hV
  clear hV HT
  have st0 := (St.start w).alloc (cs := #[.int .u64 0, .int .i64 0, .int .u64 0]) (T := 26)
  go_enter Tryd.func16, Tryd.ntmps16
  go_wp2_with fail
  refine (C1.out _).mono ?_
  rintro e w1 ⟨rfl, hb1⟩
  have st1 := st0.to hb1
  clear st0 hb1
  go_wp2_with fail
  refine (C2.out _).mono ?_
  rintro e w2 ⟨rfl, hb2⟩
  have st2 := st1.to hb2
  clear st1 hb2
  go_wp2_with fail
  refine (C3.out _).mono ?_
  rintro e w3 ⟨rfl, hb3⟩
  have st3 := st2.to hb3
  clear st2 hb3 C1 C2 C3
  have rl := st3.rules
  simp only [Rules] at rl
  by_cases d1 : e1 = 0
  · by_cases d2 : e2 = 0
    · by_cases d3 : e3 = 0
      · by_cases d4 : n2 < 1
        · have HW := Lib.hid (HV.out.symm.trans (congrArg bodyV (if_neg (fun x => by omega))))
          subst d1 d2 d3
          go_wp2_with fail
          refine bodyPost_ret (v := bodyV none) (by simp [results, Tryd.results16, go_sem, bodyV, rl]) rfl ⟨by rw [HW.out], ?_⟩
          exact below_set3 st3.below (Nat.le_refl _) _ _ _
        · by_cases d5 : 3 < n2
          · have HW := Lib.hid (HV.out.symm.trans (congrArg bodyV (if_neg (fun x => by omega))))
            subst d1 d2 d3
            go_wp2_with fail
            refine bodyPost_ret (v := bodyV none) (by simp [results, Tryd.results16, go_sem, bodyV, rl]) rfl ⟨by rw [HW.out], ?_⟩
            exact below_set3 st3.below (Nat.le_refl _) _ _ _
          · by_cases d6 : s3.size = 8
            · have HW := Lib.hid (HV.out.symm.trans (congrArg bodyV (if_pos ⟨d1, d2, d3, by omega, by omega, d6⟩)))
              subst d1 d2 d3
              go_wp2_with fail
              refine bodyPost_ret (v := bodyV (some (n1, n2, n3))) (by simp [results, Tryd.results16, go_sem, bodyV, rl]) rfl ⟨by rw [HW.out], ?_⟩
              exact below_set3 st3.below (Nat.le_refl _) _ _ _
            · have HW := Lib.hid (HV.out.symm.trans (congrArg bodyV (if_neg (fun x => d6 x.2.2.2.2.2))))
              have d7 : ((s3.size : Int) != 8) = true := by rw [bne_iff_ne]; omega
              subst d1 d2 d3
              go_wp2_with fail
              refine bodyPost_ret (v := bodyV none) (by simp [results, Tryd.results16, go_sem, bodyV, rl]) rfl ⟨by rw [HW.out], ?_⟩
              exact below_set3 st3.below (Nat.le_refl _) _ _ _
      · have HW := Lib.hid (HV.out.symm.trans (congrArg bodyV (if_neg (fun x => d3 x.2.2.1))))
        subst d1 d2
        go_wp2_with fail
        refine bodyPost_ret (v := bodyV none) (by simp [results, Tryd.results16, go_sem, bodyV, rl]) rfl ⟨by rw [HW.out], ?_⟩
        exact below_set3 st3.below (Nat.le_refl _) _ _ _
    · have HW := Lib.hid (HV.out.symm.trans (congrArg bodyV (if_neg (fun x => d2 x.2.1))))
      subst d1
      go_wp2_with fail
      refine bodyPost_ret (v := bodyV none) (by simp [results, Tryd.results16, go_sem, bodyV, rl]) rfl ⟨by rw [HW.out], ?_⟩
      exact below_set3 st3.below (Nat.le_refl _) _ _ _
  · have HW := Lib.hid (HV.out.symm.trans (congrArg bodyV (if_neg (fun x => d1 x.1))))
    go_wp2_with fail
    refine bodyPost_ret (v := bodyV none) (by simp [results, Tryd.results16, go_sem, bodyV, rl]) rfl ⟨by rw [HW.out], ?_⟩
    exact below_set3 st3.below (Nat.le_refl _) _ _ _

set_option maxRecDepth 100000 in
set_option maxHeartbeats 4000000 in
theorem refCheck_any (a b : BitVec 64) (s : ByteArray) (hs : s.size ≤ 100000) (now : Nat) (w : World) :
    Calls Tryd.prog 14 #[kv a b, .string s, .int .u64 now] w fun e w' => e = .returned (checkV a b s now (bodyOf s.data.toList)) ∧ Below w.heap.size w w' := by
  have st0 := ((St.start w).alloc (cs := #[.int .u64 (un a), .int .u64 (un b)]) (T := 24)).alloc (cs := #[.int .u64 0, .int .i64 0, .int .u64 0]) (T := 26)
  simp only [World.size_alloc] at st0
  have HB := Lib.hid (refBody_any s hs)
  have HX := Lib.hid (fun t r u => @bodyOf_some s.data.toList t r u)
  generalize bodyOf s.data.toList = o at *
  cases o with
  | none =>
    simp only [checkV, bodyV] at *
    go_enter Tryd.func14, Tryd.ntmps14
    go_wp2_with fail
    refine (HB.out _).mono ?_
    rintro e w1 ⟨rfl, hb1⟩
    have st1 := (st0.to hb1).alloc (cs := #[.int .u64 0, .int .i64 0, .int .u64 0]) (T := 26)
    have st1' := st0.to hb1
    have rl := st1'.rules
    simp only [Rules] at rl
    clear st0 HB st1'
    go_wp2_with fail
    refine (refMint_any a b 0 0 0 (by decide) (by decide) (by decide) (by decide) _).mono ?_
    rintro e w2 ⟨rfl, hb2⟩
    have st2 := st1.to hb2
    clear st1 rl
    have hmv : mintV a b 0 0 0 = .tuple #[.string ⟨#[]⟩, .int .i64 170] := rfl
    rw [hmv]
    have rl := st2.rules
    simp only [Rules] at rl
    go_wp2_with fail
    refine bodyPost_ret (v := .tuple #[cv 0 0 0, .int .i64 170]) (by simp [results, Tryd.results14, go_sem, rl]) rfl ⟨rfl, ?_⟩
    exact below_set3 st2.below (Nat.le_succ _) _ _ _
  | some o =>
    obtain ⟨t, r, u⟩ := o
    obtain ⟨-, hr1, hr3, ht, hu⟩ := HX.out t r u rfl
    simp only [bodyV] at HB
    obtain ⟨V, hV⟩ : ∃ V, checkV a b s now (some (t, r, u)) = V := ⟨_, rfl⟩
    rw [hV]
    have HV := Lib.hid hV
    clear hV HX
    go_enter Tryd.func14, Tryd.ntmps14
    go_wp2_with fail
    refine (HB.out _).mono ?_
    rintro e w1 ⟨rfl, hb1⟩
    have st1 := (st0.to hb1).alloc (cs := #[.int .u64 t, .int .i64 r, .int .u64 u]) (T := 26)
    have st1' := st0.to hb1
    have rl := st1'.rules
    simp only [Rules] at rl
    clear st0 HB st1'
    go_wp2_with fail
    refine (refMint_any a b t r u ht (by omega) (by omega) hu _).mono ?_
    rintro e w2 ⟨rfl, hb2⟩
    have st2 := st1.to hb2
    clear st1 rl
    have hmv : mintV a b t r u = .tuple #[.string (mintB a b t r u), .int .i64 0] := by
      unfold mintV
      rw [if_pos (by omega), Int.toNat_natCast]
    rw [hmv]
    clear hmv
    have rl := st2.rules
    simp only [Rules] at rl
    have hmz := (mintB_size a b t r u).2
    by_cases c1 : mintB a b t r u = s
    · have c2 := ba_same c1
      by_cases c3 : u < now
      · have HW := Lib.hid (HV.out.symm.trans (checkV_2 c1 c3))
        clear HV c1
        go_wp2_with fail
        refine bodyPost_ret (v := .tuple #[cv 0 0 0, .int .i64 171]) (by simp [results, Tryd.results14, go_sem, rl]) rfl ⟨by rw [HW.out], ?_⟩
        exact below_set3 st2.below (Nat.le_succ _) _ _ _
      · have HW := Lib.hid (HV.out.symm.trans (checkV_3 c1 c3))
        clear HV c1
        go_wp2_with fail
        refine bodyPost_ret (v := .tuple #[cv t r u, .int .i64 0]) (by simp [results, Tryd.results14, go_sem, rl]) rfl ⟨by rw [HW.out], ?_⟩
        exact below_set3 st2.below (Nat.le_succ _) _ _ _
    · have c2 := ba_other c1
      have HW := Lib.hid (HV.out.symm.trans (checkV_1 (now := now) c1))
      clear HV c1
      go_wp2_with fail
      refine bodyPost_ret (v := .tuple #[cv 0 0 0, .int .i64 170]) (by simp [results, Tryd.results14, go_sem, rl]) rfl ⟨by rw [HW.out], ?_⟩
      exact below_set3 st2.below (Nat.le_succ _) _ _ _

end Go.Proofs.YthhoikcknfbclaaDoor
