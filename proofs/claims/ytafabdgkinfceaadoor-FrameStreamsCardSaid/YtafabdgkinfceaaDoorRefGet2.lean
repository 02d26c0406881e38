/- aviaryref02.Get, walked, at a text with bytes enough. -/
import Derived.Test.YtafabdgkinfceaaDoorRefGet
namespace Go.Proofs.YtafabdgkinfceaaDoor
open Go.RowKit Go.Shelf

set_option maxRecDepth 100000 in
set_option maxHeartbeats 1000000 in
theorem refGet_full (s : ByteArray) (b : UInt8) (t : List UInt8) (hl : s.data.toList = b :: t) (hs : s.size ≤ 9223372036854775807) (hlt : behind b.toNat ≤ t.length) (w : World) :
    Calls Tryd.prog 27 #[.string s] w fun e w' => e = .returned (getV s (getL s.data.toList)) ∧ Below w.heap.size w w' := by
  obtain ⟨hs1, hne, hb0⟩ := first_of hl
  have hb0 : s[0] = b := hb0 (by omega)
  have hbt := b.toNat_lt
  have hk8 := behind_le b
  have hvl := val_lt (t.take (behind b.toNat))
  rw [List.length_take, Nat.min_eq_left hlt] at hvl
  have hX : (s.extract 1 (1 + behind b.toNat)).data.toList = t.take (behind b.toNat) := by
    rw [ByteArray.data_extract, Array.toList_extract, hl, List.extract_eq_take_drop]
    simp
  have hX0 : (s.extract 0 (1 + behind b.toNat)).toList = b :: t.take (behind b.toNat) := by
    rw [Lib.toList_data, ByteArray.data_extract, Array.toList_extract, hl, List.extract_eq_take_drop, List.drop_zero, Nat.sub_zero, Nat.add_comm 1, List.take_succ_cons]
  have HP := Lib.hid (put_valOf b t hlt)
  have hgl := Lib.hid (show getL s.data.toList = _ by rw [hl, getL_cons, if_neg (by omega)])
  obtain ⟨g, hg⟩ : ∃ g, getL s.data.toList = g := ⟨_, rfl⟩
  rw [hg] at hgl ⊢
  clear hg
  have HX := Lib.hid hX
  have HX0 := Lib.hid hX0
  clear hX hX0
  generalize hm : val (t.take (behind b.toNat)) = m at *
  have HM := Lib.hid hm
  clear hm
  obtain ⟨n, hn⟩ : ∃ n, n = valOf b.toNat m := ⟨_, rfl⟩
  rw [← hn] at HP hgl
  have HN := Lib.hid hn
  clear hn
  go_enter Tryd.func27, Tryd.ntmps27
  go_wp2_with fail
  refine (refSize_any _ hbt _).mono ?_
  rintro e w1 ⟨rfl, hw1⟩
  obtain rfl : w = w1 := hw1.symm
  clear hw1
  have hd : ¬ ((t.length : Int) + 1 < 1 + (behind b.toNat : Int)) := by omega
  go_wp2_with fail
  refine (refSize_any _ hbt _).mono ?_
  rintro e w1 ⟨rfl, hw1⟩
  obtain rfl : w = w1 := hw1.symm
  clear hw1
  go_wp2_with fail
  refine (refNumber_any _ (by simp; omega) _).mono ?_
  rw [HX.out, HM.out]
  rintro e w1 ⟨rfl, hw1⟩
  obtain rfl : w = w1 := hw1.symm
  clear hw1 HX HM
  by_cases h1 : b.toNat ≤ 240
  · skip
    have hn' := Lib.hid (show (b.toNat : Int) = (n : Int) by rw [HN.out]; unfold valOf; rw [if_pos h1])
    have hn64 : n < 18446744073709551616 := by have := hn'.out; omega
    go_wp2_with fail
    rw [hn'.out]
    clear hn'
    by_cases hq : (put n).length = 1 + behind b.toNat
    · have hqb : ((putB n).toList == (s.extract 0 (1 + behind b.toNat)).toList) = true := by
        rw [HX0.out, Lib.toList_data]
        have := HP.out hq
        simp [putB, this]
      rw [if_neg (by simpa using hq)] at hgl
      obtain rfl := hgl.out
      clear hq hgl HP HN HX0
      obtain ⟨bl6, E6, hne6, sh6, rl, hEx, hbx, hst⟩ := (St.start w).hide
      refine region_st sh6 (by kernel_rfl) (by kernel_rfl) ?_
      clear rl
      repeat (first | go_big_quiet_step ((go_at_call 23; exact Cs.call (refPut_any _ (by omega) (by omega) _))) | quiet_step ((go_at_call 23; exact Cs.call (refPut_any _ (by omega) (by omega) _))))
      refine wpQuiet_nil ?_
      intro y
      have st6 := (hst y).out
      clear hbx hst sh6 hEx
      generalize y.W = w6 at *
      go_wp2_with fail
      obtain ⟨bl7, E7, hne7, sh7, rl, hEx, hbx, hst⟩ := st6.hide
      refine region_st sh7 (by kernel_rfl) (by kernel_rfl) ?_
      clear rl
      repeat (first | go_big_quiet_step (fail) | quiet_step (fail))
      refine wpQuiet_nil ?_
      intro y
      have st7 := (hst y).out
      clear hbx hst sh7 hEx st6
      generalize y.W = w7 at *
      go_wp2_with fail
      go_ret3
      refine ⟨?_, st7.below⟩
      show Ending.returned (.tuple #[.int .u64 (n : Int), .string (s.extract (1 + behind b.toNat) (t.length + 1)), .int .i64 0]) = _
      rw [left_ext hl _ _ rfl]
      rfl
    · have hqb : ((putB n).toList == (s.extract 0 (1 + behind b.toNat)).toList) = false := by
        rw [HX0.out, Lib.toList_data, beq_eq_false_iff_ne]
        intro e
        apply hq
        have e' : put n = b :: t.take (behind b.toNat) := by simpa [putB] using e
        rw [e', List.length_cons, List.length_take]
        omega
      rw [if_pos hq] at hgl
      obtain rfl := hgl.out
      clear hq hgl HP HN HX0
      obtain ⟨bl6, E6, hne6, sh6, rl, hEx, hbx, hst⟩ := (St.start w).hide
      refine region_st sh6 (by kernel_rfl) (by kernel_rfl) ?_
      clear rl
      repeat (first | go_big_quiet_step ((go_at_call 23; exact Cs.call (refPut_any _ (by omega) (by omega) _))) | quiet_step ((go_at_call 23; exact Cs.call (refPut_any _ (by omega) (by omega) _))))
      refine wpQuiet_nil ?_
      intro y
      have st6 := (hst y).out
      clear hbx hst sh6 hEx
      generalize y.W = w6 at *
      go_wp2_with fail
      go_ret3
      exact ⟨rfl, st6.below⟩
  by_cases h2 : b.toNat ≤ 248
  · have hm : m < 256 := by
      have e : behind b.toNat = 1 := by unfold behind; rw [if_neg h1, if_pos h2]
      rw [e] at hvl
      omega
    have hn' := Lib.hid (show 240 + 256 * ((b.toNat : Int) - 241) + (m : Int) = (n : Int) by rw [HN.out]; unfold valOf; rw [if_neg h1, if_pos h2]; omega)
    have hn64 : n < 18446744073709551616 := by have := hn'.out; omega
    go_wp2_with fail
    rw [hn'.out]
    clear hn'
    by_cases hq : (put n).length = 1 + behind b.toNat
    · have hqb : ((putB n).toList == (s.extract 0 (1 + behind b.toNat)).toList) = true := by
        rw [HX0.out, Lib.toList_data]
        have := HP.out hq
        simp [putB, this]
      rw [if_neg (by simpa using hq)] at hgl
      obtain rfl := hgl.out
      clear hq hgl HP HN HX0
      obtain ⟨bl6, E6, hne6, sh6, rl, hEx, hbx, hst⟩ := (St.start w).hide
      refine region_st sh6 (by kernel_rfl) (by kernel_rfl) ?_
      clear rl
      repeat (first | go_big_quiet_step ((go_at_call 23; exact Cs.call (refPut_any _ (by omega) (by omega) _))) | quiet_step ((go_at_call 23; exact Cs.call (refPut_any _ (by omega) (by omega) _))))
      refine wpQuiet_nil ?_
      intro y
      have st6 := (hst y).out
      clear hbx hst sh6 hEx
      generalize y.W = w6 at *
      go_wp2_with fail
      obtain ⟨bl7, E7, hne7, sh7, rl, hEx, hbx, hst⟩ := st6.hide
      refine region_st sh7 (by kernel_rfl) (by kernel_rfl) ?_
      clear rl
      repeat (first | go_big_quiet_step (fail) | quiet_step (fail))
      refine wpQuiet_nil ?_
      intro y
      have st7 := (hst y).out
      clear hbx hst sh7 hEx st6
      generalize y.W = w7 at *
      go_wp2_with fail
      go_ret3
      refine ⟨?_, st7.below⟩
      show Ending.returned (.tuple #[.int .u64 (n : Int), .string (s.extract (1 + behind b.toNat) (t.length + 1)), .int .i64 0]) = _
      rw [left_ext hl _ _ rfl]
      rfl
    · have hqb : ((putB n).toList == (s.extract 0 (1 + behind b.toNat)).toList) = false := by
        rw [HX0.out, Lib.toList_data, beq_eq_false_iff_ne]
        intro e
        apply hq
        have e' : put n = b :: t.take (behind b.toNat) := by simpa [putB] using e
        rw [e', List.length_cons, List.length_take]
        omega
      rw [if_pos hq] at hgl
      obtain rfl := hgl.out
      clear hq hgl HP HN HX0
      obtain ⟨bl6, E6, hne6, sh6, rl, hEx, hbx, hst⟩ := (St.start w).hide
      refine region_st sh6 (by kernel_rfl) (by kernel_rfl) ?_
      clear rl
      repeat (first | go_big_quiet_step ((go_at_call 23; exact Cs.call (refPut_any _ (by omega) (by omega) _))) | quiet_step ((go_at_call 23; exact Cs.call (refPut_any _ (by omega) (by omega) _))))
      refine wpQuiet_nil ?_
      intro y
      have st6 := (hst y).out
      clear hbx hst sh6 hEx
      generalize y.W = w6 at *
      go_wp2_with fail
      go_ret3
      exact ⟨rfl, st6.below⟩
  by_cases h3 : b.toNat = 249
  · have hm : m < 65536 := by
      have e : behind b.toNat = 2 := by unfold behind; rw [if_neg h1, if_neg h2, if_pos h3]
      rw [e] at hvl
      omega
    have H3 : ((b.toNat : Int) == 249) = true := by simp; omega
    have HH3 := Lib.hid h3
    clear h3
    have hn' := Lib.hid (show 2288 + (m : Int) = (n : Int) by rw [HN.out]; unfold valOf; rw [if_neg h1, if_neg h2, if_pos HH3.out]; omega)
    have hn64 : n < 18446744073709551616 := by have := hn'.out; omega
    go_wp2_with fail
    rw [hn'.out]
    clear hn'
    by_cases hq : (put n).length = 1 + behind b.toNat
    · have hqb : ((putB n).toList == (s.extract 0 (1 + behind b.toNat)).toList) = true := by
        rw [HX0.out, Lib.toList_data]
        have := HP.out hq
        simp [putB, this]
      rw [if_neg (by simpa using hq)] at hgl
      obtain rfl := hgl.out
      clear hq hgl HP HN HX0
      obtain ⟨bl6, E6, hne6, sh6, rl, hEx, hbx, hst⟩ := (St.start w).hide
      refine region_st sh6 (by kernel_rfl) (by kernel_rfl) ?_
      clear rl
      repeat (first | go_big_quiet_step ((go_at_call 23; exact Cs.call (refPut_any _ (by omega) (by omega) _))) | quiet_step ((go_at_call 23; exact Cs.call (refPut_any _ (by omega) (by omega) _))))
      refine wpQuiet_nil ?_
      intro y
      have st6 := (hst y).out
      clear hbx hst sh6 hEx
      generalize y.W = w6 at *
      go_wp2_with fail
      obtain ⟨bl7, E7, hne7, sh7, rl, hEx, hbx, hst⟩ := st6.hide
      refine region_st sh7 (by kernel_rfl) (by kernel_rfl) ?_
      clear rl
      repeat (first | go_big_quiet_step (fail) | quiet_step (fail))
      refine wpQuiet_nil ?_
      intro y
      have st7 := (hst y).out
      clear hbx hst sh7 hEx st6
      generalize y.W = w7 at *
      go_wp2_with fail
      go_ret3
      refine ⟨?_, st7.below⟩
      show Ending.returned (.tuple #[.int .u64 (n : Int), .string (s.extract (1 + behind b.toNat) (t.length + 1)), .int .i64 0]) = _
      rw [left_ext hl _ _ rfl]
      rfl
    · have hqb : ((putB n).toList == (s.extract 0 (1 + behind b.toNat)).toList) = false := by
        rw [HX0.out, Lib.toList_data, beq_eq_false_iff_ne]
        intro e
        apply hq
        have e' : put n = b :: t.take (behind b.toNat) := by simpa [putB] using e
        rw [e', List.length_cons, List.length_take]
        omega
      rw [if_pos hq] at hgl
      obtain rfl := hgl.out
      clear hq hgl HP HN HX0
      obtain ⟨bl6, E6, hne6, sh6, rl, hEx, hbx, hst⟩ := (St.start w).hide
      refine region_st sh6 (by kernel_rfl) (by kernel_rfl) ?_
      clear rl
      repeat (first | go_big_quiet_step ((go_at_call 23; exact Cs.call (refPut_any _ (by omega) (by omega) _))) | quiet_step ((go_at_call 23; exact Cs.call (refPut_any _ (by omega) (by omega) _))))
      refine wpQuiet_nil ?_
      intro y
      have st6 := (hst y).out
      clear hbx hst sh6 hEx
      generalize y.W = w6 at *
      go_wp2_with fail
      go_ret3
      exact ⟨rfl, st6.below⟩
  · have hm : m < 18446744073709551616 := Nat.lt_of_lt_of_le hvl (Nat.le_trans (Nat.pow_le_pow_right (by decide) hk8) (by decide))
    have H3 : ((b.toNat : Int) == 249) = false := by simp; omega
    have hn' := Lib.hid (show (m : Int) = (n : Int) by rw [HN.out]; unfold valOf; rw [if_neg h1, if_neg h2, if_neg h3])
    have hn64 : n < 18446744073709551616 := by have := hn'.out; omega
    go_wp2_with fail
    rw [hn'.out]
    clear hn'
    by_cases hq : (put n).length = 1 + behind b.toNat
    · have hqb : ((putB n).toList == (s.extract 0 (1 + behind b.toNat)).toList) = true := by
        rw [HX0.out, Lib.toList_data]
        have := HP.out hq
        simp [putB, this]
      rw [if_neg (by simpa using hq)] at hgl
      obtain rfl := hgl.out
      clear hq hgl HP HN HX0
      obtain ⟨bl6, E6, hne6, sh6, rl, hEx, hbx, hst⟩ := (St.start w).hide
      refine region_st sh6 (by kernel_rfl) (by kernel_rfl) ?_
      clear rl
      repeat (first | go_big_quiet_step ((go_at_call 23; exact Cs.call (refPut_any _ (by omega) (by omega) _))) | quiet_step ((go_at_call 23; exact Cs.call (refPut_any _ (by omega) (by omega) _))))
      refine wpQuiet_nil ?_
      intro y
      have st6 := (hst y).out
      clear hbx hst sh6 hEx
      generalize y.W = w6 at *
      go_wp2_with fail
      obtain ⟨bl7, E7, hne7, sh7, rl, hEx, hbx, hst⟩ := st6.hide
      refine region_st sh7 (by kernel_rfl) (by kernel_rfl) ?_
      clear rl
      repeat (first | go_big_quiet_step (fail) | quiet_step (fail))
      refine wpQuiet_nil ?_
      intro y
      have st7 := (hst y).out
      clear hbx hst sh7 hEx st6
      generalize y.W = w7 at *
      go_wp2_with fail
      go_ret3
      refine ⟨?_, st7.below⟩
      show Ending.returned (.tuple #[.int .u64 (n : Int), .string (s.extract (1 + behind b.toNat) (t.length + 1)), .int .i64 0]) = _
      rw [left_ext hl _ _ rfl]
      rfl
    · have hqb : ((putB n).toList == (s.extract 0 (1 + behind b.toNat)).toList) = false := by
        rw [HX0.out, Lib.toList_data, beq_eq_false_iff_ne]
        intro e
        apply hq
        have e' : put n = b :: t.take (behind b.toNat) := by simpa [putB] using e
        rw [e', List.length_cons, List.length_take]
        omega
      rw [if_pos hq] at hgl
      obtain rfl := hgl.out
      clear hq hgl HP HN HX0
      obtain ⟨bl6, E6, hne6, sh6, rl, hEx, hbx, hst⟩ := (St.start w).hide
      refine region_st sh6 (by kernel_rfl) (by kernel_rfl) ?_
      clear rl
      repeat (first | go_big_quiet_step ((go_at_call 23; exact Cs.call (refPut_any _ (by omega) (by omega) _))) | quiet_step ((go_at_call 23; exact Cs.call (refPut_any _ (by omega) (by omega) _))))
      refine wpQuiet_nil ?_
      intro y
      have st6 := (hst y).out
      clear hbx hst sh6 hEx
      generalize y.W = w6 at *
      go_wp2_with fail
      go_ret3
      exact ⟨rfl, st6.below⟩

theorem refGet_any (s : ByteArray) (hs : s.size ≤ 9223372036854775807) (w : World) :
    Calls Tryd.prog 27 #[.string s] w fun e w' => e = .returned (getV s (getL s.data.toList)) ∧ Below w.heap.size w w' := by
  cases hl : s.data.toList with
  | nil =>
    obtain rfl : s = ⟨#[]⟩ := by
      cases s with | mk d => cases d with | mk l => simp at hl; rw [hl]
    exact refGet_empty w
  | cons b t =>
    by_cases hlt : t.length < behind b.toNat
    · have e : getL (b :: t) = .more := by rw [getL_cons, if_pos hlt]
      rw [e]
      exact refGet_short s b t hl hs hlt w
    · have := refGet_full s b t hl hs (by omega) w
      rw [hl] at this
      exact this

end Go.Proofs.YtafabdgkinfceaaDoor
