/- (*field.reader).number, walked, at a text with bytes enough. -/
import Derived.Test.YtafabdgkinfceaaDoorNumber2
import Derived.Test.YtafabdgkinfceaaDoorRangeSt
namespace Go.Proofs.YtafabdgkinfceaaDoor
open Go.RowKit Go.Shelf

attribute [local go_sem] bits_or wrap_shl wrap_un_id Oper.semAt_some
set_option maxRecDepth 100000 in
set_option maxHeartbeats 1000000 in
theorem number_full {p q : Addr} {w : World} (h : Sents p q w) (R : Nat) (s : ByteArray) (b : UInt8) (t : List UInt8) (hl : s.data.toList = b :: t) (hs : s.size ≤ 9223372036854775807) (hlt : behind b.toNat ≤ t.length)
    (hR : w.heap[R]? = some (.cells #[.string s] 77 (0, 0))) :
    Calls Tryd.prog 38 #[.pointer (some ⟨R, 0, none⟩)] w (Reads w R (numV p q (getL s.data.toList)) (leftOf s (getL s.data.toList))) := by
  have hs1 : s.size = t.length + 1 := by
    have : s.data.toList.length = s.size := by simp
    rw [hl] at this
    simpa using this.symm
  have hne : s.toList.isEmpty = false := by rw [Lib.toList_data, hl]; rfl
  have hd : decide (t.length < behind b.toNat) = false := decide_eq_false (by omega)
  have hb0 : s[0] = b := by
    have := congrArg (fun l => l[0]?) hl
    simpa [ByteArray.getElem_eq_getElem_data, Array.getElem?_eq_getElem (show 0 < s.data.size by rw [ByteArray.size_data]; omega)] using this
  have st0 := St.start1E hR h Sents.keep
  refine (callsIn_wide (n := 5)).1 ?_
  refine callsIn_of_wp_marks Tryd.func38 rfl trivial ?_ rfl
  simp only [Tryd.ntmps38, List.size_toArray, List.length_cons, List.length_nil, Nat.reduceAdd, Nat.reduceSub, Array.replicate_succ, Array.replicate_zero, List.push_toArray, List.append_toArray, List.nil_append, List.cons_append]
  refine wpIn_wide.2 ?_
  have rl := st0.rules
  simp only [Rules] at rl
  go_wp2_with fail
  refine wp_scope_straight ?_
  go_wp2_with fail
  refine (behind_at _ _).mono ?_
  rintro e w1 ⟨rfl, hw1⟩
  obtain rfl : w = w1 := hw1.symm
  go_wp2_with fail
  clear rl
  have st1 := st0.alloc (cs := #[.int .i64 (behind b.toNat : Int)]) (T := 3)
  obtain ⟨bl1, E1, hne1, sh1, rl, hEx, hbx, hst⟩ := st1.hide
  refine region_st sh1 (by kernel_rfl) (by kernel_rfl) ?_
  simp only [Rules] at rl
  repeat (first | go_big_quiet_step (fail) | quiet_step (fail))
  refine wpQuiet_nil ?_
  intro y
  have st2 := (hst y).out
  clear hbx rl hst sh1 hEx st1
  generalize y.W = w2 at *
  have rl := st2.rules
  simp only [Rules] at rl
  go_wp2_with fail
  refine wp_label ?_
  go_wp2_with fail
  refine (octets_any _ _).mono ?_
  rintro e w3 ⟨rfl, rfl⟩
  go_wp2_with fail
  have st4 := ((st2.lessE (F := fun _ => True) trivial (fun _ _ _ _ => trivial)).alloc (cs := #[.int .u64 (un (valV (([] : List (Nat × UInt8)).map Prod.snd)))]) (T := 44)).alloc (cs := #[.string (s.extract 1 (t.length + 1))]) (T := 9)
  have hs4 := Lib.hid (show ((w2.alloc (Obj.cells #[Value.int IntKind.u64 0] 44)).alloc (Obj.cells #[Value.string (s.extract 1 (t.length + 1))] 9)).heap.size = w2.heap.size + 2 by simp)
  rw [World.size_alloc] at st4
  change St w _ _ ((w2.alloc (Obj.cells #[Value.int IntKind.u64 0] 44)).alloc (Obj.cells #[Value.string (s.extract 1 (t.length + 1))] 9)) at st4
  have hwB : w.heap.size + 1 ≤ w2.heap.size := rl.2.2.1
  have hRB : R < w2.heap.size := rl.2.2.2.2.2.1
  clear rl st2
  generalize (w2.alloc (Obj.cells #[Value.int IntKind.u64 0] 44)).alloc (Obj.cells #[Value.string (s.extract 1 (t.length + 1))] 9) = w3 at *
  generalize w2.heap.size = B at *
  have hX : (s.extract 1 (t.length + 1)).data.toList = t := by
    rw [ByteArray.data_extract, Array.toList_extract, hl]
    simp
  generalize s.extract 1 (t.length + 1) = s1 at *
  have hs1' : s1.size = t.length := by rw [← hX]; simp
  refine (wpIn_wide (n := 5)).1 (wpIn_rangeFunc_ownF (n := 5) rfl (by omega) (gf := 50) (lb := #[.pointer (some ⟨B + 1, 0, none⟩)]) rfl trivial (enters_of Tryd.func50 (by kernel_rfl) rfl)
    (octets_stops 4 (by omega) (B + 1) s1 (by omega) w3 (by rw [hs4.out]; omega) ((st4.rules.1 0).trans rfl)) (fun h k => k.trans h) ?kb (Below.refl _ _) (fun _ => rfl)
    (fun (pre : List (Nat × UInt8)) W => (∀ y ∈ pre, y.1 ≠ behind b.toNat) ∧ St w [(B + 1, #[.string s1], 9), (B, #[.int .u64 (un (valV (pre.map Prod.snd)))], 44), (w.heap.size, #[.int .i64 (behind b.toNat : Int)], 3), (R, #[.string s], 77)] (fun _ => True) W)
    (fun c pre W => c = .exit 0 ∧ ∃ (pr : List (Nat × UInt8)) (x : Nat × UInt8), pre = pr ++ [x] ∧ x.1 = behind b.toNat ∧ St w [(B + 1, #[.string s1], 9), (B, #[.int .u64 (un (valV (pr.map Prod.snd)))], 44), (w.heap.size, #[.int .i64 (behind b.toNat : Int)], 3), (R, #[.string s], 77)] (fun _ => True) W)
    (fun s A B row hs hg hr => ⟨hs.1, hs.2.own hg hr (by rw [hs4.out]; omega)⟩)
    (fun c s A B row hs hg hr => by
      obtain ⟨e, pr, x, e1, e2, hs⟩ := hs
      exact ⟨e, pr, x, e1, e2, hs.own hg hr (by rw [hs4.out]; omega)⟩)
    ⟨by simp, st4⟩
    ?a1 ?assign ?body ?done ?stop)
  case kb =>
    intro W l o o' hl h hc _
    exact World.cell?_of_block (w := W) ((grownBy_putObj' W l o').block (B + 1) (by have := (Array.getElem?_eq_some_iff.1 h).1; rw [hs4.out] at hl; omega) (fun e => by rw [hs4.out] at hl; simp at e; omega))
  case assign =>
    intro l x W K hK
    gi_wp2
    exact hK
  case body =>
    rintro l pre ⟨i, c⟩ W ⟨hpre, st⟩ _
    have rl := st.rules
    simp only [Rules] at rl
    have hgo := grownBy_setOne W B 0 (.int .u64 (un (valV ((pre ++ [(i, c)]).map Prod.snd))))
    have hko := keepsOthers_of (st.blk _ (List.mem_of_getElem? (i := 1) rfl)) hgo
    have hkc := Lib.hid (World.cell?_of_block (w := W) (a := ⟨B + 1, 0, none⟩) (hgo.block (B + 1) rl.2.2.1 (by simp)))
    have st' := st.setT 1 rfl (o := 0) (v := .int .u64 (un (valV ((pre ++ [(i, c)]).map Prod.snd)))) (by omega)
    have HV : Hid (un (valV ((pre ++ [(i, c)]).map Prod.snd)) = bits .or .u64 (IntKind.u64.wrap (un (valV (pre.map Prod.snd)) * 256)) (IntKind.u64.wrap (c.toNat : Int))) := by
      show _ = _
      rw [or_step, List.map_append, List.map_singleton, valV_snoc]
    simp only [setB, List.modify_succ_cons, List.modify_zero_cons, List.setIfInBounds_toArray, List.set_cons_zero] at st'
    by_cases hi : i = behind b.toNat
    · clear hgo hko hkc st' HV
      have hic : ((i : Int) == (behind b.toNat : Int)) = true := by simp [hi]
      have HI := Lib.hid hi
      clear hi
      gi_wp2_with fail
      exact ⟨KeepsOthers.refl W, rfl, pre, (i, c), rfl, HI.out, st⟩
    · have hic : ((i : Int) == (behind b.toNat : Int)) = false := by simp; omega
      gi_wp2_with fail
      rw [← HV.out]
      exact ⟨hko, hkc.out, fun y hy => (List.mem_append.1 hy).elim (hpre y) (fun h => by simp at h; rw [h]; exact hi), st'⟩
  case done =>
    rintro D ys W hD rfl ⟨hpre, st⟩ hK
    rw [octs_snd, hX, show t = t.take (behind b.toNat) by rw [List.take_of_length_le]; have := octs_all hpre; omega] at st
    clear hpre st4
    have HT : Hid (Sents p q W) := h.below (Nat.le_refl _) st.below
    have hk8 := behind_le b
    have hvl := val_lt (t.take (behind b.toNat))
    rw [List.length_take, Nat.min_eq_left hlt] at hvl
    have hbt := b.toNat_lt
    rw [un_valV _ (by rw [List.length_take]; omega)] at st
    have st := st.lessE (F := fun W => W.heap[D]? = some (.deferred (some []))) hK (fun _ _ h hb => (hb.block D (blk_lt h)).trans h)
    have hgl : Hid (getL s.data.toList = if (put (valOf b.toNat (val (t.take (behind b.toNat))))).length ≠ 1 + behind b.toNat then .field
        else .ok (valOf b.toNat (val (t.take (behind b.toNat)))) (t.drop (behind b.toNat))) := by
      show _ = _
      rw [hl]
      show (if t.length < behind b.toNat then Got.more else _) = _
      rw [if_neg (by omega)]
    generalize val (t.take (behind b.toNat)) = m at *
    have rl := st.rules
    simp only [Rules] at rl
    obtain ⟨n, hn⟩ : ∃ n, n = valOf b.toNat m := ⟨_, rfl⟩
    have HN := Lib.hid hn
    clear hn
    by_cases h1 : b.toNat ≤ 240
    · skip
      have hn' := Lib.hid (show (b.toNat : Int) = (n : Int) by rw [HN.out]; unfold valOf; rw [if_pos h1])
      have hn64 : n < 18446744073709551616 := by have := hn'.out; omega
      go_wp2_with fail
      have st5 := st.set 1 rfl (o := 0) (v := .int .u64 ((b.toNat : Int))) (by omega) (fun h => (Below.heap_setCell _ _ _ _ (by have := hs4.out; show D ≠ B; omega)).trans h)
      simp only [setB, List.modify_succ_cons, List.modify_zero_cons, List.setIfInBounds_toArray, List.set_cons_zero] at st5
      generalize W.setCell ⟨B, 0, none⟩ (.int .u64 ((b.toNat : Int))) = W5 at *
      rw [hn'.out] at st5
      clear hn'
      rw [← HN.out] at hgl
      clear rl st HN
      have hput := Lib.hid (putB_len n)
      by_cases hq : (putB n).size = 1 + behind b.toNat
      · have hqb : (((putB n).size : Int) != 1 + (behind b.toNat : Int)) = false := by rw [hq]; simp
        have HG : Hid (getL s.data.toList = .ok n (t.drop (behind b.toNat))) := by show _ = _; rw [hgl.out, if_neg (by rw [← hput.out, hq]; simp)]
        clear hq hgl hput
        obtain ⟨bl6, E6, hne6, sh6, rl, hEx, hbx, hst⟩ := st5.hide
        refine region_st sh6 (by kernel_rfl) (by kernel_rfl) ?_
        simp only [Rules] at rl
        repeat (first | go_big_quiet_step ((go_at_call 22; exact Cs.call (put_any _ (by omega) (by omega) _))) | quiet_step ((go_at_call 22; exact Cs.call (put_any _ (by omega) (by omega) _))))
        refine wpQuiet_nil ?_
        intro y
        have st6 := (hst y).out
        clear hbx rl hst sh6 hEx st5
        generalize y.W = w6 at *
        go_wp2_with fail
        obtain ⟨bl7, E7, hne7, sh7, rl, hEx, hbx, hst⟩ := st6.hide
        refine region_st_tail sh7 12 (by kernel_rfl) (by kernel_rfl) ?_
        simp only [List.take_succ_cons, List.take_zero, List.drop_succ_cons, List.drop_zero]
        simp only [Rules] at rl
        repeat (first | go_big_quiet_step (fail) | quiet_step (fail))
        refine wpQuiet_nil ?_
        intro y
        have st7 := (hst y).out
        clear hbx rl hst sh7 hEx st6
        generalize y.W = w7 at *
        have rl := st7.rules
        simp only [Rules] at rl
        have hBR : B ≠ R := by omega
        go_wp2_with fail
        have hD7 : (w7.setCell ⟨R, 0, none⟩ (.string (s.extract (1 + behind b.toNat) (t.length + 1)))).heap[D]? = some (.deferred (some [])) := (Below.heap_setCell _ _ _ _ (by have := hs4.out; show D ≠ R; omega)).trans st7.ex
        refine ⟨by simp, .inl ⟨_, _, rfl, run_takeDeferred hD7, ?_⟩⟩
        rw [HG.out]
        exact ⟨_, results_tmp2 (t := 2) (u := 3) rfl _ _ _, reads_ok st7.below (st7.blk _ (List.mem_of_getElem? (i := 3) rfl)) (left_ext hl _ _ rfl) (by have := hs4.out; omega) (by have := hs4.out; omega)⟩
      · have hqb : (((putB n).size : Int) != 1 + (behind b.toNat : Int)) = true := by simp; omega
        have HG : Hid (getL s.data.toList = .field) := by show _ = _; rw [hgl.out, if_pos (by rw [← hput.out]; exact hq)]
        clear hq hgl hput
        obtain ⟨bl6, E6, hne6, sh6, rl, hEx, hbx, hst⟩ := st5.hide
        refine region_st sh6 (by kernel_rfl) (by kernel_rfl) ?_
        simp only [Rules] at rl
        repeat (first | go_big_quiet_step ((go_at_call 22; exact Cs.call (put_any _ (by omega) (by omega) _))) | quiet_step ((go_at_call 22; exact Cs.call (put_any _ (by omega) (by omega) _))))
        refine wpQuiet_nil ?_
        intro y
        have st6 := (hst y).out
        clear hbx rl hst sh6 hEx st5
        generalize y.W = w6 at *
        go_wp2_with fail
        obtain ⟨bl7, E7, hne7, sh7, rl, hEx, hbx, hst⟩ := st6.hide
        have hm : ∀ x : Cs w bl7 E7, x.W.cell? ⟨2, 0, none⟩ = some (.iface 117 (.pointer (some q))) := fun x => (h.below (Nat.le_refl _) (hbx x).out).field
        refine region_st sh7 (by kernel_rfl) (by kernel_rfl) ?_
        clear rl
        repeat (first | go_big_quiet_step (fail) | quiet_step (fail))
        refine wpQuiet_nil ?_
        intro y
        have st7 := (hst y).out
        clear hbx hst sh7 hEx st6 hm
        generalize y.W = w7 at *
        go_wp2_with fail
        refine ⟨by simp, .inl ⟨_, _, rfl, run_takeDeferred st7.ex, ?_⟩⟩
        rw [HG.out]
        exact ⟨_, results_tmp2 (t := 2) (u := 3) rfl _ _ _, reads_no st7.below (st7.blk _ (List.mem_of_getElem? (i := 3) rfl)) (by have := hs4.out; omega) (by have := hs4.out; omega)⟩
    by_cases h2 : b.toNat ≤ 248
    · have hm : m < 256 := by
        have e : behind b.toNat = 1 := by unfold behind; rw [if_neg h1, if_pos h2]
        rw [e] at hvl
        omega
      have hn' := Lib.hid (show (m : Int) + (240 + 256 * ((b.toNat : Int) - 241)) = (n : Int) by rw [HN.out]; unfold valOf; rw [if_neg h1, if_pos h2]; omega)
      have hn64 : n < 18446744073709551616 := by have := hn'.out; omega
      go_wp2_with fail
      have st5 := st.set 1 rfl (o := 0) (v := .int .u64 ((m : Int) + (240 + 256 * ((b.toNat : Int) - 241)))) (by omega) (fun h => (Below.heap_setCell _ _ _ _ (by have := hs4.out; show D ≠ B; omega)).trans h)
      simp only [setB, List.modify_succ_cons, List.modify_zero_cons, List.setIfInBounds_toArray, List.set_cons_zero] at st5
      generalize W.setCell ⟨B, 0, none⟩ (.int .u64 ((m : Int) + (240 + 256 * ((b.toNat : Int) - 241)))) = W5 at *
      rw [hn'.out] at st5
      clear hn'
      rw [← HN.out] at hgl
      clear rl st HN
      have hput := Lib.hid (putB_len n)
      by_cases hq : (putB n).size = 1 + behind b.toNat
      · have hqb : (((putB n).size : Int) != 1 + (behind b.toNat : Int)) = false := by rw [hq]; simp
        have HG : Hid (getL s.data.toList = .ok n (t.drop (behind b.toNat))) := by show _ = _; rw [hgl.out, if_neg (by rw [← hput.out, hq]; simp)]
        clear hq hgl hput
        obtain ⟨bl6, E6, hne6, sh6, rl, hEx, hbx, hst⟩ := st5.hide
        refine region_st sh6 (by kernel_rfl) (by kernel_rfl) ?_
        simp only [Rules] at rl
        repeat (first | go_big_quiet_step ((go_at_call 22; exact Cs.call (put_any _ (by omega) (by omega) _))) | quiet_step ((go_at_call 22; exact Cs.call (put_any _ (by omega) (by omega) _))))
        refine wpQuiet_nil ?_
        intro y
        have st6 := (hst y).out
        clear hbx rl hst sh6 hEx st5
        generalize y.W = w6 at *
        go_wp2_with fail
        obtain ⟨bl7, E7, hne7, sh7, rl, hEx, hbx, hst⟩ := st6.hide
        refine region_st_tail sh7 12 (by kernel_rfl) (by kernel_rfl) ?_
        simp only [List.take_succ_cons, List.take_zero, List.drop_succ_cons, List.drop_zero]
        simp only [Rules] at rl
        repeat (first | go_big_quiet_step (fail) | quiet_step (fail))
        refine wpQuiet_nil ?_
        intro y
        have st7 := (hst y).out
        clear hbx rl hst sh7 hEx st6
        generalize y.W = w7 at *
        have rl := st7.rules
        simp only [Rules] at rl
        have hBR : B ≠ R := by omega
        go_wp2_with fail
        have hD7 : (w7.setCell ⟨R, 0, none⟩ (.string (s.extract (1 + behind b.toNat) (t.length + 1)))).heap[D]? = some (.deferred (some [])) := (Below.heap_setCell _ _ _ _ (by have := hs4.out; show D ≠ R; omega)).trans st7.ex
        refine ⟨by simp, .inl ⟨_, _, rfl, run_takeDeferred hD7, ?_⟩⟩
        rw [HG.out]
        exact ⟨_, results_tmp2 (t := 2) (u := 3) rfl _ _ _, reads_ok st7.below (st7.blk _ (List.mem_of_getElem? (i := 3) rfl)) (left_ext hl _ _ rfl) (by have := hs4.out; omega) (by have := hs4.out; omega)⟩
      · have hqb : (((putB n).size : Int) != 1 + (behind b.toNat : Int)) = true := by simp; omega
        have HG : Hid (getL s.data.toList = .field) := by show _ = _; rw [hgl.out, if_pos (by rw [← hput.out]; exact hq)]
        clear hq hgl hput
        obtain ⟨bl6, E6, hne6, sh6, rl, hEx, hbx, hst⟩ := st5.hide
        refine region_st sh6 (by kernel_rfl) (by kernel_rfl) ?_
        simp only [Rules] at rl
        repeat (first | go_big_quiet_step ((go_at_call 22; exact Cs.call (put_any _ (by omega) (by omega) _))) | quiet_step ((go_at_call 22; exact Cs.call (put_any _ (by omega) (by omega) _))))
        refine wpQuiet_nil ?_
        intro y
        have st6 := (hst y).out
        clear hbx rl hst sh6 hEx st5
        generalize y.W = w6 at *
        go_wp2_with fail
        obtain ⟨bl7, E7, hne7, sh7, rl, hEx, hbx, hst⟩ := st6.hide
        have hm : ∀ x : Cs w bl7 E7, x.W.cell? ⟨2, 0, none⟩ = some (.iface 117 (.pointer (some q))) := fun x => (h.below (Nat.le_refl _) (hbx x).out).field
        refine region_st sh7 (by kernel_rfl) (by kernel_rfl) ?_
        clear rl
        repeat (first | go_big_quiet_step (fail) | quiet_step (fail))
        refine wpQuiet_nil ?_
        intro y
        have st7 := (hst y).out
        clear hbx hst sh7 hEx st6 hm
        generalize y.W = w7 at *
        go_wp2_with fail
        refine ⟨by simp, .inl ⟨_, _, rfl, run_takeDeferred st7.ex, ?_⟩⟩
        rw [HG.out]
        exact ⟨_, results_tmp2 (t := 2) (u := 3) rfl _ _ _, reads_no st7.below (st7.blk _ (List.mem_of_getElem? (i := 3) rfl)) (by have := hs4.out; omega) (by have := hs4.out; omega)⟩
    by_cases h3 : b.toNat = 249
    · have hm : m < 65536 := by
        have e : behind b.toNat = 2 := by unfold behind; rw [if_neg h1, if_neg h2, if_pos h3]
        rw [e] at hvl
        omega
      have H3 : ((b.toNat : Int) == 249) = true := by simp; omega
      have HH3 := Lib.hid h3
      clear h3
      have hn' := Lib.hid (show (m : Int) + 2288 = (n : Int) by rw [HN.out]; unfold valOf; rw [if_neg h1, if_neg h2, if_pos HH3.out]; omega)
      have hn64 : n < 18446744073709551616 := by have := hn'.out; omega
      go_wp2_with fail
      have st5 := st.set 1 rfl (o := 0) (v := .int .u64 ((m : Int) + 2288)) (by omega) (fun h => (Below.heap_setCell _ _ _ _ (by have := hs4.out; show D ≠ B; omega)).trans h)
      simp only [setB, List.modify_succ_cons, List.modify_zero_cons, List.setIfInBounds_toArray, List.set_cons_zero] at st5
      generalize W.setCell ⟨B, 0, none⟩ (.int .u64 ((m : Int) + 2288)) = W5 at *
      rw [hn'.out] at st5
      clear hn'
      rw [← HN.out] at hgl
      clear rl st HN
      have hput := Lib.hid (putB_len n)
      by_cases hq : (putB n).size = 1 + behind b.toNat
      · have hqb : (((putB n).size : Int) != 1 + (behind b.toNat : Int)) = false := by rw [hq]; simp
        have HG : Hid (getL s.data.toList = .ok n (t.drop (behind b.toNat))) := by show _ = _; rw [hgl.out, if_neg (by rw [← hput.out, hq]; simp)]
        clear hq hgl hput
        obtain ⟨bl6, E6, hne6, sh6, rl, hEx, hbx, hst⟩ := st5.hide
        refine region_st sh6 (by kernel_rfl) (by kernel_rfl) ?_
        simp only [Rules] at rl
        repeat (first | go_big_quiet_step ((go_at_call 22; exact Cs.call (put_any _ (by omega) (by omega) _))) | quiet_step ((go_at_call 22; exact Cs.call (put_any _ (by omega) (by omega) _))))
        refine wpQuiet_nil ?_
        intro y
        have st6 := (hst y).out
        clear hbx rl hst sh6 hEx st5
        generalize y.W = w6 at *
        go_wp2_with fail
        obtain ⟨bl7, E7, hne7, sh7, rl, hEx, hbx, hst⟩ := st6.hide
        refine region_st_tail sh7 12 (by kernel_rfl) (by kernel_rfl) ?_
        simp only [List.take_succ_cons, List.take_zero, List.drop_succ_cons, List.drop_zero]
        simp only [Rules] at rl
        repeat (first | go_big_quiet_step (fail) | quiet_step (fail))
        refine wpQuiet_nil ?_
        intro y
        have st7 := (hst y).out
        clear hbx rl hst sh7 hEx st6
        generalize y.W = w7 at *
        have rl := st7.rules
        simp only [Rules] at rl
        have hBR : B ≠ R := by omega
        go_wp2_with fail
        have hD7 : (w7.setCell ⟨R, 0, none⟩ (.string (s.extract (1 + behind b.toNat) (t.length + 1)))).heap[D]? = some (.deferred (some [])) := (Below.heap_setCell _ _ _ _ (by have := hs4.out; show D ≠ R; omega)).trans st7.ex
        refine ⟨by simp, .inl ⟨_, _, rfl, run_takeDeferred hD7, ?_⟩⟩
        rw [HG.out]
        exact ⟨_, results_tmp2 (t := 2) (u := 3) rfl _ _ _, reads_ok st7.below (st7.blk _ (List.mem_of_getElem? (i := 3) rfl)) (left_ext hl _ _ rfl) (by have := hs4.out; omega) (by have := hs4.out; omega)⟩
      · have hqb : (((putB n).size : Int) != 1 + (behind b.toNat : Int)) = true := by simp; omega
        have HG : Hid (getL s.data.toList = .field) := by show _ = _; rw [hgl.out, if_pos (by rw [← hput.out]; exact hq)]
        clear hq hgl hput
        obtain ⟨bl6, E6, hne6, sh6, rl, hEx, hbx, hst⟩ := st5.hide
        refine region_st sh6 (by kernel_rfl) (by kernel_rfl) ?_
        simp only [Rules] at rl
        repeat (first | go_big_quiet_step ((go_at_call 22; exact Cs.call (put_any _ (by omega) (by omega) _))) | quiet_step ((go_at_call 22; exact Cs.call (put_any _ (by omega) (by omega) _))))
        refine wpQuiet_nil ?_
        intro y
        have st6 := (hst y).out
        clear hbx rl hst sh6 hEx st5
        generalize y.W = w6 at *
        go_wp2_with fail
        obtain ⟨bl7, E7, hne7, sh7, rl, hEx, hbx, hst⟩ := st6.hide
        have hm : ∀ x : Cs w bl7 E7, x.W.cell? ⟨2, 0, none⟩ = some (.iface 117 (.pointer (some q))) := fun x => (h.below (Nat.le_refl _) (hbx x).out).field
        refine region_st sh7 (by kernel_rfl) (by kernel_rfl) ?_
        clear rl
        repeat (first | go_big_quiet_step (fail) | quiet_step (fail))
        refine wpQuiet_nil ?_
        intro y
        have st7 := (hst y).out
        clear hbx hst sh7 hEx st6 hm
        generalize y.W = w7 at *
        go_wp2_with fail
        refine ⟨by simp, .inl ⟨_, _, rfl, run_takeDeferred st7.ex, ?_⟩⟩
        rw [HG.out]
        exact ⟨_, results_tmp2 (t := 2) (u := 3) rfl _ _ _, reads_no st7.below (st7.blk _ (List.mem_of_getElem? (i := 3) rfl)) (by have := hs4.out; omega) (by have := hs4.out; omega)⟩
    · have hm : m < 18446744073709551616 := Nat.lt_of_lt_of_le hvl (Nat.le_trans (Nat.pow_le_pow_right (by decide) hk8) (by decide))
      have H3 : ((b.toNat : Int) == 249) = false := by simp; omega
      have hn' := Lib.hid (show (m : Int) = (n : Int) by rw [HN.out]; unfold valOf; rw [if_neg h1, if_neg h2, if_neg h3])
      have hn64 : n < 18446744073709551616 := by have := hn'.out; omega
      go_wp2_with fail
      have st5 := st
      rw [hn'.out] at st5
      clear hn'
      rw [← HN.out] at hgl
      clear rl st HN
      have hput := Lib.hid (putB_len n)
      by_cases hq : (putB n).size = 1 + behind b.toNat
      · have hqb : (((putB n).size : Int) != 1 + (behind b.toNat : Int)) = false := by rw [hq]; simp
        have HG : Hid (getL s.data.toList = .ok n (t.drop (behind b.toNat))) := by show _ = _; rw [hgl.out, if_neg (by rw [← hput.out, hq]; simp)]
        clear hq hgl hput
        obtain ⟨bl6, E6, hne6, sh6, rl, hEx, hbx, hst⟩ := st5.hide
        refine region_st sh6 (by kernel_rfl) (by kernel_rfl) ?_
        simp only [Rules] at rl
        repeat (first | go_big_quiet_step ((go_at_call 22; exact Cs.call (put_any _ (by omega) (by omega) _))) | quiet_step ((go_at_call 22; exact Cs.call (put_any _ (by omega) (by omega) _))))
        refine wpQuiet_nil ?_
        intro y
        have st6 := (hst y).out
        clear hbx rl hst sh6 hEx st5
        generalize y.W = w6 at *
        go_wp2_with fail
        obtain ⟨bl7, E7, hne7, sh7, rl, hEx, hbx, hst⟩ := st6.hide
        refine region_st_tail sh7 12 (by kernel_rfl) (by kernel_rfl) ?_
        simp only [List.take_succ_cons, List.take_zero, List.drop_succ_cons, List.drop_zero]
        simp only [Rules] at rl
        repeat (first | go_big_quiet_step (fail) | quiet_step (fail))
        refine wpQuiet_nil ?_
        intro y
        have st7 := (hst y).out
        clear hbx rl hst sh7 hEx st6
        generalize y.W = w7 at *
        have rl := st7.rules
        simp only [Rules] at rl
        have hBR : B ≠ R := by omega
        go_wp2_with fail
        have hD7 : (w7.setCell ⟨R, 0, none⟩ (.string (s.extract (1 + behind b.toNat) (t.length + 1)))).heap[D]? = some (.deferred (some [])) := (Below.heap_setCell _ _ _ _ (by have := hs4.out; show D ≠ R; omega)).trans st7.ex
        refine ⟨by simp, .inl ⟨_, _, rfl, run_takeDeferred hD7, ?_⟩⟩
        rw [HG.out]
        exact ⟨_, results_tmp2 (t := 2) (u := 3) rfl _ _ _, reads_ok st7.below (st7.blk _ (List.mem_of_getElem? (i := 3) rfl)) (left_ext hl _ _ rfl) (by have := hs4.out; omega) (by have := hs4.out; omega)⟩
      · have hqb : (((putB n).size : Int) != 1 + (behind b.toNat : Int)) = true := by simp; omega
        have HG : Hid (getL s.data.toList = .field) := by show _ = _; rw [hgl.out, if_pos (by rw [← hput.out]; exact hq)]
        clear hq hgl hput
        obtain ⟨bl6, E6, hne6, sh6, rl, hEx, hbx, hst⟩ := st5.hide
        refine region_st sh6 (by kernel_rfl) (by kernel_rfl) ?_
        simp only [Rules] at rl
        repeat (first | go_big_quiet_step ((go_at_call 22; exact Cs.call (put_any _ (by omega) (by omega) _))) | quiet_step ((go_at_call 22; exact Cs.call (put_any _ (by omega) (by omega) _))))
        refine wpQuiet_nil ?_
        intro y
        have st6 := (hst y).out
        clear hbx rl hst sh6 hEx st5
        generalize y.W = w6 at *
        go_wp2_with fail
        obtain ⟨bl7, E7, hne7, sh7, rl, hEx, hbx, hst⟩ := st6.hide
        have hm : ∀ x : Cs w bl7 E7, x.W.cell? ⟨2, 0, none⟩ = some (.iface 117 (.pointer (some q))) := fun x => (h.below (Nat.le_refl _) (hbx x).out).field
        refine region_st sh7 (by kernel_rfl) (by kernel_rfl) ?_
        clear rl
        repeat (first | go_big_quiet_step (fail) | quiet_step (fail))
        refine wpQuiet_nil ?_
        intro y
        have st7 := (hst y).out
        clear hbx hst sh7 hEx st6 hm
        generalize y.W = w7 at *
        go_wp2_with fail
        refine ⟨by simp, .inl ⟨_, _, rfl, run_takeDeferred st7.ex, ?_⟩⟩
        rw [HG.out]
        exact ⟨_, results_tmp2 (t := 2) (u := 3) rfl _ _ _, reads_no st7.below (st7.blk _ (List.mem_of_getElem? (i := 3) rfl)) (by have := hs4.out; omega) (by have := hs4.out; omega)⟩
  case stop =>
    rintro D c pre W hD hpre ⟨rfl, pr, x, rfl, hx, st⟩ hK
    obtain ⟨e1, e2⟩ := octs_pre hpre
    rw [e2, ← e1, hx, hX] at st
    clear hpre e1 e2 hx st4
    refine wpIn_wide.2 ?_
    have HT : Hid (Sents p q W) := h.below (Nat.le_refl _) st.below
    have hk8 := behind_le b
    have hvl := val_lt (t.take (behind b.toNat))
    rw [List.length_take, Nat.min_eq_left hlt] at hvl
    have hbt := b.toNat_lt
    rw [un_valV _ (by rw [List.length_take]; omega)] at st
    have st := st.lessE (F := fun W => W.heap[D]? = some (.deferred (some []))) hK (fun _ _ h hb => (hb.block D (blk_lt h)).trans h)
    have hgl : Hid (getL s.data.toList = if (put (valOf b.toNat (val (t.take (behind b.toNat))))).length ≠ 1 + behind b.toNat then .field
        else .ok (valOf b.toNat (val (t.take (behind b.toNat)))) (t.drop (behind b.toNat))) := by
      show _ = _
      rw [hl]
      show (if t.length < behind b.toNat then Got.more else _) = _
      rw [if_neg (by omega)]
    generalize val (t.take (behind b.toNat)) = m at *
    have rl := st.rules
    simp only [Rules] at rl
    obtain ⟨n, hn⟩ : ∃ n, n = valOf b.toNat m := ⟨_, rfl⟩
    have HN := Lib.hid hn
    clear hn
    by_cases h1 : b.toNat ≤ 240
    · skip
      have hn' := Lib.hid (show (b.toNat : Int) = (n : Int) by rw [HN.out]; unfold valOf; rw [if_pos h1])
      have hn64 : n < 18446744073709551616 := by have := hn'.out; omega
      go_wp2_with fail
      have st5 := st.set 1 rfl (o := 0) (v := .int .u64 ((b.toNat : Int))) (by omega) (fun h => (Below.heap_setCell _ _ _ _ (by have := hs4.out; show D ≠ B; omega)).trans h)
      simp only [setB, List.modify_succ_cons, List.modify_zero_cons, List.setIfInBounds_toArray, List.set_cons_zero] at st5
      generalize W.setCell ⟨B, 0, none⟩ (.int .u64 ((b.toNat : Int))) = W5 at *
      rw [hn'.out] at st5
      clear hn'
      rw [← HN.out] at hgl
      clear rl st HN
      have hput := Lib.hid (putB_len n)
      by_cases hq : (putB n).size = 1 + behind b.toNat
      · have hqb : (((putB n).size : Int) != 1 + (behind b.toNat : Int)) = false := by rw [hq]; simp
        have HG : Hid (getL s.data.toList = .ok n (t.drop (behind b.toNat))) := by show _ = _; rw [hgl.out, if_neg (by rw [← hput.out, hq]; simp)]
        clear hq hgl hput
        obtain ⟨bl6, E6, hne6, sh6, rl, hEx, hbx, hst⟩ := st5.hide
        refine region_st sh6 (by kernel_rfl) (by kernel_rfl) ?_
        simp only [Rules] at rl
        repeat (first | go_big_quiet_step ((go_at_call 22; exact Cs.call (put_any _ (by omega) (by omega) _))) | quiet_step ((go_at_call 22; exact Cs.call (put_any _ (by omega) (by omega) _))))
        refine wpQuiet_nil ?_
        intro y
        have st6 := (hst y).out
        clear hbx rl hst sh6 hEx st5
        generalize y.W = w6 at *
        go_wp2_with fail
        obtain ⟨bl7, E7, hne7, sh7, rl, hEx, hbx, hst⟩ := st6.hide
        refine region_st_tail sh7 12 (by kernel_rfl) (by kernel_rfl) ?_
        simp only [List.take_succ_cons, List.take_zero, List.drop_succ_cons, List.drop_zero]
        simp only [Rules] at rl
        repeat (first | go_big_quiet_step (fail) | quiet_step (fail))
        refine wpQuiet_nil ?_
        intro y
        have st7 := (hst y).out
        clear hbx rl hst sh7 hEx st6
        generalize y.W = w7 at *
        have rl := st7.rules
        simp only [Rules] at rl
        have hBR : B ≠ R := by omega
        go_wp2_with fail
        have hD7 : (w7.setCell ⟨R, 0, none⟩ (.string (s.extract (1 + behind b.toNat) (t.length + 1)))).heap[D]? = some (.deferred (some [])) := (Below.heap_setCell _ _ _ _ (by have := hs4.out; show D ≠ R; omega)).trans st7.ex
        refine ⟨by simp, .inl ⟨_, _, rfl, run_takeDeferred hD7, ?_⟩⟩
        rw [HG.out]
        exact ⟨_, results_tmp2 (t := 2) (u := 3) rfl _ _ _, reads_ok st7.below (st7.blk _ (List.mem_of_getElem? (i := 3) rfl)) (left_ext hl _ _ rfl) (by have := hs4.out; omega) (by have := hs4.out; omega)⟩
      · have hqb : (((putB n).size : Int) != 1 + (behind b.toNat : Int)) = true := by simp; omega
        have HG : Hid (getL s.data.toList = .field) := by show _ = _; rw [hgl.out, if_pos (by rw [← hput.out]; exact hq)]
        clear hq hgl hput
        obtain ⟨bl6, E6, hne6, sh6, rl, hEx, hbx, hst⟩ := st5.hide
        refine region_st sh6 (by kernel_rfl) (by kernel_rfl) ?_
        simp only [Rules] at rl
        repeat (first | go_big_quiet_step ((go_at_call 22; exact Cs.call (put_any _ (by omega) (by omega) _))) | quiet_step ((go_at_call 22; exact Cs.call (put_any _ (by omega) (by omega) _))))
        refine wpQuiet_nil ?_
        intro y
        have st6 := (hst y).out
        clear hbx rl hst sh6 hEx st5
        generalize y.W = w6 at *
        go_wp2_with fail
        obtain ⟨bl7, E7, hne7, sh7, rl, hEx, hbx, hst⟩ := st6.hide
        have hm : ∀ x : Cs w bl7 E7, x.W.cell? ⟨2, 0, none⟩ = some (.iface 117 (.pointer (some q))) := fun x => (h.below (Nat.le_refl _) (hbx x).out).field
        refine region_st sh7 (by kernel_rfl) (by kernel_rfl) ?_
        clear rl
        repeat (first | go_big_quiet_step (fail) | quiet_step (fail))
        refine wpQuiet_nil ?_
        intro y
        have st7 := (hst y).out
        clear hbx hst sh7 hEx st6 hm
        generalize y.W = w7 at *
        go_wp2_with fail
        refine ⟨by simp, .inl ⟨_, _, rfl, run_takeDeferred st7.ex, ?_⟩⟩
        rw [HG.out]
        exact ⟨_, results_tmp2 (t := 2) (u := 3) rfl _ _ _, reads_no st7.below (st7.blk _ (List.mem_of_getElem? (i := 3) rfl)) (by have := hs4.out; omega) (by have := hs4.out; omega)⟩
    by_cases h2 : b.toNat ≤ 248
    · have hm : m < 256 := by
        have e : behind b.toNat = 1 := by unfold behind; rw [if_neg h1, if_pos h2]
        rw [e] at hvl
        omega
      have hn' := Lib.hid (show (m : Int) + (240 + 256 * ((b.toNat : Int) - 241)) = (n : Int) by rw [HN.out]; unfold valOf; rw [if_neg h1, if_pos h2]; omega)
      have hn64 : n < 18446744073709551616 := by have := hn'.out; omega
      go_wp2_with fail
      have st5 := st.set 1 rfl (o := 0) (v := .int .u64 ((m : Int) + (240 + 256 * ((b.toNat : Int) - 241)))) (by omega) (fun h => (Below.heap_setCell _ _ _ _ (by have := hs4.out; show D ≠ B; omega)).trans h)
      simp only [setB, List.modify_succ_cons, List.modify_zero_cons, List.setIfInBounds_toArray, List.set_cons_zero] at st5
      generalize W.setCell ⟨B, 0, none⟩ (.int .u64 ((m : Int) + (240 + 256 * ((b.toNat : Int) - 241)))) = W5 at *
      rw [hn'.out] at st5
      clear hn'
      rw [← HN.out] at hgl
      clear rl st HN
      have hput := Lib.hid (putB_len n)
      by_cases hq : (putB n).size = 1 + behind b.toNat
      · have hqb : (((putB n).size : Int) != 1 + (behind b.toNat : Int)) = false := by rw [hq]; simp
        have HG : Hid (getL s.data.toList = .ok n (t.drop (behind b.toNat))) := by show _ = _; rw [hgl.out, if_neg (by rw [← hput.out, hq]; simp)]
        clear hq hgl hput
        obtain ⟨bl6, E6, hne6, sh6, rl, hEx, hbx, hst⟩ := st5.hide
        refine region_st sh6 (by kernel_rfl) (by kernel_rfl) ?_
        simp only [Rules] at rl
        repeat (first | go_big_quiet_step ((go_at_call 22; exact Cs.call (put_any _ (by omega) (by omega) _))) | quiet_step ((go_at_call 22; exact Cs.call (put_any _ (by omega) (by omega) _))))
        refine wpQuiet_nil ?_
        intro y
        have st6 := (hst y).out
        clear hbx rl hst sh6 hEx st5
        generalize y.W = w6 at *
        go_wp2_with fail
        obtain ⟨bl7, E7, hne7, sh7, rl, hEx, hbx, hst⟩ := st6.hide
        refine region_st_tail sh7 12 (by kernel_rfl) (by kernel_rfl) ?_
        simp only [List.take_succ_cons, List.take_zero, List.drop_succ_cons, List.drop_zero]
        simp only [Rules] at rl
        repeat (first | go_big_quiet_step (fail) | quiet_step (fail))
        refine wpQuiet_nil ?_
        intro y
        have st7 := (hst y).out
        clear hbx rl hst sh7 hEx st6
        generalize y.W = w7 at *
        have rl := st7.rules
        simp only [Rules] at rl
        have hBR : B ≠ R := by omega
        go_wp2_with fail
        have hD7 : (w7.setCell ⟨R, 0, none⟩ (.string (s.extract (1 + behind b.toNat) (t.length + 1)))).heap[D]? = some (.deferred (some [])) := (Below.heap_setCell _ _ _ _ (by have := hs4.out; show D ≠ R; omega)).trans st7.ex
        refine ⟨by simp, .inl ⟨_, _, rfl, run_takeDeferred hD7, ?_⟩⟩
        rw [HG.out]
        exact ⟨_, results_tmp2 (t := 2) (u := 3) rfl _ _ _, reads_ok st7.below (st7.blk _ (List.mem_of_getElem? (i := 3) rfl)) (left_ext hl _ _ rfl) (by have := hs4.out; omega) (by have := hs4.out; omega)⟩
      · have hqb : (((putB n).size : Int) != 1 + (behind b.toNat : Int)) = true := by simp; omega
        have HG : Hid (getL s.data.toList = .field) := by show _ = _; rw [hgl.out, if_pos (by rw [← hput.out]; exact hq)]
        clear hq hgl hput
        obtain ⟨bl6, E6, hne6, sh6, rl, hEx, hbx, hst⟩ := st5.hide
        refine region_st sh6 (by kernel_rfl) (by kernel_rfl) ?_
        simp only [Rules] at rl
        repeat (first | go_big_quiet_step ((go_at_call 22; exact Cs.call (put_any _ (by omega) (by omega) _))) | quiet_step ((go_at_call 22; exact Cs.call (put_any _ (by omega) (by omega) _))))
        refine wpQuiet_nil ?_
        intro y
        have st6 := (hst y).out
        clear hbx rl hst sh6 hEx st5
        generalize y.W = w6 at *
        go_wp2_with fail
        obtain ⟨bl7, E7, hne7, sh7, rl, hEx, hbx, hst⟩ := st6.hide
        have hm : ∀ x : Cs w bl7 E7, x.W.cell? ⟨2, 0, none⟩ = some (.iface 117 (.pointer (some q))) := fun x => (h.below (Nat.le_refl _) (hbx x).out).field
        refine region_st sh7 (by kernel_rfl) (by kernel_rfl) ?_
        clear rl
        repeat (first | go_big_quiet_step (fail) | quiet_step (fail))
        refine wpQuiet_nil ?_
        intro y
        have st7 := (hst y).out
        clear hbx hst sh7 hEx st6 hm
        generalize y.W = w7 at *
        go_wp2_with fail
        refine ⟨by simp, .inl ⟨_, _, rfl, run_takeDeferred st7.ex, ?_⟩⟩
        rw [HG.out]
        exact ⟨_, results_tmp2 (t := 2) (u := 3) rfl _ _ _, reads_no st7.below (st7.blk _ (List.mem_of_getElem? (i := 3) rfl)) (by have := hs4.out; omega) (by have := hs4.out; omega)⟩
    by_cases h3 : b.toNat = 249
    · have hm : m < 65536 := by
        have e : behind b.toNat = 2 := by unfold behind; rw [if_neg h1, if_neg h2, if_pos h3]
        rw [e] at hvl
        omega
      have H3 : ((b.toNat : Int) == 249) = true := by simp; omega
      have HH3 := Lib.hid h3
      clear h3
      have hn' := Lib.hid (show (m : Int) + 2288 = (n : Int) by rw [HN.out]; unfold valOf; rw [if_neg h1, if_neg h2, if_pos HH3.out]; omega)
      have hn64 : n < 18446744073709551616 := by have := hn'.out; omega
      go_wp2_with fail
      have st5 := st.set 1 rfl (o := 0) (v := .int .u64 ((m : Int) + 2288)) (by omega) (fun h => (Below.heap_setCell _ _ _ _ (by have := hs4.out; show D ≠ B; omega)).trans h)
      simp only [setB, List.modify_succ_cons, List.modify_zero_cons, List.setIfInBounds_toArray, List.set_cons_zero] at st5
      generalize W.setCell ⟨B, 0, none⟩ (.int .u64 ((m : Int) + 2288)) = W5 at *
      rw [hn'.out] at st5
      clear hn'
      rw [← HN.out] at hgl
      clear rl st HN
      have hput := Lib.hid (putB_len n)
      by_cases hq : (putB n).size = 1 + behind b.toNat
      · have hqb : (((putB n).size : Int) != 1 + (behind b.toNat : Int)) = false := by rw [hq]; simp
        have HG : Hid (getL s.data.toList = .ok n (t.drop (behind b.toNat))) := by show _ = _; rw [hgl.out, if_neg (by rw [← hput.out, hq]; simp)]
        clear hq hgl hput
        obtain ⟨bl6, E6, hne6, sh6, rl, hEx, hbx, hst⟩ := st5.hide
        refine region_st sh6 (by kernel_rfl) (by kernel_rfl) ?_
        simp only [Rules] at rl
        repeat (first | go_big_quiet_step ((go_at_call 22; exact Cs.call (put_any _ (by omega) (by omega) _))) | quiet_step ((go_at_call 22; exact Cs.call (put_any _ (by omega) (by omega) _))))
        refine wpQuiet_nil ?_
        intro y
        have st6 := (hst y).out
        clear hbx rl hst sh6 hEx st5
        generalize y.W = w6 at *
        go_wp2_with fail
        obtain ⟨bl7, E7, hne7, sh7, rl, hEx, hbx, hst⟩ := st6.hide
        refine region_st_tail sh7 12 (by kernel_rfl) (by kernel_rfl) ?_
        simp only [List.take_succ_cons, List.take_zero, List.drop_succ_cons, List.drop_zero]
        simp only [Rules] at rl
        repeat (first | go_big_quiet_step (fail) | quiet_step (fail))
        refine wpQuiet_nil ?_
        intro y
        have st7 := (hst y).out
        clear hbx rl hst sh7 hEx st6
        generalize y.W = w7 at *
        have rl := st7.rules
        simp only [Rules] at rl
        have hBR : B ≠ R := by omega
        go_wp2_with fail
        have hD7 : (w7.setCell ⟨R, 0, none⟩ (.string (s.extract (1 + behind b.toNat) (t.length + 1)))).heap[D]? = some (.deferred (some [])) := (Below.heap_setCell _ _ _ _ (by have := hs4.out; show D ≠ R; omega)).trans st7.ex
        refine ⟨by simp, .inl ⟨_, _, rfl, run_takeDeferred hD7, ?_⟩⟩
        rw [HG.out]
        exact ⟨_, results_tmp2 (t := 2) (u := 3) rfl _ _ _, reads_ok st7.below (st7.blk _ (List.mem_of_getElem? (i := 3) rfl)) (left_ext hl _ _ rfl) (by have := hs4.out; omega) (by have := hs4.out; omega)⟩
      · have hqb : (((putB n).size : Int) != 1 + (behind b.toNat : Int)) = true := by simp; omega
        have HG : Hid (getL s.data.toList = .field) := by show _ = _; rw [hgl.out, if_pos (by rw [← hput.out]; exact hq)]
        clear hq hgl hput
        obtain ⟨bl6, E6, hne6, sh6, rl, hEx, hbx, hst⟩ := st5.hide
        refine region_st sh6 (by kernel_rfl) (by kernel_rfl) ?_
        simp only [Rules] at rl
        repeat (first | go_big_quiet_step ((go_at_call 22; exact Cs.call (put_any _ (by omega) (by omega) _))) | quiet_step ((go_at_call 22; exact Cs.call (put_any _ (by omega) (by omega) _))))
        refine wpQuiet_nil ?_
        intro y
        have st6 := (hst y).out
        clear hbx rl hst sh6 hEx st5
        generalize y.W = w6 at *
        go_wp2_with fail
        obtain ⟨bl7, E7, hne7, sh7, rl, hEx, hbx, hst⟩ := st6.hide
        have hm : ∀ x : Cs w bl7 E7, x.W.cell? ⟨2, 0, none⟩ = some (.iface 117 (.pointer (some q))) := fun x => (h.below (Nat.le_refl _) (hbx x).out).field
        refine region_st sh7 (by kernel_rfl) (by kernel_rfl) ?_
        clear rl
        repeat (first | go_big_quiet_step (fail) | quiet_step (fail))
        refine wpQuiet_nil ?_
        intro y
        have st7 := (hst y).out
        clear hbx hst sh7 hEx st6 hm
        generalize y.W = w7 at *
        go_wp2_with fail
        refine ⟨by simp, .inl ⟨_, _, rfl, run_takeDeferred st7.ex, ?_⟩⟩
        rw [HG.out]
        exact ⟨_, results_tmp2 (t := 2) (u := 3) rfl _ _ _, reads_no st7.below (st7.blk _ (List.mem_of_getElem? (i := 3) rfl)) (by have := hs4.out; omega) (by have := hs4.out; omega)⟩
    · have hm : m < 18446744073709551616 := Nat.lt_of_lt_of_le hvl (Nat.le_trans (Nat.pow_le_pow_right (by decide) hk8) (by decide))
      have H3 : ((b.toNat : Int) == 249) = false := by simp; omega
      have hn' := Lib.hid (show (m : Int) = (n : Int) by rw [HN.out]; unfold valOf; rw [if_neg h1, if_neg h2, if_neg h3])
      have hn64 : n < 18446744073709551616 := by have := hn'.out; omega
      go_wp2_with fail
      have st5 := st
      rw [hn'.out] at st5
      clear hn'
      rw [← HN.out] at hgl
      clear rl st HN
      have hput := Lib.hid (putB_len n)
      by_cases hq : (putB n).size = 1 + behind b.toNat
      · have hqb : (((putB n).size : Int) != 1 + (behind b.toNat : Int)) = false := by rw [hq]; simp
        have HG : Hid (getL s.data.toList = .ok n (t.drop (behind b.toNat))) := by show _ = _; rw [hgl.out, if_neg (by rw [← hput.out, hq]; simp)]
        clear hq hgl hput
        obtain ⟨bl6, E6, hne6, sh6, rl, hEx, hbx, hst⟩ := st5.hide
        refine region_st sh6 (by kernel_rfl) (by kernel_rfl) ?_
        simp only [Rules] at rl
        repeat (first | go_big_quiet_step ((go_at_call 22; exact Cs.call (put_any _ (by omega) (by omega) _))) | quiet_step ((go_at_call 22; exact Cs.call (put_any _ (by omega) (by omega) _))))
        refine wpQuiet_nil ?_
        intro y
        have st6 := (hst y).out
        clear hbx rl hst sh6 hEx st5
        generalize y.W = w6 at *
        go_wp2_with fail
        obtain ⟨bl7, E7, hne7, sh7, rl, hEx, hbx, hst⟩ := st6.hide
        refine region_st_tail sh7 12 (by kernel_rfl) (by kernel_rfl) ?_
        simp only [List.take_succ_cons, List.take_zero, List.drop_succ_cons, List.drop_zero]
        simp only [Rules] at rl
        repeat (first | go_big_quiet_step (fail) | quiet_step (fail))
        refine wpQuiet_nil ?_
        intro y
        have st7 := (hst y).out
        clear hbx rl hst sh7 hEx st6
        generalize y.W = w7 at *
        have rl := st7.rules
        simp only [Rules] at rl
        have hBR : B ≠ R := by omega
        go_wp2_with fail
        have hD7 : (w7.setCell ⟨R, 0, none⟩ (.string (s.extract (1 + behind b.toNat) (t.length + 1)))).heap[D]? = some (.deferred (some [])) := (Below.heap_setCell _ _ _ _ (by have := hs4.out; show D ≠ R; omega)).trans st7.ex
        refine ⟨by simp, .inl ⟨_, _, rfl, run_takeDeferred hD7, ?_⟩⟩
        rw [HG.out]
        exact ⟨_, results_tmp2 (t := 2) (u := 3) rfl _ _ _, reads_ok st7.below (st7.blk _ (List.mem_of_getElem? (i := 3) rfl)) (left_ext hl _ _ rfl) (by have := hs4.out; omega) (by have := hs4.out; omega)⟩
      · have hqb : (((putB n).size : Int) != 1 + (behind b.toNat : Int)) = true := by simp; omega
        have HG : Hid (getL s.data.toList = .field) := by show _ = _; rw [hgl.out, if_pos (by rw [← hput.out]; exact hq)]
        clear hq hgl hput
        obtain ⟨bl6, E6, hne6, sh6, rl, hEx, hbx, hst⟩ := st5.hide
        refine region_st sh6 (by kernel_rfl) (by kernel_rfl) ?_
        simp only [Rules] at rl
        repeat (first | go_big_quiet_step ((go_at_call 22; exact Cs.call (put_any _ (by omega) (by omega) _))) | quiet_step ((go_at_call 22; exact Cs.call (put_any _ (by omega) (by omega) _))))
        refine wpQuiet_nil ?_
        intro y
        have st6 := (hst y).out
        clear hbx rl hst sh6 hEx st5
        generalize y.W = w6 at *
        go_wp2_with fail
        obtain ⟨bl7, E7, hne7, sh7, rl, hEx, hbx, hst⟩ := st6.hide
        have hm : ∀ x : Cs w bl7 E7, x.W.cell? ⟨2, 0, none⟩ = some (.iface 117 (.pointer (some q))) := fun x => (h.below (Nat.le_refl _) (hbx x).out).field
        refine region_st sh7 (by kernel_rfl) (by kernel_rfl) ?_
        clear rl
        repeat (first | go_big_quiet_step (fail) | quiet_step (fail))
        refine wpQuiet_nil ?_
        intro y
        have st7 := (hst y).out
        clear hbx hst sh7 hEx st6 hm
        generalize y.W = w7 at *
        go_wp2_with fail
        refine ⟨by simp, .inl ⟨_, _, rfl, run_takeDeferred st7.ex, ?_⟩⟩
        rw [HG.out]
        exact ⟨_, results_tmp2 (t := 2) (u := 3) rfl _ _ _, reads_no st7.below (st7.blk _ (List.mem_of_getElem? (i := 3) rfl)) (by have := hs4.out; omega) (by have := hs4.out; omega)⟩

end Go.Proofs.YtafabdgkinfceaaDoor
