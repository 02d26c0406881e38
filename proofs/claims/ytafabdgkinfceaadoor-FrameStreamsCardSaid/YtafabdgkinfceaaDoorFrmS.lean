/- aviaryref03.Read, walked. -/
import Derived.Test.YtafabdgkinfceaaDoorFrmE
namespace Go.Proofs.YtafabdgkinfceaaDoor
open Go.RowKit
set_option linter.unusedSimpArgs false
set_option linter.unusedVariables false

theorem be4_iff (n : Nat) (hn : n < 4294967296) (q : List UInt8) (hq : q.length = 4) : be4B n = ⟨q.toArray⟩ ↔ n = val q := by
  constructor
  · intro h
    have e := congrArg (fun x : ByteArray => x.data.toList) h
    have e : be n 4 = q := by simpa [be4B] using e
    rw [← e, val_be 4 n (by simpa using hn)]
  · intro h
    have := be_val q
    rw [hq] at this
    unfold be4B
    rw [h, this]
theorem ba_same {x y : ByteArray} (h : x = y) : (x.toList == y.toList) = true := by rw [h]; simp
theorem ba_other {x y : ByteArray} (h : x ≠ y) : (x.toList == y.toList) = false := by
  have : x.toList ≠ y.toList := fun e => h (by
    rw [Lib.toList_data, Lib.toList_data] at e
    apply ByteArray.ext
    exact Array.toList_inj.1 e)
  simpa using this
theorem ext_mid (s : ByteArray) (r : List UInt8) (h : s.data.toList = r) (n : Nat) : s.extract n (n + 4) = ⟨((r.drop n).take 4).toArray⟩ := by
  have e : (s.extract n (n + 4)).data.toList = (r.drop n).take 4 := by
    rw [ByteArray.data_extract, Array.toList_extract, h, List.extract_eq_take_drop, Nat.add_sub_cancel_left]
  rw [← e]

set_option maxRecDepth 100000 in
set_option maxHeartbeats 8000000 in
theorem rread_any (s : ByteArray) (hs : s.size ≤ 100000) (w : World) :
    Calls Tryd.prog 15 #[.string s] w fun e w' => e = .returned (readV s (readL s.data.toList)) ∧ Below w.heap.size w w' := by
  have hz : s.data.toList.length = s.size := by simp
  cases hl : s.data.toList with
  | nil =>
    rw [hl] at hz
    have hz0 : s.size = 0 := hz.symm
    have he : s.toList.isEmpty = true := empty_beq.2 hz0
    show Calls _ _ _ _ (fun e w' => e = Ending.returned (Value.tuple #[.string ⟨#[]⟩, .string s, .int .i64 20]) ∧ Below w.heap.size w w')
    clear hl hz
    go_enter Tryd.func15, Tryd.ntmps15
    go_wp2_with fail
    exact bodyPost_ret (results_tmp3 (t := 2) (u := 3) (v := 4) rfl _ _ _) rfl ⟨rfl, Below.refl _ _⟩
  | cons x t =>
    rw [hl, List.length_cons] at hz
    have hz0 : 0 < s.size := by omega
    have he : s.toList.isEmpty = false := by
      rw [Bool.eq_false_iff]
      exact fun h => by have := empty_beq.1 h; omega
    have hx : (s[0]'hz0) = x := by
      have := ba_get s 0 hz0
      rw [hl] at this
      simpa using this.symm
    by_cases c0 : x = 167
    · subst c0
      rw [readL_mark]
      have hT1 : s.extract 1 s.size = ⟨t.toArray⟩ := by
        have := ext_from s _ hl 1 s.size (by rw [List.length_cons]; omega)
        simpa using this
      obtain ⟨T, hT⟩ : ∃ T : ByteArray, (⟨t.toArray⟩ : ByteArray) = T := ⟨_, rfl⟩
      have hTl : T.data.toList = t := by rw [← hT]
      have hTz : T.size ≤ 100000 := by rw [← hT, mk_size]; omega
      rw [hT] at hT1
      have HG := Lib.hid (refGet_any T (by omega))
      rw [hTl] at HG
      have htl : t.length ≤ 100000 := by omega
      clear hl hTl hz hT
      have HBK := Lib.hid (getL_back t)
      generalize getL t = g at *
      cases g with
      | more =>
        show Calls _ _ _ _ (fun e w' => e = Ending.returned (Value.tuple #[.string ⟨#[]⟩, .string s, .int .i64 20]) ∧ Below w.heap.size w w')
        simp only [getV, numOf, leftOf, noOf] at HG
        clear HBK
        go_enter Tryd.func15, Tryd.ntmps15
        go_wp2_with fail
        refine (HG.out _).mono ?_
        rintro e w1 ⟨rfl, hb1⟩
        clear HG
        go_wp2_with fail
        exact bodyPost_ret (results_tmp3 (t := 2) (u := 3) (v := 4) rfl _ _ _) rfl ⟨rfl, hb1⟩
      | field =>
        show Calls _ _ _ _ (fun e w' => e = Ending.returned (Value.tuple #[.string ⟨#[]⟩, .string s, .int .i64 30]) ∧ Below w.heap.size w w')
        simp only [getV, numOf, leftOf, noOf] at HG
        clear HBK
        go_enter Tryd.func15, Tryd.ntmps15
        go_wp2_with fail
        refine (HG.out _).mono ?_
        rintro e w1 ⟨rfl, hb1⟩
        clear HG
        go_wp2_with fail
        exact bodyPost_ret (results_tmp3 (t := 2) (u := 3) (v := 4) rfl _ _ _) rfl ⟨rfl, hb1⟩
      | ok n r =>
        obtain ⟨-, hn64, hrl⟩ := HBK.out n r rfl
        clear HBK
        simp only [getV, numOf, leftOf, noOf] at HG
        show Calls _ _ _ _ (fun e w' => e = Ending.returned (readV s (readN n r)) ∧ Below w.heap.size w w')
        unfold readN
        obtain ⟨L, hL⟩ : ∃ L : ByteArray, (⟨r.toArray⟩ : ByteArray) = L := ⟨_, rfl⟩
        have hLl : L.data.toList = r := by rw [← hL]
        have hLz : L.size = r.length := by rw [← hL, mk_size]
        rw [hL] at HG
        clear hL
        have HLZ := Lib.hid hLz
        have hL5 : L.size ≤ 100000 := by omega
        by_cases c1 : n < 1
        · rw [if_pos (by omega)]
          show Calls _ _ _ _ (fun e w' => e = Ending.returned (Value.tuple #[.string ⟨#[]⟩, .string s, .int .i64 30]) ∧ Below w.heap.size w w')
          clear hLz hn64
          go_enter Tryd.func15, Tryd.ntmps15
          go_wp2_with fail
          refine (HG.out _).mono ?_
          rintro e w1 ⟨rfl, hb1⟩
          clear HG
          go_wp2_with fail
          exact bodyPost_ret (results_tmp3 (t := 2) (u := 3) (v := 4) rfl _ _ _) rfl ⟨rfl, hb1⟩
        by_cases c2 : 2000 < n
        · rw [if_pos (by omega)]
          show Calls _ _ _ _ (fun e w' => e = Ending.returned (Value.tuple #[.string ⟨#[]⟩, .string s, .int .i64 30]) ∧ Below w.heap.size w w')
          clear hLz hn64
          go_enter Tryd.func15, Tryd.ntmps15
          go_wp2_with fail
          refine (HG.out _).mono ?_
          rintro e w1 ⟨rfl, hb1⟩
          clear HG
          go_wp2_with fail
          exact bodyPost_ret (results_tmp3 (t := 2) (u := 3) (v := 4) rfl _ _ _) rfl ⟨rfl, hb1⟩
        rw [if_neg (by omega)]
        by_cases c3 : r.length < n + 4
        · rw [if_pos c3]
          show Calls _ _ _ _ (fun e w' => e = Ending.returned (Value.tuple #[.string ⟨#[]⟩, .string s, .int .i64 20]) ∧ Below w.heap.size w w')
          have c4 : L.size < n + 4 := by omega
          clear hLz hn64
          go_enter Tryd.func15, Tryd.ntmps15
          go_wp2_with fail
          refine (HG.out _).mono ?_
          rintro e w1 ⟨rfl, hb1⟩
          clear HG
          go_wp2_with fail
          exact bodyPost_ret (results_tmp3 (t := 2) (u := 3) (v := 4) rfl _ _ _) rfl ⟨rfl, hb1⟩
        rw [if_neg c3]
        have c4 : ¬ L.size < n + 4 := by omega
        have c5 : n ≤ L.size := by omega
        have c8 : n + 4 ≤ L.size := by omega
        have hB := ext_to L r hLl n
        have hQ := ext_mid L r hLl n
        have hZ := ext_from L r hLl (n + 4) L.size (by omega)
        obtain ⟨B, hB2⟩ : ∃ B : ByteArray, (⟨(r.take n).toArray⟩ : ByteArray) = B := ⟨_, rfl⟩
        obtain ⟨Q4, hQ2⟩ : ∃ Q4 : ByteArray, (⟨((r.drop n).take 4).toArray⟩ : ByteArray) = Q4 := ⟨_, rfl⟩
        obtain ⟨Z, hZ2⟩ : ∃ Z : ByteArray, (⟨(r.drop (n + 4)).toArray⟩ : ByteArray) = Z := ⟨_, rfl⟩
        have hBl : B.data.toList = r.take n := by rw [← hB2]
        have hBz : B.size ≤ 100000 := by rw [← hB2, mk_size, List.length_take]; omega
        rw [hB2] at hB
        rw [hQ2] at hQ
        rw [hZ2] at hZ
        have CC := Lib.hid (rcheck_any B (by omega))
        rw [hBl] at CC
        have hcl := chkN_lt (r.take n)
        have CF := Lib.hid (four_any _ hcl)
        have HI := Lib.hid (be4_iff _ hcl ((r.drop n).take 4) (by rw [List.length_take, List.length_drop]; omega))
        rw [hQ2] at HI
        have HB2 := Lib.hid hB2
        have HZ2 := Lib.hid hZ2
        have hb4 := be4B_size (chkN (r.take n))
        clear hBl hLl hB2 hQ2 hZ2 hLz c3 hcl hn64
        have HWN : Hid (IntKind.u64.wrap ((n : Int) + 4) = (n : Int) + 4) := by show _ = _; simp [IntKind.wrap, IntKind.bits, IntKind.signed]; omega
        have HTN : Hid (((n : Int) + 4).toNat = n + 4) := by show _ = _; omega
        have HC8 := Lib.hid c8
        clear c8
        by_cases c6 : chkN (r.take n) = val ((r.drop n).take 4)
        · rw [if_neg (by simpa using c6)]
          show Calls _ _ _ _ (fun e w' => e = Ending.returned (Value.tuple #[.string ⟨(r.take n).toArray⟩, .string ⟨(r.drop (n + 4)).toArray⟩, .int .i64 0]) ∧ Below w.heap.size w w')
          rw [HB2.out, HZ2.out]
          have c7 := ba_same (HI.out.2 c6)
          clear HI HB2 HZ2 c6
          generalize be4B (chkN (r.take n)) = F4 at *
          generalize chkN (r.take n) = cn at *
          go_enter Tryd.func15, Tryd.ntmps15
          go_wp2_with fail
          refine (HG.out _).mono ?_
          rintro e w1 ⟨rfl, hb1⟩
          clear HG
          go_wp2_with fail
          have hwn := HWN.out
          have htn := HTN.out
          have c8 := HC8.out
          have st3 := (St.start w).to hb1
          clear hb1
          obtain ⟨bl4, E4, hne4, sh4, rl, hEx, hbx, hst⟩ := st3.hide
          refine region_st sh4 (by kernel_rfl) (by kernel_rfl) ?_
          repeat (first | go_big_quiet_step (((first | (go_at_call 17; exact Cs.call_same (CC.out _)) | (go_at_call 24; exact Cs.call (CF.out _))))) | quiet_step (((first | (go_at_call 17; exact Cs.call_same (CC.out _)) | (go_at_call 24; exact Cs.call (CF.out _))))))
          refine wpQuiet_nil ?_
          intro y
          have st5 := (hst y).out
          clear hbx rl hst sh4 hEx st3 hne4
          generalize y.W = w5 at *
          clear y CC CF
          go_wp2_with fail
          obtain ⟨bl6, E6, hne6, sh6, rl, hEx, hbx, hst⟩ := st5.hide
          refine region_st sh6 (by kernel_rfl) (by kernel_rfl) ?_
          repeat (first | go_big_quiet_step (fail) | quiet_step (fail))
          refine wpQuiet_nil ?_
          intro y
          have st7 := (hst y).out
          clear hbx rl hst sh6 hEx st5 hne6
          generalize y.W = w7 at *
          go_wp2_with fail
          exact bodyPost_ret (results_tmp3 (t := 2) (u := 3) (v := 4) rfl _ _ _) rfl ⟨rfl, st7.below⟩
        · rw [if_pos c6]
          show Calls _ _ _ _ (fun e w' => e = Ending.returned (Value.tuple #[.string ⟨#[]⟩, .string s, .int .i64 31]) ∧ Below w.heap.size w w')
          have c7 := ba_other (mt HI.out.1 c6)
          clear HI HB2 HZ2 c6
          generalize be4B (chkN (r.take n)) = F4 at *
          generalize chkN (r.take n) = cn at *
          go_enter Tryd.func15, Tryd.ntmps15
          go_wp2_with fail
          refine (HG.out _).mono ?_
          rintro e w1 ⟨rfl, hb1⟩
          clear HG
          go_wp2_with fail
          have hwn := HWN.out
          have htn := HTN.out
          have c8 := HC8.out
          have st3 := (St.start w).to hb1
          clear hb1
          obtain ⟨bl4, E4, hne4, sh4, rl, hEx, hbx, hst⟩ := st3.hide
          refine region_st sh4 (by kernel_rfl) (by kernel_rfl) ?_
          repeat (first | go_big_quiet_step (((first | (go_at_call 17; exact Cs.call_same (CC.out _)) | (go_at_call 24; exact Cs.call (CF.out _))))) | quiet_step (((first | (go_at_call 17; exact Cs.call_same (CC.out _)) | (go_at_call 24; exact Cs.call (CF.out _))))))
          refine wpQuiet_nil ?_
          intro y
          have st5 := (hst y).out
          clear hbx rl hst sh4 hEx st3 hne4
          generalize y.W = w5 at *
          clear y CC CF
          go_wp2_with fail
          exact bodyPost_ret (results_tmp3 (t := 2) (u := 3) (v := 4) rfl _ _ _) rfl ⟨rfl, st5.below⟩
    · have h30 : readL (x :: t) = .bad 30 := if_pos c0
      rw [h30]
      show Calls _ _ _ _ (fun e w' => e = Ending.returned (Value.tuple #[.string ⟨#[]⟩, .string s, .int .i64 30]) ∧ Below w.heap.size w w')
      have hxn : ((x.toNat : Int) != 167) = true := by
        rw [bne_iff_ne]
        intro e
        apply c0
        apply UInt8.toNat_inj.1
        show x.toNat = 167
        omega
      clear hl hz
      go_enter Tryd.func15, Tryd.ntmps15
      go_wp2_with fail
      exact bodyPost_ret (results_tmp3 (t := 2) (u := 3) (v := 4) rfl _ _ _) rfl ⟨rfl, Below.refl _ _⟩

end Go.Proofs.YtafabdgkinfceaaDoor
