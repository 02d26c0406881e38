/- frame.read, walked. -/
import Derived.Test.YtafabdgkinfceaaDoorFrmM
import Derived.Test.YtafabdgkinfceaaDoorGet
import Derived.ScopeJumps
import Derived.WalkMore
namespace Go.Proofs.YtafabdgkinfceaaDoor
open Go.RowKit
set_option linter.unusedSimpArgs false
set_option linter.unusedVariables false

/-- a scope that is left by a jump ahead -/
theorem wp_scope_fwd {P : Program} {a : Act} {w : World} {Q : Exit → Act → World → Prop} {c rest : Code} (l : Nat) (hf : findLabel c l = some rest)
    (first : c.wp P (Exit.jump l (fun a w => rest.wp P (Exit.noGoto Q) a w) Q) a w) : (Code.scope c).wp P Q a w :=
  wp_scope_jumps l (fun a w => rest.wp P (Exit.noGoto Q) a w) (fun _ _ => 0) hf first (fun a w h => wp_mono h (fun e a w hq => by
    cases e with
    | goto l' => exact hq.elim
    | _ => exact hq))
theorem ext_to (s : ByteArray) (r : List UInt8) (h : s.data.toList = r) (n : Nat) : s.extract 0 n = ⟨(r.take n).toArray⟩ := by
  have e : (s.extract 0 n).data.toList = r.take n := by
    rw [ByteArray.data_extract, Array.toList_extract, h, List.extract_eq_take_drop, List.drop_zero, Nat.sub_zero]
  rw [← e]
theorem ext_from (s : ByteArray) (r : List UInt8) (h : s.data.toList = r) (n N : Nat) (hN : r.length ≤ N) : s.extract n N = ⟨(r.drop n).toArray⟩ := by
  have e : (s.extract n N).data.toList = r.drop n := by
    rw [ByteArray.data_extract, Array.toList_extract, h, List.extract_eq_take_drop, List.take_of_length_le (by rw [List.length_drop]; omega)]
  rw [← e]
theorem mk_list (r : List UInt8) : (⟨r.toArray⟩ : ByteArray).data.toList = r := by simp
theorem mk_size (r : List UInt8) : (⟨r.toArray⟩ : ByteArray).size = r.length := by show r.toArray.size = _; simp

/-- an error of package frame's own make -/
abbrev faultV (A : Nat) : Value := .iface 65 (.pointer (some ⟨A, 0, none⟩))
def Faults (w : World) (s : ByteArray) (no : Nat) (e : Ending) (w' : World) : Prop :=
  ∃ A, e = .returned (.tuple #[.string ⟨#[]⟩, .string s, faultV A]) ∧ Below w.heap.size w w' ∧ w.heap.size ≤ A ∧ w'.heap[A]? = some (.cells #[.int .i64 no] 67 (0, 0))
def RdPost (w : World) (s : ByteArray) (g : RGot) (e : Ending) (w' : World) : Prop :=
  match g with
  | .bad no => Faults w s no e w'
  | .ok b r => e = .returned (.tuple #[.string ⟨b.toArray⟩, .string ⟨r.toArray⟩, .nilIface]) ∧ Below w.heap.size w w'

theorem faults_mk {w w1 : World} (hb : Below w.heap.size w w1) (s : ByteArray) (no : Nat) : Faults w s no (.returned (.tuple #[.string ⟨#[]⟩, .string s, faultV w1.heap.size])) (w1.alloc (.cells #[.int .i64 no] 67)) :=
  ⟨_, rfl, hb.alloc hb.size _, hb.size, World.alloc_heap_new _ _⟩

set_option maxRecDepth 100000 in
set_option maxHeartbeats 8000000 in
theorem read_any {p q : Addr} {w : World} (h : Sents p q w) (s : ByteArray) (hs : s.size ≤ 100000) :
    Calls Tryd.prog 25 #[.string s] w (RdPost w s (readL s.data.toList)) := by
  have hz : s.data.toList.length = s.size := by simp
  cases hl : s.data.toList with
  | nil =>
    rw [hl] at hz
    have hz0 : s.size = 0 := hz.symm
    have he : s.toList.isEmpty = true := empty_beq.2 hz0
    show Calls _ _ _ _ (Faults w s 20)
    clear hl hz
    go_enter Tryd.func25, Tryd.ntmps25
    go_wp2_with fail
    refine wp_scope_fwd 0 rfl ?_
    go_wp2_with fail
    go_step3
    refine ⟨rfl, ?_⟩
    go_wp2_with fail
    simp only [Exit.noGoto, Exit.jump]
    exact bodyPost_ret (results_tmp3 (t := 2) (u := 3) (v := 4) rfl _ _ _) rfl (faults_mk (Below.refl _ _) s _)
  | cons x t =>
    rw [hl, List.length_cons] at hz
    have hz0 : 0 < s.size := by omega
    have he : s.toList.isEmpty = false := by
      rw [Bool.eq_false_iff]
      exact fun h => by have := empty_beq.1 h; omega
    have hx : (s[0]'hz0) = x := by
      have := ba_get s 0 hz0
      rw [hl] at this
      simpa using this.symm
    by_cases c0 : x = 167
    · subst c0
      rw [readL_mark]
      have hT1 : s.extract 1 s.size = ⟨t.toArray⟩ := by
        have := ext_from s _ hl 1 s.size (by rw [List.length_cons]; omega)
        simpa using this
      obtain ⟨T, hT⟩ : ∃ T : ByteArray, (⟨t.toArray⟩ : ByteArray) = T := ⟨_, rfl⟩
      have hTl : T.data.toList = t := by rw [← hT]
      have hTz : T.size ≤ 100000 := by rw [← hT, mk_size]; omega
      rw [hT] at hT1
      have HG := Lib.hid (get_any h T (by omega))
      rw [hTl] at HG
      have htl : t.length ≤ 100000 := by omega
      clear hl hTl hz hT
      have HBK := Lib.hid (getL_back t)
      generalize getL t = g at *
      cases g with
      | more =>
        show Calls _ _ _ _ (Faults w s 20)
        simp only [getV, numOf, leftOf, noOf] at HG
        clear HBK
        go_enter Tryd.func25, Tryd.ntmps25
        go_wp2_with fail
        refine wp_scope_fwd 0 rfl ?_
        go_wp2_with fail
        refine HG.out.mono ?_
        rintro e w1 ⟨rfl, hb1⟩
        clear HG
        go_wp2_with fail
        go_step3
        refine ⟨rfl, ?_⟩
        go_wp2_with fail
        simp only [Exit.noGoto, Exit.jump]
        exact bodyPost_ret (results_tmp3 (t := 2) (u := 3) (v := 4) rfl _ _ _) rfl (faults_mk hb1 s _)
      | field =>
        show Calls _ _ _ _ (Faults w s 30)
        simp only [getV, numOf, leftOf, noOf] at HG
        clear HBK
        go_enter Tryd.func25, Tryd.ntmps25
        go_wp2_with fail
        refine wp_scope_fwd 0 rfl ?_
        go_wp2_with fail
        refine HG.out.mono ?_
        rintro e w1 ⟨rfl, hb1⟩
        clear HG
        go_wp2_with fail
        go_step3
        refine ⟨rfl, ?_⟩
        go_wp2_with fail
        simp only [Exit.noGoto, Exit.jump]
        exact bodyPost_ret (results_tmp3 (t := 2) (u := 3) (v := 4) rfl _ _ _) rfl (faults_mk hb1 s _)
      | ok n r =>
        obtain ⟨-, hn64, hrl⟩ := HBK.out n r rfl
        clear HBK
        simp only [getV, numOf, leftOf, noOf] at HG
        show Calls _ _ _ _ (RdPost w s (readN n r))
        unfold readN
        obtain ⟨L, hL⟩ : ∃ L : ByteArray, (⟨r.toArray⟩ : ByteArray) = L := ⟨_, rfl⟩
        have hLl : L.data.toList = r := by rw [← hL]
        have hLz : L.size = r.length := by rw [← hL, mk_size]
        rw [hL] at HG
        clear hL
        have HLZ := Lib.hid hLz
        have hL5 : L.size ≤ 100000 := by omega
        by_cases c1 : n = 0
        · rw [if_pos (by omega)]
          show Calls _ _ _ _ (Faults w s 30)
          subst c1
          clear hLz hn64
          go_enter Tryd.func25, Tryd.ntmps25
          go_wp2_with fail
          refine wp_scope_fwd 0 rfl ?_
          go_wp2_with fail
          refine HG.out.mono ?_
          rintro e w1 ⟨rfl, hb1⟩
          clear HG
          go_wp2_with fail
          go_step3
          refine ⟨rfl, ?_⟩
          go_wp2_with fail
          simp only [Exit.noGoto, Exit.jump]
          exact bodyPost_ret (results_tmp3 (t := 2) (u := 3) (v := 4) rfl _ _ _) rfl (faults_mk hb1 s _)
        by_cases c2 : 2000 < n
        · rw [if_pos (by omega)]
          show Calls _ _ _ _ (Faults w s 30)
          have hn0 : ((n : Int) == 0) = false := by rw [beq_eq_false_iff_ne]; omega
          clear hLz hn64
          go_enter Tryd.func25, Tryd.ntmps25
          go_wp2_with fail
          refine wp_scope_fwd 0 rfl ?_
          go_wp2_with fail
          refine HG.out.mono ?_
          rintro e w1 ⟨rfl, hb1⟩
          clear HG
          go_wp2_with fail
          go_step3
          refine ⟨rfl, ?_⟩
          go_wp2_with fail
          simp only [Exit.noGoto, Exit.jump]
          exact bodyPost_ret (results_tmp3 (t := 2) (u := 3) (v := 4) rfl _ _ _) rfl (faults_mk hb1 s _)
        rw [if_neg (by omega)]
        have hn0 : ((n : Int) == 0) = false := by rw [beq_eq_false_iff_ne]; omega
        by_cases c3 : r.length < n + 4
        · rw [if_pos c3]
          show Calls _ _ _ _ (Faults w s 20)
          have c4 : L.size < n + 4 := by omega
          clear hLz hn64
          go_enter Tryd.func25, Tryd.ntmps25
          go_wp2_with fail
          refine wp_scope_fwd 0 rfl ?_
          go_wp2_with fail
          refine HG.out.mono ?_
          rintro e w1 ⟨rfl, hb1⟩
          clear HG
          go_wp2_with fail
          go_step3
          refine ⟨rfl, ?_⟩
          go_wp2_with fail
          simp only [Exit.noGoto, Exit.jump]
          exact bodyPost_ret (results_tmp3 (t := 2) (u := 3) (v := 4) rfl _ _ _) rfl (faults_mk hb1 s _)
        rw [if_neg c3]
        have c4 : ¬ L.size < n + 4 := by omega
        have c5 : n ≤ L.size := by omega
        have hB := ext_to L r hLl n
        have hD := ext_from L r hLl n L.size (by omega)
        obtain ⟨B, hB2⟩ : ∃ B : ByteArray, (⟨(r.take n).toArray⟩ : ByteArray) = B := ⟨_, rfl⟩
        obtain ⟨D, hD2⟩ : ∃ D : ByteArray, (⟨(r.drop n).toArray⟩ : ByteArray) = D := ⟨_, rfl⟩
        have hBl : B.data.toList = r.take n := by rw [← hB2]
        have hDl : D.data.toList = r.drop n := by rw [← hD2]
        have hBz : B.size ≤ 100000 := by rw [← hB2, mk_size, List.length_take]; omega
        have hDz : 4 ≤ D.size := by rw [← hD2, mk_size, List.length_drop]; omega
        have hDz2 : D.size ≤ 100000 := by rw [← hD2, mk_size, List.length_drop]; omega
        have hDr : (r.drop n).length ≤ D.size := by rw [← hD2, mk_size]; omega
        rw [hB2] at hB
        rw [hD2] at hD
        have hQ := ext_to D (r.drop n) hDl 4
        have hZ := ext_from D (r.drop n) hDl 4 D.size hDr
        rw [List.drop_drop] at hZ
        obtain ⟨Q4, hQ2⟩ : ∃ Q4 : ByteArray, (⟨((r.drop n).take 4).toArray⟩ : ByteArray) = Q4 := ⟨_, rfl⟩
        obtain ⟨Z, hZ2⟩ : ∃ Z : ByteArray, (⟨(r.drop (n + 4)).toArray⟩ : ByteArray) = Z := ⟨_, rfl⟩
        have hQl : Q4.data.toList = (r.drop n).take 4 := by rw [← hQ2]
        have hQz : Q4.size ≤ 4 := by rw [← hQ2, mk_size, List.length_take]; omega
        rw [hQ2] at hQ
        rw [hZ2] at hZ
        have CC := Lib.hid (fcheck_any B (by omega))
        rw [hBl] at CC
        have CN := Lib.hid (fnum_any Q4 hQz)
        rw [hQl] at CN
        have HB2 := Lib.hid hB2
        have HZ2 := Lib.hid hZ2
        clear hBl hDl hQl hLl hB2 hD2 hQ2 hZ2 hDr hLz c3
        have HPOST : Hid (∀ e w', (if chkN (r.take n) ≠ val ((r.drop n).take 4) then Faults w s 31 e w' else (e = .returned (.tuple #[.string B, .string Z, .nilIface]) ∧ Below w.heap.size w w')) → RdPost w s (if chkN (r.take n) ≠ val ((r.drop n).take 4) then .bad 31 else .ok (r.take n) (r.drop (n + 4))) e w') := by
          intro e w' hh
          by_cases c : chkN (r.take n) ≠ val ((r.drop n).take 4)
          · rw [if_pos c] at hh ⊢
            exact hh
          · rw [if_neg c] at hh ⊢
            show _ = _ ∧ _
            rw [HB2.out, HZ2.out]
            exact hh
        refine Calls.mono ?_ (fun e w' hh => HPOST.out e w' hh)
        clear HPOST HB2 HZ2
        generalize chkN (r.take n) = cn at *
        generalize val ((r.drop n).take 4) = vn at *
        by_cases c6 : cn = vn
        · subst c6
          refine Calls.mono (R := fun e w' => e = .returned (.tuple #[.string B, .string Z, .nilIface]) ∧ Below w.heap.size w w') ?_ (fun e w' hh => by rw [if_neg (by simp)]; exact hh)
          go_enter Tryd.func25, Tryd.ntmps25
          go_wp2_with fail
          refine wp_scope_fwd 0 rfl ?_
          go_wp2_with fail
          refine HG.out.mono ?_
          rintro e w1 ⟨rfl, hb1⟩
          clear HG
          go_wp2_with fail
          have st1 := (St.start w).to hb1
          clear hb1
          obtain ⟨bl2, E2, hne2, sh2, rl, hEx, hbx, hst⟩ := st1.hide
          refine region_st sh2 (by kernel_rfl) (by kernel_rfl) ?_
          repeat (first | go_big_quiet_step (fail) | quiet_step (fail))
          refine wpQuiet_nil ?_
          intro y
          have st3 := (hst y).out
          clear hbx rl hst sh2 hEx st1 hne2
          generalize y.W = w3 at *
          clear y
          go_wp2_with fail
          obtain ⟨bl4, E4, hne4, sh4, rl, hEx, hbx, hst⟩ := st3.hide
          refine region_st sh4 (by kernel_rfl) (by kernel_rfl) ?_
          repeat (first | go_big_quiet_step (((first | (go_at_call 16; exact Cs.call (CC.out _)) | (go_at_call 33; exact Cs.call_same (CN.out _))))) | quiet_step (((first | (go_at_call 16; exact Cs.call (CC.out _)) | (go_at_call 33; exact Cs.call_same (CN.out _))))))
          refine wpQuiet_nil ?_
          intro y
          have st5 := (hst y).out
          clear hbx rl hst sh4 hEx st3 hne4
          generalize y.W = w5 at *
          clear y CC CN
          go_wp2_with fail
          obtain ⟨bl6, E6, hne6, sh6, rl, hEx, hbx, hst⟩ := st5.hide
          refine region_st sh6 (by kernel_rfl) (by kernel_rfl) ?_
          repeat (first | go_big_quiet_step (fail) | quiet_step (fail))
          refine wpQuiet_nil ?_
          intro y
          have st7 := (hst y).out
          clear hbx rl hst sh6 hEx st5 hne6
          generalize y.W = w7 at *
          go_wp2_with fail
          simp only [Exit.noGoto, Exit.jump]
          exact bodyPost_ret (results_tmp3 (t := 2) (u := 3) (v := 4) rfl _ _ _) rfl ⟨rfl, st7.below⟩
        · refine Calls.mono (R := Faults w s 31) ?_ (fun e w' hh => by rw [if_pos c6]; exact hh)
          have c7 : ((cn : Int) != (vn : Int)) = true := by rw [bne_iff_ne]; omega
          go_enter Tryd.func25, Tryd.ntmps25
          go_wp2_with fail
          refine wp_scope_fwd 0 rfl ?_
          go_wp2_with fail
          refine HG.out.mono ?_
          rintro e w1 ⟨rfl, hb1⟩
          clear HG
          go_wp2_with fail
          have st1 := (St.start w).to hb1
          clear hb1
          obtain ⟨bl2, E2, hne2, sh2, rl, hEx, hbx, hst⟩ := st1.hide
          refine region_st sh2 (by kernel_rfl) (by kernel_rfl) ?_
          repeat (first | go_big_quiet_step (fail) | quiet_step (fail))
          refine wpQuiet_nil ?_
          intro y
          have st3 := (hst y).out
          clear hbx rl hst sh2 hEx st1 hne2
          generalize y.W = w3 at *
          clear y
          go_wp2_with fail
          obtain ⟨bl4, E4, hne4, sh4, rl, hEx, hbx, hst⟩ := st3.hide
          refine region_st sh4 (by kernel_rfl) (by kernel_rfl) ?_
          repeat (first | go_big_quiet_step (((first | (go_at_call 16; exact Cs.call (CC.out _)) | (go_at_call 33; exact Cs.call_same (CN.out _))))) | quiet_step (((first | (go_at_call 16; exact Cs.call (CC.out _)) | (go_at_call 33; exact Cs.call_same (CN.out _))))))
          refine wpQuiet_nil ?_
          intro y
          have st5 := (hst y).out
          clear hbx rl hst sh4 hEx st3 hne4
          generalize y.W = w5 at *
          clear y CC CN
          go_wp2_with fail
          go_step3
          refine ⟨rfl, ?_⟩
          go_wp2_with fail
          simp only [Exit.noGoto, Exit.jump]
          exact bodyPost_ret (results_tmp3 (t := 2) (u := 3) (v := 4) rfl _ _ _) rfl (faults_mk st5.below s _)
    · have h30 : readL (x :: t) = .bad 30 := if_pos c0
      rw [h30]
      show Calls _ _ _ _ (Faults w s 30)
      have hxn : ((x.toNat : Int) != 167) = true := by
        rw [bne_iff_ne]
        intro e
        apply c0
        apply UInt8.toNat_inj.1
        show x.toNat = 167
        omega
      clear hl hz
      go_enter Tryd.func25, Tryd.ntmps25
      go_wp2_with fail
      refine wp_scope_fwd 0 rfl ?_
      go_wp2_with fail
      go_step3
      refine ⟨rfl, ?_⟩
      go_wp2_with fail
      simp only [Exit.noGoto, Exit.jump]
      exact bodyPost_ret (results_tmp3 (t := 2) (u := 3) (v := 4) rfl _ _ _) rfl (faults_mk (Below.refl _ _) s _)

end Go.Proofs.YtafabdgkinfceaaDoor
