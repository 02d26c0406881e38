/- field.GetList and aviaryref02.GetList, walked. -/
import Derived.Test.YtadfecglbeimbaaDoorRefPutList
import Derived.ScopeJumps
import Derived.WalkMore
namespace Go.Proofs.YtadfecglbeimbaaDoor
open Go.RowKit Go.Shelf
set_option linter.unusedSimpArgs false
set_option linter.unusedVariables false

/-- a scope that is left by a jump ahead -/
theorem wp_scope_fwd {P : Program} {a : Act} {w : World} {Q : Exit → Act → World → Prop} {c rest : Code} (l : Nat) (hf : findLabel c l = some rest)
    (first : c.wp P (Exit.jump l (fun a w => rest.wp P (Exit.noGoto Q) a w) Q) a w) : (Code.scope c).wp P Q a w :=
  wp_scope_jumps l (fun a w => rest.wp P (Exit.noGoto Q) a w) (fun _ _ => 0) hf first (fun a w h => wp_mono h (fun e a w hq => by
    cases e with
    | goto l' => exact hq.elim
    | _ => exact hq))

def baOf (t : List UInt8) : ByteArray := ⟨t.toArray⟩
def txtsS : GotS → List ByteArray
  | .ok ts _ => ts.map baOf
  | _ => []
def restS (s : ByteArray) : GotS → ByteArray
  | .ok _ r => ⟨r.toArray⟩
  | _ => s
def noS : GotS → Int
  | .more => 20
  | .field => 21
  | .ok _ _ => 0
theorem listG_1 {n : Nat} {r : List UInt8} (h : 100 < n) : listG (.ok n r) = .field := if_pos h
theorem listG_2 {n : Nat} {r : List UInt8} (h : ¬ 100 < n) : listG (.ok n r) = textsA n [] r := if_neg h
theorem data_ba (t : List UInt8) : (⟨t.toArray⟩ : ByteArray).data.toList = t := by simp

theorem Reads.own {W W' : World} {R B : Nat} {u v : Value} {left : ByteArray} {e : Ending} {L : List ByteArray} (h : Reads W R u left e W') (hown : OwnS W B v L) (hR : R < B) : OwnS W' B v L := hown.other h.2.2 hR

set_option maxRecDepth 100000 in
set_option maxHeartbeats 4000000 in
theorem getList_any {p q : Addr} {w : World} (h : Sents p q w) (s : ByteArray) (hs : s.size ≤ 9223372036854775807) :
    Calls Tryd.prog 22 #[.string s] w fun e w' => ∃ v, e = .returned (.tuple #[v, .string (restS s (listL s.data.toList)), .int .i64 (noS (listL s.data.toList))]) ∧ OwnS w' w.heap.size v (txtsS (listL s.data.toList)) ∧ Below w.heap.size w w' := by
  have hback := Lib.hid (getL_back s.data.toList)
  have hsl : s.data.toList.length = s.size := by simp
  rw [hsl] at hback
  obtain ⟨g, hg⟩ : ∃ g, getL s.data.toList = g := ⟨_, rfl⟩
  obtain ⟨G, hG⟩ : ∃ G, listL s.data.toList = G := ⟨_, rfl⟩
  rw [hG]
  have HG := Lib.hid hg
  have HGL : Hid (listG g = G) := by show _ = _; rw [← hg]; exact hG
  rw [hg] at hback
  clear hg hsl hG
  have st0 := (St.start w).alloc (cs := #[.string s]) (T := 48)
  have h1 := h.below (Nat.le_refl _) st0.below
  go_enter Tryd.func22, Tryd.ntmps22
  go_wp2_with fail
  refine wp_scope_fwd 0 rfl ?_
  go_wp2_with fail
  refine (number_any h1 _ s hs (st0.blk _ (List.mem_of_getElem? (i := 0) rfl))).mono ?_
  intro e w1 hr
  rw [HG.out] at hr
  have st1 := hr.stT st0 0 rfl (Nat.le_refl _)
  obtain ⟨rfl, -, -⟩ := hr
  simp only [setB, List.modify_zero_cons, List.setIfInBounds_toArray, List.set_cons_zero] at st1
  have h2 := h.below (Nat.le_refl _) st1.below
  clear st0 h1 HG
  cases g with
  | more =>
    obtain rfl : GotS.more = G := HGL.out
    simp only [numV, leftOf] at *
    go_wp2_with fail
    go_step3
    refine ⟨rfl, ?_⟩
    go_wp2_with (refine (errno_more h2).mono ?_; rintro e w' ⟨rfl, rfl⟩)
    simp only [Exit.noGoto, Exit.jump]
    exact bodyPost_ret (results_tmp3 (t := 2) (u := 3) (v := 4) rfl _ _ _) rfl ⟨.slice none 0 0, rfl, OwnS.nil _ _, st1.below⟩
  | field =>
    obtain rfl : GotS.field = G := HGL.out
    simp only [numV, leftOf] at *
    go_wp2_with fail
    go_step3
    refine ⟨rfl, ?_⟩
    go_wp2_with (refine (errno_field h2).mono ?_; rintro e w' ⟨rfl, rfl⟩)
    simp only [Exit.noGoto, Exit.jump]
    exact bodyPost_ret (results_tmp3 (t := 2) (u := 3) (v := 4) rfl _ _ _) rfl ⟨.slice none 0 0, rfl, OwnS.nil _ _, st1.below⟩
  | ok n r =>
    obtain ⟨-, hn64, hrl⟩ := hback.out n r rfl
    clear hback
    simp only [numV, leftOf] at *
    by_cases c1 : 100 < n
    · obtain rfl : GotS.field = G := by rw [← HGL.out]; exact (listG_1 c1).symm
      have hm : w1.cell? ⟨0, 0, none⟩ = some (.iface 97 (.pointer (some q))) := h2.field
      clear HGL
      go_wp2_with fail
      go_step3
      refine ⟨rfl, ?_⟩
      go_wp2_with (refine (errno_field h2).mono ?_; rintro e w' ⟨rfl, rfl⟩)
      simp only [Exit.noGoto, Exit.jump]
      exact bodyPost_ret (results_tmp3 (t := 2) (u := 3) (v := 4) rfl _ _ _) rfl ⟨.slice none 0 0, rfl, OwnS.nil _ _, st1.below⟩
    have d1 : n ≤ 100 := by omega
    have HT : Hid (textsA n [] r = G) := by show _ = _; rw [← HGL.out]; exact (listG_2 c1).symm
    clear HGL
    have hlz : (⟨r.toArray⟩ : ByteArray).size ≤ s.size := by
      show r.toArray.size ≤ _
      simp
      omega
    have hR1 : w.heap.size < w1.heap.size := blk_lt (st1.blk _ (List.mem_of_getElem? (i := 0) rfl))
    have HLR : Hid (textsA n [] (⟨r.toArray⟩ : ByteArray).data.toList = G) := by show _ = _; rw [data_ba]; exact HT.out
    generalize (⟨r.toArray⟩ : ByteArray) = lb at *
    clear HT hrl
    go_wp2_with fail
    go_loopw [5, 8, 9, 23] (fun v _ _ i wr => ∃ (k : Nat) (vv : Value) (T : List (List UInt8)) (left : ByteArray), vv = v ∧ k ≤ n ∧ i = .int .u64 k ∧ T.length = k ∧ left.size ≤ s.size ∧ Hid (textsA (n - k) T left.data.toList = G) ∧ St w [(w.heap.size, #[.string left], 48)] (fun _ => True) wr ∧ w1.heap.size ≤ wr.heap.size ∧ OwnS wr w1.heap.size vv (T.map baOf)) (fun _ _ _ i _ => n - (intOf i).toNat)
    case atStart => exact ⟨0, _, [], lb, rfl, Nat.zero_le _, rfl, rfl, hlz, HLR, st1, Nat.le_refl _, OwnS.nil _ _⟩
    case round =>
      clear HLR hlz st1
      obtain ⟨k, vv, T, left, rfl, hk, rfl, hTk, hls, HA, st, hzr, hown⟩ := hrel
      have hS := h.below (Nat.le_refl _) st.below
      by_cases hkn : k < n
      · go_wp2_with fail
        refine (text_any h st.below _ (Nat.le_refl _) left (by omega) (st.blk _ (List.mem_of_getElem? (i := 0) rfl))).mono ?_
        intro e w2 hr
        have st2 := hr.stT st 0 rfl (Nat.le_refl _)
        have hown2 := hr.own hown hR1
        have hz2 := hr.2.2.size
        obtain ⟨rfl, -, -⟩ := hr
        simp only [setB, List.modify_zero_cons, List.setIfInBounds_toArray, List.set_cons_zero] at st2
        have h3 := h.below (Nat.le_refl _) st2.below
        have hnk : n - k = (n - (k + 1)) + 1 := by omega
        have HA' := HA.out
        rw [hnk] at HA'
        clear hnk HA st hown
        obtain ⟨gt, hgt⟩ : ∃ gt, textL left.data.toList = gt := ⟨_, rfl⟩
        rw [hgt]
        cases gt with
        | more =>
          rw [textsA_more hgt] at HA'
          subst HA'
          clear hgt
          simp only [textV]
          go_wp2_with fail
          go_step3
          refine ⟨rfl, ?_⟩
          go_wp2_with (refine (errno_more h3).mono ?_; rintro e w' ⟨rfl, rfl⟩)
          simp only [Exit.noGoto, Exit.jump]
          exact bodyPost_ret (results_tmp3 (t := 2) (u := 3) (v := 4) rfl _ _ _) rfl ⟨.slice none 0 0, rfl, OwnS.nil _ _, st2.below⟩
        | field =>
          rw [textsA_field hgt] at HA'
          subst HA'
          clear hgt
          simp only [textV]
          go_wp2_with fail
          go_step3
          refine ⟨rfl, ?_⟩
          go_wp2_with (refine (errno_field h3).mono ?_; rintro e w' ⟨rfl, rfl⟩)
          simp only [Exit.noGoto, Exit.jump]
          exact bodyPost_ret (results_tmp3 (t := 2) (u := 3) (v := 4) rfl _ _ _) rfl ⟨.slice none 0 0, rfl, OwnS.nil _ _, st2.below⟩
        | ok t u =>
          rw [textsA_ok hgt] at HA'
          rw [leftG_ok left _ t u hgt] at st2
          have hul := (textL_back _ _ _ hgt).2.2
          have HA2 : Hid (textsA (n - (k + 1)) (T ++ [t]) (⟨u.toArray⟩ : ByteArray).data.toList = G) := by show _ = _; rw [data_ba]; exact HA'
          have hus : (⟨u.toArray⟩ : ByteArray).size ≤ s.size := by
            show u.toArray.size ≤ _
            simp at hul ⊢
            omega
          clear hgt HA' hul
          simp only [textV]
          generalize (⟨u.toArray⟩ : ByteArray) = ub at *
          have HM : Hid ((T ++ [t]).map baOf = T.map baOf ++ [⟨t.toArray⟩]) := by show _ = _; rw [List.map_append]; rfl
          have hml : (T.map baOf).length ≤ 100 := by simp; omega
          have hT1 : (T ++ [t]).length = k + 1 := by simp [hTk]
          generalize T.map baOf = M at *
          generalize T ++ [t] = T2 at *
          generalize (⟨t.toArray⟩ : ByteArray) = tb at *
          clear hTk
          go_wp2_with (at_builtin; refine append_str rfl (.tmp 31) (.tmp 33) rfl w1.heap.size vv M tb rfl st2 hown2 (by omega) (by simpa using hR1) (by omega) w2.heap.size rfl rfl (by omega) ?_; intro v5 w5 st5 hown5 hz5)
          rw [← HM.out] at hown5
          go_roundw
          case rel => exact ⟨k + 1, _, T2, ub, rfl, hkn, by go_num, hT1, hus, HA2, st5, by omega, hown5⟩
          case measure => simp [intOf]; omega
      · obtain rfl : k = n := by omega
        have HA' := HA.out
        rw [Nat.sub_self] at HA'
        obtain rfl : GotS.ok T left.data.toList = G := HA'
        clear HA
        have hown1 := hown.base (Nat.le_of_lt hR1)
        have hlf : (⟨left.data.toList.toArray⟩ : ByteArray) = left := by cases left; simp
        have HLF : Hid (restS s (GotS.ok T left.data.toList) = left) := hlf
        have HTX : Hid (txtsS (GotS.ok T left.data.toList) = T.map baOf) := rfl
        clear hlf
        have st' := st.also hown1 OwnS.keep
        clear hown hown1 st
        go_wp2_with fail
        obtain ⟨bl2, E2, hne2, sh2, rl, hEx, hbx, hst⟩ := st'.hide
        refine region_st sh2 (by kernel_rfl) (by kernel_rfl) ?_
        simp only [Rules] at rl
        repeat (first | go_big_quiet_step (fail) | quiet_step (fail))
        refine wpQuiet_nil ?_
        intro y
        have st3 := (hst y).out
        clear hbx rl hst sh2 hEx st'
        generalize y.W = w3 at *
        go_wp2_with fail
        simp only [Exit.noGoto, Exit.jump]
        refine bodyPost_ret (results_tmp3 (t := 2) (u := 3) (v := 4) rfl _ _ _) rfl ⟨vv, ?_, ?_, st3.below⟩
        · rw [HLF.out]; rfl
        · rw [HTX.out]; exact st3.ex.2

set_option maxRecDepth 100000 in
set_option maxHeartbeats 4000000 in
theorem refGetList_any (s : ByteArray) (hs : s.size ≤ 9223372036854775807) (w : World) :
    Calls Tryd.prog 27 #[.string s] w fun e w' => ∃ v, e = .returned (.tuple #[v, .string (restS s (listL s.data.toList)), .int .i64 (noS (listL s.data.toList))]) ∧ OwnS w' w.heap.size v (txtsS (listL s.data.toList)) ∧ Below w.heap.size w w' := by
  have hback := Lib.hid (getL_back s.data.toList)
  have hsl : s.data.toList.length = s.size := by simp
  rw [hsl] at hback
  have HR := Lib.hid (refGet_any s hs)
  unfold getV at HR
  obtain ⟨G, hG⟩ : ∃ G, listL s.data.toList = G := ⟨_, rfl⟩
  rw [hG]
  obtain ⟨g, hg⟩ : ∃ g, getL s.data.toList = g := ⟨_, rfl⟩
  have HGL : Hid (listG g = G) := by show _ = _; rw [← hg]; exact hG
  rw [hg] at hback HR
  clear hg hsl hG
  go_enter Tryd.func27, Tryd.ntmps27
  go_wp2_with fail
  refine (HR.out _).mono ?_
  rintro e w1 ⟨rfl, hb1⟩
  clear HR
  cases g with
  | more =>
    obtain rfl : GotS.more = G := HGL.out
    simp only [numOf, leftOf, noOf] at *
    go_wp2_with fail
    exact bodyPost_ret (results_tmp3 (t := 2) (u := 3) (v := 4) rfl _ _ _) rfl ⟨_, rfl, OwnS.nil _ _, hb1⟩
  | field =>
    obtain rfl : GotS.field = G := HGL.out
    simp only [numOf, leftOf, noOf] at *
    go_wp2_with fail
    exact bodyPost_ret (results_tmp3 (t := 2) (u := 3) (v := 4) rfl _ _ _) rfl ⟨_, rfl, OwnS.nil _ _, hb1⟩
  | ok n r =>
    obtain ⟨-, hn64, hrl⟩ := hback.out n r rfl
    clear hback
    simp only [numOf, leftOf, noOf] at *
    by_cases c1 : 100 < n
    · obtain rfl : GotS.field = G := by rw [← HGL.out]; exact (listG_1 c1).symm
      clear HGL
      go_wp2_with fail
      exact bodyPost_ret (results_tmp3 (t := 2) (u := 3) (v := 4) rfl _ _ _) rfl ⟨_, rfl, OwnS.nil _ _, hb1⟩
    have d1 : n ≤ 100 := by omega
    have HT : Hid (textsA n [] r = G) := by show _ = _; rw [← HGL.out]; exact (listG_2 c1).symm
    clear HGL
    have hlz : (⟨r.toArray⟩ : ByteArray).size ≤ s.size := by
      show r.toArray.size ≤ _
      simp
      omega
    have HLR : Hid (textsA n [] (⟨r.toArray⟩ : ByteArray).data.toList = G) := by show _ = _; rw [data_ba]; exact HT.out
    generalize (⟨r.toArray⟩ : ByteArray) = lb at *
    clear HT hrl
    go_wp2_with fail
    go_loopw [6, 8, 9] (fun lv v i wr => ∃ (k : Nat) (vv : Value) (T : List (List UInt8)) (left : ByteArray), vv = v ∧ lv = .string left ∧ k ≤ n ∧ i = .int .u64 k ∧ T.length = k ∧ left.size ≤ s.size ∧ Hid (textsA (n - k) T left.data.toList = G) ∧ St w [] (fun _ => True) wr ∧ OwnS wr w.heap.size vv (T.map baOf)) (fun _ _ i _ => n - (intOf i).toNat)
    case atStart => exact ⟨0, _, [], lb, rfl, rfl, Nat.zero_le _, rfl, rfl, hlz, HLR, (St.start w).to hb1, OwnS.nil _ _⟩
    case round =>
      clear HLR hlz hb1
      obtain ⟨k, vv, T, left, rfl, rfl, hk, rfl, hTk, hls, HA, st, hown⟩ := hrel
      by_cases hkn : k < n
      · go_wp2_with fail
        refine (refGetText_any left (by omega) _).mono ?_
        rintro e w2 ⟨rfl, hb2⟩
        have st2 := st.to hb2
        have hown2 := OwnS.keep _ _ hown hb2
        have hz2 := st2.below.size
        have hnk : n - k = (n - (k + 1)) + 1 := by omega
        have HA' := HA.out
        rw [hnk] at HA'
        clear hnk HA st hown hb2
        obtain ⟨gt, hgt⟩ : ∃ gt, textL left.data.toList = gt := ⟨_, rfl⟩
        rw [hgt]
        cases gt with
        | more =>
          rw [textsA_more hgt] at HA'
          subst HA'
          clear hgt
          simp only [getTextV]
          go_wp2_with fail
          exact bodyPost_ret (results_tmp3 (t := 2) (u := 3) (v := 4) rfl _ _ _) rfl ⟨_, rfl, OwnS.nil _ _, st2.below⟩
        | field =>
          rw [textsA_field hgt] at HA'
          subst HA'
          clear hgt
          simp only [getTextV]
          go_wp2_with fail
          exact bodyPost_ret (results_tmp3 (t := 2) (u := 3) (v := 4) rfl _ _ _) rfl ⟨_, rfl, OwnS.nil _ _, st2.below⟩
        | ok t u =>
          rw [textsA_ok hgt] at HA'
          have hul := (textL_back _ _ _ hgt).2.2
          have HA2 : Hid (textsA (n - (k + 1)) (T ++ [t]) (⟨u.toArray⟩ : ByteArray).data.toList = G) := by show _ = _; rw [data_ba]; exact HA'
          have hus : (⟨u.toArray⟩ : ByteArray).size ≤ s.size := by
            show u.toArray.size ≤ _
            simp at hul ⊢
            omega
          clear hgt HA' hul
          simp only [getTextV]
          generalize (⟨u.toArray⟩ : ByteArray) = ub at *
          have HM : Hid ((T ++ [t]).map baOf = T.map baOf ++ [⟨t.toArray⟩]) := by show _ = _; rw [List.map_append]; rfl
          have hml : (T.map baOf).length ≤ 100 := by simp; omega
          have hT1 : (T ++ [t]).length = k + 1 := by simp [hTk]
          generalize T.map baOf = M at *
          generalize T ++ [t] = T2 at *
          generalize (⟨t.toArray⟩ : ByteArray) = tb at *
          clear hTk
          go_wp2_with (at_builtin; refine append_str rfl (.tmp 44) (.tmp 46) rfl w.heap.size vv M tb rfl st2 hown2 (Nat.le_refl _) (by simp) hz2 w2.heap.size rfl rfl (by omega) ?_; intro v5 w5 st5 hown5 hz5)
          rw [← HM.out] at hown5
          go_roundw
          case rel => exact ⟨k + 1, _, T2, ub, rfl, rfl, hkn, by go_num, hT1, hus, HA2, st5, hown5⟩
          case measure => simp [intOf]; omega
      · obtain rfl : k = n := by omega
        have HA' := HA.out
        rw [Nat.sub_self] at HA'
        obtain rfl : GotS.ok T left.data.toList = G := HA'
        clear HA
        have hlf : (⟨left.data.toList.toArray⟩ : ByteArray) = left := by cases left; simp
        have HLF : Hid (restS s (GotS.ok T left.data.toList) = left) := hlf
        have HTX : Hid (txtsS (GotS.ok T left.data.toList) = T.map baOf) := rfl
        clear hlf
        go_wp2_with fail
        refine bodyPost_ret (results_tmp3 (t := 2) (u := 3) (v := 4) rfl _ _ _) rfl ⟨vv, ?_, ?_, st.below⟩
        · rw [HLF.out]; rfl
        · rw [HTX.out]; exact hown

end Go.Proofs.YtadfecglbeimbaaDoor
