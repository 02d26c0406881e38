/- frame.All, walked. -/
import Derived.Test.YtafabdgkinfceaaDoorFrmT
import Derived.Test.YtafabdgkinfceaaDoorStrRow
import Derived.Shelf.RegionOpen
namespace Go.Proofs.YtafabdgkinfceaaDoor
open Go.RowKit Go.Shelf
set_option linter.unusedSimpArgs false
set_option linter.unusedVariables false

def baOf (t : List UInt8) : ByteArray := ⟨t.toArray⟩
/-- what All gives -/
def AllPost (w : World) (G : List (List UInt8) × List UInt8 × Nat) (e : Ending) (w' : World) : Prop :=
  ∃ v, e = .returned (.tuple #[v, .string ⟨G.2.1.toArray⟩, .int .i64 G.2.2]) ∧ OwnS w' w.heap.size v (G.1.map baOf) ∧ Below w.heap.size w w'

/-- the state between two rounds -/
def StA (w : World) (B : Nat) (s : ByteArray) (pre : List FE) (W : World) : Prop :=
  ∃ v, (∀ x ∈ pre, x.isOk) ∧ St w [(w.heap.size + 2, #[.int .i64 20], 23), (w.heap.size + 1, #[.string s], 9), (w.heap.size, #[v], 37)] (fun _ => True) W ∧ B ≤ W.heap.size ∧ OwnS W B v ((FE.bodies pre).map baOf)
/-- the state behind the break -/
def StB (w : World) (B : Nat) (c : Code) (pre : List FE) (W : World) : Prop :=
  c = .exit 0 ∧ ∃ p cur no A v, pre = p ++ [.bad cur no A] ∧ St w [(w.heap.size + 2, #[.int .i64 (no : Nat)], 23), (w.heap.size + 1, #[.string cur], 9), (w.heap.size, #[v], 37)] (fun _ => True) W ∧ B ≤ W.heap.size ∧ OwnS W B v ((FE.bodies p).map baOf)
theorem StA.bears (w : World) (s : ByteArray) : Bears (w.heap.size + 3) (StA w (w.heap.size + 4) s) := by
  rintro pre A B ⟨v, h1, h2, h3, h4⟩ hg
  refine ⟨v, h1, h2.grown hg ?_, Nat.le_trans h3 hg.size, h4.other hg (by omega)⟩
  rintro k e
  obtain rfl : w.heap.size + 3 = k := by simpa using e
  exact ⟨by omega, by simp⟩
theorem StB.bears (w : World) (c : Code) : Bears (w.heap.size + 3) (StB w (w.heap.size + 4) c) := by
  rintro pre A B ⟨h0, p, cur, no, A', v, h1, h2, h3, h4⟩ hg
  refine ⟨h0, p, cur, no, A', v, h1, h2.grown hg ?_, Nat.le_trans h3 hg.size, h4.other hg (by omega)⟩
  rintro k e
  obtain rfl : w.heap.size + 3 = k := by simpa using e
  exact ⟨by omega, by simp⟩
theorem StA.own (w : World) (s : ByteArray) : OwnFrom (w.heap.size + 4) (StA w (w.heap.size + 4) s) := by
  rintro pre A B row ⟨v, h1, h2, h3, h4⟩ hg hr
  exact ⟨v, h1, h2.own hg hr (by omega), Nat.le_trans h3 hg.size, ownsRow_own h4 hg (fun r e => (hr r e).2)⟩
theorem StB.own (w : World) (c : Code) : OwnFrom (w.heap.size + 4) (StB w (w.heap.size + 4) c) := by
  rintro pre A B row ⟨h0, p, cur, no, A', v, h1, h2, h3, h4⟩ hg hr
  exact ⟨h0, p, cur, no, A', v, h1, h2.own hg hr (by omega), Nat.le_trans h3 hg.size, ownsRow_own h4 hg (fun r e => (hr r e).2)⟩
/-- the loop's variable, in a block of its own, and what it tells -/
def AxF (x : FE) (b : Nat) (W : World) : Prop := W.heap[b]? = some (.cells #[.string x.fa, .string x.fb] 62 (0, 0)) ∧ x.Pre W
theorem AxF.own (x : FE) (b n : Nat) : OwnFrom n (fun (_ : Unit) W => AxF x b W) := by
  rintro _ A B row ⟨h1, h2⟩ hg hr
  refine ⟨block_own h1 hg (fun r e => (hr r e).2), ?_⟩
  cases x with
  | ok b r => trivial
  | bad cur no A => exact block_own h2 hg (fun r e => (hr r e).2)

theorem ownsRow_cells {W : World} {B : Nat} {e : TypeId} {size : Nat} {v : Value} {k : Nat} {xs : List Value} (hr : W.ownsRow B e size v k xs) (j : Nat) (o : Obj) (h : v.ownBlock = some j) (ho : W.heap[j]? = some o) : o.isCells = true := by
  rcases hr.2 with ⟨rfl, _⟩ | ⟨g, cap, cur, rfl, _, hgb, _⟩
  · simp [Value.ownBlock] at h
  · obtain rfl : g = j := by simpa [Value.ownBlock] using h
    rw [hgb] at ho; cases ho; rfl
theorem append_strIn {F : Fence} {m : Nat} {ops : Array Oper} {rest : List Oper} {o : Oper} {a : Act} {Q : Exit → Act → World → Prop} {w0 W : World} {bl : List Blk} (hgd : o.guard = none) (s x : Operand)
    (ho : o.op = .call { callee := .builtin .append, args := #[s, x], argTypes := #[37, 37] }) (B : Nat) (v : Value) (L : List ByteArray) (y : ByteArray) (hs : a.eval s = v) (st : St w0 bl (fun _ => True) W) (hown : OwnS W B v L)
    (hw : w0.heap.size ≤ B) (hbl : ∀ z ∈ bl, z.1 < B) (hB : B ≤ W.heap.size) (g : Nat) (hg : g = W.heap.size) (hx : a.eval x = .slice (some ⟨g, 0, none⟩) 1 1) (hn : L.length + 1 ≤ 1000000)
    (h : ∀ v' w', St w0 bl (fun _ => True) w' → OwnS w' B v' (L ++ [y]) → W.heap.size ≤ w'.heap.size → KeepsOthers W w' → (∀ k, k < B → w'.heap[k]? = W.heap[k]?) → wpListIn F m Tryd.prog ops Q rest (a.put o.dst v') w') :
    wpListIn F m Tryd.prog ops Q (o :: rest) a (W.alloc (.cells #[.string y] 9)) := by
  obtain ⟨i0, hi, hz0, hz1, hz2⟩ := info_parts infoStr
  subst hg
  refine wpListIn_append_own _ hgd s x 37 ho B 9 i0 (.string ⟨#[]⟩) 1 16 Tryd.underlying37 hi hz0 hz1 hz2 rfl (by decide) v L.length (L.map Value.string) hs (World.ownsRow.alloc hown _) ⟨W.heap.size, 0, none⟩ 1 1 [.string y] hx (by simp) ?_ ?_ (by unfold maxLen; omega) (by omega) (by simp; omega) ?_
  · intro j u hj
    rw [Addr.add_lit, Nat.zero_add, blk_cell (World.alloc_heap_new W _), List.getElem?_toArray, hj]
  · intro u hu
    obtain rfl := List.mem_singleton.1 hu
    rfl
  · intro v' w' hown' hgr _
    have hba := (Below.refl W.heap.size W).alloc (Nat.le_refl _) (.cells #[.string y] 9)
    have sta := st.to hba
    have hlt : ∀ k, v.ownBlock = some k → B ≤ k := fun k hk => (hown.lt k hk).1
    refine h v' w' (sta.grown hgr fun k hk => ?_) ?_ ?_ ?_ ?_
    · have := hlt k hk
      exact ⟨by omega, fun z hz => by have := hbl z hz; omega⟩
    · unfold OwnS
      rw [List.length_append, List.map_append]
      exact hown'
    · have := hgr.size
      simp at this
      omega
    · refine (keepsOthers_below hba).trans (KeepsOthers.of_grownBy hgr fun j o' ej hj => ?_)
      exact ownsRow_cells (World.ownsRow.alloc hown _) j o' ej hj
    · intro k hk
      refine (hgr.block k (by simp; omega) (fun e => ?_)).trans (hba.block k (by omega))
      have := hlt k e.symm
      omega

attribute [local go_sem] Oper.semAt_some
set_option maxRecDepth 100000 in
set_option maxHeartbeats 4000000 in
theorem all_any {p q : Addr} {w : World} (hS : Snt p q w) (s : ByteArray) (hs : s.size ≤ 100000) :
    Calls Tryd.prog 18 #[.string s] w (AllPost w (allL s.data.toList)) := by
  have HLen := Lib.hid (all_len (s.data.toList.length + 1) s.data.toList)
  refine (callsIn_wide (n := 5)).1 ?_
  refine callsIn_of_wp_marks Tryd.func18 rfl trivial ?_ rfl
  simp only [Tryd.ntmps18, List.size_toArray, List.length_cons, List.length_nil, Nat.reduceAdd, Nat.reduceSub, Array.replicate_succ, Array.replicate_zero, List.push_toArray, List.append_toArray, List.nil_append, List.cons_append]
  refine wpIn_wide.2 ?_
  go_wp2_with fail
  refine wp_scope_straight ?_
  go_wp2_with fail
  refine wp_label ?_
  go_wp2_with fail
  refine (each_any _ _).mono ?_
  rintro e w3 ⟨rfl, rfl⟩
  go_wp2_with fail
  have hz : ((((w.alloc (Obj.cells #[Value.slice none 0 0] 37)).alloc (Obj.cells #[Value.string s] 9)).alloc (Obj.cells #[Value.int IntKind.i64 20] 23)).alloc (Obj.cells #[Value.string s] 9)).heap.size = w.heap.size + 4 := by simp
  have st := ((((St.start w).alloc (cs := #[Value.slice none 0 0]) (T := 37)).alloc (cs := #[Value.string s]) (T := 9)).alloc (cs := #[Value.int IntKind.i64 20]) (T := 23)).alloc (cs := #[Value.string s]) (T := 9)
  simp only [World.size_alloc] at st
  have hBn := st.blk _ (List.mem_of_getElem? (i := 0) rfl)
  have st := st.less [(w.heap.size + 2, #[.int .i64 20], 23), (w.heap.size + 1, #[.string s], 9), (w.heap.size, #[.slice none 0 0], 37)] (List.sublist_cons_self _ _)
  generalize (((w.alloc (Obj.cells #[Value.slice none 0 0] 37)).alloc (Obj.cells #[Value.string s] 9)).alloc (Obj.cells #[Value.int IntKind.i64 20] 23)).alloc (Obj.cells #[Value.string s] 9) = w3 at *
  have hbW := st.below
  refine (wpIn_wide (n := 5)).1 (wpIn_rangeFunc_w (n := 5) (b := w.heap.size + 3) (by omega) rfl (by omega) (gf := 37) (lb := #[.pointer (some ⟨w.heap.size + 3, 0, none⟩)]) rfl trivial (enters_of Tryd.func37 (by kernel_rfl) rfl)
    (fun W hb => each_stops (hS.1) 4 (by omega) (w.heap.size + 3) s hs (by omega) w3 hbW hBn W hb)
    (fun h k => ⟨h.1.trans k.1, k.2.trans h.2⟩) ?kb (fun _ => rfl)
    (StA w (w.heap.size + 4) s) (StB w (w.heap.size + 4)) (by rw [hz]; exact StA.own w s) (fun c => by rw [hz]; exact StB.own w c) (StA.bears w s) (StB.bears w)
    ⟨.slice none 0 0, by simp, st, by omega, OwnS.nil _ _⟩
    (fun x c => { tmps := #[Value.string s, undef, Value.slice none 0 0, Value.string { data := #[] }, Value.int IntKind.i64 0,
          Value.pointer (some { block := w.heap.size, off := 0 }), Value.pointer (some { block := w.heap.size + 1, off := 0 }), Value.pointer (some { block := w.heap.size + 1 + 1, off := 0 }),
          Value.pointer (some { block := c, off := 0 }), x.err, Value.string s, Value.string s, Value.func (Fn.func 37) #[] #[Value.pointer (some { block := w.heap.size + 1 + 1 + 1, off := 0 })],
          .agg #[.string x.fa, .string x.fb], x.err, undef, undef, undef, undef, undef, undef, undef, undef, undef, undef, undef, undef, undef, undef], defers := [] })
    AxF (fun x b => AxF.own x b _) ?assign ?body ?done ?stop)
  case kb =>
    intro W l o' hl hlt
    exact ⟨(Below.refl _ W).grown (grownBy_putObj' W l o') (by omega) (fun k e => by cases e; omega), World.putObj_heap_other (by omega)⟩
  case assign =>
    intro l pre x W K hI hP hK
    obtain ⟨v, hok, st, hBW, hown⟩ := hI
    have hb := (Below.refl W.heap.size W).alloc (Nat.le_refl _) (.cells #[.string x.fa, .string x.fb] 62)
    have HK := Lib.hid (hK W.heap.size (W.alloc (.cells #[.string x.fa, .string x.fb] 62)) (keepsOthers_below hb)
      ⟨hb.mono st.below.size, hb.block _ (by omega)⟩
      ⟨v, hok, st.to hb, by have := hb.size; omega, OwnS.keep _ _ hown hb⟩
      ⟨World.alloc_heap_new W _, by
        cases x with
        | ok b r => trivial
        | bad cur no A => exact (hb.block _ (blk_lt hP)).trans hP⟩)
    clear hK hb st hown hP hbW hBn
    simp only [FE.encs]
    generalize x.fa = fa at *
    generalize x.fb = fb at *
    generalize x.err = er at *
    gi_wp2_with fail
    exact HK.out
  case body =>
    rintro l pre x c W ⟨v, hok, st, hBW, hown⟩ ⟨hfb, hP⟩ hN
    have hcl := blk_lt hfb
    cases x with
    | ok b r =>
      simp only [FE.fa, FE.fb, FE.err] at *
      have hfc := blk_cell hfb 0
      have rl := st.rules
      simp only [Rules] at rl
      have HM : Hid ((FE.bodies (pre ++ [.ok b r])).map baOf = (FE.bodies pre).map baOf ++ [⟨b.toArray⟩]) := by show _ = _; rw [FE.bodies_snoc, List.map_append]; rfl
      have hml : ((FE.bodies pre).map baOf).length ≤ 100000 := by
        have : ∀ l : List FE, (FE.bodies l).length ≤ l.length := by
          intro l
          induction l with
          | nil => exact Nat.le_refl _
          | cons x l ih => cases x <;> simp [FE.bodies] <;> omega
        have := this pre
        rw [List.length_map]
        omega
      generalize (FE.bodies pre).map baOf = M at *
      gi_wp2_with (gi_at_builtin; refine append_strIn rfl (.tmp 21) (.tmp 24) rfl (w.heap.size + 4) v M ⟨b.toArray⟩ rfl st hown (by omega) (by simp) hBW W.heap.size rfl rfl (by omega) ?_; intro v5 w5 st5 hown5 hz5 hko5 hk5; obtain ⟨s5, c5, e5, -⟩ := hown5.form; subst e5; have rl5 := st5.rules; simp only [Rules] at rl5)
      have st6 := st5.setT 2 rfl (o := 0) (v := .slice s5 (M ++ [(⟨b.toArray⟩ : ByteArray)]).length c5) (Nat.le_refl _)
      simp only [setB, List.modify_succ_cons, List.modify_zero_cons, List.setIfInBounds_toArray, List.set_cons_zero] at st6
      have hown6 := hown5.other (grownBy_setOne w5 w.heap.size 0 (.slice s5 (M ++ [(⟨b.toArray⟩ : ByteArray)]).length c5)) (by omega)
      have hb6 : Below w.heap.size W (w5.setCell ⟨w.heap.size, 0, none⟩ (.slice s5 (M ++ [(⟨b.toArray⟩ : ByteArray)]).length c5)) := by
        have h1 := st.below
        have h2 := st6.below
        exact ⟨h2.os.trans h1.os.symm, h2.tape.trans h1.tape.symm, h2.output.trans h1.output.symm, by simp [World.setCell]; exact hz5, fun k hk => (Below.heap_setCell _ _ _ k (by show k ≠ w.heap.size; omega)).trans (hk5 k (by omega))⟩
      have hml2 : (M ++ [(⟨b.toArray⟩ : ByteArray)]).length = M.length + 1 := by simp
      rw [hml2] at st6 hb6 hown6
      refine ⟨hko5.trans (KeepsOthers.setCell _ _ _), ⟨hb6, (Below.heap_setCell _ _ _ _ (by show w.heap.size + 3 ≠ w.heap.size; omega)).trans (hk5 _ (by omega))⟩, _, ?_, st6, by simp [World.setCell]; omega, ?_⟩
      · intro x hx
        rcases List.mem_append.1 hx with h | h
        · exact hok x h
        · simp at h; subst h; trivial
      · rw [HM.out]; exact hown6
    | bad cur no A =>
      simp only [FE.fa, FE.fb, FE.err, FE.Pre] at *
      have hmx : Tryd.prog.follows .mixedOrders = true := by kernel_rfl
      have HE := Lib.hid (errno_fault (w := W.drew) (hS.below (st.below.drew)) A no hP)
      have hfc := blk_cell hfb 1
      have HF := Lib.hid hfb
      have rl := st.rules
      simp only [Rules] at rl
      gi_wp2_with fail
      gi_region_with_o (refine ⟨trivial, (CallsIn.inRound l (callsIn_wide.2 HE.out)).mono ?_⟩; rintro e w2 ⟨rfl, hb2⟩; have st2 := st.to ((Below.refl W.heap.size W).drew.trans (hb2.mono (Nat.le_refl _))); have rl2 := st2.rules; simp only [Rules] at rl2; have hfc2 := blk_cell ((hb2.block _ (blk_lt HF.out)).trans HF.out) 1)
      all_goals
        have st3 := (st2.setT 1 rfl (o := 0) (v := .string cur) (by omega)).setT 0 rfl (o := 0) (v := .int .i64 (no : Nat)) (by omega)
        simp only [setB, List.modify_succ_cons, List.modify_zero_cons, List.setIfInBounds_toArray, List.set_cons_zero] at st3
        have hown3 := ((OwnS.keep _ _ hown ((Below.refl W.heap.size W).drew.trans (hb2.mono (Nat.le_refl _)))).other (grownBy_setOne w2 (w.heap.size + 1) 0 (.string cur)) (by omega)).other (grownBy_setOne _ (w.heap.size + 2) 0 (.int .i64 (no : Nat))) (by omega)
        have hko : KeepsOthers W ((w2.setCell ⟨w.heap.size + 1, 0, none⟩ (.string cur)).setCell ⟨w.heap.size + 2, 0, none⟩ (.int .i64 (no : Nat))) :=
          ((keepsOthers_below ((Below.refl W.heap.size W).drew.trans (hb2.mono (Nat.le_refl _)))).trans (KeepsOthers.setCell _ _ _)).trans (KeepsOthers.setCell _ _ _)
        have hz2 := hb2.size
        clear rl rl2 hfc hfc2 hb2 st2 st HE
        gi_wp2_with fail
        refine ⟨hko, rfl, pre, cur, no, A, v, rfl, st3, ?_, hown3⟩
        simp [World.setCell]
        have : W.drew.heap.size = W.heap.size := rfl
        omega
  case done =>
    rintro D xs W hD ⟨pr, cur, no, A, rfl⟩ ⟨v, hok, st, hBW, hown⟩ hK
    exact absurd (hok (.bad cur no A) (by simp)) (fun h => h)
  case stop =>
    rintro D c pre W hD ⟨p1, x1, e1, hx1⟩ ⟨rfl, p2, cur, no, A, v, e2, st, hBW, hown⟩ hK
    rw [e1] at e2
    obtain ⟨rfl, e3⟩ := List.append_inj' e2 rfl
    have hG := hx1 cur no A (by simpa using e3)
    have HGG := Lib.hid hG
    clear hx1 e3 e2 e1 hbW hBn
    have hown1 : OwnS W w.heap.size v ((FE.bodies p1).map baOf) := ownsRow_base hown (by omega)
    have st := (st.also hown1 OwnS.keep).also hK (fun _ _ h hb => (hb.block D (blk_lt h)).trans h)
    obtain ⟨M, hM⟩ : ∃ M, (FE.bodies p1).map baOf = M := ⟨_, rfl⟩
    rw [hM] at st
    have HM := Lib.hid hM
    clear hown hown1 hK hG hM
    refine wpIn_wide.2 ?_
    go_wp2_with fail
    obtain ⟨bl2, E2, hne2, sh2, rl, hEx, hbx, hst⟩ := st.hide
    refine region_st sh2 (by kernel_rfl) (by kernel_rfl) ?_
    simp only [Rules] at rl
    repeat (first | go_big_quiet_step (fail) | quiet_step (fail))
    refine wpQuiet_nil ?_
    intro y
    have st3 := (hst y).out
    clear hbx rl hst sh2 hEx st
    generalize y.W = w4 at *
    go_wp2_with fail
    refine ⟨by simp, .inl ⟨_, _, rfl, run_takeDeferred st3.ex.2, ?_⟩⟩
    rw [HGG.out]
    refine ⟨_, results_tmp3 (t := 2) (u := 3) (v := 4) rfl _ _ _, v, ?_, ?_, ?_⟩
    · show Ending.returned (Value.tuple #[v, .string cur, .int .i64 no]) = Ending.returned (Value.tuple #[v, .string ⟨cur.data.toList.toArray⟩, .int .i64 no])
      have hlf : (⟨cur.data.toList.toArray⟩ : ByteArray) = cur := by cases cur; simp
      rw [hlf]
    · show OwnS _ _ _ ((FE.bodies p1).map baOf)
      rw [HM.out]
      exact ownsRow_putObj st3.ex.1.2 _ st3.ex.2 rfl
    · exact st3.below.grown (grownBy_putObj' _ D _) st3.below.size (fun k e => by cases e; omega)
end Go.Proofs.YtafabdgkinfceaaDoor
