/- What is appended: the reference's answer, walked. -/
import Derived.Test.YtclhbimlpamjiaaRefRight
namespace Go.Proofs.Ytclhbimlpamjiaa
open Go.RowKit
set_option linter.unusedVariables false
set_option linter.unusedSimpArgs false

theorem opOk_append_nil {o : Oper} {ρ : Operand → Value} (s x : Operand) (ho : o.op = .call { callee := .builtin .append, args := #[s, x], argTypes := #[25, 25] }) (B : Nat) (hs : ρ s = .slice none 0 0)
    (M : List Ent) (m : Nat) (hm : m = M.length) (sx : Option Addr) (cx : Nat) (hx : ρ x = .slice sx m cx) (hc : sx = none → cx = 0) {W : World} (hM : Ents W sx M) (hn : M.length ≤ 1000) (hB : B ≤ W.heap.size) :
    OpOk Try.prog W (IsOwnE B M) ((execOp ρ o).run Try.prog W) := by
  subst hm
  obtain ⟨i0, hi, hz0, hz1, hz2⟩ := info_parts infoEnt
  have hnil : W.ownsRow B 38 4 (.slice none 0 0) 0 [] := World.ownsRow_nil _ _ _ _
  cases sx with
  | none =>
    obtain rfl : M = [] := by
      cases M with
      | nil => rfl
      | cons y M => obtain ⟨g, o, he, _⟩ := hM 0 y rfl; cases he
    obtain rfl := hc rfl
    have hrun := run_append_owned_none (P := Try.prog) (w := W) B 25 o.type 38 i0 4 Try.underlying25 hi (.slice none 0 0) 0 [] hnil
    have hx' : ρ x = .slice none 0 0 := hx
    simp [execOp, ho, resolve, invoke, builtin, hs, hx', hrun, Result.andThen, OpOk]
    exact ⟨Below.refl _ _, hnil⟩
  | some ad =>
    obtain ⟨v', w', hrun, hown, hg, _⟩ := run_append_own (P := Try.prog) W B 25 o.type 38 i0 _ 4 40 Try.underlying25 hi hz0 hz1 hz2 rfl (by decide) (.slice none 0 0) 0 [] hnil ad M.length cx (cellsE M) (cellsE_length M) (by
      intro j u hj
      obtain ⟨y, hy, hu⟩ := cellsE_spot M j u hj
      obtain ⟨g, o, he, hg, c0, c1, c2, c3⟩ := hM _ _ hy
      cases he
      rw [Addr.add_lit]
      have e : j % 4 = 0 ∨ j % 4 = 1 ∨ j % 4 = 2 ∨ j % 4 = 3 := by omega
      rcases e with e | e | e | e <;> rw [e] at hu <;> simp [Ent.cells] at hu <;> subst hu
      · have e' : o + j / 4 * 4 = o + j := by omega
        rw [e'] at c0; exact c0
      · have e' : o + j / 4 * 4 + 1 = o + j := by omega
        rw [e'] at c1; exact c1
      · have e' : o + j / 4 * 4 + 2 = o + j := by omega
        rw [e'] at c2; exact c2
      · have e' : o + j / 4 * 4 + 3 = o + j := by omega
        rw [e'] at c3; exact c3) (cellsE_one M) (by unfold maxLen; omega) (by omega) hB
    simp [execOp, ho, resolve, invoke, builtin, hs, hx, hrun, Result.andThen, OpOk]
    refine ⟨⟨hg.os, hg.tape, hg.output, hg.size, fun k hk => hg.block k hk (by simp [Value.ownBlock])⟩, ?_⟩
    unfold IsOwnE OwnE
    simpa using hown

/-- a slice of one new entry -/
def IsOne (B : Nat) (x : Ent) : Value → World → Prop := fun v W => ∃ A, v = .slice (some ⟨A, 0, none⟩) 1 1 ∧ B ≤ A ∧ Ents W (some ⟨A, 0, none⟩) [x]
theorem stableOne (B : Nat) (x : Ent) : Stable (IsOne B x) := fun _ _ _ ⟨A, h1, h2, h3⟩ hb => ⟨A, h1, h2, h3.below hb⟩
theorem opOk_one {P : Program} {W : World} {B : Nat} {x : Ent} (hB : B ≤ W.heap.size) : OpOk P W (IsOne B x) (.ok (.value (.slice (some ⟨W.heap.size, 0, none⟩) 1 1)) (W.alloc (.cells #[.int .u64 x.seq, .int .u64 x.at', .string x.text, .int .u64 x.sum] 38))) :=
  ⟨(Below.refl _ _).alloc (Nat.le_refl _) _, _, rfl, hB, ents_one W x⟩
theorem refLast_n (n : Nat) (bf : Int) (L : List Ent) (hn : L.length = n) (hl : n ≤ 1000) (s : Option Addr) (cap : Nat) (w : World) (hE : Ents w s L) :
    Calls Try.prog 27 #[lv bf s n cap] w fun e w' => e = .returned (.int .u64 (lastE L)) ∧ Below w.heap.size w w' := by
  subst hn
  exact refLast_any bf L hl s cap w hE
theorem refHead_n (n : Nat) (bf : Int) (L : List Ent) (hn : L.length = n) (hl : n ≤ 1000) (s : Option Addr) (cap : Nat) (w : World) (hE : Ents w s L) :
    Calls Try.prog 26 #[lv bf s n cap] w fun e w' => e = .returned (.int .u64 (headE bf L)) ∧ Below w.heap.size w w' := by
  subst hn
  exact refHead_any bf L hl s cap w hE
theorem refRight_n (n : Nat) (a b : BitVec 64) (bf : Int) (h0 : 0 ≤ bf) (h1 : bf < 18446744073709551616) (L : List Ent) (hL : ∀ x ∈ L, x.Ok) (hn : L.length = n) (hl : n ≤ 1000) (s : Option Addr) (cap : Nat) (r : Bool) (hr : r = true ↔ RightP a b bf L) (w : World) (hE : Ents w s L) :
    Calls Try.prog 16 #[kv a b, lv bf s n cap] w fun e w' => e = .returned (.bool r) ∧ Below w.heap.size w w' := by
  subst hn
  exact refRight_any a b bf h0 h1 L hL hl s cap r hr w hE

set_option maxRecDepth 100000 in
set_option maxHeartbeats 4000000 in
theorem refAppend_no (a b : BitVec 64) (bf : Int) (h0 : 0 ≤ bf) (h1 : bf < 18446744073709551616) (L : List Ent) (hL : ∀ x ∈ L, x.Ok) (hl : L.length ≤ 1000) (s : Option Addr) (cap : Nat) (at' : Int) (tx : ByteArray) (ht : tx.size ≤ 1000) (w : World) (hE : Ents w s L)
    (hno : ¬ AppOk a b bf L at' tx) :
    Calls Try.prog 14 #[kv a b, lv bf s L.length cap, .int .u64 at', .string tx] w fun e w' => e = .returned noLog ∧ Below w.heap.size w w' := by
  classical
  have HNO := Lib.hid hno
  clear hno
  have st0 := (St.start w).alloc (cs := #[.int .u64 (un a), .int .u64 (un b)]) (T := 24) |>.alloc (cs := #[.int .u64 bf, .slice s L.length cap]) (T := 27) |>.alloc (cs := #[.int .u64 0, .slice none 0 0]) (T := 27)
  simp only [World.size_alloc] at st0
  by_cases hr : RightP a b bf L
  · have HR := Lib.hid hr
    clear hr
    go_enter Try.func14, Try.ntmps14
    go_wp2_with fail
    refine (st0.call' (fun st => refRight_any a b bf h0 h1 L hL hl s cap true ⟨fun _ => HR.out, fun _ => rfl⟩ _ (hE.below st.below))).mono ?_
    rintro e w4 ⟨rfl, st4⟩
    clear st0
    have rl := st4.rules
    simp only [Rules] at rl
    obtain ⟨m0, m1⟩ := lastE_bounds L hL
    by_cases hz : L.length = 0
    · have dz : decide ((0 : Int) < (L.length : Int)) = false := decide_eq_false (by omega)
      by_cases ht2 : 200 < tx.size
      · go_wp2_with fail
        refine bodyPost_ret (v := noLog) (by simp [results, Try.results14, go_sem, rl]) rfl ⟨rfl, ?_⟩
        exact (st4.below.setCell (p := ⟨w.heap.size + 1 + 1, 0, none⟩) (by show w.heap.size ≤ w.heap.size + 1 + 1; omega) _).setCell (p := ⟨w.heap.size + 1 + 1, 1, none⟩) (by show w.heap.size ≤ w.heap.size + 1 + 1; omega) _
      · exact absurd ⟨HR.out, by omega, by rw [List.eq_nil_of_length_eq_zero hz]; simp [lastE], fun x hx => by rw [List.eq_nil_of_length_eq_zero hz] at hx; simp at hx⟩ HNO.out
    · have dz : decide ((0 : Int) < (L.length : Int)) = true := decide_eq_true (by omega)
      have hx := List.getElem?_eq_getElem (show L.length - 1 < L.length by omega)
      obtain ⟨g, o, he, hg, c0, c1, c2, c3⟩ := hE _ _ hx
      subst he
      have d1 := (st4.below.cell (p := ⟨g, _, none⟩) hg).trans c1
      generalize (L[L.length - 1]'(by omega)) = x at *
      have HX := Lib.hid hx
      clear c0 c1 c2 c3 hx
      by_cases hat : at' < x.at'
      · have da : decide (at' < x.at') = true := decide_eq_true hat
        go_wp2_with fail
        refine bodyPost_ret (v := noLog) (by simp [results, Try.results14, go_sem, rl]) rfl ⟨rfl, ?_⟩
        exact (st4.below.setCell (p := ⟨w.heap.size + 1 + 1, 0, none⟩) (by show w.heap.size ≤ w.heap.size + 1 + 1; omega) _).setCell (p := ⟨w.heap.size + 1 + 1, 1, none⟩) (by show w.heap.size ≤ w.heap.size + 1 + 1; omega) _
      · have da : decide (at' < x.at') = false := decide_eq_false hat
        by_cases ht2 : 200 < tx.size
        · go_wp2_with fail
          refine bodyPost_ret (v := noLog) (by simp [results, Try.results14, go_sem, rl]) rfl ⟨rfl, ?_⟩
          exact (st4.below.setCell (p := ⟨w.heap.size + 1 + 1, 0, none⟩) (by show w.heap.size ≤ w.heap.size + 1 + 1; omega) _).setCell (p := ⟨w.heap.size + 1 + 1, 1, none⟩) (by show w.heap.size ≤ w.heap.size + 1 + 1; omega) _
        · by_cases hm : lastE L = 18446744073709551615
          · have hmb : (lastE L == 18446744073709551615) = true := by simp [hm]
            clear hm
            go_wp2_with fail
            refine (st4.call' (fun st => refLast_any bf L hl _ cap _ (hE.below st.below))).mono ?_
            rintro e w5 ⟨rfl, st5⟩
            clear rl st4 d1
            have rl := st5.rules
            simp only [Rules] at rl
            go_wp2_with fail
            refine bodyPost_ret (v := noLog) (by simp [results, Try.results14, go_sem, rl]) rfl ⟨rfl, ?_⟩
            exact (st5.below.setCell (p := ⟨w.heap.size + 1 + 1, 0, none⟩) (by show w.heap.size ≤ w.heap.size + 1 + 1; omega) _).setCell (p := ⟨w.heap.size + 1 + 1, 1, none⟩) (by show w.heap.size ≤ w.heap.size + 1 + 1; omega) _
          · exact absurd ⟨HR.out, by omega, hm, fun y hy => by
              have := hy.symm.trans HX.out
              simp at this
              subst this
              omega⟩ HNO.out
  · have HR := Lib.hid hr
    clear hr
    go_enter Try.func14, Try.ntmps14
    go_wp2_with fail
    refine (st0.call' (fun st => refRight_any a b bf h0 h1 L hL hl s cap false ⟨(fun h => by cases h), fun h => absurd h HR.out⟩ _ (hE.below st.below))).mono ?_
    rintro e w4 ⟨rfl, st4⟩
    clear st0
    have rl := st4.rules
    simp only [Rules] at rl
    go_wp2_with fail
    refine bodyPost_ret (v := noLog) (by simp [results, Try.results14, go_sem, rl]) rfl ⟨rfl, ?_⟩
    exact (st4.below.setCell (p := ⟨w.heap.size + 1 + 1, 0, none⟩) (by show w.heap.size ≤ w.heap.size + 1 + 1; omega) _).setCell (p := ⟨w.heap.size + 1 + 1, 1, none⟩) (by show w.heap.size ≤ w.heap.size + 1 + 1; omega) _

set_option maxRecDepth 100000 in
set_option maxHeartbeats 2000000 in
theorem refAppend_yes0 (ka kb : BitVec 64) (bf : Int) (h0 : 0 ≤ bf) (h1 : bf < 18446744073709551616) (L : List Ent) (hL : ∀ x ∈ L, x.Ok) (s : Option Addr) (cap : Nat) (hcap : L.length ≤ cap) (hcn : s = none → cap = 0) (at' : Int) (q0 : 0 ≤ at') (q1 : at' < 18446744073709551616) (tx : ByteArray) (w : World) (hE : Ents w s L)
    (hyes : AppOk ka kb bf L at' tx) (hz : L.length = 0) :
    Calls Try.prog 14 #[kv ka kb, lv bf s L.length cap, .int .u64 at', .string tx] w fun e w' => ∃ s2 c2, e = .returned (.tuple #[lv (appB bf L) s2 (appL ka kb bf L at' tx).length c2, .int .i64 0]) ∧ Ents w' s2 (appL ka kb bf L at' tx) ∧ Below w.heap.size w w' := by
  obtain ⟨hr, ht, hm, hlast⟩ := hyes
  have hl := hr.n
  have hl' : L.length ≤ 1000 := by omega
  obtain ⟨m0, m1⟩ := lastE_bounds L hL
  obtain ⟨n0, n1⟩ := headE_bounds bf h0 h1 L hL
  have hmb : (lastE L == 18446744073709551615) = false := by simp [hm]
  have hm1 : lastE L + 1 < 18446744073709551616 := by omega
  have HR := Lib.hid hr
  clear hm hr
  have st0 := (St.start w).alloc (cs := #[.int .u64 (un ka), .int .u64 (un kb)]) (T := 24) |>.alloc (cs := #[.int .u64 bf, .slice s L.length cap]) (T := 27) |>.alloc (cs := #[.int .u64 0, .slice none 0 0]) (T := 27)
  simp only [World.size_alloc] at st0
  obtain rfl : L = [] := List.eq_nil_of_length_eq_zero hz
  simp only [List.length_nil] at hcap st0 ⊢
  clear hlast hl
  have hl : 0 ≤ 30 := by omega
  have d1 : True := trivial
  go_enter Try.func14, Try.ntmps14
  go_wp2_with fail
  refine (st0.call' (fun st => refRight_n 0 ka kb bf h0 h1 [] hL rfl (by omega) _ cap true ⟨fun _ => HR.out, fun _ => rfl⟩ _ (hE.below st.below))).mono ?_
  rintro e w4 ⟨rfl, st4⟩
  clear st0 HR
  have rl := st4.rules
  simp only [Rules] at rl
  go_wp2_with fail
  refine (st4.call' (fun st => refLast_n 0 bf [] rfl (by omega) _ cap _ (hE.below st.below))).mono ?_
  rintro e w5 ⟨rfl, st5⟩
  clear rl st4 d1
  have rl := st5.rules
  simp only [Rules] at rl
  go_wp2_with fail
  refine (st5.call' (fun st => refLast_n 0 bf [] rfl (by omega) _ cap _ (hE.below st.below))).mono ?_
  rintro e w6 ⟨rfl, st6⟩
  clear rl st5
  have rl := st6.rules
  simp only [Rules] at rl
  have hokN : Ent.Ok ⟨lastE [] + 1, at', tx, 0⟩ := ⟨by show 0 ≤ lastE [] + 1; omega, hm1, q0, q1, by show tx.size ≤ 1000; omega, by show (0 : Int) ≤ 0; omega, by show (0 : Int) < _; omega⟩
  go_wp2_with fail
  clear rl
  have st7 := st6.alloc (cs := #[Value.int .u64 (lastE [] + 1), .int .u64 at', .string tx, .int .u64 0]) (T := 38)
  obtain ⟨bl7, E7, hne, sh7, rl, _, hbx, hst⟩ := st7.hide
  refine region_st_tail sh7 6 (by kernel_rfl) (by kernel_rfl) ?_
  simp only [Rules, World.size_alloc] at rl
  simp only [List.take_succ_cons, List.take_zero, List.drop_succ_cons, List.drop_zero]
  repeat (first | go_big_quiet_step (first | (go_at_call 26; exact Cs.call (refHead_n 0 bf [] rfl (by omega) _ cap _ (hE.below (hbx _).out))) | (go_at_call 25; exact Cs.call (refEntSum_any ka kb (headE bf []) n0 n1 ⟨lastE [] + 1, at', tx, 0⟩ hokN _))) | quiet_step (first | (go_at_call 26; exact Cs.call (refHead_n 0 bf [] rfl (by omega) _ cap _ (hE.below (hbx _).out))) | (go_at_call 25; exact Cs.call (refEntSum_any ka kb (headE bf []) n0 n1 ⟨lastE [] + 1, at', tx, 0⟩ hokN _))))
  refine wpQuiet_nil ?_
  intro y
  have st8 := (hst y).out
  clear hbx rl st7 hst sh7
  generalize y.W = w8 at *
  have rl := st8.rules
  simp only [Rules] at rl
  have st9 := st8.setT 0 rfl (o := 3) (v := .int .u64 (entSum ka kb (headE bf []) ⟨lastE [] + 1, at', tx, 0⟩)) (by have := st6.below.size; omega)
  simp only [setB, List.modify_zero_cons, List.setIfInBounds_toArray, List.set_cons_succ, List.set_cons_zero] at st9
  have hw6 : w.heap.size + 1 + 1 < w6.heap.size := by
    have := (st6.rules).2.2.1
    exact this
  have z1 : ¬ (w6.heap.size = w.heap.size + 1) := by omega
  have z2 : ¬ (w.heap.size + 1 = w6.heap.size) := by omega
  have HS98 := Lib.hid (show (w8.setCell { block := w6.heap.size, off := 3 } (Value.int IntKind.u64 (entSum ka kb (headE bf []) { seq := lastE [] + 1, at' := at', text := tx, sum := 0 }))).heap.size = w8.heap.size by simp [World.setCell])
  have hw68 : w6.heap.size < w8.heap.size := (st8.rules).2.2.1
  go_wp2_with fail
  clear rl st8
  generalize (w8.setCell { block := w6.heap.size, off := 3 } (Value.int IntKind.u64 (entSum ka kb (headE bf []) { seq := lastE [] + 1, at' := at', text := tx, sum := 0 }))) = w9 at *
  have hs98 : w9.heap.size = w8.heap.size := HS98.out
  have st10 := st9.alloc (cs := #[.int .u64 bf, .slice none 0 0]) (T := 27)
  rw [hs98] at st10
  clear hs98 HS98 st9
  generalize (w9.alloc (.cells #[Value.int .u64 bf, .slice none 0 0] 27)) = w10 at *
  have hw8 : w6.heap.size < w8.heap.size := hw68
  refine region_spec 7 (Fs [IsVal (.pointer (some ⟨w8.heap.size, 1, none⟩)), IsVal (.slice none 0 0), IsVal (.pointer (some ⟨w.heap.size + 1, 1, none⟩)), IsVal (.slice s 0 cap), IsOwnE w10.heap.size [], IsVal (.agg #[.int .u64 (newEnt ka kb bf [] at' tx).seq, .int .u64 (newEnt ka kb bf [] at' tx).at', .string (newEnt ka kb bf [] at' tx).text, .int .u64 (newEnt ka kb bf [] at' tx).sum]), IsOne w10.heap.size (newEnt ka kb bf [] at' tx)]) (by kernel_rfl) (by kernel_rfl) (by kernel_rfl) (Fs_stable _ ?stab) ?spec ?endd
  case stab =>
    simp only [List.forall_mem_cons]
    exact ⟨stableVal _, stableVal _, stableVal _, stableVal _, stableOwnE _ _, stableVal _, stableOne _ _, by simp⟩
  case spec =>
    refine ⟨?_, ?_, ?_, ?_, ?_, ?_, ?_, trivial⟩
    · intro a W hW hu hd
      have kc : ∀ c, a.eval (Operand.const c) = c := fun _ => rfl
      have kf : ∀ f, a.eval (Operand.func f) = .func (.func f) #[] #[] := fun _ => rfl
      have sW := st10.to hW
      have rl := sW.rules
      simp only [Rules, World.size_alloc] at rl
      have u12 : a.eval (Operand.tmp 12) = .pointer (some ⟨w8.heap.size, 0, none⟩) := hu 12 (by decide)
      unfold StepOk
      rw [if_pos (by rfl)]
      clear hu hd
      generalize a.eval = ρ at *
      go_simp
      exact opOk_val rfl
    · intro a W hW hu hd
      have kc : ∀ c, a.eval (Operand.const c) = c := fun _ => rfl
      have kf : ∀ f, a.eval (Operand.func f) = .func (.func f) #[] #[] := fun _ => rfl
      have sW := st10.to hW
      have rl := sW.rules
      simp only [Rules, World.size_alloc] at rl
      have u61 : a.eval (Operand.tmp 61) = .pointer (some ⟨w8.heap.size, 1, none⟩) := hd 0 61 (by kernel_rfl) rfl
      unfold StepOk
      rw [if_pos (by rfl)]
      clear hu hd
      generalize a.eval = ρ at *
      go_simp
      exact opOk_val rfl
    · intro a W hW hu hd
      have kc : ∀ c, a.eval (Operand.const c) = c := fun _ => rfl
      have kf : ∀ f, a.eval (Operand.func f) = .func (.func f) #[] #[] := fun _ => rfl
      have sW := st10.to hW
      have rl := sW.rules
      simp only [Rules, World.size_alloc] at rl
      have u5 : a.eval (Operand.tmp 5) = .pointer (some ⟨w.heap.size + 1, 0, none⟩) := hu 5 (by decide)
      unfold StepOk
      rw [if_pos (by rfl)]
      clear hu hd
      generalize a.eval = ρ at *
      go_simp
      exact opOk_val rfl
    · intro a W hW hu hd
      have kc : ∀ c, a.eval (Operand.const c) = c := fun _ => rfl
      have kf : ∀ f, a.eval (Operand.func f) = .func (.func f) #[] #[] := fun _ => rfl
      have sW := st10.to hW
      have rl := sW.rules
      simp only [Rules, World.size_alloc] at rl
      have u63 : a.eval (Operand.tmp 63) = .pointer (some ⟨w.heap.size + 1, 1, none⟩) := hd 2 63 (by kernel_rfl) rfl
      unfold StepOk
      rw [if_pos (by rfl)]
      clear hu hd
      generalize a.eval = ρ at *
      go_simp
      exact opOk_val rfl
    · intro a W hW hu hd
      have kc : ∀ c, a.eval (Operand.const c) = c := fun _ => rfl
      have kf : ∀ f, a.eval (Operand.func f) = .func (.func f) #[] #[] := fun _ => rfl
      have sW := st10.to hW
      have rl := sW.rules
      simp only [Rules, World.size_alloc] at rl
      have u62 : a.eval (Operand.tmp 62) = .slice none 0 0 := hd 1 62 (by kernel_rfl) rfl
      have u64 : a.eval (Operand.tmp 64) = .slice s 0 cap := hd 3 64 (by kernel_rfl) rfl
      unfold StepOk
      rw [if_pos (by rfl)]
      clear hu hd
      generalize a.eval = ρ at *
      exact opOk_append_nil (.tmp 62) (.tmp 64) rfl _ u62 [] 0 rfl s cap u64 hcn (hE.below sW.below) hl' hW.size
    · intro a W hW hu hd
      have kc : ∀ c, a.eval (Operand.const c) = c := fun _ => rfl
      have kf : ∀ f, a.eval (Operand.func f) = .func (.func f) #[] #[] := fun _ => rfl
      have sW := st10.to hW
      have rl := sW.rules
      simp only [Rules, World.size_alloc] at rl
      have u11 : a.eval (Operand.tmp 11) = .pointer (some ⟨w6.heap.size, 0, none⟩) := hu 11 (by decide)
      unfold StepOk
      rw [if_pos (by rfl)]
      clear hu hd
      generalize a.eval = ρ at *
      go_simp
      exact opOk_val rfl
    · intro a W hW hu hd
      have kc : ∀ c, a.eval (Operand.const c) = c := fun _ => rfl
      have kf : ∀ f, a.eval (Operand.func f) = .func (.func f) #[] #[] := fun _ => rfl
      have sW := st10.to hW
      have rl := sW.rules
      simp only [Rules, World.size_alloc] at rl
      have u66 : a.eval (Operand.tmp 66) = .agg #[.int .u64 (newEnt ka kb bf [] at' tx).seq, .int .u64 (newEnt ka kb bf [] at' tx).at', .string (newEnt ka kb bf [] at' tx).text, .int .u64 (newEnt ka kb bf [] at' tx).sum] := hd 5 66 (by kernel_rfl) rfl
      unfold StepOk
      rw [if_pos (by rfl)]
      clear hu hd
      generalize a.eval = ρ at *
      go_simp
      exact opOk_one hW.size
  case endd =>
    intro v W hW hv
    have v0 : v 0 = (.pointer (some ⟨w8.heap.size, 1, none⟩)) := hv 0 (by omega)
    have v1 : v 1 = (.slice none 0 0) := hv 1 (by omega)
    have v2 : v 2 = (.pointer (some ⟨w.heap.size + 1, 1, none⟩)) := hv 2 (by omega)
    have v3 : v 3 = (.slice s 0 cap) := hv 3 (by omega)
    have hf4 : IsOwnE w10.heap.size [] (v 4) W := hv 4 (by omega)
    have v5 : v 5 = (.agg #[.int .u64 (newEnt ka kb bf [] at' tx).seq, .int .u64 (newEnt ka kb bf [] at' tx).at', .string (newEnt ka kb bf [] at' tx).text, .int .u64 (newEnt ka kb bf [] at' tx).sum]) := hv 5 (by omega)
    have hf6 : IsOne w10.heap.size (newEnt ka kb bf [] at' tx) (v 6) W := hv 6 (by omega)
    clear hv
    simp only [List.take_succ_cons, List.take_zero, List.drop_succ_cons, List.drop_zero, putAll, Nat.zero_add, Nat.reduceAdd]
    rw [v0, v1, v2, v3, v5]
    clear v0 v1 v2 v3 v5
    have sW := st10.to hW
    obtain ⟨A6, hA6, hB6, hE6⟩ := hf6
    have hown4 : OwnE W w10.heap.size (v 4) [] := hf4
    rw [hA6]
    generalize v 4 = v4 at *
    simp only [Act.put, List.setIfInBounds_toArray, List.set_cons_succ, List.set_cons_zero]
    clear hf4 hA6
    have rl := sW.rules
    simp only [Rules, World.size_alloc] at rl
    have hWz := hW.size
    go_wp2_with (at_builtin; refine append_ents rfl (.tmp 65) (.tmp 67) rfl w10.heap.size v4 [] rfl hown4 [newEnt ka kb bf [] at' tx] 1 rfl (some ⟨A6, 0, none⟩) 1 rfl (by simp) hE6 (by simp <;> omega) hWz ?_)
    intro v7 w7 hown7 hg7
    have st11 := sW.grownB st10 hown4 hg7
    obtain ⟨s7, c7, hv7, hn7, _⟩ := own_ents hown7
    subst hv7
    have hc7 := (own_facts hown7).2.1
    clear rl sW
    have rl := st11.rules
    simp only [Rules, World.size_alloc] at rl
    have hb8 : w8.heap.size < w10.heap.size := (st10.rules).2.2.1
    have y1 : ¬ (w8.heap.size = w.heap.size + 1 + 1) := by omega
    have y2 : ¬ (w.heap.size + 1 + 1 = w8.heap.size) := by omega
    have hlen : ([newEnt ka kb bf [] at' tx]).length = 0 + 1 := by simp
    rw [hlen] at hown7 hc7 ⊢
    go_wp2_with fail
    have HEL := Lib.hid (show appL ka kb bf [] at' tx = [newEnt ka kb bf [] at' tx] from rfl)
    have HEB := Lib.hid (show appB bf [] = bf from rfl)
    refine bodyPost_ret (v := .tuple #[lv bf s7 (0 + 1) c7, .int .i64 0]) (by simp [results, Try.results14, go_sem, rl, y1, y2]) rfl ⟨s7, c7, by rw [HEB.out, HEL.out, hlen], ?_, ?_⟩
    · rw [HEL.out]
      refine own_ents_at (B := w10.heap.size) (n := 0 + 1) (c := c7) ?_
      exact ownsRow_setCell_below (ownsRow_setCell_below (ownsRow_setCell_below hown7 (a := ⟨w8.heap.size, 1, none⟩) hb8 _) (a := ⟨w.heap.size + 1 + 1, 0, none⟩) (by show w.heap.size + 1 + 1 < _; omega) _) (a := ⟨w.heap.size + 1 + 1, 1, none⟩) (by show w.heap.size + 1 + 1 < _; omega) _
    · exact ((st11.below.setCell (p := ⟨w8.heap.size, 1, none⟩) (by show w.heap.size ≤ w8.heap.size; omega) _).setCell (p := ⟨w.heap.size + 1 + 1, 0, none⟩) (by show w.heap.size ≤ w.heap.size + 1 + 1; omega) _).setCell (p := ⟨w.heap.size + 1 + 1, 1, none⟩) (by show w.heap.size ≤ w.heap.size + 1 + 1; omega) _

set_option maxRecDepth 100000 in
set_option maxHeartbeats 2000000 in
theorem refAppend_yes1 (ka kb : BitVec 64) (bf : Int) (h0 : 0 ≤ bf) (h1 : bf < 18446744073709551616) (L : List Ent) (hL : ∀ x ∈ L, x.Ok) (s : Option Addr) (cap : Nat) (hcap : L.length ≤ cap) (hcn : s = none → cap = 0) (at' : Int) (q0 : 0 ≤ at') (q1 : at' < 18446744073709551616) (tx : ByteArray) (w : World) (hE : Ents w s L)
    (hyes : AppOk ka kb bf L at' tx) (hz : 0 < L.length) (h30 : L.length < 30) :
    Calls Try.prog 14 #[kv ka kb, lv bf s L.length cap, .int .u64 at', .string tx] w fun e w' => ∃ s2 c2, e = .returned (.tuple #[lv (appB bf L) s2 (appL ka kb bf L at' tx).length c2, .int .i64 0]) ∧ Ents w' s2 (appL ka kb bf L at' tx) ∧ Below w.heap.size w w' := by
  obtain ⟨hr, ht, hm, hlast⟩ := hyes
  have hl := hr.n
  have hl' : L.length ≤ 1000 := by omega
  obtain ⟨m0, m1⟩ := lastE_bounds L hL
  obtain ⟨n0, n1⟩ := headE_bounds bf h0 h1 L hL
  have hmb : (lastE L == 18446744073709551615) = false := by simp [hm]
  have hm1 : lastE L + 1 < 18446744073709551616 := by omega
  have HR := Lib.hid hr
  clear hm hr
  have st0 := (St.start w).alloc (cs := #[.int .u64 (un ka), .int .u64 (un kb)]) (T := 24) |>.alloc (cs := #[.int .u64 bf, .slice s L.length cap]) (T := 27) |>.alloc (cs := #[.int .u64 0, .slice none 0 0]) (T := 27)
  simp only [World.size_alloc] at st0
  have hx := List.getElem?_eq_getElem (show L.length - 1 < L.length by omega)
  obtain ⟨g, o, he, hg, c0, c1, c2, c3⟩ := hE _ _ hx
  subst he
  have hxa := hlast _ hx
  generalize (L[L.length - 1]'(by omega)) = x at *
  clear c0 c2 c3 hx hlast
  have dz : decide ((0 : Int) < (L.length : Int)) = true := decide_eq_true (by omega)
  have da : decide (at' < x.at') = false := decide_eq_false (by omega)
  go_enter Try.func14, Try.ntmps14
  go_wp2_with fail
  refine (st0.call' (fun st => refRight_any ka kb bf h0 h1 L hL hl' _ cap true ⟨fun _ => HR.out, fun _ => rfl⟩ _ (hE.below st.below))).mono ?_
  rintro e w4 ⟨rfl, st4⟩
  clear st0 HR
  have rl := st4.rules
  simp only [Rules] at rl
  have d1 := (st4.below.cell (p := ⟨g, _, none⟩) hg).trans c1
  go_wp2_with fail
  refine (st4.call' (fun st => refLast_any bf L hl' _ cap _ (hE.below st.below))).mono ?_
  rintro e w5 ⟨rfl, st5⟩
  clear rl st4 d1
  have rl := st5.rules
  simp only [Rules] at rl
  go_wp2_with fail
  refine (st5.call' (fun st => refLast_any bf L hl' _ cap _ (hE.below st.below))).mono ?_
  rintro e w6 ⟨rfl, st6⟩
  clear rl st5
  have rl := st6.rules
  simp only [Rules] at rl
  have hokN : Ent.Ok ⟨lastE L + 1, at', tx, 0⟩ := ⟨by show 0 ≤ lastE L + 1; omega, hm1, q0, q1, by show tx.size ≤ 1000; omega, by show (0 : Int) ≤ 0; omega, by show (0 : Int) < _; omega⟩
  go_wp2_with fail
  clear rl
  have st7 := st6.alloc (cs := #[Value.int .u64 (lastE L + 1), .int .u64 at', .string tx, .int .u64 0]) (T := 38)
  obtain ⟨bl7, E7, hne, sh7, rl, _, hbx, hst⟩ := st7.hide
  refine region_st_tail sh7 6 (by kernel_rfl) (by kernel_rfl) ?_
  simp only [Rules, World.size_alloc] at rl
  simp only [List.take_succ_cons, List.take_zero, List.drop_succ_cons, List.drop_zero]
  repeat (first | go_big_quiet_step (first | (go_at_call 26; exact Cs.call (refHead_any bf L hl' _ cap _ (hE.below (hbx _).out))) | (go_at_call 25; exact Cs.call (refEntSum_any ka kb (headE bf L) n0 n1 ⟨lastE L + 1, at', tx, 0⟩ hokN _))) | quiet_step (first | (go_at_call 26; exact Cs.call (refHead_any bf L hl' _ cap _ (hE.below (hbx _).out))) | (go_at_call 25; exact Cs.call (refEntSum_any ka kb (headE bf L) n0 n1 ⟨lastE L + 1, at', tx, 0⟩ hokN _))))
  refine wpQuiet_nil ?_
  intro y
  have st8 := (hst y).out
  clear hbx rl st7 hst sh7
  generalize y.W = w8 at *
  have rl := st8.rules
  simp only [Rules] at rl
  have st9 := st8.setT 0 rfl (o := 3) (v := .int .u64 (entSum ka kb (headE bf L) ⟨lastE L + 1, at', tx, 0⟩)) (by have := st6.below.size; omega)
  simp only [setB, List.modify_zero_cons, List.setIfInBounds_toArray, List.set_cons_succ, List.set_cons_zero] at st9
  have hw6 : w.heap.size + 1 + 1 < w6.heap.size := by
    have := (st6.rules).2.2.1
    exact this
  have z1 : ¬ (w6.heap.size = w.heap.size + 1) := by omega
  have z2 : ¬ (w.heap.size + 1 = w6.heap.size) := by omega
  have HS98 := Lib.hid (show (w8.setCell { block := w6.heap.size, off := 3 } (Value.int IntKind.u64 (entSum ka kb (headE bf L) { seq := lastE L + 1, at' := at', text := tx, sum := 0 }))).heap.size = w8.heap.size by simp [World.setCell])
  have hw68 : w6.heap.size < w8.heap.size := (st8.rules).2.2.1
  go_wp2_with fail
  clear rl st8
  generalize (w8.setCell { block := w6.heap.size, off := 3 } (Value.int IntKind.u64 (entSum ka kb (headE bf L) { seq := lastE L + 1, at' := at', text := tx, sum := 0 }))) = w9 at *
  have hs98 : w9.heap.size = w8.heap.size := HS98.out
  have st10 := st9.alloc (cs := #[.int .u64 bf, .slice none 0 0]) (T := 27)
  rw [hs98] at st10
  clear hs98 HS98 st9
  generalize (w9.alloc (.cells #[Value.int .u64 bf, .slice none 0 0] 27)) = w10 at *
  have hw8 : w6.heap.size < w8.heap.size := hw68
  refine region_spec 7 (Fs [IsVal (.pointer (some ⟨w8.heap.size, 1, none⟩)), IsVal (.slice none 0 0), IsVal (.pointer (some ⟨w.heap.size + 1, 1, none⟩)), IsVal (.slice (some ⟨g, o, none⟩) L.length cap), IsOwnE w10.heap.size L, IsVal (.agg #[.int .u64 (newEnt ka kb bf L at' tx).seq, .int .u64 (newEnt ka kb bf L at' tx).at', .string (newEnt ka kb bf L at' tx).text, .int .u64 (newEnt ka kb bf L at' tx).sum]), IsOne w10.heap.size (newEnt ka kb bf L at' tx)]) (by kernel_rfl) (by kernel_rfl) (by kernel_rfl) (Fs_stable _ ?stab) ?spec ?endd
  case stab =>
    simp only [List.forall_mem_cons]
    exact ⟨stableVal _, stableVal _, stableVal _, stableVal _, stableOwnE _ _, stableVal _, stableOne _ _, by simp⟩
  case spec =>
    refine ⟨?_, ?_, ?_, ?_, ?_, ?_, ?_, trivial⟩
    · intro a W hW hu hd
      have kc : ∀ c, a.eval (Operand.const c) = c := fun _ => rfl
      have kf : ∀ f, a.eval (Operand.func f) = .func (.func f) #[] #[] := fun _ => rfl
      have sW := st10.to hW
      have rl := sW.rules
      simp only [Rules, World.size_alloc] at rl
      have u12 : a.eval (Operand.tmp 12) = .pointer (some ⟨w8.heap.size, 0, none⟩) := hu 12 (by decide)
      unfold StepOk
      rw [if_pos (by rfl)]
      clear hu hd
      generalize a.eval = ρ at *
      go_simp
      exact opOk_val rfl
    · intro a W hW hu hd
      have kc : ∀ c, a.eval (Operand.const c) = c := fun _ => rfl
      have kf : ∀ f, a.eval (Operand.func f) = .func (.func f) #[] #[] := fun _ => rfl
      have sW := st10.to hW
      have rl := sW.rules
      simp only [Rules, World.size_alloc] at rl
      have u61 : a.eval (Operand.tmp 61) = .pointer (some ⟨w8.heap.size, 1, none⟩) := hd 0 61 (by kernel_rfl) rfl
      unfold StepOk
      rw [if_pos (by rfl)]
      clear hu hd
      generalize a.eval = ρ at *
      go_simp
      exact opOk_val rfl
    · intro a W hW hu hd
      have kc : ∀ c, a.eval (Operand.const c) = c := fun _ => rfl
      have kf : ∀ f, a.eval (Operand.func f) = .func (.func f) #[] #[] := fun _ => rfl
      have sW := st10.to hW
      have rl := sW.rules
      simp only [Rules, World.size_alloc] at rl
      have u5 : a.eval (Operand.tmp 5) = .pointer (some ⟨w.heap.size + 1, 0, none⟩) := hu 5 (by decide)
      unfold StepOk
      rw [if_pos (by rfl)]
      clear hu hd
      generalize a.eval = ρ at *
      go_simp
      exact opOk_val rfl
    · intro a W hW hu hd
      have kc : ∀ c, a.eval (Operand.const c) = c := fun _ => rfl
      have kf : ∀ f, a.eval (Operand.func f) = .func (.func f) #[] #[] := fun _ => rfl
      have sW := st10.to hW
      have rl := sW.rules
      simp only [Rules, World.size_alloc] at rl
      have u63 : a.eval (Operand.tmp 63) = .pointer (some ⟨w.heap.size + 1, 1, none⟩) := hd 2 63 (by kernel_rfl) rfl
      unfold StepOk
      rw [if_pos (by rfl)]
      clear hu hd
      generalize a.eval = ρ at *
      go_simp
      exact opOk_val rfl
    · intro a W hW hu hd
      have kc : ∀ c, a.eval (Operand.const c) = c := fun _ => rfl
      have kf : ∀ f, a.eval (Operand.func f) = .func (.func f) #[] #[] := fun _ => rfl
      have sW := st10.to hW
      have rl := sW.rules
      simp only [Rules, World.size_alloc] at rl
      have u62 : a.eval (Operand.tmp 62) = .slice none 0 0 := hd 1 62 (by kernel_rfl) rfl
      have u64 : a.eval (Operand.tmp 64) = .slice (some ⟨g, o, none⟩) L.length cap := hd 3 64 (by kernel_rfl) rfl
      unfold StepOk
      rw [if_pos (by rfl)]
      clear hu hd
      generalize a.eval = ρ at *
      exact opOk_append_nil (.tmp 62) (.tmp 64) rfl _ u62 L L.length rfl (some ⟨g, o, none⟩) cap u64 hcn (hE.below sW.below) hl' hW.size
    · intro a W hW hu hd
      have kc : ∀ c, a.eval (Operand.const c) = c := fun _ => rfl
      have kf : ∀ f, a.eval (Operand.func f) = .func (.func f) #[] #[] := fun _ => rfl
      have sW := st10.to hW
      have rl := sW.rules
      simp only [Rules, World.size_alloc] at rl
      have u11 : a.eval (Operand.tmp 11) = .pointer (some ⟨w6.heap.size, 0, none⟩) := hu 11 (by decide)
      unfold StepOk
      rw [if_pos (by rfl)]
      clear hu hd
      generalize a.eval = ρ at *
      go_simp
      exact opOk_val rfl
    · intro a W hW hu hd
      have kc : ∀ c, a.eval (Operand.const c) = c := fun _ => rfl
      have kf : ∀ f, a.eval (Operand.func f) = .func (.func f) #[] #[] := fun _ => rfl
      have sW := st10.to hW
      have rl := sW.rules
      simp only [Rules, World.size_alloc] at rl
      have u66 : a.eval (Operand.tmp 66) = .agg #[.int .u64 (newEnt ka kb bf L at' tx).seq, .int .u64 (newEnt ka kb bf L at' tx).at', .string (newEnt ka kb bf L at' tx).text, .int .u64 (newEnt ka kb bf L at' tx).sum] := hd 5 66 (by kernel_rfl) rfl
      unfold StepOk
      rw [if_pos (by rfl)]
      clear hu hd
      generalize a.eval = ρ at *
      go_simp
      exact opOk_one hW.size
  case endd =>
    intro v W hW hv
    have v0 : v 0 = (.pointer (some ⟨w8.heap.size, 1, none⟩)) := hv 0 (by omega)
    have v1 : v 1 = (.slice none 0 0) := hv 1 (by omega)
    have v2 : v 2 = (.pointer (some ⟨w.heap.size + 1, 1, none⟩)) := hv 2 (by omega)
    have v3 : v 3 = (.slice (some ⟨g, o, none⟩) L.length cap) := hv 3 (by omega)
    have hf4 : IsOwnE w10.heap.size L (v 4) W := hv 4 (by omega)
    have v5 : v 5 = (.agg #[.int .u64 (newEnt ka kb bf L at' tx).seq, .int .u64 (newEnt ka kb bf L at' tx).at', .string (newEnt ka kb bf L at' tx).text, .int .u64 (newEnt ka kb bf L at' tx).sum]) := hv 5 (by omega)
    have hf6 : IsOne w10.heap.size (newEnt ka kb bf L at' tx) (v 6) W := hv 6 (by omega)
    clear hv
    simp only [List.take_succ_cons, List.take_zero, List.drop_succ_cons, List.drop_zero, putAll, Nat.zero_add, Nat.reduceAdd]
    rw [v0, v1, v2, v3, v5]
    clear v0 v1 v2 v3 v5
    have sW := st10.to hW
    obtain ⟨A6, hA6, hB6, hE6⟩ := hf6
    have hown4 : OwnE W w10.heap.size (v 4) L := hf4
    rw [hA6]
    generalize v 4 = v4 at *
    simp only [Act.put, List.setIfInBounds_toArray, List.set_cons_succ, List.set_cons_zero]
    clear hf4 hA6
    have rl := sW.rules
    simp only [Rules, World.size_alloc] at rl
    have hWz := hW.size
    go_wp2_with (at_builtin; refine append_ents rfl (.tmp 65) (.tmp 67) rfl w10.heap.size v4 L rfl hown4 [newEnt ka kb bf L at' tx] 1 rfl (some ⟨A6, 0, none⟩) 1 rfl (by simp) hE6 (by simp <;> omega) hWz ?_)
    intro v7 w7 hown7 hg7
    have st11 := sW.grownB st10 hown4 hg7
    obtain ⟨s7, c7, hv7, hn7, _⟩ := own_ents hown7
    subst hv7
    have hc7 := (own_facts hown7).2.1
    clear rl sW
    have rl := st11.rules
    simp only [Rules, World.size_alloc] at rl
    have hb8 : w8.heap.size < w10.heap.size := (st10.rules).2.2.1
    have y1 : ¬ (w8.heap.size = w.heap.size + 1 + 1) := by omega
    have y2 : ¬ (w.heap.size + 1 + 1 = w8.heap.size) := by omega
    have hlen : (L ++ [newEnt ka kb bf L at' tx]).length = L.length + 1 := by simp
    rw [hlen] at hown7 hc7 ⊢
    go_wp2_with fail
    have HEL := Lib.hid (show appL ka kb bf L at' tx = L ++ [newEnt ka kb bf L at' tx] by unfold appL appK; rw [if_neg (by omega)])
    have HEB := Lib.hid (show appB bf L = bf by unfold appB; rw [if_neg (by omega)])
    refine bodyPost_ret (v := .tuple #[lv bf s7 (L.length + 1) c7, .int .i64 0]) (by simp [results, Try.results14, go_sem, rl, y1, y2]) rfl ⟨s7, c7, by rw [HEB.out, HEL.out, hlen], ?_, ?_⟩
    · rw [HEL.out]
      refine own_ents_at (B := w10.heap.size) (n := L.length + 1) (c := c7) ?_
      exact ownsRow_setCell_below (ownsRow_setCell_below (ownsRow_setCell_below hown7 (a := ⟨w8.heap.size, 1, none⟩) hb8 _) (a := ⟨w.heap.size + 1 + 1, 0, none⟩) (by show w.heap.size + 1 + 1 < _; omega) _) (a := ⟨w.heap.size + 1 + 1, 1, none⟩) (by show w.heap.size + 1 + 1 < _; omega) _
    · exact ((st11.below.setCell (p := ⟨w8.heap.size, 1, none⟩) (by show w.heap.size ≤ w8.heap.size; omega) _).setCell (p := ⟨w.heap.size + 1 + 1, 0, none⟩) (by show w.heap.size ≤ w.heap.size + 1 + 1; omega) _).setCell (p := ⟨w.heap.size + 1 + 1, 1, none⟩) (by show w.heap.size ≤ w.heap.size + 1 + 1; omega) _

set_option maxRecDepth 100000 in
set_option maxHeartbeats 2000000 in
theorem refAppend_yes2 (ka kb : BitVec 64) (bf : Int) (h0 : 0 ≤ bf) (h1 : bf < 18446744073709551616) (L : List Ent) (hL : ∀ x ∈ L, x.Ok) (s : Option Addr) (cap : Nat) (hcap : L.length ≤ cap) (hcn : s = none → cap = 0) (at' : Int) (q0 : 0 ≤ at') (q1 : at' < 18446744073709551616) (tx : ByteArray) (w : World) (hE : Ents w s L)
    (hyes : AppOk ka kb bf L at' tx) (h30 : 30 ≤ L.length) :
    Calls Try.prog 14 #[kv ka kb, lv bf s L.length cap, .int .u64 at', .string tx] w fun e w' => ∃ s2 c2, e = .returned (.tuple #[lv (appB bf L) s2 (appL ka kb bf L at' tx).length c2, .int .i64 0]) ∧ Ents w' s2 (appL ka kb bf L at' tx) ∧ Below w.heap.size w w' := by
  obtain ⟨hr, ht, hm, hlast⟩ := hyes
  have hl := hr.n
  have hl' : L.length ≤ 1000 := by omega
  obtain ⟨m0, m1⟩ := lastE_bounds L hL
  obtain ⟨n0, n1⟩ := headE_bounds bf h0 h1 L hL
  have hmb : (lastE L == 18446744073709551615) = false := by simp [hm]
  have hm1 : lastE L + 1 < 18446744073709551616 := by omega
  have HR := Lib.hid hr
  clear hm hr
  have st0 := (St.start w).alloc (cs := #[.int .u64 (un ka), .int .u64 (un kb)]) (T := 24) |>.alloc (cs := #[.int .u64 bf, .slice s L.length cap]) (T := 27) |>.alloc (cs := #[.int .u64 0, .slice none 0 0]) (T := 27)
  simp only [World.size_alloc] at st0
  have hx := List.getElem?_eq_getElem (show L.length - 1 < L.length by omega)
  obtain ⟨g, o, he, hg, c0, c1, c2, c3⟩ := hE _ _ hx
  subst he
  have hxa := hlast _ hx
  generalize (L[L.length - 1]'(by omega)) = x at *
  clear c0 c2 c3 hx hlast
  have dz : decide ((0 : Int) < (L.length : Int)) = true := decide_eq_true (by omega)
  have da : decide (at' < x.at') = false := decide_eq_false (by omega)
  go_enter Try.func14, Try.ntmps14
  go_wp2_with fail
  refine (st0.call' (fun st => refRight_any ka kb bf h0 h1 L hL hl' _ cap true ⟨fun _ => HR.out, fun _ => rfl⟩ _ (hE.below st.below))).mono ?_
  rintro e w4 ⟨rfl, st4⟩
  clear st0 HR
  have rl := st4.rules
  simp only [Rules] at rl
  have d1 := (st4.below.cell (p := ⟨g, _, none⟩) hg).trans c1
  go_wp2_with fail
  refine (st4.call' (fun st => refLast_any bf L hl' _ cap _ (hE.below st.below))).mono ?_
  rintro e w5 ⟨rfl, st5⟩
  clear rl st4 d1
  have rl := st5.rules
  simp only [Rules] at rl
  go_wp2_with fail
  refine (st5.call' (fun st => refLast_any bf L hl' _ cap _ (hE.below st.below))).mono ?_
  rintro e w6 ⟨rfl, st6⟩
  clear rl st5
  have rl := st6.rules
  simp only [Rules] at rl
  have hokN : Ent.Ok ⟨lastE L + 1, at', tx, 0⟩ := ⟨by show 0 ≤ lastE L + 1; omega, hm1, q0, q1, by show tx.size ≤ 1000; omega, by show (0 : Int) ≤ 0; omega, by show (0 : Int) < _; omega⟩
  go_wp2_with fail
  clear rl
  have st7 := st6.alloc (cs := #[Value.int .u64 (lastE L + 1), .int .u64 at', .string tx, .int .u64 0]) (T := 38)
  obtain ⟨bl7, E7, hne, sh7, rl, _, hbx, hst⟩ := st7.hide
  refine region_st_tail sh7 6 (by kernel_rfl) (by kernel_rfl) ?_
  simp only [Rules, World.size_alloc] at rl
  simp only [List.take_succ_cons, List.take_zero, List.drop_succ_cons, List.drop_zero]
  repeat (first | go_big_quiet_step (first | (go_at_call 26; exact Cs.call (refHead_any bf L hl' _ cap _ (hE.below (hbx _).out))) | (go_at_call 25; exact Cs.call (refEntSum_any ka kb (headE bf L) n0 n1 ⟨lastE L + 1, at', tx, 0⟩ hokN _))) | quiet_step (first | (go_at_call 26; exact Cs.call (refHead_any bf L hl' _ cap _ (hE.below (hbx _).out))) | (go_at_call 25; exact Cs.call (refEntSum_any ka kb (headE bf L) n0 n1 ⟨lastE L + 1, at', tx, 0⟩ hokN _))))
  refine wpQuiet_nil ?_
  intro y
  have st8 := (hst y).out
  clear hbx rl st7 hst sh7
  generalize y.W = w8 at *
  have rl := st8.rules
  simp only [Rules] at rl
  have st9 := st8.setT 0 rfl (o := 3) (v := .int .u64 (entSum ka kb (headE bf L) ⟨lastE L + 1, at', tx, 0⟩)) (by have := st6.below.size; omega)
  simp only [setB, List.modify_zero_cons, List.setIfInBounds_toArray, List.set_cons_succ, List.set_cons_zero] at st9
  have hw6 : w.heap.size + 1 + 1 < w6.heap.size := by
    have := (st6.rules).2.2.1
    exact this
  have z1 : ¬ (w6.heap.size = w.heap.size + 1) := by omega
  have z2 : ¬ (w.heap.size + 1 = w6.heap.size) := by omega
  have HS98 := Lib.hid (show (w8.setCell { block := w6.heap.size, off := 3 } (Value.int IntKind.u64 (entSum ka kb (headE bf L) { seq := lastE L + 1, at' := at', text := tx, sum := 0 }))).heap.size = w8.heap.size by simp [World.setCell])
  have hw68 : w6.heap.size < w8.heap.size := (st8.rules).2.2.1
  go_wp2_with fail
  clear rl st8
  generalize (w8.setCell { block := w6.heap.size, off := 3 } (Value.int IntKind.u64 (entSum ka kb (headE bf L) { seq := lastE L + 1, at' := at', text := tx, sum := 0 }))) = w9 at *
  have hs98 : w9.heap.size = w8.heap.size := HS98.out
  have st10 := st9.alloc (cs := #[.int .u64 bf, .slice none 0 0]) (T := 27)
  rw [hs98] at st10
  clear hs98 HS98 st9
  generalize (w9.alloc (.cells #[Value.int .u64 bf, .slice none 0 0] 27)) = w10 at *
  have hw8 : w6.heap.size < w8.heap.size := hw68
  refine region_spec 7 (Fs [IsVal (.pointer (some ⟨w8.heap.size, 1, none⟩)), IsVal (.slice none 0 0), IsVal (.pointer (some ⟨w.heap.size + 1, 1, none⟩)), IsVal (.slice (some ⟨g, o, none⟩) L.length cap), IsOwnE w10.heap.size L, IsVal (.agg #[.int .u64 (newEnt ka kb bf L at' tx).seq, .int .u64 (newEnt ka kb bf L at' tx).at', .string (newEnt ka kb bf L at' tx).text, .int .u64 (newEnt ka kb bf L at' tx).sum]), IsOne w10.heap.size (newEnt ka kb bf L at' tx)]) (by kernel_rfl) (by kernel_rfl) (by kernel_rfl) (Fs_stable _ ?stab) ?spec ?endd
  case stab =>
    simp only [List.forall_mem_cons]
    exact ⟨stableVal _, stableVal _, stableVal _, stableVal _, stableOwnE _ _, stableVal _, stableOne _ _, by simp⟩
  case spec =>
    refine ⟨?_, ?_, ?_, ?_, ?_, ?_, ?_, trivial⟩
    · intro a W hW hu hd
      have kc : ∀ c, a.eval (Operand.const c) = c := fun _ => rfl
      have kf : ∀ f, a.eval (Operand.func f) = .func (.func f) #[] #[] := fun _ => rfl
      have sW := st10.to hW
      have rl := sW.rules
      simp only [Rules, World.size_alloc] at rl
      have u12 : a.eval (Operand.tmp 12) = .pointer (some ⟨w8.heap.size, 0, none⟩) := hu 12 (by decide)
      unfold StepOk
      rw [if_pos (by rfl)]
      clear hu hd
      generalize a.eval = ρ at *
      go_simp
      exact opOk_val rfl
    · intro a W hW hu hd
      have kc : ∀ c, a.eval (Operand.const c) = c := fun _ => rfl
      have kf : ∀ f, a.eval (Operand.func f) = .func (.func f) #[] #[] := fun _ => rfl
      have sW := st10.to hW
      have rl := sW.rules
      simp only [Rules, World.size_alloc] at rl
      have u61 : a.eval (Operand.tmp 61) = .pointer (some ⟨w8.heap.size, 1, none⟩) := hd 0 61 (by kernel_rfl) rfl
      unfold StepOk
      rw [if_pos (by rfl)]
      clear hu hd
      generalize a.eval = ρ at *
      go_simp
      exact opOk_val rfl
    · intro a W hW hu hd
      have kc : ∀ c, a.eval (Operand.const c) = c := fun _ => rfl
      have kf : ∀ f, a.eval (Operand.func f) = .func (.func f) #[] #[] := fun _ => rfl
      have sW := st10.to hW
      have rl := sW.rules
      simp only [Rules, World.size_alloc] at rl
      have u5 : a.eval (Operand.tmp 5) = .pointer (some ⟨w.heap.size + 1, 0, none⟩) := hu 5 (by decide)
      unfold StepOk
      rw [if_pos (by rfl)]
      clear hu hd
      generalize a.eval = ρ at *
      go_simp
      exact opOk_val rfl
    · intro a W hW hu hd
      have kc : ∀ c, a.eval (Operand.const c) = c := fun _ => rfl
      have kf : ∀ f, a.eval (Operand.func f) = .func (.func f) #[] #[] := fun _ => rfl
      have sW := st10.to hW
      have rl := sW.rules
      simp only [Rules, World.size_alloc] at rl
      have u63 : a.eval (Operand.tmp 63) = .pointer (some ⟨w.heap.size + 1, 1, none⟩) := hd 2 63 (by kernel_rfl) rfl
      unfold StepOk
      rw [if_pos (by rfl)]
      clear hu hd
      generalize a.eval = ρ at *
      go_simp
      exact opOk_val rfl
    · intro a W hW hu hd
      have kc : ∀ c, a.eval (Operand.const c) = c := fun _ => rfl
      have kf : ∀ f, a.eval (Operand.func f) = .func (.func f) #[] #[] := fun _ => rfl
      have sW := st10.to hW
      have rl := sW.rules
      simp only [Rules, World.size_alloc] at rl
      have u62 : a.eval (Operand.tmp 62) = .slice none 0 0 := hd 1 62 (by kernel_rfl) rfl
      have u64 : a.eval (Operand.tmp 64) = .slice (some ⟨g, o, none⟩) L.length cap := hd 3 64 (by kernel_rfl) rfl
      unfold StepOk
      rw [if_pos (by rfl)]
      clear hu hd
      generalize a.eval = ρ at *
      exact opOk_append_nil (.tmp 62) (.tmp 64) rfl _ u62 L L.length rfl (some ⟨g, o, none⟩) cap u64 hcn (hE.below sW.below) hl' hW.size
    · intro a W hW hu hd
      have kc : ∀ c, a.eval (Operand.const c) = c := fun _ => rfl
      have kf : ∀ f, a.eval (Operand.func f) = .func (.func f) #[] #[] := fun _ => rfl
      have sW := st10.to hW
      have rl := sW.rules
      simp only [Rules, World.size_alloc] at rl
      have u11 : a.eval (Operand.tmp 11) = .pointer (some ⟨w6.heap.size, 0, none⟩) := hu 11 (by decide)
      unfold StepOk
      rw [if_pos (by rfl)]
      clear hu hd
      generalize a.eval = ρ at *
      go_simp
      exact opOk_val rfl
    · intro a W hW hu hd
      have kc : ∀ c, a.eval (Operand.const c) = c := fun _ => rfl
      have kf : ∀ f, a.eval (Operand.func f) = .func (.func f) #[] #[] := fun _ => rfl
      have sW := st10.to hW
      have rl := sW.rules
      simp only [Rules, World.size_alloc] at rl
      have u66 : a.eval (Operand.tmp 66) = .agg #[.int .u64 (newEnt ka kb bf L at' tx).seq, .int .u64 (newEnt ka kb bf L at' tx).at', .string (newEnt ka kb bf L at' tx).text, .int .u64 (newEnt ka kb bf L at' tx).sum] := hd 5 66 (by kernel_rfl) rfl
      unfold StepOk
      rw [if_pos (by rfl)]
      clear hu hd
      generalize a.eval = ρ at *
      go_simp
      exact opOk_one hW.size
  case endd =>
    intro v W hW hv
    have v0 : v 0 = (.pointer (some ⟨w8.heap.size, 1, none⟩)) := hv 0 (by omega)
    have v1 : v 1 = (.slice none 0 0) := hv 1 (by omega)
    have v2 : v 2 = (.pointer (some ⟨w.heap.size + 1, 1, none⟩)) := hv 2 (by omega)
    have v3 : v 3 = (.slice (some ⟨g, o, none⟩) L.length cap) := hv 3 (by omega)
    have hf4 : IsOwnE w10.heap.size L (v 4) W := hv 4 (by omega)
    have v5 : v 5 = (.agg #[.int .u64 (newEnt ka kb bf L at' tx).seq, .int .u64 (newEnt ka kb bf L at' tx).at', .string (newEnt ka kb bf L at' tx).text, .int .u64 (newEnt ka kb bf L at' tx).sum]) := hv 5 (by omega)
    have hf6 : IsOne w10.heap.size (newEnt ka kb bf L at' tx) (v 6) W := hv 6 (by omega)
    clear hv
    simp only [List.take_succ_cons, List.take_zero, List.drop_succ_cons, List.drop_zero, putAll, Nat.zero_add, Nat.reduceAdd]
    rw [v0, v1, v2, v3, v5]
    clear v0 v1 v2 v3 v5
    have sW := st10.to hW
    obtain ⟨A6, hA6, hB6, hE6⟩ := hf6
    have hown4 : OwnE W w10.heap.size (v 4) L := hf4
    rw [hA6]
    generalize v 4 = v4 at *
    simp only [Act.put, List.setIfInBounds_toArray, List.set_cons_succ, List.set_cons_zero]
    clear hf4 hA6
    have rl := sW.rules
    simp only [Rules, World.size_alloc] at rl
    have hWz := hW.size
    go_wp2_with (at_builtin; refine append_ents rfl (.tmp 65) (.tmp 67) rfl w10.heap.size v4 L rfl hown4 [newEnt ka kb bf L at' tx] 1 rfl (some ⟨A6, 0, none⟩) 1 rfl (by simp) hE6 (by simp <;> omega) hWz ?_)
    intro v7 w7 hown7 hg7
    have st11 := sW.grownB st10 hown4 hg7
    obtain ⟨s7, c7, hv7, hn7, _⟩ := own_ents hown7
    subst hv7
    have hc7 := (own_facts hown7).2.1
    clear rl sW
    have rl := st11.rules
    simp only [Rules, World.size_alloc] at rl
    have hb8 : w8.heap.size < w10.heap.size := (st10.rules).2.2.1
    have y1 : ¬ (w8.heap.size = w.heap.size + 1 + 1) := by omega
    have y2 : ¬ (w.heap.size + 1 + 1 = w8.heap.size) := by omega
    have hlen : (L ++ [newEnt ka kb bf L at' tx]).length = L.length + 1 := by simp
    rw [hlen] at hown7 hc7 ⊢
    have hy : (L ++ [newEnt ka kb bf L at' tx])[0]? = some (L[0]'(by omega)) := by rw [List.getElem?_append_left (by omega)]; exact List.getElem?_eq_getElem (by omega)
    have HEB := Lib.hid (show appB bf L = (L[0]'(by omega)).sum by unfold appB; rw [if_pos (by omega), List.getElem?_eq_getElem (show 0 < L.length by omega)])
    generalize (L[0]'(by omega)) = y0 at *
    obtain ⟨g7, o7, he7, _, _, _, _, b3⟩ := own_ents_at hown7 0 y0 hy
    subst he7
    obtain ⟨s8, c8, hv8, _, _, hg8⟩ := own_ents hown7
    have e8 := (Value.slice.inj hv8).1
    subst e8
    obtain ⟨g9, e9, hB9, _⟩ := hg8 _ rfl
    cases e9
    clear hv8 hg8 hy
    rw [Nat.zero_mul, Nat.zero_add] at b3
    have y3 : ¬ (g7 = w8.heap.size) := by omega
    have y4 : ¬ (w8.heap.size = g7) := by omega
    have hc1 : 1 < c7 := by omega
    have hc1' : ¬ (c7 = 1) := by omega
    go_wp2_with fail
    have HEL := Lib.hid (show appL ka kb bf L at' tx = (L ++ [newEnt ka kb bf L at' tx]).drop 1 by
      unfold appL appK
      rw [if_pos (by omega), List.drop_append_of_le_length (by omega)])
    have HLL := Lib.hid (show (appL ka kb bf L at' tx).length = L.length by rw [HEL.out, List.length_drop, hlen]; omega)
    refine bodyPost_ret (v := .tuple #[lv y0.sum (some ⟨g7, 4, none⟩) L.length (c7 - 1), .int .i64 0]) (by simp [results, Try.results14, go_sem, rl, y1, y2]) rfl ⟨some ⟨g7, 4, none⟩, c7 - 1, by rw [HEB.out, HLL.out], ?_, ?_⟩
    · rw [HEL.out]
      refine Ents.drop0 (k := 1) (own_ents_at (B := w10.heap.size) (n := L.length + 1) (c := c7) ?_)
      exact ownsRow_setCell_below (ownsRow_setCell_below (ownsRow_setCell_below (ownsRow_setCell_below (ownsRow_setCell_below hown7 (a := ⟨w8.heap.size, 1, none⟩) hb8 _) (a := ⟨w8.heap.size, 0, none⟩) hb8 _) (a := ⟨w8.heap.size, 1, none⟩) hb8 _) (a := ⟨w.heap.size + 1 + 1, 0, none⟩) (by show w.heap.size + 1 + 1 < _; omega) _) (a := ⟨w.heap.size + 1 + 1, 1, none⟩) (by show w.heap.size + 1 + 1 < _; omega) _
    · exact ((((st11.below.setCell (p := ⟨w8.heap.size, 1, none⟩) (by show w.heap.size ≤ w8.heap.size; omega) _).setCell (p := ⟨w8.heap.size, 0, none⟩) (by show w.heap.size ≤ w8.heap.size; omega) _).setCell (p := ⟨w8.heap.size, 1, none⟩) (by show w.heap.size ≤ w8.heap.size; omega) _).setCell (p := ⟨w.heap.size + 1 + 1, 0, none⟩) (by show w.heap.size ≤ w.heap.size + 1 + 1; omega) _).setCell (p := ⟨w.heap.size + 1 + 1, 1, none⟩) (by show w.heap.size ≤ w.heap.size + 1 + 1; omega) _

theorem refAppend_yes (a b : BitVec 64) (bf : Int) (h0 : 0 ≤ bf) (h1 : bf < 18446744073709551616) (L : List Ent) (hL : ∀ x ∈ L, x.Ok) (s : Option Addr) (cap : Nat) (hcap : L.length ≤ cap) (hcn : s = none → cap = 0) (at' : Int) (q0 : 0 ≤ at') (q1 : at' < 18446744073709551616) (tx : ByteArray) (w : World) (hE : Ents w s L)
    (hyes : AppOk a b bf L at' tx) :
    Calls Try.prog 14 #[kv a b, lv bf s L.length cap, .int .u64 at', .string tx] w fun e w' => ∃ s2 c2, e = .returned (.tuple #[lv (appB bf L) s2 (appL a b bf L at' tx).length c2, .int .i64 0]) ∧ Ents w' s2 (appL a b bf L at' tx) ∧ Below w.heap.size w w' := by
  by_cases hz : L.length = 0
  · exact refAppend_yes0 a b bf h0 h1 L hL s cap hcap hcn at' q0 q1 tx w hE hyes hz
  · by_cases h30 : L.length < 30
    · exact refAppend_yes1 a b bf h0 h1 L hL s cap hcap hcn at' q0 q1 tx w hE hyes (by omega) h30
    · exact refAppend_yes2 a b bf h0 h1 L hL s cap hcap hcn at' q0 q1 tx w hE hyes (by omega)
end Go.Proofs.Ytclhbimlpamjiaa
