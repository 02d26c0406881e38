/- A part of the proof of TopCounts. -/
import Derived.Test.YtmgdbfmlnmahpaaGreatDoorG08
import Derived.Test.YtmgdbfmlnmahpaaGreatDoorG10
namespace Go.Proofs.YtmgdbfmlnmahpaaGreatDoor
open Go.RowKit Go.Shelf
set_option linter.unusedSimpArgs false
set_option linter.unusedVariables false
set_option maxRecDepth 100000
abbrev cmsV (s : Option Addr) (n cap : Nat) : Value := .agg #[.int .i64 2, .int .i64 32, .slice s n cap]
theorem isShape_any (w : World) : Calls Tryz.prog 127 #[.int .i64 2, .int .i64 32] w fun e w' => e = .returned (.bool true) ∧ w' = w := by
  go_enter Tryz.func127, Tryz.ntmps127
  go_wp2_with fail
  go_ret
  exact ⟨rfl, rfl⟩
@[go_sem] theorem asCm_nil (w : World) : (Instr.typeAssert .nilIface 137 255 true).run Tryz.prog w = .ok (.tuple #[.agg #[.string ⟨#[]⟩], .bool false]) w := by kernel_rfl
theorem cmErrno_ok (w : World) : Calls Tryz.prog 82 #[.nilIface] w fun e w' => e = .returned (.int .i64 0) ∧ Below w.heap.size w w' := by
  go_enter Tryz.func82, Tryz.ntmps82
  go_wp2_with fail
  go_ret
  exact ⟨rfl, (Below.refl _ _).alloc (Nat.le_refl _) _⟩
theorem cmRight_any (s : Option Addr) (cap : Nat) (w : World) :
    Calls Tryz.prog 176 #[cmsV s 64 cap] w fun e w' => e = .returned (.bool true) ∧ Below w.heap.size w w' := by
  have st := (St.start w).alloc (cs := #[.int .i64 2, .int .i64 32, .slice s 64 cap]) (T := 98)
  go_enter Tryz.func176, Tryz.ntmps176
  go_wp2_with fail
  refine (isShape_any _).mono ?_
  rintro e w1 ⟨rfl, rfl⟩
  go_wp2_with fail
  go_ret
  exact ⟨rfl, st.below⟩
theorem together_any (A : Nat) (a b : Nat) (ha : a ≤ maxU) (hb : b ≤ maxU) (w : World) (hA : w.heap[A]? = some (.cells #[.int .u64 (a : Int), .int .u64 (b : Int)] 22 (0, 0))) :
    Calls Tryz.prog 310 #[.slice (some ⟨A, 0, none⟩) 2 2] w fun e w' => e = .returned (.int .u64 (sat a b : Nat)) ∧ w' = w := by
  have c0 := blk_cell hA 0
  have c1 := blk_cell hA 1
  have hm : maxU = 18446744073709551615 := rfl
  have ha' : (a : Int) ≤ 18446744073709551615 := by have := ha; rw [hm] at this; omega
  have hb' : (b : Int) ≤ 18446744073709551615 := by have := hb; rw [hm] at this; omega
  by_cases hs : 18446744073709551615 < a + b
  · have HSAT : Hid (((sat a b : Nat) : Int) = 18446744073709551615) := by
      show _ = _
      unfold sat
      rw [hm]
      omega
    clear hm ha hb
    go_enter Tryz.func310, Tryz.ntmps310
    go_wp2_with fail
    go_loop [3, 8] (fun sm i => (i = .int .i64 0 ∧ sm = .int .u64 0) ∨ (i = .int .i64 1 ∧ sm = .int .u64 (a : Int))) (fun _ i => 2 - (intOf i).toNat)
    case atStart => exact .inl ⟨rfl, rfl⟩
    case round =>
      rcases hrel with ⟨rfl, rfl⟩ | ⟨rfl, rfl⟩
      · go_wp2_with fail
        go_round
        case rel => exact .inr ⟨rfl, by first | rfl | simp⟩
        case measure => simp [intOf]
      · have hd : 18446744073709551615 - (a : Int) < (b : Int) := by omega
        go_wp2_with fail
        go_ret
        exact ⟨by rw [HSAT.out]; rfl, rfl⟩
  · have HSAT : Hid (((sat a b : Nat) : Int) = (a : Int) + (b : Int)) := by
      show _ = _
      unfold sat
      rw [hm]
      omega
    clear hm ha hb
    go_enter Tryz.func310, Tryz.ntmps310
    go_wp2_with fail
    go_loop [3, 8] (fun sm i => (i = .int .i64 0 ∧ sm = .int .u64 0) ∨ (i = .int .i64 1 ∧ sm = .int .u64 (a : Int)) ∨ (i = .int .i64 2 ∧ sm = .int .u64 ((a : Int) + (b : Int)))) (fun _ i => 2 - (intOf i).toNat)
    case atStart => exact .inl ⟨rfl, rfl⟩
    case round =>
      rcases hrel with ⟨rfl, rfl⟩ | ⟨rfl, rfl⟩ | ⟨rfl, rfl⟩
      · go_wp2_with fail
        go_round
        case rel => exact .inr (.inl ⟨rfl, by first | rfl | simp⟩)
        case measure => simp [intOf]
      · have hd : ¬ (18446744073709551615 - (a : Int) < (b : Int)) := by omega
        have hs2 : (a : Int) + (b : Int) ≤ 18446744073709551615 := by omega
        go_wp2_with fail
        go_round
        case rel => exact .inr (.inr ⟨rfl, by first | rfl | simp⟩)
        case measure => simp [intOf]
      · go_wp2_with fail
        go_ret
        exact ⟨by rw [HSAT.out]; rfl, rfl⟩
theorem add1_any (p : Int) (old n Bn : Nat) (ho : old ≤ maxU) (hn : n ≤ maxU) (w : World) (hB : w.cell? ⟨Bn, 0, none⟩ = some (.int .u64 (n : Int))) :
    Calls Tryz.prog 309 (#[.int .i64 p, .int .u64 (old : Int)] ++ #[.pointer (some ⟨Bn, 0, none⟩)]) w fun e w' => e = .returned (.int .u64 (sat old n : Nat)) ∧ Below w.heap.size w w' := by
  show Calls Tryz.prog 309 #[.int .i64 p, .int .u64 (old : Int), .pointer (some ⟨Bn, 0, none⟩)] w _
  have HT := Lib.hid (together_any w.heap.size old n ho hn (w.alloc (.cells #[.int .u64 (old : Int), .int .u64 (n : Int)] 22)) (World.alloc_heap_new _ _))
  have hb := (Below.refl w.heap.size w).alloc (Nat.le_refl _) (.cells #[.int .u64 (old : Int), .int .u64 (n : Int)] 22)
  generalize sat old n = r at *
  clear ho hn
  go_enter Tryz.func309, Tryz.ntmps309
  go_wp2_with fail
  refine HT.out.mono ?_
  rintro e w1 ⟨rfl, rfl⟩
  go_wp2_with fail
  go_ret
  exact ⟨rfl, hb⟩
theorem merge1_any (p : Nat) (old By : Nat) (L : List Nat) (s : Option Addr) (cap : Nat) (hl : L.length = 64) (hcap : L.length ≤ cap) (hp : p < 64) (ho : old ≤ maxU) (hL : SmallC L) (w : World) (hN : Nums w s L) (hB : w.heap[By]? = some (.cells #[.int .i64 2, .int .i64 32, .slice s L.length cap] 98 (0, 0))) :
    Calls Tryz.prog 313 (#[.int .i64 (p : Int), .int .u64 (old : Int)] ++ #[.pointer (some ⟨By, 0, none⟩)]) w fun e w' => e = .returned (.int .u64 (sat old (L.getD p 0) : Nat)) ∧ Below w.heap.size w w' := by
  show Calls Tryz.prog 313 #[.int .i64 (p : Int), .int .u64 (old : Int), .pointer (some ⟨By, 0, none⟩)] w _
  obtain ⟨x, hx⟩ : ∃ x, L[p]? = some x := ⟨_, List.getElem?_eq_getElem (by omega)⟩
  obtain ⟨g, o, rfl, hg, hc⟩ := hN.at hx
  have hxm := hL x (List.mem_of_getElem? hx)
  have e0 : L.getD p 0 = x := by simp [List.getD, hx]
  rw [e0]
  have HT := Lib.hid (together_any w.heap.size old x ho hxm (w.alloc (.cells #[.int .u64 (old : Int), .int .u64 (x : Int)] 22)) (World.alloc_heap_new _ _))
  have hb := (Below.refl w.heap.size w).alloc (Nat.le_refl _) (.cells #[.int .u64 (old : Int), .int .u64 (x : Int)] 22)
  have hc2 := blk_cell hB 2
  have hpl : p < L.length := by omega
  clear hl e0 hx ho hxm hB
  generalize sat old x = r at *
  go_enter Tryz.func313, Tryz.ntmps313
  go_wp2_with fail
  refine HT.out.mono ?_
  rintro e w1 ⟨rfl, rfl⟩
  go_wp2_with fail
  go_ret
  exact ⟨rfl, hb⟩
theorem col_arith (r h : Nat) (hr : r < 2) (hh : h ≤ maxU) : wrap64 ((IntKind.u64.wrap ((h : Int) / 4294967296 + IntKind.u64.wrap ((r : Int) * ((h : Int) % 4294967296)))).tmod 32) = ((colC r h : Nat) : Int) := by
  have hh' : h ≤ 18446744073709551615 := hh
  have e1 : IntKind.u64.wrap ((r : Int) * ((h : Int) % 4294967296)) = ((r * (h % 4294967296) : Nat) : Int) := by
    have hc : r = 0 ∨ r = 1 := by omega
    rcases hc with rfl | rfl <;> simp [IntKind.wrap, IntKind.bits, IntKind.signed] <;> omega
  rw [e1]
  have hle : r * (h % 4294967296) ≤ 4294967295 := by
    have hc : r = 0 ∨ r = 1 := by omega
    rcases hc with rfl | rfl <;> omega
  unfold colC
  generalize r * (h % 4294967296) = m at *
  have e2 : IntKind.u64.wrap ((h : Int) / 4294967296 + (m : Int)) = ((h / 4294967296 + m : Nat) : Int) := by
    simp [IntKind.wrap, IntKind.bits, IntKind.signed]
    omega
  rw [e2]
  generalize h / 4294967296 + m = q
  have e3 : ((q : Int)).tmod 32 = ((q % 32 : Nat) : Int) := by
    rw [Int.tmod_eq_emod_of_nonneg (by omega)]
    simp
  rw [e3]
  have : q % 32 < 32 := Nat.mod_lt _ (by decide)
  generalize q % 32 = s at *
  simp [wrap64]
  omega
theorem col_any (r h : Nat) (hr : r < 2) (hh : h ≤ maxU) (v : Value) (w : World) :
    Calls Tryz.prog 255 #[.agg #[.int .i64 2, .int .i64 32, v], .int .i64 (r : Int), .int .u64 (h : Int)] w fun e w' => e = .returned (.int .i64 (colC r h : Nat)) ∧ Below w.heap.size w w' := by
  have st := (St.start w).alloc (cs := #[.int .i64 2, .int .i64 32, v]) (T := 186)
  have HH := Lib.hid hh
  clear hh
  go_enter Tryz.func255, Tryz.ntmps255
  go_wp2_with fail
  go_ret
  exact ⟨congrArg (fun z : Int => Ending.returned (.int .i64 z)) (col_arith r h hr HH.out), st.below⟩
theorem told_any (s : Option Addr) (n cap : Nat) (h : Int) (w : World) :
    Calls Tryz.prog 308 #[cmsV s n cap, .int .u64 h] w fun e w' => e = .returned (.func (.func 314) #[] #[.pointer (some ⟨w.heap.size, 0, none⟩), .pointer (some ⟨w.heap.size + 1, 0, none⟩)]) ∧ w' = (w.alloc (.cells #[.int .i64 2, .int .i64 32, .slice s n cap] 186)).alloc (.cells #[.int .u64 h] 22) := by
  go_enter Tryz.func308, Tryz.ntmps308
  go_wp2_with fail
  go_ret
  exact ⟨rfl, rfl⟩
theorem allC_any (s : Option Addr) (n cap : Nat) (w : World) :
    Calls Tryz.prog 311 #[cmsV s n cap] w fun e w' => e = .returned (.func (.func 315) #[] #[.pointer (some ⟨w.heap.size, 0, none⟩)]) ∧ w' = w.alloc (.cells #[.int .i64 2, .int .i64 32, .slice s n cap] 186) := by
  go_enter Tryz.func311, Tryz.ntmps311
  go_wp2_with fail
  go_ret
  exact ⟨rfl, rfl⟩
theorem blank_any (w : World) :
    Calls Tryz.prog 81 #[.int .i64 2, .int .i64 32] w fun e w' => ∃ A, e = .returned (.tuple #[cmsV (some ⟨A, 0, none⟩) 64 64, .nilIface]) ∧ w.heap.size ≤ A ∧ w'.heap[A]? = some (.cells (zerosC.flatMap encU).toArray 22 (0, 0)) ∧ Below w.heap.size w w' := by
  have st := (St.start w).alloc (cs := #[.int .i64 0, .int .i64 0, .slice none 0 0]) (T := 186)
  go_enter Tryz.func81, Tryz.ntmps81
  go_wp2_with fail
  refine (isShape_any _).mono ?_
  rintro e w1 ⟨rfl, rfl⟩
  have hzz : (List.replicate 64 (Value.int .u64 0)).toArray = (zerosC.flatMap encU).toArray := by kernel_rfl
  go_wp2_with (at_make; refine make_nz (z := .int .u64 0) (bytes := 8) Tryz.underlying41 (by kernel_rfl) rfl rfl (.tmp 17) (.tmp 17) rfl 64 rfl rfl st (by decide) (by decide) ?_; intro w2 st2 hb2; simp only [World.size_alloc] at st2; have rl := st2.rules; simp only [Rules] at rl)
  rw [hzz] at st2
  have st3 := (((st2.setT 1 rfl (o := 0) (v := .int .i64 2) (Nat.le_refl _)).setT 1 rfl (o := 1) (v := .int .i64 32) (Nat.le_refl _)).setT 1 rfl (o := 2) (v := .slice (some ⟨w.heap.size + 1, 0, none⟩) 64 64) (Nat.le_refl _))
  simp only [setB, List.modify_succ_cons, List.modify_zero_cons, List.setIfInBounds_toArray, List.set_cons_zero, List.set_cons_succ] at st3
  exact bodyPost_ret (v := .tuple #[cmsV (some ⟨w.heap.size + 1, 0, none⟩) 64 64, .nilIface]) (by simp [results, Tryz.results81, go_sem, rl]) rfl ⟨_, rfl, Nat.le_succ _, st3.blk _ (List.mem_of_getElem? (i := 0) rfl), st3.below⟩
def GivesC (w : World) (L : List Nat) (e : Ending) (w' : World) : Prop :=
  ∃ A, e = .returned (.tuple #[cmsV (some ⟨A, 0, none⟩) 64 64, .nilIface]) ∧ w.heap.size ≤ A ∧ w'.heap[A]? = some (.cells (L.flatMap encU).toArray 22 (0, 0)) ∧ Below w.heap.size w w'
def GivesC0 (w : World) (L : List Nat) (e : Ending) (w' : World) : Prop :=
  ∃ A, e = .returned (.tuple #[cmsV (some ⟨A, 0, none⟩) 64 64, .int .i64 0]) ∧ w.heap.size ≤ A ∧ w'.heap[A]? = some (.cells (L.flatMap encU).toArray 22 (0, 0)) ∧ Below w.heap.size w w'
theorem cmBegin_any (L : List Nat) (hl : L.length = 64) (s : Option Addr) (cap : Nat) (w : World) (hL : Nums w s L) :
    Calls Tryz.prog 306 #[cmsV s 64 cap] w (GivesC w L) := by
  have st0 := ((St.start w).alloc (cs := #[.int .i64 2, .int .i64 32, .slice s 64 cap]) (T := 98)).alloc (cs := #[.int .i64 0, .int .i64 0, .slice none 0 0]) (T := 186)
  simp only [World.size_alloc] at st0
  have HL := Lib.hid hl
  clear hl
  go_enter Tryz.func306, Tryz.ntmps306
  go_wp2_with fail
  refine (cmRight_any s cap _).mono ?_
  rintro e w1 ⟨rfl, hb1⟩
  have st1 := st0.to hb1
  have rl := st1.rules
  simp only [Rules] at rl
  clear st0 hb1
  go_wp2_with fail
  refine (blank_any _).mono ?_
  rintro e w2 ⟨A, rfl, hA, hN, hb2⟩
  have st2 := ((st1.addNew (st1.to hb2) hA hN).alloc (cs := #[.int .i64 2, .int .i64 32, .slice (some ⟨A, 0, none⟩) 64 64]) (T := 186))
  have hwA : w.heap.size ≤ A := by have := st1.below.size; omega
  have hL2 := hL.keepB (Nat.le_refl _) st2.below
  have rl := st2.rules
  simp only [Rules, World.size_alloc] at rl
  clear st1 hb2 hA hN
  go_wp2_with (refine copy_n (bl1 := [(w2.heap.size, #[.int .i64 2, .int .i64 32, .slice (some ⟨A, 0, none⟩) 64 64], 186)]) (bl2 := [(w.heap.size + 1, #[.int .i64 0, .int .i64 0, .slice none 0 0], 186), (w.heap.size, #[.int .i64 2, .int .i64 32, .slice s 64 cap], 98)]) elemU encU_len encU_one rfl (.tmp 22) (.tmp 24) rfl A _ L 64 HL.out.symm (by decide) rfl s cap rfl st2 hwA hL2 ?_; intro w4 st4 hk4 hz4; have rl4 := st4.rules; simp only [List.cons_append, List.nil_append, Rules] at rl4)
  have st5 := (((st4.setT 2 rfl (o := 0) (v := .int .i64 2) (Nat.le_add_right _ _)).setT 2 rfl (o := 1) (v := .int .i64 32) (Nat.le_add_right _ _)).setT 2 rfl (o := 2) (v := .slice (some ⟨A, 0, none⟩) 64 64) (Nat.le_add_right _ _))
  simp only [setB, List.cons_append, List.nil_append, List.modify_succ_cons, List.modify_zero_cons, List.setIfInBounds_toArray, List.set_cons_zero, List.set_cons_succ] at st5
  exact bodyPost_ret (v := .tuple #[cmsV (some ⟨A, 0, none⟩) 64 64, .nilIface]) (by simp [results, Tryz.results306, go_sem, rl4]) rfl ⟨A, rfl, hwA, st5.blk _ (List.mem_of_getElem? (i := 1) rfl), st5.below⟩
theorem cmNew_any (w : World) : Calls Tryz.prog 51 #[.int .i64 2, .int .i64 32] w (GivesC0 w zerosC) := by
  have st0 := (St.start w).alloc (cs := #[.int .i64 0, .int .i64 0, .slice none 0 0]) (T := 98)
  go_enter Tryz.func51, Tryz.ntmps51
  go_wp2_with fail
  refine (blank_any _).mono ?_
  rintro e w2 ⟨A, rfl, hA, hN, hb2⟩
  have hwA : w.heap.size ≤ A := by simp at hA; omega
  have st2 := ((st0.addNew (st0.to hb2) hA hN).alloc (cs := #[.int .i64 2, .int .i64 32, .slice (some ⟨A, 0, none⟩) 64 64]) (T := 186))
  clear st0 hb2 hA hN
  go_wp2_with fail
  obtain ⟨bl5, E5, hne5, sh5, rl, hEx, hbx, hst⟩ := st2.hide
  refine region_st_tail sh5 4 (by kernel_rfl) (by kernel_rfl) ?_
  simp only [List.take_succ_cons, List.take_zero, List.drop_succ_cons, List.drop_zero]
  simp only [Rules] at rl
  repeat (first | go_big_quiet_step ((go_at_call 82; exact Cs.call (cmErrno_ok _))) | quiet_step ((go_at_call 82; exact Cs.call (cmErrno_ok _))))
  refine wpQuiet_nil ?_
  intro y
  have st6 := (hst y).out
  clear hbx rl hst sh5 hEx st2
  generalize y.W = w6 at *
  have rl := st6.rules
  simp only [Rules] at rl
  go_wp2_with fail
  have st7 := (((st6.setT 2 rfl (o := 0) (v := .int .i64 2) (Nat.le_refl _)).setT 2 rfl (o := 1) (v := .int .i64 32) (Nat.le_refl _)).setT 2 rfl (o := 2) (v := .slice (some ⟨A, 0, none⟩) 64 64) (Nat.le_refl _))
  simp only [setB, List.modify_succ_cons, List.modify_zero_cons, List.setIfInBounds_toArray, List.set_cons_zero, List.set_cons_succ] at st7
  exact bodyPost_ret (v := .tuple #[cmsV (some ⟨A, 0, none⟩) 64 64, .int .i64 0]) (by simp [results, Tryz.results51, go_sem, rl]) rfl ⟨A, rfl, hwA, st7.blk _ (List.mem_of_getElem? (i := 1) rfl), st7.below⟩
theorem cmSame_any (L M : List Nat) (hl : L.length = 64) (hm : M.length = 64) (s t : Option Addr) (c d : Nat) (w : World) (hL : Nums w s L) (hM : Nums w t M) (r : Bool) (hr : r = true ↔ L = M) :
    Calls Tryz.prog 136 #[cmsV s 64 c, cmsV t 64 d] w fun e w' => e = .returned (.bool r) ∧ Below w.heap.size w w' := by
  have st0 := ((St.start w).alloc (cs := #[.int .i64 2, .int .i64 32, .slice s 64 c]) (T := 98)).alloc (cs := #[.int .i64 2, .int .i64 32, .slice t 64 d]) (T := 98)
  have hb0 := st0.below
  have HR := Lib.hid (eqU_any L M (by omega) (by omega) s t c d _ (hL.keepB (Nat.le_refl _) hb0) (hM.keepB (Nat.le_refl _) hb0) r hr)
  rw [hl, hm] at HR
  clear st0 hr hl hm
  go_enter Tryz.func136, Tryz.ntmps136
  go_wp2_with fail
  refine HR.out.mono ?_
  rintro e w1 ⟨rfl, hb1⟩
  have hb2 := hb0.trans (hb1.mono hb0.size)
  clear HR hb0 hb1
  go_wp2_with fail
  go_ret
  exact ⟨rfl, hb2⟩
end Go.Proofs.YtmgdbfmlnmahpaaGreatDoor
namespace Go.Proofs.YtmgdbfmlnmahpaaGreatDoor
open Go.RowKit Go.Shelf
set_option linter.unusedSimpArgs false
set_option linter.unusedVariables false
set_option maxRecDepth 100000
def KpB (bl : List Blk) (A B : World) : Prop := ∀ x ∈ bl, B.heap[x.1]? = A.heap[x.1]?
def chg (g : Nat → Nat → Nat) (L : List Nat) (Ps : List Nat) : List Nat := Ps.foldl (fun l p => l.set p (g p (l.getD p 0))) L
theorem chg_snoc (g : Nat → Nat → Nat) (L Ps : List Nat) (p : Nat) : chg g L (Ps ++ [p]) = (chg g L Ps).set p (g p ((chg g L Ps).getD p 0)) := by simp [chg]
theorem chg_length (g : Nat → Nat → Nat) : ∀ (Ps L : List Nat), (chg g L Ps).length = L.length := by
  intro Ps
  induction Ps with
  | nil => intro L; rfl
  | cons p Ps ih => intro L; have := ih (L.set p (g p (L.getD p 0))); simpa [chg] using this
theorem chg_small (g : Nat → Nat → Nat) (hg : ∀ p n, n ≤ maxU → g p n ≤ maxU) : ∀ (Ps L : List Nat), SmallC L → SmallC (chg g L Ps) := by
  intro Ps
  induction Ps with
  | nil => intro L h; exact h
  | cons p Ps ih =>
    intro L h
    refine ih _ ?_
    intro x hx
    rcases List.mem_or_eq_of_mem_set hx with h' | h'
    · exact h x h'
    · rw [h']; exact hg _ _ (getD_small h _)
theorem flat_set (L : List Nat) (p n : Nat) : (((L.set p n).flatMap encU).toArray) = ((L.flatMap encU).toArray).setIfInBounds p (.int .u64 (n : Int)) := by
  have e : ∀ M : List Nat, M.flatMap encU = M.map fun n : Nat => Value.int .u64 (n : Int) := by
    intro M
    induction M with
    | nil => rfl
    | cons x M ih => simp [encU, ih]
  rw [e, e, List.map_set]
  simp
def StCh (w0 : World) (b : Nat) (fv : Value) (A : Nat) (g : Nat → Nat → Nat) (L : List Nat) (bl : List Blk) (pre : List Nat) (W : World) : Prop :=
  St w0 ((b + 1, #[fv], 470) :: (b, #[.int .i64 2, .int .i64 32, .slice (some ⟨A, 0, none⟩) 64 64], 186) :: (A, ((chg g L pre).flatMap encU).toArray, 22) :: bl) (fun _ => True) W
theorem StCh.own (w0 : World) (b : Nat) (fv : Value) (A : Nat) (g : Nat → Nat → Nat) (L : List Nat) (bl : List Blk) (n : Nat) (hn : w0.heap.size ≤ n) : OwnFrom n (StCh w0 b fv A g L bl) := fun _ _ _ _ h hg hr => St.own h hg hr hn
theorem StCh.bears (w0 : World) (b : Nat) (fv : Value) (A : Nat) (g : Nat → Nat → Nat) (L : List Nat) (bl : List Blk) : Bears none (StCh w0 b fv A g L bl) := fun _ _ _ h hg => St.grown h hg (fun k e => by cases e)
attribute [local go_sem] Oper.semAt_some
set_option maxHeartbeats 2000000 in
theorem change_any {w0 w : World} {bl : List Blk} (A : Nat) (L : List Nat) (hl : L.length = 64) (hs : SmallC L) (st : St w0 ((A, (L.flatMap encU).toArray, 22) :: bl) (fun _ => True) w) (hA : w0.heap.size ≤ A)
    (it : Nat) (lb : Array Value) (Ps : List Nat) (egi : ∀ args w, (callFunc it args).run Tryz.prog w = .ok (.enter it args) w)
    (hseq : ∀ W, St w0 ((A, (L.flatMap encU).toArray, 22) :: bl) (fun _ => True) W → SeqW Fence.wide 4 Tryz.prog it lb (fun p : Nat => #[Value.int .i64 (p : Int)]) (fun p _ => p < 64) (KpB bl) (fun xs => xs = Ps) (fun pre => pre <+: Ps) Ps.length none W)
    (tf : Nat) (cb : Array Value) (g : Nat → Nat → Nat) (hg : ∀ p n, n ≤ maxU → g p n ≤ maxU) (eg : ∀ args w, (callFunc tf args).run Tryz.prog w = .ok (.enter tf args) w)
    (hto : ∀ W, Below w0.heap.size w0 W → (∀ x ∈ bl, W.heap[x.1]? = some (.cells x.2.1 x.2.2 (0, 0))) → ∀ p old : Nat, p < 64 → old ≤ maxU → Calls Tryz.prog tf (#[.int .i64 (p : Int), .int .u64 (old : Int)] ++ cb) W fun e W' => e = .returned (.int .u64 (g p old : Nat)) ∧ Below W.heap.size W W') :
    Calls Tryz.prog 307 #[cmsV (some ⟨A, 0, none⟩) 64 64, .func (.func it) #[] lb, .func (.func tf) #[] cb] w fun e w' => e = .returned (.tuple #[]) ∧ St w0 ((A, ((chg g L Ps).flatMap encU).toArray, 22) :: bl) (fun _ => True) w' := by
  have HL := Lib.hid hl
  have HSQ := Lib.hid hseq
  have HTO := Lib.hid hto
  clear hl hseq hto
  have st1 := (st.alloc (cs := #[.int .i64 2, .int .i64 32, .slice (some ⟨A, 0, none⟩) 64 64]) (T := 186)).alloc (cs := #[.func (.func tf) #[] cb]) (T := 470)
  simp only [World.size_alloc] at st1
  refine (callsIn_wide (n := 5)).1 ?_
  refine callsIn_of_wp_marks Tryz.func307 rfl trivial ?_ rfl
  simp only [Tryz.ntmps307, List.size_toArray, List.length_cons, List.length_nil, Nat.reduceAdd, Nat.reduceSub, Array.replicate_succ, Array.replicate_zero, List.push_toArray, List.append_toArray, List.nil_append, List.cons_append]
  refine wpIn_wide.2 ?_
  go_wp2_with fail
  have hz : ((w.alloc (.cells #[.int .i64 2, .int .i64 32, .slice (some ⟨A, 0, none⟩) 64 64] 186)).alloc (.cells #[.func (.func tf) #[] cb] 470)).heap.size = w.heap.size + 2 := by simp
  generalize (w.alloc (.cells #[.int .i64 2, .int .i64 32, .slice (some ⟨A, 0, none⟩) 64 64] 186)).alloc (.cells #[.func (.func tf) #[] cb] 470) = w3 at *
  have hz0 := st.below.size
  refine (wpIn_wide (n := 5)).1 (wpIn_rangeFunc_w (n := 5) (b := none) (fun _ e => by cases e) rfl (by omega) (gf := it) (lb := lb) rfl trivial egi
    (fun W hb => HSQ.out W ((st1.less _ (List.Sublist.cons _ (List.sublist_cons_self _ _))).to hb)) (fun h k => fun x hx => (k x hx).trans (h x hx)) ?kb (fun _ => rfl)
    (StCh w0 w.heap.size (.func (.func tf) #[] cb) A g L bl) (fun _ _ _ => False) (StCh.own _ _ _ _ _ _ _ _ (by rw [hz]; omega)) (fun _ _ _ _ _ h _ _ => h) (StCh.bears _ _ _ _ _ _ _) (fun _ _ _ _ h _ => h) st1
    (fun x _ => { tmps := #[cmsV (some ⟨A, 0, none⟩) 64 64, .func (.func it) #[] lb, .func (.func tf) #[] cb, .pointer (some ⟨w.heap.size, 0, none⟩), undef, .pointer (some ⟨w.heap.size + 1, 0, none⟩), .int .i64 (x : Int), .func (.func it) #[] lb, .int .i64 (x : Int), undef, undef, undef, undef, undef, undef, undef, undef, undef, undef, undef, undef, undef, undef], defers := [] })
    (fun x _ _ => x < 64) (fun _ _ _ _ _ _ h _ _ => h) ?assign ?body ?done ?stop)
  case kb =>
    intro W l o' hl' hlt x hx
    have := blk_lt (st1.blk x (by simp [hx]))
    exact World.putObj_heap_other (by omega)
  case assign =>
    intro l pre x W K hI hP hK
    have HK := Lib.hid (hK 0 W (KeepsOthers.refl _) (fun _ _ => rfl) hI hP)
    clear hK
    gi_wp2_with fail
    exact HK.out
  case body =>
    rintro l pre x c W stI hP hN
    have hlen : (chg g L pre).length = 64 := by rw [chg_length]; exact HL.out
    obtain ⟨old, hold⟩ : ∃ old, (chg g L pre)[x]? = some old := ⟨_, List.getElem?_eq_getElem (by omega)⟩
    have hsm := chg_small g hg pre L hs
    have hom := hsm old (List.mem_of_getElem? hold)
    have hget : (chg g L pre).getD x 0 = old := by simp [List.getD, hold]
    have HS : Hid (((chg g L (pre ++ [x])).flatMap encU).toArray = (((chg g L pre).flatMap encU).toArray).setIfInBounds x (.int .u64 (g x old : Nat))) := by
      show _ = _
      rw [chg_snoc, hget, flat_set]
    have hcell : ((chg g L pre).flatMap encU).toArray[x]? = some (.int .u64 (old : Int)) := by
      rw [List.getElem?_toArray]
      have := flat_at encU_len (chg g L pre) x old hold 0 (.int .u64 (old : Int)) rfl
      simpa using this
    have HC := Lib.hid hcell
    have stW : St w0 ((w.heap.size + 1, #[.func (.func tf) #[] cb], 470) :: (w.heap.size, #[.int .i64 2, .int .i64 32, .slice (some ⟨A, 0, none⟩) 64 64], 186) :: (A, ((chg g L pre).flatMap encU).toArray, 22) :: bl) (fun W' => True ∧ Below W.heap.size W W') W := St.also stI (F := fun W' => Below W.heap.size W W') (Below.refl _ _) (fun _ _ h hb => h.trans (hb.mono h.size))
    have hmx : Tryz.prog.follows .mixedOrders = true := by kernel_rfl
    have hbA : A < w.heap.size := blk_lt (st.blk (A, (L.flatMap encU).toArray, 22) (by simp))
    have stJ := stI
    clear hcell hget hold hlen hN stI st1
    gi_wp2_with fail
    obtain ⟨bl2, E2, hne2, sh2, rl, hEx, hbx, hst⟩ := stW.hide
    have hc1 : ∀ z : Cs w0 bl2 E2, z.W.cell? ⟨w.heap.size + 1, 0, none⟩ = some (.func (.func tf) #[] cb) := fun z => (rl z).1 0
    have hc2 : ∀ z : Cs w0 bl2 E2, z.W.cell? ⟨w.heap.size, 2, none⟩ = some (.slice (some ⟨A, 0, none⟩) 64 64) := fun z => (rl z).2.2.2.1 2
    have hc3 : ∀ z : Cs w0 bl2 E2, z.W.cell? ⟨A, x, none⟩ = some (.int .u64 (old : Int)) := fun z => ((rl z).2.2.2.2.2.2.1 x).trans HC.out
    clear rl
    refine regionInR_st_tail sh2 14 (by kernel_rfl) (by kernel_rfl) (by kernel_rfl) ?_
    simp only [List.take_succ_cons, List.take_zero, List.drop_succ_cons, List.drop_zero]
    repeat (first | go_big_quiet_step ((exact Cs.call (HTO.out _ (hbx _).out (fun y hy => (hst _).out.blk y (by simp [hy])) x old hP hom))) | quiet_step ((exact Cs.call (HTO.out _ (hbx _).out (fun y hy => (hst _).out.blk y (by simp [hy])) x old hP hom))))
    refine wpQuiet_nil ?_
    intro y
    have st3 := (hst y).out
    clear hc1 hc2 hc3 hbx hst sh2 hEx stW
    generalize y.W = w4 at *
    have rl4 := st3.rules
    simp only [Rules] at rl4
    have hcA : w4.cell? ⟨A, x, none⟩ = some (.int .u64 (old : Int)) := (rl4.2.2.2.2.2.2.1 x).trans HC.out
    have hfA : w4.frozen? ⟨A, x, none⟩ = false := rl4.2.2.2.2.2.2.2.1 x
    clear rl4
    gi_wp2_with fail
    have hbW := st3.ex.2
    have st4 := (st3.lessE (F := fun _ => True) trivial (fun _ _ _ _ => trivial)).setT 2 rfl (o := x) (v := .int .u64 (g x old : Nat)) hA
    simp only [setB, List.modify_succ_cons, List.modify_zero_cons] at st4
    rw [← HS.out] at st4
    refine ⟨(keepsOthers_below hbW).trans (KeepsOthers.setCell _ _ _), fun y hy => ?_, st4⟩
    have hne : y.1 ≠ A := fun e => (List.pairwise_cons.1 st.nd).1 y hy e.symm
    have hylt := blk_lt (st.blk y (by simp [hy]))
    have hWz : w.heap.size ≤ W.heap.size := by
      have := blk_lt (stJ.blk (w.heap.size, #[.int .i64 2, .int .i64 32, .slice (some ⟨A, 0, none⟩) 64 64], 186) (by simp))
      omega
    exact (Below.heap_setCell w4 ⟨A, x, none⟩ _ y.1 hne).trans (hbW.block y.1 (by omega))
  case done =>
    rintro D xs W hD rfl st9 hK
    have st9' : St w0 ((A, ((chg g L xs).flatMap encU).toArray, 22) :: bl) (fun _ => True) W := St.less st9 _ (List.Sublist.cons _ (List.sublist_cons_self _ _))
    clear st9 st1
    go_wp2_with fail
    refine ⟨by simp, .inl ⟨_, _, rfl, run_takeDeferred hK, ?_⟩⟩
    exact ⟨_, results_none rfl _ _ _, rfl, st9'.own (base := w0.heap.size) (grownBy_putObj' W D _) (fun r e => by cases e; exact ⟨by omega, _, hK, rfl⟩) (Nat.le_refl _)⟩
  case stop =>
    rintro D c pre W hD hp h
    exact h.elim
end Go.Proofs.YtmgdbfmlnmahpaaGreatDoor
namespace Go.Proofs.YtmgdbfmlnmahpaaGreatDoor
open Go.RowKit Go.Shelf
set_option linter.unusedSimpArgs false
set_option linter.unusedVariables false
set_option maxRecDepth 100000
theorem regionIn_st_tail {n : Nat} {P : Program} {id : Nat} {Q : Exit → Act → World → Prop} {a : Act} {w w0 : World} {bl : List Blk} {E : World → Prop} {l : List Oper} (st : St w0 bl E w) (m : Nat) (hm : P.follows .mixedOrders = true) (hB : Region.lexTailB .any l.toArray m = true)
    (h : wpQuiet P l.toArray (fun W => ∃ x : Cs w0 bl E, W = x.W) (fun a' => ∀ x : Cs w0 bl E, wpListIn Fence.wide n P l.toArray Q (l.drop m) a' x.W) (l.take m) a) : (Code.region id l.toArray true).wpIn Fence.wide n P Q a w :=
  regionIn_quiet_tail (fun W => ∃ x : Cs w0 bl E, W = x.W) m hm hB ⟨⟨w.drew, st.drew⟩, rfl⟩ (by
    have e : (fun a' : Act => ∀ w', (∃ x : Cs w0 bl E, w' = x.W) → wpListIn Fence.wide n P l.toArray Q (l.drop m) a' w') = fun a' => ∀ x : Cs w0 bl E, wpListIn Fence.wide n P l.toArray Q (l.drop m) a' x.W := by
      funext a'
      exact propext ⟨fun h x => h _ ⟨x, rfl⟩, fun h w' ⟨x, e⟩ => e ▸ h x⟩
    rw [e]; exact h)
def LieB (bl : List Blk) (W : World) : Prop := ∀ x ∈ bl, W.heap[x.1]? = some (.cells x.2.1 x.2.2 (0, 0))
theorem LieB.keep {bl : List Blk} {A B : World} (h : LieB bl A) (k : KpB bl A B) : LieB bl B := fun x hx => (k x hx).trans (h x hx)
theorem LieB.below {bl : List Blk} {A B : World} (h : LieB bl A) (k : Below A.heap.size A B) : LieB bl B := fun x hx => (k.block x.1 (blk_lt (h x hx))).trans (h x hx)
def toldP (h : Nat) : List Nat := [plcC 0 h, plcC 1 h]
theorem plcC_lt (r h : Nat) (hr : r < 2) : plcC r h < 64 := by have := colC_lt r h; unfold plcC; omega
theorem told1_in (bl : List Blk) (Bw Bh : Nat) (v : Value) (h : Nat) (hh : h ≤ maxU) (hBw : (Bw, #[.int .i64 2, .int .i64 32, v], 186) ∈ bl) (hBh : (Bh, #[.int .u64 (h : Int)], 22) ∈ bl)
    (n : Nat) (hn : 1 ≤ n) (l : Nat) (J Jx : List Nat → World → Prop) (bJ : Bears none J)
    (hY : ∀ (pre : List Nat) (x : Nat) (W : World), J pre W → x < 64 → pre.length < (toldP h).length → YieldAt Fence.wide (n - 1) Tryz.prog l #[.int .i64 (x : Int)] W fun e W' =>
      (e = .returned (.bool true) ∧ J (pre ++ [x]) W' ∧ KpB bl W W') ∨ (e = .returned (.bool false) ∧ Jx (pre ++ [x]) W'))
    (W : World) (hW : LieB bl W) (h0 : J [] W) :
    CallsIn Fence.wide n Tryz.prog 314 #[.func (.yield l) #[] #[], .pointer (some ⟨Bw, 0, none⟩), .pointer (some ⟨Bh, 0, none⟩)] W fun e W' => (∃ v, e = .returned v) ∧
      ((∃ xs, xs = toldP h ∧ J xs W') ∨ (∃ pre, pre <+: toldP h ∧ Jx pre W')) := by
  have hcw := blk_cell (hW _ hBw)
  refine callsIn_of_wp Tryz.func314 rfl trivial ?_ rfl
  simp only [Tryz.ntmps314, List.size_toArray, List.length_cons, List.length_nil, Nat.reduceAdd, Nat.reduceSub, Array.replicate_succ, Array.replicate_zero, List.push_toArray, List.append_toArray, List.nil_append, List.cons_append]
  gi_wp2_with fail
  clear hcw
  gi_loopw [8] (fun i wr => ∃ k : Nat, k ≤ 2 ∧ i = .int .i64 (k : Int) ∧ LieB bl wr ∧ J ((toldP h).take k) wr) (fun i _ => 2 - (intOf i).toNat)
  case atStart => exact ⟨0, by omega, rfl, hW, h0⟩
  case round =>
    clear hW h0
    obtain ⟨k, hk, rfl, hb, hJ⟩ := hrel
    by_cases hlt : k < 2
    · have HS : Hid ((toldP h).take k ++ [plcC k h] = (toldP h).take (k + 1)) := by
        have hc : k = 0 ∨ k = 1 := by omega
        rcases hc with rfl | rfl <;> rfl
      have hcw := blk_cell (hb _ hBw)
      have hch := blk_cell (hb _ hBh) 0
      have HCOL := Lib.hid (fun W => col_any k h hlt hh v W)
      have hpl := plcC_lt k h hlt
      have hpd : (k : Int) * 32 + ((colC k h : Nat) : Int) = ((plcC k h : Nat) : Int) := by simp [plcC]
      have hcl := colC_lt k h
      have HPD := Lib.hid hpd
      clear hpd
      generalize colC k h = cc at *
      have hmx : Tryz.prog.follows .mixedOrders = true := by kernel_rfl
      clear hcw hch
      gi_wp2_with fail
      obtain ⟨bl2, E2, hne2, sh2, rl, hEx, hbx, hst⟩ := (St.start wr).hide
      have hcz : ∀ z : Cs wr bl2 E2, ∀ o, z.W.cell? ⟨Bw, o, none⟩ = (#[.int .i64 2, .int .i64 32, v] : Array Value)[o]? := fun z => blk_cell (((hbx z).out.block _ (blk_lt (hb _ hBw))).trans (hb _ hBw))
      have hcy : ∀ z : Cs wr bl2 E2, z.W.cell? ⟨Bh, 0, none⟩ = some (.int .u64 (h : Int)) := fun z => blk_cell (((hbx z).out.block _ (blk_lt (hb _ hBh))).trans (hb _ hBh)) 0
      clear rl
      refine regionIn_st_tail sh2 11 (by kernel_rfl) (by kernel_rfl) ?_
      simp only [List.take_succ_cons, List.take_zero, List.drop_succ_cons, List.drop_zero]
      repeat (first | go_big_quiet_step ((go_at_call 255; exact Cs.call (HCOL.out _))) | quiet_step ((go_at_call 255; exact Cs.call (HCOL.out _))))
      refine wpQuiet_nil ?_
      intro y
      have hb4 := (hbx y).out
      clear hcz hcy hbx hst sh2 hEx
      generalize y.W = w4 at *
      have hJ4 := bJ _ _ _ hJ (grownBy_ofBelow hb4 none)
      have hl4 := hb.below hb4
      obtain ⟨fn, tmps, assign, body, hy, hR⟩ := hY ((toldP h).take k) (plcC k h) w4 hJ4 hpl (by rw [List.length_take]; show min k 2 < 2; omega)
      rw [← HPD.out] at hy
      clear hb hJ
      gi_wp2_with fail
      refine hR.mono ?_
      rintro e W3 (⟨rfl, hJ3, hk3⟩ | ⟨rfl, hJx3⟩)
      · rw [HS.out] at hJ3
        have hb3 := hl4.keep hk3
        clear hy hR hJ4 hl4 hY HS
        gi_wp2_with fail
        go_roundw
        case rel => exact ⟨k + 1, hlt, by go_num, hb3, hJ3⟩
        case measure => simp [intOf]; omega
      · rw [HS.out] at hJx3
        clear hy hR hJ4 hl4 hY HS
        gi_wp2_with fail
        refine bodyPost_ret (results_none rfl _ _ _) rfl ?_
        exact ⟨⟨_, rfl⟩, .inr ⟨_, List.take_prefix _ _, hJx3⟩⟩
    · obtain rfl : k = 2 := by omega
      clear hY
      gi_wp2_with fail
      go_end0
      exact ⟨⟨_, rfl⟩, .inl ⟨_, rfl, hJ⟩⟩
theorem told_seq (bl : List Blk) (Bw Bh : Nat) (v : Value) (h : Nat) (hh : h ≤ maxU) (hBw : (Bw, #[.int .i64 2, .int .i64 32, v], 186) ∈ bl) (hBh : (Bh, #[.int .u64 (h : Int)], 22) ∈ bl) (n : Nat) (hn : 1 ≤ n) (W : World) (hW : LieB bl W) :
    SeqW Fence.wide n Tryz.prog 314 #[.pointer (some ⟨Bw, 0, none⟩), .pointer (some ⟨Bh, 0, none⟩)] (fun p : Nat => #[Value.int .i64 (p : Int)]) (fun p _ => p < 64) (KpB bl) (fun xs => xs = toldP h) (fun pre => pre <+: toldP h) (toldP h).length none W := fun l J Jx bJ _ hY h0 =>
  told1_in bl Bw Bh v h hh hBw hBh n hn l J Jx bJ hY W hW h0
theorem all1_in (bl : List Blk) (Bw : Nat) (s : Option Addr) (cap : Nat) (hBw : (Bw, #[.int .i64 2, .int .i64 32, .slice s 64 cap], 186) ∈ bl)
    (n : Nat) (hn : 1 ≤ n) (l : Nat) (J Jx : List Nat → World → Prop)
    (hY : ∀ (pre : List Nat) (x : Nat) (W : World), J pre W → x < 64 → pre.length < (List.range 64).length → YieldAt Fence.wide (n - 1) Tryz.prog l #[.int .i64 (x : Int)] W fun e W' =>
      (e = .returned (.bool true) ∧ J (pre ++ [x]) W' ∧ KpB bl W W') ∨ (e = .returned (.bool false) ∧ Jx (pre ++ [x]) W'))
    (W : World) (hW : LieB bl W) (h0 : J [] W) :
    CallsIn Fence.wide n Tryz.prog 315 #[.func (.yield l) #[] #[], .pointer (some ⟨Bw, 0, none⟩)] W fun e W' => (∃ v, e = .returned v) ∧
      ((∃ xs, xs = List.range 64 ∧ J xs W') ∨ (∃ pre, pre <+: List.range 64 ∧ Jx pre W')) := by
  obtain ⟨R, hR0⟩ : ∃ R, List.range 64 = R := ⟨_, rfl⟩
  have hRl : R.length = 64 := by rw [← hR0]; simp
  have HRg : Hid (∀ k, k < 64 → R.take k ++ [k] = R.take (k + 1)) := by
    show ∀ _, _
    intro k hk
    rw [← hR0, List.take_add_one, List.getElem?_range hk]
    rfl
  rw [hR0] at hY ⊢
  rw [hRl] at hY
  have hRL := Lib.hid hRl
  clear hR0 hRl
  have hcw := blk_cell (hW _ hBw)
  refine callsIn_of_wp Tryz.func315 rfl trivial ?_ rfl
  simp only [Tryz.ntmps315, List.size_toArray, List.length_cons, List.length_nil, Nat.reduceAdd, Nat.reduceSub, Array.replicate_succ, Array.replicate_zero, List.push_toArray, List.append_toArray, List.nil_append, List.cons_append]
  gi_wp2_with fail
  clear hcw
  gi_loopw [8] (fun i wr => ∃ k : Nat, k ≤ 64 ∧ i = .int .i64 (k : Int) ∧ LieB bl wr ∧ J (R.take k) wr) (fun i _ => 64 - (intOf i).toNat)
  case atStart => exact ⟨0, by omega, rfl, hW, h0⟩
  case round =>
    clear hW h0
    obtain ⟨k, hk, rfl, hb, hJ⟩ := hrel
    by_cases hlt : k < 64
    · obtain ⟨fn, tmps, assign, body, hy, hR⟩ := hY (R.take k) k wr hJ hlt (by rw [List.length_take, hRL.out]; omega)
      clear hJ
      gi_wp2_with fail
      refine hR.mono ?_
      rintro e W3 (⟨rfl, hJ3, hk3⟩ | ⟨rfl, hJx3⟩)
      · rw [HRg.out k hlt] at hJ3
        have hb3 := hb.keep hk3
        clear hy hR hb hY hk3
        gi_wp2_with fail
        go_roundw
        case rel => exact ⟨k + 1, hlt, by go_num, hb3, hJ3⟩
        case measure => simp [intOf]; omega
      · rw [HRg.out k hlt] at hJx3
        clear hy hR hb hY
        gi_wp2_with fail
        refine bodyPost_ret (results_none rfl _ _ _) rfl ?_
        exact ⟨⟨_, rfl⟩, .inr ⟨_, List.take_prefix _ _, hJx3⟩⟩
    · obtain rfl : k = 64 := by omega
      rw [List.take_of_length_le (by rw [hRL.out]; exact Nat.le_refl _)] at hJ
      clear hY
      gi_wp2_with fail
      go_end0
      exact ⟨⟨_, rfl⟩, .inl ⟨_, rfl, hJ⟩⟩
theorem all_seq (bl : List Blk) (Bw : Nat) (s : Option Addr) (cap : Nat) (hBw : (Bw, #[.int .i64 2, .int .i64 32, .slice s 64 cap], 186) ∈ bl) (n : Nat) (hn : 1 ≤ n) (W : World) (hW : LieB bl W) :
    SeqW Fence.wide n Tryz.prog 315 #[.pointer (some ⟨Bw, 0, none⟩)] (fun p : Nat => #[Value.int .i64 (p : Int)]) (fun p _ => p < 64) (KpB bl) (fun xs => xs = List.range 64) (fun pre => pre <+: List.range 64) (List.range 64).length none W := fun l J Jx _ _ hY h0 =>
  all1_in bl Bw s cap hBw n hn l J Jx hY W hW h0
end Go.Proofs.YtmgdbfmlnmahpaaGreatDoor
namespace Go.Proofs.YtmgdbfmlnmahpaaGreatDoor
open Go.RowKit Go.Shelf
set_option linter.unusedSimpArgs false
set_option linter.unusedVariables false
set_option maxRecDepth 100000
def IsTold (B : Nat) (cs : Array Value) (h : Nat) : Value → World → Prop := fun v W => ∃ b, v = .func (.func 314) #[] #[.pointer (some ⟨b, 0, none⟩), .pointer (some ⟨b + 1, 0, none⟩)] ∧ B ≤ b ∧ W.heap[b]? = some (.cells cs 186 (0, 0)) ∧ W.heap[b + 1]? = some (.cells #[.int .u64 (h : Int)] 22 (0, 0))
theorem stableTold (B : Nat) (cs : Array Value) (h : Nat) : Stable (IsTold B cs h) := fun _ _ _ ⟨b, h1, h2, h3, h4⟩ hb => ⟨b, h1, h2, (hb.block b (blk_lt h3)).trans h3, (hb.block (b + 1) (blk_lt h4)).trans h4⟩
def IsAll (B : Nat) (cs : Array Value) : Value → World → Prop := fun v W => ∃ b, v = .func (.func 315) #[] #[.pointer (some ⟨b, 0, none⟩)] ∧ B ≤ b ∧ W.heap[b]? = some (.cells cs 186 (0, 0))
theorem stableAll (B : Nat) (cs : Array Value) : Stable (IsAll B cs) := fun _ _ _ ⟨b, h1, h2, h3⟩ hb => ⟨b, h1, h2, (hb.block b (blk_lt h3)).trans h3⟩
theorem told_chg (L : List Nat) (h n : Nat) : chg (fun _ old => sat old n) L (toldP h) = addC L h n := rfl
theorem chg_range (g : Nat → Nat → Nat) (L : List Nat) : ∀ k, k ≤ L.length → ∀ i, i < L.length → (chg g L (List.range k)).getD i 0 = if i < k then g i (L.getD i 0) else L.getD i 0
  | 0, _, i, _ => by simp [chg]
  | k + 1, hk, i, hi => by
    have ih := chg_range g L k (by omega)
    have hl := chg_length g (List.range k) L
    rw [List.range_succ, chg_snoc]
    have e : ((chg g L (List.range k)).set k (g k ((chg g L (List.range k)).getD k 0))).getD i 0 = if k = i then g k ((chg g L (List.range k)).getD k 0) else (chg g L (List.range k)).getD i 0 := by
      simp only [List.getD, List.getElem?_set]
      by_cases e : k = i
      · rw [if_pos e, if_pos (by omega), if_pos e]; rfl
      · rw [if_neg e, if_neg e]
    rw [e, ih k (by omega), if_neg (Nat.lt_irrefl k)]
    by_cases c : k = i
    · rw [if_pos c, if_pos (by omega), c]
    · rw [if_neg c, ih i hi]
      by_cases d : i < k
      · rw [if_pos d, if_pos (by omega)]
      · rw [if_neg d, if_neg (by omega)]
theorem getD_get (l : List Nat) (i : Nat) (hi : i < l.length) : l.getD i 0 = l[i] := by simp [List.getD, List.getElem?_eq_getElem hi]
theorem chg_zip (k : Nat) (Z M : List Nat) (hz : Z.length = k) (hm : M.length = k) : chg (fun p old => sat old (M.getD p 0)) Z (List.range k) = zipC Z M := by
  have h1 : (chg (fun p old => sat old (M.getD p 0)) Z (List.range k)).length = k := by rw [chg_length]; exact hz
  have h2 : (zipC Z M).length = k := by unfold zipC; simp [hm, hz]
  apply List.ext_getElem (by rw [h1, h2])
  intro i hi1 hi2
  have hr := chg_range (fun p old => sat old (M.getD p 0)) Z k (by omega) i (by omega)
  rw [if_pos (by omega)] at hr
  rw [← getD_get _ i hi1, hr, getD_get Z i (by omega), getD_get M i (by omega)]
  simp only [zipC, List.getElem_map, List.getElem_zip]
theorem cmAdd_any (L : List Nat) (hl : L.length = 64) (hs : SmallC L) (s : Option Addr) (cap h n : Nat) (hh : h ≤ maxU) (hn : n ≤ maxU) (w : World) (hL : Nums w s L) :
    Calls Tryz.prog 302 #[cmsV s 64 cap, .int .u64 (h : Int), .int .u64 (n : Int)] w (GivesC0 w (addC L h n)) := by
  have st0 := (((St.start w).alloc (cs := #[.int .i64 2, .int .i64 32, .slice s 64 cap]) (T := 98)).alloc (cs := #[.int .u64 (n : Int)]) (T := 22)).alloc (cs := #[.int .i64 0, .int .i64 0, .slice none 0 0]) (T := 98)
  simp only [World.size_alloc] at st0
  go_enter Tryz.func302, Tryz.ntmps302
  go_wp2_with fail
  refine (cmBegin_any L hl s cap _ (hL.keepB (Nat.le_refl _) st0.below)).mono ?_
  rintro e w5 ⟨A, rfl, hA, hN, hb2⟩
  have hwA : w.heap.size + 2 < A := by simp at hA; omega
  have st4 := (st0.addNew (st0.to hb2) hA hN)
  have st5 := st4.alloc (cs := #[.int .i64 2, .int .i64 32, .slice (some ⟨A, 0, none⟩) 64 64]) (T := 186)
  clear st0 hb2 hN hA st4
  go_wp2_with fail
  refine region_spec 5 (Fs [IsVal (cmsV (some ⟨A, 0, none⟩) 64 64), IsVal (cmsV (some ⟨A, 0, none⟩) 64 64), IsVal (.int .u64 (h : Int)), IsTold (w5.heap.size + 1) #[.int .i64 2, .int .i64 32, .slice (some ⟨A, 0, none⟩) 64 64] h, IsVal (.func (.func 309) #[] #[.pointer (some ⟨w.heap.size + 1, 0, none⟩)])]) (by kernel_rfl) (by kernel_rfl) (by kernel_rfl) (Fs_stable _ ?stab) ?spec ?endd
  case stab =>
    simp only [List.forall_mem_cons]
    exact ⟨stableVal _, stableVal _, stableVal _, stableTold _ _ _, stableVal _, by simp⟩
  case spec =>
    refine ⟨?_, ?_, ?_, ?_, ?_, trivial⟩
    · intro a W hW hu hd
      have kc : ∀ c, a.eval (Operand.const c) = c := fun _ => rfl
      have kf : ∀ f, a.eval (Operand.func f) = .func (.func f) #[] #[] := fun _ => rfl
      have sW := st5.to hW
      have rl := sW.rules
      simp only [Rules, World.size_alloc] at rl
      have u8 : a.eval (Operand.tmp 8) = .pointer (some ⟨w5.heap.size, 0, none⟩) := hu 8 (by decide)
      unfold StepOk
      rw [if_pos (by rfl)]
      clear hu hd
      generalize a.eval = ρ at *
      go_simp
      exact opOk_val rfl
    · intro a W hW hu hd
      have kc : ∀ c, a.eval (Operand.const c) = c := fun _ => rfl
      have kf : ∀ f, a.eval (Operand.func f) = .func (.func f) #[] #[] := fun _ => rfl
      have sW := st5.to hW
      have rl := sW.rules
      simp only [Rules, World.size_alloc] at rl
      have u8 : a.eval (Operand.tmp 8) = .pointer (some ⟨w5.heap.size, 0, none⟩) := hu 8 (by decide)
      unfold StepOk
      rw [if_pos (by rfl)]
      clear hu hd
      generalize a.eval = ρ at *
      go_simp
      exact opOk_val rfl
    · intro a W hW hu hd
      have kc : ∀ c, a.eval (Operand.const c) = c := fun _ => rfl
      have kf : ∀ f, a.eval (Operand.func f) = .func (.func f) #[] #[] := fun _ => rfl
      have sW := st5.to hW
      have rl := sW.rules
      simp only [Rules, World.size_alloc] at rl
      have u1 : a.eval (Operand.tmp 1) = .int .u64 (h : Int) := hu 1 (by decide)
      unfold StepOk
      rw [if_pos (by rfl)]
      clear hu hd
      generalize a.eval = ρ at *
      go_simp
      exact opOk_val rfl
    · intro a W hW hu hd
      have kc : ∀ c, a.eval (Operand.const c) = c := fun _ => rfl
      have kf : ∀ f, a.eval (Operand.func f) = .func (.func f) #[] #[] := fun _ => rfl
      have sW := st5.to hW
      have rl := sW.rules
      simp only [Rules, World.size_alloc] at rl
      have u21 : a.eval (Operand.tmp 21) = cmsV (some ⟨A, 0, none⟩) 64 64 := hd 1 21 (by kernel_rfl) rfl
      have u22 : a.eval (Operand.tmp 22) = .int .u64 (h : Int) := hd 2 22 (by kernel_rfl) rfl
      unfold StepOk
      rw [if_pos (by rfl)]
      clear hu hd
      generalize a.eval = ρ at *
      go_simp
      refine ⟨Below.refl _ _, (told_any (some ⟨A, 0, none⟩) 64 64 h W).mono ?_⟩
      rintro e w' ⟨rfl, rfl⟩
      have hb9 := ((Below.refl W.heap.size W).alloc (Nat.le_refl _) (.cells #[.int .i64 2, .int .i64 32, .slice (some ⟨A, 0, none⟩) 64 64] 186)).alloc (by simp) (.cells #[.int .u64 (h : Int)] 22)
      exact ⟨_, rfl, hb9, W.heap.size, rfl, (by have := hW.size; simpa using this), (Below.heap_alloc _ _ _ (by simp)).trans (World.alloc_heap_new _ _), by have := World.alloc_heap_new (W.alloc (.cells #[.int .i64 2, .int .i64 32, .slice (some ⟨A, 0, none⟩) 64 64] 186)) (.cells #[.int .u64 (h : Int)] 22); rwa [World.size_alloc] at this⟩
    · intro a W hW hu hd
      have kc : ∀ c, a.eval (Operand.const c) = c := fun _ => rfl
      have kf : ∀ f, a.eval (Operand.func f) = .func (.func f) #[] #[] := fun _ => rfl
      have sW := st5.to hW
      have rl := sW.rules
      simp only [Rules, World.size_alloc] at rl
      have u5 : a.eval (Operand.tmp 5) = .pointer (some ⟨w.heap.size + 1, 0, none⟩) := hu 5 (by decide)
      unfold StepOk
      rw [if_pos (by rfl)]
      clear hu hd
      generalize a.eval = ρ at *
      go_simp
      exact opOk_val rfl
  case endd =>
    intro v W hW hv
    have v0 : v 0 = (cmsV (some ⟨A, 0, none⟩) 64 64) := hv 0 (by omega)
    have v1 : v 1 = (cmsV (some ⟨A, 0, none⟩) 64 64) := hv 1 (by omega)
    have v2 : v 2 = (.int .u64 (h : Int)) := hv 2 (by omega)
    have hf3 : IsTold (w5.heap.size + 1) #[.int .i64 2, .int .i64 32, .slice (some ⟨A, 0, none⟩) 64 64] h (v 3) W := hv 3 (by omega)
    have v4 : v 4 = (.func (.func 309) #[] #[.pointer (some ⟨w.heap.size + 1, 0, none⟩)]) := hv 4 (by omega)
    clear hv
    simp only [List.take_succ_cons, List.take_zero, List.drop_succ_cons, List.drop_zero, putAll, Nat.zero_add, Nat.reduceAdd]
    rw [v0, v1, v2, v4]
    clear v0 v1 v2 v4
    have sW := st5.to hW
    obtain ⟨b, v3, hbB, hb1, hb2⟩ := hf3
    rw [v3]
    clear v3
    have hlt : ∀ x ∈ [(w5.heap.size, #[.int .i64 2, .int .i64 32, .slice (some ⟨A, 0, none⟩) 64 64], 186), (A, (L.flatMap encU).toArray, 22), (w.heap.size + 2, #[.int .i64 0, .int .i64 0, .slice none 0 0], 98), (w.heap.size + 1, #[.int .u64 (n : Int)], 22), (w.heap.size, #[.int .i64 2, .int .i64 32, .slice s 64 cap], 98)], x.1 < w5.heap.size + 1 := fun x hx => by
      have := blk_lt (st5.blk x hx)
      simpa using this
    have st9 := ((sW.cons hb2 (fun x hx => by have := hlt x hx; omega)).cons hb1 (fun x hx => by
      rcases List.mem_cons.1 hx with rfl | hx
      · simp
      · have := hlt x hx; omega))
    have st10 : St w ((A, (L.flatMap encU).toArray, 22) :: [(b, #[.int .i64 2, .int .i64 32, .slice (some ⟨A, 0, none⟩) 64 64], 186), (b + 1, #[.int .u64 (h : Int)], 22), (w5.heap.size, #[.int .i64 2, .int .i64 32, .slice (some ⟨A, 0, none⟩) 64 64], 186), (w.heap.size + 2, #[.int .i64 0, .int .i64 0, .slice none 0 0], 98), (w.heap.size + 1, #[.int .u64 (n : Int)], 22), (w.heap.size, #[.int .i64 2, .int .i64 32, .slice s 64 cap], 98)]) (fun _ => True) W :=
      st9.perm (((((List.Perm.refl _).cons _).cons _).trans (((List.Perm.swap _ _ _).cons _).cons _)).trans ((((List.Perm.swap _ _ _).cons _)).trans (List.Perm.swap _ _ _)))
    have HCH := Lib.hid (change_any A L hl hs st10 (by omega) 314 #[.pointer (some ⟨b, 0, none⟩), .pointer (some ⟨b + 1, 0, none⟩)] (toldP h) (enters_of Tryz.func314 (by kernel_rfl) rfl)
      (fun W' hW' => told_seq _ b (b + 1) (.slice (some ⟨A, 0, none⟩) 64 64) h hh (by simp) (by simp) 4 (by omega) W' (fun x hx => hW'.blk x (List.mem_cons_of_mem _ hx)))
      309 #[.pointer (some ⟨w.heap.size + 1, 0, none⟩)] (fun _ old => sat old n) (fun _ m _ => sat_le _ _) (enters_of Tryz.func309 (by kernel_rfl) rfl)
      (fun W' _ hbl p old hp ho => add1_any p old n (w.heap.size + 1) ho hn W' (blk_cell (hbl (w.heap.size + 1, #[.int .u64 (n : Int)], 22) (by simp)) 0)))
    rw [told_chg] at HCH
    clear st9 st10 sW st5 hlt hb1 hb2 hbB hW
    generalize addC L h n = L' at *
    go_wp2_with fail
    refine HCH.out.mono ?_
    rintro e w9 ⟨rfl, st9⟩
    have rl := st9.rules
    simp only [Rules] at rl
    clear HCH
    go_wp2_with fail
    have st11 := (((st9.setT 4 rfl (o := 0) (v := .int .i64 2) (Nat.le_add_right _ _)).setT 4 rfl (o := 1) (v := .int .i64 32) (Nat.le_add_right _ _)).setT 4 rfl (o := 2) (v := .slice (some ⟨A, 0, none⟩) 64 64) (Nat.le_add_right _ _))
    simp only [setB, List.modify_succ_cons, List.modify_zero_cons, List.setIfInBounds_toArray, List.set_cons_zero, List.set_cons_succ] at st11
    exact bodyPost_ret (v := .tuple #[cmsV (some ⟨A, 0, none⟩) 64 64, .int .i64 0]) (by simp [results, Tryz.results302, go_sem, rl]) rfl ⟨A, rfl, by omega, st11.blk _ (List.mem_of_getElem? (i := 0) rfl), st11.below⟩
theorem cmMerge_any (L M : List Nat) (hl : L.length = 64) (hs : SmallC L) (hm : M.length = 64) (hsm : SmallC M) (s t : Option Addr) (cap d : Nat) (hd : M.length ≤ d) (w : World) (hL : Nums w s L) (hM : Nums w t M) :
    Calls Tryz.prog 305 #[cmsV s 64 cap, cmsV t 64 d] w (GivesC0 w (chg (fun p old => sat old (M.getD p 0)) L (List.range 64))) := by
  obtain ⟨L', hL'⟩ : ∃ L', chg (fun p old => sat old (M.getD p 0)) L (List.range 64) = L' := ⟨_, rfl⟩
  rw [hL']
  have HL' := Lib.hid hL'
  clear hL'
  have st0 := (((St.start w).alloc (cs := #[.int .i64 2, .int .i64 32, .slice s 64 cap]) (T := 98)).alloc (cs := #[.int .i64 2, .int .i64 32, .slice t 64 d]) (T := 98)).alloc (cs := #[.int .i64 0, .int .i64 0, .slice none 0 0]) (T := 98)
  simp only [World.size_alloc] at st0
  go_enter Tryz.func305, Tryz.ntmps305
  go_wp2_with fail
  refine (cmBegin_any L hl s cap _ (hL.keepB (Nat.le_refl _) st0.below)).mono ?_
  rintro e w5 ⟨A, rfl, hA, hN, hb2⟩
  have hwA : w.heap.size + 2 < A := by simp at hA; omega
  have st4 := (st0.addNew (st0.to hb2) hA hN)
  have st5 := st4.alloc (cs := #[.int .i64 2, .int .i64 32, .slice (some ⟨A, 0, none⟩) 64 64]) (T := 186)
  have rl := st5.rules
  simp only [Rules, World.size_alloc] at rl
  clear st0 hb2 hN hA st4
  go_wp2_with fail
  refine (cmRight_any t d _).mono ?_
  rintro e w6 ⟨rfl, hb6⟩
  have st6 := st5.to hb6
  have rl := st6.rules
  simp only [Rules] at rl
  have hz56 : w5.heap.size < w6.heap.size := by have := hb6.size; simp at this; omega
  clear st5 hb6
  go_wp2_with fail
  refine region_spec 4 (Fs [IsVal (cmsV (some ⟨A, 0, none⟩) 64 64), IsVal (cmsV (some ⟨A, 0, none⟩) 64 64), IsAll w6.heap.size #[.int .i64 2, .int .i64 32, .slice (some ⟨A, 0, none⟩) 64 64], IsVal (.func (.func 313) #[] #[.pointer (some ⟨w.heap.size + 1, 0, none⟩)])]) (by kernel_rfl) (by kernel_rfl) (by kernel_rfl) (Fs_stable _ ?stab) ?spec ?endd
  case stab =>
    simp only [List.forall_mem_cons]
    exact ⟨stableVal _, stableVal _, stableAll _ _, stableVal _, by simp⟩
  case spec =>
    refine ⟨?_, ?_, ?_, ?_, trivial⟩
    · intro a W hW hu hd
      have kc : ∀ c, a.eval (Operand.const c) = c := fun _ => rfl
      have kf : ∀ f, a.eval (Operand.func f) = .func (.func f) #[] #[] := fun _ => rfl
      have sW := st6.to hW
      have rl := sW.rules
      simp only [Rules, World.size_alloc] at rl
      have u6 : a.eval (Operand.tmp 6) = .pointer (some ⟨w5.heap.size, 0, none⟩) := hu 6 (by decide)
      unfold StepOk
      rw [if_pos (by rfl)]
      clear hu hd
      generalize a.eval = ρ at *
      go_simp
      exact opOk_val rfl
    · intro a W hW hu hd
      have kc : ∀ c, a.eval (Operand.const c) = c := fun _ => rfl
      have kf : ∀ f, a.eval (Operand.func f) = .func (.func f) #[] #[] := fun _ => rfl
      have sW := st6.to hW
      have rl := sW.rules
      simp only [Rules, World.size_alloc] at rl
      have u6 : a.eval (Operand.tmp 6) = .pointer (some ⟨w5.heap.size, 0, none⟩) := hu 6 (by decide)
      unfold StepOk
      rw [if_pos (by rfl)]
      clear hu hd
      generalize a.eval = ρ at *
      go_simp
      exact opOk_val rfl
    · intro a W hW hu hd
      have kc : ∀ c, a.eval (Operand.const c) = c := fun _ => rfl
      have kf : ∀ f, a.eval (Operand.func f) = .func (.func f) #[] #[] := fun _ => rfl
      have sW := st6.to hW
      have rl := sW.rules
      simp only [Rules, World.size_alloc] at rl
      have u42 : a.eval (Operand.tmp 42) = cmsV (some ⟨A, 0, none⟩) 64 64 := hd 1 42 (by kernel_rfl) rfl
      unfold StepOk
      rw [if_pos (by rfl)]
      clear hu hd
      generalize a.eval = ρ at *
      go_simp
      refine ⟨Below.refl _ _, (allC_any (some ⟨A, 0, none⟩) 64 64 W).mono ?_⟩
      rintro e w' ⟨rfl, rfl⟩
      exact ⟨_, rfl, (Below.refl W.heap.size W).alloc (Nat.le_refl _) _, W.heap.size, rfl, hW.size, World.alloc_heap_new _ _⟩
    · intro a W hW hu hd
      have kc : ∀ c, a.eval (Operand.const c) = c := fun _ => rfl
      have kf : ∀ f, a.eval (Operand.func f) = .func (.func f) #[] #[] := fun _ => rfl
      have sW := st6.to hW
      have rl := sW.rules
      simp only [Rules, World.size_alloc] at rl
      have u3 : a.eval (Operand.tmp 3) = .pointer (some ⟨w.heap.size + 1, 0, none⟩) := hu 3 (by decide)
      unfold StepOk
      rw [if_pos (by rfl)]
      clear hu hd
      generalize a.eval = ρ at *
      go_simp
      exact opOk_val rfl
  case endd =>
    intro v W hW hv
    have v0 : v 0 = (cmsV (some ⟨A, 0, none⟩) 64 64) := hv 0 (by omega)
    have v1 : v 1 = (cmsV (some ⟨A, 0, none⟩) 64 64) := hv 1 (by omega)
    have hf2 : IsAll w6.heap.size #[.int .i64 2, .int .i64 32, .slice (some ⟨A, 0, none⟩) 64 64] (v 2) W := hv 2 (by omega)
    have v3 : v 3 = (.func (.func 313) #[] #[.pointer (some ⟨w.heap.size + 1, 0, none⟩)]) := hv 3 (by omega)
    clear hv
    simp only [List.take_succ_cons, List.take_zero, List.drop_succ_cons, List.drop_zero, putAll, Nat.zero_add, Nat.reduceAdd]
    rw [v0, v1, v3]
    clear v0 v1 v3
    have sW := st6.to hW
    obtain ⟨b, v2, hbB, hb1⟩ := hf2
    rw [v2]
    clear v2
    have hlt : ∀ x ∈ [(w5.heap.size, #[.int .i64 2, .int .i64 32, .slice (some ⟨A, 0, none⟩) 64 64], 186), (A, (L.flatMap encU).toArray, 22), (w.heap.size + 2, #[.int .i64 0, .int .i64 0, .slice none 0 0], 98), (w.heap.size + 1, #[.int .i64 2, .int .i64 32, .slice t 64 d], 98), (w.heap.size, #[.int .i64 2, .int .i64 32, .slice s 64 cap], 98)], x.1 < w6.heap.size := fun x hx => blk_lt (st6.blk x hx)
    have st9 := sW.cons hb1 (fun x hx => by have := hlt x hx; omega)
    have st10 : St w ((A, (L.flatMap encU).toArray, 22) :: [(b, #[.int .i64 2, .int .i64 32, .slice (some ⟨A, 0, none⟩) 64 64], 186), (w5.heap.size, #[.int .i64 2, .int .i64 32, .slice (some ⟨A, 0, none⟩) 64 64], 186), (w.heap.size + 2, #[.int .i64 0, .int .i64 0, .slice none 0 0], 98), (w.heap.size + 1, #[.int .i64 2, .int .i64 32, .slice t 64 d], 98), (w.heap.size, #[.int .i64 2, .int .i64 32, .slice s 64 cap], 98)]) (fun _ => True) W :=
      st9.perm (((List.Perm.swap _ _ _).cons _).trans (List.Perm.swap _ _ _))
    have HCH := Lib.hid (change_any A L hl hs st10 (by omega) 315 #[.pointer (some ⟨b, 0, none⟩)] (List.range 64) (enters_of Tryz.func315 (by kernel_rfl) rfl)
      (fun W' hW' => all_seq _ b (some ⟨A, 0, none⟩) 64 (by simp) 4 (by omega) W' (fun x hx => hW'.blk x (List.mem_cons_of_mem _ hx)))
      313 #[.pointer (some ⟨w.heap.size + 1, 0, none⟩)] (fun p old => sat old (M.getD p 0)) (fun _ m _ => sat_le _ _) (enters_of Tryz.func313 (by kernel_rfl) rfl)
      (fun W' hb' hbl p old hp ho => merge1_any p old (w.heap.size + 1) M t d hm hd hp ho hsm W' (hM.keepB (Nat.le_refl _) hb') (by rw [hm]; exact hbl (w.heap.size + 1, #[.int .i64 2, .int .i64 32, .slice t 64 d], 98) (by simp))))
    clear st9 st10 sW st6 hlt hb1 hbB hW rl
    rw [HL'.out] at HCH
    go_wp2_with fail
    refine HCH.out.mono ?_
    rintro e w9 ⟨rfl, st9⟩
    have rl := st9.rules
    simp only [Rules] at rl
    clear HCH
    go_wp2_with fail
    have st11 := (((st9.setT 3 rfl (o := 0) (v := .int .i64 2) (Nat.le_add_right _ _)).setT 3 rfl (o := 1) (v := .int .i64 32) (Nat.le_add_right _ _)).setT 3 rfl (o := 2) (v := .slice (some ⟨A, 0, none⟩) 64 64) (Nat.le_add_right _ _))
    simp only [setB, List.modify_succ_cons, List.modify_zero_cons, List.setIfInBounds_toArray, List.set_cons_zero, List.set_cons_succ] at st11
    exact bodyPost_ret (v := .tuple #[cmsV (some ⟨A, 0, none⟩) 64 64, .int .i64 0]) (by simp [results, Tryz.results305, go_sem, rl]) rfl ⟨A, rfl, by omega, st11.blk _ (List.mem_of_getElem? (i := 0) rfl), st11.below⟩
end Go.Proofs.YtmgdbfmlnmahpaaGreatDoor
namespace Go.Proofs.YtmgdbfmlnmahpaaGreatDoor
open Go.RowKit Go.Shelf
set_option linter.unusedSimpArgs false
set_option linter.unusedVariables false
set_option maxRecDepth 100000
def leastP (L : List Nat) (ps : List Nat) : Nat := ps.foldl (fun m p => min m (L.getD p 0)) maxU
theorem leastP_snoc (L ps : List Nat) (p : Nat) : leastP L (ps ++ [p]) = min (leastP L ps) (L.getD p 0) := by simp [leastP]
theorem leastP_told (L : List Nat) (h : Nat) (hs : SmallC L) : leastP L (toldP h) = countC L h := by
  have h0 := getD_small hs (plcC 0 h)
  show min (min maxU (L.getD (plcC 0 h) 0)) (L.getD (plcC 1 h) 0) = min _ _
  omega
theorem leastP_zero (L ps qs : List Nat) (h : ps <+: qs) (h0 : leastP L ps = 0) : leastP L qs = 0 := by
  obtain ⟨r, rfl⟩ := h
  unfold leastP at h0 ⊢
  rw [List.foldl_append, h0]
  clear h0
  induction r with
  | nil => rfl
  | cons x r ih => simpa using ih
theorem Nums.cellAt {w : World} {g o : Nat} {L : List Nat} {x y : Nat} (h : Nums w (some ⟨g, o, none⟩) L) (hy : L[x]? = some y) : w.cell? ⟨g, o + x, none⟩ = some (.int .u64 (y : Int)) := by
  obtain ⟨g', o', e, _, hc⟩ := h.at hy
  cases e
  exact hc
def StCo (w : World) (s : Option Addr) (cap b1 b : Nat) (h : Nat) (L : List Nat) (pre : List Nat) (W : World) : Prop :=
  St w [(b + 1, #[.int .u64 (h : Int)], 22), (b, #[.int .i64 2, .int .i64 32, .slice s 64 cap], 186), (b1, #[.int .u64 (leastP L pre : Nat)], 22), (w.heap.size, #[.int .i64 2, .int .i64 32, .slice s 64 cap], 98)] (fun _ => True) W
def StCx (w : World) (s : Option Addr) (cap b1 b : Nat) (h : Nat) (L : List Nat) (c : Code) (pre : List Nat) (W : World) : Prop := c = .exit 0 ∧ leastP L pre = 0 ∧ StCo w s cap b1 b h L pre W
attribute [local go_sem] Oper.semAt_some
set_option maxHeartbeats 2000000 in
theorem cmCount_any (L : List Nat) (hl : L.length = 64) (hs : SmallC L) (s : Option Addr) (cap h : Nat) (hcap : 64 ≤ cap) (hh : h ≤ maxU) (w : World) (hL : Nums w s L) :
    Calls Tryz.prog 303 #[cmsV s 64 cap, .int .u64 (h : Int)] w fun e w' => e = .returned (.int .u64 (countC L h : Nat)) ∧ Below w.heap.size w w' := by
  have HL := Lib.hid hl
  clear hl
  have st0 := (St.start w).alloc (cs := #[.int .i64 2, .int .i64 32, .slice s 64 cap]) (T := 98)
  refine (callsIn_wide (n := 5)).1 ?_
  refine callsIn_of_wp_marks Tryz.func303 rfl trivial ?_ rfl
  simp only [Tryz.ntmps303, List.size_toArray, List.length_cons, List.length_nil, Nat.reduceAdd, Nat.reduceSub, Array.replicate_succ, Array.replicate_zero, List.push_toArray, List.append_toArray, List.nil_append, List.cons_append]
  refine wpIn_wide.2 ?_
  go_wp2_with fail
  refine wp_scope_straight ?_
  go_wp2_with fail
  refine (cmRight_any s cap _).mono ?_
  rintro e w1 ⟨rfl, hb1⟩
  have st1 := st0.to hb1
  have rl := st1.rules
  simp only [Rules] at rl
  clear st0 hb1
  go_wp2_with fail
  refine wp_label ?_
  have st2 := st1.alloc (cs := #[.int .u64 (maxU : Nat)]) (T := 22)
  change St w _ _ (w1.alloc (.cells #[.int .u64 18446744073709551615] 22)) at st2
  have rl := st2.rules
  simp only [Rules] at rl
  have hz2 : (w1.alloc (.cells #[.int .u64 18446744073709551615] 22)).heap.size = w1.heap.size + 1 := by simp
  have hw1 := st1.below.size
  clear st1
  generalize w1.alloc (.cells #[.int .u64 18446744073709551615] 22) = w2 at *
  have hc2 : ∀ o, w2.cell? ⟨w.heap.size, o, none⟩ = (#[.int .i64 2, .int .i64 32, .slice s 64 cap] : Array Value)[o]? := rl.2.2.2.1
  clear rl
  go_wp2_with fail
  refine (told_any s 64 cap h w2).mono ?_
  rintro e w3 ⟨rfl, rfl⟩
  clear hc2
  have HZ2 := Lib.hid hz2
  clear hz2
  go_wp2_with fail
  have st3 := (st2.alloc (cs := #[.int .i64 2, .int .i64 32, .slice s 64 cap]) (T := 186)).alloc (cs := #[.int .u64 (h : Int)]) (T := 22)
  simp only [World.size_alloc] at st3
  have hz3 : ((w2.alloc (.cells #[.int .i64 2, .int .i64 32, .slice s 64 cap] 186)).alloc (.cells #[.int .u64 (h : Int)] 22)).heap.size = w2.heap.size + 2 := by simp
  clear st2
  generalize (w2.alloc (.cells #[.int .i64 2, .int .i64 32, .slice s 64 cap] 186)).alloc (.cells #[.int .u64 (h : Int)] 22) = w3 at *
  have hlie : LieB [(w2.heap.size + 1, #[.int .u64 (h : Int)], 22), (w2.heap.size, #[.int .i64 2, .int .i64 32, .slice s 64 cap], 186)] w3 := fun x hx => st3.blk x (by simp at hx; rcases hx with rfl | rfl <;> simp)
  have hz2 := HZ2.out
  have hz12 : w1.heap.size < w2.heap.size := by omega
  clear hz2
  have stc : StCo w s cap w1.heap.size w2.heap.size h L [] w3 := st3
  refine (wpIn_wide (n := 5)).1 (wpIn_rangeFunc_w (n := 5) (b := none) (fun _ e => by cases e) rfl (by omega) (gf := 314) (lb := #[.pointer (some ⟨w2.heap.size, 0, none⟩), .pointer (some ⟨w2.heap.size + 1, 0, none⟩)]) rfl trivial (enters_of Tryz.func314 (by kernel_rfl) rfl)
    (fun W hb => told_seq _ w2.heap.size (w2.heap.size + 1) (.slice s 64 cap) h hh (by simp) (by simp) 4 (by omega) W (hlie.below hb)) (fun h k => fun x hx => (k x hx).trans (h x hx)) ?kb (fun _ => rfl)
    (StCo w s cap w1.heap.size w2.heap.size h L) (StCx w s cap w1.heap.size w2.heap.size h L)
    (fun _ _ _ _ h hg hr => St.own h hg hr (by rw [hz3]; omega)) (fun c _ _ _ _ h hg hr => ⟨h.1, h.2.1, St.own h.2.2 hg hr (by rw [hz3]; omega)⟩)
    (fun _ _ _ h hg => St.grown h hg (fun k e => by cases e)) (fun c _ _ _ h hg => ⟨h.1, h.2.1, St.grown h.2.2 hg (fun k e => by cases e)⟩) stc
    (fun x _ => { tmps := #[cmsV s 64 cap, .int .u64 (h : Int), .pointer (some ⟨w.heap.size, 0, none⟩), undef, .int .u64 0, .pointer (some ⟨w1.heap.size, 0, none⟩), .int .i64 (x : Int), .agg #[.int .i64 2, .int .i64 32, .slice s 64 cap], .bool true, .bool false, .agg #[.int .i64 2, .int .i64 32, .slice s 64 cap], .agg #[.int .i64 2, .int .i64 32, .slice s 64 cap], .int .u64 (h : Int), .func (.func 314) #[] #[.pointer (some ⟨w2.heap.size, 0, none⟩), .pointer (some ⟨w2.heap.size + 1, 0, none⟩)], .int .i64 (x : Int), undef, undef, undef, undef, undef, undef, undef, undef, undef, undef], defers := [] })
    (fun x _ _ => x < 64) (fun _ _ _ _ _ _ h _ _ => h) ?assign ?body ?done ?stop)
  case kb =>
    intro W l o' hl' hlt x hx
    have := blk_lt (hlie x hx)
    exact World.putObj_heap_other (by omega)
  case assign =>
    intro l pre x W K hI hP hK
    have HK := Lib.hid (hK 0 W (KeepsOthers.refl _) (fun _ _ => rfl) hI hP)
    clear hK
    gi_wp2_with fail
    exact HK.out
  case body =>
    rintro l pre x c W stI hP hN
    obtain ⟨y, hy⟩ : ∃ y, L[x]? = some y := ⟨_, List.getElem?_eq_getElem (by rw [HL.out]; omega)⟩
    obtain ⟨g, o, rfl, hg, hc⟩ := hL.at hy
    have hget : L.getD x 0 = y := by simp [List.getD, hy]
    have HS : Hid (leastP L (pre ++ [x]) = min (leastP L pre) y) := by show _ = _; rw [leastP_snoc, hget]
    have stI2 : St w [(w2.heap.size + 1, #[.int .u64 (h : Int)], 22), (w2.heap.size, #[.int .i64 2, .int .i64 32, .slice (some ⟨g, o, none⟩) 64 cap], 186), (w1.heap.size, #[.int .u64 (leastP L pre : Nat)], 22), (w.heap.size, #[.int .i64 2, .int .i64 32, .slice (some ⟨g, o, none⟩) 64 cap], 98)] (fun _ => True) W := stI
    have stW := St.also stI2 (F := fun W' => Below W.heap.size W W') (Below.refl _ _) (fun _ _ h hb => h.trans (hb.mono h.size))
    have hmx : Tryz.prog.follows .mixedOrders = true := by kernel_rfl
    clear stI stc
    gi_wp2_with fail
    obtain ⟨bl2, E2, hne2, sh2, rl, hEx, hbx, hst⟩ := stW.hide
    have hc1 : ∀ z : Cs w bl2 E2, z.W.cell? ⟨w1.heap.size, 0, none⟩ = some (.int .u64 (leastP L pre : Nat)) := fun z => (rl z).2.2.2.2.2.2.1 0
    have hc2 : ∀ z : Cs w bl2 E2, z.W.cell? ⟨w.heap.size, 2, none⟩ = some (.slice (some ⟨g, o, none⟩) 64 cap) := fun z => (rl z).2.2.2.2.2.2.2.2.2.1 2
    have hc3 : ∀ z : Cs w bl2 E2, z.W.cell? ⟨g, o + x, none⟩ = some (.int .u64 (y : Int)) := fun z => Nums.cellAt (hL.keepB (Nat.le_refl _) (hbx z).out) hy
    clear rl
    refine regionInR_st_tail sh2 7 (by kernel_rfl) (by kernel_rfl) (by kernel_rfl) ?_
    simp only [List.take_succ_cons, List.take_zero, List.drop_succ_cons, List.drop_zero]
    repeat (first | go_big_quiet_step (fail) | quiet_step (fail))
    have hmn : (Value.int .u64 (if y < leastP L pre then (y : Int) else (leastP L pre : Nat))) = .int .u64 (leastP L (pre ++ [x]) : Nat) := by
      rw [HS.out]
      by_cases hy2 : y < leastP L pre
      · rw [if_pos hy2, Nat.min_eq_right (by omega)]
      · rw [if_neg hy2, Nat.min_eq_left (by omega)]
    rw [hmn]
    clear hmn HS
    obtain ⟨m, hm⟩ : ∃ m, leastP L (pre ++ [x]) = m := ⟨_, rfl⟩
    have HM := Lib.hid hm
    rw [hm]
    clear hm
    refine wpQuiet_nil ?_
    intro y'
    have st3 := (hst y').out
    clear hc1 hc2 hc3 hbx hst sh2 hEx stW
    generalize y'.W = w4 at *
    have rl4 := st3.rules
    simp only [Rules] at rl4
    have hcA : w4.cell? ⟨w1.heap.size, 0, none⟩ = some (.int .u64 (leastP L pre : Nat)) := rl4.2.2.2.2.2.2.1 0
    have hfA : w4.frozen? ⟨w1.heap.size, 0, none⟩ = false := rl4.2.2.2.2.2.2.2.1 0
    clear rl4
    have hbW := st3.ex.2
    have st4 := (st3.lessE (F := fun _ => True) trivial (fun _ _ _ _ => trivial)).setT 2 rfl (o := 0) (v := .int .u64 (m : Nat)) hw1
    simp only [setB, List.modify_succ_cons, List.modify_zero_cons, List.setIfInBounds_toArray, List.set_cons_zero] at st4
    have hW2 : w2.heap.size + 1 < W.heap.size := blk_lt (stI2.blk (w2.heap.size + 1, #[.int .u64 (h : Int)], 22) (by simp))
    have hko := (keepsOthers_below hbW).trans (KeepsOthers.setCell w4 ⟨w1.heap.size, 0, none⟩ (.int .u64 (m : Nat)))
    have hkp : KpB [(w2.heap.size + 1, #[.int .u64 (h : Int)], 22), (w2.heap.size, #[.int .i64 2, .int .i64 32, .slice (some ⟨g, o, none⟩) 64 cap], 186)] W (w4.setCell ⟨w1.heap.size, 0, none⟩ (.int .u64 (m : Nat))) := by
      intro z hz
      have hz' : z.1 = w2.heap.size + 1 ∨ z.1 = w2.heap.size := by
        simp at hz; rcases hz with rfl | rfl <;> simp
      exact (Below.heap_setCell w4 ⟨w1.heap.size, 0, none⟩ _ z.1 (by show z.1 ≠ w1.heap.size; omega)).trans (hbW.block z.1 (by omega))
    clear stI2 st3 hbW
    by_cases h0 : m = 0
    · subst h0
      gi_wp2_with fail
      exact ⟨hko, rfl, HM.out, by rw [StCo, HM.out]; exact st4⟩
    · have h0' : ¬ ((m : Int) = 0) := by omega
      gi_wp2_with fail
      exact ⟨hko, hkp, by rw [StCo, HM.out]; exact st4⟩
  case done =>
    rintro D xs W hD rfl st9 hK
    have st9' : St w _ _ W := st9
    have rl := st9'.rules
    simp only [Rules] at rl
    rw [leastP_told L h hs] at rl
    have hcr : W.cell? ⟨w1.heap.size, 0, none⟩ = some (.int .u64 (countC L h : Nat)) := rl.2.2.2.2.2.2.1 0
    clear rl
    go_wp2_with fail
    refine ⟨by simp, .inl ⟨_, _, rfl, run_takeDeferred hK, ?_⟩⟩
    exact ⟨_, by simp [results, Tryz.results303, go_sem], rfl, (st9'.own (base := w.heap.size) (grownBy_putObj' W D _) (fun r e => by cases e; exact ⟨by omega, _, hK, rfl⟩) (Nat.le_refl _)).below⟩
  case stop =>
    rintro D c pre W hD hp ⟨rfl, h0, st9⟩ hK
    have st9' : St w _ _ W := st9
    have rl := st9'.rules
    simp only [Rules] at rl
    have hz := leastP_zero L pre _ hp h0
    rw [leastP_told L h hs] at hz
    rw [h0, ← hz] at rl
    have hcr : W.cell? ⟨w1.heap.size, 0, none⟩ = some (.int .u64 (countC L h : Nat)) := rl.2.2.2.2.2.2.1 0
    clear rl hz
    refine wpIn_wide.2 ?_
    go_wp2_with fail
    refine ⟨by simp, .inl ⟨_, _, rfl, run_takeDeferred hK, ?_⟩⟩
    exact ⟨_, by simp [results, Tryz.results303, go_sem], rfl, (st9'.own (base := w.heap.size) (grownBy_putObj' W D _) (fun r e => by cases e; exact ⟨by omega, _, hK, rfl⟩) (Nat.le_refl _)).below⟩
end Go.Proofs.YtmgdbfmlnmahpaaGreatDoor
