/- A part of the proof of TopCounts. -/
import Derived.Test.YtmgdbfmlnmahpaaGreatDoorG35
import Derived.Test.YtmgdbfmlnmahpaaGreatDoorG03
namespace Go.Proofs.YtmgdbfmlnmahpaaGreatDoor
open Go.RowKit
theorem last_n (n : Nat) (bf : Int) (L : List Ent) (hn : L.length = n) (hl : n ≤ 1000) (s : Option Addr) (cap : Nat) (w : World) (hE : Ents w s L) :
    Calls Tryz.prog 101 #[lv bf s n cap] w fun e w' => e = .returned (.int .u64 (lastE L)) ∧ Below w.heap.size w w' := by
  subst hn
  exact last_any bf L hl s cap w hE
theorem head_n (n : Nat) (bf : Int) (L : List Ent) (hn : L.length = n) (hl : n ≤ 1000) (s : Option Addr) (cap : Nat) (w : World) (hE : Ents w s L) :
    Calls Tryz.prog 103 #[lv bf s n cap] w fun e w' => e = .returned (.int .u64 (headE bf L)) ∧ Below w.heap.size w w' := by
  subst hn
  exact head_any bf L hl s cap w hE
theorem right_n (n : Nat) (a b : BitVec 64) (bf : Int) (h0 : 0 ≤ bf) (h1 : bf < 18446744073709551616) (L : List Ent) (hL : ∀ x ∈ L, x.Ok) (hn : L.length = n) (hl : n ≤ 1000) (s : Option Addr) (cap : Nat) (r : Bool) (hr : r = true ↔ RightP a b bf L) (w : World) (hE : Ents w s L) :
    Calls Tryz.prog 100 #[kv a b, lv bf s n cap] w fun e w' => e = .returned (.bool r) ∧ Below w.heap.size w w' := by
  subst hn
  exact right_any a b bf h0 h1 L hL hl s cap r hr w hE
theorem ents_keep (s : Option Addr) (L : List Ent) : ∀ W W', Ents W s L → Below W.heap.size W W' → Ents W' s L := fun _ _ h hb => h.below hb
set_option maxRecDepth 100000 in
set_option maxHeartbeats 400000 in
theorem append_yes0 (a b : BitVec 64) (bf : Int) (h0 : 0 ≤ bf) (h1 : bf < 18446744073709551616) (L : List Ent) (hL : ∀ x ∈ L, x.Ok) (s : Option Addr) (cap : Nat) (hcap : L.length ≤ cap) (hcn : s = none → cap = 0) (at' : Int) (q0 : 0 ≤ at') (q1 : at' < 18446744073709551616) (tx : ByteArray) (w : World) (hE : Ents w s L)
    (hyes : AppOk a b bf L at' tx) (hz : L.length = 0) :
    Calls Tryz.prog 67 #[kv a b, lv bf s L.length cap, .int .u64 at', .string tx] w fun e w' => ∃ v, e = .returned (.tuple #[.agg #[.int .u64 (appB bf L), v], .int .i64 0]) ∧ OwnE w' w.heap.size v (appL a b bf L at' tx) ∧ Below w.heap.size w w' := by
  obtain ⟨hr, ht, hm, hlast⟩ := hyes
  have hl := hr.n
  have hl' : L.length ≤ 1000 := by omega
  obtain ⟨m0, m1⟩ := lastE_bounds L hL
  obtain ⟨n0, n1⟩ := headE_bounds bf h0 h1 L hL
  have hmb : (lastE L == 18446744073709551615) = false := by simp [hm]
  have hm1 : lastE L + 1 < 18446744073709551616 := by omega
  have HR := Lib.hid hr
  clear hm hr
  obtain rfl : L = [] := List.eq_nil_of_length_eq_zero hz
  simp only [List.length_nil] at hcap ⊢
  clear hlast
  have d1 : True := trivial
  have hlk : ([] : List Ent).length = 0 := rfl
  clear hl
  have hl : 0 ≤ 30 := by omega
  have st0 := St.start w
  go_enter Tryz.func67, Tryz.ntmps67
  go_wp2_with fail
  refine (St.call' st0.alloc.alloc.alloc (fun st => right_n 0 a b bf h0 h1 [] hL rfl hl' _ cap true ⟨fun _ => HR.out, fun _ => rfl⟩ _ (hE.below st.below))).mono ?_
  rintro e w4 ⟨rfl, st4⟩
  have rl := st4.rules
  simp only [Rules, World.size_alloc] at rl
  go_wp2_with fail
  refine (St.call' st4 (fun st => last_n 0 bf [] rfl hl' _ cap _ (hE.below st.below))).mono ?_
  rintro e w5 ⟨rfl, st5⟩
  clear rl st4 HR
  have rl := st5.rules
  simp only [Rules, World.size_alloc] at rl
  go_wp2_with fail
  refine (St.call' st5 (fun st => last_n 0 bf [] rfl hl' _ cap _ (hE.below st.below))).mono ?_
  rintro e w6 ⟨rfl, st6⟩
  clear rl st5 d1
  have rl := st6.rules
  simp only [Rules, World.size_alloc] at rl
  have hokN : Ent.Ok ⟨lastE [] + 1, at', tx, 0⟩ := ⟨by show 0 ≤ lastE [] + 1; omega, hm1, q0, q1, by show tx.size ≤ 1000; omega, by show (0 : Int) ≤ 0; omega, by show (0 : Int) < _; omega⟩
  go_wp2_with fail
  clear rl
  have st7 := st6.alloc (cs := #[Value.int .u64 (lastE [] + 1), .int .u64 at', .string tx, .int .u64 0]) (T := 53)
  obtain ⟨bl7, E7, hne, sh7, rl, _, hbx, hst⟩ := st7.hide
  refine region_st_tail sh7 6 (by kernel_rfl) (by kernel_rfl) ?_
  simp only [Rules, World.size_alloc] at rl
  simp only [List.take_succ_cons, List.take_zero, List.drop_succ_cons, List.drop_zero]
  repeat (first | go_big_quiet_step (first | (go_at_call 103; exact Cs.call (head_n 0 bf [] rfl hl' _ cap _ (hE.below (hbx _).out))) | (go_at_call 102; exact Cs.call (auditSum_any a b (headE bf []) n0 n1 ⟨lastE [] + 1, at', tx, 0⟩ hokN _))) | quiet_step (first | (go_at_call 103; exact Cs.call (head_n 0 bf [] rfl hl' _ cap _ (hE.below (hbx _).out))) | (go_at_call 102; exact Cs.call (auditSum_any a b (headE bf []) n0 n1 ⟨lastE [] + 1, at', tx, 0⟩ hokN _))))
  refine wpQuiet_nil ?_
  intro y
  have st8 := (hst y).out
  clear hbx rl st7 hst sh7
  generalize y.W = w8 at *
  have rl := st8.rules
  simp only [Rules, World.size_alloc] at rl
  go_wp2_with fail
  have st9 := st8.setT 0 rfl (o := 3) (v := .int .u64 (entSum a b (headE bf []) ⟨lastE [] + 1, at', tx, 0⟩)) (by have := st6.below.size; omega)
  clear rl
  simp only [setB, List.modify_zero_cons, List.setIfInBounds_toArray, List.set_cons_succ, List.set_cons_zero] at st9
  clear st8 st6
  generalize (w8.setCell { block := w6.heap.size, off := 3 } (Value.int IntKind.u64 (entSum a b (headE bf []) { seq := lastE [] + 1, at' := at', text := tx, sum := 0 }))) = w9 at *
  obtain ⟨bl9, E9, hne9, sh9, rl, _, hbx, hst⟩ := st9.hide
  refine region_st sh9 (by kernel_rfl) (by kernel_rfl) ?_
  simp only [Rules, World.size_alloc] at rl
  repeat (first | go_big_quiet_step (fail) | quiet_step (fail))
  refine wpQuiet_nil ?_
  intro y2
  have st10 := (hst y2).out
  clear hbx rl hst sh9 st9
  generalize y2.W = w10 at *
  have rl := st10.rules
  simp only [Rules, World.size_alloc] at rl
  obtain ⟨i0, hi, hz0, hz1, hz2⟩ := info_parts infoEnt
  go_wp2_with (at_make; refine wpList_make_own _ rfl _ _ 34 rfl w10.heap.size 53 i0 _ 4 Tryz.underlying34 hi hz0 hz1 .i64 .i64 _ (0 + 1) rfl rfl (by simp) (by rw [hz2]; omega) (by unfold maxLen; omega) (Nat.le_refl _) ?_)
  intro w11 hown11 hg11
  have st11 := st10.grown hg11 (by simp)
  clear rl
  have rl := st11.rules
  simp only [Rules, World.size_alloc] at rl
  have e30 : appK [] = [] := rfl
  have e31 : appB bf [] = bf := rfl
  have HEK := Lib.hid e30
  have HEB := Lib.hid e31
  clear e30 e31
  go_wp2_with (at_builtin; refine append_ents rfl (.tmp 76) (.tmp 77) rfl w10.heap.size _ [] rfl hown11 [] 0 rfl s cap rfl hcn (hE.below st11.below) (by simp <;> omega) hg11.size ?_)
  intro v12 w12 hown12 hg12
  have st12 := st11.grownB st10 hown11 hg12
  clear rl
  have rl := st12.rules
  simp only [Rules, World.size_alloc] at rl
  replace hown12 : OwnE w12 w10.heap.size v12 [] := hown12
  have hsz12 := Nat.le_trans hg11.size hg12.size
  go_wp2_with (at_builtin; refine append_ents rfl (.tmp 79) (.tmp 81) rfl w10.heap.size v12 [] rfl (hown12.alloc _) [newEnt a b bf [] at' tx] 1 rfl (some ⟨w12.heap.size, 0, none⟩) 1 rfl (by simp) (ents_one w12 (newEnt a b bf [] at' tx)) (by simp <;> omega) (by simp <;> omega) ?_)
  intro v13 w13 hown13 hg13
  have st13 := (st12.to ((Below.refl _ _).alloc (Nat.le_refl _) _)).grownB st10 (hown12.alloc _) hg13
  obtain ⟨s13, c13, hv13, _, _, _⟩ := own_ents hown13
  subst hv13
  have hBz := (st10.rules).2.2.1
  clear rl
  have rl := st13.rules
  simp only [Rules, World.size_alloc] at rl
  go_wp2_with fail
  have hBz : w.heap.size + 1 + 1 < w10.heap.size := by
    have := st10.blk _ (List.mem_cons_of_mem _ (List.mem_cons_self ..))
    have := blk_lt this
    simpa using this
  have hap := Lib.hid (show appL a b bf [] at' tx = [] ++ [newEnt a b bf [] at' tx] by unfold appL; rw [HEK.out])
  refine bodyPost_ret (v := .tuple #[.agg #[.int .u64 bf, .slice s13 ([] ++ [newEnt a b bf [] at' tx]).length c13], .int .i64 0]) (by simp [results, Tryz.results67, go_sem, rl]) rfl ⟨.slice s13 _ c13, by rw [HEB.out], ?_, ?_⟩
  · rw [hap.out]
    exact ownsRow_base (ownsRow_setCell_below (ownsRow_setCell_below hown13 (a := ⟨w.heap.size + 1 + 1, 0, none⟩) hBz _) (a := ⟨w.heap.size + 1 + 1, 1, none⟩) hBz _) st10.below.size
  · exact (st13.below.setCell (p := ⟨w.heap.size + 1 + 1, 0, none⟩) (by show w.heap.size ≤ w.heap.size + 1 + 1; omega) _).setCell (p := ⟨w.heap.size + 1 + 1, 1, none⟩) (by show w.heap.size ≤ w.heap.size + 1 + 1; omega) _
set_option maxRecDepth 100000 in
set_option maxHeartbeats 400000 in
theorem append_yes1 (a b : BitVec 64) (bf : Int) (h0 : 0 ≤ bf) (h1 : bf < 18446744073709551616) (L : List Ent) (hL : ∀ x ∈ L, x.Ok) (s : Option Addr) (cap : Nat) (_ : L.length ≤ cap) (hcn : s = none → cap = 0) (at' : Int) (q0 : 0 ≤ at') (q1 : at' < 18446744073709551616) (tx : ByteArray) (w : World) (hE : Ents w s L)
    (hyes : AppOk a b bf L at' tx) (hz : 0 < L.length) (h30 : L.length < 30) :
    Calls Tryz.prog 67 #[kv a b, lv bf s L.length cap, .int .u64 at', .string tx] w fun e w' => ∃ v, e = .returned (.tuple #[.agg #[.int .u64 (appB bf L), v], .int .i64 0]) ∧ OwnE w' w.heap.size v (appL a b bf L at' tx) ∧ Below w.heap.size w w' := by
  obtain ⟨hr, ht, hm, hlast⟩ := hyes
  have hl := hr.n
  have hl' : L.length ≤ 1000 := by omega
  obtain ⟨m0, m1⟩ := lastE_bounds L hL
  obtain ⟨n0, n1⟩ := headE_bounds bf h0 h1 L hL
  have hmb : (lastE L == 18446744073709551615) = false := by simp [hm]
  have hm1 : lastE L + 1 < 18446744073709551616 := by omega
  have HR := Lib.hid hr
  clear hm hr
  have hx := List.getElem?_eq_getElem (show L.length - 1 < L.length by omega)
  obtain ⟨g, o, rfl, hg, c0, c1, c2, c3⟩ := hE _ _ hx
  have hxo := hL _ (List.getElem_mem (show L.length - 1 < L.length by omega))
  have hxa := hlast _ hx
  have hx0 := hxo.a0
  have hx1 := hxo.a1
  generalize (L[L.length - 1]'(by omega)) = x at *
  clear c0 c2 c3 hx hlast hxo
  have st0 := St.start w
  go_enter Tryz.func67, Tryz.ntmps67
  go_wp2_with fail
  refine (St.call' st0.alloc.alloc.alloc (fun st => right_n L.length a b bf h0 h1 L hL rfl hl' _ cap true ⟨fun _ => HR.out, fun _ => rfl⟩ _ (hE.below st.below))).mono ?_
  rintro e w4 ⟨rfl, st4⟩
  have rl := st4.rules
  simp only [Rules, World.size_alloc] at rl
  go_wp2_with fail
  refine (St.call' st4 (fun st => last_n L.length bf L rfl hl' _ cap _ (hE.below st.below))).mono ?_
  rintro e w5 ⟨rfl, st5⟩
  clear rl st4 HR
  have rl := st5.rules
  simp only [Rules, World.size_alloc] at rl
  have d1 := (st5.below.cell (p := ⟨g, _, none⟩) hg).trans c1
  go_wp2_with fail
  refine (St.call' st5 (fun st => last_n L.length bf L rfl hl' _ cap _ (hE.below st.below))).mono ?_
  rintro e w6 ⟨rfl, st6⟩
  clear rl st5 d1
  have rl := st6.rules
  simp only [Rules, World.size_alloc] at rl
  have hokN : Ent.Ok ⟨lastE L + 1, at', tx, 0⟩ := ⟨by show 0 ≤ lastE L + 1; omega, hm1, q0, q1, by show tx.size ≤ 1000; omega, by show (0 : Int) ≤ 0; omega, by show (0 : Int) < _; omega⟩
  go_wp2_with fail
  clear rl
  have st7 := st6.alloc (cs := #[Value.int .u64 (lastE L + 1), .int .u64 at', .string tx, .int .u64 0]) (T := 53)
  obtain ⟨bl7, E7, hne, sh7, rl, _, hbx, hst⟩ := st7.hide
  refine region_st_tail sh7 6 (by kernel_rfl) (by kernel_rfl) ?_
  simp only [Rules, World.size_alloc] at rl
  simp only [List.take_succ_cons, List.take_zero, List.drop_succ_cons, List.drop_zero]
  repeat (first | go_big_quiet_step (first | (go_at_call 103; exact Cs.call (head_n L.length bf L rfl hl' _ cap _ (hE.below (hbx _).out))) | (go_at_call 102; exact Cs.call (auditSum_any a b (headE bf L) n0 n1 ⟨lastE L + 1, at', tx, 0⟩ hokN _))) | quiet_step (first | (go_at_call 103; exact Cs.call (head_n L.length bf L rfl hl' _ cap _ (hE.below (hbx _).out))) | (go_at_call 102; exact Cs.call (auditSum_any a b (headE bf L) n0 n1 ⟨lastE L + 1, at', tx, 0⟩ hokN _))))
  refine wpQuiet_nil ?_
  intro y
  have st8 := (hst y).out
  clear hbx rl st7 hst sh7
  generalize y.W = w8 at *
  have rl := st8.rules
  simp only [Rules, World.size_alloc] at rl
  go_wp2_with fail
  have st9 := st8.setT 0 rfl (o := 3) (v := .int .u64 (entSum a b (headE bf L) ⟨lastE L + 1, at', tx, 0⟩)) (by have := st6.below.size; omega)
  clear rl
  simp only [setB, List.modify_zero_cons, List.setIfInBounds_toArray, List.set_cons_succ, List.set_cons_zero] at st9
  clear st8 st6
  generalize (w8.setCell { block := w6.heap.size, off := 3 } (Value.int IntKind.u64 (entSum a b (headE bf L) { seq := lastE L + 1, at' := at', text := tx, sum := 0 }))) = w9 at *
  obtain ⟨bl9, E9, hne9, sh9, rl, _, hbx, hst⟩ := st9.hide
  refine region_st sh9 (by kernel_rfl) (by kernel_rfl) ?_
  simp only [Rules, World.size_alloc] at rl
  repeat (first | go_big_quiet_step (fail) | quiet_step (fail))
  refine wpQuiet_nil ?_
  intro y2
  have st10 := (hst y2).out
  clear hbx rl hst sh9 st9
  generalize y2.W = w10 at *
  have rl := st10.rules
  simp only [Rules, World.size_alloc] at rl
  have h30b : ((L.length : Int) == 30) = false := by rw [beq_eq_false_iff_ne]; omega
  obtain ⟨i0, hi, hz0, hz1, hz2⟩ := info_parts infoEnt
  go_wp2_with (at_make; refine wpList_make_own _ rfl _ _ 34 rfl w10.heap.size 53 i0 _ 4 Tryz.underlying34 hi hz0 hz1 .i64 .i64 _ (L.length + 1) rfl rfl (by simp) (by rw [hz2]; omega) (by unfold maxLen; omega) (Nat.le_refl _) ?_)
  intro w11 hown11 hg11
  have st11 := st10.grown hg11 (by simp)
  clear rl
  have rl := st11.rules
  simp only [Rules, World.size_alloc] at rl
  have e30 : appK L = L := by unfold appK; rw [if_neg (by omega)]
  have e31 : appB bf L = bf := by unfold appB; rw [if_neg (by omega)]
  have HEK := Lib.hid e30
  have HEB := Lib.hid e31
  clear e30 e31
  go_wp2_with (at_builtin; refine append_ents rfl (.tmp 76) (.tmp 77) rfl w10.heap.size _ [] rfl hown11 L L.length rfl (some ⟨g, o, none⟩) cap rfl (by simp) (hE.below st11.below) (by simp <;> omega) hg11.size ?_)
  intro v12 w12 hown12 hg12
  have st12 := st11.grownB st10 hown11 hg12
  clear rl
  have rl := st12.rules
  simp only [Rules, World.size_alloc] at rl
  replace hown12 : OwnE w12 w10.heap.size v12 L := hown12
  have hsz12 := Nat.le_trans hg11.size hg12.size
  go_wp2_with (at_builtin; refine append_ents rfl (.tmp 79) (.tmp 81) rfl w10.heap.size v12 L rfl (hown12.alloc _) [newEnt a b bf L at' tx] 1 rfl (some ⟨w12.heap.size, 0, none⟩) 1 rfl (by simp) (ents_one w12 (newEnt a b bf L at' tx)) (by simp <;> omega) (by simp <;> omega) ?_)
  intro v13 w13 hown13 hg13
  have st13 := (st12.to ((Below.refl _ _).alloc (Nat.le_refl _) _)).grownB st10 (hown12.alloc _) hg13
  obtain ⟨s13, c13, hv13, _, _, _⟩ := own_ents hown13
  subst hv13
  have hBz := (st10.rules).2.2.1
  clear rl
  have rl := st13.rules
  simp only [Rules, World.size_alloc] at rl
  go_wp2_with fail
  have hBz : w.heap.size + 1 + 1 < w10.heap.size := by
    have := st10.blk _ (List.mem_cons_of_mem _ (List.mem_cons_self ..))
    have := blk_lt this
    simpa using this
  have hap := Lib.hid (show appL a b bf L at' tx = L ++ [newEnt a b bf L at' tx] by unfold appL; rw [HEK.out])
  refine bodyPost_ret (v := .tuple #[.agg #[.int .u64 bf, .slice s13 (L ++ [newEnt a b bf L at' tx]).length c13], .int .i64 0]) (by simp [results, Tryz.results67, go_sem, rl]) rfl ⟨.slice s13 _ c13, by rw [HEB.out], ?_, ?_⟩
  · rw [hap.out]
    exact ownsRow_base (ownsRow_setCell_below (ownsRow_setCell_below hown13 (a := ⟨w.heap.size + 1 + 1, 0, none⟩) hBz _) (a := ⟨w.heap.size + 1 + 1, 1, none⟩) hBz _) st10.below.size
  · exact (st13.below.setCell (p := ⟨w.heap.size + 1 + 1, 0, none⟩) (by show w.heap.size ≤ w.heap.size + 1 + 1; omega) _).setCell (p := ⟨w.heap.size + 1 + 1, 1, none⟩) (by show w.heap.size ≤ w.heap.size + 1 + 1; omega) _
set_option maxRecDepth 100000 in
set_option maxHeartbeats 400000 in
theorem append_yes2 (a b : BitVec 64) (bf : Int) (h0 : 0 ≤ bf) (h1 : bf < 18446744073709551616) (L : List Ent) (hL : ∀ x ∈ L, x.Ok) (s : Option Addr) (cap : Nat) (hcap : L.length ≤ cap) (hcn : s = none → cap = 0) (at' : Int) (q0 : 0 ≤ at') (q1 : at' < 18446744073709551616) (tx : ByteArray) (w : World) (hE : Ents w s L)
    (hyes : AppOk a b bf L at' tx) (h30 : 30 ≤ L.length) :
    Calls Tryz.prog 67 #[kv a b, lv bf s L.length cap, .int .u64 at', .string tx] w fun e w' => ∃ v, e = .returned (.tuple #[.agg #[.int .u64 (appB bf L), v], .int .i64 0]) ∧ OwnE w' w.heap.size v (appL a b bf L at' tx) ∧ Below w.heap.size w w' := by
  obtain ⟨hr, ht, hm, hlast⟩ := hyes
  have hl := hr.n
  have hl' : L.length ≤ 1000 := by omega
  obtain ⟨m0, m1⟩ := lastE_bounds L hL
  obtain ⟨n0, n1⟩ := headE_bounds bf h0 h1 L hL
  have hmb : (lastE L == 18446744073709551615) = false := by simp [hm]
  have hm1 : lastE L + 1 < 18446744073709551616 := by omega
  have HR := Lib.hid hr
  clear hm hr
  have hx := List.getElem?_eq_getElem (show L.length - 1 < L.length by omega)
  obtain ⟨g, o, rfl, hg, c0, c1, c2, c3⟩ := hE _ _ hx
  have hxo := hL _ (List.getElem_mem (show L.length - 1 < L.length by omega))
  have hxa := hlast _ hx
  have hx0 := hxo.a0
  have hx1 := hxo.a1
  generalize (L[L.length - 1]'(by omega)) = x at *
  clear c0 c2 c3 hx hlast hxo
  have st0 := St.start w
  go_enter Tryz.func67, Tryz.ntmps67
  go_wp2_with fail
  refine (St.call' st0.alloc.alloc.alloc (fun st => right_n L.length a b bf h0 h1 L hL rfl hl' _ cap true ⟨fun _ => HR.out, fun _ => rfl⟩ _ (hE.below st.below))).mono ?_
  rintro e w4 ⟨rfl, st4⟩
  have rl := st4.rules
  simp only [Rules, World.size_alloc] at rl
  go_wp2_with fail
  refine (St.call' st4 (fun st => last_n L.length bf L rfl hl' _ cap _ (hE.below st.below))).mono ?_
  rintro e w5 ⟨rfl, st5⟩
  clear rl st4 HR
  have rl := st5.rules
  simp only [Rules, World.size_alloc] at rl
  have d1 := (st5.below.cell (p := ⟨g, _, none⟩) hg).trans c1
  go_wp2_with fail
  refine (St.call' st5 (fun st => last_n L.length bf L rfl hl' _ cap _ (hE.below st.below))).mono ?_
  rintro e w6 ⟨rfl, st6⟩
  clear rl st5 d1
  have rl := st6.rules
  simp only [Rules, World.size_alloc] at rl
  have hokN : Ent.Ok ⟨lastE L + 1, at', tx, 0⟩ := ⟨by show 0 ≤ lastE L + 1; omega, hm1, q0, q1, by show tx.size ≤ 1000; omega, by show (0 : Int) ≤ 0; omega, by show (0 : Int) < _; omega⟩
  go_wp2_with fail
  clear rl
  have st7 := st6.alloc (cs := #[Value.int .u64 (lastE L + 1), .int .u64 at', .string tx, .int .u64 0]) (T := 53)
  obtain ⟨bl7, E7, hne, sh7, rl, _, hbx, hst⟩ := st7.hide
  refine region_st_tail sh7 6 (by kernel_rfl) (by kernel_rfl) ?_
  simp only [Rules, World.size_alloc] at rl
  simp only [List.take_succ_cons, List.take_zero, List.drop_succ_cons, List.drop_zero]
  repeat (first | go_big_quiet_step (first | (go_at_call 103; exact Cs.call (head_n L.length bf L rfl hl' _ cap _ (hE.below (hbx _).out))) | (go_at_call 102; exact Cs.call (auditSum_any a b (headE bf L) n0 n1 ⟨lastE L + 1, at', tx, 0⟩ hokN _))) | quiet_step (first | (go_at_call 103; exact Cs.call (head_n L.length bf L rfl hl' _ cap _ (hE.below (hbx _).out))) | (go_at_call 102; exact Cs.call (auditSum_any a b (headE bf L) n0 n1 ⟨lastE L + 1, at', tx, 0⟩ hokN _))))
  refine wpQuiet_nil ?_
  intro y
  have st8 := (hst y).out
  clear hbx rl st7 hst sh7
  generalize y.W = w8 at *
  have rl := st8.rules
  simp only [Rules, World.size_alloc] at rl
  go_wp2_with fail
  have st9 := st8.setT 0 rfl (o := 3) (v := .int .u64 (entSum a b (headE bf L) ⟨lastE L + 1, at', tx, 0⟩)) (by have := st6.below.size; omega)
  clear rl
  simp only [setB, List.modify_zero_cons, List.setIfInBounds_toArray, List.set_cons_succ, List.set_cons_zero] at st9
  clear st8 st6
  generalize (w8.setCell { block := w6.heap.size, off := 3 } (Value.int IntKind.u64 (entSum a b (headE bf L) { seq := lastE L + 1, at' := at', text := tx, sum := 0 }))) = w9 at *
  obtain ⟨bl9, E9, hne9, sh9, rl, _, hbx, hst⟩ := st9.hide
  refine region_st sh9 (by kernel_rfl) (by kernel_rfl) ?_
  simp only [Rules, World.size_alloc] at rl
  repeat (first | go_big_quiet_step (fail) | quiet_step (fail))
  refine wpQuiet_nil ?_
  intro y2
  have st10 := (hst y2).out
  clear hbx rl hst sh9 st9
  generalize y2.W = w10 at *
  have rl := st10.rules
  simp only [Rules, World.size_alloc] at rl
  have h30b : ((L.length : Int) == 30) = true := by rw [beq_iff_eq]; omega
  have hy := List.getElem?_eq_getElem (show 0 < L.length by omega)
  obtain ⟨g', o', hgo, _, _, _, _, b3⟩ := hE _ _ hy
  obtain ⟨rfl, rfl⟩ : g' = g ∧ o' = o := by simp at hgo; exact ⟨hgo.1.symm, hgo.2.symm⟩
  have HS0 := Lib.hid (show appB bf L = (L[0]'(by omega)).sum by unfold appB; rw [if_pos (by omega), hy])
  generalize (L[0]'(by omega)) = y0 at *
  clear hy hgo
  rw [Nat.zero_mul, Nat.add_zero] at b3
  go_wp2_with fail
  clear rl
  obtain ⟨bl10, E10, hne10, sh10, rl, _, hbx, hst⟩ := st10.hide
  refine region_st sh10 (by kernel_rfl) (by kernel_rfl) ?_
  simp only [Rules, World.size_alloc] at rl
  have b3' : ∀ x : Cs w bl10 E10, x.W.cell? ⟨g', o' + 3, none⟩ = some (.int .u64 y0.sum) := fun x => ((hbx x).out.cell (p := ⟨g', _, none⟩) hg).trans b3
  have hcap1 : 1 < cap := by omega
  have hcap2 : 1 ≤ cap := by omega
  have hl2 : 1 ≤ L.length := by omega
  repeat (first | go_big_quiet_step (fail) | quiet_step (fail))
  refine wpQuiet_nil ?_
  intro y3
  have st10' := (hst y3).out
  clear hbx rl hst sh10 st10 b3' b3
  generalize y3.W = w10' at *
  have rl := st10'.rules
  simp only [Rules, World.size_alloc] at rl
  have hE1 : Ents w (some ⟨g', o' + 4, none⟩) (L.drop 1) := by
    intro i z hz'
    rw [List.getElem?_drop] at hz'
    obtain ⟨g2, o2, he2, q⟩ := hE _ _ hz'
    obtain ⟨rfl, rfl⟩ : g2 = g' ∧ o2 = o' := by simp at he2; exact ⟨he2.1.symm, he2.2.symm⟩
    refine ⟨g2, o2 + 4, rfl, ?_⟩
    rw [show o2 + 4 + i * 4 = o2 + (1 + i) * 4 by omega]
    exact q
  have HKL := Lib.hid (show L.length - 1 = (L.drop 1).length by simp)
  have HEK0 := Lib.hid (show appK L = L.drop 1 by unfold appK; rw [if_pos (by omega)])
  have hkl : (L.drop 1).length ≤ 29 := by simp; omega
  generalize L.drop 1 = K at *
  obtain ⟨i0, hi, hz0, hz1, hz2⟩ := info_parts infoEnt
  go_wp2_with (at_make; refine wpList_make_own _ rfl _ _ 34 rfl w10'.heap.size 53 i0 _ 4 Tryz.underlying34 hi hz0 hz1 .i64 .i64 _ ((L.length - 1) + 1) rfl rfl (by simp) (by rw [hz2]; omega) (by unfold maxLen; omega) (Nat.le_refl _) ?_)
  intro w11 hown11 hg11
  have st11 := st10'.grown hg11 (by simp)
  clear rl
  have rl := st11.rules
  simp only [Rules, World.size_alloc] at rl
  have e30 : appK L = K := HEK0.out
  have e31 : appB bf L = y0.sum := HS0.out
  have HEK := Lib.hid e30
  have HEB := Lib.hid e31
  clear e30 e31
  go_wp2_with (at_builtin; refine append_ents rfl (.tmp 76) (.tmp 77) rfl w10'.heap.size _ [] rfl hown11 K (L.length - 1) HKL.out (some ⟨g', o' + 4, none⟩) (cap - 1) rfl (by simp) (hE1.below st11.below) (by simp <;> omega) hg11.size ?_)
  intro v12 w12 hown12 hg12
  have st12 := st11.grownB st10' hown11 hg12
  clear rl
  have rl := st12.rules
  simp only [Rules, World.size_alloc] at rl
  replace hown12 : OwnE w12 w10'.heap.size v12 K := hown12
  have hsz12 := Nat.le_trans hg11.size hg12.size
  go_wp2_with (at_builtin; refine append_ents rfl (.tmp 79) (.tmp 81) rfl w10'.heap.size v12 K rfl (hown12.alloc _) [newEnt a b bf L at' tx] 1 rfl (some ⟨w12.heap.size, 0, none⟩) 1 rfl (by simp) (ents_one w12 (newEnt a b bf L at' tx)) (by simp <;> omega) (by simp <;> omega) ?_)
  intro v13 w13 hown13 hg13
  have st13 := (st12.to ((Below.refl _ _).alloc (Nat.le_refl _) _)).grownB st10' (hown12.alloc _) hg13
  obtain ⟨s13, c13, hv13, _, _, _⟩ := own_ents hown13
  subst hv13
  have hBz := (st10'.rules).2.2.1
  clear rl
  have rl := st13.rules
  simp only [Rules, World.size_alloc] at rl
  go_wp2_with fail
  have hBz : w.heap.size + 1 + 1 < w10'.heap.size := by
    have := st10'.blk _ (List.mem_cons_of_mem _ (List.mem_cons_self ..))
    have := blk_lt this
    simpa using this
  have hap := Lib.hid (show appL a b bf L at' tx = K ++ [newEnt a b bf L at' tx] by unfold appL; rw [HEK.out])
  refine bodyPost_ret (v := .tuple #[.agg #[.int .u64 y0.sum, .slice s13 (K ++ [newEnt a b bf L at' tx]).length c13], .int .i64 0]) (by simp [results, Tryz.results67, go_sem, rl]) rfl ⟨.slice s13 _ c13, by rw [HEB.out], ?_, ?_⟩
  · rw [hap.out]
    exact ownsRow_base (ownsRow_setCell_below (ownsRow_setCell_below hown13 (a := ⟨w.heap.size + 1 + 1, 0, none⟩) hBz _) (a := ⟨w.heap.size + 1 + 1, 1, none⟩) hBz _) st10'.below.size
  · exact (st13.below.setCell (p := ⟨w.heap.size + 1 + 1, 0, none⟩) (by show w.heap.size ≤ w.heap.size + 1 + 1; omega) _).setCell (p := ⟨w.heap.size + 1 + 1, 1, none⟩) (by show w.heap.size ≤ w.heap.size + 1 + 1; omega) _
theorem append_yes (a b : BitVec 64) (bf : Int) (h0 : 0 ≤ bf) (h1 : bf < 18446744073709551616) (L : List Ent) (hL : ∀ x ∈ L, x.Ok) (s : Option Addr) (cap : Nat) (hcap : L.length ≤ cap) (hcn : s = none → cap = 0) (at' : Int) (q0 : 0 ≤ at') (q1 : at' < 18446744073709551616) (tx : ByteArray) (w : World) (hE : Ents w s L)
    (hyes : AppOk a b bf L at' tx) :
    Calls Tryz.prog 67 #[kv a b, lv bf s L.length cap, .int .u64 at', .string tx] w fun e w' => ∃ v, e = .returned (.tuple #[.agg #[.int .u64 (appB bf L), v], .int .i64 0]) ∧ OwnE w' w.heap.size v (appL a b bf L at' tx) ∧ Below w.heap.size w w' := by
  by_cases hz : L.length = 0
  · exact append_yes0 a b bf h0 h1 L hL s cap hcap hcn at' q0 q1 tx w hE hyes hz
  · by_cases h30 : L.length < 30
    · exact append_yes1 a b bf h0 h1 L hL s cap hcap hcn at' q0 q1 tx w hE hyes (by omega) h30
    · exact append_yes2 a b bf h0 h1 L hL s cap hcap hcn at' q0 q1 tx w hE hyes (by omega)
end Go.Proofs.YtmgdbfmlnmahpaaGreatDoor
