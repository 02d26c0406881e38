/- A part of the proof of TopCounts. -/
import Derived.Test.YtmgdbfmlnmahpaaGreatDoorG27
import Derived.Test.YtmgdbfmlnmahpaaGreatDoorG50
import Derived.Test.YtmgdbfmlnmahpaaGreatDoorG07
import Derived.Maps.RangeWalk
import Derived.Maps.OwnSet
namespace Go.Proofs.YtmgdbfmlnmahpaaGreatDoor
open Go.RowKit Go.Shelf
set_option linter.unusedSimpArgs false
set_option linter.unusedVariables false
set_option maxRecDepth 100000
theorem strIndex_one (s : ByteArray) (c : UInt8) (w : World) : Calls Tryz.prog 168 #[.string s, .string ⟨#[c]⟩] w fun e w' => e = .returned (.int .i64 (Lib.indexByte s.data.toList c)) ∧ w' = w := by
  have H := Lib.hid (Tryz.stringslite_Index_one s c w)
  go_enter Tryz.func168, Tryz.ntmps168
  go_wp2_with fail
  refine H.out.mono ?_
  rintro e w1 ⟨rfl, rfl⟩
  go_wp2_with fail
  go_ret
  exact ⟨rfl, rfl⟩
theorem slCut_ax (w : World) : Calls Tryz.prog 125 #[.string ⟨#[97, 61, 120]⟩, .string ⟨#[61]⟩] w fun e w' => e = .returned (.tuple #[.string ⟨#[97]⟩, .string ⟨#[120]⟩, .bool true]) ∧ Below w.heap.size w w' := by
  have H := Lib.hid (Tryz.stringslite_Index_one ⟨#[97, 61, 120]⟩ 61 w)
  have h1 : Lib.indexByte (⟨#[97, 61, 120]⟩ : ByteArray).data.toList 61 = 1 := by decide
  rw [h1] at H
  go_enter Tryz.func125, Tryz.ntmps125
  go_wp2_with fail
  refine H.out.mono ?_
  rintro e w1 ⟨rfl, rfl⟩
  go_wp2_with fail
  have st := St.start w1
  obtain ⟨bl2, E2, hne2, sh2, rl, hEx, hbx, hst⟩ := st.hide
  refine region_st sh2 (by kernel_rfl) (by kernel_rfl) ?_
  repeat (first | go_big_quiet_step (fail) | quiet_step (fail))
  refine wpQuiet_nil ?_
  intro y
  have hb := (hbx y).out
  clear hbx rl hst sh2 hEx
  generalize y.W = w4 at *
  go_wp2_with fail
  exact bodyPost_ret (v := .tuple #[.string ⟨#[97]⟩, .string ⟨#[120]⟩, .bool true]) (by simp [results, Tryz.results125, go_sem]; exact ⟨by kernel_rfl, by kernel_rfl⟩) rfl ⟨rfl, hb⟩
theorem cut_ax (w : World) : Calls Tryz.prog 78 #[.string ⟨#[97, 61, 120]⟩, .string ⟨#[61]⟩] w fun e w' => e = .returned (.tuple #[.string ⟨#[97]⟩, .string ⟨#[120]⟩, .bool true]) ∧ Below w.heap.size w w' := by
  have H := Lib.hid (slCut_ax w)
  go_enter Tryz.func78, Tryz.ntmps78
  go_wp2_with fail
  refine H.out.mono ?_
  rintro e w1 ⟨rfl, hb⟩
  go_wp2_with fail
  exact bodyPost_ret (v := .tuple #[.string ⟨#[97]⟩, .string ⟨#[120]⟩, .bool true]) (by simp [results, Tryz.results78, go_sem]) rfl ⟨rfl, hb⟩
abbrev splW (s : ByteArray) (w : World) : World := ((w.alloc (.cells #[.string s] 9)).alloc (.cells #[.string ⟨#[59]⟩] 9)).alloc (.cells #[.int .i64 0] 3)
abbrev splV (n : Nat) : Value := .func (.func 166) #[] #[.pointer (some ⟨n + 1, 0, none⟩), .pointer (some ⟨n, 0, none⟩), .pointer (some ⟨n + 1 + 1, 0, none⟩)]
theorem splitSeq0 (s : ByteArray) (w : World) : Calls Tryz.prog 124 #[.string s, .string ⟨#[59]⟩, .int .i64 0] w fun e w' => e = .returned (splV w.heap.size) ∧ w' = splW s w := by
  have hmf : ∀ (fn : Fn) (first cap : Array Value) (w : World), (Instr.makeFunc fn first cap).run Tryz.prog w = .ok (.func fn first cap) w := fun _ _ _ _ => rfl
  go_enter Tryz.func124, Tryz.ntmps124
  go_wp2_with fail
  go_ret
  exact ⟨rfl, rfl⟩
theorem splitSeq_any (s : ByteArray) (w : World) : Calls Tryz.prog 77 #[.string s, .string ⟨#[59]⟩] w fun e w' => e = .returned (splV w.heap.size) ∧ w' = splW s w := by
  go_enter Tryz.func77, Tryz.ntmps77
  go_wp2_with fail
  refine (splitSeq0 _ _).mono ?_
  rintro e w1 ⟨rfl, rfl⟩
  go_wp2_with fail
  go_ret
  exact ⟨rfl, rfl⟩
set_option maxHeartbeats 600000 in
theorem split1_in (s : ByteArray) (hi : Lib.indexByte s.data.toList 59 = -1) (b : Nat) (bl : List Blk) (hb0 : (b, #[.string s], 9) ∈ bl) (hb1 : (b + 1, #[.string ⟨#[59]⟩], 9) ∈ bl) (n : Nat) (hn : 1 ≤ n) (lb : Nat) (J Jx : List ByteArray → World → Prop)
    (hY : ∀ (pre : List ByteArray) (x : ByteArray) (W : World), J pre W → x = s → pre.length < 1 → YieldAt Fence.wide (n - 1) Tryz.prog lb #[.string x] W fun e W' => (e = .returned (.bool true) ∧ J (pre ++ [x]) W' ∧ KpB bl W W') ∨ (e = .returned (.bool false) ∧ Jx (pre ++ [x]) W'))
    (W : World) (hW : LieB bl W) (h0 : J [] W) :
    CallsIn Fence.wide n Tryz.prog 166 #[.func (.yield lb) #[] #[], .pointer (some ⟨b + 1, 0, none⟩), .pointer (some ⟨b, 0, none⟩), .pointer (some ⟨b + 1 + 1, 0, none⟩)] W fun e W' => (∃ v, e = .returned v) ∧ ((∃ xs, xs = [s] ∧ J xs W') ∨ (∃ pre, pre <+: [s] ∧ Jx pre W')) := by
  have hc0 := blk_cell (hW _ hb0) 0
  have hc1 := blk_cell (hW _ hb1) 0
  have H := Lib.hid (strIndex_one s 59 W)
  rw [hi] at H
  refine callsIn_of_wp Tryz.func166 rfl trivial ?_ rfl
  simp only [Tryz.ntmps166, List.size_toArray, List.length_cons, List.length_nil, Nat.reduceAdd, Nat.reduceSub, Array.replicate_succ, Array.replicate_zero, List.push_toArray, List.append_toArray, List.nil_append, List.cons_append]
  gi_wp2_with fail
  gi_loopw [7] (fun v wr => wr = W) (fun _ _ => 0)
  case atStart => rfl
  case round =>
    subst hrel
    gi_wp2_with fail
    refine ⟨trivial, (callsIn_wide.2 H.out).mono ?_⟩
    rintro e w1 ⟨rfl, hw1⟩
    subst hw1
    obtain ⟨fn, tmps, assign, body, hy, hR⟩ := hY [] s _ h0 rfl (by simp)
    gi_wp2_with fail
    refine hR.mono ?_
    rintro e W3 (⟨rfl, hJ3, hk3⟩ | ⟨rfl, hJx3⟩)
    · clear hy hR hc0 hc1
      gi_wp2_with fail
      first | go_end0 | refine bodyPost_ret (results_none rfl _ _ _) rfl ?_
      exact ⟨⟨_, rfl⟩, .inl ⟨_, rfl, hJ3⟩⟩
    · clear hy hR hc0 hc1
      gi_wp2_with fail
      first | go_end0 | refine bodyPost_ret (results_none rfl _ _ _) rfl ?_
      exact ⟨⟨_, rfl⟩, .inr ⟨_, List.prefix_refl _, hJx3⟩⟩
theorem split1_seq (s : ByteArray) (hi : Lib.indexByte s.data.toList 59 = -1) (b : Nat) (bl : List Blk) (hb0 : (b, #[.string s], 9) ∈ bl) (hb1 : (b + 1, #[.string ⟨#[59]⟩], 9) ∈ bl) (n : Nat) (hn : 1 ≤ n) (W : World) (hW : LieB bl W) :
    SeqW Fence.wide n Tryz.prog 166 #[.pointer (some ⟨b + 1, 0, none⟩), .pointer (some ⟨b, 0, none⟩), .pointer (some ⟨b + 1 + 1, 0, none⟩)] (fun x : ByteArray => #[.string x]) (fun x _ => x = s) (KpB bl) (fun xs => xs = [s]) (fun pre => pre <+: [s]) 1 none W := fun lb J Jx bJ _ hY h0 =>
  split1_in s hi b bl hb0 hb1 n hn lb J Jx hY W hW h0
end Go.Proofs.YtmgdbfmlnmahpaaGreatDoor
namespace Go.Proofs.YtmgdbfmlnmahpaaGreatDoor
open Go.RowKit Go.Shelf
set_option linter.unusedSimpArgs false
set_option linter.unusedVariables false
set_option maxRecDepth 100000
theorem elemTm : Elem Tryz.prog 125 184 2 32 := Elem.mk (z := .agg #[.string ⟨#[]⟩, .string ⟨#[]⟩]) Tryz.underlying125 (by kernel_rfl) rfl (by decide)
def befS (pre : List ByteArray) : ByteArray := if pre = [] then (⟨#[]⟩ : ByteArray) else ⟨#[97]⟩
def StRd (w : World) (pre : List ByteArray) (W : World) : Prop :=
  (pre = [] ∧ St w [(w.heap.size + 1 + 1 + 1 + 1, #[.string ⟨#[59]⟩], 9), (w.heap.size + 1 + 1 + 1, #[.string ⟨#[97, 61, 120]⟩], 9), (w.heap.size + 1 + 1, #[.string ⟨#[]⟩], 9), (w.heap.size + 1, #[.bool true], 4), (w.heap.size, #[.slice none 0 0], 125)] (fun _ => True) W) ∨
  (pre ≠ [] ∧ ∃ d : Hd, RdH 2 encL W d [labAX] ∧ St w [(w.heap.size + 1 + 1 + 1 + 1, #[.string ⟨#[59]⟩], 9), (w.heap.size + 1 + 1 + 1, #[.string ⟨#[97, 61, 120]⟩], 9), (w.heap.size + 1 + 1, #[.string ⟨#[97]⟩], 9), (w.heap.size + 1, #[.bool true], 4), (w.heap.size, #[.slice d.s 1 d.cap], 125)] (fun _ => True) W)
theorem StRd.own (w : World) (n : Nat) (hn : w.heap.size ≤ n) : OwnFrom n (StRd w) := by
  rintro pre A B row (⟨h1, h2⟩ | ⟨h1, d, h2, h3⟩) hg hr
  · exact .inl ⟨h1, h2.own hg hr hn⟩
  · exact .inr ⟨h1, d, h2.own' encL_len (by decide) hg (fun r e => (hr r e).2), h3.own hg hr hn⟩
theorem StRd.bears (w : World) : Bears none (StRd w) := by
  rintro pre A B (⟨h1, h2⟩ | ⟨h1, d, h2, h3⟩) hg
  · exact .inl ⟨h1, h2.grown hg (fun k e => by cases e)⟩
  · exact .inr ⟨h1, d, h2.own' encL_len (by decide) hg (fun r e => by cases e), h3.grown hg (fun k e => by cases e)⟩
attribute [local go_sem] Oper.semAt_some
set_option maxHeartbeats 1000000 in
theorem scRead_ax (w : World) : Calls Tryz.prog 50 #[.string ⟨#[97, 61, 120]⟩] w fun e w' => ∃ d : Hd, e = .returned (.tuple #[d.v 1, .bool true]) ∧ RdH 2 encL w' d [labAX] ∧ Below w.heap.size w w' := by
  have st0 := ((((((St.start w).alloc (cs := #[.slice none 0 0]) (T := 125)).alloc (cs := #[.bool true]) (T := 4)).alloc (cs := #[.string ⟨#[]⟩]) (T := 9)).alloc (cs := #[.string ⟨#[97, 61, 120]⟩]) (T := 9)).alloc (cs := #[.string ⟨#[59]⟩]) (T := 9)).alloc (cs := #[.int .i64 0]) (T := 3)
  simp only [World.size_alloc] at st0
  have hi : Lib.indexByte (⟨#[97, 61, 120]⟩ : ByteArray).data.toList 59 = -1 := by decide
  refine (callsIn_wide (n := 5)).1 ?_
  refine callsIn_of_wp_marks Tryz.func50 rfl trivial ?_ rfl
  simp only [Tryz.ntmps50, List.size_toArray, List.length_cons, List.length_nil, Nat.reduceAdd, Nat.reduceSub, Array.replicate_succ, Array.replicate_zero, List.push_toArray, List.append_toArray, List.nil_append, List.cons_append]
  refine wpIn_wide.2 ?_
  go_wp2_with fail
  refine wp_scope_straight ?_
  go_wp2_with fail
  refine wp_label ?_
  go_wp2_with fail
  refine (splitSeq_any _ _).mono ?_
  rintro e w2 ⟨rfl, hw2⟩
  rw [show (((w.alloc (Obj.cells #[Value.slice none 0 0] 125)).alloc (Obj.cells #[Value.bool true] 4)).alloc (Obj.cells #[Value.string ⟨#[]⟩] 9)).heap.size = w.heap.size + 1 + 1 + 1 by simp]
  subst hw2
  go_wp2_with fail
  have hz3 : (splW ⟨#[97, 61, 120]⟩ (((w.alloc (.cells #[.slice none 0 0] 125)).alloc (.cells #[.bool true] 4)).alloc (.cells #[.string ⟨#[]⟩] 9))).heap.size = w.heap.size + 6 := by simp
  have st3 : St w _ _ (splW ⟨#[97, 61, 120]⟩ (((w.alloc (.cells #[.slice none 0 0] 125)).alloc (.cells #[.bool true] 4)).alloc (.cells #[.string ⟨#[]⟩] 9))) := st0.less _ (List.sublist_cons_self _ _)
  clear st0
  generalize splW ⟨#[97, 61, 120]⟩ (((w.alloc (.cells #[.slice none 0 0] 125)).alloc (.cells #[.bool true] 4)).alloc (.cells #[.string ⟨#[]⟩] 9)) = w3 at *
  have hw3 : w.heap.size ≤ w3.heap.size := by omega
  have hlie : LieB [(w.heap.size + 1 + 1 + 1 + 1, #[.string ⟨#[59]⟩], 9), (w.heap.size + 1 + 1 + 1, #[.string ⟨#[97, 61, 120]⟩], 9)] w3 := fun x hx => st3.blk x (by simp at hx; rcases hx with rfl | rfl <;> simp)
  have stc : StRd w [] w3 := .inl ⟨rfl, st3⟩
  refine (wpIn_wide (n := 5)).1 (wpIn_rangeFunc_w (n := 5) (b := none) (fun _ e => by cases e) rfl (by omega) (gf := 166) (lb := #[.pointer (some ⟨w.heap.size + 1 + 1 + 1 + 1, 0, none⟩), .pointer (some ⟨w.heap.size + 1 + 1 + 1, 0, none⟩), .pointer (some ⟨w.heap.size + 1 + 1 + 1 + 1 + 1, 0, none⟩)]) rfl trivial (enters_of Tryz.func166 (by kernel_rfl) rfl)
    (fun W hb => split1_seq ⟨#[97, 61, 120]⟩ hi (w.heap.size + 1 + 1 + 1) [(w.heap.size + 1 + 1 + 1 + 1, #[.string ⟨#[59]⟩], 9), (w.heap.size + 1 + 1 + 1, #[.string ⟨#[97, 61, 120]⟩], 9)] (by simp) (by simp) 4 (by omega) W (hlie.below hb)) (fun h k => fun x hx => (k x hx).trans (h x hx)) ?kb (fun _ => rfl)
    (StRd w) (fun _ _ _ => False)
    (StRd.own w _ hw3) (fun c _ _ _ _ h hg hr => h)
    (StRd.bears w) (fun c _ _ _ h hg => h) stc
    (fun x c => { tmps := #[.string ⟨#[97, 61, 120]⟩, undef, .slice none 0 0, .bool false, .pointer (some ⟨w.heap.size, 0, none⟩), .pointer (some ⟨w.heap.size + 1, 0, none⟩), .pointer (some ⟨w.heap.size + 1 + 1, 0, none⟩), .string x, undef, undef, undef, .string ⟨#[97, 61, 120]⟩, .bool false, .string ⟨#[97, 61, 120]⟩, splV (w.heap.size + 1 + 1 + 1), .string x, undef, undef, undef, undef, undef, undef, undef, undef, undef, undef, undef, undef, undef, undef, undef, undef, undef, undef, undef, undef, undef, undef, undef, undef, undef, undef, undef, undef, undef, undef, undef, undef, undef, undef, undef, undef, undef, undef], defers := [] })
    (fun x c W => x = ⟨#[97, 61, 120]⟩) (fun x c _ _ _ _ h _ _ => h) ?assign ?body ?done ?stop)
  case kb =>
    intro W l' o' hl' hlt x hx
    simp at hx
    rcases hx with rfl | rfl <;> exact World.putObj_heap_other (by show _ ≠ _; simp; omega)
  case assign =>
    intro l' pre x W K hI hP hK
    subst hP
    have HK := Lib.hid (hK 0 W (KeepsOthers.refl _) (fun _ _ => rfl) hI rfl)
    clear hK
    gi_wp2_with fail
    exact HK.out
  case body =>
    rintro l' pre x c W hI rfl hN
    obtain rfl : pre = [] := List.eq_nil_of_length_eq_zero (by simpa using hN)
    obtain ⟨_, stI⟩ : _ ∧ St w [(w.heap.size + 1 + 1 + 1 + 1, #[.string ⟨#[59]⟩], 9), (w.heap.size + 1 + 1 + 1, #[.string ⟨#[97, 61, 120]⟩], 9), (w.heap.size + 1 + 1, #[.string ⟨#[]⟩], 9), (w.heap.size + 1, #[.bool true], 4), (w.heap.size, #[.slice none 0 0], 125)] (fun _ => True) W := by
      rcases hI with h | ⟨h, _⟩
      · exact h
      · exact (h rfl).elim
    have rl := stI.rules
    simp only [Rules] at rl
    clear stc st3 hlie
    gi_wp2_with fail
    refine ⟨trivial, (CallsIn.inRound l' (callsIn_wide.2 (cut_ax _))).mono ?_⟩
    rintro e w4 ⟨rfl, hb4⟩
    have st4 := stI.to hb4
    have rl4 := st4.rules
    simp only [Rules] at rl4
    clear rl
    gi_wp2_with fail
    refine ⟨trivial, (CallsIn.inRound l' (callsIn_wide.2 (scName_a _))).mono ?_⟩
    rintro e w5 ⟨rfl, hb5⟩
    have st5 := st4.to hb5
    have rl5 := st5.rules
    simp only [Rules] at rl5
    clear rl4
    gi_wp2_with fail
    refine ⟨trivial, (CallsIn.inRound l' (callsIn_wide.2 (isPattern_x _))).mono ?_⟩
    rintro e w6 ⟨rfl, hb6⟩
    have st6 := st5.to hb6
    have rl6 := st6.rules
    simp only [Rules] at rl6
    have hbW := hb4.trans ((hb5.trans (hb6.mono hb5.size)).mono hb4.size)
    clear rl5 st4 st5 hb4 hb5 hb6
    gi_wp2_with (gi_at_builtin; go_must (refine append_oneIn elemTm encL_len encL_one rfl (.tmp 44) (.tmp 48) rfl w6.heap.size (.slice none 0 0) ([] : List Lab) labAX rfl (St.start _) (OwnR.nil _ _) (Nat.le_refl _) (by simp) (Nat.le_refl _) _ rfl w6.heap.size rfl rfl (by simp) (by decide) ?_); intro v' w7 ap; obtain ⟨⟨ds, dc⟩, hv, hd, hf⟩ := RdH.ownF encL_len ap.own; have hv' : v' = .slice ds 1 dc := hv; subst hv'; have st7 := st6.to ap.st.below; have rl7 := st7.rules; simp only [Rules] at rl7; have HD := Lib.hid (And.intro hd (And.intro hf ap.st.below)); clear hd hf ap rl6)
    have hWl : w.heap.size + 1 + 1 + 1 + 1 < W.heap.size := blk_lt (stI.blk _ (List.mem_of_getElem? (i := 0) rfl))
    have hw6 := hbW.size
    have st8 := st7.setT 4 (A := w.heap.size) rfl (o := 0) (v := .slice ds 1 dc) (Nat.le_refl _)
    simp only [setB, List.modify_succ_cons, List.modify_zero_cons, List.setIfInBounds_toArray, List.set_cons_zero, List.set_cons_succ] at st8
    have st9 := st8.setT 2 (A := w.heap.size + 1 + 1) rfl (o := 0) (v := .string ⟨#[97]⟩) (by omega)
    simp only [setB, List.modify_succ_cons, List.modify_zero_cons, List.setIfInBounds_toArray, List.set_cons_zero, List.set_cons_succ] at st9
    have hB7 : Below W.heap.size W w7 := hbW.trans (HD.out.2.2.mono hbW.size)
    refine ⟨((keepsOthers_below hB7).trans (KeepsOthers.setCell w7 ⟨w.heap.size, 0, none⟩ (.slice ds 1 dc))).trans (KeepsOthers.setCell _ ⟨w.heap.size + 1 + 1, 0, none⟩ (.string ⟨#[97]⟩)), fun y hy => ?_, .inr ⟨by simp, ⟨ds, dc⟩, HD.out.1.up HD.out.2.1 (((KeepUp.refl _ _).set (by omega) _).set (by omega) _), st9⟩⟩
    simp at hy
    rcases hy with rfl | rfl <;> exact (Below.heap_setCell _ ⟨w.heap.size + 1 + 1, 0, none⟩ _ _ (by show _ ≠ _; simp <;> omega)).trans ((Below.heap_setCell w7 ⟨w.heap.size, 0, none⟩ _ _ (by show _ ≠ _; simp <;> omega)).trans (hB7.block _ (by simp <;> omega)))
  case done =>
    rintro D xs W hD rfl hI hK
    obtain ⟨⟨ds, dc⟩, hd, st9⟩ : ∃ d : Hd, RdH 2 encL W d [labAX] ∧ St w [(w.heap.size + 1 + 1 + 1 + 1, #[.string ⟨#[59]⟩], 9), (w.heap.size + 1 + 1 + 1, #[.string ⟨#[97, 61, 120]⟩], 9), (w.heap.size + 1 + 1, #[.string ⟨#[97]⟩], 9), (w.heap.size + 1, #[.bool true], 4), (w.heap.size, #[.slice d.s 1 d.cap], 125)] (fun _ => True) W := by
      rcases hI with ⟨h, _⟩ | ⟨_, d, h1, h2⟩
      · cases h
      · exact ⟨d, h1, h2⟩
    have rl := st9.rules
    simp only [Rules] at rl
    have HD := Lib.hid hd
    clear hd hI
    go_wp2_with fail
    refine ⟨by simp, .inl ⟨_, _, rfl, run_takeDeferred hK, ?_⟩⟩
    exact ⟨_, by simp [results, Tryz.results50, go_sem], ⟨ds, dc⟩, rfl, HD.out.own' encL_len (by decide) (grownBy_putObj' W D _) (fun r e => by cases e; exact ⟨_, hK, rfl⟩), (st9.own (base := w.heap.size) (grownBy_putObj' W D _) (fun r e => by cases e; exact ⟨by omega, _, hK, rfl⟩) (Nat.le_refl _)).below⟩
  case stop =>
    rintro D c pre W hD hp h
    exact h.elim
end Go.Proofs.YtmgdbfmlnmahpaaGreatDoor
namespace Go.Proofs.YtmgdbfmlnmahpaaGreatDoor
open Go.RowKit Go.Shelf
set_option linter.unusedSimpArgs false
set_option linter.unusedVariables false
set_option maxRecDepth 100000
def StGet (w : World) (s : Option Addr) (cap : Nat) (pre : List Lab) (W : World) : Prop := pre = [] ∧ St w [(w.heap.size + 1 + 1 + 1, #[.slice s 1 cap], 161), (w.heap.size + 1 + 1, #[.bool false], 4), (w.heap.size + 1, #[.string ⟨#[]⟩], 9), (w.heap.size, #[.string ⟨#[97]⟩], 9)] (fun _ => True) W
def StGetX (w : World) (s : Option Addr) (cap : Nat) (c : Code) (pre : List Lab) (W : World) : Prop := c = Code.ret ∧ St w [(w.heap.size + 1 + 1 + 1, #[.slice s 1 cap], 161), (w.heap.size + 1 + 1, #[.bool true], 4), (w.heap.size + 1, #[.string ⟨#[120]⟩], 9), (w.heap.size, #[.string ⟨#[97]⟩], 9)] (fun _ => True) W
attribute [local go_sem] Oper.semAt_some
set_option maxHeartbeats 1000000 in
theorem get_ax (s : Option Addr) (cap : Nat) (w : World) (hL : Rd 2 encL w s [labAX]) : Calls Tryz.prog 200 #[.slice s 1 cap, .string ⟨#[97]⟩] w fun e w' => e = .returned (.tuple #[.string ⟨#[120]⟩, .bool true]) ∧ Below w.heap.size w w' := by
  have hL' := Lib.hid hL
  have st0 := ((((St.start w).alloc (cs := #[.string ⟨#[97]⟩]) (T := 9)).alloc (cs := #[.string ⟨#[]⟩]) (T := 9)).alloc (cs := #[.bool false]) (T := 4)).alloc (cs := #[.slice s 1 cap]) (T := 161)
  simp only [World.size_alloc] at st0
  refine (callsIn_wide (n := 5)).1 ?_
  refine callsIn_of_wp_marks Tryz.func200 rfl trivial ?_ rfl
  simp only [Tryz.ntmps200, List.size_toArray, List.length_cons, List.length_nil, Nat.reduceAdd, Nat.reduceSub, Array.replicate_succ, Array.replicate_zero, List.push_toArray, List.append_toArray, List.nil_append, List.cons_append]
  refine wpIn_wide.2 ?_
  go_wp2_with fail
  have hz1 : (((w.alloc (.cells #[.string ⟨#[97]⟩] 9)).alloc (.cells #[.string ⟨#[]⟩] 9)).alloc (.cells #[.bool false] 4)).heap.size = w.heap.size + 1 + 1 + 1 := by simp
  have HZ1 := Lib.hid hz1
  clear hz1
  generalize ((w.alloc (.cells #[.string ⟨#[97]⟩] 9)).alloc (.cells #[.string ⟨#[]⟩] 9)).alloc (.cells #[.bool false] 4) = w1 at *
  refine (eachL_any s 1 cap w1).mono ?_
  rintro e w2 ⟨rfl, rfl⟩
  rw [HZ1.out]
  go_wp2_with fail
  have hz2 : (w1.alloc (.cells #[.slice s 1 cap] 161)).heap.size = w.heap.size + 1 + 1 + 1 + 1 := by simp; exact HZ1.out
  generalize w1.alloc (.cells #[.slice s 1 cap] 161) = w2 at *
  have hw2 : w.heap.size ≤ w2.heap.size := by omega
  have hlie : LieB [(w.heap.size + 1 + 1 + 1, #[.slice s 1 cap], 161)] w2 := fun x hx => st0.blk x (by simp at hx; rcases hx with rfl; simp)
  have stc : StGet w s cap [] w2 := ⟨rfl, st0⟩
  have hr2 := hL.keepB (Nat.le_refl _) st0.below
  refine (wpIn_wide (n := 5)).1 (wpIn_rangeFunc_w (n := 5) (b := none) (fun _ e => by cases e) rfl (by omega) (gf := 197) (lb := #[.pointer (some ⟨w.heap.size + 1 + 1 + 1, 0, none⟩)]) rfl trivial (enters_of Tryz.func197 (by kernel_rfl) rfl)
    (fun W hb => valsL_seq [(w.heap.size + 1 + 1 + 1, #[.slice s 1 cap], 161)] (w.heap.size + 1 + 1 + 1) [labAX] (by simp) s cap (by simp) 4 (by omega) W (hlie.below hb) (hr2.keepB (Nat.le_refl _) hb)) (fun h k => ⟨fun x hx => (k.1 x hx).trans (h.1 x hx), fun r => k.2 (h.2 r)⟩) ?kb (fun _ => rfl)
    (StGet w s cap) (StGetX w s cap)
    (fun _ _ _ _ h hg hr => ⟨h.1, St.own h.2 hg hr hw2⟩) (fun c _ _ _ _ h hg hr => ⟨h.1, St.own h.2 hg hr hw2⟩)
    (fun _ _ _ h hg => ⟨h.1, St.grown h.2 hg (fun k e => by cases e)⟩) (fun c _ _ _ h hg => ⟨h.1, St.grown h.2 hg (fun k e => by cases e)⟩) stc
    (fun x c => { tmps := #[.slice s 1 cap, .string ⟨#[97]⟩, undef, .pointer (some ⟨w.heap.size, 0, none⟩), .pointer (some ⟨w.heap.size + 1, 0, none⟩), .pointer (some ⟨w.heap.size + 1 + 1, 0, none⟩), .pointer (some ⟨c, 0, none⟩), .slice s 1 cap, .func (.func 197) #[] #[.pointer (some ⟨w.heap.size + 1 + 1 + 1, 0, none⟩)], labV x, undef, undef, undef, undef, undef, undef], defers := [] })
    (fun x c W => AxT w x c W) (fun x c => AxT.own w x c _) ?assign ?body ?done ?stop)
  case kb =>
    intro W l' o' hl' hlt
    refine ⟨fun x hx => ?_, fun r => ?_⟩
    · simp at hx
      subst hx
      exact World.putObj_heap_other (by show w.heap.size + 1 + 1 + 1 ≠ _; omega)
    · intro i x hx
      obtain ⟨g0, o0, e0, hg0, _⟩ := hr2 i x hx
      obtain ⟨g, o, e, hg, hc⟩ := r i x hx
      rw [e0] at e
      cases e
      refine ⟨g0, o0, e0, by simpa [World.putObj] using hg, fun j u hu => ?_⟩
      rw [← hc j u hu]
      simp only [World.cell?, World.putObj_heap_other (show g0 ≠ l' by omega)]
  case assign =>
    intro l' pre x W K hI hP hK
    have hal := Below.alloc (Below.refl W.heap.size W) (Nat.le_refl _) (.cells #[.string x.name, .string x.val] 229)
    have HK := Lib.hid (hK W.heap.size (W.alloc (.cells #[.string x.name, .string x.val] 229)) (keepsOthers_below hal) ⟨fun y hy => by
        simp at hy
        subst hy
        have := blk_lt (hI.2.blk (w.heap.size + 1 + 1 + 1, #[.slice s 1 cap], 161) (by simp))
        exact hal.block _ this, fun r => r.keepB (Nat.le_refl _) hal⟩ ⟨hI.1, hI.2.to hal⟩ ⟨by simpa using hP, hI.2.below.size, World.alloc_heap_new W _⟩)
    clear hK
    gi_wp2_with fail
    exact HK.out
  case body =>
    rintro l' pre x c W ⟨_, stI⟩ ⟨rfl, hcw, hc⟩ hN
    have hc0 := blk_cell hc
    have rl := stI.rules
    simp only [Rules] at rl
    clear hc hL hr2 hlie stc st0
    gi_wp2_with fail
    have st5 := stI.setT 2 (A := w.heap.size + 1) rfl (o := 0) (v := .string ⟨#[120]⟩) (by omega)
    simp only [setB, List.modify_succ_cons, List.modify_zero_cons, List.setIfInBounds_toArray, List.set_cons_zero, List.set_cons_succ] at st5
    have st6 := st5.setT 1 (A := w.heap.size + 1 + 1) rfl (o := 0) (v := .bool true) (by omega)
    simp only [setB, List.modify_succ_cons, List.modify_zero_cons, List.setIfInBounds_toArray, List.set_cons_zero, List.set_cons_succ] at st6
    exact ⟨(KeepsOthers.setCell W ⟨w.heap.size + 1, 0, none⟩ (.string ⟨#[120]⟩)).trans (KeepsOthers.setCell _ ⟨w.heap.size + 1 + 1, 0, none⟩ (.bool true)), rfl, st6⟩
  case done =>
    rintro D xs W hD rfl ⟨h, _⟩ hK
    cases h
  case stop =>
    rintro D c pre W hD hp ⟨rfl, st9⟩ hK
    have rl := st9.rules
    simp only [Rules] at rl
    refine wpIn_wide.2 ?_
    go_wp2_with fail
    have hg9 : ∀ o', St w [(w.heap.size + 1 + 1 + 1, #[.slice s 1 cap], 161), (w.heap.size + 1 + 1, #[.bool true], 4), (w.heap.size + 1, #[.string ⟨#[120]⟩], 9), (w.heap.size, #[.string ⟨#[97]⟩], 9)] (fun _ => True) (W.putObj D o') := fun o' => st9.own (base := w.heap.size) (grownBy_putObj' W D o') (fun r e => by cases e; exact ⟨by omega, _, hK, rfl⟩) (Nat.le_refl _)
    have rl9 := fun o' => (hg9 o').rules
    simp only [Rules] at rl9
    refine ⟨by simp, .inl ⟨_, _, rfl, run_takeDeferred hK, ?_⟩⟩
    exact ⟨_, by simp [results, Tryz.results200, go_sem, rl9], rfl, (hg9 _).below⟩
end Go.Proofs.YtmgdbfmlnmahpaaGreatDoor
namespace Go.Proofs.YtmgdbfmlnmahpaaGreatDoor
open Go.RowKit Go.Shelf
set_option linter.unusedSimpArgs false
set_option linter.unusedVariables false
set_option maxRecDepth 100000
theorem plMap : Tryz.prog.underlying 381 = some (.map 3 318) := Tryz.underlying381
theorem plZero (w : World) : (zeroValue 318).run Tryz.prog w = .ok (.agg #[]) w := by kernel_rfl
abbrev PMap (W : World) (m n : Nat) (D : DataW Unit) : Prop := W.ownsMap Tryz.prog 3 unitElem m n D
def plD (k : Int) : DataW Unit := (DataW.map []).put (.int .i64 k) (.agg [])
@[go_sem] theorem ta_any (v : Value) (w : World) : (Instr.typeAssert (.iface 317 v) 410 319 true).run Tryz.prog w = .ok (.tuple #[.agg #[], .bool false]) w := by kernel_rfl
@[go_sem] theorem ta_one (v : Value) (w : World) : (Instr.typeAssert (.iface 317 v) 410 320 true).run Tryz.prog w = .ok (.tuple #[.agg #[], .bool false]) w := by kernel_rfl
@[go_sem] theorem ta_that (v : Value) (w : World) : (Instr.typeAssert (.iface 317 v) 410 317 false).run Tryz.prog w = .ok v w := by kernel_rfl
@[go_sem] theorem fld_that (c : Int) (w : World) : (Instr.field 317 (.agg #[.int .i32 c]) 0).run Tryz.prog w = .ok (.int .i32 c) w := by kernel_rfl
theorem isAny_that (c : Int) (w : World) : Calls Tryz.prog 236 #[.iface 317 (.agg #[.int .i32 c])] w fun e w' => e = .returned (.bool false) ∧ w' = w := by
  go_enter Tryz.func236, Tryz.ntmps236
  go_wp2_with fail
  go_ret
  exact ⟨rfl, rfl⟩
theorem isFor_that (w : World) : Calls Tryz.prog 237 #[.iface 317 (.agg #[.int .i32 120]), .int .i32 120] w fun e w' => e = .returned (.bool true) ∧ Below w.heap.size w w' := by
  go_enter Tryz.func237, Tryz.ntmps237
  go_wp2_with fail
  exact bodyPost_ret (v := .bool true) (by simp [results, Tryz.results237, go_sem]) rfl ⟨rfl, (Below.refl _ _).alloc (Nat.le_refl _) _⟩
theorem plPut0 (m n : Nat) (D : DataW Unit) (hn : n ≤ 100) (g o cap : Nat) (w : World) (hM : PMap w m n D) (hc : w.cell? ⟨g, o, none⟩ = some (.iface 317 (.agg #[.int .i32 120]))) (hgm : g ≠ m) : Calls Tryz.prog 226 #[.map (some m), .slice (some ⟨g, o, none⟩) 1 cap, .int .i64 0] w fun e w' => e = .returned (.tuple #[]) ∧ PMap w' m (n + 1) (D.put (.int .i64 0) (.agg [])) ∧ w.grownBy w' (some m) := by
  obtain ⟨w1, h1, o1, g1⟩ := hM.update intKeyed plMap (by unfold maxLen; omega) (keyI 0 (by decide) (by decide)) (val := .agg #[]) unitElem_mk
  have hc1 : w1.cell? ⟨g, o, none⟩ = some (.iface 317 (.agg #[.int .i32 120])) := by
    rw [← hc]
    simp only [World.cell?, g1.block g (World.block_lt_of_cell? w _ hc) (by simpa using hgm)]
  have O := Lib.hid (And.intro o1 g1)
  clear hM o1 g1 hc
  go_enter Tryz.func226, Tryz.ntmps226
  go_wp2_with fail
  refine wp_loop_rounds 1 ?_
  rw [rounds_succ]
  go_wp2_with fail
  refine (isAny_that 120 _).mono ?_
  rintro e w2 ⟨rfl, hw2⟩
  subst hw2
  go_wp2_with fail
  first | go_end0 | refine bodyPost_ret (results_none rfl _ _ _) rfl ?_
  exact ⟨rfl, O.out⟩
theorem plPut1 (m n : Nat) (D : DataW Unit) (hn : n ≤ 100) (s : Option Addr) (cap : Nat) (w : World) (hM : PMap w m n D) : Calls Tryz.prog 226 #[.map (some m), .slice s 1 cap, .int .i64 1] w fun e w' => e = .returned (.tuple #[]) ∧ PMap w' m (n + 1) (D.put (.int .i64 1) (.agg [])) ∧ w.grownBy w' (some m) := by
  obtain ⟨w1, h1, o1, g1⟩ := hM.update intKeyed plMap (by unfold maxLen; omega) (keyI 1 (by decide) (by decide)) (val := .agg #[]) unitElem_mk
  have O := Lib.hid (And.intro o1 g1)
  clear hM o1 g1
  go_enter Tryz.func226, Tryz.ntmps226
  go_wp2_with fail
  refine wp_loop_rounds 1 ?_
  rw [rounds_succ]
  go_wp2_with fail
  first | go_end0 | refine bodyPost_ret (results_none rfl _ _ _) rfl ?_
  exact ⟨rfl, O.out⟩
theorem has_plD (k : Int) (z : Int) (h : Maps.has (plD k) (.int .i64 z) = true) : z = k := by
  have h' : ([((Lit.int .i64 k : Lit), (DataW.agg [] : DataW Unit))] : List (Lit × DataW Unit)).any (fun p => p.1.sameKey (.int .i64 z)) = true := h
  simp [Lit.sameKey] at h'
  exact h'.symm
theorem ranges_same {W W' : World} {b r n : Nat} {D : DataW Unit} {left : Lit → Bool} {cnt : Nat} (h : W.ranges Tryz.prog 3 unitElem b r n D left cnt) (hb : W'.heap[b]? = W.heap[b]?) (hr : W'.heap[r]? = W.heap[r]?) : W'.ranges Tryz.prog 3 unitElem b r n D left cnt := by
  obtain ⟨es, clock, since, seen, c0, h1, h2, h3, h4, h5, h6, h7, h8, h9, h10, h11⟩ := h
  exact ⟨es, clock, since, seen, c0, hb.trans h1, h2, h3, h4, hr.trans h5, h6, h7, h8, h9, h10, h11⟩
theorem ranges_lt {W : World} {b r n : Nat} {D : DataW Unit} {left : Lit → Bool} {cnt : Nat} (h : W.ranges Tryz.prog 3 unitElem b r n D left cnt) : b < W.heap.size ∧ r < W.heap.size := by
  obtain ⟨es, clock, since, seen, c0, h1, h2, h3, h4, h5, h6⟩ := h
  exact ⟨blk_lt h1, blk_lt h5⟩
set_option maxHeartbeats 1000000 in
theorem behind_x (m n : Nat) (g o cap : Nat) (w : World) (hM : PMap w m n (plD 0)) (hg : g < w.heap.size) (hc : w.cell? ⟨g, o, none⟩ = some (.iface 317 (.agg #[.int .i32 120]))) : Calls Tryz.prog 227 #[.map (some m), .slice (some ⟨g, o, none⟩) 1 cap, .int .i32 120] w fun e w' => ∃ m', e = .returned (.map (some m')) ∧ PMap w' m' 1 (plD 1) ∧ Below w.heap.size w w' := by
  have hmm := @run_makeMap Tryz.prog
  have o0 := World.ownsMap_made w Tryz.prog 3 (unitElem (H := Unit))
  have hM1 : PMap (w.alloc (.map #[] 0)) m n (plD 0) := World.ownsMap.alloc hM _
  have b0 := (Below.refl w.heap.size w).alloc (Nat.le_refl _) (.map #[] 0)
  have hz0 : (w.alloc (.map #[] 0)).heap.size = w.heap.size + 1 := by simp
  have hmw : m < w.heap.size := hM.lt
  go_enter Tryz.func227, Tryz.ntmps227
  go_wp2_with (first
    | (at_range; refine wpList_range_own _ rfl _ 381 rfl 3 318 intKeyed plMap _ m n _ rfl hM1 ?_; intro w2 hrg2 hg2 hs2)
    | fail)
  rw [hz0] at hrg2 hs2
  have o2 : PMap w2 w.heap.size 0 (.map []) := o0.kept hg2 (by simp)
  have b2 := b0.grown hg2 b0.size (fun k e => by cases e)
  have hc2 : w2.cell? ⟨g, o, none⟩ = some (.iface 317 (.agg #[.int .i32 120])) := (b2.cell (p := ⟨g, o, none⟩) hg).trans hc
  clear o0 hM1 b0 hg2 hM hc hmm
  go_frame
  simp only [World.size_alloc]
  clear hz0
  refine wp_loop_rounds 2 ?_
  rw [rounds_succ]
  go_wp2_with (first
    | (at_next; refine wpList_next_ranges _ rfl _ rfl 3 intKeyed unitElem (Value.int .i64) (fun _ : Unit => Value.agg #[]) (fun key kl hkey => by obtain ⟨x, rfl, _⟩ := Maps.keyOf_int_inv Tryz.underlying3 hkey; exact ⟨x, rfl⟩) (fun v y hv => ⟨(), (unitElem_inv hv).1⟩) m (w.heap.size + 1) n _ _ _ rfl hrg2 ?_ ?_)
    | fail)
  · intro h0 _
    exact absurd h0 (by decide)
  · intro x c kl y w3 cnt3 hkey hleft hv hat hrg3 hlt hg3 hs3 hen
    obtain ⟨x', ex, rfl, hwx⟩ := Maps.keyOf_int_inv Tryz.underlying3 hkey
    cases ex
    obtain rfl := has_plD 0 x hleft
    have hc3 : w3.cell? ⟨g, o, none⟩ = some (.iface 317 (.agg #[.int .i32 120])) := by
      rw [← hc2]
      simp only [World.cell?, hg3.block g (by omega) (by simp; omega)]
    have o3 : PMap w3 w.heap.size 0 (.map []) := o2.kept hg3 (by simp)
    have b3 := b2.grown hg3 b2.size (fun k e => by cases e; omega)
    have HH := Lib.hid (And.intro hrg3 (And.intro o3 b3))
    clear hrg2 hkey hleft hv hat hrg3 hg3 o2 o3 b2 b3 hc2 hwx
    go_wp2_with fail
    refine (isAny_that 120 _).mono ?_
    rintro e w4 ⟨rfl, hw4⟩
    subst hw4
    go_wp2_with fail
    refine (isFor_that _).mono ?_
    rintro e w5 ⟨rfl, hb5⟩
    have HB5 := Lib.hid hb5
    clear hb5 hen hc3
    go_wp2_with fail
    have o5 : PMap w5 w.heap.size 0 (.map []) := HH.out.2.1.kept (grownBy_ofBelow HB5.out none) (by simp)
    refine (plPut1 w.heap.size 0 (.map []) (by omega) _ _ w5 o5).mono ?_
    rintro e w6 ⟨rfl, o6, g6⟩
    have b6 := (HH.out.2.2.trans (HB5.out.mono HH.out.2.2.size)).grown g6 (Nat.le_trans HH.out.2.2.size HB5.out.size) (fun k e => by cases e; exact Nat.le_refl _)
    have hl3 := ranges_lt HH.out.1
    have hrg6 := ranges_same HH.out.1 ((g6.block m (Nat.lt_of_lt_of_le hl3.1 HB5.out.size) (by simp; omega)).trans (HB5.out.block m hl3.1)) ((g6.block (w.heap.size + 1) (Nat.lt_of_lt_of_le hl3.2 HB5.out.size) (by simp)).trans (HB5.out.block _ hl3.2))
    have HO := Lib.hid (And.intro o6 b6)
    clear o5 o6 g6 b6
    go_wp2_with fail
    rw [rounds_succ]
    go_wp2_with (first
      | (at_next; refine wpList_next_ranges _ rfl _ rfl 3 intKeyed unitElem (Value.int .i64) (fun _ : Unit => Value.agg #[]) (fun key kl hkey => by obtain ⟨x, rfl, _⟩ := Maps.keyOf_int_inv Tryz.underlying3 hkey; exact ⟨x, rfl⟩) (fun v y hv => ⟨(), (unitElem_inv hv).1⟩) m (w.heap.size + 1) n _ _ _ rfl hrg6 ?_ ?_)
      | fail)
    · intro _ _
      clear hrg6
      go_wp2_with fail
      go_ret
      exact ⟨w.heap.size, rfl, HO.out.1, HO.out.2⟩
    · intro x c kl y w7 cnt7 hkey hleft hv hat hrg7 hlt hg7 hs7 hen
      exfalso
      obtain ⟨x', ex, rfl, hwx⟩ := Maps.keyOf_int_inv Tryz.underlying3 hkey
      cases ex
      rw [has_plD 0 x hleft] at hv
      exact absurd hv (by decide)
set_option maxHeartbeats 1000000 in
theorem fits_x (w : World) : Calls Tryz.prog 201 #[.string ⟨#[120]⟩, .string ⟨#[120]⟩] w fun e w' => e = .returned (.bool true) ∧ Below w.heap.size w w' := by
  have hmm := @run_makeMap Tryz.prog
  go_enter Tryz.func201, Tryz.ntmps201
  go_wp2_with fail
  refine wp_scope_straight ?_
  go_wp2_with fail
  refine (signs_x _).mono ?_
  rintro e w1 ⟨⟨ds, dc⟩, rfl, hd, hb1⟩
  obtain ⟨g, o, hds, hg1, hcc⟩ := hd.rd 0 _ rfl
  have hc1 : w1.cell? ⟨g, o, none⟩ = some (.iface 317 (.agg #[.int .i32 120])) := hcc 0 _ rfl
  simp only at hds
  subst hds
  simp only [Hd.v]
  clear hd hcc
  go_wp2_with fail
  refine (runes_x _).mono ?_
  rintro e w2 ⟨rfl, hb2⟩
  have hc2 : w2.cell? ⟨g, o, none⟩ = some (.iface 317 (.agg #[.int .i32 120])) := (hb2.cell (p := ⟨g, o, none⟩) hg1).trans hc1
  have hg2 := Nat.lt_of_lt_of_le hg1 hb2.size
  have B2 := hb1.trans (hb2.mono hb1.size)
  have o0 := World.ownsMap_made w2 Tryz.prog 3 (unitElem (H := Unit))
  have b0 := (Below.refl w2.heap.size w2).alloc (Nat.le_refl _) (.map #[] 0)
  have hc3 : (w2.alloc (.map #[] 0)).cell? ⟨g, o, none⟩ = some (.iface 317 (.agg #[.int .i32 120])) := (b0.cell (p := ⟨g, o, none⟩) hg2).trans hc2
  have HP := Lib.hid (plPut0 w2.heap.size 0 (.map []) (by omega) g o dc _ o0 hc3 (by omega))
  clear hc1 hb1 hb2 o0
  go_wp2_with fail
  refine HP.out.mono ?_
  rintro e w3 ⟨rfl, o3, g3⟩
  have b3 := b0.grown g3 b0.size (fun k e => by cases e; exact Nat.le_refl _)
  have hc4 : w3.cell? ⟨g, o, none⟩ = some (.iface 317 (.agg #[.int .i32 120])) := (b3.cell (p := ⟨g, o, none⟩) hg2).trans hc2
  have B3 := B2.trans (b3.mono B2.size)
  have hal : Below w3.heap.size w3 (w3.iter ⟨#[120]⟩ 0) := (Below.refl w3.heap.size w3).alloc (Nat.le_refl _) (.stringIter ⟨#[120]⟩ 0)
  have hI0 := World.iter_heap w3 ⟨#[120]⟩ 0
  have hgm : w2.heap.size < w3.heap.size := o3.lt
  have hgk : g < w3.heap.size := by omega
  have oI : PMap (w3.iter ⟨#[120]⟩ 0) w2.heap.size (0 + 1) (plD 0) := World.ownsMap.kept o3 (grownBy_ofBelow hal none) (by simp)
  have hcI : (w3.iter ⟨#[120]⟩ 0).cell? ⟨g, o, none⟩ = some (.iface 317 (.agg #[.int .i32 120])) := (hal.cell (p := ⟨g, o, none⟩) hgk).trans hc4
  have BI := B3.trans (hal.mono B3.size)
  have hkw : w.heap.size ≤ w3.heap.size := B3.size
  have HZ := Lib.hid hal.size
  clear hc2 hc3 HP o3 g3 b3 hc4 B3 B2 b0 hal
  go_wp2_with fail
  refine wp_label ?_
  go_wp2_with fail
  generalize w3.iter ⟨#[120]⟩ 0 = v0 at *
  have HZ2 := Lib.hid hgm
  have HZ3 := Lib.hid hg2
  generalize w3.heap.size = k at *
  generalize w2.heap.size = m at *
  have hgm' : g < m := HZ3.out
  have hmk : m < k := HZ2.out
  clear hgm hg2
  refine wp_loop_rounds 2 ?_
  have hn := Lib.run_next_ascii_at (P := Tryz.prog) v0 k ⟨#[120]⟩ 0 0 hI0 (by decide) (by decide)
  change (Instr.next _ true 0).run Tryz.prog v0 = .ok (.tuple #[.bool true, .int .i64 0, .int .i32 120]) (v0.iterAt k ⟨#[120]⟩ 1) at hn
  rw [rounds_succ]
  go_wp2_with fail
  have oJ : PMap (v0.iterAt k ⟨#[120]⟩ 1) m (0 + 1) (plD 0) := World.ownsMap.kept (row := some k) oI ⟨rfl, rfl, rfl, by rw [Lib.iterAt_size]; exact Nat.le_refl _, fun j _ hj => Lib.iterAt_other v0 k j ⟨#[120]⟩ 1 (fun e => hj (by rw [e]))⟩ (by simp; omega)
  have hcJ : (v0.iterAt k ⟨#[120]⟩ 1).cell? ⟨g, o, none⟩ = some (.iface 317 (.agg #[.int .i32 120])) := by
    rw [← hcI]
    simp only [World.cell?, Lib.iterAt_other v0 k g ⟨#[120]⟩ 1 (by omega)]
  have hIJ := Lib.iterAt_heap v0 k ⟨#[120]⟩ 0 1 hI0
  have BJ := Lib.below_iterAt BI hkw ⟨#[120]⟩ 1
  have hgJ : g < (v0.iterAt k ⟨#[120]⟩ 1).heap.size := by rw [Lib.iterAt_size]; have := HZ.out; omega
  clear hn oI hcI hI0 BI
  generalize v0.iterAt k ⟨#[120]⟩ 1 = u0 at *
  refine (behind_x m (0 + 1) g o dc u0 oJ hgJ hcJ).mono ?_
  rintro e w6 ⟨m6, rfl, o6, b6⟩
  have hI6 := (b6.block k (blk_lt hIJ)).trans hIJ
  have B6 := BJ.trans (b6.mono BJ.size)
  have hsz : Maps.size (plD 1) = 1 := rfl
  obtain ⟨v, ps, hlk, -⟩ := World.ownsMap.look_ok o6 intKeyed plMap (plZero _) (zp := []) unitElem_mk (keyI 1 (by decide) (by decide))
  rw [show Maps.has (plD 1) (.int .i64 1) = true from rfl] at hlk
  have hne := Lib.run_next_end_at (P := Tryz.prog) w6 k ⟨#[120]⟩ 1 0 hI6 (by decide)
  clear oJ hcJ hIJ b6 BJ hgJ hI6
  go_wp2_with (first
    | (at_len; refine wpList_len_own _ rfl _ 381 rfl 3 318 plMap _ m6 1 _ rfl o6 ?_)
    | fail)
  rw [rounds_succ]
  go_wp2_with fail
  rw [Exit.noGoto_ret]
  go_ret
  exact ⟨rfl, B6⟩
end Go.Proofs.YtmgdbfmlnmahpaaGreatDoor
namespace Go.Proofs.YtmgdbfmlnmahpaaGreatDoor
open Go.RowKit Go.Shelf
set_option linter.unusedSimpArgs false
set_option linter.unusedVariables false
set_option maxRecDepth 100000
theorem scRight_ax (w : World) : Calls Tryz.prog 31 #[.string ⟨#[97, 61, 120]⟩] w fun e w' => e = .returned (.bool true) ∧ Below w.heap.size w w' := by
  go_enter Tryz.func31, Tryz.ntmps31
  go_wp2_with fail
  refine (scRead_ax _).mono ?_
  rintro e w1 ⟨d, rfl, _, hb⟩
  go_wp2_with fail
  go_ret
  exact ⟨rfl, hb⟩
set_option maxHeartbeats 1000000 in
theorem scMeans_ax (s : Option Addr) (cap : Nat) (w : World) (hL : Rd 2 encL w s [labAX]) : Calls Tryz.prog 165 #[.string ⟨#[97, 61, 120]⟩, .slice s 1 cap] w fun e w' => e = .returned (.tuple #[.bool true, .int .i64 0]) ∧ Below w.heap.size w w' := by
  have HL := Lib.hid hL
  clear hL
  go_enter Tryz.func165, Tryz.ntmps165
  go_wp2_with fail
  refine (scRead_ax _).mono ?_
  rintro e w1 ⟨⟨ds, dc⟩, rfl, hd, hb1⟩
  simp only [Hd.v]
  have HD := Lib.hid hd
  clear hd
  go_wp2_with fail
  refine (lbRight_one ⟨#[120]⟩ isValue_x s cap _ (HL.out.keepB (Nat.le_refl _) hb1)).mono ?_
  rintro e w2 ⟨rfl, hb2⟩
  have B2 := hb1.trans (hb2.mono hb1.size)
  have hd2 := HD.out.keepB hb2
  obtain ⟨g, o, hds, hg, hc⟩ := hd2.rd 0 _ rfl
  have hc0 : w2.cell? ⟨g, o, none⟩ = some (.string ⟨#[97]⟩) := hc 0 _ rfl
  have hc1 : w2.cell? ⟨g, o + 1, none⟩ = some (.string ⟨#[120]⟩) := hc 1 _ rfl
  simp only at hds
  subst hds
  clear hb1 hb2 hd2 hc HD
  have HB2 := Lib.hid B2
  have st := (St.start w2).alloc (cs := #[.string ⟨#[97]⟩, .string ⟨#[120]⟩]) (T := 184)
  have hal := (Below.refl w2.heap.size w2).alloc (Nat.le_refl _) (.cells #[.string ⟨#[97]⟩, .string ⟨#[120]⟩] 184)
  have HG := Lib.hid (get_ax s cap _ ((HL.out.keepB (Nat.le_refl _) B2).keepB (Nat.le_refl _) hal))
  clear B2
  go_wp2_with fail
  refine wp_loop_rounds 2 ?_
  rw [rounds_succ]
  go_wp2_with fail
  refine HG.out.mono ?_
  rintro e w3 ⟨rfl, hb3⟩
  have st3 := st.to hb3
  have rl := st3.rules
  simp only [Rules] at rl
  clear hc0 hc1 hg st hb3 HG
  go_wp2_with fail
  refine (fits_x _).mono ?_
  rintro e w4 ⟨rfl, hb4⟩
  have st4 := st3.to hb4
  clear rl st3 hb4
  go_wp2_with fail
  rw [rounds_succ]
  go_wp2_with fail
  go_ret2
  exact ⟨rfl, HB2.out.trans (st4.below.mono HB2.out.size)⟩
theorem scOk_ax : ScOk ⟨#[97, 61, 120]⟩ := ⟨scRight_ax, scMeans_ax⟩
end Go.Proofs.YtmgdbfmlnmahpaaGreatDoor
