/- A part of the proof of TopCounts. -/
import Derived.Test.YtmgdbfmlnmahpaaGreatDoorG27
namespace Go.Proofs.YtmgdbfmlnmahpaaGreatDoor
open Go.RowKit Go.Shelf
set_option linter.unusedSimpArgs false
set_option linter.unusedVariables false
set_option maxRecDepth 100000
theorem ckAdvance_any (a b : Nat) (h : a ≤ b) (w : World) : Calls Tryz.prog 98 #[.int .u64 (a : Int), .int .u64 (b : Int)] w fun e w' => e = .returned (.tuple #[.int .u64 (b : Int), .int .i64 0]) ∧ w' = w := by
  have hn : decide ((b : Int) < (a : Int)) = false := by simp; omega
  go_enter Tryz.func98, Tryz.ntmps98
  go_wp2_with fail
  go_ret2
  exact ⟨rfl, rfl⟩
set_option maxHeartbeats 1000000 in
theorem ckStale_any (now ttl sn : Nat) (h : now ≤ sn) (c0 c1 c2 c3 c4 c5 c6 c7 c8 c9 c10 : Value) (w : World) : Calls Tryz.prog 180 #[.agg #[c0, c1, c2, c3, c4, c5, c6, c7, c8, c9, c10, .int .u64 (sn : Int)], .int .u64 (now : Int), .int .u64 (ttl : Int)] w fun e w' => e = .returned (.bool false) ∧ Below w.heap.size w w' := by
  have hn : decide ((sn : Int) < (now : Int)) = false := by simp; omega
  have st0 := (St.start w).alloc (cs := #[c0, c1, c2, c3, c4, c5, c6, c7, c8, c9, c10, .int .u64 (sn : Int)]) (T := 167)
  go_enter Tryz.func180, Tryz.ntmps180
  go_wp2_with fail
  go_ret
  exact ⟨rfl, st0.below⟩
set_option maxHeartbeats 1000000 in
theorem wStale_any (now ttl sn : Nat) (h : now ≤ sn) (c0 c1 c2 c3 c4 c5 c6 c7 c8 c9 c10 : Value) (w : World) : Calls Tryz.prog 143 #[.agg #[.int .u64 (now : Int), .int .u64 (ttl : Int)], .agg #[c0, c1, c2, c3, c4, c5, c6, c7, c8, c9, c10, .int .u64 (sn : Int)]] w fun e w' => e = .returned (.bool false) ∧ Below w.heap.size w w' := by
  have HS := Lib.hid (fun W => ckStale_any now ttl sn h c0 c1 c2 c3 c4 c5 c6 c7 c8 c9 c10 W)
  have st0 := ((St.start w).alloc (cs := #[.int .u64 (now : Int), .int .u64 (ttl : Int)]) (T := 280)).alloc (cs := #[c0, c1, c2, c3, c4, c5, c6, c7, c8, c9, c10, .int .u64 (sn : Int)]) (T := 167)
  simp only [World.size_alloc] at st0
  clear h
  go_enter Tryz.func143, Tryz.ntmps143
  go_wp2_with fail
  refine (HS.out _).mono ?_
  rintro e w1 ⟨rfl, hb1⟩
  have st1 := st0.to hb1
  go_wp2_with fail
  go_ret
  exact ⟨rfl, st1.below⟩
theorem ixFunc0 (v : Value) (s : Option Addr) (cap : Nat) (w : World) : Calls Tryz.prog 179 #[.slice s 0 cap, v] w fun e w' => e = .returned (.int .i64 (-1)) ∧ w' = w := by
  go_enter Tryz.func179, Tryz.ntmps179
  go_wp2_with fail
  refine wp_loop_rounds 1 ?_
  rw [rounds_succ]
  go_wp2_with fail
  go_ret
  exact ⟨rfl, rfl⟩
set_option maxHeartbeats 1000000 in
theorem ixFunc1 (now ttl : Nat) (t : Hd) (x : Sk) (sn : Nat) (hn : now ≤ sn) (l : Hd) (h : SkH) (w : World) (hT : Tab1 w t x sn l h) : Calls Tryz.prog 179 #[.slice t.s 1 t.cap, .func (.func 143) #[.agg #[.int .u64 (now : Int), .int .u64 (ttl : Int)]] #[]] w fun e w' => e = .returned (.int .i64 (-1)) ∧ Below w.heap.size w w' := by
  obtain ⟨g, o, hts, hE⟩ := hT.at
  obtain ⟨ts, tc⟩ := t
  obtain ⟨ls, lc⟩ := l
  obtain ⟨⟨es, ec⟩, ⟨cs, cc⟩, ⟨gs, gc⟩⟩ := h
  simp only at hts hE
  subst hts
  have tce := hE
  unfold TabE at tce
  change Calls Tryz.prog 179 #[.slice (some ⟨g, o, none⟩) 1 tc, .func (.func 143) #[.agg #[.int .u64 (now : Int), .int .u64 (ttl : Int)]] #[]] w _
  have HS := Lib.hid (fun W => wStale_any now ttl sn hn (.slice ls 1 lc) (.int .i64 x.kind) (.int .i64 0) (.slice es x.e.length ec) (.int .i64 0) (.string ⟨#[]⟩) (.int .i64 x.rows) (.int .i64 x.cols) (.slice cs x.c.length cc) (.int .i64 x.fine) (.slice gs x.g.length gc) W)
  clear hT hE hn
  go_enter Tryz.func179, Tryz.ntmps179
  go_wp2_with fail
  refine wp_loop_rounds 2 ?_
  rw [rounds_succ]
  go_wp2_with fail
  refine (HS.out _).mono ?_
  rintro e w1 ⟨rfl, hb1⟩
  clear tce
  go_wp2_with fail
  rw [rounds_succ]
  go_wp2_with fail
  go_ret
  exact ⟨rfl, hb1⟩
theorem delFunc0 (v : Value) (s : Option Addr) (cap : Nat) (w : World) : Calls Tryz.prog 141 #[.slice s 0 cap, v] w fun e w' => e = .returned (.slice s 0 cap) ∧ w' = w := by
  go_enter Tryz.func141, Tryz.ntmps141
  go_wp2_with fail
  refine (ixFunc0 _ _ _ _).mono ?_
  rintro e w1 ⟨rfl, rfl⟩
  go_wp2_with fail
  go_ret
  exact ⟨rfl, rfl⟩
theorem delFunc1 (now ttl : Nat) (t : Hd) (x : Sk) (sn : Nat) (hn : now ≤ sn) (l : Hd) (h : SkH) (w : World) (hT : Tab1 w t x sn l h) : Calls Tryz.prog 141 #[.slice t.s 1 t.cap, .func (.func 143) #[.agg #[.int .u64 (now : Int), .int .u64 (ttl : Int)]] #[]] w fun e w' => e = .returned (.slice t.s 1 t.cap) ∧ Below w.heap.size w w' := by
  have HI := Lib.hid (ixFunc1 now ttl t x sn hn l h w hT)
  clear hT hn
  generalize t.s = s at *
  generalize t.cap = cap at *
  go_enter Tryz.func141, Tryz.ntmps141
  go_wp2_with fail
  refine HI.out.mono ?_
  rintro e w1 ⟨rfl, hb1⟩
  go_wp2_with fail
  go_ret
  exact ⟨rfl, hb1⟩
theorem ckCopied0 (s : Option Addr) (cap : Nat) (w : World) : Calls Tryz.prog 142 #[.slice s 0 cap] w fun e w' => e = .returned (.slice (some ⟨w.heap.size, 0, none⟩) 0 0) ∧ Below w.heap.size w w' := by
  go_enter Tryz.func142, Tryz.ntmps142
  go_wp2_with (at_make; refine make_own (enc := encS) elemS rfl _ _ rfl 0 rfl rfl (by decide) (by decide) ?_; intro w2 hO hb2)
  refine wp_loop_rounds 1 ?_
  rw [rounds_succ]
  go_wp2_with fail
  go_ret
  exact ⟨rfl, hb2⟩
set_option maxHeartbeats 2000000 in
theorem ckCopied1 (t : Hd) (x : Sk) (sn : Nat) (l : Hd) (h : SkH) (w : World) (hT : Tab1 w t x sn l h) (hlen : x.e.length ≤ 100000 ∧ x.c.length ≤ 100000 ∧ x.g.length ≤ 100000) : Calls Tryz.prog 142 #[.slice t.s 1 t.cap] w fun e w' => ∃ v, e = .returned v ∧ GivesT w x sn v w' ∧ Below w.heap.size w w' := by
  obtain ⟨g, o, hts, hE⟩ := hT.at
  obtain ⟨ts, tc⟩ := t
  obtain ⟨ls, lc⟩ := l
  obtain ⟨⟨es, ec⟩, ⟨cs, cc⟩, ⟨gs, gc⟩⟩ := h
  simp only at hts hE
  subst hts
  change Calls Tryz.prog 142 #[.slice (some ⟨g, o, none⟩) 1 tc] w _
  have HTT := Lib.hid hT
  have HE := Lib.hid hE
  clear hE hT
  go_enter Tryz.func142, Tryz.ntmps142
  go_wp2_with (at_make; refine make_own (enc := encS) elemS rfl _ _ rfl 1 rfl rfl (by decide) (by decide) ?_; intro wm hO hbm)
  have hT := HTT.out.keepB hbm
  have tce := TabE.keep _ _ HE.out hbm
  unfold TabE at tce
  have HC0 := Lib.hid (fun W (hW : Below wm.heap.size wm W) => cloneL_any [labAX] (by decide) ⟨ls, lc⟩ W (hT.l.keepB hW))
  have HC1 := Lib.hid (fun W (hW : Below wm.heap.size wm W) => cloneU_any x.e hlen.1 ⟨es, ec⟩ W (hT.k.e.keepB hW))
  have HC2 := Lib.hid (fun W (hW : Below wm.heap.size wm W) => cloneU_any x.c hlen.2.1 ⟨cs, cc⟩ W (hT.k.c.keepB hW))
  have HC3 := Lib.hid (fun W (hW : Below wm.heap.size wm W) => cloneB_any x.g hlen.2.2 ⟨gs, gc⟩ W (hT.k.g.keepB hW))
  have HO := Lib.hid hO
  have HB := Lib.hid (And.intro hbm (And.intro (Nat.le_refl w.heap.size) hbm.size))
  have st0 := (St.start wm).alloc (cs := #[.slice ls 1 lc, .int .i64 x.kind, .int .i64 0, .slice es x.e.length ec, .int .i64 0, .string ⟨#[]⟩, .int .i64 x.rows, .int .i64 x.cols, .slice cs x.c.length cc, .int .i64 x.fine, .slice gs x.g.length gc, .int .u64 (sn : Int)]) (T := 167)
  clear hT hlen hO hbm HE
  refine wp_loop_rounds 2 ?_
  rw [rounds_succ]
  go_wp2_with fail
  refine (HC0.out _ st0.below).mono ?_
  rintro e w1 ⟨⟨lS, lC⟩, rfl, hd, hf, hb1⟩
  have hz := blk_lt (st0.blk _ (List.mem_of_getElem? (i := 0) rfl))
  have HFl := hf.mono (show wm.heap.size + 1 ≤ _ from hz)
  have HDl := Lib.hid hd
  have st1 := st0.to hb1
  have rl := st1.rules
  simp only [Rules] at rl
  try clear tce
  clear st0 hb1 hd hf hz HC0
  go_wp2_with fail
  have st0 := St.setT st1 0 (A := wm.heap.size) rfl (o := 0) (v := .slice lS 1 lC) (Nat.le_refl _)
  simp only [setB, List.modify_succ_cons, List.modify_zero_cons, List.setIfInBounds_toArray, List.set_cons_zero, List.set_cons_succ] at st0
  replace HDl := Lib.hid (HDl.out.up HFl ((KeepUp.refl _ _).set (b := wm.heap.size) (o := 0) (Nat.lt_succ_self _) (.slice lS 1 lC)))
  clear st1 rl
  refine (HC1.out _ st0.below).mono ?_
  rintro e w2 ⟨⟨eS, eC⟩, rfl, hd, hf, hb1⟩
  have hz := blk_lt (st0.blk _ (List.mem_of_getElem? (i := 0) rfl))
  have HFe := hf.mono (show wm.heap.size + 1 ≤ _ from hz)
  replace HDl := Lib.hid (HDl.out.keepB hb1)
  have HDe := Lib.hid hd
  have st1 := st0.to hb1
  have rl := st1.rules
  simp only [Rules] at rl
  clear st0 hb1 hd hf hz HC1
  go_wp2_with fail
  have st0 := St.setT st1 0 (A := wm.heap.size) rfl (o := 3) (v := .slice eS x.e.length eC) (Nat.le_refl _)
  simp only [setB, List.modify_succ_cons, List.modify_zero_cons, List.setIfInBounds_toArray, List.set_cons_zero, List.set_cons_succ] at st0
  replace HDl := Lib.hid (HDl.out.up HFl ((KeepUp.refl _ _).set (b := wm.heap.size) (o := 3) (Nat.lt_succ_self _) (.slice eS x.e.length eC)))
  replace HDe := Lib.hid (HDe.out.up HFe ((KeepUp.refl _ _).set (b := wm.heap.size) (o := 3) (Nat.lt_succ_self _) (.slice eS x.e.length eC)))
  clear st1 rl
  refine (HC2.out _ st0.below).mono ?_
  rintro e w3 ⟨⟨cS, cC⟩, rfl, hd, hf, hb1⟩
  have hz := blk_lt (st0.blk _ (List.mem_of_getElem? (i := 0) rfl))
  have HFc := hf.mono (show wm.heap.size + 1 ≤ _ from hz)
  replace HDl := Lib.hid (HDl.out.keepB hb1)
  replace HDe := Lib.hid (HDe.out.keepB hb1)
  have HDc := Lib.hid hd
  have st1 := st0.to hb1
  have rl := st1.rules
  simp only [Rules] at rl
  clear st0 hb1 hd hf hz HC2
  go_wp2_with fail
  have st0 := St.setT st1 0 (A := wm.heap.size) rfl (o := 8) (v := .slice cS x.c.length cC) (Nat.le_refl _)
  simp only [setB, List.modify_succ_cons, List.modify_zero_cons, List.setIfInBounds_toArray, List.set_cons_zero, List.set_cons_succ] at st0
  replace HDl := Lib.hid (HDl.out.up HFl ((KeepUp.refl _ _).set (b := wm.heap.size) (o := 8) (Nat.lt_succ_self _) (.slice cS x.c.length cC)))
  replace HDe := Lib.hid (HDe.out.up HFe ((KeepUp.refl _ _).set (b := wm.heap.size) (o := 8) (Nat.lt_succ_self _) (.slice cS x.c.length cC)))
  replace HDc := Lib.hid (HDc.out.up HFc ((KeepUp.refl _ _).set (b := wm.heap.size) (o := 8) (Nat.lt_succ_self _) (.slice cS x.c.length cC)))
  clear st1 rl
  refine (HC3.out _ st0.below).mono ?_
  rintro e w4 ⟨⟨gS, gC⟩, rfl, hd, hf, hb1⟩
  have hz := blk_lt (st0.blk _ (List.mem_of_getElem? (i := 0) rfl))
  have HFg := hf.mono (show wm.heap.size + 1 ≤ _ from hz)
  replace HDl := Lib.hid (HDl.out.keepB hb1)
  replace HDe := Lib.hid (HDe.out.keepB hb1)
  replace HDc := Lib.hid (HDc.out.keepB hb1)
  have HDg := Lib.hid hd
  have st1 := st0.to hb1
  have rl := st1.rules
  simp only [Rules] at rl
  clear st0 hb1 hd hf hz HC3
  have hst := (((St.start w).to HB.out.1).to (Below.setCell st1.below (p := ⟨wm.heap.size, 10, none⟩) (Nat.le_refl _) (.slice gS x.g.length gC)))
  have hbl4 := Below.setCell st1.below (p := ⟨wm.heap.size, 10, none⟩) (Nat.le_refl _) (.slice gS x.g.length gC)
  have HO2 := Lib.hid (OwnR.keep _ _ HO.out hbl4)
  have hBW : w.heap.size ≤ (w4.setCell ⟨wm.heap.size, 10, none⟩ (.slice gS x.g.length gC)).heap.size := Nat.le_trans HB.out.2.2 hbl4.size
  have hzz : w4.heap.size = (w4.setCell ⟨wm.heap.size, 10, none⟩ (.slice gS x.g.length gC)).heap.size := by simp [World.setCell]
  simp only [Hd.v]
  go_wp2_with (first | (refine wpList_buildS rfl (.tmp 44) rfl _ _ _ _ _ _ _ _ _ _ _ _ rfl ?_) | (at_builtin; refine append_oneG elemS encS_len encS_one rfl (.tmp 43) (.tmp 45) rfl w.heap.size (.slice (some ⟨w.heap.size, 0, none⟩) 0 1) ([] : List Ser) ⟨[labAX], x, sn, ⟨lS, lC⟩, ⟨⟨eS, eC⟩, ⟨cS, cC⟩, ⟨gS, gC⟩⟩⟩ rfl hst (HO2.out) HB.out.2.1 (by simp) hBW _ rfl _ rfl rfl (by simp) (by decide) ?_; intro v2 w5 ap hgr))
  go_frame
  go_wp2_with fail
  rw [rounds_succ]
  go_wp2_with fail
  have hr : ∀ k, (Value.slice (some ⟨w.heap.size, 0, none⟩) 0 1).ownBlock = some k → k < wm.heap.size + 1 := fun k e => by have := (HO.out.lt k e).2; omega
  have hku : KeepUp (wm.heap.size + 1) w4 (w4.setCell ⟨wm.heap.size, 10, none⟩ (.slice gS x.g.length gC)) := (KeepUp.refl _ _).set (Nat.lt_succ_self _) _
  obtain ⟨t', hv', ht', hft'⟩ := RdH.ownF encS_len ap.own
  have hwm := HB.out.2.2
  refine bodyPost_ret (v := v2) (by simp [results, Tryz.results142, go_sem]) rfl ⟨v2, rfl, ⟨t', ⟨lS, lC⟩, ⟨⟨eS, eC⟩, ⟨cS, cC⟩, ⟨gS, gC⟩⟩, hv', ⟨ht', ?_, ⟨?_, ?_, ?_⟩, HTT.out.ok⟩, hft', HFl.mono (by omega), ⟨HFe.mono (by omega), HFc.mono (by omega), HFg.mono (by omega)⟩⟩, ap.st.below⟩
  · exact ((HDl.out.up HFl hku).keepB ((Below.refl _ _).alloc (Nat.le_refl _) _)).grown HFl hgr hr
  · exact ((HDe.out.up HFe hku).keepB ((Below.refl _ _).alloc (Nat.le_refl _) _)).grown HFe hgr hr
  · exact ((HDc.out.up HFc hku).keepB ((Below.refl _ _).alloc (Nat.le_refl _) _)).grown HFc hgr hr
  · exact ((HDg.out.up HFg hku).keepB ((Below.refl _ _).alloc (Nat.le_refl _) _)).grown HFg hgr hr
end Go.Proofs.YtmgdbfmlnmahpaaGreatDoor
namespace Go.Proofs.YtmgdbfmlnmahpaaGreatDoor
open Go.RowKit Go.Shelf
set_option linter.unusedSimpArgs false
set_option linter.unusedVariables false
set_option maxRecDepth 100000
def IsT (B : Nat) (x : Sk) (sn : Nat) : Value → World → Prop := fun v W => ∃ (t l : Hd) (h : SkH), v = t.v 1 ∧ Tab1 W t x sn l h ∧ Fresh B t ∧ Fresh B l ∧ FreshK B h
theorem stableT (B : Nat) (x : Sk) (sn : Nat) : Stable (IsT B x sn) := fun _ _ _ ⟨t, l, h, h1, h2, h3⟩ hb => ⟨t, l, h, h1, h2.keepB hb, h3⟩
def IsT0 (B : Nat) : Value → World → Prop := fun v W => ∃ b, v = .slice (some ⟨b, 0, none⟩) 0 0 ∧ B ≤ b
theorem stableT0 (B : Nat) : Stable (IsT0 B) := fun _ _ _ h _ => h
set_option maxHeartbeats 1000000 in
theorem ckExpire0 (now ttl : Nat) (s : Option Addr) (cap : Nat) (w : World) : Calls Tryz.prog 99 #[.slice s 0 cap, .int .u64 (now : Int), .int .u64 (ttl : Int)] w fun e w' => ∃ v, e = .returned (.tuple #[v, .int .i64 0, .int .i64 0]) ∧ IsT0 w.heap.size v w' ∧ Below w.heap.size w w' := by
  have HC := Lib.hid (show ∀ W, Below w.heap.size w W → Calls Tryz.prog 142 #[.slice s 0 cap] W fun e w' => ∃ v, e = .returned v ∧ IsT0 w.heap.size v w' ∧ Below W.heap.size W w' from fun W hW => (ckCopied0 s cap W).mono fun e w' ⟨h1, h2⟩ => ⟨_, h1, ⟨_, rfl, hW.size⟩, h2⟩)
  have st0 := (St.start w).alloc (cs := #[.int .u64 (now : Int), .int .u64 (ttl : Int)]) (T := 280)
  go_enter Tryz.func99, Tryz.ntmps99
  go_wp2_with fail
  refine (seRight0 _ _ _).mono ?_
  rintro e w ⟨rfl, rfl⟩
  go_wp2_with fail
  refine region_all 6 (Fs [IsVal (.slice s 0 cap), IsT0 w.heap.size, IsVal (.agg #[.int .u64 (now : Int), .int .u64 (ttl : Int)]), IsVal (.func (.func 143) #[.agg #[.int .u64 (now : Int), .int .u64 (ttl : Int)]] #[]), IsT0 w.heap.size, IsT0 w.heap.size]) (by kernel_rfl) (by kernel_rfl) (by kernel_rfl) (Fs_stable _ ?stab) ?spec ?endd
  case stab =>
    simp only [List.forall_mem_cons]
    exact ⟨stableVal _, stableT0 _, stableVal _, stableVal _, stableT0 _, stableT0 _, by simp⟩
  case spec =>
    refine ⟨?_, ?_, ?_, ?_, ?_, ?_, trivial⟩
    · intro a W hW hu hd
      have kc : ∀ c, a.eval (Operand.const c) = c := fun _ => rfl
      have kf : ∀ f, a.eval (Operand.func f) = .func (.func f) #[] #[] := fun _ => rfl
      have sW := st0.to hW
      have rl := sW.rules
      simp only [Rules, World.size_alloc] at rl
      have u0 : a.eval (Operand.tmp 0) = .slice s 0 cap := hu 0 (by decide)
      unfold StepOk
      rw [if_pos (by rfl)]
      clear hu hd
      generalize a.eval = ρ at *
      go_simp
      exact opOk_val rfl
    · intro a W hW hu hd
      have kc : ∀ c, a.eval (Operand.const c) = c := fun _ => rfl
      have kf : ∀ f, a.eval (Operand.func f) = .func (.func f) #[] #[] := fun _ => rfl
      have sW := st0.to hW
      have rl := sW.rules
      simp only [Rules, World.size_alloc] at rl
      have u17 : a.eval (Operand.tmp 17) = .slice s 0 cap := hd 0 17 (by kernel_rfl) rfl
      unfold StepOk
      rw [if_pos (by rfl)]
      clear hu hd
      generalize a.eval = ρ at *
      go_simp
      refine ⟨Below.refl _ _, (HC.out W sW.below).mono ?_⟩
      rintro e w' ⟨v9, rfl, h9, hb'⟩
      exact ⟨_, rfl, hb', h9⟩
    · intro a W hW hu hd
      have kc : ∀ c, a.eval (Operand.const c) = c := fun _ => rfl
      have kf : ∀ f, a.eval (Operand.func f) = .func (.func f) #[] #[] := fun _ => rfl
      have sW := st0.to hW
      have rl := sW.rules
      simp only [Rules, World.size_alloc] at rl
      have u9 : a.eval (Operand.tmp 9) = .pointer (some ⟨w.heap.size, 0, none⟩) := hu 9 (by decide)
      unfold StepOk
      rw [if_pos (by rfl)]
      clear hu hd
      generalize a.eval = ρ at *
      go_simp
      exact opOk_val rfl
    · intro a W hW hu hd
      have kc : ∀ c, a.eval (Operand.const c) = c := fun _ => rfl
      have kf : ∀ f, a.eval (Operand.func f) = .func (.func f) #[] #[] := fun _ => rfl
      have sW := st0.to hW
      have rl := sW.rules
      simp only [Rules, World.size_alloc] at rl
      have u19 : a.eval (Operand.tmp 19) = .agg #[.int .u64 (now : Int), .int .u64 (ttl : Int)] := hd 2 19 (by kernel_rfl) rfl
      unfold StepOk
      rw [if_pos (by rfl)]
      clear hu hd
      generalize a.eval = ρ at *
      go_simp
      exact opOk_val rfl
    · intro a W hW hu hd
      have kc : ∀ c, a.eval (Operand.const c) = c := fun _ => rfl
      have kf : ∀ f, a.eval (Operand.func f) = .func (.func f) #[] #[] := fun _ => rfl
      have sW := st0.to hW
      have rl := sW.rules
      simp only [Rules, World.size_alloc] at rl
      have f18 : IsT0 w.heap.size (a.eval (Operand.tmp 18)) W := hd 1 18 (by kernel_rfl) rfl
      have u20 : a.eval (Operand.tmp 20) = .func (.func 143) #[.agg #[.int .u64 (now : Int), .int .u64 (ttl : Int)]] #[] := hd 3 20 (by kernel_rfl) rfl
      obtain ⟨b9, u18, hB9⟩ := f18
      unfold StepOk
      rw [if_pos (by rfl)]
      clear hu hd
      generalize a.eval = ρ at *
      go_simp
      refine ⟨Below.refl _ _, (delFunc0 _ _ _ W).mono ?_⟩
      rintro e w' ⟨rfl, rfl⟩
      exact ⟨_, rfl, Below.refl _ _, b9, rfl, hB9⟩
    · intro a W hW hu hd
      have kc : ∀ c, a.eval (Operand.const c) = c := fun _ => rfl
      have kf : ∀ f, a.eval (Operand.func f) = .func (.func f) #[] #[] := fun _ => rfl
      have sW := st0.to hW
      have rl := sW.rules
      simp only [Rules, World.size_alloc] at rl
      have f21 : IsT0 w.heap.size (a.eval (Operand.tmp 21)) W := hd 4 21 (by kernel_rfl) rfl
      obtain ⟨b9, u21, hB9⟩ := f21
      unfold StepOk
      rw [if_pos (by rfl)]
      clear hu hd
      generalize a.eval = ρ at *
      go_simp
      exact opOk_val ⟨b9, rfl, hB9⟩
  case endd =>
    intro v W hW hv
    have v0 : v 0 = (.slice s 0 cap) := hv 0 (by omega)
    have hf1 : IsT0 w.heap.size (v 1) W := hv 1 (by omega)
    have v2 : v 2 = (.agg #[.int .u64 (now : Int), .int .u64 (ttl : Int)]) := hv 2 (by omega)
    have v3 : v 3 = (.func (.func 143) #[.agg #[.int .u64 (now : Int), .int .u64 (ttl : Int)]] #[]) := hv 3 (by omega)
    have hf4 : IsT0 w.heap.size (v 4) W := hv 4 (by omega)
    have hf5 : IsT0 w.heap.size (v 5) W := hv 5 (by omega)
    clear hv
    simp only [List.take_succ_cons, List.take_zero, List.drop_succ_cons, List.drop_zero, putAll, Nat.zero_add, Nat.reduceAdd]
    rw [v0, v2, v3]
    clear v0 v2 v3
    have sW := st0.to hW
    obtain ⟨b9, v5, hB9⟩ := hf5
    rw [v5]
    have hb := sW.below
    generalize v 1 = v1 at *
    generalize v 4 = v4 at *
    clear hf1 hf4 HC st0
    go_wp2_with fail
    refine bodyPost_ret (v := .tuple #[.slice (some ⟨b9, 0, none⟩) 0 0, .int .i64 0, .int .i64 0]) (by simp [results, Tryz.results99, go_sem]) rfl ⟨_, rfl, ⟨b9, rfl, hB9⟩, hb⟩
set_option maxHeartbeats 1000000 in
theorem ckExpire1 (now ttl : Nat) (t : Hd) (x : Sk) (hlen : x.e.length ≤ 100000 ∧ x.c.length ≤ 100000 ∧ x.g.length ≤ 100000) (sn : Nat) (hn : now ≤ sn) (l : Hd) (h : SkH) (w : World) (hT : Tab1 w t x sn l h) : Calls Tryz.prog 99 #[.slice t.s 1 t.cap, .int .u64 (now : Int), .int .u64 (ttl : Int)] w fun e w' => ∃ v, e = .returned (.tuple #[v, .int .i64 0, .int .i64 0]) ∧ IsT w.heap.size x sn v w' ∧ Below w.heap.size w w' := by
  have HR := Lib.hid (seRight1 t x sn l h w hT)
  have HC := Lib.hid (show ∀ W, Below w.heap.size w W → Calls Tryz.prog 142 #[.slice t.s 1 t.cap] W fun e w' => ∃ v, e = .returned v ∧ IsT w.heap.size x sn v w' ∧ Below W.heap.size W w' from fun W hW => (ckCopied1 t x sn l h W (hT.keepB hW) hlen).mono fun e w' ⟨v, h1, ⟨a1, a2, a3, b1, b2, b3, b4, b5⟩, h3⟩ => ⟨v, h1, ⟨a1, a2, a3, b1, b2, b3.mono hW.size, b4.mono hW.size, b5.mono hW.size⟩, h3⟩)
  have HN := Lib.hid hn
  clear hT hlen hn
  generalize t.s = s at *
  generalize t.cap = cap at *
  go_enter Tryz.func99, Tryz.ntmps99
  go_wp2_with fail
  refine HR.out.mono ?_
  rintro e w1 ⟨rfl, hb1⟩
  have st0 := ((St.start w).to hb1).alloc (cs := #[.int .u64 (now : Int), .int .u64 (ttl : Int)]) (T := 280)
  have hz1 := hb1.size
  clear hb1 HR
  go_wp2_with fail
  refine region_all 6 (Fs [IsVal (.slice s 1 cap), IsT w.heap.size x sn, IsVal (.agg #[.int .u64 (now : Int), .int .u64 (ttl : Int)]), IsVal (.func (.func 143) #[.agg #[.int .u64 (now : Int), .int .u64 (ttl : Int)]] #[]), IsT w.heap.size x sn, IsT w.heap.size x sn]) (by kernel_rfl) (by kernel_rfl) (by kernel_rfl) (Fs_stable _ ?stab) ?spec ?endd
  case stab =>
    simp only [List.forall_mem_cons]
    exact ⟨stableVal _, stableT _ _ _, stableVal _, stableVal _, stableT _ _ _, stableT _ _ _, by simp⟩
  case spec =>
    refine ⟨?_, ?_, ?_, ?_, ?_, ?_, trivial⟩
    · intro a W hW hu hd
      have kc : ∀ c, a.eval (Operand.const c) = c := fun _ => rfl
      have kf : ∀ f, a.eval (Operand.func f) = .func (.func f) #[] #[] := fun _ => rfl
      have sW := st0.to hW
      have rl := sW.rules
      simp only [Rules, World.size_alloc] at rl
      have u0 : a.eval (Operand.tmp 0) = .slice s 1 cap := hu 0 (by decide)
      unfold StepOk
      rw [if_pos (by rfl)]
      clear hu hd
      generalize a.eval = ρ at *
      go_simp
      exact opOk_val rfl
    · intro a W hW hu hd
      have kc : ∀ c, a.eval (Operand.const c) = c := fun _ => rfl
      have kf : ∀ f, a.eval (Operand.func f) = .func (.func f) #[] #[] := fun _ => rfl
      have sW := st0.to hW
      have rl := sW.rules
      simp only [Rules, World.size_alloc] at rl
      have u17 : a.eval (Operand.tmp 17) = .slice s 1 cap := hd 0 17 (by kernel_rfl) rfl
      unfold StepOk
      rw [if_pos (by rfl)]
      clear hu hd
      generalize a.eval = ρ at *
      go_simp
      refine ⟨Below.refl _ _, (HC.out W sW.below).mono ?_⟩
      rintro e w' ⟨v9, rfl, h9, hb'⟩
      exact ⟨_, rfl, hb', h9⟩
    · intro a W hW hu hd
      have kc : ∀ c, a.eval (Operand.const c) = c := fun _ => rfl
      have kf : ∀ f, a.eval (Operand.func f) = .func (.func f) #[] #[] := fun _ => rfl
      have sW := st0.to hW
      have rl := sW.rules
      simp only [Rules, World.size_alloc] at rl
      have u9 : a.eval (Operand.tmp 9) = .pointer (some ⟨w1.heap.size, 0, none⟩) := hu 9 (by decide)
      unfold StepOk
      rw [if_pos (by rfl)]
      clear hu hd
      generalize a.eval = ρ at *
      go_simp
      exact opOk_val rfl
    · intro a W hW hu hd
      have kc : ∀ c, a.eval (Operand.const c) = c := fun _ => rfl
      have kf : ∀ f, a.eval (Operand.func f) = .func (.func f) #[] #[] := fun _ => rfl
      have sW := st0.to hW
      have rl := sW.rules
      simp only [Rules, World.size_alloc] at rl
      have u19 : a.eval (Operand.tmp 19) = .agg #[.int .u64 (now : Int), .int .u64 (ttl : Int)] := hd 2 19 (by kernel_rfl) rfl
      unfold StepOk
      rw [if_pos (by rfl)]
      clear hu hd
      generalize a.eval = ρ at *
      go_simp
      exact opOk_val rfl
    · intro a W hW hu hd
      have kc : ∀ c, a.eval (Operand.const c) = c := fun _ => rfl
      have kf : ∀ f, a.eval (Operand.func f) = .func (.func f) #[] #[] := fun _ => rfl
      have sW := st0.to hW
      have rl := sW.rules
      simp only [Rules, World.size_alloc] at rl
      have f18 : IsT w.heap.size x sn (a.eval (Operand.tmp 18)) W := hd 1 18 (by kernel_rfl) rfl
      have u20 : a.eval (Operand.tmp 20) = .func (.func 143) #[.agg #[.int .u64 (now : Int), .int .u64 (ttl : Int)]] #[] := hd 3 20 (by kernel_rfl) rfl
      obtain ⟨t9, l9, h9, u18, hT9, hF9⟩ := f18
      unfold StepOk
      rw [if_pos (by rfl)]
      clear hu hd
      generalize a.eval = ρ at *
      go_simp
      refine ⟨Below.refl _ _, (delFunc1 now ttl t9 x sn HN.out l9 h9 W hT9).mono ?_⟩
      rintro e w' ⟨rfl, hb'⟩
      exact ⟨_, rfl, hb', t9, l9, h9, rfl, hT9.keepB hb', hF9⟩
    · intro a W hW hu hd
      have kc : ∀ c, a.eval (Operand.const c) = c := fun _ => rfl
      have kf : ∀ f, a.eval (Operand.func f) = .func (.func f) #[] #[] := fun _ => rfl
      have sW := st0.to hW
      have rl := sW.rules
      simp only [Rules, World.size_alloc] at rl
      have f21 : IsT w.heap.size x sn (a.eval (Operand.tmp 21)) W := hd 4 21 (by kernel_rfl) rfl
      obtain ⟨t9, l9, h9, u21, hT9, hF9⟩ := f21
      unfold StepOk
      rw [if_pos (by rfl)]
      clear hu hd
      generalize a.eval = ρ at *
      go_simp
      exact opOk_val ⟨t9, l9, h9, rfl, hT9, hF9⟩
  case endd =>
    intro v W hW hv
    have v0 : v 0 = (.slice s 1 cap) := hv 0 (by omega)
    have hf1 : IsT w.heap.size x sn (v 1) W := hv 1 (by omega)
    have v2 : v 2 = (.agg #[.int .u64 (now : Int), .int .u64 (ttl : Int)]) := hv 2 (by omega)
    have v3 : v 3 = (.func (.func 143) #[.agg #[.int .u64 (now : Int), .int .u64 (ttl : Int)]] #[]) := hv 3 (by omega)
    have hf4 : IsT w.heap.size x sn (v 4) W := hv 4 (by omega)
    have hf5 : IsT w.heap.size x sn (v 5) W := hv 5 (by omega)
    clear hv
    simp only [List.take_succ_cons, List.take_zero, List.drop_succ_cons, List.drop_zero, putAll, Nat.zero_add, Nat.reduceAdd]
    rw [v0, v2, v3]
    clear v0 v2 v3
    have sW := st0.to hW
    obtain ⟨⟨ts, tc⟩, l9, h9, v5, hT9, hF9⟩ := hf5
    rw [v5]
    simp only [Hd.v]
    have hb := sW.below
    generalize v 1 = v1 at *
    generalize v 4 = v4 at *
    clear hf1 hf4 HC st0
    go_wp2_with fail
    refine bodyPost_ret (v := .tuple #[.slice ts 1 tc, .int .i64 0, .int .i64 0]) (by simp [results, Tryz.results99, go_sem]) rfl ⟨_, rfl, ⟨⟨ts, tc⟩, l9, h9, rfl, hT9, hF9⟩, hb⟩
end Go.Proofs.YtmgdbfmlnmahpaaGreatDoor
namespace Go.Proofs.YtmgdbfmlnmahpaaGreatDoor
open Go.RowKit Go.Shelf
set_option linter.unusedSimpArgs false
set_option linter.unusedVariables false
set_option maxRecDepth 100000
theorem isBudget_any (b : Nat) (h : b ≤ 1000000) (w : World) : Calls Tryz.prog 115 #[.int .i64 (b : Int)] w fun e w' => e = .returned (.bool true) ∧ w' = w := by
  have h1 : decide ((b : Int) ≤ 1000000) = true := by simp; omega
  have h0 : decide ((b : Int) ≥ 0) = true := by simp
  go_enter Tryz.func115, Tryz.ntmps115
  go_wp2_with fail
  go_ret
  exact ⟨rfl, rfl⟩
def Cu (cur : Array Value) (c0 c1 c2 c3 c4 c5 c6 c7 c8 c9 c10 c11 : Value) : Prop := cur[0]? = some c0 ∧ cur[1]? = some c1 ∧ cur[2]? = some c2 ∧ cur[3]? = some c3 ∧ cur[4]? = some c4 ∧ cur[5]? = some c5 ∧ cur[6]? = some c6 ∧ cur[7]? = some c7 ∧ cur[8]? = some c8 ∧ cur[9]? = some c9 ∧ cur[10]? = some c10 ∧ cur[11]? = some c11
theorem Cu.set0 {cur : Array Value} {c0 c1 c2 c3 c4 c5 c6 c7 c8 c9 c10 c11 : Value} (h : Cu cur c0 c1 c2 c3 c4 c5 c6 c7 c8 c9 c10 c11) (v : Value) : Cu (cur.setIfInBounds 0 v) v c1 c2 c3 c4 c5 c6 c7 c8 c9 c10 c11 := by
  unfold Cu at h ⊢
  have hs : 0 < cur.size := (Array.getElem?_eq_some_iff.1 h.1).1
  obtain ⟨h0, h1, h2, h3, h4, h5, h6, h7, h8, h9, h10, h11⟩ := h
  refine ⟨?_, ?_, ?_, ?_, ?_, ?_, ?_, ?_, ?_, ?_, ?_, ?_⟩
  · rw [Array.getElem?_setIfInBounds, if_pos rfl, if_pos hs]
  · rw [Array.getElem?_setIfInBounds, if_neg (by decide)]; exact h1
  · rw [Array.getElem?_setIfInBounds, if_neg (by decide)]; exact h2
  · rw [Array.getElem?_setIfInBounds, if_neg (by decide)]; exact h3
  · rw [Array.getElem?_setIfInBounds, if_neg (by decide)]; exact h4
  · rw [Array.getElem?_setIfInBounds, if_neg (by decide)]; exact h5
  · rw [Array.getElem?_setIfInBounds, if_neg (by decide)]; exact h6
  · rw [Array.getElem?_setIfInBounds, if_neg (by decide)]; exact h7
  · rw [Array.getElem?_setIfInBounds, if_neg (by decide)]; exact h8
  · rw [Array.getElem?_setIfInBounds, if_neg (by decide)]; exact h9
  · rw [Array.getElem?_setIfInBounds, if_neg (by decide)]; exact h10
  · rw [Array.getElem?_setIfInBounds, if_neg (by decide)]; exact h11
theorem Cu.set3 {cur : Array Value} {c0 c1 c2 c3 c4 c5 c6 c7 c8 c9 c10 c11 : Value} (h : Cu cur c0 c1 c2 c3 c4 c5 c6 c7 c8 c9 c10 c11) (v : Value) : Cu (cur.setIfInBounds 3 v) c0 c1 c2 v c4 c5 c6 c7 c8 c9 c10 c11 := by
  unfold Cu at h ⊢
  have hs : 3 < cur.size := (Array.getElem?_eq_some_iff.1 h.2.2.2.1).1
  obtain ⟨h0, h1, h2, h3, h4, h5, h6, h7, h8, h9, h10, h11⟩ := h
  refine ⟨?_, ?_, ?_, ?_, ?_, ?_, ?_, ?_, ?_, ?_, ?_, ?_⟩
  · rw [Array.getElem?_setIfInBounds, if_neg (by decide)]; exact h0
  · rw [Array.getElem?_setIfInBounds, if_neg (by decide)]; exact h1
  · rw [Array.getElem?_setIfInBounds, if_neg (by decide)]; exact h2
  · rw [Array.getElem?_setIfInBounds, if_pos rfl, if_pos hs]
  · rw [Array.getElem?_setIfInBounds, if_neg (by decide)]; exact h4
  · rw [Array.getElem?_setIfInBounds, if_neg (by decide)]; exact h5
  · rw [Array.getElem?_setIfInBounds, if_neg (by decide)]; exact h6
  · rw [Array.getElem?_setIfInBounds, if_neg (by decide)]; exact h7
  · rw [Array.getElem?_setIfInBounds, if_neg (by decide)]; exact h8
  · rw [Array.getElem?_setIfInBounds, if_neg (by decide)]; exact h9
  · rw [Array.getElem?_setIfInBounds, if_neg (by decide)]; exact h10
  · rw [Array.getElem?_setIfInBounds, if_neg (by decide)]; exact h11
theorem Cu.set8 {cur : Array Value} {c0 c1 c2 c3 c4 c5 c6 c7 c8 c9 c10 c11 : Value} (h : Cu cur c0 c1 c2 c3 c4 c5 c6 c7 c8 c9 c10 c11) (v : Value) : Cu (cur.setIfInBounds 8 v) c0 c1 c2 c3 c4 c5 c6 c7 v c9 c10 c11 := by
  unfold Cu at h ⊢
  have hs : 8 < cur.size := (Array.getElem?_eq_some_iff.1 h.2.2.2.2.2.2.2.2.1).1
  obtain ⟨h0, h1, h2, h3, h4, h5, h6, h7, h8, h9, h10, h11⟩ := h
  refine ⟨?_, ?_, ?_, ?_, ?_, ?_, ?_, ?_, ?_, ?_, ?_, ?_⟩
  · rw [Array.getElem?_setIfInBounds, if_neg (by decide)]; exact h0
  · rw [Array.getElem?_setIfInBounds, if_neg (by decide)]; exact h1
  · rw [Array.getElem?_setIfInBounds, if_neg (by decide)]; exact h2
  · rw [Array.getElem?_setIfInBounds, if_neg (by decide)]; exact h3
  · rw [Array.getElem?_setIfInBounds, if_neg (by decide)]; exact h4
  · rw [Array.getElem?_setIfInBounds, if_neg (by decide)]; exact h5
  · rw [Array.getElem?_setIfInBounds, if_neg (by decide)]; exact h6
  · rw [Array.getElem?_setIfInBounds, if_neg (by decide)]; exact h7
  · rw [Array.getElem?_setIfInBounds, if_pos rfl, if_pos hs]
  · rw [Array.getElem?_setIfInBounds, if_neg (by decide)]; exact h9
  · rw [Array.getElem?_setIfInBounds, if_neg (by decide)]; exact h10
  · rw [Array.getElem?_setIfInBounds, if_neg (by decide)]; exact h11
theorem Cu.set10 {cur : Array Value} {c0 c1 c2 c3 c4 c5 c6 c7 c8 c9 c10 c11 : Value} (h : Cu cur c0 c1 c2 c3 c4 c5 c6 c7 c8 c9 c10 c11) (v : Value) : Cu (cur.setIfInBounds 10 v) c0 c1 c2 c3 c4 c5 c6 c7 c8 c9 v c11 := by
  unfold Cu at h ⊢
  have hs : 10 < cur.size := (Array.getElem?_eq_some_iff.1 h.2.2.2.2.2.2.2.2.2.2.1).1
  obtain ⟨h0, h1, h2, h3, h4, h5, h6, h7, h8, h9, h10, h11⟩ := h
  refine ⟨?_, ?_, ?_, ?_, ?_, ?_, ?_, ?_, ?_, ?_, ?_, ?_⟩
  · rw [Array.getElem?_setIfInBounds, if_neg (by decide)]; exact h0
  · rw [Array.getElem?_setIfInBounds, if_neg (by decide)]; exact h1
  · rw [Array.getElem?_setIfInBounds, if_neg (by decide)]; exact h2
  · rw [Array.getElem?_setIfInBounds, if_neg (by decide)]; exact h3
  · rw [Array.getElem?_setIfInBounds, if_neg (by decide)]; exact h4
  · rw [Array.getElem?_setIfInBounds, if_neg (by decide)]; exact h5
  · rw [Array.getElem?_setIfInBounds, if_neg (by decide)]; exact h6
  · rw [Array.getElem?_setIfInBounds, if_neg (by decide)]; exact h7
  · rw [Array.getElem?_setIfInBounds, if_neg (by decide)]; exact h8
  · rw [Array.getElem?_setIfInBounds, if_neg (by decide)]; exact h9
  · rw [Array.getElem?_setIfInBounds, if_pos rfl, if_pos hs]
  · rw [Array.getElem?_setIfInBounds, if_neg (by decide)]; exact h11
theorem Cu.of {cur : Array Value} {y : Ser} (h : cur.toList.take 12 = encS y) : Cu cur (y.l.v y.lab.length) (.int .i64 y.sk.kind) (.int .i64 0) (y.k.e.v y.sk.e.length) (.int .i64 0) (.string ⟨#[]⟩) (.int .i64 y.sk.rows) (.int .i64 y.sk.cols) (y.k.c.v y.sk.c.length) (.int .i64 y.sk.fine) (y.k.g.v y.sk.g.length) (.int .u64 (y.seen : Nat)) := by
  have hj : ∀ j u, j < 12 → (encS y)[j]? = some u → cur[j]? = some u := by
    intro j u hj hu
    rw [← h, List.getElem?_take_of_lt hj] at hu
    simpa using hu
  exact ⟨hj 0 _ (by decide) rfl, hj 1 _ (by decide) rfl, hj 2 _ (by decide) rfl, hj 3 _ (by decide) rfl, hj 4 _ (by decide) rfl, hj 5 _ (by decide) rfl, hj 6 _ (by decide) rfl, hj 7 _ (by decide) rfl, hj 8 _ (by decide) rfl, hj 9 _ (by decide) rfl, hj 10 _ (by decide) rfl, hj 11 _ (by decide) rfl⟩
theorem Rd.cu {cur : Array Value} {T : TypeId} {W : World} {g : Nat} {y : Ser} (hb : W.heap[g]? = some (.cells cur T (0, 0))) (h : Cu cur (y.l.v y.lab.length) (.int .i64 y.sk.kind) (.int .i64 0) (y.k.e.v y.sk.e.length) (.int .i64 0) (.string ⟨#[]⟩) (.int .i64 y.sk.rows) (.int .i64 y.sk.cols) (y.k.c.v y.sk.c.length) (.int .i64 y.sk.fine) (y.k.g.v y.sk.g.length) (.int .u64 (y.seen : Nat))) : Rd 12 encS W (some ⟨g, 0, none⟩) [y] := by
  obtain ⟨h0, h1, h2, h3, h4, h5, h6, h7, h8, h9, h10, h11⟩ := h
  intro i z hz
  match i, hz with
  | 0, hz =>
    cases hz
    refine ⟨g, 0, rfl, blk_lt hb, fun j u hu => ?_⟩
    rw [blk_cell hb]
    match j, hu with
    | 0, hu => cases hu; exact h0
    | 1, hu => cases hu; exact h1
    | 2, hu => cases hu; exact h2
    | 3, hu => cases hu; exact h3
    | 4, hu => cases hu; exact h4
    | 5, hu => cases hu; exact h5
    | 6, hu => cases hu; exact h6
    | 7, hu => cases hu; exact h7
    | 8, hu => cases hu; exact h8
    | 9, hu => cases hu; exact h9
    | 10, hu => cases hu; exact h10
    | 11, hu => cases hu; exact h11
    | j + 12, hu => simp [encS] at hu
  | i + 1, hz => simp at hz
set_option maxHeartbeats 1000000 in
theorem cloneS_own (L : List Ser) (hl : L.length ≤ 100000) (g o cap : Nat) (w : World) (hL : RdH 12 encS w ⟨some ⟨g, o, none⟩, cap⟩ L) :
    Calls Tryz.prog 160 #[.slice (some ⟨g, o, none⟩) L.length cap] w fun e w' => ∃ v, e = .returned v ∧ OwnR 12 encS 167 w' w.heap.size v L ∧ Below w.heap.size w w' := by
  obtain ⟨hrd, hcap, hmax, hnil, hpl⟩ := hL
  simp only at hrd hcap hmax hnil hpl
  have hlb : L.length + 0 ≤ 1000000 := by omega
  have HL := Lib.hid hrd
  clear hpl hnil hmax
  have hq := Lib.run_eql_slice_nil (P := Tryz.prog)
  go_enter Tryz.func160, Tryz.ntmps160
  go_wp2_with (at_builtin; refine append_more elemS encS_len encS_one rfl (.tmp 5) (.tmp 6) rfl w.heap.size (.slice (some ⟨w.heap.size, 0, none⟩) 0 0) ([] : List Ser) rfl ((St.start w).to ((Below.refl _ _).alloc (Nat.le_refl _) _)) (ownEmpty w 167 12 encS) (Nat.le_refl _) (by simp) ?_ L L.length rfl (some ⟨g, o, none⟩) cap rfl (fun h => by cases h) (HL.out.keepB (Nat.le_refl _) ((Below.refl _ _).alloc (Nat.le_refl _) _)) ?_ (by decide) ?_)
  · simp
  · simpa using hlb
  intro v' w' ap
  have hown := ap.own
  obtain ⟨d, rfl, hd, hf⟩ := RdH.ownF encS_len ap.own
  go_wp2_with fail
  go_ret
  exact ⟨_, rfl, hown, ap.st.below⟩
set_option maxHeartbeats 2000000 in
theorem quCopied1 (t : Hd) (x : Sk) (sn : Nat) (l : Hd) (h : SkH) (w : World) (hT : Tab1 w t x sn l h) (hlen : x.e.length ≤ 100000 ∧ x.c.length ≤ 100000 ∧ x.g.length ≤ 100000) : Calls Tryz.prog 116 #[.slice t.s 1 t.cap] w fun e w' => ∃ v, e = .returned v ∧ IsT w.heap.size x sn v w' ∧ Below w.heap.size w w' := by
  obtain ⟨g, o, hts, hE⟩ := hT.at
  obtain ⟨ts, tc⟩ := t
  obtain ⟨ls, lc⟩ := l
  obtain ⟨⟨es, ec⟩, ⟨cs, cc⟩, ⟨gs, gc⟩⟩ := h
  simp only at hts hE
  subst hts
  change Calls Tryz.prog 116 #[.slice (some ⟨g, o, none⟩) 1 tc] w _
  have HCL := Lib.hid (cloneS_own _ (by simp) g o tc w hT.t)
  have HC0 := Lib.hid (fun W (hW : Below w.heap.size w W) => cloneL_any [labAX] (by decide) ⟨ls, lc⟩ W (hT.l.keepB hW))
  have HC1 := Lib.hid (fun W (hW : Below w.heap.size w W) => cloneU_any x.e hlen.1 ⟨es, ec⟩ W (hT.k.e.keepB hW))
  have HC2 := Lib.hid (fun W (hW : Below w.heap.size w W) => cloneU_any x.c hlen.2.1 ⟨cs, cc⟩ W (hT.k.c.keepB hW))
  have HC3 := Lib.hid (fun W (hW : Below w.heap.size w W) => cloneB_any x.g hlen.2.2 ⟨gs, gc⟩ W (hT.k.g.keepB hW))
  have HOK := Lib.hid hT.ok
  clear hT hE hlen
  go_enter Tryz.func116, Tryz.ntmps116
  go_wp2_with fail
  refine HCL.out.mono ?_
  rintro e w0 ⟨v0, rfl, hO, hb0⟩
  rcases hO.2 with ⟨_, hz⟩ | ⟨gB, cap, cur, rfl, hgB, hbk, hcap, hcm, hcs, hct⟩
  · simp at hz
  have hc := Cu.of (y := ⟨[labAX], x, sn, ⟨ls, lc⟩, ⟨⟨es, ec⟩, ⟨cs, cc⟩, ⟨gs, gc⟩⟩⟩) (by simpa using hct)
  simp only [Hd.v, List.length_cons, List.length_nil, Nat.zero_add] at hc
  have hcu := hc
  unfold Cu at hcu
  have HCAP := Lib.hid (And.intro hcap hcm)
  have hcap1 : 1 ≤ cap := hcap
  have st0 := ((St.start w).to hb0).cons hbk (by simp)
  have rl := st0.rules
  simp only [Rules] at rl
  clear hO hb0 hct hcs hcap hcm HCL hbk
  go_wp2_with fail
  refine wp_loop_rounds 2 ?_
  rw [rounds_succ]
  go_wp2_with fail
  refine (HC0.out _ st0.below).mono ?_
  rintro e w1 ⟨⟨lS, lC⟩, rfl, hd, hf, hb1⟩
  have hz := blk_lt (st0.blk _ (List.mem_of_getElem? (i := 0) rfl))
  have HFl := hf.mono (show gB + 1 ≤ _ from hz)
  have HDl := Lib.hid hd
  have st1 := st0.to hb1
  have rl := st1.rules
  simp only [Rules] at rl
  clear st0 hb1 hd hf hz HC0
  go_wp2_with fail
  have st0 := St.setT st1 0 (A := gB) rfl (o := 0) (v := .slice lS 1 lC) hgB
  simp only [setB, List.modify_succ_cons, List.modify_zero_cons, List.setIfInBounds_toArray, List.set_cons_zero, List.set_cons_succ] at st0
  replace hc := Cu.set0 hc (.slice lS 1 lC)
  generalize hcur0 : cur.setIfInBounds 0 (.slice lS 1 lC) = cur0 at st0 hc
  clear hcur0
  have hcu := hc
  unfold Cu at hcu
  replace HDl := Lib.hid (HDl.out.up HFl ((KeepUp.refl _ _).set (b := gB) (o := 0) (Nat.lt_succ_self _) (.slice lS 1 lC)))
  clear st1 rl
  refine (HC1.out _ st0.below).mono ?_
  rintro e w2 ⟨⟨eS, eC⟩, rfl, hd, hf, hb1⟩
  have hz := blk_lt (st0.blk _ (List.mem_of_getElem? (i := 0) rfl))
  have HFe := hf.mono (show gB + 1 ≤ _ from hz)
  replace HDl := Lib.hid (HDl.out.keepB hb1)
  have HDe := Lib.hid hd
  have st1 := st0.to hb1
  have rl := st1.rules
  simp only [Rules] at rl
  clear st0 hb1 hd hf hz HC1
  go_wp2_with fail
  have st0 := St.setT st1 0 (A := gB) rfl (o := 3) (v := .slice eS x.e.length eC) hgB
  simp only [setB, List.modify_succ_cons, List.modify_zero_cons, List.setIfInBounds_toArray, List.set_cons_zero, List.set_cons_succ] at st0
  replace hc := Cu.set3 hc (.slice eS x.e.length eC)
  generalize hcur1 : cur0.setIfInBounds 3 (.slice eS x.e.length eC) = cur1 at st0 hc
  clear hcur1
  have hcu := hc
  unfold Cu at hcu
  replace HDl := Lib.hid (HDl.out.up HFl ((KeepUp.refl _ _).set (b := gB) (o := 3) (Nat.lt_succ_self _) (.slice eS x.e.length eC)))
  replace HDe := Lib.hid (HDe.out.up HFe ((KeepUp.refl _ _).set (b := gB) (o := 3) (Nat.lt_succ_self _) (.slice eS x.e.length eC)))
  clear st1 rl
  refine (HC2.out _ st0.below).mono ?_
  rintro e w3 ⟨⟨cS, cC⟩, rfl, hd, hf, hb1⟩
  have hz := blk_lt (st0.blk _ (List.mem_of_getElem? (i := 0) rfl))
  have HFc := hf.mono (show gB + 1 ≤ _ from hz)
  replace HDl := Lib.hid (HDl.out.keepB hb1)
  replace HDe := Lib.hid (HDe.out.keepB hb1)
  have HDc := Lib.hid hd
  have st1 := st0.to hb1
  have rl := st1.rules
  simp only [Rules] at rl
  clear st0 hb1 hd hf hz HC2
  go_wp2_with fail
  have st0 := St.setT st1 0 (A := gB) rfl (o := 8) (v := .slice cS x.c.length cC) hgB
  simp only [setB, List.modify_succ_cons, List.modify_zero_cons, List.setIfInBounds_toArray, List.set_cons_zero, List.set_cons_succ] at st0
  replace hc := Cu.set8 hc (.slice cS x.c.length cC)
  generalize hcur2 : cur1.setIfInBounds 8 (.slice cS x.c.length cC) = cur2 at st0 hc
  clear hcur2
  have hcu := hc
  unfold Cu at hcu
  replace HDl := Lib.hid (HDl.out.up HFl ((KeepUp.refl _ _).set (b := gB) (o := 8) (Nat.lt_succ_self _) (.slice cS x.c.length cC)))
  replace HDe := Lib.hid (HDe.out.up HFe ((KeepUp.refl _ _).set (b := gB) (o := 8) (Nat.lt_succ_self _) (.slice cS x.c.length cC)))
  replace HDc := Lib.hid (HDc.out.up HFc ((KeepUp.refl _ _).set (b := gB) (o := 8) (Nat.lt_succ_self _) (.slice cS x.c.length cC)))
  clear st1 rl
  refine (HC3.out _ st0.below).mono ?_
  rintro e w4 ⟨⟨gS, gC⟩, rfl, hd, hf, hb1⟩
  have hz := blk_lt (st0.blk _ (List.mem_of_getElem? (i := 0) rfl))
  have HFg := hf.mono (show gB + 1 ≤ _ from hz)
  replace HDl := Lib.hid (HDl.out.keepB hb1)
  replace HDe := Lib.hid (HDe.out.keepB hb1)
  replace HDc := Lib.hid (HDc.out.keepB hb1)
  have HDg := Lib.hid hd
  have st1 := st0.to hb1
  have rl := st1.rules
  simp only [Rules] at rl
  clear st0 hb1 hd hf hz HC3
  go_wp2_with fail
  rw [rounds_succ]
  go_wp2_with fail
  have st0 := St.setT st1 0 (A := gB) rfl (o := 10) (v := .slice gS x.g.length gC) hgB
  simp only [setB, List.modify_succ_cons, List.modify_zero_cons, List.setIfInBounds_toArray, List.set_cons_zero, List.set_cons_succ] at st0
  have hc4 := Cu.set10 hc (.slice gS x.g.length gC)
  have hku : KeepUp (gB + 1) w4 (w4.setCell ⟨gB, 10, none⟩ (.slice gS x.g.length gC)) := (KeepUp.refl _ _).set (Nat.lt_succ_self _) _
  have hcm := HCAP.out.2
  unfold maxLen at hcm
  refine bodyPost_ret (v := .slice (some ⟨gB, 0, none⟩) 1 cap) (by simp [results, Tryz.results116, go_sem]) rfl ⟨_, rfl, ⟨⟨some ⟨gB, 0, none⟩, cap⟩, ⟨lS, lC⟩, ⟨⟨eS, eC⟩, ⟨cS, cC⟩, ⟨gS, gC⟩⟩, rfl, ⟨⟨Rd.cu (y := ⟨[labAX], x, sn, ⟨lS, lC⟩, ⟨⟨eS, eC⟩, ⟨cS, cC⟩, ⟨gS, gC⟩⟩⟩) (st0.blk _ (List.mem_of_getElem? (i := 0) rfl)) hc4, HCAP.out.1, by simpa using hcm, (fun h => by cases h), PlainS.some _ _⟩, HDl.out.up HFl hku, ⟨HDe.out.up HFe hku, HDc.out.up HFc hku, HDg.out.up HFg hku⟩, HOK.out⟩, (fun g o e => by cases e; exact hgB), HFl.mono (by omega), ⟨HFe.mono (by omega), HFc.mono (by omega), HFg.mono (by omega)⟩⟩, st0.below⟩
end Go.Proofs.YtmgdbfmlnmahpaaGreatDoor
namespace Go.Proofs.YtmgdbfmlnmahpaaGreatDoor
open Go.RowKit Go.Shelf
set_option linter.unusedSimpArgs false
set_option linter.unusedVariables false
set_option maxRecDepth 100000
set_option maxHeartbeats 2000000 in
theorem quFit1 (b : Nat) (hb : b ≤ 1000000) (t : Hd) (x : Sk) (hc : x.cost + 3 ≤ b) (sn : Nat) (l : Hd) (h : SkH) (w : World) (hT : Tab1 w t x sn l h) (hlen : x.e.length ≤ 100000 ∧ x.c.length ≤ 100000 ∧ x.g.length ≤ 100000) : Calls Tryz.prog 72 #[.slice t.s 1 t.cap, .int .i64 (b : Int)] w fun e w' => ∃ v, e = .returned (.tuple #[v, .slice none 0 0, .int .i64 0]) ∧ IsT w.heap.size x sn v w' ∧ Below w.heap.size w w' := by
  have HR := Lib.hid (seRight1 t x sn l h w hT)
  have HB := Lib.hid (fun W => isBudget_any b hb W)
  have HC := Lib.hid (fun W (hW : Below w.heap.size w W) => quCopied1 t x sn l h W (hT.keepB hW) hlen)
  have HK := Lib.hid (fun (t' l' : Hd) (h' : SkH) W (hT' : Tab1 W t' x sn l' h') => seCost1 t' x sn l' h' W hT')
  have hgt : decide (b < x.cost + 3) = false := by simp; omega
  generalize x.cost + 3 = co at *
  clear hT hlen hb hc
  generalize t.s = s at *
  generalize t.cap = cap at *
  go_enter Tryz.func72, Tryz.ntmps72
  go_wp2_with fail
  refine HR.out.mono ?_
  rintro e w1 ⟨rfl, hb1⟩
  go_wp2_with fail
  refine (HB.out _).mono ?_
  rintro e w1 ⟨rfl, rfl⟩
  go_wp2_with fail
  refine (HC.out _ hb1).mono ?_
  rintro e w2 ⟨v, rfl, ⟨⟨ts, tc⟩, l9, h9, rfl, hT9, hF9⟩, hb2⟩
  simp only [Hd.v]
  have hz1 := hb1.size
  have st1 := (((St.start w).to hb1).to hb2).alloc (cs := #[.slice none 0 0, .slice ts 1 tc]) (T := 242)
  have hT1 := hT9.keepB ((Below.refl w2.heap.size w2).alloc (Nat.le_refl _) (.cells #[.slice none 0 0, .slice ts 1 tc] 242))
  have hz2 := hb2.size
  have HT1 := Lib.hid hT1
  have HF1 := Lib.hid hF9
  clear hb1 hb2 hT9 hT1 hF9 HC HR HB
  go_wp2_with fail
  refine wp_loop_rounds 1 ?_
  rw [rounds_succ]
  go_wp2_with fail
  refine (HK.out ⟨ts, tc⟩ l9 h9 _ HT1.out).mono ?_
  rintro e w3 ⟨rfl, hb3⟩
  have st3 := st1.to hb3
  have HT3 := Lib.hid (HT1.out.keepB hb3)
  have rl := st3.rules
  simp only [Rules] at rl
  clear st1 hb3 HK HT1
  go_wp2_with fail
  have st3E := st3.also (F := fun W => Tab1 W ⟨ts, tc⟩ x sn l9 h9) HT3.out (fun _ _ h hb => h.keepB hb)
  obtain ⟨bl2, E2, hne2, sh2, rl, hEx, hbx, hst⟩ := st3E.hide
  simp only [Rules] at rl
  refine region_st sh2 (by kernel_rfl) (by kernel_rfl) ?_
  repeat (first | go_big_quiet_step (fail) | quiet_step (fail))
  refine wpQuiet_nil ?_
  intro y
  have st4 := (hst y).out
  have hT4 := st4.ex.2
  have hb4 := st4.below
  clear hbx rl hst sh2 hEx st3E st3 st4
  generalize y.W = w4 at *
  go_wp2_with fail
  refine bodyPost_ret (v := .tuple #[.slice ts 1 tc, .slice none 0 0, .int .i64 0]) (by simp [results, Tryz.results72, go_sem]) rfl ⟨_, rfl, ⟨⟨ts, tc⟩, l9, h9, rfl, hT4, HF1.out.1.mono hz1, HF1.out.2.1.mono hz1, HF1.out.2.2.mono hz1⟩, hb4⟩
end Go.Proofs.YtmgdbfmlnmahpaaGreatDoor
