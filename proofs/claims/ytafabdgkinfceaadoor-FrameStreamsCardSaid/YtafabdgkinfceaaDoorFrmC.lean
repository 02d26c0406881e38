/- frame.Check, number, aviaryref03.Check, four, walked. -/
import Derived.Test.YtafabdgkinfceaaDoorFrm
import Derived.Test.YtafabdgkinfceaaDoorGet
import Derived.Test.YtafabdgkinfceaaDoorConv
namespace Go.Proofs.YtafabdgkinfceaaDoor
open Go.RowKit
set_option linter.unusedSimpArgs false
set_option linter.unusedVariables false

theorem region_tl {P : Program} {id : Nat} {Q : Exit → Act → World → Prop} {a : Act} {w : World} {l : List Oper} (n : Nat) (hm : P.follows .mixedOrders = true) (hB : Region.lexTailB .any l.toArray n = true)
    (h : wpStill P l.toArray w.drew (fun a' => wpList P l.toArray Q (l.drop n) a' w.drew) (l.take n) a) : (Code.region id l.toArray true).wp P Q a w :=
  wp_region_still_tail n hm hB h
theorem grw_below {W W' : World} (hg : Below W.heap.size W W') (row : Option Nat) : W.grownBy W' row := ⟨hg.os, hg.tape, hg.output, hg.size, fun k hk _ => hg.block k hk⟩
theorem grw_trans {X Y Z : World} {row : Option Nat} (h : X.grownBy Y row) (k : Y.grownBy Z row) : X.grownBy Z row :=
  ⟨k.os.trans h.os, k.tape.trans h.tape, k.output.trans h.output, Nat.le_trans h.size k.size, fun i hi hne => (k.block i (Nat.lt_of_lt_of_le hi h.size) hne).trans (h.block i hi hne)⟩
theorem grw_set (W : World) (b o : Nat) (u : Value) : W.grownBy (W.setCell ⟨b, o, none⟩ u) (some b) :=
  ⟨rfl, rfl, rfl, by simp [World.setCell], fun k _ hk => Below.heap_setCell _ _ _ k (fun e => hk (by rw [e]))⟩
theorem grw_drew (W : World) (row : Option Nat) : W.grownBy W.drew row := ⟨rfl, rfl, rfl, Nat.le_refl _, fun _ _ _ => rfl⟩

/-- the first block of a state, written by a callee -/
theorem St.swap {w0 : World} {bl : List Blk} {E : World → Prop} {w w' : World} {A : Nat} {cs cs' : Array Value} {T : TypeId} (h : St w0 ((A, cs, T) :: bl) E w) (hA : w0.heap.size ≤ A)
    (hg : w.grownBy w' (some A)) (hn : w'.heap[A]? = some (.cells cs' T (0, 0))) : St w0 ((A, cs', T) :: bl) (fun _ => True) w' := by
  have hnd := List.pairwise_cons.1 h.nd
  refine ⟨h.below.grown hg h.below.size (fun k e => by cases e; exact hA), ?_, ?_, trivial, fun _ _ _ _ => trivial⟩
  · intro x hx
    rcases List.mem_cons.1 hx with rfl | hx
    · exact hn
    · have hx0 := h.blk x (List.mem_cons_of_mem _ hx)
      exact (hg.block x.1 (blk_lt hx0) (by
        intro e
        have := hnd.1 x hx
        simp at e
        exact this e.symm)).trans hx0
  · exact List.Pairwise.cons hnd.1 hnd.2

set_option maxRecDepth 100000 in
set_option maxHeartbeats 2000000 in
theorem ctake_any (R S : Nat) (p : Nat × Nat) (x : UInt8) (hp1 : p.1 < 65521) (hp2 : p.2 < 65521) (T T' : TypeId) (w : World) (hR : w.heap[R]? = some (.cells #[.int .u32 p.1, .int .u32 p.2] T (0, 0))) (hS : w.heap[S]? = some (.cells #[.int .u8 x.toNat] T' (0, 0))) :
    Calls Tryd.prog 28 #[.pointer (some ⟨R, 0, none⟩), .slice (some ⟨S, 0, none⟩) 1 1] w fun e w' => (∃ u, e = .returned u) ∧ w'.heap[R]? = some (.cells #[.int .u32 (stepC p x).1, .int .u32 (stepC p x).2] T (0, 0)) ∧ w.grownBy w' (some R) := by
  have hx := x.toNat_lt
  obtain ⟨p1, p2⟩ := p
  simp only at hp1 hp2 hR
  have c := blk_cell hR
  have f := blk_free hR
  have cS := blk_cell hS
  have HS : Hid (stepC (p1, p2) x = ((p1 + x.toNat) % 65521, (p2 + (p1 + x.toNat) % 65521) % 65521)) := rfl
  generalize stepC (p1, p2) x = q at *
  generalize x.toNat = n at *
  have hm : ((p1 : Int) + (n : Int)) % 65521 = (((p1 + n) % 65521 : Nat) : Int) := by omega
  obtain ⟨a, ha, hal⟩ : ∃ a : Nat, (p1 + n) % 65521 = a ∧ a < 65521 := ⟨_, rfl, Nat.mod_lt _ (by decide)⟩
  rw [ha] at HS hm
  have hm2 : ((p2 : Int) + (a : Int)) % 65521 = (((p2 + a) % 65521 : Nat) : Int) := by omega
  obtain ⟨b, hb, hbl⟩ : ∃ b : Nat, (p2 + a) % 65521 = b ∧ b < 65521 := ⟨_, rfl, Nat.mod_lt _ (by decide)⟩
  rw [hb] at HS hm2
  clear ha hb
  have hw1 : IntKind.u32.wrap ((p1 : Int) + (n : Int)) = (p1 : Int) + (n : Int) := by simp [IntKind.wrap, IntKind.bits, IntKind.signed]; omega
  have hw2 : IntKind.u32.wrap ((p2 : Int) + (a : Int)) = (p2 : Int) + (a : Int) := by simp [IntKind.wrap, IntKind.bits, IntKind.signed]; omega
  go_enter Tryd.func28, Tryd.ntmps28
  go_wp2_with fail
  refine wp_loop_rounds 2 ?_
  rw [rounds_succ]
  go_wp2_with fail
  have hR1 := blk_set hR 0 (.int .u32 a)
  have hG1 := grw_set w R 0 (.int .u32 a)
  simp only [List.setIfInBounds_toArray, List.set_cons_zero] at hR1
  clear hS hR c f cS
  generalize w.setCell ⟨R, 0, none⟩ (.int .u32 a) = W at *
  have c := blk_cell hR1
  have f := blk_free hR1
  refine region_tl 13 (by kernel_rfl) (by kernel_rfl) ?_
  simp only [List.take_succ_cons, List.take_zero, List.drop_succ_cons, List.drop_zero]
  repeat still_step
  refine wpStill_nil ?_
  go_wp2_with fail
  rw [rounds_succ]
  go_wp2_with fail
  go_end0
  refine ⟨⟨_, rfl⟩, ?_, grw_trans (grw_trans hG1 (grw_set W R 1 _)) (grw_drew _ _)⟩
  rw [HS.out]
  exact blk_set hR1 1 _

theorem ba_get (s : ByteArray) (k : Nat) (h : k < s.size) : s.data.toList[k]? = some (s[k]'h) := by
  rw [Array.getElem?_toList, Array.getElem?_eq_getElem (by simpa using h)]
  rfl

set_option maxRecDepth 100000 in
set_option maxHeartbeats 2000000 in
theorem fcheck_any (s : ByteArray) (hs : s.size ≤ 9223372036854775807) (w : World) :
    Calls Tryd.prog 16 #[.string s] w fun e w' => e = .returned (.int .u32 (chkN s.data.toList)) ∧ Below w.heap.size w w' := by
  have hz : s.data.toList.length = s.size := by simp
  have st0 := (St.start w).alloc (cs := #[.int .u32 1, .int .u32 0]) (T := 56)
  have HN : Hid (chkN s.data.toList = (chkP s.data.toList).2 * 65536 + (chkP s.data.toList).1) := rfl
  generalize chkN s.data.toList = N at *
  go_enter Tryd.func16, Tryd.ntmps16
  go_wp2_with fail
  go_loopw [9] (fun i wr => ∃ (k : Nat) (p : Nat × Nat), k ≤ s.size ∧ i = .int .i64 k ∧ Hid (p = chkP (s.data.toList.take k)) ∧ St w [(w.heap.size, #[.int .u32 p.1, .int .u32 p.2], 56)] (fun _ => True) wr) (fun i _ => s.size - (intOf i).toNat)
  case atStart => exact ⟨0, (1, 0), Nat.zero_le _, rfl, Lib.hid rfl, st0⟩
  case round =>
    obtain ⟨k, p, hk, rfl, HP, st⟩ := hrel
    clear st0
    have hpl := chkP_lt (s.data.toList.take k)
    rw [← HP.out] at hpl
    obtain ⟨hp1, hp2⟩ := hpl
    by_cases hlt : k < s.size
    · have HX := Lib.hid (ba_get s k hlt)
      have st1 := (st.alloc (cs := #[.int .u8 s[k].toNat]) (T := 5))
      have hR := st1.blk _ (List.mem_of_getElem? (i := 1) rfl)
      have hS := st1.blk _ (List.mem_of_getElem? (i := 0) rfl)
      have hB := (Below.refl wr.heap.size wr).alloc (Nat.le_refl _) (.cells #[.int .u8 s[k].toNat] 5)
      go_wp2_with fail
      refine (ctake_any _ _ p s[k] hp1 hp2 _ _ _ hR hS).mono ?_
      rintro e w2 ⟨⟨u, rfl⟩, hR2, hG2⟩
      have st2 := St.swap st (Nat.le_refl _) (grw_trans (grw_below hB _) hG2) hR2
      clear st st1 hR hS hB hR2 hG2
      go_wp2_with fail
      go_roundw
      case rel => exact ⟨k + 1, stepC p s[k], by omega, by go_num, by show _ = _; rw [chkP_take HX.out, HP.out], st2⟩
      case measure => simp [intOf]; omega
    · obtain rfl : k = s.size := by omega
      rw [← hz, List.take_length] at HP
      rw [← HP.out] at HN
      have rl := st.rules
      simp only [Rules] at rl
      go_wp2_with fail
      go_ret
      exact ⟨ret_int (by rw [HN.out]; simp), st.below⟩


theorem or_shift (n x : Nat) (hn : n < 16777216) (hx : x < 256) : bits .or .u32 ((n : Int) * 256) (x : Int) = ((256 * n + x : Nat) : Int) := by
  show IntKind.u32.wrap ((BitVec.ofInt 32 ((n : Int) * 256) ||| BitVec.ofInt 32 (x : Int)).toNat : Int) = _
  have h1 : BitVec.ofInt 32 ((n : Int) * 256) = BitVec.ofNat 32 n <<< 8 := by
    apply BitVec.eq_of_toNat_eq
    simp [Nat.shiftLeft_eq]
    omega
  have h2 : BitVec.ofInt 32 (x : Int) = BitVec.ofNat 32 x := by
    apply BitVec.eq_of_toNat_eq
    simp
  have h3 : (BitVec.ofNat 32 n <<< 8 ||| BitVec.ofNat 32 x).toNat = 256 * n + x := by
    rw [BitVec.toNat_or, BitVec.toNat_shiftLeft, BitVec.toNat_ofNat, BitVec.toNat_ofNat, Nat.mod_eq_of_lt (show n < 2 ^ 32 by omega), Nat.mod_eq_of_lt (show x < 2 ^ 32 by omega), Nat.mod_eq_of_lt (by rw [Nat.shiftLeft_eq]; omega), ← Nat.shiftLeft_add_eq_or_of_lt (by omega), Nat.shiftLeft_eq]
    omega
  rw [h1, h2, h3]
  simp [IntKind.wrap, IntKind.bits, IntKind.signed]
  omega

set_option maxRecDepth 100000 in
set_option maxHeartbeats 2000000 in
theorem fnum_any (s : ByteArray) (hs : s.size ≤ 4) (w : World) :
    Calls Tryd.prog 33 #[.string s] w fun e w' => e = .returned (.int .u32 (val s.data.toList)) ∧ w' = w := by
  have hz : s.data.toList.length = s.size := by simp
  go_enter Tryd.func33, Tryd.ntmps33
  go_wp2_with fail
  go_loopw [3, 7] (fun v i wr => ∃ (k n : Nat), k ≤ s.size ∧ i = .int .i64 k ∧ v = .int .u32 n ∧ Hid (n = val (s.data.toList.take k)) ∧ wr = w) (fun _ i _ => s.size - (intOf i).toNat)
  case atStart => exact ⟨0, 0, Nat.zero_le _, rfl, rfl, Lib.hid rfl, rfl⟩
  case round =>
    obtain ⟨k, n, hk, rfl, rfl, HN, rfl⟩ := hrel
    by_cases hlt : k < s.size
    · have HX := Lib.hid (ba_get s k hlt)
      have hv := val_lt (s.data.toList.take k)
      rw [← HN.out, List.length_take, hz, Nat.min_eq_left hk] at hv
      have hn : n < 16777216 := Nat.lt_of_lt_of_le hv (Nat.le_trans (Nat.pow_le_pow_right (by decide) (show k ≤ 3 by omega)) (by decide))
      have hx := (s[k]'hlt).toNat_lt
      have hor := or_shift n (s[k]'hlt).toNat hn hx
      have HS : Hid (256 * n + (s[k]'hlt).toNat = val (s.data.toList.take (k + 1))) := by
        show _ = _
        rw [List.take_add_one, HX.out, HN.out]
        exact (val_snoc _ _).symm
      have hwr : IntKind.u32.wrap ((n : Int) * 256) = (n : Int) * 256 := by simp [IntKind.wrap, IntKind.bits, IntKind.signed]; omega
      clear hv
      go_wp2_with fail
      go_roundw
      case rel => exact ⟨k + 1, 256 * n + (s[k]'hlt).toNat, by omega, by go_num, rfl, HS, by trivial⟩
      case measure => simp [intOf]; omega
    · obtain rfl : k = s.size := by omega
      rw [← hz, List.take_length] at HN
      go_wp2_with fail
      go_ret
      exact ⟨by rw [← HN.out]; rfl, rfl⟩

set_option maxRecDepth 100000 in
set_option maxHeartbeats 2000000 in
theorem rcheck_any (s : ByteArray) (hs : s.size ≤ 9223372036854775807) (w : World) :
    Calls Tryd.prog 17 #[.string s] w fun e w' => e = .returned (.int .u32 (chkN s.data.toList)) ∧ w' = w := by
  have hz : s.data.toList.length = s.size := by simp
  have HN : Hid (chkN s.data.toList = (chkP s.data.toList).2 * 65536 + (chkP s.data.toList).1) := rfl
  generalize chkN s.data.toList = N at *
  go_enter Tryd.func17, Tryd.ntmps17
  go_wp2_with fail
  go_loopw [3, 4, 5] (fun va vb i wr => ∃ (k : Nat) (p : Nat × Nat), k ≤ s.size ∧ i = .int .i64 k ∧ va = .int .u32 p.1 ∧ vb = .int .u32 p.2 ∧ Hid (p = chkP (s.data.toList.take k)) ∧ wr = w) (fun _ _ i _ => s.size - (intOf i).toNat)
  case atStart => exact ⟨0, (1, 0), Nat.zero_le _, rfl, rfl, rfl, Lib.hid rfl, rfl⟩
  case round =>
    obtain ⟨k, p, hk, rfl, rfl, rfl, HP, rfl⟩ := hrel
    have hpl := chkP_lt (s.data.toList.take k)
    rw [← HP.out] at hpl
    obtain ⟨p1, p2⟩ := p
    obtain ⟨hp1, hp2⟩ := hpl
    simp only at hp1 hp2
    by_cases hlt : k < s.size
    · have HX := Lib.hid (ba_get s k hlt)
      have hx := (s[k]'hlt).toNat_lt
      have HS : Hid (((p1 + (s[k]'hlt).toNat) % 65521, (p2 + (p1 + (s[k]'hlt).toNat) % 65521) % 65521) = chkP (s.data.toList.take (k + 1))) := by
        show _ = _
        rw [chkP_take HX.out, ← HP.out]
        rfl
      have hm : ((p1 : Int) + ((s[k]'hlt).toNat : Int)) % 65521 = (((p1 + (s[k]'hlt).toNat) % 65521 : Nat) : Int) := by omega
      obtain ⟨a, ha, hal⟩ : ∃ a : Nat, (p1 + (s[k]'hlt).toNat) % 65521 = a ∧ a < 65521 := ⟨_, rfl, Nat.mod_lt _ (by decide)⟩
      rw [ha] at HS hm
      have hm2 : ((p2 : Int) + (a : Int)) % 65521 = (((p2 + a) % 65521 : Nat) : Int) := by omega
      obtain ⟨b, hb, hbl⟩ : ∃ b : Nat, (p2 + a) % 65521 = b ∧ b < 65521 := ⟨_, rfl, Nat.mod_lt _ (by decide)⟩
      rw [hb] at HS hm2
      clear ha hb
      go_wp2_with fail
      go_roundw
      case rel => exact ⟨k + 1, (a, b), by omega, by go_num, by first | rfl | rw [hm], by first | rfl | rw [hm2], HS, by trivial⟩
      case measure => simp [intOf]; omega
    · obtain rfl : k = s.size := by omega
      rw [← hz, List.take_length] at HP
      rw [← HP.out] at HN
      go_wp2_with fail
      go_ret
      exact ⟨ret_int (by rw [HN.out]; simp; omega), rfl⟩

@[go_sem] theorem conv4 (W : World) (g : Nat) (x y z u : Int) (hg : g = W.heap.size) :
    (convert 32 9 (.slice (some ⟨g, 0, none⟩) 4 4)).run Tryd.prog (W.alloc (.cells #[.int .u8 x, .int .u8 y, .int .u8 z, .int .u8 u] 5)) = .ok (.string ⟨#[UInt8.ofNat x.toNat, UInt8.ofNat y.toNat, UInt8.ofNat z.toNat, UInt8.ofNat u.toNat]⟩) (W.alloc (.cells #[.int .u8 x, .int .u8 y, .int .u8 z, .int .u8 u] 5)) :=
  conv_list (P := Tryd.prog) W 32 9 5 Tryd.underlying32 Tryd.underlying5 Tryd.underlying9 [x, y, z, u] g 4 hg
def be4B (n : Nat) : ByteArray := ⟨(be n 4).toArray⟩
theorem be4 (n : Nat) : be n 4 = [UInt8.ofNat (n / 16777216), UInt8.ofNat (n / 65536 % 256), UInt8.ofNat (n / 256 % 256), UInt8.ofNat (n % 256)] := by
  simp only [be, u8_mod]
  simp
theorem be4B_size (n : Nat) : (be4B n).size = 4 := by show (be n 4).toArray.size = 4; rw [List.size_toArray, be_length]

set_option maxRecDepth 100000 in
theorem four_any (n : Nat) (hn : n < 4294967296) (w : World) :
    Calls Tryd.prog 24 #[.int .u32 n] w fun e w' => e = .returned (.string (be4B n)) ∧ Below w.heap.size w w' := by
  have HB : Hid (be4B n = ⟨(be n 4).toArray⟩) := rfl
  rw [be4] at HB
  generalize be4B n = B at *
  go_enter Tryd.func24, Tryd.ntmps24
  go_wp2_with fail
  go_ret
  exact ⟨by rw [HB.out]; rfl, (Below.refl _ _).alloc (Nat.le_refl _) _⟩

end Go.Proofs.YtafabdgkinfceaaDoor
