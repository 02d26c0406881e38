/- SipBlocks: for every key and text (its first three hundred bytes) a sum is made of rounds of eights of bytes. No condition. -/
import Derived.Test.YtddggjimggikpaaRows
import Derived.Test.YtddggjimggikpaaKey
import Derived.Test.YtddggjimggikpaaOpen
import Derived.WalkKit
import Derived.ProofKit
import Derived.OpenShut
import Derived.ShutString
import Derived.ChangeOld
import Derived.Below
namespace Go.Proofs.Ytddggjimggikpaa.sipBlocks
open Go.ChangeShapes Go.WideShapes Go.ChangeAt Go.RowKit Go.Joins
set_option linter.unusedVariables false

theorem own : ownKnob Try.prog.godebug = none := by kernel_rfl
theorem laidOut : laidOutB Try.prog = true := by kernel_rfl

attribute [local go_sem] wrap_add wrap_sub bits_xor bits_or bits_and wrap_shl div_shr wrap_un_id byte_un xor_ff xor_c0 xor_c1 xor_c2 xor_c3 len_shl56
attribute [local irreducible] rnd

theorem len_shl56m (k : Nat) : IntKind.u64.wrap ((k : Int) % 256 * 72057594037927936) = un ((BitVec.ofNat 64 k) <<< 56) := by
  have e : ((k : Int) % 256) = ((k % 256 : Nat) : Int) := by omega
  rw [e, len_shl56]
  refine congrArg un (BitVec.eq_of_toNat_eq ?_)
  rw [shl_nat, shl_nat, Nat.mod_mod]
attribute [local go_sem] len_shl56m

theorem take_snoc_fold (v : V4) (l : List UInt8) (k : Nat) (h : k < (msgs l).length) : foldV v ((msgs l).take (k + 1)) = takeV (foldV v ((msgs l).take k)) ((msgs l)[k]) := by
  rw [List.take_succ_eq_append_getElem h]
  unfold foldV
  rw [List.foldl_append]
  rfl
theorem msgs_length (l : List UInt8) : (msgs l).length = l.length / 8 + 1 := by simp [msgs]
theorem msgs_lt (l : List UInt8) (k : Nat) (h : k < l.length / 8) : (msgs l)[k]'(by rw [msgs_length]; omega) = blk l k := by
  unfold msgs
  rw [List.getElem_append_left (by simpa using h)]
  simp
theorem msgs_last (l : List UInt8) : (msgs l)[l.length / 8]'(by rw [msgs_length]; omega) = endBlk l := by
  unfold msgs
  rw [List.getElem_append_right (by simp)]
  simp
theorem end_of_blk (l : List UInt8) : blk l (l.length / 8) ||| (BitVec.ofNat 64 l.length) <<< 56 = endBlk l := by
  unfold blk endBlk
  rw [List.take_of_length_le (by simp; omega)]

set_option maxRecDepth 100000 in
set_option maxHeartbeats 4000000 in
theorem walk (a0 b0 : BitVec 64) (s1 : ByteArray) (hs1 : s1.size ≤ 9223372036854775807) (w : World) :
    Calls Try.prog 7 #[.agg #[.int .u64 (un a0), .int .u64 (un b0)], .string s1] w fun e w' => e = .returned (.bool true) ∧ Below w.heap.size w w' := by
  have hcut := cutS_size s1
  go_enter Try.func7, Try.ntmps7
  go_wp2_with fail
  refine (shown_any _).mono ?_
  rintro e w1 ⟨rfl, hb1⟩
  have hk := (KeyAt.box w a0 b0).below hb1
  have hB1 : Below w.heap.size w w1 := ((Below.refl _ _).alloc (Nat.le_refl _) _).trans (hb1.mono (by simp))
  clear hb1
  go_wp2_with fail
  refine (cut_any s1 hs1 _).mono ?_
  rintro e w2 ⟨rfl, rfl⟩
  generalize cutS s1 = s at *
  have k0 := hk.c0
  have k1 := hk.c1
  have hkl := hk.lt
  go_wp2_with fail
  clear k0 k1
  have HB : Blk4 (w2.alloc (Obj.cells #[Value.int IntKind.u64 (un (a0 ^^^ 8317987319222330741#64)), Value.int IntKind.u64 (un (b0 ^^^ 7237128888997146477#64)), Value.int IntKind.u64 (un (a0 ^^^ 7816392313619706465#64)), Value.int IntKind.u64 (un (b0 ^^^ 8387220255154660723#64))] 29)) w2.heap.size 29 (beginV a0 b0) := World.alloc_heap_new w2 _
  have HBe : Below w2.heap.size w2 (w2.alloc (Obj.cells #[Value.int IntKind.u64 (un (a0 ^^^ 8317987319222330741#64)), Value.int IntKind.u64 (un (b0 ^^^ 7237128888997146477#64)), Value.int IntKind.u64 (un (a0 ^^^ 7816392313619706465#64)), Value.int IntKind.u64 (un (b0 ^^^ 8387220255154660723#64))] 29)) := (Below.refl _ _).alloc (Nat.le_refl _) _
  generalize w2.alloc (Obj.cells #[Value.int IntKind.u64 (un (a0 ^^^ 8317987319222330741#64)), Value.int IntKind.u64 (un (b0 ^^^ 7237128888997146477#64)), Value.int IntKind.u64 (un (a0 ^^^ 7816392313619706465#64)), Value.int IntKind.u64 (un (b0 ^^^ 8387220255154660723#64))] 29) = w0 at *
  go_loopw [7] (fun i wr => ∃ k : Nat, k ≤ s.size / 8 + 1 ∧ i = .int .i64 k ∧ Blk4 wr w2.heap.size 29 (foldV (beginV a0 b0) ((msgs s.data.toList).take k)) ∧ Below w2.heap.size w2 wr) (fun i _ => s.size / 8 + 1 - (intOf i).toNat)
  case atStart => exact ⟨0, Nat.zero_le _, rfl, HB, HBe⟩
  case round =>
    obtain ⟨k, hk1, rfl, hB, hBe⟩ := hrel
    clear HB HBe
    by_cases hlt : k < s.size / 8 + 1
    · obtain ⟨wo, rfl⟩ : ∃ wo : World, wo = wr := ⟨_, rfl⟩
      have hd : decide ((k : Int) ≤ (s.size : Int) / 8) = true := by simp; omega
      have hks : 8 * k ≤ s.size := by omega
      go_wp2_with fail
      go_loop [8, 9] (fun m i => ∃ q : Nat, q ≤ 8 ∧ 8 * k + q ≤ s.size ∧ i = .int .i64 q ∧ m = .int .u64 (un (num ((s.data.toList.drop (8 * k)).take q)))) (fun _ i => 8 - (intOf i).toNat)
      case atStart => exact ⟨0, Nat.zero_le _, hks, rfl, rfl⟩
      case round =>
        obtain ⟨q, hq, hqs, rfl, rfl⟩ := hrel
        by_cases hq8 : q < 8 ∧ 8 * k + q < s.size
        · obtain ⟨hq8, hix⟩ := hq8
          have HS : Hid (num ((s.data.toList.drop (8 * k)).take (q + 1)) = num ((s.data.toList.drop (8 * k)).take q) ||| (BitVec.ofNat 64 s[8 * k + q].toNat) <<< (8 * q)) := by
            show _ = _
            have hlen : q < (s.data.toList.drop (8 * k)).length := by simp; omega
            rw [List.take_succ_eq_append_getElem hlen, num_snoc]
            rw [List.length_take, Nat.min_eq_left (by omega), List.getElem_drop]
            rfl
          go_wp2
          go_round
          case rel => exact ⟨q + 1, by omega, by omega, by go_num, by rw [HS.out]⟩
          case measure => simp [intOf]; omega
        · have hsl : s.data.toList.length = s.size := by simp
          by_cases hkq : k < s.size / 8
          · obtain rfl : q = 8 := by omega
            have hne : ((k : Int) == (s.size : Int) / 8) = false := by rw [beq_eq_false_iff_ne]; omega
            have HM : Hid (foldV (beginV a0 b0) ((msgs s.data.toList).take (k + 1)) = takeV (foldV (beginV a0 b0) ((msgs s.data.toList).take k)) (num ((s.data.toList.drop (8 * k)).take 8))) := by
              show _ = _
              rw [take_snoc_fold _ _ _ (by rw [msgs_length, hsl]; omega), msgs_lt _ _ (by rw [hsl]; exact hkq)]
              rfl
            clear hsl
            generalize num ((s.data.toList.drop (8 * k)).take 8) = m at *
            generalize foldV (beginV a0 b0) ((msgs s.data.toList).take k) = v at *
            obtain ⟨c0, c1, c2, c3⟩ := hB.cells
            have f := hB.frozen
            go_wp2_with fail
            refine (sipRound_any ⟨v.a, v.b, v.c, v.d ^^^ m⟩ _).mono ?_
            rintro e w3 ⟨rfl, hb1⟩
            go_wp2_with fail
            refine (sipRound_any (rnd ⟨v.a, v.b, v.c, v.d ^^^ m⟩) _).mono ?_
            rintro e w4 ⟨rfl, hb2⟩
            have hB2 := ((hB.set3 (v.d ^^^ m)).below hb1).below hb2
            have hBe2 : Below w2.heap.size w2 w4 := by
              have h1 := hBe.setCell (p := ⟨w2.heap.size, 3, none⟩) (by simp) (.int .u64 (un (v.d ^^^ m)))
              have h2 := h1.trans (hb1.mono h1.size)
              exact h2.trans (hb2.mono h2.size)
            clear c0 c1 c2 c3 f hb1 hb2 hB hBe
            obtain ⟨c0, c1, c2, c3⟩ := hB2.cells
            have f := hB2.frozen
            have HT : Hid (takeV v m = ⟨(rnd (rnd ⟨v.a, v.b, v.c, v.d ^^^ m⟩)).a ^^^ m, (rnd (rnd ⟨v.a, v.b, v.c, v.d ^^^ m⟩)).b, (rnd (rnd ⟨v.a, v.b, v.c, v.d ^^^ m⟩)).c, (rnd (rnd ⟨v.a, v.b, v.c, v.d ^^^ m⟩)).d⟩) := rfl
            generalize rnd (rnd ⟨v.a, v.b, v.c, v.d ^^^ m⟩) = r at *
            go_wp2_with fail
            go_roundw
            case rel => exact ⟨k + 1, by omega, by go_num, by rw [HM.out, HT.out]; exact (hB2.set r).set0 _, ((((hBe2.setCell (p := ⟨w2.heap.size, 0, none⟩) (by simp) _).setCell (p := ⟨w2.heap.size, 1, none⟩) (by simp) _).setCell (p := ⟨w2.heap.size, 2, none⟩) (by simp) _).setCell (p := ⟨w2.heap.size, 3, none⟩) (by simp) _).setCell (p := ⟨w2.heap.size, 0, none⟩) (by simp) _⟩
            case measure => simp [intOf]; omega
          · obtain ⟨q0, hq0⟩ : ∃ q0, q0 = q := ⟨q, rfl⟩
            have hks2 : k = s.size / 8 := by omega
            have hq9 : q < 8 := by omega
            have hq10 : 8 * k + q = s.size := by omega
            have hd2 : decide (8 * (k : Int) + (q : Int) < (s.size : Int)) = false := by simp; omega
            have hd3 : ¬ (8 * (k : Int) + (q : Int) < (s.size : Int)) := by omega
            have heq : ((k : Int) == (s.size : Int) / 8) = true := by rw [beq_iff_eq]; omega
            have hn : num ((s.data.toList.drop (8 * k)).take q) = blk s.data.toList k := by
              unfold blk
              rw [List.take_of_length_le (by simp; omega), List.take_of_length_le (by simp; omega)]
            have HM : Hid (foldV (beginV a0 b0) ((msgs s.data.toList).take (k + 1)) = takeV (foldV (beginV a0 b0) ((msgs s.data.toList).take k)) (blk s.data.toList k ||| (BitVec.ofNat 64 s.size) <<< 56)) := by
              show _ = _
              rw [take_snoc_fold _ _ _ (by rw [msgs_length, hsl]; omega)]
              have e2 : (msgs s.data.toList)[k]'(by rw [msgs_length, hsl]; omega) = endBlk s.data.toList := by
                have := msgs_last s.data.toList
                simp only [hsl, ← hks2] at this
                exact this
              rw [e2, ← end_of_blk, hsl, ← hks2]
            rw [hn]
            clear hn hsl hq0 hks2 hq10
            generalize blk s.data.toList k = m0 at *
            generalize foldV (beginV a0 b0) ((msgs s.data.toList).take k) = v at *
            obtain ⟨c0, c1, c2, c3⟩ := hB.cells
            have f := hB.frozen
            go_wp2_with fail
            refine (sipRound_any ⟨v.a, v.b, v.c, v.d ^^^ (m0 ||| (BitVec.ofNat 64 s.size) <<< 56)⟩ _).mono ?_
            rintro e w3 ⟨rfl, hb1⟩
            go_wp2_with fail
            refine (sipRound_any (rnd ⟨v.a, v.b, v.c, v.d ^^^ (m0 ||| (BitVec.ofNat 64 s.size) <<< 56)⟩) _).mono ?_
            rintro e w4 ⟨rfl, hb2⟩
            have hB2 := ((hB.set3 (v.d ^^^ (m0 ||| (BitVec.ofNat 64 s.size) <<< 56))).below hb1).below hb2
            have hBe2 : Below w2.heap.size w2 w4 := by
              have h1 := hBe.setCell (p := ⟨w2.heap.size, 3, none⟩) (by simp) (.int .u64 (un (v.d ^^^ (m0 ||| (BitVec.ofNat 64 s.size) <<< 56))))
              have h2 := h1.trans (hb1.mono h1.size)
              exact h2.trans (hb2.mono h2.size)
            clear c0 c1 c2 c3 f hb1 hb2 hB hBe
            obtain ⟨c0, c1, c2, c3⟩ := hB2.cells
            have f := hB2.frozen
            have HT : Hid (takeV v (m0 ||| (BitVec.ofNat 64 s.size) <<< 56) = ⟨(rnd (rnd ⟨v.a, v.b, v.c, v.d ^^^ (m0 ||| (BitVec.ofNat 64 s.size) <<< 56)⟩)).a ^^^ (m0 ||| (BitVec.ofNat 64 s.size) <<< 56), (rnd (rnd ⟨v.a, v.b, v.c, v.d ^^^ (m0 ||| (BitVec.ofNat 64 s.size) <<< 56)⟩)).b, (rnd (rnd ⟨v.a, v.b, v.c, v.d ^^^ (m0 ||| (BitVec.ofNat 64 s.size) <<< 56)⟩)).c, (rnd (rnd ⟨v.a, v.b, v.c, v.d ^^^ (m0 ||| (BitVec.ofNat 64 s.size) <<< 56)⟩)).d⟩) := rfl
            generalize rnd (rnd ⟨v.a, v.b, v.c, v.d ^^^ (m0 ||| (BitVec.ofNat 64 s.size) <<< 56)⟩) = r at *
            go_wp2_with fail
            go_roundw
            case rel => exact ⟨k + 1, by omega, by go_num, by rw [HM.out, HT.out]; exact (hB2.set r).set0 _, ((((hBe2.setCell (p := ⟨w2.heap.size, 0, none⟩) (by simp) _).setCell (p := ⟨w2.heap.size, 1, none⟩) (by simp) _).setCell (p := ⟨w2.heap.size, 2, none⟩) (by simp) _).setCell (p := ⟨w2.heap.size, 3, none⟩) (by simp) _).setCell (p := ⟨w2.heap.size, 0, none⟩) (by simp) _⟩
            case measure => simp [intOf]; omega
    · obtain rfl : k = s.size / 8 + 1 := by omega
      have HR : Hid (sipSum a0 b0 s.data.toList = endV (foldV (beginV a0 b0) ((msgs s.data.toList).take (s.size / 8 + 1)))) := by
        show _ = _
        rw [List.take_of_length_le (by rw [msgs_length]; simp)]
        rfl
      generalize foldV (beginV a0 b0) ((msgs s.data.toList).take (s.size / 8 + 1)) = v at *
      obtain ⟨c0, c1, c2, c3⟩ := hB.cells
      have f := hB.frozen
      have hd : decide (((s.size / 8 + 1 : Nat) : Int) ≤ (s.size : Int) / 8) = false := by simp; omega
      have hN1 : (s.size : Int) / 8 < ((s.size / 8 + 1 : Nat) : Int) := by omega
      have hN2 : s.size / 8 + 1 ≤ 1000 := by omega
      generalize s.size / 8 + 1 = N at *
      go_wp2_with fail
      refine (sipRound_any ⟨v.a, v.b, v.c ^^^ 255#64, v.d⟩ _).mono ?_
      rintro e w3 ⟨rfl, hb1⟩
      go_wp2_with fail
      refine (sipRound_any (rnd ⟨v.a, v.b, v.c ^^^ 255#64, v.d⟩) _).mono ?_
      rintro e w4 ⟨rfl, hb2⟩
      go_wp2_with fail
      refine (sipRound_any (rnd (rnd ⟨v.a, v.b, v.c ^^^ 255#64, v.d⟩)) _).mono ?_
      rintro e w5 ⟨rfl, hb3⟩
      go_wp2_with fail
      refine (sipRound_any (rnd (rnd (rnd ⟨v.a, v.b, v.c ^^^ 255#64, v.d⟩))) _).mono ?_
      rintro e w6 ⟨rfl, hb4⟩
      have hB4 := ((((hB.set2 (v.c ^^^ 255#64)).below hb1).below hb2).below hb3).below hb4
      have hBe4 : Below w2.heap.size w2 w6 := by
        have h1 := hBe.setCell (p := ⟨w2.heap.size, 2, none⟩) (by simp) (.int .u64 (un (v.c ^^^ 255#64)))
        have h2 := h1.trans (hb1.mono h1.size)
        have h3 := h2.trans (hb2.mono h2.size)
        have h4 := h3.trans (hb3.mono h3.size)
        exact h4.trans (hb4.mono h4.size)
      clear c0 c1 c2 c3 f hb1 hb2 hb3 hb4 hB hBe
      obtain ⟨c0, c1, c2, c3⟩ := hB4.cells
      have f := hB4.frozen
      have HE : Hid (endV v = (rnd (rnd (rnd (rnd ⟨v.a, v.b, v.c ^^^ 255#64, v.d⟩)))).a ^^^ (rnd (rnd (rnd (rnd ⟨v.a, v.b, v.c ^^^ 255#64, v.d⟩)))).b ^^^ (rnd (rnd (rnd (rnd ⟨v.a, v.b, v.c ^^^ 255#64, v.d⟩)))).c ^^^ (rnd (rnd (rnd (rnd ⟨v.a, v.b, v.c ^^^ 255#64, v.d⟩)))).d) := rfl
      generalize rnd (rnd (rnd (rnd ⟨v.a, v.b, v.c ^^^ 255#64, v.d⟩))) = r at *
      have hB5 := hB4.set r
      have hBe5 := (((hBe4.setCell (p := ⟨w2.heap.size, 0, none⟩) (by simp) (.int .u64 (un r.a))).setCell (p := ⟨w2.heap.size, 1, none⟩) (by simp) (.int .u64 (un r.b))).setCell (p := ⟨w2.heap.size, 2, none⟩) (by simp) (.int .u64 (un r.c))).setCell (p := ⟨w2.heap.size, 3, none⟩) (by simp) (.int .u64 (un r.d))
      go_wp2_with fail
      clear c0 c1 c2 c3 f hB4 hBe4
      generalize (((w6.setCell ⟨w2.heap.size, 0, none⟩ (.int .u64 (un r.a))).setCell ⟨w2.heap.size, 1, none⟩ (.int .u64 (un r.b))).setCell ⟨w2.heap.size, 2, none⟩ (.int .u64 (un r.c))).setCell ⟨w2.heap.size, 3, none⟩ (.int .u64 (un r.d)) = w7 at *
      have hk7 := hk.below hBe5
      obtain ⟨m0, m1⟩ := hk7.cw
      obtain ⟨c0, c1, c2, c3⟩ := hB5.cells
      have n0 := Cw.cell _ 0 _ hB5.lt c0
      have n1 := Cw.cell _ 1 _ hB5.lt c1
      have n2 := Cw.cell _ 2 _ hB5.lt c2
      have n3 := Cw.cell _ 3 _ hB5.lt c3
      clear c0 c1 c2 c3
      have hfin : sipSum a0 b0 s.data.toList = r.a ^^^ r.b ^^^ r.c ^^^ r.d := by rw [HR.out, HE.out]
      refine region_cw (by kernel_rfl) (by kernel_rfl) ?_
      repeat (first | go_big_quiet_step ((go_at_call 11; exact Cw.call (sum_any _ _ _ (by omega) _))) | quiet_step ((go_at_call 11; exact Cw.call (sum_any _ _ _ (by omega) _))))
      refine wpQuiet_nil ?_
      intro x
      go_wp2_with fail
      go_ret
      exact ⟨rfl, (hB1.trans (hBe5.mono (Nat.le_of_lt hkl))).trans (x.below.mono (by have := hk7.lt; omega))⟩


set_option maxRecDepth 100000 in
theorem lifted (os : Os) (started : os.Started) (H : Type) (enc : TypeId × Value → H) :
    ReturnsInHanded {} Try.checked os 7 .any (Rows.sipBlocksSpec.pre6 enc Try.prog Try.f7 Rows.sipBlocksRow.domain false) (Rows.sipBlocksSpec.post enc Try.prog Try.f7 false true false false) := by
  refine returnsInHanded_of_change (C := Try.checked) own started (by kernel_rfl) Try.func7
    (ChangeSpec.witness6 (enc := enc) (C := Try.checked) false ⟨#[], #[.agg #[.int .u64 0, .int .u64 0], .string ⟨#[]⟩], []⟩ 8 (by kernel_rfl) (by kernel_rfl) (by kernel_rfl) (by kernel_rfl)) ?_
  intro W base args ds gs before hval0 hW hcnd _
  have hval : ∀ (j : Nat) t v, Try.f7.params[j]? = some t → args[j]? = some v → Value.okWide Try.prog W .any base t v := hval0
  have hW' := hW
  obtain ⟨p, q, hA0, hV, rfl, hfz, hnd⟩ := hW
  have hA : DataW.TrodAll enc Try.prog W 0 (fun _ => true) true Try.f7.params.toList args.toList ds p := hA0
  rw [Try.params7] at hA hval
  obtain ⟨v0, vs0, d0, ds0, p0, q0, hargs, rfl, rfl, h0, r0⟩ := trodAll_cons hA
  obtain ⟨v1, vs1, d1, ds1, p1, q1, rfl, rfl, rfl, h1, r1⟩ := trodAll_cons r0
  obtain ⟨rfl, rfl, rfl⟩ := trodAll_nil r1
  obtain rfl : args = #[v0, v1] := by cases args; simp_all
  obtain ⟨rfl, rfl⟩ := trodVars_none hV
  have k0 := h0
  have lt0 : ∀ x ∈ p0, x.block < W.heap.size := by obtain ⟨m, hm⟩ := k0; exact DataW.trod_lt m _ _ _ hm
  obtain ⟨a0, b0, rfl⟩ := openKey (hval 0 24 v0 rfl rfl) h0
  have k1 := h1
  have lt1 : ∀ x ∈ p1, x.block < W.heap.size := by obtain ⟨m, hm⟩ := k1; exact DataW.trod_lt m _ _ _ hm
  obtain ⟨s1, rfl, hs1⟩ := openStr (hval 1 9 v1 rfl rfl) h1
  clear hA0 hval0
  refine (walk a0 b0 s1 hs1 W).mono fun e W' ⟨he, bel⟩ => ?_
  subst he
  exact ⟨_, rfl, _, _, _, [], _, [], hW', trodAll_mk1 (shut_bool Try.underlying4 _), (trodAll_cons_mk (Below.trod laidOut (by kernel_rfl) (of_decide_eq_true (by kernel_rfl)) k0 bel lt0) (trodAll_cons_mk (Below.trod laidOut (by kernel_rfl) (of_decide_eq_true (by kernel_rfl)) k1 bel lt1) trodAll_mk0)), rfl, bel.frame _, fun h => by cases h⟩

theorem over : Rows.sipBlocksRow.holds Try.pinned (OpenSpec.ofChange Rows.sipBlocksSpec) :=
  OpenClaim.holds_of_wide 7 Try.f7 rfl rfl rfl rfl rfl rfl rfl ⟨rfl, rfl, rfl, rfl, rfl⟩ rfl rfl rfl rfl rfl (by kernel_rfl) Try.func7 (by kernel_rfl)
    (of_decide_eq_true (by kernel_rfl)) (by unfold Func.isWrapper; first | (rw [if_pos (by decide +kernel)]; kernel_rfl) | (rw [if_neg (by decide +kernel)]; exact ⟨rfl, rfl⟩))
    (fun os started H enc _ => lifted os started H enc)

/-- THE STATEMENT -/
theorem proved : Rows.SipBlocksSaid := over
#print axioms proved
end Go.Proofs.Ytddggjimggikpaa.sipBlocks
