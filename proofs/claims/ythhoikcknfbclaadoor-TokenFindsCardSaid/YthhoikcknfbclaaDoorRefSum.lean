/- The reference's Sum, walked. -/
import Derived.Test.YthhoikcknfbclaaDoorRefRound
import Derived.Test.YthhoikcknfbclaaDoorSum3
import Derived.Test.YthhoikcknfbclaaDoorConv
namespace Go.Proofs.YthhoikcknfbclaaDoor
open Go.RowKit

attribute [local go_sem] wrap_add wrap_sub bits_xor bits_or bits_and wrap_shl div_shr wrap_un_id byte_un xor_ff xor_c0 xor_c1 xor_c2 xor_c3

/-- a text with so many zeros behind it -/
def padTo (s : ByteArray) : Nat → ByteArray
  | 0 => s
  | j + 1 => padTo s j ++ ⟨#[0]⟩
theorem padTo_size (s : ByteArray) (j : Nat) : (padTo s j).size = s.size + j := by
  induction j with
  | zero => rfl
  | succ j ih => rw [padTo, ByteArray.size_append, ih]; rfl
theorem padTo_list (s : ByteArray) (j : Nat) : (padTo s j).data.toList = s.data.toList ++ List.replicate j 0 := by
  induction j with
  | zero => simp [padTo]
  | succ j ih => rw [padTo, ByteArray.data_append, Array.toList_append, ih, List.append_assoc, ← List.replicate_succ']

theorem ofNat_mod (n : Nat) : UInt8.ofNat (n % 256) = UInt8.ofNat n := by
  apply UInt8.toNat_inj.1
  simp

def strSize : Value → Nat
  | .string u => u.size
  | _ => 0

set_option maxRecDepth 100000 in
set_option maxHeartbeats 4000000 in
theorem refSum_any (a b : BitVec 64) (s : ByteArray) (hs : s.size ≤ 1000000) (w : World) :
    Calls Tryd.prog 23 #[.agg #[.int .u64 (un a), .int .u64 (un b)], .string s] w fun e w' => e = .returned (.int .u64 (un (sipSum a b s.data.toList))) ∧ Below w.heap.size w w' := by
  go_enter Tryd.func23, Tryd.ntmps23
  go_wp2
  go_loop [6] (fun t => ∃ j : Nat, j ≤ padN s.size ∧ t = .string (padTo s j)) (fun t => s.size + 7 - strSize t)
  case atStart => exact ⟨0, Nat.zero_le _, rfl⟩
  case round =>
    obtain ⟨j, hj, rfl⟩ := hrel
    have hz := padTo_size s j
    have hp : padN s.size = 7 - s.size % 8 := rfl
    have hj7 : j ≤ 7 := by omega
    have hsum : s.size + j + 1 ≤ 1000008 := by omega
    by_cases hlt : j < padN s.size
    · have ht : (((s.size : Int) + (j : Int)) % 8 != 7) = true := by rw [bne_iff_ne]; omega
      have HP := Lib.hid hp
      clear hp
      go_wp2
      go_round
      case rel => exact ⟨j + 1, hlt, rfl⟩
      case measure =>
        show s.size + 7 - (padTo s (j + 1)).size < s.size + 7 - (padTo s j).size
        rw [padTo_size, hz]
        have := HP.out
        omega
    · have ht : (((s.size : Int) + (j : Int)) % 8 != 7) = false := by rw [bne_eq_false_iff_eq]; omega
      have HP := Lib.hid hp
      clear hp
      go_wp2
      have hjp : j = padN s.size := by omega
      have htl : (padTo s j ++ { data := #[UInt8.ofNat (s.size % 256)] } : ByteArray).data.toList = padded s.data.toList := by
        rw [ByteArray.data_append, Array.toList_append, padTo_list, hjp]
        simp [padded, ofNat_mod]
      have hts : (padTo s j ++ { data := #[UInt8.ofNat (s.size % 256)] } : ByteArray).size = 8 * (s.size / 8 + 1) := by
        have := padded_length s.data.toList
        rw [← htl] at this
        rw [Array.length_toList, Array.length_toList] at this
        exact this
      have HB : Blk4 (((w.alloc (Obj.cells #[Value.int IntKind.u64 (un a), Value.int IntKind.u64 (un b)] 24)).alloc
        (Obj.cells #[Value.int IntKind.u64 (un (a ^^^ 8317987319222330741#64)), Value.int IntKind.u64 (un (b ^^^ 7237128888997146477#64)), Value.int IntKind.u64 (un (a ^^^ 7816392313619706465#64)), Value.int IntKind.u64 (un (b ^^^ 8387220255154660723#64))] 61)).alloc
        (Obj.cells #[Value.int IntKind.u8 (↑s.size % 256)] 5)) (w.heap.size + 1) 61 (beginV a b) := by
        refine (Below.heap_alloc _ _ _ (by simp)).trans ?_
        have h := World.alloc_heap_new (w.alloc (Obj.cells #[Value.int IntKind.u64 (un a), Value.int IntKind.u64 (un b)] 24)) (Obj.cells #[Value.int IntKind.u64 (un (a ^^^ 8317987319222330741#64)), Value.int IntKind.u64 (un (b ^^^ 7237128888997146477#64)), Value.int IntKind.u64 (un (a ^^^ 7816392313619706465#64)), Value.int IntKind.u64 (un (b ^^^ 8387220255154660723#64))] 61)
        rw [World.size_alloc] at h
        exact h
      have HBe : Below w.heap.size w (((w.alloc (Obj.cells #[Value.int IntKind.u64 (un a), Value.int IntKind.u64 (un b)] 24)).alloc
        (Obj.cells #[Value.int IntKind.u64 (un (a ^^^ 8317987319222330741#64)), Value.int IntKind.u64 (un (b ^^^ 7237128888997146477#64)), Value.int IntKind.u64 (un (a ^^^ 7816392313619706465#64)), Value.int IntKind.u64 (un (b ^^^ 8387220255154660723#64))] 61)).alloc
        (Obj.cells #[Value.int IntKind.u8 (↑s.size % 256)] 5)) := (((Below.refl _ _).alloc (Nat.le_refl _) _).alloc (by simp) _).alloc (by simp; omega) _
      generalize (padTo s j ++ { data := #[UInt8.ofNat (s.size % 256)] } : ByteArray) = t at *
      have HTL := Lib.hid htl
      clear htl
      have HTS := Lib.hid hts
      have hts1 : t.size ≤ 1000008 := by omega
      clear hts hjp ht hlt hj hz
      generalize ((w.alloc (Obj.cells #[Value.int IntKind.u64 (un a), Value.int IntKind.u64 (un b)] 24)).alloc
        (Obj.cells #[Value.int IntKind.u64 (un (a ^^^ 8317987319222330741#64)), Value.int IntKind.u64 (un (b ^^^ 7237128888997146477#64)), Value.int IntKind.u64 (un (a ^^^ 7816392313619706465#64)), Value.int IntKind.u64 (un (b ^^^ 8387220255154660723#64))] 61)).alloc
        (Obj.cells #[Value.int IntKind.u8 (↑s.size % 256)] 5) = w0 at *
      go_loopw [7] (fun i wr => ∃ k : Nat, k ≤ s.size / 8 + 1 ∧ i = .int .i64 (8 * (k : Int)) ∧ Blk4 wr (w.heap.size + 1) 61 (foldV (beginV a b) ((List.range k).map (blk (padded s.data.toList)))) ∧ Below w.heap.size w wr) (fun i _ => t.size - (intOf i).toNat)
      case atStart => exact ⟨0, Nat.zero_le _, rfl, HB, HBe⟩
      case round =>
        obtain ⟨k, hk, rfl, hB, hBe⟩ := hrel
        clear HB HBe
        by_cases hlt : k < s.size / 8 + 1
        · have hkt : 8 * k + 8 ≤ t.size := by have := HTS.out; omega
          obtain ⟨wo, rfl⟩ : ∃ wo : World, wo = wr := ⟨_, rfl⟩
          have hd : decide (8 * (k : Int) + 8 ≤ (t.size : Int)) = true := by simp; omega
          go_wp2_with fail
          go_loop [8, 9] (fun m i => ∃ q : Nat, q ≤ 8 ∧ i = .int .i64 q ∧ m = .int .u64 (un (num ((t.data.toList.drop (8 * k)).take q)))) (fun _ i => 8 - (intOf i).toNat)
          case atStart => exact ⟨0, Nat.zero_le _, rfl, rfl⟩
          case round =>
            obtain ⟨q, hq, rfl, rfl⟩ := hrel
            by_cases hq8 : q < 8
            · have hix : 8 * k + q < t.size := by omega
              have HS : Hid (num ((t.data.toList.drop (8 * k)).take (q + 1)) = num ((t.data.toList.drop (8 * k)).take q) + (BitVec.ofNat 64 t[8 * k + q].toNat) <<< (8 * q)) := by
                show _ = _
                have hlen : q < (t.data.toList.drop (8 * k)).length := by simp; omega
                rw [List.take_succ_eq_append_getElem hlen, num_snoc_add]
                rw [List.length_take, Nat.min_eq_left (by omega), List.getElem_drop]
                rfl
              go_wp2
              go_round
              case rel => exact ⟨q + 1, by omega, by go_num, by rw [HS.out]⟩
              case measure => simp [intOf]; omega
            · obtain rfl : q = 8 := by omega
              have HM : Hid (foldV (beginV a b) ((List.range (k + 1)).map (blk (padded s.data.toList))) = takeV (foldV (beginV a b) ((List.range k).map (blk (padded s.data.toList)))) (num ((t.data.toList.drop (8 * k)).take 8))) := by
                show _ = _
                rw [HTL.out, List.range_succ]
                simp [foldV, blk]
              generalize num ((t.data.toList.drop (8 * k)).take 8) = m at *
              generalize foldV (beginV a b) ((List.range k).map (blk (padded s.data.toList))) = v at *
              obtain ⟨c0, c1, c2, c3⟩ := hB.cells
              have f := hB.frozen
              go_wp2_with fail
              refine (refRound_any ⟨v.a, v.b, v.c, v.d ^^^ m⟩ _).mono ?_
              rintro e w1 ⟨rfl, hb1⟩
              go_wp2_with fail
              refine (refRound_any (rnd ⟨v.a, v.b, v.c, v.d ^^^ m⟩) _).mono ?_
              rintro e w2 ⟨rfl, hb2⟩
              have hB2 := ((hB.set3 (v.d ^^^ m)).below hb1).below hb2
              have hBe2 : Below w.heap.size w w2 := by
                have h1 := hBe.setCell (p := ⟨w.heap.size + 1, 3, none⟩) (by simp) (.int .u64 (un (v.d ^^^ m)))
                have h2 := h1.trans (hb1.mono h1.size)
                exact h2.trans (hb2.mono h2.size)
              clear c0 c1 c2 c3 f hb1 hb2 hB hBe
              obtain ⟨c0, c1, c2, c3⟩ := hB2.cells
              have f := hB2.frozen
              have HT : Hid (takeV v m = ⟨(rnd (rnd ⟨v.a, v.b, v.c, v.d ^^^ m⟩)).a ^^^ m, (rnd (rnd ⟨v.a, v.b, v.c, v.d ^^^ m⟩)).b, (rnd (rnd ⟨v.a, v.b, v.c, v.d ^^^ m⟩)).c, (rnd (rnd ⟨v.a, v.b, v.c, v.d ^^^ m⟩)).d⟩) := rfl
              generalize rnd (rnd ⟨v.a, v.b, v.c, v.d ^^^ m⟩) = r at *
              go_wp2_with fail
              go_roundw
              case rel => exact ⟨k + 1, by omega, by go_num, by rw [HM.out, HT.out]; exact (hB2.set r).set0 _, ((((hBe2.setCell (p := ⟨w.heap.size + 1, 0, none⟩) (by simp) _).setCell (p := ⟨w.heap.size + 1, 1, none⟩) (by simp) _).setCell (p := ⟨w.heap.size + 1, 2, none⟩) (by simp) _).setCell (p := ⟨w.heap.size + 1, 3, none⟩) (by simp) _).setCell (p := ⟨w.heap.size + 1, 0, none⟩) (by simp) _⟩
              case measure => simp [intOf]; omega
        · obtain rfl : k = s.size / 8 + 1 := by omega
          have HR : Hid (sipSum a b s.data.toList = endV (foldV (beginV a b) ((List.range (s.size / 8 + 1)).map (blk (padded s.data.toList))))) := by
            show _ = _
            have e := msgs_padded s.data.toList
            rw [Array.length_toList] at e
            unfold sipSum
            rw [← e]
            rfl
          generalize foldV (beginV a b) ((List.range (s.size / 8 + 1)).map (blk (padded s.data.toList))) = v at *
          obtain ⟨c0, c1, c2, c3⟩ := hB.cells
          have f := hB.frozen
          have hd : decide (8 * ((s.size / 8 + 1 : Nat) : Int) + 8 ≤ (t.size : Int)) = false := by have := HTS.out; simp; omega
          generalize s.size / 8 + 1 = N at *
          have hN : (t.size : Int) ≤ 8 * (N : Int) := by have := HTS.out; omega
          have hN2 : N ≤ 1000000 := by have := HTS.out; omega
          go_wp2_with fail
          refine (refRound_any ⟨v.a, v.b, v.c ^^^ 255#64, v.d⟩ _).mono ?_
          rintro e w1 ⟨rfl, hb1⟩
          go_wp2_with fail
          refine (refRound_any (rnd ⟨v.a, v.b, v.c ^^^ 255#64, v.d⟩) _).mono ?_
          rintro e w2 ⟨rfl, hb2⟩
          go_wp2_with fail
          refine (refRound_any (rnd (rnd ⟨v.a, v.b, v.c ^^^ 255#64, v.d⟩)) _).mono ?_
          rintro e w3 ⟨rfl, hb3⟩
          go_wp2_with fail
          refine (refRound_any (rnd (rnd (rnd ⟨v.a, v.b, v.c ^^^ 255#64, v.d⟩))) _).mono ?_
          rintro e w4 ⟨rfl, hb4⟩
          have hB4 := ((((hB.set2 (v.c ^^^ 255#64)).below hb1).below hb2).below hb3).below hb4
          have hBe4 : Below w.heap.size w w4 := by
            have h1 := hBe.setCell (p := ⟨w.heap.size + 1, 2, none⟩) (by simp) (.int .u64 (un (v.c ^^^ 255#64)))
            have h2 := h1.trans (hb1.mono h1.size)
            have h3 := h2.trans (hb2.mono h2.size)
            have h4 := h3.trans (hb3.mono h3.size)
            exact h4.trans (hb4.mono h4.size)
          clear c0 c1 c2 c3 f hb1 hb2 hb3 hb4 hB hBe
          obtain ⟨c0, c1, c2, c3⟩ := hB4.cells
          have f := hB4.frozen
          have HE : Hid (endV v = (rnd (rnd (rnd (rnd ⟨v.a, v.b, v.c ^^^ 255#64, v.d⟩)))).a ^^^ (rnd (rnd (rnd (rnd ⟨v.a, v.b, v.c ^^^ 255#64, v.d⟩)))).b ^^^ (rnd (rnd (rnd (rnd ⟨v.a, v.b, v.c ^^^ 255#64, v.d⟩)))).c ^^^ (rnd (rnd (rnd (rnd ⟨v.a, v.b, v.c ^^^ 255#64, v.d⟩)))).d) := rfl
          generalize rnd (rnd (rnd (rnd ⟨v.a, v.b, v.c ^^^ 255#64, v.d⟩))) = r at *
          go_wp2_with fail
          go_ret
          exact ⟨ret_int (by rw [HR.out, HE.out]), (((hBe4.setCell (p := ⟨w.heap.size + 1, 0, none⟩) (by simp) _).setCell (p := ⟨w.heap.size + 1, 1, none⟩) (by simp) _).setCell (p := ⟨w.heap.size + 1, 2, none⟩) (by simp) _).setCell (p := ⟨w.heap.size + 1, 3, none⟩) (by simp) _⟩
end Go.Proofs.YthhoikcknfbclaaDoor
