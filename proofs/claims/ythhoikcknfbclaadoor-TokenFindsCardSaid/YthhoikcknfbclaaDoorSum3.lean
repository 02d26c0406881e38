/- sip.Sum, walked. -/
import Derived.Test.YthhoikcknfbclaaDoorSum2
namespace Go.Proofs.YthhoikcknfbclaaDoor
open Go.RowKit Go.Shelf

attribute [local go_sem] wrap_add wrap_sub bits_xor bits_or bits_and wrap_shl div_shr wrap_un_id len_shl56 Oper.semAt_some xor_ff

/-- a sum's numbers behind the numbers of a text -/
def foldV (v : V4) (ms : List (BitVec 64)) : V4 := ms.foldl takeV v
/-- the end of a sum -/
def endV (v : V4) : BitVec 64 :=
  let u := Nat.repeat rnd 4 ⟨v.a, v.b, v.c ^^^ 255#64, v.d⟩
  u.a ^^^ u.b ^^^ u.c ^^^ u.d
/-- THE SUM of bytes with a key -/
def sipSum (a b : BitVec 64) (l : List UInt8) : BitVec 64 := endV (foldV (beginV a b) (msgs l))

set_option maxRecDepth 100000 in
set_option maxHeartbeats 2000000 in
theorem sum_any (a b : BitVec 64) (s : ByteArray) (hs : s.size ≤ 9223372036854775807) (w : World) :
    Calls Tryd.prog 28 #[.agg #[.int .u64 (un a), .int .u64 (un b)], .string s] w fun e w' => e = .returned (.int .u64 (un (sipSum a b s.data.toList))) ∧ Below w.heap.size w w' := by
  refine (callsIn_wide (n := 5)).1 ?_
  refine callsIn_of_wp_marks Tryd.func28 rfl trivial ?_ rfl
  simp only [Tryd.ntmps28, List.size_toArray, List.length_cons, List.length_nil, Nat.reduceAdd, Nat.reduceSub, Array.replicate_succ, Array.replicate_zero, List.push_toArray, List.append_toArray, List.nil_append, List.cons_append]
  gi_wp2_with fail
  refine wpIn_scope ?_
  gi_wp2_with fail
  refine ⟨trivial, callsIn_wide.2 ((begin_any a b (w.heap.size + 1) 22 _ ?_).mono ?_)⟩
  · have h := World.alloc_heap_new (w.alloc (Obj.cells #[Value.int IntKind.u64 (un a), Value.int IntKind.u64 (un b)] 24)) (.cells #[.int .u64 8317987319222330741, .int .u64 7237128888997146477, .int .u64 7816392313619706465, .int .u64 8387220255154660723] 22)
    rw [World.size_alloc] at h
    exact h
  rintro e w1 ⟨rfl, hb1⟩
  have hz : w.heap.size + 2 ≤ w1.heap.size := by have := hb1.size; simp at this; omega
  have hB1 : Below w.heap.size w w1 := (((Below.refl _ _).alloc (Nat.le_refl _) _).alloc (by simp) _).trans (hb1.mono (by simp; omega))
  clear hb1
  gi_wp2_with fail
  refine wpIn_label ?_
  gi_wp2_with fail
  refine ⟨trivial, callsIn_wide.2 ((eights_any s _).mono ?_)⟩
  rintro e w2 ⟨rfl, rfl⟩
  have hz2 : (w1.alloc (.cells #[.int .u64 (un (beginV a b).a), .int .u64 (un (beginV a b).b), .int .u64 (un (beginV a b).c), .int .u64 (un (beginV a b).d)] 69)).heap.size = w1.heap.size + 1 := World.size_alloc _ _
  have hH : Blk4 ((w1.alloc (.cells #[.int .u64 (un (beginV a b).a), .int .u64 (un (beginV a b).b), .int .u64 (un (beginV a b).c), .int .u64 (un (beginV a b).d)] 69)).alloc (.cells #[.string s] 9)) w1.heap.size 69 (beginV a b) :=
    (Below.heap_alloc _ _ _ (by rw [hz2]; omega)).trans (World.alloc_heap_new w1 _)
  have hS : Boxed ((w1.alloc (.cells #[.int .u64 (un (beginV a b).a), .int .u64 (un (beginV a b).b), .int .u64 (un (beginV a b).c), .int .u64 (un (beginV a b).d)] 69)).alloc (.cells #[.string s] 9)) (w1.heap.size + 1) 9 (.string s) := by
    have h := World.alloc_heap_new (w1.alloc (.cells #[.int .u64 (un (beginV a b).a), .int .u64 (un (beginV a b).b), .int .u64 (un (beginV a b).c), .int .u64 (un (beginV a b).d)] 69)) (.cells #[.string s] 9)
    rw [World.size_alloc] at h
    exact h
  have hB2 := (hB1.alloc (by omega) (.cells #[.int .u64 (un (beginV a b).a), .int .u64 (un (beginV a b).b), .int .u64 (un (beginV a b).c), .int .u64 (un (beginV a b).d)] 69)).alloc (by rw [hz2]; omega) (.cells #[.string s] 9)
  rw [hz2]
  clear hz2 hB1
  have hs2 : ((w1.alloc (.cells #[.int .u64 (un (beginV a b).a), .int .u64 (un (beginV a b).b), .int .u64 (un (beginV a b).c), .int .u64 (un (beginV a b).d)] 69)).alloc (.cells #[.string s] 9)).heap.size = w1.heap.size + 2 := by simp
  have HS2 := Lib.hid hs2
  clear hs2
  generalize (w1.alloc (.cells #[.int .u64 (un (beginV a b).a), .int .u64 (un (beginV a b).b), .int .u64 (un (beginV a b).c), .int .u64 (un (beginV a b).d)] 69)).alloc (.cells #[.string s] 9) = w2 at *
  generalize w1.heap.size = B at *
  gi_wp2_with fail
  refine wpIn_rangeFunc_ownF (n := 5) rfl (by omega) (gf := 45) (lb := #[.pointer (some ⟨B + 1, 0, none⟩)]) rfl trivial (enters_of Tryd.func45 (by kernel_rfl) rfl)
    (eights_stops 4 (by omega) (B + 1) s hs w2 (by rw [HS2.out]; omega) hS.cell) (fun h k => k.trans h) ?kb (Below.refl _ _) (fun _ => rfl)
    (fun (pre : List (BitVec 64 × Bool)) W => ((∀ x ∈ pre, x.2 = false) ∧ Blk4 W B 69 (foldV (beginV a b) (pre.map Prod.fst)) ∧ B + 2 ≤ W.heap.size) ∧ Below w.heap.size w W)
    (fun c pre W => (c = .exit 0 ∧ (∃ (p : List (BitVec 64 × Bool)) (x : BitVec 64 × Bool), pre = p ++ [x] ∧ x.2 = true) ∧ Blk4 W B 69 (foldV (beginV a b) (pre.map Prod.fst))) ∧ Below w.heap.size w W)
    (OwnFrom.and (Own.from (fun s A B row hs hg hr => ⟨hs.1, hs.2.1.own hg hr, Nat.le_trans hs.2.2 hg.size⟩) _) (ownFrom_below (Nat.le_refl _) (by rw [HS2.out]; omega)))
    (fun c => OwnFrom.and (Own.from (fun s A B row hs hg hr => ⟨hs.1, hs.2.1, hs.2.2.own hg hr⟩) _) (ownFrom_below (Nat.le_refl _) (by rw [HS2.out]; omega)))
    ⟨⟨by simp, hH, Nat.le_of_eq HS2.out.symm⟩, hB2⟩
    (fun x => { tmps := #[.agg #[.int .u64 (un a), .int .u64 (un b)], .string s, .pointer (some ⟨w.heap.size, 0, none⟩), undef, .int .u64 0, .pointer (some ⟨B, 0, none⟩), .int .u64 (un x.1), .bool x.2,
      .agg #[.int .u64 (un a), .int .u64 (un b)], .slice (some ⟨w.heap.size + 1, 0, none⟩) 4 4, vs (beginV a b), .string s, .func (.func 45) #[] #[.pointer (some ⟨B + 1, 0, none⟩)], .int .u64 (un x.1), .bool x.2, undef, undef,
      undef, undef, undef, undef, undef, undef, undef, undef, undef, undef, undef, undef], defers := [] }) ?assign ?body ?done ?stop
  case kb =>
    intro W l o o' hl h hc _
    exact World.cell?_of_block (w := W) ((grownBy_putObj' W l o').block (B + 1) (by have := (Array.getElem?_eq_some_iff.1 h).1; rw [HS2.out] at hl; omega) (fun e => by rw [HS2.out] at hl; simp at e; omega))
  case assign =>
    intro l x W K hK
    gi_wp2
    exact hK
  case body =>
    rintro l pre ⟨m, last⟩ W ⟨⟨hpre, hv, hsz⟩, hB⟩ _
    gi_wp2_with fail
    refine ⟨trivial, CallsIn.inRound l (callsIn_wide.2 ((take_any B 69 _ m W hv).mono ?_))⟩
    rintro e W1 ⟨⟨u, rfl⟩, hv1, hg1⟩
    have hfold : Hid (foldV (beginV a b) (List.map Prod.fst (pre ++ [(m, last)])) = takeV (foldV (beginV a b) (List.map Prod.fst pre)) m) := by
      show _ = _
      simp [foldV]
    have hko := hv.others hg1
    have hkc := Lib.hid (World.cell?_of_block (w := W) (a := ⟨B + 1, 0, none⟩) (hg1.block (B + 1) (by omega) (by simp)))
    have hB1 := hB.grown hg1 hB.size (fun k e => by cases e; omega)
    cases last
    · gi_wp2_with fail
      exact ⟨hko, hkc.out, ⟨fun x hx => (List.mem_append.1 hx).elim (hpre x) (fun h => by simp at h; rw [h]), by rw [hfold.out]; exact hv1, Nat.le_trans hsz hg1.size⟩, hB1⟩
    · gi_wp2_with fail
      exact ⟨hko, ⟨rfl, ⟨pre, (m, true), rfl, rfl⟩, by rw [hfold.out]; exact hv1⟩, hB1⟩
  case done =>
    rintro D ys W hD rfl ⟨⟨hall, _⟩, _⟩ _
    exact absurd (hall (endBlk s.data.toList, true) (by simp [evs])) (by simp)
  case stop =>
    rintro D c pre W hD hpre ⟨⟨rfl, ⟨p, x, rfl, hx⟩, hv⟩, hB⟩ hK
    rw [evs_whole _ _ _ hpre hx, evs_fst] at hv
    have hBD : B < D := by rw [HS2.out] at hD; omega
    obtain ⟨c0, c1, c2, c3⟩ := hv.cells
    have f := hv.frozen
    have HR : Hid (sipSum a b s.data.toList = endV (foldV (beginV a b) (msgs s.data.toList))) := rfl
    generalize foldV (beginV a b) (msgs s.data.toList) = v at *
    gi_wp2_with fail
    refine ⟨trivial, callsIn_wide.2 ((rounds_any 4 (by omega) (by omega) B 69 ⟨v.a, v.b, v.c ^^^ 255#64, v.d⟩ _ (hv.set2 _)).mono ?_)⟩
    rintro e W1 ⟨⟨u, rfl⟩, hv1, hg1⟩
    have hg2 := grownBy_trans (grownBy_set W B 2 (.int .u64 (un (v.c ^^^ 255#64)))) hg1
    have hK1 : W1.heap[D]? = some (Obj.deferred (some [])) := (hg2.block D (Array.getElem?_eq_some_iff.1 hK).1 (by simp; omega)).trans hK
    have hB1 := hB.grown hg2 hB.size (fun k e => by cases e; omega)
    clear c0 c1 c2 c3 f hg1 hg2 hK hB hv
    have HE : Hid (endV v = (Nat.repeat rnd (4 : Int).toNat ⟨v.a, v.b, v.c ^^^ 255#64, v.d⟩).a ^^^ (Nat.repeat rnd (4 : Int).toNat ⟨v.a, v.b, v.c ^^^ 255#64, v.d⟩).b ^^^ (Nat.repeat rnd (4 : Int).toNat ⟨v.a, v.b, v.c ^^^ 255#64, v.d⟩).c ^^^ (Nat.repeat rnd (4 : Int).toNat ⟨v.a, v.b, v.c ^^^ 255#64, v.d⟩).d) := rfl
    generalize Nat.repeat rnd (4 : Int).toNat ⟨v.a, v.b, v.c ^^^ 255#64, v.d⟩ = r at *
    gi_wp2_with fail
    refine ⟨trivial, callsIn_wide.2 ((mixed_any B 69 r W1 hv1).mono ?_)⟩
    rintro e W2 ⟨rfl, rfl⟩
    gi_wp2_with fail
    refine ⟨by simp, .inl ⟨_, _, rfl, run_takeDeferred hK1, ?_⟩⟩
    exact ⟨.int .u64 (un (r.a ^^^ r.b ^^^ r.c ^^^ r.d)), results_tmp (t := 4) rfl _ _ _, by rw [HR.out, HE.out], hB1.trans (belowK_b (w := w) (Nat.le_refl _) W2 D _ _ (by omega) hK1 rfl rfl)⟩
end Go.Proofs.YthhoikcknfbclaaDoor
