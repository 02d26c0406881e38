/- What is appended: walked. -/
import Derived.Test.YtclhbimlpamjiaaFew
namespace Go.Proofs.Ytclhbimlpamjiaa
open Go.RowKit

/-- may an entry be appended? -/
structure AppOk (a b : BitVec 64) (bf : Int) (L : List Ent) (at' : Int) (tx : ByteArray) : Prop where
  r : RightP a b bf L
  t : tx.size ≤ 200
  m : lastE L ≠ 18446744073709551615
  l : ∀ x : Ent, L[L.length - 1]? = some x → x.at' ≤ at'
/-- the new entry -/
def newEnt (a b : BitVec 64) (bf : Int) (L : List Ent) (at' : Int) (tx : ByteArray) : Ent := ⟨lastE L + 1, at', tx, entSum a b (headE bf L) ⟨lastE L + 1, at', tx, 0⟩⟩
def appB (bf : Int) (L : List Ent) : Int := if L.length = 30 then (match L[0]? with | some x => x.sum | none => bf) else bf
def appK (L : List Ent) : List Ent := if L.length = 30 then L.drop 1 else L
/-- the new log's entries -/
def appL (a b : BitVec 64) (bf : Int) (L : List Ent) (at' : Int) (tx : ByteArray) : List Ent := appK L ++ [newEnt a b bf L at' tx]

/-- no log, and its number -/
abbrev noLog : Value := .tuple #[.agg #[.int .u64 0, .slice none 0 0], .int .i64 160]

/-- the world at the first question -/
structure AppW (a b : BitVec 64) (bf : Int) (s : Option Addr) (n cap : Nat) (w w3 : World) : Prop where
  bel : Below w.heap.size w w3
  z : w.heap.size + 1 + 1 < w3.heap.size
  k0 : w3.cell? ⟨w.heap.size, 0, none⟩ = some (.int .u64 (un a))
  k1 : w3.cell? ⟨w.heap.size, 1, none⟩ = some (.int .u64 (un b))
  g0 : w3.cell? ⟨w.heap.size + 1, 0, none⟩ = some (.int .u64 bf)
  g1 : w3.cell? ⟨w.heap.size + 1, 1, none⟩ = some (.slice s n cap)
  r0 : w3.cell? ⟨w.heap.size + 1 + 1, 0, none⟩ = some (.int .u64 0)
  r1 : w3.cell? ⟨w.heap.size + 1 + 1, 1, none⟩ = some (.slice none 0 0)
  f0 : w3.frozen? ⟨w.heap.size + 1 + 1, 0, none⟩ = false
  f1 : w3.frozen? ⟨w.heap.size + 1 + 1, 1, none⟩ = false
theorem appW (a b : BitVec 64) (bf : Int) (s : Option Addr) (L : List Ent) (cap : Nat) (w : World) : AppW a b bf s L.length cap w (((w.alloc (.cells #[Value.int IntKind.u64 (un a), Value.int IntKind.u64 (un b)] 24)).alloc (.cells #[Value.int IntKind.u64 bf, .slice s L.length cap] 27)).alloc (.cells #[Value.int IntKind.u64 0, .slice none 0 0] 27)) where
  bel := ((((Below.refl _ _).alloc (Nat.le_refl _) _).alloc (by simp) _).alloc (by simp; omega) _)
  z := by simp
  k0 := by go_simp
  k1 := by go_simp
  g0 := by go_simp
  g1 := by go_simp
  r0 := by go_simp
  r1 := by go_simp
  f0 := by go_simp
  f1 := by go_simp
theorem AppW.belowB {a b : BitVec 64} {bf : Int} {s : Option Addr} {n cap B : Nat} {w w3 w4 : World} (h : AppW a b bf s n cap w w3) (hb : Below B w3 w4) (hz : w.heap.size + 1 + 1 < B) : AppW a b bf s n cap w w4 :=
  ⟨h.bel.trans (hb.mono (by omega)), Nat.lt_of_lt_of_le h.z hb.size,
    (hb.cell (p := ⟨w.heap.size, 0, none⟩) (by show w.heap.size < _; omega)).trans h.k0, (hb.cell (p := ⟨w.heap.size, 1, none⟩) (by show w.heap.size < _; omega)).trans h.k1,
    (hb.cell (p := ⟨w.heap.size + 1, 0, none⟩) (by show w.heap.size + 1 < _; omega)).trans h.g0, (hb.cell (p := ⟨w.heap.size + 1, 1, none⟩) (by show w.heap.size + 1 < _; omega)).trans h.g1,
    (hb.cell (p := ⟨w.heap.size + 1 + 1, 0, none⟩) hz).trans h.r0, (hb.cell (p := ⟨w.heap.size + 1 + 1, 1, none⟩) hz).trans h.r1,
    (hb.frozen (p := ⟨w.heap.size + 1 + 1, 0, none⟩) hz).trans h.f0, (hb.frozen (p := ⟨w.heap.size + 1 + 1, 1, none⟩) hz).trans h.f1⟩
theorem AppW.below {a b : BitVec 64} {bf : Int} {s : Option Addr} {n cap : Nat} {w w3 w4 : World} (h : AppW a b bf s n cap w w3) (hb : Below w3.heap.size w3 w4) : AppW a b bf s n cap w w4 := h.belowB hb h.z

set_option maxRecDepth 100000 in
set_option maxHeartbeats 4000000 in
theorem append_no (a b : BitVec 64) (bf : Int) (h0 : 0 ≤ bf) (h1 : bf < 18446744073709551616) (L : List Ent) (hL : ∀ x ∈ L, x.Ok) (hl : L.length ≤ 1000) (s : Option Addr) (cap : Nat) (at' : Int) (tx : ByteArray) (ht : tx.size ≤ 1000) (w : World) (hE : Ents w s L)
    (hno : ¬AppOk a b bf L at' tx) :
    Calls Try.prog 12 #[kv a b, lv bf s L.length cap, .int .u64 at', .string tx] w fun e w' => e = .returned noLog ∧ Below w.heap.size w w' := by
  have HNO := Lib.hid hno
  clear hno
  obtain ⟨r, hr⟩ : ∃ r : Bool, r = true ↔ RightP a b bf L := by
    classical
    exact ⟨decide (RightP a b bf L), decide_eq_true_iff⟩
  have HW := appW a b bf s L cap w
  obtain ⟨m0, m1⟩ := lastE_bounds L hL
  go_enter Try.func12, Try.ntmps12
  go_wp2_with fail
  generalize (((w.alloc (.cells #[Value.int IntKind.u64 (un a), Value.int IntKind.u64 (un b)] 24)).alloc (.cells #[Value.int IntKind.u64 bf, .slice s L.length cap] 27)).alloc (.cells #[Value.int IntKind.u64 0, .slice none 0 0] 27)) = w3 at *
  refine (right_any a b bf h0 h1 L hL hl s cap r hr _ (hE.below HW.bel)).mono ?_
  rintro e w4 ⟨rfl, hb4⟩
  have HW4 := HW.below hb4
  clear HW
  obtain ⟨hB, hz, k0, k1, g0, g1, r0, r1, f0, f1⟩ := HW4
  cases r
  · clear hr
    go_wp2_with fail
    refine bodyPost_ret (v := noLog) (by simp [results, Try.results12, go_sem, r0, r1]) rfl ⟨rfl, ?_⟩
    exact ((hB).setCell (p := ⟨w.heap.size + 1 + 1, 0, none⟩) (by show w.heap.size ≤ w.heap.size + 1 + 1; omega) _).setCell (p := ⟨w.heap.size + 1 + 1, 1, none⟩) (by show w.heap.size ≤ w.heap.size + 1 + 1; omega) _
  · have HR := Lib.hid (hr.1 rfl)
    clear hr
    by_cases ht2 : 200 < tx.size
    · go_wp2_with fail
      refine bodyPost_ret (v := noLog) (by simp [results, Try.results12, go_sem, r0, r1]) rfl ⟨rfl, ?_⟩
      exact ((hB).setCell (p := ⟨w.heap.size + 1 + 1, 0, none⟩) (by show w.heap.size ≤ w.heap.size + 1 + 1; omega) _).setCell (p := ⟨w.heap.size + 1 + 1, 1, none⟩) (by show w.heap.size ≤ w.heap.size + 1 + 1; omega) _
    · go_wp2_with fail
      refine (last_any bf L hl s cap _ (hE.below hB)).mono ?_
      rintro e w5 ⟨rfl, hb5⟩
      have HW5 := AppW.below ⟨hB, hz, k0, k1, g0, g1, r0, r1, f0, f1⟩ hb5
      clear hB hz k0 k1 g0 g1 r0 r1 f0 f1
      obtain ⟨hB, hz, k0, k1, g0, g1, r0, r1, f0, f1⟩ := HW5
      by_cases hm : lastE L = 18446744073709551615
      · have hmb : (lastE L == 18446744073709551615) = true := by simp [hm]
        clear hm
        go_wp2_with fail
        refine bodyPost_ret (v := noLog) (by simp [results, Try.results12, go_sem, r0, r1]) rfl ⟨rfl, ?_⟩
        exact ((hB).setCell (p := ⟨w.heap.size + 1 + 1, 0, none⟩) (by show w.heap.size ≤ w.heap.size + 1 + 1; omega) _).setCell (p := ⟨w.heap.size + 1 + 1, 1, none⟩) (by show w.heap.size ≤ w.heap.size + 1 + 1; omega) _
      · have hmb : (lastE L == 18446744073709551615) = false := by simp [hm]
        have HM := Lib.hid hm
        clear hm
        by_cases h0' : L.length = 0
        · exact absurd ⟨HR.out, by omega, HM.out, fun x hx => by rw [List.eq_nil_of_length_eq_zero h0'] at hx; simp at hx⟩ HNO.out
        · have hx := List.getElem?_eq_getElem (show L.length - 1 < L.length by omega)
          have hok : (L[L.length - 1]'(by omega)).Ok := hL _ (List.getElem_mem _)
          obtain ⟨g, o, rfl, hg, c0, c1, c2, c3⟩ := hE _ _ hx
          generalize (L[L.length - 1]'(by omega)) = x at *
          have HX := Lib.hid hx
          by_cases hat : at' < x.at'
          · obtain ⟨n, hn⟩ : ∃ n, L.length = n + 1 := ⟨L.length - 1, by omega⟩
            have d1 := (hB.cell (p := ⟨g, _, none⟩) hg).trans c1
            rw [hn] at hl d1 g1 ⊢
            simp only [Nat.add_sub_cancel] at d1
            clear c0 c1 c2 c3 hx h0'
            go_wp2_with fail
            refine bodyPost_ret (v := noLog) (by simp [results, Try.results12, go_sem, r0, r1]) rfl ⟨rfl, ?_⟩
            exact ((hB).setCell (p := ⟨w.heap.size + 1 + 1, 0, none⟩) (by show w.heap.size ≤ w.heap.size + 1 + 1; omega) _).setCell (p := ⟨w.heap.size + 1 + 1, 1, none⟩) (by show w.heap.size ≤ w.heap.size + 1 + 1; omega) _
          · exact absurd ⟨HR.out, by omega, HM.out, fun y hy => by
              have := hy.symm.trans HX.out
              simp at this
              subst this
              omega⟩ HNO.out
end Go.Proofs.Ytclhbimlpamjiaa
