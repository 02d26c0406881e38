/- A part of the proof of TopCounts. -/
import Derived.Test.YtmgdbfmlnmahpaaGreatDoorG33
import Derived.Test.YtmgdbfmlnmahpaaGreatDoorG34
namespace Go.Proofs.YtmgdbfmlnmahpaaGreatDoor
open Go.RowKit
def cut210 (s : ByteArray) : ByteArray := s.extract 0 (min (s.size : Int) 210).toNat
theorem cut210_size (s : ByteArray) : (cut210 s).size ≤ 210 := by
  unfold cut210
  simp only [ByteArray.size_extract]
  omega
def cutE (x : Ent) : Ent := ⟨x.seq, x.at', cut210 x.text, x.sum⟩
def fewE (L : List Ent) : List Ent := (L.take 40).map cutE
structure Ent.Num (x : Ent) : Prop where
  s0 : 0 ≤ x.seq
  s1 : x.seq < 18446744073709551616
  a0 : 0 ≤ x.at'
  a1 : x.at' < 18446744073709551616
  t : x.text.size ≤ 9223372036854775807
  m0 : 0 ≤ x.sum
  m1 : x.sum < 18446744073709551616
theorem cutE_ok (x : Ent) (h : x.Num) : (cutE x).Ok :=
  ⟨h.s0, h.s1, h.a0, h.a1, Nat.le_trans (cut210_size _) (by decide), h.m0, h.m1⟩
theorem fewE_ok (L : List Ent) (h : ∀ x ∈ L, x.Num) : ∀ x ∈ fewE L, x.Ok := by
  intro x hx
  obtain ⟨y, hy, rfl⟩ := List.mem_map.1 hx
  exact cutE_ok y (h y (List.mem_of_mem_take hy))
theorem fewE_length (L : List Ent) : (fewE L).length ≤ 40 := by
  unfold fewE
  simp
  omega
end Go.Proofs.YtmgdbfmlnmahpaaGreatDoor
namespace Go.Proofs.YtmgdbfmlnmahpaaGreatDoor
open Go.RowKit
structure AppOk (a b : BitVec 64) (bf : Int) (L : List Ent) (at' : Int) (tx : ByteArray) : Prop where
  r : RightP a b bf L
  t : tx.size ≤ 200
  m : lastE L ≠ 18446744073709551615
  l : ∀ x : Ent, L[L.length - 1]? = some x → x.at' ≤ at'
def newEnt (a b : BitVec 64) (bf : Int) (L : List Ent) (at' : Int) (tx : ByteArray) : Ent := ⟨lastE L + 1, at', tx, entSum a b (headE bf L) ⟨lastE L + 1, at', tx, 0⟩⟩
def appB (bf : Int) (L : List Ent) : Int := if L.length = 30 then (match L[0]? with | some x => x.sum | none => bf) else bf
def appK (L : List Ent) : List Ent := if L.length = 30 then L.drop 1 else L
def appL (a b : BitVec 64) (bf : Int) (L : List Ent) (at' : Int) (tx : ByteArray) : List Ent := appK L ++ [newEnt a b bf L at' tx]
abbrev noLog : Value := .tuple #[.agg #[.int .u64 0, .slice none 0 0], .int .i64 160]
structure AppW (a b : BitVec 64) (bf : Int) (s : Option Addr) (n cap : Nat) (w w3 : World) : Prop where
  bel : Below w.heap.size w w3
  z : w.heap.size + 1 + 1 < w3.heap.size
  k0 : w3.cell? ⟨w.heap.size, 0, none⟩ = some (.int .u64 (un a))
  k1 : w3.cell? ⟨w.heap.size, 1, none⟩ = some (.int .u64 (un b))
  g0 : w3.cell? ⟨w.heap.size + 1, 0, none⟩ = some (.int .u64 bf)
  g1 : w3.cell? ⟨w.heap.size + 1, 1, none⟩ = some (.slice s n cap)
  r0 : w3.cell? ⟨w.heap.size + 1 + 1, 0, none⟩ = some (.int .u64 0)
  r1 : w3.cell? ⟨w.heap.size + 1 + 1, 1, none⟩ = some (.slice none 0 0)
  f0 : w3.frozen? ⟨w.heap.size + 1 + 1, 0, none⟩ = false
  f1 : w3.frozen? ⟨w.heap.size + 1 + 1, 1, none⟩ = false
theorem appW (a b : BitVec 64) (bf : Int) (s : Option Addr) (L : List Ent) (cap : Nat) (w : World) : AppW a b bf s L.length cap w (((w.alloc (.cells #[Value.int IntKind.u64 (un a), Value.int IntKind.u64 (un b)] 24)).alloc (.cells #[Value.int IntKind.u64 bf, .slice s L.length cap] 79)).alloc (.cells #[Value.int IntKind.u64 0, .slice none 0 0] 79)) where
  bel := ((((Below.refl _ _).alloc (Nat.le_refl _) _).alloc (by simp) _).alloc (by simp; omega) _)
  z := by simp
  k0 := by go_simp
  k1 := by go_simp
  g0 := by go_simp
  g1 := by go_simp
  r0 := by go_simp
  r1 := by go_simp
  f0 := by go_simp
  f1 := by go_simp
theorem AppW.belowB {a b : BitVec 64} {bf : Int} {s : Option Addr} {n cap B : Nat} {w w3 w4 : World} (h : AppW a b bf s n cap w w3) (hb : Below B w3 w4) (hz : w.heap.size + 1 + 1 < B) : AppW a b bf s n cap w w4 :=
  ⟨h.bel.trans (hb.mono (by omega)), Nat.lt_of_lt_of_le h.z hb.size,
    (hb.cell (p := ⟨w.heap.size, 0, none⟩) (by show w.heap.size < _; omega)).trans h.k0, (hb.cell (p := ⟨w.heap.size, 1, none⟩) (by show w.heap.size < _; omega)).trans h.k1,
    (hb.cell (p := ⟨w.heap.size + 1, 0, none⟩) (by show w.heap.size + 1 < _; omega)).trans h.g0, (hb.cell (p := ⟨w.heap.size + 1, 1, none⟩) (by show w.heap.size + 1 < _; omega)).trans h.g1,
    (hb.cell (p := ⟨w.heap.size + 1 + 1, 0, none⟩) hz).trans h.r0, (hb.cell (p := ⟨w.heap.size + 1 + 1, 1, none⟩) hz).trans h.r1,
    (hb.frozen (p := ⟨w.heap.size + 1 + 1, 0, none⟩) hz).trans h.f0, (hb.frozen (p := ⟨w.heap.size + 1 + 1, 1, none⟩) hz).trans h.f1⟩
theorem AppW.below {a b : BitVec 64} {bf : Int} {s : Option Addr} {n cap : Nat} {w w3 w4 : World} (h : AppW a b bf s n cap w w3) (hb : Below w3.heap.size w3 w4) : AppW a b bf s n cap w w4 := h.belowB hb h.z
set_option maxRecDepth 100000 in
set_option maxHeartbeats 4000000 in
theorem append_no (a b : BitVec 64) (bf : Int) (h0 : 0 ≤ bf) (h1 : bf < 18446744073709551616) (L : List Ent) (hL : ∀ x ∈ L, x.Ok) (hl : L.length ≤ 1000) (s : Option Addr) (cap : Nat) (at' : Int) (tx : ByteArray) (ht : tx.size ≤ 1000) (w : World) (hE : Ents w s L)
    (hno : ¬AppOk a b bf L at' tx) :
    Calls Tryz.prog 67 #[kv a b, lv bf s L.length cap, .int .u64 at', .string tx] w fun e w' => e = .returned noLog ∧ Below w.heap.size w w' := by
  have HNO := Lib.hid hno
  clear hno
  obtain ⟨r, hr⟩ : ∃ r : Bool, r = true ↔ RightP a b bf L := by
    classical
    exact ⟨decide (RightP a b bf L), decide_eq_true_iff⟩
  have HW := appW a b bf s L cap w
  obtain ⟨m0, m1⟩ := lastE_bounds L hL
  go_enter Tryz.func67, Tryz.ntmps67
  go_wp2_with fail
  generalize (((w.alloc (.cells #[Value.int IntKind.u64 (un a), Value.int IntKind.u64 (un b)] 24)).alloc (.cells #[Value.int IntKind.u64 bf, .slice s L.length cap] 79)).alloc (.cells #[Value.int IntKind.u64 0, .slice none 0 0] 79)) = w3 at *
  refine (right_any a b bf h0 h1 L hL hl s cap r hr _ (hE.below HW.bel)).mono ?_
  rintro e w4 ⟨rfl, hb4⟩
  have HW4 := HW.below hb4
  clear HW
  obtain ⟨hB, hz, k0, k1, g0, g1, r0, r1, f0, f1⟩ := HW4
  cases r
  · clear hr
    go_wp2_with fail
    refine bodyPost_ret (v := noLog) (by simp [results, Tryz.results67, go_sem, r0, r1]) rfl ⟨rfl, ?_⟩
    exact ((hB).setCell (p := ⟨w.heap.size + 1 + 1, 0, none⟩) (by show w.heap.size ≤ w.heap.size + 1 + 1; omega) _).setCell (p := ⟨w.heap.size + 1 + 1, 1, none⟩) (by show w.heap.size ≤ w.heap.size + 1 + 1; omega) _
  · have HR := Lib.hid (hr.1 rfl)
    clear hr
    by_cases ht2 : 200 < tx.size
    · go_wp2_with fail
      refine bodyPost_ret (v := noLog) (by simp [results, Tryz.results67, go_sem, r0, r1]) rfl ⟨rfl, ?_⟩
      exact ((hB).setCell (p := ⟨w.heap.size + 1 + 1, 0, none⟩) (by show w.heap.size ≤ w.heap.size + 1 + 1; omega) _).setCell (p := ⟨w.heap.size + 1 + 1, 1, none⟩) (by show w.heap.size ≤ w.heap.size + 1 + 1; omega) _
    · go_wp2_with fail
      refine (last_any bf L hl s cap _ (hE.below hB)).mono ?_
      rintro e w5 ⟨rfl, hb5⟩
      have HW5 := AppW.below ⟨hB, hz, k0, k1, g0, g1, r0, r1, f0, f1⟩ hb5
      clear hB hz k0 k1 g0 g1 r0 r1 f0 f1
      obtain ⟨hB, hz, k0, k1, g0, g1, r0, r1, f0, f1⟩ := HW5
      by_cases hm : lastE L = 18446744073709551615
      · have hmb : (lastE L == 18446744073709551615) = true := by simp [hm]
        clear hm
        go_wp2_with fail
        refine bodyPost_ret (v := noLog) (by simp [results, Tryz.results67, go_sem, r0, r1]) rfl ⟨rfl, ?_⟩
        exact ((hB).setCell (p := ⟨w.heap.size + 1 + 1, 0, none⟩) (by show w.heap.size ≤ w.heap.size + 1 + 1; omega) _).setCell (p := ⟨w.heap.size + 1 + 1, 1, none⟩) (by show w.heap.size ≤ w.heap.size + 1 + 1; omega) _
      · have hmb : (lastE L == 18446744073709551615) = false := by simp [hm]
        have HM := Lib.hid hm
        clear hm
        by_cases h0' : L.length = 0
        · exact absurd ⟨HR.out, by omega, HM.out, fun x hx => by rw [List.eq_nil_of_length_eq_zero h0'] at hx; simp at hx⟩ HNO.out
        · have hx := List.getElem?_eq_getElem (show L.length - 1 < L.length by omega)
          have hok : (L[L.length - 1]'(by omega)).Ok := hL _ (List.getElem_mem _)
          obtain ⟨g, o, rfl, hg, c0, c1, c2, c3⟩ := hE _ _ hx
          generalize (L[L.length - 1]'(by omega)) = x at *
          have HX := Lib.hid hx
          by_cases hat : at' < x.at'
          · obtain ⟨n, hn⟩ : ∃ n, L.length = n + 1 := ⟨L.length - 1, by omega⟩
            have d1 := (hB.cell (p := ⟨g, _, none⟩) hg).trans c1
            rw [hn] at hl d1 g1 ⊢
            simp only [Nat.add_sub_cancel] at d1
            clear c0 c1 c2 c3 hx h0'
            go_wp2_with fail
            refine bodyPost_ret (v := noLog) (by simp [results, Tryz.results67, go_sem, r0, r1]) rfl ⟨rfl, ?_⟩
            exact ((hB).setCell (p := ⟨w.heap.size + 1 + 1, 0, none⟩) (by show w.heap.size ≤ w.heap.size + 1 + 1; omega) _).setCell (p := ⟨w.heap.size + 1 + 1, 1, none⟩) (by show w.heap.size ≤ w.heap.size + 1 + 1; omega) _
          · exact absurd ⟨HR.out, by omega, HM.out, fun y hy => by
              have := hy.symm.trans HX.out
              simp at this
              subst this
              omega⟩ HNO.out
end Go.Proofs.YtmgdbfmlnmahpaaGreatDoor
namespace Go.Proofs.YtmgdbfmlnmahpaaGreatDoor
open Go.RowKit
theorem headE_nil (bf : Int) : headE bf [] = bf := rfl
theorem headE_cons (bf : Int) (x : Ent) (L : List Ent) : headE bf (x :: L) = headE x.sum L := by
  unfold headE
  cases L with
  | nil => rfl
  | cons y L => simp
theorem headE_snoc (bf : Int) (L : List Ent) (x : Ent) : headE bf (L ++ [x]) = x.sum := by
  unfold headE; simp
theorem lastE_snoc (L : List Ent) (x : Ent) : lastE (L ++ [x]) = x.seq := by
  unfold lastE; simp
theorem chain_nil (a b : BitVec 64) (bf : Int) : chain a b bf [] = (0, true) := rfl
theorem chain_cons (a b : BitVec 64) (bf : Int) (x : Ent) (L : List Ent) : chain a b bf (x :: L) = if x.sum = entSum a b bf x then ((chain a b x.sum L).1 + 1, (chain a b x.sum L).2) else (0, false) := rfl
theorem chain_append (a b : BitVec 64) (bf : Int) (L M : List Ent) : chain a b bf (L ++ M) = if (chain a b bf L).2 = true then ((chain a b bf L).1 + (chain a b (headE bf L) M).1, (chain a b (headE bf L) M).2) else chain a b bf L := by
  induction L generalizing bf with
  | nil => simp [chain_nil, headE_nil]
  | cons x L ih =>
    rw [List.cons_append, chain_cons, chain_cons, headE_cons]
    by_cases h : x.sum = entSum a b bf x
    · rw [if_pos h, if_pos h, ih]
      by_cases h2 : (chain a b x.sum L).2 = true
      · rw [if_pos h2, if_pos h2]
        simp only [Prod.mk.injEq, and_true]
        omega
      · rw [if_neg h2, if_neg h2]
    · rw [if_neg h, if_neg h]; simp
theorem chain_whole (a b : BitVec 64) (bf : Int) (L : List Ent) (h : (chain a b bf L).2 = true) : (chain a b bf L).1 = L.length := by
  induction L generalizing bf with
  | nil => rfl
  | cons x L ih =>
    rw [chain_cons] at h ⊢
    split at h
    · rename_i h2
      rw [if_pos h2]
      simp only [List.length_cons]
      rw [ih x.sum h]
    · simp at h
theorem chain_part (a b : BitVec 64) (bf : Int) (L : List Ent) (h : (chain a b bf L).2 = false) : (chain a b bf L).1 < L.length := by
  induction L generalizing bf with
  | nil => simp [chain_nil] at h
  | cons x L ih =>
    rw [chain_cons] at h ⊢
    split at h
    · rename_i h2
      rw [if_pos h2]
      simp only [List.length_cons]
      have := ih x.sum h
      omega
    · rename_i h2
      rw [if_neg h2]; simp
theorem chain_one (a b : BitVec 64) (bf : Int) (x : Ent) : (chain a b bf [x]).2 = decide (x.sum = entSum a b bf x) := by
  rw [chain_cons, chain_nil]
  split <;> simp [*]
theorem entSum_sum (a b : BitVec 64) (bf : Int) (s t : Int) (tx : ByteArray) (m m' : Int) : entSum a b bf ⟨s, t, tx, m⟩ = entSum a b bf ⟨s, t, tx, m'⟩ := rfl
theorem newEnt_ok (a b : BitVec 64) (bf : Int) (L : List Ent) (hL : ∀ x ∈ L, x.Ok) (at' : Int) (q0 : 0 ≤ at') (q1 : at' < 18446744073709551616) (tx : ByteArray) (ht : tx.size ≤ 200) (hm : lastE L ≠ 18446744073709551615) : (newEnt a b bf L at' tx).Ok := by
  obtain ⟨m0, m1⟩ := lastE_bounds L hL
  have hs := entSum_bounds a b (headE bf L) ⟨lastE L + 1, at', tx, 0⟩
  exact ⟨by show 0 ≤ lastE L + 1; omega, by show lastE L + 1 < _; omega, q0, q1, by show tx.size ≤ 1000; omega, hs.1, hs.2⟩
theorem appL_ok (a b : BitVec 64) (bf : Int) (L : List Ent) (hL : ∀ x ∈ L, x.Ok) (at' : Int) (q0 : 0 ≤ at') (q1 : at' < 18446744073709551616) (tx : ByteArray) (h : AppOk a b bf L at' tx) : ∀ x ∈ appL a b bf L at' tx, x.Ok := by
  intro x hx
  unfold appL at hx
  rcases List.mem_append.1 hx with hx | hx
  · unfold appK at hx
    split at hx
    · exact hL x (List.mem_of_mem_drop hx)
    · exact hL x hx
  · simp at hx
    subst hx
    exact newEnt_ok a b bf L hL at' q0 q1 tx h.t h.m
theorem appB_bounds (bf : Int) (h0 : 0 ≤ bf) (h1 : bf < 18446744073709551616) (L : List Ent) (hL : ∀ x ∈ L, x.Ok) : 0 ≤ appB bf L ∧ appB bf L < 18446744073709551616 := by
  unfold appB
  split
  · split
    · rename_i x hx
      have := hL x (List.mem_of_getElem? hx)
      exact ⟨this.m0, this.m1⟩
    · exact ⟨h0, h1⟩
  · exact ⟨h0, h1⟩
theorem appL_length (a b : BitVec 64) (bf : Int) (L : List Ent) (at' : Int) (tx : ByteArray) (h : L.length ≤ 30) : (appL a b bf L at' tx).length = min (L.length + 1) 30 := by
  unfold appL appK
  split
  · simp; omega
  · simp; omega
theorem lastE_get {L : List Ent} {x : Ent} (h : L[L.length - 1]? = some x) : lastE L = x.seq := by unfold lastE; rw [h]
theorem right_app (a b : BitVec 64) (bf : Int) (L : List Ent) (hL : ∀ x ∈ L, x.Ok) (at' : Int) (tx : ByteArray) (h : AppOk a b bf L at' tx) : RightP a b (appB bf L) (appL a b bf L at' tx) := by
  obtain ⟨hr, ht, hm, hl⟩ := h
  have hn := hr.n
  have hK : appK L = L.drop (if L.length = 30 then 1 else 0) := by
    unfold appK
    split <;> simp
  have hKl : (appK L).length ≤ 29 := by rw [hK, List.length_drop]; split <;> omega
  have hget : ∀ i, (appK L)[i]? = L[(if L.length = 30 then 1 else 0) + i]? := by intro i; rw [hK, List.getElem?_drop]
  have hKlen : (appK L).length = L.length - (if L.length = 30 then 1 else 0) := by rw [hK, List.length_drop]
  refine ⟨?_, ?_, ?_, ?_, ?_, ?_⟩
  · unfold appL; simp; omega
  · intro e; unfold appL at e; simp at e
  · intro x hx
    unfold appL at hx
    by_cases hz : (appK L).length = 0
    · have hz' : L = [] := by
        cases L with
        | nil => rfl
        | cons y M =>
          rw [hKlen] at hz
          split at hz
          · rename_i h30; rw [h30] at hz; omega
          · simp at hz
      subst hz'
      rw [List.eq_nil_of_length_eq_zero hz] at hx
      simp at hx
      subst hx
      exact ⟨by show 1 ≤ lastE [] + 1; simp [lastE], fun _ => hr.e rfl⟩
    · rw [List.getElem?_append_left (by omega), hget] at hx
      by_cases h30 : L.length = 30
      · rw [if_pos h30] at hx
        have h0 := List.getElem?_eq_getElem (show 0 < L.length by omega)
        have hf := (hr.f _ h0).1
        have hs := hr.s 0 _ _ h0 hx
        obtain ⟨_, e2, _⟩ := hs
        exact ⟨by omega, fun e => by omega⟩
      · rw [if_neg h30] at hx
        have := hr.f x hx
        unfold appB
        rw [if_neg h30]
        exact this
  · intro i x hx
    unfold appL at hx
    by_cases hi : i < (appK L).length
    · rw [List.getElem?_append_left hi, hget] at hx
      exact hr.t _ x hx
    · rw [List.getElem?_append_right (by omega)] at hx
      have : x = newEnt a b bf L at' tx := by
        have h1 := (List.getElem?_eq_some_iff.1 hx).1
        simp at h1
        have : i - (appK L).length = 0 := by omega
        rw [this] at hx
        simpa using hx.symm
      subst this
      exact ht
  · intro i p x hp hx
    unfold appL at hp hx
    have hi1 : i + 1 < (appK L ++ [newEnt a b bf L at' tx]).length := (List.getElem?_eq_some_iff.1 hx).1
    simp at hi1
    rw [List.getElem?_append_left (by omega), hget] at hp
    by_cases hi : i + 1 < (appK L).length
    · rw [List.getElem?_append_left hi, hget] at hx
      exact hr.s _ p x hp hx
    · rw [List.getElem?_append_right (by omega), show i + 1 - (appK L).length = 0 by omega] at hx
      simp at hx
      subst hx
      have hlast : (if L.length = 30 then 1 else 0) + i = L.length - 1 := by
        rw [hKlen] at hi hi1
        split at hi <;> simp_all <;> omega
      rw [hlast] at hp
      have hls := lastE_get hp
      refine ⟨?_, ?_, hl p hp⟩
      · have := (hL p (List.mem_of_getElem? hp)).s1
        omega
      · show lastE L + 1 = p.seq + 1
        omega
  · have hc := hr.c
    unfold appL
    have hsum : (newEnt a b bf L at' tx).sum = entSum a b (headE bf L) (newEnt a b bf L at' tx) := rfl
    by_cases h30 : L.length = 30
    · cases L with
      | nil => simp at h30
      | cons y M =>
        have e1 : appK (y :: M) = M := by unfold appK; rw [if_pos h30]; rfl
        have e2 : appB bf (y :: M) = y.sum := by unfold appB; rw [if_pos h30]; rfl
        rw [e1, e2, chain_append]
        rw [chain_cons] at hc
        split at hc
        · rw [if_pos hc]
          show (chain a b (headE y.sum M) _).2 = true
          rw [chain_one]
          rw [headE_cons] at hsum
          exact decide_eq_true hsum
        · simp at hc
    · have e1 : appK L = L := by unfold appK; rw [if_neg h30]
      have e2 : appB bf L = bf := by unfold appB; rw [if_neg h30]
      rw [e1, e2, chain_append, if_pos hc]
      show (chain a b (headE bf L) _).2 = true
      rw [chain_one]
      exact decide_eq_true hsum
theorem headE_app (a b : BitVec 64) (bf c : Int) (L : List Ent) (at' : Int) (tx : ByteArray) : headE c (appL a b bf L at' tx) = (newEnt a b bf L at' tx).sum := by
  unfold appL; exact headE_snoc _ _ _
theorem lastE_app (a b : BitVec 64) (bf : Int) (L : List Ent) (at' : Int) (tx : ByteArray) : lastE (appL a b bf L at' tx) = lastE L + 1 := by
  unfold appL; exact lastE_snoc _ _
end Go.Proofs.YtmgdbfmlnmahpaaGreatDoor
