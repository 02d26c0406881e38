/- The entries from a number on: walked. -/
import Derived.Test.YtclhbimlpamjiaaAppSpec
namespace Go.Proofs.Ytclhbimlpamjiaa
open Go.RowKit
set_option linter.unusedVariables false
set_option linter.unusedSimpArgs false

/-- the entries from a number on -/
def fromE (q : Int) (L : List Ent) : List Ent := L.filter fun x => decide (q ≤ x.seq)
theorem fromE_snoc (q : Int) (L : List Ent) (x : Ent) : fromE q (L ++ [x]) = if q ≤ x.seq then fromE q L ++ [x] else fromE q L := by
  unfold fromE
  rw [List.filter_append]
  by_cases h : q ≤ x.seq
  · rw [if_pos h]; simp [h]
  · rw [if_neg h]; simp [h]
theorem fromE_length (q : Int) (L : List Ent) : (fromE q L).length ≤ L.length := List.length_filter_le _ _

theorem St.rowGrown {w0 : World} {bl : List Blk} {w w' : World} {B : Nat} {e : TypeId} {size : Nat} {v v' : Value} {n n' : Nat} {xs xs' : List Value} (h : St w0 bl (fun W => W.ownsRow B e size v n xs) w) (hB : ∀ x ∈ bl, x.1 < B) (hB0 : w0.heap.size ≤ B)
    (hg : w.grownBy w' v.ownBlock) (hown' : w'.ownsRow B e size v' n' xs') : St w0 bl (fun W => W.ownsRow B e size v' n' xs') w' :=
  ((h.lessE (F := fun _ => True) trivial (fun _ _ _ _ => trivial)).grown hg (fun k hk => by
    have h1 := (h.ex.lt k hk).1
    exact ⟨by omega, fun x hx => by have := hB x hx; omega⟩)).lessE hown' ownsRow_keep

set_option maxRecDepth 100000 in
set_option maxHeartbeats 1000000 in
theorem from_any (bf : Int) (L : List Ent) (hL : ∀ x ∈ L, x.Ok) (hl : L.length ≤ 1000) (s : Option Addr) (c : Nat) (q : Int) (q0 : 0 ≤ q) (q1 : q < 18446744073709551616) (w : World) (hE : Ents w s L) :
    Calls Try.prog 23 #[lv bf s L.length c, .int .u64 q] w fun e w' => ∃ v, e = .returned v ∧ OwnE w' w.heap.size v (fromE q L) ∧ Below w.heap.size w w' := by
  have st0 := ((St.start w).alloc (cs := #[.int .u64 bf, .slice s L.length c]) (T := 27)).lessE (F := fun W => OwnE W (w.heap.size + 1) (.slice none 0 0) (fromE q (L.take 0))) (World.ownsRow_nil _ _ _ _) ownsRow_keep
  go_enter Try.func23, Try.ntmps23
  go_wp2_with fail
  go_loopw [5, 11] (fun v i wr => ∃ k : Nat, k ≤ L.length ∧ i = .int .i64 k ∧ St w [(w.heap.size, #[.int .u64 bf, .slice s L.length c], 27)] (fun W => OwnE W (w.heap.size + 1) v (fromE q (L.take k))) wr) (fun _ i _ => L.length - (intOf i).toNat)
  case atStart => exact ⟨0, Nat.zero_le _, rfl, st0⟩
  case round =>
    obtain ⟨k, hk, rfl, st⟩ := hrel
    clear st0
    have rl := st.rules
    simp only [Rules, World.size_alloc] at rl
    by_cases hlt : k < L.length
    · have hx := List.getElem?_eq_getElem hlt
      have hok := hL _ (List.getElem_mem hlt)
      obtain ⟨g, o, rfl, hg, c0, c1, c2, c3⟩ := hE k _ hx
      have d0 := (st.below.cell (p := ⟨g, _, none⟩) hg).trans c0
      have d1 := (st.below.cell (p := ⟨g, _, none⟩) hg).trans c1
      have d2 := (st.below.cell (p := ⟨g, _, none⟩) hg).trans c2
      have d3 := (st.below.cell (p := ⟨g, _, none⟩) hg).trans c3
      have HT := Lib.hid (show fromE q (L.take (k + 1)) = if q ≤ (L[k]'hlt).seq then fromE q (L.take k) ++ [L[k]'hlt] else fromE q (L.take k) by
        rw [List.take_add_one, hx]
        exact fromE_snoc _ _ _)
      have hfl : (fromE q (L.take k)).length ≤ 1000 := Nat.le_trans (fromE_length _ _) (by simp; omega)
      generalize (L[k]'hlt) = x at *
      have z0 := hok.s0
      have z1 := hok.s1
      have hsz := st.below.size
      have hsz1 : w.heap.size + 1 ≤ wr.heap.size := by have := rl.2.2.1; omega
      clear c0 c1 c2 c3 hx
      generalize fromE q (L.take k) = N at *
      by_cases hq : q ≤ x.seq
      · have HT1 := HT.out
        rw [if_pos hq] at HT1
        have HT2 := Lib.hid HT1
        clear HT1 HT
        go_wp2_with (at_builtin; refine append_ents rfl (.tmp 19) (.tmp 21) rfl (w.heap.size + 1) u5 N rfl ((st.ex.alloc _).alloc _) [x] 1 rfl (some ⟨(wr.alloc (.cells #[Value.int .u64 x.seq, .int .u64 x.at', .string x.text, .int .u64 x.sum] 38)).heap.size, 0, none⟩) 1 (by simp [Act.eval]) (by simp) (ents_one (wr.alloc (.cells #[Value.int .u64 x.seq, .int .u64 x.at', .string x.text, .int .u64 x.sum] 38)) x) (by simp <;> omega) (by simp <;> omega) ?next)
        case next =>
          intro v' w' hown' hg'
          have st2 := St.rowGrown (st.to (((Below.refl _ _).alloc (Nat.le_refl _) _).alloc (by simp) _)) (by simp) (by omega) hg' hown'
          clear rl d0 d1 d2 d3
          go_wp2_with fail
          go_roundw
          case rel => exact ⟨k + 1, hlt, by go_num, by rw [HT2.out]; exact st2⟩
          case measure => simp [intOf]; omega
      · have HT1 := HT.out
        rw [if_neg hq] at HT1
        have HT2 := Lib.hid HT1
        clear HT1 HT
        go_wp2_with fail
        go_roundw
        case rel => exact ⟨k + 1, hlt, by go_num, by rw [HT2.out]; exact st.to ((Below.refl _ _).alloc (Nat.le_refl _) _)⟩
        case measure => simp [intOf]; omega
    · obtain rfl : k = L.length := by omega
      have HF := Lib.hid (show fromE q L = fromE q (L.take L.length) by rw [List.take_length])
      go_wp2_with fail
      exact bodyPost_ret (results_tmp (t := 4) rfl _ _ _) rfl ⟨_, rfl, by rw [HF.out]; exact ownsRow_base st.ex (by omega), st.below⟩

set_option maxRecDepth 100000 in
set_option maxHeartbeats 1000000 in
theorem refFrom_any (bf : Int) (L : List Ent) (hL : ∀ x ∈ L, x.Ok) (hl : L.length ≤ 1000) (s : Option Addr) (c : Nat) (q : Int) (q0 : 0 ≤ q) (q1 : q < 18446744073709551616) (w : World) (hE : Ents w s L) :
    Calls Try.prog 28 #[lv bf s L.length c, .int .u64 q] w fun e w' => ∃ v, e = .returned v ∧ OwnE w' w.heap.size v (fromE q L) ∧ Below w.heap.size w w' := by
  have st0 := ((St.start w).alloc (cs := #[.int .u64 bf, .slice s L.length c]) (T := 27)).lessE (F := fun W => OwnE W (w.heap.size + 1) (.slice none 0 0) (fromE q (L.take 0))) (World.ownsRow_nil _ _ _ _) ownsRow_keep
  go_enter Try.func28, Try.ntmps28
  go_wp2_with fail
  go_loopw [5, 6] (fun v i wr => ∃ k : Nat, k ≤ L.length ∧ i = .int .i64 k ∧ St w [(w.heap.size, #[.int .u64 bf, .slice s L.length c], 27)] (fun W => OwnE W (w.heap.size + 1) v (fromE q (L.take k))) wr) (fun _ i _ => L.length - (intOf i).toNat)
  case atStart => exact ⟨0, Nat.zero_le _, rfl, st0⟩
  case round =>
    obtain ⟨k, hk, rfl, st⟩ := hrel
    clear st0
    have rl := st.rules
    simp only [Rules, World.size_alloc] at rl
    by_cases hlt : k < L.length
    · have hx := List.getElem?_eq_getElem hlt
      have hok := hL _ (List.getElem_mem hlt)
      obtain ⟨g, o, rfl, hg, c0, c1, c2, c3⟩ := hE k _ hx
      have d0 := (st.below.cell (p := ⟨g, _, none⟩) hg).trans c0
      have d1 := (st.below.cell (p := ⟨g, _, none⟩) hg).trans c1
      have d2 := (st.below.cell (p := ⟨g, _, none⟩) hg).trans c2
      have d3 := (st.below.cell (p := ⟨g, _, none⟩) hg).trans c3
      have HT := Lib.hid (show fromE q (L.take (k + 1)) = if q ≤ (L[k]'hlt).seq then fromE q (L.take k) ++ [L[k]'hlt] else fromE q (L.take k) by
        rw [List.take_add_one, hx]
        exact fromE_snoc _ _ _)
      have hfl : (fromE q (L.take k)).length ≤ 1000 := Nat.le_trans (fromE_length _ _) (by simp; omega)
      generalize (L[k]'hlt) = x at *
      have z0 := hok.s0
      have z1 := hok.s1
      have hsz := st.below.size
      have hsz1 : w.heap.size + 1 ≤ wr.heap.size := by have := rl.2.2.1; omega
      clear c0 c1 c2 c3 hx
      generalize fromE q (L.take k) = N at *
      by_cases hq : q ≤ x.seq
      · have HT1 := HT.out
        rw [if_pos hq] at HT1
        have HT2 := Lib.hid HT1
        clear HT1 HT
        go_wp2_with (at_builtin; refine append_ents rfl (.tmp 22) (.tmp 28) rfl (w.heap.size + 1) u5 N rfl ((st.ex).alloc _) [x] 1 rfl (some ⟨wr.heap.size, 0, none⟩) 1 (by simp [Act.eval]) (by simp) (ents_one wr x) (by simp <;> omega) (by simp <;> omega) ?next)
        case next =>
          intro v' w' hown' hg'
          have st2 := St.rowGrown (st.to ((Below.refl _ _).alloc (Nat.le_refl _) _)) (by simp) (by omega) hg' hown'
          clear rl d0 d1 d2 d3
          go_wp2_with fail
          go_roundw
          case rel => exact ⟨k + 1, hlt, by go_num, by rw [HT2.out]; exact st2⟩
          case measure => simp [intOf]; omega
      · have HT1 := HT.out
        rw [if_neg hq] at HT1
        have HT2 := Lib.hid HT1
        clear HT1 HT
        go_wp2_with fail
        go_roundw
        case rel => exact ⟨k + 1, hlt, by go_num, by rw [HT2.out]; exact st.to (Below.refl _ _)⟩
        case measure => simp [intOf]; omega
    · obtain rfl : k = L.length := by omega
      have HF := Lib.hid (show fromE q L = fromE q (L.take L.length) by rw [List.take_length])
      go_wp2_with fail
      exact bodyPost_ret (results_tmp (t := 4) rfl _ _ _) rfl ⟨_, rfl, by rw [HF.out]; exact ownsRow_base st.ex (by omega), st.below⟩
end Go.Proofs.Ytclhbimlpamjiaa
