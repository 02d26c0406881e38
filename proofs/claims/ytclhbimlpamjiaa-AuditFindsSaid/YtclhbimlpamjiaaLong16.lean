/- Logs that grow from nothing, in plain words. -/
import Derived.Test.YtclhbimlpamjiaaRowSet
namespace Go.Proofs.Ytclhbimlpamjiaa
open Go.RowKit

/-- the first two hundred bytes -/
def cut200 (s : ByteArray) : ByteArray := s.extract 0 (min (s.size : Int) 200).toNat
theorem cut200_size (s : ByteArray) : (cut200 s).size ≤ 200 := by
  unfold cut200
  simp only [ByteArray.size_extract]
  omega
/-- the log behind k appends: f tells each one's time and text -/
def lgB (a b : BitVec 64) (f : Nat → Int × ByteArray) : Nat → Int × List Ent
  | 0 => (0, [])
  | k + 1 => (appB (lgB a b f k).1 (lgB a b f k).2, appL a b (lgB a b f k).1 (lgB a b f k).2 (f k).1 (f k).2)
/-- the entry that is appended behind k ones -/
def lgE (a b : BitVec 64) (f : Nat → Int × ByteArray) (k : Nat) : Ent := newEnt a b (lgB a b f k).1 (lgB a b f k).2 (f k).1 (f k).2

theorem range_snoc {α : Type} (e : Nat → α) (k : Nat) : (List.range (k + 1)).map e = (List.range k).map e ++ [e k] := by
  rw [List.range_succ, List.map_append]; rfl
theorem lgB_succ (a b : BitVec 64) (f : Nat → Int × ByteArray) (k : Nat) : lgB a b f (k + 1) = (appB (lgB a b f k).1 (lgB a b f k).2, appL a b (lgB a b f k).1 (lgB a b f k).2 (f k).1 (f k).2) := rfl
/-- which entries the log has -/
theorem lgB_list (a b : BitVec 64) (f : Nat → Int × ByteArray) (k : Nat) : (lgB a b f k).2 = ((List.range k).map (lgE a b f)).drop (k - 30) := by
  induction k with
  | zero => rfl
  | succ k ih =>
    rw [lgB_succ]
    show appK (lgB a b f k).2 ++ [lgE a b f k] = _
    rw [range_snoc]
    have hl : ((List.range k).map (lgE a b f)).length = k := by simp
    by_cases h : k < 30
    · have e1 : k - 30 = 0 := by omega
      have e2 : k + 1 - 30 = 0 := by omega
      rw [e1, List.drop_zero] at ih
      rw [e2, List.drop_zero, ih]
      unfold appK
      rw [if_neg (by rw [hl]; omega)]
    · have e2 : k + 1 - 30 = (k - 30) + 1 := by omega
      rw [e2, List.drop_append_of_le_length (by rw [hl]; omega), ih]
      unfold appK
      rw [if_pos (by rw [List.length_drop, hl]; omega), List.drop_drop]
theorem lgB_length (a b : BitVec 64) (f : Nat → Int × ByteArray) (k : Nat) : (lgB a b f k).2.length = min k 30 := by
  rw [lgB_list]; simp; omega
/-- .. and the sum ahead of them -/
theorem lgB_before (a b : BitVec 64) (f : Nat → Int × ByteArray) (k : Nat) : (lgB a b f k).1 = if k ≤ 30 then 0 else (lgE a b f (k - 31)).sum := by
  induction k with
  | zero => rfl
  | succ k ih =>
    rw [lgB_succ]
    show appB (lgB a b f k).1 (lgB a b f k).2 = _
    unfold appB
    have hl := lgB_length a b f k
    by_cases h : k < 30
    · rw [if_neg (by omega), ih, if_pos (by omega), if_pos (by omega)]
    · rw [if_pos (by omega), if_neg (by omega)]
      have h0 : (lgB a b f k).2[0]? = some (lgE a b f (k - 30)) := by
        rw [lgB_list, List.getElem?_drop, List.getElem?_map, List.getElem?_range (by omega)]
        simp
      rw [h0]
      show (lgE a b f (k - 30)).sum = _
      have e : k + 1 - 31 = k - 30 := by omega
      rw [e]
theorem lgB_last (a b : BitVec 64) (f : Nat → Int × ByteArray) (k : Nat) : lastE (lgB a b f k).2 = k := by
  induction k with
  | zero => rfl
  | succ k ih =>
    rw [lgB_succ]
    show lastE (appL a b _ _ _ _) = _
    rw [lastE_app, ih]
    omega
theorem lgE_seq (a b : BitVec 64) (f : Nat → Int × ByteArray) (k : Nat) : (lgE a b f k).seq = k + 1 := by
  show lastE (lgB a b f k).2 + 1 = _
  rw [lgB_last]
theorem lgB_head (a b : BitVec 64) (f : Nat → Int × ByteArray) (k : Nat) (c : Int) : headE c (lgB a b f (k + 1)).2 = (lgE a b f k).sum := by
  rw [lgB_succ]
  exact headE_app ..

theorem lgB_first (a b : BitVec 64) (f : Nat → Int × ByteArray) (k : Nat) (hk : 0 < k) : (lgB a b f k).2[0]? = some (lgE a b f (k - 30)) := by
  rw [lgB_list, List.getElem?_drop, List.getElem?_map, List.getElem?_range (by omega)]
  simp
theorem lgB_from (a b : BitVec 64) (f : Nat → Int × ByteArray) (k : Nat) : (fromE (k : Int) (lgB a b f k).2).length = min k 1 := by
  cases k with
  | zero => rfl
  | succ j =>
    rw [lgB_list, range_snoc, List.drop_append_of_le_length (by simp <;> omega), fromE_snoc, if_pos (by rw [lgE_seq]; omega)]
    have h0 : fromE ((j + 1 : Nat) : Int) (((List.range j).map (lgE a b f)).drop (j + 1 - 30)) = [] := by
      unfold fromE
      rw [List.filter_eq_nil_iff]
      intro x hx
      obtain ⟨i, hi, rfl⟩ := List.mem_map.1 (List.mem_of_mem_drop hx)
      rw [List.mem_range] at hi
      rw [lgE_seq]
      simp
      omega
    rw [h0]
    simp <;> omega

/-- times that do not go down, short texts -/
structure LgOk (f : Nat → Int × ByteArray) : Prop where
  t0 : ∀ k, 0 ≤ (f k).1
  t1 : ∀ k, (f k).1 < 18446744073709551616
  tt : ∀ k, (f k).1 ≤ (f (k + 1)).1
  sz : ∀ k, (f k).2.size ≤ 200
theorem lgB_all (a b : BitVec 64) (f : Nat → Int × ByteArray) (h : LgOk f) (k : Nat) (hk : k < 1000000) : (∀ x ∈ (lgB a b f k).2, x.Ok) ∧ (0 ≤ (lgB a b f k).1 ∧ (lgB a b f k).1 < 18446744073709551616) ∧ RightP a b (lgB a b f k).1 (lgB a b f k).2 ∧ AppOk a b (lgB a b f k).1 (lgB a b f k).2 (f k).1 (f k).2 := by
  induction k with
  | zero =>
    have hr : RightP a b 0 [] := ⟨by simp, fun _ => rfl, by simp, by simp, by simp, rfl⟩
    exact ⟨by simp [lgB], ⟨by simp [lgB], by simp [lgB]⟩, hr, ⟨hr, h.sz 0, by simp [lgB, lastE], by simp [lgB]⟩⟩
  | succ k ih =>
    obtain ⟨h1, h2, h3, h4⟩ := ih (by omega)
    have hok := appL_ok a b _ _ h1 (f k).1 (h.t0 k) (h.t1 k) (f k).2 h4
    have hr := right_app a b _ _ h1 (f k).1 (f k).2 h4
    refine ⟨hok, appB_bounds _ h2.1 h2.2 _ h1, hr, ⟨hr, h.sz _, ?_, fun x hx => ?_⟩⟩
    · rw [lgB_last]
      omega
    · have hx' : x = lgE a b f k := by
        have e : (lgB a b f (k + 1)).2 = appK (lgB a b f k).2 ++ [lgE a b f k] := rfl
        rw [e] at hx
        rw [List.getElem?_append_right (by simp)] at hx
        simpa using hx.symm
      subst hx'
      exact h.tt k

theorem from_n (n : Nat) (bf : Int) (L : List Ent) (hL : ∀ x ∈ L, x.Ok) (hn : L.length = n) (hl : n ≤ 1000) (s : Option Addr) (c : Nat) (q : Int) (q0 : 0 ≤ q) (q1 : q < 18446744073709551616) (w : World) (hE : Ents w s L) :
    Calls Try.prog 23 #[lv bf s n c, .int .u64 q] w fun e w' => ∃ v, e = .returned v ∧ OwnE w' w.heap.size v (fromE q L) ∧ Below w.heap.size w w' := by
  subst hn
  exact from_any bf L hL hl s c q q0 q1 w hE
theorem row_old {W : World} {B A : Nat} {e : TypeId} {size n : Nat} {v : Value} {xs : List Value} (h : W.ownsRow B e size v n xs) (hA : W.heap.size ≤ A) : v.ownBlock ≠ some A := by
  intro e'
  have := (h.lt A e').2
  omega
/-- rows of two types lie apart -/
theorem rows_apart {W : World} {B B' : Nat} {e e' : TypeId} {size size' n n' : Nat} {v v' : Value} {xs xs' : List Value} (h : W.ownsRow B e size v n xs) (h' : W.ownsRow B' e' size' v' n' xs') (he : e ≠ e') : v.ownBlock = none ∨ v.ownBlock ≠ v'.ownBlock := by
  rcases h.2 with ⟨rfl, _⟩ | ⟨g, cap, cur, rfl, _, hg, _⟩
  · exact .inl rfl
  · refine .inr fun e2 => ?_
    rcases h'.2 with ⟨rfl, _⟩ | ⟨g', cap', cur', rfl, _, hg', _⟩
    · simp [Value.ownBlock] at e2
    · simp only [Value.ownBlock, Option.some.injEq] at e2
      subst e2
      rw [hg] at hg'
      simp only [Option.some.injEq, Obj.cells.injEq] at hg'
      exact he hg'.2.1
abbrev OwnU (w : World) (B : Nat) (v : Value) (S : List Int) : Prop := w.ownsRow B 22 1 v S.length (S.map (Value.int .u64))
theorem infoU : (Try.prog.info? 22).map (fun i => (i.zero, i.size, i.bytes)) = some (some (.int .u64 0), 1, 8) := by kernel_rfl
/-- sums' list grows, a row of entries beside it -/
theorem St.sumGrown {w0 : World} {bl : List Blk} {w w' : World} {B : Nat} {u v v' : Value} {L : List Ent} {S S' : List Int} (h : St w0 bl (fun W => OwnE W B u L ∧ OwnU W B v S) w) (hB : ∀ x ∈ bl, x.1 < B) (hB0 : w0.heap.size ≤ B)
    (hg : w.grownBy w' v.ownBlock) (hown' : OwnU w' B v' S') : St w0 bl (fun W => OwnE W B u L ∧ OwnU W B v' S') w' :=
  ((h.lessE (F := fun _ => True) trivial (fun _ _ _ _ => trivial)).grown hg (fun k hk => by
    have h1 := (h.ex.2.lt k hk).1
    exact ⟨by omega, fun x hx => by have := hB x hx; omega⟩)).lessE ⟨World.ownsRow.kept h.ex.1 hg (rows_apart h.ex.1 h.ex.2 (by decide)), hown'⟩ (fun _ _ h hb => ⟨ownsRow_keep _ _ h.1 hb, ownsRow_keep _ _ h.2 hb⟩)
end Go.Proofs.Ytclhbimlpamjiaa
