/- A part of the proof of TopCounts. -/
import Derived.Test.YtmgdbfmlnmahpaaGreatDoorG45
import Derived.Test.YtmgdbfmlnmahpaaGreatDoorG39
import Derived.Test.YtmgdbfmlnmahpaaGreatDoorG20
namespace Go.Proofs.YtmgdbfmlnmahpaaGreatDoor
open Go.RowKit Go.Shelf
set_option linter.unusedSimpArgs false
set_option linter.unusedVariables false
set_option maxRecDepth 100000
structure Cfg where
  id : Nat
  bu : Int
  ttl : Nat
def encC (c : Cfg) : List Value := [.int .u64 (c.id : Int), .int .i64 c.bu, .int .u64 (c.ttl : Int)]
theorem encC_len (c : Cfg) : (encC c).length = 3 := rfl
def CfgOk (L : List Cfg) : Prop := 1 ≤ L.length ∧ L.length ≤ 8 ∧ (∀ c ∈ L, 0 ≤ c.bu ∧ c.bu ≤ 1000000) ∧ (L.map Cfg.id).Nodup
abbrev tenK (ka kb : BitVec 64) (id : Nat) : BitVec 64 × BitVec 64 := (childA ka kb (keyText id).data.toList, childB ka kb (keyText id).data.toList)
def tenC (ka kb : BitVec 64) (c : Cfg) : Array Value := #[.slice none 0 0, .int .u64 1, .slice none 0 0, .int .u64 0, .slice none 0 0, .int .u64 0, .int .u64 (c.id : Int), .int .i64 c.bu, .int .u64 (c.ttl : Int), .int .u64 (un (tenK ka kb c.id).1), .int .u64 (un (tenK ka kb c.id).2)]
structure TenA (ka kb : BitVec 64) (B : Nat) (L : List Cfg) (bs : List Nat) (W : World) : Prop where
  at' : ∀ (i b : Nat) (c : Cfg), bs[i]? = some b → L[i]? = some c → W.heap[b]? = some (.cells (tenC ka kb c) 83 (0, 0))
  nd : bs.Nodup
  len : bs.length = L.length
  new : ∀ b ∈ bs, B ≤ b ∧ b < W.heap.size
theorem TenA.keepB {ka kb : BitVec 64} {B : Nat} {L : List Cfg} {bs : List Nat} {W W' : World} (h : TenA ka kb B L bs W) (hb : Below W.heap.size W W') : TenA ka kb B L bs W' :=
  ⟨fun i b c h1 h2 => (hb.block b (blk_lt (h.at' i b c h1 h2))).trans (h.at' i b c h1 h2), h.nd, h.len, fun b hm => ⟨(h.new b hm).1, Nat.lt_of_lt_of_le (h.new b hm).2 hb.size⟩⟩
theorem TenA.grown {ka kb : BitVec 64} {B : Nat} {L : List Cfg} {bs : List Nat} {W W' : World} (h : TenA ka kb B L bs W) {row : Option Nat} {e : TypeId} (he : 83 ≠ e) (hg : W.grownBy W' row) (hr : ∀ r, row = some r → ∃ cur, W.heap[r]? = some (.cells cur e (0, 0))) : TenA ka kb B L bs W' :=
  ⟨fun i b c h1 h2 => grown_blk hg hr he (h.at' i b c h1 h2), h.nd, h.len, fun b hm => ⟨(h.new b hm).1, Nat.lt_of_lt_of_le (h.new b hm).2 hg.size⟩⟩
theorem TenA.set {ka kb : BitVec 64} {B : Nat} {L : List Cfg} {bs : List Nat} {W : World} (h : TenA ka kb B L bs W) {C o : Nat} {cs : Array Value} {T : TypeId} (hC : W.heap[C]? = some (.cells cs T (0, 0))) (hT : T ≠ 83) (v : Value) : TenA ka kb B L bs (W.setCell ⟨C, o, none⟩ v) :=
  ⟨fun i b c h1 h2 => by
    have hb := h.at' i b c h1 h2
    have hne : b ≠ C := by rintro rfl; rw [hC] at hb; cases hb; exact hT rfl
    exact (Below.heap_setCell W ⟨C, o, none⟩ v b hne).trans hb, h.nd, h.len, fun b hm => ⟨(h.new b hm).1, by have := (h.new b hm).2; simpa [World.setCell] using this⟩⟩
theorem TenA.snoc {ka kb : BitVec 64} {B : Nat} {L : List Cfg} {bs : List Nat} {W : World} (h : TenA ka kb B L bs W) {b : Nat} {c : Cfg} (hb : W.heap[b]? = some (.cells (tenC ka kb c) 83 (0, 0))) (hB : B ≤ b) (hn : b ∉ bs) : TenA ka kb B (L ++ [c]) (bs ++ [b]) W := by
  refine ⟨fun i b' c' h1 h2 => ?_, ?_, by simp [h.len], fun b' hm => ?_⟩
  · by_cases hi : i < bs.length
    · rw [List.getElem?_append_left hi] at h1
      rw [List.getElem?_append_left (by rw [← h.len]; exact hi)] at h2
      exact h.at' i b' c' h1 h2
    · rw [List.getElem?_append_right (by omega)] at h1
      rw [List.getElem?_append_right (by rw [← h.len]; omega)] at h2
      have : i - bs.length = 0 := by have := (List.getElem?_eq_some_iff.1 h1).1; simp at this; omega
      rw [this] at h1
      rw [show i - L.length = 0 by rw [← h.len]; exact this] at h2
      simp at h1 h2
      subst h1
      subst h2
      exact hb
  · rw [List.nodup_append]
    exact ⟨h.nd, by simp, fun x hx y hy => by simp at hy; subst hy; rintro rfl; exact hn hx⟩
  · rcases List.mem_append.1 hm with hm | hm
    · exact h.new b' hm
    · simp at hm
      subst hm
      exact ⟨hB, blk_lt hb⟩
structure Col (W : World) (C : Nat) (ka kb : BitVec 64) (ids bs : List Nat) : Prop where
  ex : ∃ vI vT, W.heap[C]? = some (.cells #[.int .u64 (un ka), .int .u64 (un kb), vI, vT] 57 (0, 0)) ∧ OwnR 1 encU 22 W 0 vI ids ∧ OwnR 1 encP 60 W 0 vT bs
theorem tenNew_bad (id : Nat) (bu : Int) (ttl : Nat) (hbu : bu < 0 ∨ 1000000 < bu) (a b : BitVec 64) (w : World) : Calls Tryz.prog 12 #[.agg #[.int .u64 (id : Int), .int .i64 bu, .int .u64 (ttl : Int)], kv a b] w fun e w' => e = .returned (.tuple #[.pointer none, .int .i64 180]) ∧ Below w.heap.size w w' := by
  by_cases h1 : bu < 0
  · go_enter Tryz.func12, Tryz.ntmps12
    go_wp2_with fail
    exact bodyPost_ret (v := .tuple #[.pointer none, .int .i64 180]) (by simp [results, Tryz.results12, go_sem]) rfl ⟨rfl, (Below.refl _ _).alloc (Nat.le_refl _) _ |>.alloc (by simp) _⟩
  · have h2 : 1000000 < bu := by omega
    go_enter Tryz.func12, Tryz.ntmps12
    go_wp2_with fail
    exact bodyPost_ret (v := .tuple #[.pointer none, .int .i64 180]) (by simp [results, Tryz.results12, go_sem]) rfl ⟨rfl, (Below.refl _ _).alloc (Nat.le_refl _) _ |>.alloc (by simp) _⟩
theorem tenNew_ok (id : Nat) (bu : Int) (ttl : Nat) (h0 : 0 ≤ bu) (hbu : bu ≤ 1000000) (ka kb : BitVec 64) (w : World) : Calls Tryz.prog 12 #[.agg #[.int .u64 (id : Int), .int .i64 bu, .int .u64 (ttl : Int)], kv (tenK ka kb id).1 (tenK ka kb id).2] w fun e w' => ∃ B, e = .returned (.tuple #[.pointer (some ⟨B, 0, none⟩), .int .i64 0]) ∧ w.heap.size ≤ B ∧ w'.heap[B]? = some (.cells (tenC ka kb ⟨id, bu, ttl⟩) 83 (0, 0)) ∧ Below w.heap.size w w' := by
  obtain ⟨n, rfl⟩ := Int.eq_ofNat_of_zero_le h0
  exact tenNew_any id n ttl (by omega) _ _ w
theorem append_raw {α : Type} {k : Nat} {enc : α → List Value} {P : Program} {t e : TypeId} {bytes : Nat} (el : Elem P t e k bytes) (hk : ∀ x, (enc x).length = k) (h1 : ∀ x, ∀ v ∈ enc x, v.oneCell' = true) {ops : Array Oper} {rest : List Oper} {o : Oper} {a : Act} {Q : Exit → Act → World → Prop} {W : World} (hgd : o.guard = none) (s x : Operand)
    (ho : o.op = .call { callee := .builtin .append, args := #[s, x], argTypes := #[t, t] }) (B : Nat) (v : Value) (L : List α) (hs : a.eval s = v) (hown : OwnR k enc e W B v L) (M : List α) (mm : Nat) (hm : mm = M.length) (g o' cx : Nat) (hx : a.eval x = .slice (some ⟨g, o', none⟩) mm cx) (hM : Rd k enc W (some ⟨g, o', none⟩) M)
    (hn : L.length + M.length ≤ 1000000) (hby : bytes ≤ 10000) (hB : B ≤ W.heap.size) (h : ∀ v' W', OwnR k enc e W' B v' (L ++ M) → W.grownBy W' v.ownBlock → wpList P ops Q rest (a.put o.dst v') W') :
    wpList P ops Q (o :: rest) a W := by
  subst hm
  obtain ⟨h2, h0, i, z, h3, h4, h5, h6, h7⟩ := el
  have hmul : (L.length + M.length) * bytes ≤ 1000000 * 10000 := Nat.mul_le_mul hn hby
  refine wpList_append_own _ hgd s x t ho B e i z k bytes h2 h3 h4 h5 h6 h7 h0 v L.length (L.flatMap enc) hs hown ⟨g, o', none⟩ M.length cx (M.flatMap enc) hx (flat_len hk M) (fun j u hj => rd_news hk h0 hM j u hj) (rd_one h1 M) (by unfold maxLen; omega) (by omega) hB ?_
  intro v' w' hown' hgr _
  exact h v' w' (by unfold OwnR; rw [List.length_append, List.flatMap_append]; exact hown') hgr
def IsTen (B : Nat) (ka kb : BitVec 64) (c : Cfg) : Value → World → Prop := fun v W => ∃ b, v = .pointer (some ⟨b, 0, none⟩) ∧ B ≤ b ∧ W.heap[b]? = some (.cells (tenC ka kb c) 83 (0, 0))
theorem stableTen (B : Nat) (ka kb : BitVec 64) (c : Cfg) : Stable (IsTen B ka kb c) := fun _ _ _ ⟨b, h1, h2, h3⟩ hb => ⟨b, h1, h2, (hb.block b (blk_lt h3)).trans h3⟩
def IsTen2 (B : Nat) (ka kb : BitVec 64) (c : Cfg) : Value → World → Prop := fun v W => ∃ b, v = .tuple #[.pointer (some ⟨b, 0, none⟩), .int .i64 0] ∧ B ≤ b ∧ W.heap[b]? = some (.cells (tenC ka kb c) 83 (0, 0))
theorem stableTen2 (B : Nat) (ka kb : BitVec 64) (c : Cfg) : Stable (IsTen2 B ka kb c) := fun _ _ _ ⟨b, h1, h2, h3⟩ hb => ⟨b, h1, h2, (hb.block b (blk_lt h3)).trans h3⟩
def IsSlU (ob : Option Nat) (n : Nat) : Value → World → Prop := fun v W => ∃ A, v = .slice (some ⟨A, 0, none⟩) 1 1 ∧ ob ≠ some A ∧ W.heap[A]? = some (.cells #[.int .u64 (n : Int)] 22 (0, 0))
theorem stableSlU (ob : Option Nat) (n : Nat) : Stable (IsSlU ob n) := fun _ _ _ ⟨A, h1, h2, h3⟩ hb => ⟨A, h1, h2, (hb.block A (blk_lt h3)).trans h3⟩
theorem stableRSlU (ob : Option Nat) (n : Nat) : StableR (fun W W' => W.grownBy W' ob) (IsSlU ob n) := fun _ _ _ ⟨A, h1, h2, h3⟩ hg => ⟨A, h1, h2, (hg.block A (blk_lt h3) (fun e => h2 e.symm)).trans h3⟩
def IsOwnU (B : Nat) (L : List Nat) : Value → World → Prop := fun v W => OwnR 1 encU 22 W B v L
theorem stableOwnU (B : Nat) (L : List Nat) : Stable (IsOwnU B L) := fun _ W W' h hb => OwnR.keep W W' h hb
theorem pickA {A B : Prop} (h : (A ∧ B) ∨ A) : A := h.elim (·.1) id
structure NewX (w : World) (ob : Option Nat) (bl : List Blk) (vT : Value) (ka kb : BitVec 64) (L : List Cfg) (bs : List Nat) (c : Cfg) (b : Nat) (W : World) : Prop where
  st : St w bl (fun _ => True) W
  own : OwnR 1 encP 60 W (w.heap.size + 2) vT bs
  ten : TenA ka kb w.heap.size L bs W
  nw : W.heap[b]? = some (.cells (tenC ka kb c) 83 (0, 0))
  row : ∀ r, ob = some r → r < W.heap.size
theorem NewX.keepB {w : World} {ob : Option Nat} {bl : List Blk} {vT : Value} {ka kb : BitVec 64} {L : List Cfg} {bs : List Nat} {c : Cfg} {b : Nat} {W W' : World} (h : NewX w ob bl vT ka kb L bs c b W) (hb : Below W.heap.size W W') : NewX w ob bl vT ka kb L bs c b W' :=
  ⟨h.st.to hb, OwnR.keep _ _ h.own hb, h.ten.keepB hb, (hb.block b (blk_lt h.nw)).trans h.nw, fun r e => Nat.lt_of_lt_of_le (h.row r e) hb.size⟩
theorem NewX.grown {w : World} {ob : Option Nat} {bl : List Blk} {vT : Value} {ka kb : BitVec 64} {L : List Cfg} {bs : List Nat} {c : Cfg} {b : Nat} {W W' : World} (h : NewX w ob bl vT ka kb L bs c b W) (hT : ∀ x ∈ bl, x.2.2 ≠ 22) (hr : ∀ r, ob = some r → w.heap.size ≤ r ∧ ∃ cur, W.heap[r]? = some (.cells cur 22 (0, 0))) (hg : W.grownBy W' ob) : NewX w ob bl vT ka kb L bs c b W' :=
  ⟨h.st.grownT hg hr hT, h.own.grownT (by decide) hg (fun r e => (hr r e).2), h.ten.grown (by decide) hg (fun r e => (hr r e).2), grown_blk hg (fun r e => (hr r e).2) (by decide) h.nw, fun r e => Nat.lt_of_lt_of_le (h.row r e) hg.size⟩
set_option maxHeartbeats 4000000 in
theorem colNew_any (ka kb : BitVec 64) (L : List Cfg) (hN : ∀ c ∈ L, c.id ≤ maxU) (hl : L.length ≤ 1000) (s : Option Addr) (cap : Nat) (w : World) (hL : Rd 3 encC w s L) :
    Calls Tryz.prog 6 #[kv ka kb, .slice s L.length cap] w fun e w' => (e = .returned (.tuple #[.pointer none, .int .i64 180]) ∧ ¬ CfgOk L ∧ Below w.heap.size w w') ∨
      (∃ C bs, e = .returned (.tuple #[.pointer (some ⟨C, 0, none⟩), .int .i64 0]) ∧ CfgOk L ∧ w.heap.size ≤ C ∧ Col w' C ka kb (L.map Cfg.id) bs ∧ TenA ka kb w.heap.size L bs w' ∧ Below w.heap.size w w') := by
  have st0 := ((St.start w).alloc (cs := #[.int .u64 (un ka), .int .u64 (un kb)]) (T := 24)).alloc (cs := #[.int .u64 (un ka), .int .u64 (un kb), .slice none 0 0, .slice none 0 0]) (T := 57)
  simp only [World.size_alloc] at st0
  have hb0 := (Below.refl w.heap.size w).alloc (Nat.le_refl _) (.cells #[.int .u64 (un ka), .int .u64 (un kb)] 24)
  by_cases h1 : L.length < 1
  · go_enter Tryz.func6, Tryz.ntmps6
    go_wp2_with fail
    exact bodyPost_ret (v := .tuple #[.pointer none, .int .i64 180]) (by simp [results, Tryz.results6, go_sem]) rfl (.inl ⟨rfl, fun h => absurd h.1 (by omega), hb0⟩)
  by_cases h8 : 8 < L.length
  · go_enter Tryz.func6, Tryz.ntmps6
    go_wp2_with fail
    exact bodyPost_ret (v := .tuple #[.pointer none, .int .i64 180]) (by simp [results, Tryz.results6, go_sem]) rfl (.inl ⟨rfl, fun h => absurd h.2.1 (by omega), hb0⟩)
  have HL := Lib.hid hL
  have HNN := Lib.hid hN
  clear hN hL hb0
  go_enter Tryz.func6, Tryz.ntmps6
  go_wp2_with fail
  go_loopw [24] (fun i wr => ∃ (k : Nat) (vI vT : Value) (bs : List Nat), k ≤ L.length ∧ i = .int .i64 (k : Int) ∧ St w [(w.heap.size + 1, #[.int .u64 (un ka), .int .u64 (un kb), vI, vT], 57), (w.heap.size, #[.int .u64 (un ka), .int .u64 (un kb)], 24)] (fun _ => True) wr ∧ OwnR 1 encU 22 wr (w.heap.size + 2) vI ((L.take k).map Cfg.id) ∧ OwnR 1 encP 60 wr (w.heap.size + 2) vT bs ∧ TenA ka kb w.heap.size (L.take k) bs wr ∧ Hid ((∀ c ∈ L.take k, 0 ≤ c.bu ∧ c.bu ≤ 1000000) ∧ ((L.take k).map Cfg.id).Nodup)) (fun i _ => L.length - (intOf i).toNat)
  case atStart => exact ⟨0, .slice none 0 0, .slice none 0 0, [], Nat.zero_le _, rfl, st0, OwnR.nil _ _, OwnR.nil _ _, ⟨fun i b c h => by simp at h, List.nodup_nil, by simp, fun b h => by cases h⟩, Lib.hid ⟨fun c h => by simp at h, by simp⟩⟩
  case round =>
    clear st0
    obtain ⟨k, vI, vT, bs, hk, rfl, st, hoI, hoT, hten, HG⟩ := hrel
    obtain ⟨sI, cI, rfl, hI1, hI2, hI3, hI4, hI5⟩ := hoI.form encU_len
    obtain ⟨sT, cT, rfl, hT1, hT2, hT3, hT4, hT5⟩ := hoT.form encP_len
    have hIl : ((L.take k).map Cfg.id).length = k := by rw [List.length_map, List.length_take]; omega
    have hTl : bs.length = k := by rw [hten.len, List.length_take]; omega
    obtain ⟨ids, hids⟩ : ∃ ids, (L.take k).map Cfg.id = ids := ⟨_, rfl⟩
    rw [hids] at hoI hI1 hI3 hIl st HG
    have rl := st.rules
    simp only [Rules] at rl
    by_cases hlt : k < L.length
    · obtain ⟨x, hx⟩ : ∃ x, L[k]? = some x := ⟨_, List.getElem?_eq_getElem hlt⟩
      obtain ⟨g, o, rfl, hg, hc⟩ := (HL.out.keepB (Nat.le_refl _) st.below) k x hx
      have hc0 := hc 0 _ rfl
      have hc1 := hc 1 _ rfl
      have hc2 := hc 2 _ rfl
      rw [Nat.add_zero] at hc0
      have hxn := HNN.out x (List.mem_of_getElem? hx)
      have HX := Lib.hid hx
      have HTK := Lib.hid (show L.take (k + 1) = L.take k ++ [x] by rw [List.take_add_one, hx]; rfl)
      have HID := Lib.hid hids
      obtain ⟨xi, xb, xt⟩ := x
      simp only at hc0 hc1 hc2 hxn
      have sta := st.alloc (cs := #[.int .u64 (xi : Int), .int .i64 xb, .int .u64 (xt : Int)]) (T := 59)
      have hal := (Below.refl wr.heap.size wr).alloc (Nat.le_refl _) (.cells #[.int .u64 (xi : Int), .int .i64 xb, .int .u64 (xt : Int)] 59)
      have HWa := Lib.hid (And.intro (OwnR.keep _ _ hoI hal) (And.intro (OwnR.keep _ _ hoT hal) (And.intro (hten.keepB hal) (And.intro (hI3.keepB (Nat.le_refl _) hal) (hT3.keepB (Nat.le_refl _) hal)))))
      have hza : (wr.alloc (.cells #[.int .u64 (xi : Int), .int .i64 xb, .int .u64 (xt : Int)] 59)).heap.size = wr.heap.size + 1 := by simp
      have HZA := Lib.hid hza
      clear hx hc hoI hoT hten hI3 hT3 hal hids hza
      by_cases hin : xi ∈ ids
      · obtain ⟨j0, hj0⟩ := List.mem_iff_getElem?.1 hin
        obtain ⟨n, hn, hmin⟩ := exists_min (fun j => ids[j]? = some xi) j0 hj0
        obtain ⟨b, hb⟩ : ∃ b, bs[n]? = some b := ⟨_, List.getElem?_eq_getElem (by have := (List.getElem?_eq_some_iff.1 hn).1; omega)⟩
        have HF := Lib.hid (fun W hW1 hW2 hc hd => find_at (w.heap.size + 1) ids xi n hn hmin (by omega) sI cI bs sT cT b hb W hW1 hW2 hc hd)
        have HBAD : Hid (¬ CfgOk L) := by
          intro h
          have h2 := h.2.2.2
          rw [← List.take_append_drop (k + 1) L, List.map_append, HTK.out, List.map_append, HID.out] at h2
          have h3 := (List.nodup_append.1 h2).1
          exact (List.nodup_append.1 h3).2.2 xi hin xi (by simp) rfl
        clear hin hj0 hn hmin hb
        go_wp2_with fail
        refine (HF.out _ HWa.out.2.2.2.1 HWa.out.2.2.2.2 (blk_cell (sta.blk _ (List.mem_of_getElem? (i := 1) rfl)) 2) (blk_cell (sta.blk _ (List.mem_of_getElem? (i := 1) rfl)) 3)).mono ?_
        rintro e w2 ⟨rfl, hw2⟩
        subst hw2
        go_wp2_with fail
        go_ret2
        exact .inl ⟨rfl, HBAD.out, sta.below⟩
      have HF := Lib.hid (fun W hW1 hc => find_no (w.heap.size + 1) ids xi hin (by omega) sI cI W hW1 hc)
      have HIN := Lib.hid hin
      clear hin
      go_wp2_with fail
      refine (HF.out _ HWa.out.2.2.2.1 (blk_cell (sta.blk _ (List.mem_of_getElem? (i := 1) rfl)) 2)).mono ?_
      rintro e w2 ⟨rfl, hw2⟩
      subst hw2
      clear HF
      have HKEY := Lib.hid (fun W => key_any ka kb xi (by unfold maxU at hxn; omega) W)
      generalize wr.alloc (.cells #[.int .u64 (xi : Int), .int .i64 xb, .int .u64 (xt : Int)] 59) = wa at *
      go_wp2_with fail
      by_cases hbu : xb < 0 ∨ 1000000 < xb
      · have HT := Lib.hid (fun W => tenNew_bad xi xb xt hbu (tenK ka kb xi).1 (tenK ka kb xi).2 W)
        have HBAD : Hid (¬ CfgOk L) := by
          intro h
          have h2 := h.2.2.1 ⟨xi, xb, xt⟩ (List.mem_of_getElem? HX.out)
          simp only at h2
          omega
        clear hbu
        refine region_all 11 (Fs [IsVal (.agg #[.int .u64 (xi : Int), .int .i64 xb, .int .u64 (xt : Int)]), IsVal (.agg #[.int .u64 (un ka), .int .u64 (un kb)]), IsVal (.pointer (some ⟨wr.heap.size, 0, none⟩)), IsVal (.int .u64 (xi : Int)), IsVal (.agg #[.int .u64 (un (tenK ka kb xi).1), .int .u64 (un (tenK ka kb xi).2)]), IsVal (.tuple #[.pointer none, .int .i64 180]), IsVal (.tuple #[.pointer none, .int .i64 180]), IsVal (.pointer none), IsVal (.int .i64 180), IsVal (.pointer none), IsVal (.int .i64 180)]) (by kernel_rfl) (by kernel_rfl) (by kernel_rfl) (Fs_stable _ ?stab) ?spec ?endd
        case stab =>
          simp only [List.forall_mem_cons]
          exact ⟨stableVal _, stableVal _, stableVal _, stableVal _, stableVal _, stableVal _, stableVal _, stableVal _, stableVal _, stableVal _, stableVal _, by simp⟩
        case spec =>
          refine ⟨?_, ?_, ?_, ?_, ?_, ?_, ?_, ?_, ?_, ?_, ?_, trivial⟩
          · intro a W hW hu hd
            have kc : ∀ c, a.eval (Operand.const c) = c := fun _ => rfl
            have kf : ∀ f, a.eval (Operand.func f) = .func (.func f) #[] #[] := fun _ => rfl
            have sW := sta.to hW
            have rl := sW.rules
            simp only [Rules, World.size_alloc] at rl
            have u8 : a.eval (Operand.tmp 8) = .pointer (some ⟨wr.heap.size, 0, none⟩) := hu 8 (by decide)
            unfold StepOk
            rw [if_pos (by rfl)]
            clear hu hd
            generalize a.eval = ρ at *
            go_simp
            exact opOk_val rfl
          · intro a W hW hu hd
            have kc : ∀ c, a.eval (Operand.const c) = c := fun _ => rfl
            have kf : ∀ f, a.eval (Operand.func f) = .func (.func f) #[] #[] := fun _ => rfl
            have sW := sta.to hW
            have rl := sW.rules
            simp only [Rules, World.size_alloc] at rl
            have u2 : a.eval (Operand.tmp 2) = .pointer (some ⟨w.heap.size, 0, none⟩) := hu 2 (by decide)
            unfold StepOk
            rw [if_pos (by rfl)]
            clear hu hd
            generalize a.eval = ρ at *
            go_simp
            exact opOk_val rfl
          · intro a W hW hu hd
            have kc : ∀ c, a.eval (Operand.const c) = c := fun _ => rfl
            have kf : ∀ f, a.eval (Operand.func f) = .func (.func f) #[] #[] := fun _ => rfl
            have sW := sta.to hW
            have rl := sW.rules
            simp only [Rules, World.size_alloc] at rl
            have u8 : a.eval (Operand.tmp 8) = .pointer (some ⟨wr.heap.size, 0, none⟩) := hu 8 (by decide)
            unfold StepOk
            rw [if_pos (by rfl)]
            clear hu hd
            generalize a.eval = ρ at *
            go_simp
            exact opOk_val rfl
          · intro a W hW hu hd
            have kc : ∀ c, a.eval (Operand.const c) = c := fun _ => rfl
            have kf : ∀ f, a.eval (Operand.func f) = .func (.func f) #[] #[] := fun _ => rfl
            have sW := sta.to hW
            have rl := sW.rules
            simp only [Rules, World.size_alloc] at rl
            have u36 : a.eval (Operand.tmp 36) = .pointer (some ⟨wr.heap.size, 0, none⟩) := hd 2 36 (by kernel_rfl) rfl
            unfold StepOk
            rw [if_pos (by rfl)]
            clear hu hd
            generalize a.eval = ρ at *
            go_simp
            exact opOk_val rfl
          · intro a W hW hu hd
            have kc : ∀ c, a.eval (Operand.const c) = c := fun _ => rfl
            have kf : ∀ f, a.eval (Operand.func f) = .func (.func f) #[] #[] := fun _ => rfl
            have sW := sta.to hW
            have rl := sW.rules
            simp only [Rules, World.size_alloc] at rl
            have u35 : a.eval (Operand.tmp 35) = .agg #[.int .u64 (un ka), .int .u64 (un kb)] := hd 1 35 (by kernel_rfl) rfl
            have u37 : a.eval (Operand.tmp 37) = .int .u64 (xi : Int) := hd 3 37 (by kernel_rfl) rfl
            unfold StepOk
            rw [if_pos (by rfl)]
            clear hu hd
            generalize a.eval = ρ at *
            go_simp
            exact opOk_call (HKEY.out W) (fun _ _ => rfl)
          · intro a W hW hu hd
            have kc : ∀ c, a.eval (Operand.const c) = c := fun _ => rfl
            have kf : ∀ f, a.eval (Operand.func f) = .func (.func f) #[] #[] := fun _ => rfl
            have sW := sta.to hW
            have rl := sW.rules
            simp only [Rules, World.size_alloc] at rl
            have u34 : a.eval (Operand.tmp 34) = .agg #[.int .u64 (xi : Int), .int .i64 xb, .int .u64 (xt : Int)] := hd 0 34 (by kernel_rfl) rfl
            have u38 : a.eval (Operand.tmp 38) = .agg #[.int .u64 (un (tenK ka kb xi).1), .int .u64 (un (tenK ka kb xi).2)] := hd 4 38 (by kernel_rfl) rfl
            unfold StepOk
            rw [if_pos (by rfl)]
            clear hu hd
            generalize a.eval = ρ at *
            go_simp
            exact opOk_call (HT.out W) (fun _ _ => rfl)
          · intro a W hW hu hd
            have kc : ∀ c, a.eval (Operand.const c) = c := fun _ => rfl
            have kf : ∀ f, a.eval (Operand.func f) = .func (.func f) #[] #[] := fun _ => rfl
            have sW := sta.to hW
            have rl := sW.rules
            simp only [Rules, World.size_alloc] at rl
            have u39 : a.eval (Operand.tmp 39) = .tuple #[.pointer none, .int .i64 180] := hd 5 39 (by kernel_rfl) rfl
            unfold StepOk
            rw [if_pos (by rfl)]
            clear hu hd
            generalize a.eval = ρ at *
            go_simp
            exact opOk_val rfl
          · intro a W hW hu hd
            have kc : ∀ c, a.eval (Operand.const c) = c := fun _ => rfl
            have kf : ∀ f, a.eval (Operand.func f) = .func (.func f) #[] #[] := fun _ => rfl
            have sW := sta.to hW
            have rl := sW.rules
            simp only [Rules, World.size_alloc] at rl
            have u33 : a.eval (Operand.tmp 33) = .tuple #[.pointer none, .int .i64 180] := hd 6 33 (by kernel_rfl) rfl
            unfold StepOk
            rw [if_pos (by rfl)]
            clear hu hd
            generalize a.eval = ρ at *
            go_simp
            exact opOk_val rfl
          · intro a W hW hu hd
            have kc : ∀ c, a.eval (Operand.const c) = c := fun _ => rfl
            have kf : ∀ f, a.eval (Operand.func f) = .func (.func f) #[] #[] := fun _ => rfl
            have sW := sta.to hW
            have rl := sW.rules
            simp only [Rules, World.size_alloc] at rl
            have u33 : a.eval (Operand.tmp 33) = .tuple #[.pointer none, .int .i64 180] := hd 6 33 (by kernel_rfl) rfl
            unfold StepOk
            rw [if_pos (by rfl)]
            clear hu hd
            generalize a.eval = ρ at *
            go_simp
            exact opOk_val rfl
          · intro a W hW hu hd
            have kc : ∀ c, a.eval (Operand.const c) = c := fun _ => rfl
            have kf : ∀ f, a.eval (Operand.func f) = .func (.func f) #[] #[] := fun _ => rfl
            have sW := sta.to hW
            have rl := sW.rules
            simp only [Rules, World.size_alloc] at rl
            have u40 : a.eval (Operand.tmp 40) = .pointer none := hd 7 40 (by kernel_rfl) rfl
            unfold StepOk
            rw [if_pos (by rfl)]
            clear hu hd
            generalize a.eval = ρ at *
            go_simp
            exact opOk_val rfl
          · intro a W hW hu hd
            have kc : ∀ c, a.eval (Operand.const c) = c := fun _ => rfl
            have kf : ∀ f, a.eval (Operand.func f) = .func (.func f) #[] #[] := fun _ => rfl
            have sW := sta.to hW
            have rl := sW.rules
            simp only [Rules, World.size_alloc] at rl
            have u41 : a.eval (Operand.tmp 41) = .int .i64 180 := hd 8 41 (by kernel_rfl) rfl
            unfold StepOk
            rw [if_pos (by rfl)]
            clear hu hd
            generalize a.eval = ρ at *
            go_simp
            exact opOk_val rfl
        case endd =>
          intro v W hW hv
          have v0 : v 0 = (.agg #[.int .u64 (xi : Int), .int .i64 xb, .int .u64 (xt : Int)]) := hv 0 (by omega)
          have v1 : v 1 = (.agg #[.int .u64 (un ka), .int .u64 (un kb)]) := hv 1 (by omega)
          have v2 : v 2 = (.pointer (some ⟨wr.heap.size, 0, none⟩)) := hv 2 (by omega)
          have v3 : v 3 = (.int .u64 (xi : Int)) := hv 3 (by omega)
          have v4 : v 4 = (.agg #[.int .u64 (un (tenK ka kb xi).1), .int .u64 (un (tenK ka kb xi).2)]) := hv 4 (by omega)
          have v5 : v 5 = (.tuple #[.pointer none, .int .i64 180]) := hv 5 (by omega)
          have v6 : v 6 = (.tuple #[.pointer none, .int .i64 180]) := hv 6 (by omega)
          have v7 : v 7 = (.pointer none) := hv 7 (by omega)
          have v8 : v 8 = (.int .i64 180) := hv 8 (by omega)
          have v9 : v 9 = (.pointer none) := hv 9 (by omega)
          have v10 : v 10 = (.int .i64 180) := hv 10 (by omega)
          clear hv
          simp only [List.take_succ_cons, List.take_zero, List.drop_succ_cons, List.drop_zero, putAll, Nat.zero_add, Nat.reduceAdd]
          rw [v0, v1, v2, v3, v4, v5, v6, v7, v8, v9, v10]
          clear v0 v1 v2 v3 v4 v5 v6 v7 v8 v9 v10
          have sW := sta.to hW
          go_wp2_with fail
          go_ret2
          exact .inl ⟨rfl, HBAD.out, sW.below⟩
      have hbu0 : 0 ≤ xb := by omega
      have hbu1 : xb ≤ 1000000 := by omega
      have HBU := Lib.hid (And.intro hbu0 hbu1)
      have HT := Lib.hid (fun W => tenNew_ok xi xb xt hbu0 hbu1 ka kb W)
      clear hbu hbu0 hbu1
      refine region_all 11 (Fs [IsVal (.agg #[.int .u64 (xi : Int), .int .i64 xb, .int .u64 (xt : Int)]), IsVal (.agg #[.int .u64 (un ka), .int .u64 (un kb)]), IsVal (.pointer (some ⟨wr.heap.size, 0, none⟩)), IsVal (.int .u64 (xi : Int)), IsVal (.agg #[.int .u64 (un (tenK ka kb xi).1), .int .u64 (un (tenK ka kb xi).2)]), IsTen2 wa.heap.size ka kb ⟨xi, xb, xt⟩, IsTen2 wa.heap.size ka kb ⟨xi, xb, xt⟩, IsTen wa.heap.size ka kb ⟨xi, xb, xt⟩, IsVal (.int .i64 0), IsTen wa.heap.size ka kb ⟨xi, xb, xt⟩, IsVal (.int .i64 0)]) (by kernel_rfl) (by kernel_rfl) (by kernel_rfl) (Fs_stable _ ?stab) ?spec ?endd
      case stab =>
        simp only [List.forall_mem_cons]
        exact ⟨stableVal _, stableVal _, stableVal _, stableVal _, stableVal _, stableTen2 _ _ _ _, stableTen2 _ _ _ _, stableTen _ _ _ _, stableVal _, stableTen _ _ _ _, stableVal _, by simp⟩
      case spec =>
        refine ⟨?_, ?_, ?_, ?_, ?_, ?_, ?_, ?_, ?_, ?_, ?_, trivial⟩
        · intro a W hW hu hd
          have kc : ∀ c, a.eval (Operand.const c) = c := fun _ => rfl
          have kf : ∀ f, a.eval (Operand.func f) = .func (.func f) #[] #[] := fun _ => rfl
          have sW := sta.to hW
          have rl := sW.rules
          simp only [Rules, World.size_alloc] at rl
          have u8 : a.eval (Operand.tmp 8) = .pointer (some ⟨wr.heap.size, 0, none⟩) := hu 8 (by decide)
          unfold StepOk
          rw [if_pos (by rfl)]
          clear hu hd
          generalize a.eval = ρ at *
          go_simp
          exact opOk_val rfl
        · intro a W hW hu hd
          have kc : ∀ c, a.eval (Operand.const c) = c := fun _ => rfl
          have kf : ∀ f, a.eval (Operand.func f) = .func (.func f) #[] #[] := fun _ => rfl
          have sW := sta.to hW
          have rl := sW.rules
          simp only [Rules, World.size_alloc] at rl
          have u2 : a.eval (Operand.tmp 2) = .pointer (some ⟨w.heap.size, 0, none⟩) := hu 2 (by decide)
          unfold StepOk
          rw [if_pos (by rfl)]
          clear hu hd
          generalize a.eval = ρ at *
          go_simp
          exact opOk_val rfl
        · intro a W hW hu hd
          have kc : ∀ c, a.eval (Operand.const c) = c := fun _ => rfl
          have kf : ∀ f, a.eval (Operand.func f) = .func (.func f) #[] #[] := fun _ => rfl
          have sW := sta.to hW
          have rl := sW.rules
          simp only [Rules, World.size_alloc] at rl
          have u8 : a.eval (Operand.tmp 8) = .pointer (some ⟨wr.heap.size, 0, none⟩) := hu 8 (by decide)
          unfold StepOk
          rw [if_pos (by rfl)]
          clear hu hd
          generalize a.eval = ρ at *
          go_simp
          exact opOk_val rfl
        · intro a W hW hu hd
          have kc : ∀ c, a.eval (Operand.const c) = c := fun _ => rfl
          have kf : ∀ f, a.eval (Operand.func f) = .func (.func f) #[] #[] := fun _ => rfl
          have sW := sta.to hW
          have rl := sW.rules
          simp only [Rules, World.size_alloc] at rl
          have u36 : a.eval (Operand.tmp 36) = .pointer (some ⟨wr.heap.size, 0, none⟩) := hd 2 36 (by kernel_rfl) rfl
          unfold StepOk
          rw [if_pos (by rfl)]
          clear hu hd
          generalize a.eval = ρ at *
          go_simp
          exact opOk_val rfl
        · intro a W hW hu hd
          have kc : ∀ c, a.eval (Operand.const c) = c := fun _ => rfl
          have kf : ∀ f, a.eval (Operand.func f) = .func (.func f) #[] #[] := fun _ => rfl
          have sW := sta.to hW
          have rl := sW.rules
          simp only [Rules, World.size_alloc] at rl
          have u35 : a.eval (Operand.tmp 35) = .agg #[.int .u64 (un ka), .int .u64 (un kb)] := hd 1 35 (by kernel_rfl) rfl
          have u37 : a.eval (Operand.tmp 37) = .int .u64 (xi : Int) := hd 3 37 (by kernel_rfl) rfl
          unfold StepOk
          rw [if_pos (by rfl)]
          clear hu hd
          generalize a.eval = ρ at *
          go_simp
          exact opOk_call (HKEY.out W) (fun _ _ => rfl)
        · intro a W hW hu hd
          have kc : ∀ c, a.eval (Operand.const c) = c := fun _ => rfl
          have kf : ∀ f, a.eval (Operand.func f) = .func (.func f) #[] #[] := fun _ => rfl
          have sW := sta.to hW
          have rl := sW.rules
          simp only [Rules, World.size_alloc] at rl
          have u34 : a.eval (Operand.tmp 34) = .agg #[.int .u64 (xi : Int), .int .i64 xb, .int .u64 (xt : Int)] := hd 0 34 (by kernel_rfl) rfl
          have u38 : a.eval (Operand.tmp 38) = .agg #[.int .u64 (un (tenK ka kb xi).1), .int .u64 (un (tenK ka kb xi).2)] := hd 4 38 (by kernel_rfl) rfl
          unfold StepOk
          rw [if_pos (by rfl)]
          clear hu hd
          generalize a.eval = ρ at *
          go_simp
          refine ⟨Below.refl _ _, (HT.out W).mono ?_⟩
          rintro e w' ⟨b9, rfl, hB9, hc9, hb'⟩
          exact ⟨_, rfl, hb', b9, rfl, Nat.le_trans hW.size hB9, hc9⟩
        · intro a W hW hu hd
          have kc : ∀ c, a.eval (Operand.const c) = c := fun _ => rfl
          have kf : ∀ f, a.eval (Operand.func f) = .func (.func f) #[] #[] := fun _ => rfl
          have sW := sta.to hW
          have rl := sW.rules
          simp only [Rules, World.size_alloc] at rl
          have f39 : IsTen2 wa.heap.size ka kb ⟨xi, xb, xt⟩ (a.eval (Operand.tmp 39)) W := hd 5 39 (by kernel_rfl) rfl
          obtain ⟨b9, u39, hB9, hc9⟩ := f39
          unfold StepOk
          rw [if_pos (by rfl)]
          clear hu hd
          generalize a.eval = ρ at *
          go_simp
          exact opOk_val ⟨b9, rfl, hB9, hc9⟩
        · intro a W hW hu hd
          have kc : ∀ c, a.eval (Operand.const c) = c := fun _ => rfl
          have kf : ∀ f, a.eval (Operand.func f) = .func (.func f) #[] #[] := fun _ => rfl
          have sW := sta.to hW
          have rl := sW.rules
          simp only [Rules, World.size_alloc] at rl
          have f33 : IsTen2 wa.heap.size ka kb ⟨xi, xb, xt⟩ (a.eval (Operand.tmp 33)) W := hd 6 33 (by kernel_rfl) rfl
          obtain ⟨b9, u33, hB9, hc9⟩ := f33
          unfold StepOk
          rw [if_pos (by rfl)]
          clear hu hd
          generalize a.eval = ρ at *
          go_simp
          exact opOk_val ⟨b9, rfl, hB9, hc9⟩
        · intro a W hW hu hd
          have kc : ∀ c, a.eval (Operand.const c) = c := fun _ => rfl
          have kf : ∀ f, a.eval (Operand.func f) = .func (.func f) #[] #[] := fun _ => rfl
          have sW := sta.to hW
          have rl := sW.rules
          simp only [Rules, World.size_alloc] at rl
          have f33 : IsTen2 wa.heap.size ka kb ⟨xi, xb, xt⟩ (a.eval (Operand.tmp 33)) W := hd 6 33 (by kernel_rfl) rfl
          obtain ⟨b9, u33, hB9, hc9⟩ := f33
          unfold StepOk
          rw [if_pos (by rfl)]
          clear hu hd
          generalize a.eval = ρ at *
          go_simp
          exact opOk_val rfl
        · intro a W hW hu hd
          have kc : ∀ c, a.eval (Operand.const c) = c := fun _ => rfl
          have kf : ∀ f, a.eval (Operand.func f) = .func (.func f) #[] #[] := fun _ => rfl
          have sW := sta.to hW
          have rl := sW.rules
          simp only [Rules, World.size_alloc] at rl
          have f40 : IsTen wa.heap.size ka kb ⟨xi, xb, xt⟩ (a.eval (Operand.tmp 40)) W := hd 7 40 (by kernel_rfl) rfl
          obtain ⟨b9, u40, hB9, hc9⟩ := f40
          unfold StepOk
          rw [if_pos (by rfl)]
          clear hu hd
          generalize a.eval = ρ at *
          go_simp
          exact opOk_val ⟨b9, rfl, hB9, hc9⟩
        · intro a W hW hu hd
          have kc : ∀ c, a.eval (Operand.const c) = c := fun _ => rfl
          have kf : ∀ f, a.eval (Operand.func f) = .func (.func f) #[] #[] := fun _ => rfl
          have sW := sta.to hW
          have rl := sW.rules
          simp only [Rules, World.size_alloc] at rl
          have u41 : a.eval (Operand.tmp 41) = .int .i64 0 := hd 8 41 (by kernel_rfl) rfl
          unfold StepOk
          rw [if_pos (by rfl)]
          clear hu hd
          generalize a.eval = ρ at *
          go_simp
          exact opOk_val rfl
      case endd =>
        intro v W hW hv
        have v0 : v 0 = (.agg #[.int .u64 (xi : Int), .int .i64 xb, .int .u64 (xt : Int)]) := hv 0 (by omega)
        have v1 : v 1 = (.agg #[.int .u64 (un ka), .int .u64 (un kb)]) := hv 1 (by omega)
        have v2 : v 2 = (.pointer (some ⟨wr.heap.size, 0, none⟩)) := hv 2 (by omega)
        have v3 : v 3 = (.int .u64 (xi : Int)) := hv 3 (by omega)
        have v4 : v 4 = (.agg #[.int .u64 (un (tenK ka kb xi).1), .int .u64 (un (tenK ka kb xi).2)]) := hv 4 (by omega)
        have hf5 : IsTen2 wa.heap.size ka kb ⟨xi, xb, xt⟩ (v 5) W := hv 5 (by omega)
        have hf6 : IsTen2 wa.heap.size ka kb ⟨xi, xb, xt⟩ (v 6) W := hv 6 (by omega)
        have hf7 : IsTen wa.heap.size ka kb ⟨xi, xb, xt⟩ (v 7) W := hv 7 (by omega)
        have v8 : v 8 = (.int .i64 0) := hv 8 (by omega)
        have hf9 : IsTen wa.heap.size ka kb ⟨xi, xb, xt⟩ (v 9) W := hv 9 (by omega)
        have v10 : v 10 = (.int .i64 0) := hv 10 (by omega)
        clear hv
        simp only [List.take_succ_cons, List.take_zero, List.drop_succ_cons, List.drop_zero, putAll, Nat.zero_add, Nat.reduceAdd]
        rw [v0, v1, v2, v3, v4, v8, v10]
        clear v0 v1 v2 v3 v4 v8 v10
        have sW := sta.to hW
        obtain ⟨b9, v9, hB9, hc9⟩ := hf9
        rw [v9]
        generalize v 5 = q5 at *
        generalize v 6 = q6 at *
        generalize v 7 = q7 at *
        have o1 := OwnR.keep _ _ HWa.out.1 hW
        have hten := HWa.out.2.2.1.keepB hW
        have hnb : b9 ∉ bs := fun hm => by have := (HWa.out.2.2.1.new b9 hm).2; omega
        have hBw : w.heap.size ≤ b9 := Nat.le_trans sta.below.size hB9
        have X : NewX w (Value.slice sI ids.length cI).ownBlock [(wr.heap.size, #[.int .u64 (xi : Int), .int .i64 xb, .int .u64 (xt : Int)], 59), (w.heap.size + 1, #[.int .u64 (un ka), .int .u64 (un kb), .slice sI ids.length cI, .slice sT bs.length cT], 57), (w.heap.size, #[.int .u64 (un ka), .int .u64 (un kb)], 24)] (.slice sT bs.length cT) ka kb (L.take k) bs ⟨xi, xb, xt⟩ b9 W := ⟨sW, OwnR.keep _ _ HWa.out.2.1 hW, hten, hc9, fun r e => by obtain ⟨_, cur, hr⟩ := o1.row r e; exact blk_lt hr⟩
        have hRow : ∀ W, OwnR 1 encU 22 W (w.heap.size + 2) (.slice sI ids.length cI) ids → ∀ r, (Value.slice sI ids.length cI).ownBlock = some r → w.heap.size ≤ r ∧ ∃ cur, W.heap[r]? = some (.cells cur 22 (0, 0)) := fun W h r e => by
          obtain ⟨h1, h2⟩ := h.row r e
          exact ⟨by omega, h2⟩
        have HROW := Lib.hid hRow
        have HX9 := Lib.hid (And.intro X o1)
        have HIL := Lib.hid hIl
        have HTL := Lib.hid hTl
        have HW9 := Lib.hid (And.intro hten (And.intro hnb hBw))
        clear hIl hTl hf5 hf6 hf7 hten hnb hRow o1 X hB9 hc9 hBw hW HT HKEY HWa sta
        have rl := sW.rules
        simp only [Rules] at rl
        go_wp2_with fail
        refine region_mut 11 8 (Fs [IsVal (.pointer (some ⟨(w.heap.size + 1), 0, none⟩)), IsVal (.pointer (some ⟨(w.heap.size + 1), 0, none⟩)), IsVal (.pointer (some ⟨(w.heap.size + 1), 0, none⟩)), IsVal (.pointer (some ⟨(w.heap.size + 1), 2, none⟩)), IsVal (.slice sI ids.length cI), IsVal (.pointer (some ⟨wr.heap.size, 0, none⟩)), IsVal (.int .u64 (xi : Int)), IsSlU (Value.slice sI ids.length cI).ownBlock xi, IsOwnU (w.heap.size + 2) (ids ++ [xi]), IsVal (.pointer (some ⟨(w.heap.size + 1), 0, none⟩)), IsVal (.pointer (some ⟨(w.heap.size + 1), 2, none⟩))]) (fun b W => cond b (NewX w (Value.slice sI ids.length cI).ownBlock [(wr.heap.size, #[.int .u64 (xi : Int), .int .i64 xb, .int .u64 (xt : Int)], 59), (w.heap.size + 1, #[.int .u64 (un ka), .int .u64 (un kb), .slice sI ids.length cI, .slice sT bs.length cT], 57), (w.heap.size, #[.int .u64 (un ka), .int .u64 (un kb)], 24)] (.slice sT bs.length cT) ka kb (L.take k) bs ⟨xi, xb, xt⟩ b9 W) (NewX w (Value.slice sI ids.length cI).ownBlock [(wr.heap.size, #[.int .u64 (xi : Int), .int .i64 xb, .int .u64 (xt : Int)], 59), (w.heap.size + 1, #[.int .u64 (un ka), .int .u64 (un kb), .slice sI ids.length cI, .slice sT bs.length cT], 57), (w.heap.size, #[.int .u64 (un ka), .int .u64 (un kb)], 24)] (.slice sT bs.length cT) ka kb (L.take k) bs ⟨xi, xb, xt⟩ b9 W ∧ OwnR 1 encU 22 W (w.heap.size + 2) (.slice sI ids.length cI) ids)) (fun W W' => W.grownBy W' (Value.slice sI ids.length cI).ownBlock) (by kernel_rfl) (by kernel_rfl) (by kernel_rfl) (by decide) ?h0 (Fs_stable _ ?stab) (Fs_stableR _ _ _ ?stabR) ?keepG ?spec ?endd
        case h0 => exact ⟨HX9.out.1.keepB (Below.refl _ _).drew, OwnR.keep _ _ HX9.out.2 (Below.refl _ _).drew⟩
        case stab =>
          simp only [List.forall_mem_cons]
          exact ⟨stableVal _, stableVal _, stableVal _, stableVal _, stableVal _, stableVal _, stableVal _, stableSlU _ _, stableOwnU _ _, stableVal _, stableVal _, by simp⟩
        case stabR => exact ⟨stableRVal _ _, stableRVal _ _, stableRVal _ _, stableRVal _ _, stableRVal _ _, stableRVal _ _, stableRVal _ _, stableRSlU _ _, trivial, stableRVal _ _, stableRVal _ _, trivial⟩
        case keepG =>
          intro b W1 W2 h hb
          cases b with
          | false => exact ⟨h.1.keepB hb, OwnR.keep _ _ h.2 hb⟩
          | true => exact NewX.keepB h hb
        case spec =>
          refine ⟨?_, ?_, ?_, ?_, ?_, ?_, ?_, ?_, ?_, ?_, ?_, trivial⟩
          · intro a W hW hu hd
            have kc : ∀ c, a.eval (Operand.const c) = c := fun _ => rfl
            have kf : ∀ f, a.eval (Operand.func f) = .func (.func f) #[] #[] := fun _ => rfl
            have hW : (NewX w (Value.slice sI ids.length cI).ownBlock [(wr.heap.size, #[.int .u64 (xi : Int), .int .i64 xb, .int .u64 (xt : Int)], 59), (w.heap.size + 1, #[.int .u64 (un ka), .int .u64 (un kb), .slice sI ids.length cI, .slice sT bs.length cT], 57), (w.heap.size, #[.int .u64 (un ka), .int .u64 (un kb)], 24)] (.slice sT bs.length cT) ka kb (L.take k) bs ⟨xi, xb, xt⟩ b9 W ∧ OwnR 1 encU 22 W (w.heap.size + 2) (.slice sI ids.length cI) ids) ∨ (NewX w (Value.slice sI ids.length cI).ownBlock [(wr.heap.size, #[.int .u64 (xi : Int), .int .i64 xb, .int .u64 (xt : Int)], 59), (w.heap.size + 1, #[.int .u64 (un ka), .int .u64 (un kb), .slice sI ids.length cI, .slice sT bs.length cT], 57), (w.heap.size, #[.int .u64 (un ka), .int .u64 (un kb)], 24)] (.slice sT bs.length cT) ka kb (L.take k) bs ⟨xi, xb, xt⟩ b9 W) := hW
            have sW := (pickA hW).st
            have rl := sW.rules
            simp only [Rules, World.size_alloc] at rl
            have u6 : a.eval (Operand.tmp 6) = .pointer (some ⟨(w.heap.size + 1), 0, none⟩) := hu 6 (by decide)
            show StepOk _ _ _ _ _ _
            unfold StepOk
            rw [if_pos (by rfl)]
            clear hu hd
            generalize a.eval = ρ at *
            go_simp
            exact opOk_val rfl
          · intro a W hW hu hd
            have kc : ∀ c, a.eval (Operand.const c) = c := fun _ => rfl
            have kf : ∀ f, a.eval (Operand.func f) = .func (.func f) #[] #[] := fun _ => rfl
            have hW : (NewX w (Value.slice sI ids.length cI).ownBlock [(wr.heap.size, #[.int .u64 (xi : Int), .int .i64 xb, .int .u64 (xt : Int)], 59), (w.heap.size + 1, #[.int .u64 (un ka), .int .u64 (un kb), .slice sI ids.length cI, .slice sT bs.length cT], 57), (w.heap.size, #[.int .u64 (un ka), .int .u64 (un kb)], 24)] (.slice sT bs.length cT) ka kb (L.take k) bs ⟨xi, xb, xt⟩ b9 W ∧ OwnR 1 encU 22 W (w.heap.size + 2) (.slice sI ids.length cI) ids) ∨ (NewX w (Value.slice sI ids.length cI).ownBlock [(wr.heap.size, #[.int .u64 (xi : Int), .int .i64 xb, .int .u64 (xt : Int)], 59), (w.heap.size + 1, #[.int .u64 (un ka), .int .u64 (un kb), .slice sI ids.length cI, .slice sT bs.length cT], 57), (w.heap.size, #[.int .u64 (un ka), .int .u64 (un kb)], 24)] (.slice sT bs.length cT) ka kb (L.take k) bs ⟨xi, xb, xt⟩ b9 W) := hW
            have sW := (pickA hW).st
            have rl := sW.rules
            simp only [Rules, World.size_alloc] at rl
            have u6 : a.eval (Operand.tmp 6) = .pointer (some ⟨(w.heap.size + 1), 0, none⟩) := hu 6 (by decide)
            show StepOk _ _ _ _ _ _
            unfold StepOk
            rw [if_pos (by rfl)]
            clear hu hd
            generalize a.eval = ρ at *
            go_simp
            exact opOk_val rfl
          · intro a W hW hu hd
            have kc : ∀ c, a.eval (Operand.const c) = c := fun _ => rfl
            have kf : ∀ f, a.eval (Operand.func f) = .func (.func f) #[] #[] := fun _ => rfl
            have hW : (NewX w (Value.slice sI ids.length cI).ownBlock [(wr.heap.size, #[.int .u64 (xi : Int), .int .i64 xb, .int .u64 (xt : Int)], 59), (w.heap.size + 1, #[.int .u64 (un ka), .int .u64 (un kb), .slice sI ids.length cI, .slice sT bs.length cT], 57), (w.heap.size, #[.int .u64 (un ka), .int .u64 (un kb)], 24)] (.slice sT bs.length cT) ka kb (L.take k) bs ⟨xi, xb, xt⟩ b9 W ∧ OwnR 1 encU 22 W (w.heap.size + 2) (.slice sI ids.length cI) ids) ∨ (NewX w (Value.slice sI ids.length cI).ownBlock [(wr.heap.size, #[.int .u64 (xi : Int), .int .i64 xb, .int .u64 (xt : Int)], 59), (w.heap.size + 1, #[.int .u64 (un ka), .int .u64 (un kb), .slice sI ids.length cI, .slice sT bs.length cT], 57), (w.heap.size, #[.int .u64 (un ka), .int .u64 (un kb)], 24)] (.slice sT bs.length cT) ka kb (L.take k) bs ⟨xi, xb, xt⟩ b9 W) := hW
            have sW := (pickA hW).st
            have rl := sW.rules
            simp only [Rules, World.size_alloc] at rl
            have u45 : a.eval (Operand.tmp 45) = .pointer (some ⟨(w.heap.size + 1), 0, none⟩) := hd 1 45 (by kernel_rfl) rfl
            show StepOk _ _ _ _ _ _
            unfold StepOk
            rw [if_pos (by rfl)]
            clear hu hd
            generalize a.eval = ρ at *
            go_simp
            exact opOk_val rfl
          · intro a W hW hu hd
            have kc : ∀ c, a.eval (Operand.const c) = c := fun _ => rfl
            have kf : ∀ f, a.eval (Operand.func f) = .func (.func f) #[] #[] := fun _ => rfl
            have hW : (NewX w (Value.slice sI ids.length cI).ownBlock [(wr.heap.size, #[.int .u64 (xi : Int), .int .i64 xb, .int .u64 (xt : Int)], 59), (w.heap.size + 1, #[.int .u64 (un ka), .int .u64 (un kb), .slice sI ids.length cI, .slice sT bs.length cT], 57), (w.heap.size, #[.int .u64 (un ka), .int .u64 (un kb)], 24)] (.slice sT bs.length cT) ka kb (L.take k) bs ⟨xi, xb, xt⟩ b9 W ∧ OwnR 1 encU 22 W (w.heap.size + 2) (.slice sI ids.length cI) ids) ∨ (NewX w (Value.slice sI ids.length cI).ownBlock [(wr.heap.size, #[.int .u64 (xi : Int), .int .i64 xb, .int .u64 (xt : Int)], 59), (w.heap.size + 1, #[.int .u64 (un ka), .int .u64 (un kb), .slice sI ids.length cI, .slice sT bs.length cT], 57), (w.heap.size, #[.int .u64 (un ka), .int .u64 (un kb)], 24)] (.slice sT bs.length cT) ka kb (L.take k) bs ⟨xi, xb, xt⟩ b9 W) := hW
            have sW := (pickA hW).st
            have rl := sW.rules
            simp only [Rules, World.size_alloc] at rl
            have u46 : a.eval (Operand.tmp 46) = .pointer (some ⟨(w.heap.size + 1), 0, none⟩) := hd 2 46 (by kernel_rfl) rfl
            show StepOk _ _ _ _ _ _
            unfold StepOk
            rw [if_pos (by rfl)]
            clear hu hd
            generalize a.eval = ρ at *
            go_simp
            exact opOk_val rfl
          · intro a W hW hu hd
            have kc : ∀ c, a.eval (Operand.const c) = c := fun _ => rfl
            have kf : ∀ f, a.eval (Operand.func f) = .func (.func f) #[] #[] := fun _ => rfl
            have hW : (NewX w (Value.slice sI ids.length cI).ownBlock [(wr.heap.size, #[.int .u64 (xi : Int), .int .i64 xb, .int .u64 (xt : Int)], 59), (w.heap.size + 1, #[.int .u64 (un ka), .int .u64 (un kb), .slice sI ids.length cI, .slice sT bs.length cT], 57), (w.heap.size, #[.int .u64 (un ka), .int .u64 (un kb)], 24)] (.slice sT bs.length cT) ka kb (L.take k) bs ⟨xi, xb, xt⟩ b9 W ∧ OwnR 1 encU 22 W (w.heap.size + 2) (.slice sI ids.length cI) ids) ∨ (NewX w (Value.slice sI ids.length cI).ownBlock [(wr.heap.size, #[.int .u64 (xi : Int), .int .i64 xb, .int .u64 (xt : Int)], 59), (w.heap.size + 1, #[.int .u64 (un ka), .int .u64 (un kb), .slice sI ids.length cI, .slice sT bs.length cT], 57), (w.heap.size, #[.int .u64 (un ka), .int .u64 (un kb)], 24)] (.slice sT bs.length cT) ka kb (L.take k) bs ⟨xi, xb, xt⟩ b9 W) := hW
            have sW := (pickA hW).st
            have rl := sW.rules
            simp only [Rules, World.size_alloc] at rl
            have u47 : a.eval (Operand.tmp 47) = .pointer (some ⟨(w.heap.size + 1), 2, none⟩) := hd 3 47 (by kernel_rfl) rfl
            show StepOk _ _ _ _ _ _
            unfold StepOk
            rw [if_pos (by rfl)]
            clear hu hd
            generalize a.eval = ρ at *
            go_simp
            exact opOk_val rfl
          · intro a W hW hu hd
            have kc : ∀ c, a.eval (Operand.const c) = c := fun _ => rfl
            have kf : ∀ f, a.eval (Operand.func f) = .func (.func f) #[] #[] := fun _ => rfl
            have hW : (NewX w (Value.slice sI ids.length cI).ownBlock [(wr.heap.size, #[.int .u64 (xi : Int), .int .i64 xb, .int .u64 (xt : Int)], 59), (w.heap.size + 1, #[.int .u64 (un ka), .int .u64 (un kb), .slice sI ids.length cI, .slice sT bs.length cT], 57), (w.heap.size, #[.int .u64 (un ka), .int .u64 (un kb)], 24)] (.slice sT bs.length cT) ka kb (L.take k) bs ⟨xi, xb, xt⟩ b9 W ∧ OwnR 1 encU 22 W (w.heap.size + 2) (.slice sI ids.length cI) ids) ∨ (NewX w (Value.slice sI ids.length cI).ownBlock [(wr.heap.size, #[.int .u64 (xi : Int), .int .i64 xb, .int .u64 (xt : Int)], 59), (w.heap.size + 1, #[.int .u64 (un ka), .int .u64 (un kb), .slice sI ids.length cI, .slice sT bs.length cT], 57), (w.heap.size, #[.int .u64 (un ka), .int .u64 (un kb)], 24)] (.slice sT bs.length cT) ka kb (L.take k) bs ⟨xi, xb, xt⟩ b9 W) := hW
            have sW := (pickA hW).st
            have rl := sW.rules
            simp only [Rules, World.size_alloc] at rl
            have u8 : a.eval (Operand.tmp 8) = .pointer (some ⟨wr.heap.size, 0, none⟩) := hu 8 (by decide)
            show StepOk _ _ _ _ _ _
            unfold StepOk
            rw [if_pos (by rfl)]
            clear hu hd
            generalize a.eval = ρ at *
            go_simp
            exact opOk_val rfl
          · intro a W hW hu hd
            have kc : ∀ c, a.eval (Operand.const c) = c := fun _ => rfl
            have kf : ∀ f, a.eval (Operand.func f) = .func (.func f) #[] #[] := fun _ => rfl
            have hW : (NewX w (Value.slice sI ids.length cI).ownBlock [(wr.heap.size, #[.int .u64 (xi : Int), .int .i64 xb, .int .u64 (xt : Int)], 59), (w.heap.size + 1, #[.int .u64 (un ka), .int .u64 (un kb), .slice sI ids.length cI, .slice sT bs.length cT], 57), (w.heap.size, #[.int .u64 (un ka), .int .u64 (un kb)], 24)] (.slice sT bs.length cT) ka kb (L.take k) bs ⟨xi, xb, xt⟩ b9 W ∧ OwnR 1 encU 22 W (w.heap.size + 2) (.slice sI ids.length cI) ids) ∨ (NewX w (Value.slice sI ids.length cI).ownBlock [(wr.heap.size, #[.int .u64 (xi : Int), .int .i64 xb, .int .u64 (xt : Int)], 59), (w.heap.size + 1, #[.int .u64 (un ka), .int .u64 (un kb), .slice sI ids.length cI, .slice sT bs.length cT], 57), (w.heap.size, #[.int .u64 (un ka), .int .u64 (un kb)], 24)] (.slice sT bs.length cT) ka kb (L.take k) bs ⟨xi, xb, xt⟩ b9 W) := hW
            have sW := (pickA hW).st
            have rl := sW.rules
            simp only [Rules, World.size_alloc] at rl
            have u49 : a.eval (Operand.tmp 49) = .pointer (some ⟨wr.heap.size, 0, none⟩) := hd 5 49 (by kernel_rfl) rfl
            show StepOk _ _ _ _ _ _
            unfold StepOk
            rw [if_pos (by rfl)]
            clear hu hd
            generalize a.eval = ρ at *
            go_simp
            exact opOk_val rfl
          · intro a W hW hu hd
            have kc : ∀ c, a.eval (Operand.const c) = c := fun _ => rfl
            have kf : ∀ f, a.eval (Operand.func f) = .func (.func f) #[] #[] := fun _ => rfl
            have hW : (NewX w (Value.slice sI ids.length cI).ownBlock [(wr.heap.size, #[.int .u64 (xi : Int), .int .i64 xb, .int .u64 (xt : Int)], 59), (w.heap.size + 1, #[.int .u64 (un ka), .int .u64 (un kb), .slice sI ids.length cI, .slice sT bs.length cT], 57), (w.heap.size, #[.int .u64 (un ka), .int .u64 (un kb)], 24)] (.slice sT bs.length cT) ka kb (L.take k) bs ⟨xi, xb, xt⟩ b9 W ∧ OwnR 1 encU 22 W (w.heap.size + 2) (.slice sI ids.length cI) ids) ∨ (NewX w (Value.slice sI ids.length cI).ownBlock [(wr.heap.size, #[.int .u64 (xi : Int), .int .i64 xb, .int .u64 (xt : Int)], 59), (w.heap.size + 1, #[.int .u64 (un ka), .int .u64 (un kb), .slice sI ids.length cI, .slice sT bs.length cT], 57), (w.heap.size, #[.int .u64 (un ka), .int .u64 (un kb)], 24)] (.slice sT bs.length cT) ka kb (L.take k) bs ⟨xi, xb, xt⟩ b9 W) := hW
            have sW := (pickA hW).st
            have rl := sW.rules
            simp only [Rules, World.size_alloc] at rl
            have u50 : a.eval (Operand.tmp 50) = .int .u64 (xi : Int) := hd 6 50 (by kernel_rfl) rfl
            show StepOk _ _ _ _ _ _
            unfold StepOk
            rw [if_pos (by rfl)]
            clear hu hd
            generalize a.eval = ρ at *
            go_simp
            exact ⟨(Below.refl _ _).alloc (Nat.le_refl _) _, W.heap.size, rfl, (fun e => absurd ((pickA hW).row _ e) (Nat.lt_irrefl _)), World.alloc_heap_new _ _⟩
          · intro a W hW hu hd
            have kc : ∀ c, a.eval (Operand.const c) = c := fun _ => rfl
            have kf : ∀ f, a.eval (Operand.func f) = .func (.func f) #[] #[] := fun _ => rfl
            have hW : NewX w (Value.slice sI ids.length cI).ownBlock [(wr.heap.size, #[.int .u64 (xi : Int), .int .i64 xb, .int .u64 (xt : Int)], 59), (w.heap.size + 1, #[.int .u64 (un ka), .int .u64 (un kb), .slice sI ids.length cI, .slice sT bs.length cT], 57), (w.heap.size, #[.int .u64 (un ka), .int .u64 (un kb)], 24)] (.slice sT bs.length cT) ka kb (L.take k) bs ⟨xi, xb, xt⟩ b9 W ∧ OwnR 1 encU 22 W (w.heap.size + 2) (.slice sI ids.length cI) ids := hW
            have u48 : a.eval (Operand.tmp 48) = .slice sI ids.length cI := hd 4 48 (by kernel_rfl) rfl
            have f51 : IsSlU (Value.slice sI ids.length cI).ownBlock xi (a.eval (Operand.tmp 51)) W := hd 7 51 (by kernel_rfl) rfl
            obtain ⟨A, u51, hA, hN⟩ := f51
            change cond true _ _
            rw [cond_true]
            exact stepM_append elemU encU_len encU_one rfl (.tmp 48) (.tmp 51) rfl (w.heap.size + 2) _ ids u48 hW.2 [xi] 1 rfl A 0 1 u51 (Rd.ofBlock encU_len hN rfl) (by have := HIL.out; simp; omega) (by decide) (blk_lt (hW.1.st.blk _ (List.mem_of_getElem? (i := 1) rfl))) (fun v' W' ho hg => ⟨hg, ho, hW.1.grown (by simp) (HROW.out W hW.2) hg⟩)
          · intro a W hW hu hd
            have kc : ∀ c, a.eval (Operand.const c) = c := fun _ => rfl
            have kf : ∀ f, a.eval (Operand.func f) = .func (.func f) #[] #[] := fun _ => rfl
            have hW : (NewX w (Value.slice sI ids.length cI).ownBlock [(wr.heap.size, #[.int .u64 (xi : Int), .int .i64 xb, .int .u64 (xt : Int)], 59), (w.heap.size + 1, #[.int .u64 (un ka), .int .u64 (un kb), .slice sI ids.length cI, .slice sT bs.length cT], 57), (w.heap.size, #[.int .u64 (un ka), .int .u64 (un kb)], 24)] (.slice sT bs.length cT) ka kb (L.take k) bs ⟨xi, xb, xt⟩ b9 W ∧ OwnR 1 encU 22 W (w.heap.size + 2) (.slice sI ids.length cI) ids) ∨ (NewX w (Value.slice sI ids.length cI).ownBlock [(wr.heap.size, #[.int .u64 (xi : Int), .int .i64 xb, .int .u64 (xt : Int)], 59), (w.heap.size + 1, #[.int .u64 (un ka), .int .u64 (un kb), .slice sI ids.length cI, .slice sT bs.length cT], 57), (w.heap.size, #[.int .u64 (un ka), .int .u64 (un kb)], 24)] (.slice sT bs.length cT) ka kb (L.take k) bs ⟨xi, xb, xt⟩ b9 W) := hW
            have sW := (pickA hW).st
            have rl := sW.rules
            simp only [Rules, World.size_alloc] at rl
            have u44 : a.eval (Operand.tmp 44) = .pointer (some ⟨(w.heap.size + 1), 0, none⟩) := hd 0 44 (by kernel_rfl) rfl
            show StepOk _ _ _ _ _ _
            unfold StepOk
            rw [if_pos (by rfl)]
            clear hu hd
            generalize a.eval = ρ at *
            go_simp
            exact opOk_val rfl
          · intro a W hW hu hd
            have kc : ∀ c, a.eval (Operand.const c) = c := fun _ => rfl
            have kf : ∀ f, a.eval (Operand.func f) = .func (.func f) #[] #[] := fun _ => rfl
            have hW : (NewX w (Value.slice sI ids.length cI).ownBlock [(wr.heap.size, #[.int .u64 (xi : Int), .int .i64 xb, .int .u64 (xt : Int)], 59), (w.heap.size + 1, #[.int .u64 (un ka), .int .u64 (un kb), .slice sI ids.length cI, .slice sT bs.length cT], 57), (w.heap.size, #[.int .u64 (un ka), .int .u64 (un kb)], 24)] (.slice sT bs.length cT) ka kb (L.take k) bs ⟨xi, xb, xt⟩ b9 W ∧ OwnR 1 encU 22 W (w.heap.size + 2) (.slice sI ids.length cI) ids) ∨ (NewX w (Value.slice sI ids.length cI).ownBlock [(wr.heap.size, #[.int .u64 (xi : Int), .int .i64 xb, .int .u64 (xt : Int)], 59), (w.heap.size + 1, #[.int .u64 (un ka), .int .u64 (un kb), .slice sI ids.length cI, .slice sT bs.length cT], 57), (w.heap.size, #[.int .u64 (un ka), .int .u64 (un kb)], 24)] (.slice sT bs.length cT) ka kb (L.take k) bs ⟨xi, xb, xt⟩ b9 W) := hW
            have sW := (pickA hW).st
            have rl := sW.rules
            simp only [Rules, World.size_alloc] at rl
            have u53 : a.eval (Operand.tmp 53) = .pointer (some ⟨(w.heap.size + 1), 0, none⟩) := hd 9 53 (by kernel_rfl) rfl
            show StepOk _ _ _ _ _ _
            unfold StepOk
            rw [if_pos (by rfl)]
            clear hu hd
            generalize a.eval = ρ at *
            go_simp
            exact opOk_val rfl
        case endd =>
          intro v W hW hv
          have hW : NewX w (Value.slice sI ids.length cI).ownBlock [(wr.heap.size, #[.int .u64 (xi : Int), .int .i64 xb, .int .u64 (xt : Int)], 59), (w.heap.size + 1, #[.int .u64 (un ka), .int .u64 (un kb), .slice sI ids.length cI, .slice sT bs.length cT], 57), (w.heap.size, #[.int .u64 (un ka), .int .u64 (un kb)], 24)] (.slice sT bs.length cT) ka kb (L.take k) bs ⟨xi, xb, xt⟩ b9 W := hW
          have v0 : v 0 = (.pointer (some ⟨(w.heap.size + 1), 0, none⟩)) := hv 0 (by omega)
          have v1 : v 1 = (.pointer (some ⟨(w.heap.size + 1), 0, none⟩)) := hv 1 (by omega)
          have v2 : v 2 = (.pointer (some ⟨(w.heap.size + 1), 0, none⟩)) := hv 2 (by omega)
          have v3 : v 3 = (.pointer (some ⟨(w.heap.size + 1), 2, none⟩)) := hv 3 (by omega)
          have v4 : v 4 = (.slice sI ids.length cI) := hv 4 (by omega)
          have v5 : v 5 = (.pointer (some ⟨wr.heap.size, 0, none⟩)) := hv 5 (by omega)
          have v6 : v 6 = (.int .u64 (xi : Int)) := hv 6 (by omega)
          have hf7 : IsSlU (Value.slice sI ids.length cI).ownBlock xi (v 7) W := hv 7 (by omega)
          have hf8 : IsOwnU (w.heap.size + 2) (ids ++ [xi]) (v 8) W := hv 8 (by omega)
          have v9 : v 9 = (.pointer (some ⟨(w.heap.size + 1), 0, none⟩)) := hv 9 (by omega)
          have v10 : v 10 = (.pointer (some ⟨(w.heap.size + 1), 2, none⟩)) := hv 10 (by omega)
          clear hv
          simp only [List.take_succ_cons, List.take_zero, List.drop_succ_cons, List.drop_zero, putAll, Nat.zero_add, Nat.reduceAdd]
          rw [v0, v1, v2, v3, v4, v5, v6, v9, v10]
          clear v0 v1 v2 v3 v4 v5 v6 v9 v10
          obtain ⟨sI', cI', v8, -, -, -, -, -⟩ := OwnR.form encU_len hf8
          rw [List.length_append, List.length_singleton] at v8
          rw [v8] at hf8 ⊢
          generalize v 7 = q8 at *
          have hC := hW.st.blk _ (List.mem_of_getElem? (i := 1) rfl)
          have g2 := grownBy_setO W (w.heap.size + 1) 2 (.slice sI' (ids.length + 1) cI')
          have r2 : ∀ r, some (w.heap.size + 1) = some r → ∃ cur, W.heap[r]? = some (.cells cur 57 (0, 0)) := fun r e => by cases e; exact ⟨_, hC⟩
          have st2 := hW.st.setT 1 (A := w.heap.size + 1) rfl (o := 2) (v := (.slice sI' (ids.length + 1) cI')) (by omega)
          simp only [setB, List.modify_succ_cons, List.modify_zero_cons, List.setIfInBounds_toArray, List.set_cons_zero, List.set_cons_succ] at st2
          have oI2 := OwnR.grownT hf8 (by decide) g2 r2
          have oT2 := hW.own.grownT (by decide) g2 r2
          have tn2 := hW.ten.grown (by decide) g2 r2
          have nw2 := grown_blk g2 r2 (by decide) hW.nw
          have al3 := (Below.refl (W.setCell ⟨w.heap.size + 1, 2, none⟩ (.slice sI' (ids.length + 1) cI')).heap.size (W.setCell ⟨w.heap.size + 1, 2, none⟩ (.slice sI' (ids.length + 1) cI'))).alloc (Nat.le_refl _) (.cells #[.pointer (some ⟨b9, 0, none⟩)] 60)
          have HA3 := Lib.hid (And.intro (OwnR.keep _ _ oI2 al3) (And.intro (OwnR.keep _ _ oT2 al3) (And.intro (tn2.keepB al3) (And.intro ((al3.block b9 (blk_lt nw2)).trans nw2) (st2.alloc (cs := #[.pointer (some ⟨b9, 0, none⟩)]) (T := 60))))))
          have hz2 : (W.setCell ⟨w.heap.size + 1, 2, none⟩ (.slice sI' (ids.length + 1) cI')).heap.size = W.heap.size := by simp [World.setCell]
          have hN3 := World.alloc_heap_new (W.setCell ⟨w.heap.size + 1, 2, none⟩ (.slice sI' (ids.length + 1) cI')) (.cells #[.pointer (some ⟨b9, 0, none⟩)] 60)
          rw [hz2] at hN3
          have HN3 := Lib.hid hN3
          have rl := hW.st.rules
          simp only [Rules] at rl
          clear hz2 hN3 hf7 hf8 v8 hC g2 r2 st2 oI2 oT2 tn2 nw2 al3 hW HX9 HROW sW
          go_wp2_with (at_builtin; go_must (refine append_raw elemP encP_len encP_one rfl (.tmp 59) (.tmp 61) rfl (w.heap.size + 2) (.slice sT bs.length cT) bs rfl HA3.out.2.1 [b9] 1 rfl _ 0 1 rfl (Rd.ofBlock encP_len HN3.out rfl) (by have := HTL.out; simp; omega) (by decide) (Nat.le_trans (Nat.succ_le_of_lt (blk_lt (HA3.out.2.2.2.2.blk _ (List.mem_of_getElem? (i := 2) rfl)))) (Nat.le_refl _)) ?_); intro v4 W4 ho4 hg4; obtain ⟨sT', cT', e4, -, -, -, -, -⟩ := ho4.form encP_len; rw [List.length_append, List.length_singleton] at e4; subst e4; have st4 := (HA3.out.2.2.2.2.less _ (List.sublist_cons_self _ _)).grownT hg4 (fun r e => by obtain ⟨h1, h2⟩ := HA3.out.2.1.row r e; exact ⟨by omega, h2⟩) (by simp); have rl4 := st4.rules; simp only [Rules] at rl4)
          have r4 : ∀ r, (Value.slice sT bs.length cT).ownBlock = some r → ∃ cur, _ = some (Obj.cells cur 60 (0, 0)) := fun r e => (HA3.out.2.1.row r e).2
          have g5 := grownBy_setO W4 (w.heap.size + 1) 3 (.slice sT' (bs.length + 1) cT')
          have hC4 := st4.blk _ (List.mem_of_getElem? (i := 1) rfl)
          have r5 : ∀ r, some (w.heap.size + 1) = some r → ∃ cur, W4.heap[r]? = some (.cells cur 57 (0, 0)) := fun r e => by cases e; exact ⟨_, hC4⟩
          have st5 := st4.setT 1 (A := w.heap.size + 1) rfl (o := 3) (v := (.slice sT' (bs.length + 1) cT')) (by omega)
          simp only [setB, List.modify_succ_cons, List.modify_zero_cons, List.setIfInBounds_toArray, List.set_cons_zero, List.set_cons_succ] at st5
          have oI5 := OwnR.grownT (OwnR.grownT HA3.out.1 (by decide) hg4 r4) (by decide) g5 r5
          have oT5 := OwnR.grownT ho4 (by decide) g5 r5
          have tn5 := (((HA3.out.2.2.1.grown (by decide) hg4 r4).grown (by decide) g5 r5).snoc (grown_blk g5 r5 (by decide) (grown_blk hg4 r4 (by decide) HA3.out.2.2.2.1)) HW9.out.2.2 HW9.out.2.1)
          have HF5 := Lib.hid (And.intro oI5 (And.intro oT5 (And.intro tn5 (st5.less _ (List.sublist_cons_self _ _)))))
          clear oI5 oT5 tn5 st5 st4 ho4 hg4 g5 r5 r4 hC4 rl4
          go_roundw
          case rel =>
            refine ⟨k + 1, (.slice sI' (ids.length + 1) cI'), (.slice sT' (bs.length + 1) cT'), bs ++ [b9], hlt, by go_num, ?_⟩
            rw [HTK.out, List.map_append, HID.out]
            refine ⟨HF5.out.2.2.2, HF5.out.1, HF5.out.2.1, HF5.out.2.2.1, Lib.hid ⟨fun c hc => ?_, ?_⟩⟩
            · rcases List.mem_append.1 hc with hc | hc
              · exact HG.out.1 c hc
              · simp at hc
                subst hc
                exact HBU.out
            · refine List.nodup_append.2 ⟨HG.out.2, by simp, fun a ha b hb => ?_⟩
              simp at hb
              subst hb
              rintro rfl
              exact HIN.out ha
          case measure => simp [intOf]; omega
    · obtain rfl : k = L.length := by omega
      rw [List.take_length] at hten HG hids
      have hlen1 := HG.out
      go_wp2_with fail
      go_ret2
      exact .inr ⟨_, bs, rfl, ⟨by omega, by omega, hlen1.1, by rw [hids]; exact hlen1.2⟩, by omega, ⟨_, _, st.blk _ (List.mem_of_getElem? (i := 0) rfl), by rw [hids]; exact OwnR.base hoI (Nat.zero_le _), OwnR.base hoT (Nat.zero_le _)⟩, hten, st.below⟩
end Go.Proofs.YtmgdbfmlnmahpaaGreatDoor
