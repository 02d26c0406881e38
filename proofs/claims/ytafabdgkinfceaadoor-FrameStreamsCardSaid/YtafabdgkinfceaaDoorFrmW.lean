/- Streams of frames: the plain facts over texts; append of texts to a row of texts. -/
import Derived.Test.YtafabdgkinfceaaDoorFrmU
import Derived.Test.YtafabdgkinfceaaDoorFew3
import Derived.Test.YtafabdgkinfceaaDoorFrmL
import Derived.Laws.AppendOwnNone
namespace Go.Proofs.YtafabdgkinfceaaDoor
open Go.RowKit Go.Shelf

def goodB (L : List ByteArray) : List ByteArray := L.filter fun x => decide (x.size ≠ 0)
def catB (L : List ByteArray) : ByteArray := ⟨(catF (L.map fun x => x.data.toList)).toArray⟩
theorem goodB_snoc_no (L : List ByteArray) (x : ByteArray) (h : x.size = 0) : goodB (L ++ [x]) = goodB L := by
  unfold goodB
  rw [List.filter_append, List.filter_cons_of_neg (by simp only [decide_eq_true_eq]; omega), List.filter_nil, List.append_nil]
theorem goodB_snoc_yes (L : List ByteArray) (x : ByteArray) (h : x.size ≠ 0) : goodB (L ++ [x]) = goodB L ++ [x] := by
  unfold goodB
  rw [List.filter_append, List.filter_cons_of_pos (by simp only [decide_eq_true_eq]; omega), List.filter_nil]
theorem take_snoc (L : List ByteArray) (k : Nat) (x : ByteArray) (hx : L[k]? = some x) : L.take (k + 1) = L.take k ++ [x] := by
  rw [List.take_add_one, hx]; rfl
theorem catB_list (L : List ByteArray) : (catB L).data.toList = catF (L.map fun x => x.data.toList) := by simp [catB]
theorem catF_snoc (L : List (List UInt8)) (x : List UInt8) : catF (L ++ [x]) = catF L ++ frmL x := by simp [catF]
theorem catB_snoc (L : List ByteArray) (x : ByteArray) : catB (L ++ [x]) = catB L ++ frmB x := by
  have e : (catB (L ++ [x])).data.toList = (catB L ++ frmB x).data.toList := by
    rw [catB_list, ByteArray.data_append, Array.toList_append, catB_list, frmB_list, List.map_append]
    exact catF_snoc _ _
  exact ByteArray.ext (Array.toList_inj.1 e)
theorem catB_nil : catB [] = ⟨#[]⟩ := rfl
theorem catB_size (L : List ByteArray) (h : ∀ x ∈ L, x.size ≤ 300) : (catB L).size ≤ L.length * 310 := by
  have hz : (catB L).size = (catB L).data.toList.length := by simp
  rw [hz, catB_list]
  clear hz
  induction L with
  | nil => simp [catF]
  | cons x L ih =>
    have h1 := ih fun y hy => h y (by simp [hy])
    have h2 := h x (by simp)
    have h3 := frmB_size x
    have h4 : (frmB x).size = (frmL x.data.toList).length := by rw [← frmB_list]; simp
    have h5 := putB_size x.size
    have e : catF ((x :: L).map fun y => y.data.toList) = frmL x.data.toList ++ catF (L.map fun y => y.data.toList) := by simp [catF]
    rw [e, List.length_append, List.length_cons]
    have h6 : (putB x.size).size ≤ 2 := by
      by_cases c : x.size ≤ 240
      · rw [put1 c]; omega
      · rw [put2 (by omega) (by omega)]; omega
    omega
theorem goodB_mem {L : List ByteArray} {x : ByteArray} (h : x ∈ goodB L) : x ∈ L ∧ x.size ≠ 0 := by
  unfold goodB at h
  rw [List.mem_filter] at h
  exact ⟨h.1, by simpa using h.2⟩
theorem goodB_len (L : List ByteArray) : (goodB L).length ≤ L.length := List.length_filter_le _ _
theorem goodF_of {L : List ByteArray} (h : ∀ x ∈ L, x.size ≤ 300) : GoodF ((goodB L).map fun x => x.data.toList) := by
  intro y hy
  obtain ⟨x, hx, rfl⟩ := List.mem_map.1 hy
  obtain ⟨h1, h2⟩ := goodB_mem hx
  have h3 := h x h1
  have hz : x.data.toList.length = x.size := by simp
  exact ⟨fun e => by rw [e] at hz; simp at hz; omega, by omega⟩
theorem map_ba (L : List ByteArray) : (L.map fun x => x.data.toList).map baOf = L := by
  rw [List.map_map]
  conv => rhs; rw [← List.map_id L]
  apply List.map_congr_left
  intro x _
  cases x
  simp [baOf]

/-- a stream of frames, cut -/
theorem cutB (L : List ByteArray) (h : ∀ x ∈ L, x.size ≤ 300) (j : Nat) (hj : j ≤ (catB (goodB L)).size) :
    ∃ A B tl, A.map baOf ++ B.map baOf = goodB L ∧ allL ((catB (goodB L)).extract 0 j).data.toList = (A, tl, 20) ∧ allL ((⟨tl.toArray⟩ : ByteArray) ++ (catB (goodB L)).extract j (catB (goodB L)).size).data.toList = (B, [], 20) ∧ tl.length ≤ (catB (goodB L)).size := by
  have hz : (catF ((goodB L).map fun x => x.data.toList)).length = (catB (goodB L)).size := by rw [← catB_list]; simp
  obtain ⟨A, B, tl, h1, h2, h3⟩ := streams ((goodB L).map fun x => x.data.toList) j (goodF_of h) (by omega)
  have e1 : ((catB (goodB L)).extract 0 j).data.toList = (catF ((goodB L).map fun x => x.data.toList)).take j := by
    rw [ByteArray.data_extract, Array.toList_extract, catB_list, List.extract_eq_take_drop, List.drop_zero, Nat.sub_zero]
  have e2 : ((catB (goodB L)).extract j (catB (goodB L)).size).data.toList = (catF ((goodB L).map fun x => x.data.toList)).drop j := by
    rw [ByteArray.data_extract, Array.toList_extract, catB_list, List.extract_eq_take_drop, List.take_of_length_le (by rw [List.length_drop]; omega)]
  refine ⟨A, B, tl, ?_, ?_, ?_, ?_⟩
  · rw [← List.map_append, ← h1, map_ba]
  · rw [e1, h2]
  · rw [ByteArray.data_append, Array.toList_append, e2, ← h3]
  · have hl : ∀ (f : Nat) (s : List UInt8), (allF f s).2.1.length ≤ s.length := by
      intro f
      induction f with
      | zero => intro s; exact Nat.le_refl _
      | succ f ih =>
        intro s
        cases hr : readL s with
        | bad no => rw [allF_bad hr]; exact Nat.le_refl _
        | ok b r =>
          have := readL_less hr
          have := ih r
          rw [allF_ok hr]
          show (allF f r).2.1.length ≤ _
          omega
    have := hl ((List.take j (catF ((goodB L).map fun x => x.data.toList))).length + 1) (List.take j (catF ((goodB L).map fun x => x.data.toList)))
    change (allL _).2.1.length ≤ _ at this
    rw [h2, List.length_take] at this
    change tl.length ≤ _ at this
    omega

theorem strs_same {W W' : World} {s : Option Addr} {L : List ByteArray} {B : Nat} (h : Strs W s L) (hB : W.heap.size ≤ B) (hz : W.heap.size ≤ W'.heap.size) (hk : ∀ k, k < B → W'.heap[k]? = W.heap[k]?) : Strs W' s L := by
  intro i x hx
  obtain ⟨g, o, e, hg, hc⟩ := h i x hx
  refine ⟨g, o, e, by omega, ?_⟩
  rw [← hc]
  simp only [World.cell?, hk g (by omega)]
theorem append_strs {ops : Array Oper} {rest : List Oper} {o : Oper} {a : Act} {Q : Exit → Act → World → Prop} {w0 W : World} {bl : List Blk} (hgd : o.guard = none) (s x : Operand)
    (ho : o.op = .call { callee := .builtin .append, args := #[s, x], argTypes := #[37, 37] }) (B : Nat) (v : Value) (L : List ByteArray) (hs : a.eval s = v) (st : St w0 bl (fun _ => True) W) (hown : OwnS W B v L)
    (hw : w0.heap.size ≤ B) (hbl : ∀ z ∈ bl, z.1 < B) (hB : B ≤ W.heap.size) (M : List ByteArray) (m : Nat) (hm : m = M.length) (sx : Option Addr) (cx : Nat) (hx : a.eval x = .slice sx m cx) (hc : sx = none → cx = 0) (hM : Strs W sx M) (hn : L.length + M.length ≤ 1000000)
    (h : ∀ v' w', St w0 bl (fun _ => True) w' → OwnS w' B v' (L ++ M) → (∀ k, k < B → w'.heap[k]? = W.heap[k]?) → W.heap.size ≤ w'.heap.size → wpList Tryd.prog ops Q rest (a.put o.dst v') w') :
    wpList Tryd.prog ops Q (o :: rest) a W := by
  subst hm
  obtain ⟨i0, hi, hz0, hz1, hz2⟩ := info_parts infoStr
  cases sx with
  | none =>
    obtain rfl : M = [] := by
      cases M with
      | nil => rfl
      | cons y M => obtain ⟨g, o, he, _⟩ := hM 0 y rfl; cases he
    obtain rfl := hc rfl
    refine wpList_append_own_none hgd s x 37 ho B 9 i0 1 Tryd.underlying37 hi v L.length (L.map Value.string) hs hown hx ?_
    refine h v W st ?_ (fun _ _ => rfl) (Nat.le_refl _)
    rw [List.append_nil]; exact hown
  | some ad =>
    refine wpList_append_own _ hgd s x 37 ho B 9 i0 (.string ⟨#[]⟩) 1 16 Tryd.underlying37 hi hz0 hz1 hz2 rfl (by decide) v L.length (L.map Value.string) hs hown ad M.length cx (M.map Value.string) hx (by simp) ?_ ?_ (by unfold maxLen; omega) (by omega) hB ?_
    · intro j u hj
      rw [List.getElem?_map] at hj
      cases hy : M[j]? with
      | none => rw [hy] at hj; cases hj
      | some y =>
        rw [hy] at hj
        obtain ⟨g, o, he, hg, c0⟩ := hM _ _ hy
        cases he
        cases hj
        rw [Addr.add_lit]
        exact c0
    · intro u hu
      obtain ⟨y, _, rfl⟩ := List.mem_map.1 hu
      rfl
    · intro v' w' hown' hgr _
      refine h v' w' (st.grown hgr fun k hk => ?_) ?_ (fun k hk => ?_) hgr.size
      · have := (hown.lt k hk).1
        exact ⟨by omega, fun z hz => by have := hbl z hz; omega⟩
      · unfold OwnS
        rw [List.length_append, List.map_append]
        exact hown'
      · refine hgr.block k (by omega) (fun e => ?_)
        have := (hown.lt k e.symm).1
        omega
end Go.Proofs.YtafabdgkinfceaaDoor
