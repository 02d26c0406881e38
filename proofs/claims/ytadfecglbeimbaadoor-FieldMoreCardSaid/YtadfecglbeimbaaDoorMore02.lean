/- Plain: what the laws on lists need. -/
import Derived.Test.YtadfecglbeimbaaDoorGetList
namespace Go.Proofs.YtadfecglbeimbaaDoor
open Go.RowKit

theorem more_num (n : Nat) : ∃ j, (putB n).size = j + 1 ∧ j ≤ 9 ∧ Hid (getV ((putB n).extract 0 j) (getL ((putB n).extract 0 j).data.toList) = .tuple #[.int .u64 0, .string ((putB n).extract 0 j), .int .i64 20]) := by
  have h := put_length n
  have hl := putB_len n
  refine ⟨(putB n).size - 1, by omega, by omega, ?_⟩
  show _ = _
  have e : ((putB n).extract 0 ((putB n).size - 1)).data.toList = (put n).take ((putB n).size - 1) := by
    rw [ext_to (putB n) (put n) (by simp [putB])]
  rw [e, getL_take n _ (by omega)]
  rfl
theorem good_data {M : List ByteArray} (hg : GoodL M) : (M.map (·.data.toList)).length ≤ 100 ∧ ∀ x ∈ M.map (·.data.toList), x.length ≤ 400 := by
  refine ⟨by simpa using hg.1, ?_⟩
  intro x hx
  obtain ⟨y, hy, rfl⟩ := List.mem_map.1 hx
  have := hg.2 y hy
  simpa using this
theorem more_list (M : List ByteArray) (hg : GoodL M) (m : Nat) (hm : m < (putListB M).size) : listL ((putListB M).extract 0 m).data.toList = .more := by
  have e : ((putListB M).extract 0 m).data.toList = (putListL (M.map (·.data.toList))).take m := by
    rw [ext_to (putListB M) (putListL (M.map (·.data.toList))) (by simp [putListB])]
  have hm' : m < (putListL (M.map (·.data.toList))).toArray.size := hm
  rw [e, listL_take _ (good_data hg).1 (good_data hg).2 m (by simpa using hm')]
theorem map_ba (M : List ByteArray) : (M.map (·.data.toList)).map baOf = M := by
  rw [List.map_map]
  conv => rhs; rw [← List.map_id M]
  apply List.map_congr_left
  intro x _
  cases x
  simp [baOf]
theorem list_cat (M : List ByteArray) (hg : GoodL M) (c : ByteArray) : restS (putListB M ++ c) (listL (putListB M ++ c).data.toList) = c ∧ noS (listL (putListB M ++ c).data.toList) = 0 ∧ txtsS (listL (putListB M ++ c).data.toList) = M := by
  have e : (putListB M ++ c).data.toList = putListL (M.map (·.data.toList)) ++ c.data.toList := by
    rw [ByteArray.data_append, Array.toList_append]
    simp [putListB]
  rw [e, listL_put _ (good_data hg).1 (good_data hg).2]
  exact ⟨by cases c; simp [restS], rfl, map_ba M⟩
theorem data_map (C : List (List UInt8)) : (C.map baOf).map (·.data.toList) = C := by
  rw [List.map_map]
  conv => rhs; rw [← List.map_id C]
  apply List.map_congr_left
  intro x _
  simp [baOf]
theorem list_back (c : ByteArray) (C : List (List UInt8)) (r : List UInt8) (h : listL c.data.toList = .ok C r) : GoodL (C.map baOf) ∧ ((putListB (C.map baOf) ++ (⟨r.toArray⟩ : ByteArray)).toList == c.toList) = true ∧ (⟨r.toArray⟩ : ByteArray).size ≤ c.size := by
  obtain ⟨h1, h2, h3⟩ := listL_back _ _ _ h
  refine ⟨⟨by simpa using h2, ?_⟩, ?_, ?_⟩
  · intro x hx
    obtain ⟨y, hy, rfl⟩ := List.mem_map.1 hx
    have := h3 y hy
    show y.toArray.size ≤ _
    simpa using this
  · rw [Lib.toList_data, Lib.toList_data, ByteArray.data_append, Array.toList_append]
    have e : (putListB (C.map baOf)).data.toList = putListL C := by
      show (putListL _).toArray.toList = _
      rw [data_map]
    rw [e]
    show (putListL C ++ r == c.data.toList) = true
    rw [h1]
    simp
  · have := congrArg List.length h1
    show r.toArray.size ≤ _
    rw [List.length_append] at this
    simp at this ⊢
    omega
theorem txts_len (l : List UInt8) : (txtsS (listL l)).length ≤ 100 := by
  cases h : listL l with
  | more => simp [txtsS]
  | field => simp [txtsS]
  | ok C r => have := (listL_back _ _ _ h).2.1; simpa [txtsS] using this
theorem putText_form (s : ByteArray) : ∃ a no, putTextV s = .tuple #[.string a, .int .i64 no] := by unfold putTextV; split <;> exact ⟨_, _, rfl⟩
theorem putList_form (L : List ByteArray) : ∃ a no, putListV L = .tuple #[.string a, .int .i64 no] := by unfold putListV; split <;> exact ⟨_, _, rfl⟩
theorem getText_form (s : ByteArray) (g : GotT) : ∃ a b no, getTextV s g = .tuple #[.string a, .string b, .int .i64 no] := by cases g <;> exact ⟨_, _, _, rfl⟩

end Go.Proofs.YtadfecglbeimbaaDoor
