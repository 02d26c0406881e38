/- field.PutList, walked. -/
import Derived.Test.YtadfecglbeimbaaDoorStrRow
import Derived.Test.YtadfecglbeimbaaDoorListSpec
import Derived.LoopTactic
namespace Go.Proofs.YtadfecglbeimbaaDoor
open Go.RowKit Go.Shelf
set_option linter.unusedSimpArgs false
set_option linter.unusedVariables false

theorem OwnS.one (W : World) (B : Nat) (hB : B ≤ W.heap.size) (y : ByteArray) : OwnS (W.alloc (.cells #[.string y] 9)) B (.slice (some ⟨W.heap.size, 0, none⟩) 1 1) [y] :=
  ⟨rfl, .inr ⟨W.heap.size, 1, #[.string y], rfl, hB, World.alloc_heap_new W _, Nat.le_refl _, by unfold maxLen; omega, rfl, rfl⟩⟩
theorem OwnS.base {W : World} {B B' : Nat} {v : Value} {L : List ByteArray} (h : OwnS W B v L) (hb : B' ≤ B) : OwnS W B' v L := ownsRow_base h hb

/-- a text's bytes, as a text -/
def putTextB (s : ByteArray) : ByteArray := ⟨(putTextL s.data.toList).toArray⟩
theorem putTextV_ok {s : ByteArray} (h : s.size ≤ 400) : putTextV s = .tuple #[.string (putTextB s), .int .i64 0] := by unfold putTextV; rw [if_neg (by omega)]; rfl
theorem putTextV_no {s : ByteArray} (h : 400 < s.size) : putTextV s = .tuple #[.string ⟨#[]⟩, .int .i64 21] := by unfold putTextV; rw [if_pos h]
def putListB (L : List ByteArray) : ByteArray := ⟨(putListL (L.map (·.data.toList))).toArray⟩
def GoodL (L : List ByteArray) : Prop := L.length ≤ 100 ∧ ∀ x ∈ L, x.size ≤ 400
instance (L : List ByteArray) : Decidable (GoodL L) := by unfold GoodL; infer_instance
def putListV (L : List ByteArray) : Value := if GoodL L then .tuple #[.string (putListB L), .int .i64 0] else .tuple #[.string ⟨#[]⟩, .int .i64 21]
theorem putTextB_data (s : ByteArray) : (putTextB s).data.toList = putTextL s.data.toList := by simp [putTextB]
theorem putParts (L : List ByteArray) : ((putB L.length :: L.map putTextB).map (·.data.toList)).flatten = putListL (L.map (·.data.toList)) := by
  unfold putListL putTextsL
  rw [List.map_cons, List.flatten_cons, List.length_map, List.map_map, List.map_map]
  congr 1
theorem putListB_size (L : List ByteArray) (h : GoodL L) : (putListB L).size ≤ 50000 := by
  have := putListL_len (L.map (·.data.toList)) (by simpa using h.1) (by
    intro x hx
    obtain ⟨y, hy, rfl⟩ := List.mem_map.1 hx
    have := h.2 y hy
    simpa using this)
  show (putListL _).toArray.size ≤ _
  simpa using this
theorem take_parts (L : List ByteArray) (k : Nat) (x : ByteArray) (hx : L[k]? = some x) : putB L.length :: (L.take (k + 1)).map putTextB = (putB L.length :: (L.take k).map putTextB) ++ [putTextB x] := by
  have hk : k < L.length := (List.getElem?_eq_some_iff.1 hx).1
  have e : L[k] = x := by simpa [List.getElem?_eq_getElem hk] using hx
  rw [List.take_succ_eq_append_getElem hk, List.map_append, e]
  rfl
theorem good_take {L : List ByteArray} (h : ∀ x ∈ L.take L.length, x.size ≤ 400) (hl : L.length ≤ 100) : GoodL L := ⟨hl, by rwa [List.take_of_length_le (Nat.le_refl _)] at h⟩
theorem take_good {L : List ByteArray} {k : Nat} {x : ByteArray} (hx : L[k]? = some x) (h : ∀ x ∈ L.take k, x.size ≤ 400) (h' : x.size ≤ 400) : ∀ x ∈ L.take (k + 1), x.size ≤ 400 := by
  intro y hy
  rw [List.take_add_one, hx] at hy
  rcases List.mem_append.1 hy with hy | hy
  · exact h y hy
  · obtain rfl := List.mem_singleton.1 hy
    exact h'

set_option maxRecDepth 100000 in
set_option maxHeartbeats 2000000 in
theorem putList_any (L : List ByteArray) (hN : ∀ x ∈ L, x.size ≤ 9223372036854775807) (hl : L.length ≤ 9223372036854775807) (s : Option Addr) (cap : Nat) (w : World) (hE : Strs w s L) :
    Calls Tryd.prog 21 #[.slice s L.length cap] w fun e w' => e = .returned (putListV L) ∧ Below w.heap.size w w' := by
  by_cases c1 : 100 < L.length
  · have hv : putListV L = .tuple #[.string ⟨#[]⟩, .int .i64 21] := by unfold putListV; rw [if_neg (fun h => by have := h.1; omega)]
    rw [hv]
    clear hv
    go_enter Tryd.func21, Tryd.ntmps21
    go_wp2_with fail
    go_ret2
    exact ⟨rfl, Below.refl _ _⟩
  have hl1 : L.length ≤ 100 := by omega
  have HV : Hid (GoodL L → putListV L = .tuple #[.string (putListB L), .int .i64 0]) := by show _ → _; intro h; unfold putListV; rw [if_pos h]
  have HF : Hid (¬ GoodL L → putListV L = .tuple #[.string ⟨#[]⟩, .int .i64 21]) := by show _ → _; intro h; unfold putListV; rw [if_neg h]
  generalize putListV L = V at *
  clear hl
  go_enter Tryd.func21, Tryd.ntmps21
  go_wp2_with fail
  refine (put_any _ (by omega) (by omega) _).mono ?_
  rw [Int.toNat_natCast]
  rintro e w1 ⟨rfl, hb1⟩
  have hz1 := hb1.size
  go_wp2_with fail
  go_loopw [4, 19] (fun v i wr => ∃ (k : Nat) (vv : Value), vv = v ∧ k ≤ L.length ∧ i = .int .i64 k ∧ Hid (∀ x ∈ L.take k, x.size ≤ 400) ∧ St w [] (fun _ => True) wr ∧ w1.heap.size ≤ wr.heap.size ∧ OwnS wr w1.heap.size vv (putB L.length :: (L.take k).map putTextB)) (fun _ i _ => L.length - (intOf i).toNat)
  case atStart => exact ⟨0, _, rfl, Nat.zero_le _, rfl, by show ∀ _, _; simp, ((St.start w).to hb1).to ((Below.refl _ _).alloc (Nat.le_refl _) _), by simp, OwnS.one w1 _ (Nat.le_refl _) _⟩
  case round =>
    obtain ⟨k, vv, rfl, hk, rfl, HS, st, hzr, hown⟩ := hrel
    by_cases h1 : k < L.length
    · obtain ⟨x, hx⟩ : ∃ x, L[k]? = some x := ⟨_, List.getElem?_eq_getElem h1⟩
      have hxs := hN x (List.mem_of_getElem? hx)
      obtain ⟨g, o, rfl, hgl, hc0⟩ := hE k x hx
      have hc := (st.below.cell (p := ⟨g, o + k, none⟩) hgl).trans hc0
      clear hc0
      have HX := Lib.hid hx
      have HXP := Lib.hid (take_parts L k x hx)
      have hlen : (putB L.length :: (L.take k).map putTextB).length ≤ 101 := by simp; omega
      clear hx
      generalize putB L.length :: (L.take k).map putTextB = M at *
      go_wp2_with fail
      refine (putText_any x hxs _).mono ?_
      by_cases c2 : 400 < x.size
      · rw [putTextV_no c2]
        rintro e w2 ⟨rfl, hb2⟩
        have hv := HF.out (fun h => by have := h.2 x (List.mem_of_getElem? HX.out); omega)
        subst hv
        clear HF HV
        go_wp2_with fail
        go_ret2
        exact ⟨rfl, (st.to hb2).below⟩
      · rw [putTextV_ok (by omega)]
        rintro e w2 ⟨rfl, hb2⟩
        have st2 := st.to hb2
        have hown2 := OwnS.keep _ _ hown hb2
        have hz2 := hb2.size
        clear st hown hc
        have HS2 := Lib.hid (take_good HX.out HS.out (by omega))
        go_wp2_with (at_builtin; refine append_str rfl (.tmp 31) (.tmp 33) rfl w1.heap.size vv M (putTextB x) rfl st2 hown2 hz1 (by simp) (by omega) w2.heap.size rfl rfl (by omega) ?_; intro v5 w5 st5 hown5 hz5)
        rw [← HXP.out] at hown5
        go_roundw
        case rel => exact ⟨k + 1, _, rfl, h1, by go_num, HS2, st5, by omega, hown5⟩
        case measure => simp [intOf]; omega
    · obtain rfl : k = L.length := by omega
      have hgood := good_take HS.out hl1
      have hv := HV.out hgood
      clear HF HV
      have e : L.take L.length = L := List.take_of_length_le (Nat.le_refl _)
      rw [e] at hown
      clear e
      obtain ⟨s', cap', hvv, hcap, hcm, hstrs, hnn⟩ := hown.form
      have hlen : (putB L.length :: L.map putTextB).length ≤ 101 := by simp; omega
      have hlen0 : 0 < (putB L.length :: L.map putTextB).length := by simp
      have HP := Lib.hid (putParts L)
      have hps := putListB_size L hgood
      obtain ⟨PB, hPB⟩ : ∃ PB, PB = putListB L := ⟨_, rfl⟩
      have HPB : Hid (PB = ⟨(putListL (L.map (·.data.toList))).toArray⟩) := hPB
      have hfl : ((putB L.length :: L.map putTextB).map (·.data.toList)).flatten.length ≤ 140737488355328 := by
        rw [HP.out]
        have : (putListL (L.map (·.data.toList))).toArray.size ≤ 50000 := hps
        simp at this
        omega
      rw [← hPB] at hv
      subst hv
      clear hPB hps
      generalize putB L.length :: L.map putTextB = M at *
      subst hvv
      cases s' with
      | none => exfalso; have := hnn rfl; omega
      | some a =>
        obtain ⟨y, hy⟩ : ∃ y, M[0]? = some y := ⟨_, List.getElem?_eq_getElem hlen0⟩
        obtain ⟨g, o, hgo, hgl, _⟩ := hstrs 0 y hy
        obtain rfl := Option.some.inj hgo
        have HJ := Lib.hid (joined_any g o cap' M wr (fun j x hj => by
          obtain ⟨g', o', e', _, hc'⟩ := hstrs j x hj
          cases e'
          exact hc') hgl (by omega) hcap hfl)
        clear hown hstrs hnn hy hgo
        go_wp2_with fail
        refine HJ.out.mono ?_
        rw [HP.out, ← HPB.out]
        rintro e w2 ⟨rfl, hb2⟩
        go_wp2_with fail
        go_ret2
        exact ⟨rfl, (st.to hb2).below⟩

end Go.Proofs.YtadfecglbeimbaaDoor
