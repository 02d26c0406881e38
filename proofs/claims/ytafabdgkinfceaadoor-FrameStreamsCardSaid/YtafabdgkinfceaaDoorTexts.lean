/- aviaryref02.Texts, walked. -/
import Derived.Test.YtafabdgkinfceaaDoorStrRow
import Derived.Test.YtafabdgkinfceaaDoorPut
import Derived.LoopTactic
namespace Go.Proofs.YtafabdgkinfceaaDoor
open Go.RowKit Go.Shelf
set_option linter.unusedSimpArgs false

set_option maxRecDepth 100000 in
set_option maxHeartbeats 2000000 in
theorem texts_any (L M : List ByteArray) (hl : L.length ≤ 1000000) (_hm : M.length ≤ 1000000) (s t : Option Addr) (c d : Nat) (w : World) (hL : Strs w s L) (hM : Strs w t M) (r : Bool) (hr : r = true ↔ L = M) :
    Calls Tryd.prog 20 #[.slice s L.length c, .slice t M.length d] w fun e w' => e = .returned (.bool r) ∧ Below w.heap.size w w' := by
  by_cases hlen : L.length = M.length
  · have hlb : ((L.length : Int) == (M.length : Int)) = true := by simp [hlen]
    have hle : M.length ≤ L.length := by omega
    have HLen := Lib.hid hlen
    have HR := Lib.hid hr
    clear hlen hr
    go_enter Tryd.func20, Tryd.ntmps20
    go_wp2_with fail
    go_loopw [5] (fun i wr => ∃ k : Nat, k ≤ L.length ∧ i = .int .i64 k ∧ Hid (L.take k = M.take k) ∧ St w [] (fun _ => True) wr) (fun i _ => L.length - (intOf i).toNat)
    case atStart => exact ⟨0, Nat.zero_le _, rfl, Lib.hid rfl, St.start w⟩
    case round =>
      obtain ⟨k, hk, rfl, H, st⟩ := hrel
      by_cases h1 : k < L.length
      · have h2 : k < M.length := by have := HLen.out; omega
        obtain ⟨x, hx⟩ : ∃ x, L[k]? = some x := ⟨_, List.getElem?_eq_getElem h1⟩
        obtain ⟨y, hy⟩ : ∃ y, M[k]? = some y := ⟨_, List.getElem?_eq_getElem h2⟩
        obtain ⟨g, o, rfl, hgl, hc⟩ := hL k x hx
        obtain ⟨g', o', rfl, hgl', hc'⟩ := hM k y hy
        have HX := Lib.hid hx
        have HY := Lib.hid hy
        clear hx hy
        go_wp2_with fail
        obtain ⟨bl2, E2, hne2, sh2, rl, hEx, hbx, hst⟩ := st.hide
        have hcx : ∀ z : Cs w bl2 E2, z.W.cell? ⟨g, o + k, none⟩ = some (.string x) := fun z => ((hbx z).out.cell (p := ⟨g, o + k, none⟩) hgl).trans hc
        have hcy : ∀ z : Cs w bl2 E2, z.W.cell? ⟨g', o' + k, none⟩ = some (.string y) := fun z => ((hbx z).out.cell (p := ⟨g', o' + k, none⟩) hgl').trans hc'
        by_cases hxy : x = y
        · have hb : (x.toList == y.toList) = true := by rw [hxy]; simp
          have HXY := Lib.hid hxy
          clear hxy
          refine region_st sh2 (by kernel_rfl) (by kernel_rfl) ?_
          clear rl hc hc'
          repeat (first | go_big_quiet_step (fail) | quiet_step (fail))
          refine wpQuiet_nil ?_
          intro z
          have st3 := (hst z).out
          clear hbx hst sh2 hEx hcx hcy st
          generalize z.W = w3 at *
          go_wp2_with fail
          go_roundw
          case rel => exact ⟨k + 1, h1, by go_num, by
            show _ = _
            rw [List.take_add_one, List.take_add_one, H.out, HX.out, HY.out, HXY.out], st3⟩
          case measure => simp [intOf]; omega
        · have hb : (x.toList == y.toList) = false := by
            rw [Lib.toList_data, Lib.toList_data, beq_eq_false_iff_ne]
            intro e
            apply hxy
            cases x; cases y
            simp only [ByteArray.mk.injEq]
            exact Array.toList_inj.1 e
          have hrf : r = false := by
            cases hc : r
            · rfl
            · have e := HR.out.1 hc
              rw [e] at HX
              have := HX.out.symm.trans HY.out
              exact absurd (Option.some.inj this) hxy
          subst hrf
          refine region_st sh2 (by kernel_rfl) (by kernel_rfl) ?_
          clear rl hc hc'
          repeat (first | go_big_quiet_step (fail) | quiet_step (fail))
          refine wpQuiet_nil ?_
          intro z
          have st3 := (hst z).out
          clear hbx hst sh2 hEx hcx hcy st
          generalize z.W = w3 at *
          go_wp2_with fail
          go_ret
          exact ⟨rfl, st3.below⟩
      · have hrt : r = true := HR.out.2 (by
          have h := H.out
          rw [List.take_of_length_le (by omega), List.take_of_length_le (by omega)] at h
          exact h)
        subst hrt
        obtain rfl : k = L.length := by omega
        go_wp2_with fail
        go_ret
        exact ⟨rfl, st.below⟩
  · have hlb : ((L.length : Int) == (M.length : Int)) = false := by simp; omega
    have hrf : r = false := by
      cases hc : r
      · rfl
      · exact absurd (congrArg List.length (hr.1 hc)) hlen
    subst hrf
    go_enter Tryd.func20, Tryd.ntmps20
    go_wp2_with fail
    go_ret
    exact ⟨rfl, Below.refl _ _⟩

end Go.Proofs.YtafabdgkinfceaaDoor
