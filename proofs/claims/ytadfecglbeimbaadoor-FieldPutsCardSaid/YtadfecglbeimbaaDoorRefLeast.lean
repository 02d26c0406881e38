/- aviaryref02.Least, walked. -/
import Derived.Test.YtadfecglbeimbaaDoorSt
import Derived.Test.YtadfecglbeimbaaDoorQuietIn
import Derived.Lib.Bytealg
import Derived.Lib.Hide
import Derived.WalkKit
import Derived.Test.YtadfecglbeimbaaDoorPut
import Derived.LoopTactic
namespace Go.Proofs.YtadfecglbeimbaaDoor
open Go.RowKit Go.Shelf

theorem drop_at (s : ByteArray) (k : Nat) (h : k < s.size) : s.data.toList.drop k = s[k] :: s.data.toList.drop (k + 1) := by
  rw [List.drop_eq_getElem_cons (by simpa using h)]; rfl
theorem cmp_at (a b : UInt8) (l m : List UInt8) : Lib.compareBytes (a :: l) (b :: m) = if a.toNat < b.toNat then -1 else if b.toNat < a.toNat then 1 else Lib.compareBytes l m := by
  show (if a < b then (-1 : Int) else if b < a then 1 else Lib.compareBytes l m) = _
  simp only [UInt8.lt_iff_toNat_lt]

set_option maxRecDepth 100000 in
set_option maxHeartbeats 1000000 in
theorem refLeast_any (a b : ByteArray) (ha : a.size ≤ 9223372036854775807) (_hb : b.size ≤ 9223372036854775807) (w : World) :
    Calls Tryd.prog 17 #[.string a, .string b] w fun e w' => e = .returned (.int .i64 (Lib.compareBytes a.data.toList b.data.toList)) ∧ Below w.heap.size w w' := by
  obtain ⟨c, hc⟩ : ∃ c, Lib.compareBytes a.data.toList b.data.toList = c := ⟨_, rfl⟩
  rw [hc]
  have HC := Lib.hid hc
  clear hc
  go_enter Tryd.func17, Tryd.ntmps17
  go_wp2_with fail
  go_loopw [5] (fun i wr => ∃ k : Nat, k ≤ a.size ∧ k ≤ b.size ∧ i = .int .i64 k ∧ Hid (Lib.compareBytes (a.data.toList.drop k) (b.data.toList.drop k) = c) ∧ St w [] (fun _ => True) wr) (fun i _ => a.size - (intOf i).toNat)
  case atStart => exact ⟨0, Nat.zero_le _, Nat.zero_le _, rfl, HC, St.start w⟩
  case round =>
    obtain ⟨k, hka, hkb, rfl, H, st⟩ := hrel
    clear HC
    by_cases h1 : k < a.size
    · by_cases h2 : k < b.size
      · have H' := H.out
        rw [drop_at a k h1, drop_at b k h2, cmp_at] at H'
        go_wp2_with fail
        obtain ⟨bl1, E1, hne1, sh1, rl, hEx, hbx, hst⟩ := st.hide
        refine region_st sh1 (by kernel_rfl) (by kernel_rfl) ?_
        clear rl
        by_cases c1 : a[k].toNat < b[k].toNat
        · rw [if_pos c1] at H'
          subst H'
          repeat (first | go_big_quiet_step (fail) | quiet_step (fail))
          refine wpQuiet_nil ?_
          intro y
          have st2 := (hst y).out
          clear hbx hst sh1 hEx
          generalize y.W = w2 at *
          go_wp2_with fail
          go_ret
          exact ⟨rfl, st2.below⟩
        · rw [if_neg c1] at H'
          have HH := Lib.hid H'
          clear H'
          repeat (first | go_big_quiet_step (fail) | quiet_step (fail))
          refine wpQuiet_nil ?_
          intro y
          have st2 := (hst y).out
          clear hbx hst sh1 hEx
          generalize y.W = w2 at *
          go_wp2_with fail
          obtain ⟨bl3, E3, hne3, sh3, rl, hEx, hbx, hst⟩ := st2.hide
          refine region_st sh3 (by kernel_rfl) (by kernel_rfl) ?_
          clear rl
          by_cases c2 : b[k].toNat < a[k].toNat
          · have H' := HH.out
            rw [if_pos c2] at H'
            subst H'
            repeat (first | go_big_quiet_step (fail) | quiet_step (fail))
            refine wpQuiet_nil ?_
            intro y
            have st4 := (hst y).out
            clear hbx hst sh3 hEx
            generalize y.W = w4 at *
            go_wp2_with fail
            go_ret
            exact ⟨rfl, st4.below⟩
          · rw [if_neg c2] at HH
            repeat (first | go_big_quiet_step (fail) | quiet_step (fail))
            refine wpQuiet_nil ?_
            intro y
            have st4 := (hst y).out
            clear hbx hst sh3 hEx
            generalize y.W = w4 at *
            go_wp2_with fail
            go_roundw
            case rel => exact ⟨k + 1, h1, h2, by go_num, HH, st4⟩
            case measure => simp [intOf]; omega
      · have H' := H.out
        rw [drop_at a k h1, List.drop_of_length_le (l := b.data.toList) (by simp; omega)] at H'
        obtain rfl : (1 : Int) = c := H'
        go_wp2_with fail
        go_ret
        exact ⟨rfl, st.below⟩
    · have H' := H.out
      by_cases h2 : k < b.size
      · rw [drop_at b k h2, List.drop_of_length_le (l := a.data.toList) (by simp; omega)] at H'
        obtain rfl : (-1 : Int) = c := H'
        go_wp2_with fail
        go_ret
        exact ⟨rfl, st.below⟩
      · rw [List.drop_of_length_le (by simp; omega), List.drop_of_length_le (by simp; omega)] at H'
        obtain rfl : (0 : Int) = c := H'
        go_wp2_with fail
        go_ret
        exact ⟨rfl, st.below⟩

end Go.Proofs.YtadfecglbeimbaaDoor
