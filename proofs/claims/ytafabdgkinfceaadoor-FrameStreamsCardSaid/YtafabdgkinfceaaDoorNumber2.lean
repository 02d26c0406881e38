/- (*field.reader).number, walked, at a text that is not empty. -/
import Derived.Test.YtafabdgkinfceaaDoorNumSpec
import Derived.Test.YtafabdgkinfceaaDoorNumber
import Derived.Outline
namespace Go.Proofs.YtafabdgkinfceaaDoor
open Go.RowKit Go.Shelf

set_option maxRecDepth 100000 in
set_option maxHeartbeats 1000000 in
theorem number_short {p q : Addr} {w : World} (h : Sents p q w) (R : Nat) (s : ByteArray) (b : UInt8) (t : List UInt8) (hl : s.data.toList = b :: t) (hs : s.size ≤ 9223372036854775807) (hlt : t.length < behind b.toNat)
    (hR : w.heap[R]? = some (.cells #[.string s] 77 (0, 0))) :
    Calls Tryd.prog 38 #[.pointer (some ⟨R, 0, none⟩)] w fun e w' => e = .returned (.tuple #[.int .u64 0, .iface 117 (.pointer (some p))]) ∧ Below w.heap.size w w' := by
  have hs1 : s.size = t.length + 1 := by
    have : s.data.toList.length = s.size := by simp
    rw [hl] at this
    simpa using this.symm
  have hne : s.toList.isEmpty = false := by rw [Lib.toList_data, hl]; rfl
  have hb0 : s[0] = b := by
    have := congrArg (fun l => l[0]?) hl
    simpa [ByteArray.getElem_eq_getElem_data, Array.getElem?_eq_getElem (show 0 < s.data.size by rw [ByteArray.size_data]; omega)] using this
  have st0 := St.start1E hR h Sents.keep
  refine (callsIn_wide (n := 5)).1 ?_
  refine callsIn_of_wp_marks Tryd.func38 rfl trivial ?_ rfl
  simp only [Tryd.ntmps38, List.size_toArray, List.length_cons, List.length_nil, Nat.reduceAdd, Nat.reduceSub, Array.replicate_succ, Array.replicate_zero, List.push_toArray, List.append_toArray, List.nil_append, List.cons_append]
  refine wpIn_wide.2 ?_
  have rl := st0.rules
  simp only [Rules] at rl
  go_wp2_with fail
  refine wp_scope_straight ?_
  go_wp2_with fail
  refine (behind_at _ _).mono ?_
  rintro e w1 ⟨rfl, hw1⟩
  obtain rfl : w = w1 := hw1.symm
  go_wp2_with fail
  clear rl
  have st1 := st0.alloc (cs := #[.int .i64 (behind b.toNat : Int)]) (T := 3)
  obtain ⟨bl1, E1, hne1, sh1, rl, hEx, hbx, hst⟩ := st1.hide
  refine region_st sh1 (by kernel_rfl) (by kernel_rfl) ?_
  simp only [Rules] at rl
  repeat (first | go_big_quiet_step (fail) | quiet_step (fail))
  refine wpQuiet_nil ?_
  intro y
  have st2 := (hst y).out
  clear hbx rl hst sh1 hEx st1
  generalize y.W = w2 at *
  go_wp2_with fail
  obtain ⟨bl2, E2, hne2, sh2, rl, hEx, hbx, hst⟩ := st2.hide
  have hm : ∀ x : Cs w bl2 E2, x.W.cell? ⟨1, 0, none⟩ = some (.iface 117 (.pointer (some p))) := fun x => (hEx x).out.more
  refine region_st sh2 (by kernel_rfl) (by kernel_rfl) ?_
  repeat (first | go_big_quiet_step (fail) | quiet_step (fail))
  refine wpQuiet_nil ?_
  intro y
  have st3 := (hst y).out
  clear hbx rl hst sh2 hEx st2 hm
  generalize y.W = w3 at *
  go_wp2_with fail
  exact ⟨_, results_tmp2 (t := 2) (u := 3) rfl _ _ _, rfl, st3.below⟩

end Go.Proofs.YtafabdgkinfceaaDoor
