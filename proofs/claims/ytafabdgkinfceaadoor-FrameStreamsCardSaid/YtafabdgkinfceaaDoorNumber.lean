/- (*field.reader).number, walked. -/
import Derived.Test.YtafabdgkinfceaaDoorGetSpec
import Derived.Test.YtafabdgkinfceaaDoorOctets
import Derived.Test.YtafabdgkinfceaaDoorPut
import Derived.Test.YtafabdgkinfceaaDoorSt
namespace Go.Proofs.YtafabdgkinfceaaDoor
open Go.RowKit Go.Shelf

set_option maxRecDepth 100000 in
theorem number_empty {p q : Addr} {w : World} (h : Sents p q w) (R : Nat) (hR : w.heap[R]? = some (.cells #[.string ⟨#[]⟩] 77 (0, 0))) :
    Calls Tryd.prog 38 #[.pointer (some ⟨R, 0, none⟩)] w fun e w' => e = .returned (.tuple #[.int .u64 0, .iface 117 (.pointer (some p))]) ∧ Below w.heap.size w w' := by
  have hc : w.cell? ⟨R, 0, none⟩ = some (.string ⟨#[]⟩) := by simp [World.cell?, hR]
  have hm := h.more
  refine (callsIn_wide (n := 5)).1 ?_
  refine callsIn_of_wp_marks Tryd.func38 rfl trivial ?_ rfl
  simp only [Tryd.ntmps38, List.size_toArray, List.length_cons, List.length_nil, Nat.reduceAdd, Nat.reduceSub, Array.replicate_succ, Array.replicate_zero, List.push_toArray, List.append_toArray, List.nil_append, List.cons_append]
  gi_wp2_with fail
  refine wpIn_scope ?_
  gi_wp2_with fail
  refine regionIn_drew_tail 2 (by kernel_rfl) (by kernel_rfl) ?_
  simp only [List.take_succ_cons, List.take_zero, List.drop_succ_cons, List.drop_zero]
  repeat (first | go_big_quiet_step (fail) | quiet_step (fail))
  refine wpQuiet_nil ?_
  intro m
  gi_wp2_with fail
  exact ⟨_, results_tmp2 (t := 2) (u := 3) rfl _ _ _, rfl, below_drewN (Below.refl _ _) m⟩

end Go.Proofs.YtafabdgkinfceaaDoor
