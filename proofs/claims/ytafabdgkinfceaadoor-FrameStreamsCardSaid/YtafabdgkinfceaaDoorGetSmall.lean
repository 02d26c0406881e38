/- field.behind, field.errno, walked; and the fact that the two sentinels lie. -/
import Derived.Test.YtafabdgkinfceaaDoorIs
import Derived.Test.YtafabdgkinfceaaDoorPutSpec
import Derived.WalkKit
import Derived.Lib.Hide
namespace Go.Proofs.YtafabdgkinfceaaDoor
open Go.RowKit

/-- how many bytes stand behind a first byte -/
def behind (b : Nat) : Nat := if b ≤ 240 then 0 else if b ≤ 248 then 1 else if b = 249 then 2 else b - 247

theorem behind_at (b : UInt8) (w : World) :
    Calls Tryd.prog 44 #[.int .u8 (b.toNat : Int)] w fun e w' => e = .returned (.int .i64 (behind b.toNat : Int)) ∧ w' = w := by
  have hb := b.toNat_lt
  by_cases h1 : b.toNat ≤ 240
  · have HP : Hid (behind b.toNat = 0) := by show _ = _; unfold behind; rw [if_pos h1]
    go_enter Tryd.func44, Tryd.ntmps44
    go_wp2
    go_ret
    exact ⟨by rw [HP.out]; rfl, rfl⟩
  · by_cases h2 : b.toNat ≤ 248
    · have HP : Hid (behind b.toNat = 1) := by show _ = _; unfold behind; rw [if_neg h1, if_pos h2]
      go_enter Tryd.func44, Tryd.ntmps44
      go_wp2
      go_ret
      exact ⟨by rw [HP.out]; rfl, rfl⟩
    · by_cases h3 : b.toNat = 249
      · have HP : Hid (behind b.toNat = 2) := by show _ = _; unfold behind; rw [if_neg h1, if_neg h2, if_pos h3]
        go_enter Tryd.func44, Tryd.ntmps44
        go_wp2
        go_ret
        exact ⟨by rw [HP.out]; rfl, rfl⟩
      · have HP : Hid (behind b.toNat = b.toNat - 247) := by show _ = _; unfold behind; rw [if_neg h1, if_neg h2, if_neg h3]
        go_enter Tryd.func44, Tryd.ntmps44
        go_wp2
        go_ret
        exact ⟨congrArg (fun i => Ending.returned (.int .i64 i)) (by rw [HP.out]; omega), rfl⟩

/-- the two sentinels lie: each variable's cell holds its own pointer, to a block of its own -/
structure Sents (p q : Addr) (w : World) : Prop where
  ne : p ≠ q
  more : w.cell? ⟨1, 0, none⟩ = some (.iface 117 (.pointer (some p)))
  field : w.cell? ⟨2, 0, none⟩ = some (.iface 117 (.pointer (some q)))
  blkMore : ∃ c t, w.heap[p.block]? = some (.cells c t (0, 0))
  blkField : ∃ c t, w.heap[q.block]? = some (.cells c t (0, 0))

theorem errno_nil (w : World) :
    Calls Tryd.prog 39 #[.nilIface] w fun e w' => e = .returned (.int .i64 0) ∧ w' = w := by
  go_enter Tryd.func39, Tryd.ntmps39
  go_wp2
  go_ret
  exact ⟨rfl, rfl⟩

theorem errno_more {p q : Addr} {w : World} (h : Sents p q w) :
    Calls Tryd.prog 39 #[.iface 117 (.pointer (some p))] w fun e w' => e = .returned (.int .i64 20) ∧ w' = w := by
  have hm := h.more
  go_enter Tryd.func39, Tryd.ntmps39
  go_wp2_with (refine (is_same p _).mono ?_; rintro e w' ⟨rfl, rfl⟩)
  go_ret
  exact ⟨rfl, rfl⟩

theorem errno_field {p q : Addr} {w : World} (h : Sents p q w) :
    Calls Tryd.prog 39 #[.iface 117 (.pointer (some q))] w fun e w' => e = .returned (.int .i64 21) ∧ w' = w := by
  have hm := h.more
  obtain ⟨c, t, hp⟩ := h.blkMore
  obtain ⟨c', t', hq⟩ := h.blkField
  go_enter Tryd.func39, Tryd.ntmps39
  go_wp2_with (refine (is_other q p _ _ _ _ _ (Ne.symm h.ne) hq hp).mono ?_; rintro e w' ⟨rfl, rfl⟩)
  go_ret
  exact ⟨rfl, rfl⟩

end Go.Proofs.YtafabdgkinfceaaDoor
