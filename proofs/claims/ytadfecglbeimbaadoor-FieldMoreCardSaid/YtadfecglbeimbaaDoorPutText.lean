/- field.Least, field.joined and field.PutText, walked. -/
import Derived.Test.YtadfecglbeimbaaDoorSt
import Derived.Test.YtadfecglbeimbaaDoorPut
import Derived.Test.YtadfecglbeimbaaDoorShelf
namespace Go.Proofs.YtadfecglbeimbaaDoor
open Go.RowKit Go.Shelf

theorem least_any (a b : ByteArray) (w : World) :
    Calls Tryd.prog 16 #[.string a, .string b] w fun e w' => e = .returned (.int .i64 (Lib.compareBytes a.data.toList b.data.toList)) ∧ w' = w := by
  go_enter Tryd.func16, Tryd.ntmps16
  go_wp2_with (refine (Tryd.strings_Compare a b _).mono ?_; rintro e w' ⟨rfl, rfl⟩)
  go_ret
  exact ⟨rfl, rfl⟩

/-- texts, one behind the other -/
def joinB (xs : List ByteArray) : ByteArray := ⟨(Lib.join (xs.map (·.data.toList)) []).toArray⟩
theorem join_nil (xs : List (List UInt8)) : Lib.join xs [] = xs.flatten := by
  unfold Lib.join List.intercalate
  induction xs with
  | nil => rfl
  | cons x xs ih =>
    cases xs with
    | nil => simp
    | cons y ys =>
      rw [List.intersperse_cons_cons, List.flatten_cons, List.flatten_cons, ih]
      rfl

theorem joined_any (bk o c : Nat) (xs : List ByteArray) (w : World) (hcells : ∀ (j : Nat) x, xs[j]? = some x → w.cell? ⟨bk, o + j, none⟩ = some (.string x)) (hbk : bk < w.heap.size) (hN : xs.length ≤ 140737488355328) (hcap : xs.length ≤ c) (hlen : (xs.map (·.data.toList)).flatten.length ≤ 140737488355328) :
    Calls Tryd.prog 35 #[.slice (some ⟨bk, o, none⟩) xs.length c] w fun e w' => e = .returned (.string ⟨((xs.map (·.data.toList)).flatten).toArray⟩) ∧ Below w.heap.size w w' := by
  have H := Tryd.strings_Join bk o c xs ⟨#[]⟩ w hcells hbk hN hcap (by rw [show (ByteArray.mk #[]).data.toList = [] from rfl, join_nil]; exact hlen)
  rw [show (ByteArray.mk #[]).data.toList = [] from rfl, join_nil] at H
  generalize ((xs.map (·.data.toList)).flatten).toArray = z at *
  clear hcells hlen
  go_enter Tryd.func35, Tryd.ntmps35
  go_wp2_with fail
  refine H.mono ?_
  rintro e w' ⟨rfl, hb⟩
  clear H
  go_wp2_with fail
  go_ret
  exact ⟨rfl, hb⟩

/-- a text's bytes -/
def putTextL (l : List UInt8) : List UInt8 := put l.length ++ l
def putTextV (s : ByteArray) : Value := if 400 < s.size then .tuple #[.string ⟨#[]⟩, .int .i64 21] else .tuple #[.string ⟨(putTextL s.data.toList).toArray⟩, .int .i64 0]

set_option maxRecDepth 100000 in
set_option maxHeartbeats 1000000 in
theorem putText_any (s : ByteArray) (hs : s.size ≤ 9223372036854775807) (w : World) :
    Calls Tryd.prog 18 #[.string s] w fun e w' => e = .returned (putTextV s) ∧ Below w.heap.size w w' := by
  unfold putTextV
  by_cases h : 400 < s.size
  · rw [if_pos h]
    go_enter Tryd.func18, Tryd.ntmps18
    go_wp2_with fail
    go_ret2
    exact ⟨rfl, Below.refl _ _⟩
  · rw [if_neg h]
    have hsl := s.size_data
    go_enter Tryd.func18, Tryd.ntmps18
    go_wp2_with fail
    refine (put_any _ (by omega) (by omega) _).mono ?_
    rintro e w1 ⟨rfl, hb1⟩
    have hsz := hb1.size
    go_wp2_with fail
    refine (joined_any w1.heap.size 0 2 [putB s.size, s] _ ?_ ?_ ?_ ?_ ?_).mono ?_
    · intro j x hx
      rcases j with _ | _ | j
      · cases hx; rw [blk_cell (World.alloc_heap_new w1 _)]; rfl
      · cases hx; rw [blk_cell (World.alloc_heap_new w1 _)]; rfl
      · simp at hx
    · simp
    · simp
    · simp
    · skip
      have := put_length s.size
      simp [putB]; omega
    have e : (List.map (fun x : ByteArray => x.data.toList) [putB s.size, s]).flatten = putTextL s.data.toList := by
      unfold putTextL
      rw [show s.data.toList.length = s.size by simp]
      simp [putB]
    rw [e]
    rintro e w2 ⟨rfl, hb2⟩
    go_wp2_with fail
    go_ret2
    exact ⟨rfl, (hb1.alloc (by omega) _).trans (hb2.mono (by simp; omega))⟩

end Go.Proofs.YtadfecglbeimbaaDoor
