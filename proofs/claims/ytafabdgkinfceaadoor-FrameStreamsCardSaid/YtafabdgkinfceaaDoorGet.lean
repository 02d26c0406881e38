/- field.Get and (*field.reader).text, walked; how a state goes on over a reading. -/
import Derived.Test.YtafabdgkinfceaaDoorNumber3
namespace Go.Proofs.YtafabdgkinfceaaDoor
open Go.RowKit Go.Shelf

theorem fnumber_any {p q : Addr} {w : World} (h : Sents p q w) (R : Nat) (s : ByteArray) (hs : s.size ≤ 9223372036854775807) (hR : w.heap[R]? = some (.cells #[.string s] 77 (0, 0))) :
    Calls Tryd.prog 38 #[.pointer (some ⟨R, 0, none⟩)] w (Reads w R (numV p q (getL s.data.toList)) (leftOf s (getL s.data.toList))) := by
  cases hl : s.data.toList with
  | nil =>
    obtain rfl : s = ⟨#[]⟩ := by
      cases s with | mk d => cases d with | mk l => simp at hl; rw [hl]
    refine (number_empty h R hR).mono ?_
    rintro e w' ⟨rfl, hb⟩
    exact reads_below hb hR
  | cons b t =>
    by_cases hlt : t.length < behind b.toNat
    · refine (number_short h R s b t hl hs hlt hR).mono ?_
      rintro e w' ⟨rfl, hb⟩
      have e : getL (b :: t) = .more := by
        show (if t.length < behind b.toNat then Got.more else _) = _
        rw [if_pos hlt]
      rw [e]
      exact reads_below hb hR
    · have := number_full h R s b t hl hs (by omega) hR
      rw [hl] at this
      exact this

/-- a state, one block of which was written by a callee -/
theorem St.change {w0 : World} {bl : List Blk} {E F : World → Prop} {w w' : World} (h : St w0 bl E w) (i : Nat) {A : Nat} {cs : Array Value} {T : TypeId} (hi : bl[i]? = some (A, cs, T)) (hA : w0.heap.size ≤ A) {o : Nat} {v : Value}
    (hg : w.grownBy w' (some A)) (hn : w'.heap[A]? = some (.cells (cs.setIfInBounds o v) T (0, 0))) (hE : F w') (k : ∀ W W', F W → Below W.heap.size W W' → F W') : St w0 (setB bl i o v) F w' := by
  have hil : i < bl.length := (List.getElem?_eq_some_iff.1 hi).1
  have hmem : ∀ j x, (setB bl i o v)[j]? = some x → ∃ y, bl[j]? = some y ∧ x.1 = y.1 ∧ x = (if i = j then (y.1, y.2.1.setIfInBounds o v, y.2.2) else y) := by
    intro j x hx
    unfold setB at hx
    rw [List.getElem?_modify] at hx
    cases hy : bl[j]? with
    | none => simp [hy] at hx
    | some y =>
      rw [hy] at hx
      have hx' : (if i = j then (y.1, y.2.1.setIfInBounds o v, y.2.2) else y) = x := by
        split at hx <;> simp_all
      refine ⟨y, rfl, ?_, hx'.symm⟩
      rw [← hx']
      split <;> rfl
  refine ⟨h.below.grown hg h.below.size (fun k e => by cases e; exact hA), ?_, ?_, hE, k⟩
  · intro x hx
    obtain ⟨j, hj⟩ := List.mem_iff_getElem?.1 hx
    obtain ⟨y, hy, h1, h2⟩ := hmem j x hj
    by_cases e : i = j
    · subst e
      obtain rfl : (A, cs, T) = y := Option.some.inj (hi.symm.trans hy)
      rw [if_pos rfl] at h2
      subst h2
      exact hn
    · rw [if_neg e] at h2
      subst h2
      have hne : x.1 ≠ A := by
        intro e'
        have hjl : j < bl.length := (List.getElem?_eq_some_iff.1 hy).1
        have hp := List.pairwise_iff_getElem.1 h.nd
        have ei : bl[i] = (A, cs, T) := by simpa [List.getElem?_eq_getElem hil] using hi
        have ej : bl[j] = x := by simpa [List.getElem?_eq_getElem hjl] using hy
        rcases Nat.lt_or_gt_of_ne e with hlt | hlt
        · exact hp i j hil hjl hlt (by rw [ei, ej]; exact e'.symm)
        · exact hp j i hjl hil hlt (by rw [ei, ej]; exact e')
      exact (hg.block x.1 (blk_lt (h.blk x (List.mem_of_getElem? hy))) (by simpa using hne)).trans (h.blk x (List.mem_of_getElem? hy))
  · rw [List.pairwise_iff_getElem]
    intro j k hj hk hjk
    obtain ⟨y, hy, h1, _⟩ := hmem j _ (List.getElem?_eq_getElem hj)
    obtain ⟨z, hz, h3, _⟩ := hmem k _ (List.getElem?_eq_getElem hk)
    rw [h1, h3]
    have hjl : j < bl.length := (List.getElem?_eq_some_iff.1 hy).1
    have hkl : k < bl.length := (List.getElem?_eq_some_iff.1 hz).1
    have := List.pairwise_iff_getElem.1 h.nd j k hjl hkl hjk
    have ey : bl[j] = y := by simpa [List.getElem?_eq_getElem hjl] using hy
    have ez : bl[k] = z := by simpa [List.getElem?_eq_getElem hkl] using hz
    rwa [ey, ez] at this

theorem Reads.st {w0 : World} {bl : List Blk} {E F : World → Prop} {w w' : World} {R : Nat} {v : Value} {s left : ByteArray} {e : Ending} (h : Reads w R v left e w') (st : St w0 bl E w) (i : Nat) (hi : bl[i]? = some (R, #[.string s], 77)) (hA : w0.heap.size ≤ R)
    (hF : F w') (k : ∀ W W', F W → Below W.heap.size W W' → F W') : St w0 (setB bl i 0 (.string left)) F w' :=
  st.change i hi hA h.2.2 (h.2.1.trans rfl) hF k
theorem Reads.stT {w0 : World} {bl : List Blk} {E : World → Prop} {w w' : World} {R : Nat} {v : Value} {s left : ByteArray} {e : Ending} (h : Reads w R v left e w') (st : St w0 bl E w) (i : Nat) (hi : bl[i]? = some (R, #[.string s], 77)) (hA : w0.heap.size ≤ R) :
    St w0 (setB bl i 0 (.string left)) (fun _ => True) w' := h.st st i hi hA trivial (fun _ _ _ _ => trivial)

/-- the number, and the error's number, of a reading -/
def numOf : Got → Int
  | .ok n _ => (n : Int)
  | _ => 0
def noOf : Got → Int
  | .more => 20
  | .field => 21
  | .ok _ _ => 0
def getV (s : ByteArray) (g : Got) : Value := .tuple #[.int .u64 (numOf g), .string (leftOf s g), .int .i64 (noOf g)]

set_option maxRecDepth 100000 in
set_option maxHeartbeats 1000000 in
theorem get_any {p q : Addr} {w : World} (h : Sents p q w) (s : ByteArray) (hs : s.size ≤ 9223372036854775807) :
    Calls Tryd.prog 32 #[.string s] w fun e w' => e = .returned (getV s (getL s.data.toList)) ∧ Below w.heap.size w w' := by
  obtain ⟨g, hg⟩ : ∃ g, getL s.data.toList = g := ⟨_, rfl⟩
  rw [hg]
  have HG := Lib.hid hg
  clear hg
  have st0 := (St.start w).alloc (cs := #[.string s]) (T := 77)
  have h1 := h.below (Nat.le_refl _) st0.below
  go_enter Tryd.func32, Tryd.ntmps32
  go_wp2_with fail
  refine (fnumber_any h1 _ s hs (st0.blk _ (List.mem_of_getElem? (i := 0) rfl))).mono ?_
  intro e w1 hr
  rw [HG.out] at hr
  have st1 := hr.stT st0 0 rfl (Nat.le_refl _)
  obtain ⟨rfl, -, -⟩ := hr
  simp only [setB, List.modify_zero_cons, List.setIfInBounds_toArray, List.set_cons_zero] at st1
  have h2 := h.below (Nat.le_refl _) st1.below
  clear st0 h1
  clear HG
  cases g with
  | more =>
    simp only [numV, leftOf] at *
    go_wp2_with (refine (errno_more h2).mono ?_; rintro e w' ⟨rfl, rfl⟩)
    exact bodyPost_ret (results_tmp3 (t := 2) (u := 3) (v := 4) rfl _ _ _) rfl ⟨rfl, st1.below⟩
  | field =>
    simp only [numV, leftOf] at *
    go_wp2_with (refine (errno_field h2).mono ?_; rintro e w' ⟨rfl, rfl⟩)
    exact bodyPost_ret (results_tmp3 (t := 2) (u := 3) (v := 4) rfl _ _ _) rfl ⟨rfl, st1.below⟩
  | ok n r =>
    simp only [numV, leftOf] at *
    go_wp2_with fail
    obtain ⟨bl2, E2, hne2, sh2, rl, hEx, hbx, hst⟩ := st1.hide
    refine region_st sh2 (by kernel_rfl) (by kernel_rfl) ?_
    simp only [Rules] at rl
    repeat (first | go_big_quiet_step (fail) | quiet_step (fail))
    refine wpQuiet_nil ?_
    intro y
    have st3 := (hst y).out
    clear hbx rl hst sh2 hEx st1
    generalize y.W = w3 at *
    go_wp2_with fail
    exact bodyPost_ret (results_tmp3 (t := 2) (u := 3) (v := 4) rfl _ _ _) rfl ⟨rfl, st3.below⟩

end Go.Proofs.YtafabdgkinfceaaDoor
