/- frame.each and its iterator, walked. -/
import Derived.Test.YtafabdgkinfceaaDoorFrmE
import Derived.Test.YtafabdgkinfceaaDoorFrmA
import Derived.Test.YtafabdgkinfceaaDoorRangeW
namespace Go.Proofs.YtafabdgkinfceaaDoor
open Go.RowKit Go.Shelf
set_option linter.unusedSimpArgs false
set_option linter.unusedVariables false

/-- what the iterator tells: a frame's bytes and what is behind it; or what is left, and a fault -/
inductive FE where
  | ok (b r : List UInt8)
  | bad (cur : ByteArray) (no A : Nat)
def FE.fa : FE → ByteArray
  | .ok b _ => ⟨b.toArray⟩
  | .bad _ _ _ => ⟨#[]⟩
def FE.fb : FE → ByteArray
  | .ok _ r => ⟨r.toArray⟩
  | .bad cur _ _ => cur
def FE.err : FE → Value
  | .ok _ _ => .nilIface
  | .bad _ _ A => faultV A
def FE.encs (x : FE) : Array Value := #[.agg #[.string x.fa, .string x.fb], x.err]
def FE.Pre : FE → World → Prop
  | .ok _ _, _ => True
  | .bad _ no A, W => W.heap[A]? = some (.cells #[.int .i64 no] 67 (0, 0))
/-- the bytes of the frames told -/
def FE.bodies : List FE → List (List UInt8)
  | [] => []
  | .ok b _ :: l => b :: FE.bodies l
  | .bad _ _ _ :: l => FE.bodies l
theorem FE.bodies_snoc (l : List FE) (b r : List UInt8) : FE.bodies (l ++ [.ok b r]) = FE.bodies l ++ [b] := by
  induction l with
  | nil => rfl
  | cons x l ih => cases x <;> simp [FE.bodies, ih]
def FE.isOk : FE → Prop
  | .ok _ _ => True
  | .bad _ _ _ => False
/-- what has been told, if it is all -/
def SpF (s : List UInt8) (pre : List FE) : Prop := ∃ p x, pre = p ++ [x] ∧ ∀ cur no A, x = .bad cur no A → allL s = (FE.bodies p, cur.data.toList, no)
def StF (xs : List FE) : Prop := ∃ p cur no A, xs = p ++ [.bad cur no A]

def KpF (w0 : World) (Bn : Nat) (A B : World) : Prop := Below w0.heap.size A B ∧ B.heap[Bn]? = A.heap[Bn]?

def strLen : Value → Nat
  | .string s => s.size
  | _ => 0
def boxLen (W : World) (b : Nat) : Nat := strLen ((W.cell? ⟨b, 0, none⟩).getD .nilIface)
theorem boxLen_of {W : World} {b : Nat} {s : ByteArray} {T : TypeId} (h : W.heap[b]? = some (.cells #[.string s] T (0, 0))) : boxLen W b = s.size := by
  unfold boxLen
  rw [blk_cell h]
  rfl

set_option maxRecDepth 100000 in
set_option maxHeartbeats 4000000 in
theorem each1_in {p q : Addr} {w0 : World} (hS : Sents p q w0) (n : Nat) (hn : 1 ≤ n) (l Bn : Nat) (s : ByteArray) (hs : s.size ≤ 100000) (hB0 : w0.heap.size ≤ Bn) (J Jx : List FE → World → Prop) (bJ : Bears Bn J) (bJx : Bears Bn Jx)
    (hY : ∀ pre x W, J pre W → FE.Pre x W → pre.length < s.size + 1 → YieldAt Fence.wide (n - 1) Tryd.prog l (FE.encs x) W fun e W' =>
      (e = .returned (.bool true) ∧ J (pre ++ [x]) W' ∧ KpF w0 Bn W W') ∨ (e = .returned (.bool false) ∧ Jx (pre ++ [x]) W'))
    (W : World) (hW : Below w0.heap.size w0 W) (hBn : W.heap[Bn]? = some (.cells #[.string s] 9 (0, 0))) (h0 : J [] W) :
    CallsIn Fence.wide n Tryd.prog 37 #[.func (.yield l) #[] #[], .pointer (some ⟨Bn, 0, none⟩)] W fun e W' => (∃ v, e = .returned v) ∧
      ((∃ xs, StF xs ∧ J xs W') ∨ (∃ pre, SpF s.data.toList pre ∧ Jx pre W')) := by
  refine callsIn_of_wp Tryd.func37 rfl trivial ?_ rfl
  simp only [Tryd.ntmps37, List.size_toArray, List.length_cons, List.length_nil, Nat.reduceAdd, Nat.reduceSub, Array.replicate_succ, Array.replicate_zero, List.push_toArray, List.append_toArray, List.nil_append, List.cons_append]
  gi_wp2_with fail
  gi_loopw [] (fun wr => ∃ (pr : List FE) (cur : ByteArray), (∀ x ∈ pr, x.isOk) ∧ AllRel s.data.toList (FE.bodies pr) cur.data.toList ∧ pr.length + cur.size ≤ s.size ∧ Below w0.heap.size w0 wr ∧ wr.heap[Bn]? = some (.cells #[.string cur] 9 (0, 0)) ∧ J pr wr)
    (fun wr => boxLen wr Bn)
  case atStart =>
    exact ⟨[], s, by simp, AllRel.start _, by simp, hW, hBn, h0⟩
  case round =>
    obtain ⟨pr, cur, hok, hrel, hlen, hb, hc, hJ⟩ := hrel
    have hcc := blk_cell hc 0
    have HR := Lib.hid (read_any (hS.below (Nat.le_refl _) hb) cur (by omega))
    have HQ := Lib.hid (fun no => hrel.done (no := no))
    have HX := Lib.hid (fun b r => hrel.next (b := b) (r := r))
    have HL := Lib.hid (fun b r => readL_less (s := cur.data.toList) (b := b) (r := r))
    have hzc : cur.data.toList.length = cur.size := by simp
    clear hrel
    cases hg : readL cur.data.toList with
    | bad no =>
      rw [hg] at HR
      have HD := Lib.hid (HQ.out no hg)
      clear HQ HX HL hg hzc
      gi_wp2_with fail
      refine ⟨trivial, callsIn_wide.2 (HR.out.mono ?_)⟩
      rintro e w1 ⟨A, rfl, hb1, hA, hN⟩
      obtain ⟨fn, tmps, assign, body, hy, hR⟩ := hY pr (.bad cur no A) w1 (bJ _ _ _ hJ (grownBy_ofBelow hb1 _)) hN (by omega)
      simp only [FE.encs, FE.fa, FE.fb, FE.err] at hy hR
      clear hcc
      gi_wp2_with fail
      refine hR.mono ?_
      rintro e W3 (⟨rfl, hJ3, hk3⟩ | ⟨rfl, hJx3⟩)
      · clear hy hR hJ hc
        gi_wp2_with fail
        refine bodyPost_ret (results_none rfl _ _ _) rfl ?_
        exact ⟨⟨_, rfl⟩, .inl ⟨_, ⟨pr, cur, no, A, rfl⟩, hJ3⟩⟩
      · clear hy hR hJ hc
        gi_wp2_with fail
        refine bodyPost_ret (results_none rfl _ _ _) rfl ?_
        refine ⟨⟨_, rfl⟩, .inr ⟨_, ⟨pr, .bad cur no A, rfl, ?_⟩, hJx3⟩⟩
        rintro cur' no' A' e
        cases e
        exact HD.out
    | ok b r =>
      rw [hg] at HR
      have HD := Lib.hid (HX.out b r hg)
      have HL2 := HL.out b r hg
      clear HQ HX HL hg
      gi_wp2_with fail
      refine ⟨trivial, callsIn_wide.2 (HR.out.mono ?_)⟩
      rintro e w1 ⟨rfl, hb1⟩
      obtain ⟨fn, tmps, assign, body, hy, hR⟩ := hY pr (.ok b r) w1 (bJ _ _ _ hJ (grownBy_ofBelow hb1 _)) trivial (by omega)
      simp only [FE.encs, FE.fa, FE.fb, FE.err] at hy hR
      clear hcc
      gi_wp2_with fail
      refine hR.mono ?_
      rintro e W3 (⟨rfl, hJ3, hk3⟩ | ⟨rfl, hJx3⟩)
      · have hb3 := (hb.trans (hb1.mono hb.size)).trans hk3.1
        have hc3 : W3.heap[Bn]? = some (.cells #[.string cur] 9 (0, 0)) := hk3.2.trans ((hb1.block _ (blk_lt hc)).trans hc)
        have HC := Lib.hid hc
        clear hy hR hJ hc hb hb1 hk3
        have hcc := blk_cell hc3 0
        have hff := blk_free hc3 0
        gi_wp2_with fail
        have hN3 := (blk_set hc3 0 (.string ⟨r.toArray⟩))
        have hJ4 := bJ _ _ _ hJ3 (grownBy_setOne W3 Bn 0 (.string ⟨r.toArray⟩))
        have hb4 := hb3.setCell (p := ⟨Bn, 0, none⟩) hB0 (.string ⟨r.toArray⟩)
        go_roundw
        case rel =>
          refine ⟨pr ++ [.ok b r], (⟨r.toArray⟩ : ByteArray), ?_, ?_, ?_, hb4, hN3, hJ4⟩
          · intro x hx
            rcases List.mem_append.1 hx with h | h
            · exact hok x h
            · simp at h; subst h; trivial
          · rw [FE.bodies_snoc]; exact HD.out
          · rw [List.length_append, mk_size]; simp; omega
        case measure =>
          rw [boxLen_of HC.out, boxLen_of hN3, mk_size]
          omega
      · clear hy hR hJ hc
        gi_wp2_with fail
        refine bodyPost_ret (results_none rfl _ _ _) rfl ?_
        refine ⟨⟨_, rfl⟩, .inr ⟨_, ⟨pr, .ok b r, rfl, ?_⟩, hJx3⟩⟩
        rintro cur' no' A' e
        cases e

theorem each_any (s : ByteArray) (w : World) :
    Calls Tryd.prog 29 #[.string s] w fun e w' => e = .returned (.func (.func 37) #[] #[.pointer (some ⟨w.heap.size, 0, none⟩)]) ∧ w.alloc (.cells #[.string s] 9) = w' := by
  go_enter Tryd.func29, Tryd.ntmps29
  go_wp2
  go_ret
  exact ⟨rfl, rfl⟩

theorem each_stops {p q : Addr} {w0 : World} (hS : Sents p q w0) (n : Nat) (hn : 1 ≤ n) (Bn : Nat) (s : ByteArray) (hs : s.size ≤ 100000) (hB0 : w0.heap.size ≤ Bn) (w : World) (hW : Below w0.heap.size w0 w)
    (hBn : w.heap[Bn]? = some (.cells #[.string s] 9 (0, 0))) (W : World) (hb : Below w.heap.size w W) :
    SeqW Fence.wide n Tryd.prog 37 #[.pointer (some ⟨Bn, 0, none⟩)] FE.encs FE.Pre (KpF w0 Bn) StF (SpF s.data.toList) (s.size + 1) Bn W := fun l J Jx bJ bJx hY h0 =>
  each1_in hS n hn l Bn s hs hB0 J Jx bJ bJx hY W (hW.trans (hb.mono hW.size)) ((hb.block _ (blk_lt hBn)).trans hBn) h0

end Go.Proofs.YtafabdgkinfceaaDoor
