/- Plain: bytes as a number of 64 bits; a class of worlds with one old block; what grew by one old block's writing. -/
import Derived.Test.YtafabdgkinfceaaDoorGetSpec
import Derived.Test.YtafabdgkinfceaaDoorU64
import Derived.Test.YtafabdgkinfceaaDoorSt
import Derived.Test.YtafabdgkinfceaaDoorOctets
namespace Go.Proofs.YtafabdgkinfceaaDoor
open Go.RowKit

/-- bytes as a number of 64 bits, the greatest one first -/
def valV (l : List UInt8) : BitVec 64 := l.foldl (fun n b => n <<< 8 ||| BitVec.ofNat 64 b.toNat) 0
theorem valV_snoc (l : List UInt8) (b : UInt8) : valV (l ++ [b]) = valV l <<< 8 ||| BitVec.ofNat 64 b.toNat := by simp [valV]

theorem valV_toNat (l : List UInt8) (h : l.length ≤ 8) : (valV l).toNat = val l := by
  obtain ⟨r, rfl⟩ : ∃ r : List UInt8, l = r.reverse := ⟨l.reverse, by simp⟩
  rw [List.length_reverse] at h
  induction r with
  | nil => rfl
  | cons b r ih =>
    rw [List.length_cons] at h
    have ih' := ih (by omega)
    rw [List.reverse_cons, valV_snoc, val_snoc, BitVec.toNat_or, BitVec.toNat_shiftLeft, BitVec.toNat_ofNat, ih']
    have hb := b.toNat_lt
    have hv := val_lt r.reverse
    rw [List.length_reverse] at hv
    have hp : 256 ^ r.length ≤ 256 ^ 7 := Nat.pow_le_pow_right (by decide) (by omega)
    have e7 : (256 : Nat) ^ 7 = 72057594037927936 := by decide
    have e64 : (2 : Nat) ^ 64 = 18446744073709551616 := by decide
    rw [e7] at hp
    rw [e64, Nat.shiftLeft_eq, Nat.mod_eq_of_lt (by omega : b.toNat < 18446744073709551616), Nat.mod_eq_of_lt (by omega : val r.reverse * 2 ^ 8 < 18446744073709551616)]
    rw [← Nat.shiftLeft_eq, ← Nat.shiftLeft_add_eq_or_of_lt (by omega : b.toNat < 2 ^ 8), Nat.shiftLeft_eq]
    omega

theorem byte_bv (b : UInt8) : ((b.toNat : Nat) : Int) = un (BitVec.ofNat 64 b.toNat) :=
  un_lit _ (Nat.lt_of_lt_of_le b.toNat_lt (by decide))
theorem or_step (x : BitVec 64) (c : UInt8) : bits .or .u64 (IntKind.u64.wrap (un x * 256)) (IntKind.u64.wrap (c.toNat : Int)) = un (x <<< 8 ||| BitVec.ofNat 64 c.toNat) := by
  have h := wrap_shl x 8
  rw [show (2 : Int) ^ 8 = 256 by decide] at h
  rw [h, byte_bv, wrap_un_id, bits_or]
theorem octs_get (s : ByteArray) (j : Nat) : (octs s)[j]? = if j < s.size then some (j, s.data.toList.getD j 0) else none := by
  unfold octs octsTo
  rw [List.getElem?_map]
  by_cases h : j < s.size
  · rw [if_pos h, List.getElem?_range h]; rfl
  · rw [if_neg h, List.getElem?_eq_none (by simpa using h)]; rfl
theorem octs_snd (s : ByteArray) : (octs s).map Prod.snd = s.data.toList := by
  apply List.ext_getElem?
  intro j
  rw [List.getElem?_map, octs_get]
  by_cases h : j < s.size
  · have h' : j < s.data.toList.length := by simpa using h
    rw [if_pos h, List.getElem?_eq_getElem h', List.getD_eq_getElem?_getD, List.getElem?_eq_getElem h']; rfl
  · rw [if_neg h, List.getElem?_eq_none (by simpa using h)]; rfl
theorem octs_pre {s : ByteArray} {pr : List (Nat × UInt8)} {x : Nat × UInt8} (h : pr ++ [x] <+: octs s) : x.1 = pr.length ∧ pr.map Prod.snd = s.data.toList.take pr.length := by
  obtain ⟨r, hr⟩ := h
  have hx : (octs s)[pr.length]? = some x := by rw [← hr]; simp
  have ht : (octs s).take pr.length = pr := by rw [← hr]; simp
  refine ⟨?_, ?_⟩
  · rw [octs_get] at hx
    split at hx
    · cases hx; rfl
    · cases hx
  · rw [← octs_snd, ← List.map_take, ht]
theorem octs_all {s : ByteArray} {K : Nat} (h : ∀ y ∈ octs s, y.1 ≠ K) : s.size ≤ K := by
  rcases Nat.lt_or_ge K s.size with h' | h'
  · exact absurd rfl (h (K, s.data.toList.getD K 0) (List.mem_of_getElem? (i := K) (by rw [octs_get, if_pos h'])))
  · exact h'
theorem un_valV (l : List UInt8) (h : l.length ≤ 8) : un (valV l) = (val l : Int) := by unfold un; rw [valV_toNat l h]

/-- the value that reading a number returns -/
def numV (p q : Addr) : Got → Value
  | .more => .tuple #[.int .u64 0, .iface 117 (.pointer (some p))]
  | .field => .tuple #[.int .u64 0, .iface 117 (.pointer (some q))]
  | .ok n _ => .tuple #[.int .u64 (n : Int), .nilIface]
/-- what is left behind it -/
def leftOf (s : ByteArray) : Got → ByteArray
  | .ok _ rest => ⟨rest.toArray⟩
  | _ => s
/-- what a reading of a reader's block comes to -/
def Reads (w : World) (R : Nat) (v : Value) (left : ByteArray) (e : Ending) (w' : World) : Prop :=
  e = .returned v ∧ w'.heap[R]? = some (.cells #[.string left] 77 (0, 0)) ∧ w.grownBy w' (some R)
theorem putB_len (n : Nat) : (putB n).size = (put n).length := by show (put n).toArray.size = _; simp
theorem left_ext {s : ByteArray} {b : UInt8} {t : List UInt8} (hl : s.data.toList = b :: t) (k N : Nat) (hN : N = t.length + 1) : s.extract (1 + k) N = ⟨(t.drop k).toArray⟩ := by
  have e : (s.extract (1 + k) N).data.toList = t.drop k := by
    rw [ByteArray.data_extract, Array.toList_extract, hl, hN, show 1 + k = k + 1 by omega]
    rw [List.extract_eq_take_drop, List.drop_succ_cons, List.take_of_length_le]
    rw [List.length_drop]
    omega
  rw [← e]
/-- a state with one block that came in -/
theorem St.start1 {w : World} {R : Nat} {cs : Array Value} {T : TypeId} (h : w.heap[R]? = some (.cells cs T (0, 0))) : St w [(R, cs, T)] (fun _ => True) w :=
  ⟨Below.refl _ _, by simpa using h, by simp, trivial, fun _ _ _ _ => trivial⟩
theorem St.start1E {w : World} {R : Nat} {cs : Array Value} {T : TypeId} {E : World → Prop} (h : w.heap[R]? = some (.cells cs T (0, 0))) (hE : E w) (k : ∀ W W', E W → Below W.heap.size W W' → E W') : St w [(R, cs, T)] E w :=
  ⟨Below.refl _ _, by simpa using h, by simp, hE, k⟩
theorem cell_lt {w : World} {a : Addr} {v : Value} (h : w.cell? a = some v) : a.block < w.heap.size := by
  rcases Nat.lt_or_ge a.block w.heap.size with h' | h'
  · exact h'
  · unfold World.cell? at h
    rw [Array.getElem?_eq_none h'] at h
    simp at h
theorem Sents.below {p q : Addr} {W0 W : World} {n : Nat} (hn : W0.heap.size ≤ n) (h : Sents p q W0) (hb : Below n W0 W) : Sents p q W := by
  have hb' := hb.mono hn
  obtain ⟨c, t, hp⟩ := h.blkMore
  obtain ⟨c', t', hq⟩ := h.blkField
  exact ⟨h.ne, (hb'.cell (p := ⟨1, 0, none⟩) (cell_lt h.more)).trans h.more, (hb'.cell (p := ⟨2, 0, none⟩) (cell_lt h.field)).trans h.field,
    ⟨c, t, (hb'.block _ (blk_lt hp)).trans hp⟩, ⟨c', t', (hb'.block _ (blk_lt hq)).trans hq⟩⟩
theorem Sents.keep {p q : Addr} : ∀ W W' : World, Sents p q W → Below W.heap.size W W' → Sents p q W' := fun _ _ h hb => h.below (Nat.le_refl _) hb

end Go.Proofs.YtafabdgkinfceaaDoor
