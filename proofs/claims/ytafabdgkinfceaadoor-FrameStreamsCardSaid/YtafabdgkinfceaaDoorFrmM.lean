/- frame.Make, aviaryref03.Make, walked. -/
import Derived.Test.YtafabdgkinfceaaDoorFrmC
import Derived.Test.YtafabdgkinfceaaDoorApp
import Derived.Test.YtafabdgkinfceaaDoorRefPut
import Derived.Lib.AppendStr
namespace Go.Proofs.YtafabdgkinfceaaDoor
open Go.RowKit
set_option linter.unusedSimpArgs false
set_option linter.unusedVariables false

/-- the frame as a text -/
def frmB (s : ByteArray) : ByteArray := ⟨(frmL s.data.toList).toArray⟩
def makeV (s : ByteArray) : Value := if s.size = 0 ∨ 2000 < s.size then .tuple #[.string ⟨#[]⟩, .int .i64 30] else .tuple #[.string (frmB s), .int .i64 0]
theorem makeV_no {s : ByteArray} (h : s.size = 0 ∨ 2000 < s.size) : makeV s = .tuple #[.string ⟨#[]⟩, .int .i64 30] := if_pos h
theorem makeV_ok {s : ByteArray} (h : ¬ (s.size = 0 ∨ 2000 < s.size)) : makeV s = .tuple #[.string (frmB s), .int .i64 0] := if_neg h
theorem frmB_list (s : ByteArray) : (frmB s).data.toList = frmL s.data.toList := by simp [frmB]
theorem frmB_size (s : ByteArray) : (frmB s).size = 1 + (putB s.size).size + s.size + 4 := by
  have hz : s.data.toList.length = s.size := by simp
  have h := frmL_length s.data.toList
  rw [hz] at h
  show (frmL s.data.toList).toArray.size = _
  rw [List.size_toArray, h]
  show _ = 1 + (put s.size).toArray.size + _ + _
  simp
theorem frmB_eq (s : ByteArray) : (⟨#[167]⟩ : ByteArray) ++ putB s.size ++ s ++ be4B (chkN s.data.toList) = frmB s := by
  have hz : s.data.toList.length = s.size := by simp
  apply ByteArray.ext
  apply Array.toList_inj.1
  simp [ByteArray.data_append, frmB, frmL, putB, be4B]

theorem empty_beq {s : ByteArray} : (s.toList.isEmpty = true) ↔ s.size = 0 := by
  rw [Lib.toList_data, List.isEmpty_iff]
  constructor
  · intro h
    have : s.data.toList.length = s.size := by simp
    rw [← this, h]; rfl
  · intro h
    have : s.data.toList.length = s.size := by simp
    exact List.length_eq_zero_iff.1 (by omega)

set_option maxRecDepth 100000 in
set_option maxHeartbeats 2000000 in
theorem rmake_any (s : ByteArray) (hs : s.size ≤ 9223372036854775807) (w : World) :
    Calls Tryd.prog 13 #[.string s] w fun e w' => e = .returned (makeV s) ∧ Below w.heap.size w w' := by
  by_cases h1 : s.size < 1
  · rw [makeV_no (by omega)]
    go_enter Tryd.func13, Tryd.ntmps13
    go_wp2_with fail
    go_ret2
    exact ⟨rfl, Below.refl _ _⟩
  by_cases h2 : 2000 < s.size
  · rw [makeV_no (by omega)]
    go_enter Tryd.func13, Tryd.ntmps13
    go_wp2_with fail
    go_ret2
    exact ⟨rfl, Below.refl _ _⟩
  rw [makeV_ok (by omega), ← frmB_eq]
  have hp := (putB_size s.size).2
  have hn := chkN_lt s.data.toList
  have HC := Lib.hid (rcheck_any s hs)
  generalize chkN s.data.toList = n at *
  have hb := be4B_size n
  have HF := Lib.hid (four_any n hn)
  generalize be4B n = b at *
  clear hn
  go_enter Tryd.func13, Tryd.ntmps13
  go_wp2_with fail
  refine (refPut_any _ (by omega) (by omega) _).mono ?_
  rw [Int.toNat_natCast]
  rintro e w1 ⟨rfl, hb1⟩
  go_wp2_with fail
  refine (HC.out _).mono ?_
  rintro e w' ⟨rfl, rfl⟩
  go_wp2_with fail
  refine (HF.out _).mono ?_
  rintro e w2 ⟨rfl, hb2⟩
  have hb2 := hb1.trans (hb2.mono hb1.size)
  clear hb1
  go_wp2_with fail
  go_ret2
  exact ⟨rfl, hb2⟩

theorem append4 {ops : Array Oper} {rest : List Oper} {o : Oper} {a : Act} {Q : Exit → Act → World → Prop} {W : World} (hgd : o.guard = none) (s x : Operand)
    (ho : o.op = .call { callee := .builtin .append, args := #[s, x], argTypes := #[32, 32] }) (B : Nat) (v : Value) (n : Nat) (xs : List Value) (y z u t : Int) (hs : a.eval s = v) (hown : W.ownsRow B 5 1 v n xs)
    (g : Nat) (hg : g = W.heap.size) (hx : a.eval x = .slice (some ⟨g, 0, none⟩) 4 4) (hn : n + 4 ≤ 1000000) (hB : B ≤ W.heap.size)
    (h : ∀ v' w', w'.ownsRow B 5 1 v' (n + 4) (xs ++ [.int .u8 y, .int .u8 z, .int .u8 u, .int .u8 t]) → Below B W w' → wpList Tryd.prog ops Q rest (a.put o.dst v') w') :
    wpList Tryd.prog ops Q (o :: rest) a (W.alloc (.cells #[.int .u8 y, .int .u8 z, .int .u8 u, .int .u8 t] 5)) :=
  append_bytes hgd s x ho B v n xs hs hown [y, z, u, t] (hg ▸ hx) hn hB h

set_option maxRecDepth 100000 in
set_option maxHeartbeats 4000000 in
theorem make_any (s : ByteArray) (hs : s.size ≤ 9223372036854775807) (w : World) :
    Calls Tryd.prog 11 #[.string s] w fun e w' => e = .returned (makeV s) ∧ Below w.heap.size w w' := by
  by_cases h1 : s.size = 0
  · rw [makeV_no (by omega)]
    have he : s.toList.isEmpty = true := empty_beq.2 h1
    go_enter Tryd.func11, Tryd.ntmps11
    go_wp2_with fail
    go_ret2
    exact ⟨rfl, Below.refl _ _⟩
  have he : s.toList.isEmpty = false := by
    rw [Bool.eq_false_iff]
    exact fun h => h1 (empty_beq.1 h)
  by_cases h2 : 2000 < s.size
  · rw [makeV_no (by omega)]
    go_enter Tryd.func11, Tryd.ntmps11
    go_wp2_with fail
    go_ret2
    exact ⟨rfl, Below.refl _ _⟩
  rw [makeV_ok (by omega)]
  have hp := (putB_size s.size).2
  have hn := chkN_lt s.data.toList
  have HC := Lib.hid (fcheck_any s hs)
  have HR : Hid (frmB s = ⟨(167 :: (put s.size ++ (s.data.toList ++ be (chkN s.data.toList) 4))).toArray⟩) := by
    show _ = _
    have hz : s.data.toList.length = s.size := by simp
    unfold frmB frmL
    rw [hz]
  rw [be4] at HR
  generalize chkN s.data.toList = n at *
  generalize frmB s = R at *
  obtain ⟨i0, hi, hz0, hz1, hz2⟩ := info_parts infoU8
  have o0 : (w.alloc (.cells #[.int .u8 167] 5)).ownsRow w.heap.size 5 1 (.slice (some ⟨w.heap.size, 0, none⟩) 1 1) 1 [.int .u8 167] := World.ownsRow_lit w _ 1 (Nat.le_refl _) (by unfold maxLen; omega) rfl
  have g0 : Below w.heap.size w (w.alloc (.cells #[.int .u8 167] 5)) := (Below.refl _ _).alloc (Nat.le_refl _) _
  go_enter Tryd.func11, Tryd.ntmps11
  go_wp2_with fail
  refine (put_any _ (by omega) (by omega) _).mono ?_
  rw [Int.toNat_natCast]
  rintro e w1 ⟨rfl, hb1⟩
  have o1 := ownsRow_keep _ _ o0 hb1
  have g1 := g0.trans (hb1.mono g0.size)
  clear o0 g0 hb1
  go_wp2_with (at_builtin; refine Lib.wpList_append_own_string _ rfl _ _ 32 9 rfl w.heap.size 5 i0 Tryd.underlying32 Tryd.underlying9 hi hz0 hz1 hz2 _ _ _ rfl o1 (putB s.size) rfl ?c3 ?c4 ?c5 ?_)
  case c3 => unfold maxLen; omega
  case c4 => omega
  case c5 => exact g1.size
  intro v2 w2 o2 q2 _
  have g2 := g1.grown q2 g1.size (fun k e => (o1.lt k e).1)
  clear o1 g1 q2
  go_wp2_with (at_builtin; refine Lib.wpList_append_own_string _ rfl _ _ 32 9 rfl w.heap.size 5 i0 Tryd.underlying32 Tryd.underlying9 hi hz0 hz1 hz2 _ _ _ rfl o2 s rfl ?c3 ?c4 ?c5 ?_)
  case c3 => unfold maxLen; omega
  case c4 => omega
  case c5 => exact g2.size
  intro v3 w3 o3 q3 _
  have g3 := g2.grown q3 g2.size (fun k e => (o2.lt k e).1)
  clear o2 g2 q3
  go_wp2_with fail
  refine (HC.out _).mono ?_
  rintro e w4 ⟨rfl, hb4⟩
  have o4 := ownsRow_keep _ _ o3 hb4
  have g4 := g3.trans (hb4.mono g3.size)
  clear o3 g3 hb4
  go_wp2_with (at_builtin; refine append4 rfl (.tmp 24) (.tmp 36) rfl w.heap.size v3 _ _ _ _ _ _ rfl o4 _ rfl rfl ?c1 g4.size ?_)
  case c1 => omega
  intro v5 w5 o5 q5
  have g5 := g4.trans q5
  clear o4 g4 q5
  have e5 : Value.int .u8 167 :: (Lib.strCells (putB s.size) ++ (Lib.strCells s ++ [Value.int .u8 ((n : Int) / 16777216), .int .u8 ((n : Int) / 65536 % 256), .int .u8 ((n : Int) / 256 % 256), .int .u8 ((n : Int) % 256)])) = ((167 : Int) :: ((put s.size).map (fun b => (b.toNat : Int)) ++ (s.data.toList.map (fun b => (b.toNat : Int)) ++ [(n : Int) / 16777216, (n : Int) / 65536 % 256, (n : Int) / 256 % 256, (n : Int) % 256]))).map (Value.int .u8) := by
    simp only [Lib.strCells, putB, List.map_cons, List.map_append, List.map_map, List.map_nil]
    rfl
  rw [e5] at o5
  have hc := conv_own o5 (by omega)
  clear e5
  have e6 : (⟨(((167 : Int) :: ((put s.size).map (fun b => (b.toNat : Int)) ++ (s.data.toList.map (fun b => (b.toNat : Int)) ++ [(n : Int) / 16777216, (n : Int) / 65536 % 256, (n : Int) / 256 % 256, (n : Int) % 256]))).map fun m => UInt8.ofNat m.toNat).toArray⟩ : ByteArray) = R := by
    rw [HR.out]
    apply ba_eq
    simp only [List.map_cons, List.map_append, List.map_map, List.map_nil]
    have hf : ((fun m : Int => UInt8.ofNat m.toNat) ∘ fun b : UInt8 => (b.toNat : Int)) = id := by
      funext b
      simp
    rw [hf, List.map_id, List.map_id]
    rfl
  rw [e6] at hc
  clear e6 o5
  go_wp2_with fail
  go_ret2
  exact ⟨rfl, g5⟩

end Go.Proofs.YtafabdgkinfceaaDoor
