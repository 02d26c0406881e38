/- token.isRole, joined, sumOf, Mint, walked. -/
import Derived.Test.YthhoikcknfbclaaDoorTok
import Derived.Test.YthhoikcknfbclaaDoorSt
import Derived.Test.YthhoikcknfbclaaDoorPut
import Derived.Test.YthhoikcknfbclaaDoorConv
namespace Go.Proofs.YthhoikcknfbclaaDoor
open Go.RowKit
set_option linter.unusedSimpArgs false

theorem isRole_yes (r : Int) (h1 : 1 ≤ r) (h3 : r ≤ 3) (w : World) :
    Calls Tryd.prog 19 #[.int .i64 r] w fun e w' => e = .returned (.bool true) ∧ w' = w := by
  go_enter Tryd.func19, Tryd.ntmps19
  go_wp2
  go_ret
  exact ⟨rfl, rfl⟩
theorem isRole_no (r : Int) (h : r < 1 ∨ 3 < r) (w : World) :
    Calls Tryd.prog 19 #[.int .i64 r] w fun e w' => e = .returned (.bool false) ∧ w' = w := by
  rcases h with h | h
  · go_enter Tryd.func19, Tryd.ntmps19
    go_wp2
    go_ret
    exact ⟨rfl, rfl⟩
  · have h1 : 1 ≤ r := by omega
    go_enter Tryd.func19, Tryd.ntmps19
    go_wp2
    go_ret
    exact ⟨by simp; omega, rfl⟩

theorem bodyB_eq (t r u : Nat) : ((⟨#[]⟩ : ByteArray) ++ putB t) ++ putB r ++ putB u = bodyB t r u := by
  apply ba_ext
  simp [ByteArray.data_append, bodyB, bodyL, putB]

set_option maxRecDepth 100000 in
set_option maxHeartbeats 2000000 in
theorem tjoined_any (t r u : Nat) (ht : t < 18446744073709551616) (hr : r < 18446744073709551616) (hu : u < 18446744073709551616) (n : Nat) (T : TypeId) (w : World)
    (hb : w.heap[n]? = some (.cells #[.int .u64 t, .int .u64 r, .int .u64 u] T (0, 0))) :
    Calls Tryd.prog 20 #[.slice (some ⟨n, 0, none⟩) 3 3] w fun e w' => e = .returned (.string (bodyB t r u)) ∧ Below w.heap.size w w' := by
  have st0 : St w [(n, #[.int .u64 t, .int .u64 r, .int .u64 u], T)] (fun _ => True) w := ⟨Below.refl _ _, by simpa using hb, by simp, trivial, fun _ _ _ _ => trivial⟩
  have HE := Lib.hid (bodyB_eq t r u)
  have p1 := (putB_size t).2
  have p2 := (putB_size r).2
  have p3 := (putB_size u).2
  have HT := Lib.hid ht
  have HR := Lib.hid hr
  have HU := Lib.hid hu
  clear hb ht hr hu
  have rl := st0.rules
  simp only [Rules] at rl
  go_enter Tryd.func20, Tryd.ntmps20
  go_wp2_with fail
  refine wp_loop_rounds 4 ?_
  rw [rounds_succ]
  go_wp2_with fail
  refine (put_any _ (Int.natCast_nonneg _) (by have := HT.out; omega) _).mono ?_
  rw [Int.toNat_natCast]
  rintro e w1 ⟨rfl, hb1⟩
  have st1 := st0.to hb1
  clear rl st0 hb1
  have rl := st1.rules
  simp only [Rules] at rl
  go_wp2_with fail
  rw [rounds_succ]
  go_wp2_with fail
  refine (put_any _ (Int.natCast_nonneg _) (by have := HR.out; omega) _).mono ?_
  rw [Int.toNat_natCast]
  rintro e w2 ⟨rfl, hb2⟩
  have st2 := st1.to hb2
  clear rl st1 hb2
  have rl := st2.rules
  simp only [Rules] at rl
  go_wp2_with fail
  rw [rounds_succ]
  go_wp2_with fail
  refine (put_any _ (Int.natCast_nonneg _) (by have := HU.out; omega) _).mono ?_
  rw [Int.toNat_natCast]
  rintro e w3 ⟨rfl, hb3⟩
  have st3 := st2.to hb3
  clear rl st2 hb3
  have rl := st3.rules
  simp only [Rules] at rl
  go_wp2_with fail
  rw [rounds_succ]
  go_wp2_with fail
  go_ret
  exact ⟨ret_str HE.out, st3.below⟩

theorem conv_listT {P : Program} (W : World) (src dst e T : TypeId) (hs : P.underlying src = some (.slice e)) (he : P.underlying e = some (.int .u8)) (hd : P.underlying dst = some .string) (ns : List Int) (g cap : Nat) (hg : g = W.heap.size) :
    (convert src dst (.slice (some ⟨g, 0, none⟩) ns.length cap)).run P (W.alloc (.cells (ns.map (Value.int .u8)).toArray T)) = .ok (.string (ns.foldl (fun r n => r.push (UInt8.ofNat n.toNat)) ByteArray.empty)) (W.alloc (.cells (ns.map (Value.int .u8)).toArray T)) := by
  subst hg
  rw [run_convert_bytes_string _ src dst e (some ⟨W.heap.size, 0, none⟩) ns.length cap hs he hd]
  have hl := run_loadCells_list (P := P) (W.alloc (.cells (ns.map (Value.int .u8)).toArray T)) ⟨W.heap.size, 0, none⟩ (ns.map (Value.int .u8)) (fun j v hj => by
    have e : (⟨W.heap.size, 0, none⟩ : Addr).add j = ⟨W.heap.size, j, none⟩ := by rw [Addr.add_lit, Nat.zero_add]
    rw [e, World.cell?_alloc_new, List.getElem?_toArray, hj])
  rw [List.length_map] at hl
  rw [run_bytesToString _ _ _ cap _ hl]
@[go_sem] theorem conv8 (W : World) (g : Nat) (a b c d e f h i : Int) (hg : g = W.heap.size) :
    (convert 39 9 (.slice (some ⟨g, 0, none⟩) 8 8)).run Tryd.prog (W.alloc (.cells #[.int .u8 a, .int .u8 b, .int .u8 c, .int .u8 d, .int .u8 e, .int .u8 f, .int .u8 h, .int .u8 i] 60)) = .ok (.string ⟨#[UInt8.ofNat a.toNat, UInt8.ofNat b.toNat, UInt8.ofNat c.toNat, UInt8.ofNat d.toNat, UInt8.ofNat e.toNat, UInt8.ofNat f.toNat, UInt8.ofNat h.toNat, UInt8.ofNat i.toNat]⟩) (W.alloc (.cells #[.int .u8 a, .int .u8 b, .int .u8 c, .int .u8 d, .int .u8 e, .int .u8 f, .int .u8 h, .int .u8 i] 60)) :=
  conv_listT (P := Tryd.prog) W 39 9 5 60 Tryd.underlying39 Tryd.underlying5 Tryd.underlying9 [a, b, c, d, e, f, h, i] g 8 hg
theorem u8m (n : Nat) : UInt8.ofNat (n % 256) = UInt8.ofNat n := by
  apply UInt8.toNat_inj.1
  simp
theorem be8 (n : Nat) : be n 8 = [UInt8.ofNat (n / 72057594037927936), UInt8.ofNat (n / 281474976710656 % 256), UInt8.ofNat (n / 1099511627776 % 256), UInt8.ofNat (n / 4294967296 % 256), UInt8.ofNat (n / 16777216 % 256), UInt8.ofNat (n / 65536 % 256), UInt8.ofNat (n / 256 % 256), UInt8.ofNat (n % 256)] := by
  simp only [be, u8m]
  simp

set_option maxRecDepth 100000 in
set_option maxHeartbeats 2000000 in
theorem sumOf_any (a b : BitVec 64) (s : ByteArray) (hs : s.size ≤ 100000) (w : World) :
    Calls Tryd.prog 21 #[kv a b, .string s] w fun e w' => e = .returned (.string (sumB a b s)) ∧ Below w.heap.size w w' := by
  have st0 := (St.start w).alloc (cs := #[.int .u64 (un a), .int .u64 (un b)]) (T := 24)
  go_enter Tryd.func21, Tryd.ntmps21
  go_wp2_with fail
  refine (child_any a b _ (by decide) _).mono ?_
  rintro e w1 ⟨rfl, hb1⟩
  have st1 := st0.to hb1
  clear st0 hb1
  go_wp2_with fail
  refine (sum_any _ _ s (by omega) _).mono ?_
  rintro e w2 ⟨rfl, hb2⟩
  have st2 := st1.to hb2
  clear st1 hb2
  have HS : Hid (sumB a b s = ⟨(be (sipSum (childA a b tokB.data.toList) (childB a b tokB.data.toList) s.data.toList).toNat 8).toArray⟩) := rfl
  generalize sipSum (childA a b tokB.data.toList) (childB a b tokB.data.toList) s.data.toList = v at *
  obtain ⟨n, hn⟩ : ∃ n : Nat, un v = (n : Int) ∧ v.toNat = n := ⟨v.toNat, rfl, rfl⟩
  rw [hn.1]
  rw [hn.2] at HS
  have hn64 : n < 18446744073709551616 := by have := v.isLt; omega
  clear hn
  have st3 := st2.alloc (cs := #[.int .u8 0, .int .u8 0, .int .u8 0, .int .u8 0, .int .u8 0, .int .u8 0, .int .u8 0, .int .u8 0]) (T := 60)
  go_wp2_with fail
  refine wp_loop_rounds 9 ?_
  iterate 9 (rw [rounds_succ]; go_wp2_with fail)
  go_ret
  refine ⟨ret_str ?_, st2.below.alloc st2.below.size _⟩
  rw [HS.out, be8]

set_option maxRecDepth 100000 in
set_option maxHeartbeats 2000000 in
theorem mint_any (a b : BitVec 64) (t : Nat) (r : Int) (u : Nat) (ht : t < 18446744073709551616) (hr0 : -9223372036854775808 ≤ r) (hr : r ≤ 9223372036854775807) (hu : u < 18446744073709551616) (w : World) :
    Calls Tryd.prog 10 #[kv a b, cv t r u] w fun e w' => e = .returned (mintV a b t r u) ∧ Below w.heap.size w w' := by
  unfold mintV
  have st0 := ((St.start w).alloc (cs := #[.int .u64 (un a), .int .u64 (un b)]) (T := 24)).alloc (cs := #[.int .u64 t, .int .i64 r, .int .u64 u]) (T := 26)
  by_cases h : 1 ≤ r ∧ r ≤ 3
  · rw [if_pos h]
    obtain ⟨h1, h3⟩ := h
    obtain ⟨r, rfl⟩ := Int.eq_ofNat_of_zero_le (show 0 ≤ r by omega)
    rw [Int.toNat_natCast]
    go_enter Tryd.func10, Tryd.ntmps10
    go_wp2_with fail
    refine (isRole_yes _ h1 h3 _).mono ?_
    rintro e w' ⟨rfl, rfl⟩
    have st1 := st0.alloc (cs := #[.int .u64 t, .int .u64 r, .int .u64 u]) (T := 22)
    go_wp2_with fail
    simp only [World.size_alloc] at st1
    refine (tjoined_any t r u ht (by omega) hu _ _ _ (st1.blk _ (List.mem_of_getElem? (i := 0) rfl))).mono ?_
    rintro e w2 ⟨rfl, hb2⟩
    have st2 := st1.to hb2
    clear st1 st0 hb2
    have rl := st2.rules
    simp only [Rules] at rl
    have hz := bodyB_size t r u
    go_wp2_with fail
    refine (sumOf_any a b _ (by omega) _).mono ?_
    rintro e w3 ⟨rfl, hb3⟩
    have st3 := st2.to hb3
    have hz2 := sumB_size a b (bodyB t r u)
    clear rl
    go_wp2_with fail
    go_ret2
    exact ⟨rfl, st3.below⟩
  · rw [if_neg h]
    go_enter Tryd.func10, Tryd.ntmps10
    go_wp2_with fail
    refine (isRole_no _ (by omega) _).mono ?_
    rintro e w' ⟨rfl, rfl⟩
    go_wp2_with fail
    go_ret2
    exact ⟨rfl, st0.below⟩

end Go.Proofs.YthhoikcknfbclaaDoor
