/- Two entries are appended: walked. -/
import Derived.Test.YtclhbimlpamjiaaAppend2
import Derived.Test.YtclhbimlpamjiaaPlain16
import Derived.Test.YtclhbimlpamjiaaFew2
namespace Go.Proofs.Ytclhbimlpamjiaa
open Go.RowKit
set_option linter.unusedVariables false
set_option linter.unusedSimpArgs false

theorem append_yes_k {ka kb : Int} (a b : BitVec 64) (ha : un a = ka) (hb : un b = kb) (bf : Int) (h0 : 0 ≤ bf) (h1 : bf < 18446744073709551616) (L : List Ent) (hL : ∀ x ∈ L, x.Ok) (n : Nat) (hn : L.length = n) (s : Option Addr) (cap : Nat) (hcap : n ≤ cap) (hcn : s = none → cap = 0) (at' : Int) (q0 : 0 ≤ at') (q1 : at' < 18446744073709551616) (tx : ByteArray) (w : World) (hE : Ents w s L)
    (hyes : AppOk a b bf L at' tx) :
    Calls Try.prog 12 #[.agg #[.int .u64 ka, .int .u64 kb], lv bf s n cap, .int .u64 at', .string tx] w fun e w' => ∃ v, e = .returned (.tuple #[.agg #[.int .u64 (appB bf L), v], .int .i64 0]) ∧ OwnE w' w.heap.size v (appL a b bf L at' tx) ∧ Below w.heap.size w w' := by
  subst hn ha hb
  exact append_yes a b bf h0 h1 L hL s cap hcap hcn at' q0 q1 tx w hE hyes
theorem append_no_k {ka kb : Int} (a b : BitVec 64) (ha : un a = ka) (hb : un b = kb) (bf : Int) (h0 : 0 ≤ bf) (h1 : bf < 18446744073709551616) (L : List Ent) (hL : ∀ x ∈ L, x.Ok) (n : Nat) (hn : L.length = n) (hl : n ≤ 1000) (s : Option Addr) (cap : Nat) (at' : Int) (tx : ByteArray) (ht : tx.size ≤ 1000) (w : World) (hE : Ents w s L)
    (hno : ¬ AppOk a b bf L at' tx) :
    Calls Try.prog 12 #[.agg #[.int .u64 ka, .int .u64 kb], lv bf s n cap, .int .u64 at', .string tx] w fun e w' => e = .returned noLog ∧ Below w.heap.size w w' := by
  subst hn ha hb
  exact append_no a b bf h0 h1 L hL hl s cap at' tx ht w hE hno
theorem right_k {ka kb : Int} (a b : BitVec 64) (ha : un a = ka) (hb : un b = kb) (bf : Int) (h0 : 0 ≤ bf) (h1 : bf < 18446744073709551616) (L : List Ent) (hL : ∀ x ∈ L, x.Ok) (n : Nat) (hn : L.length = n) (hl : n ≤ 1000) (s : Option Addr) (cap : Nat) (r : Bool) (hr : r = true ↔ RightP a b bf L) (w : World) (hE : Ents w s L) :
    Calls Try.prog 15 #[.agg #[.int .u64 ka, .int .u64 kb], lv bf s n cap] w fun e w' => e = .returned (.bool r) ∧ Below w.heap.size w w' := by
  subst hn ha hb
  exact right_any a b bf h0 h1 L hL hl s cap r hr w hE

theorem own_ents_at {w : World} {B : Nat} {s : Option Addr} {n c : Nat} {L : List Ent} (h : OwnE w B (.slice s n c) L) : Ents w s L := by
  obtain ⟨s', c', hv, _, hE, _⟩ := own_ents h
  cases hv
  exact hE
theorem own_facts {w : World} {B : Nat} {s : Option Addr} {n c : Nat} {L : List Ent} (h : OwnE w B (.slice s n c) L) : n = L.length ∧ n ≤ c ∧ (s = none → c = 0) := by
  rcases h.2 with ⟨h1, h2⟩ | ⟨g, cap, cur, h1, h2, h3, h4, _⟩
  · cases h1
    exact ⟨h2.symm, by omega, fun _ => rfl⟩
  · cases h1
    exact ⟨rfl, h4, by simp⟩
theorem ownE_nil {w : World} : Ents w none [] := fun i x hx => by simp at hx

theorem chained_n (n : Nat) (a b : BitVec 64) (bf : Int) (h0 : 0 ≤ bf) (h1 : bf < 18446744073709551616) (L : List Ent) (hL : ∀ x ∈ L, x.Ok) (hn : L.length = n) (hl : n ≤ 1000) (s : Option Addr) (cap : Nat) (w : World) (hE : Ents w s L) :
    Calls Try.prog 22 #[kv a b, .int .u64 bf, .slice s n cap] w fun e w' => e = .returned (.tuple #[.int .i64 (chain a b bf L).1, .bool (chain a b bf L).2]) ∧ Below w.heap.size w w' := by
  subst hn
  exact chained_any a b bf h0 h1 L hL hl s cap w hE
theorem Ents.take {w : World} {s : Option Addr} {L : List Ent} (h : Ents w s L) (k : Nat) : Ents w s (L.take k) := by
  intro i x hx
  rw [List.getElem?_take] at hx
  split at hx
  · exact h i x hx
  · simp at hx
theorem Ents.drop {w : World} {g o : Nat} {L : List Ent} (h : Ents w (some ⟨g, o, none⟩) L) (k : Nat) : Ents w (some ⟨g, o + k * 4, none⟩) (L.drop k) := by
  intro i x hx
  rw [List.getElem?_drop] at hx
  obtain ⟨g', o', he, q⟩ := h _ _ hx
  cases he
  refine ⟨g, o + k * 4, rfl, ?_⟩
  rw [show o + k * 4 + i * 4 = o + (k + i) * 4 by omega]
  exact q

theorem Ents.drop0 {w : World} {g : Nat} {L : List Ent} (h : Ents w (some ⟨g, 0, none⟩) L) (k : Nat) : Ents w (some ⟨g, k * 4, none⟩) (L.drop k) := by
  have := h.drop k
  rwa [Nat.zero_add] at this

/-- what is known of the example's two logs -/
structure Ex2 (L1 L2 : List Ent) (x : Ent) : Prop where
  ok1 : ∀ x ∈ L1, x.Ok
  ok2 : ∀ x ∈ L2, x.Ok
  l1 : L1.length = 1
  l2 : L2.length = 2
  r1 : AppOk 1 2 0 L1 5 ⟨#[121]⟩
  r2 : RightP 1 2 0 L2
  n3 : ¬ AppOk 1 2 0 L2 4 ⟨#[122]⟩
  g2 : L2[1]? = some x
  sq : x.seq = 2
  hd : headE 0 L2 = x.sum
  b1 : appB 0 ([] : List Ent) = 0
  b2 : appB 0 L1 = 0
  e2 : L2 = appL 1 2 0 L1 5 ⟨#[121]⟩
theorem ex_ok : AppOk 1 2 0 [] 5 ⟨#[120]⟩ := ⟨⟨by simp, fun _ => rfl, by simp, by simp, by simp, rfl⟩, by decide, by simp [lastE], by simp⟩
theorem ex2 : ∃ L1 L2 x, L1 = appL 1 2 0 [] 5 ⟨#[120]⟩ ∧ Ex2 L1 L2 x := by
  have hok1 : ∀ x ∈ appL 1 2 0 [] 5 ⟨#[120]⟩, x.Ok := appL_ok 1 2 0 [] (by simp) 5 (by omega) (by omega) _ ex_ok
  have hr1 := right_app 1 2 0 [] (by simp) 5 ⟨#[120]⟩ ex_ok
  have hb1 : appB 0 ([] : List Ent) = 0 := rfl
  rw [hb1] at hr1
  have hl1 : (appL 1 2 0 [] 5 ⟨#[120]⟩).length = 1 := rfl
  have hla1 : lastE (appL 1 2 0 [] 5 ⟨#[120]⟩) = 1 := lastE_app ..
  have happ : AppOk 1 2 0 (appL 1 2 0 [] 5 ⟨#[120]⟩) 5 ⟨#[121]⟩ := ⟨hr1, by decide, by rw [hla1]; decide, fun x hx => by
    have : x = newEnt 1 2 0 [] 5 ⟨#[120]⟩ := by
      rw [hl1] at hx
      exact (Option.some.inj hx).symm
    subst this
    exact Int.le_refl 5⟩
  have hr2 := right_app 1 2 0 _ hok1 5 ⟨#[121]⟩ happ
  have hb2 : appB 0 (appL 1 2 0 [] 5 ⟨#[120]⟩) = 0 := rfl
  rw [hb2] at hr2
  have hg : (appL 1 2 0 (appL 1 2 0 [] 5 ⟨#[120]⟩) 5 ⟨#[121]⟩)[1]? = some (newEnt 1 2 0 (appL 1 2 0 [] 5 ⟨#[120]⟩) 5 ⟨#[121]⟩) := rfl
  refine ⟨_, appL 1 2 0 (appL 1 2 0 [] 5 ⟨#[120]⟩) 5 ⟨#[121]⟩, _, rfl, ⟨hok1, appL_ok 1 2 0 _ hok1 5 (by omega) (by omega) _ happ, hl1, rfl, happ, hr2, ?_, hg, ?_, headE_app .., hb1, hb2, rfl⟩⟩
  · intro h
    have := h.l _ hg
    have e : (newEnt 1 2 0 (appL 1 2 0 [] 5 ⟨#[120]⟩) 5 ⟨#[121]⟩).at' = 5 := rfl
    omega
  · show lastE (appL 1 2 0 [] 5 ⟨#[120]⟩) + 1 = 2
    omega

set_option maxRecDepth 100000 in
set_option maxHeartbeats 1000000 in
theorem shown_any (w : World) : Calls Try.prog 10 #[] w fun e w' => e = .returned (.bool true) ∧ Below w.heap.size w w' := by
  obtain ⟨L1, L2, x2, HL1, hx2⟩ := ex2
  have st0 := (St.start w).alloc (cs := #[.int .u64 1, .int .u64 2]) (T := 24)
  go_enter Try.func10, Try.ntmps10
  go_wp2_with fail
  refine (append_yes_k 1 2 rfl rfl 0 (by omega) (by omega) [] (by simp) 0 rfl none 0 (by omega) (fun _ => rfl) 5 (by omega) (by omega) ⟨#[120]⟩ _ ownE_nil ex_ok).mono ?_
  rintro e w1 ⟨v1, rfl, hown1, hb1⟩
  rw [← HL1] at hown1
  rw [hx2.b1]
  have st1 := (st0.to hb1).lessE (F := fun W => OwnE W w.heap.size v1 L1) (ownsRow_base hown1 (by simp)) ownsRow_keep
  obtain ⟨s1, c1, hv1, _⟩ := own_ents st1.ex
  subst hv1
  obtain ⟨_, hc1, hn1⟩ := own_facts hown1
  clear HL1 hown1 hb1 st0
  have rl := st1.rules
  simp only [Rules, World.size_alloc] at rl
  go_wp2_with fail
  refine (append_yes_k 1 2 rfl rfl 0 (by omega) (by omega) L1 hx2.ok1 _ rfl s1 c1 hc1 hn1 5 (by omega) (by omega) ⟨#[121]⟩ _ (own_ents_at st1.alloc.ex) hx2.r1).mono ?_
  rintro e w2 ⟨v2, rfl, hown2, hb2⟩
  rw [← hx2.e2] at hown2
  rw [hx2.b2]
  have st2 := (st1.alloc.to hb2).lessE (F := fun W => OwnE W w.heap.size v2 L2) (ownsRow_base hown2 (by have := st1.below.size; simp; omega)) ownsRow_keep
  obtain ⟨s2, c2, hv2, _⟩ := own_ents st2.ex
  subst hv2
  obtain ⟨_, hc2, hn2⟩ := own_facts hown2
  clear hown2 hb2 st1 rl hc1 hn1
  have rl := st2.rules
  simp only [Rules, World.size_alloc] at rl
  go_wp2_with fail
  refine (append_no_k 1 2 rfl rfl 0 (by omega) (by omega) L2 hx2.ok2 _ rfl (by rw [hx2.l2]; omega) s2 c2 4 ⟨#[122]⟩ (by decide) _ (own_ents_at st2.alloc.ex) hx2.n3).mono ?_
  rintro e w3 ⟨rfl, hb3⟩
  have st3 := st2.alloc.to hb3
  clear hb3 st2 rl
  have rl := st3.rules
  simp only [Rules, World.size_alloc] at rl
  have h3 := st3.ex
  obtain ⟨g2, o2, hs2, hg2, b0, b1, b2, b3⟩ := own_ents_at st3.ex 1 x2 hx2.g2
  subst hs2
  have hl2 : 1 < L2.length := by rw [hx2.l2]; omega
  have hl2b : ((L2.length : Int) == 2) = true := by rw [hx2.l2]; rfl
  have hsqb : (x2.seq == 2) = true := by rw [hx2.sq]; rfl
  go_wp2_with fail
  clear rl
  obtain ⟨bl3, E3, hne3, sh3, rl, hEx, hbx, hst⟩ := st3.alloc.hide
  refine region_st sh3 (by kernel_rfl) (by kernel_rfl) ?_
  simp only [Rules, World.size_alloc] at rl
  have d0 : ∀ x : Cs w bl3 E3, x.W.cell? ⟨g2, o2 + 4, none⟩ = some (.int .u64 x2.seq) := fun x => by
    obtain ⟨g', o', he, _, b0, _⟩ := own_ents_at (hEx x).out 1 x2 hx2.g2
    cases he
    exact b0
  have d3 : ∀ x : Cs w bl3 E3, x.W.cell? ⟨g2, o2 + 4 + 3, none⟩ = some (.int .u64 x2.sum) := fun x => by
    obtain ⟨g', o', he, _, _, _, _, b3⟩ := own_ents_at (hEx x).out 1 x2 hx2.g2
    cases he
    exact b3
  have hl1000 : L2.length ≤ 1000 := by rw [hx2.l2]; omega
  repeat (first | go_big_quiet_step (first | (go_at_call 15; exact Cs.call (right_k 1 2 rfl rfl 0 (by omega) (by omega) L2 hx2.ok2 _ rfl hl1000 _ c2 true ⟨fun _ => hx2.r2, fun _ => rfl⟩ _ (own_ents_at (hEx _).out))) | (go_at_call 21; exact Cs.call (head_any 0 L2 hl1000 _ c2 _ (own_ents_at (hEx _).out)))) | quiet_step (first | (go_at_call 15; exact Cs.call (right_k 1 2 rfl rfl 0 (by omega) (by omega) L2 hx2.ok2 _ rfl hl1000 _ c2 true ⟨fun _ => hx2.r2, fun _ => rfl⟩ _ (own_ents_at (hEx _).out))) | (go_at_call 21; exact Cs.call (head_any 0 L2 hl1000 _ c2 _ (own_ents_at (hEx _).out)))))
  refine wpQuiet_nil ?_
  intro y
  have hfin := (hbx y).out
  have hd : (headE 0 L2 == x2.sum) = true := by rw [hx2.hd]; simp
  clear hbx rl hst sh3 d0 d3 hEx
  go_wp2_with fail
  go_ret
  exact ⟨by first | rfl | (rw [hd]; rfl), hfin⟩
end Go.Proofs.Ytclhbimlpamjiaa
