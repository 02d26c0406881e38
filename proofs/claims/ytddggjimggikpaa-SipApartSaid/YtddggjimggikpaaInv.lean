/- A round and its undoing: plain laws. -/
import Derived.Test.YtddggjimggikpaaU64
namespace Go.Proofs.Ytddggjimggikpaa

theorem rotl_inv (x : BitVec 64) (k : Nat) (h0 : 0 < k) (h1 : k < 64) : rotl (rotl x k) (64 - k) = x := by
  unfold rotl
  apply BitVec.eq_of_getLsbD_eq
  intro i hi
  simp only [BitVec.getLsbD_or, BitVec.getLsbD_shiftLeft, BitVec.getLsbD_ushiftRight]
  have e : 64 - (64 - k) = k := by omega
  rw [e]
  by_cases h : i < 64 - k
  · have h2 : k + i < 64 := by omega
    have h3 : ¬ k + i < k := by omega
    simp [h, h2, h3, hi]
    intro hx
    exfalso
    have := BitVec.lt_of_getLsbD hx
    omega
  · have h2 : ¬ k + i < 64 := by omega
    have h3 : i - (64 - k) < 64 := by omega
    have h4 : i - (64 - k) < k := by omega
    have h5 : 64 - k + (i - (64 - k)) = i := by omega
    simp [h, h2, h3, h4, h5, hi]
    intro hx
    exfalso
    have := BitVec.lt_of_getLsbD hx
    omega

theorem bck_rnd (v : V4) : bck (rnd v) = v := by
  obtain ⟨a, b, c, d⟩ := v
  have r32 : ∀ x, rotl (rotl x 32) 32 = x := fun x => rotl_inv x 32 (by omega) (by omega)
  have r17 : ∀ x, rotl (rotl x 17) 47 = x := fun x => rotl_inv x 17 (by omega) (by omega)
  have r21 : ∀ x, rotl (rotl x 21) 43 = x := fun x => rotl_inv x 21 (by omega) (by omega)
  have r16 : ∀ x, rotl (rotl x 16) 48 = x := fun x => rotl_inv x 16 (by omega) (by omega)
  have r13 : ∀ x, rotl (rotl x 13) 51 = x := fun x => rotl_inv x 13 (by omega) (by omega)
  simp only [bck, rnd, r32, BitVec.xor_assoc, BitVec.xor_self, BitVec.xor_zero, r17, r21, r16, r13, BitVec.add_sub_cancel]

theorem rnd_bck (v : V4) : rnd (bck v) = v := by
  obtain ⟨a, b, c, d⟩ := v
  have r32 : ∀ x, rotl (rotl x 32) 32 = x := fun x => rotl_inv x 32 (by omega) (by omega)
  have r17 : ∀ x, rotl (rotl x 47) 17 = x := fun x => rotl_inv x 47 (by omega) (by omega)
  have r21 : ∀ x, rotl (rotl x 43) 21 = x := fun x => rotl_inv x 43 (by omega) (by omega)
  have r16 : ∀ x, rotl (rotl x 48) 16 = x := fun x => rotl_inv x 48 (by omega) (by omega)
  have r13 : ∀ x, rotl (rotl x 51) 13 = x := fun x => rotl_inv x 51 (by omega) (by omega)
  simp only [bck, rnd, r32, BitVec.xor_assoc, BitVec.xor_self, BitVec.xor_zero, r17, r21, r16, r13, BitVec.sub_add_cancel]

theorem rnd_inj {v u : V4} (h : rnd v = rnd u) : v = u := by
  have := congrArg bck h
  rwa [bck_rnd, bck_rnd] at this
end Go.Proofs.Ytddggjimggikpaa
