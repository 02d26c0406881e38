/- Plain: what reading a number off bytes gives. -/
import Derived.Test.YtafabdgkinfceaaDoorGetSmall
namespace Go.Proofs.YtafabdgkinfceaaDoor

/-- bytes as a number, the greatest one first -/
def val (l : List UInt8) : Nat := l.foldl (fun n b => 256 * n + b.toNat) 0
theorem val_snoc (l : List UInt8) (b : UInt8) : val (l ++ [b]) = 256 * val l + b.toNat := by simp [val]
theorem val_lt_aux (l : List UInt8) : ∀ n m : Nat, n < m → l.foldl (fun n b => 256 * n + b.toNat) n < m * 256 ^ l.length := by
  induction l with
  | nil => intro n m h; simpa using h
  | cons b l ih =>
    intro n m h
    have hb := b.toNat_lt
    have := ih (256 * n + b.toNat) (m * 256) (by omega)
    rw [List.foldl_cons, List.length_cons, Nat.pow_succ, Nat.mul_comm (256 ^ l.length), ← Nat.mul_assoc]
    exact this
theorem val_lt (l : List UInt8) : val l < 256 ^ l.length := by
  have := val_lt_aux l 0 1 (by decide)
  simpa [val] using this

/-- a first byte and the number behind it -/
def valOf (b x : Nat) : Nat := if b ≤ 240 then b else if b ≤ 248 then x + (240 + 256 * (b - 241)) else if b = 249 then x + 2288 else x

/-- what reading gives: too few bytes, no such number, or a number and the rest -/
inductive Got where
  | more
  | field
  | ok (n : Nat) (rest : List UInt8)

def getL : List UInt8 → Got
  | [] => .more
  | b :: t =>
    if t.length < behind b.toNat then .more
    else if (put (valOf b.toNat (val (t.take (behind b.toNat))))).length ≠ 1 + behind b.toNat then .field
    else .ok (valOf b.toNat (val (t.take (behind b.toNat)))) (t.drop (behind b.toNat))

theorem behind_le (b : UInt8) : behind b.toNat ≤ 8 := by
  have := b.toNat_lt
  unfold behind
  repeat' split
  all_goals omega

end Go.Proofs.YtafabdgkinfceaaDoor
