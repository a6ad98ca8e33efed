/- Plain laws of a division bit by bit. -/
import Derived.Test.YtaeafgkjinhceaaWEq
import Derived.Test.YtaeafgkjinhceaaWLenR
namespace Go.Proofs.Ytaeafgkjinhceaa

theorem half_bit (a i : Nat) : a / 2 ^ i = 2 * (a / 2 ^ (i + 1)) + bitN a i := by
  unfold bitN
  rw [Nat.pow_succ, ← Nat.div_div_eq_div_mul]
  omega
theorem rstep (a b i : Nat) : a / 2 ^ i % b = (2 * (a / 2 ^ (i + 1) % b) + bitN a i) % b := by
  rw [half_bit a i]
  generalize a / 2 ^ (i + 1) = A
  generalize bitN a i = t
  rw [Nat.add_mod, Nat.mul_mod, Nat.add_mod (2 * (A % b)), Nat.mul_mod 2 (A % b), Nat.mod_mod]
theorem qstep (a b i : Nat) (hb : 0 < b) : a / 2 ^ i / b = 2 * (a / 2 ^ (i + 1) / b) + (if b ≤ 2 * (a / 2 ^ (i + 1) % b) + bitN a i then 1 else 0) := by
  rw [half_bit a i]
  have ht : bitN a i ≤ 1 := by unfold bitN; omega
  generalize bitN a i = t at *
  generalize a / 2 ^ (i + 1) = A
  have h1 := Nat.div_add_mod A b
  have h2 := Nat.mod_lt A hb
  generalize A % b = r at *
  generalize A / b = q at *
  have e : 2 * A + t = b * (2 * q) + (2 * r + t) := by
    rw [← h1]
    rw [Nat.mul_left_comm b 2 q]
    omega
  rw [e, Nat.mul_add_div hb]
  congr 1
  split
  · rw [Nat.div_eq_of_lt_le] <;> omega
  · exact Nat.div_eq_of_lt (by omega)
theorem qbits (a b i : Nat) (hb : 0 < b) (c : Bool) (hc : decide (b ≤ 2 * (a / 2 ^ (i + 1) % b) + bitN a i) = c) : a / 2 ^ i / b * 2 ^ i = a / 2 ^ (i + 1) / b * 2 ^ (i + 1) + (if c then 2 ^ i else 0) := by
  have hq := qstep a b i hb
  rw [hq]
  generalize a / 2 ^ (i + 1) / b = q
  have hp : 2 ^ (i + 1) = 2 * 2 ^ i := Nat.pow_succ'
  cases c
  · rw [if_neg (of_decide_eq_false hc), hp]
    simp only [Nat.add_zero, Bool.false_eq_true, if_false]
    rw [Nat.mul_comm 2 q, Nat.mul_assoc]
  · rw [if_pos (of_decide_eq_true hc), hp]
    simp only [if_true]
    rw [Nat.add_mul, Nat.one_mul, Nat.mul_comm 2 q, Nat.mul_assoc]
end Go.Proofs.Ytaeafgkjinhceaa
