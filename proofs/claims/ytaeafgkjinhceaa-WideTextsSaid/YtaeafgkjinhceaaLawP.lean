/- Plain laws of sums, products, quotients, shifts. -/
import Derived.Test.YtaeafgkjinhceaaSh2P
namespace Go.Proofs.Ytaeafgkjinhceaa
section
variable {a b m M : Nat}
theorem undo_1 {s d : Nat} (ha : a < M) (hb : b < M) (hs : (a + b) % M = s) (hd : (s + M - b) % M = d) : d = a := by
  rcases Nat.lt_or_ge (a + b) M with h | h
  · rw [Nat.mod_eq_of_lt h] at hs
    rw [← hd, ← hs, show a + b + M - b = a + M by omega, Nat.add_mod_right, Nat.mod_eq_of_lt ha]
  · rw [Nat.mod_eq_sub_mod h, Nat.mod_eq_of_lt (by omega)] at hs
    rw [← hd, ← hs, show a + b - M + M - b = a by omega, Nat.mod_eq_of_lt ha]
theorem undo_2 {s c1 c2 : Nat} (ha : a < M) (hb : b < M) (hs : (a + b) % M = s) (h1 : (a + b) / M = c1) (h2 : bor s b = c2) : c1 = c2 := by
  unfold bor at h2
  rcases Nat.lt_or_ge (a + b) M with h | h
  · rw [Nat.mod_eq_of_lt h] at hs
    rw [Nat.div_eq_of_lt h] at h1
    rw [if_neg (by omega)] at h2
    omega
  · rw [Nat.mod_eq_sub_mod h, Nat.mod_eq_of_lt (by omega)] at hs
    have h3 : (a + b) / M = 1 := Nat.div_eq_of_lt_le (by omega) (by omega)
    rw [if_pos (by omega)] at h2
    omega
theorem undo_le {q r : Nat} (hq : a / b = q) (hr : a % b = r) : q * b + r = a := by
  rw [← hq, ← hr, Nat.mul_comm]; exact Nat.div_add_mod a b
theorem undo_hi {q r hi : Nat} (ha : a < M) (hq : a / b = q) (hr : a % b = r) (h : q * b / M = hi) : hi = 0 := by
  have := undo_le hq hr
  rw [← h]; exact Nat.div_eq_of_lt (by omega)
theorem undo_s {q r lo s : Nat} (ha : a < M) (hq : a / b = q) (hr : a % b = r) (hl : q * b % M = lo) (h : (lo + r) % M = s) : s = a := by
  have e := undo_le hq hr
  rw [Nat.mod_eq_of_lt (by omega)] at hl
  rw [← h, ← hl, e, Nat.mod_eq_of_lt ha]
theorem undo_c {q r lo c : Nat} (ha : a < M) (hq : a / b = q) (hr : a % b = r) (hl : q * b % M = lo) (h : (lo + r) / M = c) : c = 0 := by
  have e := undo_le hq hr
  rw [Nat.mod_eq_of_lt (by omega)] at hl
  rw [← h, ← hl, e, Nat.div_eq_of_lt ha]
theorem undo_rem {lo hi r : Nat} (hl : a * b % M = lo) (hh : a * b / M = hi) (h : (hi * M + lo) % b = r) : r = 0 := by
  have := Nat.div_add_mod (a * b) M
  rw [hl, hh, Nat.mul_comm] at this
  rw [← h, this, Nat.mul_mod_left]
theorem undo_lt {r : Nat} (hb : b ≠ 0) (hr : a % b = r) : r < b := by rw [← hr]; exact Nat.mod_lt _ (Nat.pos_of_ne_zero hb)
theorem add_swap {s t : Nat} (h1 : (a + b) % M = s) (h2 : (b + a) % M = t) : s = t := by rw [← h1, ← h2, Nat.add_comm]
theorem mul_swap {s t : Nat} (h1 : a * b % M = s) (h2 : b * a % M = t) : s = t := by rw [← h1, ← h2, Nat.mul_comm]
theorem mul_swapH {s t : Nat} (h1 : a * b / M = s) (h2 : b * a / M = t) : s = t := by rw [← h1, ← h2, Nat.mul_comm]
theorem mul_over {s x y z t : Nat} (hs : (a + b) % M = s) (hx : a * m % M = x) (hy : b * m % M = y) (hz : s * m % M = z) (ht : (x + y) % M = t) : z = t := by
  rw [← hz, ← ht, ← hs, ← hx, ← hy, Nat.mod_mul_mod, Nat.add_mul, ← Nat.add_mod]
theorem shl_mul {k x y z : Nat} (hx : 1 * 2 ^ k % M = x) (hy : a * x % M = y) (hz : a * 2 ^ k % M = z) : z = y := by
  rw [← hz, ← hy, ← hx, Nat.one_mul, Nat.mul_mod_mod]
end
end Go.Proofs.Ytaeafgkjinhceaa
