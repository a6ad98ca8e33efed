/- Powers modulo a number, bit by bit; inverses modulo a prime. No program here. -/
import Derived.Test.YtmpejkhffbonnaaInvP
import Derived.Test.YtmpejkhffbonnaaWLen
import Derived.Test.YtmpejkhffbonnaaPrime
namespace Go.Proofs.Ytmpejkhffbonnaa
/-- the power that is the inverse modulo a prime -/
def pinv (N a : Nat) : Nat := a ^ (N - 2) % N
theorem fermatN {N a : Nat} (hN : EM.Pr N) (h : a % N ≠ 0) : a ^ (N - 1) % N = 1 := by
  have h2 := hN.1
  haveI : NeZero N := ⟨by omega⟩
  have hb : (Fin.ofNat N a) ≠ 0 := by
    intro h0
    have := congrArg Fin.val h0
    rw [EM.val0] at this
    exact h this
  have := congrArg Fin.val (EM.fermat hN (Fin.ofNat N a) hb)
  rw [EM.fpow_val, EM.val1] at this
  have e : (Fin.ofNat N a).val = a % N := rfl
  rw [e, ← Nat.pow_mod, Nat.mod_eq_of_lt (a := 1) (by omega)] at this
  exact this
theorem pinv_lt {N a : Nat} (hN : 0 < N) : pinv N a < N := Nat.mod_lt _ hN
theorem pinv_mul {N a : Nat} (hN : EM.Pr N) (h : a % N ≠ 0) : pinv N a * a % N = 1 := by
  have h2 := hN.1
  unfold pinv
  rw [Nat.mod_mul_mod, ← Nat.pow_succ, show (N - 2).succ = N - 1 by omega]
  exact fermatN hN h
theorem pinv_zero {N : Nat} (hN : 2 < N) : pinv N 0 = 0 := by
  unfold pinv
  rw [Nat.zero_pow (by omega), Nat.zero_mod]
theorem inv_uniq {N a y : Nat} (hN : EM.Pr N) (h : a % N ≠ 0) (hy : y < N) (hya : y * a % N = 1) : y = pinv N a := by
  have h1 := pinv_mul hN h
  have e1 : y * (pinv N a * a) % N = y := by rw [← Nat.mul_mod_mod, h1, Nat.mul_one, Nat.mod_eq_of_lt hy]
  have e2 : pinv N a * (y * a) % N = pinv N a := by rw [← Nat.mul_mod_mod, hya, Nat.mul_one, Nat.mod_eq_of_lt (pinv_lt (by omega))]
  rw [← e1, ← e2]
  exact congrArg (· % N) (by grind)
theorem gcd_one {N a : Nat} (hN : EM.Pr N) (ha : a < N) (h0 : a ≠ 0) : Nat.gcd a N = 1 := by
  rcases hN.2 _ (Nat.gcd_dvd_right a N) with h | h
  · exact h
  · have := Nat.le_of_dvd (by omega) (h ▸ Nat.gcd_dvd_left a N)
    omega
theorem pinv_mod {N a : Nat} : pinv N (a % N) = pinv N a := by unfold pinv; rw [← Nat.pow_mod]
theorem shr_lt {x k : Nat} (h : x < 2 ^ 64) : x / 2 ^ k < 2 ^ 64 := Nat.lt_of_le_of_lt (Nat.div_le_self _ _) h
section
variable {N P n i o p r : Nat}
theorem pow_start (hN : 1 < N) : P ^ (n % 2 ^ 0) % N = 1 := by rw [Nat.pow_zero, Nat.mod_one, Nat.pow_zero, Nat.mod_eq_of_lt hN]
theorem pow_start2 (hP : P < N) : P ^ (2 ^ 0) % N = P := by rw [Nat.pow_zero, Nat.pow_one, Nat.mod_eq_of_lt hP]
theorem pow_low (n i : Nat) : n % 2 ^ (i + 1) = n % 2 ^ i + 2 ^ i * (n / 2 ^ i % 2) := by rw [Nat.pow_succ]; exact Nat.mod_mul
theorem pow_yes (ho : P ^ (n % 2 ^ i) % N = o) (hp : P ^ (2 ^ i) % N = p) (hr : o * p % N = r) (hb : n / 2 ^ i % 2 ≠ 0) : P ^ (n % 2 ^ (i + 1)) % N = r := by
  rw [pow_low, show n / 2 ^ i % 2 = 1 by omega, Nat.mul_one, Nat.pow_add, Nat.mul_mod, ho, hp, hr]
theorem pow_no (ho : P ^ (n % 2 ^ i) % N = o) (hb : ¬ n / 2 ^ i % 2 ≠ 0) : P ^ (n % 2 ^ (i + 1)) % N = o := by
  rw [pow_low, show n / 2 ^ i % 2 = 0 by omega, Nat.mul_zero, Nat.add_zero, ho]
theorem pow_sq (hp : P ^ (2 ^ i) % N = p) (hr : p * p % N = r) : P ^ (2 ^ (i + 1)) % N = r := by
  rw [Nat.pow_succ, Nat.pow_mul, Nat.pow_two, Nat.mul_mod, hp, hr]
theorem pow_end (ho : P ^ (n % 2 ^ ln n) % N = o) : P ^ n % N = o := by rw [← ho, Nat.mod_eq_of_lt (ln_spec n).1]
end
end Go.Proofs.Ytmpejkhffbonnaa
