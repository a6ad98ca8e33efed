/- Shifts word by word; digits of 32 bits. No program here. -/
import Derived.Test.YtmpejkhffbonnaaDig3P
namespace Go.Proofs.Ytmpejkhffbonnaa
theorem upn_at {f : Nat → Nat} {j x : Nat} : upn f j x j = x := by unfold upn; rw [if_pos rfl]
theorem shr_or {A k i nn : Nat} (hA : A < 2 ^ 256) (h1 : nn / 64 ≤ i) (h2 : i < 4) (hr : 0 < nn % 64) : limN (A / 2 ^ nn) (i - nn / 64) = limN A i / 2 ^ (nn % 64) ||| limN A (i + 1) * 2 ^ (64 - nn % 64) % 18446744073709551616 := by
  have hr64 : nn % 64 < 64 := Nat.mod_lt _ (by decide)
  have e0 : A / 2 ^ nn / 2 ^ (64 * (i - nn / 64)) = A / 2 ^ (64 * i) / 2 ^ (nn % 64) := by
    rw [Nat.div_div_eq_div_mul, Nat.div_div_eq_div_mul, ← Nat.pow_add, ← Nat.pow_add]; congr 2; omega
  have e1 : A / 2 ^ (64 * (i + 1)) = A / 2 ^ (64 * i) / 2 ^ 64 := by rw [Nat.div_div_eq_div_mul, ← Nat.pow_add]; rfl
  unfold limN
  rw [e0, e1]
  generalize A / 2 ^ (64 * i) = y
  generalize nn % 64 = r at hr hr64
  have h64 : (2 : Nat) ^ 64 = 2 ^ r * 2 ^ (64 - r) := by rw [← Nat.pow_add]; congr 1; omega
  have h64' : (18446744073709551616 : Nat) = 2 ^ r * 2 ^ (64 - r) := h64
  have hlt : y % 2 ^ 64 / 2 ^ r < 2 ^ (64 - r) := by
    rw [Nat.div_lt_iff_lt_mul (Nat.two_pow_pos r), Nat.mul_comm, ← h64]; exact Nat.mod_lt _ (Nat.two_pow_pos _)
  have e2 : y / 2 ^ 64 % 2 ^ 64 * 2 ^ (64 - r) % 18446744073709551616 = 2 ^ (64 - r) * (y / 2 ^ 64 % 2 ^ r) := by
    rw [h64', Nat.mul_comm (y / 2 ^ 64 % 2 ^ 64), Nat.mul_comm (2 ^ r), Nat.mul_mod_mul_left]
    congr 1
    rw [h64, Nat.mod_mul_right_mod]
  rw [e2, Nat.or_comm, ← Nat.two_pow_add_eq_or_of_lt hlt]
  have e3 : y / 2 ^ r = y % 2 ^ 64 / 2 ^ r + 2 ^ (64 - r) * (y / 2 ^ 64) := by
    have : y = y % 2 ^ 64 + 2 ^ r * (2 ^ (64 - r) * (y / 2 ^ 64)) := by rw [← Nat.mul_assoc, ← h64]; exact (Nat.mod_add_div _ _).symm
    generalize y % 2 ^ 64 = p at *
    generalize 2 ^ (64 - r) * (y / 2 ^ 64) = q at *
    rw [this, Nat.add_mul_div_left _ _ (Nat.two_pow_pos r)]
  rw [e3, show (2 : Nat) ^ 64 = 2 ^ (64 - r) * 2 ^ r by rw [← Nat.pow_add]; congr 1; omega]
  generalize hX : y % (2 ^ (64 - r) * 2 ^ r) / 2 ^ r = X
  have hX2 : X < 2 ^ (64 - r) := by rw [← hX, ← show (2 : Nat) ^ 64 = 2 ^ (64 - r) * 2 ^ r by rw [← Nat.pow_add]; congr 1; omega]; exact hlt
  rw [Nat.mod_mul, Nat.add_mul_mod_self_left, Nat.mod_eq_of_lt hX2, Nat.add_mul_div_left _ _ (Nat.two_pow_pos _), Nat.div_eq_of_lt hX2, Nat.zero_add]
  omega
theorem shr_plain {A i nn : Nat} (hA : A < 2 ^ 256) (h1 : nn / 64 ≤ i) (h2 : i < 4) (h : ¬ (i + 1 < 4 ∧ 0 < nn % 64)) : limN (A / 2 ^ nn) (i - nn / 64) = limN A i / 2 ^ (nn % 64) := by
  rcases Nat.eq_zero_or_pos (nn % 64) with hr | hr
  · have e0 : A / 2 ^ nn / 2 ^ (64 * (i - nn / 64)) = A / 2 ^ (64 * i) := by
      rw [Nat.div_div_eq_div_mul, ← Nat.pow_add]; congr 2; omega
    rw [hr, Nat.pow_zero, Nat.div_one]; unfold limN; rw [e0]
  · have hi : i = 3 := by omega
    rw [shr_or (k := 0) hA h1 h2 hr]
    have : limN A (i + 1) = 0 := by
      unfold limN; rw [hi, Nat.div_eq_of_lt (by simpa using hA)]
    rw [this, Nat.zero_mul, Nat.zero_mod, Nat.or_zero]
theorem limN_high {A nn j : Nat} (hA : A < 2 ^ 256) (h : 4 ≤ j + nn / 64) : limN (A / 2 ^ nn) j = 0 := by
  unfold limN
  rw [Nat.div_div_eq_div_mul, ← Nat.pow_add, Nat.div_eq_of_lt (Nat.lt_of_lt_of_le hA (Nat.pow_le_pow_right (by decide) (by omega)))]
def shf (A nn i j : Nat) : Nat := if j + nn / 64 < i then limN (A / 2 ^ nn) j else 0
theorem shr_step {A nn i x : Nat} {f : Nat → Nat} (h1 : nn / 64 ≤ i) (hx : x = limN (A / 2 ^ nn) (i - nn / 64)) (hf : ∀ j, j < 4 → f j = shf A nn i j) : ∀ j, j < 4 → upn f (i - nn / 64) x j = shf A nn (i + 1) j := by
  intro j hj
  unfold upn
  by_cases h : j = i - nn / 64
  · rw [if_pos h, h, hx]; unfold shf; rw [if_pos (by omega)]
  · rw [if_neg h, hf j hj]; unfold shf
    by_cases h2 : j + nn / 64 < i
    · rw [if_pos h2, if_pos (by omega)]
    · rw [if_neg h2, if_neg (by omega)]
theorem shr_stepA {A nn i : Nat} {f : Nat → Nat} (hA : A < 2 ^ 256) (h1 : nn / 64 ≤ i) (h2 : i < 4) (h : ¬ (i + 1 < 4 ∧ 0 < nn % 64)) (hf : ∀ j, j < 4 → f j = shf A nn i j) : ∀ j, j < 4 → upn f (i - nn / 64) (limN A i / 2 ^ (nn % 64)) j = shf A nn (i + 1) j :=
  shr_step h1 (shr_plain hA h1 h2 h).symm hf
theorem upn_upn {f : Nat → Nat} {j x y : Nat} : upn (upn f j x) j y = upn f j y := by
  funext i; unfold upn; split <;> rfl
theorem shr_stepB {A nn i : Nat} {f : Nat → Nat} (hA : A < 2 ^ 256) (h1 : nn / 64 ≤ i) (h2 : i < 4) (hr : 0 < nn % 64) (hf : ∀ j, j < 4 → f j = shf A nn i j) :
    ∀ j, j < 4 → upn (upn f (i - nn / 64) (limN A i / 2 ^ (nn % 64))) (i - nn / 64) (upn f (i - nn / 64) (limN A i / 2 ^ (nn % 64)) (i - nn / 64) ||| limN A (i + 1) * 2 ^ (64 - nn % 64) % 18446744073709551616) j = shf A nn (i + 1) j := by
  rw [upn_upn, upn_at]
  exact shr_step h1 (shr_or (k := 0) hA h1 h2 hr).symm hf
theorem shr_start {A nn : Nat} : ∀ j, j < 4 → (fun _ => 0) j = shf A nn (nn / 64) j := fun j _ => by unfold shf; rw [if_neg (by omega)]
theorem shr_fin {A nn i : Nat} {f : Nat → Nat} (hA : A < 2 ^ 256) (hi : 4 ≤ i) (hf : ∀ j, j < 4 → f j = shf A nn i j) : ∀ j, j < 4 → f j = limN (A / 2 ^ nn) j := by
  intro j hj
  rw [hf j hj]; unfold shf
  split
  · rfl
  · rw [limN_high hA (by omega)]
theorem shn {n : Int} {nn : Nat} (h : min (max n 0) 256 = (nn : Int)) : Value.int .i64 (min (max n 0) 256) = .int .i64 (nn : Int) := by rw [h]
/-- the bit of a shifted number -/
theorem rshr_bit {A nn i : Nat} : A / 2 ^ (i + nn) % 2 = A / 2 ^ nn / 2 ^ i % 2 := by rw [Nat.div_div_eq_div_mul, ← Nat.pow_add, Nat.add_comm]
theorem rshr_bit0 {A nn i : Nat} (hA : A < 2 ^ 256) (h : 256 ≤ i + nn) : A / 2 ^ nn / 2 ^ i % 2 = 0 := by
  rw [Nat.div_div_eq_div_mul, ← Nat.pow_add, Nat.div_eq_of_lt (Nat.lt_of_lt_of_le hA (Nat.pow_le_pow_right (by decide) (by omega)))]
theorem rshr_step {B k o b t : Nat} (hB : B < 2 ^ 256) (h1 : 1 ≤ k) (ho : B / 2 ^ k = o) (hb : B / 2 ^ (k - 1) % 2 = b) (ht : (2 * o + b) % 2 ^ 256 = t) : B / 2 ^ (k - 1) = t := by
  obtain ⟨i, rfl⟩ : ∃ i, k = i + 1 := ⟨k - 1, by omega⟩
  rw [Nat.add_sub_cancel] at *
  have e : B / 2 ^ i = 2 * o + b := by rw [← hb, ← ho, Nat.pow_succ, ← Nat.div_div_eq_div_mul]; omega
  rw [← ht, ← e, Nat.mod_eq_of_lt (Nat.lt_of_le_of_lt (Nat.div_le_self _ _) hB)]
theorem div_lt256 {A e : Nat} (h : A < 2 ^ 256) : A / 2 ^ e < 2 ^ 256 := Nat.lt_of_le_of_lt (Nat.div_le_self _ _) h
theorem h3_lim (a i : Nat) : limN a (i / 2) / 2 ^ (32 * (i % 2)) % 2 ^ 32 = h3 a i := by
  unfold limN h3 p3
  have e : a / 2 ^ (32 * i) = a / 2 ^ (64 * (i / 2)) / 2 ^ (32 * (i % 2)) := by rw [Nat.div_div_eq_div_mul, ← Nat.pow_add]; congr 2; omega
  rw [e]
  generalize a / 2 ^ (64 * (i / 2)) = x
  rcases Nat.mod_two_eq_zero_or_one i with h | h
  · rw [h]; simp
  · rw [h]; omega
theorem h3_step {a k : Nat} {f : Nat → Nat} (hf : ∀ j, j < k → f j = h3 a j) : ∀ j, j < k + 1 → upn f k (limN a (k / 2) / 2 ^ (32 * (k % 2)) % 2 ^ 32) j = h3 a j := by
  intro j hj
  unfold upn
  by_cases h : j = k
  · rw [if_pos h, h, h3_lim]
  · rw [if_neg h]; exact hf j (by omega)
end Go.Proofs.Ytmpejkhffbonnaa
