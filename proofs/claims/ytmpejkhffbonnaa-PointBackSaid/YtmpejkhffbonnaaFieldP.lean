/- The prime of the field; sums, products modulo it, by the ways the program takes. No program here. -/
import Derived.Test.YtmpejkhffbonnaaModP
import Derived.Test.YtmpejkhffbonnaaPowP
import Derived.Test.YtmpejkhffbonnaaShP
namespace Go.Proofs.Ytmpejkhffbonnaa
def Pf : Nat := 115792089237316195423570985008687907853269984665640564039457584007908834671663
def Pov : Nat := 4294968273
theorem Pf_lt : Pf < 2 ^ 256 := by decide
theorem Pf_big : 2 ^ 255 < Pf := by decide
theorem Pf_pos : 0 < Pf := by decide
theorem Pf_eq : Pf + Pov = 2 ^ 256 := by decide
theorem modP_lt (a : Nat) : a % Pf < 2 ^ 256 := Nat.lt_trans (Nat.mod_lt _ Pf_pos) Pf_lt
theorem gred_no {N a c : Nat} (hc : bor a N = c) (h : ¬ c = 0) : a = a % N := by
  unfold bor at hc
  split at hc
  · exact (Nat.mod_eq_of_lt (by assumption)).symm
  · omega
theorem gred_yes {N a c d : Nat} (h1 : 2 ^ 255 < N) (h2 : N < 2 ^ 256) (ha : a < 2 ^ 256) (hd : (a + 2 ^ 256 - N) % 2 ^ 256 = d) (hc : bor a N = c) (h : c = 0) : d = a % N := by
  unfold bor at hc
  split at hc
  · omega
  · rw [Nat.mod_eq_sub_mod (by omega), Nat.mod_eq_of_lt (a := a - N) (by omega), ← hd]
    rw [show a + 2 ^ 256 - N = (a - N) + 2 ^ 256 by omega, Nat.add_mod_right, Nat.mod_eq_of_lt (by omega)]
/-- what a carry stands for -/
theorem lift_no {a c : Nat} (h : c = 0) : (a + 2 ^ 256 * c) % Pf = a % Pf := by rw [h]; rfl
theorem lift_yes {a c s : Nat} (hc : c = 0 ∨ c = 1 ∧ a + Pov < 2 ^ 256) (h : ¬ c = 0) (hs : (a + Pov) % 2 ^ 256 = s) : (a + 2 ^ 256 * c) % Pf = s % Pf := by
  obtain ⟨h1, h2⟩ := hc.resolve_left h
  rw [h1, ← hs, Nat.mod_eq_of_lt h2, Nat.mul_one, ← Pf_eq, ← Nat.add_assoc, Nat.add_right_comm, Nat.add_mod_right]
theorem fadd_pre {a b s c : Nat} (hs : (a % Pf + b % Pf) % 2 ^ 256 = s) (hc : (a % Pf + b % Pf) / 2 ^ 256 = c) : c = 0 ∨ c = 1 ∧ s + Pov < 2 ^ 256 := by
  have h1 := Nat.mod_lt a Pf_pos
  have h2 := Nat.mod_lt b Pf_pos
  have h3 := Pf_eq
  have h4 := Pf_lt
  omega
theorem fadd_fin {a b s c : Nat} (hs : (a % Pf + b % Pf) % 2 ^ 256 = s) (hc : (a % Pf + b % Pf) / 2 ^ 256 = c) : (s + 2 ^ 256 * c) % Pf = (a + b) % Pf := by
  rw [← hs, ← hc, Nat.mod_add_div, ← Nat.add_mod]
/-- a difference -/
def fsub (a b : Nat) : Nat := (a % Pf + Pf - b % Pf) % Pf
theorem fsub_lt (a b : Nat) : fsub a b < 2 ^ 256 := modP_lt _
theorem fsub_no {a b z c : Nat} (hz : (a % Pf + 2 ^ 256 - b % Pf) % 2 ^ 256 = z) (hb : bor (a % Pf) (b % Pf) = c) (h : ¬ c = 1) : z = fsub a b :=
  less_mod (Nat.mod_lt _ Pf_pos) (Nat.mod_lt _ Pf_pos) Pf_lt hz hb h
theorem fsub_yes {a b z z2 c : Nat} (hz : (a % Pf + 2 ^ 256 - b % Pf) % 2 ^ 256 = z) (hb : bor (a % Pf) (b % Pf) = c) (h : c = 1) (hz2 : (z + Pf) % 2 ^ 256 = z2) : z2 = fsub a b :=
  less_mod2 (Nat.mod_lt _ Pf_pos) (Nat.mod_lt _ Pf_pos) Pf_lt hz hb h hz2
theorem bor01 {a b c : Nat} (h : bor a b = c) : c ≠ 0 ↔ c = 1 := by rw [← h]; unfold bor; split <;> simp
/-- a number times what 2^256 stands for, word by word -/
def scC (a k : Nat) : Nat := a % 2 ^ (64 * k) * Pov / 2 ^ (64 * k)
theorem scC_zero (a : Nat) : scC a 0 = 0 := by unfold scC; simp [Nat.mod_one]
theorem sc_val (a k : Nat) : a % 2 ^ (64 * (k + 1)) * Pov / 2 ^ (64 * k) = limN a k * Pov + scC a k := by
  unfold scC limN
  have hp := Nat.two_pow_pos (64 * k)
  rw [show 64 * (k + 1) = 64 * k + 64 by omega, Nat.pow_add, Nat.mod_mul]
  generalize 2 ^ (64 * k) = A at *
  rw [Nat.add_mul, Nat.mul_assoc, Nat.add_mul_div_left _ _ hp]
  omega
theorem scC_step {a k hi lo s c v : Nat} (hh : limN a k * Pov / 18446744073709551616 = hi) (hl : limN a k * Pov % 18446744073709551616 = lo) (hv : v = scC a k) (hs : (lo + v) % 18446744073709551616 = s) (hc : (lo + v) / 18446744073709551616 = c) : hi + c = scC a (k + 1) := by
  have e : scC a (k + 1) = (limN a k * Pov + v) / 2 ^ 64 := by
    rw [hv, ← sc_val]
    unfold scC
    rw [show 64 * (k + 1) = 64 * k + 64 by omega, Nat.pow_add, Nat.div_div_eq_div_mul]
  rw [e]; omega
theorem scC_dig {a k lo s v : Nat} (hl : limN a k * Pov % 18446744073709551616 = lo) (hv : v = scC a k) (hs : (lo + v) % 18446744073709551616 = s) : s = limN (a * Pov) k := by
  have e : a * Pov = a % 2 ^ (64 * (k + 1)) * Pov + 2 ^ (64 * k) * (2 ^ 64 * (a / 2 ^ (64 * (k + 1)) * Pov)) := by
    have := Nat.mod_add_div a (2 ^ (64 * (k + 1)))
    rw [← Nat.mul_assoc, ← Nat.pow_add, show 64 * k + 64 = 64 * (k + 1) by omega, ← Nat.mul_assoc, ← Nat.add_mul, this]
  have e2 : limN (a * Pov) k = (limN a k * Pov + v) % 2 ^ 64 := by
    rw [hv, ← sc_val]
    show a * Pov / 2 ^ (64 * k) % 2 ^ 64 = _
    rw [e, Nat.add_mul_div_left _ _ (Nat.two_pow_pos _), Nat.add_mul_mod_self_left]
  rw [e2]; omega
theorem scC_lt (a k : Nat) : scC a k < 4294968273 := by
  unfold scC
  rw [Nat.div_lt_iff_lt_mul (Nat.two_pow_pos _), Nat.mul_comm]
  exact Nat.mul_lt_mul_of_pos_left (Nat.mod_lt _ (Nat.two_pow_pos _)) (by decide)
theorem sc_f {a k s : Nat} {f : Nat → Nat} (hk : k < 4) (hs : s = limN (a * Pov) k) (hf : ∀ j, j < k → f j = limN (a * Pov) j) : ∀ j, j < k + 1 → upn f k s j = limN (a * Pov) j := by
  intro j hj
  unfold upn
  by_cases h : j = k
  · rw [if_pos h, h, hs]
  · rw [if_neg h]; exact hf j (by omega)
theorem scC_fin {a q : Nat} (ha : a < 2 ^ 256) (hq : a * Pov / 2 ^ 256 = q) : scC a 4 = q := by unfold scC; rw [Nat.mod_eq_of_lt (by simpa using ha), ← hq]
/-- the product, folded twice -/
theorem fold_top {h t : Nat} (hh : h < 2 ^ 256) (ht : h * Pov / 2 ^ 256 = t) : t < 4294968273 := by
  rw [← ht, Nat.div_lt_iff_lt_mul (Nat.two_pow_pos _), Nat.mul_comm]
  exact Nat.mul_lt_mul_of_pos_left hh (by decide)
theorem fmul_pre {lo f s c t r s2 c2 : Nat} (hlo : lo < 2 ^ 256) (hf : f < 2 ^ 256) (hc : (lo + f) / 2 ^ 256 = c) (ht : t < 4294968273) (hr : (t + c) * Pov % 2 ^ 256 = r) (hs : s < 2 ^ 256) (hs2 : (s + r) % 2 ^ 256 = s2) (hc2 : (s + r) / 2 ^ 256 = c2) : c2 = 0 ∨ c2 = 1 ∧ s2 + Pov < 2 ^ 256 := by
  have h1 : (t + c) * Pov ≤ 4294968274 * 4294968273 := Nat.mul_le_mul (by omega) (by decide)
  have h2 : Pov = 4294968273 := rfl
  omega
theorem fmul_fin {a b lo hi f t s c r s2 c2 : Nat} (hl : a * b % 2 ^ 256 = lo) (hh : a * b / 2 ^ 256 = hi) (llo : lo < 2 ^ 256) (lf : f < 2 ^ 256) (lt : t < 4294968273) (hf : hi * Pov % 2 ^ 256 = f) (ht : hi * Pov / 2 ^ 256 = t) (hs : (lo + f) % 2 ^ 256 = s) (hc : (lo + f) / 2 ^ 256 = c)
    (hr : (t + c) * Pov % 2 ^ 256 = r) (hs2 : (s + r) % 2 ^ 256 = s2) (hc2 : (s + r) / 2 ^ 256 = c2) : (s2 + 2 ^ 256 * c2) % Pf = a * b % Pf := by
  have h1 : (t + c) * Pov ≤ 4294968274 * 4294968273 := Nat.mul_le_mul (by omega) (by decide)
  rw [Nat.mod_eq_of_lt (a := (t + c) * Pov) (by omega)] at hr
  have k : ∀ x y : Nat, (x + 2 ^ 256 * y) % Pf = (x + y * Pov) % Pf := by
    intro x y
    rw [← Pf_eq, Nat.add_mul, ← Nat.add_assoc, Nat.add_right_comm, Nat.mul_comm Pov y, Nat.add_mul_mod_self_left]
  have e1 : s2 + 2 ^ 256 * c2 = s + r := by rw [← hs2, ← hc2, Nat.mod_add_div]
  have e2 : lo + hi * Pov = s + 2 ^ 256 * (t + c) := by
    have d1 := Nat.mod_add_div (hi * Pov) (2 ^ 256)
    have d2 := Nat.mod_add_div (lo + f) (2 ^ 256)
    rw [hf, ht] at d1
    rw [hs, hc] at d2
    rw [Nat.mul_add]
    omega
  rw [e1, ← hr, ← k, ← e2, ← k, ← hl, ← hh, Nat.mod_add_div]
/-- a root, if there is one -/
def frt (a : Nat) : Nat := a ^ ((Pf + 1) / 4) % Pf
def frB (a : Nat) : Bool := decide (frt a * frt a % Pf = a % Pf)
def frV (a : Nat) : Nat := if frt a * frt a % Pf = a % Pf then (if frt a % 2 = 1 then fsub 0 (frt a) else frt a) else 0
theorem frV_lt (a : Nat) : frV a < 2 ^ 256 := by
  unfold frV
  repeat' split
  · exact fsub_lt _ _
  · exact modP_lt _
  · decide
theorem frV_no {a r x y : Nat} (hr : frt a = r) (hx : r * r % Pf = x) (hy : a % Pf = y) (h : x ≠ y) : frV a = 0 ∧ frB a = false := by
  unfold frV frB
  rw [hr, hx, hy, if_neg h, decide_eq_false h]
  exact ⟨rfl, rfl⟩
theorem frV_odd {a r x y n : Nat} (hr : frt a = r) (hx : r * r % Pf = x) (hy : a % Pf = y) (h : ¬ x ≠ y) (ho : r % 2 = 1) (hn : fsub 0 r = n) : frV a = n ∧ frB a = true := by
  unfold frV frB
  have h := Classical.not_not.1 h
  rw [hr, hx, hy, if_pos h, if_pos ho, hn, decide_eq_true h]
  exact ⟨rfl, rfl⟩
theorem frV_even {a r x y : Nat} (hr : frt a = r) (hx : r * r % Pf = x) (hy : a % Pf = y) (h : ¬ x ≠ y) (ho : ¬ r % 2 = 1) : frV a = r ∧ frB a = true := by
  unfold frV frB
  have h := Classical.not_not.1 h
  rw [hr, hx, hy, if_pos h, if_neg ho, decide_eq_true h]
  exact ⟨rfl, rfl⟩
/-- powers from the highest bit on -/
theorem pow_hi {a n k o q b : Nat} (h1 : 1 ≤ k) (ho : a ^ (n / 2 ^ k) % Pf = o) (hq : o * o % Pf = q) (hb : n / 2 ^ (k - 1) % 2 = b) : a ^ (n / 2 ^ (k - 1)) % Pf = q * a ^ b % Pf := by
  obtain ⟨i, rfl⟩ : ∃ i, k = i + 1 := ⟨k - 1, by omega⟩
  rw [Nat.add_sub_cancel] at *
  have e : n / 2 ^ i = 2 * (n / 2 ^ (i + 1)) + b := by rw [← hb, Nat.pow_succ, ← Nat.div_div_eq_div_mul]; omega
  rw [e, Nat.pow_add, Nat.mul_comm 2, Nat.pow_mul, Nat.pow_two, Nat.mul_mod, Nat.mul_mod (a ^ _) (a ^ _), ho, hq, Nat.mul_mod_mod]
theorem pow_hi1 {a n k o q b r : Nat} (h1 : 1 ≤ k) (ho : a ^ (n / 2 ^ k) % Pf = o) (hq : o * o % Pf = q) (hb : n / 2 ^ (k - 1) % 2 = b) (hb1 : b = 1) (hr : q * a % Pf = r) : a ^ (n / 2 ^ (k - 1)) % Pf = r := by
  rw [pow_hi h1 ho hq hb, hb1, Nat.pow_one, hr]
theorem pow_hi0 {a n k o q b : Nat} (h1 : 1 ≤ k) (ho : a ^ (n / 2 ^ k) % Pf = o) (hq : o * o % Pf = q) (hb : n / 2 ^ (k - 1) % 2 = b) (hb1 : ¬ b = 1) : a ^ (n / 2 ^ (k - 1)) % Pf = q := by
  have : b = 0 := by omega
  rw [pow_hi h1 ho hq hb, this, Nat.pow_zero, Nat.mul_one, ← hq, Nat.mod_mod]
theorem pow_hi_start {a n : Nat} (hn : n < 2 ^ 256) : a ^ (n / 2 ^ 256) % Pf = 1 := by rw [Nat.div_eq_of_lt hn, Nat.pow_zero]; decide
/-- the reference's fold -/
theorem tw12_lt {t : Nat} (h : t < 1099511627776) : t * Pov < 2 ^ 256 := by unfold Pov; omega
theorem tw12_e1 (q r c u : Nat) (hq : q < 256) (hu : u < 9223372036854775808) (d2 : r < 4294967296) (hc : c = if (u + r * 4294967296) % 18446744073709551616 < u then 1 else 0) : (18446744073709551616 * q + (u + r * 4294967296)) / 18446744073709551616 % 18446744073709551616 = q + c := by
  rw [Nat.mul_add_div (by decide), hc]
  split <;> omega
theorem tw12_e2 (t c : Nat) (h : t < 1099511627776) (hc : c = if (t * 977 + t * 2 ^ 32 % 18446744073709551616) % 18446744073709551616 < t * 977 then 1 else 0) : t / 2 ^ 32 + c = t * 4294968273 / 18446744073709551616 % 18446744073709551616 := by
  obtain ⟨q, hq⟩ : ∃ q, t / 4294967296 = q := ⟨_, rfl⟩
  obtain ⟨r, hr⟩ : ∃ r, t % 4294967296 = r := ⟨_, rfl⟩
  have e : t * 4294968273 = 18446744073709551616 * q + (t * 977 + r * 4294967296) := by omega
  have d3 : t * 2 ^ 32 % 18446744073709551616 = r * 4294967296 := by omega
  rw [d3] at hc
  rw [e, tw12_e1 q r c (t * 977) (by omega) (by omega) (by omega) hc, ← hq]
theorem tw12_limbs {t c : Nat} (h : t < 1099511627776) (hc : c = if (t * 977 + t * 2 ^ 32 % 18446744073709551616) % 18446744073709551616 < t * 977 then 1 else 0) :
    [Value.int .u64 (((t * 977 + t * 2 ^ 32 % 18446744073709551616) % 18446744073709551616 : Nat) : Int), .int .u64 ((t / 2 ^ 32 + c : Nat) : Int), .int .u64 0, .int .u64 0] = Wl (t * Pov) := by
  unfold Wl lim
  have e0 : (t * 977 + t * 2 ^ 32 % 18446744073709551616) % 18446744073709551616 = t * Pov / 2 ^ (64 * 0) % 2 ^ 64 := by unfold Pov; omega
  have e1 : t / 2 ^ 32 + c = t * Pov / 2 ^ (64 * 1) % 2 ^ 64 := tw12_e2 t c h hc
  have e2 : 0 = t * Pov / 2 ^ (64 * 2) % 2 ^ 64 := by
    have hb : t * Pov < 2 ^ 128 := by unfold Pov; omega
    rw [Nat.div_eq_of_lt (Nat.lt_of_lt_of_le hb (Nat.pow_le_pow_right (by decide) (by decide)))]
  have e3 : 0 = t * Pov / 2 ^ (64 * 3) % 2 ^ 64 := by
    have hb : t * Pov < 2 ^ 128 := by unfold Pov; omega
    rw [Nat.div_eq_of_lt (Nat.lt_of_lt_of_le hb (Nat.pow_le_pow_right (by decide) (by decide)))]
  rw [← e0, ← e1, ← e2, ← e3]
  rfl
theorem fold_pmod {M E e0 : Nat} (hE : E = M % 2 ^ 256 + M / 2 ^ 256 * 4294968273) (he : E % 2 ^ 256 = e0) : (e0 + E / 2 ^ 256 * Pov) % Pf = M % Pf := by
  have k : ∀ x y : Nat, (x + 2 ^ 256 * y) % Pf = (x + y * Pov) % Pf := by
    intro x y
    rw [← Pf_eq, Nat.add_mul, ← Nat.add_assoc, Nat.add_right_comm, Nat.mul_comm Pov y, Nat.add_mul_mod_self_left]
  rw [← k, ← he, Nat.mod_add_div, hE]
  show (M % 2 ^ 256 + M / 2 ^ 256 * Pov) % Pf = _
  rw [← k, Nat.mod_add_div]
theorem fold_no {e0 x s c : Nat} (hs : (e0 + x) % 2 ^ 256 = s) (hc : (e0 + x) / 2 ^ 256 = c) (hx : x < 2 ^ 128) (he : e0 < 2 ^ 256) (h : ¬ c = 1) : s = e0 + x := by omega
theorem fold_yes {e0 x s c s2 : Nat} (hs : (e0 + x) % 2 ^ 256 = s) (hc : (e0 + x) / 2 ^ 256 = c) (hx : x < 2 ^ 128) (he : e0 < 2 ^ 256) (h : c = 1) (hs2 : (s + Pov) % 2 ^ 256 = s2) : s2 % Pf = (e0 + x) % Pf := by
  have e : s2 + Pf = e0 + x := by
    have := Pf_eq
    unfold Pov at *
    omega
  rw [← e, Nat.add_mod_right]
theorem tw12_lt128 {t : Nat} (h : t < 1099511627776) : t * Pov < 2 ^ 128 := by unfold Pov; omega
theorem rfadd_yes {a b s c t : Nat} (hs : (a % Pf + b % Pf) % 2 ^ 256 = s) (hc : (a % Pf + b % Pf) / 2 ^ 256 = c) (h : c = 1) (ht : (s + Pov) % 2 ^ 256 = t) : t % Pf = (a + b) % Pf := by
  have h1 := fadd_pre hs hc
  rw [← lift_yes h1 (by omega) ht, fadd_fin hs hc]
theorem rfadd_no {a b s c : Nat} (hs : (a % Pf + b % Pf) % 2 ^ 256 = s) (hc : (a % Pf + b % Pf) / 2 ^ 256 = c) (h : ¬ c = 1) : s % Pf = (a + b) % Pf := by
  have h1 := fadd_pre hs hc
  rw [← lift_no (a := s) (c := c) (by omega), fadd_fin hs hc]
end Go.Proofs.Ytmpejkhffbonnaa
