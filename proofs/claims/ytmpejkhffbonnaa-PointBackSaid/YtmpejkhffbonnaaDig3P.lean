/- Digits of 32 bits: products, and the fold. No program here. -/
import Derived.Test.YtmpejkhffbonnaaRef06P
namespace Go.Proofs.Ytmpejkhffbonnaa
/-- B^k, B = 2^32 -/
def p3 (k : Nat) : Nat := 2 ^ (32 * k)
theorem p3_pos (k : Nat) : 0 < p3 k := Nat.two_pow_pos _
theorem p3_succ (k : Nat) : p3 (k + 1) = p3 k * 4294967296 := by unfold p3; rw [show 32 * (k + 1) = 32 * k + 32 by omega, Nat.pow_add]
theorem p3_add (j k : Nat) : p3 (j + k) = p3 j * p3 k := by unfold p3; rw [← Nat.pow_add]; congr 1; omega
/-- a word -/
def h3 (n k : Nat) : Nat := n / p3 k % 4294967296
theorem h3_lt (n k : Nat) : h3 n k < 4294967296 := Nat.mod_lt _ (by decide)
theorem div_h3 (n k : Nat) : n / p3 k = h3 n k + 4294967296 * (n / p3 (k + 1)) := by
  unfold h3
  rw [p3_succ, ← Nat.div_div_eq_div_mul, Nat.add_comm]
  exact (Nat.div_add_mod _ _).symm
theorem h3_add_mul (n m j k : Nat) (h : j < k) : h3 (n + m * p3 k) j = h3 n j := by
  unfold h3
  obtain ⟨d, rfl⟩ : ∃ d, k = j + 1 + d := ⟨k - (j + 1), by omega⟩
  have e : m * p3 (j + 1 + d) = p3 j * (4294967296 * (m * p3 d)) := by
    rw [p3_add, p3_succ]; grind
  rw [e, Nat.add_mul_div_left _ _ (p3_pos j), Nat.add_mul_mod_self_left]

/-- the inner loop's state -/
def In3 (V x b i k carry : Nat) : Prop :=
  (V + x * p3 i * (b % p3 k)) / p3 (i + k) = V / p3 (i + k) + carry ∧ carry < 4294967296
def T3 (V x b i k : Nat) : Nat := V + x * p3 i * (b % p3 k)

theorem T3_succ (V x b i k : Nat) : T3 V x b i (k + 1) = T3 V x b i k + (x * h3 b k) * p3 (i + k) := by
  unfold T3 h3
  have : b % p3 (k + 1) = b % p3 k + p3 k * (b / p3 k % 4294967296) := by rw [p3_succ]; exact Nat.mod_mul
  rw [this, p3_add]
  grind
theorem in3_zero (V x b i : Nat) : In3 V x b i 0 0 := by
  unfold In3
  have : b % p3 0 = 0 := by unfold p3; simp [Nat.mod_one]
  rw [this]; simp
theorem in3_step (V x b i k carry : Nat) (hx : x < 4294967296) (h : In3 V x b i k carry) :
    In3 V x b i (k + 1) ((x * h3 b k + h3 V (i + k) + carry) / 4294967296) ∧ h3 (T3 V x b i (k + 1)) (i + k) = (x * h3 b k + h3 V (i + k) + carry) % 4294967296 := by
  obtain ⟨h1, h2⟩ := h
  have hy := h3_lt b k
  have hv := h3_lt V (i + k)
  have e1 : T3 V x b i (k + 1) / p3 (i + k) = (x * h3 b k + h3 V (i + k) + carry) + 4294967296 * (V / p3 (i + k + 1)) := by
    rw [T3_succ, Nat.add_mul_div_right _ _ (p3_pos _)]
    unfold T3
    rw [h1, div_h3 V (i + k)]
    omega
  refine ⟨⟨?_, ?_⟩, ?_⟩
  · show T3 V x b i (k + 1) / p3 (i + (k + 1)) = _
    have : i + (k + 1) = (i + k) + 1 := by omega
    rw [this, p3_succ, ← Nat.div_div_eq_div_mul, e1, Nat.add_mul_div_left _ _ (by decide), ← p3_succ]
    omega
  · have h3 : x * h3 b k ≤ 4294967295 * 4294967295 := Nat.mul_le_mul (by omega) (by omega)
    rw [Nat.div_lt_iff_lt_mul (by decide)]
    omega
  · show T3 V x b i (k + 1) / p3 (i + k) % 4294967296 = _
    rw [e1, Nat.add_mul_mod_self_left]

def mix3 (V x b i k : Nat) : Nat → Nat := fun j => if j < i + k then h3 (T3 V x b i k) j else h3 V j
theorem mix3_step (V x b i k c S : Nat) (hx : x < 4294967296) (h : In3 V x b i k c) (hS : (x * h3 b k + h3 V (i + k) + c) % 4294967296 = S) :
    ∀ j, upn (mix3 V x b i k) (i + k) S j = mix3 V x b i (k + 1) j := by
  intro j
  have hs := (in3_step V x b i k c hx h).2
  unfold upn mix3
  by_cases hj : j = i + k
  · rw [if_pos hj, if_pos (by omega), hj, hs, hS]
  · rw [if_neg hj]
    by_cases hj2 : j < i + k
    · rw [if_pos hj2, if_pos (by omega), T3_succ, h3_add_mul _ _ _ _ hj2]
    · rw [if_neg hj2, if_neg (by omega)]
def V3 (a b i : Nat) : Nat := a % p3 i * b
theorem T3_full (a b i : Nat) (hb : b < p3 8) : T3 (V3 a b i) (h3 a i) b i 8 = V3 a b (i + 1) := by
  unfold T3 V3
  have h4 : b % p3 8 = b := Nat.mod_eq_of_lt hb
  have : a % p3 (i + 1) = a % p3 i + p3 i * (a / p3 i % 4294967296) := by rw [p3_succ]; exact Nat.mod_mul
  rw [h4, this]
  unfold h3
  grind
theorem V3_lt (a b i : Nat) (hb : b < p3 8) : V3 a b i < p3 (i + 8) := by
  unfold V3
  rw [p3_add]
  exact Nat.mul_lt_mul_of_lt_of_le (Nat.mod_lt _ (p3_pos i)) (Nat.le_of_lt hb) (Nat.zero_lt_of_lt hb)
/-- the carry that is left is the next digit -/
theorem in3_last (a b i c : Nat) (hb : b < p3 8) (h : In3 (V3 a b i) (h3 a i) b i 8 c) : ∀ j, upn (mix3 (V3 a b i) (h3 a i) b i 8) (i + 8) c j = h3 (V3 a b (i + 1)) j := by
  intro j
  obtain ⟨h1, h2⟩ := h
  have e : T3 (V3 a b i) (h3 a i) b i 8 = V3 a b (i + 1) := T3_full a b i hb
  have z : V3 a b i / p3 (i + 8) = 0 := Nat.div_eq_of_lt (V3_lt a b i hb)
  have e1 : V3 a b (i + 1) / p3 (i + 8) = c := by
    rw [← e]; show (V3 a b i + h3 a i * p3 i * (b % p3 8)) / p3 (i + 8) = c
    rw [h1, z, Nat.zero_add]
  unfold upn mix3
  by_cases hj : j = i + 8
  · rw [if_pos hj, hj]; unfold h3; rw [e1, Nat.mod_eq_of_lt h2]
  · rw [if_neg hj, e]
    by_cases hj2 : j < i + 8
    · rw [if_pos hj2]
    · rw [if_neg hj2]
      obtain ⟨d, rfl⟩ : ∃ d, j = i + 8 + 1 + d := ⟨j - (i + 9), by omega⟩
      have z1 : V3 a b i / p3 (i + 8 + 1 + d) = 0 := Nat.div_eq_of_lt (Nat.lt_of_lt_of_le (V3_lt a b i hb) (by unfold p3; exact Nat.pow_le_pow_right (by omega) (by omega)))
      have z2 : V3 a b (i + 1) / p3 (i + 8 + 1 + d) = 0 := Nat.div_eq_of_lt (Nat.lt_of_lt_of_le (V3_lt a b (i + 1) hb) (by unfold p3; exact Nat.pow_le_pow_right (by omega) (by omega)))
      unfold h3
      rw [z1, z2]
theorem V3_zero (a b : Nat) : V3 a b 0 = 0 := by unfold V3 p3; simp [Nat.mod_one]
theorem V3_all (a b : Nat) (ha : a < p3 8) : V3 a b 8 = a * b := by unfold V3; rw [Nat.mod_eq_of_lt ha]
theorem h3_zero (j : Nat) : h3 0 j = 0 := by unfold h3; simp
theorem p3_8 : p3 8 = 2 ^ 256 := rfl

/-- products -/
theorem mul_lt32 {x y : Nat} (hx : x < 4294967296) (hy : y < 4294967296) : x * y ≤ 18446744065119617025 := by
  have := Nat.mul_le_mul (show x ≤ 4294967295 by omega) (show y ≤ 4294967295 by omega)
  omega
theorem mix3_at {V x b i k : Nat} : mix3 V x b i k (i + k) = h3 V (i + k) := by unfold mix3; rw [if_neg (by omega)]
theorem prd3_c {V x b i k c : Nat} {f : Nat → Nat} (hx : x < 4294967296) (hf : f (i + k) = h3 V (i + k)) (h : In3 V x b i k c) : In3 V x b i (k + 1) ((c + f (i + k) + x * h3 b k) / 4294967296) := by
  rw [hf, show c + h3 V (i + k) + x * h3 b k = x * h3 b k + h3 V (i + k) + c by omega]
  exact (in3_step V x b i k c hx h).1
theorem prd3_f {V x b i k c : Nat} {f : Nat → Nat} (hx : x < 4294967296) (hi : i + k < 16) (h : In3 V x b i k c) (hf : ∀ j, j < 16 → f j = mix3 V x b i k j) :
    ∀ j, j < 16 → upn f (i + k) ((c + f (i + k) + x * h3 b k) % 4294967296) j = mix3 V x b i (k + 1) j := by
  intro j hj
  have h1 := hf _ hi
  rw [mix3_at] at h1
  rw [← mix3_step V x b i k c ((c + f (i + k) + x * h3 b k) % 4294967296) hx h (by rw [h1]; exact congrArg (· % 4294967296) (by omega))]
  unfold upn
  split
  · rfl
  · exact hf j hj
theorem prd3_f0 {a b i : Nat} {f : Nat → Nat} (hf : ∀ j, j < 16 → f j = h3 (V3 a b i) j) : ∀ j, j < 16 → f j = mix3 (V3 a b i) (h3 a i) b i 0 j := by
  intro j hj
  rw [hf j hj]
  unfold mix3 T3
  have : b % p3 0 = 0 := by unfold p3; simp [Nat.mod_one]
  rw [this]; simp
theorem prd3_last {a b i c : Nat} {f : Nat → Nat} (hb : b < 2 ^ 256) (h : In3 (V3 a b i) (h3 a i) b i 8 c) (hf : ∀ j, j < 16 → f j = mix3 (V3 a b i) (h3 a i) b i 8 j) :
    ∀ j, j < 16 → upn f (i + 8) c j = h3 (V3 a b (i + 1)) j := by
  intro j hj
  rw [← in3_last a b i c hb h]
  unfold upn
  split
  · rfl
  · exact hf j hj
theorem prd3_0 {a b : Nat} : ∀ j, j < 16 → (fun _ => 0) j = h3 (V3 a b 0) j := fun j _ => by rw [V3_zero, h3_zero]
theorem prd3_fin {a b : Nat} {f : Nat → Nat} (ha : a < 2 ^ 256) (hf : ∀ j, j < 16 → f j = h3 (V3 a b 8) j) : ∀ j, j < 16 → f j = h3 (a * b) j := fun j hj => by rw [hf j hj, V3_all a b ha]
theorem prd3_lt {a b : Nat} (ha : a < 2 ^ 256) (hb : b < 2 ^ 256) : a * b < p3 16 := by
  rw [show (16 : Nat) = 8 + 8 from rfl, p3_add]
  exact Nat.mul_lt_mul'' ha hb

theorem prd3_c' {V x b i k c : Nat} {f : Nat → Nat} (hx : x < 4294967296) (hf : f (i + k) = h3 V (i + k)) (h : In3 V x b i k c) : In3 V x b i (k + 1) ((c + f (i + k) + x * h3 b k) / 2 ^ 32) := prd3_c hx hf h
theorem prd3_f' {V x b i k c : Nat} {f : Nat → Nat} (hx : x < 4294967296) (hi : i + k < 16) (h : In3 V x b i k c) (hf : ∀ j, j < 16 → f j = mix3 V x b i k j) :
    ∀ j, j < 16 → upn f (i + k) ((c + f (i + k) + x * h3 b k) % 2 ^ 32) j = mix3 V x b i (k + 1) j := prd3_f hx hi h hf
theorem h3_high (M n j : Nat) (h : M < p3 n) (hj : n ≤ j) : h3 M j = 0 := by
  unfold h3
  rw [Nat.div_eq_of_lt (Nat.lt_of_lt_of_le h (by unfold p3; exact Nat.pow_le_pow_right (by omega) (by omega)))]
theorem mod_p3 (x i : Nat) : x % p3 (i + 1) = x % p3 i + p3 i * h3 x i := by rw [p3_succ]; exact Nat.mod_mul
/-- the fold: lo and hi times 2^32 and 977, digit by digit -/
def fT (M i : Nat) : Nat := M % 2 ^ 256 % p3 i + M / 2 ^ 256 % p3 i * 977 + (if i = 0 then 0 else M / 2 ^ 256 % p3 (i - 1) * 4294967296)
def tI (M i : Nat) : Nat := (if i < 8 then h3 M i + h3 M (8 + i) * 977 else 0) + (if 1 ≤ i ∧ i < 9 then h3 M (7 + i) else 0)
theorem h3_lo {M i : Nat} (h : i < 8) : h3 (M % 2 ^ 256) i = h3 M i := by
  unfold h3
  rw [show (2 : Nat) ^ 256 = p3 8 from rfl, show 8 = i + 1 + (7 - i) by omega, p3_add, p3_succ, Nat.mul_assoc, Nat.mod_mul_right_div_self, Nat.mod_mul_right_mod]
theorem h3_hi (M i : Nat) : h3 (M / 2 ^ 256) i = h3 M (8 + i) := by
  unfold h3
  rw [show (2 : Nat) ^ 256 = p3 8 from rfl, Nat.div_div_eq_div_mul, ← p3_add]
theorem fT_step {M i : Nat} (hM : M / 2 ^ 256 < 2 ^ 256) : fT M (i + 1) = fT M i + tI M i * p3 i := by
  have hl : M % 2 ^ 256 < p3 8 := Nat.mod_lt _ (Nat.two_pow_pos 256)
  have hh : M / 2 ^ 256 < p3 8 := by
    show M / 2 ^ 256 < 2 ^ 256
    omega
  have e1 : h3 (M % 2 ^ 256) i = if i < 8 then h3 M i else 0 := by
    split
    · exact h3_lo (by assumption)
    · exact h3_high _ 8 _ hl (by omega)
  have e2 : h3 (M / 2 ^ 256) i = if i < 8 then h3 M (8 + i) else 0 := by
    split
    · exact h3_hi M i
    · exact h3_high _ 8 _ hh (by omega)
  have e3 : (if i + 1 = 0 then 0 else M / 2 ^ 256 % p3 (i + 1 - 1) * 4294967296) = (if i = 0 then 0 else M / 2 ^ 256 % p3 (i - 1) * 4294967296) + (if 1 ≤ i ∧ i < 9 then h3 M (7 + i) else 0) * p3 i := by
    rw [if_neg (by omega), Nat.add_sub_cancel]
    cases i with
    | zero => simp [p3, Nat.mod_one]
    | succ i =>
      rw [if_neg (by omega), Nat.add_sub_cancel, mod_p3, p3_succ]
      have e4 : h3 (M / 2 ^ 256) i = if 1 ≤ i + 1 ∧ i + 1 < 9 then h3 M (7 + (i + 1)) else 0 := by
        split
        · rw [h3_hi]; congr 1; omega
        · exact h3_high _ 8 _ hh (by omega)
      rw [e4]
      grind
  unfold fT tI
  rw [e3, mod_p3, mod_p3, e1, e2]
  split <;> grind
theorem fT_zero (M : Nat) : fT M 0 = 0 := by unfold fT p3; simp [Nat.mod_one]
theorem fT_lt {M i : Nat} : fT M i / p3 i < 979 := by
  rw [Nat.div_lt_iff_lt_mul (p3_pos i)]
  have h1 := Nat.mod_lt (M % 2 ^ 256) (p3_pos i)
  have h2 := Nat.mod_lt (M / 2 ^ 256) (p3_pos i)
  have h3 : (if i = 0 then 0 else M / 2 ^ 256 % p3 (i - 1) * 4294967296) < p3 i := by
    split
    · exact p3_pos i
    · have := Nat.mod_lt (M / 2 ^ 256) (p3_pos (i - 1))
      have e : p3 i = p3 (i - 1) * 4294967296 := by rw [← p3_succ]; congr 1; omega
      omega
  unfold fT
  omega
theorem fold_c {M i c S : Nat} (hM : M / 2 ^ 256 < 2 ^ 256) (hc : c = fT M i / p3 i) (hS : S = c + tI M i) : S / 2 ^ 32 = fT M (i + 1) / p3 (i + 1) := by
  rw [fT_step hM, p3_succ, ← Nat.div_div_eq_div_mul, Nat.add_mul_div_right _ _ (p3_pos i), ← hc, ← hS]
theorem fold_f {M i c S : Nat} {f : Nat → Nat} (hM : M / 2 ^ 256 < 2 ^ 256) (hc : c = fT M i / p3 i) (hS : S = c + tI M i) (hf : ∀ j, j < i → f j = h3 (fT M i) j) : ∀ j, j < i + 1 → upn f i (S % 2 ^ 32) j = h3 (fT M (i + 1)) j := by
  intro j hj
  unfold upn
  by_cases h : j = i
  · rw [if_pos h, h]
    show _ = fT M (i + 1) / p3 i % 4294967296
    rw [fT_step hM, Nat.add_mul_div_right _ _ (p3_pos i), ← hc, ← hS]
  · rw [if_neg h, hf j (by omega), fT_step hM, h3_add_mul _ _ _ _ (by omega)]
theorem fT_ten {M E : Nat} (hM : M / 2 ^ 256 < 2 ^ 256) (hE : fT M 10 = E) : E = M % 2 ^ 256 + M / 2 ^ 256 * 4294968273 ∧ E / 2 ^ 256 < 1099511627776 := by
  have hl : M % 2 ^ 256 < 2 ^ 256 := Nat.mod_lt _ (Nat.two_pow_pos 256)
  have hh : M / 2 ^ 256 < 2 ^ 256 := by omega
  have e : E = M % 2 ^ 256 + M / 2 ^ 256 * 977 + M / 2 ^ 256 * 4294967296 := by
    have m9 : p3 8 ≤ p3 9 := by rw [show 9 = 8 + 1 from rfl, p3_add]; exact Nat.le_mul_of_pos_right _ (p3_pos 1)
    have m10 : p3 8 ≤ p3 10 := by rw [show 10 = 8 + 2 from rfl, p3_add]; exact Nat.le_mul_of_pos_right _ (p3_pos 2)
    have hl' : M % 2 ^ 256 < p3 8 := hl
    have hh' : M / 2 ^ 256 < p3 8 := hh
    rw [← hE]
    unfold fT
    rw [if_neg (by decide), Nat.mod_eq_of_lt (a := M % 2 ^ 256) (Nat.lt_of_lt_of_le hl' m10), Nat.mod_eq_of_lt (a := M / 2 ^ 256) (b := p3 10) (Nat.lt_of_lt_of_le hh' m10), Nat.mod_eq_of_lt (a := M / 2 ^ 256) (b := p3 (10 - 1)) (Nat.lt_of_lt_of_le hh' (show p3 8 ≤ p3 (10 - 1) from m9))]
  omega
theorem top_val {E : Nat} (h : E / 2 ^ 256 < 1099511627776) : h3 E 8 + h3 E 9 * 2 ^ 32 % 18446744073709551616 = E / 2 ^ 256 := by
  unfold h3 p3; omega
theorem lim_h3 (E i : Nat) : h3 E (2 * i) + h3 E (2 * i + 1) * 2 ^ 32 % 18446744073709551616 = limN E i := by
  have h1 : p3 (2 * i) = 2 ^ (64 * i) := by unfold p3; congr 1; omega
  have h2 : p3 (2 * i + 1) = 2 ^ (64 * i) * 4294967296 := by rw [p3_succ, h1]
  unfold h3 limN
  rw [h1, h2, ← Nat.div_div_eq_div_mul]
  generalize E / 2 ^ (64 * i) = x
  omega
theorem lim_f {E i : Nat} {f : Nat → Nat} (hf : ∀ j, j < i → f j = limN E j) : ∀ j, j < i + 1 → upn f i (h3 E (2 * i) + h3 E (2 * i + 1) * 2 ^ 32 % 18446744073709551616) j = limN E j := by
  intro j hj
  unfold upn
  by_cases h : j = i
  · rw [if_pos h, h, lim_h3]
  · rw [if_neg h]; exact hf j (by omega)
end Go.Proofs.Ytmpejkhffbonnaa
