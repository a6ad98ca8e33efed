/- Digits of 16 bits: sums, differences, products digit by digit. No program here. -/
import Derived.Test.YtmpejkhffbonnaaRefP
namespace Go.Proofs.Ytmpejkhffbonnaa

/-- B^k, B = 2^16 -/
def p6 (k : Nat) : Nat := 2 ^ (16 * k)
theorem p6_pos (k : Nat) : 0 < p6 k := Nat.two_pow_pos _
theorem p6_succ (k : Nat) : p6 (k + 1) = p6 k * 65536 := by unfold p6; rw [show 16 * (k + 1) = 16 * k + 16 by omega, Nat.pow_add]
theorem p6_add (j k : Nat) : p6 (j + k) = p6 j * p6 k := by unfold p6; rw [← Nat.pow_add]; congr 1; omega
/-- a word -/
def dg (n k : Nat) : Nat := n / p6 k % 65536
theorem dg_lt (n k : Nat) : dg n k < 65536 := Nat.mod_lt _ (by decide)
theorem div_dig (n k : Nat) : n / p6 k = dg n k + 65536 * (n / p6 (k + 1)) := by
  unfold dg
  rw [p6_succ, ← Nat.div_div_eq_div_mul, Nat.add_comm]
  exact (Nat.div_add_mod _ _).symm
theorem dg_add_mul (n m j k : Nat) (h : j < k) : dg (n + m * p6 k) j = dg n j := by
  unfold dg
  obtain ⟨d, rfl⟩ : ∃ d, k = j + 1 + d := ⟨k - (j + 1), by omega⟩
  have e : m * p6 (j + 1 + d) = p6 j * (65536 * (m * p6 d)) := by
    rw [p6_add, p6_succ]; grind
  rw [e, Nat.add_mul_div_left _ _ (p6_pos j), Nat.add_mul_mod_self_left]

/-- the inner loop's state -/
def Ind (V x b i k carry : Nat) : Prop :=
  (V + x * p6 i * (b % p6 k)) / p6 (i + k) = V / p6 (i + k) + carry ∧ carry < 65536
def TD (V x b i k : Nat) : Nat := V + x * p6 i * (b % p6 k)

theorem TD_succ (V x b i k : Nat) : TD V x b i (k + 1) = TD V x b i k + (x * dg b k) * p6 (i + k) := by
  unfold TD dg
  have : b % p6 (k + 1) = b % p6 k + p6 k * (b / p6 k % 65536) := by rw [p6_succ]; exact Nat.mod_mul
  rw [this, p6_add]
  grind
theorem ind_zero (V x b i : Nat) : Ind V x b i 0 0 := by
  unfold Ind
  have : b % p6 0 = 0 := by unfold p6; simp [Nat.mod_one]
  rw [this]; simp
theorem ind_step (V x b i k carry : Nat) (hx : x < 65536) (h : Ind V x b i k carry) :
    Ind V x b i (k + 1) ((x * dg b k + dg V (i + k) + carry) / 65536) ∧ dg (TD V x b i (k + 1)) (i + k) = (x * dg b k + dg V (i + k) + carry) % 65536 := by
  obtain ⟨h1, h2⟩ := h
  have hy := dg_lt b k
  have hv := dg_lt V (i + k)
  have e1 : TD V x b i (k + 1) / p6 (i + k) = (x * dg b k + dg V (i + k) + carry) + 65536 * (V / p6 (i + k + 1)) := by
    rw [TD_succ, Nat.add_mul_div_right _ _ (p6_pos _)]
    unfold TD
    rw [h1, div_dig V (i + k)]
    omega
  refine ⟨⟨?_, ?_⟩, ?_⟩
  · show TD V x b i (k + 1) / p6 (i + (k + 1)) = _
    have : i + (k + 1) = (i + k) + 1 := by omega
    rw [this, p6_succ, ← Nat.div_div_eq_div_mul, e1, Nat.add_mul_div_left _ _ (by decide), ← p6_succ]
    omega
  · have h3 : x * dg b k ≤ 65535 * 65535 := Nat.mul_le_mul (by omega) (by omega)
    rw [Nat.div_lt_iff_lt_mul (by decide)]
    omega
  · show TD V x b i (k + 1) / p6 (i + k) % 65536 = _
    rw [e1, Nat.add_mul_mod_self_left]

def mixd (V x b i k : Nat) : Nat → Nat := fun j => if j < i + k then dg (TD V x b i k) j else dg V j
theorem mixd_step (V x b i k c S : Nat) (hx : x < 65536) (h : Ind V x b i k c) (hS : (x * dg b k + dg V (i + k) + c) % 65536 = S) :
    ∀ j, upn (mixd V x b i k) (i + k) S j = mixd V x b i (k + 1) j := by
  intro j
  have hs := (ind_step V x b i k c hx h).2
  unfold upn mixd
  by_cases hj : j = i + k
  · rw [if_pos hj, if_pos (by omega), hj, hs, hS]
  · rw [if_neg hj]
    by_cases hj2 : j < i + k
    · rw [if_pos hj2, if_pos (by omega), TD_succ, dg_add_mul _ _ _ _ hj2]
    · rw [if_neg hj2, if_neg (by omega)]
def VD (a b i : Nat) : Nat := a % p6 i * b
theorem TD_full (a b i : Nat) (hb : b < p6 16) : TD (VD a b i) (dg a i) b i 16 = VD a b (i + 1) := by
  unfold TD VD
  have h4 : b % p6 16 = b := Nat.mod_eq_of_lt hb
  have : a % p6 (i + 1) = a % p6 i + p6 i * (a / p6 i % 65536) := by rw [p6_succ]; exact Nat.mod_mul
  rw [h4, this]
  unfold dg
  grind
theorem VD_lt (a b i : Nat) (hb : b < p6 16) : VD a b i < p6 (i + 16) := by
  unfold VD
  rw [p6_add]
  exact Nat.mul_lt_mul_of_lt_of_le (Nat.mod_lt _ (p6_pos i)) (Nat.le_of_lt hb) (Nat.zero_lt_of_lt hb)
/-- the carry that is left is the next digit -/
theorem ind_last (a b i c : Nat) (hb : b < p6 16) (h : Ind (VD a b i) (dg a i) b i 16 c) : ∀ j, upn (mixd (VD a b i) (dg a i) b i 16) (i + 16) c j = dg (VD a b (i + 1)) j := by
  intro j
  obtain ⟨h1, h2⟩ := h
  have e : TD (VD a b i) (dg a i) b i 16 = VD a b (i + 1) := TD_full a b i hb
  have z : VD a b i / p6 (i + 16) = 0 := Nat.div_eq_of_lt (VD_lt a b i hb)
  have e1 : VD a b (i + 1) / p6 (i + 16) = c := by
    rw [← e]; show (VD a b i + dg a i * p6 i * (b % p6 16)) / p6 (i + 16) = c
    rw [h1, z, Nat.zero_add]
  unfold upn mixd
  by_cases hj : j = i + 16
  · rw [if_pos hj, hj]; unfold dg; rw [e1, Nat.mod_eq_of_lt h2]
  · rw [if_neg hj, e]
    by_cases hj2 : j < i + 16
    · rw [if_pos hj2]
    · rw [if_neg hj2]
      obtain ⟨d, rfl⟩ : ∃ d, j = i + 16 + 1 + d := ⟨j - (i + 17), by omega⟩
      have z1 : VD a b i / p6 (i + 16 + 1 + d) = 0 := Nat.div_eq_of_lt (Nat.lt_of_lt_of_le (VD_lt a b i hb) (by unfold p6; exact Nat.pow_le_pow_right (by omega) (by omega)))
      have z2 : VD a b (i + 1) / p6 (i + 16 + 1 + d) = 0 := Nat.div_eq_of_lt (Nat.lt_of_lt_of_le (VD_lt a b (i + 1) hb) (by unfold p6; exact Nat.pow_le_pow_right (by omega) (by omega)))
      unfold dg
      rw [z1, z2]
theorem VD_zero (a b : Nat) : VD a b 0 = 0 := by unfold VD p6; simp [Nat.mod_one]
theorem VD_all (a b : Nat) (ha : a < p6 16) : VD a b 16 = a * b := by unfold VD; rw [Nat.mod_eq_of_lt ha]
theorem dg_zero (j : Nat) : dg 0 j = 0 := by unfold dg; simp
theorem p6_16 : p6 16 = 2 ^ 256 := rfl

/-- sums and differences -/
def cyd (a b k : Nat) : Nat := (a % p6 k + b % p6 k) / p6 k
theorem cyd_le (a b k : Nat) : cyd a b k ≤ 1 := by
  unfold cyd
  have h := p6_pos k
  have h1 := Nat.mod_lt a h
  have h2 := Nat.mod_lt b h
  rw [Nat.div_le_iff_le_mul h]
  omega
theorem cyd_zero (a b : Nat) : cyd a b 0 = 0 := by unfold cyd p6; simp [Nat.mod_one]
theorem cyd_step (a b k : Nat) : (dg a k + dg b k + cyd a b k) % 65536 = dg (a + b) k ∧ (dg a k + dg b k + cyd a b k) / 65536 = cyd a b (k + 1) := by
  have hp := p6_pos k
  unfold cyd dg
  rw [p6_succ]
  generalize p6 k = A at *
  generalize hB : 65536 = B at *
  have hsum : (a + b) / A = (a % A + b % A) / A + a / A + b / A := by
    have h1 := split_div a A hp
    have h2 := split_div b A hp
    have : a + b = (a % A + b % A) + A * (a / A + b / A) := by
      rw [Nat.mul_add, Nat.mul_comm A, Nat.mul_comm A]; omega
    rw [this, Nat.add_mul_div_left _ _ hp]; omega
  constructor
  · rw [hsum]
    generalize (a % A + b % A) / A = c
    generalize a / A = x
    generalize b / A = y
    have h1 : (x % B + y % B + c) % B = (x + y + c) % B := by simp only [Nat.add_mod, Nat.mod_mod]
    rw [h1]
    exact congrArg (· % B) (by omega)
  · have m1 : a % (A * B) = a % A + A * (a / A % B) := Nat.mod_mul
    have m2 : b % (A * B) = b % A + A * (b / A % B) := Nat.mod_mul
    have h3 : a % A + A * (a / A % B) + (b % A + A * (b / A % B)) = (a % A + b % A) + A * (a / A % B + b / A % B) := by rw [Nat.mul_add]; omega
    rw [m1, m2, ← Nat.div_div_eq_div_mul, h3, Nat.add_mul_div_left _ _ hp]
    generalize (a % A + b % A) / A = c
    generalize a / A % B = x
    generalize b / A % B = y
    exact congrArg (· / B) (by omega)
def mixs (s a k : Nat) : Nat → Nat := fun j => if j < k then dg s j else dg a j
theorem mixs_step (s a k S : Nat) (h : S = dg s k) : ∀ j, upn (mixs s a k) k S j = mixs s a (k + 1) j := by
  intro j
  unfold upn mixs
  by_cases hj : j = k
  · rw [if_pos hj, if_pos (by omega), hj, h]
  · rw [if_neg hj]
    by_cases hj2 : j < k
    · rw [if_pos hj2, if_pos (by omega)]
    · rw [if_neg hj2, if_neg (by omega)]
theorem mixs_zero (s a : Nat) : ∀ j, mixs s a 0 j = dg a j := fun j => by unfold mixs; rw [if_neg (by omega)]
/-- the difference modulo 2^256, digit by digit: a - b is a + (the other end - b) -/
def bwd (a b k : Nat) : Nat := if a % p6 k < b % p6 k then 1 else 0
theorem bwd_le (a b k : Nat) : bwd a b k ≤ 1 := by unfold bwd; split <;> omega
theorem bwd_zero (a b : Nat) : bwd a b 0 = 0 := by unfold bwd p6; simp [Nat.mod_one]
theorem bwd_step2 (a b k : Nat) : (if dg a k < dg b k + bwd a b k then 1 else 0) = bwd a b (k + 1) := by
  have hp := p6_pos k
  unfold bwd dg
  rw [p6_succ]
  generalize p6 k = A at *
  generalize hB : 65536 = B at *
  have m1 : a % (A * B) = a % A + A * (a / A % B) := Nat.mod_mul
  have m2 : b % (A * B) = b % A + A * (b / A % B) := Nat.mod_mul
  rw [m1, m2]
  have h1 := Nat.mod_lt a hp
  have h2 := Nat.mod_lt b hp
  generalize a % A = ar at *
  generalize b % A = br at *
  generalize a / A % B = x
  generalize b / A % B = y
  rcases Nat.lt_trichotomy x y with h | h | h
  · have h3 : A * (x + 1) ≤ A * y := Nat.mul_le_mul_left A h
    rw [Nat.mul_add] at h3
    rw [if_pos (by omega), if_pos (by omega)]
  · subst h
    by_cases hb : ar < br
    · rw [if_pos hb, if_pos (by omega), if_pos (by omega)]
    · rw [if_neg hb, if_neg (by omega), if_neg (by omega)]
  · have h3 : A * (y + 1) ≤ A * x := Nat.mul_le_mul_left A h
    rw [Nat.mul_add] at h3
    rw [if_neg (by split <;> omega), if_neg (by omega)]
theorem bwd_step1 (a b k : Nat) (hb : b < 2 ^ 256) (hk : k < 16) : (dg a k + 65536 - dg b k - bwd a b k) % 65536 = dg (a + 2 ^ 256 - b) k := by
  have hp := p6_pos k
  have hpB : 0 < 65536 := by decide
  have hQ : (2 : Nat) ^ 256 = p6 k * (65536 * p6 (15 - k)) := by
    rw [← p6_16, show 16 = k + (1 + (15 - k)) by omega, p6_add, p6_add]; rfl
  rw [hQ] at hb ⊢
  unfold bwd dg
  generalize p6 (15 - k) = Q at *
  generalize p6 k = A at *
  generalize hB : 65536 = B at *
  have hb2 : b / A < B * Q := Nat.div_lt_of_lt_mul hb
  have hb3 : b / A / B < Q := Nat.div_lt_of_lt_mul hb2
  have d1 := Nat.div_add_mod a A
  have d2 := Nat.div_add_mod b A
  have l1 := Nat.mod_lt a hp
  have l2 := Nat.mod_lt b hp
  have d3 := Nat.div_add_mod (a / A) B
  have d4 := Nat.div_add_mod (b / A) B
  have l3 := Nat.mod_lt (a / A) hpB
  have l4 := Nat.mod_lt (b / A) hpB
  generalize a % A = ar at *
  generalize b % A = br at *
  generalize a / A = a' at *
  generalize b / A = b' at *
  generalize a' % B = x at *
  generalize b' % B = y at *
  generalize a' / B = a2 at *
  generalize b' / B = b2 at *
  have key : ∀ c, c ≤ 1 → (a' + B * Q - b' - c) % B = (x + B - y - c) % B := by
    intro c hc
    obtain ⟨q, rfl⟩ : ∃ q, Q = b2 + 1 + q := ⟨Q - b2 - 1, by omega⟩
    have e1 : a' + B * (b2 + 1 + q) - b' - c = B * (a2 + q) + (x + B - y - c) := by
      rw [← d3, ← d4]
      simp only [Nat.mul_add, Nat.mul_one]
      omega
    rw [e1, Nat.mul_add_mod]
  have e0 : A * (B * Q) ≥ A * b' := Nat.mul_le_mul_left A (by omega)
  by_cases h : ar < br
  · rw [if_pos h, ← key 1 (by omega)]
    have e2 : a + A * (B * Q) - b = A * (a' + B * Q - b' - 1) + (A + ar - br) := by
      obtain ⟨t, ht⟩ : ∃ t, B * Q = b' + 1 + t := ⟨B * Q - b' - 1, by omega⟩
      rw [ht] at e0 ⊢
      rw [← d1, ← d2]
      have : a' + (b' + 1 + t) - b' - 1 = a' + t := by omega
      rw [this]
      simp only [Nat.mul_add, Nat.mul_one]
      omega
    rw [e2, Nat.mul_add_div hp, Nat.div_eq_of_lt (by omega : A + ar - br < A)]
    rfl
  · rw [if_neg h, ← key 0 (by omega)]
    have e2 : a + A * (B * Q) - b = A * (a' + B * Q - b') + (ar - br) := by
      obtain ⟨t, ht⟩ : ∃ t, B * Q = b' + 1 + t := ⟨B * Q - b' - 1, by omega⟩
      rw [ht] at e0 ⊢
      rw [← d1, ← d2]
      have : a' + (b' + 1 + t) - b' = a' + 1 + t := by omega
      rw [this]
      simp only [Nat.mul_add, Nat.mul_one]
      omega
    rw [e2, Nat.mul_add_div hp, Nat.div_eq_of_lt (by omega : ar - br < A)]
    rfl

/-- digits put together: word j behind the digits from k on -/
def wf (M k j : Nat) : Nat := if 4 * j + 4 ≤ k then 0 else M / p6 (max k (4 * j)) % p6 (4 * j + 4 - max k (4 * j))
theorem wf_top (M j : Nat) (h : j < 4) : wf M 16 j = 0 := by unfold wf; rw [if_pos (by omega)]
theorem wf_bot (M j : Nat) (h : j < 4) : wf M 0 j = limN M j := by
  unfold wf limN
  rw [if_neg (by omega), show max 0 (4 * j) = 4 * j by omega, show 4 * j + 4 - 4 * j = 4 by omega]
  unfold p6
  rw [show 16 * (4 * j) = 64 * j by omega]
theorem wf_step (M i j : Nat) : (upn (wf M (i + 1)) (i / 4) (wf M (i + 1) (i / 4) * 65536 + dg M i)) j = wf M i j := by
  unfold upn
  by_cases hj : j = i / 4
  · rw [if_pos hj, hj]
    generalize hm : i / 4 = m
    have h1 : 4 * m ≤ i := by omega
    have h2 : i < 4 * m + 4 := by omega
    unfold wf
    rw [if_neg (by omega : ¬ 4 * m + 4 ≤ i), show max i (4 * m) = i by omega]
    have e : p6 (4 * m + 4 - i) = 65536 * p6 (4 * m + 4 - (i + 1)) := by
      rw [show 4 * m + 4 - i = (4 * m + 4 - (i + 1)) + 1 by omega, p6_succ, Nat.mul_comm]
    have e2 : M / p6 i % p6 (4 * m + 4 - i) = M / p6 i % 65536 + 65536 * (M / p6 (i + 1) % p6 (4 * m + 4 - (i + 1))) := by
      rw [e, Nat.mod_mul, Nat.div_div_eq_div_mul, ← p6_succ]
    rw [e2]
    unfold dg
    by_cases hle : 4 * m + 4 ≤ i + 1
    · rw [if_pos hle, show 4 * m + 4 - (i + 1) = 0 by omega]
      have : p6 0 = 1 := rfl
      rw [this, Nat.mod_one]; omega
    · rw [if_neg hle, show max (i + 1) (4 * m) = i + 1 by omega]; omega
  · rw [if_neg hj]
    unfold wf
    by_cases h : 4 * j + 4 ≤ i
    · rw [if_pos h, if_pos (by omega)]
    · rw [if_neg h, if_neg (by omega), show max i (4 * j) = max (i + 1) (4 * j) by omega]
theorem wf_lt (M k j : Nat) : wf M k j < 2 ^ 64 := by
  unfold wf
  split
  · exact Nat.two_pow_pos 64
  · refine Nat.lt_of_lt_of_le (Nat.mod_lt _ (p6_pos _)) ?_
    unfold p6
    exact Nat.pow_le_pow_right (by omega) (by omega)
theorem wf_room (M i : Nat) : wf M (i + 1) (i / 4) < 2 ^ 48 := by
  unfold wf
  split
  · exact Nat.two_pow_pos 48
  · refine Nat.lt_of_lt_of_le (Nat.mod_lt _ (p6_pos _)) ?_
    unfold p6
    exact Nat.pow_le_pow_right (by omega) (by omega)
theorem dg_high (M n j : Nat) (h : M < p6 n) (hj : n ≤ j) : dg M j = 0 := by
  unfold dg
  rw [Nat.div_eq_of_lt (Nat.lt_of_lt_of_le h (by unfold p6; exact Nat.pow_le_pow_right (by omega) (by omega)))]
theorem dg_from (M from_ i : Nat) : dg (M / p6 from_) i = dg M (from_ + i) := by
  unfold dg; rw [Nat.div_div_eq_div_mul, ← p6_add]
theorem dg_lim (a i k : Nat) (hk : k < 4) : limN a i / 65536 ^ k % 65536 = dg a (4 * i + k) := by
  unfold limN dg p6
  rw [show 16 * (4 * i + k) = 64 * i + 16 * k by omega, Nat.pow_add, ← Nat.div_div_eq_div_mul]
  generalize a / 2 ^ (64 * i) = x
  match k, hk with
  | 0, _ => simp <;> omega
  | 1, _ => simp <;> omega
  | 2, _ => simp <;> omega
  | 3, _ => simp <;> omega
end Go.Proofs.Ytmpejkhffbonnaa
