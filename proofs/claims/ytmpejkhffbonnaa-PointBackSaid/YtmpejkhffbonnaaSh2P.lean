/- Shifts up word by word, bytes, quotients bit by bit. No program here. -/
import Derived.Test.YtmpejkhffbonnaaShP
import Derived.Test.YtmpejkhffbonnaaInvP
namespace Go.Proofs.Ytmpejkhffbonnaa
theorem shl_word0 {A r : Nat} (hr : r < 64) : limN (A * 2 ^ r) 0 = limN A 0 * 2 ^ r % 18446744073709551616 := by
  unfold limN
  rw [Nat.mul_zero, Nat.pow_zero, Nat.div_one, Nat.div_one, Nat.mod_mul_mod]
theorem shl_wordS {A r m : Nat} (hr : r < 64) : limN (A * 2 ^ r) (m + 1) = limN A (m + 1) * 2 ^ r % 18446744073709551616 ||| limN A m / 2 ^ (64 - r) := by
  have hP := Nat.two_pow_pos (64 * m)
  have hR := Nat.two_pow_pos r
  have h64 : (2 : Nat) ^ 64 = 2 ^ r * 2 ^ (64 - r) := by rw [← Nat.pow_add]; congr 1; omega
  have e1 : A * 2 ^ r / 2 ^ (64 * (m + 1)) = (A / 2 ^ (64 * (m + 1))) * 2 ^ r + limN A m / 2 ^ (64 - r) := by
    unfold limN
    rw [show 64 * (m + 1) = 64 * m + 64 by omega, Nat.pow_add, ← Nat.div_div_eq_div_mul, ← Nat.div_div_eq_div_mul]
    have d := Nat.div_add_mod A (2 ^ (64 * m))
    have l := Nat.mod_lt A hP
    generalize A / 2 ^ (64 * m) = y at *
    generalize A % 2 ^ (64 * m) = x at *
    generalize 2 ^ (64 * m) = P at *
    have e2 : A * 2 ^ r = x * 2 ^ r + P * (y * 2 ^ r) := by rw [← d]; grind
    rw [e2, Nat.add_mul_div_left _ _ hP]
    have hx : x * 2 ^ r / P < 2 ^ r := by
      rw [Nat.div_lt_iff_lt_mul hP, Nat.mul_comm]; exact Nat.mul_lt_mul_of_pos_left l hR
    generalize x * 2 ^ r / P = e at hx
    have d2 := Nat.div_add_mod y (2 ^ 64)
    generalize y / 2 ^ 64 = y1 at *
    generalize y % 2 ^ 64 = w at *
    rw [show e + y * 2 ^ r = (e + 2 ^ r * w) + 2 ^ 64 * (y1 * 2 ^ r) by rw [← d2]; grind, Nat.add_mul_div_left _ _ (Nat.two_pow_pos 64), h64, ← Nat.div_div_eq_div_mul, Nat.add_mul_div_left _ _ hR, Nat.div_eq_of_lt hx, Nat.zero_add, Nat.add_comm]
  have hw : limN A m / 2 ^ (64 - r) < 2 ^ r := by
    rw [Nat.div_lt_iff_lt_mul (Nat.two_pow_pos _), ← h64]; exact limN_lt A m
  have e3 : limN A (m + 1) * 2 ^ r % 18446744073709551616 = 2 ^ r * (A / 2 ^ (64 * (m + 1)) % 2 ^ (64 - r)) := by
    show A / 2 ^ (64 * (m + 1)) % 2 ^ 64 * 2 ^ r % 2 ^ 64 = _
    rw [Nat.mod_mul_mod, Nat.mul_comm, h64, Nat.mul_mod_mul_left]
  rw [e3, ← Nat.two_pow_add_eq_or_of_lt hw]
  show A * 2 ^ r / 2 ^ (64 * (m + 1)) % 2 ^ 64 = _
  rw [e1]
  generalize limN A m / 2 ^ (64 - r) = u at *
  generalize A / 2 ^ (64 * (m + 1)) = y
  rw [h64, Nat.mul_comm y]
  have hlt : 2 ^ r * (y % 2 ^ (64 - r)) + u < 2 ^ r * 2 ^ (64 - r) := by
    have h1 : y % 2 ^ (64 - r) + 1 ≤ 2 ^ (64 - r) := Nat.mod_lt _ (Nat.two_pow_pos _)
    have := Nat.mul_le_mul_left (2 ^ r) h1
    rw [Nat.mul_add] at this
    omega
  rw [Nat.add_mod, Nat.mul_mod_mul_left, Nat.mod_eq_of_lt (a := u), Nat.mod_eq_of_lt hlt]
  exact Nat.lt_of_lt_of_le hw (Nat.le_mul_of_pos_right _ (Nat.two_pow_pos _))
theorem limN_up (A n i : Nat) (h : n / 64 ≤ i) : limN (A * 2 ^ n) i = limN (A * 2 ^ (n % 64)) (i - n / 64) := by
  unfold limN
  have e : 2 ^ n = 2 ^ (n % 64) * 2 ^ (64 * (n / 64)) := by rw [← Nat.pow_add]; congr 1; omega
  have e2 : (2 : Nat) ^ (64 * i) = 2 ^ (64 * (i - n / 64)) * 2 ^ (64 * (n / 64)) := by rw [← Nat.pow_add]; congr 1; omega
  rw [e, e2, ← Nat.mul_assoc, Nat.mul_div_mul_right _ _ (Nat.two_pow_pos _)]
theorem limN_up0 (A n i : Nat) (h : i < n / 64) : limN (A * 2 ^ n) i = 0 := by
  unfold limN
  have e : 2 ^ n = 2 ^ (64 * i) * (2 ^ 64 * 2 ^ (n - 64 * i - 64)) := by rw [← Nat.pow_add, ← Nat.pow_add]; congr 1; omega
  rw [e, Nat.mul_left_comm, Nat.mul_div_cancel_left _ (Nat.two_pow_pos _), Nat.mul_left_comm, Nat.mul_mod_right]
def slf (A nn i j : Nat) : Nat := if nn / 64 ≤ j ∧ j < i then limN (A * 2 ^ nn) j else 0
theorem shl_step {A nn i x : Nat} {f : Nat → Nat} (h1 : nn / 64 ≤ i) (hx : x = limN (A * 2 ^ nn) i) (hf : ∀ j, j < 4 → f j = slf A nn i j) : ∀ j, j < 4 → upn f i x j = slf A nn (i + 1) j := by
  intro j hj
  unfold upn
  by_cases h : j = i
  · rw [if_pos h, h, hx]; unfold slf; rw [if_pos (by omega)]
  · rw [if_neg h, hf j hj]; unfold slf
    by_cases h2 : nn / 64 ≤ j ∧ j < i
    · rw [if_pos h2, if_pos (by omega)]
    · rw [if_neg h2, if_neg (by omega)]
theorem shl_stepA {A nn i : Nat} {f : Nat → Nat} (h1 : nn / 64 ≤ i) (h : ¬ (nn / 64 < i ∧ 0 < nn % 64)) (hf : ∀ j, j < 4 → f j = slf A nn i j) : ∀ j, j < 4 → upn f i (limN A (i - nn / 64) * 2 ^ (nn % 64) % 18446744073709551616) j = slf A nn (i + 1) j := by
  refine shl_step h1 ?_ hf
  rw [limN_up _ _ _ h1]
  have hr64 : nn % 64 < 64 := Nat.mod_lt _ (by decide)
  by_cases hi : nn / 64 < i
  · have hr : nn % 64 = 0 := by omega
    rw [hr, Nat.pow_zero, Nat.mul_one, Nat.mul_one, Nat.mod_eq_of_lt (limN_lt _ _)]
  · rw [show i - nn / 64 = 0 by omega, shl_word0 hr64]
theorem shl_stepB {A nn i : Nat} {f : Nat → Nat} (h1 : nn / 64 < i) (hf : ∀ j, j < 4 → f j = slf A nn i j) :
    ∀ j, j < 4 → upn (upn f i (limN A (i - nn / 64) * 2 ^ (nn % 64) % 18446744073709551616)) i (upn f i (limN A (i - nn / 64) * 2 ^ (nn % 64) % 18446744073709551616) i ||| limN A (i - nn / 64 - 1) / 2 ^ (64 - nn % 64)) j = slf A nn (i + 1) j := by
  rw [upn_upn, upn_at]
  refine shl_step (by omega) ?_ hf
  have hr64 : nn % 64 < 64 := Nat.mod_lt _ (by decide)
  rw [limN_up _ _ _ (by omega)]
  obtain ⟨m, hm⟩ : ∃ m, i - nn / 64 = m + 1 := ⟨i - nn / 64 - 1, by omega⟩
  rw [hm, shl_wordS hr64, Nat.add_sub_cancel]
theorem shl_start {A nn : Nat} : ∀ j, j < 4 → (fun _ => 0) j = slf A nn (nn / 64) j := fun j _ => by unfold slf; rw [if_neg (by omega)]
theorem shl_fin {A nn i : Nat} {f : Nat → Nat} (hi : 4 ≤ i) (hf : ∀ j, j < 4 → f j = slf A nn i j) : ∀ j, j < 4 → f j = limN (A * 2 ^ nn) j := by
  intro j hj
  rw [hf j hj]; unfold slf
  split
  · rfl
  · rw [limN_up0 _ _ _ (by omega)]
theorem rshl_step {A i t y : Nat} (hy : A * 2 ^ i % 2 ^ 256 = y) (ht : (2 * y + 0) % 2 ^ 256 = t) : A * 2 ^ (i + 1) % 2 ^ 256 = t := by
  have h2 : 2 * y % 2 ^ 256 = t := ht
  rw [← h2, ← hy, Nat.mul_mod_mod, Nat.pow_succ, ← Nat.mul_assoc, Nat.mul_comm 2]
/-- bytes -/
def by8 (a j : Nat) : Nat := a / 256 ^ (31 - j) % 256
theorem by8_lt (a j : Nat) : by8 a j < 256 := Nat.mod_lt _ (by decide)
theorem byte_lim (a i : Nat) : limN a (i / 8) / 2 ^ (8 * (i % 8)) % 256 = a / 256 ^ i % 256 := by
  unfold limN
  have e : a / 256 ^ i = a / 2 ^ (64 * (i / 8)) / 2 ^ (8 * (i % 8)) := by
    rw [Nat.div_div_eq_div_mul, ← Nat.pow_add, show (256 : Nat) = 2 ^ 8 from rfl, ← Nat.pow_mul]; congr 2; omega
  rw [e]
  generalize a / 2 ^ (64 * (i / 8)) = x
  have hk : i % 8 < 8 := Nat.mod_lt _ (by decide)
  generalize i % 8 = k at hk
  have h64 : (2 : Nat) ^ 64 = 2 ^ (8 * k) * (256 * 2 ^ (56 - 8 * k)) := by
    rw [show (256 : Nat) = 2 ^ 8 from rfl, ← Nat.pow_add, ← Nat.pow_add]; congr 1; omega
  rw [h64, Nat.mod_mul_right_div_self, Nat.mod_mul_right_mod]
def byf (a i j : Nat) : Nat := if 31 - j < i then by8 a j else 0
theorem byte_step {a i : Nat} {f : Nat → Nat} (hi : i < 32) (hf : ∀ j, j < 32 → f j = byf a i j) : ∀ j, j < 32 → upn f (31 - i) (limN a (i / 8) / 2 ^ (8 * (i % 8)) % 256) j = byf a (i + 1) j := by
  intro j hj
  unfold upn byf
  by_cases h : j = 31 - i
  · rw [if_pos h, if_pos (by omega), byte_lim]; unfold by8; rw [show 31 - j = i by omega]
  · rw [if_neg h, hf j hj]; unfold byf
    by_cases h2 : 31 - j < i
    · rw [if_pos h2, if_pos (by omega)]
    · rw [if_neg h2, if_neg (by omega)]
theorem byte_start {a : Nat} : ∀ j, j < 32 → (fun _ => 0) j = byf a 0 j := fun j _ => by unfold byf; rw [if_neg (by omega)]
theorem byte_fin {a : Nat} {f : Nat → Nat} (hf : ∀ j, j < 32 → f j = byf a 32 j) : ∀ j, j < 32 → f j = by8 a j := fun j hj => by rw [hf j hj]; unfold byf; rw [if_pos (by omega)]
/-- there and back -/
theorem pr_by8 (a : Nat) : ∀ n, n ≤ 32 → pr (by8 a) 0 n = a / 256 ^ (32 - n) % 256 ^ n
  | 0, _ => by simp [pr, Nat.mod_one]
  | n + 1, h => by
    rw [pr, pr_by8 a n (by omega), Nat.zero_add]
    unfold by8
    have e : a / 256 ^ (32 - n) = a / 256 ^ (32 - (n + 1)) / 256 := by
      rw [Nat.div_div_eq_div_mul, ← Nat.pow_succ]; congr 2; omega
    rw [e, show 31 - n = 32 - (n + 1) by omega]
    generalize a / 256 ^ (32 - (n + 1)) = x
    rw [Nat.pow_succ, Nat.mul_comm (256 ^ n) 256, Nat.mod_mul]
    omega
theorem pr_by8_all {a : Nat} (h : a < 2 ^ 256) : pr (by8 a) 0 32 = a := by
  have e : (256 : Nat) ^ 32 = 2 ^ 256 := by decide
  rw [pr_by8 a 32 (by omega), Nat.sub_self, Nat.pow_zero, Nat.div_one, e, Nat.mod_eq_of_lt h]
theorem by8_pr {b : Nat → Nat} (hb : ∀ j, j < 32 → b j < 256) : ∀ j, j < 32 → by8 (pr b 0 32) j = b j := by
  have key : ∀ n, n ≤ 32 → ∀ j, j < n → pr b 0 n / 256 ^ (n - 1 - j) % 256 = b j := by
    intro n
    induction n with
    | zero => intro _ j hj; omega
    | succ n ih =>
      intro hn j hj
      rw [pr, Nat.zero_add]
      have hbn := hb n (by omega)
      by_cases h : j = n
      · subst h; rw [show j + 1 - 1 - j = 0 by omega, Nat.pow_zero, Nat.div_one]; omega
      · have := ih (by omega) j (by omega)
        rw [show n + 1 - 1 - j = (n - 1 - j) + 1 by omega, Nat.pow_succ, Nat.mul_comm (256 ^ _), ← Nat.div_div_eq_div_mul, show (pr b 0 n * 256 + b n) / 256 = pr b 0 n by omega]
        exact this
  intro j hj
  exact key 32 (Nat.le_refl _) j hj
/-- quotients bit by bit -/
theorem div_bit {a m r q k b : Nat} (hm : 0 < m) (h1 : 1 ≤ k) (hr : a / 2 ^ k % m = r) (hq : a / 2 ^ k / m = q) (hb : a / 2 ^ (k - 1) % 2 = b) : a / 2 ^ (k - 1) / m = 2 * q + (2 * r + b) / m := by
  obtain ⟨i, rfl⟩ : ∃ i, k = i + 1 := ⟨k - 1, by omega⟩
  rw [Nat.add_sub_cancel] at *
  have e : a / 2 ^ i = 2 * (a / 2 ^ (i + 1)) + b := by rw [← hb, Nat.pow_succ, ← Nat.div_div_eq_div_mul]; omega
  have d := Nat.div_add_mod (a / 2 ^ (i + 1)) m
  rw [hr, hq] at d
  rw [e, ← d, show 2 * (m * q + r) + b = (2 * r + b) + m * (2 * q) by grind, Nat.add_mul_div_left _ _ hm, Nat.add_comm]
theorem div_q0 {a m r q k b t c u : Nat} (hm : 0 < m) (hm2 : m < 2 ^ 256) (ha : a < 2 ^ 256) (h1 : 1 ≤ k) (hr : a / 2 ^ k % m = r) (hq : a / 2 ^ k / m = q) (hb : a / 2 ^ (k - 1) % 2 = b) (hb1 : b ≤ 1) (ht : (2 * r + b) % 2 ^ 256 = t) (hc : (2 * r + b) / 2 ^ 256 = c) (hn1 : ¬ c = 1) (hn2 : ¬ m ≤ t) (hu : (2 * q + 0) % 2 ^ 256 = u) : a / 2 ^ (k - 1) / m = u := by
  have lr : r < m := by rw [← hr]; exact Nat.mod_lt _ hm
  have e : (2 * r + b) / m = 0 := Nat.div_eq_of_lt (by omega)
  rw [← hu, div_bit hm h1 hr hq hb, e, Nat.mod_eq_of_lt]
  have := div_bit hm h1 hr hq hb
  rw [e] at this
  rw [← this]
  exact Nat.lt_of_le_of_lt (Nat.div_le_self _ _) (Nat.lt_of_le_of_lt (Nat.div_le_self _ _) ha)
theorem div_q1 {a m r q k b t c u : Nat} (hm : 0 < m) (hm2 : m < 2 ^ 256) (ha : a < 2 ^ 256) (h1 : 1 ≤ k) (hr : a / 2 ^ k % m = r) (hq : a / 2 ^ k / m = q) (hb : a / 2 ^ (k - 1) % 2 = b) (hb1 : b ≤ 1) (ht : (2 * r + b) % 2 ^ 256 = t) (hc : (2 * r + b) / 2 ^ 256 = c) (hy : c = 1 ∨ m ≤ t) (hu : (2 * q + 1) % 2 ^ 256 = u) : a / 2 ^ (k - 1) / m = u := by
  have lr : r < m := by rw [← hr]; exact Nat.mod_lt _ hm
  have e : (2 * r + b) / m = 1 := by
    rw [Nat.div_eq_sub_div hm (by omega), Nat.div_eq_of_lt (by omega)]
  rw [← hu, div_bit hm h1 hr hq hb, e, Nat.mod_eq_of_lt]
  have := div_bit hm h1 hr hq hb
  rw [e] at this
  rw [← this]
  exact Nat.lt_of_le_of_lt (Nat.div_le_self _ _) (Nat.lt_of_le_of_lt (Nat.div_le_self _ _) ha)
theorem div_start {a m : Nat} (ha : a < 2 ^ 256) : a / 2 ^ 256 % m = 0 ∧ a / 2 ^ 256 / m = 0 := by
  rw [Nat.div_eq_of_lt ha, Nat.zero_mod, Nat.zero_div]; exact ⟨rfl, rfl⟩
end Go.Proofs.Ytmpejkhffbonnaa
