/- Figures: a division by ten word by word, decimal figures, there and back. No program here. -/
import Derived.Test.YtaeafgkjinhceaaSh2P
namespace Go.Proofs.Ytaeafgkjinhceaa
/-- Div64 by ten, in halves -/
theorem d10_U {hi lo : Nat} (hhi : hi < 10) (hlo : lo < 18446744073709551616) : hi * 2 ^ 60 % 18446744073709551616 ||| lo / 2 ^ 4 = hi * 1152921504606846976 + lo / 16 := by
  have e : hi * 2 ^ 60 % 18446744073709551616 = 2 ^ 60 * hi := by omega
  rw [e, ← Nat.two_pow_add_eq_or_of_lt (i := 60) (by omega)]; omega
/-- Div64 by ten: the two halves of the quotient -/
structure D10 (hi lo U u q R V p S : Nat) : Prop where
  hU : hi * 2 ^ 60 % 18446744073709551616 ||| lo / 2 ^ 4 = U
  hu : lo * 2 ^ 60 % 18446744073709551616 / 2 ^ 32 = u
  h0 : lo * 2 ^ 60 % 18446744073709551616 % 2 ^ 32 = 0
  hq : U / 2684354560 = q
  hR : U - q * 2684354560 = R
  hV : ((U * 4294967296 % 18446744073709551616 + u) % 18446744073709551616 + 18446744073709551616 - q * 11529215046068469760 % 18446744073709551616) % 18446744073709551616 = V
  hp : V / 2684354560 = p
  hS : V - p * 2684354560 = S
  lU : U < 11529215046068469760
  lu : u < 4294967296
  lq : q < 4294967296
  mq : q * 2684354560 ≤ U
  lR : R < 2684354560
  lV : V < 11529215046068469760
  lp : p < 4294967296
  mp : p * 2684354560 ≤ V
  lS : S < 2684354560
  fq : (hi * 18446744073709551616 + lo) / 10 = q * 4294967296 + p
  fr : (hi * 18446744073709551616 + lo) % 10 = ((V * 4294967296 % 18446744073709551616 + 0) % 18446744073709551616 + 18446744073709551616 - p * 11529215046068469760 % 18446744073709551616) % 18446744073709551616 / 2 ^ 60
theorem d10_V {U u q R : Nat} (h : U = q * 2684354560 + R) (lR : R < 2684354560) (lu : u < 4294967296) (lq : q < 4294967296) :
    ((U * 4294967296 % 18446744073709551616 + u) % 18446744073709551616 + 18446744073709551616 - q * 11529215046068469760 % 18446744073709551616) % 18446744073709551616 = R * 4294967296 + u := by
  have e : U * 4294967296 = q * 11529215046068469760 + R * 4294967296 := by omega
  have l : R * 4294967296 + u < 18446744073709551616 := by omega
  rw [e]
  obtain ⟨A, hA⟩ : ∃ A, q * 11529215046068469760 = A := ⟨_, rfl⟩
  obtain ⟨B, hB⟩ : ∃ B, R * 4294967296 = B := ⟨_, rfl⟩
  rw [hA, hB]
  rw [hB] at l
  obtain ⟨C, hC⟩ : ∃ C, B + u = C := ⟨_, rfl⟩
  rw [Nat.mod_add_mod, Nat.add_assoc, hC]
  rw [hC] at l
  rw [Nat.add_mod A C, Nat.mod_eq_of_lt l]
  have la := Nat.mod_lt A (show 0 < 18446744073709551616 by decide)
  generalize A % 18446744073709551616 = a at *
  rcases Nat.lt_or_ge (a + C) 18446744073709551616 with h1 | h1
  · rw [Nat.mod_eq_of_lt h1, show a + C + 18446744073709551616 - a = C + 18446744073709551616 by omega, Nat.add_mod_right, Nat.mod_eq_of_lt l]
  · rw [show (a + C) % 18446744073709551616 = a + C - 18446744073709551616 by omega, show a + C - 18446744073709551616 + 18446744073709551616 - a = C by omega, Nat.mod_eq_of_lt l]
theorem d10 {hi lo : Nat} (hhi : hi < 10) (hlo : lo < 18446744073709551616) : ∃ U u q R V p S, D10 hi lo U u q R V p S := by
  obtain ⟨U, hU⟩ : ∃ U, hi * 1152921504606846976 + lo / 16 = U := ⟨_, rfl⟩
  obtain ⟨u, hu⟩ : ∃ u, lo % 16 * 268435456 = u := ⟨_, rfl⟩
  obtain ⟨q, hq⟩ : ∃ q, U / 2684354560 = q := ⟨_, rfl⟩
  obtain ⟨R, hR⟩ : ∃ R, U % 2684354560 = R := ⟨_, rfl⟩
  have d1 := Nat.div_add_mod U 2684354560
  have l1 := Nat.mod_lt U (show 0 < 2684354560 by decide)
  rw [hq, hR] at d1
  rw [hR] at l1
  have lU : U < 11529215046068469760 := by omega
  have lu : u < 4294967296 := by omega
  have lq : q < 4294967296 := by omega
  obtain ⟨V, hV⟩ : ∃ V, R * 4294967296 + u = V := ⟨_, rfl⟩
  obtain ⟨p, hp⟩ : ∃ p, V / 2684354560 = p := ⟨_, rfl⟩
  obtain ⟨S, hS⟩ : ∃ S, V % 2684354560 = S := ⟨_, rfl⟩
  have d2 := Nat.div_add_mod V 2684354560
  have l2 := Nat.mod_lt V (show 0 < 2684354560 by decide)
  rw [hp, hS] at d2
  rw [hS] at l2
  have lV : V < 11529215046068469760 := by omega
  have lp : p < 4294967296 := by omega
  obtain ⟨N, hN⟩ : ∃ N, hi * 18446744073709551616 + lo = N := ⟨_, rfl⟩
  obtain ⟨Q, hQ⟩ : ∃ Q, q * 4294967296 + p = Q := ⟨_, rfl⟩
  have e : N = 16 * U + lo % 16 := by omega
  have e2 : 268435456 * N = 4294967296 * U + u := by omega
  have e3 : 268435456 * N = 2684354560 * Q + S := by omega
  obtain ⟨r', hr'⟩ : ∃ r', S = 268435456 * r' := ⟨S / 268435456, by omega⟩
  have e4 : N = 10 * Q + r' := by omega
  have l3 : r' < 10 := by omega
  refine ⟨U, u, q, R, V, p, S, (d10_U hhi hlo).trans hU, ?_, ?_, hq, by omega, (d10_V (by omega) l1 lu lq).trans hV, hp, by omega, lU, lu, lq, by omega, l1, lV, lp, by omega, l2, ?_, ?_⟩
  · have : lo * 2 ^ 60 % 18446744073709551616 = 1152921504606846976 * (lo % 16) := by omega
    rw [this]; omega
  · have : lo * 2 ^ 60 % 18446744073709551616 = 1152921504606846976 * (lo % 16) := by omega
    rw [this]; omega
  · rw [hN, hQ]; omega
  · rw [hN, d10_V (by omega) l2 (by decide) lp, hr', e4]; omega
/-- a number, divided by ten word by word -/
def d10f (a k j : Nat) : Nat := if k ≤ j then limN (a / 10) j else limN a j
theorem small_top {a : Nat} (ha : a < 2 ^ 256) : 0 = a / 2 ^ (64 * 4) % 10 := by rw [Nat.div_eq_of_lt (by simpa using ha), Nat.zero_mod]
theorem small_word {a i r : Nat} (hr : r = a / 2 ^ (64 * (i + 1)) % 10) : (r * 18446744073709551616 + limN a i) / 10 = limN (a / 10) i ∧ (r * 18446744073709551616 + limN a i) % 10 = a / 2 ^ (64 * i) % 10 := by
  unfold limN
  rw [show 64 * (i + 1) = 64 * i + 64 by omega, Nat.pow_add, ← Nat.div_div_eq_div_mul] at hr
  have e : a / 10 / 2 ^ (64 * i) = a / 2 ^ (64 * i) / 10 := by rw [Nat.div_div_eq_div_mul, Nat.div_div_eq_div_mul, Nat.mul_comm]
  rw [e]
  generalize a / 2 ^ (64 * i) = y at *
  subst hr
  have : (2 : Nat) ^ 64 = 18446744073709551616 := rfl
  rw [this]
  constructor <;> omega
theorem small_step {a k r q : Nat} {f : Nat → Nat} (h1 : 1 ≤ k) (hk : k ≤ 4) (hr : r = a / 2 ^ (64 * k) % 10) (hq : (r * 18446744073709551616 + limN a (k - 1)) / 10 = q) (hf : ∀ j, j < 4 → f j = d10f a k j) : ∀ j, j < 4 → upn f (k - 1) q j = d10f a (k - 1) j := by
  obtain ⟨i, rfl⟩ : ∃ i, k = i + 1 := ⟨k - 1, by omega⟩
  rw [Nat.add_sub_cancel] at *
  intro j hj
  have hw := (small_word hr).1
  unfold upn d10f
  by_cases h : j = i
  · rw [if_pos h, if_pos (by omega), h, ← hw, hq]
  · rw [if_neg h, hf j hj]; unfold d10f
    by_cases h2 : i ≤ j
    · rw [if_pos (by omega), if_pos h2]
    · rw [if_neg (by omega), if_neg h2]
theorem small_rem {a k r q : Nat} (h1 : 1 ≤ k) (hr : r = a / 2 ^ (64 * k) % 10) (hq : (r * 18446744073709551616 + limN a (k - 1)) % 10 = q) : q = a / 2 ^ (64 * (k - 1)) % 10 := by
  obtain ⟨i, rfl⟩ : ∃ i, k = i + 1 := ⟨k - 1, by omega⟩
  rw [Nat.add_sub_cancel] at *
  rw [← hq]; exact (small_word hr).2
theorem small_at {a k : Nat} {f : Nat → Nat} (h1 : 1 ≤ k) (hk : k ≤ 4) (hf : ∀ j, j < 4 → f j = d10f a k j) : f (k - 1) = limN a (k - 1) := by
  rw [hf _ (by omega)]; unfold d10f; rw [if_neg (by omega)]
/-- decimal figures: how many, and which -/
def nd (a : Nat) : Nat := if h : a < 10 then 1 else nd (a / 10) + 1
termination_by a
decreasing_by omega
theorem nd_small {a : Nat} (h : a < 10) : nd a = 1 := by rw [nd, dif_pos h]
theorem nd_big {a : Nat} (h : ¬ a < 10) : nd a = nd (a / 10) + 1 := by rw [nd, dif_neg h]
theorem nd_pos (a : Nat) : 1 ≤ nd a := by
  by_cases h : a < 10
  · rw [nd_small h]; exact Nat.le_refl _
  · rw [nd_big h]; omega
theorem nd_lt (a : Nat) : a < 10 ^ nd a := by
  induction a using Nat.strongRecOn with
  | _ a ih =>
    by_cases h : a < 10
    · rw [nd_small h]; omega
    · rw [nd_big h, Nat.pow_succ]
      have := ih (a / 10) (by omega)
      omega
theorem nd_ge (a : Nat) (h0 : a ≠ 0) : 10 ^ (nd a - 1) ≤ a := by
  induction a using Nat.strongRecOn with
  | _ a ih =>
    by_cases h : a < 10
    · rw [nd_small h]; simp; omega
    · rw [nd_big h, Nat.add_sub_cancel]
      have := ih (a / 10) (by omega) (by omega)
      have hp := nd_pos (a / 10)
      obtain ⟨m, hm⟩ : ∃ m, nd (a / 10) = m + 1 := ⟨nd (a / 10) - 1, by omega⟩
      rw [hm, Nat.add_sub_cancel] at this
      rw [hm, Nat.pow_succ]
      omega
theorem nd_le {a n : Nat} (h : a < 10 ^ n) (hn : 1 ≤ n) : nd a ≤ n := by
  by_cases h0 : a = 0
  · subst h0; rw [nd_small (by decide)]; exact hn
  · refine Classical.byContradiction fun hc => ?_
    have := Nat.le_trans (Nat.pow_le_pow_right (n := 10) (by decide) (show n ≤ nd a - 1 by omega)) (nd_ge a h0)
    omega
theorem nd_256 {a : Nat} (h : a < 2 ^ 256) : nd a ≤ 78 := nd_le (Nat.lt_trans h (by decide)) (by decide)
/-- the figures from the lowest on -/
def lof (a j : Nat) : Nat := 48 + a / 10 ^ j % 10
/-- the figures from the highest on -/
def dcf (a j : Nat) : Nat := 48 + a / 10 ^ (nd a - 1 - j) % 10
theorem lof_lt (a j : Nat) : lof a j < 58 := by unfold lof; omega
theorem dcf_lt (a j : Nat) : dcf a j < 58 := by unfold dcf; omega
theorem lof_dcf {a j : Nat} (_h : j < nd a) : lof a (nd a - 1 - j) = dcf a j := rfl
/-- how far figures go: the number is nothing at the end -/
theorem nd_end {a l : Nat} (hl : 1 ≤ l) (h1 : a / 10 ^ l = 0) (h2 : l ≠ 1 → a / 10 ^ (l - 1) ≠ 0) : nd a = l := by
  have hp : 0 < 10 ^ l := Nat.pow_pos (by decide)
  have hlt : a < 10 ^ l := by
    rcases Nat.lt_or_ge a (10 ^ l) with h | h
    · exact h
    · have := Nat.div_pos h hp; omega
  have hle := nd_le hlt hl
  have hpos := nd_pos a
  by_cases h : l = 1
  · omega
  · have h3 := h2 h
    refine Classical.byContradiction fun hc => ?_
    have := Nat.lt_of_lt_of_le (nd_lt a) (Nat.pow_le_pow_right (n := 10) (by decide) (show nd a ≤ l - 1 by omega))
    exact h3 (Nat.div_eq_of_lt this)
/-- figures as bytes -/
def bts (n : Nat) (f : Nat → Nat) : List UInt8 := (List.range n).map fun i => UInt8.ofNat (f i)
def dcs (a : Nat) : ByteArray := ⟨(bts (nd a) (dcf a)).toArray⟩
theorem dcs_of {a c : Nat} {f : Nat → Nat} (h : nd a = c) (hf : ∀ j, j < c → f j = lof a (c - 1 - j)) : (⟨((List.range c).map fun i => UInt8.ofNat (f i)).toArray⟩ : ByteArray) = dcs a := by
  unfold dcs bts
  rw [h]
  congr 2
  apply List.map_congr_left
  intro j hj
  rw [hf j (List.mem_range.1 hj), ← h]
  rfl
theorem lof_at {a j y r : Nat} (hy : a / 10 ^ j = y) (hr : y % 10 = r) : lof a j = 48 + r := by unfold lof; rw [hy, hr]
theorem lof_0 {a r : Nat} (hr : a % 10 = r) : lof a 0 = 48 + r := lof_at (by rw [Nat.pow_zero, Nat.div_one]) hr
theorem figs_le {a j y : Nat} (ha : a < 2 ^ 256) (hy : a / 10 ^ j = y) (h0 : y ≠ 0) : j ≤ 78 := by
  have h1 : 10 ^ j ≤ a := by
    rcases Nat.lt_or_ge a (10 ^ j) with h | h
    · rw [Nat.div_eq_of_lt h] at hy; exact absurd hy.symm h0
    · exact h
  have h2 := nd_lt a
  have h3 := nd_256 ha
  have h4 : 10 ^ j < 10 ^ nd a := Nat.lt_of_le_of_lt h1 h2
  have := (Nat.pow_lt_pow_iff_right (a := 10) (by decide)).1 h4
  omega
theorem div10_pow {a j y x : Nat} (hy : a / 10 ^ j = y) (hx : y / 10 = x) : a / 10 ^ (j + 1) = x := by rw [Nat.pow_succ, ← Nat.div_div_eq_div_mul, hy, hx]
/-- a row turned around -/
def rvg (n : Nat) (b : Nat → Nat) (i j : Nat) : Nat := if j < i ∨ n - 1 - j < i then b (n - 1 - j) else b j
theorem rvg_start {n : Nat} {b : Nat → Nat} : ∀ j, j < n → b j = rvg n b 0 j := fun j _ => by unfold rvg; rw [if_neg (by omega)]
theorem rvg_step {n : Nat} {b f : Nat → Nat} {i : Nat} (hi : i < n - 1 - i) (hf : ∀ j, j < n → f j = rvg n b i j) : ∀ j, j < n → upn (upn f i (f (n - 1 - i))) (n - 1 - i) (f i) j = rvg n b (i + 1) j := by
  intro j hj
  have h1 := hf i (by omega)
  have h2 := hf (n - 1 - i) (by omega)
  unfold rvg at h1 h2
  rw [if_neg (by omega)] at h1 h2
  unfold upn rvg
  by_cases e1 : j = n - 1 - i
  · rw [if_pos e1, if_pos (by omega), h1, e1]; congr 1; omega
  · rw [if_neg e1]
    by_cases e2 : j = i
    · rw [if_pos e2, if_pos (by omega), h2, e2]
    · rw [if_neg e2, hf j hj]
      unfold rvg
      by_cases e3 : j < i ∨ n - 1 - j < i
      · rw [if_pos e3, if_pos (by omega)]
      · rw [if_neg e3, if_neg (by omega)]
theorem rvg_fin {n : Nat} {b f : Nat → Nat} {i : Nat} (hi : ¬ i < n - 1 - i) (hf : ∀ j, j < n → f j = rvg n b i j) : ∀ j, j < n → f j = b (n - 1 - j) := by
  intro j hj
  rw [hf j hj]; unfold rvg
  split
  · rfl
  · congr 1; omega
/-- what a text tells -/
def dgv (s : List UInt8) : Nat := s.foldl (fun v c => v * 10 + (c.toNat - 48)) 0
def dgok (s : List UInt8) : Bool := s.all fun c => decide (48 ≤ c.toNat) && decide (c.toNat ≤ 57)
/-- the number of a text, and an error's number: 3 no number, 4 too large -/
def psE (s : List UInt8) : Nat := if s = [] ∨ 1 < s.length ∧ s.head? = some 48 then 3 else if dgok s = false then 3 else if 2 ^ 256 ≤ dgv s then 4 else 0
def psV (s : List UInt8) : Nat := if psE s = 0 then dgv s else 0
end Go.Proofs.Ytaeafgkjinhceaa
