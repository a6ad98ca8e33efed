/- Targets and their bits. No program here. -/
import Derived.Test.YtemacggbabiafaaSh2P
import Derived.Test.YtemacggbabiafaaWLen
namespace Go.Proofs.Ytemacggbabiafaa
theorem p256 (k : Nat) : 256 ^ k = 2 ^ (8 * k) := by rw [show (256 : Nat) = 2 ^ 8 from rfl, ← Nat.pow_mul]
theorem p256_pos (k : Nat) : 0 < 256 ^ k := Nat.pow_pos (by decide)
/-- how many bytes -/
def nb (t : Nat) : Nat := (ln t + 7) / 8
theorem nb_lt (t : Nat) : t < 256 ^ nb t := by
  rw [p256]
  exact Nat.lt_of_lt_of_le (ln_spec t).1 (Nat.pow_le_pow_right (by decide) (by unfold nb; omega))
theorem nb_ge {t : Nat} (h : t ≠ 0) : 256 ^ (nb t - 1) ≤ t := by
  rw [p256]
  have := (ln_spec t).2 h
  exact Nat.le_trans (Nat.pow_le_pow_right (by decide) (by unfold nb; omega)) this.2
theorem nb_pos {t : Nat} (h : t ≠ 0) : 1 ≤ nb t := by have := ((ln_spec t).2 h).1; unfold nb; omega
theorem nb_le {t : Nat} (h : t < 2 ^ 256) : nb t ≤ 32 := by have := ln_le t 256 h; unfold nb; omega
theorem nb_uniq {t n : Nat} (h1 : t < 256 ^ n) (h2 : n ≠ 0 → 256 ^ (n - 1) ≤ t) : nb t = n := by
  by_cases hn : n = 0
  · subst hn
    have : t = 0 := by simpa using h1
    subst this
    unfold nb ln; simp
  · have h2 := h2 hn
    have h0 : t ≠ 0 := by have := p256_pos (n - 1); omega
    have a1 := nb_lt t
    have a2 := nb_ge h0
    have a3 := nb_pos h0
    rcases Nat.lt_trichotomy (nb t) n with h | h | h
    · have := Nat.pow_le_pow_right (n := 256) (by decide) (show nb t ≤ n - 1 by omega)
      omega
    · exact h
    · have := Nat.pow_le_pow_right (n := 256) (by decide) (show n ≤ nb t - 1 by omega)
      omega
/-- the three upper bytes -/
def low3 (t : Nat) : Nat := if 3 < nb t then t / 2 ^ (8 * (nb t - 3)) else t * 2 ^ (8 * (3 - nb t))
theorem low3_lt (t : Nat) : low3 t < 16777216 := by
  have h := nb_lt t
  unfold low3
  split
  · rw [Nat.div_lt_iff_lt_mul (Nat.two_pow_pos _), show (16777216 : Nat) = 256 ^ 3 from rfl, ← p256, ← Nat.pow_add, show 3 + (nb t - 3) = nb t by omega]
    exact h
  · rw [← p256, show (16777216 : Nat) = 256 ^ nb t * 256 ^ (3 - nb t) by rw [← Nat.pow_add, show nb t + (3 - nb t) = 3 by omega]]
    exact Nat.mul_lt_mul_of_pos_right h (p256_pos _)
theorem low3_ge {t : Nat} (h0 : t ≠ 0) : 65536 ≤ low3 t := by
  have h := nb_ge h0
  have hp := nb_pos h0
  unfold low3
  split
  · rw [Nat.le_div_iff_mul_le (Nat.two_pow_pos _), ← p256, show (65536 : Nat) = 256 ^ 2 from rfl, ← Nat.pow_add, show 2 + (nb t - 3) = nb t - 1 by omega]
    exact h
  · rw [← p256, show (65536 : Nat) = 256 ^ (nb t - 1) * 256 ^ (3 - nb t) by rw [← Nat.pow_add, show nb t - 1 + (3 - nb t) = 2 by omega]]
    exact Nat.mul_le_mul_right _ h
/-- the bits of a target -/
def cpt (t : Nat) : Nat := if 8388608 ≤ low3 t then (nb t + 1) * 16777216 + low3 t / 256 else nb t * 16777216 + low3 t
theorem cpt_lt {t : Nat} (h : t < 2 ^ 256) : cpt t < 4294967296 := by
  have := low3_lt t
  have := nb_le h
  unfold cpt
  split <;> omega
/-- the target of bits; 0: they tell none -/
def tgt (b : Nat) : Nat :=
  if b / 8388608 % 2 ≠ 0 then 0
  else if b / 16777216 < 3 then b % 8388608 / 2 ^ (8 * (3 - b / 16777216))
  else if 256 < ln (b % 8388608) + 8 * (b / 16777216 - 3) then 0
  else b % 8388608 * 2 ^ (8 * (b / 16777216 - 3))
theorem fits_iff (m k : Nat) (hm : m ≠ 0) : m * 2 ^ k < 2 ^ 256 ↔ ln m + k ≤ 256 := by
  obtain ⟨h1, h2⟩ := ln_spec m
  obtain ⟨h3, h4⟩ := h2 hm
  constructor
  · intro h
    refine Classical.byContradiction fun hn => ?_
    have e : (2 : Nat) ^ 256 ≤ 2 ^ (ln m - 1) * 2 ^ k := by rw [← Nat.pow_add]; exact Nat.pow_le_pow_right (by decide) (by omega)
    have := Nat.mul_le_mul_right (2 ^ k) h4
    omega
  · intro h
    have e : 2 ^ ln m * 2 ^ k ≤ 2 ^ 256 := by rw [← Nat.pow_add]; exact Nat.pow_le_pow_right (by decide) h
    exact Nat.lt_of_lt_of_le (Nat.mul_lt_mul_of_pos_right h1 (Nat.two_pow_pos k)) e
theorem tgt_aux {x : Nat} (h : x * 2 ^ 8 < 2 ^ 256) : x * 2 ^ 8 + 1 < 2 ^ 256 := by
  obtain ⟨y, hy⟩ : ∃ y, x * 2 ^ 7 = y := ⟨_, rfl⟩
  rw [show (2 : Nat) ^ 8 = 2 ^ 7 * 2 from rfl, ← Nat.mul_assoc, hy] at h ⊢
  omega
theorem tgt_lt (b : Nat) : tgt b + 1 < 2 ^ 256 := by
  unfold tgt
  have hm : b % 8388608 < 8388608 := Nat.mod_lt _ (by decide)
  generalize b % 8388608 = m at *
  split
  · decide
  · split
    · have := Nat.div_le_self m (2 ^ (8 * (3 - b / 16777216)))
      omega
    · split
      · decide
      · rename_i h
        by_cases h0 : m = 0
        · subst h0; rw [Nat.zero_mul]; decide
        · have h1 := (fits_iff m (8 * (b / 16777216 - 3)) h0).2 (by omega)
          generalize b / 16777216 - 3 = k at *
          cases k with
          | zero => rw [Nat.mul_zero, Nat.pow_zero, Nat.mul_one]; omega
          | succ k =>
            rw [show 8 * (k + 1) = 8 * k + 8 by omega, Nat.pow_add, ← Nat.mul_assoc] at *
            obtain ⟨x, hx⟩ : ∃ x, m * 2 ^ (8 * k) = x := ⟨_, rfl⟩
            rw [hx] at h1 ⊢
            exact tgt_aux h1
theorem tgt_lt' (b : Nat) : tgt b < 2 ^ 256 := by have := tgt_lt b; omega
/-- what the bits of a target tell: the target, but for its lower bytes -/
def drp (t : Nat) : Nat := if 8388608 ≤ low3 t then nb t - 2 else nb t - 3
theorem cpt_split {t : Nat} (h0 : t ≠ 0) (_h : t < 2 ^ 256) : cpt t / 8388608 % 2 = 0 ∧
    (8388608 ≤ low3 t → cpt t / 16777216 = nb t + 1 ∧ cpt t % 8388608 = low3 t / 256) ∧ (¬ 8388608 ≤ low3 t → cpt t / 16777216 = nb t ∧ cpt t % 8388608 = low3 t) := by
  have := low3_lt t
  unfold cpt
  split
  · refine ⟨by omega, fun _ => ⟨by omega, by omega⟩, fun h => absurd (by assumption) h⟩
  · refine ⟨by omega, fun h => absurd h (by assumption), fun _ => ⟨by omega, by omega⟩⟩
theorem div_mul_lt {t k : Nat} (h : t < 2 ^ 256) : t / 256 ^ k * 256 ^ k < 2 ^ 256 := Nat.lt_of_le_of_lt (Nat.div_mul_le_self _ _) h
theorem tgt_cpt {t : Nat} (h0 : t ≠ 0) (h : t < 2 ^ 256) : tgt (cpt t) = t / 256 ^ drp t * 256 ^ drp t := by
  obtain ⟨s0, s1, s2⟩ := cpt_split h0 h
  have hg := low3_ge h0
  have hl := low3_lt t
  have hn := nb_pos h0
  unfold tgt drp
  rw [if_neg (by omega)]
  by_cases hc : 8388608 ≤ low3 t
  · obtain ⟨e1, e2⟩ := s1 hc
    rw [e1, e2, if_pos hc]
    by_cases h3 : 3 < nb t
    · have el : low3 t / 256 = t / 256 ^ (nb t - 2) := by
        unfold low3
        rw [if_pos h3, ← p256, Nat.div_div_eq_div_mul, ← Nat.pow_succ, show (nb t - 3).succ = nb t - 2 by omega]
      have hz : low3 t / 256 ≠ 0 := by omega
      rw [if_neg (by omega), show nb t + 1 - 3 = nb t - 2 by omega]
      have hf := div_mul_lt (k := nb t - 2) h
      rw [← el, p256] at hf
      have := (fits_iff _ _ hz).1 hf
      rw [if_neg (by omega), el, p256]
    · have el : low3 t = t * 256 ^ (3 - nb t) := by unfold low3; rw [if_neg h3, ← p256]
      have hn3 : nb t = 1 ∨ nb t = 2 ∨ nb t = 3 := by omega
      rcases hn3 with hn3 | hn3 | hn3
      · rw [hn3] at el ⊢
        rw [if_pos (by decide), el]
        all_goals (simp <;> omega)
      · rw [hn3] at el ⊢
        have e3 : low3 t / 256 = t := by rw [el]; simp
        have hz : t ≠ 0 := h0
        have hf : t * 2 ^ (8 * (2 + 1 - 3)) < 2 ^ 256 := by simpa using h
        have := (fits_iff _ _ hz).1 hf
        rw [if_neg (by decide), e3, if_neg (by omega)]
        simp
      · rw [hn3] at el ⊢
        have e3 : low3 t = t := by rw [el]; simp
        rw [e3] at hc hg hl ⊢
        have hz : t / 256 ≠ 0 := by omega
        have hf : t / 256 * 2 ^ (8 * (3 + 1 - 3)) < 2 ^ 256 := by simp; omega
        have := (fits_iff _ _ hz).1 hf
        rw [if_neg (by decide), if_neg (by omega)]
  · obtain ⟨e1, e2⟩ := s2 hc
    rw [e1, e2, if_neg hc]
    have hz : low3 t ≠ 0 := by omega
    by_cases h3 : 3 < nb t
    · have el : low3 t = t / 256 ^ (nb t - 3) := by unfold low3; rw [if_pos h3, ← p256]
      rw [if_neg (by omega)]
      have hf := div_mul_lt (k := nb t - 3) h
      rw [← el, p256] at hf
      have := (fits_iff _ _ hz).1 hf
      rw [if_neg (by omega), el, p256]
    · have el : low3 t = t * 256 ^ (3 - nb t) := by unfold low3; rw [if_neg h3, ← p256]
      have hn3 : nb t = 1 ∨ nb t = 2 ∨ nb t = 3 := by omega
      rcases hn3 with hn3 | hn3 | hn3
      · rw [hn3] at el ⊢
        rw [if_pos (by decide), el]
        simp
      · rw [hn3] at el ⊢
        rw [if_pos (by decide), el]
        simp
      · rw [hn3] at el ⊢
        have e3 : low3 t = t := by rw [el]; simp
        rw [e3] at hz ⊢
        have hf : t * 2 ^ (8 * (3 - 3)) < 2 ^ 256 := by simpa using h
        have := (fits_iff _ _ hz).1 hf
        rw [if_neg (by decide), if_neg (by omega)]
        simp
theorem drp_lt {t : Nat} (h0 : t ≠ 0) : drp t + 1 ≤ nb t := by
  have := nb_pos h0
  unfold drp
  split
  · rename_i h
    by_cases h1 : nb t = 1
    · omega
    · omega
  · omega
theorem cut_nb {t : Nat} (h0 : t ≠ 0) : nb (t / 256 ^ drp t * 256 ^ drp t) = nb t := by
  have hd := drp_lt h0
  refine nb_uniq (Nat.lt_of_le_of_lt (Nat.div_mul_le_self _ _) (nb_lt t)) fun hn => ?_
  have h1 := nb_ge h0
  have e : 256 ^ (nb t - 1) = 256 ^ (nb t - 1 - drp t) * 256 ^ drp t := by rw [← Nat.pow_add]; congr 1; omega
  rw [e] at h1 ⊢
  exact Nat.mul_le_mul_right _ ((Nat.le_div_iff_mul_le (p256_pos _)).2 h1)
theorem cpt_cut {t : Nat} (h0 : t ≠ 0) (_h : t < 2 ^ 256) : cpt (t / 256 ^ drp t * 256 ^ drp t) = cpt t := by
  have hn := cut_nb h0
  have hp := nb_pos h0
  have hg := low3_ge h0
  have hl := low3_lt t
  have key : low3 (t / 256 ^ drp t * 256 ^ drp t) = if 8388608 ≤ low3 t ∧ 3 ≤ nb t then low3 t / 256 * 256 else low3 t := by
    unfold low3
    rw [hn]
    by_cases h3 : 3 < nb t
    · rw [if_pos h3, if_pos h3, ← p256]
      by_cases hc : 8388608 ≤ t / 256 ^ (nb t - 3)
      · have hd : drp t = nb t - 3 + 1 := by unfold drp low3; rw [if_pos h3, ← p256, if_pos hc]; omega
        rw [if_pos ⟨hc, by omega⟩, hd, Nat.pow_succ, ← Nat.div_div_eq_div_mul, Nat.mul_comm (256 ^ (nb t - 3)) 256, ← Nat.mul_assoc, Nat.mul_div_cancel _ (p256_pos _)]
      · have hd : drp t = nb t - 3 := by unfold drp low3; rw [if_pos h3, ← p256, if_neg hc]
        rw [if_neg (fun h => hc h.1), hd, Nat.mul_div_cancel _ (p256_pos _)]
    · rw [if_neg h3, if_neg h3, ← p256]
      by_cases hc : 8388608 ≤ t * 256 ^ (3 - nb t) ∧ 3 ≤ nb t
      · have h3' : nb t = 3 := by omega
        have hd : drp t = 1 := by unfold drp low3; rw [if_neg h3, ← p256, if_pos hc.1]; omega
        rw [if_pos hc, hd, h3']; simp
      · rw [if_neg hc]
        have hd : drp t = 0 := by
          unfold drp low3
          rw [if_neg h3, ← p256]
          split
          · have : ¬ 3 ≤ nb t := fun hh => hc ⟨by assumption, hh⟩
            omega
          · omega
        rw [hd]; simp
  unfold cpt
  rw [hn]
  by_cases hc : 8388608 ≤ low3 t
  · by_cases h3 : 3 ≤ nb t
    · have k1 := key.trans (if_pos ⟨hc, h3⟩)
      rw [k1, if_pos (show 8388608 ≤ low3 t / 256 * 256 by omega), if_pos hc, Nat.mul_div_cancel _ (by decide)]
    · have k1 := key.trans (if_neg (fun h => h3 h.2))
      rw [k1]
  · have k1 := key.trans (if_neg (fun h => hc h.1))
    rw [k1]
theorem cut_ne {t : Nat} (h0 : t ≠ 0) : t / 256 ^ drp t * 256 ^ drp t ≠ 0 := by
  have h1 := nb_ge h0
  have hd := drp_lt h0
  have hp := p256_pos (drp t)
  have : 1 ≤ t / 256 ^ drp t := by
    rw [Nat.le_div_iff_mul_le hp, Nat.one_mul]
    exact Nat.le_trans (Nat.pow_le_pow_right (by decide) (by omega)) h1
  exact Nat.ne_of_gt (Nat.mul_pos this hp)
theorem ln_ge {t k : Nat} (h : 2 ^ k ≤ t) : k + 1 ≤ ln t := by
  refine Classical.byContradiction fun hn => ?_
  have := Nat.lt_of_lt_of_le (ln_spec t).1 (Nat.pow_le_pow_right (n := 2) (by decide) (show ln t ≤ k by omega))
  omega
theorem cut_ln {t : Nat} (h0 : t ≠ 0) : ln (t - t / 256 ^ drp t * 256 ^ drp t) ≤ ln t - 15 := by
  have hg := low3_ge h0
  have e : t - t / 256 ^ drp t * 256 ^ drp t = t % 256 ^ drp t := by
    have := Nat.div_add_mod t (256 ^ drp t)
    rw [Nat.mul_comm] at this
    omega
  rw [e]
  by_cases hd : drp t = 0
  · rw [hd, Nat.pow_zero, Nat.mod_one]; exact Nat.zero_le _
  · have h1 : ln (t % 256 ^ drp t) ≤ 8 * drp t := ln_le _ _ (by rw [← p256]; exact Nat.mod_lt _ (p256_pos _))
    have h2 : 8 * drp t + 16 ≤ ln t := by
      have hd2 : drp t = (if 8388608 ≤ low3 t then nb t - 2 else nb t - 3) := rfl
      by_cases h3 : 3 < nb t
      · have el : low3 t = t / 2 ^ (8 * (nb t - 3)) := by unfold low3; rw [if_pos h3]
        by_cases hc : 8388608 ≤ low3 t
        · rw [if_pos hc] at hd2
          rw [el, Nat.le_div_iff_mul_le (Nat.two_pow_pos _), show (8388608 : Nat) = 2 ^ 23 from rfl, ← Nat.pow_add] at hc
          have := ln_ge hc
          omega
        · rw [if_neg hc] at hd2
          rw [el, Nat.le_div_iff_mul_le (Nat.two_pow_pos _), show (65536 : Nat) = 2 ^ 16 from rfl, ← Nat.pow_add] at hg
          have := ln_ge hg
          omega
      · have h3' : nb t = 3 ∧ 8388608 ≤ low3 t := by
          by_cases hc : 8388608 ≤ low3 t
          · rw [if_pos hc] at hd2; exact ⟨by omega, hc⟩
          · rw [if_neg hc] at hd2; omega
        rw [if_pos h3'.2, h3'.1] at hd2
        have el : low3 t = t := by unfold low3; rw [h3'.1]; simp
        have := h3'.2
        rw [el, show (8388608 : Nat) = 2 ^ 23 from rfl] at this
        have := ln_ge this
        omega
    omega
/-- what bits tell has bits that tell it -/
theorem tgt_back {b : Nat} (_hb : b < 4294967296) (h0 : tgt b ≠ 0) : tgt (cpt (tgt b)) = tgt b := by
  have hlt := tgt_lt' b
  rw [tgt_cpt h0 hlt]
  have hdv : 256 ^ drp (tgt b) ∣ tgt b := by
    have hg := low3_ge h0
    have hm : b % 8388608 < 8388608 := Nat.mod_lt _ (by decide)
    by_cases h3 : b / 16777216 < 3
    · -- a small one
      have hs : tgt b < 65536 := by
        by_cases hq : b / 8388608 % 2 ≠ 0
        · unfold tgt; rw [if_pos hq]; decide
        · unfold tgt
          rw [if_neg hq, if_pos h3]
          rw [Nat.div_lt_iff_lt_mul (Nat.two_pow_pos _)]
          have : (2 : Nat) ^ 8 ≤ 2 ^ (8 * (3 - b / 16777216)) := Nat.pow_le_pow_right (by decide) (by omega)
          have := Nat.mul_le_mul_left 65536 this
          omega
      have hn : nb (tgt b) ≤ 2 := by
        refine Classical.byContradiction fun hn => ?_
        have h1 := nb_ge h0
        have := Nat.pow_le_pow_right (n := 256) (by decide) (show 2 ≤ nb (tgt b) - 1 by omega)
        omega
      have : drp (tgt b) = 0 := by unfold drp; split <;> omega
      rw [this, Nat.pow_zero]; exact Nat.one_dvd _
    · have et : tgt b = b % 8388608 * 256 ^ (b / 16777216 - 3) := by
        by_cases hq : b / 8388608 % 2 ≠ 0
        · exact absurd (by unfold tgt; rw [if_pos hq]) h0
        · by_cases h4 : 256 < ln (b % 8388608) + 8 * (b / 16777216 - 3)
          · exact absurd (by unfold tgt; rw [if_neg hq, if_neg h3, if_pos h4]) h0
          · unfold tgt; rw [if_neg hq, if_neg h3, if_neg h4, p256]
      generalize b / 16777216 = e at *
      generalize b % 8388608 = m at *
      have hne : nb (tgt b) ≤ e := by
        refine Classical.byContradiction fun hn => ?_
        have h1 := nb_ge h0
        rw [et] at h1
        have h2 := Nat.pow_le_pow_right (n := 256) (by decide) (show e ≤ nb (tgt b) - 1 by omega)
        rw [← et] at h1
        have h4 : m * 256 ^ (e - 3) < 256 ^ 3 * 256 ^ (e - 3) := Nat.mul_lt_mul_of_pos_right (by omega) (p256_pos _)
        rw [← Nat.pow_add, show 3 + (e - 3) = e by omega, ← et] at h4
        omega
      have hdr : drp (tgt b) ≤ e - 3 := by
        unfold drp
        split
        · rename_i hc
          by_cases hee : nb (tgt b) = e
          · have : low3 (tgt b) = m := by
              unfold low3
              rw [hee]
              split
              · rw [et, ← p256, Nat.mul_div_cancel _ (p256_pos _)]
              · have : e = 3 := by omega
                rw [et, this]; simp
            omega
          · omega
        · omega
      rw [et]
      exact Nat.dvd_trans (Nat.pow_dvd_pow 256 (by rw [et] at hdr; exact hdr)) (Nat.dvd_mul_left _ _)
  exact Nat.div_mul_cancel hdv
/-- work -/
def wrk (b : Nat) : Nat := if tgt b = 0 then 0 else 2 ^ 256 / (tgt b + 1)
theorem wrk_lt (b : Nat) : wrk b < 2 ^ 256 := by
  unfold wrk
  split
  · decide
  · rename_i h
    rw [Nat.div_lt_iff_lt_mul (by omega)]
    have : 2 ^ 256 * 2 ≤ 2 ^ 256 * (tgt b + 1) := Nat.mul_le_mul_left _ (by omega)
    omega
theorem wrk_prog {b d r q w : Nat} (h0 : tgt b ≠ 0) (hd : (tgt b + 1) % 2 ^ 256 = d) (hr : (0 + 2 ^ 256 - d) % 2 ^ 256 = r) (hq : r / d = q) (hw : (q + 1) % 2 ^ 256 = w) : w = wrk b := by
  have h1 := tgt_lt b
  have hlt := wrk_lt b
  unfold wrk at *
  rw [if_neg h0] at *
  rw [Nat.mod_eq_of_lt h1] at hd
  have e : r = 2 ^ 256 - d := by omega
  have e2 : 2 ^ 256 / d = (2 ^ 256 - d) / d + 1 := Nat.div_eq_sub_div (by omega) (by omega)
  rw [hd] at hlt ⊢
  rw [← e, hq] at e2
  rw [e2] at hlt ⊢
  rw [← hw, Nat.mod_eq_of_lt hlt]
/-- the greatest number, bit by bit -/
theorem wk_yes {Q k w : Nat} (h1 : 1 ≤ k) (hw : Q / 2 ^ k * 2 ^ k = w) (hle : w + 2 ^ (k - 1) ≤ Q) : Q / 2 ^ (k - 1) * 2 ^ (k - 1) = w + 2 ^ (k - 1) := by
  obtain ⟨i, rfl⟩ : ∃ i, k = i + 1 := ⟨k - 1, by omega⟩
  rw [Nat.add_sub_cancel] at *
  have hp := Nat.two_pow_pos i
  rw [Nat.pow_succ, ← Nat.div_div_eq_div_mul] at hw
  have d1 := Nat.div_add_mod Q (2 ^ i)
  have d2 := Nat.mod_lt Q hp
  generalize Q / 2 ^ i = y at *
  generalize Q % 2 ^ i = r at *
  generalize 2 ^ i = A at *
  have h3 : y % 2 = 1 := by
    refine Classical.byContradiction fun hn => ?_
    have e : y / 2 * (A * 2) = y * A := by rw [Nat.mul_comm A, ← Nat.mul_assoc, show y / 2 * 2 = y by omega]
    rw [e] at hw
    rw [Nat.mul_comm A] at d1
    omega
  have e : y * A = y / 2 * (A * 2) + A := by
    rw [Nat.mul_comm A, ← Nat.mul_assoc]
    have : y = y / 2 * 2 + 1 := by omega
    generalize y / 2 * 2 = z at *
    subst this
    rw [Nat.add_mul, Nat.one_mul]
  rw [e, hw]
theorem wk_no {Q k w : Nat} (h1 : 1 ≤ k) (hw : Q / 2 ^ k * 2 ^ k = w) (hle : ¬ w + 2 ^ (k - 1) ≤ Q) : Q / 2 ^ (k - 1) * 2 ^ (k - 1) = w := by
  obtain ⟨i, rfl⟩ : ∃ i, k = i + 1 := ⟨k - 1, by omega⟩
  rw [Nat.add_sub_cancel] at *
  have hp := Nat.two_pow_pos i
  rw [Nat.pow_succ, ← Nat.div_div_eq_div_mul] at hw
  have d1 := Nat.div_add_mod Q (2 ^ i)
  generalize Q / 2 ^ i = y at *
  generalize Q % 2 ^ i = r at *
  generalize 2 ^ i = A at *
  have h3 : y % 2 = 0 := by
    refine Classical.byContradiction fun hn => ?_
    have e : y * A = y / 2 * (A * 2) + A := by
      rw [Nat.mul_comm A, ← Nat.mul_assoc]
      have : y = y / 2 * 2 + 1 := by omega
      generalize y / 2 * 2 = z at *
      subst this
      rw [Nat.add_mul, Nat.one_mul]
    rw [Nat.mul_comm A] at d1
    omega
  rw [← hw, Nat.mul_comm A, ← Nat.mul_assoc, show y / 2 * 2 = y by omega]
theorem le_quot {x d Q : Nat} (hd : 0 < d) (hQ : 2 ^ 256 / d = Q) : x * d ≤ 2 ^ 256 ↔ x ≤ Q := by rw [← hQ, Nat.le_div_iff_mul_le hd]
theorem prod_le {x d l h : Nat} (hl : x * d % 2 ^ 256 = l) (hh : x * d / 2 ^ 256 = h) : (h = 0 ∨ h = 1 ∧ l = 0) ↔ x * d ≤ 2 ^ 256 := by
  generalize x * d = z at *
  omega
end Go.Proofs.Ytemacggbabiafaa
