/- Bits byte by byte; bytes turned; the laws of targets. No program here. -/
import Derived.Test.YtemacggbabiafaaTgtP
namespace Go.Proofs.Ytemacggbabiafaa
/-- an error's number -/
def ec (x : Nat) : Nat := if x = 0 then 3 else 0
theorem ec_zero {x : Nat} : ec x = 0 ↔ x ≠ 0 := by unfold ec; split <;> simp_all
theorem and_bit23 {x : Nat} : x &&& 8388608 = 8388608 * (x / 8388608 % 2) := by
  apply Nat.eq_of_testBit_eq
  intro i
  have e : (8388608 : Nat) = 2 ^ 23 := rfl
  rw [e, Nat.testBit_and, Nat.testBit_two_pow, Nat.testBit_two_pow_mul]
  by_cases hi : i = 23
  · subst hi
    simp [Nat.testBit, Nat.shiftRight_eq_div_pow]
  · have h1 : ¬ 23 = i := fun h => hi h.symm
    simp only [h1, decide_false, Bool.and_false]
    by_cases h2 : 23 ≤ i
    · have : x / 2 ^ 23 % 2 < 2 ^ (i - 23) := Nat.lt_of_lt_of_le (Nat.mod_lt _ (by decide)) (by
        have := Nat.pow_le_pow_right (n := 2) (by decide) (show 1 ≤ i - 23 by omega)
        simpa using this)
      rw [Nat.testBit_lt_two_pow this]; simp
    · simp [h2]
theorem tgt_sign {b : Nat} (h : 8388608 * (b / 8388608 % 2) ≠ 0) : tgt b = 0 := by unfold tgt; rw [if_pos (by omega)]
theorem tgt_small {b : Nat} (h : ¬ 8388608 * (b / 8388608 % 2) ≠ 0) (h2 : b / 16777216 < 3) : tgt b = b % 8388608 / 2 ^ (8 * (3 - b / 16777216)) := by
  unfold tgt; rw [if_neg (by omega), if_pos h2]
theorem tgt_long {b : Nat} (h : ¬ 8388608 * (b / 8388608 % 2) ≠ 0) (h2 : ¬ b / 16777216 < 3) (h3 : 256 < ln (b % 8388608) + 8 * (b / 16777216 - 3)) : tgt b = 0 := by
  unfold tgt; rw [if_neg (by omega), if_neg h2, if_pos h3]
theorem tgt_fit {b : Nat} (h : ¬ 8388608 * (b / 8388608 % 2) ≠ 0) (h2 : ¬ b / 16777216 < 3) (h3 : ¬ 256 < ln (b % 8388608) + 8 * (b / 16777216 - 3)) : tgt b = b % 8388608 * 2 ^ (8 * (b / 16777216 - 3)) % 2 ^ 256 := by
  have := tgt_lt' b
  unfold tgt at *
  rw [if_neg (by omega), if_neg h2, if_neg h3] at *
  rw [Nat.mod_eq_of_lt this]
/-- Compact -/
theorem low3_shr {t sh : Nat} (h : 3 < nb t) (hs : t / 2 ^ (8 * (nb t - 3)) = sh) : sh = low3 t := by unfold low3; rw [if_pos h, hs]
theorem low3_shl {t sh : Nat} (h : ¬ 3 < nb t) (hs : t * 2 ^ (8 * (3 - nb t)) % 2 ^ 256 = sh) : sh = low3 t := by
  have := low3_lt t
  unfold low3 at *
  rw [if_neg h] at *
  rw [← hs, Nat.mod_eq_of_lt (by omega)]
theorem low3_u32 {t sh : Nat} (h : sh = low3 t) : limN sh 0 % 4294967296 = low3 t := by
  have := low3_lt t
  rw [h]; unfold limN; omega
theorem or_24 {x y : Nat} (hx : x < 256) (hy : y < 16777216) : x * 2 ^ 24 % 4294967296 ||| y = x * 16777216 + y := by
  have e : x * 2 ^ 24 % 4294967296 = 2 ^ 24 * x := by omega
  rw [e, ← Nat.two_pow_add_eq_or_of_lt (i := 24) (by omega)]; omega
theorem or_24lt {x y : Nat} (hy : y < 16777216) : x * 2 ^ 24 % 4294967296 ||| y < 4294967296 := Nat.or_lt_two_pow (n := 32) (by omega) (by omega)
/-- bytes turned -/
def rvb (b : Nat → Nat) (j : Nat) : Nat := b (31 - j)
def rvf (b : Nat → Nat) (i j : Nat) : Nat := if j < i ∨ 31 - j < i then b (31 - j) else b j
theorem rvf_start {b : Nat → Nat} : ∀ j, j < 32 → b j = rvf b 0 j := fun j _ => by unfold rvf; rw [if_neg (by omega)]
theorem rvf_step {b f : Nat → Nat} {i : Nat} (hi : i < 31 - i) (hf : ∀ j, j < 32 → f j = rvf b i j) : ∀ j, j < 32 → upn (upn f i (f (31 - i))) (31 - i) (f i) j = rvf b (i + 1) j := by
  intro j hj
  have h1 := hf i (by omega)
  have h2 := hf (31 - i) (by omega)
  unfold rvf at h1 h2
  rw [if_neg (by omega)] at h1 h2
  unfold upn rvf
  by_cases e1 : j = 31 - i
  · rw [if_pos e1, if_pos (by omega), h1, e1]; congr 1; omega
  · rw [if_neg e1]
    by_cases e2 : j = i
    · rw [if_pos e2, if_pos (by omega), h2, e2]
    · rw [if_neg e2, hf j hj]
      unfold rvf
      by_cases e3 : j < i ∨ 31 - j < i
      · rw [if_pos e3, if_pos (by omega)]
      · rw [if_neg e3, if_neg (by omega)]
theorem rvf_fin {b f : Nat → Nat} {i : Nat} (hi : ¬ i < 31 - i) (hf : ∀ j, j < 32 → f j = rvf b i j) : ∀ j, j < 32 → f j = rvb b j := by
  intro j hj
  rw [hf j hj]; unfold rvf rvb; rw [if_pos (by omega)]
/-- the reference's bits: byte by byte -/
def mb (b t : Nat) : Nat := if t = 0 then b / 65536 % 128 else if t = 1 then b / 256 % 256 else b % 256
def epv (b t : Nat) : Nat := if t + 1 ≤ b / 16777216 ∧ b / 16777216 < 33 + t then mb b t * 256 ^ (b / 16777216 - 1 - t) else 0
def epx (b : Nat) : Nat → Nat
  | 0 => 0
  | i + 1 => epx b i + epv b i
def epk (b i : Nat) : Prop := ∀ t, t < i → 33 + t ≤ b / 16777216 → mb b t = 0
theorem mb_lt (b t : Nat) : mb b t < 256 := by
  unfold mb
  repeat' split
  all_goals omega
theorem byte_put {S c p : Nat} (hc : c < 256) (hp : p < 32) (hS : 256 ^ (p + 1) ∣ S) (hz : S < 2 ^ 256) : ∀ j, j < 32 → (if j = 31 - p then c else by8 S j) = by8 (S + c * 256 ^ p) j := by
  intro j hj
  obtain ⟨t, rfl⟩ := hS
  unfold by8
  have hpp := p256_pos p
  have e : 256 ^ (p + 1) * t + c * 256 ^ p = 256 ^ p * (256 * t + c) := by rw [Nat.pow_succ]; grind
  split
  · rename_i h
    rw [h, show 31 - (31 - p) = p by omega, e, Nat.mul_div_cancel_left _ hpp]
    omega
  · rename_i h
    rcases Nat.lt_or_ge (31 - j) p with h1 | h1
    · obtain ⟨d, hd⟩ : ∃ d, p = (31 - j) + 1 + d := ⟨p - (31 - j) - 1, by omega⟩
      rw [e, hd]
      have h2 : ∀ z, 256 ^ (31 - j + 1 + d) * z / 256 ^ (31 - j) % 256 = 0 := by
        intro z
        rw [Nat.pow_add, Nat.pow_add, Nat.mul_assoc, Nat.mul_assoc, Nat.mul_div_cancel_left _ (p256_pos _), Nat.pow_one, Nat.mul_mod_right]
      rw [show 256 ^ (31 - j + 1 + d + 1) * t = 256 ^ (31 - j + 1 + d) * (256 * t) by rw [Nat.pow_succ]; grind, h2, h2]
    · obtain ⟨d, hd⟩ : ∃ d, 31 - j = p + 1 + d := ⟨31 - j - p - 1, by omega⟩
      rw [hd, Nat.pow_add 256 (p + 1) d, ← Nat.div_div_eq_div_mul, ← Nat.div_div_eq_div_mul, Nat.mul_div_cancel_left _ (p256_pos _)]
      have : (256 ^ (p + 1) * t + c * 256 ^ p) / 256 ^ (p + 1) = t := by
        rw [Nat.mul_add_div (p256_pos _), Nat.div_eq_of_lt]
        · rfl
        · rw [Nat.pow_succ, Nat.mul_comm]; exact Nat.mul_lt_mul_of_pos_left hc hpp
      rw [this]
theorem epx_dvd (b : Nat) : ∀ i, i < b / 16777216 → 256 ^ (b / 16777216 - i) ∣ epx b i
  | 0, _ => Nat.dvd_zero _
  | i + 1, h => by
    rw [epx]
    refine Nat.dvd_add (Nat.dvd_trans (Nat.pow_dvd_pow 256 (by omega)) (epx_dvd b i (by omega))) ?_
    unfold epv
    split
    · rw [show b / 16777216 - (i + 1) = b / 16777216 - 1 - i by omega]; exact Nat.dvd_mul_left _ _
    · exact Nat.dvd_zero _
theorem epv_le {b t k : Nat} (h : b / 16777216 ≤ k + 1 + t) : epv b t ≤ 255 * 256 ^ k := by
  unfold epv
  split
  · exact Nat.mul_le_mul (by have := mb_lt b t; omega) (Nat.pow_le_pow_right (by decide) (by omega))
  · exact Nat.zero_le _
theorem epv_zero {b t : Nat} (h : 33 + t ≤ b / 16777216) : epv b t = 0 := by unfold epv; rw [if_neg (by omega)]
theorem epx_lt (b : Nat) : epx b 3 < 2 ^ 256 := by
  show 0 + epv b 0 + epv b 1 + epv b 2 < 2 ^ 256
  obtain ⟨A, hA⟩ : ∃ A, 256 ^ 29 = A := ⟨_, rfl⟩
  have e30 : 256 ^ 30 = A * 256 := by rw [← hA]
  have e31 : 256 ^ 31 = A * 65536 := by rw [← hA]
  have e32 : 2 ^ 256 = A * 16777216 := by rw [← hA]
  have hA0 : 0 < A := by rw [← hA]; exact p256_pos 29
  rw [e32]
  by_cases h1 : b / 16777216 ≤ 32
  · have a0 := epv_le (b := b) (t := 0) (k := 31) (by omega)
    have a1 := epv_le (b := b) (t := 1) (k := 30) (by omega)
    have a2 := epv_le (b := b) (t := 2) (k := 29) (by omega)
    rw [e31] at a0; rw [e30] at a1; rw [hA] at a2
    omega
  · rw [epv_zero (t := 0) (by omega)]
    by_cases h2 : b / 16777216 ≤ 33
    · have a1 := epv_le (b := b) (t := 1) (k := 31) (by omega)
      have a2 := epv_le (b := b) (t := 2) (k := 30) (by omega)
      rw [e31] at a1; rw [e30] at a2
      omega
    · rw [epv_zero (t := 1) (by omega)]
      by_cases h3 : b / 16777216 ≤ 34
      · have a2 := epv_le (b := b) (t := 2) (k := 31) (by omega)
        rw [e31] at a2
        omega
      · rw [epv_zero (t := 2) (by omega)]; omega
theorem epx_lt' {b i : Nat} (hi : i ≤ 3) : epx b i < 2 ^ 256 := by
  have h := epx_lt b
  have e : epx b 3 = 0 + epv b 0 + epv b 1 + epv b 2 := rfl
  have : i = 0 ∨ i = 1 ∨ i = 2 ∨ i = 3 := by omega
  rcases this with rfl | rfl | rfl | rfl
  · show 0 < _; exact Nat.two_pow_pos _
  · show 0 + epv b 0 < _; omega
  · show 0 + epv b 0 + epv b 1 < _; omega
  · exact h
theorem mb_sum (b : Nat) : b % 8388608 = mb b 0 * 65536 + mb b 1 * 256 + mb b 2 := by
  show _ = b / 65536 % 128 * 65536 + b / 256 % 256 * 256 + b % 256
  omega
theorem epx_val {b : Nat} (he : 3 ≤ b / 16777216) (hk : epk b 3) : epx b 3 = b % 8388608 * 256 ^ (b / 16777216 - 3) := by
  show 0 + epv b 0 + epv b 1 + epv b 2 = _
  have v : ∀ t, t < 3 → epv b t = mb b t * 256 ^ (b / 16777216 - 1 - t) := by
    intro t ht
    unfold epv
    split
    · rfl
    · rw [hk t ht (by omega), Nat.zero_mul]
  rw [v 0 (by omega), v 1 (by omega), v 2 (by omega), mb_sum]
  generalize b / 16777216 = e at *
  rw [show e - 1 - 0 = (e - 3) + 2 by omega, show e - 1 - 1 = (e - 3) + 1 by omega, show e - 1 - 2 = e - 3 by omega, Nat.pow_add, Nat.pow_add]
  generalize 256 ^ (e - 3) = A
  rw [Nat.add_mul, Nat.add_mul, Nat.zero_add, Nat.pow_one, show (256 : Nat) ^ 2 = 65536 from rfl]
  grind
theorem tgt_epx {b : Nat} (hs : ¬ b / 8388608 % 2 = 1) (hk : epk b 3) : tgt b = epx b 3 := by
  have hm := mb_sum b
  have m0 := mb_lt b 0
  have m1 := mb_lt b 1
  have m2 := mb_lt b 2
  unfold tgt
  rw [if_neg (by omega)]
  by_cases he : b / 16777216 < 3
  · rw [if_pos he, hm]
    show _ = 0 + epv b 0 + epv b 1 + epv b 2
    have h : b / 16777216 = 0 ∨ b / 16777216 = 1 ∨ b / 16777216 = 2 := by omega
    unfold epv
    rcases h with h | h | h
    · rw [h]; simp; omega
    · rw [h]; simp; omega
    · rw [h]; simp; omega
  · rw [if_neg he]
    have hv := epx_val (by omega) hk
    have hl := epx_lt b
    rw [hv] at hl ⊢
    by_cases h0 : b % 8388608 = 0
    · rw [h0, Nat.zero_mul, Nat.zero_mul]; split <;> rfl
    · rw [p256] at hl ⊢
      have := (fits_iff _ _ h0).1 hl
      rw [if_neg (by omega)]
theorem tgt_over {b t : Nat} (hs : ¬ b / 8388608 % 2 = 1) (ht : t < 3) (h : 33 + t ≤ b / 16777216) (hb : mb b t ≠ 0) : tgt b = 0 := by
  have hm := mb_sum b
  have h0 : b % 8388608 ≠ 0 := by
    have : t = 0 ∨ t = 1 ∨ t = 2 := by omega
    rcases this with rfl | rfl | rfl <;> omega
  unfold tgt
  rw [if_neg (by omega), if_neg (by omega), if_pos]
  refine Classical.byContradiction fun hn => ?_
  have h1 := (fits_iff _ (8 * (b / 16777216 - 3)) h0).2 (by omega)
  rw [← p256] at h1
  have h2 : 256 ^ (2 - t) ≤ b % 8388608 := by
    have : t = 0 ∨ t = 1 ∨ t = 2 := by omega
    rcases this with rfl | rfl | rfl
    · show 65536 ≤ _; omega
    · show 256 ≤ _; omega
    · show 1 ≤ _; omega
  have h3 := Nat.mul_le_mul_right (256 ^ (b / 16777216 - 3)) h2
  rw [← Nat.pow_add] at h3
  have h4 : 256 ^ 32 ≤ 256 ^ (2 - t + (b / 16777216 - 3)) := Nat.pow_le_pow_right (by decide) (by omega)
  have e : (256 : Nat) ^ 32 = 2 ^ 256 := by decide
  omega
theorem epk_zero (b : Nat) : epk b 0 := fun t h => by omega
theorem epk_step {b i : Nat} (hk : epk b i) (h : ¬ 33 + i ≤ b / 16777216 ∨ mb b i = 0) : epk b (i + 1) := by
  intro t ht h2
  by_cases hti : t = i
  · subst hti; exact h.resolve_left (fun hh => hh h2)
  · exact hk t (by omega) h2
/-- one byte laid, or none -/
theorem epx_put {b i p : Nat} {f : Nat → Nat} (hi : i < 3) (h1 : i + 1 ≤ b / 16777216) (h2 : b / 16777216 < 33 + i) (hp : p = b / 16777216 - 1 - i) (hf : ∀ j, j < 32 → f j = by8 (epx b i) j) :
    ∀ j, j < 32 → upn f (31 - p) (mb b i) j = by8 (epx b (i + 1)) j := by
  intro j hj
  have e : epx b (i + 1) = epx b i + mb b i * 256 ^ p := by rw [epx, epv, if_pos ⟨h1, h2⟩, hp]
  have hd := epx_dvd b i (by omega)
  rw [show b / 16777216 - i = p + 1 by omega] at hd
  rw [e, ← byte_put (mb_lt b i) (by omega) hd (epx_lt' (by omega)) j hj]
  unfold upn
  split
  · rfl
  · exact hf j hj
theorem epx_not {b i : Nat} {f : Nat → Nat} (h : ¬ (i + 1 ≤ b / 16777216 ∧ b / 16777216 < 33 + i)) (hf : ∀ j, j < 32 → f j = by8 (epx b i) j) : ∀ j, j < 32 → f j = by8 (epx b (i + 1)) j := by
  intro j hj
  rw [hf j hj, epx, epv, if_neg h, Nat.add_zero]
theorem any_put {b i : Nat} (h1 : i + 1 ≤ b / 16777216) (h2 : b / 16777216 < 33 + i) : decide (epx b (i + 1) ≠ 0) = (decide (epx b i ≠ 0) || decide (mb b i ≠ 0)) := by
  rw [epx, epv, if_pos ⟨h1, h2⟩]
  have := p256_pos (b / 16777216 - 1 - i)
  generalize 256 ^ (b / 16777216 - 1 - i) = A at *
  rw [Bool.eq_iff_iff]
  simp only [Bool.or_eq_true, decide_eq_true_eq]
  constructor
  · intro h
    by_cases hm : mb b i = 0
    · rw [hm, Nat.zero_mul] at h; left; simpa using h
    · exact .inr hm
  · rintro (h | h)
    · omega
    · have := Nat.mul_pos (Nat.pos_of_ne_zero h) this
      omega
theorem any_not {b i : Nat} (h : ¬ (i + 1 ≤ b / 16777216 ∧ b / 16777216 < 33 + i)) : decide (epx b (i + 1) ≠ 0) = decide (epx b i ≠ 0) := by
  rw [epx, epv, if_neg h, Nat.add_zero]
theorem read_epx {b : Nat} {f : Nat → Nat} (hf : ∀ j, j < 32 → f j = by8 (epx b 3) j) : pr f 0 32 = epx b 3 := by
  rw [pr_congr (c := by8 (epx b 3)) 32 (fun j _ h => hf j (by omega)), pr_by8_all (epx_lt b)]
/-- the reference's Compact -/
def cmx (t : Nat) : Nat → Nat
  | 0 => 0
  | i + 1 => cmx t i * 256 + (if i < nb t then by8 t (32 - nb t + i) else 0)
theorem cmx_le (t i : Nat) : cmx t (i + 1) ≤ cmx t i * 256 + 255 := by
  rw [cmx]
  split
  · have := by8_lt t (32 - nb t + i); omega
  · omega
theorem cmx_lt {t i : Nat} (h : i < 3) : cmx t i < 65536 := by
  have h0 : cmx t 0 = 0 := rfl
  have h1 := cmx_le t 0
  have h2 := cmx_le t 1
  rw [Nat.zero_add] at h1
  rw [show 1 + 1 = 2 from rfl] at h2
  have hc : i = 0 ∨ i = 1 ∨ i = 2 := by omega
  rcases hc with rfl | rfl | rfl <;> omega
theorem cmx_yes {t i : Nat} (h : i < nb t) : cmx t (i + 1) = cmx t i * 256 + by8 t (32 - nb t + i) := by rw [cmx, if_pos h]
theorem cmx_no {t i : Nat} (h : ¬ i < nb t) : cmx t (i + 1) = cmx t i * 256 := by rw [cmx, if_neg h, Nat.add_zero]
theorem by8_bd {f : Nat → Nat} {V : Nat} (hf : ∀ j, j < 32 → f j = by8 V j) : ∀ j, j < 32 → f j < 256 := fun j hj => by rw [hf j hj]; exact by8_lt _ _
theorem bin_subI {P : Program} {T : TypeId} {x y : Int} (h1 : -9223372036854775808 ≤ x - y) (h2 : x - y ≤ 9223372036854775807) (w : World) : (binOp .sub T (.int .i64 x) (.int .i64 y)).run P w = .ok (.int .i64 (x - y)) w := by
  have e : IntKind.i64.wrap (x - y) = x - y := by simp [IntKind.wrap, IntKind.bits, IntKind.signed]; omega
  simp [binOp, Op.intArith, e]
theorem copy_step {b f : Nat → Nat} {i : Nat} (hf : ∀ j, j < i → f j = b j) : ∀ j, j < i + 1 → upn f i (b i) j = b j := by
  intro j hj
  unfold upn
  by_cases h : j = i
  · rw [if_pos h, h]
  · rw [if_neg h]; exact hf j (by omega)
theorem cmx_low {t : Nat} (h : t < 2 ^ 256) : cmx t 3 = low3 t := by
  have hn := nb_le h
  have hl := nb_lt t
  show ((0 * 256 + (if 0 < nb t then by8 t (32 - nb t + 0) else 0)) * 256 + (if 1 < nb t then by8 t (32 - nb t + 1) else 0)) * 256 + (if 2 < nb t then by8 t (32 - nb t + 2) else 0) = _
  unfold low3 by8
  by_cases h3 : 2 < nb t
  · rw [if_pos (by omega), if_pos (by omega), if_pos h3]
    rw [show 31 - (32 - nb t + 0) = (nb t - 3) + 2 by omega, show 31 - (32 - nb t + 1) = (nb t - 3) + 1 by omega, show 31 - (32 - nb t + 2) = nb t - 3 by omega, Nat.pow_add, Nat.pow_add, ← Nat.div_div_eq_div_mul, ← Nat.div_div_eq_div_mul]
    have hx : t / 256 ^ (nb t - 3) < 16777216 := by
      rw [Nat.div_lt_iff_lt_mul (p256_pos _), show (16777216 : Nat) = 256 ^ 3 from rfl, ← Nat.pow_add, show 3 + (nb t - 3) = nb t by omega]; exact hl
    have e : (if 3 < nb t then t / 2 ^ (8 * (nb t - 3)) else t * 2 ^ (8 * (3 - nb t))) = t / 256 ^ (nb t - 3) := by
      split
      · rw [p256]
      · rw [show nb t = 3 by omega]; simp
    rw [e]
    generalize t / 256 ^ (nb t - 3) = x at *
    rw [Nat.pow_one, show (256 : Nat) ^ 2 = 65536 from rfl]
    omega
  · rw [if_neg h3, if_neg (show ¬ 3 < nb t by omega)]
    have hc : nb t = 0 ∨ nb t = 1 ∨ nb t = 2 := by omega
    rcases hc with hc | hc | hc
    · rw [hc] at hl ⊢
      have : t = 0 := by simpa using hl
      subst this; simp
    · rw [hc] at hl ⊢
      simp at hl ⊢
      rw [Nat.mod_eq_of_lt hl]; omega
    · rw [hc] at hl ⊢
      have hl : t < 65536 := hl
      simp
      omega
/-- whether a hash meets bits -/
def mts (f : Nat → Nat) (b : Nat) : Bool := decide (tgt b ≠ 0) && decide (pr (rvb f) 0 32 ≤ tgt b)
/-- the bits behind a window -/
def nxw (b : Nat) (span : Int) : Nat := tgt b / 4800 * (min (max span 1200) 19200).toNat
def nxt (b : Nat) (span : Int) : Nat := if tgt b = 0 then 545259519 else if tgt 545259519 < nxw b span then cpt (tgt 545259519) else cpt (nxw b span)
theorem rvb_lt {b : Nat → Nat} (hb : ∀ j, j < 32 → b j < 256) : ∀ j, j < 32 → rvb b j < 256 := fun j _ => hb (31 - j) (by omega)
section
variable {b q x S lo hi x2 : Nat} {n : Int}
theorem nxt_none (hx : tgt b = x) (h : x = 0) : nxt b n = 545259519 := by unfold nxt; rw [hx, if_pos h]
theorem nxw_eq (hx : tgt b = x) (hq : x / 4800 = q) (hS : min (max n 1200) 19200 = (S : Int)) : nxw b n = q * S := by unfold nxw; rw [hx, hq, hS]; rfl
theorem nxt_easy (hx : tgt b = x) (h0 : ¬ x = 0) (hq : x / 4800 = q) (hS : min (max n 1200) 19200 = (S : Int)) (hlo : q * S % 2 ^ 256 = lo) (hhi : q * S / 2 ^ 256 = hi) (h2 : tgt 545259519 = x2) (hc : hi ≠ 0 ∨ x2 < lo) : nxt b n = cpt x2 := by
  have hl : x2 < 2 ^ 256 := h2 ▸ tgt_lt' _
  unfold nxt
  rw [nxw_eq hx hq hS, hx, if_neg h0, h2, if_pos]
  generalize q * S = z at *
  omega
theorem nxt_low (hx : tgt b = x) (h0 : ¬ x = 0) (hq : x / 4800 = q) (hS : min (max n 1200) 19200 = (S : Int)) (hlo : q * S % 2 ^ 256 = lo) (hhi : q * S / 2 ^ 256 = hi) (h2 : tgt 545259519 = x2) (hc : ¬ hi ≠ 0) (hc2 : ¬ x2 < lo) : nxt b n = cpt lo := by
  unfold nxt
  rw [nxw_eq hx hq hS, hx, if_neg h0, h2]
  have e : q * S = lo := by
    generalize q * S = z at *
    omega
  rw [e, if_neg hc2]
end
theorem rwk_s {Q k w sh s2 : Nat} (h1 : 1 ≤ k) (hk : k ≤ 256) (hQ : Q < 2 ^ 256) (hw : Q / 2 ^ k * 2 ^ k = w) (hsh : 1 * 2 ^ (k - 1) % 2 ^ 256 = sh) (hs : (w + sh) % 2 ^ 256 = s2) : s2 = w + 2 ^ (k - 1) := by
  have e1 : sh = 2 ^ (k - 1) := by rw [← hsh, Nat.one_mul, Nat.mod_eq_of_lt (Nat.pow_lt_pow_right (by decide) (by omega))]
  have e2 : (2 : Nat) ^ 256 = 2 ^ (256 - k) * 2 ^ k := by rw [← Nat.pow_add]; congr 1; omega
  have e3 : Q / 2 ^ k < 2 ^ (256 - k) := by rw [Nat.div_lt_iff_lt_mul (Nat.two_pow_pos k), ← e2]; exact hQ
  have e4 : (Q / 2 ^ k + 1) * 2 ^ k ≤ 2 ^ 256 := by rw [e2]; exact Nat.mul_le_mul_right _ e3
  have e5 : (2 : Nat) ^ k = 2 * 2 ^ (k - 1) := by rw [← Nat.pow_succ']; congr 1; omega
  have e6 := Nat.two_pow_pos (k - 1)
  rw [Nat.add_mul, hw] at e4
  rw [← hs, e1, Nat.mod_eq_of_lt (by omega)]
theorem rwk_yes {d Q k w sh s2 l h : Nat} (hd : 0 < d) (hQ : 2 ^ 256 / d = Q) (hQ2 : Q < 2 ^ 256) (h1 : 1 ≤ k) (hk : k ≤ 256) (hw : Q / 2 ^ k * 2 ^ k = w) (hsh : 1 * 2 ^ (k - 1) % 2 ^ 256 = sh) (hs : (w + sh) % 2 ^ 256 = s2)
    (hl : s2 * d % 2 ^ 256 = l) (hh : s2 * d / 2 ^ 256 = h) (hy : h = 0 ∨ h = 1 ∧ l = 0) : Q / 2 ^ (k - 1) * 2 ^ (k - 1) = s2 := by
  have e := rwk_s h1 hk hQ2 hw hsh hs
  rw [e]
  exact wk_yes h1 hw ((le_quot hd hQ).1 (e ▸ (prod_le hl hh).1 hy))
theorem rwk_no {d Q k w sh s2 l h : Nat} (hd : 0 < d) (hQ : 2 ^ 256 / d = Q) (hQ2 : Q < 2 ^ 256) (h1 : 1 ≤ k) (hk : k ≤ 256) (hw : Q / 2 ^ k * 2 ^ k = w) (hsh : 1 * 2 ^ (k - 1) % 2 ^ 256 = sh) (hs : (w + sh) % 2 ^ 256 = s2)
    (hl : s2 * d % 2 ^ 256 = l) (hh : s2 * d / 2 ^ 256 = h) (hy : ¬ (h = 0 ∨ h = 1 ∧ l = 0)) : Q / 2 ^ (k - 1) * 2 ^ (k - 1) = w := by
  have e := rwk_s h1 hk hQ2 hw hsh hs
  exact wk_no h1 hw fun hle => hy ((prod_le hl hh).2 (e ▸ (le_quot hd hQ).2 hle))
theorem rwk_start {Q : Nat} (h : Q < 2 ^ 256) : Q / 2 ^ 256 * 2 ^ 256 = 0 := by rw [Nat.div_eq_of_lt h, Nat.zero_mul]
theorem rwk_fin {b x d w : Nat} (hx : tgt b = x) (h0 : ¬ x = 0) (hd : (x + 1) % 2 ^ 256 = d) (hw : 2 ^ 256 / d / 2 ^ 0 * 2 ^ 0 = w) : wrk b = w := by
  have := tgt_lt b
  unfold wrk
  rw [hx] at *
  rw [if_neg h0, ← hw, ← hd, Nat.mod_eq_of_lt this, Nat.pow_zero, Nat.div_one, Nat.mul_one]
theorem rwk_d {b x d : Nat} (hx : tgt b = x) (h0 : ¬ x = 0) (hd : (x + 1) % 2 ^ 256 = d) : 0 < d ∧ 2 ^ 256 / d < 2 ^ 256 := by
  have := tgt_lt b
  rw [hx] at this
  rw [Nat.mod_eq_of_lt this] at hd
  refine ⟨by omega, ?_⟩
  rw [Nat.div_lt_iff_lt_mul (by omega)]
  have : 2 ^ 256 * 2 ≤ 2 ^ 256 * d := Nat.mul_le_mul_left _ (by omega)
  omega
/-- the law of what is harder -/
theorem wrk_mono {a b : Nat} (ha : tgt a ≠ 0) (h : tgt a ≤ tgt b) : wrk b ≤ wrk a := by
  unfold wrk
  rw [if_neg (by omega), if_neg ha, Nat.le_div_iff_mul_le (by omega)]
  have h1 := Nat.div_mul_le_self (2 ^ 256) (tgt b + 1)
  have h2 := Nat.mul_le_mul_left (2 ^ 256 / (tgt b + 1)) (show tgt a + 1 ≤ tgt b + 1 by omega)
  omega
theorem mts_mono {f : Nat → Nat} {a b : Nat} (h : tgt a ≤ tgt b) (hm : mts f a = true) : mts f b = true := by
  unfold mts at *
  simp only [Bool.and_eq_true, decide_eq_true_eq] at *
  omega
theorem mts_zero {f : Nat → Nat} {a : Nat} (h : tgt a = 0) : mts f a = false := by unfold mts; rw [h]; simp
theorem wrk_fits {b d w l h : Nat} (h0 : tgt b ≠ 0) (hd : (tgt b + 1) % 2 ^ 256 = d) (hw : wrk b = w) (hl : w * d % 2 ^ 256 = l) (hh : w * d / 2 ^ 256 = h) : h = 0 ∨ h = 1 ∧ l = 0 := by
  refine (prod_le hl hh).2 ?_
  have := tgt_lt b
  rw [Nat.mod_eq_of_lt this] at hd
  rw [← hw, ← hd, wrk, if_neg h0]
  exact Nat.div_mul_le_self _ _
theorem wrk_above {b d w m l h : Nat} (h0 : tgt b ≠ 0) (hd : (tgt b + 1) % 2 ^ 256 = d) (hw : wrk b = w) (hm : (w + 1) % 2 ^ 256 = m) (hl : m * d % 2 ^ 256 = l) (hh : m * d / 2 ^ 256 = h) : 1 < h ∨ h = 1 ∧ l ≠ 0 := by
  have h1 := tgt_lt b
  rw [Nat.mod_eq_of_lt h1] at hd
  have h2 : w < 2 ^ 255 + 1 := by
    rw [← hw, wrk, if_neg h0, Nat.div_lt_iff_lt_mul (by omega)]
    have : (2 ^ 255 + 1) * 2 ≤ (2 ^ 255 + 1) * (tgt b + 1) := Nat.mul_le_mul_left _ (by omega)
    omega
  rw [Nat.mod_eq_of_lt (by omega)] at hm
  have h3 : 2 ^ 256 < m * d := by
    rw [← hm, ← hw, ← hd, wrk, if_neg h0, Nat.mul_comm]
    exact Nat.lt_mul_div_succ _ (by omega)
  generalize m * d = z at *
  omega
theorem cut_le (t : Nat) : t / 256 ^ drp t * 256 ^ drp t ≤ t := Nat.div_mul_le_self _ _
end Go.Proofs.Ytemacggbabiafaa
