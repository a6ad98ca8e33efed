/- Plain laws for the walks of the reference's numbers of 256 bits. No program here. -/
import Derived.Test.YtmpejkhffbonnaaDigP
namespace Go.Proofs.Ytmpejkhffbonnaa
theorem cap0 {κ : IntKind} {f : Nat → Nat} : (tab κ 0 f ++ []).length ≤ maxLen := Nat.zero_le _
/-- digits -/
theorem dig_lt {a i k x : Nat} (h : x = limN a i / 65536 ^ k) : x < 18446744073709551616 := by
  rw [h]; exact Nat.lt_of_le_of_lt (Nat.div_le_self _ _) (limN_lt a i)
theorem dig_app {a i k x : Nat} (hk : k < 4) (h : x = limN a i / 65536 ^ k) : dg a (4 * i + k) = x % 65536 := by rw [h]; exact (dg_lim a i k hk).symm
theorem dig_next {a i k x : Nat} (h : x = limN a i / 65536 ^ k) : x / 65536 = limN a i / 65536 ^ (k + 1) := by rw [h, Nat.div_div_eq_div_mul, Nat.pow_succ]
theorem dg_mod {n j : Nat} (h : j < 16) : dg (n % 2 ^ 256) j = dg n j := by
  unfold dg
  rw [← p6_16, show 16 = j + 1 + (15 - j) by omega, p6_add, p6_succ, Nat.mul_assoc, Nat.mod_mul_right_div_self, Nat.mod_mul_right_mod]
/-- put together -/
theorem whole_room {M k : Nat} {f : Nat → Nat} (h1 : 1 ≤ k) (h2 : k ≤ 16) (hf : ∀ j, j < 4 → f j = wf M k j) : f ((k - 1) / 4) < 281474976710656 := by
  rw [hf _ (by omega)]
  obtain ⟨i, rfl⟩ : ∃ i, k = i + 1 := ⟨k - 1, by omega⟩
  exact wf_room M i
theorem whole_step {M k X : Nat} {f : Nat → Nat} (h1 : 1 ≤ k) (h2 : k ≤ 16) (hf : ∀ j, j < 4 → f j = wf M k j) (hX : X = dg M (k - 1)) :
    ∀ j, j < 4 → upn f ((k - 1) / 4) (f ((k - 1) / 4) * 65536 + X) j = wf M (k - 1) j := by
  intro j hj
  obtain ⟨i, rfl⟩ : ∃ i, k = i + 1 := ⟨k - 1, by omega⟩
  have := wf_step M i j
  rw [Nat.add_sub_cancel] at hX ⊢
  rw [← this, hX, hf (i / 4) (by omega)]
  unfold upn
  split
  · rfl
  · exact hf j hj
theorem whole_x1 {M fr k : Nat} : dg M (fr + (k - 1)) = dg (M / p6 fr) (k - 1) := (dg_from M fr (k - 1)).symm
theorem whole_x0 {M n fr k : Nat} (hM : M < p6 n) (h : ¬ fr + (k - 1) < n) : 0 = dg (M / p6 fr) (k - 1) := by
  rw [dg_from, dg_high M n _ hM (by omega)]
theorem whole0 {s : Nat} (h : s < 2 ^ 256) : s / p6 0 % 2 ^ 256 = s := by
  have : p6 0 = 1 := rfl
  rw [this, Nat.div_one, Nat.mod_eq_of_lt h]
/-- sums -/
theorem mixs_at {s a k : Nat} : mixs s a k k = dg a k := by unfold mixs; rw [if_neg (by omega)]
theorem add_c {a b k c : Nat} {f : Nat → Nat} (hc : c = cyd a b k) (hf : f k = dg a k) : (c + f k + dg b k) / 65536 = cyd a b (k + 1) := by
  rw [← (cyd_step a b k).2, hf, hc]; exact congrArg (· / 65536) (by omega)
theorem add_f {a b k c : Nat} {f : Nat → Nat} (hk : k < 16) (hc : c = cyd a b k) (hf : ∀ j, j < 16 → f j = mixs (a + b) a k j) : ∀ j, j < 16 → upn f k ((c + f k + dg b k) % 65536) j = mixs (a + b) a (k + 1) j := by
  intro j hj
  have h1 := hf k hk
  rw [mixs_at] at h1
  rw [← mixs_step (a + b) a k ((c + f k + dg b k) % 65536) (by rw [← (cyd_step a b k).1, h1, hc]; exact congrArg (· % 65536) (by omega))]
  unfold upn
  split
  · rfl
  · exact hf j hj
theorem add_fin {a b s : Nat} {f : Nat → Nat} (hs : (a + b) % 2 ^ 256 = s) (hf : ∀ j, j < 16 → f j = mixs (a + b) a 16 j) : ∀ j, j < 16 → f j = dg s j := by
  intro j hj
  rw [hf j hj, ← hs, dg_mod hj]
  unfold mixs
  rw [if_pos hj]
theorem add_q {a b q : Nat} (ha : a < 2 ^ 256) (hb : b < 2 ^ 256) (hq : (a + b) / 2 ^ 256 = q) : cyd a b 16 = q := by
  unfold cyd; rw [p6_16, Nat.mod_eq_of_lt ha, Nat.mod_eq_of_lt hb, hq]
/-- differences -/
theorem sub_c {a b k c : Nat} {f : Nat → Nat} (hc : c = bwd a b k) (hf : f k = dg a k) : 1 - (f k + 65536 - dg b k - c) / 65536 = bwd a b (k + 1) := by
  rw [← bwd_step2, hf, hc]
  have h1 := dg_lt a k
  have h2 := dg_lt b k
  have h3 := bwd_le a b k
  split <;> omega
theorem sub_f {a b k c : Nat} {f : Nat → Nat} (hb : b < 2 ^ 256) (hk : k < 16) (hc : c = bwd a b k) (hf : ∀ j, j < 16 → f j = mixs (a + 2 ^ 256 - b) a k j) :
    ∀ j, j < 16 → upn f k ((f k + 65536 - dg b k - c) % 65536) j = mixs (a + 2 ^ 256 - b) a (k + 1) j := by
  intro j hj
  have h1 := hf k hk
  rw [mixs_at] at h1
  rw [← mixs_step (a + 2 ^ 256 - b) a k ((f k + 65536 - dg b k - c) % 65536) (by rw [← bwd_step1 a b k hb hk, h1, hc])]
  unfold upn
  split
  · rfl
  · exact hf j hj
theorem sub_fin {a b s : Nat} {f : Nat → Nat} (hs : (a + 2 ^ 256 - b) % 2 ^ 256 = s) (hf : ∀ j, j < 16 → f j = mixs (a + 2 ^ 256 - b) a 16 j) : ∀ j, j < 16 → f j = dg s j := by
  intro j hj
  rw [hf j hj, ← hs, dg_mod hj]
  unfold mixs
  rw [if_pos hj]
theorem sub_q {a b q : Nat} (ha : a < 2 ^ 256) (hb : b < 2 ^ 256) (hq : bor a b = q) : bwd a b 16 = q := by
  unfold bwd; rw [p6_16, Nat.mod_eq_of_lt ha, Nat.mod_eq_of_lt hb, ← hq]; rfl
/-- products -/
theorem mul_lt16 {x y : Nat} (hx : x < 65536) (hy : y < 65536) : x * y ≤ 4294836225 := by
  have := Nat.mul_le_mul (show x ≤ 65535 by omega) (show y ≤ 65535 by omega)
  omega
theorem mixd_at {V x b i k : Nat} : mixd V x b i k (i + k) = dg V (i + k) := by unfold mixd; rw [if_neg (by omega)]
theorem prod_c {V x b i k c : Nat} {f : Nat → Nat} (hx : x < 65536) (hf : f (i + k) = dg V (i + k)) (h : Ind V x b i k c) : Ind V x b i (k + 1) ((c + f (i + k) + x * dg b k) / 65536) := by
  rw [hf, show c + dg V (i + k) + x * dg b k = x * dg b k + dg V (i + k) + c by omega]
  exact (ind_step V x b i k c hx h).1
theorem prod_f {V x b i k c : Nat} {f : Nat → Nat} (hx : x < 65536) (hi : i + k < 32) (h : Ind V x b i k c) (hf : ∀ j, j < 32 → f j = mixd V x b i k j) :
    ∀ j, j < 32 → upn f (i + k) ((c + f (i + k) + x * dg b k) % 65536) j = mixd V x b i (k + 1) j := by
  intro j hj
  have h1 := hf _ hi
  rw [mixd_at] at h1
  rw [← mixd_step V x b i k c ((c + f (i + k) + x * dg b k) % 65536) hx h (by rw [h1]; exact congrArg (· % 65536) (by omega))]
  unfold upn
  split
  · rfl
  · exact hf j hj
theorem prod_f0 {a b i : Nat} {f : Nat → Nat} (hf : ∀ j, j < 32 → f j = dg (VD a b i) j) : ∀ j, j < 32 → f j = mixd (VD a b i) (dg a i) b i 0 j := by
  intro j hj
  rw [hf j hj]
  unfold mixd TD
  have : b % p6 0 = 0 := by unfold p6; simp [Nat.mod_one]
  rw [this]; simp
theorem prod_last {a b i c : Nat} {f : Nat → Nat} (hb : b < 2 ^ 256) (h : Ind (VD a b i) (dg a i) b i 16 c) (hf : ∀ j, j < 32 → f j = mixd (VD a b i) (dg a i) b i 16 j) :
    ∀ j, j < 32 → upn f (i + 16) c j = dg (VD a b (i + 1)) j := by
  intro j hj
  rw [← ind_last a b i c hb h]
  unfold upn
  split
  · rfl
  · exact hf j hj
theorem prod_0 {a b : Nat} : ∀ j, j < 32 → (fun _ => 0) j = dg (VD a b 0) j := fun j _ => by rw [VD_zero, dg_zero]
theorem prod_fin {a b : Nat} {f : Nat → Nat} (ha : a < 2 ^ 256) (hf : ∀ j, j < 32 → f j = dg (VD a b 16) j) : ∀ j, j < 32 → f j = dg (a * b) j := fun j hj => by rw [hf j hj, VD_all a b ha]
theorem prod_lt {a b : Nat} (ha : a < 2 ^ 256) (hb : b < 2 ^ 256) : a * b < p6 32 := by
  rw [show (32 : Nat) = 16 + 16 from rfl, p6_add]
  exact Nat.mul_lt_mul'' ha hb
theorem p6_0 : p6 0 = 1 := rfl
/-- bits -/
theorem bit_lim (a i : Nat) : limN a (i / 64) / 2 ^ (i % 64) % 2 = a / 2 ^ i % 2 := by
  unfold limN
  have e : a / 2 ^ i = a / 2 ^ (64 * (i / 64)) / 2 ^ (i % 64) := by rw [Nat.div_div_eq_div_mul, ← Nat.pow_add, Nat.div_add_mod]
  rw [e]
  generalize a / 2 ^ (64 * (i / 64)) = x
  have hk : i % 64 < 64 := Nat.mod_lt _ (by decide)
  generalize i % 64 = k at hk
  rw [show (64 : Nat) = k + 1 + (63 - k) by omega, Nat.pow_add, Nat.pow_succ, Nat.mul_assoc, Nat.mod_mul_right_div_self, Nat.mod_mul_right_mod]
theorem pow_lt64 {k : Nat} (h : k < 64) : 1 * 2 ^ k < 18446744073709551616 := by
  rw [Nat.one_mul]; exact Nat.pow_lt_pow_right (by decide) h
theorem pow_ne {k : Nat} : 1 * 2 ^ k ≠ 0 := by rw [Nat.one_mul]; exact Nat.ne_of_gt (Nat.two_pow_pos k)
theorem pow_mod64 {k : Nat} (h : k < 64) : 1 * 2 ^ k % 18446744073709551616 = 2 ^ k := by
  rw [Nat.mod_eq_of_lt (pow_lt64 h), Nat.one_mul]
/-- twice a number and a bit -/
theorem tw_limbs {a b : Nat} (hb : b ≤ 1) :
    [Value.int .u64 ((limN a 0 * 2 % 18446744073709551616 + b : Nat) : Int), .int .u64 ((limN a 1 * 2 % 18446744073709551616 + limN a 0 / 9223372036854775808 : Nat) : Int), .int .u64 ((limN a 2 * 2 % 18446744073709551616 + limN a 1 / 9223372036854775808 : Nat) : Int), .int .u64 ((limN a 3 * 2 % 18446744073709551616 + limN a 2 / 9223372036854775808 : Nat) : Int)] = Wl (2 * a + b) := by
  unfold Wl lim
  rw [show limN a 0 * 2 % 18446744073709551616 + b = (2 * a + b) / 2 ^ (64 * 0) % 2 ^ 64 by unfold limN; omega,
    show limN a 1 * 2 % 18446744073709551616 + limN a 0 / 9223372036854775808 = (2 * a + b) / 2 ^ (64 * 1) % 2 ^ 64 by unfold limN; omega,
    show limN a 2 * 2 % 18446744073709551616 + limN a 1 / 9223372036854775808 = (2 * a + b) / 2 ^ (64 * 2) % 2 ^ 64 by unfold limN; omega,
    show limN a 3 * 2 % 18446744073709551616 + limN a 2 / 9223372036854775808 = (2 * a + b) / 2 ^ (64 * 3) % 2 ^ 64 by unfold limN; omega]
theorem tw_c {a b c : Nat} (ha : a < 2 ^ 256) (hb : b ≤ 1) (hc : (2 * a + b) / 2 ^ 256 = c) : limN a 3 / 9223372036854775808 = c := by unfold limN; omega
/-- what is left, bit by bit -/
theorem rem_bit {N m r k b : Nat} (h1 : 1 ≤ k) (hr : N / 2 ^ k % m = r) (hb : N / 2 ^ (k - 1) % 2 = b) : N / 2 ^ (k - 1) % m = (2 * r + b) % m := by
  obtain ⟨i, rfl⟩ : ∃ i, k = i + 1 := ⟨k - 1, by omega⟩
  rw [Nat.add_sub_cancel] at *
  have e : N / 2 ^ i = 2 * (N / 2 ^ (i + 1)) + b := by
    rw [← hb, Nat.pow_succ, ← Nat.div_div_eq_div_mul]; omega
  rw [e, ← hr, Nat.add_mod, Nat.mul_mod, Nat.add_mod (2 * _), Nat.mul_mod 2 (_ % m), Nat.mod_mod]
theorem rem_no {m r b t c : Nat} (hr : r < m) (hm : m < 2 ^ 256) (hb : b ≤ 1) (ht : (2 * r + b) % 2 ^ 256 = t) (hc : (2 * r + b) / 2 ^ 256 = c) (h1 : ¬ c = 1) (h2 : ¬ m ≤ t) : (2 * r + b) % m = t := by
  have : 2 * r + b = t := by omega
  rw [this, Nat.mod_eq_of_lt (by omega)]
theorem rem_yes {m r b t c d : Nat} (hr : r < m) (hm : m < 2 ^ 256) (hb : b ≤ 1) (ht : (2 * r + b) % 2 ^ 256 = t) (hc : (2 * r + b) / 2 ^ 256 = c) (hd : (t + 2 ^ 256 - m) % 2 ^ 256 = d) (h : c = 1 ∨ m ≤ t) : (2 * r + b) % m = d := by
  have h1 : m ≤ 2 * r + b := by omega
  rw [Nat.mod_eq_sub_mod h1, Nat.mod_eq_of_lt (by omega)]
  omega
theorem half_hi {H L i : Nat} (hL : L < 2 ^ 256) (h : 256 ≤ i) (h2 : i < 512) : (H * 2 ^ 256 + L) / 2 ^ i % 2 = H / 2 ^ (i % 256) % 2 := by
  have e : 2 ^ i = 2 ^ 256 * 2 ^ (i % 256) := by rw [← Nat.pow_add]; congr 1; omega
  rw [e, ← Nat.div_div_eq_div_mul, Nat.add_comm, Nat.add_mul_div_right _ _ (Nat.two_pow_pos 256), Nat.div_eq_of_lt hL, Nat.zero_add]
theorem half_lo {H L i : Nat} (h : i < 256) : (H * 2 ^ 256 + L) / 2 ^ i % 2 = L / 2 ^ (i % 256) % 2 := by
  rw [Nat.mod_eq_of_lt h]
  have e : (2 : Nat) ^ 256 = 2 ^ (i + 1) * 2 ^ (255 - i) := by rw [← Nat.pow_add]; congr 1; omega
  rw [e, show H * (2 ^ (i + 1) * 2 ^ (255 - i)) = 2 ^ i * (2 * (H * 2 ^ (255 - i))) by rw [Nat.pow_succ]; grind, Nat.add_comm, Nat.add_mul_div_left _ _ (Nat.two_pow_pos i), Nat.add_mul_mod_self_left]
theorem bit_le {n j b : Nat} (h : n / 2 ^ j % 2 = b) : b ≤ 1 := by omega
theorem rem_start {N m : Nat} (h : N < 2 ^ 512) : N / 2 ^ 512 % m = 0 := by rw [Nat.div_eq_of_lt h, Nat.zero_mod]
theorem rem_N {H L : Nat} (hH : H < 2 ^ 256) (hL : L < 2 ^ 256) : H * 2 ^ 256 + L < 2 ^ 512 := by omega
/-- which one is greater -/
theorem cmp_next {a b k : Nat} (h1 : 1 ≤ k) (hq : a / 2 ^ (64 * k) = b / 2 ^ (64 * k)) (h : ¬ limN a (k - 1) < limN b (k - 1)) (h' : ¬ limN b (k - 1) < limN a (k - 1)) : a / 2 ^ (64 * (k - 1)) = b / 2 ^ (64 * (k - 1)) := by
  obtain ⟨i, rfl⟩ : ∃ i, k = i + 1 := ⟨k - 1, by omega⟩
  exact eq_of_top hq (Nat.le_antisymm (Nat.not_lt.1 h') (Nat.not_lt.1 h))
theorem cmp_hi {a b k : Nat} (h1 : 1 ≤ k) (hq : a / 2 ^ (64 * k) = b / 2 ^ (64 * k)) (h : limN a (k - 1) < limN b (k - 1)) : a < b := by
  obtain ⟨i, rfl⟩ : ∃ i, k = i + 1 := ⟨k - 1, by omega⟩
  exact lt_of_top hq h
section
variable {P : Program} {T : TypeId}
theorem cmpZ_ge (a b : Nat) : decide (cmpZ a b ≥ 0) = decide (b ≤ a) := by
  rw [Bool.eq_iff_iff]; simp only [decide_eq_true_eq]; unfold cmpZ; repeat' split
  all_goals omega
theorem cmpZ_lt (a b : Nat) : decide (cmpZ a b < 0) = decide (a < b) := by
  rw [Bool.eq_iff_iff]; simp only [decide_eq_true_eq]; unfold cmpZ; repeat' split
  all_goals omega
theorem cmpZ_gt (a b : Nat) : decide (cmpZ a b > 0) = decide (b < a) := by
  rw [Bool.eq_iff_iff]; simp only [decide_eq_true_eq]; unfold cmpZ; repeat' split
  all_goals omega
theorem cmpZ_le (a b : Nat) : decide (cmpZ a b ≤ 0) = decide (a ≤ b) := by
  rw [Bool.eq_iff_iff]; simp only [decide_eq_true_eq]; unfold cmpZ; repeat' split
  all_goals omega
theorem bin_cmp_geq (a b : Nat) (w : World) : (binOp .geq T (.int .i64 (cmpZ a b)) (.int .i64 0)).run P w = .ok (.bool (decide (b ≤ a))) w := by rw [← cmpZ_ge]; simp [binOp, Op.intCmp]
theorem bin_cmp_lss (a b : Nat) (w : World) : (binOp .lss T (.int .i64 (cmpZ a b)) (.int .i64 0)).run P w = .ok (.bool (decide (a < b))) w := by rw [← cmpZ_lt]; simp [binOp, Op.intCmp]
theorem bin_cmp_gtr (a b : Nat) (w : World) : (binOp .gtr T (.int .i64 (cmpZ a b)) (.int .i64 0)).run P w = .ok (.bool (decide (b < a))) w := by rw [← cmpZ_gt]; simp [binOp, Op.intCmp]
theorem bin_cmp_leq (a b : Nat) (w : World) : (binOp .leq T (.int .i64 (cmpZ a b)) (.int .i64 0)).run P w = .ok (.bool (decide (a ≤ b))) w := by rw [← cmpZ_le]; simp [binOp, Op.intCmp]
end
end Go.Proofs.Ytmpejkhffbonnaa
