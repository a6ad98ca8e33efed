/- Inverses by halving and taking away; what bytes tell. No program here. -/
import Derived.Test.YtmpejkhffbonnaaRef06P
namespace Go.Proofs.Ytmpejkhffbonnaa
/-- half of a number modulo an odd one -/
def hfm (a m : Nat) : Nat := (if a % 2 = 1 then a + m else a) / 2
theorem or_lt64 {x y : Nat} (hx : x < 18446744073709551616) (hy : y < 18446744073709551616) : x ||| y < 18446744073709551616 := Nat.or_lt_two_pow (n := 64) hx hy
theorem half_or {x y : Nat} (hx : x < 9223372036854775808) : x ||| y * 2 ^ 63 % 18446744073709551616 = x + 9223372036854775808 * (y % 2) := by
  have e : y * 2 ^ 63 % 18446744073709551616 = 2 ^ 63 * (y % 2) := by omega
  rw [e, Nat.or_comm, ← Nat.two_pow_add_eq_or_of_lt (i := 63) (by omega)]
  omega
theorem half_limbs {s c : Nat} (hs : s < 2 ^ 256) (hc : c ≤ 1) :
    [Value.int .u64 ((limN s 0 / 2 ^ 1 ||| limN s 1 * 2 ^ 63 % 18446744073709551616 : Nat) : Int), .int .u64 ((limN s 1 / 2 ^ 1 ||| limN s 2 * 2 ^ 63 % 18446744073709551616 : Nat) : Int), .int .u64 ((limN s 2 / 2 ^ 1 ||| limN s 3 * 2 ^ 63 % 18446744073709551616 : Nat) : Int), .int .u64 ((limN s 3 / 2 ^ 1 ||| c * 2 ^ 63 % 18446744073709551616 : Nat) : Int)] = Wl ((s + 2 ^ 256 * c) / 2) := by
  have h0 := limN_lt s 0
  have h1 := limN_lt s 1
  have h2 := limN_lt s 2
  have h3 := limN_lt s 3
  rw [half_or (by omega), half_or (by omega), half_or (by omega), half_or (by omega)]
  unfold Wl lim
  rw [show limN s 0 / 2 ^ 1 + 9223372036854775808 * (limN s 1 % 2) = (s + 2 ^ 256 * c) / 2 / 2 ^ (64 * 0) % 2 ^ 64 by unfold limN; omega,
    show limN s 1 / 2 ^ 1 + 9223372036854775808 * (limN s 2 % 2) = (s + 2 ^ 256 * c) / 2 / 2 ^ (64 * 1) % 2 ^ 64 by unfold limN; omega,
    show limN s 2 / 2 ^ 1 + 9223372036854775808 * (limN s 3 % 2) = (s + 2 ^ 256 * c) / 2 / 2 ^ (64 * 2) % 2 ^ 64 by unfold limN; omega,
    show limN s 3 / 2 ^ 1 + 9223372036854775808 * (c % 2) = (s + 2 ^ 256 * c) / 2 / 2 ^ (64 * 3) % 2 ^ 64 by unfold limN; omega]
theorem lim_odd (a : Nat) : limN a 0 % 2 = a % 2 := by unfold limN; omega
theorem hf_yes {a m s c h : Nat} (hh : hfm a m = h) (hs : (a + m) % 2 ^ 256 = s) (hc : (a + m) / 2 ^ 256 = c) (ho : limN a 0 % 2 = 1) : (s + 2 ^ 256 * c) / 2 = h := by
  rw [lim_odd] at ho
  rw [← hh, hfm, if_pos ho, ← hs, ← hc, Nat.mod_add_div]
theorem hf_no {a m h : Nat} (hh : hfm a m = h) (ho : ¬ limN a 0 % 2 = 1) : (a + 2 ^ 256 * 0) / 2 = h := by
  rw [lim_odd] at ho
  rw [← hh, hfm, if_neg ho]; rfl
theorem hfm_lt {a m : Nat} (h : a < m) : hfm a m < m := by unfold hfm; split <;> omega
theorem hfm_even {u m : Nat} (h : u % 2 = 0) : hfm u m = u / 2 := by unfold hfm; rw [if_neg (by omega)]

/-- what is so in each round -/
structure Bg (a m k u v x y : Nat) : Prop where
  hx : x < m
  hy : y < m
  hu : u ≤ m
  hv : v ≤ m
  vo : v % 2 = 1
  ux : x * a % m = u % m
  vy : y * a % m = v % m
  g : Nat.gcd u v = 1
  bits : ∃ i j, u < 2 ^ i ∧ v < 2 ^ j ∧ 2 * (i + j) + u % 2 + k ≤ 1025
theorem Bg.le {a m k u v x y : Nat} (h : Bg a m k u v x y) : k ≤ 1025 := by
  obtain ⟨i, j, _, _, h⟩ := h.bits; omega
theorem bg_start {a m : Nat} (h1 : 1 < m) (hm : m < 2 ^ 256) (ho : m % 2 = 1) (ha : a < m) (hg : Nat.gcd a m = 1) : Bg a m 0 a m 1 0 :=
  ⟨h1, by omega, Nat.le_of_lt ha, Nat.le_refl _, ho, by rw [Nat.one_mul], by rw [Nat.zero_mul, Nat.mod_self, Nat.zero_mod], hg, 256, 256, by omega, hm, by omega⟩
theorem cancel2 {m x y : Nat} (ho : m % 2 = 1) (h : 2 * x % m = 2 * y % m) : x % m = y % m := by
  have e : ∀ z, ((m + 1) / 2) * (2 * z) % m = z % m := by
    intro z
    have e1 : (m + 1) / 2 * (2 * z) = z + m * z := by
      rw [← Nat.mul_assoc, show (m + 1) / 2 * 2 = m + 1 by omega, Nat.add_mul, Nat.one_mul, Nat.add_comm]
    rw [e1, Nat.add_mul_mod_self_left]
  rw [← e x, ← e y, Nat.mul_mod, h, ← Nat.mul_mod]
theorem hfm_mod {x m a u : Nat} (ho : m % 2 = 1) (he : u % 2 = 0) (h : x * a % m = u % m) : hfm x m * a % m = u / 2 % m := by
  refine cancel2 ho ?_
  rw [show 2 * (u / 2) = u by omega, ← h, ← Nat.mul_assoc]
  unfold hfm
  split
  · rw [show 2 * ((x + m) / 2) = x + m by omega, Nat.add_mul, Nat.add_mul_mod_self_left]
  · rw [show 2 * (x / 2) = x by omega]
theorem bg_even {a m k u v x y : Nat} (ho : m % 2 = 1) (h : Bg a m k u v x y) (h0 : u ≠ 0) (he : u % 2 = 0) : Bg a m (k + 1) (hfm u m) v (hfm x m) y := by
  rw [hfm_even he]
  obtain ⟨hx, hy, hu, hv, vo, ux, vy, hg, i, j, bi, bj, hb⟩ := h
  refine ⟨hfm_lt hx, hy, by omega, hv, vo, hfm_mod ho he ux, vy, ?_, i - 1, j, ?_, bj, ?_⟩
  · have hd : Nat.gcd (u / 2) v ∣ Nat.gcd u v := Nat.dvd_gcd (Nat.dvd_trans (Nat.gcd_dvd_left _ _) ⟨2, by omega⟩) (Nat.gcd_dvd_right _ _)
    rw [hg] at hd
    exact Nat.dvd_one.1 hd
  · cases i with
    | zero => omega
    | succ i => rw [Nat.pow_succ] at bi; rw [Nat.add_sub_cancel]; omega
  · cases i with
    | zero => omega
    | succ i => omega
theorem sub_modm {x y m a u v : Nat} (hy : y < m) (h1 : x * a % m = u % m) (h2 : y * a % m = v % m) (hle : v ≤ u) : (x + m - y) % m * a % m = (u - v) % m := by
  rw [Nat.mod_mul_mod]
  have e : ((x + m - y) * a + y * a) % m = ((u - v) + v) % m := by
    rw [← Nat.add_mul, Nat.sub_add_cancel hle, show x + m - y + y = x + m by omega, Nat.add_mul, Nat.add_mul_mod_self_left, h1]
  have c : ∀ p q : Nat, (p + y * a) % m = (q + v) % m → p % m = q % m := by
    intro p q hpq
    have hlt := Nat.mod_lt v (show 0 < m by omega)
    have e1 : (p + y * a) % m = (p + v % m) % m := by rw [Nat.add_mod, h2, ← Nat.add_mod, ← Nat.add_mod_mod]
    have e2 : (q + v) % m = (q + v % m) % m := by rw [Nat.add_mod_mod]
    rw [e1, e2] at hpq
    have e3 : ∀ r : Nat, (r + v % m + (m - v % m)) % m = r % m := by
      intro r
      rw [show r + v % m + (m - v % m) = r + m by omega, Nat.add_mod_right]
    rw [← e3 p, ← e3 q, Nat.add_mod, hpq, ← Nat.add_mod]
  exact c _ _ e
theorem bg_ge {a m k u v x y : Nat} (h : Bg a m k u v x y) (hodd : u % 2 = 1) (hge : ¬ u < v) : Bg a m (k + 1) (u - v) v ((x + m - y) % m) y := by
  obtain ⟨hx, hy, hu, hv, vo, ux, vy, hg, i, j, bi, bj, hb⟩ := h
  refine ⟨Nat.mod_lt _ (by omega), hy, by omega, hv, vo, sub_modm hy ux vy (by omega), vy, ?_, i, j, by omega, bj, by omega⟩
  have e : u = u - v + v := by omega
  rw [e, Nat.gcd_add_self_left] at hg
  exact hg
theorem bg_lt {a m k u v x y : Nat} (h : Bg a m k u v x y) (hodd : u % 2 = 1) (hlt : u < v) : Bg a m (k + 1) (v - u) u ((y + m - x) % m) x := by
  obtain ⟨hx, hy, hu, hv, vo, ux, vy, hg, i, j, bi, bj, hb⟩ := h
  refine ⟨Nat.mod_lt _ (by omega), hx, by omega, hu, hodd, sub_modm hx vy ux (by omega), ux, ?_, j, i, by omega, bi, by omega⟩
  have e : v = v - u + u := by omega
  rw [e, Nat.gcd_add_self_right, Nat.gcd_comm] at hg
  exact hg
theorem bg_end {a m k v x y : Nat} (h1 : 1 < m) (h : Bg a m k 0 v x y) : y < m ∧ y * a % m = 1 := by
  have hg := h.g
  rw [Nat.gcd_zero_left] at hg
  refine ⟨h.hy, ?_⟩
  rw [h.vy, hg, Nat.mod_eq_of_lt h1]
theorem less_mod {x y m z b : Nat} (hx : x < m) (hy : y < m) (hm : m < 2 ^ 256) (hz : (x + 2 ^ 256 - y) % 2 ^ 256 = z) (hb : bor x y = b) (h : ¬ b = 1) : z = (x + m - y) % m := by
  have : ¬ x < y := fun hh => h (by rw [← hb]; unfold bor; rw [if_pos hh])
  rw [← hz, show x + 2 ^ 256 - y = (x - y) + 2 ^ 256 by omega, show x + m - y = (x - y) + m by omega, Nat.add_mod_right, Nat.add_mod_right, Nat.mod_eq_of_lt (by omega), Nat.mod_eq_of_lt (by omega)]
theorem less_mod2 {x y m z z2 b : Nat} (hx : x < m) (hy : y < m) (hm : m < 2 ^ 256) (hz : (x + 2 ^ 256 - y) % 2 ^ 256 = z) (hb : bor x y = b) (h : b = 1) (hz2 : (z + m) % 2 ^ 256 = z2) : z2 = (x + m - y) % m := by
  have : x < y := by
    rcases Nat.lt_or_ge x y with hh | hh
    · exact hh
    · unfold bor at hb; rw [if_neg (by omega)] at hb; omega
  rw [← hz2, ← hz, Nat.mod_add_mod, show x + 2 ^ 256 - y + m = (x + m - y) + 2 ^ 256 by omega, Nat.add_mod_right, Nat.mod_eq_of_lt (by omega), Nat.mod_eq_of_lt (by omega)]
theorem less_val {u v d : Nat} (hu : u < 2 ^ 256) (hd : (u + 2 ^ 256 - v) % 2 ^ 256 = d) (h : ¬ u < v) : d = u - v := by omega
theorem bor_one {u v b : Nat} (hb : bor u v = b) : b = 1 ↔ u < v := by
  rw [← hb]; unfold bor; split <;> simp_all

/-- what bytes tell, the highest first -/
def pr (b : Nat → Nat) (lo : Nat) : Nat → Nat
  | 0 => 0
  | n + 1 => pr b lo n * 256 + b (lo + n)
theorem pr_add (b : Nat → Nat) (lo n : Nat) : ∀ m, pr b lo (n + m) = pr b lo n * 256 ^ m + pr b (lo + n) m
  | 0 => by simp [pr]
  | m + 1 => by
    rw [← Nat.add_assoc, pr, pr, pr_add b lo n m, Nat.pow_succ, Nat.add_mul, Nat.mul_assoc, Nat.add_assoc lo n m, Nat.add_assoc]
theorem pr_lt (b : Nat → Nat) (hb : ∀ j, b j < 256) (lo : Nat) : ∀ n, pr b lo n < 256 ^ n
  | 0 => by simp [pr]
  | n + 1 => by
    have := pr_lt b hb lo n
    have h2 := hb (lo + n)
    rw [pr, Nat.pow_succ]
    omega
theorem pr_congr {b c : Nat → Nat} {lo : Nat} : ∀ n, (∀ j, lo ≤ j → j < lo + n → b j = c j) → pr b lo n = pr c lo n
  | 0, _ => rfl
  | n + 1, h => by rw [pr, pr, pr_congr n (fun j h1 h2 => h j h1 (by omega)), h (lo + n) (by omega) (by omega)]
theorem pr_lt32 {b : Nat → Nat} (hb : ∀ j, j < 32 → b j < 256) : pr b 0 32 < 2 ^ 256 := by
  rw [pr_congr (c := fun j => if j < 32 then b j else 0) 32 (fun j _ h => by simp at h; simp [h])]
  refine Nat.lt_of_lt_of_le (pr_lt _ (fun j => ?_) 0 32) (by decide)
  show (if j < 32 then b j else 0) < 256
  split
  · exact hb j (by assumption)
  · decide
theorem hfm_lt256 {a m : Nat} (ha : a < 2 ^ 256) (hm : m < 2 ^ 256) : hfm a m < 2 ^ 256 := by unfold hfm; split <;> omega
/-- one byte more: a number whose lower places are free -/
theorem limN_byte {S c k j : Nat} (hc : c < 256) (hk : k < 32) (hS : 256 ^ (k + 1) ∣ S) :
    limN (S + c * 256 ^ k) j = if j = k / 8 then limN S j ||| c * 2 ^ (8 * (k % 8)) % 18446744073709551616 else limN S j := by
  obtain ⟨t, rfl⟩ := hS
  have e256 : ∀ n, (256 : Nat) ^ n = 2 ^ (8 * n) := fun n => by rw [show (256 : Nat) = 2 ^ 8 from rfl, ← Nat.pow_mul]
  have hk8 : k % 8 < 8 := Nat.mod_lt _ (by decide)
  have hkd : 8 * k = 64 * (k / 8) + 8 * (k % 8) := by omega
  generalize hm : k / 8 = m at hkd ⊢
  generalize hs : k % 8 = s at hkd hk8 ⊢
  have hsm : c * 2 ^ (8 * s) < 18446744073709551616 := by
    have h1 : c * 2 ^ (8 * s) < 2 ^ 8 * 2 ^ (8 * s) := Nat.mul_lt_mul_of_pos_right hc (Nat.two_pow_pos _)
    rw [← Nat.pow_add] at h1
    have h2 : (2 : Nat) ^ (8 + 8 * s) ≤ 2 ^ 64 := Nat.pow_le_pow_right (by decide) (by omega)
    omega
  rw [e256, e256, Nat.mod_eq_of_lt hsm]
  unfold limN
  have eS : 2 ^ (8 * (k + 1)) * t = 2 ^ (64 * m) * (2 ^ (8 * s + 8) * t) := by
    rw [← Nat.mul_assoc, ← Nat.pow_add]; congr 2; omega
  have eC : c * 2 ^ (8 * k) = 2 ^ (64 * m) * (c * 2 ^ (8 * s)) := by rw [hkd, Nat.pow_add]; grind
  by_cases hj : j = m
  · rw [if_pos hj, hj, eS, eC, ← Nat.mul_add, Nat.mul_div_cancel_left _ (Nat.two_pow_pos _), Nat.mul_div_cancel_left _ (Nat.two_pow_pos _)]
    have hlt : c * 2 ^ (8 * s) < 2 ^ (8 * s + 8) := by rw [Nat.pow_add, Nat.mul_comm]; exact Nat.mul_lt_mul_of_pos_left hc (Nat.two_pow_pos _)
    have h64 : (2 : Nat) ^ 64 = 2 ^ (8 * s + 8) * 2 ^ (56 - 8 * s) := by rw [← Nat.pow_add]; congr 1; omega
    have e1 : 2 ^ (8 * s + 8) * t % 2 ^ 64 = 2 ^ (8 * s + 8) * (t % 2 ^ (56 - 8 * s)) := by rw [h64, Nat.mul_mod_mul_left]
    rw [e1, ← Nat.two_pow_add_eq_or_of_lt hlt, ← e1, Nat.add_mod, Nat.mod_eq_of_lt (a := c * 2 ^ (8 * s)) hsm, Nat.mod_eq_of_lt]
    rw [e1, h64]
    generalize hD : 2 ^ (8 * s + 8) = D at *
    generalize hE : 2 ^ (56 - 8 * s) = E at *
    have hE0 : 0 < E := by rw [← hE]; exact Nat.two_pow_pos _
    have h3 : t % E + 1 ≤ E := Nat.mod_lt _ hE0
    have h4 := Nat.mul_le_mul_left D h3
    rw [Nat.mul_add] at h4
    omega
  · rw [if_neg hj]
    rcases Nat.lt_or_ge j m with h | h
    · have z : ∀ x, 2 ^ (64 * m) * x / 2 ^ (64 * j) % 2 ^ 64 = 0 := by
        intro x
        obtain ⟨d, rfl⟩ : ∃ d, m = j + 1 + d := ⟨m - j - 1, by omega⟩
        rw [show 64 * (j + 1 + d) = 64 * j + (64 + 64 * d) by omega, Nat.pow_add, Nat.mul_assoc, Nat.mul_div_cancel_left _ (Nat.two_pow_pos _), Nat.pow_add, Nat.mul_assoc, Nat.mul_mod_right]
      rw [eS, eC, ← Nat.mul_add, z, z]
    · have hle : 8 * (k + 1) ≤ 64 * j := by omega
      have ed : (2 : Nat) ^ (64 * j) = 2 ^ (8 * (k + 1)) * 2 ^ (64 * j - 8 * (k + 1)) := by rw [← Nat.pow_add]; congr 1; omega
      have hlt : c * 2 ^ (8 * k) < 2 ^ (8 * (k + 1)) := by
        rw [show 8 * (k + 1) = 8 * k + 8 by omega, Nat.pow_add, Nat.mul_comm]; exact Nat.mul_lt_mul_of_pos_left hc (Nat.two_pow_pos _)
      rw [ed, ← Nat.div_div_eq_div_mul, ← Nat.div_div_eq_div_mul, Nat.add_comm, Nat.add_mul_div_left _ _ (Nat.two_pow_pos _), Nat.div_eq_of_lt hlt, Nat.zero_add, Nat.mul_div_cancel_left _ (Nat.two_pow_pos _)]
theorem read_start {b : Nat → Nat} : ∀ j, j < 4 → (fun _ => 0) j = limN (pr b 0 0 * 256 ^ (32 - 0)) j := fun j _ => by simp [pr, limN]
theorem read_lt {f : Nat → Nat} {n : Nat} (hf : ∀ j, j < 4 → f j = limN n j) (j : Nat) (h : j < 4) : f j < 18446744073709551616 := by rw [hf j h]; exact limN_lt n j
theorem read_step {b : Nat → Nat} {i : Nat} {f : Nat → Nat} (h : i < 32) (hb : b i < 256) (hf : ∀ j, j < 4 → f j = limN (pr b 0 i * 256 ^ (32 - i)) j) :
    ∀ j, j < 4 → upn f ((31 - i) / 8) (f ((31 - i) / 8) ||| b i * 2 ^ (8 * ((31 - i) % 8)) % 18446744073709551616) j = limN (pr b 0 (i + 1) * 256 ^ (32 - (i + 1))) j := by
  intro j hj
  have e : pr b 0 (i + 1) * 256 ^ (32 - (i + 1)) = pr b 0 i * 256 ^ (32 - i) + b i * 256 ^ (31 - i) := by
    rw [pr, Nat.zero_add, show 32 - i = (31 - i) + 1 by omega, show 32 - (i + 1) = 31 - i by omega, Nat.pow_succ]
    grind
  rw [e, limN_byte hb (by omega) ⟨pr b 0 i, by rw [show 31 - i + 1 = 32 - i by omega, Nat.mul_comm]⟩]
  unfold upn
  split
  · rename_i h1; rw [h1, hf _ (by omega)]
  · exact hf j hj
theorem rread_start {b : Nat → Nat} : ∀ j, j < 4 → (fun _ => 0) j = pr b (8 * (3 - j)) (min 8 (0 - 8 * (3 - j))) := fun j _ => by simp [pr]
theorem rread_at {i : Nat} (h : i < 32) : 8 * (3 - (3 - i / 8)) = 8 * (i / 8) ∧ min 8 (i - 8 * (i / 8)) = i % 8 := by omega
theorem rread_room {b : Nat → Nat} {i : Nat} {f : Nat → Nat} (hb : ∀ j, j < 32 → b j < 256) (h : i < 32) (hf : ∀ j, j < 4 → f j = pr b (8 * (3 - j)) (min 8 (i - 8 * (3 - j)))) : f (3 - i / 8) < 72057594037927936 := by
  obtain ⟨e1, e2⟩ := rread_at h
  rw [hf _ (by omega), e1, e2, pr_congr (c := fun j => if j < 32 then b j else 0) _ (fun j _ hj => by rw [if_pos (by omega)])]
  refine Nat.lt_of_lt_of_le (pr_lt _ (fun j => ?_) _ _) (Nat.le_trans (Nat.pow_le_pow_right (by decide) (show i % 8 ≤ 7 by omega)) (by decide))
  show (if j < 32 then b j else 0) < 256
  split
  · exact hb j (by assumption)
  · decide
theorem rread_step {b : Nat → Nat} {i : Nat} {f : Nat → Nat} (h : i < 32) (hf : ∀ j, j < 4 → f j = pr b (8 * (3 - j)) (min 8 (i - 8 * (3 - j)))) :
    ∀ j, j < 4 → upn f (3 - i / 8) (f (3 - i / 8) * 256 + b i) j = pr b (8 * (3 - j)) (min 8 (i + 1 - 8 * (3 - j))) := by
  intro j hj
  obtain ⟨e1, e2⟩ := rread_at h
  unfold upn
  by_cases hji : j = 3 - i / 8
  · rw [if_pos hji, hji, hf _ (by omega), e1, e2, show min 8 (i + 1 - 8 * (i / 8)) = i % 8 + 1 by omega, pr, show 8 * (i / 8) + i % 8 = i by omega]
  · rw [if_neg hji, hf j hj]
    congr 1
    omega
theorem rread_fin {b : Nat → Nat} {a j : Nat} (hb : ∀ j, j < 32 → b j < 256) (hx : pr b 0 32 = a) (hj : j < 4) : pr b (8 * (3 - j)) (min 8 (32 - 8 * (3 - j))) = limN a j := by
  have hc : ∀ lo n, lo + n ≤ 32 → pr b lo n < 256 ^ n := by
    intro lo n h
    rw [pr_congr (c := fun j => if j < 32 then b j else 0) _ (fun j _ hj => by rw [if_pos (by omega)])]
    refine pr_lt _ (fun j => ?_) _ _
    show (if j < 32 then b j else 0) < 256
    split
    · exact hb j (by assumption)
    · decide
  have h0 := hc 0 8 (by omega)
  have h1 := hc 8 8 (by omega)
  have h2 := hc 16 8 (by omega)
  have h3 := hc 24 8 (by omega)
  have e : a = pr b 0 8 * 2 ^ 192 + pr b 8 8 * 2 ^ 128 + pr b 16 8 * 2 ^ 64 + pr b 24 8 := by
    rw [← hx, show (32 : Nat) = 8 + 8 + 8 + 8 from rfl, pr_add, pr_add, pr_add]
    simp only [Nat.zero_add, show (8 : Nat) + 8 = 16 from rfl, show (16 : Nat) + 8 = 24 from rfl]
    have : (256 : Nat) ^ 8 = 2 ^ 64 := by decide
    rw [this]
    omega
  have h64 : (256 : Nat) ^ 8 = 2 ^ 64 := by decide
  rw [h64] at h0 h1 h2 h3
  rw [e]
  unfold limN
  match j, hj with
  | 0, _ => show pr b 24 8 = _; omega
  | 1, _ => show pr b 16 8 = _; omega
  | 2, _ => show pr b 8 8 = _; omega
  | 3, _ => show pr b 0 8 = _; omega
end Go.Proofs.Ytmpejkhffbonnaa
