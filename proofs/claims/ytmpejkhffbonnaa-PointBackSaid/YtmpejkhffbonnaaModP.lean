/- Sums, differences modulo a number between 2^255 and 2^256. No program here. -/
import Derived.Test.YtmpejkhffbonnaaRefP
namespace Go.Proofs.Ytmpejkhffbonnaa
section
variable {N a b x y s c d q : Nat}
theorem bor_iff : bor a b = 1 ↔ a < b := by unfold bor; split <;> simp_all
theorem mod2 (h : x < 2 * N) : x % N = if x < N then x else x - N := by
  split
  · exact Nat.mod_eq_of_lt (by assumption)
  · rw [Nat.mod_eq_sub_mod (by omega), Nat.mod_eq_of_lt (by omega)]
variable (h1 : 2 ^ 255 < N) (h2 : N < 2 ^ 256)
include h1 h2
theorem rred_lo (ha : a < 2 ^ 256) (hq : bor a N = q) (h : q = 1) : a = a % N := by
  rw [mod2 (x := a) (by omega), if_pos (bor_iff.1 (hq.trans h))]
theorem rred_hi (ha : a < 2 ^ 256) (hd : (a + 2 ^ 256 - N) % 2 ^ 256 = d) (hq : bor a N = q) (h : q ≠ 1) : d = a % N := by
  have : ¬ a < N := fun hh => h (hq ▸ bor_iff.2 hh)
  rw [mod2 (x := a) (by omega), if_neg this, ← hd, show a + 2 ^ 256 - N = (a - N) + 2 ^ 256 by omega, Nat.add_mod_right, Nat.mod_eq_of_lt (by omega)]
theorem radd_c (hx : x < N) (hy : y < N) (hs : (x + y) % 2 ^ 256 = s) (hc : (x + y) / 2 ^ 256 = c) (hd : (s + 2 ^ 256 - N) % 2 ^ 256 = d) (h : c = 1) : d = (x + y) % N := by
  rw [mod2 (x := x + y) (by omega), if_neg (by omega), ← hd]
  have e : s = x + y - 2 ^ 256 := by omega
  rw [e, show x + y - 2 ^ 256 + 2 ^ 256 - N = x + y - N by omega, Nat.mod_eq_of_lt (by omega)]
theorem radd_b (hx : x < N) (hy : y < N) (hs : (x + y) % 2 ^ 256 = s) (hc : (x + y) / 2 ^ 256 = c) (hd : (s + 2 ^ 256 - N) % 2 ^ 256 = d) (hq : bor s N = q) (h : ¬ c = 1) (h0 : q = 0) : d = (x + y) % N := by
  have hge : ¬ s < N := fun hh => by have := bor_iff.2 hh; omega
  have e : s = x + y := by omega
  rw [mod2 (x := x + y) (by omega), if_neg (by omega), ← hd, e, show x + y + 2 ^ 256 - N = (x + y - N) + 2 ^ 256 by omega, Nat.add_mod_right, Nat.mod_eq_of_lt (by omega)]
theorem radd_s (hx : x < N) (hy : y < N) (hs : (x + y) % 2 ^ 256 = s) (hc : (x + y) / 2 ^ 256 = c) (hq : bor s N = q) (h : ¬ c = 1) (h0 : ¬ q = 0) : s = (x + y) % N := by
  have e : s = x + y := by omega
  have hlt : s < N := by
    rcases Nat.lt_or_ge s N with hh | hh
    · exact hh
    · unfold bor at hq; rw [if_neg (by omega)] at hq; omega
  rw [mod2 (x := x + y) (by omega), if_pos (by omega), e]
end
end Go.Proofs.Ytmpejkhffbonnaa
