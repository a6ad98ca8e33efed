/- The order of the curve; sums, products modulo it, by the ways the program takes. No program here. -/
import Derived.Test.YtmpejkhffbonnaaWMul
import Derived.Test.YtmpejkhffbonnaaWEq
import Derived.Test.YtmpejkhffbonnaaGoW
namespace Go.Proofs.Ytmpejkhffbonnaa
open Go.RowKit

def Nord : Nat := 115792089237316195423570985008687907852837564279074904382605163141518161494337
def Nov : Nat := 432420386565659656852420866394968145599
theorem Nord_lt : Nord < 2 ^ 256 := by decide
theorem Nov_lt : Nov < 2 ^ 256 := by decide
theorem Nord_big : 2 ^ 255 < Nord := by decide
theorem Nov_eq : Nord + Nov = 2 ^ 256 := by decide

theorem add_at (w : World) (a b d c : Nat) (ha : a < 2 ^ 256) (hb : b < 2 ^ 256) (hd : (a + b) % 2 ^ 256 = d) (hc : (a + b) / 2 ^ 256 = c) :
    Calls Try.prog 53 #[W a, W b] w fun e w' => e = .returned (.tuple #[W d, .int .u64 (c : Int)]) ∧ Below w.heap.size w w' :=
  (add_any w a b ha hb).mono fun e w' ⟨h1, h2⟩ => ⟨by rw [h1, hd, hc], h2⟩
theorem mul_hi {a b : Nat} (ha : a < 2 ^ 256) (hb : b < 2 ^ 256) : a * b / 2 ^ 256 < 2 ^ 256 := by
  rw [Nat.div_lt_iff_lt_mul (Nat.two_pow_pos 256)]
  exact Nat.mul_lt_mul'' ha hb
theorem wmul_at (w : World) (a b l h : Nat) (ha : a < 2 ^ 256) (hb : b < 2 ^ 256) (hl : a * b % 2 ^ 256 = l) (hh : a * b / 2 ^ 256 = h) :
    Calls Try.prog 56 #[W a, W b] w fun e w' => e = .returned (.tuple #[W l, W h]) ∧ Below w.heap.size w w' :=
  (mul_any w a b ha hb).mono fun e w' ⟨h1, h2⟩ => ⟨by rw [h1]; unfold mulV; rw [← hl, ← hh, W_mod], h2⟩

theorem red_no {a c : Nat} (hc : bor a Nord = c) (h : decide (c = 0) = false) : a = a % Nord := by
  unfold bor at hc
  have : c ≠ 0 := of_decide_eq_false h
  split at hc
  · exact (Nat.mod_eq_of_lt (by assumption)).symm
  · omega
theorem red_yes {a c d : Nat} (ha : a < 2 ^ 256) (hd : (a + 2 ^ 256 - Nord) % 2 ^ 256 = d) (hc : bor a Nord = c) (h : decide (c = 0) = true) : d = a % Nord := by
  have h1 := Nord_big
  have h2 := Nord_lt
  unfold bor at hc
  have h0 : c = 0 := of_decide_eq_true h
  split at hc
  · omega
  · rw [Nat.mod_eq_sub_mod (by omega), Nat.mod_eq_of_lt (a := a - Nord) (by omega), ← hd]
    have e : a + 2 ^ 256 - Nord = (a - Nord) + 2 ^ 256 := by omega
    rw [e, Nat.add_mod_right, Nat.mod_eq_of_lt (by omega)]
theorem add_no {a b s c : Nat} (hs : (a % Nord + b % Nord) % 2 ^ 256 = s) (hc : (a % Nord + b % Nord) / 2 ^ 256 = c) (h : decide (c ≠ 0) = false) : s % Nord = (a + b) % Nord := by
  have h0 : c = 0 := Classical.not_not.1 (of_decide_eq_false h)
  have h2 : a % Nord + b % Nord < 2 ^ 256 := by
    rcases Nat.lt_or_ge (a % Nord + b % Nord) (2 ^ 256) with h | h
    · exact h
    · have := Nat.div_pos h (Nat.two_pow_pos 256); omega
  rw [← hs, Nat.mod_eq_of_lt h2, ← Nat.add_mod]
theorem add_yes {a b s c t : Nat} (hs : (a % Nord + b % Nord) % 2 ^ 256 = s) (hc : (a % Nord + b % Nord) / 2 ^ 256 = c) (ht : (s + Nov) % 2 ^ 256 = t) (h : decide (c ≠ 0) = true) : t % Nord = (a + b) % Nord := by
  have h0 : c ≠ 0 := of_decide_eq_true h
  have l1 := Nat.mod_lt a (show 0 < Nord by decide)
  have l2 := Nat.mod_lt b (show 0 < Nord by decide)
  have hN := Nord_lt
  have hE := Nov_eq
  rw [Nat.add_mod a b]
  generalize a % Nord = x at *
  generalize b % Nord = y at *
  have hge : 2 ^ 256 ≤ x + y := by
    rcases Nat.lt_or_ge (x + y) (2 ^ 256) with h | h
    · have := Nat.div_eq_of_lt h; omega
    · exact h
  have e1 : s = x + y - 2 ^ 256 := by
    rw [← hs, Nat.mod_eq_sub_mod hge, Nat.mod_eq_of_lt (by omega)]
  have e2 : t = x + y - Nord := by
    rw [← ht, Nat.mod_eq_of_lt (by omega)]
    omega
  rw [e2, ← Nat.mod_eq_sub_mod (by omega)]
theorem neg_eq {a d : Nat} (hd : (Nord + 2 ^ 256 - a % Nord) % 2 ^ 256 = d) : d % Nord = (Nord - a % Nord) % Nord := by
  have l1 := Nat.mod_lt a (show 0 < Nord by decide)
  have hN := Nord_lt
  rw [← hd, show Nord + 2 ^ 256 - a % Nord = (Nord - a % Nord) + 2 ^ 256 by omega, Nat.add_mod_right, Nat.mod_eq_of_lt (a := Nord - a % Nord) (b := 2 ^ 256) (by omega)]
/-- one folding -/
theorem fold_eq {lo hi f t s c h2 : Nat} (l2 : hi < 2 ^ 256) (hf : hi * Nov % 2 ^ 256 = f) (ht : hi * Nov / 2 ^ 256 = t) (hs : (lo + f) % 2 ^ 256 = s) (hc : (lo + f) / 2 ^ 256 = c) (hh : (t + c) % 2 ^ 256 = h2) (l1 : lo < 2 ^ 256) :
    s + 2 ^ 256 * h2 = lo + hi * Nov := by
  have e1 := Nat.div_add_mod (hi * Nov) (2 ^ 256)
  have e2 := Nat.div_add_mod (lo + f) (2 ^ 256)
  rw [hf, ht] at e1
  rw [hs, hc] at e2
  have lf : f < 2 ^ 256 := by rw [← hf]; exact Nat.mod_lt _ (Nat.two_pow_pos 256)
  have hprod : hi * Nov < 2 ^ 256 * Nov := Nat.mul_lt_mul_of_pos_right l2 (by decide)
  have lt : t < Nov := by
    rw [← ht, Nat.div_lt_iff_lt_mul (Nat.two_pow_pos 256), Nat.mul_comm Nov]
    exact hprod
  have lc : c ≤ 1 := by omega
  have : t + c < 2 ^ 256 := by have := Nov_lt; omega
  rw [Nat.mod_eq_of_lt this] at hh
  rw [← hh, Nat.mul_add]
  omega
theorem fold_mod {lo hi s h2 : Nat} (h : s + 2 ^ 256 * h2 = lo + hi * Nov) : (s + 2 ^ 256 * h2) % Nord = (lo + 2 ^ 256 * hi) % Nord := by
  rw [h, ← Nov_eq, Nat.add_mul, ← Nat.add_assoc, Nat.add_right_comm, Nat.mul_comm Nov hi, Nat.add_mul_mod_self_left]
theorem fold_less {lo hi s h2 : Nat} (h : s + 2 ^ 256 * h2 = lo + hi * Nov) (hp : hi ≠ 0) : s + 2 ^ 256 * h2 < lo + 2 ^ 256 * hi := by
  rw [h, Nat.mul_comm (2 ^ 256)]
  have : hi * Nov < hi * 2 ^ 256 := Nat.mul_lt_mul_of_pos_left Nov_lt (by omega)
  omega
theorem c_lt64 {a b c : Nat} (h : (a + b) / 2 ^ 256 = c) (ha : a < 2 ^ 256) (hb : b < 2 ^ 256) : c < 2 ^ 64 := by omega
theorem c_lt256 {a b c : Nat} (h : (a + b) / 2 ^ 256 = c) (ha : a < 2 ^ 256) (hb : b < 2 ^ 256) : c < 2 ^ 256 := by omega
theorem law_dist (a b c : Nat) : a * ((b + c) % Nord) % Nord = (a * b % Nord + a * c % Nord) % Nord := by
  rw [← Nat.add_mod, ← Nat.mul_add, Nat.mul_mod_mod]
theorem law_massoc (a b c : Nat) : a * (b * c % Nord) % Nord = a * b % Nord * c % Nord := by
  rw [Nat.mul_mod_mod, Nat.mod_mul_mod, Nat.mul_assoc]
theorem law_aassoc (a b c : Nat) : (a + (b + c) % Nord) % Nord = ((a + b) % Nord + c) % Nord := by
  rw [Nat.add_mod_mod, Nat.mod_add_mod, Nat.add_assoc]
theorem law_acomm (a b : Nat) : (a + b) % Nord = (b + a) % Nord := by rw [Nat.add_comm]
theorem law_mcomm (a b : Nat) : a * b % Nord = b * a % Nord := by rw [Nat.mul_comm]
theorem law_neg (a : Nat) : (a + (Nord - a % Nord) % Nord) % Nord = 0 := by
  have := Nat.mod_lt a (show 0 < Nord by decide)
  rw [Nat.add_mod_mod, Nat.add_mod, Nat.add_mod_mod, ← Nat.mod_add_mod, Nat.mod_mod, Nat.add_sub_cancel' (Nat.le_of_lt this), Nat.mod_self]
end Go.Proofs.Ytmpejkhffbonnaa
