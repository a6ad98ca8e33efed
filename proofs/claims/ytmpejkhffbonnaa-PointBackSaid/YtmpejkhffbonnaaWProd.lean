/- The contract of wide.product. -/
import Derived.Test.YtmpejkhffbonnaaWProdP
import Derived.Test.YtmpejkhffbonnaaMul64
namespace Go.Proofs.Ytmpejkhffbonnaa
open Go.RowKit

/-- eight words -/
abbrev arr8 (f : Nat → Int) : Array Value := #[.int .u64 (f 0), .int .u64 (f 1), .int .u64 (f 2), .int .u64 (f 3), .int .u64 (f 4), .int .u64 (f 5), .int .u64 (f 6), .int .u64 (f 7)]
theorem arr8_get (f : Nat → Int) (k : Nat) (h : k < 8) : (arr8 f)[k]? = some (.int .u64 (f k)) := by
  match k, h with
  | 0, _ => rfl
  | 1, _ => rfl
  | 2, _ => rfl
  | 3, _ => rfl
  | 4, _ => rfl
  | 5, _ => rfl
  | 6, _ => rfl
  | 7, _ => rfl
theorem arr8_set (f : Nat → Int) (k : Nat) (h : k < 8) (x : Int) : (arr8 f).setIfInBounds k (.int .u64 x) = arr8 (upd f k x) := by
  match k, h with
  | 0, _ => rfl
  | 1, _ => rfl
  | 2, _ => rfl
  | 3, _ => rfl
  | 4, _ => rfl
  | 5, _ => rfl
  | 6, _ => rfl
  | 7, _ => rfl
theorem arr8_ext (f g : Nat → Int) (h : ∀ j, j < 8 → f j = g j) : arr8 f = arr8 g := by
  unfold arr8
  rw [h 0 (by omega), h 1 (by omega), h 2 (by omega), h 3 (by omega), h 4 (by omega), h 5 (by omega), h 6 (by omega), h 7 (by omega)]
/-- eight words of a number -/
abbrev P8 (n : Nat) : Value := .agg (arr8 (lim n))

def VV (a b i : Nat) : Nat := a % pw i * b
def mix (V x b i k : Nat) : Nat → Int := fun j => if j < i + k then lim (TT V x b i k) j else lim V j

theorem mul_at (w : World) (x y h l : Nat) (hx : x < 18446744073709551616) (hy : y < 18446744073709551616) (hh : x * y / 18446744073709551616 = h) (hl : x * y % 18446744073709551616 = l) :
    Calls Try.prog 97 #[.int .u64 (x : Int), .int .u64 (y : Int)] w fun e w' => e = .returned (.tuple #[.int .u64 (h : Int), .int .u64 (l : Int)]) ∧ w' = w :=
  (mul64_any x y hx hy w).mono fun e w' ⟨h1, h2⟩ => ⟨by rw [h1, hh, hl], h2⟩
theorem addc_at (x y s c : Nat) (hs : (x + y) % 18446744073709551616 = s) (hc : (x + y) / 18446744073709551616 = c) (w : World) :
    (callFunc 81 #[.int .u64 (x : Int), .int .u64 (y : Int), .int .u64 0]).run Try.prog w = .ok (.value (.tuple #[.int .u64 (s : Int), .int .u64 (c : Int)])) w := by
  rw [run39 x y 0 (by omega) (by omega) (by omega) (by omega) w, ← hs, ← hc]
  simp

theorem mix_step (V x b i k c S : Nat) (hx : x < 2 ^ 64) (h : Inn V x b i k c) (hS : (x * wd b k + wd V (i + k) + c) % 2 ^ 64 = S) :
    ∀ j, upd (mix V x b i k) (i + k) (S : Int) j = mix V x b i (k + 1) j := by
  intro j
  have hs := (inn_step V x b i k c hx h).2
  unfold upd mix
  by_cases hj : j = i + k
  · rw [if_pos hj, if_pos (by omega), hj, lim_wd, hs, hS]
  · rw [if_neg hj]
    by_cases hj2 : j < i + k
    · rw [if_pos hj2, if_pos (by omega), lim_wd, lim_wd, TT_succ, wd_add_mul _ _ _ _ hj2]
    · rw [if_neg hj2, if_neg (by omega)]
theorem TT_four (a b i : Nat) (hb : b < 2 ^ 256) : TT (VV a b i) (wd a i) b i 4 = VV a b (i + 1) := by
  unfold TT VV
  have h4 : b % pw 4 = b := Nat.mod_eq_of_lt hb
  have : a % pw (i + 1) = a % pw i + pw i * (a / pw i % 2 ^ 64) := by rw [pw_succ]; exact Nat.mod_mul
  rw [h4, this]
  unfold wd
  grind
theorem VV_lt (a b i : Nat) (hb : b < 2 ^ 256) : VV a b i < pw (i + 4) := by
  unfold VV
  have h1 := Nat.mod_lt a (pw_pos i)
  have e : pw (i + 4) = pw i * 2 ^ 256 := pw_add i 4
  rw [e]
  exact Nat.mul_lt_mul'' h1 hb
theorem mix_end (a b i c : Nat) (hb : b < 2 ^ 256) (h : Inn (VV a b i) (wd a i) b i 4 c) :
    ∀ j, upd (mix (VV a b i) (wd a i) b i 4) (i + 4) (c : Int) j = lim (VV a b (i + 1)) j := by
  intro j
  obtain ⟨h1, h2⟩ := h
  have ht := TT_four a b i hb
  have hv := VV_lt a b i hb
  rw [Nat.div_eq_of_lt hv] at h1
  have e : VV a b (i + 1) / pw (i + 4) = c := by rw [← ht]; unfold TT; rw [h1, Nat.zero_add]
  unfold upd mix
  by_cases hj : j = i + 4
  · rw [if_pos hj, hj, lim_wd]
    unfold wd
    rw [e, Nat.mod_eq_of_lt h2]
  · rw [if_neg hj]
    by_cases hj2 : j < i + 4
    · rw [if_pos hj2, ht]
    · rw [if_neg hj2, lim_wd, lim_wd]
      have hl1 : VV a b i < pw j := Nat.lt_of_lt_of_le hv (Nat.pow_le_pow_right (by omega) (by omega))
      have hl2 : VV a b (i + 1) < pw j := by
        have := VV_lt a b (i + 1) hb
        exact Nat.lt_of_lt_of_le this (Nat.pow_le_pow_right (by omega) (by omega))
      unfold wd
      rw [Nat.div_eq_of_lt hl1, Nat.div_eq_of_lt hl2]
theorem digits_at (x y v c h l l1 c1 l2 c2 : Nat) (hx : x < 18446744073709551616) (hy : y < 18446744073709551616) (hv : v < 18446744073709551616) (hc : c < 18446744073709551616)
    (hh : x * y / 18446744073709551616 = h) (hl : x * y % 18446744073709551616 = l) (e1 : (l + v) % 18446744073709551616 = l1) (e2 : (l + v) / 18446744073709551616 = c1)
    (e3 : (l1 + c) % 18446744073709551616 = l2) (e4 : (l1 + c) / 18446744073709551616 = c2) :
    IntKind.u64.wrap (IntKind.u64.wrap ((h : Int) + (c1 : Int)) + (c2 : Int)) = ((x * y + v + c) / 18446744073709551616 : Nat) ∧ l2 = (x * y + v + c) % 18446744073709551616 := by
  have h3 : x * y ≤ 18446744073709551615 * 18446744073709551615 := Nat.mul_le_mul (by omega) (by omega)
  generalize x * y = z at *
  rw [IntKind.wrap_u64, IntKind.wrap_u64]
  omega
end Go.Proofs.Ytmpejkhffbonnaa
