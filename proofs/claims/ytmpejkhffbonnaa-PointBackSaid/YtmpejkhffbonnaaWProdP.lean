/- Plain laws of a product word by word. -/
import Derived.Test.YtmpejkhffbonnaaWFrom
namespace Go.Proofs.Ytmpejkhffbonnaa

/-- B^k, B = 2^64 -/
def pw (k : Nat) : Nat := 2 ^ (64 * k)
theorem pw_pos (k : Nat) : 0 < pw k := Nat.two_pow_pos _
theorem pw_succ (k : Nat) : pw (k + 1) = pw k * 2 ^ 64 := by unfold pw; rw [← Nat.pow_add]; congr 1
theorem pw_add (j k : Nat) : pw (j + k) = pw j * pw k := by unfold pw; rw [← Nat.pow_add]; congr 1; omega
/-- a word -/
def wd (n k : Nat) : Nat := n / pw k % 2 ^ 64
theorem lim_wd (n k : Nat) : lim n k = (wd n k : Int) := rfl
theorem wd_lt (n k : Nat) : wd n k < 18446744073709551616 := Nat.mod_lt _ (by decide)
theorem div_word (n k : Nat) : n / pw k = wd n k + 2 ^ 64 * (n / pw (k + 1)) := by
  unfold wd
  rw [pw_succ, ← Nat.div_div_eq_div_mul, Nat.add_comm]
  exact (Nat.div_add_mod _ _).symm
theorem wd_add_mul (n m j k : Nat) (h : j < k) : wd (n + m * pw k) j = wd n j := by
  unfold wd
  obtain ⟨d, rfl⟩ : ∃ d, k = j + 1 + d := ⟨k - (j + 1), by omega⟩
  have e : m * pw (j + 1 + d) = pw j * (2 ^ 64 * (m * pw d)) := by
    rw [pw_add, pw_succ]; grind
  rw [e, Nat.add_mul_div_left _ _ (pw_pos j), Nat.add_mul_mod_self_left]

/-- the inner loop's state -/
def Inn (V x b i k carry : Nat) : Prop :=
  (V + x * pw i * (b % pw k)) / pw (i + k) = V / pw (i + k) + carry ∧ carry < 2 ^ 64
def TT (V x b i k : Nat) : Nat := V + x * pw i * (b % pw k)

theorem TT_succ (V x b i k : Nat) : TT V x b i (k + 1) = TT V x b i k + (x * wd b k) * pw (i + k) := by
  unfold TT wd
  have : b % pw (k + 1) = b % pw k + pw k * (b / pw k % 2 ^ 64) := by rw [pw_succ]; exact Nat.mod_mul
  rw [this, pw_add]
  grind
theorem inn_zero (V x b i : Nat) : Inn V x b i 0 0 := by
  unfold Inn
  have : b % pw 0 = 0 := by unfold pw; simp [Nat.mod_one]
  rw [this]; simp
theorem inn_step (V x b i k carry : Nat) (hx : x < 2 ^ 64) (h : Inn V x b i k carry) :
    Inn V x b i (k + 1) ((x * wd b k + wd V (i + k) + carry) / 2 ^ 64) ∧ wd (TT V x b i (k + 1)) (i + k) = (x * wd b k + wd V (i + k) + carry) % 2 ^ 64 := by
  obtain ⟨h1, h2⟩ := h
  have hy := wd_lt b k
  have hv := wd_lt V (i + k)
  have e1 : TT V x b i (k + 1) / pw (i + k) = (x * wd b k + wd V (i + k) + carry) + 2 ^ 64 * (V / pw (i + k + 1)) := by
    rw [TT_succ, Nat.add_mul_div_right _ _ (pw_pos _)]
    unfold TT
    rw [h1, div_word V (i + k)]
    omega
  refine ⟨⟨?_, ?_⟩, ?_⟩
  · show TT V x b i (k + 1) / pw (i + (k + 1)) = _
    have : i + (k + 1) = (i + k) + 1 := by omega
    rw [this, pw_succ, ← Nat.div_div_eq_div_mul, e1, Nat.add_mul_div_left _ _ (by decide), ← pw_succ]
    omega
  · have h3 : x * wd b k ≤ 18446744073709551615 * 18446744073709551615 := Nat.mul_le_mul (by omega) (by omega)
    rw [Nat.div_lt_iff_lt_mul (by decide)]
    omega
  · show TT V x b i (k + 1) / pw (i + k) % 2 ^ 64 = _
    rw [e1, Nat.add_mul_mod_self_left]
end Go.Proofs.Ytmpejkhffbonnaa
