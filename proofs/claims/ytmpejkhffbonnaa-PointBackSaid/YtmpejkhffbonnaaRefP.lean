/- Words of sums and differences, as the references reckon them. No program here. -/
import Derived.Test.YtmpejkhffbonnaaScalP
namespace Go.Proofs.Ytmpejkhffbonnaa
theorem brw_zero (a b : Nat) : brw a b 0 = 0 := by unfold brw; simp [Nat.mod_one]
theorem cry_zero (a b : Nat) : cry a b 0 = 0 := by unfold cry; simp [Nat.mod_one]
theorem less_c {a b c k e : Nat} (hc0 : c ≤ 1) (hcb : c = brw a b k) (h : e = if limN a k < limN b k + c then 1 else 0) : e = brw a b (k + 1) := by
  rw [← brw_step2, h, hcb]; rfl
theorem less_f {a b c k : Nat} {f : Nat → Nat} (hb : b < 2 ^ 256) (hk : k < 4) (hc0 : c ≤ 1) (hcb : c = brw a b k) (hf : ∀ j, j < k → f j = limN (a + 2 ^ 256 - b) j) :
    ∀ j, j < k + 1 → upn f k (((limN a k + 18446744073709551616 - limN b k) % 18446744073709551616 + 18446744073709551616 - c) % 18446744073709551616) j = limN (a + 2 ^ 256 - b) j := by
  intro j hj
  unfold upn
  by_cases hjk : j = k
  · subst hjk
    rw [if_pos rfl]
    have h := brw_step1 a b j hb hk
    have h1 := limN_lt a j
    have h2 := limN_lt b j
    unfold limN at *
    rw [← h, ← hcb]
    omega
  · rw [if_neg hjk]; exact hf j (by omega)
theorem less_fin {a b e : Nat} (ha : a < 2 ^ 256) (hb : b < 2 ^ 256) (h : bor a b = e) : Value.tuple #[W (a + 2 ^ 256 - b), .int .u64 ((brw a b 4 : Nat) : Int)] = .tuple #[W (a + 2 ^ 256 - b), .int .u64 ((e : Nat) : Int)] := by
  have : brw a b 4 = e := by rw [← h]; unfold brw bor; rw [Nat.mod_eq_of_lt ha, Nat.mod_eq_of_lt hb]
  rw [this]
theorem more_c {a b c k e : Nat} (hc0 : c ≤ 1) (hcb : c = cry a b k) (h : e = (limN a k + limN b k + c) / 2 ^ 64) : e = cry a b (k + 1) := by
  rw [h, hcb]; exact (cry_step a b k).2
theorem more_f {a b c k : Nat} {f : Nat → Nat} (hc0 : c ≤ 1) (hcb : c = cry a b k) (hf : ∀ j, j < k → f j = limN (a + b) j) :
    ∀ j, j < k + 1 → upn f k (((limN a k + limN b k) % 18446744073709551616 + c) % 18446744073709551616) j = limN (a + b) j := by
  intro j hj
  unfold upn
  by_cases hjk : j = k
  · subst hjk
    rw [if_pos rfl]
    have h := (cry_step a b j).1
    have h1 := limN_lt a j
    have h2 := limN_lt b j
    unfold limN at *
    rw [← h, ← hcb]
    omega
  · rw [if_neg hjk]; exact hf j (by omega)
theorem more_fin {a b e : Nat} (ha : a < 2 ^ 256) (hb : b < 2 ^ 256) (h : (a + b) / 2 ^ 256 = e) : Value.tuple #[W (a + b), .int .u64 ((cry a b 4 : Nat) : Int)] = .tuple #[W (a + b), .int .u64 ((e : Nat) : Int)] := by
  have : cry a b 4 = e := by rw [← h]; unfold cry; rw [Nat.mod_eq_of_lt (a := a) (by simpa using ha), Nat.mod_eq_of_lt (a := b) (by simpa using hb)]
  rw [this]
end Go.Proofs.Ytmpejkhffbonnaa
