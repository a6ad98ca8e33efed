/- The field as residues: the ring's laws, inverses, roots. No program here. -/
import Derived.Test.YtmpejkhffbonnaaFieldP
namespace Go.Proofs.Ytmpejkhffbonnaa
namespace EM
section
variable {p : Nat} [NeZero p]
theorem fone_ne0 (h : Pr p) : (1 : Fin p) ≠ 0 := by
  intro h0
  have := congrArg Fin.val h0
  have h2 := h.1
  rw [val1, val0, Nat.mod_eq_of_lt (by omega)] at this
  omega
theorem fcancel' (h : Pr p) {a b c : Fin p} (ha : a ≠ 0) (hbc : a * b = a * c) : b = c := by
  have hz : a * (b - c) = 0 := by grind
  rcases fmul_zero_of h _ _ hz with h1 | h1
  · exact absurd h1 ha
  · grind
theorem sq_pm (h : Pr p) {x y : Fin p} (hxy : x * x = y * y) : x = y ∨ x = -y := by
  have hz : (x - y) * (x + y) = 0 := by grind
  rcases fmul_zero_of h _ _ hz with h1 | h1
  · left; grind
  · right; grind
theorem euler (h : Pr p) (ho : p % 2 = 1) (a : Fin p) (ha : a ≠ 0) : fpow a ((p - 1) / 2) = 1 ∨ fpow a ((p - 1) / 2) = -1 := by
  have h1 := fermat h a ha
  have e : p - 1 = (p - 1) / 2 + (p - 1) / 2 := by omega
  rw [e, fpow_add] at h1
  exact sq_pm h (by rw [h1]; grind)
def rt (a : Fin p) : Fin p := fpow a ((p + 1) / 4)
theorem rt_sq (h4 : p % 4 = 3) (a : Fin p) : rt a * rt a = fpow a ((p - 1) / 2) * a := by
  unfold rt
  rw [← fpow_add, show (p + 1) / 4 + (p + 1) / 4 = (p - 1) / 2 + 1 by omega]
  rfl
theorem fpow_zero_pos {n : Nat} (hn : n ≠ 0) : fpow (0 : Fin p) n = 0 := by
  obtain ⟨k, rfl⟩ : ∃ k, n = k + 1 := ⟨n - 1, by omega⟩
  show fpow 0 k * 0 = 0
  grind
theorem sq_is (h : Pr p) (h4 : p % 4 = 3) (y : Fin p) : rt (y * y) * rt (y * y) = y * y := by
  rw [rt_sq h4]
  by_cases hy : y = 0
  · subst hy; grind
  · have : fpow (y * y) ((p - 1) / 2) = 1 := by
      rw [fpow_prod, ← fpow_add, show (p - 1) / 2 + (p - 1) / 2 = p - 1 by omega]
      exact fermat h y hy
    rw [this]; grind
theorem neg_odd (a : Fin p) (k : Nat) : fpow (-a) (2 * k + 1) = -fpow a (2 * k + 1) := by
  have e : ∀ b : Fin p, fpow b (2 * k + 1) = fpow (b * b) k * b := by
    intro b
    show fpow b (2 * k) * b = _
    rw [show 2 * k = k + k by omega, fpow_add, fpow_prod]
  rw [e, e, show (-a) * (-a) = a * a by grind]
  grind
theorem neg_is (h : Pr p) (h4 : p % 4 = 3) (a : Fin p) (ha : a ≠ 0) : rt (-a) * rt (-a) = -a ↔ ¬ rt a * rt a = a := by
  rw [rt_sq h4, rt_sq h4]
  obtain ⟨k, hk⟩ : ∃ k, (p - 1) / 2 = 2 * k + 1 := ⟨(p - 3) / 4, by omega⟩
  have hn := neg_odd a k
  rw [← hk] at hn
  rw [hn]
  have h2 : (1 : Fin p) + 1 ≠ 0 := by
    intro h0
    have h0 : (2 : Fin p) = 0 := by grind
    have := congrArg Fin.val h0
    rw [val0] at this
    have e : ((2 : Fin p)).val = 2 % p := rfl
    rw [e, Nat.mod_eq_of_lt (by omega)] at this
    omega
  have hnz : a + a ≠ 0 := by
    intro h0
    have : a * (1 + 1) = a * 0 := by grind
    exact h2 (fcancel' h ha this)
  rcases euler h (by omega) a ha with he | he
  · rw [he]
    constructor
    · intro hh; exact absurd (by grind) hnz
    · intro hh; exact absurd (by grind) hh
  · rw [he]
    constructor
    · intro _ hh; exact hnz (by grind)
    · intro _; grind
end
end EM
instance : NeZero Pf := ⟨by decide⟩
/-- a number as a residue -/
def fe (a : Nat) : Fin Pf := Fin.ofNat Pf a
theorem fe_val (a : Nat) : (fe a).val = a % Pf := rfl
theorem fe_eq {a b : Nat} : fe a = fe b ↔ a % Pf = b % Pf := ⟨fun h => congrArg Fin.val h, fun h => Fin.ext h⟩
theorem fe_inj {a b : Nat} (ha : a < Pf) (hb : b < Pf) (h : fe a = fe b) : a = b := by
  have := fe_eq.1 h
  rwa [Nat.mod_eq_of_lt ha, Nat.mod_eq_of_lt hb] at this
theorem fe_mod (a : Nat) : fe (a % Pf) = fe a := fe_eq.2 (Nat.mod_mod _ _)
theorem fe_mul (a b : Nat) : fe (a * b) = fe a * fe b := by
  apply Fin.ext
  rw [Fin.val_mul, fe_val, fe_val, fe_val, ← Nat.mul_mod]
theorem fe_add (a b : Nat) : fe (a + b) = fe a + fe b := by
  apply Fin.ext
  rw [Fin.val_add, fe_val, fe_val, fe_val, ← Nat.add_mod]
theorem fe_sub (a b : Nat) : fe (fsub a b) = fe a - fe b := by
  apply Fin.ext
  rw [Fin.sub_def, fe_val]
  show fsub a b % Pf = (Pf - b % Pf + a % Pf) % Pf
  have := Nat.mod_lt b Pf_pos
  unfold fsub
  rw [Nat.mod_mod]
  exact congrArg (· % Pf) (by omega)
theorem fe_zero : fe 0 = 0 := rfl
theorem fe_one : fe 1 = 1 := rfl
theorem fe_pow (a n : Nat) : fe (a ^ n) = EM.fpow (fe a) n := by
  apply Fin.ext
  rw [EM.fpow_val, fe_val, fe_val, ← Nat.pow_mod]
theorem fmod_lt (a : Nat) : a % Pf < Pf := Nat.mod_lt _ Pf_pos
theorem fsub_ltP (a b : Nat) : fsub a b < Pf := Nat.mod_lt _ Pf_pos
theorem frt_lt (a : Nat) : frt a < Pf := Nat.mod_lt _ Pf_pos
theorem fe_frt (a : Nat) : fe (frt a) = EM.rt (fe a) := by
  unfold frt EM.rt
  rw [fe_mod, fe_pow]
theorem frB_iff (a : Nat) : frB a = true ↔ EM.rt (fe a) * EM.rt (fe a) = fe a := by
  unfold frB
  rw [decide_eq_true_eq, ← fe_eq, fe_mul, fe_frt]
theorem Pf_mod4 : Pf % 4 = 3 := by decide
theorem frV_of {a : Nat} (h : frB a = true) : frV a = frt a ∧ frt a % 2 = 0 ∨ frV a = fsub 0 (frt a) ∧ frt a % 2 = 1 := by
  unfold frB at h
  have h := of_decide_eq_true h
  unfold frV
  rw [if_pos h]
  split
  · right; exact ⟨rfl, by assumption⟩
  · left; exact ⟨rfl, by omega⟩
theorem frV_mul {a : Nat} (h : frB a = true) : frV a * frV a % Pf = a % Pf := by
  refine fe_inj (fmod_lt _) (fmod_lt _) ?_
  have h1 := (frB_iff a).1 h
  rcases frV_of h with ⟨e, _⟩ | ⟨e, _⟩
  · rw [e, fe_mod, fe_mod, fe_mul, fe_frt, h1]
  · rw [e, fe_mod, fe_mod, fe_mul, fe_sub, fe_frt, fe_zero, ← h1]; grind
theorem frV_ltP (a : Nat) : frV a < Pf := by
  unfold frV
  repeat' split
  · exact fsub_ltP _ _
  · exact frt_lt _
  · exact Pf_pos
theorem fneg_val {a : Nat} (h : a < Pf) (h0 : a ≠ 0) : fsub 0 a = Pf - a := by
  unfold fsub
  rw [Nat.mod_eq_of_lt h, Nat.zero_mod, Nat.zero_add, Nat.mod_eq_of_lt (by omega)]
theorem frV_even2 (a : Nat) : frV a % 2 = 0 := by
  unfold frV
  have hp : Pf % 2 = 1 := by decide
  repeat' split
  · have := frt_lt a
    rw [fneg_val this (by omega)]
    omega
  · omega
  · rfl
theorem frB_sq (a : Nat) : frB (a * a % Pf) = true := by
  rw [frB_iff, fe_mod, fe_mul]
  exact EM.sq_is EM.pr_field Pf_mod4 _
theorem frV_sq (a : Nat) : frV (a * a % Pf) = a % Pf ∨ frV (a * a % Pf) = fsub 0 a := by
  have h := frV_mul (frB_sq a)
  have h1 : fe (frV (a * a % Pf)) * fe (frV (a * a % Pf)) = fe a * fe a := by
    rw [← fe_mul, ← fe_mul]
    rw [fe_eq, h, Nat.mod_mod]
  rcases EM.sq_pm EM.pr_field h1 with h2 | h2
  · left; exact fe_inj (frV_ltP _) (fmod_lt _) (by rw [h2, fe_mod])
  · right; exact fe_inj (frV_ltP _) (fsub_ltP _ _) (by rw [h2, fe_sub, fe_zero]; grind)
theorem fe_ne {a : Nat} (h : a % Pf ≠ 0) : fe a ≠ 0 := fun h0 => h (by have := congrArg Fin.val h0; rwa [fe_val, EM.val0] at this)
theorem frB_zero {a : Nat} (h : a % Pf = 0) : frB a = true := by
  have : fe a = fe 0 := fe_eq.2 (by rw [h, Nat.zero_mod])
  rw [frB_iff, this, fe_zero, EM.rt_sq Pf_mod4]; grind
theorem frB_negzero {a : Nat} (h : a % Pf = 0) : frB (fsub 0 a) = true := by
  refine frB_zero ?_
  unfold fsub
  rw [h]; decide
theorem frB_neg {a : Nat} (h : a % Pf ≠ 0) : frB (fsub 0 a) = true ↔ ¬ frB a = true := by
  rw [frB_iff, frB_iff, fe_sub, fe_zero, show (0 : Fin Pf) - fe a = -fe a by grind]
  exact EM.neg_is EM.pr_field Pf_mod4 _ (fe_ne h)
/-- the laws -/
theorem fl_dist (a b c : Nat) : a * ((b + c) % Pf) % Pf = (a * b % Pf + a * c % Pf) % Pf := by
  rw [← Nat.add_mod, ← Nat.mul_add, Nat.mul_mod_mod]
theorem fl_massoc (a b c : Nat) : a * (b * c % Pf) % Pf = a * b % Pf * c % Pf := by
  rw [Nat.mul_mod_mod, Nat.mod_mul_mod, Nat.mul_assoc]
theorem fl_aassoc (a b c : Nat) : (a + (b + c) % Pf) % Pf = ((a + b) % Pf + c) % Pf := by
  rw [Nat.add_mod_mod, Nat.mod_add_mod, Nat.add_assoc]
theorem fl_acomm (a b : Nat) : (a + b) % Pf = (b + a) % Pf := by rw [Nat.add_comm]
theorem fl_mcomm (a b : Nat) : a * b % Pf = b * a % Pf := by rw [Nat.mul_comm]
theorem fl_back (a b : Nat) : fsub ((a + b) % Pf) b = a % Pf := by
  refine fe_inj (fsub_ltP _ _) (fmod_lt _) ?_
  rw [fe_sub, fe_mod, fe_add, fe_mod]; grind
theorem fl_neg (a : Nat) : (a + fsub 0 a) % Pf = 0 := by
  refine fe_inj (fmod_lt _) Pf_pos ?_
  rw [fe_mod, fe_add, fe_sub, fe_zero]; grind
theorem finv_zero {a r v : Nat} (h : r = 0) (hr : a % Pf = r) (hv : pinv Pf a = v) : v = 0 := by
  rw [← hv, ← pinv_mod, hr, h]; exact pinv_zero (by decide)
theorem finv_one {a r v x : Nat} (h : ¬ r = 0) (hr : a % Pf = r) (hv : pinv Pf a = v) (hx : a * v % Pf = x) : x = 1 := by
  rw [← hx, ← hv, Nat.mul_comm]
  exact pinv_mul EM.pr_field (by rw [hr]; exact h)
theorem finv_back {a r v i : Nat} (h : ¬ r = 0) (hr : a % Pf = r) (hv : pinv Pf a = v) (hi : pinv Pf v = i) : i = r := by
  have hP : EM.Pr Pf := EM.pr_field
  have h1 := pinv_mul hP (a := a) (by rw [hr]; exact h)
  rw [hv] at h1
  have hv0 : v % Pf ≠ 0 := by
    intro h0
    rw [Nat.mul_mod, h0, Nat.zero_mul, Nat.zero_mod] at h1
    cases h1
  rw [← hi]
  refine (inv_uniq hP hv0 (hr ▸ fmod_lt a) ?_).symm
  rw [← hr, Nat.mod_mul_mod, Nat.mul_comm]
  exact h1
theorem pinv_one' {N : Nat} (h : 1 < N) : pinv N 1 = 1 := by unfold pinv; rw [Nat.one_pow, Nat.mod_eq_of_lt h]
theorem frt_val {a r : Nat} (h : EM.mp Pf 256 a ((Pf + 1) / 4) = r) : frt a = r := by
  rw [← h, EM.mp_eq Pf 256 a ((Pf + 1) / 4) (by decide)]; rfl
theorem frVB_four : frV 4 = 2 ∧ frB 4 = true := by
  have h : frt 4 = 2 := frt_val (by decide +kernel)
  unfold frV frB
  rw [h]
  exact ⟨by decide, by decide⟩
theorem fl_left (a b c s : Nat) (hs : (a + b) % 2 ^ 256 = s) (hc : (a + b) / 2 ^ 256 = c) : (a + b) % Pf = (c * 2 ^ 256 + s) % Pf := by
  rw [← hs, ← hc, Nat.mul_comm, Nat.div_add_mod]
theorem fl_leftM (a b l h : Nat) (hl : a * b % 2 ^ 256 = l) (hh : a * b / 2 ^ 256 = h) : a * b % Pf = (h * 2 ^ 256 + l) % Pf := by
  rw [← hl, ← hh, Nat.mul_comm (_ / _), Nat.div_add_mod]
end Go.Proofs.Ytmpejkhffbonnaa
