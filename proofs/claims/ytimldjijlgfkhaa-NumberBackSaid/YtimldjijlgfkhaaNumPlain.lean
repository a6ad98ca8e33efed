/- Plain laws of layer 5: what is written is read as it was. -/
import Derived.Test.YtimldjijlgfkhaaLawEnc
namespace Go.Proofs.Ytimldjijlgfkhaa

theorem vl_le (m : Nat) : vl (le m) = m := by
  induction m using Nat.strongRecOn with
  | _ m ih =>
    by_cases h : m = 0
    · subst h; rw [le_zero]; rfl
    · rw [le_pos m h, vl, ih (m / 256) (by omega)]
      simp
      omega
theorem le_last (m : Nat) (h : m ≠ 0) : ∃ N, (le m).length = N + 1 ∧ ((le m).getD N 0).toNat ≠ 0 := by
  induction m using Nat.strongRecOn with
  | _ m ih =>
    rw [le_pos m h]
    by_cases h2 : m / 256 = 0
    · refine ⟨0, by rw [h2, le_zero]; rfl, ?_⟩
      simp
      omega
    · obtain ⟨N, h3, h4⟩ := ih (m / 256) (by omega) h2
      exact ⟨N + 1, by simp [h3], by simpa using h4⟩
theorem le_nil (m : Nat) (h : le m = []) : m = 0 := by
  refine Classical.byContradiction fun hne => ?_
  rw [le_pos m hne] at h
  cases h
theorem getD_set_last (xs : List UInt8) (N : Nat) (c : UInt8) (h : xs.length = N + 1) : (xs.set N c).getD N 0 = c := by
  simp [List.getD, h]
theorem getD_snoc (xs : List UInt8) (c : UInt8) (n : Nat) (h : xs.length = n) : (xs ++ [c]).getD n 0 = c := by
  subst h; simp [List.getD]
theorem getD_snoc_lt (xs : List UInt8) (c : UInt8) (n : Nat) (h : n < xs.length) : (xs ++ [c]).getD n 0 = xs.getD n 0 := by
  simp [List.getD, List.getElem?_append_left h]

theorem val_enc (n : Int) : val (enc n) = n := by
  by_cases h0 : n = 0
  · subst h0; rw [enc_0]; rfl
  · obtain ⟨N, hN, hc0⟩ := le_last n.natAbs (by omega)
    have hv := vl_le n.natAbs
    have ht := vl_top (le n.natAbs) N _ hN rfl
    rw [hv] at ht
    obtain ⟨c, hc⟩ : ∃ c, ((le n.natAbs).getD N 0).toNat = c := ⟨_, rfl⟩
    have hc256 : c < 256 := by rw [← hc]; exact (UInt8.toNat_lt _)
    rw [hc] at ht
    unfold enc
    by_cases h128 : 128 ≤ c
    · rw [sgn_high _ hN hc h128]
      have htk : (le n.natAbs ++ [if decide (n < 0) = true then (128 : UInt8) else 0]).take (N + 1) = le n.natAbs := by
        rw [List.take_append_of_le_length (by omega), List.take_of_length_le (by omega)]
      by_cases hn : n < 0
      · rw [val_high _ (N + 1) 128 (by simp; exact hN) (by rw [getD_snoc _ _ _ hN, decide_eq_true hn]; rfl) (by decide), htk, hv]
        omega
      · rw [val_low _ (N + 1) 0 (by simp; exact hN) (by rw [getD_snoc _ _ _ hN, decide_eq_false hn]; rfl) (by decide), htk, hv]
        omega
    · rw [sgn_low _ hN hc (by omega)]
      by_cases hn : n < 0
      · rw [decide_eq_true hn, if_pos rfl]
        have e1 : (((le n.natAbs).set N ((le n.natAbs).getD N 0 + 128)).getD N 0).toNat = c + 128 := by
          rw [getD_set_last _ _ _ hN, UInt8.toNat_add, hc]
          show (c + 128) % 256 = _
          omega
        have e2 : ((le n.natAbs).set N ((le n.natAbs).getD N 0 + 128)).take N = (le n.natAbs).take N := by
          rw [List.take_set_of_le (Nat.le_refl _)]
        rw [val_high _ N (c + 128) (by simp; exact hN) e1 (by omega), e2]
        have : (c + 128) % 128 = c := by omega
        rw [this]
        omega
      · rw [decide_eq_false hn, if_neg (by decide), val_low _ N c hN hc (by omega)]
        omega

theorem truth_of (l : List UInt8) (k : Nat) (hk : k < l.length) (h1 : (l.getD k 0).toNat ≠ 0) (h2 : ¬ (k + 1 = l.length ∧ (l.getD k 0).toNat = 128)) : truthL l = true := by
  refine tr_mono l (k + 1) ?_ _ hk
  rw [tr_step l k l.length _ rfl rfl]
  have e1 : (((l.getD k 0).toNat : Int) != 0) = true := by simp only [bne_iff_ne, ne_eq]; omega
  have e2 : (decide (k + 1 = l.length) && (((l.getD k 0).toNat : Int) == 128)) = false := by
    rw [Bool.and_eq_false_iff]
    by_cases h : k + 1 = l.length
    · right
      have : (l.getD k 0).toNat ≠ 128 := fun h3 => h2 ⟨h, h3⟩
      simp only [beq_eq_false_iff_ne, ne_eq]
      omega
    · left; simp [h]
  rw [e1, e2]
  simp

theorem truth_enc (n : Int) : truthL (enc n) = (n != 0) := by
  by_cases h0 : n = 0
  · subst h0; rw [enc_0]; rfl
  · have hr : (n != 0) = true := by simp [h0]
    rw [hr]
    obtain ⟨N, hN, hc0⟩ := le_last n.natAbs (by omega)
    obtain ⟨c, hc⟩ : ∃ c, ((le n.natAbs).getD N 0).toNat = c := ⟨_, rfl⟩
    have hc256 : c < 256 := by rw [← hc]; exact (UInt8.toNat_lt _)
    rw [hc] at hc0
    unfold enc
    by_cases h128 : 128 ≤ c
    · rw [sgn_high _ hN hc h128]
      refine truth_of _ N (by simp; omega) ?_ ?_
      · rw [getD_snoc_lt _ _ _ (by omega), hc]; exact hc0
      · simp only [List.length_append, hN, List.length_cons, List.length_nil]
        omega
    · rw [sgn_low _ hN hc (by omega)]
      by_cases hn : n < 0
      · rw [decide_eq_true hn, if_pos rfl]
        have e1 : (((le n.natAbs).set N ((le n.natAbs).getD N 0 + 128)).getD N 0).toNat = c + 128 := by
          rw [getD_set_last _ _ _ hN, UInt8.toNat_add, hc]
          show (c + 128) % 256 = _
          omega
        refine truth_of _ N (by simp; omega) ?_ ?_
        · rw [e1]; omega
        · rw [e1]; omega
      · rw [decide_eq_false hn, if_neg (by decide)]
        refine truth_of _ N (by omega) ?_ ?_
        · rw [hc]; exact hc0
        · rw [hc]; omega

/-- what is read within so many bytes lies between its ends -/
theorem val_31 (l : List UInt8) (h : l.length ≤ 4) : -2147483647 ≤ val l ∧ val l ≤ 2147483647 := by
  rcases hx : l.length with _ | N
  · have : l = [] := List.length_eq_zero_iff.1 hx
    subst this; decide
  · have h1 := vl_lt (l.take N)
    rw [List.length_take, hx, Nat.min_eq_left (by omega)] at h1
    have h2 : (256 : Nat) ^ N ≤ 256 ^ 3 := Nat.pow_le_pow_right (by omega) (by omega)
    have h4 : (256 : Nat) ^ 3 = 16777216 := by decide
    have h3 : (l.getD N 0).toNat % 128 * 256 ^ N ≤ 127 * 256 ^ N := Nat.mul_le_mul_right _ (by omega)
    unfold val
    rw [hx]
    simp only [Nat.add_sub_cancel]
    split <;> omega
end Go.Proofs.Ytimldjijlgfkhaa
