/- A number, written and read. -/
import Derived.Test.YtaeafgkjinhceaaStr
namespace Go.Proofs.Ytaeafgkjinhceaa
theorem sb_bts {n j : Nat} {f : Nat → Nat} (hj : j < n) (hf : f j < 256) : sb ⟨(bts n f).toArray⟩ j = f j := by
  unfold sb
  rw [List.getD_eq_getElem?_getD]
  show ((((List.range n).map fun i => UInt8.ofNat (f i))[j]?).getD 0).toNat = f j
  rw [List.getElem?_map, List.getElem?_range hj]
  simp [Nat.mod_eq_of_lt hf]
theorem size_bts (n : Nat) (f : Nat → Nat) : (⟨(bts n f).toArray⟩ : ByteArray).size = n := by
  show ((bts n f).toArray).size = n
  simp [bts]
theorem dcs_size (a : Nat) : (dcs a).size = nd a := size_bts _ _
theorem sb_dcs {a j : Nat} (h : j < nd a) : sb (dcs a) j = dcf a j := sb_bts h (Nat.lt_trans (dcf_lt a j) (by decide))
theorem sb_app (x y : ByteArray) (j : Nat) : sb (x ++ y) j = if j < x.size then sb x j else sb y (j - x.size) := by
  unfold sb
  rw [ByteArray.data_append, Array.toList_append, List.getD_eq_getElem?_getD, List.getElem?_append]
  have : x.data.toList.length = x.size := by rw [Array.length_toList]; rfl
  rw [this]
  split <;> rw [List.getD_eq_getElem?_getD]
theorem figs_dcs (a : Nat) : Figs (dcs a) (nd a) := fun j hj => by
  rw [sb_dcs hj]; unfold dcf; omega
theorem dv_dcs (a : Nat) : ∀ j, j ≤ nd a → dv (dcs a) j = a / 10 ^ (nd a - j)
  | 0, _ => by rw [dv, Nat.sub_zero, Nat.div_eq_of_lt (nd_lt a)]
  | j + 1, h => by
    rw [dv, dv_dcs a j (by omega), sb_dcs (by omega)]
    unfold dcf
    obtain ⟨e, he⟩ : ∃ e, nd a - (j + 1) = e := ⟨_, rfl⟩
    rw [show nd a - j = e + 1 by omega, show nd a - 1 - j = e by omega, he, Nat.pow_succ, ← Nat.div_div_eq_div_mul]
    omega
theorem dv_all (a : Nat) : dv (dcs a) (nd a) = a := by rw [dv_dcs a _ (Nat.le_refl _), Nat.sub_self, Nat.pow_zero, Nat.div_one]
theorem head_ne {a : Nat} (h : a ≠ 0) : sb (dcs a) 0 ≠ 48 := by
  have hp := nd_pos a
  rw [sb_dcs (by omega)]
  unfold dcf
  rw [Nat.sub_zero]
  have h1 := nd_ge a h
  have h2 := nd_lt a
  obtain ⟨e, he⟩ : ∃ e, nd a = e + 1 := ⟨nd a - 1, by omega⟩
  rw [he, Nat.add_sub_cancel] at h1 ⊢
  rw [he] at h2
  rw [Nat.pow_succ] at h2
  have h3 : 1 ≤ a / 10 ^ e := (Nat.le_div_iff_mul_le (Nat.pow_pos (by decide))).2 (by omega)
  have h4 : a / 10 ^ e < 10 := (Nat.div_lt_iff_lt_mul (Nat.pow_pos (by decide))).2 (by rw [Nat.mul_comm]; exact h2)
  omega
theorem not_head (a : Nat) : ¬ ((dcs a).size = 0 ∨ 1 < (dcs a).size ∧ sb (dcs a) 0 = 48) := by
  have hp := nd_pos a
  rw [dcs_size]
  rintro (h | ⟨h, h2⟩)
  · omega
  · by_cases h0 : a = 0
    · subst h0; rw [nd_small (by decide)] at h; omega
    · exact head_ne h0 h2
theorem tx_dcs {a : Nat} (ha : a < 2 ^ 256) : txE (dcs a) = 0 := tx_ok (not_head a) (by rw [dcs_size]; exact figs_dcs a) (by rw [dcs_size, dv_all]; exact Nat.not_le_of_lt ha)
theorem tx_dcsV {a : Nat} (ha : a < 2 ^ 256) : txV (dcs a) = a := by rw [tx_V (tx_dcs ha), dcs_size, dv_all]
/-- a nought ahead -/
abbrev zd (a : Nat) : ByteArray := ⟨#[48]⟩ ++ dcs a
theorem tx_zd (a : Nat) : txE (zd a) = 3 := tx_head (.inr ⟨by
  have := nd_pos a
  rw [ByteArray.size_append, dcs_size]
  have h1 : (⟨#[48]⟩ : ByteArray).size = 1 := rfl
  omega, by rw [sb_app, if_pos (by decide)]; rfl⟩)
theorem tx_zdV (a : Nat) : txV (zd a) = 0 := tx_V0 (tx_zd a) (by decide)
/-- many noughts behind -/
abbrev Zs : ByteArray := ⟨#[48, 48, 48, 48, 48, 48, 48, 48, 48, 48, 48, 48, 48, 48, 48, 48, 48, 48, 48, 48, 48, 48, 48, 48, 48, 48, 48, 48, 48, 48, 48, 48, 48, 48, 48, 48, 48, 48, 48, 48, 48, 48, 48, 48, 48, 48, 48, 48, 48, 48, 48, 48, 48, 48, 48, 48, 48, 48, 48, 48, 48, 48, 48, 48, 48, 48, 48, 48, 48, 48, 48, 48, 48, 48, 48, 48, 48, 48, 48]⟩
abbrev dz (a : Nat) : ByteArray := dcs a ++ Zs
theorem Zs_size : Zs.size = 79 := rfl
theorem Zs_at : ∀ j, j < 79 → sb Zs j = 48 := by decide +kernel
theorem dz_size (a : Nat) : (dz a).size = nd a + 79 := by rw [ByteArray.size_append, dcs_size]; rfl
theorem dz_low {a j : Nat} (h : j < nd a) : sb (dz a) j = sb (dcs a) j := by rw [sb_app, if_pos (by rw [dcs_size]; exact h)]
theorem dz_high {a j : Nat} (h : j < 79) : sb (dz a) (nd a + j) = 48 := by
  rw [sb_app, if_neg (by rw [dcs_size]; omega), dcs_size, Nat.add_sub_cancel_left]
  exact Zs_at j h
theorem dv_dz (a : Nat) : ∀ j, j ≤ nd a → dv (dz a) j = dv (dcs a) j
  | 0, _ => rfl
  | j + 1, h => by rw [dv, dv, dv_dz a j (by omega), dz_low (by omega)]
theorem dv_dz2 (a : Nat) : ∀ j, j ≤ 79 → dv (dz a) (nd a + j) = a * 10 ^ j
  | 0, _ => by rw [Nat.add_zero, dv_dz a _ (Nat.le_refl _), dv_all, Nat.pow_zero, Nat.mul_one]
  | j + 1, h => by rw [← Nat.add_assoc, dv, dv_dz2 a j (by omega), dz_high (by omega), Nat.sub_self, Nat.add_zero, Nat.pow_succ, Nat.mul_assoc]
theorem figs_dz (a : Nat) : Figs (dz a) (nd a + 79) := fun j hj => by
  rcases Nat.lt_or_ge j (nd a) with h | h
  · rw [dz_low h]; exact figs_dcs a j h
  · obtain ⟨k, rfl⟩ : ∃ k, j = nd a + k := ⟨j - nd a, by omega⟩
    rw [dz_high (by omega)]; decide
theorem tx_dz {a : Nat} (h : a ≠ 0) : txE (dz a) = 4 := by
  refine tx_big ?_ (by rw [dz_size]; exact figs_dz a) ?_
  · have hp := nd_pos a
    rintro (h1 | ⟨_, h2⟩)
    · rw [dz_size] at h1; omega
    · rw [dz_low (by omega)] at h2; exact head_ne h h2
  · rw [dz_size, dv_dz2 a _ (Nat.le_refl _)]
    have h1 : 1 * 10 ^ 79 ≤ a * 10 ^ 79 := Nat.mul_le_mul_right _ (by omega)
    exact Nat.le_trans (by decide +kernel) h1
theorem dcs_0 : dcs 0 = ⟨#[48]⟩ := by
  have h : nd 0 = 1 := nd_small (by decide)
  unfold dcs bts
  rw [h]
  have e : (List.range 1).map (fun i => UInt8.ofNat (dcf 0 i)) = [48] := by
    simp only [List.range_succ, List.range_zero, List.nil_append, List.map_cons, List.map_nil]
    unfold dcf
    rw [h]
    rfl
  rw [e]
theorem tx_dz0 : txE (dz 0) = 3 := tx_head (.inr ⟨by rw [dz_size]; omega, by
  have h : nd 0 = 1 := nd_small (by decide)
  rw [dz_low (by rw [h]; decide), dcs_0]; rfl⟩)
theorem tx_dzV (a : Nat) : txV (dz a) = 0 := by
  by_cases h : a = 0
  · subst h; exact tx_V0 tx_dz0 (by decide)
  · exact tx_V0 (tx_dz h) (by decide)
theorem zd_room {a : Nat} (ha : a < 2 ^ 256) : (⟨#[48]⟩ : ByteArray).size + (dcs a).size ≤ 9223372036854775807 := by
  have := nd_256 ha
  rw [dcs_size]; have h1 : (⟨#[48]⟩ : ByteArray).size = 1 := rfl
  omega
theorem dz_room {a : Nat} (ha : a < 2 ^ 256) : (dcs a).size + Zs.size ≤ 9223372036854775807 := by
  have := nd_256 ha
  rw [dcs_size, Zs_size]; omega
theorem dcs_short {a : Nat} (ha : a < 2 ^ 256) : (dcs a).size < 9223372036854775808 := by have := nd_256 ha; rw [dcs_size]; omega
theorem zd_short {a : Nat} (ha : a < 2 ^ 256) : (zd a).size < 9223372036854775808 := by have := zd_room ha; rw [ByteArray.size_append]; omega
theorem dz_short {a : Nat} (ha : a < 2 ^ 256) : (dz a).size < 9223372036854775808 := by have := dz_room ha; rw [ByteArray.size_append]; omega
end Go.Proofs.Ytaeafgkjinhceaa
