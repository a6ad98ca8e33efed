/- The contracts of Len64 (the walk after the kit's own at whatever program), wide.Len, the reference's Len. -/
import Derived.Test.YtmpejkhffbonnaaWFrom
import Derived.Test.YtmpejkhffbonnaaLen64
namespace Go.Proofs.Ytmpejkhffbonnaa
open Go.RowKit

/-- how many bits a number has -/
def ln (a : Nat) : Nat := if a = 0 then 0 else a.log2 + 1
theorem ln_unique {a n : Nat} (h1 : a < 2 ^ n) (h2 : n ≠ 0 → 2 ^ (n - 1) ≤ a) : ln a = n := by
  unfold ln
  by_cases ha : a = 0
  · rw [if_pos ha]
    by_cases hn : n = 0
    · exact hn.symm
    · have := h2 hn
      have := Nat.two_pow_pos (n - 1)
      omega
  · rw [if_neg ha]
    have hn : n ≠ 0 := by rintro rfl; simp at h1; exact ha h1
    have h3 := (Nat.log2_lt ha).2 h1
    have h4 := (Nat.le_log2 ha).2 (h2 hn)
    omega
theorem ln_spec (a : Nat) : a < 2 ^ ln a ∧ (a ≠ 0 → ln a ≠ 0 ∧ 2 ^ (ln a - 1) ≤ a) := by
  unfold ln
  by_cases ha : a = 0
  · subst ha; simp
  · rw [if_neg ha]
    exact ⟨Nat.lt_log2_self, fun _ => ⟨by omega, by simpa using Nat.log2_self_le ha⟩⟩
theorem aux_ln : ∀ f x, x < 2 ^ f → Lib.bitLenAux f x = ln x := by
  intro f
  induction f with
  | zero => intro x hx; have : x = 0 := by simpa using hx
            subst this; rfl
  | succ f ih =>
    intro x hx
    rw [Lib.bitLenAux]
    by_cases h0 : x = 0
    · subst h0; rfl
    · rw [if_neg h0, ih (x / 2) (by rw [Nat.pow_succ] at hx; omega)]
      symm
      obtain ⟨s1, s2⟩ := ln_spec (x / 2)
      refine ln_unique ?_ fun _ => ?_
      · rw [Nat.pow_add]; omega
      · by_cases h1 : x / 2 = 0
        · have : ln (x / 2) = 0 := by rw [h1]; rfl
          rw [this]; simp; omega
        · obtain ⟨s3, s4⟩ := s2 h1
          rw [show 1 + ln (x / 2) - 1 = (ln (x / 2) - 1) + 1 by omega, Nat.pow_succ]
          omega
theorem ln_le (a n : Nat) (h : a < 2 ^ n) : ln a ≤ n := by
  refine Classical.byContradiction fun hn => ?_
  have ha : a ≠ 0 := by rintro rfl; exact hn (Nat.zero_le _)
  obtain ⟨_, s2⟩ := ln_spec a
  obtain ⟨s3, s4⟩ := s2 ha
  have := Nat.pow_le_pow_right (n := 2) (by omega) (show n ≤ ln a - 1 by omega)
  omega
theorem ln_word (a i x : Nat) (h : a / 2 ^ i = x) (hx : x ≠ 0) : ln a = i + ln x := by
  obtain ⟨s1, s2⟩ := ln_spec x
  obtain ⟨s3, s4⟩ := s2 hx
  have hp := Nat.two_pow_pos i
  refine ln_unique ?_ fun _ => ?_
  · rw [Nat.pow_add]
    rw [← h] at s1 ⊢
    have := (Nat.div_lt_iff_lt_mul hp).1 s1; rwa [Nat.mul_comm] at this
  · rw [show i + ln x - 1 = i + (ln x - 1) by omega, Nat.pow_add]
    rw [← h] at s4 ⊢
    have := (Nat.le_div_iff_mul_le hp).1 s4; rwa [Nat.mul_comm] at this

theorem len64_any (x : Nat) (w : World) (h : x < 18446744073709551616) :
    Calls Try.prog 84 #[.int .u64 (x : Int)] w fun e w' => e = .returned (.int .i64 (ln x : Int)) ∧ w = w' :=
  (len64I x w (by omega) (by omega)).mono fun e w' ⟨h1, h2⟩ => ⟨by rw [h1, Lib.bitLen, Int.toNat_natCast, aux_ln 64 x h], h2.symm⟩

def LenInv (N : Nat) (w : World) (a : Nat) (i : Value) (wr : World) : Prop :=
  ∃ k : Nat, k ≤ 4 ∧ i = .int .i64 ((k : Int) - 1) ∧ Blk wr N 24 (Wc a) ∧ Below N w wr ∧ a / 2 ^ (64 * k) = 0

set_option maxHeartbeats 1000000 in
theorem len_any (w : World) (a : Nat) (ha : a < 2 ^ 256) :
    Calls Try.prog 58 #[W a] w fun e w' => e = .returned (.int .i64 (ln a : Int)) ∧ Below w.heap.size w w' := by
  have H0 : Hid (a / 2 ^ (64 * 4) = 0) := Nat.div_eq_of_lt ha
  clear ha
  go_enter Try.func58, Try.ntmps58
  go_wp2
  go_loopw [3] (fun i wr => LenInv w.heap.size w a i wr) (fun i _ => (intOf i + 1).toNat)
  case atStart => exact ⟨4, by omega, rfl, Blk.new w _ _ _ rfl, bl_al (Below.refl _ _) _, H0.out⟩
  case round =>
    obtain ⟨k, hk, rfl, b0, hbl, hq⟩ := hrel
    have HQ := Lib.hid hq
    clear hq
    rcases k with _ | k
    · go_wp2
      go_ret
      have : a = 0 := by have := HQ.out; simpa using this
      exact ⟨ret_int (by rw [this]; rfl), hbl⟩
    · obtain ⟨x, hx⟩ : ∃ x : Nat, a / 2 ^ (64 * k) % 2 ^ 64 = x := ⟨_, rfl⟩
      have hlt : k < 4 := by omega
      have c0 : wr.cell? ⟨w.heap.size, k, none⟩ = some (.int .u64 (x : Int)) := by rw [b0.cell, arr_get (lim a) k hlt, ← hx]; rfl
      have HX : Hid (a / 2 ^ (64 * k) = x) := by
        have := top_split a k
        rw [HQ.out, hx] at this
        show _ = _
        omega
      have HX2 : Hid (x < 18446744073709551616) := by rw [← hx]; exact Nat.mod_lt _ (by decide)
      clear hx
      by_cases h0 : x = 0
      · subst h0
        go_wp2
        go_roundw
        case rel => exact ⟨k, by omega, rfl, b0, hbl, HX.out⟩
        case measure => simp [intOf] <;> omega
      · have h0' : ((x : Int) != 0) = true := by simp only [bne_iff_ne, ne_eq]; omega
        have hln := ln_word a (64 * k) x HX.out h0
        have hle := ln_le x 64 HX2.out
        obtain ⟨L, hL⟩ : ∃ L, ln x = L := ⟨_, rfl⟩
        rw [hL] at hln hle
        have HL := Lib.hid hL
        have HN := Lib.hid hln
        clear hL hln
        go_wp2_with (go_at_call 84; refine (len64_any x _ HX2.out).mono ?_; rintro e w2 ⟨rfl, rfl⟩; rw [HL.out])
        go_ret
        exact ⟨ret_int (by rw [HN.out]; simp), hbl⟩
end Go.Proofs.Ytmpejkhffbonnaa
