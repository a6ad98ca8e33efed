/- The contract of the reference's Len. -/
import Derived.Test.YtmpejkhffbonnaaWLen
import Derived.Test.YtmpejkhffbonnaaWLess
namespace Go.Proofs.Ytmpejkhffbonnaa
open Go.RowKit

theorem bitR_at (w : World) (a i b : Nat) (hi : i < 256) (hb : bitN a i = b) :
    Calls Try.prog 40 #[W a, .int .i64 (i : Int)] w fun e w' => e = .returned (.int .u64 (b : Int)) ∧ Below w.heap.size w w' :=
  (bitR_any w a i hi).mono fun e w' ⟨h1, h2⟩ => ⟨by rw [h1, hb], h2⟩

def LenRInv (N : Nat) (w : World) (a : Nat) (i : Value) (wr : World) : Prop :=
  ∃ k : Nat, k ≤ 256 ∧ i = .int .i64 (k : Int) ∧ Blk wr N 24 (Wc a) ∧ Below N w wr ∧ a < 2 ^ k

set_option maxHeartbeats 1000000 in
theorem lenR_any (w : World) (a : Nat) (ha : a < 2 ^ 256) :
    Calls Try.prog 38 #[W a] w fun e w' => e = .returned (.int .i64 (ln a : Int)) ∧ Below w.heap.size w w' := by
  have H0 : Hid (a < 2 ^ 256) := ha
  clear ha
  go_enter Try.func38, Try.ntmps38
  go_wp2
  go_loopw [3] (fun i wr => LenRInv w.heap.size w a i wr) (fun i _ => (intOf i).toNat)
  case atStart => exact ⟨256, by omega, rfl, Blk.new w _ _ _ rfl, bl_al (Below.refl _ _) _, H0.out⟩
  case round =>
    obtain ⟨k, hk, rfl, b0, hbl, hq⟩ := hrel
    have HQ := Lib.hid hq
    clear hq
    rcases k with _ | k
    · go_wp2
      go_ret
      have : a = 0 := by have := HQ.out; simpa using this
      exact ⟨ret_int (by rw [this]; rfl), hbl⟩
    · obtain ⟨⟨c0, c1, c2, c3⟩, _⟩ := b0.facts
      have hdiv : a / 2 ^ k < 2 := by
        rw [Nat.div_lt_iff_lt_mul (Nat.two_pow_pos k)]
        have := HQ.out
        rw [Nat.pow_succ] at this
        omega
      rcases Nat.eq_zero_or_pos (a / 2 ^ k) with h0 | h0
      · have HB : Hid (bitN a k = 0) := by unfold bitN; rw [h0]; exact rfl
        have HL : Hid (a < 2 ^ k) := by
          have := (Nat.div_eq_zero_iff_lt (Nat.two_pow_pos k)).1 h0
          exact this
        clear h0 hdiv
        go_wp2_with (go_at_call 40; refine (bitR_at _ a k 0 (by omega) HB.out).mono ?_; rintro e w2 ⟨rfl, hb2⟩; have B2 := Lib.hid (b0.keep hb2); have HB2 := Lib.hid (bl_tr hbl hb2); clear hb2)
        go_roundw
        case rel => exact ⟨k, by omega, by go_num, B2.out, HB2.out, HL.out⟩
        case measure => simp [intOf] <;> omega
      · have h1 : a / 2 ^ k = 1 := by omega
        have HB : Hid (bitN a k = 1) := by unfold bitN; rw [h1]; exact rfl
        have HL : Hid (ln a = k + 1) := ln_unique HQ.out fun _ => by
          have := (Nat.le_div_iff_mul_le (Nat.two_pow_pos k)).1 (Nat.le_of_eq h1.symm)
          simpa using this
        clear h0 hdiv h1
        go_wp2_with (go_at_call 40; refine (bitR_at _ a k 1 (by omega) HB.out).mono ?_; rintro e w2 ⟨rfl, hb2⟩; have HB2 := Lib.hid (bl_tr hbl hb2); clear hb2)
        go_ret
        exact ⟨ret_int (by rw [HL.out]; simp), HB2.out⟩
end Go.Proofs.Ytmpejkhffbonnaa
