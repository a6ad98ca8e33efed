/- The contract of number.Decode. -/
import Derived.Test.YtimldjijlgfkhaaVal
namespace Go.Proofs.Ytimldjijlgfkhaa
open Go.RowKit

theorem sgn_length (b : Bool) (xs : List UInt8) : (sgn b xs).length ≤ xs.length + 1 := by
  unfold sgn
  repeat' split
  all_goals simp
theorem enc_length (n : Int) (h : n.natAbs < 18446744073709551616) : (enc n).length ≤ 9 := by
  have h1 := le_length 8 n.natAbs (by omega)
  have h2 := sgn_length (decide (n < 0)) (le n.natAbs)
  unfold enc
  omega

def decV (l : List UInt8) (most : Int) : Value := .tuple #[.int .i64 (if decOk l most then val l else 0), .int .i64 (if decOk l most then 0 else 15)]
def DecEnd (w : World) (l : List UInt8) (most : Int) (e : Ending) (w' : World) : Prop := e = .returned (decV l most) ∧ Below w.heap.size w w'

theorem val_bound (l : List UInt8) (h : l.length ≤ 8) : -9223372036854775808 < val l ∧ val l < 9223372036854775808 := by
  rcases hx : l.length with _ | N
  · have : l = [] := List.length_eq_zero_iff.1 hx
    subst this; decide
  · have h1 := vl_lt (l.take N)
    rw [List.length_take, hx, Nat.min_eq_left (by omega)] at h1
    have h2 := p256_le N (by omega)
    have h3 : (l.getD N 0).toNat % 128 * 256 ^ N ≤ 127 * 256 ^ N := Nat.mul_le_mul_right _ (by omega)
    unfold val
    rw [hx]
    simp only [Nat.add_sub_cancel]
    split <;> omega

theorem val_low (l : List UInt8) (N c : Nat) (hN : l.length = N + 1) (hc : (l.getD N 0).toNat = c) (h : c < 128) : val l = ((vl (l.take N) + c * 256 ^ N : Nat) : Int) := by
  unfold val
  rw [hN]
  simp only [Nat.add_sub_cancel]
  rw [hc, if_neg (by omega), Nat.mod_eq_of_lt h]
theorem val_high (l : List UInt8) (N c : Nat) (hN : l.length = N + 1) (hc : (l.getD N 0).toNat = c) (h : 128 ≤ c) : val l = -((vl (l.take N) + c % 128 * 256 ^ N : Nat) : Int) := by
  unfold val
  rw [hN]
  simp only [Nat.add_sub_cancel]
  rw [hc, if_pos (by omega)]
theorem vl_top (l : List UInt8) (N c : Nat) (hN : l.length = N + 1) (hc : (l.getD N 0).toNat = c) : vl l = vl (l.take N) + c * 256 ^ N := by
  have h1 : l = l.take N ++ [l.getD N 0] := by
    rw [← take_succ_getD l N (by omega), List.take_of_length_le (by omega)]
  have h2 := vl_snoc (l.take N) (l.getD N 0)
  rw [← h1, hc, List.length_take, hN, Nat.min_eq_left (by omega)] at h2
  exact h2

theorem decV_long {l : List UInt8} {most : Int} (h : ¬ ((l.length : Int) ≤ most ∧ l.length ≤ 8)) : decV l most = .tuple #[.int .i64 0, .int .i64 15] := by
  have : decOk l most = false := by
    unfold decOk
    rw [Bool.and_eq_false_iff]
    left
    rw [Bool.and_eq_false_iff]
    by_cases h1 : (l.length : Int) ≤ most
    · right; simp; have : ¬ l.length ≤ 8 := fun h2 => h ⟨h1, h2⟩
      omega
    · left; simp; omega
  simp [decV, this]
theorem decV_ok {l : List UInt8} {most : Int} (h1 : (l.length : Int) ≤ most) (h2 : l.length ≤ 8) (h : (enc (val l) == l) = true) : decV l most = .tuple #[.int .i64 (val l), .int .i64 0] := by
  have : decOk l most = true := by simp [decOk, h1, h2, h]
  simp [decV, this]
theorem decV_no {l : List UInt8} {most : Int} (h : (enc (val l) == l) = false) : decV l most = .tuple #[.int .i64 0, .int .i64 15] := by
  have : decOk l most = false := by simp [decOk, h]
  simp [decV, this]

theorem or_step' (A k c : Nat) (hA : A < 256 ^ k) (hk : k ≤ 7) (hc : c < 256) :
    bits .or .u64 (A : Int) (IntKind.u64.wrap ((c : Int) * 2 ^ (8 * k))) = ((A + c * 256 ^ k : Nat) : Int) := or_step A k c hA hk hc

set_option maxHeartbeats 1000000 in
set_option maxRecDepth 100000 in
theorem decode_any (w : World) (a : Option Addr) (l : List UInt8) (cap : Nat) (most : Int) (h : Rd w a l) :
    Calls Try.prog 13 #[.slice a l.length cap, .int .i64 most] w (DecEnd w l most) := by
  have HRD := Lib.hid h
  obtain ⟨hlen, hrd⟩ := h
  obtain ⟨M, hM⟩ : ∃ M, (if (8 : Int) < most then 8 else most) = M := ⟨_, rfl⟩
  have hM1 : ∀ n : Nat, (n : Int) ≤ M ↔ ((n : Int) ≤ most ∧ n ≤ 8) := by intro n; rw [← hM]; split <;> omega
  by_cases hlong : ¬ ((l.length : Int) ≤ M)
  · have HE := Lib.hid (decV_long (fun hh => hlong ((hM1 _).2 hh)))
    obtain ⟨n, hn⟩ : ∃ n, l.length = n := ⟨_, rfl⟩
    rw [hn] at hlen hlong ⊢
    clear hM1 hrd hn
    go_enter Try.func13, Try.ntmps13
    go_wp2
    go_ret2
    exact ⟨by rw [HE.out]; rfl, Below.refl _ _⟩
  · have hshort := Classical.not_not.1 hlong
    obtain ⟨h1, h2⟩ := (hM1 _).1 hshort
    clear hM1 hlong
    have hv := val_bound l h2
    obtain ⟨V, hV⟩ : ∃ V, val l = V := ⟨_, rfl⟩
    rw [hV] at hv
    have hel := enc_length V (by omega)
    have hv1 : -9223372036854775807 ≤ V := by omega
    have hv2 : V ≤ 9223372036854775807 := by omega
    have HE1 : Hid ((enc V == l) = true → decV l most = .tuple #[.int .i64 V, .int .i64 0]) := fun hq => by subst hV; exact decV_ok h1 h2 hq
    have HE0 : Hid ((enc V == l) = false → decV l most = .tuple #[.int .i64 0, .int .i64 15]) := fun hq => by subst hV; exact decV_no hq
    obtain ⟨n, hn⟩ : ∃ n, l.length = n := ⟨_, rfl⟩
    rw [hn] at hlen hshort hrd h2 ⊢
    have HN := Lib.hid hn
    have HV := Lib.hid hV
    clear hn hV h1 hv
    rcases n with _ | N
    · have e0 : V = 0 := by
        rw [← HV.out, List.length_eq_zero_iff.1 HN.out]; decide
      subst e0
      go_enter Try.func13, Try.ntmps13
      go_wp2
      go_loop [18, 6, 7, 8] (fun i am _ _ => i = .int .i64 0 ∧ am = .int .u64 0) (fun _ _ _ _ => 0)
      case atStart => exact ⟨rfl, rfl⟩
      case round =>
        obtain ⟨rfl, rfl⟩ := hrel
        go_wp2_with (first
          | (go_at_call 9; refine (encode_any _ _ (by omega) (by omega)).mono ?_; rintro e w1 ⟨v, rfl, hown, hb1⟩; obtain ⟨a2, cap2, rfl, hrd2⟩ := hown.rd (by omega); have hr3 := HRD.out.below hb1 (Nat.le_refl _); rw [HN.out.symm])
          | (go_at_call 17; refine (equal_any _ _ _ _ _ _ _ hrd2 hr3).mono ?_; rintro e w2 ⟨rfl, rfl⟩))
        · have hx : (!(enc 0 == l)) = true := by assumption
          go_ret2
          exact ⟨by rw [HE0.out (by simpa using hx)]; rfl, hb1⟩
        · have hx : (!(enc 0 == l)) = false := by assumption
          go_ret2
          exact ⟨by rw [HE1.out (by simpa using hx)]; rfl, hb1⟩
    · obtain ⟨b, off, rfl, hc⟩ := hrd (by omega)
      clear hrd
      go_enter Try.func13, Try.ntmps13
      go_wp2
      go_loop [18, 6, 7, 8] (fun i am _ _ => ∃ k A : Nat, k ≤ N + 1 ∧ i = .int .i64 k ∧ am = .int .u64 A ∧ A = vl (l.take k)) (fun i _ _ _ => N + 1 - (intOf i).toNat)
      case atStart => exact ⟨0, 0, Nat.zero_le _, rfl, rfl, rfl⟩
      case round =>
        obtain ⟨k, A, hk, rfl, rfl, hA⟩ := hrel
        have hHA := Lib.hid hA
        clear hA
        by_cases hlt : k < N + 1
        · obtain ⟨c, hcell, hcv⟩ : ∃ c : Nat, w.cell? ⟨b, off + k, none⟩ = some (.int .u8 (c : Int)) ∧ c = (l.getD k 0).toNat := ⟨_, hc k hlt, rfl⟩
          have hA1 : A < 256 ^ k := by
            have := vl_lt (l.take k)
            rw [List.length_take, HN.out, Nat.min_eq_left (by omega)] at this
            rw [hHA.out]; exact this
          have hc1 : c < 256 := by rw [hcv]; exact (l.getD k 0).toNat_lt
          obtain ⟨A2, hA2⟩ : ∃ A2, A + c * 256 ^ k = A2 := ⟨_, rfl⟩
          have HS : Hid (A2 = vl (l.take (k + 1))) := by
            rw [take_succ_getD l k (by rw [HN.out]; omega), vl_snoc, ← hHA.out, List.length_take, HN.out, Nat.min_eq_left (by omega), ← hA2, hcv]; exact rfl
          have hor := or_step A k c hA1 (by omega) hc1
          rw [hA2] at hor
          clear hcv hc hA2 hA1
          go_wp2
          go_round
          case rel => exact ⟨k + 1, A2, by omega, by go_num, rfl, HS.out⟩
          case measure => simp [intOf]; omega
        · obtain rfl : k = N + 1 := by omega
          obtain ⟨c, hcell, hcv⟩ : ∃ c : Nat, w.cell? ⟨b, off + N, none⟩ = some (.int .u8 (c : Int)) ∧ (l.getD N 0).toNat = c := ⟨_, hc N (by omega), rfl⟩
          have hc1 : c < 256 := by rw [← hcv]; exact (l.getD N 0).toNat_lt
          have hand := and128 ⟨c, hc1⟩
          simp only at hand
          have hAv : A = vl (l.take N) + c * 256 ^ N := by
            rw [hHA.out, ← vl_top l N c HN.out hcv, List.take_of_length_le (by rw [HN.out]; exact Nat.le_refl _)]
          have hB := vl_lt (l.take N)
          rw [List.length_take, HN.out, Nat.min_eq_left (by omega)] at hB
          have h3 := p256_le N (by omega)
          have hand2 := fun h => andNot_top (vl (l.take N)) N c hB (by omega) h hc1
          rw [← hAv] at hand2
          clear hc
          by_cases h128 : 128 ≤ c
          · rw [decide_eq_true h128] at hand
            have ha2 := hand2 h128
            have hvv := val_high l N c HN.out hcv h128
            rw [HV.out] at hvv
            obtain ⟨X, hX⟩ : ∃ X, vl (l.take N) + c % 128 * 256 ^ N = X := ⟨_, rfl⟩
            rw [hX] at hvv ha2
            clear hand2 hX hAv hB hcv
            obtain rfl : V = -(X : Int) := hvv
            have hX2 : X ≤ 9223372036854775807 := by omega
            clear h3
            go_wp2_with (first
              | (go_at_call 9; refine (encode_any _ _ (by omega) (by omega)).mono ?_; rintro e w1 ⟨v, rfl, hown, hb1⟩; obtain ⟨a2, cap2, rfl, hrd2⟩ := hown.rd (by omega); have hr3 := HRD.out.below hb1 (Nat.le_refl _); rw [HN.out.symm])
              | (go_at_call 17; refine (equal_any _ _ _ _ _ _ _ hrd2 hr3).mono ?_; rintro e w2 ⟨rfl, rfl⟩))
            · have hx : (!(enc (-↑X) == l)) = true := by assumption
              go_ret2
              exact ⟨by rw [HE0.out (by simpa using hx)]; rfl, hb1⟩
            · have hx : (!(enc (-↑X) == l)) = false := by assumption
              go_ret2
              exact ⟨by rw [HE1.out (by simpa using hx)]; rfl, hb1⟩
          · rw [decide_eq_false h128] at hand
            have hvv := val_low l N c HN.out hcv (by omega)
            rw [HV.out, ← hAv] at hvv
            clear hand2 hAv hB hcv
            obtain rfl : V = (A : Int) := hvv
            have hX2 : A ≤ 9223372036854775807 := by omega
            clear h3
            go_wp2_with (first
              | (go_at_call 9; refine (encode_any _ _ (by omega) (by omega)).mono ?_; rintro e w1 ⟨v, rfl, hown, hb1⟩; obtain ⟨a2, cap2, rfl, hrd2⟩ := hown.rd (by omega); have hr3 := HRD.out.below hb1 (Nat.le_refl _); rw [HN.out.symm])
              | (go_at_call 17; refine (equal_any _ _ _ _ _ _ _ hrd2 hr3).mono ?_; rintro e w2 ⟨rfl, rfl⟩))
            · have hx : (!(enc ↑A == l)) = true := by assumption
              go_ret2
              exact ⟨by rw [HE0.out (by simpa using hx)]; rfl, hb1⟩
            · have hx : (!(enc ↑A == l)) = false := by assumption
              go_ret2
              exact ⟨by rw [HE1.out (by simpa using hx)]; rfl, hb1⟩
end Go.Proofs.Ytimldjijlgfkhaa
