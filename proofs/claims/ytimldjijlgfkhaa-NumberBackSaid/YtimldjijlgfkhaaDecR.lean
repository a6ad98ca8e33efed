/- The contract of the reference's Decode. -/
import Derived.Test.YtimldjijlgfkhaaDec
import Derived.Deep.RegionWith
namespace Go.Proofs.Ytimldjijlgfkhaa
open Go.RowKit

/-- a list's number, its highest byte modulo 128 -/
def vlt : List UInt8 → Nat
  | [] => 0
  | [c] => c.toNat % 128
  | c :: d :: t => c.toNat + 256 * vlt (d :: t)
theorem vlt_cons (c : UInt8) (t : List UInt8) (h : t ≠ []) : vlt (c :: t) = c.toNat + 256 * vlt t := by
  cases t with
  | nil => exact absurd rfl h
  | cons d t => rfl
theorem vlt_snoc (xs : List UInt8) (c : UInt8) : vlt (xs ++ [c]) = vl xs + c.toNat % 128 * 256 ^ xs.length := by
  induction xs with
  | nil => simp [vl, vlt]
  | cons a t ih => rw [List.cons_append, vlt_cons _ _ (by simp), ih]; simp only [vl, List.length_cons, Nat.pow_succ]; grind
theorem vlt_le (l : List UInt8) (k : Nat) (h : l.length ≤ k + 1) : vlt l < 128 * 256 ^ k := by
  induction l generalizing k with
  | nil => have := Nat.pow_pos (n := k) (show 0 < 256 by decide); simp [vlt]; omega
  | cons c t ih =>
    by_cases ht : t = []
    · subst ht
      have := Nat.pow_pos (n := k) (show 0 < 256 by decide)
      simp [vlt]; omega
    · rw [vlt_cons _ _ ht]
      rcases k with _ | k
      · simp at h; exact absurd h ht
      · have := ih k (by simp at h; omega)
        rw [Nat.pow_succ]
        have := c.toNat_lt
        omega
theorem vlt_drop (l : List UInt8) (j : Nat) (h : j < l.length) : vlt (l.drop j) = if j + 1 = l.length then (l.getD j 0).toNat % 128 else (l.getD j 0).toNat + 256 * vlt (l.drop (j + 1)) := by
  have e : l.drop j = l.getD j 0 :: l.drop (j + 1) := by
    rw [List.drop_eq_getElem_cons h]; simp [List.getD, h]
  rw [e]
  split
  · rename_i hj
    rw [List.drop_of_length_le (by omega)]; rfl
  · rename_i hj
    rw [vlt_cons _ _ (by intro h0; have := congrArg List.length h0; simp at this; omega)]
theorem val_eq (l : List UInt8) : val l = if 128 ≤ (l.getD (l.length - 1) 0).toNat then -((vlt l : Nat) : Int) else ((vlt l : Nat) : Int) := by
  rcases hx : l.length with _ | N
  · have : l = [] := List.length_eq_zero_iff.1 hx
    subst this; rfl
  · have h1 : l = l.take N ++ [l.getD N 0] := by rw [← take_succ_getD l N (by omega), List.take_of_length_le (by omega)]
    have h2 := vlt_snoc (l.take N) (l.getD N 0)
    rw [← h1, List.length_take, hx, Nat.min_eq_left (by omega)] at h2
    unfold val
    rw [hx, h2]
    rfl

theorem not_of_true {b : Bool} (h : (!b) = true) : b = false := by cases b <;> simp_all
theorem not_of_false {b : Bool} (h : (!b) = false) : b = true := by cases b <;> simp_all
theorem decEnd_mk {w w1 : World} {l : List UInt8} {most : Int} {v : Value} (h : decV l most = v) (hb : Below w.drew.heap.size w.drew w1) : DecEnd w l most (.returned v) w1 :=
  ⟨by rw [h], (Below.refl w.heap.size w).drew.trans hb⟩

set_option maxHeartbeats 1000000 in
set_option maxRecDepth 100000 in
theorem decodeR_any (w : World) (a : Option Addr) (l : List UInt8) (cap : Nat) (most : Int) (h : Rd w a l) :
    Calls Try.prog 14 #[.slice a l.length cap, .int .i64 most] w (DecEnd w l most) := by
  have HRD := Lib.hid h
  obtain ⟨hlen, hrd⟩ := h
  have hM1 : ((l.length : Int) ≤ most ∧ l.length ≤ 8) ∨ (most < (l.length : Int)) ∨ ((l.length : Int) ≤ most ∧ 8 < l.length) := by omega
  rcases hM1 with ⟨h1, h2⟩ | h1 | ⟨h1, h2⟩
  · have hv := val_bound l h2
    obtain ⟨V, hV⟩ : ∃ V, val l = V := ⟨_, rfl⟩
    rw [hV] at hv
    have hel := enc_length V (by omega)
    have hv1 : -9223372036854775807 ≤ V := by omega
    have hv2 : V ≤ 9223372036854775807 := by omega
    have HE1 : Hid ((enc V == l) = true → decV l most = .tuple #[.int .i64 V, .int .i64 0]) := fun hq => by subst hV; exact decV_ok h1 h2 hq
    have HE0 : Hid ((enc V == l) = false → decV l most = .tuple #[.int .i64 0, .int .i64 15]) := fun hq => by subst hV; exact decV_no hq
    obtain ⟨n, hn⟩ : ∃ n, l.length = n := ⟨_, rfl⟩
    have hcv := conv_rd (w := w.drew) (a := a) cap HRD.out
    rw [hn] at hlen hrd h1 h2 hcv ⊢
    have HN := Lib.hid hn
    have HV := Lib.hid hV
    clear hn hV hv
    rcases n with _ | N
    · have e0 : V = 0 := by
        rw [← HV.out, List.length_eq_zero_iff.1 HN.out]; decide
      subst e0
      go_enter Try.func14, Try.ntmps14
      go_wp2
      go_loop [7, 6] (fun i am => i = .int .i64 (-1) ∧ am = .int .i64 0) (fun _ _ => 0)
      case atStart => exact ⟨rfl, rfl⟩
      case round =>
        obtain ⟨rfl, rfl⟩ := hrel
        go_wp2_with fail
        go_region_with (go_at_call 10; refine (encodeR_any _ _ (by omega) (by omega)).mono ?_; rintro e w1 ⟨v, rfl, hown, hb1⟩; obtain ⟨a2, cap2, rfl, hrd2⟩ := hown.rd (by omega); have hcv2 := conv_rd cap2 hrd2; have hr3 : Rd w1 _ l := Rd.below (w := w.drew) HRD.out hb1 (Nat.le_refl _); have hcv3 := conv_rd cap hr3; rw [HN.out] at hcv3)
        all_goals go_wp2
        all_goals first | (have hx : (!(enc 0 == l)) = true := (by assumption); go_ret2; exact decEnd_mk (HE0.out (not_of_true hx)) hb1) | (have hx : (!(enc 0 == l)) = false := (by assumption); go_ret2; exact decEnd_mk (HE1.out (not_of_false hx)) hb1)
    · obtain ⟨b, off, rfl, hc⟩ := hrd (by omega)
      clear hrd
      have hN7 : N ≤ 7 := by omega
      have hN8 : (N : Int) + 1 ≤ 8 := by omega
      go_enter Try.func14, Try.ntmps14
      go_wp2
      go_loop [7, 6] (fun i am => ∃ j : Nat, j ≤ N + 1 ∧ i = .int .i64 ((j : Int) - 1) ∧ am = .int .i64 (vlt (l.drop j) : Int)) (fun i _ => (intOf i + 1).toNat)
      case atStart => exact ⟨N + 1, Nat.le_refl _, by go_num, by rw [List.drop_of_length_le (by rw [HN.out]; exact Nat.le_refl _)]; rfl⟩
      case round =>
        obtain ⟨j, hj, rfl, rfl⟩ := hrel
        have hbnd := vlt_le (l.drop j) 7 (by rw [List.length_drop, HN.out]; omega)
        have p7 : (256 : Nat) ^ 7 = 72057594037927936 := by decide
        rw [p7] at hbnd
        clear p7
        rcases j with _ | j
        · obtain ⟨c, hcell, hcv⟩ : ∃ c : Nat, w.cell? ⟨b, off + N, none⟩ = some (.int .u8 (c : Int)) ∧ (l.getD N 0).toNat = c := ⟨_, hc N (by omega), rfl⟩
          have hvv := val_eq l
          rw [HV.out, HN.out] at hvv
          simp only [Nat.add_sub_cancel] at hvv
          rw [hcv] at hvv
          simp only [List.drop_zero] at hbnd ⊢
          obtain ⟨X, hX⟩ : ∃ X, vlt l = X := ⟨_, rfl⟩
          rw [hX] at hvv hbnd ⊢
          clear hX hcv hc
          by_cases h128 : 128 ≤ c
          · rw [if_pos h128] at hvv
            obtain rfl : V = -(X : Int) := hvv
            go_wp2_with fail
            go_region_with (go_at_call 10; refine (encodeR_any _ _ (by omega) (by omega)).mono ?_; rintro e w1 ⟨v, rfl, hown, hb1⟩; obtain ⟨a2, cap2, rfl, hrd2⟩ := hown.rd (by omega); have hcv2 := conv_rd cap2 hrd2; have hr3 : Rd w1 _ l := Rd.below (w := w.drew) HRD.out hb1 (Nat.le_refl _); have hcv3 := conv_rd cap hr3; rw [HN.out] at hcv3)
            all_goals go_wp2
            all_goals first | (have hx : (!(enc (-↑X) == l)) = true := (by assumption); go_ret2; exact decEnd_mk (HE0.out (not_of_true hx)) hb1) | (have hx : (!(enc (-↑X) == l)) = false := (by assumption); go_ret2; exact decEnd_mk (HE1.out (not_of_false hx)) hb1)
          · rw [if_neg h128] at hvv
            obtain rfl : V = (X : Int) := hvv
            go_wp2_with fail
            go_region_with (go_at_call 10; refine (encodeR_any _ _ (by omega) (by omega)).mono ?_; rintro e w1 ⟨v, rfl, hown, hb1⟩; obtain ⟨a2, cap2, rfl, hrd2⟩ := hown.rd (by omega); have hcv2 := conv_rd cap2 hrd2; have hr3 : Rd w1 _ l := Rd.below (w := w.drew) HRD.out hb1 (Nat.le_refl _); have hcv3 := conv_rd cap hr3; rw [HN.out] at hcv3)
            all_goals go_wp2
            all_goals first | (have hx : (!(enc ↑X == l)) = true := (by assumption); go_ret2; exact decEnd_mk (HE0.out (not_of_true hx)) hb1) | (have hx : (!(enc ↑X == l)) = false := (by assumption); go_ret2; exact decEnd_mk (HE1.out (not_of_false hx)) hb1)
        · obtain ⟨c, hcell, hcv⟩ : ∃ c : Nat, w.cell? ⟨b, off + j, none⟩ = some (.int .u8 (c : Int)) ∧ (l.getD j 0).toNat = c := ⟨_, hc j (by omega), rfl⟩
          have hc1 : c < 256 := by rw [← hcv]; exact (l.getD j 0).toNat_lt
          have hst := vlt_drop l j (by rw [HN.out]; omega)
          rw [hcv, HN.out] at hst
          have hY := vlt_le (l.drop (j + 1)) 6 (by rw [List.length_drop, HN.out]; omega)
          have p6 : (256 : Nat) ^ 6 = 281474976710656 := by decide
          rw [p6] at hY
          obtain ⟨Y, hYe⟩ : ∃ Y, vlt (l.drop (j + 1)) = Y := ⟨_, rfl⟩
          rw [hYe] at hst hY ⊢
          clear hYe hcv hc p6 hbnd
          by_cases hj2 : j < N
          · rw [if_neg (by omega)] at hst
            have HS := Lib.hid hst
            clear hst
            go_wp2
            go_round
            case rel => exact ⟨j, by omega, rfl, by rw [HS.out]; congr 1; omega⟩
            case measure => simp [intOf]
          · obtain rfl : j = N := by omega
            rw [if_pos rfl] at hst
            have HS := Lib.hid hst
            clear hst
            go_wp2
            go_round
            case rel => exact ⟨j, by omega, rfl, by rw [HS.out]; congr 1⟩
            case measure => simp [intOf]
  · have HE := Lib.hid (decV_long (l := l) (most := most) (fun hh => by omega))
    obtain ⟨n, hn⟩ : ∃ n, l.length = n := ⟨_, rfl⟩
    rw [hn] at hlen h1 ⊢
    clear hrd hn
    go_enter Try.func14, Try.ntmps14
    go_wp2
    go_ret2
    exact ⟨by rw [HE.out]; rfl, Below.refl _ _⟩
  · have HE := Lib.hid (decV_long (l := l) (most := most) (fun hh => by omega))
    obtain ⟨n, hn⟩ : ∃ n, l.length = n := ⟨_, rfl⟩
    rw [hn] at hlen h1 h2 ⊢
    clear hrd hn
    have h3 : (8 : Int) < n := by omega
    go_enter Try.func14, Try.ntmps14
    go_wp2
    go_ret2
    exact ⟨by rw [HE.out]; rfl, Below.refl _ _⟩
end Go.Proofs.Ytimldjijlgfkhaa
