/- The contract of wide.Div. -/
import Derived.Test.YtaeafgkjinhceaaWDivP
import Derived.Deep.RegionHeld3
import Derived.Deep.DeepCutAuto
namespace Go.Proofs.Ytaeafgkjinhceaa
open Go.RowKit

theorem orbit (Q i z : Nat) (hQ : Q = 2 ^ (i + 1) * z) (j : Nat) :
    (Q + 2 ^ i) / 2 ^ (64 * j) % 2 ^ 64 = if j = i / 64 then (Q / 2 ^ (64 * j) % 2 ^ 64) ||| 2 ^ (i % 64) else Q / 2 ^ (64 * j) % 2 ^ 64 := by
  have e : Q + 2 ^ i = Q ||| 2 ^ i := by
    rw [hQ]
    exact Nat.two_pow_add_eq_or_of_lt (Nat.pow_lt_pow_right (by omega) (by omega)) z
  rw [e]
  apply Nat.eq_of_testBit_eq
  intro t
  rw [Nat.testBit_mod_two_pow, Nat.testBit_div_two_pow, Nat.testBit_or, Nat.testBit_two_pow]
  by_cases hj : j = i / 64
  · rw [if_pos hj, Nat.testBit_or, Nat.testBit_mod_two_pow, Nat.testBit_div_two_pow, Nat.testBit_two_pow]
    by_cases ht : t < 64
    · have : (i = 64 * j + t) ↔ (i % 64 = t) := by omega
      simp only [ht, decide_true, Bool.true_and]
      congr 1
      simp only [decide_eq_decide]
      rw [show t + 64 * j = 64 * j + t by omega]
      exact this
    · have h2 : ¬ i % 64 = t := by omega
      simp [ht, h2]
  · rw [if_neg hj, Nat.testBit_mod_two_pow, Nat.testBit_div_two_pow]
    by_cases ht : t < 64
    · have : ¬ i = t + 64 * j := by omega
      simp [this]
    · simp [ht]

theorem bit_at (w : World) (a i b : Nat) (hi : i < 256) (hb : bitN a i = b) :
    Calls Try.prog 46 #[W a, .int .i64 (i : Int)] w fun e w' => e = .returned (.int .u64 (b : Int)) ∧ Below w.heap.size w w' :=
  (bit_any w a i hi).mono fun e w' ⟨h1, h2⟩ => ⟨by rw [h1, hb], h2⟩
theorem less_at (w : World) (r b m x : Nat) (c : Bool) (hr : r < m) (hm : m < 2 ^ 256) (hb : b ≤ 1) (hx : (2 * r + b) % m = x) (hc : decide (m ≤ 2 * r + b) = c) :
    Calls Try.prog 45 #[W r, .int .u64 (b : Int), W m] w fun e w' => e = .returned (.tuple #[W x, .bool c]) ∧ Below w.heap.size w w' :=
  (lessen_any w r b m hr hm hb).mono fun e w' ⟨h1, h2⟩ => ⟨by rw [h1, lessV, hx, hc], h2⟩
theorem len_at (w : World) (a n : Nat) (ha : a < 2 ^ 256) (hn : ln a = n) :
    Calls Try.prog 18 #[W a] w fun e w' => e = .returned (.int .i64 (n : Int)) ∧ Below w.heap.size w w' :=
  (len_any w a ha).mono fun e w' ⟨h1, h2⟩ => ⟨by rw [h1, hn], h2⟩

def DivInv (N : Nat) (w : World) (a b n : Nat) (i : Value) (wr : World) : Prop :=
  ∃ (j : Nat) (iv : Int), j ≤ n ∧ i = .int .i64 iv ∧ iv = (j : Int) - 1 ∧ Blk wr N 24 (Wc a) ∧ Blk wr (N + 1) 24 (Wc b) ∧ Blk wr (N + 2) 24 (arr fun _ => 0) ∧ Blk wr (N + 3) 24 (arr fun _ => 0) ∧
    Blk wr (N + 4) 24 (Wc (a / 2 ^ j / b * 2 ^ j)) ∧ Blk wr (N + 5) 24 (Wc (a / 2 ^ j % b)) ∧ Below N w wr

theorem or_pow (x r : Nat) (hx : x < 18446744073709551616) (hr : r < 64) : bits .or .u64 (x : Int) (IntKind.u64.wrap (2 ^ r)) = ((x ||| 2 ^ r : Nat) : Int) := by
  have hp : 2 ^ r < 18446744073709551616 := Nat.pow_lt_pow_right (n := 64) (by omega) hr
  have e : (2 : Int) ^ r = ((2 ^ r : Nat) : Int) := by simp
  rw [e]
  generalize 2 ^ r = q at hp
  have hw : IntKind.u64.wrap (q : Int) = (q : Int) := by
    simp only [IntKind.wrap, IntKind.bits, IntKind.signed]
    simp
    omega
  rw [hw, u64_or_nat _ _ hx hp]

theorem zero_arr : arr (fun _ => 0) = Wc 0 := by
  have h : ∀ k, lim 0 k = 0 := by intro k; unfold lim; simp
  unfold arr Wc
  rw [h 0, h 1, h 2, h 3]

set_option maxHeartbeats 4000000 in
theorem div_any (w : World) (a b : Nat) (ha : a < 2 ^ 256) (hb : b < 2 ^ 256) (hb0 : 0 < b) :
    Calls Try.prog 21 #[W a, W b] w fun e w' => e = .returned (.tuple #[W (a / b), W (a % b), .int .i64 0]) ∧ Below w.heap.size w w' := by
  have heq := fun w => eql0 b hb false (by simp; omega) w
  obtain ⟨n, hn⟩ : ∃ n, ln a = n := ⟨_, rfl⟩
  have hn1 : n ≤ 256 := by rw [← hn]; exact ln_le a 256 ha
  have HA0 : Hid (a / 2 ^ n = 0) := by rw [← hn]; exact Nat.div_eq_of_lt (ln_spec a).1
  have HN := Lib.hid hn
  have HA := Lib.hid ha
  have HB := Lib.hid hb
  have HB0 := Lib.hid hb0
  clear hn ha hb hb0
  go_enter Try.func21, Try.ntmps21
  go_wp2_with fail
  refine (len_at _ a n HA.out HN.out).mono ?_
  rintro e w1 ⟨rfl, hb1⟩
  have B0 : Hid (Blk w1 w.heap.size 24 (Wc a)) := ((((((Blk.new w _ _ _ rfl).alloc _).alloc _).alloc _).alloc _).alloc _).keep hb1
  have B1 : Hid (Blk w1 (w.heap.size + 1) 24 (Wc b)) := (((((Blk.new _ _ _ _ (by simp)).alloc _).alloc _).alloc _).alloc _).keep hb1
  have B2 : Hid (Blk w1 (w.heap.size + 2) 24 (arr fun _ => 0)) := ((((Blk.new _ _ _ _ (by simp)).alloc _).alloc _).alloc _).keep hb1
  have B3 : Hid (Blk w1 (w.heap.size + 3) 24 (arr fun _ => 0)) := (((Blk.new _ _ _ _ (by simp)).alloc _).alloc _).keep hb1
  have B4 : Hid (Blk w1 (w.heap.size + 4) 24 (arr fun _ => 0)) := ((Blk.new _ _ _ _ (by simp)).alloc _).keep hb1
  have B5 : Hid (Blk w1 (w.heap.size + 5) 24 (arr fun _ => 0)) := (Blk.new _ _ _ _ (by simp)).keep hb1
  have HB1 : Hid (Below w.heap.size w w1) := bl_tr (bl_al (bl_al (bl_al (bl_al (bl_al (bl_al (Below.refl _ _) _) _) _) _) _) _) hb1
  clear hb1
  go_wp2
  go_loopw [9, 10] (fun i _ wr => DivInv w.heap.size w a b n i wr) (fun i _ _ => (intOf i + 1).toNat)
  case atStart =>
    refine ⟨n, _, Nat.le_refl _, rfl, rfl, B0.out, B1.out, B2.out, B3.out, ?_, ?_, HB1.out⟩
    · rw [HA0.out, Nat.zero_div, Nat.zero_mul, ← zero_arr]; exact B4.out
    · rw [HA0.out, Nat.zero_mod, ← zero_arr]; exact B5.out
  case round =>
    clear B0 B1 B2 B3 B4 B5 HB1
    obtain ⟨j, iv, hj, rfl, hiv, b0, b1, b2, b3, b4, b5, hbl⟩ := hrel
    rcases j with _ | i
    · obtain rfl : iv = -1 := by omega
      clear hiv
      simp only [Nat.pow_zero, Nat.div_one, Nat.mul_one] at b4 b5
      obtain ⟨⟨q0, q1, q2, q3⟩, _⟩ := b4.facts
      obtain ⟨⟨r0, r1, r2, r3⟩, _⟩ := b5.facts
      obtain ⟨⟨s0, s1, s2, s3⟩, f0, f1, f2, f3⟩ := b2.facts
      obtain ⟨⟨t0, t1, t2, t3⟩, g0, g1, g2, g3⟩ := b3.facts
      have N2 := Lib.hid b2
      have N3 := Lib.hid b3
      have NB := Lib.hid hbl
      clear b0 b1 b2 b3 b4 b5 hbl
      go_wp2
      go_region
      all_goals go_wp2
      refine bodyPost_ret (results_ccu rfl rfl ((N2.out.fill rfl _ _ _ _).far4 (by omega) _ _ _ _).drew rfl rfl ((N3.out.far4 (by omega) _ _ _ _).fill rfl _ _ _ _).drew rfl) rfl ⟨rfl, (bl_set4 (bl_set4 NB.out (by omega) _ _ _ _) (by omega) _ _ _ _).drew⟩
    · obtain rfl : iv = (i : Int) := by omega
      clear hiv
      obtain ⟨R, hR⟩ : ∃ R, a / 2 ^ (i + 1) % b = R := ⟨_, rfl⟩
      obtain ⟨bt, hbt⟩ : ∃ bt, bitN a i = bt := ⟨_, rfl⟩
      have hbt1 : bt ≤ 1 := by rw [← hbt]; unfold bitN; omega
      have hRb : R < b := by rw [← hR]; exact Nat.mod_lt _ HB0.out
      obtain ⟨X, hX⟩ : ∃ X, (2 * R + bt) % b = X := ⟨_, rfl⟩
      obtain ⟨c, hc⟩ : ∃ c, decide (b ≤ 2 * R + bt) = c := ⟨_, rfl⟩
      rw [hR] at b5
      have HBI := fun w => Lib.hid (bit_at w a i bt (by omega) hbt)
      have HLE := fun w => Lib.hid (less_at w R bt b X c hRb HB.out hbt1 hX hc)
      obtain ⟨⟨a0, a1, a2, a3⟩, _⟩ := b0.facts
      obtain ⟨⟨m0, m1, m2, m3⟩, _⟩ := b1.facts
      obtain ⟨⟨r0, r1, r2, r3⟩, f0, f1, f2, f3⟩ := b5.facts
      have HR := Lib.hid hR
      have HBT := Lib.hid hbt
      have HX := Lib.hid hX
      have HC := Lib.hid hc
      have K0 := Lib.hid b0
      have K1 := Lib.hid b1
      have K2 := Lib.hid b2
      have K3 := Lib.hid b3
      have K4 := Lib.hid b4
      have K5 := Lib.hid b5
      have KB := Lib.hid hbl
      clear hR hbt hX hc b0 b1 b2 b3 b4 b5 hbl hRb
      go_upto_region 8 with (fail)
      go_cut [10] (fun cv wx => cv = .bool c ∧ Blk wx w.heap.size 24 (Wc a) ∧ Blk wx (w.heap.size + 1) 24 (Wc b) ∧ Blk wx (w.heap.size + 2) 24 (arr fun _ => 0) ∧ Blk wx (w.heap.size + 3) 24 (arr fun _ => 0) ∧ Blk wx (w.heap.size + 4) 24 (Wc (a / 2 ^ (i + 1) / b * 2 ^ (i + 1))) ∧ Blk wx (w.heap.size + 5) 24 (Wc X) ∧ Below w.heap.size w wx)
      case first =>
        go_region_with (first
          | (go_at_call 46; refine (HBI _).out.mono ?_; rintro e w2 ⟨rfl, hb2⟩; have L0 := Lib.hid (K0.out.drew.keep hb2); have L1 := Lib.hid (K1.out.drew.keep hb2); have L2 := Lib.hid (K2.out.drew.keep hb2); have L3 := Lib.hid (K3.out.drew.keep hb2); have L4 := Lib.hid (K4.out.drew.keep hb2); have L5 := Lib.hid (K5.out.drew.keep hb2); have LB := Lib.hid (bl_tr KB.out.drew hb2); clear hb2; obtain ⟨⟨a0', a1', a2', a3'⟩, _⟩ := L0.out.facts; obtain ⟨⟨m0', m1', m2', m3'⟩, _⟩ := L1.out.facts; obtain ⟨⟨r0', r1', r2', r3'⟩, _⟩ := L5.out.facts)
          | (go_at_call 45; refine (HLE _).out.mono ?_; rintro e w3 ⟨rfl, hb3⟩; clear a0 a1 a2 a3 m0 m1 m2 m3 r0 r1 r2 r3 f0 f1 f2 f3 a0' a1' a2' a3' m0' m1' m2' m3' r0' r1' r2' r3'; have M0 := Lib.hid (L0.out.keep hb3); have M1 := Lib.hid (L1.out.keep hb3); have M2 := Lib.hid (L2.out.keep hb3); have M3 := Lib.hid (L3.out.keep hb3); have M4 := Lib.hid (L4.out.keep hb3); have M5 := Lib.hid (L5.out.keep hb3); have MB := Lib.hid (bl_tr LB.out hb3); clear hb3 K0 K1 K2 K3 K4 K5 KB L0 L1 L2 L3 L4 L5 LB; obtain ⟨⟨r0, r1, r2, r3⟩, f0, f1, f2, f3⟩ := M5.out.facts))
        all_goals (go_wp2_with fail; go_meet; exact ⟨rfl, M0.out.far4 (by omega) _ _ _ _, M1.out.far4 (by omega) _ _ _ _, M2.out.far4 (by omega) _ _ _ _, M3.out.far4 (by omega) _ _ _ _, M4.out.far4 (by omega) _ _ _ _, M5.out.fill rfl _ _ _ _, bl_set4 MB.out (by omega) _ _ _ _⟩)
      case rest =>
        obtain ⟨rfl, b0, b1, b2, b3, b4, b5, hbl⟩ := hcut
        clear a0 a1 a2 a3 m0 m1 m2 m3 r0 r1 r2 r3 f0 f1 f2 f3 K0 K1 K2 K3 K4 K5 KB HBI HLE
        obtain ⟨Q, hQ⟩ : ∃ Q, a / 2 ^ (i + 1) / b * 2 ^ (i + 1) = Q := ⟨_, rfl⟩
        have HQ' : Hid (a / 2 ^ i / b * 2 ^ i = Q + (if c then 2 ^ i else 0)) := by
          rw [← hQ]
          exact qbits a b i HB0.out c (by rw [HR.out, HBT.out, HC.out])
        have HR' : Hid (a / 2 ^ i % b = X) := by rw [rstep, HR.out, HBT.out, HX.out]; exact rfl
        have HQz : Hid (∃ z, Q = 2 ^ (i + 1) * z) := ⟨a / 2 ^ (i + 1) / b, by rw [← hQ, Nat.mul_comm]⟩
        rw [hQ] at b4
        clear hQ HR HBT HX HC
        cases c
        · have N0 := Lib.hid b0
          have N1 := Lib.hid b1
          have N2 := Lib.hid b2
          have N3 := Lib.hid b3
          have N4 := Lib.hid b4
          have N5 := Lib.hid b5
          have NB := Lib.hid hbl
          clear b0 b1 b2 b3 b4 b5 hbl
          go_wp2
          go_roundw
          case rel => exact ⟨i, _, by omega, rfl, rfl, N0.out, N1.out, N2.out, N3.out, by rw [HQ'.out]; exact N4.out, by rw [HR'.out]; exact N5.out, NB.out⟩
          case measure => simp [intOf] <;> omega
        · have HQ2 : Hid (a / 2 ^ i / b * 2 ^ i = Q + 2 ^ i) := by unfold Hid; rw [HQ'.out]; rfl
          clear HQ'
          obtain ⟨x, hx⟩ : ∃ x : Nat, Q / 2 ^ (64 * (i / 64)) % 2 ^ 64 = x := ⟨_, rfl⟩
          have hx2 : x < 18446744073709551616 := by rw [← hx]; exact Nat.mod_lt _ (by decide)
          have q0 := b4.cell (i / 64)
          have hlx : lim Q (i / 64) = (x : Int) := by rw [← hx]; rfl
          rw [arr_get (lim Q) (i / 64) (by omega), hlx] at q0
          have q1 := b4.frozen (i / 64)
          clear hlx
          obtain ⟨y, hy⟩ : ∃ y : Nat, x ||| 2 ^ (i % 64) = y := ⟨_, rfl⟩
          have hor := or_pow x (i % 64) hx2 (Nat.mod_lt _ (by omega))
          rw [hy] at hor
          have HXY : Hid (Wc (Q + 2 ^ i) = arr (upd (lim Q) (i / 64) (y : Int))) := by
            obtain ⟨z, hz⟩ := HQz.out
            have ob := orbit Q i z hz
            have g : ∀ j, lim (Q + 2 ^ i) j = upd (lim Q) (i / 64) (y : Int) j := by
              intro j
              have o := ob j
              unfold upd
              by_cases hji : j = i / 64
              · rw [if_pos hji] at o ⊢
                unfold lim
                rw [o, hji, hx, hy]
              · rw [if_neg hji] at o ⊢
                unfold lim
                rw [o]
            unfold Hid Wc arr
            rw [g 0, g 1, g 2, g 3]
          have N0 := Lib.hid b0
          have N1 := Lib.hid b1
          have N2 := Lib.hid b2
          have N3 := Lib.hid b3
          have N4 := Lib.hid b4
          have N5 := Lib.hid b5
          have NB := Lib.hid hbl
          clear b0 b1 b2 b3 b4 b5 hbl hx hx2 hy
          go_wp2
          go_region
          go_wp2
          go_roundw
          case rel =>
            refine ⟨i, _, by omega, rfl, rfl, N0.out.drew.far (by simp <;> omega) _, N1.out.drew.far (by simp <;> omega) _, N2.out.drew.far (by simp <;> omega) _, N3.out.drew.far (by simp <;> omega) _, ?_, ?_, NB.out.drew.setCell (by simp <;> omega) _⟩
            · rw [HQ2.out, HXY.out, ← arr_set (lim Q) (i / 64) (by omega)]
              exact N4.out.drew.set_ _ _
            · rw [HR'.out]
              exact N5.out.drew.far (by simp <;> omega) _
          case measure => simp [intOf] <;> omega
end Go.Proofs.Ytaeafgkjinhceaa
