/- The contract of wide.lessen. -/
import Derived.Test.YtaeafgkjinhceaaWTwice
namespace Go.Proofs.Ytaeafgkjinhceaa
open Go.RowKit

theorem twice_at (w : World) (n b y c : Nat) (hn : n < 2 ^ 256) (hb : b ≤ 1) (hy : (2 * n + b) % 2 ^ 256 = y) (hc : (2 * n + b) / 2 ^ 256 = c) :
    Calls Try.prog 51 #[W n, .int .u64 (b : Int)] w fun e w' => e = .returned (.tuple #[W y, .int .u64 (c : Int)]) ∧ Below w.heap.size w w' :=
  (twice_any w n b hn hb).mono fun e w' ⟨h1, h2⟩ => ⟨by rw [h1, twV, hy, hc], h2⟩
def lessV (r b m : Nat) : Value := .tuple #[W ((2 * r + b) % m), .bool (decide (m ≤ 2 * r + b))]

set_option maxHeartbeats 1000000 in
theorem lessen_any (w : World) (r b m : Nat) (hr : r < m) (hm : m < 2 ^ 256) (hb : b ≤ 1) :
    Calls Try.prog 45 #[W r, .int .u64 (b : Int), W m] w fun e w' => e = .returned (lessV r b m) ∧ Below w.heap.size w w' := by
  obtain ⟨X, hX⟩ : ∃ X, 2 * r + b = X := ⟨_, rfl⟩
  have hV : lessV r b m = .tuple #[W (X % m), .bool (decide (m ≤ X))] := by rw [lessV, hX]
  rcases Nat.lt_or_ge X m with h1 | h1
  · have HV : Hid (lessV r b m = .tuple #[W X, .bool false]) := by rw [hV, Nat.mod_eq_of_lt h1, decide_eq_false (by omega)]; exact rfl
    have HT := fun w => Lib.hid (twice_at w r b X 0 (by omega) hb (by rw [hX, Nat.mod_eq_of_lt (by omega)]) (by rw [hX, Nat.div_eq_of_lt (by omega)]))
    have HC := fun w => Lib.hid (cmp_at w X m (by omega) hm (-1) (cmp_lt h1))
    clear hV hX h1 hr hm
    go_enter Try.func45, Try.ntmps45
    go_wp2_with fail
    refine (HT _).out.mono ?_
    rintro e w1 ⟨rfl, hb1⟩
    have B0 : Hid (Blk w1 w.heap.size 24 (Wc r)) := (((Blk.new w _ _ _ rfl).alloc _).alloc _).keep hb1
    have B1 : Hid (Blk w1 (w.heap.size + 1) 24 (Wc m)) := ((Blk.new _ _ _ _ (by simp)).alloc _).keep hb1
    have B2 : Hid (Blk w1 (w.heap.size + 1 + 1) 24 (arr fun _ => 0)) := (Blk.new _ _ _ _ (by simp)).keep hb1
    have HB1 : Hid (Below w.heap.size w w1) := bl_tr (bl_al (bl_al (bl_al (Below.refl _ _) _) _) _) hb1
    clear hb1
    obtain ⟨⟨c0, c1, c2, c3⟩, f0, f1, f2, f3⟩ := B0.out.facts
    obtain ⟨⟨m0, m1, m2, m3⟩, _⟩ := B1.out.facts
    go_wp2_with fail
    refine (HC _).out.mono ?_
    rintro e w2 ⟨rfl, hb2⟩
    clear c0 c1 c2 c3 f0 f1 f2 f3 m0 m1 m2 m3
    have B0' : Hid (Blk w2 w.heap.size 24 (Wc X)) := (B0.out.fill rfl _ _ _ _).keep hb2
    have B1' : Hid (Blk w2 (w.heap.size + 1) 24 (Wc m)) := (B1.out.far4 (by omega) _ _ _ _).keep hb2
    have B2' : Hid (Blk w2 (w.heap.size + 1 + 1) 24 (arr fun _ => 0)) := (B2.out.far4 (by omega) _ _ _ _).keep hb2
    have HB2 : Hid (Below w.heap.size w w2) := bl_tr (bl_set4 HB1.out (Nat.le_refl _) _ _ _ _) hb2
    clear hb2
    obtain ⟨⟨c0, c1, c2, c3⟩, _⟩ := B0'.out.facts
    obtain ⟨⟨m0, m1, m2, m3⟩, f0, f1, f2, f3⟩ := B2'.out.facts
    go_wp2
    refine bodyPost_ret (results_cu rfl rfl (B2'.out.fill rfl _ _ _ _) rfl) rfl ⟨?_, bl_set4 HB2.out (by omega) _ _ _ _⟩
    rw [HV.out]
    rfl
  · have hXm : X - m < m := by omega
    have hmod : X % m = X - m := by rw [Nat.mod_eq_sub_mod h1, Nat.mod_eq_of_lt hXm]
    have HV : Hid (lessV r b m = .tuple #[W (X - m), .bool true]) := by rw [hV, hmod, decide_eq_true h1]; exact rfl
    rcases Nat.lt_or_ge X (2 ^ 256) with h2 | h2
    · have HT := fun w => Lib.hid (twice_at w r b X 0 (by omega) hb (by rw [hX, Nat.mod_eq_of_lt h2]) (by rw [hX, Nat.div_eq_of_lt h2]))
      obtain ⟨z, hz, hz0⟩ : ∃ z, cmpZ X m = z ∧ 0 ≤ z := ⟨_, rfl, by unfold cmpZ; rw [if_neg (by omega)]; split <;> omega⟩
      have HC := fun w => Lib.hid (cmp_at w X m h2 hm z hz)
      have HS := fun w => Lib.hid (sub_at w X m (X - m) 0 h2 hm (by rw [show X + 2 ^ 256 - m = X - m + 2 ^ 256 by omega, Nat.add_mod_right, Nat.mod_eq_of_lt (by omega)]) (by unfold bor; rw [if_neg (by omega)]))
      clear hV hX h1 hr hm hXm hmod h2 hz
      go_enter Try.func45, Try.ntmps45
      go_wp2_with fail
      refine (HT _).out.mono ?_
      rintro e w1 ⟨rfl, hb1⟩
      have B0 : Hid (Blk w1 w.heap.size 24 (Wc r)) := (((Blk.new w _ _ _ rfl).alloc _).alloc _).keep hb1
      have B1 : Hid (Blk w1 (w.heap.size + 1) 24 (Wc m)) := ((Blk.new _ _ _ _ (by simp)).alloc _).keep hb1
      have B2 : Hid (Blk w1 (w.heap.size + 1 + 1) 24 (arr fun _ => 0)) := (Blk.new _ _ _ _ (by simp)).keep hb1
      have HB1 : Hid (Below w.heap.size w w1) := bl_tr (bl_al (bl_al (bl_al (Below.refl _ _) _) _) _) hb1
      clear hb1
      obtain ⟨⟨c0, c1, c2, c3⟩, f0, f1, f2, f3⟩ := B0.out.facts
      obtain ⟨⟨m0, m1, m2, m3⟩, _⟩ := B1.out.facts
      go_wp2_with fail
      refine (HC _).out.mono ?_
      rintro e w2 ⟨rfl, hb2⟩
      clear c0 c1 c2 c3 f0 f1 f2 f3 m0 m1 m2 m3
      have B0' : Hid (Blk w2 w.heap.size 24 (Wc X)) := (B0.out.fill rfl _ _ _ _).keep hb2
      have B1' : Hid (Blk w2 (w.heap.size + 1) 24 (Wc m)) := (B1.out.far4 (by omega) _ _ _ _).keep hb2
      have B2' : Hid (Blk w2 (w.heap.size + 1 + 1) 24 (arr fun _ => 0)) := (B2.out.far4 (by omega) _ _ _ _).keep hb2
      have HB2 : Hid (Below w.heap.size w w2) := bl_tr (bl_set4 HB1.out (Nat.le_refl _) _ _ _ _) hb2
      clear hb2
      obtain ⟨⟨c0, c1, c2, c3⟩, _⟩ := B0'.out.facts
      obtain ⟨⟨m0, m1, m2, m3⟩, _⟩ := B1'.out.facts
      go_wp2_with fail
      refine (HS _).out.mono ?_
      rintro e w3 ⟨rfl, hb3⟩
      clear c0 c1 c2 c3 m0 m1 m2 m3 
      have B0'' : Hid (Blk w3 w.heap.size 24 (Wc X)) := (B0'.out).keep hb3
      have B2'' : Hid (Blk w3 (w.heap.size + 1 + 1) 24 (arr fun _ => 0)) := (B2'.out).keep hb3
      have HB3 : Hid (Below w.heap.size w w3) := bl_tr HB2.out hb3
      clear hb3
      obtain ⟨⟨c0, c1, c2, c3⟩, f0, f1, f2, f3⟩ := B0''.out.facts
      obtain ⟨⟨m0, m1, m2, m3⟩, g0, g1, g2, g3⟩ := B2''.out.facts
      go_wp2
      refine bodyPost_ret (results_cu rfl rfl ((B2''.out.far4 (by omega) _ _ _ _).fill rfl _ _ _ _) rfl) rfl ⟨?_, bl_set4 (bl_set4 HB3.out (Nat.le_refl _) _ _ _ _) (by omega) _ _ _ _⟩
      rw [HV.out]
      rfl
    · have HT := fun w => Lib.hid (twice_at w r b (X - 2 ^ 256) 1 (by omega) hb (by rw [hX, Nat.mod_eq_sub_mod h2, Nat.mod_eq_of_lt (by omega)]) (by rw [hX]; omega))
      obtain ⟨Y, hY⟩ : ∃ Y, X - 2 ^ 256 = Y := ⟨_, rfl⟩
      have HS := fun w => Lib.hid (sub_at w Y m (X - m) (bor Y m) (by omega) hm (by rw [show Y + 2 ^ 256 - m = X - m by omega, Nat.mod_eq_of_lt (by omega)]) rfl)
      rw [hY] at HT
      clear hV hX h1 hr hm hXm hmod h2 hY
      go_enter Try.func45, Try.ntmps45
      go_wp2_with fail
      refine (HT _).out.mono ?_
      rintro e w1 ⟨rfl, hb1⟩
      have B0 : Hid (Blk w1 w.heap.size 24 (Wc r)) := (((Blk.new w _ _ _ rfl).alloc _).alloc _).keep hb1
      have B1 : Hid (Blk w1 (w.heap.size + 1) 24 (Wc m)) := ((Blk.new _ _ _ _ (by simp)).alloc _).keep hb1
      have B2 : Hid (Blk w1 (w.heap.size + 1 + 1) 24 (arr fun _ => 0)) := (Blk.new _ _ _ _ (by simp)).keep hb1
      have HB1 : Hid (Below w.heap.size w w1) := bl_tr (bl_al (bl_al (bl_al (Below.refl _ _) _) _) _) hb1
      clear hb1
      obtain ⟨⟨c0, c1, c2, c3⟩, f0, f1, f2, f3⟩ := B0.out.facts
      obtain ⟨⟨m0, m1, m2, m3⟩, _⟩ := B1.out.facts
      go_wp2_with fail
      refine (HS _).out.mono ?_
      rintro e w3 ⟨rfl, hb3⟩
      clear c0 c1 c2 c3 m0 m1 m2 m3 f0 f1 f2 f3
      have B0'' : Hid (Blk w3 w.heap.size 24 (Wc Y)) := (B0.out.fill rfl _ _ _ _).keep hb3
      have B2'' : Hid (Blk w3 (w.heap.size + 1 + 1) 24 (arr fun _ => 0)) := (B2.out.far4 (by omega) _ _ _ _).keep hb3
      have HB3 : Hid (Below w.heap.size w w3) := bl_tr (bl_set4 HB1.out (Nat.le_refl _) _ _ _ _) hb3
      clear hb3
      obtain ⟨⟨c0, c1, c2, c3⟩, f0, f1, f2, f3⟩ := B0''.out.facts
      obtain ⟨⟨m0, m1, m2, m3⟩, g0, g1, g2, g3⟩ := B2''.out.facts
      go_wp2
      refine bodyPost_ret (results_cu rfl rfl ((B2''.out.far4 (by omega) _ _ _ _).fill rfl _ _ _ _) rfl) rfl ⟨?_, bl_set4 (bl_set4 HB3.out (Nat.le_refl _) _ _ _ _) (by omega) _ _ _ _⟩
      rw [HV.out]
      rfl
end Go.Proofs.Ytaeafgkjinhceaa
