/- The contract of wide.Mul. -/
import Derived.Test.YtmpejkhffbonnaaWProdW
import Derived.Laws.Cover3
namespace Go.Proofs.Ytmpejkhffbonnaa
open Go.RowKit

theorem prod_at (w : World) (a b p : Nat) (ha : a < 2 ^ 256) (hb : b < 2 ^ 256) (hp : a * b = p) :
    Calls Try.prog 83 #[W a, W b] w fun e w' => e = .returned (P8 p) ∧ Below w.heap.size w w' :=
  (product_any w a b ha hb).mono fun e w' ⟨h1, h2⟩ => ⟨by rw [h1, hp], h2⟩

theorem arrayAt_wide (a : Option Addr) (len cap : Nat) (hn : 4 ≤ len) (w : World) : (Instr.arrayAt 24 (.slice a len cap)).run Try.prog w = .ok (.pointer a) w :=
  run_arrayAt w 24 _ 4 a len cap Try.underlying24 hn

theorem lim_up (p k : Nat) : lim (p / 2 ^ 256) k = lim p (k + 4) := by
  unfold lim
  rw [Nat.div_div_eq_div_mul, ← Nat.pow_add, show 256 + 64 * k = 64 * (k + 4) by omega]
def mulV (p : Nat) : Value := .tuple #[W p, W (p / 2 ^ 256)]
theorem mulV_eq (p : Nat) : mulV p = .tuple #[W p, .agg #[.int .u64 (lim p 4), .int .u64 (lim p 5), .int .u64 (lim p 6), .int .u64 (lim p 7)]] := by
  unfold mulV
  rw [show W (p / 2 ^ 256) = .agg #[.int .u64 (lim p 4), .int .u64 (lim p 5), .int .u64 (lim p 6), .int .u64 (lim p 7)] by
    unfold W; rw [lim_up p 0, lim_up p 1, lim_up p 2, lim_up p 3]]

set_option maxHeartbeats 2000000 in
theorem mul_any (w : World) (a b : Nat) (ha : a < 2 ^ 256) (hb : b < 2 ^ 256) :
    Calls Try.prog 56 #[W a, W b] w fun e w' => e = .returned (mulV (a * b)) ∧ Below w.heap.size w w' := by
  obtain ⟨p, hp⟩ : ∃ p, a * b = p := ⟨_, rfl⟩
  rw [hp]
  have HP := fun w => Lib.hid (prod_at w a b p ha hb hp)
  clear ha hb hp
  go_enter Try.func56, Try.ntmps56
  go_wp2_with fail
  refine (HP _).out.mono ?_
  rintro e w1 ⟨rfl, hb1⟩
  have hlt1 : w.heap.size + 4 ≤ w1.heap.size := by have := hb1.size; simp at this; omega
  have B2 : Hid (Blk w1 (w.heap.size + 2) 24 (arr fun _ => 0)) := ((Blk.new _ _ _ _ (by simp)).alloc _).keep hb1
  have B3 : Hid (Blk w1 (w.heap.size + 3) 24 (arr fun _ => 0)) := (Blk.new _ _ _ _ (by simp)).keep hb1
  have HB : Hid (Below w.heap.size w w1) := bl_tr (bl_al (bl_al (bl_al (bl_al (Below.refl _ _) _) _) _) _) hb1
  clear hb1
  go_wp2_with fail
  have b4 : Blk (w1.alloc (.cells (arr8 (lim p)) 71)) w1.heap.size 71 (arr8 (lim p)) := Blk.new _ _ _ _ rfl
  have b2 : Blk (w1.alloc (.cells (arr8 (lim p)) 71)) (w.heap.size + 2) 24 (arr fun _ => 0) := B2.out.alloc _
  have b3 : Blk (w1.alloc (.cells (arr8 (lim p)) 71)) (w.heap.size + 3) 24 (arr fun _ => 0) := B3.out.alloc _
  have hb : Below w.heap.size w (w1.alloc (.cells (arr8 (lim p)) 71)) := bl_al HB.out _
  obtain ⟨w2, hw2⟩ : ∃ w2, w1.alloc (.cells (arr8 (lim p)) 71) = w2 := ⟨_, rfl⟩
  rw [hw2] at b2 b3 b4 hb
  rw [hw2]
  obtain ⟨g, hg⟩ : ∃ g, w1.heap.size = g := ⟨_, rfl⟩
  rw [hg] at b4 hlt1
  rw [hg]
  clear hw2 B2 B3 HB hg HP
  have K2 := Lib.hid b2
  have K3 := Lib.hid b3
  have K4 := Lib.hid b4
  have KB := Lib.hid hb
  obtain ⟨⟨r0, r1, r2, r3⟩, f0, f1, f2, f3⟩ := b2.facts
  obtain ⟨⟨s0, s1, s2, s3⟩, g0, g1, g2, g3⟩ := b3.facts
  have c0 := b4.cell 0
  have c1 := b4.cell 1
  have c2 := b4.cell 2
  have c3 := b4.cell 3
  have c4 := b4.cell 4
  have c5 := b4.cell 5
  have c6 := b4.cell 6
  have c7 := b4.cell 7
  clear b2 b3 b4 hb
  have ha0 := fun w => arrayAt_wide (some ⟨g, 0, none⟩) 4 8 (by omega) w
  have ha1 := fun w => arrayAt_wide (some ⟨g, 4, none⟩) 4 4 (by omega) w
  go_region
  all_goals go_wp2
  refine bodyPost_ret (results_cc rfl rfl ((K2.out.fill rfl _ _ _ _).far4 (by omega) _ _ _ _).drew rfl rfl ((K3.out.far4 (by omega) _ _ _ _).fill rfl _ _ _ _).drew rfl) rfl ⟨?_, (bl_set4 (bl_set4 KB.out (by omega) _ _ _ _) (by omega) _ _ _ _).drew⟩
  rw [mulV_eq]
end Go.Proofs.Ytmpejkhffbonnaa
