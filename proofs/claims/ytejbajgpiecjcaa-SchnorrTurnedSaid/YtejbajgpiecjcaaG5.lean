/- Several texts in one: Point. -/
import Derived.Test.YtejbajgpiecjcaaG4

/- The contracts of point. -/
namespace Go.Proofs.Ytejbajgpiecjcaa
open Go.RowKit
set_option maxRecDepth 10000
set_option maxHeartbeats 1000000

theorem onf1 {x y : Nat} (h : ¬ x < Pf) : false = onB x y false := by unfold onB affB; simp [h]
theorem onf2 {x y : Nat} (h : ¬ y < Pf) : false = onB x y false := by unfold onB affB; simp [h]
theorem onf3 {x y r1 r2 : Nat} (hx : x < Pf) (hy : y < Pf) (h1 : y * y % Pf = r1) (h2 : rgt x = r2) : decide (r1 = r2) = onB x y false := by unfold onB affB; simp [hx, hy, h1, h2]
theorem ont {x y : Nat} : decide (x = 0 ∧ y = 0 ∧ true = true) = onB x y true := by unfold onB; simp
theorem decT {p : Prop} [Decidable p] {b : Bool} (h : decide p = b) (hb : b = true) : p := of_decide_eq_true (h.trans hb)
theorem rgt_of {x a b c : Nat} (h1 : x * x % Pf = a) (h2 : a * x % Pf = b) (h3 : (b + 7) % Pf = c) : rgt x = c := by rw [← h3, ← h2, ← h1]; rfl
theorem rgt_of2 {x a b c : Nat} (h1 : x * x % Pf = a) (h2 : x * a % Pf = b) (h3 : (b + 7) % Pf = c) : rgt x = c := by
  rw [← h3, ← h2, ← h1, Nat.mul_comm x (x * x % Pf)]; rfl
theorem ev_odd {T : EM.Pt Pf} (h : pz T = true) : false = evB T := by unfold evB; rw [h]; rfl
theorem ev_val {T : EM.Pt Pf} (h : ¬ pz T = true) : decide (limN (py T) 0 % 2 = 0) = evB T := by
  unfold evB
  rw [lim_odd, Bool.eq_false_iff.2 h]; rfl
theorem lenmax {a b : Nat} (ha : a < 2 ^ 256) (hb : b < 2 ^ 256) : max (ln a) (ln b) ≤ 256 ∧ a < 2 ^ max (ln a) (ln b) ∧ b < 2 ^ max (ln a) (ln b) := by
  have h1 := ln_le a 256 ha
  have h2 := ln_le b 256 hb
  refine ⟨by omega, Nat.lt_of_lt_of_le (ln_spec a).1 (Nat.pow_le_pow_right (by decide) (by omega)), Nat.lt_of_lt_of_le (ln_spec b).1 (Nat.pow_le_pow_right (by decide) (by omega))⟩
theorem bit_ne {a i : Nat} : (limN a (i / 64) / 2 ^ (i % 64) % 2 ≠ 0) ↔ (a / 2 ^ i % 2 = 1) := by
  rw [bit_lim]
  generalize a / 2 ^ i = x
  omega
theorem pt_zero : ptOf 0 0 true = .O := rfl

theorem bytes_c (a : Nat) (ha : a < 2 ^ 256) (w0 : World) : Calls Try.prog 14 #[W a] w0 fun e w' => e = .returned (At .u8 32 (by8 a)) ∧ Below w0.heap.size w0 w' := by
  refine enter (n := 22) (args := [W a]) Try.func14 rfl rfl (Nat.le_of_ble_eq_true rfl) fun ac hs => ?_
  refine wp_seq ?_
  refine wp_region_lit ?_
  refine lstep (wpO_plain rfl (op_box hs none none (cs := (Wl a)) rfl rfl rfl rfl rfl rfl fun g1 ac w hs => ?_))
  refine lstep (wpO_plain rfl (op_alloc hs none none (cs := (tab .u8 32 (fun _ => 0))) rfl rfl Try.zeroValue30 (by kernel_rfl) rfl rfl fun g2 ac w hs => ?_))
  refine wpList_nil ?_
  refine then_n ?_
  refine wp_seq ?_
  refine wp_region_lit ?_
  refine lstep (wpO_plain rfl (op_alloc hs none none (cs := (tab .u8 32 (fun _ => 0))) rfl rfl Try.zeroValue30 (by kernel_rfl) rfl rfl fun g3 ac w hs => ?_))
  refine wpList_nil ?_
  refine then_n ?_
  refine wp_seq ?_
  refine wp_seq ?_
  refine wp_region_lit ?_
  refine lstep (wpO_plain rfl (op_move hs none rfl rfl rfl rfl fun ac hs => ?_))
  refine wpList_nil ?_
  refine then_n ?_
  refine wp_block ?_
  refine wp_loop_m (fun μ ac w => ∃ (i : Nat) (f : Nat → Nat), (32 - i) = μ ∧ (i ≤ 32) ∧ (∀ j, j < 32 → f j = byf a i j) ∧ St 22 w0 [(1, true, .pointer (some ⟨g1, 0, none⟩)), (2, true, .pointer (some ⟨g2, 0, none⟩)), (3, true, .pointer (some ⟨g3, 0, none⟩)), (5, true, .int .i64 ((i : Nat) : Int))] [(true, g1, 24, (Wl a)), (true, g2, 30, (tab .u8 32 (fun _ => 0))), (true, g3, 30, (tab .u8 32 f))] ac w) ?_ ?_
  · exact ⟨_, 0, (fun _ => 0), rfl, (by omega), byte_start, (hs.re ⟨rfl, rfl, rfl, rfl, trivial⟩)⟩
  intro μ ac w ⟨i, f, hμ, hi, hf, hs⟩
  refine wp_seq ?_
  refine wp_region_lit ?_
  refine lstep (wpO_plain rfl (op_bin hs none (v := .bool (decide (i < 32))) rfl rfl rfl rfl (fun _ => rfl) (bin_lssN (x := i) (y := 32)) rfl fun ac hs => ?_))
  refine wpList_nil ?_
  refine then_n ?_
  refine wp_seq ?_
  refine wp_cond_split (hs.ev rfl) (fun hc => ?_) (fun hc => ?_)
  · skip
    have hp4 := of_decide_eq_true hc
    have hlt : i < 32 := of_decide_eq_true hc
    refine wp_skip ?_
    refine then_n ?_
    refine wp_seq ?_
    refine wp_block ?_
    refine wp_seq ?_
    refine wp_region_lit ?_
    refine lstep (wpO_plain rfl (op_move hs none rfl rfl rfl rfl fun ac hs => ?_))
    refine lstep (wpO_plain rfl (op_assign hs none rfl rfl rfl rfl fun ac hs => ?_))
    refine wpList_nil ?_
    refine then_n ?_
    refine wp_region_lit ?_
    refine lstep (wpO_plain rfl (op_move hs none rfl rfl rfl rfl fun ac hs => ?_))
    refine lstep (wpO_plain rfl (op_bin hs none (v := .int .i64 ((31 - i : Nat) : Int)) rfl rfl rfl rfl (fun _ => rfl) (bin_subN (x := 31) (y := i) (z := 31 - i) (by omega) (show 31 - i < 9223372036854775808 by omega)) rfl fun ac hs => ?_))
    refine lstep (wpO_plain rfl (op_move hs none rfl rfl rfl rfl fun ac hs => ?_))
    refine lstep (wpO_plain rfl (op_bin hs none (v := .int .i64 ((i / 8 : Nat) : Int)) rfl rfl rfl rfl (fun _ => rfl) (bin_quoN (x := i) (y := 8) (z := i / 8) rfl (by decide) (show i < 9223372036854775808 by omega)) rfl fun ac hs => ?_))
    refine lstep (wpO_plain rfl (op_idxA hs none (j := i / 8) rfl rfl rfl rfl Try.underlying24 Try.sizeOf22 (show i / 8 < 4 by omega) (off := i / 8) (by omega) rfl fun ac hs => ?_))
    have l5 := limN_lt a (i / 8)
    refine lstep (wpO_plain rfl (op_load hs none 0 (v := .int .u64 ((limN a (i / 8) : Nat) : Int)) rfl rfl rfl rfl Try.isAgg22 Try.sizeOf22 (Wl_get (j := i / 8) (show i / 8 < 4 by omega)) rfl fun ac hs => ?_))
    refine lstep (wpO_plain rfl (op_move hs none rfl rfl rfl rfl fun ac hs => ?_))
    refine lstep (wpO_plain rfl (op_bin hs none (v := .int .i64 ((i % 8 : Nat) : Int)) rfl rfl rfl rfl (fun _ => rfl) (bin_remN (x := i) (y := 8) (z := i % 8) rfl (by decide)) rfl fun ac hs => ?_))
    refine lstep (wpO_plain rfl (op_bin hs none (v := .int .i64 ((8 * (i % 8) : Nat) : Int)) rfl rfl rfl rfl (fun _ => rfl) (bin_mulN (x := 8) (y := i % 8) (z := 8 * (i % 8)) rfl (show 8 * (i % 8) < 9223372036854775808 by omega)) rfl fun ac hs => ?_))
    refine lstep (wpO_plain rfl (op_bin hs none (v := .int .u64 (((limN a (i / 8)) / 2 ^ (8 * (i % 8)) : Nat) : Int)) rfl rfl rfl rfl (fun _ => rfl) (bin_shrN (x := limN a (i / 8)) (y := 8 * (i % 8)) (z := (limN a (i / 8)) / 2 ^ (8 * (i % 8))) rfl (limN_lt _ _)) rfl fun ac hs => ?_))
    refine lstep (wpO_plain rfl (op_convert hs none (v := .int .u8 ((((limN a (i / 8)) / 2 ^ (8 * (i % 8))) % 256 : Nat) : Int)) rfl rfl rfl (conv_M (z := ((limN a (i / 8)) / 2 ^ (8 * (i % 8))) % 256) rfl Try.underlying22 Try.underlying5 rfl) rfl fun ac hs => ?_))
    refine lstep (wpO_plain rfl (op_idxA hs none (j := 31 - i) rfl rfl rfl rfl Try.underlying30 Try.sizeOf5 (show 31 - i < 32 by omega) (off := 31 - i) (by omega) rfl fun ac hs => ?_))
    refine lstep (wpO_plain rfl (op_store hs 2 (vs := [.int .u8 ((((limN a (i / 8)) / 2 ^ (8 * (i % 8))) % 256 : Nat) : Int)]) rfl rfl rfl rfl rfl Try.sizeOf5 rfl rfl rfl (tab_le (j := 31 - i) (show 31 - i < 32 by omega)) (tab_set) fun w hs => ?_))
    refine wpList_nil ?_
    refine blk_n ?_
    refine then_n ?_
    replace hs : St 22 w0 [(1, true, .pointer (some ⟨g1, 0, none⟩)), (2, true, .pointer (some ⟨g2, 0, none⟩)), (3, true, .pointer (some ⟨g3, 0, none⟩)), (5, true, .int .i64 ((i : Nat) : Int))] [(true, g1, 24, (Wl a)), (true, g2, 30, (tab .u8 32 (fun _ => 0))), (true, g3, 30, (tab .u8 32 (upn f (31 - i) (((limN a (i / 8)) / 2 ^ (8 * (i % 8))) % 256))))] ac _ := hs.re ⟨rfl, rfl, rfl, rfl, trivial⟩
    refine wp_region_lit ?_
    refine lstep (wpO_plain rfl (op_bin hs none (v := .int .i64 ((i + 1 : Nat) : Int)) rfl rfl rfl rfl (fun _ => rfl) (bin_addN (x := i) (y := 1) (z := i + 1) rfl (show i + 1 < 9223372036854775808 by omega)) rfl fun ac hs => ?_))
    refine lstep (wpO_plain rfl (op_move hs none rfl rfl rfl rfl fun ac hs => ?_))
    refine wpList_nil ?_
    refine then_n ?_
    exact ⟨_, ⟨(i + 1), (upn f (31 - i) (((limN a (i / 8)) / 2 ^ (8 * (i % 8))) % 256)), rfl, hlt, (byte_step hlt hf), (hs.re ⟨rfl, rfl, rfl, rfl, trivial⟩)⟩, (by omega)⟩
  · skip
    have hp6 := of_decide_eq_false hc
    obtain rfl : i = 32 := by omega
    replace hs := hs.setb 2 (cs' := tab .u8 32 (by8 a)) rfl (tab_congr (byte_fin hf))
    refine wp_exit ?_
    refine then_e ?_
    refine then_e ?_
    refine blk_e ?_
    refine then_n ?_
    refine wp_seq ?_
    refine wp_region_lit ?_
    refine lstep (wpO_plain rfl (op_load hs none 2 (v := At .u8 32 (by8 a)) rfl rfl rfl rfl Try.isAgg30 Try.sizeOf30 ldv_tab rfl fun ac hs => ?_))
    refine lstep (wpO_plain rfl (op_store hs 1 (vs := (tab .u8 32 (by8 a))) rfl rfl rfl rfl rfl Try.sizeOf30 (by kernel_rfl) tab_length' (tab_one _ _ _) tab_leA wr_tab fun w hs => ?_))
    refine wpList_nil ?_
    refine then_n ?_
    refine wp_ret ?_
    exact bodyPost_ret (res1 rfl (rv_c hs 1 (v := At .u8 32 (by8 a)) rfl rfl Try.isAgg30 Try.sizeOf30 ldv_tab)) hs.defers ⟨rfl, (hs.bel rfl)⟩
theorem zero_c  (w0 : World) : Calls Try.prog 36 #[] w0 fun e w' => e = .returned (PV 0 0 true) ∧ Below w0.heap.size w0 w' := by
  refine enter (n := 2) (args := []) Try.func36 rfl rfl (Nat.le_of_ble_eq_true rfl) fun ac hs => ?_
  refine wp_seq ?_
  refine wp_region_lit ?_
  refine lstep (wpO_plain rfl (op_alloc hs none none (cs := (PVl 0 0 false)) rfl rfl Try.zeroValue41 (by kernel_rfl) rfl rfl fun g1 ac w hs => ?_))
  refine wpList_nil ?_
  refine then_n ?_
  refine wp_seq ?_
  refine wp_region_lit ?_
  refine lstep (wpO_plain rfl (op_build hs none (qs := [(2, .bool true)]) (v := PV 0 0 true) rfl rfl rfl rfl (fun _ => by kernel_rfl) rfl fun ac hs => ?_))
  refine lstep (wpO_plain rfl (op_store hs 0 (vs := (PVl 0 0 true)) rfl rfl rfl rfl rfl Try.sizeOf41 rfl rfl rfl rfl rfl fun w hs => ?_))
  refine wpList_nil ?_
  refine then_n ?_
  refine wp_ret ?_
  exact bodyPost_ret (res1 rfl (rv_c hs 0 (v := PV 0 0 true) rfl rfl Try.isAgg41 Try.sizeOf41 rfl)) hs.defers ⟨rfl, (hs.bel rfl)⟩
theorem sq_c (a x : Nat) (ha : a < 2 ^ 256) (hx : a * a % Pf = x) (w0 : World) : Calls Try.prog 62 #[W a] w0 fun e w' => e = .returned (W x) ∧ Below w0.heap.size w0 w' := by
  refine enter (n := 6) (args := [W a]) Try.func62 rfl rfl (Nat.le_of_ble_eq_true rfl) fun ac hs => ?_
  refine wp_seq ?_
  refine wp_region_lit ?_
  refine lstep (wpO_plain rfl (op_box hs none none (cs := (Wl a)) rfl rfl rfl rfl rfl rfl fun g1 ac w hs => ?_))
  refine lstep (wpO_plain rfl (op_alloc hs none none (cs := [.int .u64 0, .int .u64 0, .int .u64 0, .int .u64 0]) rfl rfl Try.zeroValue24 (by kernel_rfl) rfl rfl fun g2 ac w hs => ?_))
  refine wpList_nil ?_
  refine then_n ?_
  refine wp_seq ?_
  refine wp_region_lit ?_
  refine lstep (wpO_plain rfl (op_load hs none 0 (v := W a) rfl rfl rfl rfl Try.isAgg24 Try.sizeOf24 rfl rfl fun ac hs => ?_))
  refine lstep (wpO_plain rfl (op_load hs none 0 (v := W a) rfl rfl rfl rfl Try.isAgg24 Try.sizeOf24 rfl rfl fun ac hs => ?_))
  obtain ⟨r3, hr3, lr3⟩ : ∃ z0, a * a % Pf = z0 ∧ z0 < 2 ^ 256 := ⟨_, rfl, modP_lt _⟩
  refine lstep (wpO_plain rfl (op_call (F := 58) hs none (v := W r3) rfl rfl rfl rfl (Try.call58 _) (fmul_c a a r3 ha ha hr3) rfl fun ac w hs => ?_))
  refine lstep (wpO_plain rfl (op_store hs 1 (vs := (Wl r3)) rfl rfl rfl rfl rfl Try.sizeOf24 rfl rfl rfl rfl rfl fun w hs => ?_))
  refine wpList_nil ?_
  refine then_n ?_
  refine wp_ret ?_
  exact bodyPost_ret (res1 rfl (rv_c hs 1 (v := W r3) rfl rfl Try.isAgg24 Try.sizeOf24 rfl)) hs.defers ⟨by rw [← hx, ← hr3], (hs.bel rfl)⟩
theorem right_c (a x : Nat) (ha : a < 2 ^ 256) (hx : rgt a = x) (w0 : World) : Calls Try.prog 38 #[W a] w0 fun e w' => e = .returned (W x) ∧ Below w0.heap.size w0 w' := by
  refine enter (n := 9) (args := [W a]) Try.func38 rfl rfl (Nat.le_of_ble_eq_true rfl) fun ac hs => ?_
  refine wp_seq ?_
  refine wp_region_lit ?_
  refine lstep (wpO_plain rfl (op_box hs none none (cs := (Wl a)) rfl rfl rfl rfl rfl rfl fun g1 ac w hs => ?_))
  refine lstep (wpO_plain rfl (op_alloc hs none none (cs := [.int .u64 0, .int .u64 0, .int .u64 0, .int .u64 0]) rfl rfl Try.zeroValue24 (by kernel_rfl) rfl rfl fun g2 ac w hs => ?_))
  refine wpList_nil ?_
  refine then_n ?_
  refine wp_seq ?_
  replace hs : St 9 w0 [(1, true, .pointer (some ⟨g1, 0, none⟩)), (2, true, .pointer (some ⟨g2, 0, none⟩))] [(true, g1, 24, (Wl a)), (true, g2, 24, [.int .u64 0, .int .u64 0, .int .u64 0, .int .u64 0])] ac _ := hs.re ⟨rfl, rfl, trivial⟩
  obtain ⟨r3, hr3, lr3⟩ : ∃ z0, a * a % Pf = z0 ∧ z0 < 2 ^ 256 := ⟨_, rfl, modP_lt _⟩
  obtain ⟨r4, hr4, lr4⟩ : ∃ z0, r3 * a % Pf = z0 ∧ z0 < 2 ^ 256 := ⟨_, rfl, modP_lt _⟩
  obtain ⟨r5, hr5, lr5⟩ : ∃ z0, (r4 + 7) % Pf = z0 ∧ z0 < 2 ^ 256 := ⟨_, rfl, modP_lt _⟩
  refine region_inv [([], [1, 3, 4, 5, 6]), ([0], [3, 4, 5, 6]), ([], [3, 4, 5, 6]), ([0, 1, 2], [4, 5, 6]), ([0, 1, 2, 3], [5, 6]), ([0, 1, 2, 3, 4], [6]), ([0, 1, 2, 3, 4, 5], [])] (fun L ac w => St 9 w0 [(3, L 0, W a), (4, L 1, W r3), (5, L 2, W a), (6, L 3, W r4), (7, L 4, W 7), (8, L 5, W r5), (1, true, .pointer (some ⟨g1, 0, none⟩)), (2, true, .pointer (some ⟨g2, 0, none⟩))] [(true, g1, 24, (Wl a)), (true, g2, 24, (cond (L 6) (Wl r5) [.int .u64 0, .int .u64 0, .int .u64 0, .int .u64 0]))] ac w) (by kernel_rfl) (by kernel_rfl) ?_ ?_ ?_
  · exact hs.drew.skip.skip.skip.skip.skip.skip
  · refine ⟨?_, ?_, ?_, ?_, ?_, ?_, ?_, trivial⟩
    · intro L ac w hJ
      have hs := hJ
      refine wpO_plain rfl (op_load hs (some 0) 0 (v := W a) rfl rfl rfl rfl Try.isAgg24 Try.sizeOf24 rfl rfl fun ac hs => ?_)
      exact hs
    · intro L ac w hJ
      have hs := hJ
      refine wpO_plain rfl (op_call (F := 62) hs (some 1) (v := W r3) rfl rfl rfl rfl (Try.call62 _) (sq_c a r3 ha hr3) rfl fun ac w hs => ?_)
      exact hs
    · intro L ac w hJ
      have hs := hJ
      refine wpO_plain rfl (op_load hs (some 2) 0 (v := W a) rfl rfl rfl rfl Try.isAgg24 Try.sizeOf24 rfl rfl fun ac hs => ?_)
      exact hs
    · intro L ac w hJ
      have hs := hJ
      refine wpO_plain rfl (op_call (F := 58) hs (some 3) (v := W r4) rfl rfl rfl rfl (Try.call58 _) (fmul_c r3 a r4 lr3 ha hr4) rfl fun ac w hs => ?_)
      exact hs
    · intro L ac w hJ
      have hs := hJ
      refine wpO_plain rfl (op_call (F := 25) hs (some 4) (v := W 7) rfl rfl rfl rfl (Try.call25 _) (fun w => from_any w 7 (by decide)) rfl fun ac w hs => ?_)
      exact hs
    · intro L ac w hJ
      have hs := hJ
      refine wpO_plain rfl (op_call (F := 61) hs (some 5) (v := W r5) rfl rfl rfl rfl (Try.call61 _) (fadd_c r4 7 r5 lr4 (by decide) hr5) rfl fun ac w hs => ?_)
      exact hs
    · intro L ac w hJ
      have hs := hJ
      refine wpO_plain rfl (op_store hs 1 (vs := (Wl r5)) rfl rfl rfl rfl rfl Try.sizeOf24 rfl rfl rfl rfl rfl fun w hs => ?_)
      exact hs
  intro ac w hJ
  replace hs : St 9 w0 [(3, true, W a), (4, true, W r3), (5, true, W a), (6, true, W r4), (7, true, W 7), (8, true, W r5), (1, true, .pointer (some ⟨g1, 0, none⟩)), (2, true, .pointer (some ⟨g2, 0, none⟩))] [(true, g1, 24, (Wl a)), (true, g2, 24, (Wl r5))] ac w := hJ
  refine then_n ?_
  refine wp_ret ?_
  exact bodyPost_ret (res1 rfl (rv_c hs 1 (v := W r5) rfl rfl Try.isAgg24 Try.sizeOf24 rfl)) hs.defers ⟨by rw [← hx, rgt_of hr3 hr4 hr5], (hs.bel rfl)⟩
theorem below_c (a : Nat) (q : Bool) (ha : a < 2 ^ 256) (hq : decide (a < Pf) = q) (w0 : World) : Calls Try.prog 35 #[W a] w0 fun e w' => e = .returned (.bool q) ∧ Below w0.heap.size w0 w' := by
  refine enter (n := 7) (args := [W a]) Try.func35 rfl rfl (Nat.le_of_ble_eq_true rfl) fun ac hs => ?_
  refine wp_seq ?_
  refine wp_region_lit ?_
  refine lstep (wpO_plain rfl (op_box hs none none (cs := (Wl a)) rfl rfl rfl rfl rfl rfl fun g1 ac w hs => ?_))
  refine lstep (wpO_plain rfl (op_assign hs none rfl rfl rfl rfl fun ac hs => ?_))
  refine wpList_nil ?_
  refine then_n ?_
  refine wp_seq ?_
  replace hs : St 7 w0 [(1, true, .pointer (some ⟨g1, 0, none⟩)), (2, true, .bool false)] [(true, g1, 24, (Wl a))] ac _ := hs.re ⟨rfl, rfl, trivial⟩
  refine region_inv [([], [2, 3, 4]), ([], [2, 3, 4]), ([0, 1], [3, 4]), ([0, 1, 2], [4]), ([0, 1, 2, 3], [])] (fun L ac w => St 7 w0 [(3, L 0, W a), (4, L 1, W Pf), (5, L 2, .int .i64 (cmpZ a Pf)), (6, L 3, .bool (decide (a < Pf))), (2, L 4, .bool (decide (a < Pf))), (1, true, .pointer (some ⟨g1, 0, none⟩)), (2, true, .bool false)] [(true, g1, 24, (Wl a))] ac w) (by kernel_rfl) (by kernel_rfl) ?_ ?_ ?_
  · exact hs.drew.skip.skip.skip.skip.skip
  · refine ⟨?_, ?_, ?_, ?_, ?_, trivial⟩
    · intro L ac w hJ
      have hs := hJ
      refine wpO_plain rfl (op_load hs (some 0) 0 (v := W a) rfl rfl rfl rfl Try.isAgg24 Try.sizeOf24 rfl rfl fun ac hs => ?_)
      exact hs
    · intro L ac w hJ
      have hs := hJ
      refine wpO_plain rfl (op_call (F := 55) hs (some 1) (v := W Pf) rfl rfl rfl rfl (Try.call55 _) prime_c rfl fun ac w hs => ?_)
      exact hs
    · intro L ac w hJ
      have hs := hJ
      refine wpO_plain rfl (op_call (F := 39) hs (some 2) (v := .int .i64 (cmpZ a Pf)) rfl rfl rfl rfl (Try.call39 _) (fun w => cmp_any w a Pf ha Pf_lt) rfl fun ac w hs => ?_)
      exact hs
    · intro L ac w hJ
      have hs := hJ
      refine wpO_plain rfl (op_bin hs (some 3) (v := .bool (decide (a < Pf))) rfl rfl rfl rfl (fun _ => rfl) (bin_cmp_lss a Pf) rfl fun ac hs => ?_)
      exact hs
    · intro L ac w hJ
      have hs := hJ
      refine wpO_plain rfl (op_assign hs (some 4) rfl rfl rfl rfl fun ac hs => ?_)
      exact hs
  intro ac w hJ
  replace hs : St 7 w0 [(3, true, W a), (4, true, W Pf), (5, true, .int .i64 (cmpZ a Pf)), (6, true, .bool (decide (a < Pf))), (2, true, .bool (decide (a < Pf))), (1, true, .pointer (some ⟨g1, 0, none⟩)), (2, true, .bool false)] [(true, g1, 24, (Wl a))] ac w := hJ
  refine then_n ?_
  refine wp_ret ?_
  exact bodyPost_ret (res1 rfl (rv_t hs rfl)) hs.defers ⟨by rw [← hq], (hs.bel rfl)⟩
theorem on_c_t (x y : Nat) (hx : x < 2 ^ 256) (hy : y < 2 ^ 256) (w0 : World) : Calls Try.prog 48 #[PV x y true] w0 fun e w' => e = .returned (.bool (onB x y true)) ∧ Below w0.heap.size w0 w' := by
  refine enter (n := 25) (args := [PV x y true]) Try.func48 rfl rfl (Nat.le_of_ble_eq_true rfl) fun ac hs => ?_
  refine wp_seq ?_
  refine wp_region_lit ?_
  refine lstep (wpO_plain rfl (op_box hs none none (cs := (PVl x y true)) rfl rfl rfl rfl rfl rfl fun g1 ac w hs => ?_))
  refine lstep (wpO_plain rfl (op_assign hs none rfl rfl rfl rfl fun ac hs => ?_))
  refine wpList_nil ?_
  refine then_n ?_
  refine wp_seq ?_
  refine wp_seq ?_
  refine wp_region_lit ?_
  refine lstep (wpO_plain rfl (op_fieldA hs none rfl rfl rfl Try.underlying41 rfl Try.sizeOf4 (by decide) rfl fun ac hs => ?_))
  refine lstep (wpO_plain rfl (op_load hs none 0 (v := .bool true) rfl rfl rfl rfl Try.isAgg4 Try.sizeOf4 rfl rfl fun ac hs => ?_))
  refine wpList_nil ?_
  refine then_n ?_
  refine wp_cond_true (hs.ev rfl) ?_
  refine wp_seq ?_
  replace hs : St 25 w0 [(1, true, .pointer (some ⟨g1, 0, none⟩)), (2, true, .bool false)] [(true, g1, 41, (PVl x y true))] ac _ := hs.re ⟨rfl, rfl, trivial⟩
  refine region_inv [([], [2, 3]), ([], [2, 3]), ([0, 1], [3]), ([0, 1, 2], [])] (fun L ac w => St 25 w0 [(5, L 0, PV x y true), (6, L 1, PV 0 0 true), (7, L 2, .bool (decide (x = 0 ∧ y = 0 ∧ true = true))), (2, L 3, .bool (decide (x = 0 ∧ y = 0 ∧ true = true))), (1, true, .pointer (some ⟨g1, 0, none⟩)), (2, true, .bool false)] [(true, g1, 41, (PVl x y true))] ac w) (by kernel_rfl) (by kernel_rfl) ?_ ?_ ?_
  · exact hs.drew.skip.skip.skip.skip
  · refine ⟨?_, ?_, ?_, ?_, trivial⟩
    · intro L ac w hJ
      have hs := hJ
      refine wpO_plain rfl (op_load hs (some 0) 0 (v := PV x y true) rfl rfl rfl rfl Try.isAgg41 Try.sizeOf41 rfl rfl fun ac hs => ?_)
      exact hs
    · intro L ac w hJ
      have hs := hJ
      refine wpO_plain rfl (op_call (F := 36) hs (some 1) (v := PV 0 0 true) rfl rfl rfl rfl (Try.call36 _) zero_c rfl fun ac w hs => ?_)
      exact hs
    · intro L ac w hJ
      have hs := hJ
      refine wpO_plain rfl (op_bin hs (some 2) (v := .bool (decide (x = 0 ∧ y = 0 ∧ true = true))) rfl rfl rfl rfl (fun w => run_eqGuard_agg w .eql 41 _ _ _ _ Try.eqGuardType41) (eqlP x y 0 0 true true hx hy (by decide) (by decide) _ rfl) rfl fun ac hs => ?_)
      exact hs
    · intro L ac w hJ
      have hs := hJ
      refine wpO_plain rfl (op_assign hs (some 3) rfl rfl rfl rfl fun ac hs => ?_)
      exact hs
  intro ac w hJ
  replace hs : St 25 w0 [(5, true, PV x y true), (6, true, PV 0 0 true), (7, true, .bool (decide (x = 0 ∧ y = 0 ∧ true = true))), (2, true, .bool (decide (x = 0 ∧ y = 0 ∧ true = true))), (1, true, .pointer (some ⟨g1, 0, none⟩)), (2, true, .bool false)] [(true, g1, 41, (PVl x y true))] ac w := hJ
  refine then_n ?_
  refine wp_ret ?_
  refine then_r ?_
  exact bodyPost_ret (res1 rfl (rv_t hs rfl)) hs.defers ⟨congrArg (fun b => Ending.returned (.bool b)) ont, (hs.bel rfl)⟩
theorem on_c_f (x y : Nat) (hx : x < 2 ^ 256) (hy : y < 2 ^ 256) (w0 : World) : Calls Try.prog 48 #[PV x y false] w0 fun e w' => e = .returned (.bool (onB x y false)) ∧ Below w0.heap.size w0 w' := by
  refine enter (n := 25) (args := [PV x y false]) Try.func48 rfl rfl (Nat.le_of_ble_eq_true rfl) fun ac hs => ?_
  refine wp_seq ?_
  refine wp_region_lit ?_
  refine lstep (wpO_plain rfl (op_box hs none none (cs := (PVl x y false)) rfl rfl rfl rfl rfl rfl fun g1 ac w hs => ?_))
  refine lstep (wpO_plain rfl (op_assign hs none rfl rfl rfl rfl fun ac hs => ?_))
  refine wpList_nil ?_
  refine then_n ?_
  refine wp_seq ?_
  refine wp_seq ?_
  refine wp_region_lit ?_
  refine lstep (wpO_plain rfl (op_fieldA hs none rfl rfl rfl Try.underlying41 rfl Try.sizeOf4 (by decide) rfl fun ac hs => ?_))
  refine lstep (wpO_plain rfl (op_load hs none 0 (v := .bool false) rfl rfl rfl rfl Try.isAgg4 Try.sizeOf4 rfl rfl fun ac hs => ?_))
  refine wpList_nil ?_
  refine then_n ?_
  refine wp_cond_false (hs.ev rfl) ?_
  refine wp_skip ?_
  refine then_n ?_
  refine wp_seq ?_
  by_cases hq2 : x < Pf
  · skip
    by_cases hq3 : y < Pf
    · skip
      replace hs : St 25 w0 [(1, true, .pointer (some ⟨g1, 0, none⟩)), (2, true, .bool false)] [(true, g1, 41, (PVl x y false))] ac _ := hs.re ⟨rfl, rfl, trivial⟩
      obtain ⟨r4, hr4, lr4⟩ : ∃ z0, y * y % Pf = z0 ∧ z0 < 2 ^ 256 := ⟨_, rfl, modP_lt _⟩
      obtain ⟨r5, hr5, lr5⟩ : ∃ z0, rgt x = z0 ∧ z0 < 2 ^ 256 := ⟨_, rfl, modP_lt _⟩
      refine region_inv [([], [1, 2, 3, 4, 5, 6, 7, 8, 9, 10, 11, 12, 13, 14, 15, 16, 17]), ([0], [2, 3, 4, 5, 6, 7, 8, 9, 10, 11, 12, 13, 14, 15, 16, 17]), ([0, 1], [3, 4, 5, 6, 7, 8, 9, 10, 11, 12, 13, 14, 15, 16, 17]), ([0, 1, 2], [4, 5, 6, 7, 8, 9, 10, 11, 12, 13, 14, 15, 16, 17]), ([0, 1, 2, 3], [5, 6, 7, 8, 9, 10, 11, 12, 13, 14, 15, 16, 17]), ([0, 1, 2, 3, 4], [6, 7, 8, 9, 10, 11, 12, 13, 14, 15, 16, 17]), ([0, 1, 2, 3, 4, 5], [7, 8, 9, 10, 11, 12, 13, 14, 15, 16, 17]), ([0, 1, 2, 3, 4, 5, 6], [8, 9, 10, 11, 12, 13, 14, 15, 16, 17]), ([0, 1, 2, 3, 4, 5, 6, 7], [9, 10, 11, 12, 13, 14, 15, 16, 17]), ([0, 1, 2, 3, 4, 5, 6, 7, 8], [10, 11, 14, 15, 16, 17]), ([0, 1, 2, 3, 4, 5, 6, 7, 8, 9], [11, 14, 15, 16, 17]), ([0, 1, 2, 3, 4, 5, 6, 7, 8, 9, 10], [14, 15, 16, 17]), ([0, 1, 2, 3, 4, 5, 6, 7, 8], [13, 14, 15, 16, 17]), ([0, 1, 2, 3, 4, 5, 6, 7, 8, 12], [14, 15, 16, 17]), ([0, 1, 2, 3, 4, 5, 6, 7, 8, 9, 10, 11, 12, 13], [15, 16, 17]), ([0, 1, 2, 3, 4, 5, 6, 7, 8, 9, 10, 11, 12, 13, 14], [16, 17]), ([0, 1, 2, 3, 4, 5, 6, 7, 8, 9, 10, 11, 12, 13, 14, 15], [17]), ([0, 1, 2, 3, 4, 5, 6, 7, 8, 9, 10, 11, 12, 13, 14, 15, 16], [])] (fun L ac w => St 25 w0 [(8, L 0, .pointer (some ⟨g1, 0, none⟩)), (9, L 1, W x), (10, L 2, .bool true), (11, L 3, .bool true), (12, L 4, .pointer (some ⟨g1, 4, none⟩)), (13, L 5, W y), (14, L 6, .bool true), (15, L 7, .bool true), (16, L 8, .bool true), (17, L 9, .pointer (some ⟨g1, 4, none⟩)), (18, L 10, W y), (19, L 11, W r4), (20, L 12, .pointer (some ⟨g1, 0, none⟩)), (21, L 13, W x), (22, L 14, W r5), (23, L 15, .bool (decide (r4 = r5))), (24, L 16, .bool (decide (r4 = r5))), (2, L 17, .bool (decide (r4 = r5))), (1, true, .pointer (some ⟨g1, 0, none⟩)), (2, true, .bool false)] [(true, g1, 41, (PVl x y false))] ac w) (by kernel_rfl) (by kernel_rfl) ?_ ?_ ?_
      · exact hs.drew.skip.skip.skip.skip.skip.skip.skip.skip.skip.skip.skip.skip.skip.skip.skip.skip.skip.skip
      · refine ⟨?_, ?_, ?_, ?_, ?_, ?_, ?_, ?_, ?_, ?_, ?_, ?_, ?_, ?_, ?_, ?_, ?_, ?_, trivial⟩
        · intro L ac w hJ
          have hs := hJ
          refine wpO_plain rfl (op_fieldA hs (some 0) rfl rfl rfl Try.underlying41 rfl Try.sizeOf24 (by decide) rfl fun ac hs => ?_)
          exact hs
        · intro L ac w hJ
          have hs := hJ
          refine wpO_plain rfl (op_load hs (some 1) 0 (v := W x) rfl rfl rfl rfl Try.isAgg24 Try.sizeOf24 rfl rfl fun ac hs => ?_)
          exact hs
        · intro L ac w hJ
          have hs := hJ
          refine wpO_plain rfl (op_call (F := 35) hs (some 2) (v := .bool true) rfl rfl rfl rfl (Try.call35 _) (below_c x true hx (decide_eq_true hq2)) rfl fun ac w hs => ?_)
          exact hs
        · intro L ac w hJ
          have hs := hJ
          refine wpO_plain rfl (op_move hs (some 3) rfl rfl rfl rfl fun ac hs => ?_)
          exact hs
        · intro L ac w hJ
          have hs := hJ
          refine wpO_in hs rfl rfl rfl (op_fieldA hs (some 4) rfl rfl rfl Try.underlying41 rfl Try.sizeOf24 (by decide) rfl fun ac hs => ?_)
          exact hs
        · intro L ac w hJ
          have hs := hJ
          refine wpO_in hs rfl rfl rfl (op_load hs (some 5) 0 (v := W y) rfl rfl rfl rfl Try.isAgg24 Try.sizeOf24 rfl rfl fun ac hs => ?_)
          exact hs
        · intro L ac w hJ
          have hs := hJ
          refine wpO_in hs rfl rfl rfl (op_call (F := 35) hs (some 6) (v := .bool true) rfl rfl rfl rfl (Try.call35 _) (below_c y true hy (decide_eq_true hq3)) rfl fun ac w hs => ?_)
          exact hs
        · intro L ac w hJ
          have hs := hJ
          refine wpO_plain rfl (op_pickT hs (some 7) rfl rfl rfl rfl rfl fun ac hs => ?_)
          exact hs
        · intro L ac w hJ
          have hs := hJ
          refine wpO_plain rfl (op_move hs (some 8) rfl rfl rfl rfl fun ac hs => ?_)
          exact hs
        · intro L ac w hJ
          have hs := hJ
          refine wpO_in hs rfl rfl rfl (op_fieldA hs (some 9) rfl rfl rfl Try.underlying41 rfl Try.sizeOf24 (by decide) rfl fun ac hs => ?_)
          exact hs
        · intro L ac w hJ
          have hs := hJ
          refine wpO_in hs rfl rfl rfl (op_load hs (some 10) 0 (v := W y) rfl rfl rfl rfl Try.isAgg24 Try.sizeOf24 rfl rfl fun ac hs => ?_)
          exact hs
        · intro L ac w hJ
          have hs := hJ
          refine wpO_in hs rfl rfl rfl (op_call (F := 62) hs (some 11) (v := W r4) rfl rfl rfl rfl (Try.call62 _) (sq_c y r4 hy hr4) rfl fun ac w hs => ?_)
          exact hs
        · intro L ac w hJ
          have hs := hJ
          refine wpO_in hs rfl rfl rfl (op_fieldA hs (some 12) rfl rfl rfl Try.underlying41 rfl Try.sizeOf24 (by decide) rfl fun ac hs => ?_)
          exact hs
        · intro L ac w hJ
          have hs := hJ
          refine wpO_in hs rfl rfl rfl (op_load hs (some 13) 0 (v := W x) rfl rfl rfl rfl Try.isAgg24 Try.sizeOf24 rfl rfl fun ac hs => ?_)
          exact hs
        · intro L ac w hJ
          have hs := hJ
          refine wpO_in hs rfl rfl rfl (op_call (F := 38) hs (some 14) (v := W r5) rfl rfl rfl rfl (Try.call38 _) (right_c x r5 hx hr5) rfl fun ac w hs => ?_)
          exact hs
        · intro L ac w hJ
          have hs := hJ
          refine wpO_in hs rfl rfl rfl (op_bin hs (some 15) (v := .bool (decide (r4 = r5))) rfl rfl rfl rfl (fun w => run_eqGuard_agg w .eql 24 _ _ _ _ Try.eqGuardType24) (eqlW r4 r5 lr4 lr5 _ rfl) rfl fun ac hs => ?_)
          exact hs
        · intro L ac w hJ
          have hs := hJ
          refine wpO_plain rfl (op_pickT hs (some 16) rfl rfl rfl rfl rfl fun ac hs => ?_)
          exact hs
        · intro L ac w hJ
          have hs := hJ
          refine wpO_plain rfl (op_assign hs (some 17) rfl rfl rfl rfl fun ac hs => ?_)
          exact hs
      intro ac w hJ
      replace hs : St 25 w0 [(8, true, .pointer (some ⟨g1, 0, none⟩)), (9, true, W x), (10, true, .bool true), (11, true, .bool true), (12, true, .pointer (some ⟨g1, 4, none⟩)), (13, true, W y), (14, true, .bool true), (15, true, .bool true), (16, true, .bool true), (17, true, .pointer (some ⟨g1, 4, none⟩)), (18, true, W y), (19, true, W r4), (20, true, .pointer (some ⟨g1, 0, none⟩)), (21, true, W x), (22, true, W r5), (23, true, .bool (decide (r4 = r5))), (24, true, .bool (decide (r4 = r5))), (2, true, .bool (decide (r4 = r5))), (1, true, .pointer (some ⟨g1, 0, none⟩)), (2, true, .bool false)] [(true, g1, 41, (PVl x y false))] ac w := hJ
      refine then_n ?_
      refine wp_ret ?_
      exact bodyPost_ret (res1 rfl (rv_t hs rfl)) hs.defers ⟨congrArg (fun b => Ending.returned (.bool b)) (onf3 hq2 hq3 hr4 hr5), (hs.bel rfl)⟩
    · skip
      replace hs : St 25 w0 [(1, true, .pointer (some ⟨g1, 0, none⟩)), (2, true, .bool false)] [(true, g1, 41, (PVl x y false))] ac _ := hs.re ⟨rfl, rfl, trivial⟩
      refine region_inv [([], [1, 2, 3, 4, 5, 6, 7, 8, 9, 10, 11, 12, 13, 14, 15, 16, 17]), ([0], [2, 3, 4, 5, 6, 7, 8, 9, 10, 11, 12, 13, 14, 15, 16, 17]), ([0, 1], [3, 4, 5, 6, 7, 8, 9, 10, 11, 12, 13, 14, 15, 16, 17]), ([0, 1, 2], [4, 5, 6, 7, 8, 9, 10, 11, 12, 13, 14, 15, 16, 17]), ([0, 1, 2, 3], [5, 6, 7, 8, 9, 10, 11, 12, 13, 14, 15, 16, 17]), ([0, 1, 2, 3, 4], [6, 7, 8, 9, 10, 11, 12, 13, 14, 15, 16, 17]), ([0, 1, 2, 3, 4, 5], [7, 8, 9, 10, 11, 12, 13, 14, 15, 16, 17]), ([0, 1, 2, 3, 4, 5, 6], [8, 9, 10, 11, 12, 13, 14, 15, 16, 17]), ([0, 1, 2, 3, 4, 5, 6, 7], [9, 10, 11, 12, 13, 14, 15, 16, 17]), ([0, 1, 2, 3, 4, 5, 6, 7, 8], [10, 11, 14, 15, 16, 17]), ([0, 1, 2, 3, 4, 5, 6, 7, 8, 9], [11, 14, 15, 16, 17]), ([0, 1, 2, 3, 4, 5, 6, 7, 8, 9, 10], [14, 15, 16, 17]), ([0, 1, 2, 3, 4, 5, 6, 7, 8], [13, 14, 15, 16, 17]), ([0, 1, 2, 3, 4, 5, 6, 7, 8, 12], [14, 15, 16, 17]), ([0, 1, 2, 3, 4, 5, 6, 7, 8, 9, 10, 11, 12, 13], [15, 16, 17]), ([0, 1, 2, 3, 4, 5, 6, 7, 8, 9, 10, 11, 12, 13, 14], [16, 17]), ([0, 1, 2, 3, 4, 5, 6, 7, 8, 9, 10, 11, 12, 13, 14, 15], [17]), ([0, 1, 2, 3, 4, 5, 6, 7, 8, 9, 10, 11, 12, 13, 14, 15, 16], [])] (fun L ac w => St 25 w0 [(8, L 0, .pointer (some ⟨g1, 0, none⟩)), (9, L 1, W x), (10, L 2, .bool true), (11, L 3, .bool true), (12, L 4, .pointer (some ⟨g1, 4, none⟩)), (13, L 5, W y), (14, L 6, .bool false), (15, L 7, .bool false), (16, L 8, .bool false), (17, L 9, undef), (18, L 10, undef), (19, L 11, undef), (20, L 12, undef), (21, L 13, undef), (22, L 14, undef), (23, L 15, undef), (24, L 16, .bool false), (2, L 17, .bool false), (1, true, .pointer (some ⟨g1, 0, none⟩)), (2, true, .bool false)] [(true, g1, 41, (PVl x y false))] ac w) (by kernel_rfl) (by kernel_rfl) ?_ ?_ ?_
      · exact hs.drew.skip.skip.skip.skip.skip.skip.skip.skip.skip.skip.skip.skip.skip.skip.skip.skip.skip.skip
      · refine ⟨?_, ?_, ?_, ?_, ?_, ?_, ?_, ?_, ?_, ?_, ?_, ?_, ?_, ?_, ?_, ?_, ?_, ?_, trivial⟩
        · intro L ac w hJ
          have hs := hJ
          refine wpO_plain rfl (op_fieldA hs (some 0) rfl rfl rfl Try.underlying41 rfl Try.sizeOf24 (by decide) rfl fun ac hs => ?_)
          exact hs
        · intro L ac w hJ
          have hs := hJ
          refine wpO_plain rfl (op_load hs (some 1) 0 (v := W x) rfl rfl rfl rfl Try.isAgg24 Try.sizeOf24 rfl rfl fun ac hs => ?_)
          exact hs
        · intro L ac w hJ
          have hs := hJ
          refine wpO_plain rfl (op_call (F := 35) hs (some 2) (v := .bool true) rfl rfl rfl rfl (Try.call35 _) (below_c x true hx (decide_eq_true hq2)) rfl fun ac w hs => ?_)
          exact hs
        · intro L ac w hJ
          have hs := hJ
          refine wpO_plain rfl (op_move hs (some 3) rfl rfl rfl rfl fun ac hs => ?_)
          exact hs
        · intro L ac w hJ
          have hs := hJ
          refine wpO_in hs rfl rfl rfl (op_fieldA hs (some 4) rfl rfl rfl Try.underlying41 rfl Try.sizeOf24 (by decide) rfl fun ac hs => ?_)
          exact hs
        · intro L ac w hJ
          have hs := hJ
          refine wpO_in hs rfl rfl rfl (op_load hs (some 5) 0 (v := W y) rfl rfl rfl rfl Try.isAgg24 Try.sizeOf24 rfl rfl fun ac hs => ?_)
          exact hs
        · intro L ac w hJ
          have hs := hJ
          refine wpO_in hs rfl rfl rfl (op_call (F := 35) hs (some 6) (v := .bool false) rfl rfl rfl rfl (Try.call35 _) (below_c y false hy (decide_eq_false hq3)) rfl fun ac w hs => ?_)
          exact hs
        · intro L ac w hJ
          have hs := hJ
          refine wpO_plain rfl (op_pickT hs (some 7) rfl rfl rfl rfl rfl fun ac hs => ?_)
          exact hs
        · intro L ac w hJ
          have hs := hJ
          refine wpO_plain rfl (op_move hs (some 8) rfl rfl rfl rfl fun ac hs => ?_)
          exact hs
        · intro L ac w hJ
          have hs := hJ
          refine wpO_out hs (some 9) rfl rfl (.inl rfl) rfl rfl fun ac hs => ?_
          exact hs
        · intro L ac w hJ
          have hs := hJ
          refine wpO_out hs (some 10) rfl rfl (.inl rfl) rfl rfl fun ac hs => ?_
          exact hs
        · intro L ac w hJ
          have hs := hJ
          refine wpO_out hs (some 11) rfl rfl (.inl rfl) rfl rfl fun ac hs => ?_
          exact hs
        · intro L ac w hJ
          have hs := hJ
          refine wpO_out hs (some 12) rfl rfl (.inl rfl) rfl rfl fun ac hs => ?_
          exact hs
        · intro L ac w hJ
          have hs := hJ
          refine wpO_out hs (some 13) rfl rfl (.inl rfl) rfl rfl fun ac hs => ?_
          exact hs
        · intro L ac w hJ
          have hs := hJ
          refine wpO_out hs (some 14) rfl rfl (.inl rfl) rfl rfl fun ac hs => ?_
          exact hs
        · intro L ac w hJ
          have hs := hJ
          refine wpO_out hs (some 15) rfl rfl (.inl rfl) rfl rfl fun ac hs => ?_
          exact hs
        · intro L ac w hJ
          have hs := hJ
          refine wpO_plain rfl (op_pickF hs (some 16) rfl rfl rfl rfl rfl fun ac hs => ?_)
          exact hs
        · intro L ac w hJ
          have hs := hJ
          refine wpO_plain rfl (op_assign hs (some 17) rfl rfl rfl rfl fun ac hs => ?_)
          exact hs
      intro ac w hJ
      replace hs : St 25 w0 [(8, true, .pointer (some ⟨g1, 0, none⟩)), (9, true, W x), (10, true, .bool true), (11, true, .bool true), (12, true, .pointer (some ⟨g1, 4, none⟩)), (13, true, W y), (14, true, .bool false), (15, true, .bool false), (16, true, .bool false), (17, true, undef), (18, true, undef), (19, true, undef), (20, true, undef), (21, true, undef), (22, true, undef), (23, true, undef), (24, true, .bool false), (2, true, .bool false), (1, true, .pointer (some ⟨g1, 0, none⟩)), (2, true, .bool false)] [(true, g1, 41, (PVl x y false))] ac w := hJ
      refine then_n ?_
      refine wp_ret ?_
      exact bodyPost_ret (res1 rfl (rv_t hs rfl)) hs.defers ⟨congrArg (fun b => Ending.returned (.bool b)) (onf2 hq3), (hs.bel rfl)⟩
  · skip
    replace hs : St 25 w0 [(1, true, .pointer (some ⟨g1, 0, none⟩)), (2, true, .bool false)] [(true, g1, 41, (PVl x y false))] ac _ := hs.re ⟨rfl, rfl, trivial⟩
    refine region_inv [([], [1, 2, 3, 4, 5, 6, 7, 8, 9, 10, 11, 12, 13, 14, 15, 16, 17]), ([0], [2, 3, 4, 5, 6, 7, 8, 9, 10, 11, 12, 13, 14, 15, 16, 17]), ([0, 1], [3, 4, 5, 6, 7, 8, 9, 10, 11, 12, 13, 14, 15, 16, 17]), ([0, 1, 2], [4, 5, 6, 7, 8, 9, 10, 11, 12, 13, 14, 15, 16, 17]), ([0, 1, 2, 3], [5, 6, 7, 8, 9, 10, 11, 12, 13, 14, 15, 16, 17]), ([0, 1, 2, 3, 4], [6, 7, 8, 9, 10, 11, 12, 13, 14, 15, 16, 17]), ([0, 1, 2, 3, 4, 5], [7, 8, 9, 10, 11, 12, 13, 14, 15, 16, 17]), ([0, 1, 2, 3, 4, 5, 6], [8, 9, 10, 11, 12, 13, 14, 15, 16, 17]), ([0, 1, 2, 3, 4, 5, 6, 7], [9, 10, 11, 12, 13, 14, 15, 16, 17]), ([0, 1, 2, 3, 4, 5, 6, 7, 8], [10, 11, 14, 15, 16, 17]), ([0, 1, 2, 3, 4, 5, 6, 7, 8, 9], [11, 14, 15, 16, 17]), ([0, 1, 2, 3, 4, 5, 6, 7, 8, 9, 10], [14, 15, 16, 17]), ([0, 1, 2, 3, 4, 5, 6, 7, 8], [13, 14, 15, 16, 17]), ([0, 1, 2, 3, 4, 5, 6, 7, 8, 12], [14, 15, 16, 17]), ([0, 1, 2, 3, 4, 5, 6, 7, 8, 9, 10, 11, 12, 13], [15, 16, 17]), ([0, 1, 2, 3, 4, 5, 6, 7, 8, 9, 10, 11, 12, 13, 14], [16, 17]), ([0, 1, 2, 3, 4, 5, 6, 7, 8, 9, 10, 11, 12, 13, 14, 15], [17]), ([0, 1, 2, 3, 4, 5, 6, 7, 8, 9, 10, 11, 12, 13, 14, 15, 16], [])] (fun L ac w => St 25 w0 [(8, L 0, .pointer (some ⟨g1, 0, none⟩)), (9, L 1, W x), (10, L 2, .bool false), (11, L 3, .bool false), (12, L 4, undef), (13, L 5, undef), (14, L 6, undef), (15, L 7, .bool false), (16, L 8, .bool false), (17, L 9, undef), (18, L 10, undef), (19, L 11, undef), (20, L 12, undef), (21, L 13, undef), (22, L 14, undef), (23, L 15, undef), (24, L 16, .bool false), (2, L 17, .bool false), (1, true, .pointer (some ⟨g1, 0, none⟩)), (2, true, .bool false)] [(true, g1, 41, (PVl x y false))] ac w) (by kernel_rfl) (by kernel_rfl) ?_ ?_ ?_
    · exact hs.drew.skip.skip.skip.skip.skip.skip.skip.skip.skip.skip.skip.skip.skip.skip.skip.skip.skip.skip
    · refine ⟨?_, ?_, ?_, ?_, ?_, ?_, ?_, ?_, ?_, ?_, ?_, ?_, ?_, ?_, ?_, ?_, ?_, ?_, trivial⟩
      · intro L ac w hJ
        have hs := hJ
        refine wpO_plain rfl (op_fieldA hs (some 0) rfl rfl rfl Try.underlying41 rfl Try.sizeOf24 (by decide) rfl fun ac hs => ?_)
        exact hs
      · intro L ac w hJ
        have hs := hJ
        refine wpO_plain rfl (op_load hs (some 1) 0 (v := W x) rfl rfl rfl rfl Try.isAgg24 Try.sizeOf24 rfl rfl fun ac hs => ?_)
        exact hs
      · intro L ac w hJ
        have hs := hJ
        refine wpO_plain rfl (op_call (F := 35) hs (some 2) (v := .bool false) rfl rfl rfl rfl (Try.call35 _) (below_c x false hx (decide_eq_false hq2)) rfl fun ac w hs => ?_)
        exact hs
      · intro L ac w hJ
        have hs := hJ
        refine wpO_plain rfl (op_move hs (some 3) rfl rfl rfl rfl fun ac hs => ?_)
        exact hs
      · intro L ac w hJ
        have hs := hJ
        refine wpO_out hs (some 4) rfl rfl (.inl rfl) rfl rfl fun ac hs => ?_
        exact hs
      · intro L ac w hJ
        have hs := hJ
        refine wpO_out hs (some 5) rfl rfl (.inl rfl) rfl rfl fun ac hs => ?_
        exact hs
      · intro L ac w hJ
        have hs := hJ
        refine wpO_out hs (some 6) rfl rfl (.inl rfl) rfl rfl fun ac hs => ?_
        exact hs
      · intro L ac w hJ
        have hs := hJ
        refine wpO_plain rfl (op_pickF hs (some 7) rfl rfl rfl rfl rfl fun ac hs => ?_)
        exact hs
      · intro L ac w hJ
        have hs := hJ
        refine wpO_plain rfl (op_move hs (some 8) rfl rfl rfl rfl fun ac hs => ?_)
        exact hs
      · intro L ac w hJ
        have hs := hJ
        refine wpO_out hs (some 9) rfl rfl (.inl rfl) rfl rfl fun ac hs => ?_
        exact hs
      · intro L ac w hJ
        have hs := hJ
        refine wpO_out hs (some 10) rfl rfl (.inl rfl) rfl rfl fun ac hs => ?_
        exact hs
      · intro L ac w hJ
        have hs := hJ
        refine wpO_out hs (some 11) rfl rfl (.inl rfl) rfl rfl fun ac hs => ?_
        exact hs
      · intro L ac w hJ
        have hs := hJ
        refine wpO_out hs (some 12) rfl rfl (.inl rfl) rfl rfl fun ac hs => ?_
        exact hs
      · intro L ac w hJ
        have hs := hJ
        refine wpO_out hs (some 13) rfl rfl (.inl rfl) rfl rfl fun ac hs => ?_
        exact hs
      · intro L ac w hJ
        have hs := hJ
        refine wpO_out hs (some 14) rfl rfl (.inl rfl) rfl rfl fun ac hs => ?_
        exact hs
      · intro L ac w hJ
        have hs := hJ
        refine wpO_out hs (some 15) rfl rfl (.inl rfl) rfl rfl fun ac hs => ?_
        exact hs
      · intro L ac w hJ
        have hs := hJ
        refine wpO_plain rfl (op_pickF hs (some 16) rfl rfl rfl rfl rfl fun ac hs => ?_)
        exact hs
      · intro L ac w hJ
        have hs := hJ
        refine wpO_plain rfl (op_assign hs (some 17) rfl rfl rfl rfl fun ac hs => ?_)
        exact hs
    intro ac w hJ
    replace hs : St 25 w0 [(8, true, .pointer (some ⟨g1, 0, none⟩)), (9, true, W x), (10, true, .bool false), (11, true, .bool false), (12, true, undef), (13, true, undef), (14, true, undef), (15, true, .bool false), (16, true, .bool false), (17, true, undef), (18, true, undef), (19, true, undef), (20, true, undef), (21, true, undef), (22, true, undef), (23, true, undef), (24, true, .bool false), (2, true, .bool false), (1, true, .pointer (some ⟨g1, 0, none⟩)), (2, true, .bool false)] [(true, g1, 41, (PVl x y false))] ac w := hJ
    refine then_n ?_
    refine wp_ret ?_
    exact bodyPost_ret (res1 rfl (rv_t hs rfl)) hs.defers ⟨congrArg (fun b => Ending.returned (.bool b)) (onf1 hq2), (hs.bel rfl)⟩
theorem on_c (x y : Nat) (z q : Bool) (hx : x < 2 ^ 256) (hy : y < 2 ^ 256) (hq : onB x y z = q) (w : World) : Calls Try.prog 48 #[PV x y z] w fun e w' => e = .returned (.bool q) ∧ Below w.heap.size w w' := by
  subst hq
  cases z with
  | true => exact on_c_t x y hx hy w
  | false => exact on_c_f x y hx hy w
theorem taken_c (x y : Nat) (z : Bool) (T : EM.Pt Pf) (hx : x < 2 ^ 256) (hy : y < 2 ^ 256) (hT : ptOf x y z = T) (w0 : World) : Calls Try.prog 26 #[PV x y z] w0 fun e w' => e = .returned (PV (px T) (py T) (pz T)) ∧ Below w0.heap.size w0 w' := by
  refine enter (n := 7) (args := [PV x y z]) Try.func26 rfl rfl (Nat.le_of_ble_eq_true rfl) fun ac hs => ?_
  refine wp_seq ?_
  refine wp_region_lit ?_
  refine lstep (wpO_plain rfl (op_box hs none none (cs := (PVl x y z)) rfl rfl rfl rfl rfl rfl fun g1 ac w hs => ?_))
  refine lstep (wpO_plain rfl (op_alloc hs none none (cs := (PVl 0 0 false)) rfl rfl Try.zeroValue41 (by kernel_rfl) rfl rfl fun g2 ac w hs => ?_))
  refine wpList_nil ?_
  refine then_n ?_
  refine wp_seq ?_
  refine wp_seq ?_
  refine wp_region_lit ?_
  refine lstep (wpO_plain rfl (op_load hs none 0 (v := PV x y z) rfl rfl rfl rfl Try.isAgg41 Try.sizeOf41 rfl rfl fun ac hs => ?_))
  refine lstep (wpO_plain rfl (op_call (F := 48) hs none (v := .bool (onB x y z)) rfl rfl rfl rfl (Try.call48 _) (on_c x y z _ hx hy rfl) rfl fun ac w hs => ?_))
  refine wpList_nil ?_
  refine then_n ?_
  refine wp_cond_split (hs.ev rfl) (fun hc => ?_) (fun hc => ?_)
  · skip
    refine wp_seq ?_
    refine wp_region_lit ?_
    refine lstep (wpO_plain rfl (op_load hs none 0 (v := PV x y z) rfl rfl rfl rfl Try.isAgg41 Try.sizeOf41 rfl rfl fun ac hs => ?_))
    refine lstep (wpO_plain rfl (op_store hs 1 (vs := (PVl x y z)) rfl rfl rfl rfl rfl Try.sizeOf41 rfl rfl rfl rfl rfl fun w hs => ?_))
    refine wpList_nil ?_
    refine then_n ?_
    refine wp_ret ?_
    refine then_r ?_
    exact bodyPost_ret (res1 rfl (rv_c hs 1 (v := PV x y z) rfl rfl Try.isAgg41 Try.sizeOf41 rfl)) hs.defers ⟨by subst hT; rw [(on_yes hc).1, (on_yes hc).2.1, (on_yes hc).2.2], (hs.bel rfl)⟩
  · skip
    refine wp_skip ?_
    refine then_n ?_
    refine wp_seq ?_
    refine wp_region_lit ?_
    refine lstep (wpO_plain rfl (op_call (F := 36) hs none (v := PV 0 0 true) rfl rfl rfl rfl (Try.call36 _) zero_c rfl fun ac w hs => ?_))
    refine lstep (wpO_plain rfl (op_store hs 1 (vs := (PVl 0 0 true)) rfl rfl rfl rfl rfl Try.sizeOf41 rfl rfl rfl rfl rfl fun w hs => ?_))
    refine wpList_nil ?_
    refine then_n ?_
    refine wp_ret ?_
    exact bodyPost_ret (res1 rfl (rv_c hs 1 (v := PV 0 0 true) rfl rfl Try.isAgg41 Try.sizeOf41 rfl)) hs.defers ⟨by rw [← hT, on_no (Bool.eq_false_iff.1 hc)]; rfl, (hs.bel rfl)⟩
theorem weigh_c (x y : Nat) (z : Bool) (u v s : Nat) (hx : x < 2 ^ 256) (hy : y < 2 ^ 256) (hu : (if z = true then 1 else x) = u) (hv : (if z = true then 1 else y) = v) (hs' : (if z = true then 0 else 1) = s) (w0 : World) : Calls Try.prog 42 #[PV x y z] w0 fun e w' => e = .returned (TV u v s) ∧ Below w0.heap.size w0 w' := by
  refine enter (n := 14) (args := [PV x y z]) Try.func42 rfl rfl (Nat.le_of_ble_eq_true rfl) fun ac hs => ?_
  refine wp_seq ?_
  refine wp_region_lit ?_
  refine lstep (wpO_plain rfl (op_box hs none none (cs := (PVl x y z)) rfl rfl rfl rfl rfl rfl fun g1 ac w hs => ?_))
  refine lstep (wpO_plain rfl (op_alloc hs none none (cs := (TVl 0 0 0)) rfl rfl Try.zeroValue72 (by kernel_rfl) rfl rfl fun g2 ac w hs => ?_))
  refine wpList_nil ?_
  refine then_n ?_
  refine wp_seq ?_
  refine wp_seq ?_
  refine wp_region_lit ?_
  refine lstep (wpO_plain rfl (op_fieldA hs none rfl rfl rfl Try.underlying41 rfl Try.sizeOf4 (by decide) rfl fun ac hs => ?_))
  refine lstep (wpO_plain rfl (op_load hs none 0 (v := .bool z) rfl rfl rfl rfl Try.isAgg4 Try.sizeOf4 rfl rfl fun ac hs => ?_))
  refine wpList_nil ?_
  refine then_n ?_
  refine wp_cond_split (hs.ev rfl) (fun hc => ?_) (fun hc => ?_)
  · skip
    refine wp_seq ?_
    refine wp_region_lit ?_
    refine lstep (wpO_plain rfl (op_call (F := 25) hs none (v := W 1) rfl rfl rfl rfl (Try.call25 _) (fun w => from_any w 1 (by decide)) rfl fun ac w hs => ?_))
    refine lstep (wpO_plain rfl (op_call (F := 25) hs none (v := W 1) rfl rfl rfl rfl (Try.call25 _) (fun w => from_any w 1 (by decide)) rfl fun ac w hs => ?_))
    refine lstep (wpO_plain rfl (op_build hs none (qs := [(0, W 1), (1, W 1)]) (v := TV 1 1 0) rfl rfl rfl rfl (fun _ => by kernel_rfl) rfl fun ac hs => ?_))
    refine lstep (wpO_plain rfl (op_store hs 1 (vs := (TVl 1 1 0)) rfl rfl rfl rfl rfl Try.sizeOf72 rfl rfl rfl rfl rfl fun w hs => ?_))
    refine wpList_nil ?_
    refine then_n ?_
    refine wp_ret ?_
    refine then_r ?_
    exact bodyPost_ret (res1 rfl (rv_c hs 1 (v := TV 1 1 0) rfl rfl Try.isAgg72 Try.sizeOf72 rfl)) hs.defers ⟨by rw [← hu, ← hv, ← hs', if_pos hc, if_pos hc, if_pos hc]; first | done | rfl, (hs.bel rfl)⟩
  · skip
    refine wp_skip ?_
    refine then_n ?_
    refine wp_seq ?_
    replace hs : St 14 w0 [(1, true, .pointer (some ⟨g1, 0, none⟩)), (2, true, .pointer (some ⟨g2, 0, none⟩))] [(true, g1, 41, (PVl x y z)), (true, g2, 72, (TVl 0 0 0))] ac _ := hs.re ⟨rfl, rfl, trivial⟩
    refine region_inv [([], [1, 5, 6]), ([0], [5, 6]), ([], [3, 5, 6]), ([2], [5, 6]), ([], [5, 6]), ([0, 1, 2, 3, 4], [6]), ([0, 1, 2, 3, 4, 5], [])] (fun L ac w => St 14 w0 [(8, L 0, .pointer (some ⟨g1, 0, none⟩)), (9, L 1, W x), (10, L 2, .pointer (some ⟨g1, 4, none⟩)), (11, L 3, W y), (12, L 4, W 1), (13, L 5, TV x y 1), (1, true, .pointer (some ⟨g1, 0, none⟩)), (2, true, .pointer (some ⟨g2, 0, none⟩))] [(true, g1, 41, (PVl x y z)), (true, g2, 72, (cond (L 6) (TVl x y 1) (TVl 0 0 0)))] ac w) (by kernel_rfl) (by kernel_rfl) ?_ ?_ ?_
    · exact hs.drew.skip.skip.skip.skip.skip.skip
    · refine ⟨?_, ?_, ?_, ?_, ?_, ?_, ?_, trivial⟩
      · intro L ac w hJ
        have hs := hJ
        refine wpO_plain rfl (op_fieldA hs (some 0) rfl rfl rfl Try.underlying41 rfl Try.sizeOf24 (by decide) rfl fun ac hs => ?_)
        exact hs
      · intro L ac w hJ
        have hs := hJ
        refine wpO_plain rfl (op_load hs (some 1) 0 (v := W x) rfl rfl rfl rfl Try.isAgg24 Try.sizeOf24 rfl rfl fun ac hs => ?_)
        exact hs
      · intro L ac w hJ
        have hs := hJ
        refine wpO_plain rfl (op_fieldA hs (some 2) rfl rfl rfl Try.underlying41 rfl Try.sizeOf24 (by decide) rfl fun ac hs => ?_)
        exact hs
      · intro L ac w hJ
        have hs := hJ
        refine wpO_plain rfl (op_load hs (some 3) 0 (v := W y) rfl rfl rfl rfl Try.isAgg24 Try.sizeOf24 rfl rfl fun ac hs => ?_)
        exact hs
      · intro L ac w hJ
        have hs := hJ
        refine wpO_plain rfl (op_call (F := 25) hs (some 4) (v := W 1) rfl rfl rfl rfl (Try.call25 _) (fun w => from_any w 1 (by decide)) rfl fun ac w hs => ?_)
        exact hs
      · intro L ac w hJ
        have hs := hJ
        refine wpO_plain rfl (op_build hs (some 5) (qs := [(0, W x), (1, W y), (2, W 1)]) (v := TV x y 1) rfl rfl rfl rfl (fun _ => by kernel_rfl) rfl fun ac hs => ?_)
        exact hs
      · intro L ac w hJ
        have hs := hJ
        refine wpO_plain rfl (op_store hs 1 (vs := (TVl x y 1)) rfl rfl rfl rfl rfl Try.sizeOf72 rfl rfl rfl rfl rfl fun w hs => ?_)
        exact hs
    intro ac w hJ
    replace hs : St 14 w0 [(8, true, .pointer (some ⟨g1, 0, none⟩)), (9, true, W x), (10, true, .pointer (some ⟨g1, 4, none⟩)), (11, true, W y), (12, true, W 1), (13, true, TV x y 1), (1, true, .pointer (some ⟨g1, 0, none⟩)), (2, true, .pointer (some ⟨g2, 0, none⟩))] [(true, g1, 41, (PVl x y z)), (true, g2, 72, (TVl x y 1))] ac w := hJ
    refine then_n ?_
    refine wp_ret ?_
    exact bodyPost_ret (res1 rfl (rv_c hs 1 (v := TV x y 1) rfl rfl Try.isAgg72 Try.sizeOf72 rfl)) hs.defers ⟨by rw [← hu, ← hv, ← hs', if_neg (Bool.eq_false_iff.1 hc), if_neg (Bool.eq_false_iff.1 hc), if_neg (Bool.eq_false_iff.1 hc)]; first | done | rfl, (hs.bel rfl)⟩
theorem isz_c (x y z : Nat) (q : Bool) (hx : x < 2 ^ 256) (hy : y < 2 ^ 256) (hz : z < 2 ^ 256) (hq : decide (z = 0) = q) (w0 : World) : Calls Try.prog 64 #[TV x y z] w0 fun e w' => e = .returned (.bool q) ∧ Below w0.heap.size w0 w' := by
  refine enter (n := 7) (args := [TV x y z]) Try.func64 rfl rfl (Nat.le_of_ble_eq_true rfl) fun ac hs => ?_
  refine wp_seq ?_
  refine wp_region_lit ?_
  refine lstep (wpO_plain rfl (op_box hs none none (cs := (TVl x y z)) rfl rfl rfl rfl rfl rfl fun g1 ac w hs => ?_))
  refine lstep (wpO_plain rfl (op_assign hs none rfl rfl rfl rfl fun ac hs => ?_))
  refine wpList_nil ?_
  refine then_n ?_
  refine wp_seq ?_
  refine wp_region_lit ?_
  refine lstep (wpO_plain rfl (op_fieldA hs none rfl rfl rfl Try.underlying72 rfl Try.sizeOf24 (by decide) rfl fun ac hs => ?_))
  refine lstep (wpO_plain rfl (op_load hs none 0 (v := W z) rfl rfl rfl rfl Try.isAgg24 Try.sizeOf24 rfl rfl fun ac hs => ?_))
  refine lstep (wpO_plain rfl (op_build hs none (qs := []) (v := .agg #[.int .u64 0, .int .u64 0, .int .u64 0, .int .u64 0]) rfl rfl rfl rfl (fun _ => by kernel_rfl) rfl fun ac hs => ?_))
  refine lstep (wpO_plain rfl (op_bin hs none (v := .bool (decide (z = 0))) rfl rfl rfl rfl (fun w => run_eqGuard_agg w .eql 24 _ _ _ _ Try.eqGuardType24) (eqlW z 0 hz (by decide) _ rfl) rfl fun ac hs => ?_))
  refine lstep (wpO_plain rfl (op_assign hs none rfl rfl rfl rfl fun ac hs => ?_))
  refine wpList_nil ?_
  refine then_n ?_
  refine wp_ret ?_
  exact bodyPost_ret (res1 rfl (rv_t hs rfl)) hs.defers ⟨by rw [← hq], (hs.bel rfl)⟩
theorem plain_c (x y z : Nat) (T : EM.Pt Pf) (hx : x < 2 ^ 256) (hy : y < 2 ^ 256) (hz : z < 2 ^ 256) (hE : JN x y z T) (w0 : World) : Calls Try.prog 47 #[TV x y z] w0 fun e w' => e = .returned (PV (px T) (py T) (pz T)) ∧ Below w0.heap.size w0 w' := by
  refine enter (n := 24) (args := [TV x y z]) Try.func47 rfl rfl (Nat.le_of_ble_eq_true rfl) fun ac hs => ?_
  refine wp_seq ?_
  refine wp_region_lit ?_
  refine lstep (wpO_plain rfl (op_box hs none none (cs := (TVl x y z)) rfl rfl rfl rfl rfl rfl fun g1 ac w hs => ?_))
  refine lstep (wpO_plain rfl (op_alloc hs none none (cs := (PVl 0 0 false)) rfl rfl Try.zeroValue41 (by kernel_rfl) rfl rfl fun g2 ac w hs => ?_))
  refine wpList_nil ?_
  refine then_n ?_
  refine wp_seq ?_
  refine wp_seq ?_
  refine wp_region_lit ?_
  refine lstep (wpO_plain rfl (op_load hs none 0 (v := TV x y z) rfl rfl rfl rfl Try.isAgg72 Try.sizeOf72 rfl rfl fun ac hs => ?_))
  refine lstep (wpO_plain rfl (op_call (F := 64) hs none (v := .bool (decide (z = 0))) rfl rfl rfl rfl (Try.call64 _) (isz_c x y z _ hx hy hz rfl) rfl fun ac w hs => ?_))
  refine wpList_nil ?_
  refine then_n ?_
  refine wp_cond_split (hs.ev rfl) (fun hc => ?_) (fun hc => ?_)
  · skip
    have hp3 := of_decide_eq_true hc
    refine wp_seq ?_
    refine wp_region_lit ?_
    refine lstep (wpO_plain rfl (op_call (F := 36) hs none (v := PV 0 0 true) rfl rfl rfl rfl (Try.call36 _) zero_c rfl fun ac w hs => ?_))
    refine lstep (wpO_plain rfl (op_store hs 1 (vs := (PVl 0 0 true)) rfl rfl rfl rfl rfl Try.sizeOf41 rfl rfl rfl rfl rfl fun w hs => ?_))
    refine wpList_nil ?_
    refine then_n ?_
    refine wp_ret ?_
    refine then_r ?_
    exact bodyPost_ret (res1 rfl (rv_c hs 1 (v := PV 0 0 true) rfl rfl Try.isAgg41 Try.sizeOf41 rfl)) hs.defers ⟨by rw [jn_zero hE hp3]; rfl, (hs.bel rfl)⟩
  · skip
    have hp4 := of_decide_eq_false hc
    refine wp_skip ?_
    refine then_n ?_
    refine wp_seq ?_
    refine wp_region_lit ?_
    refine lstep (wpO_plain rfl (op_fieldA hs none rfl rfl rfl Try.underlying72 rfl Try.sizeOf24 (by decide) rfl fun ac hs => ?_))
    refine lstep (wpO_plain rfl (op_load hs none 0 (v := W z) rfl rfl rfl rfl Try.isAgg24 Try.sizeOf24 rfl rfl fun ac hs => ?_))
    obtain ⟨r5, hr5, lr5⟩ : ∃ z0, pinv Pf z = z0 ∧ z0 < 2 ^ 256 := ⟨_, rfl, modP_lt _⟩
    refine lstep (wpO_plain rfl (op_call (F := 68) hs none (v := W r5) rfl rfl rfl rfl (Try.call68 _) (finv_c z r5 hz hr5) rfl fun ac w hs => ?_))
    refine lstep (wpO_plain rfl (op_alloc hs none none (cs := [.int .u64 0, .int .u64 0, .int .u64 0, .int .u64 0]) rfl rfl Try.zeroValue24 (by kernel_rfl) rfl rfl fun g6 ac w hs => ?_))
    refine lstep (wpO_plain rfl (op_store hs 2 (vs := (Wl r5)) rfl rfl rfl rfl rfl Try.sizeOf24 rfl rfl rfl rfl rfl fun w hs => ?_))
    refine wpList_nil ?_
    refine then_n ?_
    refine wp_seq ?_
    replace hs : St 24 w0 [(1, true, .pointer (some ⟨g1, 0, none⟩)), (2, true, .pointer (some ⟨g2, 0, none⟩)), (3, true, .pointer (some ⟨g6, 0, none⟩))] [(true, g1, 72, (TVl x y z)), (true, g2, 41, (PVl 0 0 false)), (true, g6, 24, (Wl r5))] ac _ := hs.re ⟨rfl, rfl, rfl, trivial⟩
    refine wp_region_lit ?_
    refine lstep (wpO_plain rfl (op_load hs none 2 (v := W r5) rfl rfl rfl rfl Try.isAgg24 Try.sizeOf24 rfl rfl fun ac hs => ?_))
    obtain ⟨r7, hr7, lr7⟩ : ∃ z0, r5 * r5 % Pf = z0 ∧ z0 < 2 ^ 256 := ⟨_, rfl, modP_lt _⟩
    refine lstep (wpO_plain rfl (op_call (F := 62) hs none (v := W r7) rfl rfl rfl rfl (Try.call62 _) (sq_c r5 r7 lr5 hr7) rfl fun ac w hs => ?_))
    refine lstep (wpO_plain rfl (op_alloc hs none none (cs := [.int .u64 0, .int .u64 0, .int .u64 0, .int .u64 0]) rfl rfl Try.zeroValue24 (by kernel_rfl) rfl rfl fun g8 ac w hs => ?_))
    refine lstep (wpO_plain rfl (op_store hs 3 (vs := (Wl r7)) rfl rfl rfl rfl rfl Try.sizeOf24 rfl rfl rfl rfl rfl fun w hs => ?_))
    refine wpList_nil ?_
    refine then_n ?_
    refine wp_seq ?_
    replace hs : St 24 w0 [(1, true, .pointer (some ⟨g1, 0, none⟩)), (2, true, .pointer (some ⟨g2, 0, none⟩)), (3, true, .pointer (some ⟨g6, 0, none⟩)), (4, true, .pointer (some ⟨g8, 0, none⟩))] [(true, g1, 72, (TVl x y z)), (true, g2, 41, (PVl 0 0 false)), (true, g6, 24, (Wl r5)), (true, g8, 24, (Wl r7))] ac _ := hs.re ⟨rfl, rfl, rfl, rfl, trivial⟩
    obtain ⟨r9, hr9, lr9⟩ : ∃ z0, x * r7 % Pf = z0 ∧ z0 < 2 ^ 256 := ⟨_, rfl, modP_lt _⟩
    obtain ⟨r10, hr10, lr10⟩ : ∃ z0, r7 * r5 % Pf = z0 ∧ z0 < 2 ^ 256 := ⟨_, rfl, modP_lt _⟩
    obtain ⟨r11, hr11, lr11⟩ : ∃ z0, y * r10 % Pf = z0 ∧ z0 < 2 ^ 256 := ⟨_, rfl, modP_lt _⟩
    refine region_inv [([], [1, 3, 8, 9, 10, 11]), ([0], [3, 8, 9, 10, 11]), ([], [3, 8, 9, 10, 11]), ([0, 1, 2], [8, 9, 10, 11]), ([], [5, 9, 10, 11]), ([4], [9, 10, 11]), ([], [8, 9, 10, 11]), ([], [8, 9, 10, 11]), ([0, 1, 2, 3, 6, 7], [9, 10, 11]), ([0, 1, 2, 3, 4, 5, 6, 7, 8], [10, 11]), ([0, 1, 2, 3, 4, 5, 6, 7, 8, 9], [11]), ([0, 1, 2, 3, 4, 5, 6, 7, 8, 9, 10], [])] (fun L ac w => St 24 w0 [(13, L 0, .pointer (some ⟨g1, 0, none⟩)), (14, L 1, W x), (15, L 2, W r7), (16, L 3, W r9), (17, L 4, .pointer (some ⟨g1, 4, none⟩)), (18, L 5, W y), (19, L 6, W r7), (20, L 7, W r5), (21, L 8, W r10), (22, L 9, W r11), (23, L 10, PV r9 r11 false), (1, true, .pointer (some ⟨g1, 0, none⟩)), (2, true, .pointer (some ⟨g2, 0, none⟩)), (3, true, .pointer (some ⟨g6, 0, none⟩)), (4, true, .pointer (some ⟨g8, 0, none⟩))] [(true, g1, 72, (TVl x y z)), (true, g2, 41, (cond (L 11) (PVl r9 r11 false) (PVl 0 0 false))), (true, g6, 24, (Wl r5)), (true, g8, 24, (Wl r7))] ac w) (by kernel_rfl) (by kernel_rfl) ?_ ?_ ?_
    · exact hs.drew.skip.skip.skip.skip.skip.skip.skip.skip.skip.skip.skip
    · refine ⟨?_, ?_, ?_, ?_, ?_, ?_, ?_, ?_, ?_, ?_, ?_, ?_, trivial⟩
      · intro L ac w hJ
        have hs := hJ
        refine wpO_plain rfl (op_fieldA hs (some 0) rfl rfl rfl Try.underlying72 rfl Try.sizeOf24 (by decide) rfl fun ac hs => ?_)
        exact hs
      · intro L ac w hJ
        have hs := hJ
        refine wpO_plain rfl (op_load hs (some 1) 0 (v := W x) rfl rfl rfl rfl Try.isAgg24 Try.sizeOf24 rfl rfl fun ac hs => ?_)
        exact hs
      · intro L ac w hJ
        have hs := hJ
        refine wpO_plain rfl (op_load hs (some 2) 3 (v := W r7) rfl rfl rfl rfl Try.isAgg24 Try.sizeOf24 rfl rfl fun ac hs => ?_)
        exact hs
      · intro L ac w hJ
        have hs := hJ
        refine wpO_plain rfl (op_call (F := 58) hs (some 3) (v := W r9) rfl rfl rfl rfl (Try.call58 _) (fmul_c x r7 r9 hx lr7 hr9) rfl fun ac w hs => ?_)
        exact hs
      · intro L ac w hJ
        have hs := hJ
        refine wpO_plain rfl (op_fieldA hs (some 4) rfl rfl rfl Try.underlying72 rfl Try.sizeOf24 (by decide) rfl fun ac hs => ?_)
        exact hs
      · intro L ac w hJ
        have hs := hJ
        refine wpO_plain rfl (op_load hs (some 5) 0 (v := W y) rfl rfl rfl rfl Try.isAgg24 Try.sizeOf24 rfl rfl fun ac hs => ?_)
        exact hs
      · intro L ac w hJ
        have hs := hJ
        refine wpO_plain rfl (op_load hs (some 6) 3 (v := W r7) rfl rfl rfl rfl Try.isAgg24 Try.sizeOf24 rfl rfl fun ac hs => ?_)
        exact hs
      · intro L ac w hJ
        have hs := hJ
        refine wpO_plain rfl (op_load hs (some 7) 2 (v := W r5) rfl rfl rfl rfl Try.isAgg24 Try.sizeOf24 rfl rfl fun ac hs => ?_)
        exact hs
      · intro L ac w hJ
        have hs := hJ
        refine wpO_plain rfl (op_call (F := 58) hs (some 8) (v := W r10) rfl rfl rfl rfl (Try.call58 _) (fmul_c r7 r5 r10 lr7 lr5 hr10) rfl fun ac w hs => ?_)
        exact hs
      · intro L ac w hJ
        have hs := hJ
        refine wpO_plain rfl (op_call (F := 58) hs (some 9) (v := W r11) rfl rfl rfl rfl (Try.call58 _) (fmul_c y r10 r11 hy lr10 hr11) rfl fun ac w hs => ?_)
        exact hs
      · intro L ac w hJ
        have hs := hJ
        refine wpO_plain rfl (op_build hs (some 10) (qs := [(0, W r9), (1, W r11)]) (v := PV r9 r11 false) rfl rfl rfl rfl (fun _ => by kernel_rfl) rfl fun ac hs => ?_)
        exact hs
      · intro L ac w hJ
        have hs := hJ
        refine wpO_plain rfl (op_store hs 1 (vs := (PVl r9 r11 false)) rfl rfl rfl rfl rfl Try.sizeOf41 rfl rfl rfl rfl rfl fun w hs => ?_)
        exact hs
    intro ac w hJ
    replace hs : St 24 w0 [(13, true, .pointer (some ⟨g1, 0, none⟩)), (14, true, W x), (15, true, W r7), (16, true, W r9), (17, true, .pointer (some ⟨g1, 4, none⟩)), (18, true, W y), (19, true, W r7), (20, true, W r5), (21, true, W r10), (22, true, W r11), (23, true, PV r9 r11 false), (1, true, .pointer (some ⟨g1, 0, none⟩)), (2, true, .pointer (some ⟨g2, 0, none⟩)), (3, true, .pointer (some ⟨g6, 0, none⟩)), (4, true, .pointer (some ⟨g8, 0, none⟩))] [(true, g1, 72, (TVl x y z)), (true, g2, 41, (PVl r9 r11 false)), (true, g6, 24, (Wl r5)), (true, g8, 24, (Wl r7))] ac w := hJ
    refine then_n ?_
    refine wp_ret ?_
    exact bodyPost_ret (res1 rfl (rv_c hs 1 (v := PV r9 r11 false) rfl rfl Try.isAgg41 Try.sizeOf41 rfl)) hs.defers ⟨by obtain ⟨e1, e2, e3⟩ := plain_law hE hp4 hr5 hr7 hr10 hr9 hr11; rw [e1, e2, e3], (hs.bel rfl)⟩
theorem times_c (n a x : Nat) (hn : n < 2 ^ 64) (ha : a < 2 ^ 256) (hx : n * a % Pf = x) (w0 : World) : Calls Try.prog 66 #[.int .u64 ((n : Nat) : Int), W a] w0 fun e w' => e = .returned (W x) ∧ Below w0.heap.size w0 w' := by
  refine enter (n := 9) (args := [.int .u64 ((n : Nat) : Int), W a]) Try.func66 rfl rfl (Nat.le_of_ble_eq_true rfl) fun ac hs => ?_
  refine wp_seq ?_
  refine wp_region_lit ?_
  refine lstep (wpO_plain rfl (op_box hs none none (cs := (Wl a)) rfl rfl rfl rfl rfl rfl fun g1 ac w hs => ?_))
  refine lstep (wpO_plain rfl (op_alloc hs none none (cs := [.int .u64 0, .int .u64 0, .int .u64 0, .int .u64 0]) rfl rfl Try.zeroValue24 (by kernel_rfl) rfl rfl fun g2 ac w hs => ?_))
  refine wpList_nil ?_
  refine then_n ?_
  refine wp_seq ?_
  replace hs : St 9 w0 [(0, true, .int .u64 ((n : Nat) : Int)), (3, true, .pointer (some ⟨g1, 0, none⟩)), (4, true, .pointer (some ⟨g2, 0, none⟩))] [(true, g1, 24, (Wl a)), (true, g2, 24, [.int .u64 0, .int .u64 0, .int .u64 0, .int .u64 0])] ac _ := hs.re ⟨rfl, rfl, rfl, trivial⟩
  obtain ⟨r3, hr3, lr3⟩ : ∃ z0, n * a % Pf = z0 ∧ z0 < 2 ^ 256 := ⟨_, rfl, modP_lt _⟩
  refine region_inv [([], [1, 3, 4]), ([0], [3, 4]), ([], [3, 4]), ([0, 1, 2], [4]), ([0, 1, 2, 3], [])] (fun L ac w => St 9 w0 [(5, L 0, .int .u64 ((n : Nat) : Int)), (6, L 1, W n), (7, L 2, W a), (8, L 3, W r3), (0, true, .int .u64 ((n : Nat) : Int)), (3, true, .pointer (some ⟨g1, 0, none⟩)), (4, true, .pointer (some ⟨g2, 0, none⟩))] [(true, g1, 24, (Wl a)), (true, g2, 24, (cond (L 4) (Wl r3) [.int .u64 0, .int .u64 0, .int .u64 0, .int .u64 0]))] ac w) (by kernel_rfl) (by kernel_rfl) ?_ ?_ ?_
  · exact hs.drew.skip.skip.skip.skip
  · refine ⟨?_, ?_, ?_, ?_, ?_, trivial⟩
    · intro L ac w hJ
      have hs := hJ
      refine wpO_plain rfl (op_move hs (some 0) rfl rfl rfl rfl fun ac hs => ?_)
      exact hs
    · intro L ac w hJ
      have hs := hJ
      refine wpO_plain rfl (op_call (F := 25) hs (some 1) (v := W n) rfl rfl rfl rfl (Try.call25 _) (fun w => from_any w n (show n < 2 ^ 64 by omega)) rfl fun ac w hs => ?_)
      exact hs
    · intro L ac w hJ
      have hs := hJ
      refine wpO_plain rfl (op_load hs (some 2) 0 (v := W a) rfl rfl rfl rfl Try.isAgg24 Try.sizeOf24 rfl rfl fun ac hs => ?_)
      exact hs
    · intro L ac w hJ
      have hs := hJ
      refine wpO_plain rfl (op_call (F := 58) hs (some 3) (v := W r3) rfl rfl rfl rfl (Try.call58 _) (fmul_c n a r3 (show n < 2 ^ 256 by omega) ha hr3) rfl fun ac w hs => ?_)
      exact hs
    · intro L ac w hJ
      have hs := hJ
      refine wpO_plain rfl (op_store hs 1 (vs := (Wl r3)) rfl rfl rfl rfl rfl Try.sizeOf24 rfl rfl rfl rfl rfl fun w hs => ?_)
      exact hs
  intro ac w hJ
  replace hs : St 9 w0 [(5, true, .int .u64 ((n : Nat) : Int)), (6, true, W n), (7, true, W a), (8, true, W r3), (0, true, .int .u64 ((n : Nat) : Int)), (3, true, .pointer (some ⟨g1, 0, none⟩)), (4, true, .pointer (some ⟨g2, 0, none⟩))] [(true, g1, 24, (Wl a)), (true, g2, 24, (Wl r3))] ac w := hJ
  refine then_n ?_
  refine wp_ret ?_
  exact bodyPost_ret (res1 rfl (rv_c hs 1 (v := W r3) rfl rfl Try.isAgg24 Try.sizeOf24 rfl)) hs.defers ⟨by rw [← hx, ← hr3], (hs.bel rfl)⟩
theorem doubled_c (x y z X Y Z : Nat) (hx : x < 2 ^ 256) (hy : y < 2 ^ 256) (hz : z < 2 ^ 256) (hE : dJ x y z = (X, Y, Z)) (w0 : World) : Calls Try.prog 45 #[TV x y z] w0 fun e w' => e = .returned (TV X Y Z) ∧ Below w0.heap.size w0 w' := by
  refine enter (n := 53) (args := [TV x y z]) Try.func45 rfl rfl (Nat.le_of_ble_eq_true rfl) fun ac hs => ?_
  refine wp_seq ?_
  refine wp_region_lit ?_
  refine lstep (wpO_plain rfl (op_box hs none none (cs := (TVl x y z)) rfl rfl rfl rfl rfl rfl fun g1 ac w hs => ?_))
  refine lstep (wpO_plain rfl (op_alloc hs none none (cs := (TVl 0 0 0)) rfl rfl Try.zeroValue72 (by kernel_rfl) rfl rfl fun g2 ac w hs => ?_))
  refine wpList_nil ?_
  refine then_n ?_
  refine wp_seq ?_
  refine wp_seq ?_
  by_cases hq3 : z = 0
  · skip
    refine wp_region_lit ?_
    refine lstep (wpO_plain rfl (op_load hs none 0 (v := TV x y z) rfl rfl rfl rfl Try.isAgg72 Try.sizeOf72 rfl rfl fun ac hs => ?_))
    refine lstep (wpO_plain rfl (op_call (F := 64) hs none (v := .bool true) rfl rfl rfl rfl (Try.call64 _) (isz_c x y z true hx hy hz (decide_eq_true hq3)) rfl fun ac w hs => ?_))
    refine lstep (wpO_plain rfl (op_move hs none rfl rfl rfl rfl fun ac hs => ?_))
    refine lstep (wpO_out hs none rfl rfl (.inl rfl) rfl rfl fun ac hs => ?_)
    refine lstep (wpO_out hs none rfl rfl (.inl rfl) rfl rfl fun ac hs => ?_)
    refine lstep (wpO_out hs none rfl rfl (.inl rfl) rfl rfl fun ac hs => ?_)
    refine lstep (wpO_out hs none rfl rfl (.inl rfl) rfl rfl fun ac hs => ?_)
    refine lstep (wpO_plain rfl (op_pickT hs none rfl rfl rfl rfl rfl fun ac hs => ?_))
    refine wpList_nil ?_
    refine then_n ?_
    refine wp_cond_true (hs.ev rfl) ?_
    refine wp_seq ?_
    replace hs : St 53 w0 [(1, true, .pointer (some ⟨g1, 0, none⟩)), (2, true, .pointer (some ⟨g2, 0, none⟩))] [(true, g1, 72, (TVl x y z)), (true, g2, 72, (TVl 0 0 0))] ac _ := hs.re ⟨rfl, rfl, trivial⟩
    refine wp_region_lit ?_
    refine lstep (wpO_plain rfl (op_call (F := 36) hs none (v := PV 0 0 true) rfl rfl rfl rfl (Try.call36 _) zero_c rfl fun ac w hs => ?_))
    refine lstep (wpO_plain rfl (op_call (F := 42) hs none (v := TV 1 1 0) rfl rfl rfl rfl (Try.call42 _) (weigh_c 0 0 true 1 1 0 (by decide) (by decide) rfl rfl rfl) rfl fun ac w hs => ?_))
    refine lstep (wpO_plain rfl (op_store hs 1 (vs := (TVl 1 1 0)) rfl rfl rfl rfl rfl Try.sizeOf72 rfl rfl rfl rfl rfl fun w hs => ?_))
    refine wpList_nil ?_
    refine then_n ?_
    refine wp_ret ?_
    refine then_r ?_
    exact bodyPost_ret (res1 rfl (rv_c hs 1 (v := TV 1 1 0) rfl rfl Try.isAgg72 Try.sizeOf72 rfl)) hs.defers ⟨by obtain ⟨rfl, rfl, rfl⟩ := tri3 ((dJ_yes (.inl hq3)).symm.trans hE); rfl, (hs.bel rfl)⟩
  · skip
    by_cases hq4 : y = 0
    · skip
      refine wp_region_lit ?_
      refine lstep (wpO_plain rfl (op_load hs none 0 (v := TV x y z) rfl rfl rfl rfl Try.isAgg72 Try.sizeOf72 rfl rfl fun ac hs => ?_))
      refine lstep (wpO_plain rfl (op_call (F := 64) hs none (v := .bool false) rfl rfl rfl rfl (Try.call64 _) (isz_c x y z false hx hy hz (decide_eq_false hq3)) rfl fun ac w hs => ?_))
      refine lstep (wpO_plain rfl (op_move hs none rfl rfl rfl rfl fun ac hs => ?_))
      refine lstep (wpO_in hs rfl rfl rfl (op_fieldA hs none rfl rfl rfl Try.underlying72 rfl Try.sizeOf24 (by decide) rfl fun ac hs => ?_))
      refine lstep (wpO_in hs rfl rfl rfl (op_load hs none 0 (v := W y) rfl rfl rfl rfl Try.isAgg24 Try.sizeOf24 rfl rfl fun ac hs => ?_))
      refine lstep (wpO_in hs rfl rfl rfl (op_build hs none (qs := []) (v := .agg #[.int .u64 0, .int .u64 0, .int .u64 0, .int .u64 0]) rfl rfl rfl rfl (fun _ => by kernel_rfl) rfl fun ac hs => ?_))
      refine lstep (wpO_in hs rfl rfl rfl (op_bin hs none (v := .bool true) rfl rfl rfl rfl (fun w => run_eqGuard_agg w .eql 24 _ _ _ _ Try.eqGuardType24) (eqlW y 0 hy (by decide) true (decide_eq_true hq4)) rfl fun ac hs => ?_))
      refine lstep (wpO_plain rfl (op_pickF hs none rfl rfl rfl rfl rfl fun ac hs => ?_))
      refine wpList_nil ?_
      refine then_n ?_
      refine wp_cond_true (hs.ev rfl) ?_
      refine wp_seq ?_
      replace hs : St 53 w0 [(1, true, .pointer (some ⟨g1, 0, none⟩)), (2, true, .pointer (some ⟨g2, 0, none⟩))] [(true, g1, 72, (TVl x y z)), (true, g2, 72, (TVl 0 0 0))] ac _ := hs.re ⟨rfl, rfl, trivial⟩
      refine wp_region_lit ?_
      refine lstep (wpO_plain rfl (op_call (F := 36) hs none (v := PV 0 0 true) rfl rfl rfl rfl (Try.call36 _) zero_c rfl fun ac w hs => ?_))
      refine lstep (wpO_plain rfl (op_call (F := 42) hs none (v := TV 1 1 0) rfl rfl rfl rfl (Try.call42 _) (weigh_c 0 0 true 1 1 0 (by decide) (by decide) rfl rfl rfl) rfl fun ac w hs => ?_))
      refine lstep (wpO_plain rfl (op_store hs 1 (vs := (TVl 1 1 0)) rfl rfl rfl rfl rfl Try.sizeOf72 rfl rfl rfl rfl rfl fun w hs => ?_))
      refine wpList_nil ?_
      refine then_n ?_
      refine wp_ret ?_
      refine then_r ?_
      exact bodyPost_ret (res1 rfl (rv_c hs 1 (v := TV 1 1 0) rfl rfl Try.isAgg72 Try.sizeOf72 rfl)) hs.defers ⟨by obtain ⟨rfl, rfl, rfl⟩ := tri3 ((dJ_yes (.inr hq4)).symm.trans hE); rfl, (hs.bel rfl)⟩
    · skip
      refine wp_region_lit ?_
      refine lstep (wpO_plain rfl (op_load hs none 0 (v := TV x y z) rfl rfl rfl rfl Try.isAgg72 Try.sizeOf72 rfl rfl fun ac hs => ?_))
      refine lstep (wpO_plain rfl (op_call (F := 64) hs none (v := .bool false) rfl rfl rfl rfl (Try.call64 _) (isz_c x y z false hx hy hz (decide_eq_false hq3)) rfl fun ac w hs => ?_))
      refine lstep (wpO_plain rfl (op_move hs none rfl rfl rfl rfl fun ac hs => ?_))
      refine lstep (wpO_in hs rfl rfl rfl (op_fieldA hs none rfl rfl rfl Try.underlying72 rfl Try.sizeOf24 (by decide) rfl fun ac hs => ?_))
      refine lstep (wpO_in hs rfl rfl rfl (op_load hs none 0 (v := W y) rfl rfl rfl rfl Try.isAgg24 Try.sizeOf24 rfl rfl fun ac hs => ?_))
      refine lstep (wpO_in hs rfl rfl rfl (op_build hs none (qs := []) (v := .agg #[.int .u64 0, .int .u64 0, .int .u64 0, .int .u64 0]) rfl rfl rfl rfl (fun _ => by kernel_rfl) rfl fun ac hs => ?_))
      refine lstep (wpO_in hs rfl rfl rfl (op_bin hs none (v := .bool false) rfl rfl rfl rfl (fun w => run_eqGuard_agg w .eql 24 _ _ _ _ Try.eqGuardType24) (eqlW y 0 hy (by decide) false (decide_eq_false hq4)) rfl fun ac hs => ?_))
      refine lstep (wpO_plain rfl (op_pickF hs none rfl rfl rfl rfl rfl fun ac hs => ?_))
      refine wpList_nil ?_
      refine then_n ?_
      refine wp_cond_false (hs.ev rfl) ?_
      refine wp_skip ?_
      refine then_n ?_
      refine wp_seq ?_
      replace hs : St 53 w0 [(1, true, .pointer (some ⟨g1, 0, none⟩)), (2, true, .pointer (some ⟨g2, 0, none⟩))] [(true, g1, 72, (TVl x y z)), (true, g2, 72, (TVl 0 0 0))] ac _ := hs.re ⟨rfl, rfl, trivial⟩
      refine wp_region_lit ?_
      refine lstep (wpO_plain rfl (op_fieldA hs none rfl rfl rfl Try.underlying72 rfl Try.sizeOf24 (by decide) rfl fun ac hs => ?_))
      refine lstep (wpO_plain rfl (op_load hs none 0 (v := W y) rfl rfl rfl rfl Try.isAgg24 Try.sizeOf24 rfl rfl fun ac hs => ?_))
      obtain ⟨r5, hr5, lr5⟩ : ∃ z0, y * y % Pf = z0 ∧ z0 < 2 ^ 256 := ⟨_, rfl, modP_lt _⟩
      refine lstep (wpO_plain rfl (op_call (F := 62) hs none (v := W r5) rfl rfl rfl rfl (Try.call62 _) (sq_c y r5 hy hr5) rfl fun ac w hs => ?_))
      refine lstep (wpO_plain rfl (op_alloc hs none none (cs := [.int .u64 0, .int .u64 0, .int .u64 0, .int .u64 0]) rfl rfl Try.zeroValue24 (by kernel_rfl) rfl rfl fun g6 ac w hs => ?_))
      refine lstep (wpO_plain rfl (op_store hs 2 (vs := (Wl r5)) rfl rfl rfl rfl rfl Try.sizeOf24 rfl rfl rfl rfl rfl fun w hs => ?_))
      refine wpList_nil ?_
      refine then_n ?_
      refine wp_seq ?_
      refine wp_region_lit ?_
      refine lstep (wpO_plain rfl (op_fieldA hs none rfl rfl rfl Try.underlying72 rfl Try.sizeOf24 (by decide) rfl fun ac hs => ?_))
      refine lstep (wpO_plain rfl (op_load hs none 0 (v := W x) rfl rfl rfl rfl Try.isAgg24 Try.sizeOf24 rfl rfl fun ac hs => ?_))
      refine lstep (wpO_plain rfl (op_load hs none 2 (v := W r5) rfl rfl rfl rfl Try.isAgg24 Try.sizeOf24 rfl rfl fun ac hs => ?_))
      obtain ⟨r7, hr7, lr7⟩ : ∃ z0, x * r5 % Pf = z0 ∧ z0 < 2 ^ 256 := ⟨_, rfl, modP_lt _⟩
      refine lstep (wpO_plain rfl (op_call (F := 58) hs none (v := W r7) rfl rfl rfl rfl (Try.call58 _) (fmul_c x r5 r7 hx lr5 hr7) rfl fun ac w hs => ?_))
      obtain ⟨r8, hr8, lr8⟩ : ∃ z0, 4 * r7 % Pf = z0 ∧ z0 < 2 ^ 256 := ⟨_, rfl, modP_lt _⟩
      refine lstep (wpO_plain rfl (op_call (F := 66) hs none (v := W r8) rfl rfl rfl rfl (Try.call66 _) (times_c 4 r7 r8 (by decide) lr7 hr8) rfl fun ac w hs => ?_))
      refine lstep (wpO_plain rfl (op_alloc hs none none (cs := [.int .u64 0, .int .u64 0, .int .u64 0, .int .u64 0]) rfl rfl Try.zeroValue24 (by kernel_rfl) rfl rfl fun g9 ac w hs => ?_))
      refine lstep (wpO_plain rfl (op_store hs 3 (vs := (Wl r8)) rfl rfl rfl rfl rfl Try.sizeOf24 rfl rfl rfl rfl rfl fun w hs => ?_))
      refine wpList_nil ?_
      refine then_n ?_
      refine wp_seq ?_
      replace hs : St 53 w0 [(1, true, .pointer (some ⟨g1, 0, none⟩)), (2, true, .pointer (some ⟨g2, 0, none⟩)), (3, true, .pointer (some ⟨g6, 0, none⟩)), (4, true, .pointer (some ⟨g9, 0, none⟩))] [(true, g1, 72, (TVl x y z)), (true, g2, 72, (TVl 0 0 0)), (true, g6, 24, (Wl r5)), (true, g9, 24, (Wl r8))] ac _ := hs.re ⟨rfl, rfl, rfl, rfl, trivial⟩
      refine wp_region_lit ?_
      refine lstep (wpO_plain rfl (op_fieldA hs none rfl rfl rfl Try.underlying72 rfl Try.sizeOf24 (by decide) rfl fun ac hs => ?_))
      refine lstep (wpO_plain rfl (op_load hs none 0 (v := W x) rfl rfl rfl rfl Try.isAgg24 Try.sizeOf24 rfl rfl fun ac hs => ?_))
      obtain ⟨r10, hr10, lr10⟩ : ∃ z0, x * x % Pf = z0 ∧ z0 < 2 ^ 256 := ⟨_, rfl, modP_lt _⟩
      refine lstep (wpO_plain rfl (op_call (F := 62) hs none (v := W r10) rfl rfl rfl rfl (Try.call62 _) (sq_c x r10 hx hr10) rfl fun ac w hs => ?_))
      obtain ⟨r11, hr11, lr11⟩ : ∃ z0, 3 * r10 % Pf = z0 ∧ z0 < 2 ^ 256 := ⟨_, rfl, modP_lt _⟩
      refine lstep (wpO_plain rfl (op_call (F := 66) hs none (v := W r11) rfl rfl rfl rfl (Try.call66 _) (times_c 3 r10 r11 (by decide) lr10 hr11) rfl fun ac w hs => ?_))
      refine lstep (wpO_plain rfl (op_alloc hs none none (cs := [.int .u64 0, .int .u64 0, .int .u64 0, .int .u64 0]) rfl rfl Try.zeroValue24 (by kernel_rfl) rfl rfl fun g12 ac w hs => ?_))
      refine lstep (wpO_plain rfl (op_store hs 4 (vs := (Wl r11)) rfl rfl rfl rfl rfl Try.sizeOf24 rfl rfl rfl rfl rfl fun w hs => ?_))
      refine wpList_nil ?_
      refine then_n ?_
      refine wp_seq ?_
      replace hs : St 53 w0 [(1, true, .pointer (some ⟨g1, 0, none⟩)), (2, true, .pointer (some ⟨g2, 0, none⟩)), (3, true, .pointer (some ⟨g6, 0, none⟩)), (4, true, .pointer (some ⟨g9, 0, none⟩)), (5, true, .pointer (some ⟨g12, 0, none⟩))] [(true, g1, 72, (TVl x y z)), (true, g2, 72, (TVl 0 0 0)), (true, g6, 24, (Wl r5)), (true, g9, 24, (Wl r8)), (true, g12, 24, (Wl r11))] ac _ := hs.re ⟨rfl, rfl, rfl, rfl, rfl, trivial⟩
      obtain ⟨r13, hr13, lr13⟩ : ∃ z0, r11 * r11 % Pf = z0 ∧ z0 < 2 ^ 256 := ⟨_, rfl, modP_lt _⟩
      obtain ⟨r14, hr14, lr14⟩ : ∃ z0, 2 * r8 % Pf = z0 ∧ z0 < 2 ^ 256 := ⟨_, rfl, modP_lt _⟩
      obtain ⟨r15, hr15, lr15⟩ : ∃ z0, fsub r13 r14 = z0 ∧ z0 < 2 ^ 256 := ⟨_, rfl, fsub_lt _ _⟩
      refine region_inv [([], [1, 3, 4, 6]), ([0], [3, 4, 6]), ([], [3, 4, 6]), ([0, 1, 2], [4, 6]), ([0, 1, 2, 3], [6]), ([], [6]), ([0, 1, 2, 3, 4, 5], [])] (fun L ac w => ∃ (g16 : Nat), St 53 w0 [(30, L 0, W r11), (31, L 1, W r13), (32, L 2, W r8), (33, L 3, W r14), (34, L 4, W r15), (6, L 5, .pointer (some ⟨g16, 0, none⟩)), (1, true, .pointer (some ⟨g1, 0, none⟩)), (2, true, .pointer (some ⟨g2, 0, none⟩)), (3, true, .pointer (some ⟨g6, 0, none⟩)), (4, true, .pointer (some ⟨g9, 0, none⟩)), (5, true, .pointer (some ⟨g12, 0, none⟩))] [(true, g1, 72, (TVl x y z)), (true, g2, 72, (TVl 0 0 0)), (true, g6, 24, (Wl r5)), (true, g9, 24, (Wl r8)), (true, g12, 24, (Wl r11)), (L 5, g16, 24, (cond (L 6) (Wl r15) [.int .u64 0, .int .u64 0, .int .u64 0, .int .u64 0]))] ac w) (by kernel_rfl) (by kernel_rfl) ?_ ?_ ?_
      · exact ⟨0, hs.drew.skip.skip.skip.skip.skip.skip.pad⟩
      · refine ⟨?_, ?_, ?_, ?_, ?_, ?_, ?_, trivial⟩
        · intro L ac w hJ
          obtain ⟨g16, hs⟩ := hJ
          refine wpO_plain rfl (op_load hs (some 0) 4 (v := W r11) rfl rfl rfl rfl Try.isAgg24 Try.sizeOf24 rfl rfl fun ac hs => ?_)
          exact ⟨g16, hs⟩
        · intro L ac w hJ
          obtain ⟨g16, hs⟩ := hJ
          refine wpO_plain rfl (op_call (F := 62) hs (some 1) (v := W r13) rfl rfl rfl rfl (Try.call62 _) (sq_c r11 r13 lr11 hr13) rfl fun ac w hs => ?_)
          exact ⟨g16, hs⟩
        · intro L ac w hJ
          obtain ⟨g16, hs⟩ := hJ
          refine wpO_plain rfl (op_load hs (some 2) 3 (v := W r8) rfl rfl rfl rfl Try.isAgg24 Try.sizeOf24 rfl rfl fun ac hs => ?_)
          exact ⟨g16, hs⟩
        · intro L ac w hJ
          obtain ⟨g16, hs⟩ := hJ
          refine wpO_plain rfl (op_call (F := 66) hs (some 3) (v := W r14) rfl rfl rfl rfl (Try.call66 _) (times_c 2 r8 r14 (by decide) lr8 hr14) rfl fun ac w hs => ?_)
          exact ⟨g16, hs⟩
        · intro L ac w hJ
          obtain ⟨g16, hs⟩ := hJ
          refine wpO_plain rfl (op_call (F := 65) hs (some 4) (v := W r15) rfl rfl rfl rfl (Try.call65 _) (fsub_c r13 r14 r15 lr13 lr14 hr15) rfl fun ac w hs => ?_)
          exact ⟨g16, hs⟩
        · intro L ac w hJ
          obtain ⟨g16, hs⟩ := hJ
          refine wpO_plain rfl (op_alloc hs (some 5) (some 5) (cs := [.int .u64 0, .int .u64 0, .int .u64 0, .int .u64 0]) rfl rfl Try.zeroValue24 (by kernel_rfl) rfl rfl fun g16 ac w hs => ?_)
          exact ⟨g16, hs⟩
        · intro L ac w hJ
          obtain ⟨g16, hs⟩ := hJ
          refine wpO_plain rfl (op_store hs 5 (vs := (Wl r15)) rfl rfl rfl rfl rfl Try.sizeOf24 rfl rfl rfl rfl rfl fun w hs => ?_)
          exact ⟨g16, hs⟩
      intro ac w hJ
      obtain ⟨g16, hs⟩ := hJ
      replace hs : St 53 w0 [(30, true, W r11), (31, true, W r13), (32, true, W r8), (33, true, W r14), (34, true, W r15), (6, true, .pointer (some ⟨g16, 0, none⟩)), (1, true, .pointer (some ⟨g1, 0, none⟩)), (2, true, .pointer (some ⟨g2, 0, none⟩)), (3, true, .pointer (some ⟨g6, 0, none⟩)), (4, true, .pointer (some ⟨g9, 0, none⟩)), (5, true, .pointer (some ⟨g12, 0, none⟩))] [(true, g1, 72, (TVl x y z)), (true, g2, 72, (TVl 0 0 0)), (true, g6, 24, (Wl r5)), (true, g9, 24, (Wl r8)), (true, g12, 24, (Wl r11)), (true, g16, 24, (Wl r15))] ac w := hs
      refine then_n ?_
      refine wp_seq ?_
      replace hs : St 53 w0 [(1, true, .pointer (some ⟨g1, 0, none⟩)), (2, true, .pointer (some ⟨g2, 0, none⟩)), (3, true, .pointer (some ⟨g6, 0, none⟩)), (4, true, .pointer (some ⟨g9, 0, none⟩)), (5, true, .pointer (some ⟨g12, 0, none⟩)), (6, true, .pointer (some ⟨g16, 0, none⟩))] [(true, g1, 72, (TVl x y z)), (true, g2, 72, (TVl 0 0 0)), (true, g6, 24, (Wl r5)), (true, g9, 24, (Wl r8)), (true, g12, 24, (Wl r11)), (true, g16, 24, (Wl r15))] ac _ := hs.re ⟨rfl, rfl, rfl, rfl, rfl, rfl, trivial⟩
      obtain ⟨r17, hr17, lr17⟩ : ∃ z0, fsub r8 r15 = z0 ∧ z0 < 2 ^ 256 := ⟨_, rfl, fsub_lt _ _⟩
      obtain ⟨r18, hr18, lr18⟩ : ∃ z0, r11 * r17 % Pf = z0 ∧ z0 < 2 ^ 256 := ⟨_, rfl, modP_lt _⟩
      obtain ⟨r19, hr19, lr19⟩ : ∃ z0, r5 * r5 % Pf = z0 ∧ z0 < 2 ^ 256 := ⟨_, rfl, modP_lt _⟩
      obtain ⟨r20, hr20, lr20⟩ : ∃ z0, 8 * r19 % Pf = z0 ∧ z0 < 2 ^ 256 := ⟨_, rfl, modP_lt _⟩
      obtain ⟨r21, hr21, lr21⟩ : ∃ z0, fsub r18 r20 = z0 ∧ z0 < 2 ^ 256 := ⟨_, rfl, fsub_lt _ _⟩
      refine region_inv [([], [4, 6, 7, 8, 10]), ([], [3, 4, 6, 7, 8, 10]), ([], [3, 4, 6, 7, 8, 10]), ([1, 2], [4, 6, 7, 8, 10]), ([0, 1, 2, 3], [6, 7, 8, 10]), ([], [6, 7, 8, 10]), ([0, 1, 2, 3, 4, 5], [7, 8, 10]), ([0, 1, 2, 3, 4, 5, 6], [8, 10]), ([0, 1, 2, 3, 4, 5, 6, 7], [10]), ([], [10]), ([0, 1, 2, 3, 4, 5, 6, 7, 8, 9], [])] (fun L ac w => ∃ (g22 : Nat), St 53 w0 [(35, L 0, W r11), (36, L 1, W r8), (37, L 2, W r15), (38, L 3, W r17), (39, L 4, W r18), (40, L 5, W r5), (41, L 6, W r19), (42, L 7, W r20), (43, L 8, W r21), (7, L 9, .pointer (some ⟨g22, 0, none⟩)), (1, true, .pointer (some ⟨g1, 0, none⟩)), (2, true, .pointer (some ⟨g2, 0, none⟩)), (3, true, .pointer (some ⟨g6, 0, none⟩)), (4, true, .pointer (some ⟨g9, 0, none⟩)), (5, true, .pointer (some ⟨g12, 0, none⟩)), (6, true, .pointer (some ⟨g16, 0, none⟩))] [(true, g1, 72, (TVl x y z)), (true, g2, 72, (TVl 0 0 0)), (true, g6, 24, (Wl r5)), (true, g9, 24, (Wl r8)), (true, g12, 24, (Wl r11)), (true, g16, 24, (Wl r15)), (L 9, g22, 24, (cond (L 10) (Wl r21) [.int .u64 0, .int .u64 0, .int .u64 0, .int .u64 0]))] ac w) (by kernel_rfl) (by kernel_rfl) ?_ ?_ ?_
      · exact ⟨0, hs.drew.skip.skip.skip.skip.skip.skip.skip.skip.skip.skip.pad⟩
      · refine ⟨?_, ?_, ?_, ?_, ?_, ?_, ?_, ?_, ?_, ?_, ?_, trivial⟩
        · intro L ac w hJ
          obtain ⟨g22, hs⟩ := hJ
          refine wpO_plain rfl (op_load hs (some 0) 4 (v := W r11) rfl rfl rfl rfl Try.isAgg24 Try.sizeOf24 rfl rfl fun ac hs => ?_)
          exact ⟨g22, hs⟩
        · intro L ac w hJ
          obtain ⟨g22, hs⟩ := hJ
          refine wpO_plain rfl (op_load hs (some 1) 3 (v := W r8) rfl rfl rfl rfl Try.isAgg24 Try.sizeOf24 rfl rfl fun ac hs => ?_)
          exact ⟨g22, hs⟩
        · intro L ac w hJ
          obtain ⟨g22, hs⟩ := hJ
          refine wpO_plain rfl (op_load hs (some 2) 5 (v := W r15) rfl rfl rfl rfl Try.isAgg24 Try.sizeOf24 rfl rfl fun ac hs => ?_)
          exact ⟨g22, hs⟩
        · intro L ac w hJ
          obtain ⟨g22, hs⟩ := hJ
          refine wpO_plain rfl (op_call (F := 65) hs (some 3) (v := W r17) rfl rfl rfl rfl (Try.call65 _) (fsub_c r8 r15 r17 lr8 lr15 hr17) rfl fun ac w hs => ?_)
          exact ⟨g22, hs⟩
        · intro L ac w hJ
          obtain ⟨g22, hs⟩ := hJ
          refine wpO_plain rfl (op_call (F := 58) hs (some 4) (v := W r18) rfl rfl rfl rfl (Try.call58 _) (fmul_c r11 r17 r18 lr11 lr17 hr18) rfl fun ac w hs => ?_)
          exact ⟨g22, hs⟩
        · intro L ac w hJ
          obtain ⟨g22, hs⟩ := hJ
          refine wpO_plain rfl (op_load hs (some 5) 2 (v := W r5) rfl rfl rfl rfl Try.isAgg24 Try.sizeOf24 rfl rfl fun ac hs => ?_)
          exact ⟨g22, hs⟩
        · intro L ac w hJ
          obtain ⟨g22, hs⟩ := hJ
          refine wpO_plain rfl (op_call (F := 62) hs (some 6) (v := W r19) rfl rfl rfl rfl (Try.call62 _) (sq_c r5 r19 lr5 hr19) rfl fun ac w hs => ?_)
          exact ⟨g22, hs⟩
        · intro L ac w hJ
          obtain ⟨g22, hs⟩ := hJ
          refine wpO_plain rfl (op_call (F := 66) hs (some 7) (v := W r20) rfl rfl rfl rfl (Try.call66 _) (times_c 8 r19 r20 (by decide) lr19 hr20) rfl fun ac w hs => ?_)
          exact ⟨g22, hs⟩
        · intro L ac w hJ
          obtain ⟨g22, hs⟩ := hJ
          refine wpO_plain rfl (op_call (F := 65) hs (some 8) (v := W r21) rfl rfl rfl rfl (Try.call65 _) (fsub_c r18 r20 r21 lr18 lr20 hr21) rfl fun ac w hs => ?_)
          exact ⟨g22, hs⟩
        · intro L ac w hJ
          obtain ⟨g22, hs⟩ := hJ
          refine wpO_plain rfl (op_alloc hs (some 9) (some 6) (cs := [.int .u64 0, .int .u64 0, .int .u64 0, .int .u64 0]) rfl rfl Try.zeroValue24 (by kernel_rfl) rfl rfl fun g22 ac w hs => ?_)
          exact ⟨g22, hs⟩
        · intro L ac w hJ
          obtain ⟨g22, hs⟩ := hJ
          refine wpO_plain rfl (op_store hs 6 (vs := (Wl r21)) rfl rfl rfl rfl rfl Try.sizeOf24 rfl rfl rfl rfl rfl fun w hs => ?_)
          exact ⟨g22, hs⟩
      intro ac w hJ
      obtain ⟨g22, hs⟩ := hJ
      replace hs : St 53 w0 [(35, true, W r11), (36, true, W r8), (37, true, W r15), (38, true, W r17), (39, true, W r18), (40, true, W r5), (41, true, W r19), (42, true, W r20), (43, true, W r21), (7, true, .pointer (some ⟨g22, 0, none⟩)), (1, true, .pointer (some ⟨g1, 0, none⟩)), (2, true, .pointer (some ⟨g2, 0, none⟩)), (3, true, .pointer (some ⟨g6, 0, none⟩)), (4, true, .pointer (some ⟨g9, 0, none⟩)), (5, true, .pointer (some ⟨g12, 0, none⟩)), (6, true, .pointer (some ⟨g16, 0, none⟩))] [(true, g1, 72, (TVl x y z)), (true, g2, 72, (TVl 0 0 0)), (true, g6, 24, (Wl r5)), (true, g9, 24, (Wl r8)), (true, g12, 24, (Wl r11)), (true, g16, 24, (Wl r15)), (true, g22, 24, (Wl r21))] ac w := hs
      refine then_n ?_
      refine wp_seq ?_
      replace hs : St 53 w0 [(1, true, .pointer (some ⟨g1, 0, none⟩)), (2, true, .pointer (some ⟨g2, 0, none⟩)), (6, true, .pointer (some ⟨g16, 0, none⟩)), (7, true, .pointer (some ⟨g22, 0, none⟩))] [(true, g1, 72, (TVl x y z)), (true, g2, 72, (TVl 0 0 0)), (true, g6, 24, (Wl r5)), (true, g9, 24, (Wl r8)), (true, g12, 24, (Wl r11)), (true, g16, 24, (Wl r15)), (true, g22, 24, (Wl r21))] ac _ := hs.re ⟨rfl, rfl, rfl, rfl, trivial⟩
      obtain ⟨r23, hr23, lr23⟩ : ∃ z0, y * z % Pf = z0 ∧ z0 < 2 ^ 256 := ⟨_, rfl, modP_lt _⟩
      obtain ⟨r24, hr24, lr24⟩ : ∃ z0, 2 * r23 % Pf = z0 ∧ z0 < 2 ^ 256 := ⟨_, rfl, modP_lt _⟩
      refine region_inv [([], [8, 9]), ([], [8, 9]), ([], [3, 6, 7, 8, 9]), ([2], [6, 7, 8, 9]), ([], [5, 6, 7, 8, 9]), ([4], [6, 7, 8, 9]), ([2, 3, 4, 5], [7, 8, 9]), ([2, 3, 4, 5, 6], [8, 9]), ([0, 1, 2, 3, 4, 5, 6, 7], [9]), ([0, 1, 2, 3, 4, 5, 6, 7, 8], [])] (fun L ac w => St 53 w0 [(44, L 0, W r15), (45, L 1, W r21), (46, L 2, .pointer (some ⟨g1, 4, none⟩)), (47, L 3, W y), (48, L 4, .pointer (some ⟨g1, 8, none⟩)), (49, L 5, W z), (50, L 6, W r23), (51, L 7, W r24), (52, L 8, TV r15 r21 r24), (1, true, .pointer (some ⟨g1, 0, none⟩)), (2, true, .pointer (some ⟨g2, 0, none⟩)), (6, true, .pointer (some ⟨g16, 0, none⟩)), (7, true, .pointer (some ⟨g22, 0, none⟩))] [(true, g1, 72, (TVl x y z)), (true, g2, 72, (cond (L 9) (TVl r15 r21 r24) (TVl 0 0 0))), (true, g6, 24, (Wl r5)), (true, g9, 24, (Wl r8)), (true, g12, 24, (Wl r11)), (true, g16, 24, (Wl r15)), (true, g22, 24, (Wl r21))] ac w) (by kernel_rfl) (by kernel_rfl) ?_ ?_ ?_
      · exact hs.drew.skip.skip.skip.skip.skip.skip.skip.skip.skip
      · refine ⟨?_, ?_, ?_, ?_, ?_, ?_, ?_, ?_, ?_, ?_, trivial⟩
        · intro L ac w hJ
          have hs := hJ
          refine wpO_plain rfl (op_load hs (some 0) 5 (v := W r15) rfl rfl rfl rfl Try.isAgg24 Try.sizeOf24 rfl rfl fun ac hs => ?_)
          exact hs
        · intro L ac w hJ
          have hs := hJ
          refine wpO_plain rfl (op_load hs (some 1) 6 (v := W r21) rfl rfl rfl rfl Try.isAgg24 Try.sizeOf24 rfl rfl fun ac hs => ?_)
          exact hs
        · intro L ac w hJ
          have hs := hJ
          refine wpO_plain rfl (op_fieldA hs (some 2) rfl rfl rfl Try.underlying72 rfl Try.sizeOf24 (by decide) rfl fun ac hs => ?_)
          exact hs
        · intro L ac w hJ
          have hs := hJ
          refine wpO_plain rfl (op_load hs (some 3) 0 (v := W y) rfl rfl rfl rfl Try.isAgg24 Try.sizeOf24 rfl rfl fun ac hs => ?_)
          exact hs
        · intro L ac w hJ
          have hs := hJ
          refine wpO_plain rfl (op_fieldA hs (some 4) rfl rfl rfl Try.underlying72 rfl Try.sizeOf24 (by decide) rfl fun ac hs => ?_)
          exact hs
        · intro L ac w hJ
          have hs := hJ
          refine wpO_plain rfl (op_load hs (some 5) 0 (v := W z) rfl rfl rfl rfl Try.isAgg24 Try.sizeOf24 rfl rfl fun ac hs => ?_)
          exact hs
        · intro L ac w hJ
          have hs := hJ
          refine wpO_plain rfl (op_call (F := 58) hs (some 6) (v := W r23) rfl rfl rfl rfl (Try.call58 _) (fmul_c y z r23 hy hz hr23) rfl fun ac w hs => ?_)
          exact hs
        · intro L ac w hJ
          have hs := hJ
          refine wpO_plain rfl (op_call (F := 66) hs (some 7) (v := W r24) rfl rfl rfl rfl (Try.call66 _) (times_c 2 r23 r24 (by decide) lr23 hr24) rfl fun ac w hs => ?_)
          exact hs
        · intro L ac w hJ
          have hs := hJ
          refine wpO_plain rfl (op_build hs (some 8) (qs := [(0, W r15), (1, W r21), (2, W r24)]) (v := TV r15 r21 r24) rfl rfl rfl rfl (fun _ => by kernel_rfl) rfl fun ac hs => ?_)
          exact hs
        · intro L ac w hJ
          have hs := hJ
          refine wpO_plain rfl (op_store hs 1 (vs := (TVl r15 r21 r24)) rfl rfl rfl rfl rfl Try.sizeOf72 rfl rfl rfl rfl rfl fun w hs => ?_)
          exact hs
      intro ac w hJ
      replace hs : St 53 w0 [(44, true, W r15), (45, true, W r21), (46, true, .pointer (some ⟨g1, 4, none⟩)), (47, true, W y), (48, true, .pointer (some ⟨g1, 8, none⟩)), (49, true, W z), (50, true, W r23), (51, true, W r24), (52, true, TV r15 r21 r24), (1, true, .pointer (some ⟨g1, 0, none⟩)), (2, true, .pointer (some ⟨g2, 0, none⟩)), (6, true, .pointer (some ⟨g16, 0, none⟩)), (7, true, .pointer (some ⟨g22, 0, none⟩))] [(true, g1, 72, (TVl x y z)), (true, g2, 72, (TVl r15 r21 r24)), (true, g6, 24, (Wl r5)), (true, g9, 24, (Wl r8)), (true, g12, 24, (Wl r11)), (true, g16, 24, (Wl r15)), (true, g22, 24, (Wl r21))] ac w := hJ
      refine then_n ?_
      refine wp_ret ?_
      exact bodyPost_ret (res1 rfl (rv_c hs 1 (v := TV r15 r21 r24) rfl rfl Try.isAgg72 Try.sizeOf72 rfl)) hs.defers ⟨by obtain ⟨rfl, rfl, rfl⟩ := tri3 ((dJ_no hq3 hq4).symm.trans hE); subst hr5 hr7 hr8 hr10 hr11 hr13 hr14 hr15 hr17 hr18 hr19 hr20 hr21 hr23 hr24; rfl, (hs.bel rfl)⟩
theorem wplus_c (x1 y1 z1 x2 y2 z2 X Y Z : Nat) (a1 : x1 < 2 ^ 256) (a2 : y1 < 2 ^ 256) (a3 : z1 < 2 ^ 256) (b1 : x2 < 2 ^ 256) (b2 : y2 < 2 ^ 256) (b3 : z2 < 2 ^ 256) (hE : sJ x1 y1 z1 x2 y2 z2 = (X, Y, Z)) (w0 : World) : Calls Try.prog 43 #[TV x1 y1 z1, TV x2 y2 z2] w0 fun e w' => e = .returned (TV X Y Z) ∧ Below w0.heap.size w0 w' := by
  refine enter (n := 104) (args := [TV x1 y1 z1, TV x2 y2 z2]) Try.func43 rfl rfl (Nat.le_of_ble_eq_true rfl) fun ac hs => ?_
  refine wp_seq ?_
  refine wp_region_lit ?_
  refine lstep (wpO_plain rfl (op_box hs none none (cs := (TVl x1 y1 z1)) rfl rfl rfl rfl rfl rfl fun g1 ac w hs => ?_))
  refine lstep (wpO_plain rfl (op_box hs none none (cs := (TVl x2 y2 z2)) rfl rfl rfl rfl rfl rfl fun g2 ac w hs => ?_))
  refine lstep (wpO_plain rfl (op_alloc hs none none (cs := (TVl 0 0 0)) rfl rfl Try.zeroValue72 (by kernel_rfl) rfl rfl fun g3 ac w hs => ?_))
  refine wpList_nil ?_
  refine then_n ?_
  refine wp_seq ?_
  refine wp_block ?_
  refine wp_seq ?_
  refine wp_region_lit ?_
  refine lstep (wpO_plain rfl (op_load hs none 0 (v := TV x1 y1 z1) rfl rfl rfl rfl Try.isAgg72 Try.sizeOf72 rfl rfl fun ac hs => ?_))
  refine lstep (wpO_plain rfl (op_call (F := 64) hs none (v := .bool (decide (z1 = 0))) rfl rfl rfl rfl (Try.call64 _) (isz_c x1 y1 z1 _ a1 a2 a3 rfl) rfl fun ac w hs => ?_))
  refine lstep (wpO_plain rfl (op_assign hs none rfl rfl rfl rfl fun ac hs => ?_))
  refine wpList_nil ?_
  refine then_n ?_
  refine wp_cond_split (hs.ev rfl) (fun hc => ?_) (fun hc => ?_)
  · skip
    have hp4 := of_decide_eq_true hc
    refine wp_seq ?_
    replace hs : St 104 w0 [(2, true, .pointer (some ⟨g1, 0, none⟩)), (3, true, .pointer (some ⟨g2, 0, none⟩)), (4, true, .pointer (some ⟨g3, 0, none⟩))] [(true, g1, 72, (TVl x1 y1 z1)), (true, g2, 72, (TVl x2 y2 z2)), (true, g3, 72, (TVl 0 0 0))] ac _ := hs.re ⟨rfl, rfl, rfl, trivial⟩
    refine wp_region_lit ?_
    refine lstep (wpO_plain rfl (op_load hs none 1 (v := TV x2 y2 z2) rfl rfl rfl rfl Try.isAgg72 Try.sizeOf72 rfl rfl fun ac hs => ?_))
    refine lstep (wpO_plain rfl (op_store hs 2 (vs := (TVl x2 y2 z2)) rfl rfl rfl rfl rfl Try.sizeOf72 rfl rfl rfl rfl rfl fun w hs => ?_))
    refine wpList_nil ?_
    refine then_n ?_
    refine wp_ret ?_
    refine blk_r ?_
    refine then_r ?_
    exact bodyPost_ret (res1 rfl (rv_c hs 2 (v := TV x2 y2 z2) rfl rfl Try.isAgg72 Try.sizeOf72 rfl)) hs.defers ⟨by obtain ⟨rfl, rfl, rfl⟩ := tri3 ((sJ_1 hp4).symm.trans hE); rfl, (hs.bel rfl)⟩
  · skip
    have hp5 := of_decide_eq_false hc
    refine wp_seq ?_
    replace hs : St 104 w0 [(2, true, .pointer (some ⟨g1, 0, none⟩)), (3, true, .pointer (some ⟨g2, 0, none⟩)), (4, true, .pointer (some ⟨g3, 0, none⟩))] [(true, g1, 72, (TVl x1 y1 z1)), (true, g2, 72, (TVl x2 y2 z2)), (true, g3, 72, (TVl 0 0 0))] ac _ := hs.re ⟨rfl, rfl, rfl, trivial⟩
    refine wp_region_lit ?_
    refine lstep (wpO_plain rfl (op_load hs none 1 (v := TV x2 y2 z2) rfl rfl rfl rfl Try.isAgg72 Try.sizeOf72 rfl rfl fun ac hs => ?_))
    refine lstep (wpO_plain rfl (op_call (F := 64) hs none (v := .bool (decide (z2 = 0))) rfl rfl rfl rfl (Try.call64 _) (isz_c x2 y2 z2 _ b1 b2 b3 rfl) rfl fun ac w hs => ?_))
    refine lstep (wpO_plain rfl (op_assign hs none rfl rfl rfl rfl fun ac hs => ?_))
    refine wpList_nil ?_
    refine then_n ?_
    refine wp_cond_split (hs.ev rfl) (fun hc => ?_) (fun hc => ?_)
    · skip
      have hp6 := of_decide_eq_true hc
      refine wp_seq ?_
      refine wp_region_lit ?_
      refine lstep (wpO_plain rfl (op_load hs none 0 (v := TV x1 y1 z1) rfl rfl rfl rfl Try.isAgg72 Try.sizeOf72 rfl rfl fun ac hs => ?_))
      refine lstep (wpO_plain rfl (op_store hs 2 (vs := (TVl x1 y1 z1)) rfl rfl rfl rfl rfl Try.sizeOf72 rfl rfl rfl rfl rfl fun w hs => ?_))
      refine wpList_nil ?_
      refine then_n ?_
      refine wp_ret ?_
      refine blk_r ?_
      refine then_r ?_
      exact bodyPost_ret (res1 rfl (rv_c hs 2 (v := TV x1 y1 z1) rfl rfl Try.isAgg72 Try.sizeOf72 rfl)) hs.defers ⟨by obtain ⟨rfl, rfl, rfl⟩ := tri3 ((sJ_2 hp5 hp6).symm.trans hE); rfl, (hs.bel rfl)⟩
    · skip
      have hp7 := of_decide_eq_false hc
      refine wp_skip ?_
      refine blk_n ?_
      refine then_n ?_
      refine wp_seq ?_
      replace hs : St 104 w0 [(2, true, .pointer (some ⟨g1, 0, none⟩)), (3, true, .pointer (some ⟨g2, 0, none⟩)), (4, true, .pointer (some ⟨g3, 0, none⟩))] [(true, g1, 72, (TVl x1 y1 z1)), (true, g2, 72, (TVl x2 y2 z2)), (true, g3, 72, (TVl 0 0 0))] ac _ := hs.re ⟨rfl, rfl, rfl, trivial⟩
      obtain ⟨r8, hr8, lr8⟩ : ∃ z0, z1 * z1 % Pf = z0 ∧ z0 < 2 ^ 256 := ⟨_, rfl, modP_lt _⟩
      obtain ⟨r9, hr9, lr9⟩ : ∃ z0, z2 * z2 % Pf = z0 ∧ z0 < 2 ^ 256 := ⟨_, rfl, modP_lt _⟩
      refine region_inv [([], [1, 2, 5, 8, 9]), ([0], [2, 5, 8, 9]), ([0, 1], [5, 8, 9]), ([], [4, 5, 8, 9]), ([3], [5, 8, 9]), ([0, 1, 2, 3, 4], [8, 9]), ([], [8, 9]), ([], [8, 9]), ([0, 1, 2, 3, 4, 5, 6, 7], [9]), ([0, 1, 2, 3, 4, 5, 6, 7, 8], [])] (fun L ac w => ∃ (g10 : Nat) (g11 : Nat), St 104 w0 [(26, L 0, .pointer (some ⟨g1, 8, none⟩)), (27, L 1, W z1), (28, L 2, W r8), (29, L 3, .pointer (some ⟨g2, 8, none⟩)), (30, L 4, W z2), (31, L 5, W r9), (5, L 6, .pointer (some ⟨g10, 0, none⟩)), (6, L 7, .pointer (some ⟨g11, 0, none⟩)), (2, true, .pointer (some ⟨g1, 0, none⟩)), (3, true, .pointer (some ⟨g2, 0, none⟩)), (4, true, .pointer (some ⟨g3, 0, none⟩))] [(true, g1, 72, (TVl x1 y1 z1)), (true, g2, 72, (TVl x2 y2 z2)), (true, g3, 72, (TVl 0 0 0)), (L 6, g10, 24, (cond (L 8) (Wl r8) [.int .u64 0, .int .u64 0, .int .u64 0, .int .u64 0])), (L 7, g11, 24, (cond (L 9) (Wl r9) [.int .u64 0, .int .u64 0, .int .u64 0, .int .u64 0]))] ac w) (by kernel_rfl) (by kernel_rfl) ?_ ?_ ?_
      · exact ⟨0, 0, hs.drew.skip.skip.skip.skip.skip.skip.skip.skip.pad.pad⟩
      · refine ⟨?_, ?_, ?_, ?_, ?_, ?_, ?_, ?_, ?_, ?_, trivial⟩
        · intro L ac w hJ
          obtain ⟨g10, g11, hs⟩ := hJ
          refine wpO_plain rfl (op_fieldA hs (some 0) rfl rfl rfl Try.underlying72 rfl Try.sizeOf24 (by decide) rfl fun ac hs => ?_)
          exact ⟨g10, g11, hs⟩
        · intro L ac w hJ
          obtain ⟨g10, g11, hs⟩ := hJ
          refine wpO_plain rfl (op_load hs (some 1) 0 (v := W z1) rfl rfl rfl rfl Try.isAgg24 Try.sizeOf24 rfl rfl fun ac hs => ?_)
          exact ⟨g10, g11, hs⟩
        · intro L ac w hJ
          obtain ⟨g10, g11, hs⟩ := hJ
          refine wpO_plain rfl (op_call (F := 62) hs (some 2) (v := W r8) rfl rfl rfl rfl (Try.call62 _) (sq_c z1 r8 a3 hr8) rfl fun ac w hs => ?_)
          exact ⟨g10, g11, hs⟩
        · intro L ac w hJ
          obtain ⟨g10, g11, hs⟩ := hJ
          refine wpO_plain rfl (op_fieldA hs (some 3) rfl rfl rfl Try.underlying72 rfl Try.sizeOf24 (by decide) rfl fun ac hs => ?_)
          exact ⟨g10, g11, hs⟩
        · intro L ac w hJ
          obtain ⟨g10, g11, hs⟩ := hJ
          refine wpO_plain rfl (op_load hs (some 4) 1 (v := W z2) rfl rfl rfl rfl Try.isAgg24 Try.sizeOf24 rfl rfl fun ac hs => ?_)
          exact ⟨g10, g11, hs⟩
        · intro L ac w hJ
          obtain ⟨g10, g11, hs⟩ := hJ
          refine wpO_plain rfl (op_call (F := 62) hs (some 5) (v := W r9) rfl rfl rfl rfl (Try.call62 _) (sq_c z2 r9 b3 hr9) rfl fun ac w hs => ?_)
          exact ⟨g10, g11, hs⟩
        · intro L ac w hJ
          obtain ⟨g10, g11, hs⟩ := hJ
          refine wpO_plain rfl (op_alloc hs (some 6) (some 3) (cs := [.int .u64 0, .int .u64 0, .int .u64 0, .int .u64 0]) rfl rfl Try.zeroValue24 (by kernel_rfl) rfl rfl fun g10 ac w hs => ?_)
          exact ⟨g10, g11, hs⟩
        · intro L ac w hJ
          obtain ⟨g10, g11, hs⟩ := hJ
          refine wpO_plain rfl (op_alloc hs (some 7) (some 4) (cs := [.int .u64 0, .int .u64 0, .int .u64 0, .int .u64 0]) rfl rfl Try.zeroValue24 (by kernel_rfl) rfl rfl fun g11 ac w hs => ?_)
          exact ⟨g10, g11, hs⟩
        · intro L ac w hJ
          obtain ⟨g10, g11, hs⟩ := hJ
          refine wpO_plain rfl (op_store hs 3 (vs := (Wl r8)) rfl rfl rfl rfl rfl Try.sizeOf24 rfl rfl rfl rfl rfl fun w hs => ?_)
          exact ⟨g10, g11, hs⟩
        · intro L ac w hJ
          obtain ⟨g10, g11, hs⟩ := hJ
          refine wpO_plain rfl (op_store hs 4 (vs := (Wl r9)) rfl rfl rfl rfl rfl Try.sizeOf24 rfl rfl rfl rfl rfl fun w hs => ?_)
          exact ⟨g10, g11, hs⟩
      intro ac w hJ
      obtain ⟨g10, g11, hs⟩ := hJ
      replace hs : St 104 w0 [(26, true, .pointer (some ⟨g1, 8, none⟩)), (27, true, W z1), (28, true, W r8), (29, true, .pointer (some ⟨g2, 8, none⟩)), (30, true, W z2), (31, true, W r9), (5, true, .pointer (some ⟨g10, 0, none⟩)), (6, true, .pointer (some ⟨g11, 0, none⟩)), (2, true, .pointer (some ⟨g1, 0, none⟩)), (3, true, .pointer (some ⟨g2, 0, none⟩)), (4, true, .pointer (some ⟨g3, 0, none⟩))] [(true, g1, 72, (TVl x1 y1 z1)), (true, g2, 72, (TVl x2 y2 z2)), (true, g3, 72, (TVl 0 0 0)), (true, g10, 24, (Wl r8)), (true, g11, 24, (Wl r9))] ac w := hs
      refine then_n ?_
      refine wp_seq ?_
      replace hs : St 104 w0 [(2, true, .pointer (some ⟨g1, 0, none⟩)), (3, true, .pointer (some ⟨g2, 0, none⟩)), (4, true, .pointer (some ⟨g3, 0, none⟩)), (5, true, .pointer (some ⟨g10, 0, none⟩)), (6, true, .pointer (some ⟨g11, 0, none⟩))] [(true, g1, 72, (TVl x1 y1 z1)), (true, g2, 72, (TVl x2 y2 z2)), (true, g3, 72, (TVl 0 0 0)), (true, g10, 24, (Wl r8)), (true, g11, 24, (Wl r9))] ac _ := hs.re ⟨rfl, rfl, rfl, rfl, rfl, trivial⟩
      obtain ⟨r12, hr12, lr12⟩ : ∃ z0, x1 * r9 % Pf = z0 ∧ z0 < 2 ^ 256 := ⟨_, rfl, modP_lt _⟩
      obtain ⟨r13, hr13, lr13⟩ : ∃ z0, x2 * r8 % Pf = z0 ∧ z0 < 2 ^ 256 := ⟨_, rfl, modP_lt _⟩
      refine region_inv [([], [1, 3, 7, 10, 11]), ([0], [3, 7, 10, 11]), ([], [3, 7, 10, 11]), ([0, 1, 2], [7, 10, 11]), ([], [5, 7, 10, 11]), ([4], [7, 10, 11]), ([], [7, 10, 11]), ([0, 1, 2, 3, 4, 5, 6], [10, 11]), ([], [10, 11]), ([], [10, 11]), ([0, 1, 2, 3, 4, 5, 6, 7, 8, 9], [11]), ([0, 1, 2, 3, 4, 5, 6, 7, 8, 9, 10], [])] (fun L ac w => ∃ (g14 : Nat) (g15 : Nat), St 104 w0 [(32, L 0, .pointer (some ⟨g1, 0, none⟩)), (33, L 1, W x1), (34, L 2, W r9), (35, L 3, W r12), (36, L 4, .pointer (some ⟨g2, 0, none⟩)), (37, L 5, W x2), (38, L 6, W r8), (39, L 7, W r13), (7, L 8, .pointer (some ⟨g14, 0, none⟩)), (8, L 9, .pointer (some ⟨g15, 0, none⟩)), (2, true, .pointer (some ⟨g1, 0, none⟩)), (3, true, .pointer (some ⟨g2, 0, none⟩)), (4, true, .pointer (some ⟨g3, 0, none⟩)), (5, true, .pointer (some ⟨g10, 0, none⟩)), (6, true, .pointer (some ⟨g11, 0, none⟩))] [(true, g1, 72, (TVl x1 y1 z1)), (true, g2, 72, (TVl x2 y2 z2)), (true, g3, 72, (TVl 0 0 0)), (true, g10, 24, (Wl r8)), (true, g11, 24, (Wl r9)), (L 8, g14, 24, (cond (L 10) (Wl r12) [.int .u64 0, .int .u64 0, .int .u64 0, .int .u64 0])), (L 9, g15, 24, (cond (L 11) (Wl r13) [.int .u64 0, .int .u64 0, .int .u64 0, .int .u64 0]))] ac w) (by kernel_rfl) (by kernel_rfl) ?_ ?_ ?_
      · exact ⟨0, 0, hs.drew.skip.skip.skip.skip.skip.skip.skip.skip.skip.skip.pad.pad⟩
      · refine ⟨?_, ?_, ?_, ?_, ?_, ?_, ?_, ?_, ?_, ?_, ?_, ?_, trivial⟩
        · intro L ac w hJ
          obtain ⟨g14, g15, hs⟩ := hJ
          refine wpO_plain rfl (op_fieldA hs (some 0) rfl rfl rfl Try.underlying72 rfl Try.sizeOf24 (by decide) rfl fun ac hs => ?_)
          exact ⟨g14, g15, hs⟩
        · intro L ac w hJ
          obtain ⟨g14, g15, hs⟩ := hJ
          refine wpO_plain rfl (op_load hs (some 1) 0 (v := W x1) rfl rfl rfl rfl Try.isAgg24 Try.sizeOf24 rfl rfl fun ac hs => ?_)
          exact ⟨g14, g15, hs⟩
        · intro L ac w hJ
          obtain ⟨g14, g15, hs⟩ := hJ
          refine wpO_plain rfl (op_load hs (some 2) 4 (v := W r9) rfl rfl rfl rfl Try.isAgg24 Try.sizeOf24 rfl rfl fun ac hs => ?_)
          exact ⟨g14, g15, hs⟩
        · intro L ac w hJ
          obtain ⟨g14, g15, hs⟩ := hJ
          refine wpO_plain rfl (op_call (F := 58) hs (some 3) (v := W r12) rfl rfl rfl rfl (Try.call58 _) (fmul_c x1 r9 r12 a1 lr9 hr12) rfl fun ac w hs => ?_)
          exact ⟨g14, g15, hs⟩
        · intro L ac w hJ
          obtain ⟨g14, g15, hs⟩ := hJ
          refine wpO_plain rfl (op_fieldA hs (some 4) rfl rfl rfl Try.underlying72 rfl Try.sizeOf24 (by decide) rfl fun ac hs => ?_)
          exact ⟨g14, g15, hs⟩
        · intro L ac w hJ
          obtain ⟨g14, g15, hs⟩ := hJ
          refine wpO_plain rfl (op_load hs (some 5) 1 (v := W x2) rfl rfl rfl rfl Try.isAgg24 Try.sizeOf24 rfl rfl fun ac hs => ?_)
          exact ⟨g14, g15, hs⟩
        · intro L ac w hJ
          obtain ⟨g14, g15, hs⟩ := hJ
          refine wpO_plain rfl (op_load hs (some 6) 3 (v := W r8) rfl rfl rfl rfl Try.isAgg24 Try.sizeOf24 rfl rfl fun ac hs => ?_)
          exact ⟨g14, g15, hs⟩
        · intro L ac w hJ
          obtain ⟨g14, g15, hs⟩ := hJ
          refine wpO_plain rfl (op_call (F := 58) hs (some 7) (v := W r13) rfl rfl rfl rfl (Try.call58 _) (fmul_c x2 r8 r13 b1 lr8 hr13) rfl fun ac w hs => ?_)
          exact ⟨g14, g15, hs⟩
        · intro L ac w hJ
          obtain ⟨g14, g15, hs⟩ := hJ
          refine wpO_plain rfl (op_alloc hs (some 8) (some 5) (cs := [.int .u64 0, .int .u64 0, .int .u64 0, .int .u64 0]) rfl rfl Try.zeroValue24 (by kernel_rfl) rfl rfl fun g14 ac w hs => ?_)
          exact ⟨g14, g15, hs⟩
        · intro L ac w hJ
          obtain ⟨g14, g15, hs⟩ := hJ
          refine wpO_plain rfl (op_alloc hs (some 9) (some 6) (cs := [.int .u64 0, .int .u64 0, .int .u64 0, .int .u64 0]) rfl rfl Try.zeroValue24 (by kernel_rfl) rfl rfl fun g15 ac w hs => ?_)
          exact ⟨g14, g15, hs⟩
        · intro L ac w hJ
          obtain ⟨g14, g15, hs⟩ := hJ
          refine wpO_plain rfl (op_store hs 5 (vs := (Wl r12)) rfl rfl rfl rfl rfl Try.sizeOf24 rfl rfl rfl rfl rfl fun w hs => ?_)
          exact ⟨g14, g15, hs⟩
        · intro L ac w hJ
          obtain ⟨g14, g15, hs⟩ := hJ
          refine wpO_plain rfl (op_store hs 6 (vs := (Wl r13)) rfl rfl rfl rfl rfl Try.sizeOf24 rfl rfl rfl rfl rfl fun w hs => ?_)
          exact ⟨g14, g15, hs⟩
      intro ac w hJ
      obtain ⟨g14, g15, hs⟩ := hJ
      replace hs : St 104 w0 [(32, true, .pointer (some ⟨g1, 0, none⟩)), (33, true, W x1), (34, true, W r9), (35, true, W r12), (36, true, .pointer (some ⟨g2, 0, none⟩)), (37, true, W x2), (38, true, W r8), (39, true, W r13), (7, true, .pointer (some ⟨g14, 0, none⟩)), (8, true, .pointer (some ⟨g15, 0, none⟩)), (2, true, .pointer (some ⟨g1, 0, none⟩)), (3, true, .pointer (some ⟨g2, 0, none⟩)), (4, true, .pointer (some ⟨g3, 0, none⟩)), (5, true, .pointer (some ⟨g10, 0, none⟩)), (6, true, .pointer (some ⟨g11, 0, none⟩))] [(true, g1, 72, (TVl x1 y1 z1)), (true, g2, 72, (TVl x2 y2 z2)), (true, g3, 72, (TVl 0 0 0)), (true, g10, 24, (Wl r8)), (true, g11, 24, (Wl r9)), (true, g14, 24, (Wl r12)), (true, g15, 24, (Wl r13))] ac w := hs
      refine then_n ?_
      refine wp_seq ?_
      replace hs : St 104 w0 [(2, true, .pointer (some ⟨g1, 0, none⟩)), (3, true, .pointer (some ⟨g2, 0, none⟩)), (4, true, .pointer (some ⟨g3, 0, none⟩)), (5, true, .pointer (some ⟨g10, 0, none⟩)), (6, true, .pointer (some ⟨g11, 0, none⟩)), (7, true, .pointer (some ⟨g14, 0, none⟩)), (8, true, .pointer (some ⟨g15, 0, none⟩))] [(true, g1, 72, (TVl x1 y1 z1)), (true, g2, 72, (TVl x2 y2 z2)), (true, g3, 72, (TVl 0 0 0)), (true, g10, 24, (Wl r8)), (true, g11, 24, (Wl r9)), (true, g14, 24, (Wl r12)), (true, g15, 24, (Wl r13))] ac _ := hs.re ⟨rfl, rfl, rfl, rfl, rfl, rfl, rfl, trivial⟩
      obtain ⟨r16, hr16, lr16⟩ : ∃ z0, r9 * z2 % Pf = z0 ∧ z0 < 2 ^ 256 := ⟨_, rfl, modP_lt _⟩
      obtain ⟨r17, hr17, lr17⟩ : ∃ z0, y1 * r16 % Pf = z0 ∧ z0 < 2 ^ 256 := ⟨_, rfl, modP_lt _⟩
      obtain ⟨r18, hr18, lr18⟩ : ∃ z0, r8 * z1 % Pf = z0 ∧ z0 < 2 ^ 256 := ⟨_, rfl, modP_lt _⟩
      obtain ⟨r19, hr19, lr19⟩ : ∃ z0, y2 * r18 % Pf = z0 ∧ z0 < 2 ^ 256 := ⟨_, rfl, modP_lt _⟩
      refine region_inv [([], [1, 6, 12, 13, 16, 17]), ([0], [6, 12, 13, 16, 17]), ([], [5, 6, 12, 13, 16, 17]), ([], [4, 5, 6, 12, 13, 16, 17]), ([3], [5, 6, 12, 13, 16, 17]), ([2, 3, 4], [6, 12, 13, 16, 17]), ([0, 1, 2, 3, 4, 5], [12, 13, 16, 17]), ([], [8, 13, 16, 17]), ([7], [13, 16, 17]), ([], [12, 13, 16, 17]), ([], [11, 12, 13, 16, 17]), ([10], [12, 13, 16, 17]), ([0, 1, 2, 3, 4, 5, 6, 9, 10, 11], [13, 16, 17]), ([0, 1, 2, 3, 4, 5, 6, 7, 8, 9, 10, 11, 12], [16, 17]), ([], [16, 17]), ([], [16, 17]), ([0, 1, 2, 3, 4, 5, 6, 7, 8, 9, 10, 11, 12, 13, 14, 15], [17]), ([0, 1, 2, 3, 4, 5, 6, 7, 8, 9, 10, 11, 12, 13, 14, 15, 16], [])] (fun L ac w => ∃ (g20 : Nat) (g21 : Nat), St 104 w0 [(40, L 0, .pointer (some ⟨g1, 4, none⟩)), (41, L 1, W y1), (42, L 2, W r9), (43, L 3, .pointer (some ⟨g2, 8, none⟩)), (44, L 4, W z2), (45, L 5, W r16), (46, L 6, W r17), (47, L 7, .pointer (some ⟨g2, 4, none⟩)), (48, L 8, W y2), (49, L 9, W r8), (50, L 10, .pointer (some ⟨g1, 8, none⟩)), (51, L 11, W z1), (52, L 12, W r18), (53, L 13, W r19), (9, L 14, .pointer (some ⟨g20, 0, none⟩)), (10, L 15, .pointer (some ⟨g21, 0, none⟩)), (2, true, .pointer (some ⟨g1, 0, none⟩)), (3, true, .pointer (some ⟨g2, 0, none⟩)), (4, true, .pointer (some ⟨g3, 0, none⟩)), (5, true, .pointer (some ⟨g10, 0, none⟩)), (6, true, .pointer (some ⟨g11, 0, none⟩)), (7, true, .pointer (some ⟨g14, 0, none⟩)), (8, true, .pointer (some ⟨g15, 0, none⟩))] [(true, g1, 72, (TVl x1 y1 z1)), (true, g2, 72, (TVl x2 y2 z2)), (true, g3, 72, (TVl 0 0 0)), (true, g10, 24, (Wl r8)), (true, g11, 24, (Wl r9)), (true, g14, 24, (Wl r12)), (true, g15, 24, (Wl r13)), (L 14, g20, 24, (cond (L 16) (Wl r17) [.int .u64 0, .int .u64 0, .int .u64 0, .int .u64 0])), (L 15, g21, 24, (cond (L 17) (Wl r19) [.int .u64 0, .int .u64 0, .int .u64 0, .int .u64 0]))] ac w) (by kernel_rfl) (by kernel_rfl) ?_ ?_ ?_
      · exact ⟨0, 0, hs.drew.skip.skip.skip.skip.skip.skip.skip.skip.skip.skip.skip.skip.skip.skip.skip.skip.pad.pad⟩
      · refine ⟨?_, ?_, ?_, ?_, ?_, ?_, ?_, ?_, ?_, ?_, ?_, ?_, ?_, ?_, ?_, ?_, ?_, ?_, trivial⟩
        · intro L ac w hJ
          obtain ⟨g20, g21, hs⟩ := hJ
          refine wpO_plain rfl (op_fieldA hs (some 0) rfl rfl rfl Try.underlying72 rfl Try.sizeOf24 (by decide) rfl fun ac hs => ?_)
          exact ⟨g20, g21, hs⟩
        · intro L ac w hJ
          obtain ⟨g20, g21, hs⟩ := hJ
          refine wpO_plain rfl (op_load hs (some 1) 0 (v := W y1) rfl rfl rfl rfl Try.isAgg24 Try.sizeOf24 rfl rfl fun ac hs => ?_)
          exact ⟨g20, g21, hs⟩
        · intro L ac w hJ
          obtain ⟨g20, g21, hs⟩ := hJ
          refine wpO_plain rfl (op_load hs (some 2) 4 (v := W r9) rfl rfl rfl rfl Try.isAgg24 Try.sizeOf24 rfl rfl fun ac hs => ?_)
          exact ⟨g20, g21, hs⟩
        · intro L ac w hJ
          obtain ⟨g20, g21, hs⟩ := hJ
          refine wpO_plain rfl (op_fieldA hs (some 3) rfl rfl rfl Try.underlying72 rfl Try.sizeOf24 (by decide) rfl fun ac hs => ?_)
          exact ⟨g20, g21, hs⟩
        · intro L ac w hJ
          obtain ⟨g20, g21, hs⟩ := hJ
          refine wpO_plain rfl (op_load hs (some 4) 1 (v := W z2) rfl rfl rfl rfl Try.isAgg24 Try.sizeOf24 rfl rfl fun ac hs => ?_)
          exact ⟨g20, g21, hs⟩
        · intro L ac w hJ
          obtain ⟨g20, g21, hs⟩ := hJ
          refine wpO_plain rfl (op_call (F := 58) hs (some 5) (v := W r16) rfl rfl rfl rfl (Try.call58 _) (fmul_c r9 z2 r16 lr9 b3 hr16) rfl fun ac w hs => ?_)
          exact ⟨g20, g21, hs⟩
        · intro L ac w hJ
          obtain ⟨g20, g21, hs⟩ := hJ
          refine wpO_plain rfl (op_call (F := 58) hs (some 6) (v := W r17) rfl rfl rfl rfl (Try.call58 _) (fmul_c y1 r16 r17 a2 lr16 hr17) rfl fun ac w hs => ?_)
          exact ⟨g20, g21, hs⟩
        · intro L ac w hJ
          obtain ⟨g20, g21, hs⟩ := hJ
          refine wpO_plain rfl (op_fieldA hs (some 7) rfl rfl rfl Try.underlying72 rfl Try.sizeOf24 (by decide) rfl fun ac hs => ?_)
          exact ⟨g20, g21, hs⟩
        · intro L ac w hJ
          obtain ⟨g20, g21, hs⟩ := hJ
          refine wpO_plain rfl (op_load hs (some 8) 1 (v := W y2) rfl rfl rfl rfl Try.isAgg24 Try.sizeOf24 rfl rfl fun ac hs => ?_)
          exact ⟨g20, g21, hs⟩
        · intro L ac w hJ
          obtain ⟨g20, g21, hs⟩ := hJ
          refine wpO_plain rfl (op_load hs (some 9) 3 (v := W r8) rfl rfl rfl rfl Try.isAgg24 Try.sizeOf24 rfl rfl fun ac hs => ?_)
          exact ⟨g20, g21, hs⟩
        · intro L ac w hJ
          obtain ⟨g20, g21, hs⟩ := hJ
          refine wpO_plain rfl (op_fieldA hs (some 10) rfl rfl rfl Try.underlying72 rfl Try.sizeOf24 (by decide) rfl fun ac hs => ?_)
          exact ⟨g20, g21, hs⟩
        · intro L ac w hJ
          obtain ⟨g20, g21, hs⟩ := hJ
          refine wpO_plain rfl (op_load hs (some 11) 0 (v := W z1) rfl rfl rfl rfl Try.isAgg24 Try.sizeOf24 rfl rfl fun ac hs => ?_)
          exact ⟨g20, g21, hs⟩
        · intro L ac w hJ
          obtain ⟨g20, g21, hs⟩ := hJ
          refine wpO_plain rfl (op_call (F := 58) hs (some 12) (v := W r18) rfl rfl rfl rfl (Try.call58 _) (fmul_c r8 z1 r18 lr8 a3 hr18) rfl fun ac w hs => ?_)
          exact ⟨g20, g21, hs⟩
        · intro L ac w hJ
          obtain ⟨g20, g21, hs⟩ := hJ
          refine wpO_plain rfl (op_call (F := 58) hs (some 13) (v := W r19) rfl rfl rfl rfl (Try.call58 _) (fmul_c y2 r18 r19 b2 lr18 hr19) rfl fun ac w hs => ?_)
          exact ⟨g20, g21, hs⟩
        · intro L ac w hJ
          obtain ⟨g20, g21, hs⟩ := hJ
          refine wpO_plain rfl (op_alloc hs (some 14) (some 7) (cs := [.int .u64 0, .int .u64 0, .int .u64 0, .int .u64 0]) rfl rfl Try.zeroValue24 (by kernel_rfl) rfl rfl fun g20 ac w hs => ?_)
          exact ⟨g20, g21, hs⟩
        · intro L ac w hJ
          obtain ⟨g20, g21, hs⟩ := hJ
          refine wpO_plain rfl (op_alloc hs (some 15) (some 8) (cs := [.int .u64 0, .int .u64 0, .int .u64 0, .int .u64 0]) rfl rfl Try.zeroValue24 (by kernel_rfl) rfl rfl fun g21 ac w hs => ?_)
          exact ⟨g20, g21, hs⟩
        · intro L ac w hJ
          obtain ⟨g20, g21, hs⟩ := hJ
          refine wpO_plain rfl (op_store hs 7 (vs := (Wl r17)) rfl rfl rfl rfl rfl Try.sizeOf24 rfl rfl rfl rfl rfl fun w hs => ?_)
          exact ⟨g20, g21, hs⟩
        · intro L ac w hJ
          obtain ⟨g20, g21, hs⟩ := hJ
          refine wpO_plain rfl (op_store hs 8 (vs := (Wl r19)) rfl rfl rfl rfl rfl Try.sizeOf24 rfl rfl rfl rfl rfl fun w hs => ?_)
          exact ⟨g20, g21, hs⟩
      intro ac w hJ
      obtain ⟨g20, g21, hs⟩ := hJ
      replace hs : St 104 w0 [(40, true, .pointer (some ⟨g1, 4, none⟩)), (41, true, W y1), (42, true, W r9), (43, true, .pointer (some ⟨g2, 8, none⟩)), (44, true, W z2), (45, true, W r16), (46, true, W r17), (47, true, .pointer (some ⟨g2, 4, none⟩)), (48, true, W y2), (49, true, W r8), (50, true, .pointer (some ⟨g1, 8, none⟩)), (51, true, W z1), (52, true, W r18), (53, true, W r19), (9, true, .pointer (some ⟨g20, 0, none⟩)), (10, true, .pointer (some ⟨g21, 0, none⟩)), (2, true, .pointer (some ⟨g1, 0, none⟩)), (3, true, .pointer (some ⟨g2, 0, none⟩)), (4, true, .pointer (some ⟨g3, 0, none⟩)), (5, true, .pointer (some ⟨g10, 0, none⟩)), (6, true, .pointer (some ⟨g11, 0, none⟩)), (7, true, .pointer (some ⟨g14, 0, none⟩)), (8, true, .pointer (some ⟨g15, 0, none⟩))] [(true, g1, 72, (TVl x1 y1 z1)), (true, g2, 72, (TVl x2 y2 z2)), (true, g3, 72, (TVl 0 0 0)), (true, g10, 24, (Wl r8)), (true, g11, 24, (Wl r9)), (true, g14, 24, (Wl r12)), (true, g15, 24, (Wl r13)), (true, g20, 24, (Wl r17)), (true, g21, 24, (Wl r19))] ac w := hs
      refine then_n ?_
      refine wp_seq ?_
      replace hs : St 104 w0 [(2, true, .pointer (some ⟨g1, 0, none⟩)), (3, true, .pointer (some ⟨g2, 0, none⟩)), (4, true, .pointer (some ⟨g3, 0, none⟩)), (7, true, .pointer (some ⟨g14, 0, none⟩)), (8, true, .pointer (some ⟨g15, 0, none⟩)), (9, true, .pointer (some ⟨g20, 0, none⟩)), (10, true, .pointer (some ⟨g21, 0, none⟩))] [(true, g1, 72, (TVl x1 y1 z1)), (true, g2, 72, (TVl x2 y2 z2)), (true, g3, 72, (TVl 0 0 0)), (true, g10, 24, (Wl r8)), (true, g11, 24, (Wl r9)), (true, g14, 24, (Wl r12)), (true, g15, 24, (Wl r13)), (true, g20, 24, (Wl r17)), (true, g21, 24, (Wl r19))] ac _ := hs.re ⟨rfl, rfl, rfl, rfl, rfl, rfl, rfl, trivial⟩
      obtain ⟨r22, hr22, lr22⟩ : ∃ z0, fsub r13 r12 = z0 ∧ z0 < 2 ^ 256 := ⟨_, rfl, fsub_lt _ _⟩
      obtain ⟨r23, hr23, lr23⟩ : ∃ z0, fsub r19 r17 = z0 ∧ z0 < 2 ^ 256 := ⟨_, rfl, fsub_lt _ _⟩
      refine region_inv [([], [2, 5, 8, 9]), ([], [2, 5, 8, 9]), ([0, 1], [5, 8, 9]), ([], [5, 8, 9]), ([], [5, 8, 9]), ([0, 1, 2, 3, 4], [8, 9]), ([], [8, 9]), ([], [8, 9]), ([0, 1, 2, 3, 4, 5, 6, 7], [9]), ([0, 1, 2, 3, 4, 5, 6, 7, 8], [])] (fun L ac w => ∃ (g24 : Nat) (g25 : Nat), St 104 w0 [(54, L 0, W r13), (55, L 1, W r12), (56, L 2, W r22), (57, L 3, W r19), (58, L 4, W r17), (59, L 5, W r23), (11, L 6, .pointer (some ⟨g24, 0, none⟩)), (12, L 7, .pointer (some ⟨g25, 0, none⟩)), (2, true, .pointer (some ⟨g1, 0, none⟩)), (3, true, .pointer (some ⟨g2, 0, none⟩)), (4, true, .pointer (some ⟨g3, 0, none⟩)), (7, true, .pointer (some ⟨g14, 0, none⟩)), (8, true, .pointer (some ⟨g15, 0, none⟩)), (9, true, .pointer (some ⟨g20, 0, none⟩)), (10, true, .pointer (some ⟨g21, 0, none⟩))] [(true, g1, 72, (TVl x1 y1 z1)), (true, g2, 72, (TVl x2 y2 z2)), (true, g3, 72, (TVl 0 0 0)), (true, g10, 24, (Wl r8)), (true, g11, 24, (Wl r9)), (true, g14, 24, (Wl r12)), (true, g15, 24, (Wl r13)), (true, g20, 24, (Wl r17)), (true, g21, 24, (Wl r19)), (L 6, g24, 24, (cond (L 8) (Wl r22) [.int .u64 0, .int .u64 0, .int .u64 0, .int .u64 0])), (L 7, g25, 24, (cond (L 9) (Wl r23) [.int .u64 0, .int .u64 0, .int .u64 0, .int .u64 0]))] ac w) (by kernel_rfl) (by kernel_rfl) ?_ ?_ ?_
      · exact ⟨0, 0, hs.drew.skip.skip.skip.skip.skip.skip.skip.skip.pad.pad⟩
      · refine ⟨?_, ?_, ?_, ?_, ?_, ?_, ?_, ?_, ?_, ?_, trivial⟩
        · intro L ac w hJ
          obtain ⟨g24, g25, hs⟩ := hJ
          refine wpO_plain rfl (op_load hs (some 0) 6 (v := W r13) rfl rfl rfl rfl Try.isAgg24 Try.sizeOf24 rfl rfl fun ac hs => ?_)
          exact ⟨g24, g25, hs⟩
        · intro L ac w hJ
          obtain ⟨g24, g25, hs⟩ := hJ
          refine wpO_plain rfl (op_load hs (some 1) 5 (v := W r12) rfl rfl rfl rfl Try.isAgg24 Try.sizeOf24 rfl rfl fun ac hs => ?_)
          exact ⟨g24, g25, hs⟩
        · intro L ac w hJ
          obtain ⟨g24, g25, hs⟩ := hJ
          refine wpO_plain rfl (op_call (F := 65) hs (some 2) (v := W r22) rfl rfl rfl rfl (Try.call65 _) (fsub_c r13 r12 r22 lr13 lr12 hr22) rfl fun ac w hs => ?_)
          exact ⟨g24, g25, hs⟩
        · intro L ac w hJ
          obtain ⟨g24, g25, hs⟩ := hJ
          refine wpO_plain rfl (op_load hs (some 3) 8 (v := W r19) rfl rfl rfl rfl Try.isAgg24 Try.sizeOf24 rfl rfl fun ac hs => ?_)
          exact ⟨g24, g25, hs⟩
        · intro L ac w hJ
          obtain ⟨g24, g25, hs⟩ := hJ
          refine wpO_plain rfl (op_load hs (some 4) 7 (v := W r17) rfl rfl rfl rfl Try.isAgg24 Try.sizeOf24 rfl rfl fun ac hs => ?_)
          exact ⟨g24, g25, hs⟩
        · intro L ac w hJ
          obtain ⟨g24, g25, hs⟩ := hJ
          refine wpO_plain rfl (op_call (F := 65) hs (some 5) (v := W r23) rfl rfl rfl rfl (Try.call65 _) (fsub_c r19 r17 r23 lr19 lr17 hr23) rfl fun ac w hs => ?_)
          exact ⟨g24, g25, hs⟩
        · intro L ac w hJ
          obtain ⟨g24, g25, hs⟩ := hJ
          refine wpO_plain rfl (op_alloc hs (some 6) (some 9) (cs := [.int .u64 0, .int .u64 0, .int .u64 0, .int .u64 0]) rfl rfl Try.zeroValue24 (by kernel_rfl) rfl rfl fun g24 ac w hs => ?_)
          exact ⟨g24, g25, hs⟩
        · intro L ac w hJ
          obtain ⟨g24, g25, hs⟩ := hJ
          refine wpO_plain rfl (op_alloc hs (some 7) (some 10) (cs := [.int .u64 0, .int .u64 0, .int .u64 0, .int .u64 0]) rfl rfl Try.zeroValue24 (by kernel_rfl) rfl rfl fun g25 ac w hs => ?_)
          exact ⟨g24, g25, hs⟩
        · intro L ac w hJ
          obtain ⟨g24, g25, hs⟩ := hJ
          refine wpO_plain rfl (op_store hs 9 (vs := (Wl r22)) rfl rfl rfl rfl rfl Try.sizeOf24 rfl rfl rfl rfl rfl fun w hs => ?_)
          exact ⟨g24, g25, hs⟩
        · intro L ac w hJ
          obtain ⟨g24, g25, hs⟩ := hJ
          refine wpO_plain rfl (op_store hs 10 (vs := (Wl r23)) rfl rfl rfl rfl rfl Try.sizeOf24 rfl rfl rfl rfl rfl fun w hs => ?_)
          exact ⟨g24, g25, hs⟩
      intro ac w hJ
      obtain ⟨g24, g25, hs⟩ := hJ
      replace hs : St 104 w0 [(54, true, W r13), (55, true, W r12), (56, true, W r22), (57, true, W r19), (58, true, W r17), (59, true, W r23), (11, true, .pointer (some ⟨g24, 0, none⟩)), (12, true, .pointer (some ⟨g25, 0, none⟩)), (2, true, .pointer (some ⟨g1, 0, none⟩)), (3, true, .pointer (some ⟨g2, 0, none⟩)), (4, true, .pointer (some ⟨g3, 0, none⟩)), (7, true, .pointer (some ⟨g14, 0, none⟩)), (8, true, .pointer (some ⟨g15, 0, none⟩)), (9, true, .pointer (some ⟨g20, 0, none⟩)), (10, true, .pointer (some ⟨g21, 0, none⟩))] [(true, g1, 72, (TVl x1 y1 z1)), (true, g2, 72, (TVl x2 y2 z2)), (true, g3, 72, (TVl 0 0 0)), (true, g10, 24, (Wl r8)), (true, g11, 24, (Wl r9)), (true, g14, 24, (Wl r12)), (true, g15, 24, (Wl r13)), (true, g20, 24, (Wl r17)), (true, g21, 24, (Wl r19)), (true, g24, 24, (Wl r22)), (true, g25, 24, (Wl r23))] ac w := hs
      refine then_n ?_
      refine wp_seq ?_
      refine wp_seq ?_
      refine wp_region_lit ?_
      refine lstep (wpO_plain rfl (op_load hs none 9 (v := W r22) rfl rfl rfl rfl Try.isAgg24 Try.sizeOf24 rfl rfl fun ac hs => ?_))
      refine lstep (wpO_plain rfl (op_build hs none (qs := []) (v := .agg #[.int .u64 0, .int .u64 0, .int .u64 0, .int .u64 0]) rfl rfl rfl rfl (fun _ => by kernel_rfl) rfl fun ac hs => ?_))
      refine lstep (wpO_plain rfl (op_bin hs none (v := .bool (decide (r22 = 0))) rfl rfl rfl rfl (fun w => run_eqGuard_agg w .eql 24 _ _ _ _ Try.eqGuardType24) (eqlW r22 0 lr22 (by decide) _ rfl) rfl fun ac hs => ?_))
      refine wpList_nil ?_
      refine then_n ?_
      refine wp_cond_split (hs.ev rfl) (fun hc => ?_) (fun hc => ?_)
      · skip
        have hp26 := of_decide_eq_true hc
        refine wp_seq ?_
        refine wp_seq ?_
        refine wp_region_lit ?_
        refine lstep (wpO_plain rfl (op_load hs none 10 (v := W r23) rfl rfl rfl rfl Try.isAgg24 Try.sizeOf24 rfl rfl fun ac hs => ?_))
        refine lstep (wpO_plain rfl (op_build hs none (qs := []) (v := .agg #[.int .u64 0, .int .u64 0, .int .u64 0, .int .u64 0]) rfl rfl rfl rfl (fun _ => by kernel_rfl) rfl fun ac hs => ?_))
        refine lstep (wpO_plain rfl (op_bin hs none (v := .bool (decide (r23 = 0))) rfl rfl rfl rfl (fun w => run_eqGuard_agg w .eql 24 _ _ _ _ Try.eqGuardType24) (eqlW r23 0 lr23 (by decide) _ rfl) rfl fun ac hs => ?_))
        refine wpList_nil ?_
        refine then_n ?_
        refine wp_cond_split (hs.ev rfl) (fun hc => ?_) (fun hc => ?_)
        · skip
          have hp27 := of_decide_eq_true hc
          refine wp_seq ?_
          replace hs : St 104 w0 [(2, true, .pointer (some ⟨g1, 0, none⟩)), (3, true, .pointer (some ⟨g2, 0, none⟩)), (4, true, .pointer (some ⟨g3, 0, none⟩)), (7, true, .pointer (some ⟨g14, 0, none⟩)), (9, true, .pointer (some ⟨g20, 0, none⟩)), (11, true, .pointer (some ⟨g24, 0, none⟩)), (12, true, .pointer (some ⟨g25, 0, none⟩))] [(true, g1, 72, (TVl x1 y1 z1)), (true, g2, 72, (TVl x2 y2 z2)), (true, g3, 72, (TVl 0 0 0)), (true, g10, 24, (Wl r8)), (true, g11, 24, (Wl r9)), (true, g14, 24, (Wl r12)), (true, g15, 24, (Wl r13)), (true, g20, 24, (Wl r17)), (true, g21, 24, (Wl r19)), (true, g24, 24, (Wl r22)), (true, g25, 24, (Wl r23))] ac _ := hs.re ⟨rfl, rfl, rfl, rfl, rfl, rfl, rfl, trivial⟩
          refine wp_region_lit ?_
          refine lstep (wpO_plain rfl (op_load hs none 0 (v := TV x1 y1 z1) rfl rfl rfl rfl Try.isAgg72 Try.sizeOf72 rfl rfl fun ac hs => ?_))
          obtain ⟨X28, Y29, Z30, hX28, lX28, lY29, lZ30⟩ : ∃ zz0 zz1 zz2, dJ x1 y1 z1 = (zz0, zz1, zz2) ∧ zz0 < 2 ^ 256 ∧ zz1 < 2 ^ 256 ∧ zz2 < 2 ^ 256 := dJ_lt x1 y1 z1
          refine lstep (wpO_plain rfl (op_call (F := 45) hs none (v := TV X28 Y29 Z30) rfl rfl rfl rfl (Try.call45 _) (doubled_c x1 y1 z1 X28 Y29 Z30 a1 a2 a3 hX28) rfl fun ac w hs => ?_))
          refine lstep (wpO_plain rfl (op_store hs 2 (vs := (TVl X28 Y29 Z30)) rfl rfl rfl rfl rfl Try.sizeOf72 rfl rfl rfl rfl rfl fun w hs => ?_))
          refine wpList_nil ?_
          refine then_n ?_
          refine wp_ret ?_
          refine then_r ?_
          refine then_r ?_
          exact bodyPost_ret (res1 rfl (rv_c hs 2 (v := TV X28 Y29 Z30) rfl rfl Try.isAgg72 Try.sizeOf72 rfl)) hs.defers ⟨by subst hr8 hr9 hr12 hr13 hr16 hr17 hr18 hr19 hr22 hr23; obtain ⟨rfl, rfl, rfl⟩ := tri3 (hX28.symm.trans ((sJ_3 hp5 hp7 hp26 hp27).symm.trans hE)); rfl, (hs.bel rfl)⟩
        · skip
          have hp31 := of_decide_eq_false hc
          refine wp_skip ?_
          refine then_n ?_
          refine wp_seq ?_
          replace hs : St 104 w0 [(2, true, .pointer (some ⟨g1, 0, none⟩)), (3, true, .pointer (some ⟨g2, 0, none⟩)), (4, true, .pointer (some ⟨g3, 0, none⟩)), (7, true, .pointer (some ⟨g14, 0, none⟩)), (9, true, .pointer (some ⟨g20, 0, none⟩)), (11, true, .pointer (some ⟨g24, 0, none⟩)), (12, true, .pointer (some ⟨g25, 0, none⟩))] [(true, g1, 72, (TVl x1 y1 z1)), (true, g2, 72, (TVl x2 y2 z2)), (true, g3, 72, (TVl 0 0 0)), (true, g10, 24, (Wl r8)), (true, g11, 24, (Wl r9)), (true, g14, 24, (Wl r12)), (true, g15, 24, (Wl r13)), (true, g20, 24, (Wl r17)), (true, g21, 24, (Wl r19)), (true, g24, 24, (Wl r22)), (true, g25, 24, (Wl r23))] ac _ := hs.re ⟨rfl, rfl, rfl, rfl, rfl, rfl, rfl, trivial⟩
          refine wp_region_lit ?_
          refine lstep (wpO_plain rfl (op_call (F := 36) hs none (v := PV 0 0 true) rfl rfl rfl rfl (Try.call36 _) zero_c rfl fun ac w hs => ?_))
          refine lstep (wpO_plain rfl (op_call (F := 42) hs none (v := TV 1 1 0) rfl rfl rfl rfl (Try.call42 _) (weigh_c 0 0 true 1 1 0 (by decide) (by decide) rfl rfl rfl) rfl fun ac w hs => ?_))
          refine lstep (wpO_plain rfl (op_store hs 2 (vs := (TVl 1 1 0)) rfl rfl rfl rfl rfl Try.sizeOf72 rfl rfl rfl rfl rfl fun w hs => ?_))
          refine wpList_nil ?_
          refine then_n ?_
          refine wp_ret ?_
          refine then_r ?_
          exact bodyPost_ret (res1 rfl (rv_c hs 2 (v := TV 1 1 0) rfl rfl Try.isAgg72 Try.sizeOf72 rfl)) hs.defers ⟨by subst hr8 hr9 hr12 hr13 hr16 hr17 hr18 hr19 hr22 hr23; obtain ⟨rfl, rfl, rfl⟩ := tri3 ((sJ_4 hp5 hp7 hp26 hp31).symm.trans hE); rfl, (hs.bel rfl)⟩
      · skip
        have hp32 := of_decide_eq_false hc
        refine wp_skip ?_
        refine then_n ?_
        refine wp_seq ?_
        refine wp_region_lit ?_
        refine lstep (wpO_plain rfl (op_load hs none 9 (v := W r22) rfl rfl rfl rfl Try.isAgg24 Try.sizeOf24 rfl rfl fun ac hs => ?_))
        obtain ⟨r33, hr33, lr33⟩ : ∃ z0, r22 * r22 % Pf = z0 ∧ z0 < 2 ^ 256 := ⟨_, rfl, modP_lt _⟩
        refine lstep (wpO_plain rfl (op_call (F := 62) hs none (v := W r33) rfl rfl rfl rfl (Try.call62 _) (sq_c r22 r33 lr22 hr33) rfl fun ac w hs => ?_))
        refine lstep (wpO_plain rfl (op_alloc hs none none (cs := [.int .u64 0, .int .u64 0, .int .u64 0, .int .u64 0]) rfl rfl Try.zeroValue24 (by kernel_rfl) rfl rfl fun g34 ac w hs => ?_))
        refine lstep (wpO_plain rfl (op_store hs 11 (vs := (Wl r33)) rfl rfl rfl rfl rfl Try.sizeOf24 rfl rfl rfl rfl rfl fun w hs => ?_))
        refine wpList_nil ?_
        refine then_n ?_
        refine wp_seq ?_
        replace hs : St 104 w0 [(2, true, .pointer (some ⟨g1, 0, none⟩)), (3, true, .pointer (some ⟨g2, 0, none⟩)), (4, true, .pointer (some ⟨g3, 0, none⟩)), (7, true, .pointer (some ⟨g14, 0, none⟩)), (9, true, .pointer (some ⟨g20, 0, none⟩)), (11, true, .pointer (some ⟨g24, 0, none⟩)), (12, true, .pointer (some ⟨g25, 0, none⟩)), (13, true, .pointer (some ⟨g34, 0, none⟩))] [(true, g1, 72, (TVl x1 y1 z1)), (true, g2, 72, (TVl x2 y2 z2)), (true, g3, 72, (TVl 0 0 0)), (true, g10, 24, (Wl r8)), (true, g11, 24, (Wl r9)), (true, g14, 24, (Wl r12)), (true, g15, 24, (Wl r13)), (true, g20, 24, (Wl r17)), (true, g21, 24, (Wl r19)), (true, g24, 24, (Wl r22)), (true, g25, 24, (Wl r23)), (true, g34, 24, (Wl r33))] ac _ := hs.re ⟨rfl, rfl, rfl, rfl, rfl, rfl, rfl, rfl, trivial⟩
        refine wp_region_lit ?_
        refine lstep (wpO_plain rfl (op_load hs none 11 (v := W r33) rfl rfl rfl rfl Try.isAgg24 Try.sizeOf24 rfl rfl fun ac hs => ?_))
        refine lstep (wpO_plain rfl (op_load hs none 9 (v := W r22) rfl rfl rfl rfl Try.isAgg24 Try.sizeOf24 rfl rfl fun ac hs => ?_))
        obtain ⟨r35, hr35, lr35⟩ : ∃ z0, r33 * r22 % Pf = z0 ∧ z0 < 2 ^ 256 := ⟨_, rfl, modP_lt _⟩
        refine lstep (wpO_plain rfl (op_call (F := 58) hs none (v := W r35) rfl rfl rfl rfl (Try.call58 _) (fmul_c r33 r22 r35 lr33 lr22 hr35) rfl fun ac w hs => ?_))
        refine lstep (wpO_plain rfl (op_alloc hs none none (cs := [.int .u64 0, .int .u64 0, .int .u64 0, .int .u64 0]) rfl rfl Try.zeroValue24 (by kernel_rfl) rfl rfl fun g36 ac w hs => ?_))
        refine lstep (wpO_plain rfl (op_store hs 12 (vs := (Wl r35)) rfl rfl rfl rfl rfl Try.sizeOf24 rfl rfl rfl rfl rfl fun w hs => ?_))
        refine wpList_nil ?_
        refine then_n ?_
        refine wp_seq ?_
        refine wp_region_lit ?_
        refine lstep (wpO_plain rfl (op_load hs none 5 (v := W r12) rfl rfl rfl rfl Try.isAgg24 Try.sizeOf24 rfl rfl fun ac hs => ?_))
        refine lstep (wpO_plain rfl (op_load hs none 11 (v := W r33) rfl rfl rfl rfl Try.isAgg24 Try.sizeOf24 rfl rfl fun ac hs => ?_))
        obtain ⟨r37, hr37, lr37⟩ : ∃ z0, r12 * r33 % Pf = z0 ∧ z0 < 2 ^ 256 := ⟨_, rfl, modP_lt _⟩
        refine lstep (wpO_plain rfl (op_call (F := 58) hs none (v := W r37) rfl rfl rfl rfl (Try.call58 _) (fmul_c r12 r33 r37 lr12 lr33 hr37) rfl fun ac w hs => ?_))
        refine lstep (wpO_plain rfl (op_alloc hs none none (cs := [.int .u64 0, .int .u64 0, .int .u64 0, .int .u64 0]) rfl rfl Try.zeroValue24 (by kernel_rfl) rfl rfl fun g38 ac w hs => ?_))
        refine lstep (wpO_plain rfl (op_store hs 13 (vs := (Wl r37)) rfl rfl rfl rfl rfl Try.sizeOf24 rfl rfl rfl rfl rfl fun w hs => ?_))
        refine wpList_nil ?_
        refine then_n ?_
        refine wp_seq ?_
        replace hs : St 104 w0 [(2, true, .pointer (some ⟨g1, 0, none⟩)), (3, true, .pointer (some ⟨g2, 0, none⟩)), (4, true, .pointer (some ⟨g3, 0, none⟩)), (9, true, .pointer (some ⟨g20, 0, none⟩)), (11, true, .pointer (some ⟨g24, 0, none⟩)), (12, true, .pointer (some ⟨g25, 0, none⟩)), (14, true, .pointer (some ⟨g36, 0, none⟩)), (15, true, .pointer (some ⟨g38, 0, none⟩))] [(true, g1, 72, (TVl x1 y1 z1)), (true, g2, 72, (TVl x2 y2 z2)), (true, g3, 72, (TVl 0 0 0)), (true, g10, 24, (Wl r8)), (true, g11, 24, (Wl r9)), (true, g14, 24, (Wl r12)), (true, g15, 24, (Wl r13)), (true, g20, 24, (Wl r17)), (true, g21, 24, (Wl r19)), (true, g24, 24, (Wl r22)), (true, g25, 24, (Wl r23)), (true, g34, 24, (Wl r33)), (true, g36, 24, (Wl r35)), (true, g38, 24, (Wl r37))] ac _ := hs.re ⟨rfl, rfl, rfl, rfl, rfl, rfl, rfl, rfl, trivial⟩
        obtain ⟨r39, hr39, lr39⟩ : ∃ z0, r23 * r23 % Pf = z0 ∧ z0 < 2 ^ 256 := ⟨_, rfl, modP_lt _⟩
        obtain ⟨r40, hr40, lr40⟩ : ∃ z0, fsub r39 r35 = z0 ∧ z0 < 2 ^ 256 := ⟨_, rfl, fsub_lt _ _⟩
        obtain ⟨r41, hr41, lr41⟩ : ∃ z0, 2 * r37 % Pf = z0 ∧ z0 < 2 ^ 256 := ⟨_, rfl, modP_lt _⟩
        obtain ⟨r42, hr42, lr42⟩ : ∃ z0, fsub r40 r41 = z0 ∧ z0 < 2 ^ 256 := ⟨_, rfl, fsub_lt _ _⟩
        refine region_inv [([], [1, 3, 5, 6, 8]), ([0], [3, 5, 6, 8]), ([], [3, 5, 6, 8]), ([0, 1, 2], [5, 6, 8]), ([], [5, 6, 8]), ([0, 1, 2, 3, 4], [6, 8]), ([0, 1, 2, 3, 4, 5], [8]), ([], [8]), ([0, 1, 2, 3, 4, 5, 6, 7], [])] (fun L ac w => ∃ (g43 : Nat), St 104 w0 [(78, L 0, W r23), (79, L 1, W r39), (80, L 2, W r35), (81, L 3, W r40), (82, L 4, W r37), (83, L 5, W r41), (84, L 6, W r42), (16, L 7, .pointer (some ⟨g43, 0, none⟩)), (2, true, .pointer (some ⟨g1, 0, none⟩)), (3, true, .pointer (some ⟨g2, 0, none⟩)), (4, true, .pointer (some ⟨g3, 0, none⟩)), (9, true, .pointer (some ⟨g20, 0, none⟩)), (11, true, .pointer (some ⟨g24, 0, none⟩)), (12, true, .pointer (some ⟨g25, 0, none⟩)), (14, true, .pointer (some ⟨g36, 0, none⟩)), (15, true, .pointer (some ⟨g38, 0, none⟩))] [(true, g1, 72, (TVl x1 y1 z1)), (true, g2, 72, (TVl x2 y2 z2)), (true, g3, 72, (TVl 0 0 0)), (true, g10, 24, (Wl r8)), (true, g11, 24, (Wl r9)), (true, g14, 24, (Wl r12)), (true, g15, 24, (Wl r13)), (true, g20, 24, (Wl r17)), (true, g21, 24, (Wl r19)), (true, g24, 24, (Wl r22)), (true, g25, 24, (Wl r23)), (true, g34, 24, (Wl r33)), (true, g36, 24, (Wl r35)), (true, g38, 24, (Wl r37)), (L 7, g43, 24, (cond (L 8) (Wl r42) [.int .u64 0, .int .u64 0, .int .u64 0, .int .u64 0]))] ac w) (by kernel_rfl) (by kernel_rfl) ?_ ?_ ?_
        · exact ⟨0, hs.drew.skip.skip.skip.skip.skip.skip.skip.skip.pad⟩
        · refine ⟨?_, ?_, ?_, ?_, ?_, ?_, ?_, ?_, ?_, trivial⟩
          · intro L ac w hJ
            obtain ⟨g43, hs⟩ := hJ
            refine wpO_plain rfl (op_load hs (some 0) 10 (v := W r23) rfl rfl rfl rfl Try.isAgg24 Try.sizeOf24 rfl rfl fun ac hs => ?_)
            exact ⟨g43, hs⟩
          · intro L ac w hJ
            obtain ⟨g43, hs⟩ := hJ
            refine wpO_plain rfl (op_call (F := 62) hs (some 1) (v := W r39) rfl rfl rfl rfl (Try.call62 _) (sq_c r23 r39 lr23 hr39) rfl fun ac w hs => ?_)
            exact ⟨g43, hs⟩
          · intro L ac w hJ
            obtain ⟨g43, hs⟩ := hJ
            refine wpO_plain rfl (op_load hs (some 2) 12 (v := W r35) rfl rfl rfl rfl Try.isAgg24 Try.sizeOf24 rfl rfl fun ac hs => ?_)
            exact ⟨g43, hs⟩
          · intro L ac w hJ
            obtain ⟨g43, hs⟩ := hJ
            refine wpO_plain rfl (op_call (F := 65) hs (some 3) (v := W r40) rfl rfl rfl rfl (Try.call65 _) (fsub_c r39 r35 r40 lr39 lr35 hr40) rfl fun ac w hs => ?_)
            exact ⟨g43, hs⟩
          · intro L ac w hJ
            obtain ⟨g43, hs⟩ := hJ
            refine wpO_plain rfl (op_load hs (some 4) 13 (v := W r37) rfl rfl rfl rfl Try.isAgg24 Try.sizeOf24 rfl rfl fun ac hs => ?_)
            exact ⟨g43, hs⟩
          · intro L ac w hJ
            obtain ⟨g43, hs⟩ := hJ
            refine wpO_plain rfl (op_call (F := 66) hs (some 5) (v := W r41) rfl rfl rfl rfl (Try.call66 _) (times_c 2 r37 r41 (by decide) lr37 hr41) rfl fun ac w hs => ?_)
            exact ⟨g43, hs⟩
          · intro L ac w hJ
            obtain ⟨g43, hs⟩ := hJ
            refine wpO_plain rfl (op_call (F := 65) hs (some 6) (v := W r42) rfl rfl rfl rfl (Try.call65 _) (fsub_c r40 r41 r42 lr40 lr41 hr42) rfl fun ac w hs => ?_)
            exact ⟨g43, hs⟩
          · intro L ac w hJ
            obtain ⟨g43, hs⟩ := hJ
            refine wpO_plain rfl (op_alloc hs (some 7) (some 14) (cs := [.int .u64 0, .int .u64 0, .int .u64 0, .int .u64 0]) rfl rfl Try.zeroValue24 (by kernel_rfl) rfl rfl fun g43 ac w hs => ?_)
            exact ⟨g43, hs⟩
          · intro L ac w hJ
            obtain ⟨g43, hs⟩ := hJ
            refine wpO_plain rfl (op_store hs 14 (vs := (Wl r42)) rfl rfl rfl rfl rfl Try.sizeOf24 rfl rfl rfl rfl rfl fun w hs => ?_)
            exact ⟨g43, hs⟩
        intro ac w hJ
        obtain ⟨g43, hs⟩ := hJ
        replace hs : St 104 w0 [(78, true, W r23), (79, true, W r39), (80, true, W r35), (81, true, W r40), (82, true, W r37), (83, true, W r41), (84, true, W r42), (16, true, .pointer (some ⟨g43, 0, none⟩)), (2, true, .pointer (some ⟨g1, 0, none⟩)), (3, true, .pointer (some ⟨g2, 0, none⟩)), (4, true, .pointer (some ⟨g3, 0, none⟩)), (9, true, .pointer (some ⟨g20, 0, none⟩)), (11, true, .pointer (some ⟨g24, 0, none⟩)), (12, true, .pointer (some ⟨g25, 0, none⟩)), (14, true, .pointer (some ⟨g36, 0, none⟩)), (15, true, .pointer (some ⟨g38, 0, none⟩))] [(true, g1, 72, (TVl x1 y1 z1)), (true, g2, 72, (TVl x2 y2 z2)), (true, g3, 72, (TVl 0 0 0)), (true, g10, 24, (Wl r8)), (true, g11, 24, (Wl r9)), (true, g14, 24, (Wl r12)), (true, g15, 24, (Wl r13)), (true, g20, 24, (Wl r17)), (true, g21, 24, (Wl r19)), (true, g24, 24, (Wl r22)), (true, g25, 24, (Wl r23)), (true, g34, 24, (Wl r33)), (true, g36, 24, (Wl r35)), (true, g38, 24, (Wl r37)), (true, g43, 24, (Wl r42))] ac w := hs
        refine then_n ?_
        refine wp_seq ?_
        replace hs : St 104 w0 [(2, true, .pointer (some ⟨g1, 0, none⟩)), (3, true, .pointer (some ⟨g2, 0, none⟩)), (4, true, .pointer (some ⟨g3, 0, none⟩)), (9, true, .pointer (some ⟨g20, 0, none⟩)), (11, true, .pointer (some ⟨g24, 0, none⟩)), (12, true, .pointer (some ⟨g25, 0, none⟩)), (14, true, .pointer (some ⟨g36, 0, none⟩)), (15, true, .pointer (some ⟨g38, 0, none⟩)), (16, true, .pointer (some ⟨g43, 0, none⟩))] [(true, g1, 72, (TVl x1 y1 z1)), (true, g2, 72, (TVl x2 y2 z2)), (true, g3, 72, (TVl 0 0 0)), (true, g10, 24, (Wl r8)), (true, g11, 24, (Wl r9)), (true, g14, 24, (Wl r12)), (true, g15, 24, (Wl r13)), (true, g20, 24, (Wl r17)), (true, g21, 24, (Wl r19)), (true, g24, 24, (Wl r22)), (true, g25, 24, (Wl r23)), (true, g34, 24, (Wl r33)), (true, g36, 24, (Wl r35)), (true, g38, 24, (Wl r37)), (true, g43, 24, (Wl r42))] ac _ := hs.re ⟨rfl, rfl, rfl, rfl, rfl, rfl, rfl, rfl, rfl, trivial⟩
        obtain ⟨r44, hr44, lr44⟩ : ∃ z0, fsub r37 r42 = z0 ∧ z0 < 2 ^ 256 := ⟨_, rfl, fsub_lt _ _⟩
        obtain ⟨r45, hr45, lr45⟩ : ∃ z0, r23 * r44 % Pf = z0 ∧ z0 < 2 ^ 256 := ⟨_, rfl, modP_lt _⟩
        obtain ⟨r46, hr46, lr46⟩ : ∃ z0, r17 * r35 % Pf = z0 ∧ z0 < 2 ^ 256 := ⟨_, rfl, modP_lt _⟩
        obtain ⟨r47, hr47, lr47⟩ : ∃ z0, fsub r45 r46 = z0 ∧ z0 < 2 ^ 256 := ⟨_, rfl, fsub_lt _ _⟩
        refine region_inv [([], [4, 7, 8, 10]), ([], [3, 4, 7, 8, 10]), ([], [3, 4, 7, 8, 10]), ([1, 2], [4, 7, 8, 10]), ([0, 1, 2, 3], [7, 8, 10]), ([], [7, 8, 10]), ([], [7, 8, 10]), ([0, 1, 2, 3, 4, 5, 6], [8, 10]), ([0, 1, 2, 3, 4, 5, 6, 7], [10]), ([], [10]), ([0, 1, 2, 3, 4, 5, 6, 7, 8, 9], [])] (fun L ac w => ∃ (g48 : Nat), St 104 w0 [(85, L 0, W r23), (86, L 1, W r37), (87, L 2, W r42), (88, L 3, W r44), (89, L 4, W r45), (90, L 5, W r17), (91, L 6, W r35), (92, L 7, W r46), (93, L 8, W r47), (17, L 9, .pointer (some ⟨g48, 0, none⟩)), (2, true, .pointer (some ⟨g1, 0, none⟩)), (3, true, .pointer (some ⟨g2, 0, none⟩)), (4, true, .pointer (some ⟨g3, 0, none⟩)), (9, true, .pointer (some ⟨g20, 0, none⟩)), (11, true, .pointer (some ⟨g24, 0, none⟩)), (12, true, .pointer (some ⟨g25, 0, none⟩)), (14, true, .pointer (some ⟨g36, 0, none⟩)), (15, true, .pointer (some ⟨g38, 0, none⟩)), (16, true, .pointer (some ⟨g43, 0, none⟩))] [(true, g1, 72, (TVl x1 y1 z1)), (true, g2, 72, (TVl x2 y2 z2)), (true, g3, 72, (TVl 0 0 0)), (true, g10, 24, (Wl r8)), (true, g11, 24, (Wl r9)), (true, g14, 24, (Wl r12)), (true, g15, 24, (Wl r13)), (true, g20, 24, (Wl r17)), (true, g21, 24, (Wl r19)), (true, g24, 24, (Wl r22)), (true, g25, 24, (Wl r23)), (true, g34, 24, (Wl r33)), (true, g36, 24, (Wl r35)), (true, g38, 24, (Wl r37)), (true, g43, 24, (Wl r42)), (L 9, g48, 24, (cond (L 10) (Wl r47) [.int .u64 0, .int .u64 0, .int .u64 0, .int .u64 0]))] ac w) (by kernel_rfl) (by kernel_rfl) ?_ ?_ ?_
        · exact ⟨0, hs.drew.skip.skip.skip.skip.skip.skip.skip.skip.skip.skip.pad⟩
        · refine ⟨?_, ?_, ?_, ?_, ?_, ?_, ?_, ?_, ?_, ?_, ?_, trivial⟩
          · intro L ac w hJ
            obtain ⟨g48, hs⟩ := hJ
            refine wpO_plain rfl (op_load hs (some 0) 10 (v := W r23) rfl rfl rfl rfl Try.isAgg24 Try.sizeOf24 rfl rfl fun ac hs => ?_)
            exact ⟨g48, hs⟩
          · intro L ac w hJ
            obtain ⟨g48, hs⟩ := hJ
            refine wpO_plain rfl (op_load hs (some 1) 13 (v := W r37) rfl rfl rfl rfl Try.isAgg24 Try.sizeOf24 rfl rfl fun ac hs => ?_)
            exact ⟨g48, hs⟩
          · intro L ac w hJ
            obtain ⟨g48, hs⟩ := hJ
            refine wpO_plain rfl (op_load hs (some 2) 14 (v := W r42) rfl rfl rfl rfl Try.isAgg24 Try.sizeOf24 rfl rfl fun ac hs => ?_)
            exact ⟨g48, hs⟩
          · intro L ac w hJ
            obtain ⟨g48, hs⟩ := hJ
            refine wpO_plain rfl (op_call (F := 65) hs (some 3) (v := W r44) rfl rfl rfl rfl (Try.call65 _) (fsub_c r37 r42 r44 lr37 lr42 hr44) rfl fun ac w hs => ?_)
            exact ⟨g48, hs⟩
          · intro L ac w hJ
            obtain ⟨g48, hs⟩ := hJ
            refine wpO_plain rfl (op_call (F := 58) hs (some 4) (v := W r45) rfl rfl rfl rfl (Try.call58 _) (fmul_c r23 r44 r45 lr23 lr44 hr45) rfl fun ac w hs => ?_)
            exact ⟨g48, hs⟩
          · intro L ac w hJ
            obtain ⟨g48, hs⟩ := hJ
            refine wpO_plain rfl (op_load hs (some 5) 7 (v := W r17) rfl rfl rfl rfl Try.isAgg24 Try.sizeOf24 rfl rfl fun ac hs => ?_)
            exact ⟨g48, hs⟩
          · intro L ac w hJ
            obtain ⟨g48, hs⟩ := hJ
            refine wpO_plain rfl (op_load hs (some 6) 12 (v := W r35) rfl rfl rfl rfl Try.isAgg24 Try.sizeOf24 rfl rfl fun ac hs => ?_)
            exact ⟨g48, hs⟩
          · intro L ac w hJ
            obtain ⟨g48, hs⟩ := hJ
            refine wpO_plain rfl (op_call (F := 58) hs (some 7) (v := W r46) rfl rfl rfl rfl (Try.call58 _) (fmul_c r17 r35 r46 lr17 lr35 hr46) rfl fun ac w hs => ?_)
            exact ⟨g48, hs⟩
          · intro L ac w hJ
            obtain ⟨g48, hs⟩ := hJ
            refine wpO_plain rfl (op_call (F := 65) hs (some 8) (v := W r47) rfl rfl rfl rfl (Try.call65 _) (fsub_c r45 r46 r47 lr45 lr46 hr47) rfl fun ac w hs => ?_)
            exact ⟨g48, hs⟩
          · intro L ac w hJ
            obtain ⟨g48, hs⟩ := hJ
            refine wpO_plain rfl (op_alloc hs (some 9) (some 15) (cs := [.int .u64 0, .int .u64 0, .int .u64 0, .int .u64 0]) rfl rfl Try.zeroValue24 (by kernel_rfl) rfl rfl fun g48 ac w hs => ?_)
            exact ⟨g48, hs⟩
          · intro L ac w hJ
            obtain ⟨g48, hs⟩ := hJ
            refine wpO_plain rfl (op_store hs 15 (vs := (Wl r47)) rfl rfl rfl rfl rfl Try.sizeOf24 rfl rfl rfl rfl rfl fun w hs => ?_)
            exact ⟨g48, hs⟩
        intro ac w hJ
        obtain ⟨g48, hs⟩ := hJ
        replace hs : St 104 w0 [(85, true, W r23), (86, true, W r37), (87, true, W r42), (88, true, W r44), (89, true, W r45), (90, true, W r17), (91, true, W r35), (92, true, W r46), (93, true, W r47), (17, true, .pointer (some ⟨g48, 0, none⟩)), (2, true, .pointer (some ⟨g1, 0, none⟩)), (3, true, .pointer (some ⟨g2, 0, none⟩)), (4, true, .pointer (some ⟨g3, 0, none⟩)), (9, true, .pointer (some ⟨g20, 0, none⟩)), (11, true, .pointer (some ⟨g24, 0, none⟩)), (12, true, .pointer (some ⟨g25, 0, none⟩)), (14, true, .pointer (some ⟨g36, 0, none⟩)), (15, true, .pointer (some ⟨g38, 0, none⟩)), (16, true, .pointer (some ⟨g43, 0, none⟩))] [(true, g1, 72, (TVl x1 y1 z1)), (true, g2, 72, (TVl x2 y2 z2)), (true, g3, 72, (TVl 0 0 0)), (true, g10, 24, (Wl r8)), (true, g11, 24, (Wl r9)), (true, g14, 24, (Wl r12)), (true, g15, 24, (Wl r13)), (true, g20, 24, (Wl r17)), (true, g21, 24, (Wl r19)), (true, g24, 24, (Wl r22)), (true, g25, 24, (Wl r23)), (true, g34, 24, (Wl r33)), (true, g36, 24, (Wl r35)), (true, g38, 24, (Wl r37)), (true, g43, 24, (Wl r42)), (true, g48, 24, (Wl r47))] ac w := hs
        refine then_n ?_
        refine wp_seq ?_
        replace hs : St 104 w0 [(2, true, .pointer (some ⟨g1, 0, none⟩)), (3, true, .pointer (some ⟨g2, 0, none⟩)), (4, true, .pointer (some ⟨g3, 0, none⟩)), (11, true, .pointer (some ⟨g24, 0, none⟩)), (16, true, .pointer (some ⟨g43, 0, none⟩)), (17, true, .pointer (some ⟨g48, 0, none⟩))] [(true, g1, 72, (TVl x1 y1 z1)), (true, g2, 72, (TVl x2 y2 z2)), (true, g3, 72, (TVl 0 0 0)), (true, g10, 24, (Wl r8)), (true, g11, 24, (Wl r9)), (true, g14, 24, (Wl r12)), (true, g15, 24, (Wl r13)), (true, g20, 24, (Wl r17)), (true, g21, 24, (Wl r19)), (true, g24, 24, (Wl r22)), (true, g25, 24, (Wl r23)), (true, g34, 24, (Wl r33)), (true, g36, 24, (Wl r35)), (true, g38, 24, (Wl r37)), (true, g43, 24, (Wl r42)), (true, g48, 24, (Wl r47))] ac _ := hs.re ⟨rfl, rfl, rfl, rfl, rfl, rfl, trivial⟩
        obtain ⟨r49, hr49, lr49⟩ : ∃ z0, z1 * z2 % Pf = z0 ∧ z0 < 2 ^ 256 := ⟨_, rfl, modP_lt _⟩
        obtain ⟨r50, hr50, lr50⟩ : ∃ z0, r22 * r49 % Pf = z0 ∧ z0 < 2 ^ 256 := ⟨_, rfl, modP_lt _⟩
        refine region_inv [([], [9, 10]), ([], [9, 10]), ([], [8, 9, 10]), ([], [4, 7, 8, 9, 10]), ([3], [7, 8, 9, 10]), ([], [6, 7, 8, 9, 10]), ([5], [7, 8, 9, 10]), ([3, 4, 5, 6], [8, 9, 10]), ([2, 3, 4, 5, 6, 7], [9, 10]), ([0, 1, 2, 3, 4, 5, 6, 7, 8], [10]), ([0, 1, 2, 3, 4, 5, 6, 7, 8, 9], [])] (fun L ac w => St 104 w0 [(94, L 0, W r42), (95, L 1, W r47), (96, L 2, W r22), (97, L 3, .pointer (some ⟨g1, 8, none⟩)), (98, L 4, W z1), (99, L 5, .pointer (some ⟨g2, 8, none⟩)), (100, L 6, W z2), (101, L 7, W r49), (102, L 8, W r50), (103, L 9, TV r42 r47 r50), (2, true, .pointer (some ⟨g1, 0, none⟩)), (3, true, .pointer (some ⟨g2, 0, none⟩)), (4, true, .pointer (some ⟨g3, 0, none⟩)), (11, true, .pointer (some ⟨g24, 0, none⟩)), (16, true, .pointer (some ⟨g43, 0, none⟩)), (17, true, .pointer (some ⟨g48, 0, none⟩))] [(true, g1, 72, (TVl x1 y1 z1)), (true, g2, 72, (TVl x2 y2 z2)), (true, g3, 72, (cond (L 10) (TVl r42 r47 r50) (TVl 0 0 0))), (true, g10, 24, (Wl r8)), (true, g11, 24, (Wl r9)), (true, g14, 24, (Wl r12)), (true, g15, 24, (Wl r13)), (true, g20, 24, (Wl r17)), (true, g21, 24, (Wl r19)), (true, g24, 24, (Wl r22)), (true, g25, 24, (Wl r23)), (true, g34, 24, (Wl r33)), (true, g36, 24, (Wl r35)), (true, g38, 24, (Wl r37)), (true, g43, 24, (Wl r42)), (true, g48, 24, (Wl r47))] ac w) (by kernel_rfl) (by kernel_rfl) ?_ ?_ ?_
        · exact hs.drew.skip.skip.skip.skip.skip.skip.skip.skip.skip.skip
        · refine ⟨?_, ?_, ?_, ?_, ?_, ?_, ?_, ?_, ?_, ?_, ?_, trivial⟩
          · intro L ac w hJ
            have hs := hJ
            refine wpO_plain rfl (op_load hs (some 0) 14 (v := W r42) rfl rfl rfl rfl Try.isAgg24 Try.sizeOf24 rfl rfl fun ac hs => ?_)
            exact hs
          · intro L ac w hJ
            have hs := hJ
            refine wpO_plain rfl (op_load hs (some 1) 15 (v := W r47) rfl rfl rfl rfl Try.isAgg24 Try.sizeOf24 rfl rfl fun ac hs => ?_)
            exact hs
          · intro L ac w hJ
            have hs := hJ
            refine wpO_plain rfl (op_load hs (some 2) 9 (v := W r22) rfl rfl rfl rfl Try.isAgg24 Try.sizeOf24 rfl rfl fun ac hs => ?_)
            exact hs
          · intro L ac w hJ
            have hs := hJ
            refine wpO_plain rfl (op_fieldA hs (some 3) rfl rfl rfl Try.underlying72 rfl Try.sizeOf24 (by decide) rfl fun ac hs => ?_)
            exact hs
          · intro L ac w hJ
            have hs := hJ
            refine wpO_plain rfl (op_load hs (some 4) 0 (v := W z1) rfl rfl rfl rfl Try.isAgg24 Try.sizeOf24 rfl rfl fun ac hs => ?_)
            exact hs
          · intro L ac w hJ
            have hs := hJ
            refine wpO_plain rfl (op_fieldA hs (some 5) rfl rfl rfl Try.underlying72 rfl Try.sizeOf24 (by decide) rfl fun ac hs => ?_)
            exact hs
          · intro L ac w hJ
            have hs := hJ
            refine wpO_plain rfl (op_load hs (some 6) 1 (v := W z2) rfl rfl rfl rfl Try.isAgg24 Try.sizeOf24 rfl rfl fun ac hs => ?_)
            exact hs
          · intro L ac w hJ
            have hs := hJ
            refine wpO_plain rfl (op_call (F := 58) hs (some 7) (v := W r49) rfl rfl rfl rfl (Try.call58 _) (fmul_c z1 z2 r49 a3 b3 hr49) rfl fun ac w hs => ?_)
            exact hs
          · intro L ac w hJ
            have hs := hJ
            refine wpO_plain rfl (op_call (F := 58) hs (some 8) (v := W r50) rfl rfl rfl rfl (Try.call58 _) (fmul_c r22 r49 r50 lr22 lr49 hr50) rfl fun ac w hs => ?_)
            exact hs
          · intro L ac w hJ
            have hs := hJ
            refine wpO_plain rfl (op_build hs (some 9) (qs := [(0, W r42), (1, W r47), (2, W r50)]) (v := TV r42 r47 r50) rfl rfl rfl rfl (fun _ => by kernel_rfl) rfl fun ac hs => ?_)
            exact hs
          · intro L ac w hJ
            have hs := hJ
            refine wpO_plain rfl (op_store hs 2 (vs := (TVl r42 r47 r50)) rfl rfl rfl rfl rfl Try.sizeOf72 rfl rfl rfl rfl rfl fun w hs => ?_)
            exact hs
        intro ac w hJ
        replace hs : St 104 w0 [(94, true, W r42), (95, true, W r47), (96, true, W r22), (97, true, .pointer (some ⟨g1, 8, none⟩)), (98, true, W z1), (99, true, .pointer (some ⟨g2, 8, none⟩)), (100, true, W z2), (101, true, W r49), (102, true, W r50), (103, true, TV r42 r47 r50), (2, true, .pointer (some ⟨g1, 0, none⟩)), (3, true, .pointer (some ⟨g2, 0, none⟩)), (4, true, .pointer (some ⟨g3, 0, none⟩)), (11, true, .pointer (some ⟨g24, 0, none⟩)), (16, true, .pointer (some ⟨g43, 0, none⟩)), (17, true, .pointer (some ⟨g48, 0, none⟩))] [(true, g1, 72, (TVl x1 y1 z1)), (true, g2, 72, (TVl x2 y2 z2)), (true, g3, 72, (TVl r42 r47 r50)), (true, g10, 24, (Wl r8)), (true, g11, 24, (Wl r9)), (true, g14, 24, (Wl r12)), (true, g15, 24, (Wl r13)), (true, g20, 24, (Wl r17)), (true, g21, 24, (Wl r19)), (true, g24, 24, (Wl r22)), (true, g25, 24, (Wl r23)), (true, g34, 24, (Wl r33)), (true, g36, 24, (Wl r35)), (true, g38, 24, (Wl r37)), (true, g43, 24, (Wl r42)), (true, g48, 24, (Wl r47))] ac w := hJ
        refine then_n ?_
        refine wp_ret ?_
        exact bodyPost_ret (res1 rfl (rv_c hs 2 (v := TV r42 r47 r50) rfl rfl Try.isAgg72 Try.sizeOf72 rfl)) hs.defers ⟨by subst hr8 hr9 hr12 hr13 hr16 hr17 hr18 hr19 hr22 hr23 hr33 hr35 hr37 hr39 hr40 hr41 hr42 hr44 hr45 hr46 hr47 hr49 hr50; obtain ⟨rfl, rfl, rfl⟩ := tri3 ((sJ_5 hp5 hp7 hp32).symm.trans hE); rfl, (hs.bel rfl)⟩
theorem pbit_c (a i : Nat) (q : Bool) (ha : a < 2 ^ 256) (hi : i < 256) (hq : decide (a / 2 ^ i % 2 = 1) = q) (w0 : World) : Calls Try.prog 46 #[W a, .int .i64 ((i : Nat) : Int)] w0 fun e w' => e = .returned (.bool q) ∧ Below w0.heap.size w0 w' := by
  refine enter (n := 14) (args := [W a, .int .i64 ((i : Nat) : Int)]) Try.func46 rfl rfl (Nat.le_of_ble_eq_true rfl) fun ac hs => ?_
  refine wp_seq ?_
  refine wp_region_lit ?_
  refine lstep (wpO_plain rfl (op_box hs none none (cs := (Wl a)) rfl rfl rfl rfl rfl rfl fun g1 ac w hs => ?_))
  refine lstep (wpO_plain rfl (op_assign hs none rfl rfl rfl rfl fun ac hs => ?_))
  refine wpList_nil ?_
  refine then_n ?_
  refine wp_seq ?_
  refine wp_region_lit ?_
  refine lstep (wpO_plain rfl (op_move hs none rfl rfl rfl rfl fun ac hs => ?_))
  refine lstep (wpO_plain rfl (op_bin hs none (v := .int .i64 ((i / 64 : Nat) : Int)) rfl rfl rfl rfl (fun _ => rfl) (bin_quoN (x := i) (y := 64) (z := i / 64) rfl (by decide) (show i < 9223372036854775808 by omega)) rfl fun ac hs => ?_))
  refine lstep (wpO_plain rfl (op_idxA hs none (j := i / 64) rfl rfl rfl rfl Try.underlying24 Try.sizeOf22 (show i / 64 < 4 by omega) (off := i / 64) (by omega) rfl fun ac hs => ?_))
  have l2 := limN_lt a (i / 64)
  refine lstep (wpO_plain rfl (op_load hs none 0 (v := .int .u64 ((limN a (i / 64) : Nat) : Int)) rfl rfl rfl rfl Try.isAgg22 Try.sizeOf22 (Wl_get (j := i / 64) (show i / 64 < 4 by omega)) rfl fun ac hs => ?_))
  refine lstep (wpO_plain rfl (op_move hs none rfl rfl rfl rfl fun ac hs => ?_))
  refine lstep (wpO_plain rfl (op_bin hs none (v := .int .i64 ((i % 64 : Nat) : Int)) rfl rfl rfl rfl (fun _ => rfl) (bin_remN (x := i) (y := 64) (z := i % 64) rfl (by decide)) rfl fun ac hs => ?_))
  refine lstep (wpO_plain rfl (op_bin hs none (v := .int .u64 (((limN a (i / 64)) / 2 ^ (i % 64) : Nat) : Int)) rfl rfl rfl rfl (fun _ => rfl) (bin_shrN (x := limN a (i / 64)) (y := i % 64) (z := (limN a (i / 64)) / 2 ^ (i % 64)) rfl (limN_lt _ _)) rfl fun ac hs => ?_))
  refine lstep (wpO_plain rfl (op_bin hs none (v := .int .u64 ((((limN a (i / 64)) / 2 ^ (i % 64)) % 2 : Nat) : Int)) rfl rfl rfl rfl (fun _ => rfl) (bin_andN (x := (limN a (i / 64)) / 2 ^ (i % 64)) (y := 1) (z := ((limN a (i / 64)) / 2 ^ (i % 64)) % 2) (Nat.and_two_pow_sub_one_eq_mod ((limN a (i / 64)) / 2 ^ (i % 64)) 1) (shr_lt (limN_lt _ _)) (by decide) (show ((limN a (i / 64)) / 2 ^ (i % 64)) % 2 < 18446744073709551616 by omega)) rfl fun ac hs => ?_))
  refine lstep (wpO_plain rfl (op_bin hs none (v := .bool (decide (((limN a (i / 64)) / 2 ^ (i % 64)) % 2 ≠ 0))) rfl rfl rfl rfl (fun _ => rfl) (bin_neqN (x := ((limN a (i / 64)) / 2 ^ (i % 64)) % 2) (y := 0)) rfl fun ac hs => ?_))
  refine lstep (wpO_plain rfl (op_assign hs none rfl rfl rfl rfl fun ac hs => ?_))
  refine wpList_nil ?_
  refine then_n ?_
  refine wp_ret ?_
  exact bodyPost_ret (res1 rfl (rv_t hs rfl)) hs.defers ⟨by rw [← hq]; exact congrArg (fun b => Ending.returned (.bool b)) (decide_eq_decide.2 bit_ne), (hs.bel rfl)⟩
theorem both_c (a x1 y1 : Nat) (z1 : Bool) (b x2 y2 : Nat) (z2 : Bool) (P Q T : EM.Pt Pf) (ha : a < 2 ^ 256) (a1 : x1 < 2 ^ 256) (a2 : y1 < 2 ^ 256) (hb : b < 2 ^ 256) (b1 : x2 < 2 ^ 256) (b2 : y2 < 2 ^ 256) (hP : ptOf x1 y1 z1 = P) (hQ : ptOf x2 y2 z2 = Q) (hT : (EM.nmul a P).add (EM.nmul b Q) = T) (w0 : World) : Calls Try.prog 22 #[W a, PV x1 y1 z1, W b, PV x2 y2 z2] w0 fun e w' => e = .returned (PV (px T) (py T) (pz T)) ∧ Below w0.heap.size w0 w' := by
  have oP : P.on := by rw [← hP]; exact pt_on x1 y1 z1
  have oQ : Q.on := by rw [← hQ]; exact pt_on x2 y2 z2
  refine enter (n := 65) (args := [W a, PV x1 y1 z1, W b, PV x2 y2 z2]) Try.func22 rfl rfl (Nat.le_of_ble_eq_true rfl) fun ac hs => ?_
  refine wp_seq ?_
  refine wp_region_lit ?_
  refine lstep (wpO_plain rfl (op_box hs none none (cs := (Wl a)) rfl rfl rfl rfl rfl rfl fun g1 ac w hs => ?_))
  refine lstep (wpO_plain rfl (op_box hs none none (cs := (PVl x1 y1 z1)) rfl rfl rfl rfl rfl rfl fun g2 ac w hs => ?_))
  refine lstep (wpO_plain rfl (op_box hs none none (cs := (Wl b)) rfl rfl rfl rfl rfl rfl fun g3 ac w hs => ?_))
  refine lstep (wpO_plain rfl (op_box hs none none (cs := (PVl x2 y2 z2)) rfl rfl rfl rfl rfl rfl fun g4 ac w hs => ?_))
  refine lstep (wpO_plain rfl (op_alloc hs none none (cs := (PVl 0 0 false)) rfl rfl Try.zeroValue41 (by kernel_rfl) rfl rfl fun g5 ac w hs => ?_))
  refine wpList_nil ?_
  refine then_n ?_
  refine wp_seq ?_
  replace hs : St 65 w0 [(4, true, .pointer (some ⟨g1, 0, none⟩)), (5, true, .pointer (some ⟨g2, 0, none⟩)), (6, true, .pointer (some ⟨g3, 0, none⟩)), (7, true, .pointer (some ⟨g4, 0, none⟩)), (8, true, .pointer (some ⟨g5, 0, none⟩))] [(true, g1, 24, (Wl a)), (true, g2, 41, (PVl x1 y1 z1)), (true, g3, 24, (Wl b)), (true, g4, 41, (PVl x2 y2 z2)), (true, g5, 41, (PVl 0 0 false))] ac _ := hs.re ⟨rfl, rfl, rfl, rfl, rfl, trivial⟩
  obtain ⟨u6, hu6, lu6⟩ : ∃ z0, wx P = z0 ∧ z0 < 2 ^ 256 := ⟨_, rfl, wx_lt P⟩
  obtain ⟨v7, hv7, lv7⟩ : ∃ z0, wy P = z0 ∧ z0 < 2 ^ 256 := ⟨_, rfl, wy_lt P⟩
  obtain ⟨s8, hs8, ls8⟩ : ∃ z0, wz P = z0 ∧ z0 < 2 ^ 256 := ⟨_, rfl, wz_lt P⟩
  obtain ⟨u9, hu9, lu9⟩ : ∃ z0, wx Q = z0 ∧ z0 < 2 ^ 256 := ⟨_, rfl, wx_lt Q⟩
  obtain ⟨v10, hv10, lv10⟩ : ∃ z0, wy Q = z0 ∧ z0 < 2 ^ 256 := ⟨_, rfl, wy_lt Q⟩
  obtain ⟨s11, hs11, ls11⟩ : ∃ z0, wz Q = z0 ∧ z0 < 2 ^ 256 := ⟨_, rfl, wz_lt Q⟩
  refine region_inv [([], [1, 2, 4, 5, 8, 9]), ([0], [2, 4, 5, 8, 9]), ([0, 1], [4, 5, 8, 9]), ([], [4, 5, 8, 9]), ([0, 1, 2, 3], [5, 8, 9]), ([0, 1, 2, 3, 4], [8, 9]), ([], [8, 9]), ([], [8, 9]), ([0, 1, 2, 3, 4, 5, 6, 7], [9]), ([0, 1, 2, 3, 4, 5, 6, 7, 8], [])] (fun L ac w => ∃ (g12 : Nat) (g13 : Nat), St 65 w0 [(16, L 0, PV x1 y1 z1), (17, L 1, PV (px P) (py P) (pz P)), (18, L 2, TV u6 v7 s8), (19, L 3, PV x2 y2 z2), (20, L 4, PV (px Q) (py Q) (pz Q)), (21, L 5, TV u9 v10 s11), (9, L 6, .pointer (some ⟨g12, 0, none⟩)), (10, L 7, .pointer (some ⟨g13, 0, none⟩)), (4, true, .pointer (some ⟨g1, 0, none⟩)), (5, true, .pointer (some ⟨g2, 0, none⟩)), (6, true, .pointer (some ⟨g3, 0, none⟩)), (7, true, .pointer (some ⟨g4, 0, none⟩)), (8, true, .pointer (some ⟨g5, 0, none⟩))] [(true, g1, 24, (Wl a)), (true, g2, 41, (PVl x1 y1 z1)), (true, g3, 24, (Wl b)), (true, g4, 41, (PVl x2 y2 z2)), (true, g5, 41, (PVl 0 0 false)), (L 6, g12, 72, (cond (L 8) (TVl u6 v7 s8) (TVl 0 0 0))), (L 7, g13, 72, (cond (L 9) (TVl u9 v10 s11) (TVl 0 0 0)))] ac w) (by kernel_rfl) (by kernel_rfl) ?_ ?_ ?_
  · exact ⟨0, 0, hs.drew.skip.skip.skip.skip.skip.skip.skip.skip.pad.pad⟩
  · refine ⟨?_, ?_, ?_, ?_, ?_, ?_, ?_, ?_, ?_, ?_, trivial⟩
    · intro L ac w hJ
      obtain ⟨g12, g13, hs⟩ := hJ
      refine wpO_plain rfl (op_load hs (some 0) 1 (v := PV x1 y1 z1) rfl rfl rfl rfl Try.isAgg41 Try.sizeOf41 rfl rfl fun ac hs => ?_)
      exact ⟨g12, g13, hs⟩
    · intro L ac w hJ
      obtain ⟨g12, g13, hs⟩ := hJ
      refine wpO_plain rfl (op_call (F := 26) hs (some 1) (v := PV (px P) (py P) (pz P)) rfl rfl rfl rfl (Try.call26 _) (taken_c x1 y1 z1 P a1 a2 hP) rfl fun ac w hs => ?_)
      exact ⟨g12, g13, hs⟩
    · intro L ac w hJ
      obtain ⟨g12, g13, hs⟩ := hJ
      refine wpO_plain rfl (op_call (F := 42) hs (some 2) (v := TV u6 v7 s8) rfl rfl rfl rfl (Try.call42 _) (weigh_c (px P) (py P) (pz P) u6 v7 s8 (px_lt P) (py_lt P) hu6 hv7 hs8) rfl fun ac w hs => ?_)
      exact ⟨g12, g13, hs⟩
    · intro L ac w hJ
      obtain ⟨g12, g13, hs⟩ := hJ
      refine wpO_plain rfl (op_load hs (some 3) 3 (v := PV x2 y2 z2) rfl rfl rfl rfl Try.isAgg41 Try.sizeOf41 rfl rfl fun ac hs => ?_)
      exact ⟨g12, g13, hs⟩
    · intro L ac w hJ
      obtain ⟨g12, g13, hs⟩ := hJ
      refine wpO_plain rfl (op_call (F := 26) hs (some 4) (v := PV (px Q) (py Q) (pz Q)) rfl rfl rfl rfl (Try.call26 _) (taken_c x2 y2 z2 Q b1 b2 hQ) rfl fun ac w hs => ?_)
      exact ⟨g12, g13, hs⟩
    · intro L ac w hJ
      obtain ⟨g12, g13, hs⟩ := hJ
      refine wpO_plain rfl (op_call (F := 42) hs (some 5) (v := TV u9 v10 s11) rfl rfl rfl rfl (Try.call42 _) (weigh_c (px Q) (py Q) (pz Q) u9 v10 s11 (px_lt Q) (py_lt Q) hu9 hv10 hs11) rfl fun ac w hs => ?_)
      exact ⟨g12, g13, hs⟩
    · intro L ac w hJ
      obtain ⟨g12, g13, hs⟩ := hJ
      refine wpO_plain rfl (op_alloc hs (some 6) (some 5) (cs := (TVl 0 0 0)) rfl rfl Try.zeroValue72 (by kernel_rfl) rfl rfl fun g12 ac w hs => ?_)
      exact ⟨g12, g13, hs⟩
    · intro L ac w hJ
      obtain ⟨g12, g13, hs⟩ := hJ
      refine wpO_plain rfl (op_alloc hs (some 7) (some 6) (cs := (TVl 0 0 0)) rfl rfl Try.zeroValue72 (by kernel_rfl) rfl rfl fun g13 ac w hs => ?_)
      exact ⟨g12, g13, hs⟩
    · intro L ac w hJ
      obtain ⟨g12, g13, hs⟩ := hJ
      refine wpO_plain rfl (op_store hs 5 (vs := (TVl u6 v7 s8)) rfl rfl rfl rfl rfl Try.sizeOf72 rfl rfl rfl rfl rfl fun w hs => ?_)
      exact ⟨g12, g13, hs⟩
    · intro L ac w hJ
      obtain ⟨g12, g13, hs⟩ := hJ
      refine wpO_plain rfl (op_store hs 6 (vs := (TVl u9 v10 s11)) rfl rfl rfl rfl rfl Try.sizeOf72 rfl rfl rfl rfl rfl fun w hs => ?_)
      exact ⟨g12, g13, hs⟩
  intro ac w hJ
  obtain ⟨g12, g13, hs⟩ := hJ
  replace hs : St 65 w0 [(16, true, PV x1 y1 z1), (17, true, PV (px P) (py P) (pz P)), (18, true, TV u6 v7 s8), (19, true, PV x2 y2 z2), (20, true, PV (px Q) (py Q) (pz Q)), (21, true, TV u9 v10 s11), (9, true, .pointer (some ⟨g12, 0, none⟩)), (10, true, .pointer (some ⟨g13, 0, none⟩)), (4, true, .pointer (some ⟨g1, 0, none⟩)), (5, true, .pointer (some ⟨g2, 0, none⟩)), (6, true, .pointer (some ⟨g3, 0, none⟩)), (7, true, .pointer (some ⟨g4, 0, none⟩)), (8, true, .pointer (some ⟨g5, 0, none⟩))] [(true, g1, 24, (Wl a)), (true, g2, 41, (PVl x1 y1 z1)), (true, g3, 24, (Wl b)), (true, g4, 41, (PVl x2 y2 z2)), (true, g5, 41, (PVl 0 0 false)), (true, g12, 72, (TVl u6 v7 s8)), (true, g13, 72, (TVl u9 v10 s11))] ac w := hs
  refine then_n ?_
  refine wp_seq ?_
  refine wp_region_lit ?_
  refine lstep (wpO_plain rfl (op_load hs none 5 (v := TV u6 v7 s8) rfl rfl rfl rfl Try.isAgg72 Try.sizeOf72 rfl rfl fun ac hs => ?_))
  refine lstep (wpO_plain rfl (op_load hs none 6 (v := TV u9 v10 s11) rfl rfl rfl rfl Try.isAgg72 Try.sizeOf72 rfl rfl fun ac hs => ?_))
  obtain ⟨X14, Y15, Z16, hX14, lX14, lY15, lZ16⟩ : ∃ zz0 zz1 zz2, sJ u6 v7 s8 u9 v10 s11 = (zz0, zz1, zz2) ∧ zz0 < 2 ^ 256 ∧ zz1 < 2 ^ 256 ∧ zz2 < 2 ^ 256 := sJ_lt u6 v7 s8 u9 v10 s11 lu6 lv7 ls8 lu9 lv10 ls11
  refine lstep (wpO_plain rfl (op_call (F := 43) hs none (v := TV X14 Y15 Z16) rfl rfl rfl rfl (Try.call43 _) (wplus_c u6 v7 s8 u9 v10 s11 X14 Y15 Z16 lu6 lv7 ls8 lu9 lv10 ls11 hX14) rfl fun ac w hs => ?_))
  refine lstep (wpO_plain rfl (op_alloc hs none none (cs := (TVl 0 0 0)) rfl rfl Try.zeroValue72 (by kernel_rfl) rfl rfl fun g17 ac w hs => ?_))
  refine lstep (wpO_plain rfl (op_store hs 7 (vs := (TVl X14 Y15 Z16)) rfl rfl rfl rfl rfl Try.sizeOf72 rfl rfl rfl rfl rfl fun w hs => ?_))
  refine wpList_nil ?_
  refine then_n ?_
  refine wp_seq ?_
  refine wp_region_lit ?_
  refine lstep (wpO_plain rfl (op_call (F := 36) hs none (v := PV 0 0 true) rfl rfl rfl rfl (Try.call36 _) zero_c rfl fun ac w hs => ?_))
  refine lstep (wpO_plain rfl (op_call (F := 42) hs none (v := TV 1 1 0) rfl rfl rfl rfl (Try.call42 _) (weigh_c 0 0 true 1 1 0 (by decide) (by decide) rfl rfl rfl) rfl fun ac w hs => ?_))
  refine lstep (wpO_plain rfl (op_alloc hs none none (cs := (TVl 0 0 0)) rfl rfl Try.zeroValue72 (by kernel_rfl) rfl rfl fun g18 ac w hs => ?_))
  refine lstep (wpO_plain rfl (op_store hs 8 (vs := (TVl 1 1 0)) rfl rfl rfl rfl rfl Try.sizeOf72 rfl rfl rfl rfl rfl fun w hs => ?_))
  refine wpList_nil ?_
  refine then_n ?_
  refine wp_seq ?_
  refine wp_seq ?_
  replace hs : St 65 w0 [(4, true, .pointer (some ⟨g1, 0, none⟩)), (6, true, .pointer (some ⟨g3, 0, none⟩)), (8, true, .pointer (some ⟨g5, 0, none⟩)), (9, true, .pointer (some ⟨g12, 0, none⟩)), (10, true, .pointer (some ⟨g13, 0, none⟩)), (11, true, .pointer (some ⟨g17, 0, none⟩)), (12, true, .pointer (some ⟨g18, 0, none⟩))] [(true, g1, 24, (Wl a)), (true, g2, 41, (PVl x1 y1 z1)), (true, g3, 24, (Wl b)), (true, g4, 41, (PVl x2 y2 z2)), (true, g5, 41, (PVl 0 0 false)), (true, g12, 72, (TVl u6 v7 s8)), (true, g13, 72, (TVl u9 v10 s11)), (true, g17, 72, (TVl X14 Y15 Z16)), (true, g18, 72, (TVl 1 1 0))] ac _ := hs.re ⟨rfl, rfl, rfl, rfl, rfl, rfl, rfl, trivial⟩
  have ll19 := ln_le a 256 ha
  have ll20 := ln_le b 256 hb
  refine region_inv [([], [1, 3, 4, 5, 6]), ([0], [3, 4, 5, 6]), ([], [3, 4, 5, 6]), ([0, 1, 2], [4, 5, 6]), ([0, 1, 2, 3], [5, 6]), ([0, 1, 2, 3, 4], [6]), ([0, 1, 2, 3, 4, 5], [])] (fun L ac w => St 65 w0 [(27, L 0, W a), (28, L 1, .int .i64 ((ln a : Nat) : Int)), (29, L 2, W b), (30, L 3, .int .i64 ((ln b : Nat) : Int)), (31, L 4, .int .i64 ((max (ln a) (ln b) : Nat) : Int)), (32, L 5, .int .i64 (((max (ln a) (ln b) : Nat) : Int) - 1)), (13, L 6, .int .i64 (((max (ln a) (ln b) : Nat) : Int) - 1)), (4, true, .pointer (some ⟨g1, 0, none⟩)), (6, true, .pointer (some ⟨g3, 0, none⟩)), (8, true, .pointer (some ⟨g5, 0, none⟩)), (9, true, .pointer (some ⟨g12, 0, none⟩)), (10, true, .pointer (some ⟨g13, 0, none⟩)), (11, true, .pointer (some ⟨g17, 0, none⟩)), (12, true, .pointer (some ⟨g18, 0, none⟩))] [(true, g1, 24, (Wl a)), (true, g2, 41, (PVl x1 y1 z1)), (true, g3, 24, (Wl b)), (true, g4, 41, (PVl x2 y2 z2)), (true, g5, 41, (PVl 0 0 false)), (true, g12, 72, (TVl u6 v7 s8)), (true, g13, 72, (TVl u9 v10 s11)), (true, g17, 72, (TVl X14 Y15 Z16)), (true, g18, 72, (TVl 1 1 0))] ac w) (by kernel_rfl) (by kernel_rfl) ?_ ?_ ?_
  · exact hs.drew.skip.skip.skip.skip.skip.skip.skip
  · refine ⟨?_, ?_, ?_, ?_, ?_, ?_, ?_, trivial⟩
    · intro L ac w hJ
      have hs := hJ
      refine wpO_plain rfl (op_load hs (some 0) 0 (v := W a) rfl rfl rfl rfl Try.isAgg24 Try.sizeOf24 rfl rfl fun ac hs => ?_)
      exact hs
    · intro L ac w hJ
      have hs := hJ
      refine wpO_plain rfl (op_call (F := 44) hs (some 1) (v := .int .i64 ((ln a : Nat) : Int)) rfl rfl rfl rfl (Try.call44 _) (fun w => len_any w a ha) rfl fun ac w hs => ?_)
      exact hs
    · intro L ac w hJ
      have hs := hJ
      refine wpO_plain rfl (op_load hs (some 2) 2 (v := W b) rfl rfl rfl rfl Try.isAgg24 Try.sizeOf24 rfl rfl fun ac hs => ?_)
      exact hs
    · intro L ac w hJ
      have hs := hJ
      refine wpO_plain rfl (op_call (F := 44) hs (some 3) (v := .int .i64 ((ln b : Nat) : Int)) rfl rfl rfl rfl (Try.call44 _) (fun w => len_any w b hb) rfl fun ac w hs => ?_)
      exact hs
    · intro L ac w hJ
      have hs := hJ
      refine wpO_plain rfl (op_blt hs (some 4) (v := .int .i64 ((max (ln a) (ln b) : Nat) : Int)) rfl rfl rfl blt_maxN rfl fun ac hs => ?_)
      exact hs
    · intro L ac w hJ
      have hs := hJ
      refine wpO_plain rfl (op_bin hs (some 5) (v := .int .i64 (((max (ln a) (ln b) : Nat) : Int) - 1)) rfl rfl rfl rfl (fun _ => rfl) (bin_subP (x := max (ln a) (ln b)) (by omega)) rfl fun ac hs => ?_)
      exact hs
    · intro L ac w hJ
      have hs := hJ
      refine wpO_plain rfl (op_assign hs (some 6) rfl rfl rfl rfl fun ac hs => ?_)
      exact hs
  intro ac w hJ
  replace hs : St 65 w0 [(27, true, W a), (28, true, .int .i64 ((ln a : Nat) : Int)), (29, true, W b), (30, true, .int .i64 ((ln b : Nat) : Int)), (31, true, .int .i64 ((max (ln a) (ln b) : Nat) : Int)), (32, true, .int .i64 (((max (ln a) (ln b) : Nat) : Int) - 1)), (13, true, .int .i64 (((max (ln a) (ln b) : Nat) : Int) - 1)), (4, true, .pointer (some ⟨g1, 0, none⟩)), (6, true, .pointer (some ⟨g3, 0, none⟩)), (8, true, .pointer (some ⟨g5, 0, none⟩)), (9, true, .pointer (some ⟨g12, 0, none⟩)), (10, true, .pointer (some ⟨g13, 0, none⟩)), (11, true, .pointer (some ⟨g17, 0, none⟩)), (12, true, .pointer (some ⟨g18, 0, none⟩))] [(true, g1, 24, (Wl a)), (true, g2, 41, (PVl x1 y1 z1)), (true, g3, 24, (Wl b)), (true, g4, 41, (PVl x2 y2 z2)), (true, g5, 41, (PVl 0 0 false)), (true, g12, 72, (TVl u6 v7 s8)), (true, g13, 72, (TVl u9 v10 s11)), (true, g17, 72, (TVl X14 Y15 Z16)), (true, g18, 72, (TVl 1 1 0))] ac w := hJ
  refine then_n ?_
  refine wp_block ?_
  refine wp_loop_m (fun μ ac w => ∃ (k : Nat) (ox : Nat) (oy : Nat) (oz : Nat), (k) = μ ∧ (k ≤ 256) ∧ (JN ox oy oz (EM.Pt.add (EM.nmul (a / 2 ^ k) P) (EM.nmul (b / 2 ^ k) Q))) ∧ (ox < 2 ^ 256) ∧ (oy < 2 ^ 256) ∧ (oz < 2 ^ 256) ∧ St 65 w0 [(4, true, .pointer (some ⟨g1, 0, none⟩)), (6, true, .pointer (some ⟨g3, 0, none⟩)), (8, true, .pointer (some ⟨g5, 0, none⟩)), (9, true, .pointer (some ⟨g12, 0, none⟩)), (10, true, .pointer (some ⟨g13, 0, none⟩)), (11, true, .pointer (some ⟨g17, 0, none⟩)), (12, true, .pointer (some ⟨g18, 0, none⟩)), (13, true, .int .i64 (((k : Nat) : Int) - 1))] [(true, g1, 24, (Wl a)), (true, g2, 41, (PVl x1 y1 z1)), (true, g3, 24, (Wl b)), (true, g4, 41, (PVl x2 y2 z2)), (true, g5, 41, (PVl 0 0 false)), (true, g12, 72, (TVl u6 v7 s8)), (true, g13, 72, (TVl u9 v10 s11)), (true, g17, 72, (TVl X14 Y15 Z16)), (true, g18, 72, (TVl ox oy oz))] ac w) ?_ ?_
  · exact ⟨_, (max (ln a) (ln b)), 1, 1, 0, rfl, (lenmax ha hb).1, (jn_start (lenmax ha hb).2.1 (lenmax ha hb).2.2), (by decide), (by decide), (by decide), (hs.re ⟨rfl, rfl, rfl, rfl, rfl, rfl, rfl, rfl, trivial⟩)⟩
  intro μ ac w ⟨k, ox, oy, oz, hμ, hk, hE, lx, ly, lz, hs⟩
  refine wp_seq ?_
  refine wp_seq ?_
  refine wp_region_lit ?_
  refine lstep (wpO_plain rfl (op_move hs none rfl rfl rfl rfl fun ac hs => ?_))
  refine lstep (wpO_plain rfl (op_bin hs none (v := .bool (decide (1 ≤ k))) rfl rfl rfl rfl (fun _ => rfl) bin_geqP rfl fun ac hs => ?_))
  refine wpList_nil ?_
  refine then_n ?_
  refine wp_cond_split (hs.ev rfl) (fun hc => ?_) (fun hc => ?_)
  · skip
    have hp21 := of_decide_eq_true hc
    replace hs := hs.re (fs' := [(4, true, .pointer (some ⟨g1, 0, none⟩)), (6, true, .pointer (some ⟨g3, 0, none⟩)), (8, true, .pointer (some ⟨g5, 0, none⟩)), (9, true, .pointer (some ⟨g12, 0, none⟩)), (10, true, .pointer (some ⟨g13, 0, none⟩)), (11, true, .pointer (some ⟨g17, 0, none⟩)), (12, true, .pointer (some ⟨g18, 0, none⟩)), (13, true, .int .i64 ((k - 1 : Nat) : Int)), (33, true, .int .i64 (((k : Nat) : Int) - 1)), (34, true, .bool (decide (1 ≤ k)))]) ⟨rfl, rfl, rfl, rfl, rfl, rfl, rfl, congrArg some (pre_nat hp21), rfl, rfl, trivial⟩
    refine wp_skip ?_
    refine then_n ?_
    refine wp_seq ?_
    refine wp_block ?_
    refine wp_seq ?_
    refine wp_region_lit ?_
    refine lstep (wpO_plain rfl (op_load hs none 8 (v := TV ox oy oz) rfl rfl rfl rfl Try.isAgg72 Try.sizeOf72 rfl rfl fun ac hs => ?_))
    obtain ⟨X22, Y23, Z24, hX22, lX22, lY23, lZ24⟩ : ∃ zz0 zz1 zz2, dJ ox oy oz = (zz0, zz1, zz2) ∧ zz0 < 2 ^ 256 ∧ zz1 < 2 ^ 256 ∧ zz2 < 2 ^ 256 := dJ_lt ox oy oz
    refine lstep (wpO_plain rfl (op_call (F := 45) hs none (v := TV X22 Y23 Z24) rfl rfl rfl rfl (Try.call45 _) (doubled_c ox oy oz X22 Y23 Z24 lx ly lz hX22) rfl fun ac w hs => ?_))
    refine lstep (wpO_plain rfl (op_store hs 8 (vs := (TVl X22 Y23 Z24)) rfl rfl rfl rfl rfl Try.sizeOf72 rfl rfl rfl rfl rfl fun w hs => ?_))
    refine wpList_nil ?_
    refine then_n ?_
    refine wp_seq ?_
    by_cases hq25 : a / 2 ^ (k - 1) % 2 = 1
    · skip
      by_cases hq26 : b / 2 ^ (k - 1) % 2 = 1
      · skip
        replace hs : St 65 w0 [(4, true, .pointer (some ⟨g1, 0, none⟩)), (6, true, .pointer (some ⟨g3, 0, none⟩)), (8, true, .pointer (some ⟨g5, 0, none⟩)), (9, true, .pointer (some ⟨g12, 0, none⟩)), (10, true, .pointer (some ⟨g13, 0, none⟩)), (11, true, .pointer (some ⟨g17, 0, none⟩)), (12, true, .pointer (some ⟨g18, 0, none⟩)), (13, true, .int .i64 ((k - 1 : Nat) : Int))] [(true, g1, 24, (Wl a)), (true, g2, 41, (PVl x1 y1 z1)), (true, g3, 24, (Wl b)), (true, g4, 41, (PVl x2 y2 z2)), (true, g5, 41, (PVl 0 0 false)), (true, g12, 72, (TVl u6 v7 s8)), (true, g13, 72, (TVl u9 v10 s11)), (true, g17, 72, (TVl X14 Y15 Z16)), (true, g18, 72, (TVl X22 Y23 Z24))] ac _ := hs.re ⟨rfl, rfl, rfl, rfl, rfl, rfl, rfl, rfl, trivial⟩
        refine region_inv [([], [2, 5, 6, 7]), ([], [2, 5, 6, 7]), ([0, 1], [5, 6, 7]), ([], [5, 6, 7]), ([], [5, 6, 7]), ([0, 1, 2, 3, 4], [6, 7]), ([0, 1, 2, 3, 4, 5], [7]), ([0, 1, 2, 3, 4, 5, 6], [])] (fun L ac w => St 65 w0 [(39, L 0, W a), (40, L 1, .int .i64 ((k - 1 : Nat) : Int)), (41, L 2, .bool true), (42, L 3, W b), (43, L 4, .int .i64 ((k - 1 : Nat) : Int)), (44, L 5, .bool true), (14, L 6, .bool true), (15, L 7, .bool true), (4, true, .pointer (some ⟨g1, 0, none⟩)), (6, true, .pointer (some ⟨g3, 0, none⟩)), (8, true, .pointer (some ⟨g5, 0, none⟩)), (9, true, .pointer (some ⟨g12, 0, none⟩)), (10, true, .pointer (some ⟨g13, 0, none⟩)), (11, true, .pointer (some ⟨g17, 0, none⟩)), (12, true, .pointer (some ⟨g18, 0, none⟩)), (13, true, .int .i64 ((k - 1 : Nat) : Int))] [(true, g1, 24, (Wl a)), (true, g2, 41, (PVl x1 y1 z1)), (true, g3, 24, (Wl b)), (true, g4, 41, (PVl x2 y2 z2)), (true, g5, 41, (PVl 0 0 false)), (true, g12, 72, (TVl u6 v7 s8)), (true, g13, 72, (TVl u9 v10 s11)), (true, g17, 72, (TVl X14 Y15 Z16)), (true, g18, 72, (TVl X22 Y23 Z24))] ac w) (by kernel_rfl) (by kernel_rfl) ?_ ?_ ?_
        · exact hs.drew.skip.skip.skip.skip.skip.skip.skip.skip
        · refine ⟨?_, ?_, ?_, ?_, ?_, ?_, ?_, ?_, trivial⟩
          · intro L ac w hJ
            have hs := hJ
            refine wpO_plain rfl (op_load hs (some 0) 0 (v := W a) rfl rfl rfl rfl Try.isAgg24 Try.sizeOf24 rfl rfl fun ac hs => ?_)
            exact hs
          · intro L ac w hJ
            have hs := hJ
            refine wpO_plain rfl (op_move hs (some 1) rfl rfl rfl rfl fun ac hs => ?_)
            exact hs
          · intro L ac w hJ
            have hs := hJ
            refine wpO_plain rfl (op_call (F := 46) hs (some 2) (v := .bool true) rfl rfl rfl rfl (Try.call46 _) (pbit_c a (k - 1) true ha (show k - 1 < 256 by omega) (decide_eq_true hq25)) rfl fun ac w hs => ?_)
            exact hs
          · intro L ac w hJ
            have hs := hJ
            refine wpO_plain rfl (op_load hs (some 3) 2 (v := W b) rfl rfl rfl rfl Try.isAgg24 Try.sizeOf24 rfl rfl fun ac hs => ?_)
            exact hs
          · intro L ac w hJ
            have hs := hJ
            refine wpO_plain rfl (op_move hs (some 4) rfl rfl rfl rfl fun ac hs => ?_)
            exact hs
          · intro L ac w hJ
            have hs := hJ
            refine wpO_plain rfl (op_call (F := 46) hs (some 5) (v := .bool true) rfl rfl rfl rfl (Try.call46 _) (pbit_c b (k - 1) true hb (show k - 1 < 256 by omega) (decide_eq_true hq26)) rfl fun ac w hs => ?_)
            exact hs
          · intro L ac w hJ
            have hs := hJ
            refine wpO_plain rfl (op_assign hs (some 6) rfl rfl rfl rfl fun ac hs => ?_)
            exact hs
          · intro L ac w hJ
            have hs := hJ
            refine wpO_plain rfl (op_assign hs (some 7) rfl rfl rfl rfl fun ac hs => ?_)
            exact hs
        intro ac w hJ
        replace hs : St 65 w0 [(39, true, W a), (40, true, .int .i64 ((k - 1 : Nat) : Int)), (41, true, .bool true), (42, true, W b), (43, true, .int .i64 ((k - 1 : Nat) : Int)), (44, true, .bool true), (14, true, .bool true), (15, true, .bool true), (4, true, .pointer (some ⟨g1, 0, none⟩)), (6, true, .pointer (some ⟨g3, 0, none⟩)), (8, true, .pointer (some ⟨g5, 0, none⟩)), (9, true, .pointer (some ⟨g12, 0, none⟩)), (10, true, .pointer (some ⟨g13, 0, none⟩)), (11, true, .pointer (some ⟨g17, 0, none⟩)), (12, true, .pointer (some ⟨g18, 0, none⟩)), (13, true, .int .i64 ((k - 1 : Nat) : Int))] [(true, g1, 24, (Wl a)), (true, g2, 41, (PVl x1 y1 z1)), (true, g3, 24, (Wl b)), (true, g4, 41, (PVl x2 y2 z2)), (true, g5, 41, (PVl 0 0 false)), (true, g12, 72, (TVl u6 v7 s8)), (true, g13, 72, (TVl u9 v10 s11)), (true, g17, 72, (TVl X14 Y15 Z16)), (true, g18, 72, (TVl X22 Y23 Z24))] ac w := hJ
        refine then_n ?_
        refine wp_block ?_
        refine wp_seq ?_
        refine wp_region_lit ?_
        refine lstep (wpO_plain rfl (op_move hs none rfl rfl rfl rfl fun ac hs => ?_))
        refine lstep (wpO_plain rfl (op_move hs none rfl rfl rfl rfl fun ac hs => ?_))
        refine lstep (wpO_in hs rfl rfl rfl (op_move hs none rfl rfl rfl rfl fun ac hs => ?_))
        refine lstep (wpO_plain rfl (op_pickT hs none rfl rfl rfl rfl rfl fun ac hs => ?_))
        refine lstep (wpO_plain rfl (op_assign hs none rfl rfl rfl rfl fun ac hs => ?_))
        refine wpList_nil ?_
        refine then_n ?_
        refine wp_cond_true (hs.ev rfl) ?_
        refine wp_region_lit ?_
        refine lstep (wpO_plain rfl (op_load hs none 8 (v := TV X22 Y23 Z24) rfl rfl rfl rfl Try.isAgg72 Try.sizeOf72 rfl rfl fun ac hs => ?_))
        refine lstep (wpO_plain rfl (op_load hs none 7 (v := TV X14 Y15 Z16) rfl rfl rfl rfl Try.isAgg72 Try.sizeOf72 rfl rfl fun ac hs => ?_))
        obtain ⟨X27, Y28, Z29, hX27, lX27, lY28, lZ29⟩ : ∃ zz0 zz1 zz2, sJ X22 Y23 Z24 X14 Y15 Z16 = (zz0, zz1, zz2) ∧ zz0 < 2 ^ 256 ∧ zz1 < 2 ^ 256 ∧ zz2 < 2 ^ 256 := sJ_lt X22 Y23 Z24 X14 Y15 Z16 lX22 lY23 lZ24 lX14 lY15 lZ16
        refine lstep (wpO_plain rfl (op_call (F := 43) hs none (v := TV X27 Y28 Z29) rfl rfl rfl rfl (Try.call43 _) (wplus_c X22 Y23 Z24 X14 Y15 Z16 X27 Y28 Z29 lX22 lY23 lZ24 lX14 lY15 lZ16 hX27) rfl fun ac w hs => ?_))
        refine lstep (wpO_plain rfl (op_store hs 8 (vs := (TVl X27 Y28 Z29)) rfl rfl rfl rfl rfl Try.sizeOf72 rfl rfl rfl rfl rfl fun w hs => ?_))
        refine wpList_nil ?_
        refine blk_n ?_
        refine blk_n ?_
        refine then_n ?_
        replace hs : St 65 w0 [(4, true, .pointer (some ⟨g1, 0, none⟩)), (6, true, .pointer (some ⟨g3, 0, none⟩)), (8, true, .pointer (some ⟨g5, 0, none⟩)), (9, true, .pointer (some ⟨g12, 0, none⟩)), (10, true, .pointer (some ⟨g13, 0, none⟩)), (11, true, .pointer (some ⟨g17, 0, none⟩)), (12, true, .pointer (some ⟨g18, 0, none⟩)), (13, true, .int .i64 ((k - 1 : Nat) : Int))] [(true, g1, 24, (Wl a)), (true, g2, 41, (PVl x1 y1 z1)), (true, g3, 24, (Wl b)), (true, g4, 41, (PVl x2 y2 z2)), (true, g5, 41, (PVl 0 0 false)), (true, g12, 72, (TVl u6 v7 s8)), (true, g13, 72, (TVl u9 v10 s11)), (true, g17, 72, (TVl X14 Y15 Z16)), (true, g18, 72, (TVl X27 Y28 Z29))] ac _ := hs.re ⟨rfl, rfl, rfl, rfl, rfl, rfl, rfl, rfl, trivial⟩
        refine wp_region_lit ?_
        refine lstep (wpO_plain rfl (op_move hs none rfl rfl rfl rfl fun ac hs => ?_))
        refine lstep (wpO_plain rfl (op_bin hs none (v := .int .i64 (((k - 1 : Nat) : Int) - 1)) rfl rfl rfl rfl (fun _ => rfl) (bin_subP (x := k - 1) (by omega)) rfl fun ac hs => ?_))
        refine lstep (wpO_plain rfl (op_assign hs none rfl rfl rfl rfl fun ac hs => ?_))
        refine wpList_nil ?_
        refine then_n ?_
        exact ⟨_, ⟨(k - 1), X27, Y28, Z29, rfl, (by omega), (bothTT oP oQ hp21 hq25 hq26 (sJ_jn (dJ_jn hE hX22) (sJ_jn (weigh_jn oP hu6 hv7 hs8) (weigh_jn oQ hu9 hv10 hs11) hX14) hX27)), lX27, lY28, lZ29, (hs.re ⟨rfl, rfl, rfl, rfl, rfl, rfl, rfl, rfl, trivial⟩)⟩, (by omega)⟩
      · skip
        replace hs : St 65 w0 [(4, true, .pointer (some ⟨g1, 0, none⟩)), (6, true, .pointer (some ⟨g3, 0, none⟩)), (8, true, .pointer (some ⟨g5, 0, none⟩)), (9, true, .pointer (some ⟨g12, 0, none⟩)), (10, true, .pointer (some ⟨g13, 0, none⟩)), (11, true, .pointer (some ⟨g17, 0, none⟩)), (12, true, .pointer (some ⟨g18, 0, none⟩)), (13, true, .int .i64 ((k - 1 : Nat) : Int))] [(true, g1, 24, (Wl a)), (true, g2, 41, (PVl x1 y1 z1)), (true, g3, 24, (Wl b)), (true, g4, 41, (PVl x2 y2 z2)), (true, g5, 41, (PVl 0 0 false)), (true, g12, 72, (TVl u6 v7 s8)), (true, g13, 72, (TVl u9 v10 s11)), (true, g17, 72, (TVl X14 Y15 Z16)), (true, g18, 72, (TVl X22 Y23 Z24))] ac _ := hs.re ⟨rfl, rfl, rfl, rfl, rfl, rfl, rfl, rfl, trivial⟩
        refine region_inv [([], [2, 5, 6, 7]), ([], [2, 5, 6, 7]), ([0, 1], [5, 6, 7]), ([], [5, 6, 7]), ([], [5, 6, 7]), ([0, 1, 2, 3, 4], [6, 7]), ([0, 1, 2, 3, 4, 5], [7]), ([0, 1, 2, 3, 4, 5, 6], [])] (fun L ac w => St 65 w0 [(39, L 0, W a), (40, L 1, .int .i64 ((k - 1 : Nat) : Int)), (41, L 2, .bool true), (42, L 3, W b), (43, L 4, .int .i64 ((k - 1 : Nat) : Int)), (44, L 5, .bool false), (14, L 6, .bool true), (15, L 7, .bool false), (4, true, .pointer (some ⟨g1, 0, none⟩)), (6, true, .pointer (some ⟨g3, 0, none⟩)), (8, true, .pointer (some ⟨g5, 0, none⟩)), (9, true, .pointer (some ⟨g12, 0, none⟩)), (10, true, .pointer (some ⟨g13, 0, none⟩)), (11, true, .pointer (some ⟨g17, 0, none⟩)), (12, true, .pointer (some ⟨g18, 0, none⟩)), (13, true, .int .i64 ((k - 1 : Nat) : Int))] [(true, g1, 24, (Wl a)), (true, g2, 41, (PVl x1 y1 z1)), (true, g3, 24, (Wl b)), (true, g4, 41, (PVl x2 y2 z2)), (true, g5, 41, (PVl 0 0 false)), (true, g12, 72, (TVl u6 v7 s8)), (true, g13, 72, (TVl u9 v10 s11)), (true, g17, 72, (TVl X14 Y15 Z16)), (true, g18, 72, (TVl X22 Y23 Z24))] ac w) (by kernel_rfl) (by kernel_rfl) ?_ ?_ ?_
        · exact hs.drew.skip.skip.skip.skip.skip.skip.skip.skip
        · refine ⟨?_, ?_, ?_, ?_, ?_, ?_, ?_, ?_, trivial⟩
          · intro L ac w hJ
            have hs := hJ
            refine wpO_plain rfl (op_load hs (some 0) 0 (v := W a) rfl rfl rfl rfl Try.isAgg24 Try.sizeOf24 rfl rfl fun ac hs => ?_)
            exact hs
          · intro L ac w hJ
            have hs := hJ
            refine wpO_plain rfl (op_move hs (some 1) rfl rfl rfl rfl fun ac hs => ?_)
            exact hs
          · intro L ac w hJ
            have hs := hJ
            refine wpO_plain rfl (op_call (F := 46) hs (some 2) (v := .bool true) rfl rfl rfl rfl (Try.call46 _) (pbit_c a (k - 1) true ha (show k - 1 < 256 by omega) (decide_eq_true hq25)) rfl fun ac w hs => ?_)
            exact hs
          · intro L ac w hJ
            have hs := hJ
            refine wpO_plain rfl (op_load hs (some 3) 2 (v := W b) rfl rfl rfl rfl Try.isAgg24 Try.sizeOf24 rfl rfl fun ac hs => ?_)
            exact hs
          · intro L ac w hJ
            have hs := hJ
            refine wpO_plain rfl (op_move hs (some 4) rfl rfl rfl rfl fun ac hs => ?_)
            exact hs
          · intro L ac w hJ
            have hs := hJ
            refine wpO_plain rfl (op_call (F := 46) hs (some 5) (v := .bool false) rfl rfl rfl rfl (Try.call46 _) (pbit_c b (k - 1) false hb (show k - 1 < 256 by omega) (decide_eq_false hq26)) rfl fun ac w hs => ?_)
            exact hs
          · intro L ac w hJ
            have hs := hJ
            refine wpO_plain rfl (op_assign hs (some 6) rfl rfl rfl rfl fun ac hs => ?_)
            exact hs
          · intro L ac w hJ
            have hs := hJ
            refine wpO_plain rfl (op_assign hs (some 7) rfl rfl rfl rfl fun ac hs => ?_)
            exact hs
        intro ac w hJ
        replace hs : St 65 w0 [(39, true, W a), (40, true, .int .i64 ((k - 1 : Nat) : Int)), (41, true, .bool true), (42, true, W b), (43, true, .int .i64 ((k - 1 : Nat) : Int)), (44, true, .bool false), (14, true, .bool true), (15, true, .bool false), (4, true, .pointer (some ⟨g1, 0, none⟩)), (6, true, .pointer (some ⟨g3, 0, none⟩)), (8, true, .pointer (some ⟨g5, 0, none⟩)), (9, true, .pointer (some ⟨g12, 0, none⟩)), (10, true, .pointer (some ⟨g13, 0, none⟩)), (11, true, .pointer (some ⟨g17, 0, none⟩)), (12, true, .pointer (some ⟨g18, 0, none⟩)), (13, true, .int .i64 ((k - 1 : Nat) : Int))] [(true, g1, 24, (Wl a)), (true, g2, 41, (PVl x1 y1 z1)), (true, g3, 24, (Wl b)), (true, g4, 41, (PVl x2 y2 z2)), (true, g5, 41, (PVl 0 0 false)), (true, g12, 72, (TVl u6 v7 s8)), (true, g13, 72, (TVl u9 v10 s11)), (true, g17, 72, (TVl X14 Y15 Z16)), (true, g18, 72, (TVl X22 Y23 Z24))] ac w := hJ
        refine then_n ?_
        refine wp_block ?_
        refine wp_seq ?_
        refine wp_region_lit ?_
        refine lstep (wpO_plain rfl (op_move hs none rfl rfl rfl rfl fun ac hs => ?_))
        refine lstep (wpO_plain rfl (op_move hs none rfl rfl rfl rfl fun ac hs => ?_))
        refine lstep (wpO_in hs rfl rfl rfl (op_move hs none rfl rfl rfl rfl fun ac hs => ?_))
        refine lstep (wpO_plain rfl (op_pickT hs none rfl rfl rfl rfl rfl fun ac hs => ?_))
        refine lstep (wpO_plain rfl (op_assign hs none rfl rfl rfl rfl fun ac hs => ?_))
        refine wpList_nil ?_
        refine then_n ?_
        refine wp_cond_false (hs.ev rfl) ?_
        refine wp_seq ?_
        refine wp_region_lit ?_
        refine lstep (wpO_plain rfl (op_move hs none rfl rfl rfl rfl fun ac hs => ?_))
        refine lstep (wpO_plain rfl (op_assign hs none rfl rfl rfl rfl fun ac hs => ?_))
        refine wpList_nil ?_
        refine then_n ?_
        refine wp_cond_true (hs.ev rfl) ?_
        replace hs : St 65 w0 [(4, true, .pointer (some ⟨g1, 0, none⟩)), (6, true, .pointer (some ⟨g3, 0, none⟩)), (8, true, .pointer (some ⟨g5, 0, none⟩)), (9, true, .pointer (some ⟨g12, 0, none⟩)), (10, true, .pointer (some ⟨g13, 0, none⟩)), (11, true, .pointer (some ⟨g17, 0, none⟩)), (12, true, .pointer (some ⟨g18, 0, none⟩)), (13, true, .int .i64 ((k - 1 : Nat) : Int))] [(true, g1, 24, (Wl a)), (true, g2, 41, (PVl x1 y1 z1)), (true, g3, 24, (Wl b)), (true, g4, 41, (PVl x2 y2 z2)), (true, g5, 41, (PVl 0 0 false)), (true, g12, 72, (TVl u6 v7 s8)), (true, g13, 72, (TVl u9 v10 s11)), (true, g17, 72, (TVl X14 Y15 Z16)), (true, g18, 72, (TVl X22 Y23 Z24))] ac _ := hs.re ⟨rfl, rfl, rfl, rfl, rfl, rfl, rfl, rfl, trivial⟩
        refine wp_region_lit ?_
        refine lstep (wpO_plain rfl (op_load hs none 8 (v := TV X22 Y23 Z24) rfl rfl rfl rfl Try.isAgg72 Try.sizeOf72 rfl rfl fun ac hs => ?_))
        refine lstep (wpO_plain rfl (op_load hs none 5 (v := TV u6 v7 s8) rfl rfl rfl rfl Try.isAgg72 Try.sizeOf72 rfl rfl fun ac hs => ?_))
        obtain ⟨X30, Y31, Z32, hX30, lX30, lY31, lZ32⟩ : ∃ zz0 zz1 zz2, sJ X22 Y23 Z24 u6 v7 s8 = (zz0, zz1, zz2) ∧ zz0 < 2 ^ 256 ∧ zz1 < 2 ^ 256 ∧ zz2 < 2 ^ 256 := sJ_lt X22 Y23 Z24 u6 v7 s8 lX22 lY23 lZ24 lu6 lv7 ls8
        refine lstep (wpO_plain rfl (op_call (F := 43) hs none (v := TV X30 Y31 Z32) rfl rfl rfl rfl (Try.call43 _) (wplus_c X22 Y23 Z24 u6 v7 s8 X30 Y31 Z32 lX22 lY23 lZ24 lu6 lv7 ls8 hX30) rfl fun ac w hs => ?_))
        refine lstep (wpO_plain rfl (op_store hs 8 (vs := (TVl X30 Y31 Z32)) rfl rfl rfl rfl rfl Try.sizeOf72 rfl rfl rfl rfl rfl fun w hs => ?_))
        refine wpList_nil ?_
        refine blk_n ?_
        refine blk_n ?_
        refine then_n ?_
        refine wp_region_lit ?_
        refine lstep (wpO_plain rfl (op_move hs none rfl rfl rfl rfl fun ac hs => ?_))
        refine lstep (wpO_plain rfl (op_bin hs none (v := .int .i64 (((k - 1 : Nat) : Int) - 1)) rfl rfl rfl rfl (fun _ => rfl) (bin_subP (x := k - 1) (by omega)) rfl fun ac hs => ?_))
        refine lstep (wpO_plain rfl (op_assign hs none rfl rfl rfl rfl fun ac hs => ?_))
        refine wpList_nil ?_
        refine then_n ?_
        exact ⟨_, ⟨(k - 1), X30, Y31, Z32, rfl, (by omega), (bothTF oP oQ hp21 hq25 hq26 (sJ_jn (dJ_jn hE hX22) (weigh_jn oP hu6 hv7 hs8) hX30)), lX30, lY31, lZ32, (hs.re ⟨rfl, rfl, rfl, rfl, rfl, rfl, rfl, rfl, trivial⟩)⟩, (by omega)⟩
    · skip
      by_cases hq33 : b / 2 ^ (k - 1) % 2 = 1
      · skip
        replace hs : St 65 w0 [(4, true, .pointer (some ⟨g1, 0, none⟩)), (6, true, .pointer (some ⟨g3, 0, none⟩)), (8, true, .pointer (some ⟨g5, 0, none⟩)), (9, true, .pointer (some ⟨g12, 0, none⟩)), (10, true, .pointer (some ⟨g13, 0, none⟩)), (11, true, .pointer (some ⟨g17, 0, none⟩)), (12, true, .pointer (some ⟨g18, 0, none⟩)), (13, true, .int .i64 ((k - 1 : Nat) : Int))] [(true, g1, 24, (Wl a)), (true, g2, 41, (PVl x1 y1 z1)), (true, g3, 24, (Wl b)), (true, g4, 41, (PVl x2 y2 z2)), (true, g5, 41, (PVl 0 0 false)), (true, g12, 72, (TVl u6 v7 s8)), (true, g13, 72, (TVl u9 v10 s11)), (true, g17, 72, (TVl X14 Y15 Z16)), (true, g18, 72, (TVl X22 Y23 Z24))] ac _ := hs.re ⟨rfl, rfl, rfl, rfl, rfl, rfl, rfl, rfl, trivial⟩
        refine region_inv [([], [2, 5, 6, 7]), ([], [2, 5, 6, 7]), ([0, 1], [5, 6, 7]), ([], [5, 6, 7]), ([], [5, 6, 7]), ([0, 1, 2, 3, 4], [6, 7]), ([0, 1, 2, 3, 4, 5], [7]), ([0, 1, 2, 3, 4, 5, 6], [])] (fun L ac w => St 65 w0 [(39, L 0, W a), (40, L 1, .int .i64 ((k - 1 : Nat) : Int)), (41, L 2, .bool false), (42, L 3, W b), (43, L 4, .int .i64 ((k - 1 : Nat) : Int)), (44, L 5, .bool true), (14, L 6, .bool false), (15, L 7, .bool true), (4, true, .pointer (some ⟨g1, 0, none⟩)), (6, true, .pointer (some ⟨g3, 0, none⟩)), (8, true, .pointer (some ⟨g5, 0, none⟩)), (9, true, .pointer (some ⟨g12, 0, none⟩)), (10, true, .pointer (some ⟨g13, 0, none⟩)), (11, true, .pointer (some ⟨g17, 0, none⟩)), (12, true, .pointer (some ⟨g18, 0, none⟩)), (13, true, .int .i64 ((k - 1 : Nat) : Int))] [(true, g1, 24, (Wl a)), (true, g2, 41, (PVl x1 y1 z1)), (true, g3, 24, (Wl b)), (true, g4, 41, (PVl x2 y2 z2)), (true, g5, 41, (PVl 0 0 false)), (true, g12, 72, (TVl u6 v7 s8)), (true, g13, 72, (TVl u9 v10 s11)), (true, g17, 72, (TVl X14 Y15 Z16)), (true, g18, 72, (TVl X22 Y23 Z24))] ac w) (by kernel_rfl) (by kernel_rfl) ?_ ?_ ?_
        · exact hs.drew.skip.skip.skip.skip.skip.skip.skip.skip
        · refine ⟨?_, ?_, ?_, ?_, ?_, ?_, ?_, ?_, trivial⟩
          · intro L ac w hJ
            have hs := hJ
            refine wpO_plain rfl (op_load hs (some 0) 0 (v := W a) rfl rfl rfl rfl Try.isAgg24 Try.sizeOf24 rfl rfl fun ac hs => ?_)
            exact hs
          · intro L ac w hJ
            have hs := hJ
            refine wpO_plain rfl (op_move hs (some 1) rfl rfl rfl rfl fun ac hs => ?_)
            exact hs
          · intro L ac w hJ
            have hs := hJ
            refine wpO_plain rfl (op_call (F := 46) hs (some 2) (v := .bool false) rfl rfl rfl rfl (Try.call46 _) (pbit_c a (k - 1) false ha (show k - 1 < 256 by omega) (decide_eq_false hq25)) rfl fun ac w hs => ?_)
            exact hs
          · intro L ac w hJ
            have hs := hJ
            refine wpO_plain rfl (op_load hs (some 3) 2 (v := W b) rfl rfl rfl rfl Try.isAgg24 Try.sizeOf24 rfl rfl fun ac hs => ?_)
            exact hs
          · intro L ac w hJ
            have hs := hJ
            refine wpO_plain rfl (op_move hs (some 4) rfl rfl rfl rfl fun ac hs => ?_)
            exact hs
          · intro L ac w hJ
            have hs := hJ
            refine wpO_plain rfl (op_call (F := 46) hs (some 5) (v := .bool true) rfl rfl rfl rfl (Try.call46 _) (pbit_c b (k - 1) true hb (show k - 1 < 256 by omega) (decide_eq_true hq33)) rfl fun ac w hs => ?_)
            exact hs
          · intro L ac w hJ
            have hs := hJ
            refine wpO_plain rfl (op_assign hs (some 6) rfl rfl rfl rfl fun ac hs => ?_)
            exact hs
          · intro L ac w hJ
            have hs := hJ
            refine wpO_plain rfl (op_assign hs (some 7) rfl rfl rfl rfl fun ac hs => ?_)
            exact hs
        intro ac w hJ
        replace hs : St 65 w0 [(39, true, W a), (40, true, .int .i64 ((k - 1 : Nat) : Int)), (41, true, .bool false), (42, true, W b), (43, true, .int .i64 ((k - 1 : Nat) : Int)), (44, true, .bool true), (14, true, .bool false), (15, true, .bool true), (4, true, .pointer (some ⟨g1, 0, none⟩)), (6, true, .pointer (some ⟨g3, 0, none⟩)), (8, true, .pointer (some ⟨g5, 0, none⟩)), (9, true, .pointer (some ⟨g12, 0, none⟩)), (10, true, .pointer (some ⟨g13, 0, none⟩)), (11, true, .pointer (some ⟨g17, 0, none⟩)), (12, true, .pointer (some ⟨g18, 0, none⟩)), (13, true, .int .i64 ((k - 1 : Nat) : Int))] [(true, g1, 24, (Wl a)), (true, g2, 41, (PVl x1 y1 z1)), (true, g3, 24, (Wl b)), (true, g4, 41, (PVl x2 y2 z2)), (true, g5, 41, (PVl 0 0 false)), (true, g12, 72, (TVl u6 v7 s8)), (true, g13, 72, (TVl u9 v10 s11)), (true, g17, 72, (TVl X14 Y15 Z16)), (true, g18, 72, (TVl X22 Y23 Z24))] ac w := hJ
        refine then_n ?_
        refine wp_block ?_
        refine wp_seq ?_
        refine wp_region_lit ?_
        refine lstep (wpO_plain rfl (op_move hs none rfl rfl rfl rfl fun ac hs => ?_))
        refine lstep (wpO_plain rfl (op_move hs none rfl rfl rfl rfl fun ac hs => ?_))
        refine lstep (wpO_out hs none rfl rfl (.inl rfl) rfl rfl fun ac hs => ?_)
        refine lstep (wpO_plain rfl (op_pickF hs none rfl rfl rfl rfl rfl fun ac hs => ?_))
        refine lstep (wpO_plain rfl (op_assign hs none rfl rfl rfl rfl fun ac hs => ?_))
        refine wpList_nil ?_
        refine then_n ?_
        refine wp_cond_false (hs.ev rfl) ?_
        refine wp_seq ?_
        refine wp_region_lit ?_
        refine lstep (wpO_plain rfl (op_move hs none rfl rfl rfl rfl fun ac hs => ?_))
        refine lstep (wpO_plain rfl (op_assign hs none rfl rfl rfl rfl fun ac hs => ?_))
        refine wpList_nil ?_
        refine then_n ?_
        refine wp_cond_false (hs.ev rfl) ?_
        refine wp_seq ?_
        replace hs : St 65 w0 [(4, true, .pointer (some ⟨g1, 0, none⟩)), (6, true, .pointer (some ⟨g3, 0, none⟩)), (8, true, .pointer (some ⟨g5, 0, none⟩)), (9, true, .pointer (some ⟨g12, 0, none⟩)), (10, true, .pointer (some ⟨g13, 0, none⟩)), (11, true, .pointer (some ⟨g17, 0, none⟩)), (12, true, .pointer (some ⟨g18, 0, none⟩)), (13, true, .int .i64 ((k - 1 : Nat) : Int)), (15, true, .bool true)] [(true, g1, 24, (Wl a)), (true, g2, 41, (PVl x1 y1 z1)), (true, g3, 24, (Wl b)), (true, g4, 41, (PVl x2 y2 z2)), (true, g5, 41, (PVl 0 0 false)), (true, g12, 72, (TVl u6 v7 s8)), (true, g13, 72, (TVl u9 v10 s11)), (true, g17, 72, (TVl X14 Y15 Z16)), (true, g18, 72, (TVl X22 Y23 Z24))] ac _ := hs.re ⟨rfl, rfl, rfl, rfl, rfl, rfl, rfl, rfl, rfl, trivial⟩
        refine wp_region_lit ?_
        refine lstep (wpO_plain rfl (op_move hs none rfl rfl rfl rfl fun ac hs => ?_))
        refine lstep (wpO_plain rfl (op_assign hs none rfl rfl rfl rfl fun ac hs => ?_))
        refine wpList_nil ?_
        refine then_n ?_
        refine wp_cond_true (hs.ev rfl) ?_
        refine wp_region_lit ?_
        refine lstep (wpO_plain rfl (op_load hs none 8 (v := TV X22 Y23 Z24) rfl rfl rfl rfl Try.isAgg72 Try.sizeOf72 rfl rfl fun ac hs => ?_))
        refine lstep (wpO_plain rfl (op_load hs none 6 (v := TV u9 v10 s11) rfl rfl rfl rfl Try.isAgg72 Try.sizeOf72 rfl rfl fun ac hs => ?_))
        obtain ⟨X34, Y35, Z36, hX34, lX34, lY35, lZ36⟩ : ∃ zz0 zz1 zz2, sJ X22 Y23 Z24 u9 v10 s11 = (zz0, zz1, zz2) ∧ zz0 < 2 ^ 256 ∧ zz1 < 2 ^ 256 ∧ zz2 < 2 ^ 256 := sJ_lt X22 Y23 Z24 u9 v10 s11 lX22 lY23 lZ24 lu9 lv10 ls11
        refine lstep (wpO_plain rfl (op_call (F := 43) hs none (v := TV X34 Y35 Z36) rfl rfl rfl rfl (Try.call43 _) (wplus_c X22 Y23 Z24 u9 v10 s11 X34 Y35 Z36 lX22 lY23 lZ24 lu9 lv10 ls11 hX34) rfl fun ac w hs => ?_))
        refine lstep (wpO_plain rfl (op_store hs 8 (vs := (TVl X34 Y35 Z36)) rfl rfl rfl rfl rfl Try.sizeOf72 rfl rfl rfl rfl rfl fun w hs => ?_))
        refine wpList_nil ?_
        refine blk_n ?_
        refine blk_n ?_
        refine then_n ?_
        replace hs : St 65 w0 [(4, true, .pointer (some ⟨g1, 0, none⟩)), (6, true, .pointer (some ⟨g3, 0, none⟩)), (8, true, .pointer (some ⟨g5, 0, none⟩)), (9, true, .pointer (some ⟨g12, 0, none⟩)), (10, true, .pointer (some ⟨g13, 0, none⟩)), (11, true, .pointer (some ⟨g17, 0, none⟩)), (12, true, .pointer (some ⟨g18, 0, none⟩)), (13, true, .int .i64 ((k - 1 : Nat) : Int))] [(true, g1, 24, (Wl a)), (true, g2, 41, (PVl x1 y1 z1)), (true, g3, 24, (Wl b)), (true, g4, 41, (PVl x2 y2 z2)), (true, g5, 41, (PVl 0 0 false)), (true, g12, 72, (TVl u6 v7 s8)), (true, g13, 72, (TVl u9 v10 s11)), (true, g17, 72, (TVl X14 Y15 Z16)), (true, g18, 72, (TVl X34 Y35 Z36))] ac _ := hs.re ⟨rfl, rfl, rfl, rfl, rfl, rfl, rfl, rfl, trivial⟩
        refine wp_region_lit ?_
        refine lstep (wpO_plain rfl (op_move hs none rfl rfl rfl rfl fun ac hs => ?_))
        refine lstep (wpO_plain rfl (op_bin hs none (v := .int .i64 (((k - 1 : Nat) : Int) - 1)) rfl rfl rfl rfl (fun _ => rfl) (bin_subP (x := k - 1) (by omega)) rfl fun ac hs => ?_))
        refine lstep (wpO_plain rfl (op_assign hs none rfl rfl rfl rfl fun ac hs => ?_))
        refine wpList_nil ?_
        refine then_n ?_
        exact ⟨_, ⟨(k - 1), X34, Y35, Z36, rfl, (by omega), (bothFT oP oQ hp21 hq25 hq33 (sJ_jn (dJ_jn hE hX22) (weigh_jn oQ hu9 hv10 hs11) hX34)), lX34, lY35, lZ36, (hs.re ⟨rfl, rfl, rfl, rfl, rfl, rfl, rfl, rfl, trivial⟩)⟩, (by omega)⟩
      · skip
        replace hs : St 65 w0 [(4, true, .pointer (some ⟨g1, 0, none⟩)), (6, true, .pointer (some ⟨g3, 0, none⟩)), (8, true, .pointer (some ⟨g5, 0, none⟩)), (9, true, .pointer (some ⟨g12, 0, none⟩)), (10, true, .pointer (some ⟨g13, 0, none⟩)), (11, true, .pointer (some ⟨g17, 0, none⟩)), (12, true, .pointer (some ⟨g18, 0, none⟩)), (13, true, .int .i64 ((k - 1 : Nat) : Int))] [(true, g1, 24, (Wl a)), (true, g2, 41, (PVl x1 y1 z1)), (true, g3, 24, (Wl b)), (true, g4, 41, (PVl x2 y2 z2)), (true, g5, 41, (PVl 0 0 false)), (true, g12, 72, (TVl u6 v7 s8)), (true, g13, 72, (TVl u9 v10 s11)), (true, g17, 72, (TVl X14 Y15 Z16)), (true, g18, 72, (TVl X22 Y23 Z24))] ac _ := hs.re ⟨rfl, rfl, rfl, rfl, rfl, rfl, rfl, rfl, trivial⟩
        refine region_inv [([], [2, 5, 6, 7]), ([], [2, 5, 6, 7]), ([0, 1], [5, 6, 7]), ([], [5, 6, 7]), ([], [5, 6, 7]), ([0, 1, 2, 3, 4], [6, 7]), ([0, 1, 2, 3, 4, 5], [7]), ([0, 1, 2, 3, 4, 5, 6], [])] (fun L ac w => St 65 w0 [(39, L 0, W a), (40, L 1, .int .i64 ((k - 1 : Nat) : Int)), (41, L 2, .bool false), (42, L 3, W b), (43, L 4, .int .i64 ((k - 1 : Nat) : Int)), (44, L 5, .bool false), (14, L 6, .bool false), (15, L 7, .bool false), (4, true, .pointer (some ⟨g1, 0, none⟩)), (6, true, .pointer (some ⟨g3, 0, none⟩)), (8, true, .pointer (some ⟨g5, 0, none⟩)), (9, true, .pointer (some ⟨g12, 0, none⟩)), (10, true, .pointer (some ⟨g13, 0, none⟩)), (11, true, .pointer (some ⟨g17, 0, none⟩)), (12, true, .pointer (some ⟨g18, 0, none⟩)), (13, true, .int .i64 ((k - 1 : Nat) : Int))] [(true, g1, 24, (Wl a)), (true, g2, 41, (PVl x1 y1 z1)), (true, g3, 24, (Wl b)), (true, g4, 41, (PVl x2 y2 z2)), (true, g5, 41, (PVl 0 0 false)), (true, g12, 72, (TVl u6 v7 s8)), (true, g13, 72, (TVl u9 v10 s11)), (true, g17, 72, (TVl X14 Y15 Z16)), (true, g18, 72, (TVl X22 Y23 Z24))] ac w) (by kernel_rfl) (by kernel_rfl) ?_ ?_ ?_
        · exact hs.drew.skip.skip.skip.skip.skip.skip.skip.skip
        · refine ⟨?_, ?_, ?_, ?_, ?_, ?_, ?_, ?_, trivial⟩
          · intro L ac w hJ
            have hs := hJ
            refine wpO_plain rfl (op_load hs (some 0) 0 (v := W a) rfl rfl rfl rfl Try.isAgg24 Try.sizeOf24 rfl rfl fun ac hs => ?_)
            exact hs
          · intro L ac w hJ
            have hs := hJ
            refine wpO_plain rfl (op_move hs (some 1) rfl rfl rfl rfl fun ac hs => ?_)
            exact hs
          · intro L ac w hJ
            have hs := hJ
            refine wpO_plain rfl (op_call (F := 46) hs (some 2) (v := .bool false) rfl rfl rfl rfl (Try.call46 _) (pbit_c a (k - 1) false ha (show k - 1 < 256 by omega) (decide_eq_false hq25)) rfl fun ac w hs => ?_)
            exact hs
          · intro L ac w hJ
            have hs := hJ
            refine wpO_plain rfl (op_load hs (some 3) 2 (v := W b) rfl rfl rfl rfl Try.isAgg24 Try.sizeOf24 rfl rfl fun ac hs => ?_)
            exact hs
          · intro L ac w hJ
            have hs := hJ
            refine wpO_plain rfl (op_move hs (some 4) rfl rfl rfl rfl fun ac hs => ?_)
            exact hs
          · intro L ac w hJ
            have hs := hJ
            refine wpO_plain rfl (op_call (F := 46) hs (some 5) (v := .bool false) rfl rfl rfl rfl (Try.call46 _) (pbit_c b (k - 1) false hb (show k - 1 < 256 by omega) (decide_eq_false hq33)) rfl fun ac w hs => ?_)
            exact hs
          · intro L ac w hJ
            have hs := hJ
            refine wpO_plain rfl (op_assign hs (some 6) rfl rfl rfl rfl fun ac hs => ?_)
            exact hs
          · intro L ac w hJ
            have hs := hJ
            refine wpO_plain rfl (op_assign hs (some 7) rfl rfl rfl rfl fun ac hs => ?_)
            exact hs
        intro ac w hJ
        replace hs : St 65 w0 [(39, true, W a), (40, true, .int .i64 ((k - 1 : Nat) : Int)), (41, true, .bool false), (42, true, W b), (43, true, .int .i64 ((k - 1 : Nat) : Int)), (44, true, .bool false), (14, true, .bool false), (15, true, .bool false), (4, true, .pointer (some ⟨g1, 0, none⟩)), (6, true, .pointer (some ⟨g3, 0, none⟩)), (8, true, .pointer (some ⟨g5, 0, none⟩)), (9, true, .pointer (some ⟨g12, 0, none⟩)), (10, true, .pointer (some ⟨g13, 0, none⟩)), (11, true, .pointer (some ⟨g17, 0, none⟩)), (12, true, .pointer (some ⟨g18, 0, none⟩)), (13, true, .int .i64 ((k - 1 : Nat) : Int))] [(true, g1, 24, (Wl a)), (true, g2, 41, (PVl x1 y1 z1)), (true, g3, 24, (Wl b)), (true, g4, 41, (PVl x2 y2 z2)), (true, g5, 41, (PVl 0 0 false)), (true, g12, 72, (TVl u6 v7 s8)), (true, g13, 72, (TVl u9 v10 s11)), (true, g17, 72, (TVl X14 Y15 Z16)), (true, g18, 72, (TVl X22 Y23 Z24))] ac w := hJ
        refine then_n ?_
        refine wp_block ?_
        refine wp_seq ?_
        refine wp_region_lit ?_
        refine lstep (wpO_plain rfl (op_move hs none rfl rfl rfl rfl fun ac hs => ?_))
        refine lstep (wpO_plain rfl (op_move hs none rfl rfl rfl rfl fun ac hs => ?_))
        refine lstep (wpO_out hs none rfl rfl (.inl rfl) rfl rfl fun ac hs => ?_)
        refine lstep (wpO_plain rfl (op_pickF hs none rfl rfl rfl rfl rfl fun ac hs => ?_))
        refine lstep (wpO_plain rfl (op_assign hs none rfl rfl rfl rfl fun ac hs => ?_))
        refine wpList_nil ?_
        refine then_n ?_
        refine wp_cond_false (hs.ev rfl) ?_
        refine wp_seq ?_
        refine wp_region_lit ?_
        refine lstep (wpO_plain rfl (op_move hs none rfl rfl rfl rfl fun ac hs => ?_))
        refine lstep (wpO_plain rfl (op_assign hs none rfl rfl rfl rfl fun ac hs => ?_))
        refine wpList_nil ?_
        refine then_n ?_
        refine wp_cond_false (hs.ev rfl) ?_
        refine wp_seq ?_
        replace hs : St 65 w0 [(4, true, .pointer (some ⟨g1, 0, none⟩)), (6, true, .pointer (some ⟨g3, 0, none⟩)), (8, true, .pointer (some ⟨g5, 0, none⟩)), (9, true, .pointer (some ⟨g12, 0, none⟩)), (10, true, .pointer (some ⟨g13, 0, none⟩)), (11, true, .pointer (some ⟨g17, 0, none⟩)), (12, true, .pointer (some ⟨g18, 0, none⟩)), (13, true, .int .i64 ((k - 1 : Nat) : Int)), (15, true, .bool false)] [(true, g1, 24, (Wl a)), (true, g2, 41, (PVl x1 y1 z1)), (true, g3, 24, (Wl b)), (true, g4, 41, (PVl x2 y2 z2)), (true, g5, 41, (PVl 0 0 false)), (true, g12, 72, (TVl u6 v7 s8)), (true, g13, 72, (TVl u9 v10 s11)), (true, g17, 72, (TVl X14 Y15 Z16)), (true, g18, 72, (TVl X22 Y23 Z24))] ac _ := hs.re ⟨rfl, rfl, rfl, rfl, rfl, rfl, rfl, rfl, rfl, trivial⟩
        refine wp_region_lit ?_
        refine lstep (wpO_plain rfl (op_move hs none rfl rfl rfl rfl fun ac hs => ?_))
        refine lstep (wpO_plain rfl (op_assign hs none rfl rfl rfl rfl fun ac hs => ?_))
        refine wpList_nil ?_
        refine then_n ?_
        refine wp_cond_false (hs.ev rfl) ?_
        refine wp_skip ?_
        refine blk_n ?_
        refine blk_n ?_
        refine then_n ?_
        refine wp_region_lit ?_
        refine lstep (wpO_plain rfl (op_move hs none rfl rfl rfl rfl fun ac hs => ?_))
        refine lstep (wpO_plain rfl (op_bin hs none (v := .int .i64 (((k - 1 : Nat) : Int) - 1)) rfl rfl rfl rfl (fun _ => rfl) (bin_subP (x := k - 1) (by omega)) rfl fun ac hs => ?_))
        refine lstep (wpO_plain rfl (op_assign hs none rfl rfl rfl rfl fun ac hs => ?_))
        refine wpList_nil ?_
        refine then_n ?_
        exact ⟨_, ⟨(k - 1), X22, Y23, Z24, rfl, (by omega), (bothFF oP oQ hp21 hq25 hq33 (dJ_jn hE hX22)), lX22, lY23, lZ24, (hs.re ⟨rfl, rfl, rfl, rfl, rfl, rfl, rfl, rfl, trivial⟩)⟩, (by omega)⟩
  · skip
    have hp37 := of_decide_eq_false hc
    obtain rfl : k = 0 := by omega
    refine wp_exit ?_
    refine then_e ?_
    refine then_e ?_
    refine blk_e ?_
    refine then_n ?_
    refine wp_seq ?_
    refine wp_region_lit ?_
    refine lstep (wpO_plain rfl (op_load hs none 8 (v := TV ox oy oz) rfl rfl rfl rfl Try.isAgg72 Try.sizeOf72 rfl rfl fun ac hs => ?_))
    refine lstep (wpO_plain rfl (op_call (F := 47) hs none (v := PV (px (EM.Pt.add (EM.nmul (a / 2 ^ 0) P) (EM.nmul (b / 2 ^ 0) Q))) (py (EM.Pt.add (EM.nmul (a / 2 ^ 0) P) (EM.nmul (b / 2 ^ 0) Q))) (pz (EM.Pt.add (EM.nmul (a / 2 ^ 0) P) (EM.nmul (b / 2 ^ 0) Q)))) rfl rfl rfl rfl (Try.call47 _) (plain_c ox oy oz (EM.Pt.add (EM.nmul (a / 2 ^ 0) P) (EM.nmul (b / 2 ^ 0) Q)) lx ly lz hE) rfl fun ac w hs => ?_))
    refine lstep (wpO_plain rfl (op_store hs 4 (vs := (PVl (px (EM.Pt.add (EM.nmul (a / 2 ^ 0) P) (EM.nmul (b / 2 ^ 0) Q))) (py (EM.Pt.add (EM.nmul (a / 2 ^ 0) P) (EM.nmul (b / 2 ^ 0) Q))) (pz (EM.Pt.add (EM.nmul (a / 2 ^ 0) P) (EM.nmul (b / 2 ^ 0) Q))))) rfl rfl rfl rfl rfl Try.sizeOf41 rfl rfl rfl rfl rfl fun w hs => ?_))
    refine wpList_nil ?_
    refine then_n ?_
    refine wp_ret ?_
    exact bodyPost_ret (res1 rfl (rv_c hs 4 (v := PV (px (EM.Pt.add (EM.nmul (a / 2 ^ 0) P) (EM.nmul (b / 2 ^ 0) Q))) (py (EM.Pt.add (EM.nmul (a / 2 ^ 0) P) (EM.nmul (b / 2 ^ 0) Q))) (pz (EM.Pt.add (EM.nmul (a / 2 ^ 0) P) (EM.nmul (b / 2 ^ 0) Q)))) rfl rfl Try.isAgg41 Try.sizeOf41 rfl)) hs.defers ⟨by rw [← hT, Nat.pow_zero, Nat.div_one, Nat.div_one], (hs.bel rfl)⟩
theorem mul14_c (a x y : Nat) (z : Bool) (P T : EM.Pt Pf) (ha : a < 2 ^ 256) (hx : x < 2 ^ 256) (hy : y < 2 ^ 256) (hP : ptOf x y z = P) (hT : EM.nmul a P = T) (w0 : World) : Calls Try.prog 28 #[W a, PV x y z] w0 fun e w' => e = .returned (PV (px T) (py T) (pz T)) ∧ Below w0.heap.size w0 w' := by
  have oP : P.on := by rw [← hP]; exact pt_on x y z
  refine enter (n := 10) (args := [W a, PV x y z]) Try.func28 rfl rfl (Nat.le_of_ble_eq_true rfl) fun ac hs => ?_
  refine wp_seq ?_
  refine wp_region_lit ?_
  refine lstep (wpO_plain rfl (op_box hs none none (cs := (Wl a)) rfl rfl rfl rfl rfl rfl fun g1 ac w hs => ?_))
  refine lstep (wpO_plain rfl (op_box hs none none (cs := (PVl x y z)) rfl rfl rfl rfl rfl rfl fun g2 ac w hs => ?_))
  refine lstep (wpO_plain rfl (op_alloc hs none none (cs := (PVl 0 0 false)) rfl rfl Try.zeroValue41 (by kernel_rfl) rfl rfl fun g3 ac w hs => ?_))
  refine wpList_nil ?_
  refine then_n ?_
  refine wp_seq ?_
  replace hs : St 10 w0 [(2, true, .pointer (some ⟨g1, 0, none⟩)), (3, true, .pointer (some ⟨g2, 0, none⟩)), (4, true, .pointer (some ⟨g3, 0, none⟩))] [(true, g1, 24, (Wl a)), (true, g2, 41, (PVl x y z)), (true, g3, 41, (PVl 0 0 false))] ac _ := hs.re ⟨rfl, rfl, rfl, trivial⟩
  obtain ⟨T4, hT4, oT4⟩ := mkBoth a 0 oP O_on
  refine region_inv [([], [4, 5]), ([], [4, 5]), ([], [4, 5]), ([], [4, 5]), ([0, 1, 2, 3], [5]), ([0, 1, 2, 3, 4], [])] (fun L ac w => St 10 w0 [(5, L 0, W a), (6, L 1, PV x y z), (7, L 2, .agg #[.int .u64 0, .int .u64 0, .int .u64 0, .int .u64 0]), (8, L 3, PV 0 0 true), (9, L 4, PV (px T4) (py T4) (pz T4)), (2, true, .pointer (some ⟨g1, 0, none⟩)), (3, true, .pointer (some ⟨g2, 0, none⟩)), (4, true, .pointer (some ⟨g3, 0, none⟩))] [(true, g1, 24, (Wl a)), (true, g2, 41, (PVl x y z)), (true, g3, 41, (cond (L 5) (PVl (px T4) (py T4) (pz T4)) (PVl 0 0 false)))] ac w) (by kernel_rfl) (by kernel_rfl) ?_ ?_ ?_
  · exact hs.drew.skip.skip.skip.skip.skip
  · refine ⟨?_, ?_, ?_, ?_, ?_, ?_, trivial⟩
    · intro L ac w hJ
      have hs := hJ
      refine wpO_plain rfl (op_load hs (some 0) 0 (v := W a) rfl rfl rfl rfl Try.isAgg24 Try.sizeOf24 rfl rfl fun ac hs => ?_)
      exact hs
    · intro L ac w hJ
      have hs := hJ
      refine wpO_plain rfl (op_load hs (some 1) 1 (v := PV x y z) rfl rfl rfl rfl Try.isAgg41 Try.sizeOf41 rfl rfl fun ac hs => ?_)
      exact hs
    · intro L ac w hJ
      have hs := hJ
      refine wpO_plain rfl (op_build hs (some 2) (qs := []) (v := .agg #[.int .u64 0, .int .u64 0, .int .u64 0, .int .u64 0]) rfl rfl rfl rfl (fun _ => by kernel_rfl) rfl fun ac hs => ?_)
      exact hs
    · intro L ac w hJ
      have hs := hJ
      refine wpO_plain rfl (op_call (F := 36) hs (some 3) (v := PV 0 0 true) rfl rfl rfl rfl (Try.call36 _) zero_c rfl fun ac w hs => ?_)
      exact hs
    · intro L ac w hJ
      have hs := hJ
      refine wpO_plain rfl (op_call (F := 22) hs (some 4) (v := PV (px T4) (py T4) (pz T4)) rfl rfl rfl rfl (Try.call22 _) (both_c a x y z 0 0 0 true P EM.Pt.O T4 ha hx hy (by decide) (by decide) (by decide) hP rfl hT4) rfl fun ac w hs => ?_)
      exact hs
    · intro L ac w hJ
      have hs := hJ
      refine wpO_plain rfl (op_store hs 2 (vs := (PVl (px T4) (py T4) (pz T4))) rfl rfl rfl rfl rfl Try.sizeOf41 rfl rfl rfl rfl rfl fun w hs => ?_)
      exact hs
  intro ac w hJ
  replace hs : St 10 w0 [(5, true, W a), (6, true, PV x y z), (7, true, .agg #[.int .u64 0, .int .u64 0, .int .u64 0, .int .u64 0]), (8, true, PV 0 0 true), (9, true, PV (px T4) (py T4) (pz T4)), (2, true, .pointer (some ⟨g1, 0, none⟩)), (3, true, .pointer (some ⟨g2, 0, none⟩)), (4, true, .pointer (some ⟨g3, 0, none⟩))] [(true, g1, 24, (Wl a)), (true, g2, 41, (PVl x y z)), (true, g3, 41, (PVl (px T4) (py T4) (pz T4)))] ac w := hJ
  refine then_n ?_
  refine wp_ret ?_
  exact bodyPost_ret (res1 rfl (rv_c hs 2 (v := PV (px T4) (py T4) (pz T4)) rfl rfl Try.isAgg41 Try.sizeOf41 rfl)) hs.defers ⟨by rw [← hT4, EM.nmul_O Pf_good, EM.add_O, hT], (hs.bel rfl)⟩
theorem lift14_c (b : Nat → Nat) (T : EM.Pt Pf) (hb : ∀ j, j < 32 → b j < 256) (hT : liftP (pr b 0 32) = T) (w0 : World) : Calls Try.prog 19 #[At .u8 32 b] w0 fun e w' => e = .returned (.tuple #[PV (px T) (py T) (pz T), .bool (!pz T)]) ∧ Below w0.heap.size w0 w' := by
  refine enter (n := 25) (args := [At .u8 32 b]) Try.func19 rfl rfl (Nat.le_of_ble_eq_true rfl) fun ac hs => ?_
  refine wp_seq ?_
  refine wp_region_lit ?_
  refine lstep (wpO_plain rfl (op_box hs none none (cs := (tab .u8 32 b)) rfl rfl rfl rfl rfl rfl fun g1 ac w hs => ?_))
  refine lstep (wpO_plain rfl (op_alloc hs none none (cs := (PVl 0 0 false)) rfl rfl Try.zeroValue41 (by kernel_rfl) rfl rfl fun g2 ac w hs => ?_))
  refine lstep (wpO_plain rfl (op_assign hs none rfl rfl rfl rfl fun ac hs => ?_))
  refine wpList_nil ?_
  refine then_n ?_
  refine wp_seq ?_
  refine wp_region_lit ?_
  refine lstep (wpO_plain rfl (op_load hs none 0 (v := At .u8 32 b) rfl rfl rfl rfl Try.isAgg30 Try.sizeOf30 ldv_tab rfl fun ac hs => ?_))
  obtain ⟨a3, ha3, la3⟩ : ∃ z0, pr b 0 32 = z0 ∧ z0 < 2 ^ 256 := ⟨_, rfl, pr_lt32 hb⟩
  refine lstep (wpO_plain rfl (op_call (F := 34) hs none (v := W a3) rfl rfl rfl rfl (Try.call34 _) (wread_c b a3 hb ha3) rfl fun ac w hs => ?_))
  refine lstep (wpO_plain rfl (op_alloc hs none none (cs := [.int .u64 0, .int .u64 0, .int .u64 0, .int .u64 0]) rfl rfl Try.zeroValue24 (by kernel_rfl) rfl rfl fun g4 ac w hs => ?_))
  refine lstep (wpO_plain rfl (op_store hs 2 (vs := (Wl a3)) rfl rfl rfl rfl rfl Try.sizeOf24 rfl rfl rfl rfl rfl fun w hs => ?_))
  refine wpList_nil ?_
  refine then_n ?_
  refine wp_seq ?_
  refine wp_seq ?_
  by_cases hq5 : a3 < Pf
  · skip
    replace hs : St 25 w0 [(2, true, .pointer (some ⟨g2, 0, none⟩)), (3, true, .bool false), (4, true, .pointer (some ⟨g4, 0, none⟩))] [(true, g1, 30, (tab .u8 32 b)), (true, g2, 41, (PVl 0 0 false)), (true, g4, 24, (Wl a3))] ac _ := hs.re ⟨rfl, rfl, rfl, trivial⟩
    refine wp_region_lit ?_
    refine lstep (wpO_plain rfl (op_load hs none 2 (v := W a3) rfl rfl rfl rfl Try.isAgg24 Try.sizeOf24 rfl rfl fun ac hs => ?_))
    refine lstep (wpO_plain rfl (op_call (F := 35) hs none (v := .bool true) rfl rfl rfl rfl (Try.call35 _) (below_c a3 true la3 (decide_eq_true hq5)) rfl fun ac w hs => ?_))
    refine lstep (wpO_plain rfl (op_un hs none (v := .bool false) rfl rfl rfl (fun _ => rfl) rfl fun ac hs => ?_))
    refine wpList_nil ?_
    refine then_n ?_
    refine wp_cond_false (hs.ev rfl) ?_
    refine wp_skip ?_
    refine then_n ?_
    refine wp_seq ?_
    refine wp_region_lit ?_
    refine lstep (wpO_plain rfl (op_load hs none 2 (v := W a3) rfl rfl rfl rfl Try.isAgg24 Try.sizeOf24 rfl rfl fun ac hs => ?_))
    obtain ⟨r6, hr6, lr6⟩ : ∃ z0, rgt a3 = z0 ∧ z0 < 2 ^ 256 := ⟨_, rfl, modP_lt _⟩
    refine lstep (wpO_plain rfl (op_call (F := 38) hs none (v := W r6) rfl rfl rfl rfl (Try.call38 _) (right_c a3 r6 la3 hr6) rfl fun ac w hs => ?_))
    obtain ⟨y7, hy7, ly7⟩ : ∃ z0, frV r6 = z0 ∧ z0 < 2 ^ 256 := ⟨_, rfl, frV_lt _⟩
    obtain ⟨q8, hq8⟩ : ∃ z0, frB r6 = z0 := ⟨_, rfl⟩
    refine lstep (wpO_plain rfl (op_call (F := 37) hs none (v := .tuple #[W y7, .bool q8]) rfl rfl rfl rfl (Try.call37 _) (froot_c r6 y7 q8 lr6 hy7 hq8) rfl fun ac w hs => ?_))
    refine lstep (wpO_plain rfl (op_move hs none rfl rfl rfl rfl fun ac hs => ?_))
    refine lstep (wpO_plain rfl (op_extract hs none rfl rfl rfl rfl rfl fun ac hs => ?_))
    refine lstep (wpO_plain rfl (op_extract hs none rfl rfl rfl rfl rfl fun ac hs => ?_))
    refine lstep (wpO_plain rfl (op_alloc hs none none (cs := [.int .u64 0, .int .u64 0, .int .u64 0, .int .u64 0]) rfl rfl Try.zeroValue24 (by kernel_rfl) rfl rfl fun g9 ac w hs => ?_))
    refine lstep (wpO_plain rfl (op_store hs 3 (vs := (Wl y7)) rfl rfl rfl rfl rfl Try.sizeOf24 rfl rfl rfl rfl rfl fun w hs => ?_))
    refine lstep (wpO_plain rfl (op_assign hs none rfl rfl rfl rfl fun ac hs => ?_))
    refine wpList_nil ?_
    refine then_n ?_
    refine wp_seq ?_
    refine wp_seq ?_
    replace hs : St 25 w0 [(2, true, .pointer (some ⟨g2, 0, none⟩)), (3, true, .bool false), (4, true, .pointer (some ⟨g4, 0, none⟩)), (5, true, .pointer (some ⟨g9, 0, none⟩)), (6, true, .bool q8)] [(true, g1, 30, (tab .u8 32 b)), (true, g2, 41, (PVl 0 0 false)), (true, g4, 24, (Wl a3)), (true, g9, 24, (Wl y7))] ac _ := hs.re ⟨rfl, rfl, rfl, rfl, rfl, trivial⟩
    refine wp_region_lit ?_
    refine lstep (wpO_plain rfl (op_move hs none rfl rfl rfl rfl fun ac hs => ?_))
    refine lstep (wpO_plain rfl (op_un hs none (v := .bool (!q8)) rfl rfl rfl (fun _ => rfl) rfl fun ac hs => ?_))
    refine wpList_nil ?_
    refine then_n ?_
    refine wp_cond_split (hs.ev rfl) (fun hc => ?_) (fun hc => ?_)
    · skip
      refine wp_seq ?_
      refine wp_region_lit ?_
      refine lstep (wpO_plain rfl (op_call (F := 36) hs none (v := PV 0 0 true) rfl rfl rfl rfl (Try.call36 _) zero_c rfl fun ac w hs => ?_))
      refine lstep (wpO_plain rfl (op_store hs 1 (vs := (PVl 0 0 true)) rfl rfl rfl rfl rfl Try.sizeOf41 rfl rfl rfl rfl rfl fun w hs => ?_))
      refine lstep (wpO_plain rfl (op_assign hs none rfl rfl rfl rfl fun ac hs => ?_))
      refine wpList_nil ?_
      refine then_n ?_
      refine wp_ret ?_
      refine then_r ?_
      exact bodyPost_ret (res2 rfl (rv_c hs 1 (v := PV 0 0 true) rfl rfl Try.isAgg41 Try.sizeOf41 rfl) (rv_t hs rfl)) hs.defers ⟨by rw [← hT, ha3, liftP_no (.inr (by rw [hr6, hq8]; simpa using hc))]; rfl, (hs.bel rfl)⟩
    · skip
      refine wp_skip ?_
      refine then_n ?_
      refine wp_seq ?_
      refine wp_region_lit ?_
      refine lstep (wpO_plain rfl (op_load hs none 2 (v := W a3) rfl rfl rfl rfl Try.isAgg24 Try.sizeOf24 rfl rfl fun ac hs => ?_))
      refine lstep (wpO_plain rfl (op_load hs none 3 (v := W y7) rfl rfl rfl rfl Try.isAgg24 Try.sizeOf24 rfl rfl fun ac hs => ?_))
      refine lstep (wpO_plain rfl (op_build hs none (qs := [(0, W a3), (1, W y7)]) (v := PV a3 y7 false) rfl rfl rfl rfl (fun _ => by kernel_rfl) rfl fun ac hs => ?_))
      refine lstep (wpO_plain rfl (op_store hs 1 (vs := (PVl a3 y7 false)) rfl rfl rfl rfl rfl Try.sizeOf41 rfl rfl rfl rfl rfl fun w hs => ?_))
      refine lstep (wpO_plain rfl (op_assign hs none rfl rfl rfl rfl fun ac hs => ?_))
      refine wpList_nil ?_
      refine then_n ?_
      refine wp_ret ?_
      exact bodyPost_ret (res2 rfl (rv_c hs 1 (v := PV a3 y7 false) rfl rfl Try.isAgg41 Try.sizeOf41 rfl) (rv_t hs rfl)) hs.defers ⟨by rw [← hT, ha3, (liftP_yes hq5 (show frB (rgt a3) = true by rw [hr6, hq8]; exact (by simpa using hc))).1, (liftP_yes hq5 (show frB (rgt a3) = true by rw [hr6, hq8]; exact (by simpa using hc))).2.1, (liftP_yes hq5 (show frB (rgt a3) = true by rw [hr6, hq8]; exact (by simpa using hc))).2.2, hr6, hy7]; rfl, (hs.bel rfl)⟩
  · skip
    replace hs : St 25 w0 [(2, true, .pointer (some ⟨g2, 0, none⟩)), (3, true, .bool false), (4, true, .pointer (some ⟨g4, 0, none⟩))] [(true, g1, 30, (tab .u8 32 b)), (true, g2, 41, (PVl 0 0 false)), (true, g4, 24, (Wl a3))] ac _ := hs.re ⟨rfl, rfl, rfl, trivial⟩
    refine wp_region_lit ?_
    refine lstep (wpO_plain rfl (op_load hs none 2 (v := W a3) rfl rfl rfl rfl Try.isAgg24 Try.sizeOf24 rfl rfl fun ac hs => ?_))
    refine lstep (wpO_plain rfl (op_call (F := 35) hs none (v := .bool false) rfl rfl rfl rfl (Try.call35 _) (below_c a3 false la3 (decide_eq_false hq5)) rfl fun ac w hs => ?_))
    refine lstep (wpO_plain rfl (op_un hs none (v := .bool true) rfl rfl rfl (fun _ => rfl) rfl fun ac hs => ?_))
    refine wpList_nil ?_
    refine then_n ?_
    refine wp_cond_true (hs.ev rfl) ?_
    refine wp_seq ?_
    refine wp_region_lit ?_
    refine lstep (wpO_plain rfl (op_call (F := 36) hs none (v := PV 0 0 true) rfl rfl rfl rfl (Try.call36 _) zero_c rfl fun ac w hs => ?_))
    refine lstep (wpO_plain rfl (op_store hs 1 (vs := (PVl 0 0 true)) rfl rfl rfl rfl rfl Try.sizeOf41 rfl rfl rfl rfl rfl fun w hs => ?_))
    refine lstep (wpO_plain rfl (op_assign hs none rfl rfl rfl rfl fun ac hs => ?_))
    refine wpList_nil ?_
    refine then_n ?_
    refine wp_ret ?_
    refine then_r ?_
    exact bodyPost_ret (res2 rfl (rv_c hs 1 (v := PV 0 0 true) rfl rfl Try.isAgg41 Try.sizeOf41 rfl) (rv_t hs rfl)) hs.defers ⟨by rw [← hT, ha3, liftP_no (.inl hq5)]; rfl, (hs.bel rfl)⟩
theorem pbytes_c (x y : Nat) (z : Bool) (T : EM.Pt Pf) (hx : x < 2 ^ 256) (hy : y < 2 ^ 256) (hT : ptOf x y z = T) (w0 : World) : Calls Try.prog 11 #[PV x y z] w0 fun e w' => e = .returned (At .u8 32 (by8 (px T))) ∧ Below w0.heap.size w0 w' := by
  have oT : T.on := by rw [← hT]; exact pt_on x y z
  refine enter (n := 7) (args := [PV x y z]) Try.func11 rfl rfl (Nat.le_of_ble_eq_true rfl) fun ac hs => ?_
  refine wp_seq ?_
  refine wp_region_lit ?_
  refine lstep (wpO_plain rfl (op_box hs none none (cs := (PVl x y z)) rfl rfl rfl rfl rfl rfl fun g1 ac w hs => ?_))
  refine lstep (wpO_plain rfl (op_alloc hs none none (cs := (tab .u8 32 (fun _ => 0))) rfl rfl Try.zeroValue30 (by kernel_rfl) rfl rfl fun g2 ac w hs => ?_))
  refine wpList_nil ?_
  refine then_n ?_
  refine wp_seq ?_
  refine wp_region_lit ?_
  refine lstep (wpO_plain rfl (op_load hs none 0 (v := PV x y z) rfl rfl rfl rfl Try.isAgg41 Try.sizeOf41 rfl rfl fun ac hs => ?_))
  refine lstep (wpO_plain rfl (op_call (F := 26) hs none (v := PV (px T) (py T) (pz T)) rfl rfl rfl rfl (Try.call26 _) (taken_c x y z T hx hy hT) rfl fun ac w hs => ?_))
  refine lstep (wpO_plain rfl (op_field hs none (v := W (px T)) rfl rfl rfl (fun _ => by kernel_rfl) rfl fun ac hs => ?_))
  refine lstep (wpO_plain rfl (op_call (F := 14) hs none (v := At .u8 32 (by8 (px T))) rfl rfl rfl rfl (Try.call14 _) (bytes_c (px T) (px_lt T)) rfl fun ac w hs => ?_))
  refine lstep (wpO_plain rfl (op_store hs 1 (vs := (tab .u8 32 (by8 (px T)))) rfl rfl rfl rfl rfl Try.sizeOf30 (by kernel_rfl) tab_length' (tab_one _ _ _) tab_leA wr_tab fun w hs => ?_))
  refine wpList_nil ?_
  refine then_n ?_
  refine wp_ret ?_
  exact bodyPost_ret (res1 rfl (rv_c hs 1 (v := At .u8 32 (by8 (px T))) rfl rfl Try.isAgg30 Try.sizeOf30 ldv_tab)) hs.defers ⟨rfl, (hs.bel rfl)⟩
theorem even_c (x y : Nat) (z : Bool) (T : EM.Pt Pf) (q : Bool) (hx : x < 2 ^ 256) (hy : y < 2 ^ 256) (hT : ptOf x y z = T) (hq : evB T = q) (w0 : World) : Calls Try.prog 23 #[PV x y z] w0 fun e w' => e = .returned (.bool q) ∧ Below w0.heap.size w0 w' := by
  have oT : T.on := by rw [← hT]; exact pt_on x y z
  refine enter (n := 15) (args := [PV x y z]) Try.func23 rfl rfl (Nat.le_of_ble_eq_true rfl) fun ac hs => ?_
  refine wp_seq ?_
  refine wp_region_lit ?_
  refine lstep (wpO_plain rfl (op_box hs none none (cs := (PVl x y z)) rfl rfl rfl rfl rfl rfl fun g1 ac w hs => ?_))
  refine lstep (wpO_plain rfl (op_assign hs none rfl rfl rfl rfl fun ac hs => ?_))
  refine wpList_nil ?_
  refine then_n ?_
  refine wp_seq ?_
  refine wp_region_lit ?_
  refine lstep (wpO_plain rfl (op_load hs none 0 (v := PV x y z) rfl rfl rfl rfl Try.isAgg41 Try.sizeOf41 rfl rfl fun ac hs => ?_))
  refine lstep (wpO_plain rfl (op_call (F := 26) hs none (v := PV (px T) (py T) (pz T)) rfl rfl rfl rfl (Try.call26 _) (taken_c x y z T hx hy hT) rfl fun ac w hs => ?_))
  refine lstep (wpO_plain rfl (op_store hs 0 (vs := (PVl (px T) (py T) (pz T))) rfl rfl rfl rfl rfl Try.sizeOf41 rfl rfl rfl rfl rfl fun w hs => ?_))
  refine wpList_nil ?_
  refine then_n ?_
  refine wp_seq ?_
  by_cases hq2 : pz T = true
  · skip
    replace hs := hs.setb 0 (cs' := (PVl (px T) (py T) true)) rfl (by rw [hq2]; rfl)
    refine wp_region_lit ?_
    refine lstep (wpO_plain rfl (op_fieldA hs none rfl rfl rfl Try.underlying41 rfl Try.sizeOf4 (by decide) rfl fun ac hs => ?_))
    refine lstep (wpO_plain rfl (op_load hs none 0 (v := .bool true) rfl rfl rfl rfl Try.isAgg4 Try.sizeOf4 rfl rfl fun ac hs => ?_))
    refine lstep (wpO_plain rfl (op_un hs none (v := .bool false) rfl rfl rfl (fun _ => rfl) rfl fun ac hs => ?_))
    refine lstep (wpO_plain rfl (op_move hs none rfl rfl rfl rfl fun ac hs => ?_))
    refine lstep (wpO_out hs none rfl rfl (.inl rfl) rfl rfl fun ac hs => ?_)
    refine lstep (wpO_out hs none rfl rfl (.inl rfl) rfl rfl fun ac hs => ?_)
    refine lstep (wpO_out hs none rfl rfl (.inl rfl) rfl rfl fun ac hs => ?_)
    refine lstep (wpO_out hs none rfl rfl (.inl rfl) rfl rfl fun ac hs => ?_)
    refine lstep (wpO_out hs none rfl rfl (.inl rfl) rfl rfl fun ac hs => ?_)
    refine lstep (wpO_plain rfl (op_pickF hs none rfl rfl rfl rfl rfl fun ac hs => ?_))
    refine lstep (wpO_plain rfl (op_assign hs none rfl rfl rfl rfl fun ac hs => ?_))
    refine wpList_nil ?_
    refine then_n ?_
    refine wp_ret ?_
    exact bodyPost_ret (res1 rfl (rv_t hs rfl)) hs.defers ⟨by rw [← hq]; exact congrArg (fun b => Ending.returned (.bool b)) (ev_odd hq2), (hs.bel rfl)⟩
  · skip
    replace hs := hs.setb 0 (cs' := (PVl (px T) (py T) false)) rfl (by rw [(Bool.eq_false_iff.2 hq2)]; rfl)
    refine wp_region_lit ?_
    refine lstep (wpO_plain rfl (op_fieldA hs none rfl rfl rfl Try.underlying41 rfl Try.sizeOf4 (by decide) rfl fun ac hs => ?_))
    refine lstep (wpO_plain rfl (op_load hs none 0 (v := .bool false) rfl rfl rfl rfl Try.isAgg4 Try.sizeOf4 rfl rfl fun ac hs => ?_))
    refine lstep (wpO_plain rfl (op_un hs none (v := .bool true) rfl rfl rfl (fun _ => rfl) rfl fun ac hs => ?_))
    refine lstep (wpO_plain rfl (op_move hs none rfl rfl rfl rfl fun ac hs => ?_))
    refine lstep (wpO_in hs rfl rfl rfl (op_fieldA hs none rfl rfl rfl Try.underlying41 rfl Try.sizeOf24 (by decide) rfl fun ac hs => ?_))
    refine lstep (wpO_in hs rfl rfl rfl (op_idxA hs none (j := 0) rfl rfl rfl rfl Try.underlying24 Try.sizeOf22 (by decide) (off := 4) rfl rfl fun ac hs => ?_))
    have l3 := limN_lt (py T) 0
    refine lstep (wpO_in hs rfl rfl rfl (op_load hs none 0 (v := .int .u64 (lim (py T) 0)) rfl rfl rfl rfl Try.isAgg22 Try.sizeOf22 rfl rfl fun ac hs => ?_))
    refine lstep (wpO_in hs rfl rfl rfl (op_bin hs none (v := .int .u64 (((limN (py T) 0) % 2 : Nat) : Int)) rfl rfl rfl rfl (fun _ => rfl) (bin_andN (x := limN (py T) 0) (y := 1) (z := (limN (py T) 0) % 2) (Nat.and_two_pow_sub_one_eq_mod (limN (py T) 0) 1) (limN_lt _ _) (by decide) (show (limN (py T) 0) % 2 < 18446744073709551616 by omega)) rfl fun ac hs => ?_))
    refine lstep (wpO_in hs rfl rfl rfl (op_bin hs none (v := .bool (decide ((limN (py T) 0) % 2 = 0))) rfl rfl rfl rfl (fun _ => rfl) (bin_eqlN (x := (limN (py T) 0) % 2) (y := 0)) rfl fun ac hs => ?_))
    refine lstep (wpO_plain rfl (op_pickT hs none rfl rfl rfl rfl rfl fun ac hs => ?_))
    refine lstep (wpO_plain rfl (op_assign hs none rfl rfl rfl rfl fun ac hs => ?_))
    refine wpList_nil ?_
    refine then_n ?_
    refine wp_ret ?_
    exact bodyPost_ret (res1 rfl (rv_t hs rfl)) hs.defers ⟨by rw [← hq]; exact congrArg (fun b => Ending.returned (.bool b)) (ev_val hq2), (hs.bel rfl)⟩
theorem base_c  (w0 : World) : Calls Try.prog 12 #[] w0 fun e w' => e = .returned (PV (px Gp) (py Gp) (pz Gp)) ∧ Below w0.heap.size w0 w' := by
  refine enter (n := 4) (args := []) Try.func12 rfl rfl (Nat.le_of_ble_eq_true rfl) fun ac hs => ?_
  refine wp_seq ?_
  refine wp_region_lit ?_
  refine lstep (wpO_plain rfl (op_alloc hs none none (cs := (PVl 0 0 false)) rfl rfl Try.zeroValue41 (by kernel_rfl) rfl rfl fun g1 ac w hs => ?_))
  refine wpList_nil ?_
  refine then_n ?_
  refine wp_seq ?_
  refine wp_region_lit ?_
  refine lstep (wpO_plain rfl (op_build hs none (qs := [(0, .int .u64 6481385041966929816), (1, .int .u64 188021827762530521), (2, .int .u64 6170039885052185351), (3, .int .u64 8772561819708210092)]) (v := .agg #[.int .u64 6481385041966929816, .int .u64 188021827762530521, .int .u64 6170039885052185351, .int .u64 8772561819708210092]) rfl rfl rfl rfl (fun _ => by kernel_rfl) rfl fun ac hs => ?_))
  refine lstep (wpO_plain rfl (op_build hs none (qs := [(0, .int .u64 11261198710074299576), (1, .int .u64 18237243440184513561), (2, .int .u64 6747795201694173352), (3, .int .u64 5204712524664259685)]) (v := .agg #[.int .u64 11261198710074299576, .int .u64 18237243440184513561, .int .u64 6747795201694173352, .int .u64 5204712524664259685]) rfl rfl rfl rfl (fun _ => by kernel_rfl) rfl fun ac hs => ?_))
  refine lstep (wpO_plain rfl (op_build hs none (qs := [(0, .agg #[.int .u64 6481385041966929816, .int .u64 188021827762530521, .int .u64 6170039885052185351, .int .u64 8772561819708210092]), (1, .agg #[.int .u64 11261198710074299576, .int .u64 18237243440184513561, .int .u64 6747795201694173352, .int .u64 5204712524664259685])]) (v := .agg #[.int .u64 6481385041966929816, .int .u64 188021827762530521, .int .u64 6170039885052185351, .int .u64 8772561819708210092, .int .u64 11261198710074299576, .int .u64 18237243440184513561, .int .u64 6747795201694173352, .int .u64 5204712524664259685, .bool false]) rfl rfl rfl rfl (fun _ => by kernel_rfl) rfl fun ac hs => ?_))
  refine lstep (wpO_plain rfl (op_store hs 0 (vs := [.int .u64 6481385041966929816, .int .u64 188021827762530521, .int .u64 6170039885052185351, .int .u64 8772561819708210092, .int .u64 11261198710074299576, .int .u64 18237243440184513561, .int .u64 6747795201694173352, .int .u64 5204712524664259685, .bool false]) rfl rfl rfl rfl rfl Try.sizeOf41 rfl rfl rfl rfl rfl fun w hs => ?_))
  refine wpList_nil ?_
  refine then_n ?_
  refine wp_ret ?_
  exact bodyPost_ret (res1 rfl (rv_c hs 0 (v := .agg #[.int .u64 6481385041966929816, .int .u64 188021827762530521, .int .u64 6170039885052185351, .int .u64 8772561819708210092, .int .u64 11261198710074299576, .int .u64 18237243440184513561, .int .u64 6747795201694173352, .int .u64 5204712524664259685, .bool false]) rfl rfl Try.isAgg41 Try.sizeOf41 rfl)) hs.defers ⟨by kernel_rfl, (hs.bel rfl)⟩
end Go.Proofs.Ytejbajgpiecjcaa
