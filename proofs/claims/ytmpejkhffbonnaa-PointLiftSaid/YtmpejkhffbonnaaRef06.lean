/- The contracts of the reference's numbers of 256 bits. -/
import Derived.Test.YtmpejkhffbonnaaSl
import Derived.Test.YtmpejkhffbonnaaRef06P
namespace Go.Proofs.Ytmpejkhffbonnaa
open Go.RowKit
set_option maxRecDepth 10000

theorem inf_u64_22 : Inf Try.prog 22 (.int .u64 0) 1 8 := inf_of (by kernel_rfl)
theorem rbit_c (a i b : Nat) (hi : i < 256) (hb : a / 2 ^ i % 2 = b) (w0 : World) : Calls Try.prog 40 #[W a, .int .i64 ((i : Nat) : Int)] w0 fun e w' => e = .returned (.int .u64 ((b : Nat) : Int)) ∧ Below w0.heap.size w0 w' := by
  refine enter (n := 15) (args := [W a, .int .i64 ((i : Nat) : Int)]) Try.func40 rfl rfl (Nat.le_of_ble_eq_true rfl) fun ac hs => ?_
  refine wp_seq ?_
  refine wp_region_lit ?_
  refine lstep (wpO_plain rfl (op_box hs none none (cs := (Wl a)) rfl rfl rfl rfl rfl rfl fun g1 ac w hs => ?_))
  refine lstep (wpO_plain rfl (op_assign hs none rfl rfl rfl rfl fun ac hs => ?_))
  refine wpList_nil ?_
  refine then_n ?_
  refine wp_seq ?_
  refine wp_region_lit ?_
  refine lstep (wpO_plain rfl (op_move hs none rfl rfl rfl rfl fun ac hs => ?_))
  refine lstep (wpO_plain rfl (op_bin hs none (v := .int .i64 ((i / 64 : Nat) : Int)) rfl rfl rfl rfl (fun _ => rfl) (bin_quoN (x := i) (y := 64) (z := i / 64) rfl (by decide) (show i < 9223372036854775808 by omega)) rfl fun ac hs => ?_))
  refine lstep (wpO_plain rfl (op_idxA hs none (j := i / 64) rfl rfl rfl rfl Try.underlying24 Try.sizeOf22 (show i / 64 < 4 by omega) (off := i / 64) (by omega) rfl fun ac hs => ?_))
  have l2 := limN_lt a (i / 64)
  refine lstep (wpO_plain rfl (op_load hs none 0 (v := .int .u64 ((limN a (i / 64) : Nat) : Int)) rfl rfl rfl rfl Try.isAgg22 Try.sizeOf22 (Wl_get (j := i / 64) (show i / 64 < 4 by omega)) rfl fun ac hs => ?_))
  refine lstep (wpO_plain rfl (op_move hs none rfl rfl rfl rfl fun ac hs => ?_))
  refine lstep (wpO_plain rfl (op_bin hs none (v := .int .i64 ((i % 64 : Nat) : Int)) rfl rfl rfl rfl (fun _ => rfl) (bin_remN (x := i) (y := 64) (z := i % 64) rfl (by decide)) rfl fun ac hs => ?_))
  refine lstep (wpO_plain rfl (op_convert hs none (v := .int .u64 ((i % 64 : Nat) : Int)) rfl rfl rfl (conv_N Try.underlying3 Try.underlying70 (show i % 64 < 18446744073709551616 by omega)) rfl fun ac hs => ?_))
  refine lstep (wpO_plain rfl (op_bin hs none (v := .int .u64 ((2 ^ (i % 64) : Nat) : Int)) rfl rfl rfl rfl (fun _ => rfl) (bin_shlM (x := 1) (y := i % 64) (z := 2 ^ (i % 64)) rfl (pow_mod64 (Nat.mod_lt _ (by decide)))) rfl fun ac hs => ?_))
  refine lstep (wpO_plain rfl (op_bin hs none (v := .int .u64 (((limN a (i / 64)) / (2 ^ (i % 64)) : Nat) : Int)) rfl rfl rfl rfl (fun _ => rfl) (bin_quoN (x := limN a (i / 64)) (y := 2 ^ (i % 64)) (z := (limN a (i / 64)) / (2 ^ (i % 64))) rfl (Nat.ne_of_gt (Nat.two_pow_pos _)) (limN_lt _ _)) rfl fun ac hs => ?_))
  refine lstep (wpO_plain rfl (op_bin hs none (v := .int .u64 ((((limN a (i / 64)) / (2 ^ (i % 64))) % 2 : Nat) : Int)) rfl rfl rfl rfl (fun _ => rfl) (bin_remN (x := (limN a (i / 64)) / (2 ^ (i % 64))) (y := 2) (z := ((limN a (i / 64)) / (2 ^ (i % 64))) % 2) rfl (by decide)) rfl fun ac hs => ?_))
  refine lstep (wpO_plain rfl (op_assign hs none rfl rfl rfl rfl fun ac hs => ?_))
  refine wpList_nil ?_
  refine then_n ?_
  refine wp_ret ?_
  exact bodyPost_ret (res1 rfl (rv_t hs rfl)) hs.defers ⟨by rw [bit_lim, hb], hs.below⟩
theorem rtwice_c (a b t q : Nat) (ha : a < 2 ^ 256) (hb : b ≤ 1) (ht : (2 * a + b) % 2 ^ 256 = t) (hc' : (2 * a + b) / 2 ^ 256 = q) (w0 : World) : Calls Try.prog 98 #[W a, .int .u64 ((b : Nat) : Int)] w0 fun e w' => e = .returned (.tuple #[W t, .int .u64 ((q : Nat) : Int)]) ∧ Below w0.heap.size w0 w' := by
  refine enter (n := 40) (args := [W a, .int .u64 ((b : Nat) : Int)]) Try.func98 rfl rfl (Nat.le_of_ble_eq_true rfl) fun ac hs => ?_
  refine wp_seq ?_
  refine wp_region_lit ?_
  refine lstep (wpO_plain rfl (op_box hs none none (cs := (Wl a)) rfl rfl rfl rfl rfl rfl fun g1 ac w hs => ?_))
  refine lstep (wpO_plain rfl (op_alloc hs none none (cs := [.int .u64 0, .int .u64 0, .int .u64 0, .int .u64 0]) rfl rfl Try.zeroValue24 (by kernel_rfl) rfl rfl fun g2 ac w hs => ?_))
  refine lstep (wpO_plain rfl (op_assign hs none rfl rfl rfl rfl fun ac hs => ?_))
  refine wpList_nil ?_
  refine then_n ?_
  refine wp_seq ?_
  refine wp_region_lit ?_
  refine lstep (wpO_plain rfl (op_idxA hs none (j := 3) rfl rfl rfl rfl Try.underlying24 Try.sizeOf22 (by decide) (off := 3) rfl rfl fun ac hs => ?_))
  have l3 := limN_lt a 3
  refine lstep (wpO_plain rfl (op_load hs none 0 (v := .int .u64 (lim a 3)) rfl rfl rfl rfl Try.isAgg22 Try.sizeOf22 rfl rfl fun ac hs => ?_))
  refine lstep (wpO_plain rfl (op_bin hs none (v := .int .u64 (((limN a 3) / 9223372036854775808 : Nat) : Int)) rfl rfl rfl rfl (fun _ => rfl) (bin_quoN (x := limN a 3) (y := 9223372036854775808) (z := (limN a 3) / 9223372036854775808) rfl (by decide) (show limN a 3 < 18446744073709551616 by omega)) rfl fun ac hs => ?_))
  refine lstep (wpO_plain rfl (op_assign hs none rfl rfl rfl rfl fun ac hs => ?_))
  refine wpList_nil ?_
  refine then_n ?_
  refine wp_seq ?_
  refine wp_region_lit ?_
  refine lstep (wpO_plain rfl (op_idxA hs none (j := 0) rfl rfl rfl rfl Try.underlying24 Try.sizeOf22 (by decide) (off := 0) rfl rfl fun ac hs => ?_))
  have l4 := limN_lt a 0
  refine lstep (wpO_plain rfl (op_load hs none 0 (v := .int .u64 (lim a 0)) rfl rfl rfl rfl Try.isAgg22 Try.sizeOf22 rfl rfl fun ac hs => ?_))
  refine lstep (wpO_plain rfl (op_bin hs none (v := .int .u64 (((limN a 0) * 2 % 18446744073709551616 : Nat) : Int)) rfl rfl rfl rfl (fun _ => rfl) (bin_mulM (x := limN a 0) (y := 2) (z := (limN a 0) * 2 % 18446744073709551616) rfl rfl) rfl fun ac hs => ?_))
  refine lstep (wpO_plain rfl (op_move hs none rfl rfl rfl rfl fun ac hs => ?_))
  refine lstep (wpO_plain rfl (op_bin hs none (v := .int .u64 (((limN a 0) * 2 % 18446744073709551616 + b : Nat) : Int)) rfl rfl rfl rfl (fun _ => rfl) (bin_addN (x := (limN a 0) * 2 % 18446744073709551616) (y := b) (z := (limN a 0) * 2 % 18446744073709551616 + b) rfl (show (limN a 0) * 2 % 18446744073709551616 + b < 18446744073709551616 by omega)) rfl fun ac hs => ?_))
  refine lstep (wpO_plain rfl (op_idxA hs none (j := 1) rfl rfl rfl rfl Try.underlying24 Try.sizeOf22 (by decide) (off := 1) rfl rfl fun ac hs => ?_))
  have l5 := limN_lt a 1
  refine lstep (wpO_plain rfl (op_load hs none 0 (v := .int .u64 (lim a 1)) rfl rfl rfl rfl Try.isAgg22 Try.sizeOf22 rfl rfl fun ac hs => ?_))
  refine lstep (wpO_plain rfl (op_bin hs none (v := .int .u64 (((limN a 1) * 2 % 18446744073709551616 : Nat) : Int)) rfl rfl rfl rfl (fun _ => rfl) (bin_mulM (x := limN a 1) (y := 2) (z := (limN a 1) * 2 % 18446744073709551616) rfl rfl) rfl fun ac hs => ?_))
  refine lstep (wpO_plain rfl (op_idxA hs none (j := 0) rfl rfl rfl rfl Try.underlying24 Try.sizeOf22 (by decide) (off := 0) rfl rfl fun ac hs => ?_))
  have l6 := limN_lt a 0
  refine lstep (wpO_plain rfl (op_load hs none 0 (v := .int .u64 (lim a 0)) rfl rfl rfl rfl Try.isAgg22 Try.sizeOf22 rfl rfl fun ac hs => ?_))
  refine lstep (wpO_plain rfl (op_bin hs none (v := .int .u64 (((limN a 0) / 9223372036854775808 : Nat) : Int)) rfl rfl rfl rfl (fun _ => rfl) (bin_quoN (x := limN a 0) (y := 9223372036854775808) (z := (limN a 0) / 9223372036854775808) rfl (by decide) (show limN a 0 < 18446744073709551616 by omega)) rfl fun ac hs => ?_))
  refine lstep (wpO_plain rfl (op_bin hs none (v := .int .u64 (((limN a 1) * 2 % 18446744073709551616 + ((limN a 0) / 9223372036854775808) : Nat) : Int)) rfl rfl rfl rfl (fun _ => rfl) (bin_addN (x := (limN a 1) * 2 % 18446744073709551616) (y := (limN a 0) / 9223372036854775808) (z := (limN a 1) * 2 % 18446744073709551616 + ((limN a 0) / 9223372036854775808)) rfl (show (limN a 1) * 2 % 18446744073709551616 + ((limN a 0) / 9223372036854775808) < 18446744073709551616 by omega)) rfl fun ac hs => ?_))
  refine lstep (wpO_plain rfl (op_idxA hs none (j := 2) rfl rfl rfl rfl Try.underlying24 Try.sizeOf22 (by decide) (off := 2) rfl rfl fun ac hs => ?_))
  have l7 := limN_lt a 2
  refine lstep (wpO_plain rfl (op_load hs none 0 (v := .int .u64 (lim a 2)) rfl rfl rfl rfl Try.isAgg22 Try.sizeOf22 rfl rfl fun ac hs => ?_))
  refine lstep (wpO_plain rfl (op_bin hs none (v := .int .u64 (((limN a 2) * 2 % 18446744073709551616 : Nat) : Int)) rfl rfl rfl rfl (fun _ => rfl) (bin_mulM (x := limN a 2) (y := 2) (z := (limN a 2) * 2 % 18446744073709551616) rfl rfl) rfl fun ac hs => ?_))
  refine lstep (wpO_plain rfl (op_idxA hs none (j := 1) rfl rfl rfl rfl Try.underlying24 Try.sizeOf22 (by decide) (off := 1) rfl rfl fun ac hs => ?_))
  have l8 := limN_lt a 1
  refine lstep (wpO_plain rfl (op_load hs none 0 (v := .int .u64 (lim a 1)) rfl rfl rfl rfl Try.isAgg22 Try.sizeOf22 rfl rfl fun ac hs => ?_))
  refine lstep (wpO_plain rfl (op_bin hs none (v := .int .u64 (((limN a 1) / 9223372036854775808 : Nat) : Int)) rfl rfl rfl rfl (fun _ => rfl) (bin_quoN (x := limN a 1) (y := 9223372036854775808) (z := (limN a 1) / 9223372036854775808) rfl (by decide) (show limN a 1 < 18446744073709551616 by omega)) rfl fun ac hs => ?_))
  refine lstep (wpO_plain rfl (op_bin hs none (v := .int .u64 (((limN a 2) * 2 % 18446744073709551616 + ((limN a 1) / 9223372036854775808) : Nat) : Int)) rfl rfl rfl rfl (fun _ => rfl) (bin_addN (x := (limN a 2) * 2 % 18446744073709551616) (y := (limN a 1) / 9223372036854775808) (z := (limN a 2) * 2 % 18446744073709551616 + ((limN a 1) / 9223372036854775808)) rfl (show (limN a 2) * 2 % 18446744073709551616 + ((limN a 1) / 9223372036854775808) < 18446744073709551616 by omega)) rfl fun ac hs => ?_))
  refine lstep (wpO_plain rfl (op_idxA hs none (j := 3) rfl rfl rfl rfl Try.underlying24 Try.sizeOf22 (by decide) (off := 3) rfl rfl fun ac hs => ?_))
  have l9 := limN_lt a 3
  refine lstep (wpO_plain rfl (op_load hs none 0 (v := .int .u64 (lim a 3)) rfl rfl rfl rfl Try.isAgg22 Try.sizeOf22 rfl rfl fun ac hs => ?_))
  refine lstep (wpO_plain rfl (op_bin hs none (v := .int .u64 (((limN a 3) * 2 % 18446744073709551616 : Nat) : Int)) rfl rfl rfl rfl (fun _ => rfl) (bin_mulM (x := limN a 3) (y := 2) (z := (limN a 3) * 2 % 18446744073709551616) rfl rfl) rfl fun ac hs => ?_))
  refine lstep (wpO_plain rfl (op_idxA hs none (j := 2) rfl rfl rfl rfl Try.underlying24 Try.sizeOf22 (by decide) (off := 2) rfl rfl fun ac hs => ?_))
  have l10 := limN_lt a 2
  refine lstep (wpO_plain rfl (op_load hs none 0 (v := .int .u64 (lim a 2)) rfl rfl rfl rfl Try.isAgg22 Try.sizeOf22 rfl rfl fun ac hs => ?_))
  refine lstep (wpO_plain rfl (op_bin hs none (v := .int .u64 (((limN a 2) / 9223372036854775808 : Nat) : Int)) rfl rfl rfl rfl (fun _ => rfl) (bin_quoN (x := limN a 2) (y := 9223372036854775808) (z := (limN a 2) / 9223372036854775808) rfl (by decide) (show limN a 2 < 18446744073709551616 by omega)) rfl fun ac hs => ?_))
  refine lstep (wpO_plain rfl (op_bin hs none (v := .int .u64 (((limN a 3) * 2 % 18446744073709551616 + ((limN a 2) / 9223372036854775808) : Nat) : Int)) rfl rfl rfl rfl (fun _ => rfl) (bin_addN (x := (limN a 3) * 2 % 18446744073709551616) (y := (limN a 2) / 9223372036854775808) (z := (limN a 3) * 2 % 18446744073709551616 + ((limN a 2) / 9223372036854775808)) rfl (show (limN a 3) * 2 % 18446744073709551616 + ((limN a 2) / 9223372036854775808) < 18446744073709551616 by omega)) rfl fun ac hs => ?_))
  refine lstep (wpO_plain rfl (op_build hs none (qs := [(0, .int .u64 (((limN a 0) * 2 % 18446744073709551616 + b : Nat) : Int)), (1, .int .u64 (((limN a 1) * 2 % 18446744073709551616 + ((limN a 0) / 9223372036854775808) : Nat) : Int)), (2, .int .u64 (((limN a 2) * 2 % 18446744073709551616 + ((limN a 1) / 9223372036854775808) : Nat) : Int)), (3, .int .u64 (((limN a 3) * 2 % 18446744073709551616 + ((limN a 2) / 9223372036854775808) : Nat) : Int))]) (v := .agg #[.int .u64 (((limN a 0) * 2 % 18446744073709551616 + b : Nat) : Int), .int .u64 (((limN a 1) * 2 % 18446744073709551616 + ((limN a 0) / 9223372036854775808) : Nat) : Int), .int .u64 (((limN a 2) * 2 % 18446744073709551616 + ((limN a 1) / 9223372036854775808) : Nat) : Int), .int .u64 (((limN a 3) * 2 % 18446744073709551616 + ((limN a 2) / 9223372036854775808) : Nat) : Int)]) rfl rfl rfl rfl (fun _ => by kernel_rfl) rfl fun ac hs => ?_))
  refine lstep (wpO_plain rfl (op_alloc hs none none (cs := [.int .u64 0, .int .u64 0, .int .u64 0, .int .u64 0]) rfl rfl Try.zeroValue24 (by kernel_rfl) rfl rfl fun g11 ac w hs => ?_))
  refine lstep (wpO_plain rfl (op_store hs 2 (vs := [.int .u64 (((limN a 0) * 2 % 18446744073709551616 + b : Nat) : Int), .int .u64 (((limN a 1) * 2 % 18446744073709551616 + ((limN a 0) / 9223372036854775808) : Nat) : Int), .int .u64 (((limN a 2) * 2 % 18446744073709551616 + ((limN a 1) / 9223372036854775808) : Nat) : Int), .int .u64 (((limN a 3) * 2 % 18446744073709551616 + ((limN a 2) / 9223372036854775808) : Nat) : Int)]) rfl rfl rfl rfl rfl Try.sizeOf24 rfl rfl rfl rfl rfl fun w hs => ?_))
  refine wpList_nil ?_
  refine then_n ?_
  refine wp_seq ?_
  refine wp_region_lit ?_
  refine lstep (wpO_plain rfl (op_load hs none 2 (v := .agg #[.int .u64 (((limN a 0) * 2 % 18446744073709551616 + b : Nat) : Int), .int .u64 (((limN a 1) * 2 % 18446744073709551616 + ((limN a 0) / 9223372036854775808) : Nat) : Int), .int .u64 (((limN a 2) * 2 % 18446744073709551616 + ((limN a 1) / 9223372036854775808) : Nat) : Int), .int .u64 (((limN a 3) * 2 % 18446744073709551616 + ((limN a 2) / 9223372036854775808) : Nat) : Int)]) rfl rfl rfl rfl Try.isAgg24 Try.sizeOf24 rfl rfl fun ac hs => ?_))
  refine lstep (wpO_plain rfl (op_move hs none rfl rfl rfl rfl fun ac hs => ?_))
  refine lstep (wpO_plain rfl (op_store hs 1 (vs := [.int .u64 (((limN a 0) * 2 % 18446744073709551616 + b : Nat) : Int), .int .u64 (((limN a 1) * 2 % 18446744073709551616 + ((limN a 0) / 9223372036854775808) : Nat) : Int), .int .u64 (((limN a 2) * 2 % 18446744073709551616 + ((limN a 1) / 9223372036854775808) : Nat) : Int), .int .u64 (((limN a 3) * 2 % 18446744073709551616 + ((limN a 2) / 9223372036854775808) : Nat) : Int)]) rfl rfl rfl rfl rfl Try.sizeOf24 rfl rfl rfl rfl rfl fun w hs => ?_))
  refine lstep (wpO_plain rfl (op_assign hs none rfl rfl rfl rfl fun ac hs => ?_))
  refine wpList_nil ?_
  refine then_n ?_
  refine wp_ret ?_
  exact bodyPost_ret (res2 rfl (rv_c hs 1 (v := .agg #[.int .u64 (((limN a 0) * 2 % 18446744073709551616 + b : Nat) : Int), .int .u64 (((limN a 1) * 2 % 18446744073709551616 + ((limN a 0) / 9223372036854775808) : Nat) : Int), .int .u64 (((limN a 2) * 2 % 18446744073709551616 + ((limN a 1) / 9223372036854775808) : Nat) : Int), .int .u64 (((limN a 3) * 2 % 18446744073709551616 + ((limN a 2) / 9223372036854775808) : Nat) : Int)]) rfl rfl Try.isAgg24 Try.sizeOf24 rfl) (rv_t hs rfl)) hs.defers ⟨by rw [← ht, W_mod, ← tw_c ha hb hc']; exact congrArg (fun l => Ending.returned (.tuple #[.agg (List.toArray l), _])) (tw_limbs hb), hs.below⟩
theorem rcmp_c (a b : Nat) (ha : a < 2 ^ 256) (hb : b < 2 ^ 256) (w0 : World) : Calls Try.prog 80 #[W a, W b] w0 fun e w' => e = .returned (.int .i64 (cmpZ a b)) ∧ Below w0.heap.size w0 w' := by
  refine enter (n := 24) (args := [W a, W b]) Try.func80 rfl rfl (Nat.le_of_ble_eq_true rfl) fun ac hs => ?_
  refine wp_seq ?_
  refine wp_region_lit ?_
  refine lstep (wpO_plain rfl (op_box hs none none (cs := (Wl a)) rfl rfl rfl rfl rfl rfl fun g1 ac w hs => ?_))
  refine lstep (wpO_plain rfl (op_box hs none none (cs := (Wl b)) rfl rfl rfl rfl rfl rfl fun g2 ac w hs => ?_))
  refine lstep (wpO_plain rfl (op_assign hs none rfl rfl rfl rfl fun ac hs => ?_))
  refine wpList_nil ?_
  refine then_n ?_
  refine wp_seq ?_
  refine wp_seq ?_
  refine wp_region_lit ?_
  refine lstep (wpO_plain rfl (op_assign hs none rfl rfl rfl rfl fun ac hs => ?_))
  refine wpList_nil ?_
  refine then_n ?_
  refine wp_block ?_
  refine wp_loop_m (fun μ ac w => ∃ (k : Nat), (k) = μ ∧ (k ≤ 4) ∧ (a / 2 ^ (64 * k) = b / 2 ^ (64 * k)) ∧ St 24 w0 [(2, true, .pointer (some ⟨g1, 0, none⟩)), (3, true, .pointer (some ⟨g2, 0, none⟩)), (5, true, .int .i64 (((k : Nat) : Int) - 1))] [(true, g1, 24, (Wl a)), (true, g2, 24, (Wl b))] ac w) ?_ ?_
  · exact ⟨_, 4, rfl, (by omega), ((Nat.div_eq_of_lt ha).trans (Nat.div_eq_of_lt hb).symm), (hs.re ⟨rfl, rfl, rfl, trivial⟩)⟩
  intro μ ac w ⟨k, hμ, hk, hq, hs⟩
  refine wp_seq ?_
  refine wp_seq ?_
  refine wp_region_lit ?_
  refine lstep (wpO_plain rfl (op_move hs none rfl rfl rfl rfl fun ac hs => ?_))
  refine lstep (wpO_plain rfl (op_bin hs none (v := .bool (decide (1 ≤ k))) rfl rfl rfl rfl (fun _ => rfl) bin_geqP rfl fun ac hs => ?_))
  refine wpList_nil ?_
  refine then_n ?_
  refine wp_cond_split (hs.ev rfl) (fun hc => ?_) (fun hc => ?_)
  · skip
    have hp3 := of_decide_eq_true hc
    replace hs := hs.re (fs' := [(2, true, .pointer (some ⟨g1, 0, none⟩)), (3, true, .pointer (some ⟨g2, 0, none⟩)), (5, true, .int .i64 ((k - 1 : Nat) : Int)), (6, true, .int .i64 (((k : Nat) : Int) - 1)), (7, true, .bool (decide (1 ≤ k)))]) ⟨rfl, rfl, congrArg some (pre_nat hp3), rfl, rfl, trivial⟩
    refine wp_skip ?_
    refine then_n ?_
    refine wp_seq ?_
    refine wp_block ?_
    refine wp_seq ?_
    refine wp_seq ?_
    replace hs : St 24 w0 [(2, true, .pointer (some ⟨g1, 0, none⟩)), (3, true, .pointer (some ⟨g2, 0, none⟩)), (5, true, .int .i64 ((k - 1 : Nat) : Int))] [(true, g1, 24, (Wl a)), (true, g2, 24, (Wl b))] ac _ := hs.re ⟨rfl, rfl, rfl, trivial⟩
    have l4 := limN_lt a (k - 1)
    have l5 := limN_lt b (k - 1)
    refine region_inv [([], [1, 2, 6]), ([0], [2, 6]), ([0, 1], [6]), ([], [4, 5, 6]), ([3], [5, 6]), ([3, 4], [6]), ([0, 1, 2, 3, 4, 5], [])] (fun L ac w => St 24 w0 [(10, L 0, .int .i64 ((k - 1 : Nat) : Int)), (11, L 1, .pointer (some ⟨g1, k - 1, none⟩)), (12, L 2, .int .u64 ((limN a (k - 1) : Nat) : Int)), (13, L 3, .int .i64 ((k - 1 : Nat) : Int)), (14, L 4, .pointer (some ⟨g2, k - 1, none⟩)), (15, L 5, .int .u64 ((limN b (k - 1) : Nat) : Int)), (16, L 6, .bool (decide (limN a (k - 1) < limN b (k - 1)))), (2, true, .pointer (some ⟨g1, 0, none⟩)), (3, true, .pointer (some ⟨g2, 0, none⟩)), (5, true, .int .i64 ((k - 1 : Nat) : Int))] [(true, g1, 24, (Wl a)), (true, g2, 24, (Wl b))] ac w) (by kernel_rfl) (by kernel_rfl) ?_ ?_ ?_
    · exact hs.drew.skip.skip.skip.skip.skip.skip.skip
    · refine ⟨?_, ?_, ?_, ?_, ?_, ?_, ?_, trivial⟩
      · intro L ac w hJ
        have hs := hJ
        refine wpO_plain rfl (op_move hs (some 0) rfl rfl rfl rfl fun ac hs => ?_)
        exact hs
      · intro L ac w hJ
        have hs := hJ
        refine wpO_plain rfl (op_idxA hs (some 1) (j := k - 1) rfl rfl rfl rfl Try.underlying24 Try.sizeOf22 (show k - 1 < 4 by omega) (off := k - 1) (by omega) rfl fun ac hs => ?_)
        exact hs
      · intro L ac w hJ
        have hs := hJ
        refine wpO_plain rfl (op_load hs (some 2) 0 (v := .int .u64 ((limN a (k - 1) : Nat) : Int)) rfl rfl rfl rfl Try.isAgg22 Try.sizeOf22 (Wl_get (j := k - 1) (show k - 1 < 4 by omega)) rfl fun ac hs => ?_)
        exact hs
      · intro L ac w hJ
        have hs := hJ
        refine wpO_plain rfl (op_move hs (some 3) rfl rfl rfl rfl fun ac hs => ?_)
        exact hs
      · intro L ac w hJ
        have hs := hJ
        refine wpO_plain rfl (op_idxA hs (some 4) (j := k - 1) rfl rfl rfl rfl Try.underlying24 Try.sizeOf22 (show k - 1 < 4 by omega) (off := k - 1) (by omega) rfl fun ac hs => ?_)
        exact hs
      · intro L ac w hJ
        have hs := hJ
        refine wpO_plain rfl (op_load hs (some 5) 1 (v := .int .u64 ((limN b (k - 1) : Nat) : Int)) rfl rfl rfl rfl Try.isAgg22 Try.sizeOf22 (Wl_get (j := k - 1) (show k - 1 < 4 by omega)) rfl fun ac hs => ?_)
        exact hs
      · intro L ac w hJ
        have hs := hJ
        refine wpO_plain rfl (op_bin hs (some 6) (v := .bool (decide (limN a (k - 1) < limN b (k - 1)))) rfl rfl rfl rfl (fun _ => rfl) (bin_lssN (x := limN a (k - 1)) (y := limN b (k - 1))) rfl fun ac hs => ?_)
        exact hs
    intro ac w hJ
    replace hs : St 24 w0 [(10, true, .int .i64 ((k - 1 : Nat) : Int)), (11, true, .pointer (some ⟨g1, k - 1, none⟩)), (12, true, .int .u64 ((limN a (k - 1) : Nat) : Int)), (13, true, .int .i64 ((k - 1 : Nat) : Int)), (14, true, .pointer (some ⟨g2, k - 1, none⟩)), (15, true, .int .u64 ((limN b (k - 1) : Nat) : Int)), (16, true, .bool (decide (limN a (k - 1) < limN b (k - 1)))), (2, true, .pointer (some ⟨g1, 0, none⟩)), (3, true, .pointer (some ⟨g2, 0, none⟩)), (5, true, .int .i64 ((k - 1 : Nat) : Int))] [(true, g1, 24, (Wl a)), (true, g2, 24, (Wl b))] ac w := hJ
    refine then_n ?_
    refine wp_cond_split (hs.ev rfl) (fun hc => ?_) (fun hc => ?_)
    · skip
      have hp6 := of_decide_eq_true hc
      refine wp_seq ?_
      refine wp_region_lit ?_
      refine lstep (wpO_plain rfl (op_assign hs none rfl rfl rfl rfl fun ac hs => ?_))
      refine wpList_nil ?_
      refine then_n ?_
      refine wp_ret ?_
      refine then_r ?_
      refine blk_r ?_
      refine then_r ?_
      refine then_r ?_
      refine blk_r ?_
      refine then_r ?_
      exact bodyPost_ret (res1 rfl (rv_t hs rfl)) hs.defers ⟨ret_int (cmp_lt (cmp_hi hp3 hq hp6)).symm, hs.below⟩
    · skip
      have hp7 := of_decide_eq_false hc
      refine wp_skip ?_
      refine then_n ?_
      refine wp_seq ?_
      replace hs : St 24 w0 [(2, true, .pointer (some ⟨g1, 0, none⟩)), (3, true, .pointer (some ⟨g2, 0, none⟩)), (5, true, .int .i64 ((k - 1 : Nat) : Int))] [(true, g1, 24, (Wl a)), (true, g2, 24, (Wl b))] ac _ := hs.re ⟨rfl, rfl, rfl, trivial⟩
      have l8 := limN_lt a (k - 1)
      have l9 := limN_lt b (k - 1)
      refine region_inv [([], [1, 2, 6]), ([0], [2, 6]), ([0, 1], [6]), ([], [4, 5, 6]), ([3], [5, 6]), ([3, 4], [6]), ([0, 1, 2, 3, 4, 5], [])] (fun L ac w => St 24 w0 [(17, L 0, .int .i64 ((k - 1 : Nat) : Int)), (18, L 1, .pointer (some ⟨g1, k - 1, none⟩)), (19, L 2, .int .u64 ((limN a (k - 1) : Nat) : Int)), (20, L 3, .int .i64 ((k - 1 : Nat) : Int)), (21, L 4, .pointer (some ⟨g2, k - 1, none⟩)), (22, L 5, .int .u64 ((limN b (k - 1) : Nat) : Int)), (23, L 6, .bool (decide (limN b (k - 1) < limN a (k - 1)))), (2, true, .pointer (some ⟨g1, 0, none⟩)), (3, true, .pointer (some ⟨g2, 0, none⟩)), (5, true, .int .i64 ((k - 1 : Nat) : Int))] [(true, g1, 24, (Wl a)), (true, g2, 24, (Wl b))] ac w) (by kernel_rfl) (by kernel_rfl) ?_ ?_ ?_
      · exact hs.drew.skip.skip.skip.skip.skip.skip.skip
      · refine ⟨?_, ?_, ?_, ?_, ?_, ?_, ?_, trivial⟩
        · intro L ac w hJ
          have hs := hJ
          refine wpO_plain rfl (op_move hs (some 0) rfl rfl rfl rfl fun ac hs => ?_)
          exact hs
        · intro L ac w hJ
          have hs := hJ
          refine wpO_plain rfl (op_idxA hs (some 1) (j := k - 1) rfl rfl rfl rfl Try.underlying24 Try.sizeOf22 (show k - 1 < 4 by omega) (off := k - 1) (by omega) rfl fun ac hs => ?_)
          exact hs
        · intro L ac w hJ
          have hs := hJ
          refine wpO_plain rfl (op_load hs (some 2) 0 (v := .int .u64 ((limN a (k - 1) : Nat) : Int)) rfl rfl rfl rfl Try.isAgg22 Try.sizeOf22 (Wl_get (j := k - 1) (show k - 1 < 4 by omega)) rfl fun ac hs => ?_)
          exact hs
        · intro L ac w hJ
          have hs := hJ
          refine wpO_plain rfl (op_move hs (some 3) rfl rfl rfl rfl fun ac hs => ?_)
          exact hs
        · intro L ac w hJ
          have hs := hJ
          refine wpO_plain rfl (op_idxA hs (some 4) (j := k - 1) rfl rfl rfl rfl Try.underlying24 Try.sizeOf22 (show k - 1 < 4 by omega) (off := k - 1) (by omega) rfl fun ac hs => ?_)
          exact hs
        · intro L ac w hJ
          have hs := hJ
          refine wpO_plain rfl (op_load hs (some 5) 1 (v := .int .u64 ((limN b (k - 1) : Nat) : Int)) rfl rfl rfl rfl Try.isAgg22 Try.sizeOf22 (Wl_get (j := k - 1) (show k - 1 < 4 by omega)) rfl fun ac hs => ?_)
          exact hs
        · intro L ac w hJ
          have hs := hJ
          refine wpO_plain rfl (op_bin hs (some 6) (v := .bool (decide (limN b (k - 1) < limN a (k - 1)))) rfl rfl rfl rfl (fun _ => rfl) (bin_gtrN (x := limN a (k - 1)) (y := limN b (k - 1))) rfl fun ac hs => ?_)
          exact hs
      intro ac w hJ
      replace hs : St 24 w0 [(17, true, .int .i64 ((k - 1 : Nat) : Int)), (18, true, .pointer (some ⟨g1, k - 1, none⟩)), (19, true, .int .u64 ((limN a (k - 1) : Nat) : Int)), (20, true, .int .i64 ((k - 1 : Nat) : Int)), (21, true, .pointer (some ⟨g2, k - 1, none⟩)), (22, true, .int .u64 ((limN b (k - 1) : Nat) : Int)), (23, true, .bool (decide (limN b (k - 1) < limN a (k - 1)))), (2, true, .pointer (some ⟨g1, 0, none⟩)), (3, true, .pointer (some ⟨g2, 0, none⟩)), (5, true, .int .i64 ((k - 1 : Nat) : Int))] [(true, g1, 24, (Wl a)), (true, g2, 24, (Wl b))] ac w := hJ
      refine then_n ?_
      refine wp_cond_split (hs.ev rfl) (fun hc => ?_) (fun hc => ?_)
      · skip
        have hp10 := of_decide_eq_true hc
        refine wp_seq ?_
        refine wp_region_lit ?_
        refine lstep (wpO_plain rfl (op_assign hs none rfl rfl rfl rfl fun ac hs => ?_))
        refine wpList_nil ?_
        refine then_n ?_
        refine wp_ret ?_
        refine blk_r ?_
        refine then_r ?_
        refine then_r ?_
        refine blk_r ?_
        refine then_r ?_
        exact bodyPost_ret (res1 rfl (rv_t hs rfl)) hs.defers ⟨ret_int (cmp_gt (cmp_hi hp3 hq.symm hp10)).symm, hs.below⟩
      · skip
        have hp11 := of_decide_eq_false hc
        refine wp_skip ?_
        refine blk_n ?_
        refine then_n ?_
        refine wp_region_lit ?_
        refine lstep (wpO_plain rfl (op_move hs none rfl rfl rfl rfl fun ac hs => ?_))
        refine lstep (wpO_plain rfl (op_bin hs none (v := .int .i64 (((k - 1 : Nat) : Int) - 1)) rfl rfl rfl rfl (fun _ => rfl) (bin_subP (x := k - 1) (by omega)) rfl fun ac hs => ?_))
        refine lstep (wpO_plain rfl (op_assign hs none rfl rfl rfl rfl fun ac hs => ?_))
        refine wpList_nil ?_
        refine then_n ?_
        exact ⟨_, ⟨(k - 1), rfl, (by omega), (cmp_next hp3 hq hp7 hp11), (hs.re ⟨rfl, rfl, rfl, trivial⟩)⟩, (by omega)⟩
  · skip
    have hp12 := of_decide_eq_false hc
    obtain rfl : k = 0 := by omega
    have hq0 : a = b := by simpa using hq
    refine wp_exit ?_
    refine then_e ?_
    refine then_e ?_
    refine blk_e ?_
    refine then_n ?_
    refine wp_seq ?_
    refine wp_region_lit ?_
    refine lstep (wpO_plain rfl (op_assign hs none rfl rfl rfl rfl fun ac hs => ?_))
    refine wpList_nil ?_
    refine then_n ?_
    refine wp_ret ?_
    exact bodyPost_ret (res1 rfl (rv_t hs rfl)) hs.defers ⟨ret_int (cmp_eq hq0).symm, hs.below⟩
end Go.Proofs.Ytmpejkhffbonnaa
