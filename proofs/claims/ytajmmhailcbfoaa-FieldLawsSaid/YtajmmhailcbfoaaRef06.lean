/- The contracts of the reference's numbers of 256 bits. -/
import Derived.Test.YtajmmhailcbfoaaSl
import Derived.Test.YtajmmhailcbfoaaRef06P
namespace Go.Proofs.Ytajmmhailcbfoaa
open Go.RowKit
set_option maxRecDepth 10000

theorem inf_u64_22 : Inf Try.prog 22 (.int .u64 0) 1 8 := inf_of (by kernel_rfl)
theorem rbit_c (a i b : Nat) (hi : i < 256) (hb : a / 2 ^ i % 2 = b) (w0 : World) : Calls Try.prog 45 #[W a, .int .i64 ((i : Nat) : Int)] w0 fun e w' => e = .returned (.int .u64 ((b : Nat) : Int)) ∧ Below w0.heap.size w0 w' := by
  refine enter (n := 15) (args := [W a, .int .i64 ((i : Nat) : Int)]) Try.func45 rfl rfl (Nat.le_of_ble_eq_true rfl) fun ac hs => ?_
  refine wp_seq ?_
  refine wp_region_lit ?_
  refine lstep (wpO_plain rfl (op_box hs none none (cs := (Wl a)) rfl rfl rfl rfl rfl rfl fun g1 ac w hs => ?_))
  refine lstep (wpO_plain rfl (op_assign hs none rfl rfl rfl rfl fun ac hs => ?_))
  refine wpList_nil ?_
  refine then_n ?_
  refine wp_seq ?_
  refine wp_region_lit ?_
  refine lstep (wpO_plain rfl (op_move hs none rfl rfl rfl rfl fun ac hs => ?_))
  refine lstep (wpO_plain rfl (op_bin hs none (v := .int .i64 ((i / 64 : Nat) : Int)) rfl rfl rfl rfl (fun _ => rfl) (bin_quoN (x := i) (y := 64) (z := i / 64) rfl (by decide) (show i < 9223372036854775808 by omega)) rfl fun ac hs => ?_))
  refine lstep (wpO_plain rfl (op_idxA hs none (j := i / 64) rfl rfl rfl rfl Try.underlying24 Try.sizeOf22 (show i / 64 < 4 by omega) (off := i / 64) (by omega) rfl fun ac hs => ?_))
  have l2 := limN_lt a (i / 64)
  refine lstep (wpO_plain rfl (op_load hs none 0 (v := .int .u64 ((limN a (i / 64) : Nat) : Int)) rfl rfl rfl rfl Try.isAgg22 Try.sizeOf22 (Wl_get (j := i / 64) (show i / 64 < 4 by omega)) rfl fun ac hs => ?_))
  refine lstep (wpO_plain rfl (op_move hs none rfl rfl rfl rfl fun ac hs => ?_))
  refine lstep (wpO_plain rfl (op_bin hs none (v := .int .i64 ((i % 64 : Nat) : Int)) rfl rfl rfl rfl (fun _ => rfl) (bin_remN (x := i) (y := 64) (z := i % 64) rfl (by decide)) rfl fun ac hs => ?_))
  refine lstep (wpO_plain rfl (op_convert hs none (v := .int .u64 ((i % 64 : Nat) : Int)) rfl rfl rfl (conv_N Try.underlying3 Try.underlying48 (show i % 64 < 18446744073709551616 by omega)) rfl fun ac hs => ?_))
  refine lstep (wpO_plain rfl (op_bin hs none (v := .int .u64 ((2 ^ (i % 64) : Nat) : Int)) rfl rfl rfl rfl (fun _ => rfl) (bin_shlM (x := 1) (y := i % 64) (z := 2 ^ (i % 64)) rfl (pow_mod64 (Nat.mod_lt _ (by decide)))) rfl fun ac hs => ?_))
  refine lstep (wpO_plain rfl (op_bin hs none (v := .int .u64 (((limN a (i / 64)) / (2 ^ (i % 64)) : Nat) : Int)) rfl rfl rfl rfl (fun _ => rfl) (bin_quoN (x := limN a (i / 64)) (y := 2 ^ (i % 64)) (z := (limN a (i / 64)) / (2 ^ (i % 64))) rfl (Nat.ne_of_gt (Nat.two_pow_pos _)) (limN_lt _ _)) rfl fun ac hs => ?_))
  refine lstep (wpO_plain rfl (op_bin hs none (v := .int .u64 ((((limN a (i / 64)) / (2 ^ (i % 64))) % 2 : Nat) : Int)) rfl rfl rfl rfl (fun _ => rfl) (bin_remN (x := (limN a (i / 64)) / (2 ^ (i % 64))) (y := 2) (z := ((limN a (i / 64)) / (2 ^ (i % 64))) % 2) rfl (by decide)) rfl fun ac hs => ?_))
  refine lstep (wpO_plain rfl (op_assign hs none rfl rfl rfl rfl fun ac hs => ?_))
  refine wpList_nil ?_
  refine then_n ?_
  refine wp_ret ?_
  exact bodyPost_ret (res1 rfl (rv_t hs rfl)) hs.defers ⟨by rw [bit_lim, hb], hs.below⟩
theorem rtwice_c (a b t q : Nat) (ha : a < 2 ^ 256) (hb : b ≤ 1) (ht : (2 * a + b) % 2 ^ 256 = t) (hc' : (2 * a + b) / 2 ^ 256 = q) (w0 : World) : Calls Try.prog 54 #[W a, .int .u64 ((b : Nat) : Int)] w0 fun e w' => e = .returned (.tuple #[W t, .int .u64 ((q : Nat) : Int)]) ∧ Below w0.heap.size w0 w' := by
  refine enter (n := 40) (args := [W a, .int .u64 ((b : Nat) : Int)]) Try.func54 rfl rfl (Nat.le_of_ble_eq_true rfl) fun ac hs => ?_
  refine wp_seq ?_
  refine wp_region_lit ?_
  refine lstep (wpO_plain rfl (op_box hs none none (cs := (Wl a)) rfl rfl rfl rfl rfl rfl fun g1 ac w hs => ?_))
  refine lstep (wpO_plain rfl (op_alloc hs none none (cs := [.int .u64 0, .int .u64 0, .int .u64 0, .int .u64 0]) rfl rfl Try.zeroValue24 (by kernel_rfl) rfl rfl fun g2 ac w hs => ?_))
  refine lstep (wpO_plain rfl (op_assign hs none rfl rfl rfl rfl fun ac hs => ?_))
  refine wpList_nil ?_
  refine then_n ?_
  refine wp_seq ?_
  refine wp_region_lit ?_
  refine lstep (wpO_plain rfl (op_idxA hs none (j := 3) rfl rfl rfl rfl Try.underlying24 Try.sizeOf22 (by decide) (off := 3) rfl rfl fun ac hs => ?_))
  have l3 := limN_lt a 3
  refine lstep (wpO_plain rfl (op_load hs none 0 (v := .int .u64 (lim a 3)) rfl rfl rfl rfl Try.isAgg22 Try.sizeOf22 rfl rfl fun ac hs => ?_))
  refine lstep (wpO_plain rfl (op_bin hs none (v := .int .u64 (((limN a 3) / 9223372036854775808 : Nat) : Int)) rfl rfl rfl rfl (fun _ => rfl) (bin_quoN (x := limN a 3) (y := 9223372036854775808) (z := (limN a 3) / 9223372036854775808) rfl (by decide) (show limN a 3 < 18446744073709551616 by omega)) rfl fun ac hs => ?_))
  refine lstep (wpO_plain rfl (op_assign hs none rfl rfl rfl rfl fun ac hs => ?_))
  refine wpList_nil ?_
  refine then_n ?_
  refine wp_seq ?_
  refine wp_region_lit ?_
  refine lstep (wpO_plain rfl (op_idxA hs none (j := 0) rfl rfl rfl rfl Try.underlying24 Try.sizeOf22 (by decide) (off := 0) rfl rfl fun ac hs => ?_))
  have l4 := limN_lt a 0
  refine lstep (wpO_plain rfl (op_load hs none 0 (v := .int .u64 (lim a 0)) rfl rfl rfl rfl Try.isAgg22 Try.sizeOf22 rfl rfl fun ac hs => ?_))
  refine lstep (wpO_plain rfl (op_bin hs none (v := .int .u64 (((limN a 0) * 2 % 18446744073709551616 : Nat) : Int)) rfl rfl rfl rfl (fun _ => rfl) (bin_mulM (x := limN a 0) (y := 2) (z := (limN a 0) * 2 % 18446744073709551616) rfl rfl) rfl fun ac hs => ?_))
  refine lstep (wpO_plain rfl (op_move hs none rfl rfl rfl rfl fun ac hs => ?_))
  refine lstep (wpO_plain rfl (op_bin hs none (v := .int .u64 (((limN a 0) * 2 % 18446744073709551616 + b : Nat) : Int)) rfl rfl rfl rfl (fun _ => rfl) (bin_addN (x := (limN a 0) * 2 % 18446744073709551616) (y := b) (z := (limN a 0) * 2 % 18446744073709551616 + b) rfl (show (limN a 0) * 2 % 18446744073709551616 + b < 18446744073709551616 by omega)) rfl fun ac hs => ?_))
  refine lstep (wpO_plain rfl (op_idxA hs none (j := 1) rfl rfl rfl rfl Try.underlying24 Try.sizeOf22 (by decide) (off := 1) rfl rfl fun ac hs => ?_))
  have l5 := limN_lt a 1
  refine lstep (wpO_plain rfl (op_load hs none 0 (v := .int .u64 (lim a 1)) rfl rfl rfl rfl Try.isAgg22 Try.sizeOf22 rfl rfl fun ac hs => ?_))
  refine lstep (wpO_plain rfl (op_bin hs none (v := .int .u64 (((limN a 1) * 2 % 18446744073709551616 : Nat) : Int)) rfl rfl rfl rfl (fun _ => rfl) (bin_mulM (x := limN a 1) (y := 2) (z := (limN a 1) * 2 % 18446744073709551616) rfl rfl) rfl fun ac hs => ?_))
  refine lstep (wpO_plain rfl (op_idxA hs none (j := 0) rfl rfl rfl rfl Try.underlying24 Try.sizeOf22 (by decide) (off := 0) rfl rfl fun ac hs => ?_))
  have l6 := limN_lt a 0
  refine lstep (wpO_plain rfl (op_load hs none 0 (v := .int .u64 (lim a 0)) rfl rfl rfl rfl Try.isAgg22 Try.sizeOf22 rfl rfl fun ac hs => ?_))
  refine lstep (wpO_plain rfl (op_bin hs none (v := .int .u64 (((limN a 0) / 9223372036854775808 : Nat) : Int)) rfl rfl rfl rfl (fun _ => rfl) (bin_quoN (x := limN a 0) (y := 9223372036854775808) (z := (limN a 0) / 9223372036854775808) rfl (by decide) (show limN a 0 < 18446744073709551616 by omega)) rfl fun ac hs => ?_))
  refine lstep (wpO_plain rfl (op_bin hs none (v := .int .u64 (((limN a 1) * 2 % 18446744073709551616 + ((limN a 0) / 9223372036854775808) : Nat) : Int)) rfl rfl rfl rfl (fun _ => rfl) (bin_addN (x := (limN a 1) * 2 % 18446744073709551616) (y := (limN a 0) / 9223372036854775808) (z := (limN a 1) * 2 % 18446744073709551616 + ((limN a 0) / 9223372036854775808)) rfl (show (limN a 1) * 2 % 18446744073709551616 + ((limN a 0) / 9223372036854775808) < 18446744073709551616 by omega)) rfl fun ac hs => ?_))
  refine lstep (wpO_plain rfl (op_idxA hs none (j := 2) rfl rfl rfl rfl Try.underlying24 Try.sizeOf22 (by decide) (off := 2) rfl rfl fun ac hs => ?_))
  have l7 := limN_lt a 2
  refine lstep (wpO_plain rfl (op_load hs none 0 (v := .int .u64 (lim a 2)) rfl rfl rfl rfl Try.isAgg22 Try.sizeOf22 rfl rfl fun ac hs => ?_))
  refine lstep (wpO_plain rfl (op_bin hs none (v := .int .u64 (((limN a 2) * 2 % 18446744073709551616 : Nat) : Int)) rfl rfl rfl rfl (fun _ => rfl) (bin_mulM (x := limN a 2) (y := 2) (z := (limN a 2) * 2 % 18446744073709551616) rfl rfl) rfl fun ac hs => ?_))
  refine lstep (wpO_plain rfl (op_idxA hs none (j := 1) rfl rfl rfl rfl Try.underlying24 Try.sizeOf22 (by decide) (off := 1) rfl rfl fun ac hs => ?_))
  have l8 := limN_lt a 1
  refine lstep (wpO_plain rfl (op_load hs none 0 (v := .int .u64 (lim a 1)) rfl rfl rfl rfl Try.isAgg22 Try.sizeOf22 rfl rfl fun ac hs => ?_))
  refine lstep (wpO_plain rfl (op_bin hs none (v := .int .u64 (((limN a 1) / 9223372036854775808 : Nat) : Int)) rfl rfl rfl rfl (fun _ => rfl) (bin_quoN (x := limN a 1) (y := 9223372036854775808) (z := (limN a 1) / 9223372036854775808) rfl (by decide) (show limN a 1 < 18446744073709551616 by omega)) rfl fun ac hs => ?_))
  refine lstep (wpO_plain rfl (op_bin hs none (v := .int .u64 (((limN a 2) * 2 % 18446744073709551616 + ((limN a 1) / 9223372036854775808) : Nat) : Int)) rfl rfl rfl rfl (fun _ => rfl) (bin_addN (x := (limN a 2) * 2 % 18446744073709551616) (y := (limN a 1) / 9223372036854775808) (z := (limN a 2) * 2 % 18446744073709551616 + ((limN a 1) / 9223372036854775808)) rfl (show (limN a 2) * 2 % 18446744073709551616 + ((limN a 1) / 9223372036854775808) < 18446744073709551616 by omega)) rfl fun ac hs => ?_))
  refine lstep (wpO_plain rfl (op_idxA hs none (j := 3) rfl rfl rfl rfl Try.underlying24 Try.sizeOf22 (by decide) (off := 3) rfl rfl fun ac hs => ?_))
  have l9 := limN_lt a 3
  refine lstep (wpO_plain rfl (op_load hs none 0 (v := .int .u64 (lim a 3)) rfl rfl rfl rfl Try.isAgg22 Try.sizeOf22 rfl rfl fun ac hs => ?_))
  refine lstep (wpO_plain rfl (op_bin hs none (v := .int .u64 (((limN a 3) * 2 % 18446744073709551616 : Nat) : Int)) rfl rfl rfl rfl (fun _ => rfl) (bin_mulM (x := limN a 3) (y := 2) (z := (limN a 3) * 2 % 18446744073709551616) rfl rfl) rfl fun ac hs => ?_))
  refine lstep (wpO_plain rfl (op_idxA hs none (j := 2) rfl rfl rfl rfl Try.underlying24 Try.sizeOf22 (by decide) (off := 2) rfl rfl fun ac hs => ?_))
  have l10 := limN_lt a 2
  refine lstep (wpO_plain rfl (op_load hs none 0 (v := .int .u64 (lim a 2)) rfl rfl rfl rfl Try.isAgg22 Try.sizeOf22 rfl rfl fun ac hs => ?_))
  refine lstep (wpO_plain rfl (op_bin hs none (v := .int .u64 (((limN a 2) / 9223372036854775808 : Nat) : Int)) rfl rfl rfl rfl (fun _ => rfl) (bin_quoN (x := limN a 2) (y := 9223372036854775808) (z := (limN a 2) / 9223372036854775808) rfl (by decide) (show limN a 2 < 18446744073709551616 by omega)) rfl fun ac hs => ?_))
  refine lstep (wpO_plain rfl (op_bin hs none (v := .int .u64 (((limN a 3) * 2 % 18446744073709551616 + ((limN a 2) / 9223372036854775808) : Nat) : Int)) rfl rfl rfl rfl (fun _ => rfl) (bin_addN (x := (limN a 3) * 2 % 18446744073709551616) (y := (limN a 2) / 9223372036854775808) (z := (limN a 3) * 2 % 18446744073709551616 + ((limN a 2) / 9223372036854775808)) rfl (show (limN a 3) * 2 % 18446744073709551616 + ((limN a 2) / 9223372036854775808) < 18446744073709551616 by omega)) rfl fun ac hs => ?_))
  refine lstep (wpO_plain rfl (op_build hs none (qs := [(0, .int .u64 (((limN a 0) * 2 % 18446744073709551616 + b : Nat) : Int)), (1, .int .u64 (((limN a 1) * 2 % 18446744073709551616 + ((limN a 0) / 9223372036854775808) : Nat) : Int)), (2, .int .u64 (((limN a 2) * 2 % 18446744073709551616 + ((limN a 1) / 9223372036854775808) : Nat) : Int)), (3, .int .u64 (((limN a 3) * 2 % 18446744073709551616 + ((limN a 2) / 9223372036854775808) : Nat) : Int))]) (v := .agg #[.int .u64 (((limN a 0) * 2 % 18446744073709551616 + b : Nat) : Int), .int .u64 (((limN a 1) * 2 % 18446744073709551616 + ((limN a 0) / 9223372036854775808) : Nat) : Int), .int .u64 (((limN a 2) * 2 % 18446744073709551616 + ((limN a 1) / 9223372036854775808) : Nat) : Int), .int .u64 (((limN a 3) * 2 % 18446744073709551616 + ((limN a 2) / 9223372036854775808) : Nat) : Int)]) rfl rfl rfl rfl (fun _ => by kernel_rfl) rfl fun ac hs => ?_))
  refine lstep (wpO_plain rfl (op_alloc hs none none (cs := [.int .u64 0, .int .u64 0, .int .u64 0, .int .u64 0]) rfl rfl Try.zeroValue24 (by kernel_rfl) rfl rfl fun g11 ac w hs => ?_))
  refine lstep (wpO_plain rfl (op_store hs 2 (vs := [.int .u64 (((limN a 0) * 2 % 18446744073709551616 + b : Nat) : Int), .int .u64 (((limN a 1) * 2 % 18446744073709551616 + ((limN a 0) / 9223372036854775808) : Nat) : Int), .int .u64 (((limN a 2) * 2 % 18446744073709551616 + ((limN a 1) / 9223372036854775808) : Nat) : Int), .int .u64 (((limN a 3) * 2 % 18446744073709551616 + ((limN a 2) / 9223372036854775808) : Nat) : Int)]) rfl rfl rfl rfl rfl Try.sizeOf24 rfl rfl rfl rfl rfl fun w hs => ?_))
  refine wpList_nil ?_
  refine then_n ?_
  refine wp_seq ?_
  refine wp_region_lit ?_
  refine lstep (wpO_plain rfl (op_load hs none 2 (v := .agg #[.int .u64 (((limN a 0) * 2 % 18446744073709551616 + b : Nat) : Int), .int .u64 (((limN a 1) * 2 % 18446744073709551616 + ((limN a 0) / 9223372036854775808) : Nat) : Int), .int .u64 (((limN a 2) * 2 % 18446744073709551616 + ((limN a 1) / 9223372036854775808) : Nat) : Int), .int .u64 (((limN a 3) * 2 % 18446744073709551616 + ((limN a 2) / 9223372036854775808) : Nat) : Int)]) rfl rfl rfl rfl Try.isAgg24 Try.sizeOf24 rfl rfl fun ac hs => ?_))
  refine lstep (wpO_plain rfl (op_move hs none rfl rfl rfl rfl fun ac hs => ?_))
  refine lstep (wpO_plain rfl (op_store hs 1 (vs := [.int .u64 (((limN a 0) * 2 % 18446744073709551616 + b : Nat) : Int), .int .u64 (((limN a 1) * 2 % 18446744073709551616 + ((limN a 0) / 9223372036854775808) : Nat) : Int), .int .u64 (((limN a 2) * 2 % 18446744073709551616 + ((limN a 1) / 9223372036854775808) : Nat) : Int), .int .u64 (((limN a 3) * 2 % 18446744073709551616 + ((limN a 2) / 9223372036854775808) : Nat) : Int)]) rfl rfl rfl rfl rfl Try.sizeOf24 rfl rfl rfl rfl rfl fun w hs => ?_))
  refine lstep (wpO_plain rfl (op_assign hs none rfl rfl rfl rfl fun ac hs => ?_))
  refine wpList_nil ?_
  refine then_n ?_
  refine wp_ret ?_
  exact bodyPost_ret (res2 rfl (rv_c hs 1 (v := .agg #[.int .u64 (((limN a 0) * 2 % 18446744073709551616 + b : Nat) : Int), .int .u64 (((limN a 1) * 2 % 18446744073709551616 + ((limN a 0) / 9223372036854775808) : Nat) : Int), .int .u64 (((limN a 2) * 2 % 18446744073709551616 + ((limN a 1) / 9223372036854775808) : Nat) : Int), .int .u64 (((limN a 3) * 2 % 18446744073709551616 + ((limN a 2) / 9223372036854775808) : Nat) : Int)]) rfl rfl Try.isAgg24 Try.sizeOf24 rfl) (rv_t hs rfl)) hs.defers ⟨by rw [← ht, W_mod, ← tw_c ha hb hc']; exact congrArg (fun l => Ending.returned (.tuple #[.agg (List.toArray l), _])) (tw_limbs hb), hs.below⟩
end Go.Proofs.Ytajmmhailcbfoaa
