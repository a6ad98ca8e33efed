/- The contracts of half, Inverse, of what bytes tell. -/
import Derived.Test.YtmpejkhffbonnaaRef12
import Derived.Test.YtmpejkhffbonnaaSl
import Derived.Test.YtmpejkhffbonnaaInvP
namespace Go.Proofs.Ytmpejkhffbonnaa
open Go.RowKit
set_option maxRecDepth 10000

theorem half_c (a m h : Nat) (ha : a < 2 ^ 256) (hm : m < 2 ^ 256) (hh : hfm a m = h) (w0 : World) : Calls Try.prog 94 #[W a, W m] w0 fun e w' => e = .returned (W h) ∧ Below w0.heap.size w0 w' := by
  refine enter (n := 44) (args := [W a, W m]) Try.func94 rfl rfl (Nat.le_of_ble_eq_true rfl) fun ac hs => ?_
  refine wp_seq ?_
  refine wp_region_lit ?_
  refine lstep (wpO_plain rfl (op_box hs none none (cs := (Wl a)) rfl rfl rfl rfl rfl rfl fun g1 ac w hs => ?_))
  refine lstep (wpO_plain rfl (op_box hs none none (cs := (Wl m)) rfl rfl rfl rfl rfl rfl fun g2 ac w hs => ?_))
  refine lstep (wpO_plain rfl (op_alloc hs none none (cs := [.int .u64 0, .int .u64 0, .int .u64 0, .int .u64 0]) rfl rfl Try.zeroValue24 (by kernel_rfl) rfl rfl fun g3 ac w hs => ?_))
  refine wpList_nil ?_
  refine then_n ?_
  refine wp_seq ?_
  refine wp_region_lit ?_
  refine lstep (wpO_plain rfl (op_assign hs none rfl rfl rfl rfl fun ac hs => ?_))
  refine wpList_nil ?_
  refine then_n ?_
  refine wp_seq ?_
  refine wp_seq ?_
  refine wp_region_lit ?_
  refine lstep (wpO_plain rfl (op_idxA hs none (j := 0) rfl rfl rfl rfl Try.underlying24 Try.sizeOf22 (by decide) (off := 0) rfl rfl fun ac hs => ?_))
  have l4 := limN_lt a 0
  refine lstep (wpO_plain rfl (op_load hs none 0 (v := .int .u64 (lim a 0)) rfl rfl rfl rfl Try.isAgg22 Try.sizeOf22 rfl rfl fun ac hs => ?_))
  refine lstep (wpO_plain rfl (op_bin hs none (v := .int .u64 (((limN a 0) % 2 : Nat) : Int)) rfl rfl rfl rfl (fun _ => rfl) (bin_remN (x := limN a 0) (y := 2) (z := (limN a 0) % 2) rfl (by decide)) rfl fun ac hs => ?_))
  refine lstep (wpO_plain rfl (op_bin hs none (v := .bool (decide ((limN a 0) % 2 = 1))) rfl rfl rfl rfl (fun _ => rfl) (bin_eqlN (x := (limN a 0) % 2) (y := 1)) rfl fun ac hs => ?_))
  refine wpList_nil ?_
  refine then_n ?_
  refine wp_cond_split (hs.ev rfl) (fun hc => ?_) (fun hc => ?_)
  · skip
    have hp5 := of_decide_eq_true hc
    refine wp_region_lit ?_
    refine lstep (wpO_plain rfl (op_load hs none 0 (v := W a) rfl rfl rfl rfl Try.isAgg24 Try.sizeOf24 rfl rfl fun ac hs => ?_))
    refine lstep (wpO_plain rfl (op_load hs none 1 (v := W m) rfl rfl rfl rfl Try.isAgg24 Try.sizeOf24 rfl rfl fun ac hs => ?_))
    obtain ⟨s6, hs6, ls6⟩ : ∃ z0, (a + m) % 2 ^ 256 = z0 ∧ z0 < 2 ^ 256 := ⟨_, rfl, Nat.mod_lt _ (Nat.two_pow_pos 256)⟩
    obtain ⟨c7, hc7⟩ : ∃ z0, (a + m) / 2 ^ 256 = z0 := ⟨_, rfl⟩
    refine lstep (wpO_plain rfl (op_call (F := 88) hs none (v := .tuple #[W s6, .int .u64 ((c7 : Nat) : Int)]) rfl rfl rfl rfl (Try.call88 _) (more_at a m s6 c7 ha hm hs6 hc7) rfl fun ac w hs => ?_))
    refine lstep (wpO_plain rfl (op_move hs none rfl rfl rfl rfl fun ac hs => ?_))
    refine lstep (wpO_plain rfl (op_extract hs none rfl rfl rfl rfl rfl fun ac hs => ?_))
    refine lstep (wpO_plain rfl (op_extract hs none rfl rfl rfl rfl rfl fun ac hs => ?_))
    refine lstep (wpO_plain rfl (op_store hs 0 (vs := (Wl s6)) rfl rfl rfl rfl rfl Try.sizeOf24 rfl rfl rfl rfl rfl fun w hs => ?_))
    refine lstep (wpO_plain rfl (op_assign hs none rfl rfl rfl rfl fun ac hs => ?_))
    refine wpList_nil ?_
    refine then_n ?_
    refine wp_seq ?_
    refine wp_region_lit ?_
    refine lstep (wpO_plain rfl (op_idxA hs none (j := 0) rfl rfl rfl rfl Try.underlying24 Try.sizeOf22 (by decide) (off := 0) rfl rfl fun ac hs => ?_))
    have l8 := limN_lt s6 0
    refine lstep (wpO_plain rfl (op_load hs none 0 (v := .int .u64 (lim s6 0)) rfl rfl rfl rfl Try.isAgg22 Try.sizeOf22 rfl rfl fun ac hs => ?_))
    refine lstep (wpO_plain rfl (op_bin hs none (v := .int .u64 (((limN s6 0) / 2 ^ 1 : Nat) : Int)) rfl rfl rfl rfl (fun _ => rfl) (bin_shrN (x := limN s6 0) (y := 1) (z := (limN s6 0) / 2 ^ 1) rfl (show limN s6 0 < 2 ^ 64 by omega)) rfl fun ac hs => ?_))
    refine lstep (wpO_plain rfl (op_idxA hs none (j := 1) rfl rfl rfl rfl Try.underlying24 Try.sizeOf22 (by decide) (off := 1) rfl rfl fun ac hs => ?_))
    have l9 := limN_lt s6 1
    refine lstep (wpO_plain rfl (op_load hs none 0 (v := .int .u64 (lim s6 1)) rfl rfl rfl rfl Try.isAgg22 Try.sizeOf22 rfl rfl fun ac hs => ?_))
    refine lstep (wpO_plain rfl (op_bin hs none (v := .int .u64 (((limN s6 1) * 2 ^ 63 % 18446744073709551616 : Nat) : Int)) rfl rfl rfl rfl (fun _ => rfl) (bin_shlM (x := limN s6 1) (y := 63) (z := (limN s6 1) * 2 ^ 63 % 18446744073709551616) rfl rfl) rfl fun ac hs => ?_))
    refine lstep (wpO_plain rfl (op_bin hs none (v := .int .u64 ((((limN s6 0) / 2 ^ 1) ||| ((limN s6 1) * 2 ^ 63 % 18446744073709551616) : Nat) : Int)) rfl rfl rfl rfl (fun _ => rfl) (bin_orN (x := (limN s6 0) / 2 ^ 1) (y := (limN s6 1) * 2 ^ 63 % 18446744073709551616) (z := ((limN s6 0) / 2 ^ 1) ||| ((limN s6 1) * 2 ^ 63 % 18446744073709551616)) rfl (show (limN s6 0) / 2 ^ 1 < 18446744073709551616 by omega) (show (limN s6 1) * 2 ^ 63 % 18446744073709551616 < 18446744073709551616 by omega) (or_lt64 (show (limN s6 0) / 2 ^ 1 < 18446744073709551616 by omega) (show (limN s6 1) * 2 ^ 63 % 18446744073709551616 < 18446744073709551616 by omega))) rfl fun ac hs => ?_))
    refine lstep (wpO_plain rfl (op_idxA hs none (j := 1) rfl rfl rfl rfl Try.underlying24 Try.sizeOf22 (by decide) (off := 1) rfl rfl fun ac hs => ?_))
    have l10 := limN_lt s6 1
    refine lstep (wpO_plain rfl (op_load hs none 0 (v := .int .u64 (lim s6 1)) rfl rfl rfl rfl Try.isAgg22 Try.sizeOf22 rfl rfl fun ac hs => ?_))
    refine lstep (wpO_plain rfl (op_bin hs none (v := .int .u64 (((limN s6 1) / 2 ^ 1 : Nat) : Int)) rfl rfl rfl rfl (fun _ => rfl) (bin_shrN (x := limN s6 1) (y := 1) (z := (limN s6 1) / 2 ^ 1) rfl (show limN s6 1 < 2 ^ 64 by omega)) rfl fun ac hs => ?_))
    refine lstep (wpO_plain rfl (op_idxA hs none (j := 2) rfl rfl rfl rfl Try.underlying24 Try.sizeOf22 (by decide) (off := 2) rfl rfl fun ac hs => ?_))
    have l11 := limN_lt s6 2
    refine lstep (wpO_plain rfl (op_load hs none 0 (v := .int .u64 (lim s6 2)) rfl rfl rfl rfl Try.isAgg22 Try.sizeOf22 rfl rfl fun ac hs => ?_))
    refine lstep (wpO_plain rfl (op_bin hs none (v := .int .u64 (((limN s6 2) * 2 ^ 63 % 18446744073709551616 : Nat) : Int)) rfl rfl rfl rfl (fun _ => rfl) (bin_shlM (x := limN s6 2) (y := 63) (z := (limN s6 2) * 2 ^ 63 % 18446744073709551616) rfl rfl) rfl fun ac hs => ?_))
    refine lstep (wpO_plain rfl (op_bin hs none (v := .int .u64 ((((limN s6 1) / 2 ^ 1) ||| ((limN s6 2) * 2 ^ 63 % 18446744073709551616) : Nat) : Int)) rfl rfl rfl rfl (fun _ => rfl) (bin_orN (x := (limN s6 1) / 2 ^ 1) (y := (limN s6 2) * 2 ^ 63 % 18446744073709551616) (z := ((limN s6 1) / 2 ^ 1) ||| ((limN s6 2) * 2 ^ 63 % 18446744073709551616)) rfl (show (limN s6 1) / 2 ^ 1 < 18446744073709551616 by omega) (show (limN s6 2) * 2 ^ 63 % 18446744073709551616 < 18446744073709551616 by omega) (or_lt64 (show (limN s6 1) / 2 ^ 1 < 18446744073709551616 by omega) (show (limN s6 2) * 2 ^ 63 % 18446744073709551616 < 18446744073709551616 by omega))) rfl fun ac hs => ?_))
    refine lstep (wpO_plain rfl (op_idxA hs none (j := 2) rfl rfl rfl rfl Try.underlying24 Try.sizeOf22 (by decide) (off := 2) rfl rfl fun ac hs => ?_))
    have l12 := limN_lt s6 2
    refine lstep (wpO_plain rfl (op_load hs none 0 (v := .int .u64 (lim s6 2)) rfl rfl rfl rfl Try.isAgg22 Try.sizeOf22 rfl rfl fun ac hs => ?_))
    refine lstep (wpO_plain rfl (op_bin hs none (v := .int .u64 (((limN s6 2) / 2 ^ 1 : Nat) : Int)) rfl rfl rfl rfl (fun _ => rfl) (bin_shrN (x := limN s6 2) (y := 1) (z := (limN s6 2) / 2 ^ 1) rfl (show limN s6 2 < 2 ^ 64 by omega)) rfl fun ac hs => ?_))
    refine lstep (wpO_plain rfl (op_idxA hs none (j := 3) rfl rfl rfl rfl Try.underlying24 Try.sizeOf22 (by decide) (off := 3) rfl rfl fun ac hs => ?_))
    have l13 := limN_lt s6 3
    refine lstep (wpO_plain rfl (op_load hs none 0 (v := .int .u64 (lim s6 3)) rfl rfl rfl rfl Try.isAgg22 Try.sizeOf22 rfl rfl fun ac hs => ?_))
    refine lstep (wpO_plain rfl (op_bin hs none (v := .int .u64 (((limN s6 3) * 2 ^ 63 % 18446744073709551616 : Nat) : Int)) rfl rfl rfl rfl (fun _ => rfl) (bin_shlM (x := limN s6 3) (y := 63) (z := (limN s6 3) * 2 ^ 63 % 18446744073709551616) rfl rfl) rfl fun ac hs => ?_))
    refine lstep (wpO_plain rfl (op_bin hs none (v := .int .u64 ((((limN s6 2) / 2 ^ 1) ||| ((limN s6 3) * 2 ^ 63 % 18446744073709551616) : Nat) : Int)) rfl rfl rfl rfl (fun _ => rfl) (bin_orN (x := (limN s6 2) / 2 ^ 1) (y := (limN s6 3) * 2 ^ 63 % 18446744073709551616) (z := ((limN s6 2) / 2 ^ 1) ||| ((limN s6 3) * 2 ^ 63 % 18446744073709551616)) rfl (show (limN s6 2) / 2 ^ 1 < 18446744073709551616 by omega) (show (limN s6 3) * 2 ^ 63 % 18446744073709551616 < 18446744073709551616 by omega) (or_lt64 (show (limN s6 2) / 2 ^ 1 < 18446744073709551616 by omega) (show (limN s6 3) * 2 ^ 63 % 18446744073709551616 < 18446744073709551616 by omega))) rfl fun ac hs => ?_))
    refine lstep (wpO_plain rfl (op_idxA hs none (j := 3) rfl rfl rfl rfl Try.underlying24 Try.sizeOf22 (by decide) (off := 3) rfl rfl fun ac hs => ?_))
    have l14 := limN_lt s6 3
    refine lstep (wpO_plain rfl (op_load hs none 0 (v := .int .u64 (lim s6 3)) rfl rfl rfl rfl Try.isAgg22 Try.sizeOf22 rfl rfl fun ac hs => ?_))
    refine lstep (wpO_plain rfl (op_bin hs none (v := .int .u64 (((limN s6 3) / 2 ^ 1 : Nat) : Int)) rfl rfl rfl rfl (fun _ => rfl) (bin_shrN (x := limN s6 3) (y := 1) (z := (limN s6 3) / 2 ^ 1) rfl (show limN s6 3 < 2 ^ 64 by omega)) rfl fun ac hs => ?_))
    refine lstep (wpO_plain rfl (op_move hs none rfl rfl rfl rfl fun ac hs => ?_))
    refine lstep (wpO_plain rfl (op_bin hs none (v := .int .u64 ((c7 * 2 ^ 63 % 18446744073709551616 : Nat) : Int)) rfl rfl rfl rfl (fun _ => rfl) (bin_shlM (x := c7) (y := 63) (z := c7 * 2 ^ 63 % 18446744073709551616) rfl rfl) rfl fun ac hs => ?_))
    refine lstep (wpO_plain rfl (op_bin hs none (v := .int .u64 ((((limN s6 3) / 2 ^ 1) ||| (c7 * 2 ^ 63 % 18446744073709551616) : Nat) : Int)) rfl rfl rfl rfl (fun _ => rfl) (bin_orN (x := (limN s6 3) / 2 ^ 1) (y := c7 * 2 ^ 63 % 18446744073709551616) (z := ((limN s6 3) / 2 ^ 1) ||| (c7 * 2 ^ 63 % 18446744073709551616)) rfl (show (limN s6 3) / 2 ^ 1 < 18446744073709551616 by omega) (show c7 * 2 ^ 63 % 18446744073709551616 < 18446744073709551616 by omega) (or_lt64 (show (limN s6 3) / 2 ^ 1 < 18446744073709551616 by omega) (show c7 * 2 ^ 63 % 18446744073709551616 < 18446744073709551616 by omega))) rfl fun ac hs => ?_))
    refine lstep (wpO_plain rfl (op_build hs none (qs := [(0, .int .u64 ((((limN s6 0) / 2 ^ 1) ||| ((limN s6 1) * 2 ^ 63 % 18446744073709551616) : Nat) : Int)), (1, .int .u64 ((((limN s6 1) / 2 ^ 1) ||| ((limN s6 2) * 2 ^ 63 % 18446744073709551616) : Nat) : Int)), (2, .int .u64 ((((limN s6 2) / 2 ^ 1) ||| ((limN s6 3) * 2 ^ 63 % 18446744073709551616) : Nat) : Int)), (3, .int .u64 ((((limN s6 3) / 2 ^ 1) ||| (c7 * 2 ^ 63 % 18446744073709551616) : Nat) : Int))]) (v := .agg #[.int .u64 ((((limN s6 0) / 2 ^ 1) ||| ((limN s6 1) * 2 ^ 63 % 18446744073709551616) : Nat) : Int), .int .u64 ((((limN s6 1) / 2 ^ 1) ||| ((limN s6 2) * 2 ^ 63 % 18446744073709551616) : Nat) : Int), .int .u64 ((((limN s6 2) / 2 ^ 1) ||| ((limN s6 3) * 2 ^ 63 % 18446744073709551616) : Nat) : Int), .int .u64 ((((limN s6 3) / 2 ^ 1) ||| (c7 * 2 ^ 63 % 18446744073709551616) : Nat) : Int)]) rfl rfl rfl rfl (fun _ => by kernel_rfl) rfl fun ac hs => ?_))
    refine lstep (wpO_plain rfl (op_store hs 2 (vs := [.int .u64 ((((limN s6 0) / 2 ^ 1) ||| ((limN s6 1) * 2 ^ 63 % 18446744073709551616) : Nat) : Int), .int .u64 ((((limN s6 1) / 2 ^ 1) ||| ((limN s6 2) * 2 ^ 63 % 18446744073709551616) : Nat) : Int), .int .u64 ((((limN s6 2) / 2 ^ 1) ||| ((limN s6 3) * 2 ^ 63 % 18446744073709551616) : Nat) : Int), .int .u64 ((((limN s6 3) / 2 ^ 1) ||| (c7 * 2 ^ 63 % 18446744073709551616) : Nat) : Int)]) rfl rfl rfl rfl rfl Try.sizeOf24 rfl rfl rfl rfl rfl fun w hs => ?_))
    refine wpList_nil ?_
    refine then_n ?_
    refine wp_ret ?_
    exact bodyPost_ret (res1 rfl (rv_c hs 2 (v := .agg #[.int .u64 ((((limN s6 0) / 2 ^ 1) ||| ((limN s6 1) * 2 ^ 63 % 18446744073709551616) : Nat) : Int), .int .u64 ((((limN s6 1) / 2 ^ 1) ||| ((limN s6 2) * 2 ^ 63 % 18446744073709551616) : Nat) : Int), .int .u64 ((((limN s6 2) / 2 ^ 1) ||| ((limN s6 3) * 2 ^ 63 % 18446744073709551616) : Nat) : Int), .int .u64 ((((limN s6 3) / 2 ^ 1) ||| (c7 * 2 ^ 63 % 18446744073709551616) : Nat) : Int)]) rfl rfl Try.isAgg24 Try.sizeOf24 rfl)) hs.defers ⟨by rw [← hf_yes hh hs6 hc7 hp5]; exact congrArg (fun l => Ending.returned (.agg (List.toArray l))) (half_limbs ls6 (by have := hc7; omega)), hs.below⟩
  · skip
    have hp15 := of_decide_eq_false hc
    refine wp_skip ?_
    refine then_n ?_
    refine wp_seq ?_
    refine wp_region_lit ?_
    refine lstep (wpO_plain rfl (op_idxA hs none (j := 0) rfl rfl rfl rfl Try.underlying24 Try.sizeOf22 (by decide) (off := 0) rfl rfl fun ac hs => ?_))
    have l16 := limN_lt a 0
    refine lstep (wpO_plain rfl (op_load hs none 0 (v := .int .u64 (lim a 0)) rfl rfl rfl rfl Try.isAgg22 Try.sizeOf22 rfl rfl fun ac hs => ?_))
    refine lstep (wpO_plain rfl (op_bin hs none (v := .int .u64 (((limN a 0) / 2 ^ 1 : Nat) : Int)) rfl rfl rfl rfl (fun _ => rfl) (bin_shrN (x := limN a 0) (y := 1) (z := (limN a 0) / 2 ^ 1) rfl (show limN a 0 < 2 ^ 64 by omega)) rfl fun ac hs => ?_))
    refine lstep (wpO_plain rfl (op_idxA hs none (j := 1) rfl rfl rfl rfl Try.underlying24 Try.sizeOf22 (by decide) (off := 1) rfl rfl fun ac hs => ?_))
    have l17 := limN_lt a 1
    refine lstep (wpO_plain rfl (op_load hs none 0 (v := .int .u64 (lim a 1)) rfl rfl rfl rfl Try.isAgg22 Try.sizeOf22 rfl rfl fun ac hs => ?_))
    refine lstep (wpO_plain rfl (op_bin hs none (v := .int .u64 (((limN a 1) * 2 ^ 63 % 18446744073709551616 : Nat) : Int)) rfl rfl rfl rfl (fun _ => rfl) (bin_shlM (x := limN a 1) (y := 63) (z := (limN a 1) * 2 ^ 63 % 18446744073709551616) rfl rfl) rfl fun ac hs => ?_))
    refine lstep (wpO_plain rfl (op_bin hs none (v := .int .u64 ((((limN a 0) / 2 ^ 1) ||| ((limN a 1) * 2 ^ 63 % 18446744073709551616) : Nat) : Int)) rfl rfl rfl rfl (fun _ => rfl) (bin_orN (x := (limN a 0) / 2 ^ 1) (y := (limN a 1) * 2 ^ 63 % 18446744073709551616) (z := ((limN a 0) / 2 ^ 1) ||| ((limN a 1) * 2 ^ 63 % 18446744073709551616)) rfl (show (limN a 0) / 2 ^ 1 < 18446744073709551616 by omega) (show (limN a 1) * 2 ^ 63 % 18446744073709551616 < 18446744073709551616 by omega) (or_lt64 (show (limN a 0) / 2 ^ 1 < 18446744073709551616 by omega) (show (limN a 1) * 2 ^ 63 % 18446744073709551616 < 18446744073709551616 by omega))) rfl fun ac hs => ?_))
    refine lstep (wpO_plain rfl (op_idxA hs none (j := 1) rfl rfl rfl rfl Try.underlying24 Try.sizeOf22 (by decide) (off := 1) rfl rfl fun ac hs => ?_))
    have l18 := limN_lt a 1
    refine lstep (wpO_plain rfl (op_load hs none 0 (v := .int .u64 (lim a 1)) rfl rfl rfl rfl Try.isAgg22 Try.sizeOf22 rfl rfl fun ac hs => ?_))
    refine lstep (wpO_plain rfl (op_bin hs none (v := .int .u64 (((limN a 1) / 2 ^ 1 : Nat) : Int)) rfl rfl rfl rfl (fun _ => rfl) (bin_shrN (x := limN a 1) (y := 1) (z := (limN a 1) / 2 ^ 1) rfl (show limN a 1 < 2 ^ 64 by omega)) rfl fun ac hs => ?_))
    refine lstep (wpO_plain rfl (op_idxA hs none (j := 2) rfl rfl rfl rfl Try.underlying24 Try.sizeOf22 (by decide) (off := 2) rfl rfl fun ac hs => ?_))
    have l19 := limN_lt a 2
    refine lstep (wpO_plain rfl (op_load hs none 0 (v := .int .u64 (lim a 2)) rfl rfl rfl rfl Try.isAgg22 Try.sizeOf22 rfl rfl fun ac hs => ?_))
    refine lstep (wpO_plain rfl (op_bin hs none (v := .int .u64 (((limN a 2) * 2 ^ 63 % 18446744073709551616 : Nat) : Int)) rfl rfl rfl rfl (fun _ => rfl) (bin_shlM (x := limN a 2) (y := 63) (z := (limN a 2) * 2 ^ 63 % 18446744073709551616) rfl rfl) rfl fun ac hs => ?_))
    refine lstep (wpO_plain rfl (op_bin hs none (v := .int .u64 ((((limN a 1) / 2 ^ 1) ||| ((limN a 2) * 2 ^ 63 % 18446744073709551616) : Nat) : Int)) rfl rfl rfl rfl (fun _ => rfl) (bin_orN (x := (limN a 1) / 2 ^ 1) (y := (limN a 2) * 2 ^ 63 % 18446744073709551616) (z := ((limN a 1) / 2 ^ 1) ||| ((limN a 2) * 2 ^ 63 % 18446744073709551616)) rfl (show (limN a 1) / 2 ^ 1 < 18446744073709551616 by omega) (show (limN a 2) * 2 ^ 63 % 18446744073709551616 < 18446744073709551616 by omega) (or_lt64 (show (limN a 1) / 2 ^ 1 < 18446744073709551616 by omega) (show (limN a 2) * 2 ^ 63 % 18446744073709551616 < 18446744073709551616 by omega))) rfl fun ac hs => ?_))
    refine lstep (wpO_plain rfl (op_idxA hs none (j := 2) rfl rfl rfl rfl Try.underlying24 Try.sizeOf22 (by decide) (off := 2) rfl rfl fun ac hs => ?_))
    have l20 := limN_lt a 2
    refine lstep (wpO_plain rfl (op_load hs none 0 (v := .int .u64 (lim a 2)) rfl rfl rfl rfl Try.isAgg22 Try.sizeOf22 rfl rfl fun ac hs => ?_))
    refine lstep (wpO_plain rfl (op_bin hs none (v := .int .u64 (((limN a 2) / 2 ^ 1 : Nat) : Int)) rfl rfl rfl rfl (fun _ => rfl) (bin_shrN (x := limN a 2) (y := 1) (z := (limN a 2) / 2 ^ 1) rfl (show limN a 2 < 2 ^ 64 by omega)) rfl fun ac hs => ?_))
    refine lstep (wpO_plain rfl (op_idxA hs none (j := 3) rfl rfl rfl rfl Try.underlying24 Try.sizeOf22 (by decide) (off := 3) rfl rfl fun ac hs => ?_))
    have l21 := limN_lt a 3
    refine lstep (wpO_plain rfl (op_load hs none 0 (v := .int .u64 (lim a 3)) rfl rfl rfl rfl Try.isAgg22 Try.sizeOf22 rfl rfl fun ac hs => ?_))
    refine lstep (wpO_plain rfl (op_bin hs none (v := .int .u64 (((limN a 3) * 2 ^ 63 % 18446744073709551616 : Nat) : Int)) rfl rfl rfl rfl (fun _ => rfl) (bin_shlM (x := limN a 3) (y := 63) (z := (limN a 3) * 2 ^ 63 % 18446744073709551616) rfl rfl) rfl fun ac hs => ?_))
    refine lstep (wpO_plain rfl (op_bin hs none (v := .int .u64 ((((limN a 2) / 2 ^ 1) ||| ((limN a 3) * 2 ^ 63 % 18446744073709551616) : Nat) : Int)) rfl rfl rfl rfl (fun _ => rfl) (bin_orN (x := (limN a 2) / 2 ^ 1) (y := (limN a 3) * 2 ^ 63 % 18446744073709551616) (z := ((limN a 2) / 2 ^ 1) ||| ((limN a 3) * 2 ^ 63 % 18446744073709551616)) rfl (show (limN a 2) / 2 ^ 1 < 18446744073709551616 by omega) (show (limN a 3) * 2 ^ 63 % 18446744073709551616 < 18446744073709551616 by omega) (or_lt64 (show (limN a 2) / 2 ^ 1 < 18446744073709551616 by omega) (show (limN a 3) * 2 ^ 63 % 18446744073709551616 < 18446744073709551616 by omega))) rfl fun ac hs => ?_))
    refine lstep (wpO_plain rfl (op_idxA hs none (j := 3) rfl rfl rfl rfl Try.underlying24 Try.sizeOf22 (by decide) (off := 3) rfl rfl fun ac hs => ?_))
    have l22 := limN_lt a 3
    refine lstep (wpO_plain rfl (op_load hs none 0 (v := .int .u64 (lim a 3)) rfl rfl rfl rfl Try.isAgg22 Try.sizeOf22 rfl rfl fun ac hs => ?_))
    refine lstep (wpO_plain rfl (op_bin hs none (v := .int .u64 (((limN a 3) / 2 ^ 1 : Nat) : Int)) rfl rfl rfl rfl (fun _ => rfl) (bin_shrN (x := limN a 3) (y := 1) (z := (limN a 3) / 2 ^ 1) rfl (show limN a 3 < 2 ^ 64 by omega)) rfl fun ac hs => ?_))
    refine lstep (wpO_plain rfl (op_move hs none rfl rfl rfl rfl fun ac hs => ?_))
    refine lstep (wpO_plain rfl (op_bin hs none (v := .int .u64 ((0 * 2 ^ 63 % 18446744073709551616 : Nat) : Int)) rfl rfl rfl rfl (fun _ => rfl) (bin_shlM (x := 0) (y := 63) (z := 0 * 2 ^ 63 % 18446744073709551616) rfl rfl) rfl fun ac hs => ?_))
    refine lstep (wpO_plain rfl (op_bin hs none (v := .int .u64 ((((limN a 3) / 2 ^ 1) ||| (0 * 2 ^ 63 % 18446744073709551616) : Nat) : Int)) rfl rfl rfl rfl (fun _ => rfl) (bin_orN (x := (limN a 3) / 2 ^ 1) (y := 0 * 2 ^ 63 % 18446744073709551616) (z := ((limN a 3) / 2 ^ 1) ||| (0 * 2 ^ 63 % 18446744073709551616)) rfl (show (limN a 3) / 2 ^ 1 < 18446744073709551616 by omega) (show 0 * 2 ^ 63 % 18446744073709551616 < 18446744073709551616 by omega) (or_lt64 (show (limN a 3) / 2 ^ 1 < 18446744073709551616 by omega) (show 0 * 2 ^ 63 % 18446744073709551616 < 18446744073709551616 by omega))) rfl fun ac hs => ?_))
    refine lstep (wpO_plain rfl (op_build hs none (qs := [(0, .int .u64 ((((limN a 0) / 2 ^ 1) ||| ((limN a 1) * 2 ^ 63 % 18446744073709551616) : Nat) : Int)), (1, .int .u64 ((((limN a 1) / 2 ^ 1) ||| ((limN a 2) * 2 ^ 63 % 18446744073709551616) : Nat) : Int)), (2, .int .u64 ((((limN a 2) / 2 ^ 1) ||| ((limN a 3) * 2 ^ 63 % 18446744073709551616) : Nat) : Int)), (3, .int .u64 ((((limN a 3) / 2 ^ 1) ||| (0 * 2 ^ 63 % 18446744073709551616) : Nat) : Int))]) (v := .agg #[.int .u64 ((((limN a 0) / 2 ^ 1) ||| ((limN a 1) * 2 ^ 63 % 18446744073709551616) : Nat) : Int), .int .u64 ((((limN a 1) / 2 ^ 1) ||| ((limN a 2) * 2 ^ 63 % 18446744073709551616) : Nat) : Int), .int .u64 ((((limN a 2) / 2 ^ 1) ||| ((limN a 3) * 2 ^ 63 % 18446744073709551616) : Nat) : Int), .int .u64 ((((limN a 3) / 2 ^ 1) ||| (0 * 2 ^ 63 % 18446744073709551616) : Nat) : Int)]) rfl rfl rfl rfl (fun _ => by kernel_rfl) rfl fun ac hs => ?_))
    refine lstep (wpO_plain rfl (op_store hs 2 (vs := [.int .u64 ((((limN a 0) / 2 ^ 1) ||| ((limN a 1) * 2 ^ 63 % 18446744073709551616) : Nat) : Int), .int .u64 ((((limN a 1) / 2 ^ 1) ||| ((limN a 2) * 2 ^ 63 % 18446744073709551616) : Nat) : Int), .int .u64 ((((limN a 2) / 2 ^ 1) ||| ((limN a 3) * 2 ^ 63 % 18446744073709551616) : Nat) : Int), .int .u64 ((((limN a 3) / 2 ^ 1) ||| (0 * 2 ^ 63 % 18446744073709551616) : Nat) : Int)]) rfl rfl rfl rfl rfl Try.sizeOf24 rfl rfl rfl rfl rfl fun w hs => ?_))
    refine wpList_nil ?_
    refine then_n ?_
    refine wp_ret ?_
    exact bodyPost_ret (res1 rfl (rv_c hs 2 (v := .agg #[.int .u64 ((((limN a 0) / 2 ^ 1) ||| ((limN a 1) * 2 ^ 63 % 18446744073709551616) : Nat) : Int), .int .u64 ((((limN a 1) / 2 ^ 1) ||| ((limN a 2) * 2 ^ 63 % 18446744073709551616) : Nat) : Int), .int .u64 ((((limN a 2) / 2 ^ 1) ||| ((limN a 3) * 2 ^ 63 % 18446744073709551616) : Nat) : Int), .int .u64 ((((limN a 3) / 2 ^ 1) ||| (0 * 2 ^ 63 % 18446744073709551616) : Nat) : Int)]) rfl rfl Try.isAgg24 Try.sizeOf24 rfl)) hs.defers ⟨by rw [← hf_no hh hp15]; exact congrArg (fun l => Ending.returned (.agg (List.toArray l))) (half_limbs ha (by omega)), hs.below⟩
theorem inv_c (a m r : Nat) (ha : a < m) (hm : m < 2 ^ 256) (ho : m % 2 = 1) (h1 : 1 < m) (hg : a ≠ 0 → Nat.gcd a m = 1) (hr : ∀ y, y < m → y * a % m = 1 → a ≠ 0 → y = r) (hz : a = 0 → r = 0) (w0 : World) : Calls Try.prog 72 #[W a, W m] w0 fun e w' => e = .returned (W r) ∧ Below w0.heap.size w0 w' := by
  have la := Nat.lt_trans ha hm
  refine enter (n := 75) (args := [W a, W m]) Try.func72 rfl rfl (Nat.le_of_ble_eq_true rfl) fun ac hs => ?_
  refine wp_seq ?_
  refine wp_region_lit ?_
  refine lstep (wpO_plain rfl (op_box hs none none (cs := (Wl a)) rfl rfl rfl rfl rfl rfl fun g1 ac w hs => ?_))
  refine lstep (wpO_plain rfl (op_box hs none none (cs := (Wl m)) rfl rfl rfl rfl rfl rfl fun g2 ac w hs => ?_))
  refine lstep (wpO_plain rfl (op_alloc hs none none (cs := [.int .u64 0, .int .u64 0, .int .u64 0, .int .u64 0]) rfl rfl Try.zeroValue24 (by kernel_rfl) rfl rfl fun g3 ac w hs => ?_))
  refine wpList_nil ?_
  refine then_n ?_
  refine wp_seq ?_
  refine wp_seq ?_
  refine wp_region_lit ?_
  refine lstep (wpO_plain rfl (op_load hs none 0 (v := W a) rfl rfl rfl rfl Try.isAgg24 Try.sizeOf24 rfl rfl fun ac hs => ?_))
  refine lstep (wpO_plain rfl (op_build hs none (qs := []) (v := .agg #[.int .u64 0, .int .u64 0, .int .u64 0, .int .u64 0]) rfl rfl rfl rfl (fun _ => by kernel_rfl) rfl fun ac hs => ?_))
  refine lstep (wpO_plain rfl (op_bin hs none (v := .bool (decide (a = 0))) rfl rfl rfl rfl (fun w => run_eqGuard_agg w .eql 24 _ _ _ _ Try.eqGuardType24) (eqlW a 0 la (by decide) _ rfl) rfl fun ac hs => ?_))
  refine wpList_nil ?_
  refine then_n ?_
  refine wp_cond_split (hs.ev rfl) (fun hc => ?_) (fun hc => ?_)
  · skip
    have hp4 := of_decide_eq_true hc
    refine wp_seq ?_
    refine wp_region_lit ?_
    refine lstep (wpO_plain rfl (op_load hs none 0 (v := W a) rfl rfl rfl rfl Try.isAgg24 Try.sizeOf24 rfl rfl fun ac hs => ?_))
    refine lstep (wpO_plain rfl (op_store hs 2 (vs := (Wl a)) rfl rfl rfl rfl rfl Try.sizeOf24 rfl rfl rfl rfl rfl fun w hs => ?_))
    refine wpList_nil ?_
    refine then_n ?_
    refine wp_ret ?_
    refine then_r ?_
    exact bodyPost_ret (res1 rfl (rv_c hs 2 (v := W a) rfl rfl Try.isAgg24 Try.sizeOf24 rfl)) hs.defers ⟨by rw [hz hp4, hp4], hs.below⟩
  · skip
    have hp5 := of_decide_eq_false hc
    refine wp_skip ?_
    refine then_n ?_
    refine wp_seq ?_
    replace hs : St 75 w0 [(2, true, .pointer (some ⟨g1, 0, none⟩)), (3, true, .pointer (some ⟨g2, 0, none⟩)), (4, true, .pointer (some ⟨g3, 0, none⟩))] [(true, g1, 24, (Wl a)), (true, g2, 24, (Wl m)), (true, g3, 24, [.int .u64 0, .int .u64 0, .int .u64 0, .int .u64 0])] ac _ := hs.re ⟨rfl, rfl, rfl, trivial⟩
    refine region_inv [([], [4, 5]), ([], [5]), ([], [4, 5]), ([], [4, 5]), ([0, 2, 3], [5]), ([0, 1, 2, 3, 4], [])] (fun L ac w => ∃ (g6 : Nat) (g7 : Nat), St 75 w0 [(18, L 0, W a), (19, L 1, W m), (5, L 2, .pointer (some ⟨g6, 0, none⟩)), (6, L 3, .pointer (some ⟨g7, 0, none⟩)), (2, true, .pointer (some ⟨g1, 0, none⟩)), (3, true, .pointer (some ⟨g2, 0, none⟩)), (4, true, .pointer (some ⟨g3, 0, none⟩))] [(true, g1, 24, (Wl a)), (true, g2, 24, (Wl m)), (true, g3, 24, [.int .u64 0, .int .u64 0, .int .u64 0, .int .u64 0]), (L 2, g6, 24, (cond (L 4) (Wl a) [.int .u64 0, .int .u64 0, .int .u64 0, .int .u64 0])), (L 3, g7, 24, (cond (L 5) (Wl m) [.int .u64 0, .int .u64 0, .int .u64 0, .int .u64 0]))] ac w) (by kernel_rfl) (by kernel_rfl) ?_ ?_ ?_
    · exact ⟨0, 0, hs.drew.skip.skip.skip.skip.pad.pad⟩
    · refine ⟨?_, ?_, ?_, ?_, ?_, ?_, trivial⟩
      · intro L ac w hJ
        obtain ⟨g6, g7, hs⟩ := hJ
        refine wpO_plain rfl (op_load hs (some 0) 0 (v := W a) rfl rfl rfl rfl Try.isAgg24 Try.sizeOf24 rfl rfl fun ac hs => ?_)
        exact ⟨g6, g7, hs⟩
      · intro L ac w hJ
        obtain ⟨g6, g7, hs⟩ := hJ
        refine wpO_plain rfl (op_load hs (some 1) 1 (v := W m) rfl rfl rfl rfl Try.isAgg24 Try.sizeOf24 rfl rfl fun ac hs => ?_)
        exact ⟨g6, g7, hs⟩
      · intro L ac w hJ
        obtain ⟨g6, g7, hs⟩ := hJ
        refine wpO_plain rfl (op_alloc hs (some 2) (some 3) (cs := [.int .u64 0, .int .u64 0, .int .u64 0, .int .u64 0]) rfl rfl Try.zeroValue24 (by kernel_rfl) rfl rfl fun g6 ac w hs => ?_)
        exact ⟨g6, g7, hs⟩
      · intro L ac w hJ
        obtain ⟨g6, g7, hs⟩ := hJ
        refine wpO_plain rfl (op_alloc hs (some 3) (some 4) (cs := [.int .u64 0, .int .u64 0, .int .u64 0, .int .u64 0]) rfl rfl Try.zeroValue24 (by kernel_rfl) rfl rfl fun g7 ac w hs => ?_)
        exact ⟨g6, g7, hs⟩
      · intro L ac w hJ
        obtain ⟨g6, g7, hs⟩ := hJ
        refine wpO_plain rfl (op_store hs 3 (vs := (Wl a)) rfl rfl rfl rfl rfl Try.sizeOf24 rfl rfl rfl rfl rfl fun w hs => ?_)
        exact ⟨g6, g7, hs⟩
      · intro L ac w hJ
        obtain ⟨g6, g7, hs⟩ := hJ
        refine wpO_plain rfl (op_store hs 4 (vs := (Wl m)) rfl rfl rfl rfl rfl Try.sizeOf24 rfl rfl rfl rfl rfl fun w hs => ?_)
        exact ⟨g6, g7, hs⟩
    intro ac w hJ
    obtain ⟨g6, g7, hs⟩ := hJ
    replace hs : St 75 w0 [(18, true, W a), (19, true, W m), (5, true, .pointer (some ⟨g6, 0, none⟩)), (6, true, .pointer (some ⟨g7, 0, none⟩)), (2, true, .pointer (some ⟨g1, 0, none⟩)), (3, true, .pointer (some ⟨g2, 0, none⟩)), (4, true, .pointer (some ⟨g3, 0, none⟩))] [(true, g1, 24, (Wl a)), (true, g2, 24, (Wl m)), (true, g3, 24, [.int .u64 0, .int .u64 0, .int .u64 0, .int .u64 0]), (true, g6, 24, (Wl a)), (true, g7, 24, (Wl m))] ac w := hs
    refine then_n ?_
    refine wp_seq ?_
    refine wp_region_lit ?_
    refine lstep (wpO_plain rfl (op_build hs none (qs := [(0, .int .u64 1)]) (v := .agg #[.int .u64 1, .int .u64 0, .int .u64 0, .int .u64 0]) rfl rfl rfl rfl (fun _ => by kernel_rfl) rfl fun ac hs => ?_))
    refine lstep (wpO_plain rfl (op_build hs none (qs := []) (v := .agg #[.int .u64 0, .int .u64 0, .int .u64 0, .int .u64 0]) rfl rfl rfl rfl (fun _ => by kernel_rfl) rfl fun ac hs => ?_))
    refine lstep (wpO_plain rfl (op_alloc hs none none (cs := [.int .u64 0, .int .u64 0, .int .u64 0, .int .u64 0]) rfl rfl Try.zeroValue24 (by kernel_rfl) rfl rfl fun g8 ac w hs => ?_))
    refine lstep (wpO_plain rfl (op_alloc hs none none (cs := [.int .u64 0, .int .u64 0, .int .u64 0, .int .u64 0]) rfl rfl Try.zeroValue24 (by kernel_rfl) rfl rfl fun g9 ac w hs => ?_))
    refine lstep (wpO_plain rfl (op_store hs 5 (vs := [.int .u64 1, .int .u64 0, .int .u64 0, .int .u64 0]) rfl rfl rfl rfl rfl Try.sizeOf24 rfl rfl rfl rfl rfl fun w hs => ?_))
    refine lstep (wpO_plain rfl (op_store hs 6 (vs := [.int .u64 0, .int .u64 0, .int .u64 0, .int .u64 0]) rfl rfl rfl rfl rfl Try.sizeOf24 rfl rfl rfl rfl rfl fun w hs => ?_))
    refine wpList_nil ?_
    refine then_n ?_
    refine wp_seq ?_
    refine wp_seq ?_
    refine wp_region_lit ?_
    refine lstep (wpO_plain rfl (op_assign hs none rfl rfl rfl rfl fun ac hs => ?_))
    refine wpList_nil ?_
    refine then_n ?_
    refine wp_block ?_
    refine wp_loop_m (fun μ ac w => ∃ (k : Nat) (u : Nat) (v : Nat) (x : Nat) (y : Nat), (1100 - k) = μ ∧ (Bg a m k u v x y) ∧ St 75 w0 [(3, true, .pointer (some ⟨g2, 0, none⟩)), (4, true, .pointer (some ⟨g3, 0, none⟩)), (5, true, .pointer (some ⟨g6, 0, none⟩)), (6, true, .pointer (some ⟨g7, 0, none⟩)), (7, true, .pointer (some ⟨g8, 0, none⟩)), (8, true, .pointer (some ⟨g9, 0, none⟩)), (9, true, .int .i64 ((k : Nat) : Int))] [(true, g1, 24, (Wl a)), (true, g2, 24, (Wl m)), (true, g3, 24, [.int .u64 0, .int .u64 0, .int .u64 0, .int .u64 0]), (true, g6, 24, (Wl u)), (true, g7, 24, (Wl v)), (true, g8, 24, (Wl x)), (true, g9, 24, (Wl y))] ac w) ?_ ?_
    · exact ⟨_, 0, a, m, 1, 0, rfl, (bg_start h1 hm ho ha (hg hp5)), (hs.re ⟨rfl, rfl, rfl, rfl, rfl, rfl, rfl, trivial⟩)⟩
    intro μ ac w ⟨k, u, v, x, y, hμ, hB, hs⟩
    have hkk := hB.le
    have lu := Nat.lt_of_le_of_lt hB.hu hm
    have lv := Nat.lt_of_le_of_lt hB.hv hm
    have lx := Nat.lt_trans hB.hx hm
    have ly := Nat.lt_trans hB.hy hm
    refine wp_seq ?_
    refine wp_seq ?_
    refine wp_region_lit ?_
    refine lstep (wpO_plain rfl (op_move hs none rfl rfl rfl rfl fun ac hs => ?_))
    refine lstep (wpO_plain rfl (op_bin hs none (v := .bool true) rfl rfl rfl rfl (fun _ => rfl) (fun w => dT (show k < 1100 by omega) (bin_lssN (x := k) (y := 1100) w)) rfl fun ac hs => ?_))
    refine lstep (wpO_plain rfl (op_move hs none rfl rfl rfl rfl fun ac hs => ?_))
    refine lstep (wpO_in hs rfl rfl rfl (op_load hs none 3 (v := W u) rfl rfl rfl rfl Try.isAgg24 Try.sizeOf24 rfl rfl fun ac hs => ?_))
    refine lstep (wpO_in hs rfl rfl rfl (op_build hs none (qs := []) (v := .agg #[.int .u64 0, .int .u64 0, .int .u64 0, .int .u64 0]) rfl rfl rfl rfl (fun _ => by kernel_rfl) rfl fun ac hs => ?_))
    refine lstep (wpO_in hs rfl rfl rfl (op_bin hs none (v := .bool (decide (u ≠ 0))) rfl rfl rfl rfl (fun w => run_eqGuard_agg w .neq 24 _ _ _ _ Try.eqGuardType24) (neqW u 0 lu (by decide) _ rfl) rfl fun ac hs => ?_))
    refine lstep (wpO_plain rfl (op_pickT hs none rfl rfl rfl rfl rfl fun ac hs => ?_))
    refine wpList_nil ?_
    refine then_n ?_
    refine wp_cond_split (hs.ev rfl) (fun hc => ?_) (fun hc => ?_)
    · skip
      have hp10 := of_decide_eq_true hc
      have hu0 := hp10
      refine wp_skip ?_
      refine then_n ?_
      refine wp_seq ?_
      refine wp_block ?_
      refine wp_seq ?_
      refine wp_seq ?_
      refine wp_region_lit ?_
      refine lstep (wpO_plain rfl (op_idxA hs none (j := 0) rfl rfl rfl rfl Try.underlying24 Try.sizeOf22 (by decide) (off := 0) rfl rfl fun ac hs => ?_))
      have l11 := limN_lt u 0
      refine lstep (wpO_plain rfl (op_load hs none 3 (v := .int .u64 (lim u 0)) rfl rfl rfl rfl Try.isAgg22 Try.sizeOf22 rfl rfl fun ac hs => ?_))
      refine lstep (wpO_plain rfl (op_bin hs none (v := .int .u64 (((limN u 0) % 2 : Nat) : Int)) rfl rfl rfl rfl (fun _ => rfl) (bin_remN (x := limN u 0) (y := 2) (z := (limN u 0) % 2) rfl (by decide)) rfl fun ac hs => ?_))
      refine lstep (wpO_plain rfl (op_bin hs none (v := .bool (decide ((limN u 0) % 2 = 0))) rfl rfl rfl rfl (fun _ => rfl) (bin_eqlN (x := (limN u 0) % 2) (y := 0)) rfl fun ac hs => ?_))
      refine wpList_nil ?_
      refine then_n ?_
      refine wp_cond_split (hs.ev rfl) (fun hc => ?_) (fun hc => ?_)
      · skip
        have hp12 := of_decide_eq_true hc
        refine wp_seq ?_
        refine wp_region_lit ?_
        refine lstep (wpO_plain rfl (op_load hs none 3 (v := W u) rfl rfl rfl rfl Try.isAgg24 Try.sizeOf24 rfl rfl fun ac hs => ?_))
        refine lstep (wpO_plain rfl (op_load hs none 1 (v := W m) rfl rfl rfl rfl Try.isAgg24 Try.sizeOf24 rfl rfl fun ac hs => ?_))
        obtain ⟨h13, hh13, lh13⟩ : ∃ z0, hfm u m = z0 ∧ z0 < 2 ^ 256 := ⟨_, rfl, hfm_lt256 lu hm⟩
        refine lstep (wpO_plain rfl (op_call (F := 94) hs none (v := W h13) rfl rfl rfl rfl (Try.call94 _) (half_c u m h13 lu hm hh13) rfl fun ac w hs => ?_))
        refine lstep (wpO_plain rfl (op_store hs 3 (vs := (Wl h13)) rfl rfl rfl rfl rfl Try.sizeOf24 rfl rfl rfl rfl rfl fun w hs => ?_))
        refine wpList_nil ?_
        refine then_n ?_
        refine wp_seq ?_
        refine wp_region_lit ?_
        refine lstep (wpO_plain rfl (op_load hs none 5 (v := W x) rfl rfl rfl rfl Try.isAgg24 Try.sizeOf24 rfl rfl fun ac hs => ?_))
        refine lstep (wpO_plain rfl (op_load hs none 1 (v := W m) rfl rfl rfl rfl Try.isAgg24 Try.sizeOf24 rfl rfl fun ac hs => ?_))
        obtain ⟨h14, hh14, lh14⟩ : ∃ z0, hfm x m = z0 ∧ z0 < 2 ^ 256 := ⟨_, rfl, hfm_lt256 lx hm⟩
        refine lstep (wpO_plain rfl (op_call (F := 94) hs none (v := W h14) rfl rfl rfl rfl (Try.call94 _) (half_c x m h14 lx hm hh14) rfl fun ac w hs => ?_))
        refine lstep (wpO_plain rfl (op_store hs 5 (vs := (Wl h14)) rfl rfl rfl rfl rfl Try.sizeOf24 rfl rfl rfl rfl rfl fun w hs => ?_))
        refine wpList_nil ?_
        refine then_n ?_
        refine wp_exit ?_
        refine then_e ?_
        refine blk_e ?_
        refine then_n ?_
        refine wp_region_lit ?_
        refine lstep (wpO_plain rfl (op_move hs none rfl rfl rfl rfl fun ac hs => ?_))
        refine lstep (wpO_plain rfl (op_bin hs none (v := .int .i64 ((k + 1 : Nat) : Int)) rfl rfl rfl rfl (fun _ => rfl) (bin_addN (x := k) (y := 1) (z := k + 1) rfl (show k + 1 < 9223372036854775808 by omega)) rfl fun ac hs => ?_))
        refine lstep (wpO_plain rfl (op_assign hs none rfl rfl rfl rfl fun ac hs => ?_))
        refine wpList_nil ?_
        refine then_n ?_
        exact ⟨_, ⟨(k + 1), h13, v, h14, y, rfl, (by rw [← hh13, ← hh14]; exact bg_even ho hB hu0 (by rw [← lim_odd]; exact hp12)), (hs.re ⟨rfl, rfl, rfl, rfl, rfl, rfl, rfl, trivial⟩)⟩, (by omega)⟩
      · skip
        have hp15 := of_decide_eq_false hc
        have hodd : u % 2 = 1 := by rw [← lim_odd]; omega
        refine wp_skip ?_
        refine then_n ?_
        refine wp_seq ?_
        refine wp_region_lit ?_
        refine lstep (wpO_plain rfl (op_load hs none 3 (v := W u) rfl rfl rfl rfl Try.isAgg24 Try.sizeOf24 rfl rfl fun ac hs => ?_))
        refine lstep (wpO_plain rfl (op_load hs none 4 (v := W v) rfl rfl rfl rfl Try.isAgg24 Try.sizeOf24 rfl rfl fun ac hs => ?_))
        obtain ⟨d16, hd16, ld16⟩ : ∃ z0, (u + 2 ^ 256 - v) % 2 ^ 256 = z0 ∧ z0 < 2 ^ 256 := ⟨_, rfl, Nat.mod_lt _ (Nat.two_pow_pos 256)⟩
        obtain ⟨c17, hc17⟩ : ∃ z0, bor u v = z0 := ⟨_, rfl⟩
        refine lstep (wpO_plain rfl (op_call (F := 93) hs none (v := .tuple #[W d16, .int .u64 ((c17 : Nat) : Int)]) rfl rfl rfl rfl (Try.call93 _) (less_at u v d16 c17 lu lv hd16 hc17) rfl fun ac w hs => ?_))
        refine lstep (wpO_plain rfl (op_move hs none rfl rfl rfl rfl fun ac hs => ?_))
        refine lstep (wpO_plain rfl (op_extract hs none rfl rfl rfl rfl rfl fun ac hs => ?_))
        refine lstep (wpO_plain rfl (op_extract hs none rfl rfl rfl rfl rfl fun ac hs => ?_))
        refine lstep (wpO_plain rfl (op_alloc hs none none (cs := [.int .u64 0, .int .u64 0, .int .u64 0, .int .u64 0]) rfl rfl Try.zeroValue24 (by kernel_rfl) rfl rfl fun g18 ac w hs => ?_))
        refine lstep (wpO_plain rfl (op_store hs 7 (vs := (Wl d16)) rfl rfl rfl rfl rfl Try.sizeOf24 rfl rfl rfl rfl rfl fun w hs => ?_))
        refine lstep (wpO_plain rfl (op_assign hs none rfl rfl rfl rfl fun ac hs => ?_))
        refine wpList_nil ?_
        refine then_n ?_
        refine wp_seq ?_
        refine wp_seq ?_
        refine wp_region_lit ?_
        refine lstep (wpO_plain rfl (op_move hs none rfl rfl rfl rfl fun ac hs => ?_))
        refine lstep (wpO_plain rfl (op_bin hs none (v := .bool (decide (c17 = 1))) rfl rfl rfl rfl (fun _ => rfl) (bin_eqlN (x := c17) (y := 1)) rfl fun ac hs => ?_))
        refine wpList_nil ?_
        refine then_n ?_
        refine wp_cond_split (hs.ev rfl) (fun hc => ?_) (fun hc => ?_)
        · skip
          have hp19 := of_decide_eq_true hc
          have hlt := (bor_one hc17).1 hp19
          refine wp_seq ?_
          refine wp_region_lit ?_
          refine lstep (wpO_plain rfl (op_load hs none 4 (v := W v) rfl rfl rfl rfl Try.isAgg24 Try.sizeOf24 rfl rfl fun ac hs => ?_))
          refine lstep (wpO_plain rfl (op_load hs none 3 (v := W u) rfl rfl rfl rfl Try.isAgg24 Try.sizeOf24 rfl rfl fun ac hs => ?_))
          obtain ⟨d20, hd20, ld20⟩ : ∃ z0, (v + 2 ^ 256 - u) % 2 ^ 256 = z0 ∧ z0 < 2 ^ 256 := ⟨_, rfl, Nat.mod_lt _ (Nat.two_pow_pos 256)⟩
          obtain ⟨c21, hc21⟩ : ∃ z0, bor v u = z0 := ⟨_, rfl⟩
          refine lstep (wpO_plain rfl (op_call (F := 93) hs none (v := .tuple #[W d20, .int .u64 ((c21 : Nat) : Int)]) rfl rfl rfl rfl (Try.call93 _) (less_at v u d20 c21 lv lu hd20 hc21) rfl fun ac w hs => ?_))
          refine lstep (wpO_plain rfl (op_move hs none rfl rfl rfl rfl fun ac hs => ?_))
          refine lstep (wpO_plain rfl (op_extract hs none rfl rfl rfl rfl rfl fun ac hs => ?_))
          refine lstep (wpO_plain rfl (op_extract hs none rfl rfl rfl rfl rfl fun ac hs => ?_))
          refine lstep (wpO_plain rfl (op_store hs 7 (vs := (Wl d20)) rfl rfl rfl rfl rfl Try.sizeOf24 rfl rfl rfl rfl rfl fun w hs => ?_))
          refine wpList_nil ?_
          refine then_n ?_
          refine wp_seq ?_
          refine wp_region_lit ?_
          refine lstep (wpO_plain rfl (op_load hs none 3 (v := W u) rfl rfl rfl rfl Try.isAgg24 Try.sizeOf24 rfl rfl fun ac hs => ?_))
          refine lstep (wpO_plain rfl (op_store hs 4 (vs := (Wl u)) rfl rfl rfl rfl rfl Try.sizeOf24 rfl rfl rfl rfl rfl fun w hs => ?_))
          refine wpList_nil ?_
          refine then_n ?_
          refine wp_region_lit ?_
          refine lstep (wpO_plain rfl (op_load hs none 6 (v := W y) rfl rfl rfl rfl Try.isAgg24 Try.sizeOf24 rfl rfl fun ac hs => ?_))
          refine lstep (wpO_plain rfl (op_load hs none 5 (v := W x) rfl rfl rfl rfl Try.isAgg24 Try.sizeOf24 rfl rfl fun ac hs => ?_))
          refine lstep (wpO_plain rfl (op_store hs 5 (vs := (Wl y)) rfl rfl rfl rfl rfl Try.sizeOf24 rfl rfl rfl rfl rfl fun w hs => ?_))
          refine lstep (wpO_plain rfl (op_store hs 6 (vs := (Wl x)) rfl rfl rfl rfl rfl Try.sizeOf24 rfl rfl rfl rfl rfl fun w hs => ?_))
          refine wpList_nil ?_
          refine then_n ?_
          refine wp_seq ?_
          refine wp_region_lit ?_
          refine lstep (wpO_plain rfl (op_load hs none 7 (v := W d20) rfl rfl rfl rfl Try.isAgg24 Try.sizeOf24 rfl rfl fun ac hs => ?_))
          refine lstep (wpO_plain rfl (op_store hs 3 (vs := (Wl d20)) rfl rfl rfl rfl rfl Try.sizeOf24 rfl rfl rfl rfl rfl fun w hs => ?_))
          refine wpList_nil ?_
          refine then_n ?_
          refine wp_seq ?_
          refine wp_region_lit ?_
          refine lstep (wpO_plain rfl (op_load hs none 5 (v := W y) rfl rfl rfl rfl Try.isAgg24 Try.sizeOf24 rfl rfl fun ac hs => ?_))
          refine lstep (wpO_plain rfl (op_load hs none 6 (v := W x) rfl rfl rfl rfl Try.isAgg24 Try.sizeOf24 rfl rfl fun ac hs => ?_))
          obtain ⟨d22, hd22, ld22⟩ : ∃ z0, (y + 2 ^ 256 - x) % 2 ^ 256 = z0 ∧ z0 < 2 ^ 256 := ⟨_, rfl, Nat.mod_lt _ (Nat.two_pow_pos 256)⟩
          obtain ⟨c23, hc23⟩ : ∃ z0, bor y x = z0 := ⟨_, rfl⟩
          refine lstep (wpO_plain rfl (op_call (F := 93) hs none (v := .tuple #[W d22, .int .u64 ((c23 : Nat) : Int)]) rfl rfl rfl rfl (Try.call93 _) (less_at y x d22 c23 ly lx hd22 hc23) rfl fun ac w hs => ?_))
          refine lstep (wpO_plain rfl (op_move hs none rfl rfl rfl rfl fun ac hs => ?_))
          refine lstep (wpO_plain rfl (op_extract hs none rfl rfl rfl rfl rfl fun ac hs => ?_))
          refine lstep (wpO_plain rfl (op_extract hs none rfl rfl rfl rfl rfl fun ac hs => ?_))
          refine lstep (wpO_plain rfl (op_alloc hs none none (cs := [.int .u64 0, .int .u64 0, .int .u64 0, .int .u64 0]) rfl rfl Try.zeroValue24 (by kernel_rfl) rfl rfl fun g24 ac w hs => ?_))
          refine lstep (wpO_plain rfl (op_store hs 8 (vs := (Wl d22)) rfl rfl rfl rfl rfl Try.sizeOf24 rfl rfl rfl rfl rfl fun w hs => ?_))
          refine lstep (wpO_plain rfl (op_assign hs none rfl rfl rfl rfl fun ac hs => ?_))
          refine wpList_nil ?_
          refine then_n ?_
          refine wp_seq ?_
          refine wp_seq ?_
          refine wp_region_lit ?_
          refine lstep (wpO_plain rfl (op_move hs none rfl rfl rfl rfl fun ac hs => ?_))
          refine lstep (wpO_plain rfl (op_bin hs none (v := .bool (decide (c23 = 1))) rfl rfl rfl rfl (fun _ => rfl) (bin_eqlN (x := c23) (y := 1)) rfl fun ac hs => ?_))
          refine wpList_nil ?_
          refine then_n ?_
          refine wp_cond_split (hs.ev rfl) (fun hc => ?_) (fun hc => ?_)
          · skip
            have hp25 := of_decide_eq_true hc
            refine wp_region_lit ?_
            refine lstep (wpO_plain rfl (op_load hs none 8 (v := W d22) rfl rfl rfl rfl Try.isAgg24 Try.sizeOf24 rfl rfl fun ac hs => ?_))
            refine lstep (wpO_plain rfl (op_load hs none 1 (v := W m) rfl rfl rfl rfl Try.isAgg24 Try.sizeOf24 rfl rfl fun ac hs => ?_))
            obtain ⟨s26, hs26, ls26⟩ : ∃ z0, (d22 + m) % 2 ^ 256 = z0 ∧ z0 < 2 ^ 256 := ⟨_, rfl, Nat.mod_lt _ (Nat.two_pow_pos 256)⟩
            obtain ⟨c27, hc27⟩ : ∃ z0, (d22 + m) / 2 ^ 256 = z0 := ⟨_, rfl⟩
            refine lstep (wpO_plain rfl (op_call (F := 88) hs none (v := .tuple #[W s26, .int .u64 ((c27 : Nat) : Int)]) rfl rfl rfl rfl (Try.call88 _) (more_at d22 m s26 c27 ld22 hm hs26 hc27) rfl fun ac w hs => ?_))
            refine lstep (wpO_plain rfl (op_move hs none rfl rfl rfl rfl fun ac hs => ?_))
            refine lstep (wpO_plain rfl (op_extract hs none rfl rfl rfl rfl rfl fun ac hs => ?_))
            refine lstep (wpO_plain rfl (op_extract hs none rfl rfl rfl rfl rfl fun ac hs => ?_))
            refine lstep (wpO_plain rfl (op_store hs 8 (vs := (Wl s26)) rfl rfl rfl rfl rfl Try.sizeOf24 rfl rfl rfl rfl rfl fun w hs => ?_))
            refine wpList_nil ?_
            refine then_n ?_
            refine wp_region_lit ?_
            refine lstep (wpO_plain rfl (op_load hs none 8 (v := W s26) rfl rfl rfl rfl Try.isAgg24 Try.sizeOf24 rfl rfl fun ac hs => ?_))
            refine lstep (wpO_plain rfl (op_store hs 5 (vs := (Wl s26)) rfl rfl rfl rfl rfl Try.sizeOf24 rfl rfl rfl rfl rfl fun w hs => ?_))
            refine wpList_nil ?_
            refine blk_n ?_
            refine then_n ?_
            refine wp_region_lit ?_
            refine lstep (wpO_plain rfl (op_move hs none rfl rfl rfl rfl fun ac hs => ?_))
            refine lstep (wpO_plain rfl (op_bin hs none (v := .int .i64 ((k + 1 : Nat) : Int)) rfl rfl rfl rfl (fun _ => rfl) (bin_addN (x := k) (y := 1) (z := k + 1) rfl (show k + 1 < 9223372036854775808 by omega)) rfl fun ac hs => ?_))
            refine lstep (wpO_plain rfl (op_assign hs none rfl rfl rfl rfl fun ac hs => ?_))
            refine wpList_nil ?_
            refine then_n ?_
            exact ⟨_, ⟨(k + 1), d20, u, s26, x, rfl, (by rw [less_val lv hd20 (by omega), less_mod2 hB.hy hB.hx hm hd22 hc23 hp25 hs26]; exact bg_lt hB hodd hlt), ((hs.takeb 7).re ⟨rfl, rfl, rfl, rfl, rfl, rfl, rfl, trivial⟩)⟩, (by omega)⟩
          · skip
            have hp28 := of_decide_eq_false hc
            refine wp_skip ?_
            refine then_n ?_
            refine wp_region_lit ?_
            refine lstep (wpO_plain rfl (op_load hs none 8 (v := W d22) rfl rfl rfl rfl Try.isAgg24 Try.sizeOf24 rfl rfl fun ac hs => ?_))
            refine lstep (wpO_plain rfl (op_store hs 5 (vs := (Wl d22)) rfl rfl rfl rfl rfl Try.sizeOf24 rfl rfl rfl rfl rfl fun w hs => ?_))
            refine wpList_nil ?_
            refine blk_n ?_
            refine then_n ?_
            refine wp_region_lit ?_
            refine lstep (wpO_plain rfl (op_move hs none rfl rfl rfl rfl fun ac hs => ?_))
            refine lstep (wpO_plain rfl (op_bin hs none (v := .int .i64 ((k + 1 : Nat) : Int)) rfl rfl rfl rfl (fun _ => rfl) (bin_addN (x := k) (y := 1) (z := k + 1) rfl (show k + 1 < 9223372036854775808 by omega)) rfl fun ac hs => ?_))
            refine lstep (wpO_plain rfl (op_assign hs none rfl rfl rfl rfl fun ac hs => ?_))
            refine wpList_nil ?_
            refine then_n ?_
            exact ⟨_, ⟨(k + 1), d20, u, d22, x, rfl, (by rw [less_val lv hd20 (by omega), less_mod hB.hy hB.hx hm hd22 hc23 hp28]; exact bg_lt hB hodd hlt), ((hs.takeb 7).re ⟨rfl, rfl, rfl, rfl, rfl, rfl, rfl, trivial⟩)⟩, (by omega)⟩
        · skip
          have hp29 := of_decide_eq_false hc
          have hge : ¬ u < v := fun h => hp29 ((bor_one hc17).2 h)
          refine wp_skip ?_
          refine then_n ?_
          refine wp_seq ?_
          refine wp_region_lit ?_
          refine lstep (wpO_plain rfl (op_load hs none 7 (v := W d16) rfl rfl rfl rfl Try.isAgg24 Try.sizeOf24 rfl rfl fun ac hs => ?_))
          refine lstep (wpO_plain rfl (op_store hs 3 (vs := (Wl d16)) rfl rfl rfl rfl rfl Try.sizeOf24 rfl rfl rfl rfl rfl fun w hs => ?_))
          refine wpList_nil ?_
          refine then_n ?_
          refine wp_seq ?_
          refine wp_region_lit ?_
          refine lstep (wpO_plain rfl (op_load hs none 5 (v := W x) rfl rfl rfl rfl Try.isAgg24 Try.sizeOf24 rfl rfl fun ac hs => ?_))
          refine lstep (wpO_plain rfl (op_load hs none 6 (v := W y) rfl rfl rfl rfl Try.isAgg24 Try.sizeOf24 rfl rfl fun ac hs => ?_))
          obtain ⟨d30, hd30, ld30⟩ : ∃ z0, (x + 2 ^ 256 - y) % 2 ^ 256 = z0 ∧ z0 < 2 ^ 256 := ⟨_, rfl, Nat.mod_lt _ (Nat.two_pow_pos 256)⟩
          obtain ⟨c31, hc31⟩ : ∃ z0, bor x y = z0 := ⟨_, rfl⟩
          refine lstep (wpO_plain rfl (op_call (F := 93) hs none (v := .tuple #[W d30, .int .u64 ((c31 : Nat) : Int)]) rfl rfl rfl rfl (Try.call93 _) (less_at x y d30 c31 lx ly hd30 hc31) rfl fun ac w hs => ?_))
          refine lstep (wpO_plain rfl (op_move hs none rfl rfl rfl rfl fun ac hs => ?_))
          refine lstep (wpO_plain rfl (op_extract hs none rfl rfl rfl rfl rfl fun ac hs => ?_))
          refine lstep (wpO_plain rfl (op_extract hs none rfl rfl rfl rfl rfl fun ac hs => ?_))
          refine lstep (wpO_plain rfl (op_alloc hs none none (cs := [.int .u64 0, .int .u64 0, .int .u64 0, .int .u64 0]) rfl rfl Try.zeroValue24 (by kernel_rfl) rfl rfl fun g32 ac w hs => ?_))
          refine lstep (wpO_plain rfl (op_store hs 8 (vs := (Wl d30)) rfl rfl rfl rfl rfl Try.sizeOf24 rfl rfl rfl rfl rfl fun w hs => ?_))
          refine lstep (wpO_plain rfl (op_assign hs none rfl rfl rfl rfl fun ac hs => ?_))
          refine wpList_nil ?_
          refine then_n ?_
          refine wp_seq ?_
          refine wp_seq ?_
          refine wp_region_lit ?_
          refine lstep (wpO_plain rfl (op_move hs none rfl rfl rfl rfl fun ac hs => ?_))
          refine lstep (wpO_plain rfl (op_bin hs none (v := .bool (decide (c31 = 1))) rfl rfl rfl rfl (fun _ => rfl) (bin_eqlN (x := c31) (y := 1)) rfl fun ac hs => ?_))
          refine wpList_nil ?_
          refine then_n ?_
          refine wp_cond_split (hs.ev rfl) (fun hc => ?_) (fun hc => ?_)
          · skip
            have hp33 := of_decide_eq_true hc
            refine wp_region_lit ?_
            refine lstep (wpO_plain rfl (op_load hs none 8 (v := W d30) rfl rfl rfl rfl Try.isAgg24 Try.sizeOf24 rfl rfl fun ac hs => ?_))
            refine lstep (wpO_plain rfl (op_load hs none 1 (v := W m) rfl rfl rfl rfl Try.isAgg24 Try.sizeOf24 rfl rfl fun ac hs => ?_))
            obtain ⟨s34, hs34, ls34⟩ : ∃ z0, (d30 + m) % 2 ^ 256 = z0 ∧ z0 < 2 ^ 256 := ⟨_, rfl, Nat.mod_lt _ (Nat.two_pow_pos 256)⟩
            obtain ⟨c35, hc35⟩ : ∃ z0, (d30 + m) / 2 ^ 256 = z0 := ⟨_, rfl⟩
            refine lstep (wpO_plain rfl (op_call (F := 88) hs none (v := .tuple #[W s34, .int .u64 ((c35 : Nat) : Int)]) rfl rfl rfl rfl (Try.call88 _) (more_at d30 m s34 c35 ld30 hm hs34 hc35) rfl fun ac w hs => ?_))
            refine lstep (wpO_plain rfl (op_move hs none rfl rfl rfl rfl fun ac hs => ?_))
            refine lstep (wpO_plain rfl (op_extract hs none rfl rfl rfl rfl rfl fun ac hs => ?_))
            refine lstep (wpO_plain rfl (op_extract hs none rfl rfl rfl rfl rfl fun ac hs => ?_))
            refine lstep (wpO_plain rfl (op_store hs 8 (vs := (Wl s34)) rfl rfl rfl rfl rfl Try.sizeOf24 rfl rfl rfl rfl rfl fun w hs => ?_))
            refine wpList_nil ?_
            refine then_n ?_
            refine wp_region_lit ?_
            refine lstep (wpO_plain rfl (op_load hs none 8 (v := W s34) rfl rfl rfl rfl Try.isAgg24 Try.sizeOf24 rfl rfl fun ac hs => ?_))
            refine lstep (wpO_plain rfl (op_store hs 5 (vs := (Wl s34)) rfl rfl rfl rfl rfl Try.sizeOf24 rfl rfl rfl rfl rfl fun w hs => ?_))
            refine wpList_nil ?_
            refine blk_n ?_
            refine then_n ?_
            refine wp_region_lit ?_
            refine lstep (wpO_plain rfl (op_move hs none rfl rfl rfl rfl fun ac hs => ?_))
            refine lstep (wpO_plain rfl (op_bin hs none (v := .int .i64 ((k + 1 : Nat) : Int)) rfl rfl rfl rfl (fun _ => rfl) (bin_addN (x := k) (y := 1) (z := k + 1) rfl (show k + 1 < 9223372036854775808 by omega)) rfl fun ac hs => ?_))
            refine lstep (wpO_plain rfl (op_assign hs none rfl rfl rfl rfl fun ac hs => ?_))
            refine wpList_nil ?_
            refine then_n ?_
            exact ⟨_, ⟨(k + 1), d16, v, s34, y, rfl, (by rw [less_val lu hd16 hge, less_mod2 hB.hx hB.hy hm hd30 hc31 hp33 hs34]; exact bg_ge hB hodd hge), ((hs.takeb 7).re ⟨rfl, rfl, rfl, rfl, rfl, rfl, rfl, trivial⟩)⟩, (by omega)⟩
          · skip
            have hp36 := of_decide_eq_false hc
            refine wp_skip ?_
            refine then_n ?_
            refine wp_region_lit ?_
            refine lstep (wpO_plain rfl (op_load hs none 8 (v := W d30) rfl rfl rfl rfl Try.isAgg24 Try.sizeOf24 rfl rfl fun ac hs => ?_))
            refine lstep (wpO_plain rfl (op_store hs 5 (vs := (Wl d30)) rfl rfl rfl rfl rfl Try.sizeOf24 rfl rfl rfl rfl rfl fun w hs => ?_))
            refine wpList_nil ?_
            refine blk_n ?_
            refine then_n ?_
            refine wp_region_lit ?_
            refine lstep (wpO_plain rfl (op_move hs none rfl rfl rfl rfl fun ac hs => ?_))
            refine lstep (wpO_plain rfl (op_bin hs none (v := .int .i64 ((k + 1 : Nat) : Int)) rfl rfl rfl rfl (fun _ => rfl) (bin_addN (x := k) (y := 1) (z := k + 1) rfl (show k + 1 < 9223372036854775808 by omega)) rfl fun ac hs => ?_))
            refine lstep (wpO_plain rfl (op_assign hs none rfl rfl rfl rfl fun ac hs => ?_))
            refine wpList_nil ?_
            refine then_n ?_
            exact ⟨_, ⟨(k + 1), d16, v, d30, y, rfl, (by rw [less_val lu hd16 hge, less_mod hB.hx hB.hy hm hd30 hc31 hp36]; exact bg_ge hB hodd hge), ((hs.takeb 7).re ⟨rfl, rfl, rfl, rfl, rfl, rfl, rfl, trivial⟩)⟩, (by omega)⟩
    · skip
      have hp37 := of_decide_eq_false hc
      obtain rfl : u = 0 := by omega
      refine wp_exit ?_
      refine then_e ?_
      refine then_e ?_
      refine blk_e ?_
      refine then_n ?_
      refine wp_seq ?_
      refine wp_region_lit ?_
      refine lstep (wpO_plain rfl (op_load hs none 6 (v := W y) rfl rfl rfl rfl Try.isAgg24 Try.sizeOf24 rfl rfl fun ac hs => ?_))
      refine lstep (wpO_plain rfl (op_store hs 2 (vs := (Wl y)) rfl rfl rfl rfl rfl Try.sizeOf24 rfl rfl rfl rfl rfl fun w hs => ?_))
      refine wpList_nil ?_
      refine then_n ?_
      refine wp_ret ?_
      exact bodyPost_ret (res1 rfl (rv_c hs 2 (v := W y) rfl rfl Try.isAgg24 Try.sizeOf24 rfl)) hs.defers ⟨by rw [hr y (bg_end h1 hB).1 (bg_end h1 hB).2 hp5], hs.below⟩
theorem wread_c (b : Nat → Nat) (a : Nat) (hb : ∀ j, j < 32 → b j < 256) (hx : pr b 0 32 = a) (w0 : World) : Calls Try.prog 61 #[At .u8 32 b] w0 fun e w' => e = .returned (W a) ∧ Below w0.heap.size w0 w' := by
  refine enter (n := 28) (args := [At .u8 32 b]) Try.func61 rfl rfl (Nat.le_of_ble_eq_true rfl) fun ac hs => ?_
  refine wp_seq ?_
  refine wp_region_lit ?_
  refine lstep (wpO_plain rfl (op_box hs none none (cs := (tab .u8 32 b)) rfl rfl rfl rfl rfl rfl fun g1 ac w hs => ?_))
  refine lstep (wpO_plain rfl (op_alloc hs none none (cs := [.int .u64 0, .int .u64 0, .int .u64 0, .int .u64 0]) rfl rfl Try.zeroValue24 (by kernel_rfl) rfl rfl fun g2 ac w hs => ?_))
  refine wpList_nil ?_
  refine then_n ?_
  refine wp_seq ?_
  refine wp_region_lit ?_
  refine lstep (wpO_plain rfl (op_alloc hs none none (cs := [.int .u64 0, .int .u64 0, .int .u64 0, .int .u64 0]) rfl rfl Try.zeroValue24 (by kernel_rfl) rfl rfl fun g3 ac w hs => ?_))
  refine wpList_nil ?_
  refine then_n ?_
  refine wp_seq ?_
  refine wp_seq ?_
  refine wp_region_lit ?_
  refine lstep (wpO_plain rfl (op_load hs none 0 (v := At .u8 32 b) rfl rfl rfl rfl Try.isAgg35 Try.sizeOf35 ldv_tab rfl fun ac hs => ?_))
  refine lstep (wpO_plain rfl (op_move hs none rfl rfl rfl rfl fun ac hs => ?_))
  refine wpList_nil ?_
  refine then_n ?_
  refine wp_block ?_
  refine wp_loop_m (fun μ ac w => ∃ (i : Nat) (f : Nat → Nat), (32 - i) = μ ∧ (i ≤ 32) ∧ (∀ j, j < 4 → f j = limN (pr b 0 i * 256 ^ (32 - i)) j) ∧ St 28 w0 [(1, true, .pointer (some ⟨g1, 0, none⟩)), (2, true, .pointer (some ⟨g2, 0, none⟩)), (3, true, .pointer (some ⟨g3, 0, none⟩)), (7, true, At .u8 32 b), (8, true, .int .i64 ((i : Nat) : Int))] [(true, g1, 35, (tab .u8 32 b)), (true, g2, 24, [.int .u64 0, .int .u64 0, .int .u64 0, .int .u64 0]), (true, g3, 24, (tab .u64 4 f))] ac w) ?_ ?_
  · exact ⟨_, 0, (fun _ => 0), rfl, (by omega), read_start, (hs.re ⟨rfl, rfl, rfl, rfl, rfl, trivial⟩)⟩
  intro μ ac w ⟨i, f, hμ, hi, hf, hs⟩
  refine wp_seq ?_
  refine wp_region_lit ?_
  refine lstep (wpO_plain rfl (op_bin hs none (v := .bool (decide (i < 32))) rfl rfl rfl rfl (fun _ => rfl) (bin_lssN (x := i) (y := 32)) rfl fun ac hs => ?_))
  refine wpList_nil ?_
  refine then_n ?_
  refine wp_seq ?_
  refine wp_cond_split (hs.ev rfl) (fun hc => ?_) (fun hc => ?_)
  · skip
    have hp4 := of_decide_eq_true hc
    have hlt : i < 32 := of_decide_eq_true hc
    have hbi := hb i hlt
    refine wp_skip ?_
    refine then_n ?_
    refine wp_seq ?_
    refine wp_block ?_
    refine wp_seq ?_
    refine wp_region_lit ?_
    refine lstep (wpO_plain rfl (op_move hs none rfl rfl rfl rfl fun ac hs => ?_))
    have l5 := hb i (by omega)
    refine lstep (wpO_plain rfl (op_index hs none (v := .int .u8 ((b i : Nat) : Int)) rfl rfl rfl rfl (idx_at (j := i) Try.underlying35 Try.isAgg5 Try.sizeOf5 (show i < 32 by omega)) rfl fun ac hs => ?_))
    refine lstep (wpO_plain rfl (op_assign hs none rfl rfl rfl rfl fun ac hs => ?_))
    refine lstep (wpO_plain rfl (op_assign hs none rfl rfl rfl rfl fun ac hs => ?_))
    refine wpList_nil ?_
    refine then_n ?_
    refine wp_seq ?_
    refine wp_region_lit ?_
    refine lstep (wpO_plain rfl (op_move hs none rfl rfl rfl rfl fun ac hs => ?_))
    refine lstep (wpO_plain rfl (op_bin hs none (v := .int .i64 ((31 - i : Nat) : Int)) rfl rfl rfl rfl (fun _ => rfl) (bin_subN (x := 31) (y := i) (z := 31 - i) (by omega) (show 31 - i < 9223372036854775808 by omega)) rfl fun ac hs => ?_))
    refine lstep (wpO_plain rfl (op_assign hs none rfl rfl rfl rfl fun ac hs => ?_))
    refine wpList_nil ?_
    refine then_n ?_
    replace hs : St 28 w0 [(1, true, .pointer (some ⟨g1, 0, none⟩)), (2, true, .pointer (some ⟨g2, 0, none⟩)), (3, true, .pointer (some ⟨g3, 0, none⟩)), (7, true, At .u8 32 b), (8, true, .int .i64 ((i : Nat) : Int)), (5, true, .int .u8 ((b i : Nat) : Int)), (6, true, .int .i64 ((31 - i : Nat) : Int))] [(true, g1, 35, (tab .u8 32 b)), (true, g2, 24, [.int .u64 0, .int .u64 0, .int .u64 0, .int .u64 0]), (true, g3, 24, (tab .u64 4 f))] ac _ := hs.re ⟨rfl, rfl, rfl, rfl, rfl, rfl, rfl, trivial⟩
    have l6 := read_lt hf ((31 - i) / 8) (by omega)
    refine region_inv [([], [1, 2, 3, 10, 11, 12]), ([0], [2, 3, 10, 11, 12]), ([0, 1], [3, 10, 11, 12]), ([0, 1, 2], [10, 11, 12]), ([], [5, 9, 10, 11, 12]), ([4], [9, 10, 11, 12]), ([], [7, 8, 9, 10, 11, 12]), ([6], [8, 9, 10, 11, 12]), ([6, 7], [9, 10, 11, 12]), ([4, 5, 6, 7, 8], [10, 11, 12]), ([0, 1, 2, 3, 4, 5, 6, 7, 8, 9], [11, 12]), ([0, 1, 2, 3, 4, 5, 6, 7, 8, 9, 10], [12]), ([0, 1, 2, 3, 4, 5, 6, 7, 8, 9, 10, 11], [])] (fun L ac w => St 28 w0 [(14, L 0, .int .i64 ((31 - i : Nat) : Int)), (15, L 1, .int .i64 (((31 - i) / 8 : Nat) : Int)), (16, L 2, .pointer (some ⟨g3, (31 - i) / 8, none⟩)), (17, L 3, .int .u64 ((f ((31 - i) / 8) : Nat) : Int)), (18, L 4, .int .u8 ((b i : Nat) : Int)), (19, L 5, .int .u64 ((b i : Nat) : Int)), (20, L 6, .int .i64 ((31 - i : Nat) : Int)), (21, L 7, .int .i64 (((31 - i) % 8 : Nat) : Int)), (22, L 8, .int .i64 ((8 * ((31 - i) % 8) : Nat) : Int)), (23, L 9, .int .u64 (((b i) * 2 ^ (8 * ((31 - i) % 8)) % 18446744073709551616 : Nat) : Int)), (24, L 10, .int .u64 (((f ((31 - i) / 8)) ||| ((b i) * 2 ^ (8 * ((31 - i) % 8)) % 18446744073709551616) : Nat) : Int)), (25, L 11, .pointer (some ⟨g3, (31 - i) / 8, none⟩)), (1, true, .pointer (some ⟨g1, 0, none⟩)), (2, true, .pointer (some ⟨g2, 0, none⟩)), (3, true, .pointer (some ⟨g3, 0, none⟩)), (7, true, At .u8 32 b), (8, true, .int .i64 ((i : Nat) : Int)), (5, true, .int .u8 ((b i : Nat) : Int)), (6, true, .int .i64 ((31 - i : Nat) : Int))] [(true, g1, 35, (tab .u8 32 b)), (true, g2, 24, [.int .u64 0, .int .u64 0, .int .u64 0, .int .u64 0]), (true, g3, 24, (cond (L 12) (tab .u64 4 (upn f ((31 - i) / 8) ((f ((31 - i) / 8)) ||| ((b i) * 2 ^ (8 * ((31 - i) % 8)) % 18446744073709551616)))) (tab .u64 4 f)))] ac w) (by kernel_rfl) (by kernel_rfl) ?_ ?_ ?_
    · exact hs.drew.skip.skip.skip.skip.skip.skip.skip.skip.skip.skip.skip.skip
    · refine ⟨?_, ?_, ?_, ?_, ?_, ?_, ?_, ?_, ?_, ?_, ?_, ?_, ?_, trivial⟩
      · intro L ac w hJ
        have hs := hJ
        refine wpO_plain rfl (op_move hs (some 0) rfl rfl rfl rfl fun ac hs => ?_)
        exact hs
      · intro L ac w hJ
        have hs := hJ
        refine wpO_plain rfl (op_bin hs (some 1) (v := .int .i64 (((31 - i) / 8 : Nat) : Int)) rfl rfl rfl rfl (fun _ => rfl) (bin_quoN (x := 31 - i) (y := 8) (z := (31 - i) / 8) rfl (by decide) (show 31 - i < 9223372036854775808 by omega)) rfl fun ac hs => ?_)
        exact hs
      · intro L ac w hJ
        have hs := hJ
        refine wpO_plain rfl (op_idxA hs (some 2) (j := (31 - i) / 8) rfl rfl rfl rfl Try.underlying24 Try.sizeOf22 (show (31 - i) / 8 < 4 by omega) (off := (31 - i) / 8) (by omega) rfl fun ac hs => ?_)
        exact hs
      · intro L ac w hJ
        have hs := hJ
        refine wpO_plain rfl (op_load hs (some 3) 2 (v := .int .u64 ((f ((31 - i) / 8) : Nat) : Int)) rfl rfl rfl rfl Try.isAgg22 Try.sizeOf22 (tab_get (j := (31 - i) / 8) (show (31 - i) / 8 < 4 by omega)) rfl fun ac hs => ?_)
        exact hs
      · intro L ac w hJ
        have hs := hJ
        refine wpO_plain rfl (op_move hs (some 4) rfl rfl rfl rfl fun ac hs => ?_)
        exact hs
      · intro L ac w hJ
        have hs := hJ
        refine wpO_plain rfl (op_convert hs (some 5) (v := .int .u64 ((b i : Nat) : Int)) rfl rfl rfl (conv_N Try.underlying5 Try.underlying22 (show b i < 18446744073709551616 by omega)) rfl fun ac hs => ?_)
        exact hs
      · intro L ac w hJ
        have hs := hJ
        refine wpO_plain rfl (op_move hs (some 6) rfl rfl rfl rfl fun ac hs => ?_)
        exact hs
      · intro L ac w hJ
        have hs := hJ
        refine wpO_plain rfl (op_bin hs (some 7) (v := .int .i64 (((31 - i) % 8 : Nat) : Int)) rfl rfl rfl rfl (fun _ => rfl) (bin_remN (x := 31 - i) (y := 8) (z := (31 - i) % 8) rfl (by decide)) rfl fun ac hs => ?_)
        exact hs
      · intro L ac w hJ
        have hs := hJ
        refine wpO_plain rfl (op_bin hs (some 8) (v := .int .i64 ((8 * ((31 - i) % 8) : Nat) : Int)) rfl rfl rfl rfl (fun _ => rfl) (bin_mulN (x := 8) (y := (31 - i) % 8) (z := 8 * ((31 - i) % 8)) rfl (show 8 * ((31 - i) % 8) < 9223372036854775808 by omega)) rfl fun ac hs => ?_)
        exact hs
      · intro L ac w hJ
        have hs := hJ
        refine wpO_plain rfl (op_bin hs (some 9) (v := .int .u64 (((b i) * 2 ^ (8 * ((31 - i) % 8)) % 18446744073709551616 : Nat) : Int)) rfl rfl rfl rfl (fun _ => rfl) (bin_shlM (x := b i) (y := 8 * ((31 - i) % 8)) (z := (b i) * 2 ^ (8 * ((31 - i) % 8)) % 18446744073709551616) rfl rfl) rfl fun ac hs => ?_)
        exact hs
      · intro L ac w hJ
        have hs := hJ
        refine wpO_plain rfl (op_bin hs (some 10) (v := .int .u64 (((f ((31 - i) / 8)) ||| ((b i) * 2 ^ (8 * ((31 - i) % 8)) % 18446744073709551616) : Nat) : Int)) rfl rfl rfl rfl (fun _ => rfl) (bin_orN (x := f ((31 - i) / 8)) (y := (b i) * 2 ^ (8 * ((31 - i) % 8)) % 18446744073709551616) (z := (f ((31 - i) / 8)) ||| ((b i) * 2 ^ (8 * ((31 - i) % 8)) % 18446744073709551616)) rfl (show f ((31 - i) / 8) < 18446744073709551616 by omega) (show (b i) * 2 ^ (8 * ((31 - i) % 8)) % 18446744073709551616 < 18446744073709551616 by omega) (or_lt64 (show f ((31 - i) / 8) < 18446744073709551616 by omega) (show (b i) * 2 ^ (8 * ((31 - i) % 8)) % 18446744073709551616 < 18446744073709551616 by omega))) rfl fun ac hs => ?_)
        exact hs
      · intro L ac w hJ
        have hs := hJ
        refine wpO_plain rfl (op_idxA hs (some 11) (j := (31 - i) / 8) rfl rfl rfl rfl Try.underlying24 Try.sizeOf22 (show (31 - i) / 8 < 4 by omega) (off := (31 - i) / 8) (by omega) rfl fun ac hs => ?_)
        exact hs
      · intro L ac w hJ
        have hs := hJ
        refine wpO_plain rfl (op_store hs 2 (vs := [.int .u64 (((f ((31 - i) / 8)) ||| ((b i) * 2 ^ (8 * ((31 - i) % 8)) % 18446744073709551616) : Nat) : Int)]) rfl rfl rfl rfl rfl Try.sizeOf22 rfl rfl rfl (tab_le (j := (31 - i) / 8) (show (31 - i) / 8 < 4 by omega)) (tab_set) fun w hs => ?_)
        exact hs
    intro ac w hJ
    replace hs : St 28 w0 [(14, true, .int .i64 ((31 - i : Nat) : Int)), (15, true, .int .i64 (((31 - i) / 8 : Nat) : Int)), (16, true, .pointer (some ⟨g3, (31 - i) / 8, none⟩)), (17, true, .int .u64 ((f ((31 - i) / 8) : Nat) : Int)), (18, true, .int .u8 ((b i : Nat) : Int)), (19, true, .int .u64 ((b i : Nat) : Int)), (20, true, .int .i64 ((31 - i : Nat) : Int)), (21, true, .int .i64 (((31 - i) % 8 : Nat) : Int)), (22, true, .int .i64 ((8 * ((31 - i) % 8) : Nat) : Int)), (23, true, .int .u64 (((b i) * 2 ^ (8 * ((31 - i) % 8)) % 18446744073709551616 : Nat) : Int)), (24, true, .int .u64 (((f ((31 - i) / 8)) ||| ((b i) * 2 ^ (8 * ((31 - i) % 8)) % 18446744073709551616) : Nat) : Int)), (25, true, .pointer (some ⟨g3, (31 - i) / 8, none⟩)), (1, true, .pointer (some ⟨g1, 0, none⟩)), (2, true, .pointer (some ⟨g2, 0, none⟩)), (3, true, .pointer (some ⟨g3, 0, none⟩)), (7, true, At .u8 32 b), (8, true, .int .i64 ((i : Nat) : Int)), (5, true, .int .u8 ((b i : Nat) : Int)), (6, true, .int .i64 ((31 - i : Nat) : Int))] [(true, g1, 35, (tab .u8 32 b)), (true, g2, 24, [.int .u64 0, .int .u64 0, .int .u64 0, .int .u64 0]), (true, g3, 24, (tab .u64 4 (upn f ((31 - i) / 8) ((f ((31 - i) / 8)) ||| ((b i) * 2 ^ (8 * ((31 - i) % 8)) % 18446744073709551616)))))] ac w := hJ
    refine blk_n ?_
    refine then_n ?_
    refine wp_region_lit ?_
    refine lstep (wpO_plain rfl (op_bin hs none (v := .int .i64 ((i + 1 : Nat) : Int)) rfl rfl rfl rfl (fun _ => rfl) (bin_addN (x := i) (y := 1) (z := i + 1) rfl (show i + 1 < 9223372036854775808 by omega)) rfl fun ac hs => ?_))
    refine lstep (wpO_plain rfl (op_move hs none rfl rfl rfl rfl fun ac hs => ?_))
    refine wpList_nil ?_
    refine then_n ?_
    exact ⟨_, ⟨(i + 1), (upn f ((31 - i) / 8) ((f ((31 - i) / 8)) ||| ((b i) * 2 ^ (8 * ((31 - i) % 8)) % 18446744073709551616))), rfl, hlt, (read_step hlt hbi hf), (hs.re ⟨rfl, rfl, rfl, rfl, rfl, trivial⟩)⟩, (by omega)⟩
  · skip
    have hp7 := of_decide_eq_false hc
    obtain rfl : i = 32 := by omega
    replace hs := hs.setb 2 (cs' := Wl a) rfl (tab_Wl fun j hj => (hf j hj).trans (by rw [← hx, Nat.sub_self, Nat.pow_zero, Nat.mul_one]))
    refine wp_exit ?_
    refine then_e ?_
    refine then_e ?_
    refine blk_e ?_
    refine then_n ?_
    refine wp_seq ?_
    refine wp_region_lit ?_
    refine lstep (wpO_plain rfl (op_load hs none 2 (v := W a) rfl rfl rfl rfl Try.isAgg24 Try.sizeOf24 rfl rfl fun ac hs => ?_))
    refine lstep (wpO_plain rfl (op_store hs 1 (vs := (Wl a)) rfl rfl rfl rfl rfl Try.sizeOf24 rfl rfl rfl rfl rfl fun w hs => ?_))
    refine wpList_nil ?_
    refine then_n ?_
    refine wp_ret ?_
    exact bodyPost_ret (res1 rfl (rv_c hs 1 (v := W a) rfl rfl Try.isAgg24 Try.sizeOf24 rfl)) hs.defers ⟨rfl, hs.below⟩
theorem rread_c (b : Nat → Nat) (a : Nat) (hb : ∀ j, j < 32 → b j < 256) (hx : pr b 0 32 = a) (w0 : World) : Calls Try.prog 63 #[At .u8 32 b] w0 fun e w' => e = .returned (W a) ∧ Below w0.heap.size w0 w' := by
  refine enter (n := 26) (args := [At .u8 32 b]) Try.func63 rfl rfl (Nat.le_of_ble_eq_true rfl) fun ac hs => ?_
  refine wp_seq ?_
  refine wp_region_lit ?_
  refine lstep (wpO_plain rfl (op_box hs none none (cs := (tab .u8 32 b)) rfl rfl rfl rfl rfl rfl fun g1 ac w hs => ?_))
  refine lstep (wpO_plain rfl (op_alloc hs none none (cs := [.int .u64 0, .int .u64 0, .int .u64 0, .int .u64 0]) rfl rfl Try.zeroValue24 (by kernel_rfl) rfl rfl fun g2 ac w hs => ?_))
  refine wpList_nil ?_
  refine then_n ?_
  refine wp_seq ?_
  refine wp_region_lit ?_
  refine lstep (wpO_plain rfl (op_build hs none (qs := []) (v := .agg #[.int .u64 0, .int .u64 0, .int .u64 0, .int .u64 0]) rfl rfl rfl rfl (fun _ => by kernel_rfl) rfl fun ac hs => ?_))
  refine lstep (wpO_plain rfl (op_alloc hs none none (cs := [.int .u64 0, .int .u64 0, .int .u64 0, .int .u64 0]) rfl rfl Try.zeroValue24 (by kernel_rfl) rfl rfl fun g3 ac w hs => ?_))
  refine lstep (wpO_plain rfl (op_store hs 2 (vs := [.int .u64 0, .int .u64 0, .int .u64 0, .int .u64 0]) rfl rfl rfl rfl rfl Try.sizeOf24 rfl rfl rfl rfl rfl fun w hs => ?_))
  refine wpList_nil ?_
  refine then_n ?_
  refine wp_seq ?_
  refine wp_seq ?_
  refine wp_region_lit ?_
  refine lstep (wpO_plain rfl (op_assign hs none rfl rfl rfl rfl fun ac hs => ?_))
  refine wpList_nil ?_
  refine then_n ?_
  refine wp_block ?_
  refine wp_loop_m (fun μ ac w => ∃ (i : Nat) (f : Nat → Nat), (32 - i) = μ ∧ (i ≤ 32) ∧ (∀ j, j < 4 → f j = pr b (8 * (3 - j)) (min 8 (i - 8 * (3 - j)))) ∧ St 26 w0 [(1, true, .pointer (some ⟨g1, 0, none⟩)), (2, true, .pointer (some ⟨g2, 0, none⟩)), (3, true, .pointer (some ⟨g3, 0, none⟩)), (4, true, .int .i64 ((i : Nat) : Int))] [(true, g1, 35, (tab .u8 32 b)), (true, g2, 24, [.int .u64 0, .int .u64 0, .int .u64 0, .int .u64 0]), (true, g3, 24, (tab .u64 4 f))] ac w) ?_ ?_
  · exact ⟨_, 0, (fun _ => 0), rfl, (by omega), rread_start, (hs.re ⟨rfl, rfl, rfl, rfl, trivial⟩)⟩
  intro μ ac w ⟨i, f, hμ, hi, hf, hs⟩
  refine wp_seq ?_
  refine wp_seq ?_
  refine wp_region_lit ?_
  refine lstep (wpO_plain rfl (op_move hs none rfl rfl rfl rfl fun ac hs => ?_))
  refine lstep (wpO_plain rfl (op_bin hs none (v := .bool (decide (i < 32))) rfl rfl rfl rfl (fun _ => rfl) (bin_lssN (x := i) (y := 32)) rfl fun ac hs => ?_))
  refine wpList_nil ?_
  refine then_n ?_
  refine wp_cond_split (hs.ev rfl) (fun hc => ?_) (fun hc => ?_)
  · skip
    have hp4 := of_decide_eq_true hc
    have hlt : i < 32 := of_decide_eq_true hc
    have hbi := hb i hlt
    have hroom := rread_room hb hlt hf
    refine wp_skip ?_
    refine then_n ?_
    refine wp_seq ?_
    refine wp_block ?_
    replace hs : St 26 w0 [(1, true, .pointer (some ⟨g1, 0, none⟩)), (2, true, .pointer (some ⟨g2, 0, none⟩)), (3, true, .pointer (some ⟨g3, 0, none⟩)), (4, true, .int .i64 ((i : Nat) : Int))] [(true, g1, 35, (tab .u8 32 b)), (true, g2, 24, [.int .u64 0, .int .u64 0, .int .u64 0, .int .u64 0]), (true, g3, 24, (tab .u64 4 f))] ac _ := hs.re ⟨rfl, rfl, rfl, rfl, trivial⟩
    have l5 := hb i (by omega)
    refine region_inv [([], [1, 2, 14, 15]), ([0], [2, 14, 15]), ([0, 1], [14, 15]), ([], [4, 5, 6, 7, 8, 13, 14, 15]), ([3], [5, 6, 7, 8, 13, 14, 15]), ([3, 4], [6, 7, 8, 13, 14, 15]), ([3, 4, 5], [7, 8, 13, 14, 15]), ([3, 4, 5, 6], [8, 13, 14, 15]), ([3, 4, 5, 6, 7], [13, 14, 15]), ([], [10, 11, 12, 13, 14, 15]), ([9], [11, 12, 13, 14, 15]), ([9, 10], [12, 13, 14, 15]), ([9, 10, 11], [13, 14, 15]), ([3, 4, 5, 6, 7, 8, 9, 10, 11, 12], [14, 15]), ([0, 1, 2, 3, 4, 5, 6, 7, 8, 9, 10, 11, 12, 13], [15]), ([0, 1, 2, 3, 4, 5, 6, 7, 8, 9, 10, 11, 12, 13, 14], [])] (fun L ac w => St 26 w0 [(10, L 0, .int .i64 ((i : Nat) : Int)), (11, L 1, .int .i64 ((i / 8 : Nat) : Int)), (12, L 2, .int .i64 ((3 - (i / 8) : Nat) : Int)), (13, L 3, .int .i64 ((i : Nat) : Int)), (14, L 4, .int .i64 ((i / 8 : Nat) : Int)), (15, L 5, .int .i64 ((3 - (i / 8) : Nat) : Int)), (16, L 6, .pointer (some ⟨g3, 3 - (i / 8), none⟩)), (17, L 7, .int .u64 ((f (3 - (i / 8)) : Nat) : Int)), (18, L 8, .int .u64 (((f (3 - (i / 8))) * 256 : Nat) : Int)), (19, L 9, .int .i64 ((i : Nat) : Int)), (20, L 10, .pointer (some ⟨g1, i, none⟩)), (21, L 11, .int .u8 ((b i : Nat) : Int)), (22, L 12, .int .u64 ((b i : Nat) : Int)), (23, L 13, .int .u64 (((f (3 - (i / 8))) * 256 + (b i) : Nat) : Int)), (24, L 14, .pointer (some ⟨g3, 3 - (i / 8), none⟩)), (1, true, .pointer (some ⟨g1, 0, none⟩)), (2, true, .pointer (some ⟨g2, 0, none⟩)), (3, true, .pointer (some ⟨g3, 0, none⟩)), (4, true, .int .i64 ((i : Nat) : Int))] [(true, g1, 35, (tab .u8 32 b)), (true, g2, 24, [.int .u64 0, .int .u64 0, .int .u64 0, .int .u64 0]), (true, g3, 24, (cond (L 15) (tab .u64 4 (upn f (3 - (i / 8)) ((f (3 - (i / 8))) * 256 + (b i)))) (tab .u64 4 f)))] ac w) (by kernel_rfl) (by kernel_rfl) ?_ ?_ ?_
    · exact hs.drew.skip.skip.skip.skip.skip.skip.skip.skip.skip.skip.skip.skip.skip.skip.skip
    · refine ⟨?_, ?_, ?_, ?_, ?_, ?_, ?_, ?_, ?_, ?_, ?_, ?_, ?_, ?_, ?_, ?_, trivial⟩
      · intro L ac w hJ
        have hs := hJ
        refine wpO_plain rfl (op_move hs (some 0) rfl rfl rfl rfl fun ac hs => ?_)
        exact hs
      · intro L ac w hJ
        have hs := hJ
        refine wpO_plain rfl (op_bin hs (some 1) (v := .int .i64 ((i / 8 : Nat) : Int)) rfl rfl rfl rfl (fun _ => rfl) (bin_quoN (x := i) (y := 8) (z := i / 8) rfl (by decide) (show i < 9223372036854775808 by omega)) rfl fun ac hs => ?_)
        exact hs
      · intro L ac w hJ
        have hs := hJ
        refine wpO_plain rfl (op_bin hs (some 2) (v := .int .i64 ((3 - (i / 8) : Nat) : Int)) rfl rfl rfl rfl (fun _ => rfl) (bin_subN (x := 3) (y := i / 8) (z := 3 - (i / 8)) (by omega) (show 3 - (i / 8) < 9223372036854775808 by omega)) rfl fun ac hs => ?_)
        exact hs
      · intro L ac w hJ
        have hs := hJ
        refine wpO_plain rfl (op_move hs (some 3) rfl rfl rfl rfl fun ac hs => ?_)
        exact hs
      · intro L ac w hJ
        have hs := hJ
        refine wpO_plain rfl (op_bin hs (some 4) (v := .int .i64 ((i / 8 : Nat) : Int)) rfl rfl rfl rfl (fun _ => rfl) (bin_quoN (x := i) (y := 8) (z := i / 8) rfl (by decide) (show i < 9223372036854775808 by omega)) rfl fun ac hs => ?_)
        exact hs
      · intro L ac w hJ
        have hs := hJ
        refine wpO_plain rfl (op_bin hs (some 5) (v := .int .i64 ((3 - (i / 8) : Nat) : Int)) rfl rfl rfl rfl (fun _ => rfl) (bin_subN (x := 3) (y := i / 8) (z := 3 - (i / 8)) (by omega) (show 3 - (i / 8) < 9223372036854775808 by omega)) rfl fun ac hs => ?_)
        exact hs
      · intro L ac w hJ
        have hs := hJ
        refine wpO_plain rfl (op_idxA hs (some 6) (j := 3 - (i / 8)) rfl rfl rfl rfl Try.underlying24 Try.sizeOf22 (show 3 - (i / 8) < 4 by omega) (off := 3 - (i / 8)) (by omega) rfl fun ac hs => ?_)
        exact hs
      · intro L ac w hJ
        have hs := hJ
        refine wpO_plain rfl (op_load hs (some 7) 2 (v := .int .u64 ((f (3 - (i / 8)) : Nat) : Int)) rfl rfl rfl rfl Try.isAgg22 Try.sizeOf22 (tab_get (j := 3 - (i / 8)) (show 3 - (i / 8) < 4 by omega)) rfl fun ac hs => ?_)
        exact hs
      · intro L ac w hJ
        have hs := hJ
        refine wpO_plain rfl (op_bin hs (some 8) (v := .int .u64 (((f (3 - (i / 8))) * 256 : Nat) : Int)) rfl rfl rfl rfl (fun _ => rfl) (bin_mulN (x := f (3 - (i / 8))) (y := 256) (z := (f (3 - (i / 8))) * 256) rfl (show (f (3 - (i / 8))) * 256 < 18446744073709551616 by omega)) rfl fun ac hs => ?_)
        exact hs
      · intro L ac w hJ
        have hs := hJ
        refine wpO_plain rfl (op_move hs (some 9) rfl rfl rfl rfl fun ac hs => ?_)
        exact hs
      · intro L ac w hJ
        have hs := hJ
        refine wpO_plain rfl (op_idxA hs (some 10) (j := i) rfl rfl rfl rfl Try.underlying35 Try.sizeOf5 (show i < 32 by omega) (off := i) (by omega) rfl fun ac hs => ?_)
        exact hs
      · intro L ac w hJ
        have hs := hJ
        refine wpO_plain rfl (op_load hs (some 11) 0 (v := .int .u8 ((b i : Nat) : Int)) rfl rfl rfl rfl Try.isAgg5 Try.sizeOf5 (tab_get (j := i) (show i < 32 by omega)) rfl fun ac hs => ?_)
        exact hs
      · intro L ac w hJ
        have hs := hJ
        refine wpO_plain rfl (op_convert hs (some 12) (v := .int .u64 ((b i : Nat) : Int)) rfl rfl rfl (conv_N Try.underlying5 Try.underlying22 (show b i < 18446744073709551616 by omega)) rfl fun ac hs => ?_)
        exact hs
      · intro L ac w hJ
        have hs := hJ
        refine wpO_plain rfl (op_bin hs (some 13) (v := .int .u64 (((f (3 - (i / 8))) * 256 + (b i) : Nat) : Int)) rfl rfl rfl rfl (fun _ => rfl) (bin_addN (x := (f (3 - (i / 8))) * 256) (y := b i) (z := (f (3 - (i / 8))) * 256 + (b i)) rfl (show (f (3 - (i / 8))) * 256 + (b i) < 18446744073709551616 by omega)) rfl fun ac hs => ?_)
        exact hs
      · intro L ac w hJ
        have hs := hJ
        refine wpO_plain rfl (op_idxA hs (some 14) (j := 3 - (i / 8)) rfl rfl rfl rfl Try.underlying24 Try.sizeOf22 (show 3 - (i / 8) < 4 by omega) (off := 3 - (i / 8)) (by omega) rfl fun ac hs => ?_)
        exact hs
      · intro L ac w hJ
        have hs := hJ
        refine wpO_plain rfl (op_store hs 2 (vs := [.int .u64 (((f (3 - (i / 8))) * 256 + (b i) : Nat) : Int)]) rfl rfl rfl rfl rfl Try.sizeOf22 rfl rfl rfl (tab_le (j := 3 - (i / 8)) (show 3 - (i / 8) < 4 by omega)) (tab_set) fun w hs => ?_)
        exact hs
    intro ac w hJ
    replace hs : St 26 w0 [(10, true, .int .i64 ((i : Nat) : Int)), (11, true, .int .i64 ((i / 8 : Nat) : Int)), (12, true, .int .i64 ((3 - (i / 8) : Nat) : Int)), (13, true, .int .i64 ((i : Nat) : Int)), (14, true, .int .i64 ((i / 8 : Nat) : Int)), (15, true, .int .i64 ((3 - (i / 8) : Nat) : Int)), (16, true, .pointer (some ⟨g3, 3 - (i / 8), none⟩)), (17, true, .int .u64 ((f (3 - (i / 8)) : Nat) : Int)), (18, true, .int .u64 (((f (3 - (i / 8))) * 256 : Nat) : Int)), (19, true, .int .i64 ((i : Nat) : Int)), (20, true, .pointer (some ⟨g1, i, none⟩)), (21, true, .int .u8 ((b i : Nat) : Int)), (22, true, .int .u64 ((b i : Nat) : Int)), (23, true, .int .u64 (((f (3 - (i / 8))) * 256 + (b i) : Nat) : Int)), (24, true, .pointer (some ⟨g3, 3 - (i / 8), none⟩)), (1, true, .pointer (some ⟨g1, 0, none⟩)), (2, true, .pointer (some ⟨g2, 0, none⟩)), (3, true, .pointer (some ⟨g3, 0, none⟩)), (4, true, .int .i64 ((i : Nat) : Int))] [(true, g1, 35, (tab .u8 32 b)), (true, g2, 24, [.int .u64 0, .int .u64 0, .int .u64 0, .int .u64 0]), (true, g3, 24, (tab .u64 4 (upn f (3 - (i / 8)) ((f (3 - (i / 8))) * 256 + (b i)))))] ac w := hJ
    refine blk_n ?_
    refine then_n ?_
    refine wp_region_lit ?_
    refine lstep (wpO_plain rfl (op_move hs none rfl rfl rfl rfl fun ac hs => ?_))
    refine lstep (wpO_plain rfl (op_bin hs none (v := .int .i64 ((i + 1 : Nat) : Int)) rfl rfl rfl rfl (fun _ => rfl) (bin_addN (x := i) (y := 1) (z := i + 1) rfl (show i + 1 < 9223372036854775808 by omega)) rfl fun ac hs => ?_))
    refine lstep (wpO_plain rfl (op_assign hs none rfl rfl rfl rfl fun ac hs => ?_))
    refine wpList_nil ?_
    refine then_n ?_
    exact ⟨_, ⟨(i + 1), (upn f (3 - (i / 8)) ((f (3 - (i / 8))) * 256 + (b i))), rfl, hlt, (rread_step hlt hf), (hs.re ⟨rfl, rfl, rfl, rfl, trivial⟩)⟩, (by omega)⟩
  · skip
    have hp6 := of_decide_eq_false hc
    obtain rfl : i = 32 := by omega
    replace hs := hs.setb 2 (cs' := Wl a) rfl (tab_Wl fun j hj => (hf j hj).trans (rread_fin hb hx hj))
    refine wp_exit ?_
    refine then_e ?_
    refine then_e ?_
    refine blk_e ?_
    refine then_n ?_
    refine wp_seq ?_
    refine wp_region_lit ?_
    refine lstep (wpO_plain rfl (op_load hs none 2 (v := W a) rfl rfl rfl rfl Try.isAgg24 Try.sizeOf24 rfl rfl fun ac hs => ?_))
    refine lstep (wpO_plain rfl (op_store hs 1 (vs := (Wl a)) rfl rfl rfl rfl rfl Try.sizeOf24 rfl rfl rfl rfl rfl fun w hs => ?_))
    refine wpList_nil ?_
    refine then_n ?_
    refine wp_ret ?_
    exact bodyPost_ret (res1 rfl (rv_c hs 1 (v := W a) rfl rfl Try.isAgg24 Try.sizeOf24 rfl)) hs.defers ⟨rfl, hs.below⟩
end Go.Proofs.Ytmpejkhffbonnaa
