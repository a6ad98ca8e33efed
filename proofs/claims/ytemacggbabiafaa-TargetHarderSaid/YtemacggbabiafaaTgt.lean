/- The contracts of targets. -/
import Derived.Test.YtemacggbabiafaaRWide2
import Derived.Test.YtemacggbabiafaaInv
import Derived.Test.YtemacggbabiafaaTgtP2
namespace Go.Proofs.Ytemacggbabiafaa
open Go.RowKit
set_option maxRecDepth 10000

theorem told_c (x : Nat) (lx : x < 2 ^ 256) (w0 : World) : Calls Try.prog 27 #[W x] w0 fun e w' => e = .returned (.int .i64 ((ec x : Nat) : Int)) ∧ Below w0.heap.size w0 w' := by
  refine enter (n := 6) (args := [W x]) Try.func27 rfl rfl (Nat.le_of_ble_eq_true rfl) fun ac hs => ?_
  refine wp_seq ?_
  refine wp_region_lit ?_
  refine lstep (wpO_plain rfl (op_box hs none none (cs := (Wl x)) rfl rfl rfl rfl rfl rfl fun g1 ac w hs => ?_))
  refine lstep (wpO_plain rfl (op_assign hs none rfl rfl rfl rfl fun ac hs => ?_))
  refine wpList_nil ?_
  refine then_n ?_
  refine wp_seq ?_
  refine wp_seq ?_
  refine wp_region_lit ?_
  refine lstep (wpO_plain rfl (op_load hs none 0 (v := W x) rfl rfl rfl rfl Try.isAgg25 Try.sizeOf25 rfl rfl fun ac hs => ?_))
  refine lstep (wpO_plain rfl (op_build hs none (qs := []) (v := .agg #[.int .u64 0, .int .u64 0, .int .u64 0, .int .u64 0]) rfl rfl rfl rfl (fun _ => by kernel_rfl) rfl fun ac hs => ?_))
  refine lstep (wpO_plain rfl (op_bin hs none (v := .bool (decide (x = 0))) rfl rfl rfl rfl (fun w => run_eqGuard_agg w .eql 25 _ _ _ _ Try.eqGuardType25) (eqlW x 0 lx (by decide) _ rfl) rfl fun ac hs => ?_))
  refine wpList_nil ?_
  refine then_n ?_
  refine wp_cond_split (hs.ev rfl) (fun hc => ?_) (fun hc => ?_)
  · skip
    have hp2 := of_decide_eq_true hc
    refine wp_seq ?_
    refine wp_region_lit ?_
    refine lstep (wpO_plain rfl (op_assign hs none rfl rfl rfl rfl fun ac hs => ?_))
    refine wpList_nil ?_
    refine then_n ?_
    refine wp_ret ?_
    refine then_r ?_
    exact bodyPost_ret (res1 rfl (rv_t hs rfl)) hs.defers ⟨by rw [ec, if_pos hp2]; rfl, hs.below⟩
  · skip
    have hp3 := of_decide_eq_false hc
    refine wp_skip ?_
    refine then_n ?_
    refine wp_seq ?_
    refine wp_region_lit ?_
    refine lstep (wpO_plain rfl (op_assign hs none rfl rfl rfl rfl fun ac hs => ?_))
    refine wpList_nil ?_
    refine then_n ?_
    refine wp_ret ?_
    exact bodyPost_ret (res1 rfl (rv_t hs rfl)) hs.defers ⟨by rw [ec, if_neg hp3]; rfl, hs.below⟩
theorem expand_c (b x : Nat) (hb : b < 4294967296) (hx : tgt b = x) (w0 : World) : Calls Try.prog 9 #[.int .u32 ((b : Nat) : Int)] w0 fun e w' => e = .returned (.tuple #[W x, .int .i64 ((ec x : Nat) : Int)]) ∧ Below w0.heap.size w0 w' := by
  refine enter (n := 47) (args := [.int .u32 ((b : Nat) : Int)]) Try.func9 rfl rfl (Nat.le_of_ble_eq_true rfl) fun ac hs => ?_
  refine wp_seq ?_
  refine wp_region_lit ?_
  refine lstep (wpO_plain rfl (op_alloc hs none none (cs := [.int .u64 0, .int .u64 0, .int .u64 0, .int .u64 0]) rfl rfl Try.zeroValue25 (by kernel_rfl) rfl rfl fun g1 ac w hs => ?_))
  refine lstep (wpO_plain rfl (op_assign hs none rfl rfl rfl rfl fun ac hs => ?_))
  refine wpList_nil ?_
  refine then_n ?_
  refine wp_seq ?_
  refine wp_region_lit ?_
  refine lstep (wpO_plain rfl (op_move hs none rfl rfl rfl rfl fun ac hs => ?_))
  refine lstep (wpO_plain rfl (op_bin hs none (v := .int .u32 ((b / 16777216 : Nat) : Int)) rfl rfl rfl rfl (fun _ => rfl) (bin_shrN (x := b) (y := 24) (z := b / 16777216) rfl (show b < 2 ^ 32 by omega)) rfl fun ac hs => ?_))
  refine lstep (wpO_plain rfl (op_convert hs none (v := .int .i64 ((b / 16777216 : Nat) : Int)) rfl rfl rfl (conv_N Try.underlying22 Try.underlying3 (show b / 16777216 < 9223372036854775808 by omega)) rfl fun ac hs => ?_))
  refine lstep (wpO_plain rfl (op_move hs none rfl rfl rfl rfl fun ac hs => ?_))
  refine lstep (wpO_plain rfl (op_bin hs none (v := .int .u32 ((b % 8388608 : Nat) : Int)) rfl rfl rfl rfl (fun _ => rfl) (bin_andN (x := b) (y := 8388607) (z := b % 8388608) (Nat.and_two_pow_sub_one_eq_mod b 23) (show b < 2 ^ 32 by omega) (by decide) (show b % 8388608 < 4294967296 by omega)) rfl fun ac hs => ?_))
  refine lstep (wpO_plain rfl (op_convert hs none (v := .int .u64 ((b % 8388608 : Nat) : Int)) rfl rfl rfl (conv_N Try.underlying22 Try.underlying23 (show b % 8388608 < 18446744073709551616 by omega)) rfl fun ac hs => ?_))
  refine lstep (wpO_plain rfl (op_assign hs none rfl rfl rfl rfl fun ac hs => ?_))
  refine lstep (wpO_plain rfl (op_assign hs none rfl rfl rfl rfl fun ac hs => ?_))
  refine wpList_nil ?_
  refine then_n ?_
  refine wp_seq ?_
  refine wp_seq ?_
  refine wp_region_lit ?_
  refine lstep (wpO_plain rfl (op_move hs none rfl rfl rfl rfl fun ac hs => ?_))
  refine lstep (wpO_plain rfl (op_bin hs none (v := .int .u32 ((8388608 * (b / 8388608 % 2) : Nat) : Int)) rfl rfl rfl rfl (fun _ => rfl) (bin_andN (x := b) (y := 8388608) (z := 8388608 * (b / 8388608 % 2)) and_bit23 (show b < 2 ^ 32 by omega) (by decide) (show 8388608 * (b / 8388608 % 2) < 4294967296 by omega)) rfl fun ac hs => ?_))
  refine lstep (wpO_plain rfl (op_bin hs none (v := .bool (decide (8388608 * (b / 8388608 % 2) ≠ 0))) rfl rfl rfl rfl (fun _ => rfl) (bin_neqN (x := 8388608 * (b / 8388608 % 2)) (y := 0)) rfl fun ac hs => ?_))
  refine wpList_nil ?_
  refine then_n ?_
  refine wp_cond_split (hs.ev rfl) (fun hc => ?_) (fun hc => ?_)
  · skip
    have hp2 := of_decide_eq_true hc
    refine wp_seq ?_
    refine wp_region_lit ?_
    refine lstep (wpO_plain rfl (op_build hs none (qs := []) (v := .agg #[.int .u64 0, .int .u64 0, .int .u64 0, .int .u64 0]) rfl rfl rfl rfl (fun _ => by kernel_rfl) rfl fun ac hs => ?_))
    refine lstep (wpO_plain rfl (op_store hs 0 (vs := [.int .u64 0, .int .u64 0, .int .u64 0, .int .u64 0]) rfl rfl rfl rfl rfl Try.sizeOf25 rfl rfl rfl rfl rfl fun w hs => ?_))
    refine lstep (wpO_plain rfl (op_assign hs none rfl rfl rfl rfl fun ac hs => ?_))
    refine wpList_nil ?_
    refine then_n ?_
    refine wp_ret ?_
    refine then_r ?_
    exact bodyPost_ret (res2 rfl (rv_c hs 0 (v := .agg #[.int .u64 0, .int .u64 0, .int .u64 0, .int .u64 0]) rfl rfl Try.isAgg25 Try.sizeOf25 rfl) (rv_t hs rfl)) hs.defers ⟨by rw [← hx, tgt_sign hp2]; rfl, hs.below⟩
  · skip
    have hp3 := of_decide_eq_false hc
    refine wp_skip ?_
    refine then_n ?_
    refine wp_seq ?_
    refine wp_region_lit ?_
    refine lstep (wpO_plain rfl (op_move hs none rfl rfl rfl rfl fun ac hs => ?_))
    refine lstep (wpO_plain rfl (op_call (F := 25) hs none (v := W (b % 8388608)) rfl rfl rfl rfl (Try.call25 _) (fun w => from_any w (b % 8388608) (show b % 8388608 < 2 ^ 64 by omega)) rfl fun ac w hs => ?_))
    refine lstep (wpO_plain rfl (op_alloc hs none none (cs := [.int .u64 0, .int .u64 0, .int .u64 0, .int .u64 0]) rfl rfl Try.zeroValue25 (by kernel_rfl) rfl rfl fun g4 ac w hs => ?_))
    refine lstep (wpO_plain rfl (op_store hs 1 (vs := (Wl (b % 8388608))) rfl rfl rfl rfl rfl Try.sizeOf25 rfl rfl rfl rfl rfl fun w hs => ?_))
    refine wpList_nil ?_
    refine then_n ?_
    refine wp_seq ?_
    refine wp_seq ?_
    refine wp_region_lit ?_
    refine lstep (wpO_plain rfl (op_move hs none rfl rfl rfl rfl fun ac hs => ?_))
    refine lstep (wpO_plain rfl (op_bin hs none (v := .bool (decide (b / 16777216 < 3))) rfl rfl rfl rfl (fun _ => rfl) (bin_lssN (x := b / 16777216) (y := 3)) rfl fun ac hs => ?_))
    refine wpList_nil ?_
    refine then_n ?_
    refine wp_cond_split (hs.ev rfl) (fun hc => ?_) (fun hc => ?_)
    · skip
      have hp5 := of_decide_eq_true hc
      refine wp_seq ?_
      refine wp_region_lit ?_
      refine lstep (wpO_plain rfl (op_load hs none 1 (v := W (b % 8388608)) rfl rfl rfl rfl Try.isAgg25 Try.sizeOf25 rfl rfl fun ac hs => ?_))
      refine lstep (wpO_plain rfl (op_move hs none rfl rfl rfl rfl fun ac hs => ?_))
      refine lstep (wpO_plain rfl (op_bin hs none (v := .int .i64 ((3 - (b / 16777216) : Nat) : Int)) rfl rfl rfl rfl (fun _ => rfl) (bin_subN (x := 3) (y := b / 16777216) (z := 3 - (b / 16777216)) (by omega) (show 3 - (b / 16777216) < 9223372036854775808 by omega)) rfl fun ac hs => ?_))
      refine lstep (wpO_plain rfl (op_bin hs none (v := .int .i64 ((8 * (3 - (b / 16777216)) : Nat) : Int)) rfl rfl rfl rfl (fun _ => rfl) (bin_mulN (x := 8) (y := 3 - (b / 16777216)) (z := 8 * (3 - (b / 16777216))) rfl (show 8 * (3 - (b / 16777216)) < 9223372036854775808 by omega)) rfl fun ac hs => ?_))
      obtain ⟨sh6, hsh6, lsh6⟩ : ∃ z0, (b % 8388608) / 2 ^ (8 * (3 - (b / 16777216))) = z0 ∧ z0 < 2 ^ 256 := ⟨_, rfl, div_lt256 (show b % 8388608 < 2 ^ 256 by omega)⟩
      refine lstep (wpO_plain rfl (op_call (F := 26) hs none (v := W sh6) rfl rfl rfl rfl (Try.call26 _) (shr_c (b % 8388608) ((8 * (3 - (b / 16777216)) : Nat) : Int) (8 * (3 - (b / 16777216))) sh6 (show b % 8388608 < 2 ^ 256 by omega) (show min (max ((8 * (3 - (b / 16777216)) : Nat) : Int) 0) 256 = ((8 * (3 - (b / 16777216)) : Nat) : Int) by omega) hsh6) rfl fun ac w hs => ?_))
      refine lstep (wpO_plain rfl (op_alloc hs none none (cs := [.int .u64 0, .int .u64 0, .int .u64 0, .int .u64 0]) rfl rfl Try.zeroValue25 (by kernel_rfl) rfl rfl fun g7 ac w hs => ?_))
      refine lstep (wpO_plain rfl (op_store hs 2 (vs := (Wl sh6)) rfl rfl rfl rfl rfl Try.sizeOf25 rfl rfl rfl rfl rfl fun w hs => ?_))
      refine wpList_nil ?_
      refine then_n ?_
      refine wp_seq ?_
      replace hs : St 47 w0 [(2, true, .pointer (some ⟨g1, 0, none⟩)), (3, true, .int .i64 0), (4, true, .int .i64 ((b / 16777216 : Nat) : Int)), (6, true, .pointer (some ⟨g4, 0, none⟩)), (7, true, .pointer (some ⟨g7, 0, none⟩))] [(true, g1, 25, [.int .u64 0, .int .u64 0, .int .u64 0, .int .u64 0]), (true, g4, 25, (Wl (b % 8388608))), (true, g7, 25, (Wl sh6))] ac w := hs.re ⟨rfl, rfl, rfl, rfl, rfl, trivial⟩
      refine region_inv [([], [3, 4]), ([], [2, 3, 4]), ([1], [3, 4]), ([0, 1, 2], [4]), ([0, 1, 2, 3], [])] (fun L ac w => St 47 w0 [(29, L 0, W sh6), (30, L 1, W sh6), (31, L 2, .int .i64 ((ec sh6 : Nat) : Int)), (3, L 4, .int .i64 ((ec sh6 : Nat) : Int)), (2, true, .pointer (some ⟨g1, 0, none⟩)), (3, true, .int .i64 0), (4, true, .int .i64 ((b / 16777216 : Nat) : Int)), (6, true, .pointer (some ⟨g4, 0, none⟩)), (7, true, .pointer (some ⟨g7, 0, none⟩))] [(true, g1, 25, (cond (L 3) (Wl sh6) [.int .u64 0, .int .u64 0, .int .u64 0, .int .u64 0])), (true, g4, 25, (Wl (b % 8388608))), (true, g7, 25, (Wl sh6))] ac w) (by kernel_rfl) (by kernel_rfl) ?_ ?_ ?_
      · exact hs.drew.skip.skip.skip.skip
      · refine ⟨?_, ?_, ?_, ?_, ?_, trivial⟩
        · intro L ac w hJ
          have hs := hJ
          refine wpO_plain rfl (op_load hs (some 0) 2 (v := W sh6) rfl rfl rfl rfl Try.isAgg25 Try.sizeOf25 rfl rfl fun ac hs => ?_)
          exact hs
        · intro L ac w hJ
          have hs := hJ
          refine wpO_plain rfl (op_load hs (some 1) 2 (v := W sh6) rfl rfl rfl rfl Try.isAgg25 Try.sizeOf25 rfl rfl fun ac hs => ?_)
          exact hs
        · intro L ac w hJ
          have hs := hJ
          refine wpO_plain rfl (op_call (F := 27) hs (some 2) (v := .int .i64 ((ec sh6 : Nat) : Int)) rfl rfl rfl rfl (Try.call27 _) (told_c sh6 lsh6) rfl fun ac w hs => ?_)
          exact hs
        · intro L ac w hJ
          have hs := hJ
          refine wpO_plain rfl (op_store hs 0 (vs := (Wl sh6)) rfl rfl rfl rfl rfl Try.sizeOf25 rfl rfl rfl rfl rfl fun w hs => ?_)
          exact hs
        · intro L ac w hJ
          have hs := hJ
          refine wpO_plain rfl (op_assign hs (some 3) rfl rfl rfl rfl fun ac hs => ?_)
          exact hs
      intro ac w hJ
      replace hs : St 47 w0 [(29, true, W sh6), (30, true, W sh6), (31, true, .int .i64 ((ec sh6 : Nat) : Int)), (3, true, .int .i64 ((ec sh6 : Nat) : Int)), (2, true, .pointer (some ⟨g1, 0, none⟩)), (3, true, .int .i64 0), (4, true, .int .i64 ((b / 16777216 : Nat) : Int)), (6, true, .pointer (some ⟨g4, 0, none⟩)), (7, true, .pointer (some ⟨g7, 0, none⟩))] [(true, g1, 25, (Wl sh6)), (true, g4, 25, (Wl (b % 8388608))), (true, g7, 25, (Wl sh6))] ac w := hJ
      refine then_n ?_
      refine wp_ret ?_
      refine then_r ?_
      exact bodyPost_ret (res2 rfl (rv_c hs 0 (v := W sh6) rfl rfl Try.isAgg25 Try.sizeOf25 rfl) (rv_t hs rfl)) hs.defers ⟨by rw [← hx, tgt_small hp3 hp5, hsh6], hs.below⟩
    · skip
      have hp8 := of_decide_eq_false hc
      refine wp_skip ?_
      refine then_n ?_
      refine wp_seq ?_
      refine wp_region_lit ?_
      refine lstep (wpO_plain rfl (op_move hs none rfl rfl rfl rfl fun ac hs => ?_))
      refine lstep (wpO_plain rfl (op_bin hs none (v := .int .i64 ((b / 16777216 - 3 : Nat) : Int)) rfl rfl rfl rfl (fun _ => rfl) (bin_subN (x := b / 16777216) (y := 3) (z := b / 16777216 - 3) (by omega) (show b / 16777216 - 3 < 9223372036854775808 by omega)) rfl fun ac hs => ?_))
      refine lstep (wpO_plain rfl (op_bin hs none (v := .int .i64 ((8 * (b / 16777216 - 3) : Nat) : Int)) rfl rfl rfl rfl (fun _ => rfl) (bin_mulN (x := 8) (y := b / 16777216 - 3) (z := 8 * (b / 16777216 - 3)) rfl (show 8 * (b / 16777216 - 3) < 9223372036854775808 by omega)) rfl fun ac hs => ?_))
      refine lstep (wpO_plain rfl (op_assign hs none rfl rfl rfl rfl fun ac hs => ?_))
      refine wpList_nil ?_
      refine then_n ?_
      refine wp_seq ?_
      refine wp_seq ?_
      refine wp_region_lit ?_
      refine lstep (wpO_plain rfl (op_load hs none 1 (v := W (b % 8388608)) rfl rfl rfl rfl Try.isAgg25 Try.sizeOf25 rfl rfl fun ac hs => ?_))
      have ll9 := ln_le (b % 8388608) 256 (show b % 8388608 < 2 ^ 256 by omega)
      refine lstep (wpO_plain rfl (op_call (F := 20) hs none (v := .int .i64 ((ln (b % 8388608) : Nat) : Int)) rfl rfl rfl rfl (Try.call20 _) (fun w => len_any w (b % 8388608) (show b % 8388608 < 2 ^ 256 by omega)) rfl fun ac w hs => ?_))
      refine lstep (wpO_plain rfl (op_move hs none rfl rfl rfl rfl fun ac hs => ?_))
      refine lstep (wpO_plain rfl (op_bin hs none (v := .int .i64 ((ln (b % 8388608) + (8 * (b / 16777216 - 3)) : Nat) : Int)) rfl rfl rfl rfl (fun _ => rfl) (bin_addN (x := ln (b % 8388608)) (y := 8 * (b / 16777216 - 3)) (z := ln (b % 8388608) + (8 * (b / 16777216 - 3))) rfl (show ln (b % 8388608) + (8 * (b / 16777216 - 3)) < 9223372036854775808 by omega)) rfl fun ac hs => ?_))
      refine lstep (wpO_plain rfl (op_bin hs none (v := .bool (decide (256 < ln (b % 8388608) + (8 * (b / 16777216 - 3))))) rfl rfl rfl rfl (fun _ => rfl) (bin_gtrN (x := ln (b % 8388608) + (8 * (b / 16777216 - 3))) (y := 256)) rfl fun ac hs => ?_))
      refine wpList_nil ?_
      refine then_n ?_
      refine wp_cond_split (hs.ev rfl) (fun hc => ?_) (fun hc => ?_)
      · skip
        have hp10 := of_decide_eq_true hc
        refine wp_seq ?_
        refine wp_region_lit ?_
        refine lstep (wpO_plain rfl (op_build hs none (qs := []) (v := .agg #[.int .u64 0, .int .u64 0, .int .u64 0, .int .u64 0]) rfl rfl rfl rfl (fun _ => by kernel_rfl) rfl fun ac hs => ?_))
        refine lstep (wpO_plain rfl (op_store hs 0 (vs := [.int .u64 0, .int .u64 0, .int .u64 0, .int .u64 0]) rfl rfl rfl rfl rfl Try.sizeOf25 rfl rfl rfl rfl rfl fun w hs => ?_))
        refine lstep (wpO_plain rfl (op_assign hs none rfl rfl rfl rfl fun ac hs => ?_))
        refine wpList_nil ?_
        refine then_n ?_
        refine wp_ret ?_
        refine then_r ?_
        exact bodyPost_ret (res2 rfl (rv_c hs 0 (v := .agg #[.int .u64 0, .int .u64 0, .int .u64 0, .int .u64 0]) rfl rfl Try.isAgg25 Try.sizeOf25 rfl) (rv_t hs rfl)) hs.defers ⟨by rw [← hx, tgt_long hp3 hp8 hp10]; rfl, hs.below⟩
      · skip
        have hp11 := of_decide_eq_false hc
        refine wp_skip ?_
        refine then_n ?_
        refine wp_seq ?_
        refine wp_region_lit ?_
        refine lstep (wpO_plain rfl (op_load hs none 1 (v := W (b % 8388608)) rfl rfl rfl rfl Try.isAgg25 Try.sizeOf25 rfl rfl fun ac hs => ?_))
        refine lstep (wpO_plain rfl (op_move hs none rfl rfl rfl rfl fun ac hs => ?_))
        obtain ⟨sh12, hsh12, lsh12⟩ : ∃ z0, (b % 8388608) * 2 ^ (8 * (b / 16777216 - 3)) % 2 ^ 256 = z0 ∧ z0 < 2 ^ 256 := ⟨_, rfl, Nat.mod_lt _ (Nat.two_pow_pos 256)⟩
        refine lstep (wpO_plain rfl (op_call (F := 28) hs none (v := W sh12) rfl rfl rfl rfl (Try.call28 _) (shl_c (b % 8388608) ((8 * (b / 16777216 - 3) : Nat) : Int) (8 * (b / 16777216 - 3)) sh12 (show b % 8388608 < 2 ^ 256 by omega) (show min (max ((8 * (b / 16777216 - 3) : Nat) : Int) 0) 256 = ((8 * (b / 16777216 - 3) : Nat) : Int) by omega) hsh12) rfl fun ac w hs => ?_))
        refine lstep (wpO_plain rfl (op_alloc hs none none (cs := [.int .u64 0, .int .u64 0, .int .u64 0, .int .u64 0]) rfl rfl Try.zeroValue25 (by kernel_rfl) rfl rfl fun g13 ac w hs => ?_))
        refine lstep (wpO_plain rfl (op_store hs 2 (vs := (Wl sh12)) rfl rfl rfl rfl rfl Try.sizeOf25 rfl rfl rfl rfl rfl fun w hs => ?_))
        refine wpList_nil ?_
        refine then_n ?_
        refine wp_seq ?_
        replace hs : St 47 w0 [(2, true, .pointer (some ⟨g1, 0, none⟩)), (3, true, .int .i64 0), (9, true, .pointer (some ⟨g13, 0, none⟩))] [(true, g1, 25, [.int .u64 0, .int .u64 0, .int .u64 0, .int .u64 0]), (true, g4, 25, (Wl (b % 8388608))), (true, g13, 25, (Wl sh12))] ac w := hs.re ⟨rfl, rfl, rfl, trivial⟩
        refine region_inv [([], [3, 4]), ([], [2, 3, 4]), ([1], [3, 4]), ([0, 1, 2], [4]), ([0, 1, 2, 3], [])] (fun L ac w => St 47 w0 [(44, L 0, W sh12), (45, L 1, W sh12), (46, L 2, .int .i64 ((ec sh12 : Nat) : Int)), (3, L 4, .int .i64 ((ec sh12 : Nat) : Int)), (2, true, .pointer (some ⟨g1, 0, none⟩)), (3, true, .int .i64 0), (9, true, .pointer (some ⟨g13, 0, none⟩))] [(true, g1, 25, (cond (L 3) (Wl sh12) [.int .u64 0, .int .u64 0, .int .u64 0, .int .u64 0])), (true, g4, 25, (Wl (b % 8388608))), (true, g13, 25, (Wl sh12))] ac w) (by kernel_rfl) (by kernel_rfl) ?_ ?_ ?_
        · exact hs.drew.skip.skip.skip.skip
        · refine ⟨?_, ?_, ?_, ?_, ?_, trivial⟩
          · intro L ac w hJ
            have hs := hJ
            refine wpO_plain rfl (op_load hs (some 0) 2 (v := W sh12) rfl rfl rfl rfl Try.isAgg25 Try.sizeOf25 rfl rfl fun ac hs => ?_)
            exact hs
          · intro L ac w hJ
            have hs := hJ
            refine wpO_plain rfl (op_load hs (some 1) 2 (v := W sh12) rfl rfl rfl rfl Try.isAgg25 Try.sizeOf25 rfl rfl fun ac hs => ?_)
            exact hs
          · intro L ac w hJ
            have hs := hJ
            refine wpO_plain rfl (op_call (F := 27) hs (some 2) (v := .int .i64 ((ec sh12 : Nat) : Int)) rfl rfl rfl rfl (Try.call27 _) (told_c sh12 lsh12) rfl fun ac w hs => ?_)
            exact hs
          · intro L ac w hJ
            have hs := hJ
            refine wpO_plain rfl (op_store hs 0 (vs := (Wl sh12)) rfl rfl rfl rfl rfl Try.sizeOf25 rfl rfl rfl rfl rfl fun w hs => ?_)
            exact hs
          · intro L ac w hJ
            have hs := hJ
            refine wpO_plain rfl (op_assign hs (some 3) rfl rfl rfl rfl fun ac hs => ?_)
            exact hs
        intro ac w hJ
        replace hs : St 47 w0 [(44, true, W sh12), (45, true, W sh12), (46, true, .int .i64 ((ec sh12 : Nat) : Int)), (3, true, .int .i64 ((ec sh12 : Nat) : Int)), (2, true, .pointer (some ⟨g1, 0, none⟩)), (3, true, .int .i64 0), (9, true, .pointer (some ⟨g13, 0, none⟩))] [(true, g1, 25, (Wl sh12)), (true, g4, 25, (Wl (b % 8388608))), (true, g13, 25, (Wl sh12))] ac w := hJ
        refine then_n ?_
        refine wp_ret ?_
        exact bodyPost_ret (res2 rfl (rv_c hs 0 (v := W sh12) rfl rfl Try.isAgg25 Try.sizeOf25 rfl) (rv_t hs rfl)) hs.defers ⟨by rw [← hx, tgt_fit hp3 hp8 hp11, hsh12], hs.below⟩
theorem compact_c (t x : Nat) (lt : t < 2 ^ 256) (hx : cpt t = x) (w0 : World) : Calls Try.prog 12 #[W t] w0 fun e w' => e = .returned (.int .u32 ((x : Nat) : Int)) ∧ Below w0.heap.size w0 w' := by
  have hn := nb_le lt
  have hlow := low3_lt t
  refine enter (n := 37) (args := [W t]) Try.func12 rfl rfl (Nat.le_of_ble_eq_true rfl) fun ac hs => ?_
  refine wp_seq ?_
  refine wp_region_lit ?_
  refine lstep (wpO_plain rfl (op_box hs none none (cs := (Wl t)) rfl rfl rfl rfl rfl rfl fun g1 ac w hs => ?_))
  refine lstep (wpO_plain rfl (op_assign hs none rfl rfl rfl rfl fun ac hs => ?_))
  refine wpList_nil ?_
  refine then_n ?_
  refine wp_seq ?_
  refine wp_region_lit ?_
  refine lstep (wpO_plain rfl (op_load hs none 0 (v := W t) rfl rfl rfl rfl Try.isAgg25 Try.sizeOf25 rfl rfl fun ac hs => ?_))
  have ll2 := ln_le t 256 lt
  refine lstep (wpO_plain rfl (op_call (F := 20) hs none (v := .int .i64 ((ln t : Nat) : Int)) rfl rfl rfl rfl (Try.call20 _) (fun w => len_any w t lt) rfl fun ac w hs => ?_))
  refine lstep (wpO_plain rfl (op_bin hs none (v := .int .i64 ((ln t + 7 : Nat) : Int)) rfl rfl rfl rfl (fun _ => rfl) (bin_addN (x := ln t) (y := 7) (z := ln t + 7) rfl (show ln t + 7 < 9223372036854775808 by omega)) rfl fun ac hs => ?_))
  refine lstep (wpO_plain rfl (op_bin hs none (v := .int .i64 (((ln t + 7) / 8 : Nat) : Int)) rfl rfl rfl rfl (fun _ => rfl) (bin_quoN (x := ln t + 7) (y := 8) (z := (ln t + 7) / 8) rfl (by decide) (show ln t + 7 < 9223372036854775808 by omega)) rfl fun ac hs => ?_))
  refine lstep (wpO_plain rfl (op_assign hs none rfl rfl rfl rfl fun ac hs => ?_))
  refine wpList_nil ?_
  replace hs := hs.re (fs' := [(0, true, W t), (1, true, .pointer (some ⟨g1, 0, none⟩)), (2, true, .int .u32 0), (6, true, W t), (7, true, .int .i64 ((ln t : Nat) : Int)), (8, true, .int .i64 ((ln t + 7 : Nat) : Int)), (9, true, .int .i64 (((ln t + 7) / 8 : Nat) : Int)), (3, true, .int .i64 ((nb t : Nat) : Int))]) ⟨rfl, rfl, rfl, rfl, rfl, rfl, rfl, congrArg some rfl, trivial⟩
  refine then_n ?_
  refine wp_seq ?_
  refine wp_region_lit ?_
  refine lstep (wpO_plain rfl (op_alloc hs none none (cs := [.int .u64 0, .int .u64 0, .int .u64 0, .int .u64 0]) rfl rfl Try.zeroValue25 (by kernel_rfl) rfl rfl fun g3 ac w hs => ?_))
  refine wpList_nil ?_
  refine then_n ?_
  refine wp_seq ?_
  refine wp_seq ?_
  refine wp_region_lit ?_
  refine lstep (wpO_plain rfl (op_move hs none rfl rfl rfl rfl fun ac hs => ?_))
  refine lstep (wpO_plain rfl (op_bin hs none (v := .bool (decide (3 < nb t))) rfl rfl rfl rfl (fun _ => rfl) (bin_gtrN (x := nb t) (y := 3)) rfl fun ac hs => ?_))
  refine wpList_nil ?_
  refine then_n ?_
  refine wp_cond_split (hs.ev rfl) (fun hc => ?_) (fun hc => ?_)
  · skip
    have hp4 := of_decide_eq_true hc
    refine wp_region_lit ?_
    refine lstep (wpO_plain rfl (op_load hs none 0 (v := W t) rfl rfl rfl rfl Try.isAgg25 Try.sizeOf25 rfl rfl fun ac hs => ?_))
    refine lstep (wpO_plain rfl (op_move hs none rfl rfl rfl rfl fun ac hs => ?_))
    refine lstep (wpO_plain rfl (op_bin hs none (v := .int .i64 ((nb t - 3 : Nat) : Int)) rfl rfl rfl rfl (fun _ => rfl) (bin_subN (x := nb t) (y := 3) (z := nb t - 3) (by omega) (show nb t - 3 < 9223372036854775808 by omega)) rfl fun ac hs => ?_))
    refine lstep (wpO_plain rfl (op_bin hs none (v := .int .i64 ((8 * (nb t - 3) : Nat) : Int)) rfl rfl rfl rfl (fun _ => rfl) (bin_mulN (x := 8) (y := nb t - 3) (z := 8 * (nb t - 3)) rfl (show 8 * (nb t - 3) < 9223372036854775808 by omega)) rfl fun ac hs => ?_))
    obtain ⟨sh5, hsh5, lsh5⟩ : ∃ z0, t / 2 ^ (8 * (nb t - 3)) = z0 ∧ z0 < 2 ^ 256 := ⟨_, rfl, div_lt256 lt⟩
    refine lstep (wpO_plain rfl (op_call (F := 26) hs none (v := W sh5) rfl rfl rfl rfl (Try.call26 _) (shr_c t ((8 * (nb t - 3) : Nat) : Int) (8 * (nb t - 3)) sh5 lt (show min (max ((8 * (nb t - 3) : Nat) : Int) 0) 256 = ((8 * (nb t - 3) : Nat) : Int) by omega) hsh5) rfl fun ac w hs => ?_))
    refine lstep (wpO_plain rfl (op_store hs 1 (vs := (Wl sh5)) rfl rfl rfl rfl rfl Try.sizeOf25 rfl rfl rfl rfl rfl fun w hs => ?_))
    refine wpList_nil ?_
    refine then_n ?_
    refine wp_seq ?_
    refine wp_region_lit ?_
    refine lstep (wpO_plain rfl (op_idxA hs none (j := 0) rfl rfl rfl rfl Try.underlying25 Try.sizeOf23 (by decide) (off := 0) rfl rfl fun ac hs => ?_))
    have l6 := limN_lt sh5 0
    refine lstep (wpO_plain rfl (op_load hs none 1 (v := .int .u64 (lim sh5 0)) rfl rfl rfl rfl Try.isAgg23 Try.sizeOf23 rfl rfl fun ac hs => ?_))
    refine lstep (wpO_plain rfl (op_convert hs none (v := .int .u32 (((limN sh5 0) % 4294967296 : Nat) : Int)) rfl rfl rfl (conv_M (z := (limN sh5 0) % 4294967296) rfl Try.underlying23 Try.underlying22 rfl) rfl fun ac hs => ?_))
    refine lstep (wpO_plain rfl (op_assign hs none rfl rfl rfl rfl fun ac hs => ?_))
    refine wpList_nil ?_
    have hl3 := low3_shr hp4 hsh5
    replace hs := hs.re (fs' := [(0, true, W t), (1, true, .pointer (some ⟨g1, 0, none⟩)), (2, true, .int .u32 0), (6, true, W t), (7, true, .int .i64 ((ln t : Nat) : Int)), (8, true, .int .i64 ((ln t + 7 : Nat) : Int)), (9, true, .int .i64 (((ln t + 7) / 8 : Nat) : Int)), (3, true, .int .i64 ((nb t : Nat) : Int)), (4, true, .pointer (some ⟨g3, 0, none⟩)), (10, true, .int .i64 ((nb t : Nat) : Int)), (11, true, .bool (decide (3 < nb t))), (12, true, W t), (13, true, .int .i64 ((nb t : Nat) : Int)), (14, true, .int .i64 ((nb t - 3 : Nat) : Int)), (15, true, .int .i64 ((8 * (nb t - 3) : Nat) : Int)), (16, true, W sh5), (22, true, .pointer (some ⟨g3, 0, none⟩)), (23, true, .int .u64 (lim sh5 0)), (24, true, .int .u32 (((limN sh5 0) % 4294967296 : Nat) : Int)), (5, true, .int .u32 ((low3 t : Nat) : Int))]) ⟨rfl, rfl, rfl, rfl, rfl, rfl, rfl, rfl, rfl, rfl, rfl, rfl, rfl, rfl, rfl, rfl, rfl, rfl, rfl, congrArg some (by rw [low3_u32 hl3]), trivial⟩
    refine then_n ?_
    refine wp_seq ?_
    refine wp_seq ?_
    refine wp_region_lit ?_
    refine lstep (wpO_plain rfl (op_move hs none rfl rfl rfl rfl fun ac hs => ?_))
    refine lstep (wpO_plain rfl (op_bin hs none (v := .int .u32 ((8388608 * ((low3 t) / 8388608 % 2) : Nat) : Int)) rfl rfl rfl rfl (fun _ => rfl) (bin_andN (x := low3 t) (y := 8388608) (z := 8388608 * ((low3 t) / 8388608 % 2)) and_bit23 (show low3 t < 2 ^ 32 by omega) (by decide) (show 8388608 * ((low3 t) / 8388608 % 2) < 4294967296 by omega)) rfl fun ac hs => ?_))
    refine lstep (wpO_plain rfl (op_bin hs none (v := .bool (decide (8388608 * ((low3 t) / 8388608 % 2) ≠ 0))) rfl rfl rfl rfl (fun _ => rfl) (bin_neqN (x := 8388608 * ((low3 t) / 8388608 % 2)) (y := 0)) rfl fun ac hs => ?_))
    refine wpList_nil ?_
    refine then_n ?_
    refine wp_cond_split (hs.ev rfl) (fun hc => ?_) (fun hc => ?_)
    · skip
      have hp7 := of_decide_eq_true hc
      refine wp_seq ?_
      refine wp_region_lit ?_
      refine lstep (wpO_plain rfl (op_move hs none rfl rfl rfl rfl fun ac hs => ?_))
      refine lstep (wpO_plain rfl (op_bin hs none (v := .int .u32 (((low3 t) / 256 : Nat) : Int)) rfl rfl rfl rfl (fun _ => rfl) (bin_shrN (x := low3 t) (y := 8) (z := (low3 t) / 256) rfl (show low3 t < 2 ^ 32 by omega)) rfl fun ac hs => ?_))
      refine lstep (wpO_plain rfl (op_assign hs none rfl rfl rfl rfl fun ac hs => ?_))
      refine wpList_nil ?_
      refine then_n ?_
      refine wp_region_lit ?_
      refine lstep (wpO_plain rfl (op_move hs none rfl rfl rfl rfl fun ac hs => ?_))
      refine lstep (wpO_plain rfl (op_bin hs none (v := .int .i64 ((nb t + 1 : Nat) : Int)) rfl rfl rfl rfl (fun _ => rfl) (bin_addN (x := nb t) (y := 1) (z := nb t + 1) rfl (show nb t + 1 < 9223372036854775808 by omega)) rfl fun ac hs => ?_))
      refine lstep (wpO_plain rfl (op_assign hs none rfl rfl rfl rfl fun ac hs => ?_))
      refine wpList_nil ?_
      refine then_n ?_
      refine wp_seq ?_
      refine wp_region_lit ?_
      refine lstep (wpO_plain rfl (op_move hs none rfl rfl rfl rfl fun ac hs => ?_))
      refine lstep (wpO_plain rfl (op_convert hs none (v := .int .u32 ((nb t + 1 : Nat) : Int)) rfl rfl rfl (conv_N Try.underlying3 Try.underlying22 (show nb t + 1 < 4294967296 by omega)) rfl fun ac hs => ?_))
      refine lstep (wpO_plain rfl (op_bin hs none (v := .int .u32 (((nb t + 1) * 2 ^ 24 % 4294967296 : Nat) : Int)) rfl rfl rfl rfl (fun _ => rfl) (bin_shlM (x := nb t + 1) (y := 24) (z := (nb t + 1) * 2 ^ 24 % 4294967296) rfl rfl) rfl fun ac hs => ?_))
      refine lstep (wpO_plain rfl (op_move hs none rfl rfl rfl rfl fun ac hs => ?_))
      refine lstep (wpO_plain rfl (op_bin hs none (v := .int .u32 ((((nb t + 1) * 2 ^ 24 % 4294967296) ||| ((low3 t) / 256) : Nat) : Int)) rfl rfl rfl rfl (fun _ => rfl) (bin_orN (x := (nb t + 1) * 2 ^ 24 % 4294967296) (y := (low3 t) / 256) (z := ((nb t + 1) * 2 ^ 24 % 4294967296) ||| ((low3 t) / 256)) rfl (show (nb t + 1) * 2 ^ 24 % 4294967296 < 2 ^ 32 by omega) (show (low3 t) / 256 < 2 ^ 32 by omega) (or_24lt (show (low3 t) / 256 < 16777216 by omega))) rfl fun ac hs => ?_))
      refine lstep (wpO_plain rfl (op_assign hs none rfl rfl rfl rfl fun ac hs => ?_))
      refine wpList_nil ?_
      refine then_n ?_
      refine wp_ret ?_
      exact bodyPost_ret (res1 rfl (rv_t hs rfl)) hs.defers ⟨by rw [or_24 (by omega) (by omega), ← hx, cpt, if_pos (by omega)], hs.below⟩
    · skip
      have hp8 := of_decide_eq_false hc
      refine wp_skip ?_
      refine then_n ?_
      refine wp_seq ?_
      refine wp_region_lit ?_
      refine lstep (wpO_plain rfl (op_move hs none rfl rfl rfl rfl fun ac hs => ?_))
      refine lstep (wpO_plain rfl (op_convert hs none (v := .int .u32 ((nb t : Nat) : Int)) rfl rfl rfl (conv_N Try.underlying3 Try.underlying22 (show nb t < 4294967296 by omega)) rfl fun ac hs => ?_))
      refine lstep (wpO_plain rfl (op_bin hs none (v := .int .u32 (((nb t) * 2 ^ 24 % 4294967296 : Nat) : Int)) rfl rfl rfl rfl (fun _ => rfl) (bin_shlM (x := nb t) (y := 24) (z := (nb t) * 2 ^ 24 % 4294967296) rfl rfl) rfl fun ac hs => ?_))
      refine lstep (wpO_plain rfl (op_move hs none rfl rfl rfl rfl fun ac hs => ?_))
      refine lstep (wpO_plain rfl (op_bin hs none (v := .int .u32 ((((nb t) * 2 ^ 24 % 4294967296) ||| (low3 t) : Nat) : Int)) rfl rfl rfl rfl (fun _ => rfl) (bin_orN (x := (nb t) * 2 ^ 24 % 4294967296) (y := low3 t) (z := ((nb t) * 2 ^ 24 % 4294967296) ||| (low3 t)) rfl (show (nb t) * 2 ^ 24 % 4294967296 < 2 ^ 32 by omega) (show low3 t < 2 ^ 32 by omega) (or_24lt (show low3 t < 16777216 by omega))) rfl fun ac hs => ?_))
      refine lstep (wpO_plain rfl (op_assign hs none rfl rfl rfl rfl fun ac hs => ?_))
      refine wpList_nil ?_
      refine then_n ?_
      refine wp_ret ?_
      exact bodyPost_ret (res1 rfl (rv_t hs rfl)) hs.defers ⟨by rw [or_24 (by omega) (by omega), ← hx, cpt, if_neg (by omega)], hs.below⟩
  · skip
    have hp9 := of_decide_eq_false hc
    refine wp_region_lit ?_
    refine lstep (wpO_plain rfl (op_load hs none 0 (v := W t) rfl rfl rfl rfl Try.isAgg25 Try.sizeOf25 rfl rfl fun ac hs => ?_))
    refine lstep (wpO_plain rfl (op_move hs none rfl rfl rfl rfl fun ac hs => ?_))
    refine lstep (wpO_plain rfl (op_bin hs none (v := .int .i64 ((3 - (nb t) : Nat) : Int)) rfl rfl rfl rfl (fun _ => rfl) (bin_subN (x := 3) (y := nb t) (z := 3 - (nb t)) (by omega) (show 3 - (nb t) < 9223372036854775808 by omega)) rfl fun ac hs => ?_))
    refine lstep (wpO_plain rfl (op_bin hs none (v := .int .i64 ((8 * (3 - (nb t)) : Nat) : Int)) rfl rfl rfl rfl (fun _ => rfl) (bin_mulN (x := 8) (y := 3 - (nb t)) (z := 8 * (3 - (nb t))) rfl (show 8 * (3 - (nb t)) < 9223372036854775808 by omega)) rfl fun ac hs => ?_))
    obtain ⟨sh10, hsh10, lsh10⟩ : ∃ z0, t * 2 ^ (8 * (3 - (nb t))) % 2 ^ 256 = z0 ∧ z0 < 2 ^ 256 := ⟨_, rfl, Nat.mod_lt _ (Nat.two_pow_pos 256)⟩
    refine lstep (wpO_plain rfl (op_call (F := 28) hs none (v := W sh10) rfl rfl rfl rfl (Try.call28 _) (shl_c t ((8 * (3 - (nb t)) : Nat) : Int) (8 * (3 - (nb t))) sh10 lt (show min (max ((8 * (3 - (nb t)) : Nat) : Int) 0) 256 = ((8 * (3 - (nb t)) : Nat) : Int) by omega) hsh10) rfl fun ac w hs => ?_))
    refine lstep (wpO_plain rfl (op_store hs 1 (vs := (Wl sh10)) rfl rfl rfl rfl rfl Try.sizeOf25 rfl rfl rfl rfl rfl fun w hs => ?_))
    refine wpList_nil ?_
    refine then_n ?_
    refine wp_seq ?_
    refine wp_region_lit ?_
    refine lstep (wpO_plain rfl (op_idxA hs none (j := 0) rfl rfl rfl rfl Try.underlying25 Try.sizeOf23 (by decide) (off := 0) rfl rfl fun ac hs => ?_))
    have l11 := limN_lt sh10 0
    refine lstep (wpO_plain rfl (op_load hs none 1 (v := .int .u64 (lim sh10 0)) rfl rfl rfl rfl Try.isAgg23 Try.sizeOf23 rfl rfl fun ac hs => ?_))
    refine lstep (wpO_plain rfl (op_convert hs none (v := .int .u32 (((limN sh10 0) % 4294967296 : Nat) : Int)) rfl rfl rfl (conv_M (z := (limN sh10 0) % 4294967296) rfl Try.underlying23 Try.underlying22 rfl) rfl fun ac hs => ?_))
    refine lstep (wpO_plain rfl (op_assign hs none rfl rfl rfl rfl fun ac hs => ?_))
    refine wpList_nil ?_
    have hl3 := low3_shl hp9 hsh10
    replace hs := hs.re (fs' := [(0, true, W t), (1, true, .pointer (some ⟨g1, 0, none⟩)), (2, true, .int .u32 0), (6, true, W t), (7, true, .int .i64 ((ln t : Nat) : Int)), (8, true, .int .i64 ((ln t + 7 : Nat) : Int)), (9, true, .int .i64 (((ln t + 7) / 8 : Nat) : Int)), (3, true, .int .i64 ((nb t : Nat) : Int)), (4, true, .pointer (some ⟨g3, 0, none⟩)), (10, true, .int .i64 ((nb t : Nat) : Int)), (11, true, .bool (decide (3 < nb t))), (17, true, W t), (18, true, .int .i64 ((nb t : Nat) : Int)), (19, true, .int .i64 ((3 - (nb t) : Nat) : Int)), (20, true, .int .i64 ((8 * (3 - (nb t)) : Nat) : Int)), (21, true, W sh10), (22, true, .pointer (some ⟨g3, 0, none⟩)), (23, true, .int .u64 (lim sh10 0)), (24, true, .int .u32 (((limN sh10 0) % 4294967296 : Nat) : Int)), (5, true, .int .u32 ((low3 t : Nat) : Int))]) ⟨rfl, rfl, rfl, rfl, rfl, rfl, rfl, rfl, rfl, rfl, rfl, rfl, rfl, rfl, rfl, rfl, rfl, rfl, rfl, congrArg some (by rw [low3_u32 hl3]), trivial⟩
    refine then_n ?_
    refine wp_seq ?_
    refine wp_seq ?_
    refine wp_region_lit ?_
    refine lstep (wpO_plain rfl (op_move hs none rfl rfl rfl rfl fun ac hs => ?_))
    refine lstep (wpO_plain rfl (op_bin hs none (v := .int .u32 ((8388608 * ((low3 t) / 8388608 % 2) : Nat) : Int)) rfl rfl rfl rfl (fun _ => rfl) (bin_andN (x := low3 t) (y := 8388608) (z := 8388608 * ((low3 t) / 8388608 % 2)) and_bit23 (show low3 t < 2 ^ 32 by omega) (by decide) (show 8388608 * ((low3 t) / 8388608 % 2) < 4294967296 by omega)) rfl fun ac hs => ?_))
    refine lstep (wpO_plain rfl (op_bin hs none (v := .bool (decide (8388608 * ((low3 t) / 8388608 % 2) ≠ 0))) rfl rfl rfl rfl (fun _ => rfl) (bin_neqN (x := 8388608 * ((low3 t) / 8388608 % 2)) (y := 0)) rfl fun ac hs => ?_))
    refine wpList_nil ?_
    refine then_n ?_
    refine wp_cond_split (hs.ev rfl) (fun hc => ?_) (fun hc => ?_)
    · skip
      have hp12 := of_decide_eq_true hc
      refine wp_seq ?_
      refine wp_region_lit ?_
      refine lstep (wpO_plain rfl (op_move hs none rfl rfl rfl rfl fun ac hs => ?_))
      refine lstep (wpO_plain rfl (op_bin hs none (v := .int .u32 (((low3 t) / 256 : Nat) : Int)) rfl rfl rfl rfl (fun _ => rfl) (bin_shrN (x := low3 t) (y := 8) (z := (low3 t) / 256) rfl (show low3 t < 2 ^ 32 by omega)) rfl fun ac hs => ?_))
      refine lstep (wpO_plain rfl (op_assign hs none rfl rfl rfl rfl fun ac hs => ?_))
      refine wpList_nil ?_
      refine then_n ?_
      refine wp_region_lit ?_
      refine lstep (wpO_plain rfl (op_move hs none rfl rfl rfl rfl fun ac hs => ?_))
      refine lstep (wpO_plain rfl (op_bin hs none (v := .int .i64 ((nb t + 1 : Nat) : Int)) rfl rfl rfl rfl (fun _ => rfl) (bin_addN (x := nb t) (y := 1) (z := nb t + 1) rfl (show nb t + 1 < 9223372036854775808 by omega)) rfl fun ac hs => ?_))
      refine lstep (wpO_plain rfl (op_assign hs none rfl rfl rfl rfl fun ac hs => ?_))
      refine wpList_nil ?_
      refine then_n ?_
      refine wp_seq ?_
      refine wp_region_lit ?_
      refine lstep (wpO_plain rfl (op_move hs none rfl rfl rfl rfl fun ac hs => ?_))
      refine lstep (wpO_plain rfl (op_convert hs none (v := .int .u32 ((nb t + 1 : Nat) : Int)) rfl rfl rfl (conv_N Try.underlying3 Try.underlying22 (show nb t + 1 < 4294967296 by omega)) rfl fun ac hs => ?_))
      refine lstep (wpO_plain rfl (op_bin hs none (v := .int .u32 (((nb t + 1) * 2 ^ 24 % 4294967296 : Nat) : Int)) rfl rfl rfl rfl (fun _ => rfl) (bin_shlM (x := nb t + 1) (y := 24) (z := (nb t + 1) * 2 ^ 24 % 4294967296) rfl rfl) rfl fun ac hs => ?_))
      refine lstep (wpO_plain rfl (op_move hs none rfl rfl rfl rfl fun ac hs => ?_))
      refine lstep (wpO_plain rfl (op_bin hs none (v := .int .u32 ((((nb t + 1) * 2 ^ 24 % 4294967296) ||| ((low3 t) / 256) : Nat) : Int)) rfl rfl rfl rfl (fun _ => rfl) (bin_orN (x := (nb t + 1) * 2 ^ 24 % 4294967296) (y := (low3 t) / 256) (z := ((nb t + 1) * 2 ^ 24 % 4294967296) ||| ((low3 t) / 256)) rfl (show (nb t + 1) * 2 ^ 24 % 4294967296 < 2 ^ 32 by omega) (show (low3 t) / 256 < 2 ^ 32 by omega) (or_24lt (show (low3 t) / 256 < 16777216 by omega))) rfl fun ac hs => ?_))
      refine lstep (wpO_plain rfl (op_assign hs none rfl rfl rfl rfl fun ac hs => ?_))
      refine wpList_nil ?_
      refine then_n ?_
      refine wp_ret ?_
      exact bodyPost_ret (res1 rfl (rv_t hs rfl)) hs.defers ⟨by rw [or_24 (by omega) (by omega), ← hx, cpt, if_pos (by omega)], hs.below⟩
    · skip
      have hp13 := of_decide_eq_false hc
      refine wp_skip ?_
      refine then_n ?_
      refine wp_seq ?_
      refine wp_region_lit ?_
      refine lstep (wpO_plain rfl (op_move hs none rfl rfl rfl rfl fun ac hs => ?_))
      refine lstep (wpO_plain rfl (op_convert hs none (v := .int .u32 ((nb t : Nat) : Int)) rfl rfl rfl (conv_N Try.underlying3 Try.underlying22 (show nb t < 4294967296 by omega)) rfl fun ac hs => ?_))
      refine lstep (wpO_plain rfl (op_bin hs none (v := .int .u32 (((nb t) * 2 ^ 24 % 4294967296 : Nat) : Int)) rfl rfl rfl rfl (fun _ => rfl) (bin_shlM (x := nb t) (y := 24) (z := (nb t) * 2 ^ 24 % 4294967296) rfl rfl) rfl fun ac hs => ?_))
      refine lstep (wpO_plain rfl (op_move hs none rfl rfl rfl rfl fun ac hs => ?_))
      refine lstep (wpO_plain rfl (op_bin hs none (v := .int .u32 ((((nb t) * 2 ^ 24 % 4294967296) ||| (low3 t) : Nat) : Int)) rfl rfl rfl rfl (fun _ => rfl) (bin_orN (x := (nb t) * 2 ^ 24 % 4294967296) (y := low3 t) (z := ((nb t) * 2 ^ 24 % 4294967296) ||| (low3 t)) rfl (show (nb t) * 2 ^ 24 % 4294967296 < 2 ^ 32 by omega) (show low3 t < 2 ^ 32 by omega) (or_24lt (show low3 t < 16777216 by omega))) rfl fun ac hs => ?_))
      refine lstep (wpO_plain rfl (op_assign hs none rfl rfl rfl rfl fun ac hs => ?_))
      refine wpList_nil ?_
      refine then_n ?_
      refine wp_ret ?_
      exact bodyPost_ret (res1 rfl (rv_t hs rfl)) hs.defers ⟨by rw [or_24 (by omega) (by omega), ← hx, cpt, if_neg (by omega)], hs.below⟩
theorem number_c (b : Nat → Nat) (x : Nat) (hb : ∀ j, j < 32 → b j < 256) (hx : pr (rvb b) 0 32 = x) (w0 : World) : Calls Try.prog 32 #[At .u8 32 b] w0 fun e w' => e = .returned (W x) ∧ Below w0.heap.size w0 w' := by
  refine enter (n := 24) (args := [At .u8 32 b]) Try.func32 rfl rfl (Nat.le_of_ble_eq_true rfl) fun ac hs => ?_
  refine wp_seq ?_
  refine wp_region_lit ?_
  refine lstep (wpO_plain rfl (op_box hs none none (cs := (tab .u8 32 b)) rfl rfl rfl rfl rfl rfl fun g1 ac w hs => ?_))
  refine lstep (wpO_plain rfl (op_alloc hs none none (cs := [.int .u64 0, .int .u64 0, .int .u64 0, .int .u64 0]) rfl rfl Try.zeroValue25 (by kernel_rfl) rfl rfl fun g2 ac w hs => ?_))
  refine wpList_nil ?_
  refine then_n ?_
  refine wp_seq ?_
  refine wp_seq ?_
  refine wp_region_lit ?_
  refine lstep (wpO_plain rfl (op_assign hs none rfl rfl rfl rfl fun ac hs => ?_))
  refine lstep (wpO_plain rfl (op_assign hs none rfl rfl rfl rfl fun ac hs => ?_))
  refine wpList_nil ?_
  refine then_n ?_
  refine wp_block ?_
  refine wp_loop_m (fun μ ac w => ∃ (i : Nat) (f : Nat → Nat), (31 - i) = μ ∧ (i ≤ 31) ∧ (∀ j, j < 32 → f j = rvf b i j) ∧ St 24 w0 [(1, true, .pointer (some ⟨g1, 0, none⟩)), (2, true, .pointer (some ⟨g2, 0, none⟩)), (3, true, .int .i64 ((i : Nat) : Int)), (4, true, .int .i64 ((31 - i : Nat) : Int))] [(true, g1, 32, (tab .u8 32 f)), (true, g2, 25, [.int .u64 0, .int .u64 0, .int .u64 0, .int .u64 0])] ac w) ?_ ?_
  · exact ⟨_, 0, b, rfl, (by omega), rvf_start, (hs.re ⟨rfl, rfl, rfl, rfl, trivial⟩)⟩
  intro μ ac w ⟨i, f, hμ, hi, hf, hs⟩
  refine wp_seq ?_
  refine wp_seq ?_
  refine wp_region_lit ?_
  refine lstep (wpO_plain rfl (op_move hs none rfl rfl rfl rfl fun ac hs => ?_))
  refine lstep (wpO_plain rfl (op_move hs none rfl rfl rfl rfl fun ac hs => ?_))
  refine lstep (wpO_plain rfl (op_bin hs none (v := .bool (decide (i < 31 - i))) rfl rfl rfl rfl (fun _ => rfl) (bin_lssN (x := i) (y := 31 - i)) rfl fun ac hs => ?_))
  refine wpList_nil ?_
  refine then_n ?_
  refine wp_cond_split (hs.ev rfl) (fun hc => ?_) (fun hc => ?_)
  · skip
    have hp3 := of_decide_eq_true hc
    refine wp_skip ?_
    refine then_n ?_
    refine wp_seq ?_
    refine wp_block ?_
    replace hs : St 24 w0 [(1, true, .pointer (some ⟨g1, 0, none⟩)), (2, true, .pointer (some ⟨g2, 0, none⟩)), (3, true, .int .i64 ((i : Nat) : Int)), (4, true, .int .i64 ((31 - i : Nat) : Int))] [(true, g1, 32, (tab .u8 32 f)), (true, g2, 25, [.int .u64 0, .int .u64 0, .int .u64 0, .int .u64 0])] ac w := hs.re ⟨rfl, rfl, rfl, rfl, trivial⟩
    refine region_inv [([], [8, 9, 10, 11]), ([], [10, 11]), ([], [3, 4, 8, 9, 10, 11]), ([2], [4, 8, 9, 10, 11]), ([2, 3], [8, 9, 10, 11]), ([], [6, 7, 8, 9, 10, 11]), ([5], [7, 8, 9, 10, 11]), ([5, 6], [8, 9, 10, 11]), ([0, 2, 3, 4, 5, 6, 7], [9, 10, 11]), ([0, 2, 3, 4, 5, 6, 7, 8], [10, 11]), ([0, 1, 2, 3, 4, 5, 6, 7, 8, 9], [11]), ([0, 1, 2, 3, 4, 5, 6, 7, 8, 9, 10], [])] (fun L ac w => St 24 w0 [(12, L 0, .int .i64 ((i : Nat) : Int)), (13, L 1, .int .i64 ((31 - i : Nat) : Int)), (14, L 2, .int .i64 ((31 - i : Nat) : Int)), (15, L 3, .pointer (some ⟨g1, 31 - i, none⟩)), (16, L 4, .int .u8 ((f (31 - i) : Nat) : Int)), (17, L 5, .int .i64 ((i : Nat) : Int)), (18, L 6, .pointer (some ⟨g1, i, none⟩)), (19, L 7, .int .u8 ((f i : Nat) : Int)), (20, L 8, .pointer (some ⟨g1, i, none⟩)), (21, L 10, .pointer (some ⟨g1, 31 - i, none⟩)), (1, true, .pointer (some ⟨g1, 0, none⟩)), (2, true, .pointer (some ⟨g2, 0, none⟩)), (3, true, .int .i64 ((i : Nat) : Int)), (4, true, .int .i64 ((31 - i : Nat) : Int))] [(true, g1, 32, (cond (L 11) (tab .u8 32 (upn (upn f i (f (31 - i))) (31 - i) (f i))) (cond (L 9) (tab .u8 32 (upn f i (f (31 - i)))) (tab .u8 32 f)))), (true, g2, 25, [.int .u64 0, .int .u64 0, .int .u64 0, .int .u64 0])] ac w) (by kernel_rfl) (by kernel_rfl) ?_ ?_ ?_
    · exact hs.drew.skip.skip.skip.skip.skip.skip.skip.skip.skip.skip
    · refine ⟨?_, ?_, ?_, ?_, ?_, ?_, ?_, ?_, ?_, ?_, ?_, ?_, trivial⟩
      · intro L ac w hJ
        have hs := hJ
        refine wpO_plain rfl (op_move hs (some 0) rfl rfl rfl rfl fun ac hs => ?_)
        exact hs
      · intro L ac w hJ
        have hs := hJ
        refine wpO_plain rfl (op_move hs (some 1) rfl rfl rfl rfl fun ac hs => ?_)
        exact hs
      · intro L ac w hJ
        have hs := hJ
        refine wpO_plain rfl (op_move hs (some 2) rfl rfl rfl rfl fun ac hs => ?_)
        exact hs
      · intro L ac w hJ
        have hs := hJ
        refine wpO_plain rfl (op_idxA hs (some 3) (j := 31 - i) rfl rfl rfl rfl Try.underlying32 Try.sizeOf5 (show 31 - i < 32 by omega) (off := 31 - i) (by omega) rfl fun ac hs => ?_)
        exact hs
      · intro L ac w hJ
        have hs := hJ
        refine wpO_plain rfl (op_load hs (some 4) 0 (v := .int .u8 ((f (31 - i) : Nat) : Int)) rfl rfl rfl rfl Try.isAgg5 Try.sizeOf5 (tab_get (j := 31 - i) (show 31 - i < 32 by omega)) rfl fun ac hs => ?_)
        exact hs
      · intro L ac w hJ
        have hs := hJ
        refine wpO_plain rfl (op_move hs (some 5) rfl rfl rfl rfl fun ac hs => ?_)
        exact hs
      · intro L ac w hJ
        have hs := hJ
        refine wpO_plain rfl (op_idxA hs (some 6) (j := i) rfl rfl rfl rfl Try.underlying32 Try.sizeOf5 (show i < 32 by omega) (off := i) (by omega) rfl fun ac hs => ?_)
        exact hs
      · intro L ac w hJ
        have hs := hJ
        refine wpO_plain rfl (op_load hs (some 7) 0 (v := .int .u8 ((f i : Nat) : Int)) rfl rfl rfl rfl Try.isAgg5 Try.sizeOf5 (tab_get (j := i) (show i < 32 by omega)) rfl fun ac hs => ?_)
        exact hs
      · intro L ac w hJ
        have hs := hJ
        refine wpO_plain rfl (op_idxA hs (some 8) (j := i) rfl rfl rfl rfl Try.underlying32 Try.sizeOf5 (show i < 32 by omega) (off := i) (by omega) rfl fun ac hs => ?_)
        exact hs
      · intro L ac w hJ
        have hs := hJ
        refine wpO_plain rfl (op_store hs 0 (vs := [.int .u8 ((f (31 - i) : Nat) : Int)]) rfl rfl rfl rfl rfl Try.sizeOf5 rfl rfl rfl (tab_le (j := i) (show i < 32 by omega)) (tab_set) fun w hs => ?_)
        exact hs
      · intro L ac w hJ
        have hs := hJ
        refine wpO_plain rfl (op_idxA hs (some 9) (j := 31 - i) rfl rfl rfl rfl Try.underlying32 Try.sizeOf5 (show 31 - i < 32 by omega) (off := 31 - i) (by omega) rfl fun ac hs => ?_)
        exact hs
      · intro L ac w hJ
        have hs := hJ
        refine wpO_plain rfl (op_store hs 0 (vs := [.int .u8 ((f i : Nat) : Int)]) rfl rfl rfl rfl rfl Try.sizeOf5 rfl rfl rfl (tab_le (j := 31 - i) (show 31 - i < 32 by omega)) (tab_set) fun w hs => ?_)
        exact hs
    intro ac w hJ
    replace hs : St 24 w0 [(12, true, .int .i64 ((i : Nat) : Int)), (13, true, .int .i64 ((31 - i : Nat) : Int)), (14, true, .int .i64 ((31 - i : Nat) : Int)), (15, true, .pointer (some ⟨g1, 31 - i, none⟩)), (16, true, .int .u8 ((f (31 - i) : Nat) : Int)), (17, true, .int .i64 ((i : Nat) : Int)), (18, true, .pointer (some ⟨g1, i, none⟩)), (19, true, .int .u8 ((f i : Nat) : Int)), (20, true, .pointer (some ⟨g1, i, none⟩)), (21, true, .pointer (some ⟨g1, 31 - i, none⟩)), (1, true, .pointer (some ⟨g1, 0, none⟩)), (2, true, .pointer (some ⟨g2, 0, none⟩)), (3, true, .int .i64 ((i : Nat) : Int)), (4, true, .int .i64 ((31 - i : Nat) : Int))] [(true, g1, 32, (tab .u8 32 (upn (upn f i (f (31 - i))) (31 - i) (f i)))), (true, g2, 25, [.int .u64 0, .int .u64 0, .int .u64 0, .int .u64 0])] ac w := hJ
    refine blk_n ?_
    refine then_n ?_
    refine wp_region_lit ?_
    refine lstep (wpO_plain rfl (op_move hs none rfl rfl rfl rfl fun ac hs => ?_))
    refine lstep (wpO_plain rfl (op_bin hs none (v := .int .i64 ((i + 1 : Nat) : Int)) rfl rfl rfl rfl (fun _ => rfl) (bin_addN (x := i) (y := 1) (z := i + 1) rfl (show i + 1 < 9223372036854775808 by omega)) rfl fun ac hs => ?_))
    refine lstep (wpO_plain rfl (op_move hs none rfl rfl rfl rfl fun ac hs => ?_))
    refine lstep (wpO_plain rfl (op_bin hs none (v := .int .i64 ((31 - i - 1 : Nat) : Int)) rfl rfl rfl rfl (fun _ => rfl) (bin_subN (x := 31 - i) (y := 1) (z := 31 - i - 1) (by omega) (show 31 - i - 1 < 9223372036854775808 by omega)) rfl fun ac hs => ?_))
    refine lstep (wpO_plain rfl (op_assign hs none rfl rfl rfl rfl fun ac hs => ?_))
    refine lstep (wpO_plain rfl (op_assign hs none rfl rfl rfl rfl fun ac hs => ?_))
    refine wpList_nil ?_
    refine then_n ?_
    exact ⟨_, ⟨(i + 1), (upn (upn f i (f (31 - i))) (31 - i) (f i)), rfl, (by omega), (rvf_step hp3 hf), (hs.re ⟨rfl, rfl, rfl, rfl, trivial⟩)⟩, (by omega)⟩
  · skip
    have hp4 := of_decide_eq_false hc
    replace hs := hs.setb 0 (cs' := tab .u8 32 (rvb b)) rfl (tab_congr (rvf_fin hp4 hf))
    refine wp_exit ?_
    refine then_e ?_
    refine then_e ?_
    refine blk_e ?_
    refine then_n ?_
    refine wp_seq ?_
    refine wp_region_lit ?_
    refine lstep (wpO_plain rfl (op_load hs none 0 (v := At .u8 32 (rvb b)) rfl rfl rfl rfl Try.isAgg32 Try.sizeOf32 ldv_tab rfl fun ac hs => ?_))
    obtain ⟨a5, ha5, la5⟩ : ∃ z0, pr (rvb b) 0 32 = z0 ∧ z0 < 2 ^ 256 := ⟨_, rfl, pr_lt32 (rvb_lt hb)⟩
    refine lstep (wpO_plain rfl (op_call (F := 46) hs none (v := W a5) rfl rfl rfl rfl (Try.call46 _) (wread_c (rvb b) a5 (rvb_lt hb) ha5) rfl fun ac w hs => ?_))
    refine lstep (wpO_plain rfl (op_store hs 1 (vs := (Wl a5)) rfl rfl rfl rfl rfl Try.sizeOf25 rfl rfl rfl rfl rfl fun w hs => ?_))
    refine wpList_nil ?_
    refine then_n ?_
    refine wp_ret ?_
    exact bodyPost_ret (res1 rfl (rv_c hs 1 (v := W a5) rfl rfl Try.isAgg25 Try.sizeOf25 rfl)) hs.defers ⟨by rw [← hx, ← ha5], hs.below⟩
theorem meets_c (f : Nat → Nat) (b : Nat) (q : Bool) (hf : ∀ j, j < 32 → f j < 256) (hb : b < 4294967296) (hq : mts f b = q) (w0 : World) : Calls Try.prog 14 #[At .u8 32 f, .int .u32 ((b : Nat) : Int)] w0 fun e w' => e = .returned (.bool q) ∧ Below w0.heap.size w0 w' := by
  refine enter (n := 21) (args := [At .u8 32 f, .int .u32 ((b : Nat) : Int)]) Try.func14 rfl rfl (Nat.le_of_ble_eq_true rfl) fun ac hs => ?_
  refine wp_seq ?_
  refine wp_region_lit ?_
  refine lstep (wpO_plain rfl (op_box hs none none (cs := (tab .u8 32 f)) rfl rfl rfl rfl rfl rfl fun g1 ac w hs => ?_))
  refine lstep (wpO_plain rfl (op_assign hs none rfl rfl rfl rfl fun ac hs => ?_))
  refine wpList_nil ?_
  refine then_n ?_
  refine wp_seq ?_
  refine wp_region_lit ?_
  refine lstep (wpO_plain rfl (op_move hs none rfl rfl rfl rfl fun ac hs => ?_))
  obtain ⟨x2, hx2, lx2⟩ : ∃ z0, tgt b = z0 ∧ z0 < 2 ^ 256 := ⟨_, rfl, tgt_lt' _⟩
  refine lstep (wpO_plain rfl (op_call (F := 9) hs none (v := .tuple #[W x2, .int .i64 ((ec x2 : Nat) : Int)]) rfl rfl rfl rfl (Try.call9 _) (expand_c b x2 (show b < 4294967296 by omega) hx2) rfl fun ac w hs => ?_))
  refine lstep (wpO_plain rfl (op_move hs none rfl rfl rfl rfl fun ac hs => ?_))
  refine lstep (wpO_plain rfl (op_extract hs none rfl rfl rfl rfl rfl fun ac hs => ?_))
  refine lstep (wpO_plain rfl (op_extract hs none rfl rfl rfl rfl rfl fun ac hs => ?_))
  refine lstep (wpO_plain rfl (op_alloc hs none none (cs := [.int .u64 0, .int .u64 0, .int .u64 0, .int .u64 0]) rfl rfl Try.zeroValue25 (by kernel_rfl) rfl rfl fun g3 ac w hs => ?_))
  refine lstep (wpO_plain rfl (op_store hs 1 (vs := (Wl x2)) rfl rfl rfl rfl rfl Try.sizeOf25 rfl rfl rfl rfl rfl fun w hs => ?_))
  refine lstep (wpO_plain rfl (op_assign hs none rfl rfl rfl rfl fun ac hs => ?_))
  refine wpList_nil ?_
  refine then_n ?_
  refine wp_seq ?_
  by_cases hq4 : x2 = 0
  · skip
    replace hs : St 21 w0 [(2, true, .pointer (some ⟨g1, 0, none⟩)), (4, true, .bool false), (5, true, .pointer (some ⟨g3, 0, none⟩)), (6, true, .int .i64 ((ec x2 : Nat) : Int))] [(true, g1, 32, (tab .u8 32 f)), (true, g3, 25, (Wl x2))] ac w := hs.re ⟨rfl, rfl, rfl, rfl, trivial⟩
    refine region_inv [([], [1, 2, 3, 4, 5, 6, 7, 8, 9]), ([0], [2, 3, 4, 5, 6, 7, 8, 9]), ([0, 1], [3, 4, 5, 6, 7, 8, 9]), ([0, 1, 2], [4, 6, 7, 8, 9]), ([0, 1, 2, 3], [6, 7, 8, 9]), ([0, 1, 2], [6, 7, 8, 9]), ([0, 1, 2, 3, 4, 5], [7, 8, 9]), ([0, 1, 2, 3, 4, 5, 6], [8, 9]), ([0, 1, 2, 3, 4, 5, 6, 7], [9]), ([0, 1, 2, 3, 4, 5, 6, 7, 8], [])] (fun L ac w => St 21 w0 [(12, L 0, .int .i64 ((ec x2 : Nat) : Int)), (13, L 1, .bool false), (14, L 2, .bool false), (15, L 3, undef), (16, L 4, undef), (17, L 5, undef), (18, L 6, undef), (19, L 7, undef), (20, L 8, .bool false), (4, L 9, .bool false), (2, true, .pointer (some ⟨g1, 0, none⟩)), (4, true, .bool false), (5, true, .pointer (some ⟨g3, 0, none⟩)), (6, true, .int .i64 ((ec x2 : Nat) : Int))] [(true, g1, 32, (tab .u8 32 f)), (true, g3, 25, (Wl x2))] ac w) (by kernel_rfl) (by kernel_rfl) ?_ ?_ ?_
    · exact hs.drew.skip.skip.skip.skip.skip.skip.skip.skip.skip.skip
    · refine ⟨?_, ?_, ?_, ?_, ?_, ?_, ?_, ?_, ?_, ?_, trivial⟩
      · intro L ac w hJ
        have hs := hJ
        refine wpO_plain rfl (op_move hs (some 0) rfl rfl rfl rfl fun ac hs => ?_)
        exact hs
      · intro L ac w hJ
        have hs := hJ
        refine wpO_plain rfl (op_bin hs (some 1) (v := .bool false) rfl rfl rfl rfl (fun _ => rfl) (fun w => dF (fun hh => ec_zero.1 hh hq4) (bin_eqlN (x := ec x2) (y := 0) w)) rfl fun ac hs => ?_)
        exact hs
      · intro L ac w hJ
        have hs := hJ
        refine wpO_plain rfl (op_move hs (some 2) rfl rfl rfl rfl fun ac hs => ?_)
        exact hs
      · intro L ac w hJ
        have hs := hJ
        refine wpO_out hs (some 3) rfl rfl (.inl rfl) rfl rfl fun ac hs => ?_
        exact hs
      · intro L ac w hJ
        have hs := hJ
        refine wpO_out hs (some 4) rfl rfl (.inl rfl) rfl rfl fun ac hs => ?_
        exact hs
      · intro L ac w hJ
        have hs := hJ
        refine wpO_out hs (some 5) rfl rfl (.inl rfl) rfl rfl fun ac hs => ?_
        exact hs
      · intro L ac w hJ
        have hs := hJ
        refine wpO_out hs (some 6) rfl rfl (.inl rfl) rfl rfl fun ac hs => ?_
        exact hs
      · intro L ac w hJ
        have hs := hJ
        refine wpO_out hs (some 7) rfl rfl (.inl rfl) rfl rfl fun ac hs => ?_
        exact hs
      · intro L ac w hJ
        have hs := hJ
        refine wpO_plain rfl (op_pickF hs (some 8) rfl rfl rfl rfl rfl fun ac hs => ?_)
        exact hs
      · intro L ac w hJ
        have hs := hJ
        refine wpO_plain rfl (op_assign hs (some 9) rfl rfl rfl rfl fun ac hs => ?_)
        exact hs
    intro ac w hJ
    replace hs : St 21 w0 [(12, true, .int .i64 ((ec x2 : Nat) : Int)), (13, true, .bool false), (14, true, .bool false), (15, true, undef), (16, true, undef), (17, true, undef), (18, true, undef), (19, true, undef), (20, true, .bool false), (4, true, .bool false), (2, true, .pointer (some ⟨g1, 0, none⟩)), (4, true, .bool false), (5, true, .pointer (some ⟨g3, 0, none⟩)), (6, true, .int .i64 ((ec x2 : Nat) : Int))] [(true, g1, 32, (tab .u8 32 f)), (true, g3, 25, (Wl x2))] ac w := hJ
    refine then_n ?_
    refine wp_ret ?_
    exact bodyPost_ret (res1 rfl (rv_t hs rfl)) hs.defers ⟨by rw [← hq, mts, hx2, decide_eq_false (fun hh => hh hq4), Bool.false_and], hs.below⟩
  · skip
    replace hs : St 21 w0 [(2, true, .pointer (some ⟨g1, 0, none⟩)), (4, true, .bool false), (5, true, .pointer (some ⟨g3, 0, none⟩)), (6, true, .int .i64 ((ec x2 : Nat) : Int))] [(true, g1, 32, (tab .u8 32 f)), (true, g3, 25, (Wl x2))] ac w := hs.re ⟨rfl, rfl, rfl, rfl, trivial⟩
    obtain ⟨a5, ha5, la5⟩ : ∃ z0, pr (rvb f) 0 32 = z0 ∧ z0 < 2 ^ 256 := ⟨_, rfl, pr_lt32 (rvb_lt hf)⟩
    refine region_inv [([], [1, 2, 3, 4, 5, 6, 7, 8, 9]), ([0], [2, 3, 4, 5, 6, 7, 8, 9]), ([0, 1], [3, 4, 5, 6, 7, 8, 9]), ([0, 1, 2], [4, 6, 7, 8, 9]), ([0, 1, 2, 3], [6, 7, 8, 9]), ([0, 1, 2], [6, 7, 8, 9]), ([0, 1, 2, 3, 4, 5], [7, 8, 9]), ([0, 1, 2, 3, 4, 5, 6], [8, 9]), ([0, 1, 2, 3, 4, 5, 6, 7], [9]), ([0, 1, 2, 3, 4, 5, 6, 7, 8], [])] (fun L ac w => St 21 w0 [(12, L 0, .int .i64 ((ec x2 : Nat) : Int)), (13, L 1, .bool true), (14, L 2, .bool true), (15, L 3, At .u8 32 f), (16, L 4, W a5), (17, L 5, W x2), (18, L 6, .int .i64 (cmpZ a5 x2)), (19, L 7, .bool (decide (a5 ≤ x2))), (20, L 8, .bool (decide (a5 ≤ x2))), (4, L 9, .bool (decide (a5 ≤ x2))), (2, true, .pointer (some ⟨g1, 0, none⟩)), (4, true, .bool false), (5, true, .pointer (some ⟨g3, 0, none⟩)), (6, true, .int .i64 ((ec x2 : Nat) : Int))] [(true, g1, 32, (tab .u8 32 f)), (true, g3, 25, (Wl x2))] ac w) (by kernel_rfl) (by kernel_rfl) ?_ ?_ ?_
    · exact hs.drew.skip.skip.skip.skip.skip.skip.skip.skip.skip.skip
    · refine ⟨?_, ?_, ?_, ?_, ?_, ?_, ?_, ?_, ?_, ?_, trivial⟩
      · intro L ac w hJ
        have hs := hJ
        refine wpO_plain rfl (op_move hs (some 0) rfl rfl rfl rfl fun ac hs => ?_)
        exact hs
      · intro L ac w hJ
        have hs := hJ
        refine wpO_plain rfl (op_bin hs (some 1) (v := .bool true) rfl rfl rfl rfl (fun _ => rfl) (fun w => dT (ec_zero.2 hq4) (bin_eqlN (x := ec x2) (y := 0) w)) rfl fun ac hs => ?_)
        exact hs
      · intro L ac w hJ
        have hs := hJ
        refine wpO_plain rfl (op_move hs (some 2) rfl rfl rfl rfl fun ac hs => ?_)
        exact hs
      · intro L ac w hJ
        have hs := hJ
        refine wpO_in hs rfl rfl rfl (op_load hs (some 3) 0 (v := At .u8 32 f) rfl rfl rfl rfl Try.isAgg32 Try.sizeOf32 ldv_tab rfl fun ac hs => ?_)
        exact hs
      · intro L ac w hJ
        have hs := hJ
        refine wpO_in hs rfl rfl rfl (op_call (F := 32) hs (some 4) (v := W a5) rfl rfl rfl rfl (Try.call32 _) (number_c f a5 hf ha5) rfl fun ac w hs => ?_)
        exact hs
      · intro L ac w hJ
        have hs := hJ
        refine wpO_in hs rfl rfl rfl (op_load hs (some 5) 1 (v := W x2) rfl rfl rfl rfl Try.isAgg25 Try.sizeOf25 rfl rfl fun ac hs => ?_)
        exact hs
      · intro L ac w hJ
        have hs := hJ
        refine wpO_in hs rfl rfl rfl (op_call (F := 18) hs (some 6) (v := .int .i64 (cmpZ a5 x2)) rfl rfl rfl rfl (Try.call18 _) (fun w => cmp_any w a5 x2 la5 lx2) rfl fun ac w hs => ?_)
        exact hs
      · intro L ac w hJ
        have hs := hJ
        refine wpO_in hs rfl rfl rfl (op_bin hs (some 7) (v := .bool (decide (a5 ≤ x2))) rfl rfl rfl rfl (fun _ => rfl) (bin_cmp_leq a5 x2) rfl fun ac hs => ?_)
        exact hs
      · intro L ac w hJ
        have hs := hJ
        refine wpO_plain rfl (op_pickT hs (some 8) rfl rfl rfl rfl rfl fun ac hs => ?_)
        exact hs
      · intro L ac w hJ
        have hs := hJ
        refine wpO_plain rfl (op_assign hs (some 9) rfl rfl rfl rfl fun ac hs => ?_)
        exact hs
    intro ac w hJ
    replace hs : St 21 w0 [(12, true, .int .i64 ((ec x2 : Nat) : Int)), (13, true, .bool true), (14, true, .bool true), (15, true, At .u8 32 f), (16, true, W a5), (17, true, W x2), (18, true, .int .i64 (cmpZ a5 x2)), (19, true, .bool (decide (a5 ≤ x2))), (20, true, .bool (decide (a5 ≤ x2))), (4, true, .bool (decide (a5 ≤ x2))), (2, true, .pointer (some ⟨g1, 0, none⟩)), (4, true, .bool false), (5, true, .pointer (some ⟨g3, 0, none⟩)), (6, true, .int .i64 ((ec x2 : Nat) : Int))] [(true, g1, 32, (tab .u8 32 f)), (true, g3, 25, (Wl x2))] ac w := hJ
    refine then_n ?_
    refine wp_ret ?_
    exact bodyPost_ret (res1 rfl (rv_t hs rfl)) hs.defers ⟨by rw [← hq, mts, hx2, decide_eq_true hq4, Bool.true_and, ha5], hs.below⟩
theorem work_c (b w : Nat) (hb : b < 4294967296) (hw : wrk b = w) (w0 : World) : Calls Try.prog 16 #[.int .u32 ((b : Nat) : Int)] w0 fun e w' => e = .returned (W w) ∧ Below w0.heap.size w0 w' := by
  refine enter (n := 48) (args := [.int .u32 ((b : Nat) : Int)]) Try.func16 rfl rfl (Nat.le_of_ble_eq_true rfl) fun ac hs => ?_
  refine wp_seq ?_
  refine wp_region_lit ?_
  refine lstep (wpO_plain rfl (op_alloc hs none none (cs := [.int .u64 0, .int .u64 0, .int .u64 0, .int .u64 0]) rfl rfl Try.zeroValue25 (by kernel_rfl) rfl rfl fun g1 ac w hs => ?_))
  refine wpList_nil ?_
  refine then_n ?_
  refine wp_seq ?_
  refine wp_region_lit ?_
  refine lstep (wpO_plain rfl (op_move hs none rfl rfl rfl rfl fun ac hs => ?_))
  obtain ⟨x2, hx2, lx2⟩ : ∃ z0, tgt b = z0 ∧ z0 < 2 ^ 256 := ⟨_, rfl, tgt_lt' _⟩
  refine lstep (wpO_plain rfl (op_call (F := 9) hs none (v := .tuple #[W x2, .int .i64 ((ec x2 : Nat) : Int)]) rfl rfl rfl rfl (Try.call9 _) (expand_c b x2 (show b < 4294967296 by omega) hx2) rfl fun ac w hs => ?_))
  refine lstep (wpO_plain rfl (op_move hs none rfl rfl rfl rfl fun ac hs => ?_))
  refine lstep (wpO_plain rfl (op_extract hs none rfl rfl rfl rfl rfl fun ac hs => ?_))
  refine lstep (wpO_plain rfl (op_extract hs none rfl rfl rfl rfl rfl fun ac hs => ?_))
  refine lstep (wpO_plain rfl (op_alloc hs none none (cs := [.int .u64 0, .int .u64 0, .int .u64 0, .int .u64 0]) rfl rfl Try.zeroValue25 (by kernel_rfl) rfl rfl fun g3 ac w hs => ?_))
  refine lstep (wpO_plain rfl (op_store hs 1 (vs := (Wl x2)) rfl rfl rfl rfl rfl Try.sizeOf25 rfl rfl rfl rfl rfl fun w hs => ?_))
  refine lstep (wpO_plain rfl (op_assign hs none rfl rfl rfl rfl fun ac hs => ?_))
  refine wpList_nil ?_
  refine then_n ?_
  refine wp_seq ?_
  refine wp_seq ?_
  by_cases hq4 : x2 = 0
  · skip
    refine wp_region_lit ?_
    refine lstep (wpO_plain rfl (op_move hs none rfl rfl rfl rfl fun ac hs => ?_))
    refine lstep (wpO_plain rfl (op_bin hs none (v := .bool true) rfl rfl rfl rfl (fun _ => rfl) (fun w => dT (by rw [ec, if_pos hq4]; decide) (bin_neqN (x := ec x2) (y := 0) w)) rfl fun ac hs => ?_))
    refine wpList_nil ?_
    refine then_n ?_
    refine wp_cond_true (hs.ev rfl) ?_
    refine wp_seq ?_
    refine wp_region_lit ?_
    refine lstep (wpO_plain rfl (op_build hs none (qs := []) (v := .agg #[.int .u64 0, .int .u64 0, .int .u64 0, .int .u64 0]) rfl rfl rfl rfl (fun _ => by kernel_rfl) rfl fun ac hs => ?_))
    refine lstep (wpO_plain rfl (op_store hs 0 (vs := [.int .u64 0, .int .u64 0, .int .u64 0, .int .u64 0]) rfl rfl rfl rfl rfl Try.sizeOf25 rfl rfl rfl rfl rfl fun w hs => ?_))
    refine wpList_nil ?_
    refine then_n ?_
    refine wp_ret ?_
    refine then_r ?_
    exact bodyPost_ret (res1 rfl (rv_c hs 0 (v := .agg #[.int .u64 0, .int .u64 0, .int .u64 0, .int .u64 0]) rfl rfl Try.isAgg25 Try.sizeOf25 rfl)) hs.defers ⟨by rw [← hw, wrk, if_pos (hx2.trans hq4)]; rfl, hs.below⟩
  · skip
    refine wp_region_lit ?_
    refine lstep (wpO_plain rfl (op_move hs none rfl rfl rfl rfl fun ac hs => ?_))
    refine lstep (wpO_plain rfl (op_bin hs none (v := .bool false) rfl rfl rfl rfl (fun _ => rfl) (fun w => dF (fun hh => hh (ec_zero.2 hq4)) (bin_neqN (x := ec x2) (y := 0) w)) rfl fun ac hs => ?_))
    refine wpList_nil ?_
    refine then_n ?_
    refine wp_cond_false (hs.ev rfl) ?_
    refine wp_skip ?_
    refine then_n ?_
    refine wp_seq ?_
    replace hs : St 48 w0 [(2, true, .pointer (some ⟨g1, 0, none⟩)), (3, true, .pointer (some ⟨g3, 0, none⟩))] [(true, g1, 25, [.int .u64 0, .int .u64 0, .int .u64 0, .int .u64 0]), (true, g3, 25, (Wl x2))] ac w := hs.re ⟨rfl, rfl, trivial⟩
    obtain ⟨s5, hs5, ls5⟩ : ∃ z0, (x2 + 1) % 2 ^ 256 = z0 ∧ z0 < 2 ^ 256 := ⟨_, rfl, Nat.mod_lt _ (Nat.two_pow_pos 256)⟩
    obtain ⟨c6, hc6⟩ : ∃ z0, (x2 + 1) / 2 ^ 256 = z0 := ⟨_, rfl⟩
    refine region_inv [([], [2, 3, 4, 5, 7, 8]), ([], [2, 3, 4, 5, 7, 8]), ([0, 1], [3, 4, 5, 7, 8]), ([0, 1, 2], [4, 5, 7, 8]), ([0, 1, 2, 3], [7, 8]), ([0, 1, 2, 3], [8]), ([], [7, 8]), ([0, 1, 2, 3, 4, 6], [8]), ([0, 1, 2, 3, 4, 5, 6, 7], [])] (fun L ac w => ∃ (g7 : Nat), St 48 w0 [(23, L 0, W x2), (24, L 1, W 1), (25, L 2, .tuple #[W s5, .int .u64 ((c6 : Nat) : Int)]), (22, L 3, .tuple #[W s5, .int .u64 ((c6 : Nat) : Int)]), (26, L 4, W s5), (27, L 5, .int .u64 ((c6 : Nat) : Int)), (5, L 6, .pointer (some ⟨g7, 0, none⟩)), (6, L 8, .int .u64 ((c6 : Nat) : Int)), (2, true, .pointer (some ⟨g1, 0, none⟩)), (3, true, .pointer (some ⟨g3, 0, none⟩))] [(true, g1, 25, [.int .u64 0, .int .u64 0, .int .u64 0, .int .u64 0]), (true, g3, 25, (Wl x2)), (L 6, g7, 25, (cond (L 7) (Wl s5) [.int .u64 0, .int .u64 0, .int .u64 0, .int .u64 0]))] ac w) (by kernel_rfl) (by kernel_rfl) ?_ ?_ ?_
    · exact ⟨0, hs.drew.skip.skip.skip.skip.skip.skip.skip.skip.pad⟩
    · refine ⟨?_, ?_, ?_, ?_, ?_, ?_, ?_, ?_, ?_, trivial⟩
      · intro L ac w hJ
        obtain ⟨g7, hs⟩ := hJ
        refine wpO_plain rfl (op_load hs (some 0) 1 (v := W x2) rfl rfl rfl rfl Try.isAgg25 Try.sizeOf25 rfl rfl fun ac hs => ?_)
        exact ⟨g7, hs⟩
      · intro L ac w hJ
        obtain ⟨g7, hs⟩ := hJ
        refine wpO_plain rfl (op_call (F := 25) hs (some 1) (v := W 1) rfl rfl rfl rfl (Try.call25 _) (fun w => from_any w 1 (by decide)) rfl fun ac w hs => ?_)
        exact ⟨g7, hs⟩
      · intro L ac w hJ
        obtain ⟨g7, hs⟩ := hJ
        refine wpO_plain rfl (op_call (F := 21) hs (some 2) (v := .tuple #[W s5, .int .u64 ((c6 : Nat) : Int)]) rfl rfl rfl rfl (Try.call21 _) (fun w => add_at w x2 1 s5 c6 lx2 (by decide) hs5 hc6) rfl fun ac w hs => ?_)
        exact ⟨g7, hs⟩
      · intro L ac w hJ
        obtain ⟨g7, hs⟩ := hJ
        refine wpO_plain rfl (op_move hs (some 3) rfl rfl rfl rfl fun ac hs => ?_)
        exact ⟨g7, hs⟩
      · intro L ac w hJ
        obtain ⟨g7, hs⟩ := hJ
        refine wpO_plain rfl (op_extract hs (some 4) rfl rfl rfl rfl rfl fun ac hs => ?_)
        exact ⟨g7, hs⟩
      · intro L ac w hJ
        obtain ⟨g7, hs⟩ := hJ
        refine wpO_plain rfl (op_extract hs (some 5) rfl rfl rfl rfl rfl fun ac hs => ?_)
        exact ⟨g7, hs⟩
      · intro L ac w hJ
        obtain ⟨g7, hs⟩ := hJ
        refine wpO_plain rfl (op_alloc hs (some 6) (some 2) (cs := [.int .u64 0, .int .u64 0, .int .u64 0, .int .u64 0]) rfl rfl Try.zeroValue25 (by kernel_rfl) rfl rfl fun g7 ac w hs => ?_)
        exact ⟨g7, hs⟩
      · intro L ac w hJ
        obtain ⟨g7, hs⟩ := hJ
        refine wpO_plain rfl (op_store hs 2 (vs := (Wl s5)) rfl rfl rfl rfl rfl Try.sizeOf25 rfl rfl rfl rfl rfl fun w hs => ?_)
        exact ⟨g7, hs⟩
      · intro L ac w hJ
        obtain ⟨g7, hs⟩ := hJ
        refine wpO_plain rfl (op_assign hs (some 7) rfl rfl rfl rfl fun ac hs => ?_)
        exact ⟨g7, hs⟩
    intro ac w hJ
    obtain ⟨g7, hs⟩ := hJ
    replace hs : St 48 w0 [(23, true, W x2), (24, true, W 1), (25, true, .tuple #[W s5, .int .u64 ((c6 : Nat) : Int)]), (22, true, .tuple #[W s5, .int .u64 ((c6 : Nat) : Int)]), (26, true, W s5), (27, true, .int .u64 ((c6 : Nat) : Int)), (5, true, .pointer (some ⟨g7, 0, none⟩)), (6, true, .int .u64 ((c6 : Nat) : Int)), (2, true, .pointer (some ⟨g1, 0, none⟩)), (3, true, .pointer (some ⟨g3, 0, none⟩))] [(true, g1, 25, [.int .u64 0, .int .u64 0, .int .u64 0, .int .u64 0]), (true, g3, 25, (Wl x2)), (true, g7, 25, (Wl s5))] ac w := hs
    refine then_n ?_
    refine wp_seq ?_
    refine wp_region_lit ?_
    refine lstep (wpO_plain rfl (op_build hs none (qs := []) (v := .agg #[.int .u64 0, .int .u64 0, .int .u64 0, .int .u64 0]) rfl rfl rfl rfl (fun _ => by kernel_rfl) rfl fun ac hs => ?_))
    refine lstep (wpO_plain rfl (op_load hs none 2 (v := W s5) rfl rfl rfl rfl Try.isAgg25 Try.sizeOf25 rfl rfl fun ac hs => ?_))
    obtain ⟨d8, hd8, ld8⟩ : ∃ z0, (0 + 2 ^ 256 - s5) % 2 ^ 256 = z0 ∧ z0 < 2 ^ 256 := ⟨_, rfl, Nat.mod_lt _ (Nat.two_pow_pos 256)⟩
    obtain ⟨c9, hc9⟩ : ∃ z0, bor 0 s5 = z0 := ⟨_, rfl⟩
    refine lstep (wpO_plain rfl (op_call (F := 19) hs none (v := .tuple #[W d8, .int .u64 ((c9 : Nat) : Int)]) rfl rfl rfl rfl (Try.call19 _) (fun w => sub_at w 0 s5 d8 c9 (by decide) ls5 hd8 hc9) rfl fun ac w hs => ?_))
    refine lstep (wpO_plain rfl (op_move hs none rfl rfl rfl rfl fun ac hs => ?_))
    refine lstep (wpO_plain rfl (op_extract hs none rfl rfl rfl rfl rfl fun ac hs => ?_))
    refine lstep (wpO_plain rfl (op_extract hs none rfl rfl rfl rfl rfl fun ac hs => ?_))
    refine lstep (wpO_plain rfl (op_alloc hs none none (cs := [.int .u64 0, .int .u64 0, .int .u64 0, .int .u64 0]) rfl rfl Try.zeroValue25 (by kernel_rfl) rfl rfl fun g10 ac w hs => ?_))
    refine lstep (wpO_plain rfl (op_store hs 3 (vs := (Wl d8)) rfl rfl rfl rfl rfl Try.sizeOf25 rfl rfl rfl rfl rfl fun w hs => ?_))
    refine lstep (wpO_plain rfl (op_assign hs none rfl rfl rfl rfl fun ac hs => ?_))
    refine wpList_nil ?_
    refine then_n ?_
    refine wp_seq ?_
    refine wp_region_lit ?_
    refine lstep (wpO_plain rfl (op_load hs none 3 (v := W d8) rfl rfl rfl rfl Try.isAgg25 Try.sizeOf25 rfl rfl fun ac hs => ?_))
    refine lstep (wpO_plain rfl (op_load hs none 2 (v := W s5) rfl rfl rfl rfl Try.isAgg25 Try.sizeOf25 rfl rfl fun ac hs => ?_))
    obtain ⟨q11, hq11, lq11⟩ : ∃ z0, d8 / s5 = z0 ∧ z0 < 2 ^ 256 := ⟨_, rfl, Nat.lt_of_le_of_lt (Nat.div_le_self _ _) ld8⟩
    obtain ⟨r12, hr12, lr12⟩ : ∃ z0, d8 % s5 = z0 ∧ z0 < 2 ^ 256 := ⟨_, rfl, Nat.lt_trans (Nat.mod_lt _ (show 0 < s5 by have := tgt_lt b; rw [hx2] at this; omega)) ls5⟩
    refine lstep (wpO_plain rfl (op_call (F := 36) hs none (v := .tuple #[W q11, W r12, .int .i64 0]) rfl rfl rfl rfl (Try.call36 _) (wdiv_c d8 s5 q11 r12 ld8 ls5 (show 0 < s5 by have := tgt_lt b; rw [hx2] at this; omega) hq11 hr12) rfl fun ac w hs => ?_))
    refine lstep (wpO_plain rfl (op_move hs none rfl rfl rfl rfl fun ac hs => ?_))
    refine lstep (wpO_plain rfl (op_extract hs none rfl rfl rfl rfl rfl fun ac hs => ?_))
    refine lstep (wpO_plain rfl (op_extract hs none rfl rfl rfl rfl rfl fun ac hs => ?_))
    refine lstep (wpO_plain rfl (op_extract hs none rfl rfl rfl rfl rfl fun ac hs => ?_))
    refine lstep (wpO_plain rfl (op_alloc hs none none (cs := [.int .u64 0, .int .u64 0, .int .u64 0, .int .u64 0]) rfl rfl Try.zeroValue25 (by kernel_rfl) rfl rfl fun g13 ac w hs => ?_))
    refine lstep (wpO_plain rfl (op_alloc hs none none (cs := [.int .u64 0, .int .u64 0, .int .u64 0, .int .u64 0]) rfl rfl Try.zeroValue25 (by kernel_rfl) rfl rfl fun g14 ac w hs => ?_))
    refine lstep (wpO_plain rfl (op_store hs 4 (vs := (Wl q11)) rfl rfl rfl rfl rfl Try.sizeOf25 rfl rfl rfl rfl rfl fun w hs => ?_))
    refine lstep (wpO_plain rfl (op_store hs 5 (vs := (Wl r12)) rfl rfl rfl rfl rfl Try.sizeOf25 rfl rfl rfl rfl rfl fun w hs => ?_))
    refine lstep (wpO_plain rfl (op_assign hs none rfl rfl rfl rfl fun ac hs => ?_))
    refine wpList_nil ?_
    refine then_n ?_
    refine wp_seq ?_
    replace hs : St 48 w0 [(2, true, .pointer (some ⟨g1, 0, none⟩)), (9, true, .pointer (some ⟨g13, 0, none⟩))] [(true, g1, 25, [.int .u64 0, .int .u64 0, .int .u64 0, .int .u64 0]), (true, g3, 25, (Wl x2)), (true, g7, 25, (Wl s5)), (true, g10, 25, (Wl d8)), (true, g13, 25, (Wl q11)), (true, g14, 25, (Wl r12))] ac w := hs.re ⟨rfl, rfl, trivial⟩
    obtain ⟨s15, hs15, ls15⟩ : ∃ z0, (q11 + 1) % 2 ^ 256 = z0 ∧ z0 < 2 ^ 256 := ⟨_, rfl, Nat.mod_lt _ (Nat.two_pow_pos 256)⟩
    obtain ⟨c16, hc16⟩ : ∃ z0, (q11 + 1) / 2 ^ 256 = z0 := ⟨_, rfl⟩
    refine region_inv [([], [2, 3, 4, 5, 7, 8]), ([], [2, 3, 4, 5, 7, 8]), ([0, 1], [3, 4, 5, 7, 8]), ([0, 1, 2], [4, 5, 7, 8]), ([0, 1, 2, 3], [7, 8]), ([0, 1, 2, 3], [8]), ([], [7, 8]), ([0, 1, 2, 3, 4, 6], [8]), ([0, 1, 2, 3, 4, 5, 6, 7], [])] (fun L ac w => ∃ (g17 : Nat), St 48 w0 [(42, L 0, W q11), (43, L 1, W 1), (44, L 2, .tuple #[W s15, .int .u64 ((c16 : Nat) : Int)]), (41, L 3, .tuple #[W s15, .int .u64 ((c16 : Nat) : Int)]), (45, L 4, W s15), (46, L 5, .int .u64 ((c16 : Nat) : Int)), (12, L 6, .pointer (some ⟨g17, 0, none⟩)), (13, L 8, .int .u64 ((c16 : Nat) : Int)), (2, true, .pointer (some ⟨g1, 0, none⟩)), (9, true, .pointer (some ⟨g13, 0, none⟩))] [(true, g1, 25, [.int .u64 0, .int .u64 0, .int .u64 0, .int .u64 0]), (true, g3, 25, (Wl x2)), (true, g7, 25, (Wl s5)), (true, g10, 25, (Wl d8)), (true, g13, 25, (Wl q11)), (true, g14, 25, (Wl r12)), (L 6, g17, 25, (cond (L 7) (Wl s15) [.int .u64 0, .int .u64 0, .int .u64 0, .int .u64 0]))] ac w) (by kernel_rfl) (by kernel_rfl) ?_ ?_ ?_
    · exact ⟨0, hs.drew.skip.skip.skip.skip.skip.skip.skip.skip.pad⟩
    · refine ⟨?_, ?_, ?_, ?_, ?_, ?_, ?_, ?_, ?_, trivial⟩
      · intro L ac w hJ
        obtain ⟨g17, hs⟩ := hJ
        refine wpO_plain rfl (op_load hs (some 0) 4 (v := W q11) rfl rfl rfl rfl Try.isAgg25 Try.sizeOf25 rfl rfl fun ac hs => ?_)
        exact ⟨g17, hs⟩
      · intro L ac w hJ
        obtain ⟨g17, hs⟩ := hJ
        refine wpO_plain rfl (op_call (F := 25) hs (some 1) (v := W 1) rfl rfl rfl rfl (Try.call25 _) (fun w => from_any w 1 (by decide)) rfl fun ac w hs => ?_)
        exact ⟨g17, hs⟩
      · intro L ac w hJ
        obtain ⟨g17, hs⟩ := hJ
        refine wpO_plain rfl (op_call (F := 21) hs (some 2) (v := .tuple #[W s15, .int .u64 ((c16 : Nat) : Int)]) rfl rfl rfl rfl (Try.call21 _) (fun w => add_at w q11 1 s15 c16 lq11 (by decide) hs15 hc16) rfl fun ac w hs => ?_)
        exact ⟨g17, hs⟩
      · intro L ac w hJ
        obtain ⟨g17, hs⟩ := hJ
        refine wpO_plain rfl (op_move hs (some 3) rfl rfl rfl rfl fun ac hs => ?_)
        exact ⟨g17, hs⟩
      · intro L ac w hJ
        obtain ⟨g17, hs⟩ := hJ
        refine wpO_plain rfl (op_extract hs (some 4) rfl rfl rfl rfl rfl fun ac hs => ?_)
        exact ⟨g17, hs⟩
      · intro L ac w hJ
        obtain ⟨g17, hs⟩ := hJ
        refine wpO_plain rfl (op_extract hs (some 5) rfl rfl rfl rfl rfl fun ac hs => ?_)
        exact ⟨g17, hs⟩
      · intro L ac w hJ
        obtain ⟨g17, hs⟩ := hJ
        refine wpO_plain rfl (op_alloc hs (some 6) (some 6) (cs := [.int .u64 0, .int .u64 0, .int .u64 0, .int .u64 0]) rfl rfl Try.zeroValue25 (by kernel_rfl) rfl rfl fun g17 ac w hs => ?_)
        exact ⟨g17, hs⟩
      · intro L ac w hJ
        obtain ⟨g17, hs⟩ := hJ
        refine wpO_plain rfl (op_store hs 6 (vs := (Wl s15)) rfl rfl rfl rfl rfl Try.sizeOf25 rfl rfl rfl rfl rfl fun w hs => ?_)
        exact ⟨g17, hs⟩
      · intro L ac w hJ
        obtain ⟨g17, hs⟩ := hJ
        refine wpO_plain rfl (op_assign hs (some 7) rfl rfl rfl rfl fun ac hs => ?_)
        exact ⟨g17, hs⟩
    intro ac w hJ
    obtain ⟨g17, hs⟩ := hJ
    replace hs : St 48 w0 [(42, true, W q11), (43, true, W 1), (44, true, .tuple #[W s15, .int .u64 ((c16 : Nat) : Int)]), (41, true, .tuple #[W s15, .int .u64 ((c16 : Nat) : Int)]), (45, true, W s15), (46, true, .int .u64 ((c16 : Nat) : Int)), (12, true, .pointer (some ⟨g17, 0, none⟩)), (13, true, .int .u64 ((c16 : Nat) : Int)), (2, true, .pointer (some ⟨g1, 0, none⟩)), (9, true, .pointer (some ⟨g13, 0, none⟩))] [(true, g1, 25, [.int .u64 0, .int .u64 0, .int .u64 0, .int .u64 0]), (true, g3, 25, (Wl x2)), (true, g7, 25, (Wl s5)), (true, g10, 25, (Wl d8)), (true, g13, 25, (Wl q11)), (true, g14, 25, (Wl r12)), (true, g17, 25, (Wl s15))] ac w := hs
    refine then_n ?_
    refine wp_seq ?_
    refine wp_region_lit ?_
    refine lstep (wpO_plain rfl (op_load hs none 6 (v := W s15) rfl rfl rfl rfl Try.isAgg25 Try.sizeOf25 rfl rfl fun ac hs => ?_))
    refine lstep (wpO_plain rfl (op_store hs 0 (vs := (Wl s15)) rfl rfl rfl rfl rfl Try.sizeOf25 rfl rfl rfl rfl rfl fun w hs => ?_))
    refine wpList_nil ?_
    refine then_n ?_
    refine wp_ret ?_
    exact bodyPost_ret (res1 rfl (rv_c hs 0 (v := W s15) rfl rfl Try.isAgg25 Try.sizeOf25 rfl)) hs.defers ⟨by rw [← hw, ← wrk_prog (fun hh => hq4 (hx2.symm.trans hh)) (by rw [hx2]; exact hs5) hd8 hq11 hs15], hs.below⟩
set_option maxHeartbeats 2000000 in
theorem next_c (b : Nat) (n : Int) (x' : Nat) (hb : b < 4294967296) (hx' : nxt b n = x') (w0 : World) : Calls Try.prog 23 #[.int .u32 ((b : Nat) : Int), .int .i64 n] w0 fun e w' => e = .returned (.int .u32 ((x' : Nat) : Int)) ∧ Below w0.heap.size w0 w' := by
  obtain ⟨sp, hsp⟩ : ∃ sp : Nat, min (max n 1200) 19200 = (sp : Int) := ⟨(min (max n 1200) 19200).toNat, by omega⟩
  refine enter (n := 55) (args := [.int .u32 ((b : Nat) : Int), .int .i64 n]) Try.func23 rfl rfl (Nat.le_of_ble_eq_true rfl) fun ac hs => ?_
  refine wp_seq ?_
  refine wp_region_lit ?_
  refine lstep (wpO_plain rfl (op_assign hs none rfl rfl rfl rfl fun ac hs => ?_))
  refine wpList_nil ?_
  refine then_n ?_
  refine wp_seq ?_
  refine wp_region_lit ?_
  refine lstep (wpO_plain rfl (op_move hs none rfl rfl rfl rfl fun ac hs => ?_))
  obtain ⟨x1, hx1, lx1⟩ : ∃ z0, tgt b = z0 ∧ z0 < 2 ^ 256 := ⟨_, rfl, tgt_lt' _⟩
  refine lstep (wpO_plain rfl (op_call (F := 9) hs none (v := .tuple #[W x1, .int .i64 ((ec x1 : Nat) : Int)]) rfl rfl rfl rfl (Try.call9 _) (expand_c b x1 (show b < 4294967296 by omega) hx1) rfl fun ac w hs => ?_))
  refine lstep (wpO_plain rfl (op_move hs none rfl rfl rfl rfl fun ac hs => ?_))
  refine lstep (wpO_plain rfl (op_extract hs none rfl rfl rfl rfl rfl fun ac hs => ?_))
  refine lstep (wpO_plain rfl (op_extract hs none rfl rfl rfl rfl rfl fun ac hs => ?_))
  refine lstep (wpO_plain rfl (op_alloc hs none none (cs := [.int .u64 0, .int .u64 0, .int .u64 0, .int .u64 0]) rfl rfl Try.zeroValue25 (by kernel_rfl) rfl rfl fun g2 ac w hs => ?_))
  refine lstep (wpO_plain rfl (op_store hs 0 (vs := (Wl x1)) rfl rfl rfl rfl rfl Try.sizeOf25 rfl rfl rfl rfl rfl fun w hs => ?_))
  refine lstep (wpO_plain rfl (op_assign hs none rfl rfl rfl rfl fun ac hs => ?_))
  refine wpList_nil ?_
  refine then_n ?_
  refine wp_seq ?_
  refine wp_seq ?_
  by_cases hq3 : x1 = 0
  · skip
    refine wp_region_lit ?_
    refine lstep (wpO_plain rfl (op_move hs none rfl rfl rfl rfl fun ac hs => ?_))
    refine lstep (wpO_plain rfl (op_bin hs none (v := .bool true) rfl rfl rfl rfl (fun _ => rfl) (fun w => dT (by rw [ec, if_pos hq3]; decide) (bin_neqN (x := ec x1) (y := 0) w)) rfl fun ac hs => ?_))
    refine wpList_nil ?_
    refine then_n ?_
    refine wp_cond_true (hs.ev rfl) ?_
    refine wp_seq ?_
    refine wp_region_lit ?_
    refine lstep (wpO_plain rfl (op_assign hs none rfl rfl rfl rfl fun ac hs => ?_))
    refine wpList_nil ?_
    refine then_n ?_
    refine wp_ret ?_
    refine then_r ?_
    exact bodyPost_ret (res1 rfl (rv_t hs rfl)) hs.defers ⟨by rw [← hx', nxt_none hx1 hq3]; first | done | rfl, hs.below⟩
  · skip
    refine wp_region_lit ?_
    refine lstep (wpO_plain rfl (op_move hs none rfl rfl rfl rfl fun ac hs => ?_))
    refine lstep (wpO_plain rfl (op_bin hs none (v := .bool false) rfl rfl rfl rfl (fun _ => rfl) (fun w => dF (fun hh => hh (ec_zero.2 hq3)) (bin_neqN (x := ec x1) (y := 0) w)) rfl fun ac hs => ?_))
    refine wpList_nil ?_
    refine then_n ?_
    refine wp_cond_false (hs.ev rfl) ?_
    refine wp_skip ?_
    refine then_n ?_
    refine wp_seq ?_
    refine wp_region_lit ?_
    refine lstep (wpO_plain rfl (op_move hs none rfl rfl rfl rfl fun ac hs => ?_))
    refine lstep (wpO_plain rfl (op_blt hs none (v := .int .i64 (max n 1200)) rfl rfl rfl blt_maxI rfl fun ac hs => ?_))
    refine lstep (wpO_plain rfl (op_blt hs none (v := .int .i64 (min (max n 1200) 19200)) rfl rfl rfl blt_minI rfl fun ac hs => ?_))
    refine lstep (wpO_plain rfl (op_assign hs none rfl rfl rfl rfl fun ac hs => ?_))
    refine wpList_nil ?_
    replace hs := hs.re (fs' := [(0, true, .int .u32 ((b : Nat) : Int)), (1, true, .int .i64 ((sp : Nat) : Int)), (4, true, .int .u32 0), (15, true, .int .u32 ((b : Nat) : Int)), (16, true, .tuple #[W x1, .int .i64 ((ec x1 : Nat) : Int)]), (14, true, .tuple #[W x1, .int .i64 ((ec x1 : Nat) : Int)]), (17, true, W x1), (18, true, .int .i64 ((ec x1 : Nat) : Int)), (5, true, .pointer (some ⟨g2, 0, none⟩)), (6, true, .int .i64 ((ec x1 : Nat) : Int)), (19, true, .int .i64 ((ec x1 : Nat) : Int)), (20, true, .bool false), (21, true, .int .i64 n), (22, true, .int .i64 (max n 1200)), (23, true, .int .i64 (min (max n 1200) 19200))]) ⟨rfl, congrArg some (by rw [hsp]), rfl, rfl, rfl, rfl, rfl, rfl, rfl, rfl, rfl, rfl, rfl, rfl, rfl, trivial⟩
    refine then_n ?_
    refine wp_seq ?_
    replace hs : St 55 w0 [(1, true, .int .i64 ((sp : Nat) : Int)), (4, true, .int .u32 0), (5, true, .pointer (some ⟨g2, 0, none⟩))] [(true, g2, 25, (Wl x1))] ac w := hs.re ⟨rfl, rfl, rfl, trivial⟩
    obtain ⟨q4, hq4, lq4⟩ : ∃ z0, x1 / 4800 = z0 ∧ z0 < 2 ^ 256 := ⟨_, rfl, Nat.lt_of_le_of_lt (Nat.div_le_self _ _) lx1⟩
    obtain ⟨r5, hr5, lr5⟩ : ∃ z0, x1 % 4800 = z0 ∧ z0 < 2 ^ 256 := ⟨_, rfl, Nat.lt_trans (Nat.mod_lt _ (by decide)) (by decide)⟩
    refine region_inv [([], [2, 3, 4, 5, 6, 9, 10, 11]), ([], [2, 3, 4, 5, 6, 9, 10, 11]), ([0, 1], [3, 4, 5, 6, 9, 10, 11]), ([0, 1, 2], [4, 5, 6, 9, 10, 11]), ([0, 1, 2, 3], [9, 10, 11]), ([0, 1, 2, 3], [10, 11]), ([0, 1, 2, 3], [11]), ([], [9, 10, 11]), ([], [9, 10, 11]), ([0, 1, 2, 3, 4, 7, 8], [10, 11]), ([0, 1, 2, 3, 4, 5, 7, 8, 9], [11]), ([0, 1, 2, 3, 4, 5, 6, 7, 8, 9, 10], [])] (fun L ac w => ∃ (g6 : Nat) (g7 : Nat), St 55 w0 [(25, L 0, W x1), (26, L 1, W 4800), (27, L 2, .tuple #[W q4, W r5, .int .i64 0]), (24, L 3, .tuple #[W q4, W r5, .int .i64 0]), (28, L 4, W q4), (29, L 5, W r5), (30, L 6, .int .i64 0), (7, L 7, .pointer (some ⟨g6, 0, none⟩)), (8, L 8, .pointer (some ⟨g7, 0, none⟩)), (9, L 11, .int .i64 0), (1, true, .int .i64 ((sp : Nat) : Int)), (4, true, .int .u32 0), (5, true, .pointer (some ⟨g2, 0, none⟩))] [(true, g2, 25, (Wl x1)), (L 7, g6, 25, (cond (L 9) (Wl q4) [.int .u64 0, .int .u64 0, .int .u64 0, .int .u64 0])), (L 8, g7, 25, (cond (L 10) (Wl r5) [.int .u64 0, .int .u64 0, .int .u64 0, .int .u64 0]))] ac w) (by kernel_rfl) (by kernel_rfl) ?_ ?_ ?_
    · exact ⟨0, 0, hs.drew.skip.skip.skip.skip.skip.skip.skip.skip.skip.skip.pad.pad⟩
    · refine ⟨?_, ?_, ?_, ?_, ?_, ?_, ?_, ?_, ?_, ?_, ?_, ?_, trivial⟩
      · intro L ac w hJ
        obtain ⟨g6, g7, hs⟩ := hJ
        refine wpO_plain rfl (op_load hs (some 0) 0 (v := W x1) rfl rfl rfl rfl Try.isAgg25 Try.sizeOf25 rfl rfl fun ac hs => ?_)
        exact ⟨g6, g7, hs⟩
      · intro L ac w hJ
        obtain ⟨g6, g7, hs⟩ := hJ
        refine wpO_plain rfl (op_call (F := 25) hs (some 1) (v := W 4800) rfl rfl rfl rfl (Try.call25 _) (fun w => from_any w 4800 (by decide)) rfl fun ac w hs => ?_)
        exact ⟨g6, g7, hs⟩
      · intro L ac w hJ
        obtain ⟨g6, g7, hs⟩ := hJ
        refine wpO_plain rfl (op_call (F := 36) hs (some 2) (v := .tuple #[W q4, W r5, .int .i64 0]) rfl rfl rfl rfl (Try.call36 _) (wdiv_c x1 4800 q4 r5 lx1 (by decide) (by decide) hq4 hr5) rfl fun ac w hs => ?_)
        exact ⟨g6, g7, hs⟩
      · intro L ac w hJ
        obtain ⟨g6, g7, hs⟩ := hJ
        refine wpO_plain rfl (op_move hs (some 3) rfl rfl rfl rfl fun ac hs => ?_)
        exact ⟨g6, g7, hs⟩
      · intro L ac w hJ
        obtain ⟨g6, g7, hs⟩ := hJ
        refine wpO_plain rfl (op_extract hs (some 4) rfl rfl rfl rfl rfl fun ac hs => ?_)
        exact ⟨g6, g7, hs⟩
      · intro L ac w hJ
        obtain ⟨g6, g7, hs⟩ := hJ
        refine wpO_plain rfl (op_extract hs (some 5) rfl rfl rfl rfl rfl fun ac hs => ?_)
        exact ⟨g6, g7, hs⟩
      · intro L ac w hJ
        obtain ⟨g6, g7, hs⟩ := hJ
        refine wpO_plain rfl (op_extract hs (some 6) rfl rfl rfl rfl rfl fun ac hs => ?_)
        exact ⟨g6, g7, hs⟩
      · intro L ac w hJ
        obtain ⟨g6, g7, hs⟩ := hJ
        refine wpO_plain rfl (op_alloc hs (some 7) (some 1) (cs := [.int .u64 0, .int .u64 0, .int .u64 0, .int .u64 0]) rfl rfl Try.zeroValue25 (by kernel_rfl) rfl rfl fun g6 ac w hs => ?_)
        exact ⟨g6, g7, hs⟩
      · intro L ac w hJ
        obtain ⟨g6, g7, hs⟩ := hJ
        refine wpO_plain rfl (op_alloc hs (some 8) (some 2) (cs := [.int .u64 0, .int .u64 0, .int .u64 0, .int .u64 0]) rfl rfl Try.zeroValue25 (by kernel_rfl) rfl rfl fun g7 ac w hs => ?_)
        exact ⟨g6, g7, hs⟩
      · intro L ac w hJ
        obtain ⟨g6, g7, hs⟩ := hJ
        refine wpO_plain rfl (op_store hs 1 (vs := (Wl q4)) rfl rfl rfl rfl rfl Try.sizeOf25 rfl rfl rfl rfl rfl fun w hs => ?_)
        exact ⟨g6, g7, hs⟩
      · intro L ac w hJ
        obtain ⟨g6, g7, hs⟩ := hJ
        refine wpO_plain rfl (op_store hs 2 (vs := (Wl r5)) rfl rfl rfl rfl rfl Try.sizeOf25 rfl rfl rfl rfl rfl fun w hs => ?_)
        exact ⟨g6, g7, hs⟩
      · intro L ac w hJ
        obtain ⟨g6, g7, hs⟩ := hJ
        refine wpO_plain rfl (op_assign hs (some 9) rfl rfl rfl rfl fun ac hs => ?_)
        exact ⟨g6, g7, hs⟩
    intro ac w hJ
    obtain ⟨g6, g7, hs⟩ := hJ
    replace hs : St 55 w0 [(25, true, W x1), (26, true, W 4800), (27, true, .tuple #[W q4, W r5, .int .i64 0]), (24, true, .tuple #[W q4, W r5, .int .i64 0]), (28, true, W q4), (29, true, W r5), (30, true, .int .i64 0), (7, true, .pointer (some ⟨g6, 0, none⟩)), (8, true, .pointer (some ⟨g7, 0, none⟩)), (9, true, .int .i64 0), (1, true, .int .i64 ((sp : Nat) : Int)), (4, true, .int .u32 0), (5, true, .pointer (some ⟨g2, 0, none⟩))] [(true, g2, 25, (Wl x1)), (true, g6, 25, (Wl q4)), (true, g7, 25, (Wl r5))] ac w := hs
    refine then_n ?_
    refine wp_seq ?_
    replace hs : St 55 w0 [(1, true, .int .i64 ((sp : Nat) : Int)), (4, true, .int .u32 0), (7, true, .pointer (some ⟨g6, 0, none⟩))] [(true, g2, 25, (Wl x1)), (true, g6, 25, (Wl q4)), (true, g7, 25, (Wl r5))] ac w := hs.re ⟨rfl, rfl, rfl, trivial⟩
    obtain ⟨lo8, hlo8, llo8⟩ : ∃ z0, q4 * sp % 2 ^ 256 = z0 ∧ z0 < 2 ^ 256 := ⟨_, rfl, Nat.mod_lt _ (Nat.two_pow_pos 256)⟩
    obtain ⟨hi9, hhi9, lhi9⟩ : ∃ z0, q4 * sp / 2 ^ 256 = z0 ∧ z0 < 2 ^ 256 := ⟨_, rfl, mul_hi lq4 (show sp < 2 ^ 256 by omega)⟩
    refine region_inv [([], [4, 5, 6, 7, 10, 11]), ([], [2, 3, 4, 5, 6, 7, 10, 11]), ([1], [3, 4, 5, 6, 7, 10, 11]), ([1, 2], [4, 5, 6, 7, 10, 11]), ([0, 1, 2, 3], [5, 6, 7, 10, 11]), ([0, 1, 2, 3, 4], [6, 7, 10, 11]), ([0, 1, 2, 3, 4, 5], [10, 11]), ([0, 1, 2, 3, 4, 5], [11]), ([], [10, 11]), ([], [10, 11]), ([0, 1, 2, 3, 4, 5, 6, 8, 9], [11]), ([0, 1, 2, 3, 4, 5, 6, 7, 8, 9, 10], [])] (fun L ac w => ∃ (g10 : Nat) (g11 : Nat), St 55 w0 [(32, L 0, W q4), (33, L 1, .int .i64 ((sp : Nat) : Int)), (34, L 2, .int .u64 ((sp : Nat) : Int)), (35, L 3, W sp), (36, L 4, .tuple #[W lo8, W hi9]), (31, L 5, .tuple #[W lo8, W hi9]), (37, L 6, W lo8), (38, L 7, W hi9), (10, L 8, .pointer (some ⟨g10, 0, none⟩)), (11, L 9, .pointer (some ⟨g11, 0, none⟩)), (1, true, .int .i64 ((sp : Nat) : Int)), (4, true, .int .u32 0), (7, true, .pointer (some ⟨g6, 0, none⟩))] [(true, g2, 25, (Wl x1)), (true, g6, 25, (Wl q4)), (true, g7, 25, (Wl r5)), (L 8, g10, 25, (cond (L 10) (Wl lo8) [.int .u64 0, .int .u64 0, .int .u64 0, .int .u64 0])), (L 9, g11, 25, (cond (L 11) (Wl hi9) [.int .u64 0, .int .u64 0, .int .u64 0, .int .u64 0]))] ac w) (by kernel_rfl) (by kernel_rfl) ?_ ?_ ?_
    · exact ⟨0, 0, hs.drew.skip.skip.skip.skip.skip.skip.skip.skip.skip.skip.pad.pad⟩
    · refine ⟨?_, ?_, ?_, ?_, ?_, ?_, ?_, ?_, ?_, ?_, ?_, ?_, trivial⟩
      · intro L ac w hJ
        obtain ⟨g10, g11, hs⟩ := hJ
        refine wpO_plain rfl (op_load hs (some 0) 1 (v := W q4) rfl rfl rfl rfl Try.isAgg25 Try.sizeOf25 rfl rfl fun ac hs => ?_)
        exact ⟨g10, g11, hs⟩
      · intro L ac w hJ
        obtain ⟨g10, g11, hs⟩ := hJ
        refine wpO_plain rfl (op_move hs (some 1) rfl rfl rfl rfl fun ac hs => ?_)
        exact ⟨g10, g11, hs⟩
      · intro L ac w hJ
        obtain ⟨g10, g11, hs⟩ := hJ
        refine wpO_plain rfl (op_convert hs (some 2) (v := .int .u64 ((sp : Nat) : Int)) rfl rfl rfl (conv_N Try.underlying2 Try.underlying23 (show sp < 18446744073709551616 by omega)) rfl fun ac hs => ?_)
        exact ⟨g10, g11, hs⟩
      · intro L ac w hJ
        obtain ⟨g10, g11, hs⟩ := hJ
        refine wpO_plain rfl (op_call (F := 25) hs (some 3) (v := W sp) rfl rfl rfl rfl (Try.call25 _) (fun w => from_any w sp (show sp < 2 ^ 64 by omega)) rfl fun ac w hs => ?_)
        exact ⟨g10, g11, hs⟩
      · intro L ac w hJ
        obtain ⟨g10, g11, hs⟩ := hJ
        refine wpO_plain rfl (op_call (F := 22) hs (some 4) (v := .tuple #[W lo8, W hi9]) rfl rfl rfl rfl (Try.call22 _) (fun w => wmul_at w q4 sp lo8 hi9 lq4 (show sp < 2 ^ 256 by omega) hlo8 hhi9) rfl fun ac w hs => ?_)
        exact ⟨g10, g11, hs⟩
      · intro L ac w hJ
        obtain ⟨g10, g11, hs⟩ := hJ
        refine wpO_plain rfl (op_move hs (some 5) rfl rfl rfl rfl fun ac hs => ?_)
        exact ⟨g10, g11, hs⟩
      · intro L ac w hJ
        obtain ⟨g10, g11, hs⟩ := hJ
        refine wpO_plain rfl (op_extract hs (some 6) rfl rfl rfl rfl rfl fun ac hs => ?_)
        exact ⟨g10, g11, hs⟩
      · intro L ac w hJ
        obtain ⟨g10, g11, hs⟩ := hJ
        refine wpO_plain rfl (op_extract hs (some 7) rfl rfl rfl rfl rfl fun ac hs => ?_)
        exact ⟨g10, g11, hs⟩
      · intro L ac w hJ
        obtain ⟨g10, g11, hs⟩ := hJ
        refine wpO_plain rfl (op_alloc hs (some 8) (some 3) (cs := [.int .u64 0, .int .u64 0, .int .u64 0, .int .u64 0]) rfl rfl Try.zeroValue25 (by kernel_rfl) rfl rfl fun g10 ac w hs => ?_)
        exact ⟨g10, g11, hs⟩
      · intro L ac w hJ
        obtain ⟨g10, g11, hs⟩ := hJ
        refine wpO_plain rfl (op_alloc hs (some 9) (some 4) (cs := [.int .u64 0, .int .u64 0, .int .u64 0, .int .u64 0]) rfl rfl Try.zeroValue25 (by kernel_rfl) rfl rfl fun g11 ac w hs => ?_)
        exact ⟨g10, g11, hs⟩
      · intro L ac w hJ
        obtain ⟨g10, g11, hs⟩ := hJ
        refine wpO_plain rfl (op_store hs 3 (vs := (Wl lo8)) rfl rfl rfl rfl rfl Try.sizeOf25 rfl rfl rfl rfl rfl fun w hs => ?_)
        exact ⟨g10, g11, hs⟩
      · intro L ac w hJ
        obtain ⟨g10, g11, hs⟩ := hJ
        refine wpO_plain rfl (op_store hs 4 (vs := (Wl hi9)) rfl rfl rfl rfl rfl Try.sizeOf25 rfl rfl rfl rfl rfl fun w hs => ?_)
        exact ⟨g10, g11, hs⟩
    intro ac w hJ
    obtain ⟨g10, g11, hs⟩ := hJ
    replace hs : St 55 w0 [(32, true, W q4), (33, true, .int .i64 ((sp : Nat) : Int)), (34, true, .int .u64 ((sp : Nat) : Int)), (35, true, W sp), (36, true, .tuple #[W lo8, W hi9]), (31, true, .tuple #[W lo8, W hi9]), (37, true, W lo8), (38, true, W hi9), (10, true, .pointer (some ⟨g10, 0, none⟩)), (11, true, .pointer (some ⟨g11, 0, none⟩)), (1, true, .int .i64 ((sp : Nat) : Int)), (4, true, .int .u32 0), (7, true, .pointer (some ⟨g6, 0, none⟩))] [(true, g2, 25, (Wl x1)), (true, g6, 25, (Wl q4)), (true, g7, 25, (Wl r5)), (true, g10, 25, (Wl lo8)), (true, g11, 25, (Wl hi9))] ac w := hs
    refine then_n ?_
    refine wp_seq ?_
    refine wp_region_lit ?_
    obtain ⟨x12, hx12, lx12⟩ : ∃ z0, tgt 545259519 = z0 ∧ z0 < 2 ^ 256 := ⟨_, rfl, tgt_lt' _⟩
    refine lstep (wpO_plain rfl (op_call (F := 9) hs none (v := .tuple #[W x12, .int .i64 ((ec x12 : Nat) : Int)]) rfl rfl rfl rfl (Try.call9 _) (expand_c 545259519 x12 (by decide) hx12) rfl fun ac w hs => ?_))
    refine lstep (wpO_plain rfl (op_move hs none rfl rfl rfl rfl fun ac hs => ?_))
    refine lstep (wpO_plain rfl (op_extract hs none rfl rfl rfl rfl rfl fun ac hs => ?_))
    refine lstep (wpO_plain rfl (op_extract hs none rfl rfl rfl rfl rfl fun ac hs => ?_))
    refine lstep (wpO_plain rfl (op_alloc hs none none (cs := [.int .u64 0, .int .u64 0, .int .u64 0, .int .u64 0]) rfl rfl Try.zeroValue25 (by kernel_rfl) rfl rfl fun g13 ac w hs => ?_))
    refine lstep (wpO_plain rfl (op_store hs 5 (vs := (Wl x12)) rfl rfl rfl rfl rfl Try.sizeOf25 rfl rfl rfl rfl rfl fun w hs => ?_))
    refine lstep (wpO_plain rfl (op_assign hs none rfl rfl rfl rfl fun ac hs => ?_))
    refine wpList_nil ?_
    refine then_n ?_
    refine wp_seq ?_
    refine wp_seq ?_
    by_cases hq14 : hi9 ≠ 0
    · skip
      refine wp_region_lit ?_
      refine lstep (wpO_plain rfl (op_load hs none 4 (v := W hi9) rfl rfl rfl rfl Try.isAgg25 Try.sizeOf25 rfl rfl fun ac hs => ?_))
      refine lstep (wpO_plain rfl (op_build hs none (qs := []) (v := .agg #[.int .u64 0, .int .u64 0, .int .u64 0, .int .u64 0]) rfl rfl rfl rfl (fun _ => by kernel_rfl) rfl fun ac hs => ?_))
      refine lstep (wpO_plain rfl (op_bin hs none (v := .bool true) rfl rfl rfl rfl (fun w => run_eqGuard_agg w .neq 25 _ _ _ _ Try.eqGuardType25) (neqW hi9 0 lhi9 (by decide) true (decide_eq_true hq14)) rfl fun ac hs => ?_))
      refine lstep (wpO_plain rfl (op_move hs none rfl rfl rfl rfl fun ac hs => ?_))
      refine lstep (wpO_out hs none rfl rfl (.inl rfl) rfl rfl fun ac hs => ?_)
      refine lstep (wpO_out hs none rfl rfl (.inl rfl) rfl rfl fun ac hs => ?_)
      refine lstep (wpO_out hs none rfl rfl (.inl rfl) rfl rfl fun ac hs => ?_)
      refine lstep (wpO_out hs none rfl rfl (.inl rfl) rfl rfl fun ac hs => ?_)
      refine lstep (wpO_plain rfl (op_pickT hs none rfl rfl rfl rfl rfl fun ac hs => ?_))
      refine wpList_nil ?_
      refine then_n ?_
      refine wp_cond_true (hs.ev rfl) ?_
      refine wp_region_lit ?_
      refine lstep (wpO_plain rfl (op_load hs none 5 (v := W x12) rfl rfl rfl rfl Try.isAgg25 Try.sizeOf25 rfl rfl fun ac hs => ?_))
      refine lstep (wpO_plain rfl (op_store hs 3 (vs := (Wl x12)) rfl rfl rfl rfl rfl Try.sizeOf25 rfl rfl rfl rfl rfl fun w hs => ?_))
      refine wpList_nil ?_
      refine then_n ?_
      refine wp_seq ?_
      refine wp_region_lit ?_
      refine lstep (wpO_plain rfl (op_load hs none 3 (v := W x12) rfl rfl rfl rfl Try.isAgg25 Try.sizeOf25 rfl rfl fun ac hs => ?_))
      obtain ⟨cp15, hcp15⟩ : ∃ z0, cpt x12 = z0 := ⟨_, rfl⟩
      have lcp15 : cp15 < 4294967296 := by rw [← hcp15]; exact cpt_lt lx12
      refine lstep (wpO_plain rfl (op_call (F := 12) hs none (v := .int .u32 ((cp15 : Nat) : Int)) rfl rfl rfl rfl (Try.call12 _) (compact_c x12 cp15 lx12 hcp15) rfl fun ac w hs => ?_))
      refine lstep (wpO_plain rfl (op_assign hs none rfl rfl rfl rfl fun ac hs => ?_))
      refine wpList_nil ?_
      refine then_n ?_
      refine wp_ret ?_
      exact bodyPost_ret (res1 rfl (rv_t hs rfl)) hs.defers ⟨by rw [← hx', nxt_easy hx1 hq3 hq4 hsp hlo8 hhi9 hx12 (.inl hq14), hcp15], hs.below⟩
    · skip
      refine wp_region_lit ?_
      refine lstep (wpO_plain rfl (op_load hs none 4 (v := W hi9) rfl rfl rfl rfl Try.isAgg25 Try.sizeOf25 rfl rfl fun ac hs => ?_))
      refine lstep (wpO_plain rfl (op_build hs none (qs := []) (v := .agg #[.int .u64 0, .int .u64 0, .int .u64 0, .int .u64 0]) rfl rfl rfl rfl (fun _ => by kernel_rfl) rfl fun ac hs => ?_))
      refine lstep (wpO_plain rfl (op_bin hs none (v := .bool false) rfl rfl rfl rfl (fun w => run_eqGuard_agg w .neq 25 _ _ _ _ Try.eqGuardType25) (neqW hi9 0 lhi9 (by decide) false (decide_eq_false (not_not_intro (Classical.not_not.1 hq14)))) rfl fun ac hs => ?_))
      refine lstep (wpO_plain rfl (op_move hs none rfl rfl rfl rfl fun ac hs => ?_))
      refine lstep (wpO_in hs rfl rfl rfl (op_load hs none 3 (v := W lo8) rfl rfl rfl rfl Try.isAgg25 Try.sizeOf25 rfl rfl fun ac hs => ?_))
      refine lstep (wpO_in hs rfl rfl rfl (op_load hs none 5 (v := W x12) rfl rfl rfl rfl Try.isAgg25 Try.sizeOf25 rfl rfl fun ac hs => ?_))
      refine lstep (wpO_in hs rfl rfl rfl (op_call (F := 18) hs none (v := .int .i64 (cmpZ lo8 x12)) rfl rfl rfl rfl (Try.call18 _) (fun w => cmp_any w lo8 x12 llo8 lx12) rfl fun ac w hs => ?_))
      refine lstep (wpO_in hs rfl rfl rfl (op_bin hs none (v := .bool (decide (x12 < lo8))) rfl rfl rfl rfl (fun _ => rfl) (bin_cmp_gtr lo8 x12) rfl fun ac hs => ?_))
      refine lstep (wpO_plain rfl (op_pickF hs none rfl rfl rfl rfl rfl fun ac hs => ?_))
      refine wpList_nil ?_
      refine then_n ?_
      refine wp_cond_split (hs.ev rfl) (fun hc => ?_) (fun hc => ?_)
      · skip
        have hp16 := of_decide_eq_true hc
        refine wp_region_lit ?_
        refine lstep (wpO_plain rfl (op_load hs none 5 (v := W x12) rfl rfl rfl rfl Try.isAgg25 Try.sizeOf25 rfl rfl fun ac hs => ?_))
        refine lstep (wpO_plain rfl (op_store hs 3 (vs := (Wl x12)) rfl rfl rfl rfl rfl Try.sizeOf25 rfl rfl rfl rfl rfl fun w hs => ?_))
        refine wpList_nil ?_
        refine then_n ?_
        refine wp_seq ?_
        refine wp_region_lit ?_
        refine lstep (wpO_plain rfl (op_load hs none 3 (v := W x12) rfl rfl rfl rfl Try.isAgg25 Try.sizeOf25 rfl rfl fun ac hs => ?_))
        obtain ⟨cp17, hcp17⟩ : ∃ z0, cpt x12 = z0 := ⟨_, rfl⟩
        have lcp17 : cp17 < 4294967296 := by rw [← hcp17]; exact cpt_lt lx12
        refine lstep (wpO_plain rfl (op_call (F := 12) hs none (v := .int .u32 ((cp17 : Nat) : Int)) rfl rfl rfl rfl (Try.call12 _) (compact_c x12 cp17 lx12 hcp17) rfl fun ac w hs => ?_))
        refine lstep (wpO_plain rfl (op_assign hs none rfl rfl rfl rfl fun ac hs => ?_))
        refine wpList_nil ?_
        refine then_n ?_
        refine wp_ret ?_
        exact bodyPost_ret (res1 rfl (rv_t hs rfl)) hs.defers ⟨by rw [← hx', nxt_easy hx1 hq3 hq4 hsp hlo8 hhi9 hx12 (.inr hp16), hcp17], hs.below⟩
      · skip
        have hp18 := of_decide_eq_false hc
        refine wp_skip ?_
        refine then_n ?_
        refine wp_seq ?_
        refine wp_region_lit ?_
        refine lstep (wpO_plain rfl (op_load hs none 3 (v := W lo8) rfl rfl rfl rfl Try.isAgg25 Try.sizeOf25 rfl rfl fun ac hs => ?_))
        obtain ⟨cp19, hcp19⟩ : ∃ z0, cpt lo8 = z0 := ⟨_, rfl⟩
        have lcp19 : cp19 < 4294967296 := by rw [← hcp19]; exact cpt_lt llo8
        refine lstep (wpO_plain rfl (op_call (F := 12) hs none (v := .int .u32 ((cp19 : Nat) : Int)) rfl rfl rfl rfl (Try.call12 _) (compact_c lo8 cp19 llo8 hcp19) rfl fun ac w hs => ?_))
        refine lstep (wpO_plain rfl (op_assign hs none rfl rfl rfl rfl fun ac hs => ?_))
        refine wpList_nil ?_
        refine then_n ?_
        refine wp_ret ?_
        exact bodyPost_ret (res1 rfl (rv_t hs rfl)) hs.defers ⟨by rw [← hx', nxt_low hx1 hq3 hq4 hsp hlo8 hhi9 hx12 hq14 hp18, hcp19], hs.below⟩
end Go.Proofs.Ytemacggbabiafaa
