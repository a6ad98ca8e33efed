/- The contracts of the reference's numbers of 256 bits. -/
import Derived.Test.YtaeafgkjinhceaaSl
import Derived.Test.YtaeafgkjinhceaaRef06P
namespace Go.Proofs.Ytaeafgkjinhceaa
open Go.RowKit
set_option maxRecDepth 10000

theorem inf_u8_5 : Inf Try.prog 5 (.int .u8 0) 1 1 := inf_of (by kernel_rfl)
theorem inf_u64_22 : Inf Try.prog 22 (.int .u64 0) 1 8 := inf_of (by kernel_rfl)
theorem digits_c (a : Nat) (w0 : World) : Calls Try.prog 40 #[W a] w0 fun e w' => Made w0 22 (fun g c => .slice (some ⟨g, 0, none⟩) 16 c) (tab .u64 16 (dg a)) e w' := by
  refine enter (n := 27) (args := [W a]) Try.func40 rfl rfl (Nat.le_of_ble_eq_true rfl) fun ac hs => ?_
  refine wp_seq ?_
  refine wp_region_lit ?_
  refine lstep (wpO_plain rfl (op_box hs none none (cs := (Wl a)) rfl rfl rfl rfl rfl rfl fun g1 ac w hs => ?_))
  refine lstep (wpO_plain rfl (op_assign hs none rfl rfl rfl rfl fun ac hs => ?_))
  refine wpList_nil ?_
  refine then_n ?_
  refine wp_seq ?_
  refine wp_region_lit ?_
  refine lstep (wpO_plain rfl (op_bs0 hs none none rfl rfl Try.underlying51 inf_u64_22 rfl rfl fun g2 ac w hs => ?_))
  refine lstep (wpO_plain rfl (op_assign hs none rfl rfl rfl rfl fun ac hs => ?_))
  refine wpList_nil ?_
  refine then_n ?_
  refine wp_seq ?_
  refine wp_seq ?_
  refine wp_region_lit ?_
  refine lstep (wpO_plain rfl (op_assign hs none rfl rfl rfl rfl fun ac hs => ?_))
  refine wpList_nil ?_
  refine then_n ?_
  refine wp_block ?_
  refine wp_loop_m (fun μ ac w => ∃ (i : Nat) (gd : Nat) (sp : List Value), (4 - i) = μ ∧ (i ≤ 4) ∧ ((tab .u64 (4 * i) (dg a) ++ sp).length ≤ maxLen) ∧ St 27 w0 [(1, true, .pointer (some ⟨g1, 0, none⟩)), (3, true, .slice (some ⟨gd, 0, none⟩) (4 * i) ((tab .u64 (4 * i) (dg a) ++ sp).length)), (4, true, .int .i64 ((i : Nat) : Int))] [(true, g1, 24, (Wl a)), (true, gd, 22, (tab .u64 (4 * i) (dg a) ++ sp))] ac w) ?_ ?_
  · exact ⟨_, 0, g2, ([]), rfl, (by omega), cap0, (hs.re ⟨rfl, rfl, rfl, trivial⟩)⟩
  intro μ ac w ⟨i, gd, sp, hμ, hi, hcap, hs⟩
  refine wp_seq ?_
  refine wp_seq ?_
  refine wp_region_lit ?_
  refine lstep (wpO_plain rfl (op_move hs none rfl rfl rfl rfl fun ac hs => ?_))
  refine lstep (wpO_plain rfl (op_bin hs none (v := .bool (decide (i < 4))) rfl rfl rfl rfl (fun _ => rfl) (bin_lssN (x := i) (y := 4)) rfl fun ac hs => ?_))
  refine wpList_nil ?_
  refine then_n ?_
  refine wp_cond_split (hs.ev rfl) (fun hc => ?_) (fun hc => ?_)
  · skip
    have hp3 := of_decide_eq_true hc
    have hli : i < 4 := of_decide_eq_true hc
    refine wp_skip ?_
    refine then_n ?_
    refine wp_seq ?_
    refine wp_block ?_
    refine wp_seq ?_
    refine wp_region_lit ?_
    refine lstep (wpO_plain rfl (op_move hs none rfl rfl rfl rfl fun ac hs => ?_))
    refine lstep (wpO_plain rfl (op_idxA hs none (j := i) rfl rfl rfl rfl Try.underlying24 Try.sizeOf22 (show i < 4 by omega) (off := i) (by omega) rfl fun ac hs => ?_))
    have l4 := limN_lt a i
    refine lstep (wpO_plain rfl (op_load hs none 0 (v := .int .u64 ((limN a i : Nat) : Int)) rfl rfl rfl rfl Try.isAgg22 Try.sizeOf22 (Wl_get (j := i) (show i < 4 by omega)) rfl fun ac hs => ?_))
    refine lstep (wpO_plain rfl (op_assign hs none rfl rfl rfl rfl fun ac hs => ?_))
    refine wpList_nil ?_
    refine then_n ?_
    refine wp_seq ?_
    refine wp_region_lit ?_
    refine lstep (wpO_plain rfl (op_assign hs none rfl rfl rfl rfl fun ac hs => ?_))
    refine wpList_nil ?_
    refine then_n ?_
    refine wp_block ?_
    refine wp_loop_m (fun μ ac w => ∃ (k : Nat) (x : Nat) (ge : Nat) (sq : List Value), (4 - k) = μ ∧ (k ≤ 4) ∧ (x = limN a i / 65536 ^ k) ∧ ((tab .u64 (4 * i + k) (dg a) ++ sq).length ≤ maxLen) ∧ St 27 w0 [(1, true, .pointer (some ⟨g1, 0, none⟩)), (3, true, .slice (some ⟨ge, 0, none⟩) (4 * i + k) ((tab .u64 (4 * i + k) (dg a) ++ sq).length)), (4, true, .int .i64 ((i : Nat) : Int)), (5, true, .int .u64 ((x : Nat) : Int)), (6, true, .int .i64 ((k : Nat) : Int))] [(true, g1, 24, (Wl a)), (true, ge, 22, (tab .u64 (4 * i + k) (dg a) ++ sq))] ac w) ?_ ?_
    · exact ⟨_, 0, (limN a i), gd, sp, rfl, (by omega), (by rw [Nat.pow_zero, Nat.div_one]), hcap, (hs.re ⟨rfl, rfl, rfl, rfl, rfl, trivial⟩)⟩
    intro μ ac w ⟨k, x, ge, sq, hμ, hk, hx, hcap2, hs⟩
    have hxl := dig_lt hx
    refine wp_seq ?_
    refine wp_seq ?_
    refine wp_region_lit ?_
    refine lstep (wpO_plain rfl (op_move hs none rfl rfl rfl rfl fun ac hs => ?_))
    refine lstep (wpO_plain rfl (op_bin hs none (v := .bool (decide (k < 4))) rfl rfl rfl rfl (fun _ => rfl) (bin_lssN (x := k) (y := 4)) rfl fun ac hs => ?_))
    refine wpList_nil ?_
    refine then_n ?_
    refine wp_cond_split (hs.ev rfl) (fun hc => ?_) (fun hc => ?_)
    · skip
      have hp5 := of_decide_eq_true hc
      have hlt : k < 4 := of_decide_eq_true hc
      refine wp_skip ?_
      refine then_n ?_
      refine wp_seq ?_
      refine wp_block ?_
      refine wp_seq ?_
      refine wp_region_lit ?_
      refine lstep (wpO_plain rfl (op_move hs none rfl rfl rfl rfl fun ac hs => ?_))
      refine lstep (wpO_plain rfl (op_move hs none rfl rfl rfl rfl fun ac hs => ?_))
      refine lstep (wpO_plain rfl (op_bin hs none (v := .int .u64 ((x % 65536 : Nat) : Int)) rfl rfl rfl rfl (fun _ => rfl) (bin_remN (x := x) (y := 65536) (z := x % 65536) rfl (by decide)) rfl fun ac hs => ?_))
      refine lstep (wpO_plain rfl (op_bs1 hs none none rfl rfl rfl rfl Try.underlying51 inf_u64_22 rfl rfl fun g6 ac w hs => ?_))
      refine lstep (wpO_plain rfl (op_app1 hs none 1 2 (κ := .u64) (f := dg a) (sp := sq) (xv := x % 65536) rfl rfl rfl rfl rfl rfl Try.underlying51 inf_u64_22 rfl (by decide) hcap2 (by omega) (dig_app hlt hx) rfl fun g7 sp8 ac w hs hm9 => ?_))
      refine lstep (wpO_plain rfl (op_assign hs none rfl rfl rfl rfl fun ac hs => ?_))
      refine wpList_nil ?_
      refine then_n ?_
      refine wp_region_lit ?_
      refine lstep (wpO_plain rfl (op_move hs none rfl rfl rfl rfl fun ac hs => ?_))
      refine lstep (wpO_plain rfl (op_bin hs none (v := .int .u64 ((x / 65536 : Nat) : Int)) rfl rfl rfl rfl (fun _ => rfl) (bin_quoN (x := x) (y := 65536) (z := x / 65536) rfl (by decide) (show x < 18446744073709551616 by omega)) rfl fun ac hs => ?_))
      refine lstep (wpO_plain rfl (op_assign hs none rfl rfl rfl rfl fun ac hs => ?_))
      refine wpList_nil ?_
      refine blk_n ?_
      refine then_n ?_
      refine wp_region_lit ?_
      refine lstep (wpO_plain rfl (op_move hs none rfl rfl rfl rfl fun ac hs => ?_))
      refine lstep (wpO_plain rfl (op_bin hs none (v := .int .i64 ((k + 1 : Nat) : Int)) rfl rfl rfl rfl (fun _ => rfl) (bin_addN (x := k) (y := 1) (z := k + 1) rfl (show k + 1 < 9223372036854775808 by omega)) rfl fun ac hs => ?_))
      refine lstep (wpO_plain rfl (op_assign hs none rfl rfl rfl rfl fun ac hs => ?_))
      refine wpList_nil ?_
      refine then_n ?_
      exact ⟨_, ⟨(k + 1), (x / 65536), g7, sp8, rfl, hlt, (dig_next hx), hm9, ((hs.takeb 2).re ⟨rfl, rfl, rfl, rfl, rfl, trivial⟩)⟩, (by omega)⟩
    · skip
      have hp10 := of_decide_eq_false hc
      obtain rfl : k = 4 := by omega
      refine wp_exit ?_
      refine then_e ?_
      refine then_e ?_
      refine blk_e ?_
      refine blk_n ?_
      refine then_n ?_
      refine wp_region_lit ?_
      refine lstep (wpO_plain rfl (op_move hs none rfl rfl rfl rfl fun ac hs => ?_))
      refine lstep (wpO_plain rfl (op_bin hs none (v := .int .i64 ((i + 1 : Nat) : Int)) rfl rfl rfl rfl (fun _ => rfl) (bin_addN (x := i) (y := 1) (z := i + 1) rfl (show i + 1 < 9223372036854775808 by omega)) rfl fun ac hs => ?_))
      refine lstep (wpO_plain rfl (op_assign hs none rfl rfl rfl rfl fun ac hs => ?_))
      refine wpList_nil ?_
      refine then_n ?_
      exact ⟨_, ⟨(i + 1), ge, sq, rfl, hli, hcap2, (hs.re ⟨rfl, rfl, rfl, trivial⟩)⟩, (by omega)⟩
  · skip
    have hp11 := of_decide_eq_false hc
    obtain rfl : i = 4 := by omega
    refine wp_exit ?_
    refine then_e ?_
    refine then_e ?_
    refine blk_e ?_
    refine then_n ?_
    refine wp_seq ?_
    refine wp_region_lit ?_
    refine lstep (wpO_plain rfl (op_move hs none rfl rfl rfl rfl fun ac hs => ?_))
    refine lstep (wpO_plain rfl (op_assign hs none rfl rfl rfl rfl fun ac hs => ?_))
    refine wpList_nil ?_
    refine then_n ?_
    refine wp_ret ?_
    exact bodyPost_ret (res1 rfl (rv_t hs rfl)) hs.defers ⟨_, sp, rfl, (hs.blks 1 _ rfl rfl).2, (hs.blks 1 _ rfl rfl).1, hs.below⟩
theorem whole_c (M n fr r gd c : Nat) (w0 : World) (hcell : ∀ j, j < n → w0.cell? ⟨gd, j, none⟩ = some (.int .u64 ((dg M j : Nat) : Int))) (hM : M < p6 n) (hn : n ≤ 32) (hfr : fr ≤ 16) (hr : M / p6 fr % 2 ^ 256 = r): Calls Try.prog 41 #[.slice (some ⟨gd, 0, none⟩) n c, .int .i64 ((fr : Nat) : Int)] w0 fun e w' => e = .returned (W r) ∧ Below w0.heap.size w0 w' := by
  refine enter (n := 36) (args := [.slice (some ⟨gd, 0, none⟩) n c, .int .i64 ((fr : Nat) : Int)]) Try.func41 rfl rfl (Nat.le_of_ble_eq_true rfl) fun ac hs => ?_
  refine wp_seq ?_
  refine wp_region_lit ?_
  refine lstep (wpO_plain rfl (op_alloc hs none none (cs := [.int .u64 0, .int .u64 0, .int .u64 0, .int .u64 0]) rfl rfl Try.zeroValue24 (by kernel_rfl) rfl rfl fun g1 ac w hs => ?_))
  refine wpList_nil ?_
  refine then_n ?_
  refine wp_seq ?_
  refine wp_region_lit ?_
  refine lstep (wpO_plain rfl (op_build hs none (qs := []) (v := .agg #[.int .u64 0, .int .u64 0, .int .u64 0, .int .u64 0]) rfl rfl rfl rfl (fun _ => by kernel_rfl) rfl fun ac hs => ?_))
  refine lstep (wpO_plain rfl (op_alloc hs none none (cs := [.int .u64 0, .int .u64 0, .int .u64 0, .int .u64 0]) rfl rfl Try.zeroValue24 (by kernel_rfl) rfl rfl fun g2 ac w hs => ?_))
  refine lstep (wpO_plain rfl (op_store hs 1 (vs := [.int .u64 0, .int .u64 0, .int .u64 0, .int .u64 0]) rfl rfl rfl rfl rfl Try.sizeOf24 rfl rfl rfl rfl rfl fun w hs => ?_))
  refine wpList_nil ?_
  refine then_n ?_
  refine wp_seq ?_
  refine wp_seq ?_
  refine wp_region_lit ?_
  refine lstep (wpO_plain rfl (op_assign hs none rfl rfl rfl rfl fun ac hs => ?_))
  refine wpList_nil ?_
  refine then_n ?_
  refine wp_block ?_
  refine wp_loop_m (fun μ ac w => ∃ (k : Nat) (f : Nat → Nat), (k) = μ ∧ (k ≤ 16) ∧ (∀ j, j < 4 → f j = wf (M / p6 fr) k j) ∧ St 36 w0 [(0, true, .slice (some ⟨gd, 0, none⟩) n c), (1, true, .int .i64 ((fr : Nat) : Int)), (4, true, .pointer (some ⟨g1, 0, none⟩)), (5, true, .pointer (some ⟨g2, 0, none⟩)), (6, true, .int .i64 (((k : Nat) : Int) - 1))] [(true, g1, 24, [.int .u64 0, .int .u64 0, .int .u64 0, .int .u64 0]), (true, g2, 24, (tab .u64 4 f))] ac w) ?_ ?_
  · exact ⟨_, 16, (fun _ => 0), rfl, (by omega), (fun j hj => (wf_top _ j hj).symm), (hs.re ⟨rfl, rfl, rfl, rfl, rfl, trivial⟩)⟩
  intro μ ac w ⟨k, f, hμ, hk, hf, hs⟩
  refine wp_seq ?_
  refine wp_seq ?_
  refine wp_region_lit ?_
  refine lstep (wpO_plain rfl (op_move hs none rfl rfl rfl rfl fun ac hs => ?_))
  refine lstep (wpO_plain rfl (op_bin hs none (v := .bool (decide (1 ≤ k))) rfl rfl rfl rfl (fun _ => rfl) bin_geqP rfl fun ac hs => ?_))
  refine wpList_nil ?_
  refine then_n ?_
  refine wp_cond_split (hs.ev rfl) (fun hc => ?_) (fun hc => ?_)
  · skip
    have hp3 := of_decide_eq_true hc
    replace hs := hs.re (fs' := [(0, true, .slice (some ⟨gd, 0, none⟩) n c), (1, true, .int .i64 ((fr : Nat) : Int)), (4, true, .pointer (some ⟨g1, 0, none⟩)), (5, true, .pointer (some ⟨g2, 0, none⟩)), (6, true, .int .i64 ((k - 1 : Nat) : Int)), (9, true, .int .i64 (((k : Nat) : Int) - 1)), (10, true, .bool (decide (1 ≤ k)))]) ⟨rfl, rfl, rfl, rfl, congrArg some (pre_nat hp3), rfl, rfl, trivial⟩
    have hroom := whole_room hp3 hk hf
    refine wp_skip ?_
    refine then_n ?_
    refine wp_seq ?_
    refine wp_block ?_
    refine wp_seq ?_
    refine wp_region_lit ?_
    refine lstep (wpO_plain rfl (op_assign hs none rfl rfl rfl rfl fun ac hs => ?_))
    refine wpList_nil ?_
    refine then_n ?_
    refine wp_seq ?_
    refine wp_seq ?_
    refine wp_region_lit ?_
    refine lstep (wpO_plain rfl (op_move hs none rfl rfl rfl rfl fun ac hs => ?_))
    refine lstep (wpO_plain rfl (op_move hs none rfl rfl rfl rfl fun ac hs => ?_))
    refine lstep (wpO_plain rfl (op_bin hs none (v := .int .i64 ((fr + (k - 1) : Nat) : Int)) rfl rfl rfl rfl (fun _ => rfl) (bin_addN (x := fr) (y := k - 1) (z := fr + (k - 1)) rfl (show fr + (k - 1) < 9223372036854775808 by omega)) rfl fun ac hs => ?_))
    refine lstep (wpO_plain rfl (op_move hs none rfl rfl rfl rfl fun ac hs => ?_))
    refine lstep (wpO_plain rfl (op_blt hs none (v := .int .i64 ((n : Nat) : Int)) rfl rfl rfl (blt_len Try.underlying51) rfl fun ac hs => ?_))
    refine lstep (wpO_plain rfl (op_bin hs none (v := .bool (decide (fr + (k - 1) < n))) rfl rfl rfl rfl (fun _ => rfl) (bin_lssN (x := fr + (k - 1)) (y := n)) rfl fun ac hs => ?_))
    refine wpList_nil ?_
    refine then_n ?_
    refine wp_cond_split (hs.ev rfl) (fun hc => ?_) (fun hc => ?_)
    · skip
      have hp4 := of_decide_eq_true hc
      refine wp_region_lit ?_
      refine lstep (wpO_plain rfl (op_move hs none rfl rfl rfl rfl fun ac hs => ?_))
      refine lstep (wpO_plain rfl (op_move hs none rfl rfl rfl rfl fun ac hs => ?_))
      refine lstep (wpO_plain rfl (op_move hs none rfl rfl rfl rfl fun ac hs => ?_))
      refine lstep (wpO_plain rfl (op_bin hs none (v := .int .i64 ((fr + (k - 1) : Nat) : Int)) rfl rfl rfl rfl (fun _ => rfl) (bin_addN (x := fr) (y := k - 1) (z := fr + (k - 1)) rfl (show fr + (k - 1) < 9223372036854775808 by omega)) rfl fun ac hs => ?_))
      refine lstep (wpO_plain rfl (op_idxS hs none (j := fr + (k - 1)) rfl rfl rfl rfl Try.underlying51 Try.sizeOf22 (show fr + (k - 1) < n by omega) (off := fr + (k - 1)) (by omega) rfl fun ac hs => ?_))
      have l5 := dg_lt M (fr + (k - 1))
      refine lstep (wpO_plain rfl (op_loadOld hs none (v := .int .u64 (((dg M) (fr + (k - 1)) : Nat) : Int)) rfl rfl rfl Try.isAgg22 (hcell (fr + (k - 1)) (show fr + (k - 1) < n by omega)) rfl fun ac hs => ?_))
      refine lstep (wpO_plain rfl (op_assign hs none rfl rfl rfl rfl fun ac hs => ?_))
      refine wpList_nil ?_
      refine then_n ?_
      refine wp_region_lit ?_
      refine lstep (wpO_plain rfl (op_move hs none rfl rfl rfl rfl fun ac hs => ?_))
      refine lstep (wpO_plain rfl (op_bin hs none (v := .int .i64 (((k - 1) / 4 : Nat) : Int)) rfl rfl rfl rfl (fun _ => rfl) (bin_quoN (x := k - 1) (y := 4) (z := (k - 1) / 4) rfl (by decide) (show k - 1 < 9223372036854775808 by omega)) rfl fun ac hs => ?_))
      refine lstep (wpO_plain rfl (op_move hs none rfl rfl rfl rfl fun ac hs => ?_))
      refine lstep (wpO_plain rfl (op_bin hs none (v := .int .i64 (((k - 1) / 4 : Nat) : Int)) rfl rfl rfl rfl (fun _ => rfl) (bin_quoN (x := k - 1) (y := 4) (z := (k - 1) / 4) rfl (by decide) (show k - 1 < 9223372036854775808 by omega)) rfl fun ac hs => ?_))
      refine lstep (wpO_plain rfl (op_idxA hs none (j := (k - 1) / 4) rfl rfl rfl rfl Try.underlying24 Try.sizeOf22 (show (k - 1) / 4 < 4 by omega) (off := (k - 1) / 4) (by omega) rfl fun ac hs => ?_))
      refine lstep (wpO_plain rfl (op_load hs none 1 (v := .int .u64 ((f ((k - 1) / 4) : Nat) : Int)) rfl rfl rfl rfl Try.isAgg22 Try.sizeOf22 (tab_get (j := (k - 1) / 4) (show (k - 1) / 4 < 4 by omega)) rfl fun ac hs => ?_))
      refine lstep (wpO_plain rfl (op_bin hs none (v := .int .u64 (((f ((k - 1) / 4)) * 65536 : Nat) : Int)) rfl rfl rfl rfl (fun _ => rfl) (bin_mulN (x := f ((k - 1) / 4)) (y := 65536) (z := (f ((k - 1) / 4)) * 65536) rfl (show (f ((k - 1) / 4)) * 65536 < 18446744073709551616 by omega)) rfl fun ac hs => ?_))
      refine lstep (wpO_plain rfl (op_move hs none rfl rfl rfl rfl fun ac hs => ?_))
      refine lstep (wpO_plain rfl (op_bin hs none (v := .int .u64 (((f ((k - 1) / 4)) * 65536 + ((dg M) (fr + (k - 1))) : Nat) : Int)) rfl rfl rfl rfl (fun _ => rfl) (bin_addN (x := (f ((k - 1) / 4)) * 65536) (y := (dg M) (fr + (k - 1))) (z := (f ((k - 1) / 4)) * 65536 + ((dg M) (fr + (k - 1)))) rfl (show (f ((k - 1) / 4)) * 65536 + ((dg M) (fr + (k - 1))) < 18446744073709551616 by omega)) rfl fun ac hs => ?_))
      refine lstep (wpO_plain rfl (op_idxA hs none (j := (k - 1) / 4) rfl rfl rfl rfl Try.underlying24 Try.sizeOf22 (show (k - 1) / 4 < 4 by omega) (off := (k - 1) / 4) (by omega) rfl fun ac hs => ?_))
      refine lstep (wpO_plain rfl (op_store hs 1 (vs := [.int .u64 (((f ((k - 1) / 4)) * 65536 + ((dg M) (fr + (k - 1))) : Nat) : Int)]) rfl rfl rfl rfl rfl Try.sizeOf22 rfl rfl rfl (tab_le (j := (k - 1) / 4) (show (k - 1) / 4 < 4 by omega)) (tab_set) fun w hs => ?_))
      refine wpList_nil ?_
      refine blk_n ?_
      refine then_n ?_
      refine wp_region_lit ?_
      refine lstep (wpO_plain rfl (op_move hs none rfl rfl rfl rfl fun ac hs => ?_))
      refine lstep (wpO_plain rfl (op_bin hs none (v := .int .i64 (((k - 1 : Nat) : Int) - 1)) rfl rfl rfl rfl (fun _ => rfl) (bin_subP (x := k - 1) (by omega)) rfl fun ac hs => ?_))
      refine lstep (wpO_plain rfl (op_assign hs none rfl rfl rfl rfl fun ac hs => ?_))
      refine wpList_nil ?_
      refine then_n ?_
      exact ⟨_, ⟨(k - 1), (upn f ((k - 1) / 4) ((f ((k - 1) / 4)) * 65536 + ((dg M) (fr + (k - 1))))), rfl, (by omega), (whole_step hp3 hk hf whole_x1), (hs.re ⟨rfl, rfl, rfl, rfl, rfl, trivial⟩)⟩, (by omega)⟩
    · skip
      have hp6 := of_decide_eq_false hc
      refine wp_skip ?_
      refine then_n ?_
      refine wp_region_lit ?_
      refine lstep (wpO_plain rfl (op_move hs none rfl rfl rfl rfl fun ac hs => ?_))
      refine lstep (wpO_plain rfl (op_bin hs none (v := .int .i64 (((k - 1) / 4 : Nat) : Int)) rfl rfl rfl rfl (fun _ => rfl) (bin_quoN (x := k - 1) (y := 4) (z := (k - 1) / 4) rfl (by decide) (show k - 1 < 9223372036854775808 by omega)) rfl fun ac hs => ?_))
      refine lstep (wpO_plain rfl (op_move hs none rfl rfl rfl rfl fun ac hs => ?_))
      refine lstep (wpO_plain rfl (op_bin hs none (v := .int .i64 (((k - 1) / 4 : Nat) : Int)) rfl rfl rfl rfl (fun _ => rfl) (bin_quoN (x := k - 1) (y := 4) (z := (k - 1) / 4) rfl (by decide) (show k - 1 < 9223372036854775808 by omega)) rfl fun ac hs => ?_))
      refine lstep (wpO_plain rfl (op_idxA hs none (j := (k - 1) / 4) rfl rfl rfl rfl Try.underlying24 Try.sizeOf22 (show (k - 1) / 4 < 4 by omega) (off := (k - 1) / 4) (by omega) rfl fun ac hs => ?_))
      refine lstep (wpO_plain rfl (op_load hs none 1 (v := .int .u64 ((f ((k - 1) / 4) : Nat) : Int)) rfl rfl rfl rfl Try.isAgg22 Try.sizeOf22 (tab_get (j := (k - 1) / 4) (show (k - 1) / 4 < 4 by omega)) rfl fun ac hs => ?_))
      refine lstep (wpO_plain rfl (op_bin hs none (v := .int .u64 (((f ((k - 1) / 4)) * 65536 : Nat) : Int)) rfl rfl rfl rfl (fun _ => rfl) (bin_mulN (x := f ((k - 1) / 4)) (y := 65536) (z := (f ((k - 1) / 4)) * 65536) rfl (show (f ((k - 1) / 4)) * 65536 < 18446744073709551616 by omega)) rfl fun ac hs => ?_))
      refine lstep (wpO_plain rfl (op_move hs none rfl rfl rfl rfl fun ac hs => ?_))
      refine lstep (wpO_plain rfl (op_bin hs none (v := .int .u64 (((f ((k - 1) / 4)) * 65536 + 0 : Nat) : Int)) rfl rfl rfl rfl (fun _ => rfl) (bin_addN (x := (f ((k - 1) / 4)) * 65536) (y := 0) (z := (f ((k - 1) / 4)) * 65536 + 0) rfl (show (f ((k - 1) / 4)) * 65536 + 0 < 18446744073709551616 by omega)) rfl fun ac hs => ?_))
      refine lstep (wpO_plain rfl (op_idxA hs none (j := (k - 1) / 4) rfl rfl rfl rfl Try.underlying24 Try.sizeOf22 (show (k - 1) / 4 < 4 by omega) (off := (k - 1) / 4) (by omega) rfl fun ac hs => ?_))
      refine lstep (wpO_plain rfl (op_store hs 1 (vs := [.int .u64 (((f ((k - 1) / 4)) * 65536 + 0 : Nat) : Int)]) rfl rfl rfl rfl rfl Try.sizeOf22 rfl rfl rfl (tab_le (j := (k - 1) / 4) (show (k - 1) / 4 < 4 by omega)) (tab_set) fun w hs => ?_))
      refine wpList_nil ?_
      refine blk_n ?_
      refine then_n ?_
      refine wp_region_lit ?_
      refine lstep (wpO_plain rfl (op_move hs none rfl rfl rfl rfl fun ac hs => ?_))
      refine lstep (wpO_plain rfl (op_bin hs none (v := .int .i64 (((k - 1 : Nat) : Int) - 1)) rfl rfl rfl rfl (fun _ => rfl) (bin_subP (x := k - 1) (by omega)) rfl fun ac hs => ?_))
      refine lstep (wpO_plain rfl (op_assign hs none rfl rfl rfl rfl fun ac hs => ?_))
      refine wpList_nil ?_
      refine then_n ?_
      exact ⟨_, ⟨(k - 1), (upn f ((k - 1) / 4) ((f ((k - 1) / 4)) * 65536 + 0)), rfl, (by omega), (whole_step hp3 hk hf (whole_x0 hM hp6)), (hs.re ⟨rfl, rfl, rfl, rfl, rfl, trivial⟩)⟩, (by omega)⟩
  · skip
    have hp7 := of_decide_eq_false hc
    obtain rfl : k = 0 := by omega
    replace hs := hs.setb 1 (cs' := Wl (M / p6 fr)) rfl (tab_Wl fun j hj => (hf j hj).trans (wf_bot _ j hj))
    refine wp_exit ?_
    refine then_e ?_
    refine then_e ?_
    refine blk_e ?_
    refine then_n ?_
    refine wp_seq ?_
    refine wp_region_lit ?_
    refine lstep (wpO_plain rfl (op_load hs none 1 (v := W (M / p6 fr)) rfl rfl rfl rfl Try.isAgg24 Try.sizeOf24 rfl rfl fun ac hs => ?_))
    refine lstep (wpO_plain rfl (op_store hs 0 (vs := (Wl (M / p6 fr))) rfl rfl rfl rfl rfl Try.sizeOf24 rfl rfl rfl rfl rfl fun w hs => ?_))
    refine wpList_nil ?_
    refine then_n ?_
    refine wp_ret ?_
    exact bodyPost_ret (res1 rfl (rv_c hs 0 (v := W (M / p6 fr)) rfl rfl Try.isAgg24 Try.sizeOf24 rfl)) hs.defers ⟨by rw [← hr, W_mod], hs.below⟩
theorem radd06_c (a b d q : Nat) (ha : a < 2 ^ 256) (hb : b < 2 ^ 256) (hd : (a + b) % 2 ^ 256 = d) (hc' : (a + b) / 2 ^ 256 = q) (w0 : World) : Calls Try.prog 12 #[W a, W b] w0 fun e w' => e = .returned (.tuple #[W d, .int .u64 ((q : Nat) : Int)]) ∧ Below w0.heap.size w0 w' := by
  have ld : d < 2 ^ 256 := by rw [← hd]; exact Nat.mod_lt _ (Nat.two_pow_pos 256)
  refine enter (n := 39) (args := [W a, W b]) Try.func12 rfl rfl (Nat.le_of_ble_eq_true rfl) fun ac hs => ?_
  refine wp_seq ?_
  refine wp_region_lit ?_
  refine lstep (wpO_plain rfl (op_box hs none none (cs := (Wl a)) rfl rfl rfl rfl rfl rfl fun g1 ac w hs => ?_))
  refine lstep (wpO_plain rfl (op_box hs none none (cs := (Wl b)) rfl rfl rfl rfl rfl rfl fun g2 ac w hs => ?_))
  refine lstep (wpO_plain rfl (op_alloc hs none none (cs := [.int .u64 0, .int .u64 0, .int .u64 0, .int .u64 0]) rfl rfl Try.zeroValue24 (by kernel_rfl) rfl rfl fun g3 ac w hs => ?_))
  refine lstep (wpO_plain rfl (op_assign hs none rfl rfl rfl rfl fun ac hs => ?_))
  refine wpList_nil ?_
  refine then_n ?_
  refine wp_seq ?_
  replace hs : St 39 w0 [(2, true, .pointer (some ⟨g1, 0, none⟩)), (3, true, .pointer (some ⟨g2, 0, none⟩)), (4, true, .pointer (some ⟨g3, 0, none⟩)), (5, true, .int .u64 0)] [(true, g1, 24, (Wl a)), (true, g2, 24, (Wl b)), (true, g3, 24, [.int .u64 0, .int .u64 0, .int .u64 0, .int .u64 0])] ac _ := hs.re ⟨rfl, rfl, rfl, rfl, trivial⟩
  refine region_inv [([], [1, 3, 4, 5]), ([0], [3, 4, 5]), ([], [3, 4, 5]), ([0, 1, 2], [4, 5]), ([0, 1, 2, 3], [5]), ([0, 1, 2, 3, 4], [])] (fun L ac w => ∃ (g4 : Nat) (sp5 : List Value) (g6 : Nat) (sp7 : List Value), St 39 w0 [(10, L 0, W a), (11, L 1, .slice (some ⟨g4, 0, none⟩) 16 ((tab .u64 16 (dg a) ++ sp5).length)), (12, L 2, W b), (13, L 3, .slice (some ⟨g6, 0, none⟩) 16 ((tab .u64 16 (dg b) ++ sp7).length)), (6, L 4, cond (L 4) (.slice (some ⟨g4, 0, none⟩) 16 ((tab .u64 16 (dg a) ++ sp5).length)) undef), (7, L 5, cond (L 5) (.slice (some ⟨g6, 0, none⟩) 16 ((tab .u64 16 (dg b) ++ sp7).length)) undef), (2, true, .pointer (some ⟨g1, 0, none⟩)), (3, true, .pointer (some ⟨g2, 0, none⟩)), (4, true, .pointer (some ⟨g3, 0, none⟩)), (5, true, .int .u64 0)] [(true, g1, 24, (Wl a)), (true, g2, 24, (Wl b)), (true, g3, 24, [.int .u64 0, .int .u64 0, .int .u64 0, .int .u64 0]), (L 1, g4, 22, (tab .u64 16 (dg a) ++ sp5)), (L 3, g6, 22, (tab .u64 16 (dg b) ++ sp7))] ac w) (by kernel_rfl) (by kernel_rfl) ?_ ?_ ?_
  · exact ⟨0, [], 0, [], hs.drew.skip.skip.skip.skip.skip.skip.pad.pad⟩
  · refine ⟨?_, ?_, ?_, ?_, ?_, ?_, trivial⟩
    · intro L ac w hJ
      obtain ⟨g4, sp5, g6, sp7, hs⟩ := hJ
      refine wpO_plain rfl (op_load hs (some 0) 0 (v := W a) rfl rfl rfl rfl Try.isAgg24 Try.sizeOf24 rfl rfl fun ac hs => ?_)
      exact ⟨g4, sp5, g6, sp7, hs⟩
    · intro L ac w hJ
      obtain ⟨g4, sp5, g6, sp7, hs⟩ := hJ
      refine wpO_plain rfl (op_callM (F := 40) hs (some 1) (some 3) (T := 22) (v := fun g c => .slice (some ⟨g, 0, none⟩) 16 c) (cs := (tab .u64 16 (dg a))) rfl rfl rfl rfl (Try.call40 _) (fun w => digits_c a w) rfl rfl fun g4 sp5 ac w hs => ?_)
      exact ⟨g4, sp5, g6, sp7, hs⟩
    · intro L ac w hJ
      obtain ⟨g4, sp5, g6, sp7, hs⟩ := hJ
      refine wpO_plain rfl (op_load hs (some 2) 1 (v := W b) rfl rfl rfl rfl Try.isAgg24 Try.sizeOf24 rfl rfl fun ac hs => ?_)
      exact ⟨g4, sp5, g6, sp7, hs⟩
    · intro L ac w hJ
      obtain ⟨g4, sp5, g6, sp7, hs⟩ := hJ
      refine wpO_plain rfl (op_callM (F := 40) hs (some 3) (some 4) (T := 22) (v := fun g c => .slice (some ⟨g, 0, none⟩) 16 c) (cs := (tab .u64 16 (dg b))) rfl rfl rfl rfl (Try.call40 _) (fun w => digits_c b w) rfl rfl fun g6 sp7 ac w hs => ?_)
      exact ⟨g4, sp5, g6, sp7, hs⟩
    · intro L ac w hJ
      obtain ⟨g4, sp5, g6, sp7, hs⟩ := hJ
      refine wpO_plain rfl (op_assign hs (some 4) rfl rfl rfl rfl fun ac hs => ?_)
      exact ⟨g4, sp5, g6, sp7, hs⟩
    · intro L ac w hJ
      obtain ⟨g4, sp5, g6, sp7, hs⟩ := hJ
      refine wpO_plain rfl (op_assign hs (some 5) rfl rfl rfl rfl fun ac hs => ?_)
      exact ⟨g4, sp5, g6, sp7, hs⟩
  intro ac w hJ
  obtain ⟨g4, sp5, g6, sp7, hs⟩ := hJ
  replace hs : St 39 w0 [(10, true, W a), (11, true, .slice (some ⟨g4, 0, none⟩) 16 ((tab .u64 16 (dg a) ++ sp5).length)), (12, true, W b), (13, true, .slice (some ⟨g6, 0, none⟩) 16 ((tab .u64 16 (dg b) ++ sp7).length)), (6, true, .slice (some ⟨g4, 0, none⟩) 16 ((tab .u64 16 (dg a) ++ sp5).length)), (7, true, .slice (some ⟨g6, 0, none⟩) 16 ((tab .u64 16 (dg b) ++ sp7).length)), (2, true, .pointer (some ⟨g1, 0, none⟩)), (3, true, .pointer (some ⟨g2, 0, none⟩)), (4, true, .pointer (some ⟨g3, 0, none⟩)), (5, true, .int .u64 0)] [(true, g1, 24, (Wl a)), (true, g2, 24, (Wl b)), (true, g3, 24, [.int .u64 0, .int .u64 0, .int .u64 0, .int .u64 0]), (true, g4, 22, (tab .u64 16 (dg a) ++ sp5)), (true, g6, 22, (tab .u64 16 (dg b) ++ sp7))] ac w := hs
  refine then_n ?_
  refine wp_seq ?_
  refine wp_region_lit ?_
  refine lstep (wpO_plain rfl (op_assign hs none rfl rfl rfl rfl fun ac hs => ?_))
  refine wpList_nil ?_
  refine then_n ?_
  refine wp_seq ?_
  refine wp_seq ?_
  refine wp_region_lit ?_
  refine lstep (wpO_plain rfl (op_assign hs none rfl rfl rfl rfl fun ac hs => ?_))
  refine wpList_nil ?_
  refine then_n ?_
  refine wp_block ?_
  refine wp_loop_m (fun μ ac w => ∃ (k : Nat) (c : Nat) (f : Nat → Nat), (16 - k) = μ ∧ (k ≤ 16) ∧ (c = cyd a b k) ∧ (∀ j, j < 16 → f j = mixs (a + b) a k j) ∧ St 39 w0 [(4, true, .pointer (some ⟨g3, 0, none⟩)), (6, true, .slice (some ⟨g4, 0, none⟩) 16 ((tab .u64 16 (dg a) ++ sp5).length)), (7, true, .slice (some ⟨g6, 0, none⟩) 16 ((tab .u64 16 (dg b) ++ sp7).length)), (8, true, .int .u64 ((c : Nat) : Int)), (9, true, .int .i64 ((k : Nat) : Int))] [(true, g1, 24, (Wl a)), (true, g2, 24, (Wl b)), (true, g3, 24, [.int .u64 0, .int .u64 0, .int .u64 0, .int .u64 0]), (true, g4, 22, (tab .u64 16 f ++ sp5)), (true, g6, 22, (tab .u64 16 (dg b) ++ sp7))] ac w) ?_ ?_
  · exact ⟨_, 0, 0, (dg a), rfl, (by omega), (cyd_zero a b).symm, (fun j _ => (mixs_zero _ _ j).symm), (hs.re ⟨rfl, rfl, rfl, rfl, rfl, trivial⟩)⟩
  intro μ ac w ⟨k, c, f, hμ, hk, hcb, hf, hs⟩
  have hc0 : c ≤ 1 := by rw [hcb]; exact cyd_le a b k
  refine wp_seq ?_
  refine wp_seq ?_
  refine wp_region_lit ?_
  refine lstep (wpO_plain rfl (op_move hs none rfl rfl rfl rfl fun ac hs => ?_))
  refine lstep (wpO_plain rfl (op_bin hs none (v := .bool (decide (k < 16))) rfl rfl rfl rfl (fun _ => rfl) (bin_lssN (x := k) (y := 16)) rfl fun ac hs => ?_))
  refine wpList_nil ?_
  refine then_n ?_
  refine wp_cond_split (hs.ev rfl) (fun hc => ?_) (fun hc => ?_)
  · skip
    have hp8 := of_decide_eq_true hc
    have hlt : k < 16 := of_decide_eq_true hc
    have hfk := (hf k hlt).trans mixs_at
    have hfl := dg_lt a k
    have hfb := dg_lt b k
    have hfm : f k < 65536 := by omega
    refine wp_skip ?_
    refine then_n ?_
    refine wp_seq ?_
    refine wp_block ?_
    refine wp_seq ?_
    replace hs : St 39 w0 [(4, true, .pointer (some ⟨g3, 0, none⟩)), (6, true, .slice (some ⟨g4, 0, none⟩) 16 ((tab .u64 16 (dg a) ++ sp5).length)), (7, true, .slice (some ⟨g6, 0, none⟩) 16 ((tab .u64 16 (dg b) ++ sp7).length)), (8, true, .int .u64 ((c : Nat) : Int)), (9, true, .int .i64 ((k : Nat) : Int))] [(true, g1, 24, (Wl a)), (true, g2, 24, (Wl b)), (true, g3, 24, [.int .u64 0, .int .u64 0, .int .u64 0, .int .u64 0]), (true, g4, 22, (tab .u64 16 f ++ sp5)), (true, g6, 22, (tab .u64 16 (dg b) ++ sp7))] ac _ := hs.re ⟨rfl, rfl, rfl, rfl, rfl, trivial⟩
    have l9 := dg_lt b k
    refine region_inv [([], [5, 10, 11]), ([], [3, 4, 5, 10, 11]), ([], [3, 4, 5, 10, 11]), ([1, 2], [4, 5, 10, 11]), ([1, 2, 3], [5, 10, 11]), ([0, 1, 2, 3, 4], [10, 11]), ([], [8, 9, 10, 11]), ([], [8, 9, 10, 11]), ([6, 7], [9, 10, 11]), ([6, 7, 8], [10, 11]), ([0, 1, 2, 3, 4, 5, 6, 7, 8, 9], [11]), ([0, 1, 2, 3, 4, 5, 6, 7, 8, 9, 10], [])] (fun L ac w => St 39 w0 [(18, L 0, .int .u64 ((c : Nat) : Int)), (19, L 1, .slice (some ⟨g4, 0, none⟩) 16 ((tab .u64 16 (dg a) ++ sp5).length)), (20, L 2, .int .i64 ((k : Nat) : Int)), (21, L 3, .pointer (some ⟨g4, k, none⟩)), (22, L 4, .int .u64 ((f k : Nat) : Int)), (23, L 5, .int .u64 ((c + (f k) : Nat) : Int)), (24, L 6, .slice (some ⟨g6, 0, none⟩) 16 ((tab .u64 16 (dg b) ++ sp7).length)), (25, L 7, .int .i64 ((k : Nat) : Int)), (26, L 8, .pointer (some ⟨g6, k, none⟩)), (27, L 9, .int .u64 (((dg b) k : Nat) : Int)), (28, L 10, .int .u64 ((c + (f k) + ((dg b) k) : Nat) : Int)), (8, L 11, .int .u64 ((c + (f k) + ((dg b) k) : Nat) : Int)), (4, true, .pointer (some ⟨g3, 0, none⟩)), (6, true, .slice (some ⟨g4, 0, none⟩) 16 ((tab .u64 16 (dg a) ++ sp5).length)), (7, true, .slice (some ⟨g6, 0, none⟩) 16 ((tab .u64 16 (dg b) ++ sp7).length)), (8, true, .int .u64 ((c : Nat) : Int)), (9, true, .int .i64 ((k : Nat) : Int))] [(true, g1, 24, (Wl a)), (true, g2, 24, (Wl b)), (true, g3, 24, [.int .u64 0, .int .u64 0, .int .u64 0, .int .u64 0]), (true, g4, 22, (tab .u64 16 f ++ sp5)), (true, g6, 22, (tab .u64 16 (dg b) ++ sp7))] ac w) (by kernel_rfl) (by kernel_rfl) ?_ ?_ ?_
    · exact hs.drew.skip.skip.skip.skip.skip.skip.skip.skip.skip.skip.skip.skip
    · refine ⟨?_, ?_, ?_, ?_, ?_, ?_, ?_, ?_, ?_, ?_, ?_, ?_, trivial⟩
      · intro L ac w hJ
        have hs := hJ
        refine wpO_plain rfl (op_move hs (some 0) rfl rfl rfl rfl fun ac hs => ?_)
        exact hs
      · intro L ac w hJ
        have hs := hJ
        refine wpO_plain rfl (op_move hs (some 1) rfl rfl rfl rfl fun ac hs => ?_)
        exact hs
      · intro L ac w hJ
        have hs := hJ
        refine wpO_plain rfl (op_move hs (some 2) rfl rfl rfl rfl fun ac hs => ?_)
        exact hs
      · intro L ac w hJ
        have hs := hJ
        refine wpO_plain rfl (op_idxS hs (some 3) (j := k) rfl rfl rfl rfl Try.underlying51 Try.sizeOf22 (show k < 16 by omega) (off := k) (by omega) rfl fun ac hs => ?_)
        exact hs
      · intro L ac w hJ
        have hs := hJ
        refine wpO_plain rfl (op_load hs (some 4) 3 (v := .int .u64 ((f k : Nat) : Int)) rfl rfl rfl rfl Try.isAgg22 Try.sizeOf22 (tabs_get (j := k) (show k < 16 by omega)) rfl fun ac hs => ?_)
        exact hs
      · intro L ac w hJ
        have hs := hJ
        refine wpO_plain rfl (op_bin hs (some 5) (v := .int .u64 ((c + (f k) : Nat) : Int)) rfl rfl rfl rfl (fun _ => rfl) (bin_addN (x := c) (y := f k) (z := c + (f k)) rfl (show c + (f k) < 18446744073709551616 by omega)) rfl fun ac hs => ?_)
        exact hs
      · intro L ac w hJ
        have hs := hJ
        refine wpO_plain rfl (op_move hs (some 6) rfl rfl rfl rfl fun ac hs => ?_)
        exact hs
      · intro L ac w hJ
        have hs := hJ
        refine wpO_plain rfl (op_move hs (some 7) rfl rfl rfl rfl fun ac hs => ?_)
        exact hs
      · intro L ac w hJ
        have hs := hJ
        refine wpO_plain rfl (op_idxS hs (some 8) (j := k) rfl rfl rfl rfl Try.underlying51 Try.sizeOf22 (show k < 16 by omega) (off := k) (by omega) rfl fun ac hs => ?_)
        exact hs
      · intro L ac w hJ
        have hs := hJ
        refine wpO_plain rfl (op_load hs (some 9) 4 (v := .int .u64 (((dg b) k : Nat) : Int)) rfl rfl rfl rfl Try.isAgg22 Try.sizeOf22 (tabs_get (j := k) (show k < 16 by omega)) rfl fun ac hs => ?_)
        exact hs
      · intro L ac w hJ
        have hs := hJ
        refine wpO_plain rfl (op_bin hs (some 10) (v := .int .u64 ((c + (f k) + ((dg b) k) : Nat) : Int)) rfl rfl rfl rfl (fun _ => rfl) (bin_addN (x := c + (f k)) (y := (dg b) k) (z := c + (f k) + ((dg b) k)) rfl (show c + (f k) + ((dg b) k) < 18446744073709551616 by omega)) rfl fun ac hs => ?_)
        exact hs
      · intro L ac w hJ
        have hs := hJ
        refine wpO_plain rfl (op_assign hs (some 11) rfl rfl rfl rfl fun ac hs => ?_)
        exact hs
    intro ac w hJ
    replace hs : St 39 w0 [(18, true, .int .u64 ((c : Nat) : Int)), (19, true, .slice (some ⟨g4, 0, none⟩) 16 ((tab .u64 16 (dg a) ++ sp5).length)), (20, true, .int .i64 ((k : Nat) : Int)), (21, true, .pointer (some ⟨g4, k, none⟩)), (22, true, .int .u64 ((f k : Nat) : Int)), (23, true, .int .u64 ((c + (f k) : Nat) : Int)), (24, true, .slice (some ⟨g6, 0, none⟩) 16 ((tab .u64 16 (dg b) ++ sp7).length)), (25, true, .int .i64 ((k : Nat) : Int)), (26, true, .pointer (some ⟨g6, k, none⟩)), (27, true, .int .u64 (((dg b) k : Nat) : Int)), (28, true, .int .u64 ((c + (f k) + ((dg b) k) : Nat) : Int)), (8, true, .int .u64 ((c + (f k) + ((dg b) k) : Nat) : Int)), (4, true, .pointer (some ⟨g3, 0, none⟩)), (6, true, .slice (some ⟨g4, 0, none⟩) 16 ((tab .u64 16 (dg a) ++ sp5).length)), (7, true, .slice (some ⟨g6, 0, none⟩) 16 ((tab .u64 16 (dg b) ++ sp7).length)), (8, true, .int .u64 ((c : Nat) : Int)), (9, true, .int .i64 ((k : Nat) : Int))] [(true, g1, 24, (Wl a)), (true, g2, 24, (Wl b)), (true, g3, 24, [.int .u64 0, .int .u64 0, .int .u64 0, .int .u64 0]), (true, g4, 22, (tab .u64 16 f ++ sp5)), (true, g6, 22, (tab .u64 16 (dg b) ++ sp7))] ac w := hJ
    refine then_n ?_
    refine wp_seq ?_
    refine wp_region_lit ?_
    refine lstep (wpO_plain rfl (op_move hs none rfl rfl rfl rfl fun ac hs => ?_))
    refine lstep (wpO_plain rfl (op_move hs none rfl rfl rfl rfl fun ac hs => ?_))
    refine lstep (wpO_plain rfl (op_move hs none rfl rfl rfl rfl fun ac hs => ?_))
    refine lstep (wpO_plain rfl (op_bin hs none (v := .int .u64 (((c + (f k) + ((dg b) k)) % 65536 : Nat) : Int)) rfl rfl rfl rfl (fun _ => rfl) (bin_remN (x := c + (f k) + ((dg b) k)) (y := 65536) (z := (c + (f k) + ((dg b) k)) % 65536) rfl (by decide)) rfl fun ac hs => ?_))
    refine lstep (wpO_plain rfl (op_idxS hs none (j := k) rfl rfl rfl rfl Try.underlying51 Try.sizeOf22 (show k < 16 by omega) (off := k) (by omega) rfl fun ac hs => ?_))
    refine lstep (wpO_plain rfl (op_store hs 3 (vs := [.int .u64 (((c + (f k) + ((dg b) k)) % 65536 : Nat) : Int)]) rfl rfl rfl rfl rfl Try.sizeOf22 rfl rfl rfl (tabs_le (j := k) (show k < 16 by omega)) (tabs_set (j := k) (show k < 16 by omega)) fun w hs => ?_))
    refine wpList_nil ?_
    refine then_n ?_
    refine wp_region_lit ?_
    refine lstep (wpO_plain rfl (op_move hs none rfl rfl rfl rfl fun ac hs => ?_))
    refine lstep (wpO_plain rfl (op_bin hs none (v := .int .u64 (((c + (f k) + ((dg b) k)) / 65536 : Nat) : Int)) rfl rfl rfl rfl (fun _ => rfl) (bin_quoN (x := c + (f k) + ((dg b) k)) (y := 65536) (z := (c + (f k) + ((dg b) k)) / 65536) rfl (by decide) (show c + (f k) + ((dg b) k) < 18446744073709551616 by omega)) rfl fun ac hs => ?_))
    refine lstep (wpO_plain rfl (op_assign hs none rfl rfl rfl rfl fun ac hs => ?_))
    refine wpList_nil ?_
    refine blk_n ?_
    refine then_n ?_
    refine wp_region_lit ?_
    refine lstep (wpO_plain rfl (op_move hs none rfl rfl rfl rfl fun ac hs => ?_))
    refine lstep (wpO_plain rfl (op_bin hs none (v := .int .i64 ((k + 1 : Nat) : Int)) rfl rfl rfl rfl (fun _ => rfl) (bin_addN (x := k) (y := 1) (z := k + 1) rfl (show k + 1 < 9223372036854775808 by omega)) rfl fun ac hs => ?_))
    refine lstep (wpO_plain rfl (op_assign hs none rfl rfl rfl rfl fun ac hs => ?_))
    refine wpList_nil ?_
    refine then_n ?_
    exact ⟨_, ⟨(k + 1), ((c + (f k) + ((dg b) k)) / 65536), (upn f k ((c + (f k) + ((dg b) k)) % 65536)), rfl, hlt, (add_c hcb hfk), (add_f hlt hcb hf), (hs.re ⟨rfl, rfl, rfl, rfl, rfl, trivial⟩)⟩, (by omega)⟩
  · skip
    have hp10 := of_decide_eq_false hc
    obtain rfl : k = 16 := by omega
    replace hs := hs.setb 3 (cs' := tab .u64 16 (dg d) ++ sp5) rfl (by rw [tab_congr (add_fin hd hf)])
    refine wp_exit ?_
    refine then_e ?_
    refine then_e ?_
    refine blk_e ?_
    refine then_n ?_
    refine wp_seq ?_
    refine wp_region_lit ?_
    refine lstep (wpO_plain rfl (op_move hs none rfl rfl rfl rfl fun ac hs => ?_))
    obtain ⟨r11, hr11, lr11⟩ : ∃ z0, d / p6 0 % 2 ^ 256 = z0 ∧ z0 < 2 ^ 256 := ⟨_, rfl, Nat.mod_lt _ (Nat.two_pow_pos 256)⟩
    refine lstep (wpO_plain rfl (op_callW (F := 41) hs none (v := W r11) rfl rfl rfl rfl (Try.call41 _) (fun hs => whole_c d 16 0 r11 g4 _ _ (hs.cellT (k := 3) rfl) (show d < p6 16 from ld) (by decide) (by decide) hr11) rfl fun ac w hs => ?_))
    refine lstep (wpO_plain rfl (op_move hs none rfl rfl rfl rfl fun ac hs => ?_))
    refine lstep (wpO_plain rfl (op_store hs 2 (vs := (Wl r11)) rfl rfl rfl rfl rfl Try.sizeOf24 rfl rfl rfl rfl rfl fun w hs => ?_))
    refine lstep (wpO_plain rfl (op_assign hs none rfl rfl rfl rfl fun ac hs => ?_))
    refine wpList_nil ?_
    refine then_n ?_
    refine wp_ret ?_
    exact bodyPost_ret (res2 rfl (rv_c hs 2 (v := W r11) rfl rfl Try.isAgg24 Try.sizeOf24 rfl) (rv_t hs rfl)) hs.defers ⟨by rw [← hr11, whole0 ld, hcb, add_q ha hb hc'], hs.below⟩
theorem rsub06_c (a b d q : Nat) (ha : a < 2 ^ 256) (hb : b < 2 ^ 256) (hd : (a + 2 ^ 256 - b) % 2 ^ 256 = d) (hc' : bor a b = q) (w0 : World) : Calls Try.prog 14 #[W a, W b] w0 fun e w' => e = .returned (.tuple #[W d, .int .u64 ((q : Nat) : Int)]) ∧ Below w0.heap.size w0 w' := by
  have ld : d < 2 ^ 256 := by rw [← hd]; exact Nat.mod_lt _ (Nat.two_pow_pos 256)
  refine enter (n := 42) (args := [W a, W b]) Try.func14 rfl rfl (Nat.le_of_ble_eq_true rfl) fun ac hs => ?_
  refine wp_seq ?_
  refine wp_region_lit ?_
  refine lstep (wpO_plain rfl (op_box hs none none (cs := (Wl a)) rfl rfl rfl rfl rfl rfl fun g1 ac w hs => ?_))
  refine lstep (wpO_plain rfl (op_box hs none none (cs := (Wl b)) rfl rfl rfl rfl rfl rfl fun g2 ac w hs => ?_))
  refine lstep (wpO_plain rfl (op_alloc hs none none (cs := [.int .u64 0, .int .u64 0, .int .u64 0, .int .u64 0]) rfl rfl Try.zeroValue24 (by kernel_rfl) rfl rfl fun g3 ac w hs => ?_))
  refine lstep (wpO_plain rfl (op_assign hs none rfl rfl rfl rfl fun ac hs => ?_))
  refine wpList_nil ?_
  refine then_n ?_
  refine wp_seq ?_
  replace hs : St 42 w0 [(2, true, .pointer (some ⟨g1, 0, none⟩)), (3, true, .pointer (some ⟨g2, 0, none⟩)), (4, true, .pointer (some ⟨g3, 0, none⟩)), (5, true, .int .u64 0)] [(true, g1, 24, (Wl a)), (true, g2, 24, (Wl b)), (true, g3, 24, [.int .u64 0, .int .u64 0, .int .u64 0, .int .u64 0])] ac _ := hs.re ⟨rfl, rfl, rfl, rfl, trivial⟩
  refine region_inv [([], [1, 3, 4, 5]), ([0], [3, 4, 5]), ([], [3, 4, 5]), ([0, 1, 2], [4, 5]), ([0, 1, 2, 3], [5]), ([0, 1, 2, 3, 4], [])] (fun L ac w => ∃ (g4 : Nat) (sp5 : List Value) (g6 : Nat) (sp7 : List Value), St 42 w0 [(11, L 0, W a), (12, L 1, .slice (some ⟨g4, 0, none⟩) 16 ((tab .u64 16 (dg a) ++ sp5).length)), (13, L 2, W b), (14, L 3, .slice (some ⟨g6, 0, none⟩) 16 ((tab .u64 16 (dg b) ++ sp7).length)), (6, L 4, cond (L 4) (.slice (some ⟨g4, 0, none⟩) 16 ((tab .u64 16 (dg a) ++ sp5).length)) undef), (7, L 5, cond (L 5) (.slice (some ⟨g6, 0, none⟩) 16 ((tab .u64 16 (dg b) ++ sp7).length)) undef), (2, true, .pointer (some ⟨g1, 0, none⟩)), (3, true, .pointer (some ⟨g2, 0, none⟩)), (4, true, .pointer (some ⟨g3, 0, none⟩)), (5, true, .int .u64 0)] [(true, g1, 24, (Wl a)), (true, g2, 24, (Wl b)), (true, g3, 24, [.int .u64 0, .int .u64 0, .int .u64 0, .int .u64 0]), (L 1, g4, 22, (tab .u64 16 (dg a) ++ sp5)), (L 3, g6, 22, (tab .u64 16 (dg b) ++ sp7))] ac w) (by kernel_rfl) (by kernel_rfl) ?_ ?_ ?_
  · exact ⟨0, [], 0, [], hs.drew.skip.skip.skip.skip.skip.skip.pad.pad⟩
  · refine ⟨?_, ?_, ?_, ?_, ?_, ?_, trivial⟩
    · intro L ac w hJ
      obtain ⟨g4, sp5, g6, sp7, hs⟩ := hJ
      refine wpO_plain rfl (op_load hs (some 0) 0 (v := W a) rfl rfl rfl rfl Try.isAgg24 Try.sizeOf24 rfl rfl fun ac hs => ?_)
      exact ⟨g4, sp5, g6, sp7, hs⟩
    · intro L ac w hJ
      obtain ⟨g4, sp5, g6, sp7, hs⟩ := hJ
      refine wpO_plain rfl (op_callM (F := 40) hs (some 1) (some 3) (T := 22) (v := fun g c => .slice (some ⟨g, 0, none⟩) 16 c) (cs := (tab .u64 16 (dg a))) rfl rfl rfl rfl (Try.call40 _) (fun w => digits_c a w) rfl rfl fun g4 sp5 ac w hs => ?_)
      exact ⟨g4, sp5, g6, sp7, hs⟩
    · intro L ac w hJ
      obtain ⟨g4, sp5, g6, sp7, hs⟩ := hJ
      refine wpO_plain rfl (op_load hs (some 2) 1 (v := W b) rfl rfl rfl rfl Try.isAgg24 Try.sizeOf24 rfl rfl fun ac hs => ?_)
      exact ⟨g4, sp5, g6, sp7, hs⟩
    · intro L ac w hJ
      obtain ⟨g4, sp5, g6, sp7, hs⟩ := hJ
      refine wpO_plain rfl (op_callM (F := 40) hs (some 3) (some 4) (T := 22) (v := fun g c => .slice (some ⟨g, 0, none⟩) 16 c) (cs := (tab .u64 16 (dg b))) rfl rfl rfl rfl (Try.call40 _) (fun w => digits_c b w) rfl rfl fun g6 sp7 ac w hs => ?_)
      exact ⟨g4, sp5, g6, sp7, hs⟩
    · intro L ac w hJ
      obtain ⟨g4, sp5, g6, sp7, hs⟩ := hJ
      refine wpO_plain rfl (op_assign hs (some 4) rfl rfl rfl rfl fun ac hs => ?_)
      exact ⟨g4, sp5, g6, sp7, hs⟩
    · intro L ac w hJ
      obtain ⟨g4, sp5, g6, sp7, hs⟩ := hJ
      refine wpO_plain rfl (op_assign hs (some 5) rfl rfl rfl rfl fun ac hs => ?_)
      exact ⟨g4, sp5, g6, sp7, hs⟩
  intro ac w hJ
  obtain ⟨g4, sp5, g6, sp7, hs⟩ := hJ
  replace hs : St 42 w0 [(11, true, W a), (12, true, .slice (some ⟨g4, 0, none⟩) 16 ((tab .u64 16 (dg a) ++ sp5).length)), (13, true, W b), (14, true, .slice (some ⟨g6, 0, none⟩) 16 ((tab .u64 16 (dg b) ++ sp7).length)), (6, true, .slice (some ⟨g4, 0, none⟩) 16 ((tab .u64 16 (dg a) ++ sp5).length)), (7, true, .slice (some ⟨g6, 0, none⟩) 16 ((tab .u64 16 (dg b) ++ sp7).length)), (2, true, .pointer (some ⟨g1, 0, none⟩)), (3, true, .pointer (some ⟨g2, 0, none⟩)), (4, true, .pointer (some ⟨g3, 0, none⟩)), (5, true, .int .u64 0)] [(true, g1, 24, (Wl a)), (true, g2, 24, (Wl b)), (true, g3, 24, [.int .u64 0, .int .u64 0, .int .u64 0, .int .u64 0]), (true, g4, 22, (tab .u64 16 (dg a) ++ sp5)), (true, g6, 22, (tab .u64 16 (dg b) ++ sp7))] ac w := hs
  refine then_n ?_
  refine wp_seq ?_
  refine wp_region_lit ?_
  refine lstep (wpO_plain rfl (op_assign hs none rfl rfl rfl rfl fun ac hs => ?_))
  refine wpList_nil ?_
  refine then_n ?_
  refine wp_seq ?_
  refine wp_seq ?_
  refine wp_region_lit ?_
  refine lstep (wpO_plain rfl (op_assign hs none rfl rfl rfl rfl fun ac hs => ?_))
  refine wpList_nil ?_
  refine then_n ?_
  refine wp_block ?_
  refine wp_loop_m (fun μ ac w => ∃ (k : Nat) (c : Nat) (f : Nat → Nat), (16 - k) = μ ∧ (k ≤ 16) ∧ (c = bwd a b k) ∧ (∀ j, j < 16 → f j = mixs (a + 2 ^ 256 - b) a k j) ∧ St 42 w0 [(4, true, .pointer (some ⟨g3, 0, none⟩)), (6, true, .slice (some ⟨g4, 0, none⟩) 16 ((tab .u64 16 (dg a) ++ sp5).length)), (7, true, .slice (some ⟨g6, 0, none⟩) 16 ((tab .u64 16 (dg b) ++ sp7).length)), (8, true, .int .u64 ((c : Nat) : Int)), (9, true, .int .i64 ((k : Nat) : Int))] [(true, g1, 24, (Wl a)), (true, g2, 24, (Wl b)), (true, g3, 24, [.int .u64 0, .int .u64 0, .int .u64 0, .int .u64 0]), (true, g4, 22, (tab .u64 16 f ++ sp5)), (true, g6, 22, (tab .u64 16 (dg b) ++ sp7))] ac w) ?_ ?_
  · exact ⟨_, 0, 0, (dg a), rfl, (by omega), (bwd_zero a b).symm, (fun j _ => (mixs_zero _ _ j).symm), (hs.re ⟨rfl, rfl, rfl, rfl, rfl, trivial⟩)⟩
  intro μ ac w ⟨k, c, f, hμ, hk, hcb, hf, hs⟩
  have hc0 : c ≤ 1 := by rw [hcb]; exact bwd_le a b k
  refine wp_seq ?_
  refine wp_seq ?_
  refine wp_region_lit ?_
  refine lstep (wpO_plain rfl (op_move hs none rfl rfl rfl rfl fun ac hs => ?_))
  refine lstep (wpO_plain rfl (op_bin hs none (v := .bool (decide (k < 16))) rfl rfl rfl rfl (fun _ => rfl) (bin_lssN (x := k) (y := 16)) rfl fun ac hs => ?_))
  refine wpList_nil ?_
  refine then_n ?_
  refine wp_cond_split (hs.ev rfl) (fun hc => ?_) (fun hc => ?_)
  · skip
    have hp8 := of_decide_eq_true hc
    have hlt : k < 16 := of_decide_eq_true hc
    have hfk := (hf k hlt).trans mixs_at
    have hfl := dg_lt a k
    have hfb := dg_lt b k
    have hfm : f k < 65536 := by omega
    refine wp_skip ?_
    refine then_n ?_
    refine wp_seq ?_
    refine wp_block ?_
    refine wp_seq ?_
    replace hs : St 42 w0 [(4, true, .pointer (some ⟨g3, 0, none⟩)), (6, true, .slice (some ⟨g4, 0, none⟩) 16 ((tab .u64 16 (dg a) ++ sp5).length)), (7, true, .slice (some ⟨g6, 0, none⟩) 16 ((tab .u64 16 (dg b) ++ sp7).length)), (8, true, .int .u64 ((c : Nat) : Int)), (9, true, .int .i64 ((k : Nat) : Int))] [(true, g1, 24, (Wl a)), (true, g2, 24, (Wl b)), (true, g3, 24, [.int .u64 0, .int .u64 0, .int .u64 0, .int .u64 0]), (true, g4, 22, (tab .u64 16 f ++ sp5)), (true, g6, 22, (tab .u64 16 (dg b) ++ sp7))] ac _ := hs.re ⟨rfl, rfl, rfl, rfl, rfl, trivial⟩
    have l9 := dg_lt b k
    refine region_inv [([], [2, 3, 4, 9, 11, 12]), ([], [2, 3, 4, 9, 11, 12]), ([0, 1], [3, 4, 9, 11, 12]), ([0, 1, 2], [4, 9, 11, 12]), ([0, 1, 2, 3], [9, 11, 12]), ([], [7, 8, 9, 11, 12]), ([], [7, 8, 9, 11, 12]), ([5, 6], [8, 9, 11, 12]), ([5, 6, 7], [9, 11, 12]), ([0, 1, 2, 3, 4, 5, 6, 7, 8], [11, 12]), ([], [11, 12]), ([0, 1, 2, 3, 4, 5, 6, 7, 8, 9, 10], [12]), ([0, 1, 2, 3, 4, 5, 6, 7, 8, 9, 10, 11], [])] (fun L ac w => St 42 w0 [(19, L 0, .slice (some ⟨g4, 0, none⟩) 16 ((tab .u64 16 (dg a) ++ sp5).length)), (20, L 1, .int .i64 ((k : Nat) : Int)), (21, L 2, .pointer (some ⟨g4, k, none⟩)), (22, L 3, .int .u64 ((f k : Nat) : Int)), (23, L 4, .int .u64 ((f k + 65536 : Nat) : Int)), (24, L 5, .slice (some ⟨g6, 0, none⟩) 16 ((tab .u64 16 (dg b) ++ sp7).length)), (25, L 6, .int .i64 ((k : Nat) : Int)), (26, L 7, .pointer (some ⟨g6, k, none⟩)), (27, L 8, .int .u64 (((dg b) k : Nat) : Int)), (28, L 9, .int .u64 ((f k + 65536 - ((dg b) k) : Nat) : Int)), (29, L 10, .int .u64 ((c : Nat) : Int)), (30, L 11, .int .u64 ((f k + 65536 - ((dg b) k) - c : Nat) : Int)), (10, L 12, .int .u64 ((f k + 65536 - ((dg b) k) - c : Nat) : Int)), (4, true, .pointer (some ⟨g3, 0, none⟩)), (6, true, .slice (some ⟨g4, 0, none⟩) 16 ((tab .u64 16 (dg a) ++ sp5).length)), (7, true, .slice (some ⟨g6, 0, none⟩) 16 ((tab .u64 16 (dg b) ++ sp7).length)), (8, true, .int .u64 ((c : Nat) : Int)), (9, true, .int .i64 ((k : Nat) : Int))] [(true, g1, 24, (Wl a)), (true, g2, 24, (Wl b)), (true, g3, 24, [.int .u64 0, .int .u64 0, .int .u64 0, .int .u64 0]), (true, g4, 22, (tab .u64 16 f ++ sp5)), (true, g6, 22, (tab .u64 16 (dg b) ++ sp7))] ac w) (by kernel_rfl) (by kernel_rfl) ?_ ?_ ?_
    · exact hs.drew.skip.skip.skip.skip.skip.skip.skip.skip.skip.skip.skip.skip.skip
    · refine ⟨?_, ?_, ?_, ?_, ?_, ?_, ?_, ?_, ?_, ?_, ?_, ?_, ?_, trivial⟩
      · intro L ac w hJ
        have hs := hJ
        refine wpO_plain rfl (op_move hs (some 0) rfl rfl rfl rfl fun ac hs => ?_)
        exact hs
      · intro L ac w hJ
        have hs := hJ
        refine wpO_plain rfl (op_move hs (some 1) rfl rfl rfl rfl fun ac hs => ?_)
        exact hs
      · intro L ac w hJ
        have hs := hJ
        refine wpO_plain rfl (op_idxS hs (some 2) (j := k) rfl rfl rfl rfl Try.underlying51 Try.sizeOf22 (show k < 16 by omega) (off := k) (by omega) rfl fun ac hs => ?_)
        exact hs
      · intro L ac w hJ
        have hs := hJ
        refine wpO_plain rfl (op_load hs (some 3) 3 (v := .int .u64 ((f k : Nat) : Int)) rfl rfl rfl rfl Try.isAgg22 Try.sizeOf22 (tabs_get (j := k) (show k < 16 by omega)) rfl fun ac hs => ?_)
        exact hs
      · intro L ac w hJ
        have hs := hJ
        refine wpO_plain rfl (op_bin hs (some 4) (v := .int .u64 ((f k + 65536 : Nat) : Int)) rfl rfl rfl rfl (fun _ => rfl) (bin_addN (x := f k) (y := 65536) (z := f k + 65536) rfl (show f k + 65536 < 18446744073709551616 by omega)) rfl fun ac hs => ?_)
        exact hs
      · intro L ac w hJ
        have hs := hJ
        refine wpO_plain rfl (op_move hs (some 5) rfl rfl rfl rfl fun ac hs => ?_)
        exact hs
      · intro L ac w hJ
        have hs := hJ
        refine wpO_plain rfl (op_move hs (some 6) rfl rfl rfl rfl fun ac hs => ?_)
        exact hs
      · intro L ac w hJ
        have hs := hJ
        refine wpO_plain rfl (op_idxS hs (some 7) (j := k) rfl rfl rfl rfl Try.underlying51 Try.sizeOf22 (show k < 16 by omega) (off := k) (by omega) rfl fun ac hs => ?_)
        exact hs
      · intro L ac w hJ
        have hs := hJ
        refine wpO_plain rfl (op_load hs (some 8) 4 (v := .int .u64 (((dg b) k : Nat) : Int)) rfl rfl rfl rfl Try.isAgg22 Try.sizeOf22 (tabs_get (j := k) (show k < 16 by omega)) rfl fun ac hs => ?_)
        exact hs
      · intro L ac w hJ
        have hs := hJ
        refine wpO_plain rfl (op_bin hs (some 9) (v := .int .u64 ((f k + 65536 - ((dg b) k) : Nat) : Int)) rfl rfl rfl rfl (fun _ => rfl) (bin_subN (x := f k + 65536) (y := (dg b) k) (z := f k + 65536 - ((dg b) k)) (by omega) (show f k + 65536 - ((dg b) k) < 18446744073709551616 by omega)) rfl fun ac hs => ?_)
        exact hs
      · intro L ac w hJ
        have hs := hJ
        refine wpO_plain rfl (op_move hs (some 10) rfl rfl rfl rfl fun ac hs => ?_)
        exact hs
      · intro L ac w hJ
        have hs := hJ
        refine wpO_plain rfl (op_bin hs (some 11) (v := .int .u64 ((f k + 65536 - ((dg b) k) - c : Nat) : Int)) rfl rfl rfl rfl (fun _ => rfl) (bin_subN (x := f k + 65536 - ((dg b) k)) (y := c) (z := f k + 65536 - ((dg b) k) - c) (by omega) (show f k + 65536 - ((dg b) k) - c < 18446744073709551616 by omega)) rfl fun ac hs => ?_)
        exact hs
      · intro L ac w hJ
        have hs := hJ
        refine wpO_plain rfl (op_assign hs (some 12) rfl rfl rfl rfl fun ac hs => ?_)
        exact hs
    intro ac w hJ
    replace hs : St 42 w0 [(19, true, .slice (some ⟨g4, 0, none⟩) 16 ((tab .u64 16 (dg a) ++ sp5).length)), (20, true, .int .i64 ((k : Nat) : Int)), (21, true, .pointer (some ⟨g4, k, none⟩)), (22, true, .int .u64 ((f k : Nat) : Int)), (23, true, .int .u64 ((f k + 65536 : Nat) : Int)), (24, true, .slice (some ⟨g6, 0, none⟩) 16 ((tab .u64 16 (dg b) ++ sp7).length)), (25, true, .int .i64 ((k : Nat) : Int)), (26, true, .pointer (some ⟨g6, k, none⟩)), (27, true, .int .u64 (((dg b) k : Nat) : Int)), (28, true, .int .u64 ((f k + 65536 - ((dg b) k) : Nat) : Int)), (29, true, .int .u64 ((c : Nat) : Int)), (30, true, .int .u64 ((f k + 65536 - ((dg b) k) - c : Nat) : Int)), (10, true, .int .u64 ((f k + 65536 - ((dg b) k) - c : Nat) : Int)), (4, true, .pointer (some ⟨g3, 0, none⟩)), (6, true, .slice (some ⟨g4, 0, none⟩) 16 ((tab .u64 16 (dg a) ++ sp5).length)), (7, true, .slice (some ⟨g6, 0, none⟩) 16 ((tab .u64 16 (dg b) ++ sp7).length)), (8, true, .int .u64 ((c : Nat) : Int)), (9, true, .int .i64 ((k : Nat) : Int))] [(true, g1, 24, (Wl a)), (true, g2, 24, (Wl b)), (true, g3, 24, [.int .u64 0, .int .u64 0, .int .u64 0, .int .u64 0]), (true, g4, 22, (tab .u64 16 f ++ sp5)), (true, g6, 22, (tab .u64 16 (dg b) ++ sp7))] ac w := hJ
    refine then_n ?_
    refine wp_seq ?_
    refine wp_region_lit ?_
    refine lstep (wpO_plain rfl (op_move hs none rfl rfl rfl rfl fun ac hs => ?_))
    refine lstep (wpO_plain rfl (op_bin hs none (v := .int .u64 (((f k + 65536 - ((dg b) k) - c) / 65536 : Nat) : Int)) rfl rfl rfl rfl (fun _ => rfl) (bin_quoN (x := f k + 65536 - ((dg b) k) - c) (y := 65536) (z := (f k + 65536 - ((dg b) k) - c) / 65536) rfl (by decide) (show f k + 65536 - ((dg b) k) - c < 18446744073709551616 by omega)) rfl fun ac hs => ?_))
    refine lstep (wpO_plain rfl (op_bin hs none (v := .int .u64 ((1 - ((f k + 65536 - ((dg b) k) - c) / 65536) : Nat) : Int)) rfl rfl rfl rfl (fun _ => rfl) (bin_subN (x := 1) (y := (f k + 65536 - ((dg b) k) - c) / 65536) (z := 1 - ((f k + 65536 - ((dg b) k) - c) / 65536)) (by omega) (show 1 - ((f k + 65536 - ((dg b) k) - c) / 65536) < 18446744073709551616 by omega)) rfl fun ac hs => ?_))
    refine lstep (wpO_plain rfl (op_assign hs none rfl rfl rfl rfl fun ac hs => ?_))
    refine wpList_nil ?_
    refine then_n ?_
    refine wp_region_lit ?_
    refine lstep (wpO_plain rfl (op_move hs none rfl rfl rfl rfl fun ac hs => ?_))
    refine lstep (wpO_plain rfl (op_move hs none rfl rfl rfl rfl fun ac hs => ?_))
    refine lstep (wpO_plain rfl (op_move hs none rfl rfl rfl rfl fun ac hs => ?_))
    refine lstep (wpO_plain rfl (op_bin hs none (v := .int .u64 (((f k + 65536 - ((dg b) k) - c) % 65536 : Nat) : Int)) rfl rfl rfl rfl (fun _ => rfl) (bin_remN (x := f k + 65536 - ((dg b) k) - c) (y := 65536) (z := (f k + 65536 - ((dg b) k) - c) % 65536) rfl (by decide)) rfl fun ac hs => ?_))
    refine lstep (wpO_plain rfl (op_idxS hs none (j := k) rfl rfl rfl rfl Try.underlying51 Try.sizeOf22 (show k < 16 by omega) (off := k) (by omega) rfl fun ac hs => ?_))
    refine lstep (wpO_plain rfl (op_store hs 3 (vs := [.int .u64 (((f k + 65536 - ((dg b) k) - c) % 65536 : Nat) : Int)]) rfl rfl rfl rfl rfl Try.sizeOf22 rfl rfl rfl (tabs_le (j := k) (show k < 16 by omega)) (tabs_set (j := k) (show k < 16 by omega)) fun w hs => ?_))
    refine wpList_nil ?_
    refine blk_n ?_
    refine then_n ?_
    refine wp_region_lit ?_
    refine lstep (wpO_plain rfl (op_move hs none rfl rfl rfl rfl fun ac hs => ?_))
    refine lstep (wpO_plain rfl (op_bin hs none (v := .int .i64 ((k + 1 : Nat) : Int)) rfl rfl rfl rfl (fun _ => rfl) (bin_addN (x := k) (y := 1) (z := k + 1) rfl (show k + 1 < 9223372036854775808 by omega)) rfl fun ac hs => ?_))
    refine lstep (wpO_plain rfl (op_assign hs none rfl rfl rfl rfl fun ac hs => ?_))
    refine wpList_nil ?_
    refine then_n ?_
    exact ⟨_, ⟨(k + 1), (1 - ((f k + 65536 - ((dg b) k) - c) / 65536)), (upn f k ((f k + 65536 - ((dg b) k) - c) % 65536)), rfl, hlt, (sub_c hcb hfk), (sub_f hb hlt hcb hf), (hs.re ⟨rfl, rfl, rfl, rfl, rfl, trivial⟩)⟩, (by omega)⟩
  · skip
    have hp10 := of_decide_eq_false hc
    obtain rfl : k = 16 := by omega
    replace hs := hs.setb 3 (cs' := tab .u64 16 (dg d) ++ sp5) rfl (by rw [tab_congr (sub_fin hd hf)])
    refine wp_exit ?_
    refine then_e ?_
    refine then_e ?_
    refine blk_e ?_
    refine then_n ?_
    refine wp_seq ?_
    refine wp_region_lit ?_
    refine lstep (wpO_plain rfl (op_move hs none rfl rfl rfl rfl fun ac hs => ?_))
    obtain ⟨r11, hr11, lr11⟩ : ∃ z0, d / p6 0 % 2 ^ 256 = z0 ∧ z0 < 2 ^ 256 := ⟨_, rfl, Nat.mod_lt _ (Nat.two_pow_pos 256)⟩
    refine lstep (wpO_plain rfl (op_callW (F := 41) hs none (v := W r11) rfl rfl rfl rfl (Try.call41 _) (fun hs => whole_c d 16 0 r11 g4 _ _ (hs.cellT (k := 3) rfl) (show d < p6 16 from ld) (by decide) (by decide) hr11) rfl fun ac w hs => ?_))
    refine lstep (wpO_plain rfl (op_move hs none rfl rfl rfl rfl fun ac hs => ?_))
    refine lstep (wpO_plain rfl (op_store hs 2 (vs := (Wl r11)) rfl rfl rfl rfl rfl Try.sizeOf24 rfl rfl rfl rfl rfl fun w hs => ?_))
    refine lstep (wpO_plain rfl (op_assign hs none rfl rfl rfl rfl fun ac hs => ?_))
    refine wpList_nil ?_
    refine then_n ?_
    refine wp_ret ?_
    exact bodyPost_ret (res2 rfl (rv_c hs 2 (v := W r11) rfl rfl Try.isAgg24 Try.sizeOf24 rfl) (rv_t hs rfl)) hs.defers ⟨by rw [← hr11, whole0 ld, hcb, sub_q ha hb hc'], hs.below⟩
theorem product_c (a b : Nat) (ha : a < 2 ^ 256) (hb : b < 2 ^ 256) (w0 : World) : Calls Try.prog 49 #[W a, W b] w0 fun e w' => Made w0 22 (fun g c => .slice (some ⟨g, 0, none⟩) 32 c) (tab .u64 32 (dg (a * b))) e w' := by
  refine enter (n := 57) (args := [W a, W b]) Try.func49 rfl rfl (Nat.le_of_ble_eq_true rfl) fun ac hs => ?_
  refine wp_seq ?_
  refine wp_region_lit ?_
  refine lstep (wpO_plain rfl (op_box hs none none (cs := (Wl a)) rfl rfl rfl rfl rfl rfl fun g1 ac w hs => ?_))
  refine lstep (wpO_plain rfl (op_box hs none none (cs := (Wl b)) rfl rfl rfl rfl rfl rfl fun g2 ac w hs => ?_))
  refine lstep (wpO_plain rfl (op_assign hs none rfl rfl rfl rfl fun ac hs => ?_))
  refine wpList_nil ?_
  refine then_n ?_
  refine wp_seq ?_
  replace hs : St 57 w0 [(2, true, .pointer (some ⟨g1, 0, none⟩)), (3, true, .pointer (some ⟨g2, 0, none⟩)), (4, true, .slice none 0 0)] [(true, g1, 24, (Wl a)), (true, g2, 24, (Wl b))] ac _ := hs.re ⟨rfl, rfl, rfl, trivial⟩
  refine region_inv [([], [1, 3, 4, 5]), ([0], [3, 4, 5]), ([], [3, 4, 5]), ([0, 1, 2], [4, 5]), ([0, 1, 2, 3], [5]), ([0, 1, 2, 3, 4], [])] (fun L ac w => ∃ (g3 : Nat) (sp4 : List Value) (g5 : Nat) (sp6 : List Value), St 57 w0 [(11, L 0, W a), (12, L 1, .slice (some ⟨g3, 0, none⟩) 16 ((tab .u64 16 (dg a) ++ sp4).length)), (13, L 2, W b), (14, L 3, .slice (some ⟨g5, 0, none⟩) 16 ((tab .u64 16 (dg b) ++ sp6).length)), (5, L 4, cond (L 4) (.slice (some ⟨g3, 0, none⟩) 16 ((tab .u64 16 (dg a) ++ sp4).length)) undef), (6, L 5, cond (L 5) (.slice (some ⟨g5, 0, none⟩) 16 ((tab .u64 16 (dg b) ++ sp6).length)) undef), (2, true, .pointer (some ⟨g1, 0, none⟩)), (3, true, .pointer (some ⟨g2, 0, none⟩)), (4, true, .slice none 0 0)] [(true, g1, 24, (Wl a)), (true, g2, 24, (Wl b)), (L 1, g3, 22, (tab .u64 16 (dg a) ++ sp4)), (L 3, g5, 22, (tab .u64 16 (dg b) ++ sp6))] ac w) (by kernel_rfl) (by kernel_rfl) ?_ ?_ ?_
  · exact ⟨0, [], 0, [], hs.drew.skip.skip.skip.skip.skip.skip.pad.pad⟩
  · refine ⟨?_, ?_, ?_, ?_, ?_, ?_, trivial⟩
    · intro L ac w hJ
      obtain ⟨g3, sp4, g5, sp6, hs⟩ := hJ
      refine wpO_plain rfl (op_load hs (some 0) 0 (v := W a) rfl rfl rfl rfl Try.isAgg24 Try.sizeOf24 rfl rfl fun ac hs => ?_)
      exact ⟨g3, sp4, g5, sp6, hs⟩
    · intro L ac w hJ
      obtain ⟨g3, sp4, g5, sp6, hs⟩ := hJ
      refine wpO_plain rfl (op_callM (F := 40) hs (some 1) (some 2) (T := 22) (v := fun g c => .slice (some ⟨g, 0, none⟩) 16 c) (cs := (tab .u64 16 (dg a))) rfl rfl rfl rfl (Try.call40 _) (fun w => digits_c a w) rfl rfl fun g3 sp4 ac w hs => ?_)
      exact ⟨g3, sp4, g5, sp6, hs⟩
    · intro L ac w hJ
      obtain ⟨g3, sp4, g5, sp6, hs⟩ := hJ
      refine wpO_plain rfl (op_load hs (some 2) 1 (v := W b) rfl rfl rfl rfl Try.isAgg24 Try.sizeOf24 rfl rfl fun ac hs => ?_)
      exact ⟨g3, sp4, g5, sp6, hs⟩
    · intro L ac w hJ
      obtain ⟨g3, sp4, g5, sp6, hs⟩ := hJ
      refine wpO_plain rfl (op_callM (F := 40) hs (some 3) (some 3) (T := 22) (v := fun g c => .slice (some ⟨g, 0, none⟩) 16 c) (cs := (tab .u64 16 (dg b))) rfl rfl rfl rfl (Try.call40 _) (fun w => digits_c b w) rfl rfl fun g5 sp6 ac w hs => ?_)
      exact ⟨g3, sp4, g5, sp6, hs⟩
    · intro L ac w hJ
      obtain ⟨g3, sp4, g5, sp6, hs⟩ := hJ
      refine wpO_plain rfl (op_assign hs (some 4) rfl rfl rfl rfl fun ac hs => ?_)
      exact ⟨g3, sp4, g5, sp6, hs⟩
    · intro L ac w hJ
      obtain ⟨g3, sp4, g5, sp6, hs⟩ := hJ
      refine wpO_plain rfl (op_assign hs (some 5) rfl rfl rfl rfl fun ac hs => ?_)
      exact ⟨g3, sp4, g5, sp6, hs⟩
  intro ac w hJ
  obtain ⟨g3, sp4, g5, sp6, hs⟩ := hJ
  replace hs : St 57 w0 [(11, true, W a), (12, true, .slice (some ⟨g3, 0, none⟩) 16 ((tab .u64 16 (dg a) ++ sp4).length)), (13, true, W b), (14, true, .slice (some ⟨g5, 0, none⟩) 16 ((tab .u64 16 (dg b) ++ sp6).length)), (5, true, .slice (some ⟨g3, 0, none⟩) 16 ((tab .u64 16 (dg a) ++ sp4).length)), (6, true, .slice (some ⟨g5, 0, none⟩) 16 ((tab .u64 16 (dg b) ++ sp6).length)), (2, true, .pointer (some ⟨g1, 0, none⟩)), (3, true, .pointer (some ⟨g2, 0, none⟩)), (4, true, .slice none 0 0)] [(true, g1, 24, (Wl a)), (true, g2, 24, (Wl b)), (true, g3, 22, (tab .u64 16 (dg a) ++ sp4)), (true, g5, 22, (tab .u64 16 (dg b) ++ sp6))] ac w := hs
  refine then_n ?_
  refine wp_seq ?_
  refine wp_region_lit ?_
  refine lstep (wpO_plain rfl (op_makeS hs none none (l := 32) rfl rfl rfl rfl Try.underlying51 inf_u64_22 (show 32 ≤ 1000000 by omega) (by decide) rfl rfl fun g7 ac w hs => ?_))
  refine lstep (wpO_plain rfl (op_assign hs none rfl rfl rfl rfl fun ac hs => ?_))
  refine wpList_nil ?_
  refine then_n ?_
  refine wp_seq ?_
  refine wp_seq ?_
  refine wp_region_lit ?_
  refine lstep (wpO_plain rfl (op_assign hs none rfl rfl rfl rfl fun ac hs => ?_))
  refine wpList_nil ?_
  refine then_n ?_
  refine wp_block ?_
  refine wp_loop_m (fun μ ac w => ∃ (i : Nat) (f : Nat → Nat), (16 - i) = μ ∧ (i ≤ 16) ∧ (∀ j, j < 32 → f j = dg (VD a b i) j) ∧ St 57 w0 [(5, true, .slice (some ⟨g3, 0, none⟩) 16 ((tab .u64 16 (dg a) ++ sp4).length)), (6, true, .slice (some ⟨g5, 0, none⟩) 16 ((tab .u64 16 (dg b) ++ sp6).length)), (7, true, .slice (some ⟨g7, 0, none⟩) 32 32), (8, true, .int .i64 ((i : Nat) : Int))] [(true, g1, 24, (Wl a)), (true, g2, 24, (Wl b)), (true, g3, 22, (tab .u64 16 (dg a) ++ sp4)), (true, g5, 22, (tab .u64 16 (dg b) ++ sp6)), (true, g7, 22, (tab .u64 32 f))] ac w) ?_ ?_
  · exact ⟨_, 0, (fun _ => 0), rfl, (by omega), prod_0, (hs.re ⟨rfl, rfl, rfl, rfl, trivial⟩)⟩
  intro μ ac w ⟨i, f, hμ, hi, hf, hs⟩
  refine wp_seq ?_
  refine wp_seq ?_
  refine wp_region_lit ?_
  refine lstep (wpO_plain rfl (op_move hs none rfl rfl rfl rfl fun ac hs => ?_))
  refine lstep (wpO_plain rfl (op_bin hs none (v := .bool (decide (i < 16))) rfl rfl rfl rfl (fun _ => rfl) (bin_lssN (x := i) (y := 16)) rfl fun ac hs => ?_))
  refine wpList_nil ?_
  refine then_n ?_
  refine wp_cond_split (hs.ev rfl) (fun hc => ?_) (fun hc => ?_)
  · skip
    have hp8 := of_decide_eq_true hc
    have hli : i < 16 := of_decide_eq_true hc
    have hxl := dg_lt a i
    refine wp_skip ?_
    refine then_n ?_
    refine wp_seq ?_
    refine wp_block ?_
    refine wp_seq ?_
    refine wp_region_lit ?_
    refine lstep (wpO_plain rfl (op_assign hs none rfl rfl rfl rfl fun ac hs => ?_))
    refine wpList_nil ?_
    refine then_n ?_
    refine wp_seq ?_
    refine wp_seq ?_
    refine wp_region_lit ?_
    refine lstep (wpO_plain rfl (op_assign hs none rfl rfl rfl rfl fun ac hs => ?_))
    refine wpList_nil ?_
    refine then_n ?_
    refine wp_block ?_
    refine wp_loop_m (fun μ ac w => ∃ (k : Nat) (c : Nat) (F : Nat → Nat), (16 - k) = μ ∧ (k ≤ 16) ∧ (Ind (VD a b i) (dg a i) b i k c) ∧ (∀ j, j < 32 → F j = mixd (VD a b i) (dg a i) b i k j) ∧ St 57 w0 [(5, true, .slice (some ⟨g3, 0, none⟩) 16 ((tab .u64 16 (dg a) ++ sp4).length)), (6, true, .slice (some ⟨g5, 0, none⟩) 16 ((tab .u64 16 (dg b) ++ sp6).length)), (7, true, .slice (some ⟨g7, 0, none⟩) 32 32), (8, true, .int .i64 ((i : Nat) : Int)), (9, true, .int .u64 ((c : Nat) : Int)), (10, true, .int .i64 ((k : Nat) : Int))] [(true, g1, 24, (Wl a)), (true, g2, 24, (Wl b)), (true, g3, 22, (tab .u64 16 (dg a) ++ sp4)), (true, g5, 22, (tab .u64 16 (dg b) ++ sp6)), (true, g7, 22, (tab .u64 32 F))] ac w) ?_ ?_
    · exact ⟨_, 0, 0, f, rfl, (by omega), (ind_zero _ _ _ _), (prod_f0 hf), (hs.re ⟨rfl, rfl, rfl, rfl, rfl, rfl, trivial⟩)⟩
    intro μ ac w ⟨k, c, F, hμ, hk, hI, hF, hs⟩
    have hc0 := hI.2
    refine wp_seq ?_
    refine wp_seq ?_
    refine wp_region_lit ?_
    refine lstep (wpO_plain rfl (op_move hs none rfl rfl rfl rfl fun ac hs => ?_))
    refine lstep (wpO_plain rfl (op_bin hs none (v := .bool (decide (k < 16))) rfl rfl rfl rfl (fun _ => rfl) (bin_lssN (x := k) (y := 16)) rfl fun ac hs => ?_))
    refine wpList_nil ?_
    refine then_n ?_
    refine wp_cond_split (hs.ev rfl) (fun hc => ?_) (fun hc => ?_)
    · skip
      have hp9 := of_decide_eq_true hc
      have hlt : k < 16 := of_decide_eq_true hc
      have hfk : F (i + k) = dg (VD a b i) (i + k) := (hF _ (by omega)).trans mixd_at
      have hfl := dg_lt (VD a b i) (i + k)
      have hfb := dg_lt b k
      have hmm := mul_lt16 hxl hfb
      have hfm : F (i + k) < 65536 := by omega
      refine wp_skip ?_
      refine then_n ?_
      refine wp_seq ?_
      refine wp_block ?_
      refine wp_seq ?_
      replace hs : St 57 w0 [(5, true, .slice (some ⟨g3, 0, none⟩) 16 ((tab .u64 16 (dg a) ++ sp4).length)), (6, true, .slice (some ⟨g5, 0, none⟩) 16 ((tab .u64 16 (dg b) ++ sp6).length)), (7, true, .slice (some ⟨g7, 0, none⟩) 32 32), (8, true, .int .i64 ((i : Nat) : Int)), (9, true, .int .u64 ((c : Nat) : Int)), (10, true, .int .i64 ((k : Nat) : Int))] [(true, g1, 24, (Wl a)), (true, g2, 24, (Wl b)), (true, g3, 22, (tab .u64 16 (dg a) ++ sp4)), (true, g5, 22, (tab .u64 16 (dg b) ++ sp6)), (true, g7, 22, (tab .u64 32 F))] ac _ := hs.re ⟨rfl, rfl, rfl, rfl, rfl, rfl, trivial⟩
      have l10 := dg_lt a i
      have l11 := dg_lt b k
      refine region_inv [([], [7, 17, 18]), ([], [5, 6, 7, 17, 18]), ([], [4, 5, 6, 7, 17, 18]), ([], [4, 5, 6, 7, 17, 18]), ([2, 3], [5, 6, 7, 17, 18]), ([1, 2, 3, 4], [6, 7, 17, 18]), ([1, 2, 3, 4, 5], [7, 17, 18]), ([0, 1, 2, 3, 4, 5, 6], [17, 18]), ([], [10, 11, 16, 17, 18]), ([], [10, 11, 16, 17, 18]), ([8, 9], [11, 16, 17, 18]), ([8, 9, 10], [16, 17, 18]), ([], [14, 15, 16, 17, 18]), ([], [14, 15, 16, 17, 18]), ([12, 13], [15, 16, 17, 18]), ([12, 13, 14], [16, 17, 18]), ([8, 9, 10, 11, 12, 13, 14, 15], [17, 18]), ([0, 1, 2, 3, 4, 5, 6, 7, 8, 9, 10, 11, 12, 13, 14, 15, 16], [18]), ([0, 1, 2, 3, 4, 5, 6, 7, 8, 9, 10, 11, 12, 13, 14, 15, 16, 17], [])] (fun L ac w => St 57 w0 [(24, L 0, .int .u64 ((c : Nat) : Int)), (25, L 1, .slice (some ⟨g7, 0, none⟩) 32 32), (26, L 2, .int .i64 ((i : Nat) : Int)), (27, L 3, .int .i64 ((k : Nat) : Int)), (28, L 4, .int .i64 ((i + k : Nat) : Int)), (29, L 5, .pointer (some ⟨g7, i + k, none⟩)), (30, L 6, .int .u64 ((F (i + k) : Nat) : Int)), (31, L 7, .int .u64 ((c + (F (i + k)) : Nat) : Int)), (32, L 8, .slice (some ⟨g3, 0, none⟩) 16 ((tab .u64 16 (dg a) ++ sp4).length)), (33, L 9, .int .i64 ((i : Nat) : Int)), (34, L 10, .pointer (some ⟨g3, i, none⟩)), (35, L 11, .int .u64 (((dg a) i : Nat) : Int)), (36, L 12, .slice (some ⟨g5, 0, none⟩) 16 ((tab .u64 16 (dg b) ++ sp6).length)), (37, L 13, .int .i64 ((k : Nat) : Int)), (38, L 14, .pointer (some ⟨g5, k, none⟩)), (39, L 15, .int .u64 (((dg b) k : Nat) : Int)), (40, L 16, .int .u64 ((((dg a) i) * ((dg b) k) : Nat) : Int)), (41, L 17, .int .u64 ((c + (F (i + k)) + (((dg a) i) * ((dg b) k)) : Nat) : Int)), (9, L 18, .int .u64 ((c + (F (i + k)) + (((dg a) i) * ((dg b) k)) : Nat) : Int)), (5, true, .slice (some ⟨g3, 0, none⟩) 16 ((tab .u64 16 (dg a) ++ sp4).length)), (6, true, .slice (some ⟨g5, 0, none⟩) 16 ((tab .u64 16 (dg b) ++ sp6).length)), (7, true, .slice (some ⟨g7, 0, none⟩) 32 32), (8, true, .int .i64 ((i : Nat) : Int)), (9, true, .int .u64 ((c : Nat) : Int)), (10, true, .int .i64 ((k : Nat) : Int))] [(true, g1, 24, (Wl a)), (true, g2, 24, (Wl b)), (true, g3, 22, (tab .u64 16 (dg a) ++ sp4)), (true, g5, 22, (tab .u64 16 (dg b) ++ sp6)), (true, g7, 22, (tab .u64 32 F))] ac w) (by kernel_rfl) (by kernel_rfl) ?_ ?_ ?_
      · exact hs.drew.skip.skip.skip.skip.skip.skip.skip.skip.skip.skip.skip.skip.skip.skip.skip.skip.skip.skip.skip
      · refine ⟨?_, ?_, ?_, ?_, ?_, ?_, ?_, ?_, ?_, ?_, ?_, ?_, ?_, ?_, ?_, ?_, ?_, ?_, ?_, trivial⟩
        · intro L ac w hJ
          have hs := hJ
          refine wpO_plain rfl (op_move hs (some 0) rfl rfl rfl rfl fun ac hs => ?_)
          exact hs
        · intro L ac w hJ
          have hs := hJ
          refine wpO_plain rfl (op_move hs (some 1) rfl rfl rfl rfl fun ac hs => ?_)
          exact hs
        · intro L ac w hJ
          have hs := hJ
          refine wpO_plain rfl (op_move hs (some 2) rfl rfl rfl rfl fun ac hs => ?_)
          exact hs
        · intro L ac w hJ
          have hs := hJ
          refine wpO_plain rfl (op_move hs (some 3) rfl rfl rfl rfl fun ac hs => ?_)
          exact hs
        · intro L ac w hJ
          have hs := hJ
          refine wpO_plain rfl (op_bin hs (some 4) (v := .int .i64 ((i + k : Nat) : Int)) rfl rfl rfl rfl (fun _ => rfl) (bin_addN (x := i) (y := k) (z := i + k) rfl (show i + k < 9223372036854775808 by omega)) rfl fun ac hs => ?_)
          exact hs
        · intro L ac w hJ
          have hs := hJ
          refine wpO_plain rfl (op_idxS hs (some 5) (j := i + k) rfl rfl rfl rfl Try.underlying51 Try.sizeOf22 (show i + k < 32 by omega) (off := i + k) (by omega) rfl fun ac hs => ?_)
          exact hs
        · intro L ac w hJ
          have hs := hJ
          refine wpO_plain rfl (op_load hs (some 6) 4 (v := .int .u64 ((F (i + k) : Nat) : Int)) rfl rfl rfl rfl Try.isAgg22 Try.sizeOf22 (tab_get (j := i + k) (show i + k < 32 by omega)) rfl fun ac hs => ?_)
          exact hs
        · intro L ac w hJ
          have hs := hJ
          refine wpO_plain rfl (op_bin hs (some 7) (v := .int .u64 ((c + (F (i + k)) : Nat) : Int)) rfl rfl rfl rfl (fun _ => rfl) (bin_addN (x := c) (y := F (i + k)) (z := c + (F (i + k))) rfl (show c + (F (i + k)) < 18446744073709551616 by omega)) rfl fun ac hs => ?_)
          exact hs
        · intro L ac w hJ
          have hs := hJ
          refine wpO_plain rfl (op_move hs (some 8) rfl rfl rfl rfl fun ac hs => ?_)
          exact hs
        · intro L ac w hJ
          have hs := hJ
          refine wpO_plain rfl (op_move hs (some 9) rfl rfl rfl rfl fun ac hs => ?_)
          exact hs
        · intro L ac w hJ
          have hs := hJ
          refine wpO_plain rfl (op_idxS hs (some 10) (j := i) rfl rfl rfl rfl Try.underlying51 Try.sizeOf22 (show i < 16 by omega) (off := i) (by omega) rfl fun ac hs => ?_)
          exact hs
        · intro L ac w hJ
          have hs := hJ
          refine wpO_plain rfl (op_load hs (some 11) 2 (v := .int .u64 (((dg a) i : Nat) : Int)) rfl rfl rfl rfl Try.isAgg22 Try.sizeOf22 (tabs_get (j := i) (show i < 16 by omega)) rfl fun ac hs => ?_)
          exact hs
        · intro L ac w hJ
          have hs := hJ
          refine wpO_plain rfl (op_move hs (some 12) rfl rfl rfl rfl fun ac hs => ?_)
          exact hs
        · intro L ac w hJ
          have hs := hJ
          refine wpO_plain rfl (op_move hs (some 13) rfl rfl rfl rfl fun ac hs => ?_)
          exact hs
        · intro L ac w hJ
          have hs := hJ
          refine wpO_plain rfl (op_idxS hs (some 14) (j := k) rfl rfl rfl rfl Try.underlying51 Try.sizeOf22 (show k < 16 by omega) (off := k) (by omega) rfl fun ac hs => ?_)
          exact hs
        · intro L ac w hJ
          have hs := hJ
          refine wpO_plain rfl (op_load hs (some 15) 3 (v := .int .u64 (((dg b) k : Nat) : Int)) rfl rfl rfl rfl Try.isAgg22 Try.sizeOf22 (tabs_get (j := k) (show k < 16 by omega)) rfl fun ac hs => ?_)
          exact hs
        · intro L ac w hJ
          have hs := hJ
          refine wpO_plain rfl (op_bin hs (some 16) (v := .int .u64 ((((dg a) i) * ((dg b) k) : Nat) : Int)) rfl rfl rfl rfl (fun _ => rfl) (bin_mulN (x := (dg a) i) (y := (dg b) k) (z := ((dg a) i) * ((dg b) k)) rfl (show ((dg a) i) * ((dg b) k) < 18446744073709551616 by omega)) rfl fun ac hs => ?_)
          exact hs
        · intro L ac w hJ
          have hs := hJ
          refine wpO_plain rfl (op_bin hs (some 17) (v := .int .u64 ((c + (F (i + k)) + (((dg a) i) * ((dg b) k)) : Nat) : Int)) rfl rfl rfl rfl (fun _ => rfl) (bin_addN (x := c + (F (i + k))) (y := ((dg a) i) * ((dg b) k)) (z := c + (F (i + k)) + (((dg a) i) * ((dg b) k))) rfl (show c + (F (i + k)) + (((dg a) i) * ((dg b) k)) < 18446744073709551616 by omega)) rfl fun ac hs => ?_)
          exact hs
        · intro L ac w hJ
          have hs := hJ
          refine wpO_plain rfl (op_assign hs (some 18) rfl rfl rfl rfl fun ac hs => ?_)
          exact hs
      intro ac w hJ
      replace hs : St 57 w0 [(24, true, .int .u64 ((c : Nat) : Int)), (25, true, .slice (some ⟨g7, 0, none⟩) 32 32), (26, true, .int .i64 ((i : Nat) : Int)), (27, true, .int .i64 ((k : Nat) : Int)), (28, true, .int .i64 ((i + k : Nat) : Int)), (29, true, .pointer (some ⟨g7, i + k, none⟩)), (30, true, .int .u64 ((F (i + k) : Nat) : Int)), (31, true, .int .u64 ((c + (F (i + k)) : Nat) : Int)), (32, true, .slice (some ⟨g3, 0, none⟩) 16 ((tab .u64 16 (dg a) ++ sp4).length)), (33, true, .int .i64 ((i : Nat) : Int)), (34, true, .pointer (some ⟨g3, i, none⟩)), (35, true, .int .u64 (((dg a) i : Nat) : Int)), (36, true, .slice (some ⟨g5, 0, none⟩) 16 ((tab .u64 16 (dg b) ++ sp6).length)), (37, true, .int .i64 ((k : Nat) : Int)), (38, true, .pointer (some ⟨g5, k, none⟩)), (39, true, .int .u64 (((dg b) k : Nat) : Int)), (40, true, .int .u64 ((((dg a) i) * ((dg b) k) : Nat) : Int)), (41, true, .int .u64 ((c + (F (i + k)) + (((dg a) i) * ((dg b) k)) : Nat) : Int)), (9, true, .int .u64 ((c + (F (i + k)) + (((dg a) i) * ((dg b) k)) : Nat) : Int)), (5, true, .slice (some ⟨g3, 0, none⟩) 16 ((tab .u64 16 (dg a) ++ sp4).length)), (6, true, .slice (some ⟨g5, 0, none⟩) 16 ((tab .u64 16 (dg b) ++ sp6).length)), (7, true, .slice (some ⟨g7, 0, none⟩) 32 32), (8, true, .int .i64 ((i : Nat) : Int)), (9, true, .int .u64 ((c : Nat) : Int)), (10, true, .int .i64 ((k : Nat) : Int))] [(true, g1, 24, (Wl a)), (true, g2, 24, (Wl b)), (true, g3, 22, (tab .u64 16 (dg a) ++ sp4)), (true, g5, 22, (tab .u64 16 (dg b) ++ sp6)), (true, g7, 22, (tab .u64 32 F))] ac w := hJ
      refine then_n ?_
      refine wp_seq ?_
      refine wp_region_lit ?_
      refine lstep (wpO_plain rfl (op_move hs none rfl rfl rfl rfl fun ac hs => ?_))
      refine lstep (wpO_plain rfl (op_move hs none rfl rfl rfl rfl fun ac hs => ?_))
      refine lstep (wpO_plain rfl (op_move hs none rfl rfl rfl rfl fun ac hs => ?_))
      refine lstep (wpO_plain rfl (op_bin hs none (v := .int .i64 ((i + k : Nat) : Int)) rfl rfl rfl rfl (fun _ => rfl) (bin_addN (x := i) (y := k) (z := i + k) rfl (show i + k < 9223372036854775808 by omega)) rfl fun ac hs => ?_))
      refine lstep (wpO_plain rfl (op_move hs none rfl rfl rfl rfl fun ac hs => ?_))
      refine lstep (wpO_plain rfl (op_bin hs none (v := .int .u64 (((c + (F (i + k)) + (((dg a) i) * ((dg b) k))) % 65536 : Nat) : Int)) rfl rfl rfl rfl (fun _ => rfl) (bin_remN (x := c + (F (i + k)) + (((dg a) i) * ((dg b) k))) (y := 65536) (z := (c + (F (i + k)) + (((dg a) i) * ((dg b) k))) % 65536) rfl (by decide)) rfl fun ac hs => ?_))
      refine lstep (wpO_plain rfl (op_idxS hs none (j := i + k) rfl rfl rfl rfl Try.underlying51 Try.sizeOf22 (show i + k < 32 by omega) (off := i + k) (by omega) rfl fun ac hs => ?_))
      refine lstep (wpO_plain rfl (op_store hs 4 (vs := [.int .u64 (((c + (F (i + k)) + (((dg a) i) * ((dg b) k))) % 65536 : Nat) : Int)]) rfl rfl rfl rfl rfl Try.sizeOf22 rfl rfl rfl (tab_le (j := i + k) (show i + k < 32 by omega)) (tab_set) fun w hs => ?_))
      refine wpList_nil ?_
      refine then_n ?_
      refine wp_region_lit ?_
      refine lstep (wpO_plain rfl (op_move hs none rfl rfl rfl rfl fun ac hs => ?_))
      refine lstep (wpO_plain rfl (op_bin hs none (v := .int .u64 (((c + (F (i + k)) + (((dg a) i) * ((dg b) k))) / 65536 : Nat) : Int)) rfl rfl rfl rfl (fun _ => rfl) (bin_quoN (x := c + (F (i + k)) + (((dg a) i) * ((dg b) k))) (y := 65536) (z := (c + (F (i + k)) + (((dg a) i) * ((dg b) k))) / 65536) rfl (by decide) (show c + (F (i + k)) + (((dg a) i) * ((dg b) k)) < 18446744073709551616 by omega)) rfl fun ac hs => ?_))
      refine lstep (wpO_plain rfl (op_assign hs none rfl rfl rfl rfl fun ac hs => ?_))
      refine wpList_nil ?_
      refine blk_n ?_
      refine then_n ?_
      refine wp_region_lit ?_
      refine lstep (wpO_plain rfl (op_move hs none rfl rfl rfl rfl fun ac hs => ?_))
      refine lstep (wpO_plain rfl (op_bin hs none (v := .int .i64 ((k + 1 : Nat) : Int)) rfl rfl rfl rfl (fun _ => rfl) (bin_addN (x := k) (y := 1) (z := k + 1) rfl (show k + 1 < 9223372036854775808 by omega)) rfl fun ac hs => ?_))
      refine lstep (wpO_plain rfl (op_assign hs none rfl rfl rfl rfl fun ac hs => ?_))
      refine wpList_nil ?_
      refine then_n ?_
      exact ⟨_, ⟨(k + 1), ((c + (F (i + k)) + (((dg a) i) * ((dg b) k))) / 65536), (upn F (i + k) ((c + (F (i + k)) + (((dg a) i) * ((dg b) k))) % 65536)), rfl, hlt, (prod_c hxl hfk hI), (prod_f hxl (by omega) hI hF), (hs.re ⟨rfl, rfl, rfl, rfl, rfl, rfl, trivial⟩)⟩, (by omega)⟩
    · skip
      have hp12 := of_decide_eq_false hc
      obtain rfl : k = 16 := by omega
      refine wp_exit ?_
      refine then_e ?_
      refine then_e ?_
      refine blk_e ?_
      refine then_n ?_
      refine wp_region_lit ?_
      refine lstep (wpO_plain rfl (op_move hs none rfl rfl rfl rfl fun ac hs => ?_))
      refine lstep (wpO_plain rfl (op_move hs none rfl rfl rfl rfl fun ac hs => ?_))
      refine lstep (wpO_plain rfl (op_bin hs none (v := .int .i64 ((i + 16 : Nat) : Int)) rfl rfl rfl rfl (fun _ => rfl) (bin_addN (x := i) (y := 16) (z := i + 16) rfl (show i + 16 < 9223372036854775808 by omega)) rfl fun ac hs => ?_))
      refine lstep (wpO_plain rfl (op_move hs none rfl rfl rfl rfl fun ac hs => ?_))
      refine lstep (wpO_plain rfl (op_idxS hs none (j := i + 16) rfl rfl rfl rfl Try.underlying51 Try.sizeOf22 (show i + 16 < 32 by omega) (off := i + 16) (by omega) rfl fun ac hs => ?_))
      refine lstep (wpO_plain rfl (op_store hs 4 (vs := [.int .u64 ((c : Nat) : Int)]) rfl rfl rfl rfl rfl Try.sizeOf22 rfl rfl rfl (tab_le (j := i + 16) (show i + 16 < 32 by omega)) (tab_set) fun w hs => ?_))
      refine wpList_nil ?_
      refine blk_n ?_
      refine then_n ?_
      refine wp_region_lit ?_
      refine lstep (wpO_plain rfl (op_move hs none rfl rfl rfl rfl fun ac hs => ?_))
      refine lstep (wpO_plain rfl (op_bin hs none (v := .int .i64 ((i + 1 : Nat) : Int)) rfl rfl rfl rfl (fun _ => rfl) (bin_addN (x := i) (y := 1) (z := i + 1) rfl (show i + 1 < 9223372036854775808 by omega)) rfl fun ac hs => ?_))
      refine lstep (wpO_plain rfl (op_assign hs none rfl rfl rfl rfl fun ac hs => ?_))
      refine wpList_nil ?_
      refine then_n ?_
      exact ⟨_, ⟨(i + 1), (upn F (i + 16) c), rfl, hli, (prod_last hb hI hF), (hs.re ⟨rfl, rfl, rfl, rfl, trivial⟩)⟩, (by omega)⟩
  · skip
    have hp13 := of_decide_eq_false hc
    obtain rfl : i = 16 := by omega
    replace hs := hs.setb 4 (cs' := tab .u64 32 (dg (a * b))) rfl (tab_congr (prod_fin ha hf))
    refine wp_exit ?_
    refine then_e ?_
    refine then_e ?_
    refine blk_e ?_
    refine then_n ?_
    refine wp_seq ?_
    refine wp_region_lit ?_
    refine lstep (wpO_plain rfl (op_move hs none rfl rfl rfl rfl fun ac hs => ?_))
    refine lstep (wpO_plain rfl (op_assign hs none rfl rfl rfl rfl fun ac hs => ?_))
    refine wpList_nil ?_
    refine then_n ?_
    refine wp_ret ?_
    exact bodyPost_ret (res1 rfl (rv_t hs rfl)) hs.defers ⟨_, [], rfl, (hs.blks 4 _ rfl rfl).2, (hs.blks 4 _ rfl rfl).1, hs.below⟩
theorem rmul_c (a b l h : Nat) (ha : a < 2 ^ 256) (hb : b < 2 ^ 256) (hl : a * b % 2 ^ 256 = l) (hh : a * b / 2 ^ 256 = h) (w0 : World) : Calls Try.prog 30 #[W a, W b] w0 fun e w' => e = .returned (.tuple #[W l, W h]) ∧ Below w0.heap.size w0 w' := by
  refine enter (n := 14) (args := [W a, W b]) Try.func30 rfl rfl (Nat.le_of_ble_eq_true rfl) fun ac hs => ?_
  refine wp_seq ?_
  refine wp_region_lit ?_
  refine lstep (wpO_plain rfl (op_box hs none none (cs := (Wl a)) rfl rfl rfl rfl rfl rfl fun g1 ac w hs => ?_))
  refine lstep (wpO_plain rfl (op_box hs none none (cs := (Wl b)) rfl rfl rfl rfl rfl rfl fun g2 ac w hs => ?_))
  refine lstep (wpO_plain rfl (op_alloc hs none none (cs := [.int .u64 0, .int .u64 0, .int .u64 0, .int .u64 0]) rfl rfl Try.zeroValue24 (by kernel_rfl) rfl rfl fun g3 ac w hs => ?_))
  refine lstep (wpO_plain rfl (op_alloc hs none none (cs := [.int .u64 0, .int .u64 0, .int .u64 0, .int .u64 0]) rfl rfl Try.zeroValue24 (by kernel_rfl) rfl rfl fun g4 ac w hs => ?_))
  refine wpList_nil ?_
  refine then_n ?_
  refine wp_seq ?_
  refine wp_region_lit ?_
  refine lstep (wpO_plain rfl (op_load hs none 0 (v := W a) rfl rfl rfl rfl Try.isAgg24 Try.sizeOf24 rfl rfl fun ac hs => ?_))
  refine lstep (wpO_plain rfl (op_load hs none 1 (v := W b) rfl rfl rfl rfl Try.isAgg24 Try.sizeOf24 rfl rfl fun ac hs => ?_))
  refine lstep (wpO_plain rfl (op_callM (F := 49) hs none none (T := 22) (v := fun g c => .slice (some ⟨g, 0, none⟩) 32 c) (cs := (tab .u64 32 (dg (a * b)))) rfl rfl rfl rfl (Try.call49 _) (fun w => product_c a b ha hb w) rfl rfl fun g5 sp6 ac w hs => ?_))
  refine lstep (wpO_plain rfl (op_assign hs none rfl rfl rfl rfl fun ac hs => ?_))
  refine wpList_nil ?_
  refine then_n ?_
  refine wp_seq ?_
  refine wp_region_lit ?_
  refine lstep (wpO_plain rfl (op_move hs none rfl rfl rfl rfl fun ac hs => ?_))
  obtain ⟨r7, hr7, lr7⟩ : ∃ z0, (a * b) / p6 0 % 2 ^ 256 = z0 ∧ z0 < 2 ^ 256 := ⟨_, rfl, Nat.mod_lt _ (Nat.two_pow_pos 256)⟩
  refine lstep (wpO_plain rfl (op_callW (F := 41) hs none (v := W r7) rfl rfl rfl rfl (Try.call41 _) (fun hs => whole_c (a * b) 32 0 r7 g5 _ _ (hs.cellT (k := 4) rfl) (prod_lt ha hb) (by decide) (by decide) hr7) rfl fun ac w hs => ?_))
  refine lstep (wpO_plain rfl (op_move hs none rfl rfl rfl rfl fun ac hs => ?_))
  obtain ⟨r8, hr8, lr8⟩ : ∃ z0, (a * b) / p6 16 % 2 ^ 256 = z0 ∧ z0 < 2 ^ 256 := ⟨_, rfl, Nat.mod_lt _ (Nat.two_pow_pos 256)⟩
  refine lstep (wpO_plain rfl (op_callW (F := 41) hs none (v := W r8) rfl rfl rfl rfl (Try.call41 _) (fun hs => whole_c (a * b) 32 16 r8 g5 _ _ (hs.cellT (k := 4) rfl) (prod_lt ha hb) (by decide) (by decide) hr8) rfl fun ac w hs => ?_))
  refine lstep (wpO_plain rfl (op_store hs 2 (vs := (Wl r7)) rfl rfl rfl rfl rfl Try.sizeOf24 rfl rfl rfl rfl rfl fun w hs => ?_))
  refine lstep (wpO_plain rfl (op_store hs 3 (vs := (Wl r8)) rfl rfl rfl rfl rfl Try.sizeOf24 rfl rfl rfl rfl rfl fun w hs => ?_))
  refine wpList_nil ?_
  refine then_n ?_
  refine wp_ret ?_
  exact bodyPost_ret (res2 rfl (rv_c hs 2 (v := W r7) rfl rfl Try.isAgg24 Try.sizeOf24 rfl) (rv_c hs 3 (v := W r8) rfl rfl Try.isAgg24 Try.sizeOf24 rfl)) hs.defers ⟨by rw [← hr7, ← hr8, p6_0, p6_16, Nat.div_one, hl, Nat.mod_eq_of_lt (mul_hi ha hb), hh], hs.below⟩
theorem rbit_c (a i b : Nat) (hi : i < 256) (hb : a / 2 ^ i % 2 = b) (w0 : World) : Calls Try.prog 44 #[W a, .int .i64 ((i : Nat) : Int)] w0 fun e w' => e = .returned (.int .u64 ((b : Nat) : Int)) ∧ Below w0.heap.size w0 w' := by
  refine enter (n := 15) (args := [W a, .int .i64 ((i : Nat) : Int)]) Try.func44 rfl rfl (Nat.le_of_ble_eq_true rfl) fun ac hs => ?_
  refine wp_seq ?_
  refine wp_region_lit ?_
  refine lstep (wpO_plain rfl (op_box hs none none (cs := (Wl a)) rfl rfl rfl rfl rfl rfl fun g1 ac w hs => ?_))
  refine lstep (wpO_plain rfl (op_assign hs none rfl rfl rfl rfl fun ac hs => ?_))
  refine wpList_nil ?_
  refine then_n ?_
  refine wp_seq ?_
  refine wp_region_lit ?_
  refine lstep (wpO_plain rfl (op_move hs none rfl rfl rfl rfl fun ac hs => ?_))
  refine lstep (wpO_plain rfl (op_bin hs none (v := .int .i64 ((i / 64 : Nat) : Int)) rfl rfl rfl rfl (fun _ => rfl) (bin_quoN (x := i) (y := 64) (z := i / 64) rfl (by decide) (show i < 9223372036854775808 by omega)) rfl fun ac hs => ?_))
  refine lstep (wpO_plain rfl (op_idxA hs none (j := i / 64) rfl rfl rfl rfl Try.underlying24 Try.sizeOf22 (show i / 64 < 4 by omega) (off := i / 64) (by omega) rfl fun ac hs => ?_))
  have l2 := limN_lt a (i / 64)
  refine lstep (wpO_plain rfl (op_load hs none 0 (v := .int .u64 ((limN a (i / 64) : Nat) : Int)) rfl rfl rfl rfl Try.isAgg22 Try.sizeOf22 (Wl_get (j := i / 64) (show i / 64 < 4 by omega)) rfl fun ac hs => ?_))
  refine lstep (wpO_plain rfl (op_move hs none rfl rfl rfl rfl fun ac hs => ?_))
  refine lstep (wpO_plain rfl (op_bin hs none (v := .int .i64 ((i % 64 : Nat) : Int)) rfl rfl rfl rfl (fun _ => rfl) (bin_remN (x := i) (y := 64) (z := i % 64) rfl (by decide)) rfl fun ac hs => ?_))
  refine lstep (wpO_plain rfl (op_convert hs none (v := .int .u64 ((i % 64 : Nat) : Int)) rfl rfl rfl (conv_N Try.underlying3 Try.underlying64 (show i % 64 < 18446744073709551616 by omega)) rfl fun ac hs => ?_))
  refine lstep (wpO_plain rfl (op_bin hs none (v := .int .u64 ((2 ^ (i % 64) : Nat) : Int)) rfl rfl rfl rfl (fun _ => rfl) (bin_shlM (x := 1) (y := i % 64) (z := 2 ^ (i % 64)) rfl (pow_mod64 (Nat.mod_lt _ (by decide)))) rfl fun ac hs => ?_))
  refine lstep (wpO_plain rfl (op_bin hs none (v := .int .u64 (((limN a (i / 64)) / (2 ^ (i % 64)) : Nat) : Int)) rfl rfl rfl rfl (fun _ => rfl) (bin_quoN (x := limN a (i / 64)) (y := 2 ^ (i % 64)) (z := (limN a (i / 64)) / (2 ^ (i % 64))) rfl (Nat.ne_of_gt (Nat.two_pow_pos _)) (limN_lt _ _)) rfl fun ac hs => ?_))
  refine lstep (wpO_plain rfl (op_bin hs none (v := .int .u64 ((((limN a (i / 64)) / (2 ^ (i % 64))) % 2 : Nat) : Int)) rfl rfl rfl rfl (fun _ => rfl) (bin_remN (x := (limN a (i / 64)) / (2 ^ (i % 64))) (y := 2) (z := ((limN a (i / 64)) / (2 ^ (i % 64))) % 2) rfl (by decide)) rfl fun ac hs => ?_))
  refine lstep (wpO_plain rfl (op_assign hs none rfl rfl rfl rfl fun ac hs => ?_))
  refine wpList_nil ?_
  refine then_n ?_
  refine wp_ret ?_
  exact bodyPost_ret (res1 rfl (rv_t hs rfl)) hs.defers ⟨by rw [bit_lim, hb], hs.below⟩
theorem rtwice_c (a b t q : Nat) (ha : a < 2 ^ 256) (hb : b ≤ 1) (ht : (2 * a + b) % 2 ^ 256 = t) (hc' : (2 * a + b) / 2 ^ 256 = q) (w0 : World) : Calls Try.prog 47 #[W a, .int .u64 ((b : Nat) : Int)] w0 fun e w' => e = .returned (.tuple #[W t, .int .u64 ((q : Nat) : Int)]) ∧ Below w0.heap.size w0 w' := by
  refine enter (n := 40) (args := [W a, .int .u64 ((b : Nat) : Int)]) Try.func47 rfl rfl (Nat.le_of_ble_eq_true rfl) fun ac hs => ?_
  refine wp_seq ?_
  refine wp_region_lit ?_
  refine lstep (wpO_plain rfl (op_box hs none none (cs := (Wl a)) rfl rfl rfl rfl rfl rfl fun g1 ac w hs => ?_))
  refine lstep (wpO_plain rfl (op_alloc hs none none (cs := [.int .u64 0, .int .u64 0, .int .u64 0, .int .u64 0]) rfl rfl Try.zeroValue24 (by kernel_rfl) rfl rfl fun g2 ac w hs => ?_))
  refine lstep (wpO_plain rfl (op_assign hs none rfl rfl rfl rfl fun ac hs => ?_))
  refine wpList_nil ?_
  refine then_n ?_
  refine wp_seq ?_
  refine wp_region_lit ?_
  refine lstep (wpO_plain rfl (op_idxA hs none (j := 3) rfl rfl rfl rfl Try.underlying24 Try.sizeOf22 (by decide) (off := 3) rfl rfl fun ac hs => ?_))
  have l3 := limN_lt a 3
  refine lstep (wpO_plain rfl (op_load hs none 0 (v := .int .u64 (lim a 3)) rfl rfl rfl rfl Try.isAgg22 Try.sizeOf22 rfl rfl fun ac hs => ?_))
  refine lstep (wpO_plain rfl (op_bin hs none (v := .int .u64 (((limN a 3) / 9223372036854775808 : Nat) : Int)) rfl rfl rfl rfl (fun _ => rfl) (bin_quoN (x := limN a 3) (y := 9223372036854775808) (z := (limN a 3) / 9223372036854775808) rfl (by decide) (show limN a 3 < 18446744073709551616 by omega)) rfl fun ac hs => ?_))
  refine lstep (wpO_plain rfl (op_assign hs none rfl rfl rfl rfl fun ac hs => ?_))
  refine wpList_nil ?_
  refine then_n ?_
  refine wp_seq ?_
  refine wp_region_lit ?_
  refine lstep (wpO_plain rfl (op_idxA hs none (j := 0) rfl rfl rfl rfl Try.underlying24 Try.sizeOf22 (by decide) (off := 0) rfl rfl fun ac hs => ?_))
  have l4 := limN_lt a 0
  refine lstep (wpO_plain rfl (op_load hs none 0 (v := .int .u64 (lim a 0)) rfl rfl rfl rfl Try.isAgg22 Try.sizeOf22 rfl rfl fun ac hs => ?_))
  refine lstep (wpO_plain rfl (op_bin hs none (v := .int .u64 (((limN a 0) * 2 % 18446744073709551616 : Nat) : Int)) rfl rfl rfl rfl (fun _ => rfl) (bin_mulM (x := limN a 0) (y := 2) (z := (limN a 0) * 2 % 18446744073709551616) rfl rfl) rfl fun ac hs => ?_))
  refine lstep (wpO_plain rfl (op_move hs none rfl rfl rfl rfl fun ac hs => ?_))
  refine lstep (wpO_plain rfl (op_bin hs none (v := .int .u64 (((limN a 0) * 2 % 18446744073709551616 + b : Nat) : Int)) rfl rfl rfl rfl (fun _ => rfl) (bin_addN (x := (limN a 0) * 2 % 18446744073709551616) (y := b) (z := (limN a 0) * 2 % 18446744073709551616 + b) rfl (show (limN a 0) * 2 % 18446744073709551616 + b < 18446744073709551616 by omega)) rfl fun ac hs => ?_))
  refine lstep (wpO_plain rfl (op_idxA hs none (j := 1) rfl rfl rfl rfl Try.underlying24 Try.sizeOf22 (by decide) (off := 1) rfl rfl fun ac hs => ?_))
  have l5 := limN_lt a 1
  refine lstep (wpO_plain rfl (op_load hs none 0 (v := .int .u64 (lim a 1)) rfl rfl rfl rfl Try.isAgg22 Try.sizeOf22 rfl rfl fun ac hs => ?_))
  refine lstep (wpO_plain rfl (op_bin hs none (v := .int .u64 (((limN a 1) * 2 % 18446744073709551616 : Nat) : Int)) rfl rfl rfl rfl (fun _ => rfl) (bin_mulM (x := limN a 1) (y := 2) (z := (limN a 1) * 2 % 18446744073709551616) rfl rfl) rfl fun ac hs => ?_))
  refine lstep (wpO_plain rfl (op_idxA hs none (j := 0) rfl rfl rfl rfl Try.underlying24 Try.sizeOf22 (by decide) (off := 0) rfl rfl fun ac hs => ?_))
  have l6 := limN_lt a 0
  refine lstep (wpO_plain rfl (op_load hs none 0 (v := .int .u64 (lim a 0)) rfl rfl rfl rfl Try.isAgg22 Try.sizeOf22 rfl rfl fun ac hs => ?_))
  refine lstep (wpO_plain rfl (op_bin hs none (v := .int .u64 (((limN a 0) / 9223372036854775808 : Nat) : Int)) rfl rfl rfl rfl (fun _ => rfl) (bin_quoN (x := limN a 0) (y := 9223372036854775808) (z := (limN a 0) / 9223372036854775808) rfl (by decide) (show limN a 0 < 18446744073709551616 by omega)) rfl fun ac hs => ?_))
  refine lstep (wpO_plain rfl (op_bin hs none (v := .int .u64 (((limN a 1) * 2 % 18446744073709551616 + ((limN a 0) / 9223372036854775808) : Nat) : Int)) rfl rfl rfl rfl (fun _ => rfl) (bin_addN (x := (limN a 1) * 2 % 18446744073709551616) (y := (limN a 0) / 9223372036854775808) (z := (limN a 1) * 2 % 18446744073709551616 + ((limN a 0) / 9223372036854775808)) rfl (show (limN a 1) * 2 % 18446744073709551616 + ((limN a 0) / 9223372036854775808) < 18446744073709551616 by omega)) rfl fun ac hs => ?_))
  refine lstep (wpO_plain rfl (op_idxA hs none (j := 2) rfl rfl rfl rfl Try.underlying24 Try.sizeOf22 (by decide) (off := 2) rfl rfl fun ac hs => ?_))
  have l7 := limN_lt a 2
  refine lstep (wpO_plain rfl (op_load hs none 0 (v := .int .u64 (lim a 2)) rfl rfl rfl rfl Try.isAgg22 Try.sizeOf22 rfl rfl fun ac hs => ?_))
  refine lstep (wpO_plain rfl (op_bin hs none (v := .int .u64 (((limN a 2) * 2 % 18446744073709551616 : Nat) : Int)) rfl rfl rfl rfl (fun _ => rfl) (bin_mulM (x := limN a 2) (y := 2) (z := (limN a 2) * 2 % 18446744073709551616) rfl rfl) rfl fun ac hs => ?_))
  refine lstep (wpO_plain rfl (op_idxA hs none (j := 1) rfl rfl rfl rfl Try.underlying24 Try.sizeOf22 (by decide) (off := 1) rfl rfl fun ac hs => ?_))
  have l8 := limN_lt a 1
  refine lstep (wpO_plain rfl (op_load hs none 0 (v := .int .u64 (lim a 1)) rfl rfl rfl rfl Try.isAgg22 Try.sizeOf22 rfl rfl fun ac hs => ?_))
  refine lstep (wpO_plain rfl (op_bin hs none (v := .int .u64 (((limN a 1) / 9223372036854775808 : Nat) : Int)) rfl rfl rfl rfl (fun _ => rfl) (bin_quoN (x := limN a 1) (y := 9223372036854775808) (z := (limN a 1) / 9223372036854775808) rfl (by decide) (show limN a 1 < 18446744073709551616 by omega)) rfl fun ac hs => ?_))
  refine lstep (wpO_plain rfl (op_bin hs none (v := .int .u64 (((limN a 2) * 2 % 18446744073709551616 + ((limN a 1) / 9223372036854775808) : Nat) : Int)) rfl rfl rfl rfl (fun _ => rfl) (bin_addN (x := (limN a 2) * 2 % 18446744073709551616) (y := (limN a 1) / 9223372036854775808) (z := (limN a 2) * 2 % 18446744073709551616 + ((limN a 1) / 9223372036854775808)) rfl (show (limN a 2) * 2 % 18446744073709551616 + ((limN a 1) / 9223372036854775808) < 18446744073709551616 by omega)) rfl fun ac hs => ?_))
  refine lstep (wpO_plain rfl (op_idxA hs none (j := 3) rfl rfl rfl rfl Try.underlying24 Try.sizeOf22 (by decide) (off := 3) rfl rfl fun ac hs => ?_))
  have l9 := limN_lt a 3
  refine lstep (wpO_plain rfl (op_load hs none 0 (v := .int .u64 (lim a 3)) rfl rfl rfl rfl Try.isAgg22 Try.sizeOf22 rfl rfl fun ac hs => ?_))
  refine lstep (wpO_plain rfl (op_bin hs none (v := .int .u64 (((limN a 3) * 2 % 18446744073709551616 : Nat) : Int)) rfl rfl rfl rfl (fun _ => rfl) (bin_mulM (x := limN a 3) (y := 2) (z := (limN a 3) * 2 % 18446744073709551616) rfl rfl) rfl fun ac hs => ?_))
  refine lstep (wpO_plain rfl (op_idxA hs none (j := 2) rfl rfl rfl rfl Try.underlying24 Try.sizeOf22 (by decide) (off := 2) rfl rfl fun ac hs => ?_))
  have l10 := limN_lt a 2
  refine lstep (wpO_plain rfl (op_load hs none 0 (v := .int .u64 (lim a 2)) rfl rfl rfl rfl Try.isAgg22 Try.sizeOf22 rfl rfl fun ac hs => ?_))
  refine lstep (wpO_plain rfl (op_bin hs none (v := .int .u64 (((limN a 2) / 9223372036854775808 : Nat) : Int)) rfl rfl rfl rfl (fun _ => rfl) (bin_quoN (x := limN a 2) (y := 9223372036854775808) (z := (limN a 2) / 9223372036854775808) rfl (by decide) (show limN a 2 < 18446744073709551616 by omega)) rfl fun ac hs => ?_))
  refine lstep (wpO_plain rfl (op_bin hs none (v := .int .u64 (((limN a 3) * 2 % 18446744073709551616 + ((limN a 2) / 9223372036854775808) : Nat) : Int)) rfl rfl rfl rfl (fun _ => rfl) (bin_addN (x := (limN a 3) * 2 % 18446744073709551616) (y := (limN a 2) / 9223372036854775808) (z := (limN a 3) * 2 % 18446744073709551616 + ((limN a 2) / 9223372036854775808)) rfl (show (limN a 3) * 2 % 18446744073709551616 + ((limN a 2) / 9223372036854775808) < 18446744073709551616 by omega)) rfl fun ac hs => ?_))
  refine lstep (wpO_plain rfl (op_build hs none (qs := [(0, .int .u64 (((limN a 0) * 2 % 18446744073709551616 + b : Nat) : Int)), (1, .int .u64 (((limN a 1) * 2 % 18446744073709551616 + ((limN a 0) / 9223372036854775808) : Nat) : Int)), (2, .int .u64 (((limN a 2) * 2 % 18446744073709551616 + ((limN a 1) / 9223372036854775808) : Nat) : Int)), (3, .int .u64 (((limN a 3) * 2 % 18446744073709551616 + ((limN a 2) / 9223372036854775808) : Nat) : Int))]) (v := .agg #[.int .u64 (((limN a 0) * 2 % 18446744073709551616 + b : Nat) : Int), .int .u64 (((limN a 1) * 2 % 18446744073709551616 + ((limN a 0) / 9223372036854775808) : Nat) : Int), .int .u64 (((limN a 2) * 2 % 18446744073709551616 + ((limN a 1) / 9223372036854775808) : Nat) : Int), .int .u64 (((limN a 3) * 2 % 18446744073709551616 + ((limN a 2) / 9223372036854775808) : Nat) : Int)]) rfl rfl rfl rfl (fun _ => by kernel_rfl) rfl fun ac hs => ?_))
  refine lstep (wpO_plain rfl (op_alloc hs none none (cs := [.int .u64 0, .int .u64 0, .int .u64 0, .int .u64 0]) rfl rfl Try.zeroValue24 (by kernel_rfl) rfl rfl fun g11 ac w hs => ?_))
  refine lstep (wpO_plain rfl (op_store hs 2 (vs := [.int .u64 (((limN a 0) * 2 % 18446744073709551616 + b : Nat) : Int), .int .u64 (((limN a 1) * 2 % 18446744073709551616 + ((limN a 0) / 9223372036854775808) : Nat) : Int), .int .u64 (((limN a 2) * 2 % 18446744073709551616 + ((limN a 1) / 9223372036854775808) : Nat) : Int), .int .u64 (((limN a 3) * 2 % 18446744073709551616 + ((limN a 2) / 9223372036854775808) : Nat) : Int)]) rfl rfl rfl rfl rfl Try.sizeOf24 rfl rfl rfl rfl rfl fun w hs => ?_))
  refine wpList_nil ?_
  refine then_n ?_
  refine wp_seq ?_
  refine wp_region_lit ?_
  refine lstep (wpO_plain rfl (op_load hs none 2 (v := .agg #[.int .u64 (((limN a 0) * 2 % 18446744073709551616 + b : Nat) : Int), .int .u64 (((limN a 1) * 2 % 18446744073709551616 + ((limN a 0) / 9223372036854775808) : Nat) : Int), .int .u64 (((limN a 2) * 2 % 18446744073709551616 + ((limN a 1) / 9223372036854775808) : Nat) : Int), .int .u64 (((limN a 3) * 2 % 18446744073709551616 + ((limN a 2) / 9223372036854775808) : Nat) : Int)]) rfl rfl rfl rfl Try.isAgg24 Try.sizeOf24 rfl rfl fun ac hs => ?_))
  refine lstep (wpO_plain rfl (op_move hs none rfl rfl rfl rfl fun ac hs => ?_))
  refine lstep (wpO_plain rfl (op_store hs 1 (vs := [.int .u64 (((limN a 0) * 2 % 18446744073709551616 + b : Nat) : Int), .int .u64 (((limN a 1) * 2 % 18446744073709551616 + ((limN a 0) / 9223372036854775808) : Nat) : Int), .int .u64 (((limN a 2) * 2 % 18446744073709551616 + ((limN a 1) / 9223372036854775808) : Nat) : Int), .int .u64 (((limN a 3) * 2 % 18446744073709551616 + ((limN a 2) / 9223372036854775808) : Nat) : Int)]) rfl rfl rfl rfl rfl Try.sizeOf24 rfl rfl rfl rfl rfl fun w hs => ?_))
  refine lstep (wpO_plain rfl (op_assign hs none rfl rfl rfl rfl fun ac hs => ?_))
  refine wpList_nil ?_
  refine then_n ?_
  refine wp_ret ?_
  exact bodyPost_ret (res2 rfl (rv_c hs 1 (v := .agg #[.int .u64 (((limN a 0) * 2 % 18446744073709551616 + b : Nat) : Int), .int .u64 (((limN a 1) * 2 % 18446744073709551616 + ((limN a 0) / 9223372036854775808) : Nat) : Int), .int .u64 (((limN a 2) * 2 % 18446744073709551616 + ((limN a 1) / 9223372036854775808) : Nat) : Int), .int .u64 (((limN a 3) * 2 % 18446744073709551616 + ((limN a 2) / 9223372036854775808) : Nat) : Int)]) rfl rfl Try.isAgg24 Try.sizeOf24 rfl) (rv_t hs rfl)) hs.defers ⟨by rw [← ht, W_mod, ← tw_c ha hb hc']; exact congrArg (fun l => Ending.returned (.tuple #[.agg (List.toArray l), _])) (tw_limbs hb), hs.below⟩
theorem rcmp_c (a b : Nat) (ha : a < 2 ^ 256) (hb : b < 2 ^ 256) (w0 : World) : Calls Try.prog 17 #[W a, W b] w0 fun e w' => e = .returned (.int .i64 (cmpZ a b)) ∧ Below w0.heap.size w0 w' := by
  refine enter (n := 24) (args := [W a, W b]) Try.func17 rfl rfl (Nat.le_of_ble_eq_true rfl) fun ac hs => ?_
  refine wp_seq ?_
  refine wp_region_lit ?_
  refine lstep (wpO_plain rfl (op_box hs none none (cs := (Wl a)) rfl rfl rfl rfl rfl rfl fun g1 ac w hs => ?_))
  refine lstep (wpO_plain rfl (op_box hs none none (cs := (Wl b)) rfl rfl rfl rfl rfl rfl fun g2 ac w hs => ?_))
  refine lstep (wpO_plain rfl (op_assign hs none rfl rfl rfl rfl fun ac hs => ?_))
  refine wpList_nil ?_
  refine then_n ?_
  refine wp_seq ?_
  refine wp_seq ?_
  refine wp_region_lit ?_
  refine lstep (wpO_plain rfl (op_assign hs none rfl rfl rfl rfl fun ac hs => ?_))
  refine wpList_nil ?_
  refine then_n ?_
  refine wp_block ?_
  refine wp_loop_m (fun μ ac w => ∃ (k : Nat), (k) = μ ∧ (k ≤ 4) ∧ (a / 2 ^ (64 * k) = b / 2 ^ (64 * k)) ∧ St 24 w0 [(2, true, .pointer (some ⟨g1, 0, none⟩)), (3, true, .pointer (some ⟨g2, 0, none⟩)), (5, true, .int .i64 (((k : Nat) : Int) - 1))] [(true, g1, 24, (Wl a)), (true, g2, 24, (Wl b))] ac w) ?_ ?_
  · exact ⟨_, 4, rfl, (by omega), ((Nat.div_eq_of_lt ha).trans (Nat.div_eq_of_lt hb).symm), (hs.re ⟨rfl, rfl, rfl, trivial⟩)⟩
  intro μ ac w ⟨k, hμ, hk, hq, hs⟩
  refine wp_seq ?_
  refine wp_seq ?_
  refine wp_region_lit ?_
  refine lstep (wpO_plain rfl (op_move hs none rfl rfl rfl rfl fun ac hs => ?_))
  refine lstep (wpO_plain rfl (op_bin hs none (v := .bool (decide (1 ≤ k))) rfl rfl rfl rfl (fun _ => rfl) bin_geqP rfl fun ac hs => ?_))
  refine wpList_nil ?_
  refine then_n ?_
  refine wp_cond_split (hs.ev rfl) (fun hc => ?_) (fun hc => ?_)
  · skip
    have hp3 := of_decide_eq_true hc
    replace hs := hs.re (fs' := [(2, true, .pointer (some ⟨g1, 0, none⟩)), (3, true, .pointer (some ⟨g2, 0, none⟩)), (5, true, .int .i64 ((k - 1 : Nat) : Int)), (6, true, .int .i64 (((k : Nat) : Int) - 1)), (7, true, .bool (decide (1 ≤ k)))]) ⟨rfl, rfl, congrArg some (pre_nat hp3), rfl, rfl, trivial⟩
    refine wp_skip ?_
    refine then_n ?_
    refine wp_seq ?_
    refine wp_block ?_
    refine wp_seq ?_
    refine wp_seq ?_
    replace hs : St 24 w0 [(2, true, .pointer (some ⟨g1, 0, none⟩)), (3, true, .pointer (some ⟨g2, 0, none⟩)), (5, true, .int .i64 ((k - 1 : Nat) : Int))] [(true, g1, 24, (Wl a)), (true, g2, 24, (Wl b))] ac _ := hs.re ⟨rfl, rfl, rfl, trivial⟩
    have l4 := limN_lt a (k - 1)
    have l5 := limN_lt b (k - 1)
    refine region_inv [([], [1, 2, 6]), ([0], [2, 6]), ([0, 1], [6]), ([], [4, 5, 6]), ([3], [5, 6]), ([3, 4], [6]), ([0, 1, 2, 3, 4, 5], [])] (fun L ac w => St 24 w0 [(10, L 0, .int .i64 ((k - 1 : Nat) : Int)), (11, L 1, .pointer (some ⟨g1, k - 1, none⟩)), (12, L 2, .int .u64 ((limN a (k - 1) : Nat) : Int)), (13, L 3, .int .i64 ((k - 1 : Nat) : Int)), (14, L 4, .pointer (some ⟨g2, k - 1, none⟩)), (15, L 5, .int .u64 ((limN b (k - 1) : Nat) : Int)), (16, L 6, .bool (decide (limN a (k - 1) < limN b (k - 1)))), (2, true, .pointer (some ⟨g1, 0, none⟩)), (3, true, .pointer (some ⟨g2, 0, none⟩)), (5, true, .int .i64 ((k - 1 : Nat) : Int))] [(true, g1, 24, (Wl a)), (true, g2, 24, (Wl b))] ac w) (by kernel_rfl) (by kernel_rfl) ?_ ?_ ?_
    · exact hs.drew.skip.skip.skip.skip.skip.skip.skip
    · refine ⟨?_, ?_, ?_, ?_, ?_, ?_, ?_, trivial⟩
      · intro L ac w hJ
        have hs := hJ
        refine wpO_plain rfl (op_move hs (some 0) rfl rfl rfl rfl fun ac hs => ?_)
        exact hs
      · intro L ac w hJ
        have hs := hJ
        refine wpO_plain rfl (op_idxA hs (some 1) (j := k - 1) rfl rfl rfl rfl Try.underlying24 Try.sizeOf22 (show k - 1 < 4 by omega) (off := k - 1) (by omega) rfl fun ac hs => ?_)
        exact hs
      · intro L ac w hJ
        have hs := hJ
        refine wpO_plain rfl (op_load hs (some 2) 0 (v := .int .u64 ((limN a (k - 1) : Nat) : Int)) rfl rfl rfl rfl Try.isAgg22 Try.sizeOf22 (Wl_get (j := k - 1) (show k - 1 < 4 by omega)) rfl fun ac hs => ?_)
        exact hs
      · intro L ac w hJ
        have hs := hJ
        refine wpO_plain rfl (op_move hs (some 3) rfl rfl rfl rfl fun ac hs => ?_)
        exact hs
      · intro L ac w hJ
        have hs := hJ
        refine wpO_plain rfl (op_idxA hs (some 4) (j := k - 1) rfl rfl rfl rfl Try.underlying24 Try.sizeOf22 (show k - 1 < 4 by omega) (off := k - 1) (by omega) rfl fun ac hs => ?_)
        exact hs
      · intro L ac w hJ
        have hs := hJ
        refine wpO_plain rfl (op_load hs (some 5) 1 (v := .int .u64 ((limN b (k - 1) : Nat) : Int)) rfl rfl rfl rfl Try.isAgg22 Try.sizeOf22 (Wl_get (j := k - 1) (show k - 1 < 4 by omega)) rfl fun ac hs => ?_)
        exact hs
      · intro L ac w hJ
        have hs := hJ
        refine wpO_plain rfl (op_bin hs (some 6) (v := .bool (decide (limN a (k - 1) < limN b (k - 1)))) rfl rfl rfl rfl (fun _ => rfl) (bin_lssN (x := limN a (k - 1)) (y := limN b (k - 1))) rfl fun ac hs => ?_)
        exact hs
    intro ac w hJ
    replace hs : St 24 w0 [(10, true, .int .i64 ((k - 1 : Nat) : Int)), (11, true, .pointer (some ⟨g1, k - 1, none⟩)), (12, true, .int .u64 ((limN a (k - 1) : Nat) : Int)), (13, true, .int .i64 ((k - 1 : Nat) : Int)), (14, true, .pointer (some ⟨g2, k - 1, none⟩)), (15, true, .int .u64 ((limN b (k - 1) : Nat) : Int)), (16, true, .bool (decide (limN a (k - 1) < limN b (k - 1)))), (2, true, .pointer (some ⟨g1, 0, none⟩)), (3, true, .pointer (some ⟨g2, 0, none⟩)), (5, true, .int .i64 ((k - 1 : Nat) : Int))] [(true, g1, 24, (Wl a)), (true, g2, 24, (Wl b))] ac w := hJ
    refine then_n ?_
    refine wp_cond_split (hs.ev rfl) (fun hc => ?_) (fun hc => ?_)
    · skip
      have hp6 := of_decide_eq_true hc
      refine wp_seq ?_
      refine wp_region_lit ?_
      refine lstep (wpO_plain rfl (op_assign hs none rfl rfl rfl rfl fun ac hs => ?_))
      refine wpList_nil ?_
      refine then_n ?_
      refine wp_ret ?_
      refine then_r ?_
      refine blk_r ?_
      refine then_r ?_
      refine then_r ?_
      refine blk_r ?_
      refine then_r ?_
      exact bodyPost_ret (res1 rfl (rv_t hs rfl)) hs.defers ⟨ret_int (cmp_lt (cmp_hi hp3 hq hp6)).symm, hs.below⟩
    · skip
      have hp7 := of_decide_eq_false hc
      refine wp_skip ?_
      refine then_n ?_
      refine wp_seq ?_
      replace hs : St 24 w0 [(2, true, .pointer (some ⟨g1, 0, none⟩)), (3, true, .pointer (some ⟨g2, 0, none⟩)), (5, true, .int .i64 ((k - 1 : Nat) : Int))] [(true, g1, 24, (Wl a)), (true, g2, 24, (Wl b))] ac _ := hs.re ⟨rfl, rfl, rfl, trivial⟩
      have l8 := limN_lt a (k - 1)
      have l9 := limN_lt b (k - 1)
      refine region_inv [([], [1, 2, 6]), ([0], [2, 6]), ([0, 1], [6]), ([], [4, 5, 6]), ([3], [5, 6]), ([3, 4], [6]), ([0, 1, 2, 3, 4, 5], [])] (fun L ac w => St 24 w0 [(17, L 0, .int .i64 ((k - 1 : Nat) : Int)), (18, L 1, .pointer (some ⟨g1, k - 1, none⟩)), (19, L 2, .int .u64 ((limN a (k - 1) : Nat) : Int)), (20, L 3, .int .i64 ((k - 1 : Nat) : Int)), (21, L 4, .pointer (some ⟨g2, k - 1, none⟩)), (22, L 5, .int .u64 ((limN b (k - 1) : Nat) : Int)), (23, L 6, .bool (decide (limN b (k - 1) < limN a (k - 1)))), (2, true, .pointer (some ⟨g1, 0, none⟩)), (3, true, .pointer (some ⟨g2, 0, none⟩)), (5, true, .int .i64 ((k - 1 : Nat) : Int))] [(true, g1, 24, (Wl a)), (true, g2, 24, (Wl b))] ac w) (by kernel_rfl) (by kernel_rfl) ?_ ?_ ?_
      · exact hs.drew.skip.skip.skip.skip.skip.skip.skip
      · refine ⟨?_, ?_, ?_, ?_, ?_, ?_, ?_, trivial⟩
        · intro L ac w hJ
          have hs := hJ
          refine wpO_plain rfl (op_move hs (some 0) rfl rfl rfl rfl fun ac hs => ?_)
          exact hs
        · intro L ac w hJ
          have hs := hJ
          refine wpO_plain rfl (op_idxA hs (some 1) (j := k - 1) rfl rfl rfl rfl Try.underlying24 Try.sizeOf22 (show k - 1 < 4 by omega) (off := k - 1) (by omega) rfl fun ac hs => ?_)
          exact hs
        · intro L ac w hJ
          have hs := hJ
          refine wpO_plain rfl (op_load hs (some 2) 0 (v := .int .u64 ((limN a (k - 1) : Nat) : Int)) rfl rfl rfl rfl Try.isAgg22 Try.sizeOf22 (Wl_get (j := k - 1) (show k - 1 < 4 by omega)) rfl fun ac hs => ?_)
          exact hs
        · intro L ac w hJ
          have hs := hJ
          refine wpO_plain rfl (op_move hs (some 3) rfl rfl rfl rfl fun ac hs => ?_)
          exact hs
        · intro L ac w hJ
          have hs := hJ
          refine wpO_plain rfl (op_idxA hs (some 4) (j := k - 1) rfl rfl rfl rfl Try.underlying24 Try.sizeOf22 (show k - 1 < 4 by omega) (off := k - 1) (by omega) rfl fun ac hs => ?_)
          exact hs
        · intro L ac w hJ
          have hs := hJ
          refine wpO_plain rfl (op_load hs (some 5) 1 (v := .int .u64 ((limN b (k - 1) : Nat) : Int)) rfl rfl rfl rfl Try.isAgg22 Try.sizeOf22 (Wl_get (j := k - 1) (show k - 1 < 4 by omega)) rfl fun ac hs => ?_)
          exact hs
        · intro L ac w hJ
          have hs := hJ
          refine wpO_plain rfl (op_bin hs (some 6) (v := .bool (decide (limN b (k - 1) < limN a (k - 1)))) rfl rfl rfl rfl (fun _ => rfl) (bin_gtrN (x := limN a (k - 1)) (y := limN b (k - 1))) rfl fun ac hs => ?_)
          exact hs
      intro ac w hJ
      replace hs : St 24 w0 [(17, true, .int .i64 ((k - 1 : Nat) : Int)), (18, true, .pointer (some ⟨g1, k - 1, none⟩)), (19, true, .int .u64 ((limN a (k - 1) : Nat) : Int)), (20, true, .int .i64 ((k - 1 : Nat) : Int)), (21, true, .pointer (some ⟨g2, k - 1, none⟩)), (22, true, .int .u64 ((limN b (k - 1) : Nat) : Int)), (23, true, .bool (decide (limN b (k - 1) < limN a (k - 1)))), (2, true, .pointer (some ⟨g1, 0, none⟩)), (3, true, .pointer (some ⟨g2, 0, none⟩)), (5, true, .int .i64 ((k - 1 : Nat) : Int))] [(true, g1, 24, (Wl a)), (true, g2, 24, (Wl b))] ac w := hJ
      refine then_n ?_
      refine wp_cond_split (hs.ev rfl) (fun hc => ?_) (fun hc => ?_)
      · skip
        have hp10 := of_decide_eq_true hc
        refine wp_seq ?_
        refine wp_region_lit ?_
        refine lstep (wpO_plain rfl (op_assign hs none rfl rfl rfl rfl fun ac hs => ?_))
        refine wpList_nil ?_
        refine then_n ?_
        refine wp_ret ?_
        refine blk_r ?_
        refine then_r ?_
        refine then_r ?_
        refine blk_r ?_
        refine then_r ?_
        exact bodyPost_ret (res1 rfl (rv_t hs rfl)) hs.defers ⟨ret_int (cmp_gt (cmp_hi hp3 hq.symm hp10)).symm, hs.below⟩
      · skip
        have hp11 := of_decide_eq_false hc
        refine wp_skip ?_
        refine blk_n ?_
        refine then_n ?_
        refine wp_region_lit ?_
        refine lstep (wpO_plain rfl (op_move hs none rfl rfl rfl rfl fun ac hs => ?_))
        refine lstep (wpO_plain rfl (op_bin hs none (v := .int .i64 (((k - 1 : Nat) : Int) - 1)) rfl rfl rfl rfl (fun _ => rfl) (bin_subP (x := k - 1) (by omega)) rfl fun ac hs => ?_))
        refine lstep (wpO_plain rfl (op_assign hs none rfl rfl rfl rfl fun ac hs => ?_))
        refine wpList_nil ?_
        refine then_n ?_
        exact ⟨_, ⟨(k - 1), rfl, (by omega), (cmp_next hp3 hq hp7 hp11), (hs.re ⟨rfl, rfl, rfl, trivial⟩)⟩, (by omega)⟩
  · skip
    have hp12 := of_decide_eq_false hc
    obtain rfl : k = 0 := by omega
    have hq0 : a = b := by simpa using hq
    refine wp_exit ?_
    refine then_e ?_
    refine then_e ?_
    refine blk_e ?_
    refine then_n ?_
    refine wp_seq ?_
    refine wp_region_lit ?_
    refine lstep (wpO_plain rfl (op_assign hs none rfl rfl rfl rfl fun ac hs => ?_))
    refine wpList_nil ?_
    refine then_n ?_
    refine wp_ret ?_
    exact bodyPost_ret (res1 rfl (rv_t hs rfl)) hs.defers ⟨ret_int (cmp_eq hq0).symm, hs.below⟩
theorem rrem_c (u v m r' : Nat) (hH : u < 2 ^ 256) (hL : v < 2 ^ 256) (hm : m < 2 ^ 256) (hm0 : 0 < m) (hr' : (u * 2 ^ 256 + v) % m = r') (w0 : World) : Calls Try.prog 24 #[W u, W v, W m] w0 fun e w' => e = .returned (.tuple #[W r', .int .i64 0]) ∧ Below w0.heap.size w0 w' := by
  refine enter (n := 51) (args := [W u, W v, W m]) Try.func24 rfl rfl (Nat.le_of_ble_eq_true rfl) fun ac hs => ?_
  refine wp_seq ?_
  refine wp_region_lit ?_
  refine lstep (wpO_plain rfl (op_box hs none none (cs := (Wl u)) rfl rfl rfl rfl rfl rfl fun g1 ac w hs => ?_))
  refine lstep (wpO_plain rfl (op_box hs none none (cs := (Wl v)) rfl rfl rfl rfl rfl rfl fun g2 ac w hs => ?_))
  refine lstep (wpO_plain rfl (op_box hs none none (cs := (Wl m)) rfl rfl rfl rfl rfl rfl fun g3 ac w hs => ?_))
  refine lstep (wpO_plain rfl (op_alloc hs none none (cs := [.int .u64 0, .int .u64 0, .int .u64 0, .int .u64 0]) rfl rfl Try.zeroValue24 (by kernel_rfl) rfl rfl fun g4 ac w hs => ?_))
  refine lstep (wpO_plain rfl (op_assign hs none rfl rfl rfl rfl fun ac hs => ?_))
  refine wpList_nil ?_
  refine then_n ?_
  refine wp_seq ?_
  refine wp_seq ?_
  refine wp_region_lit ?_
  refine lstep (wpO_plain rfl (op_load hs none 2 (v := W m) rfl rfl rfl rfl Try.isAgg24 Try.sizeOf24 rfl rfl fun ac hs => ?_))
  refine lstep (wpO_plain rfl (op_build hs none (qs := []) (v := .agg #[.int .u64 0, .int .u64 0, .int .u64 0, .int .u64 0]) rfl rfl rfl rfl (fun _ => by kernel_rfl) rfl fun ac hs => ?_))
  refine lstep (wpO_plain rfl (op_bin hs none (v := .bool false) rfl rfl rfl rfl (fun w => run_eqGuard_agg w .eql 24 _ _ _ _ Try.eqGuardType24) (eqlW m 0 hm (by decide) false (decide_eq_false (Nat.ne_of_gt hm0))) rfl fun ac hs => ?_))
  refine wpList_nil ?_
  refine then_n ?_
  refine wp_cond_false (hs.ev rfl) ?_
  refine wp_skip ?_
  refine then_n ?_
  refine wp_seq ?_
  refine wp_region_lit ?_
  refine lstep (wpO_plain rfl (op_build hs none (qs := []) (v := .agg #[.int .u64 0, .int .u64 0, .int .u64 0, .int .u64 0]) rfl rfl rfl rfl (fun _ => by kernel_rfl) rfl fun ac hs => ?_))
  refine lstep (wpO_plain rfl (op_alloc hs none none (cs := [.int .u64 0, .int .u64 0, .int .u64 0, .int .u64 0]) rfl rfl Try.zeroValue24 (by kernel_rfl) rfl rfl fun g5 ac w hs => ?_))
  refine lstep (wpO_plain rfl (op_store hs 4 (vs := [.int .u64 0, .int .u64 0, .int .u64 0, .int .u64 0]) rfl rfl rfl rfl rfl Try.sizeOf24 rfl rfl rfl rfl rfl fun w hs => ?_))
  refine wpList_nil ?_
  refine then_n ?_
  refine wp_seq ?_
  refine wp_seq ?_
  refine wp_region_lit ?_
  refine lstep (wpO_plain rfl (op_assign hs none rfl rfl rfl rfl fun ac hs => ?_))
  refine wpList_nil ?_
  refine then_n ?_
  refine wp_block ?_
  refine wp_loop_m (fun μ ac w => ∃ (k : Nat) (r : Nat), (k) = μ ∧ (k ≤ 512) ∧ ((u * 2 ^ 256 + v) / 2 ^ k % m = r) ∧ St 51 w0 [(3, true, .pointer (some ⟨g1, 0, none⟩)), (4, true, .pointer (some ⟨g2, 0, none⟩)), (5, true, .pointer (some ⟨g3, 0, none⟩)), (6, true, .pointer (some ⟨g4, 0, none⟩)), (8, true, .pointer (some ⟨g5, 0, none⟩)), (9, true, .int .i64 (((k : Nat) : Int) - 1))] [(true, g1, 24, (Wl u)), (true, g2, 24, (Wl v)), (true, g3, 24, (Wl m)), (true, g4, 24, [.int .u64 0, .int .u64 0, .int .u64 0, .int .u64 0]), (true, g5, 24, (Wl r))] ac w) ?_ ?_
  · exact ⟨_, 512, 0, rfl, (by omega), (rem_start (rem_N hH hL)), (hs.re ⟨rfl, rfl, rfl, rfl, rfl, rfl, trivial⟩)⟩
  intro μ ac w ⟨k, r, hμ, hk, hr, hs⟩
  have lm : r < m := by rw [← hr]; exact Nat.mod_lt _ hm0
  have lr := Nat.lt_trans lm hm
  refine wp_seq ?_
  refine wp_seq ?_
  refine wp_region_lit ?_
  refine lstep (wpO_plain rfl (op_move hs none rfl rfl rfl rfl fun ac hs => ?_))
  refine lstep (wpO_plain rfl (op_bin hs none (v := .bool (decide (1 ≤ k))) rfl rfl rfl rfl (fun _ => rfl) bin_geqP rfl fun ac hs => ?_))
  refine wpList_nil ?_
  refine then_n ?_
  refine wp_cond_split (hs.ev rfl) (fun hc => ?_) (fun hc => ?_)
  · skip
    have hp6 := of_decide_eq_true hc
    replace hs := hs.re (fs' := [(3, true, .pointer (some ⟨g1, 0, none⟩)), (4, true, .pointer (some ⟨g2, 0, none⟩)), (5, true, .pointer (some ⟨g3, 0, none⟩)), (6, true, .pointer (some ⟨g4, 0, none⟩)), (8, true, .pointer (some ⟨g5, 0, none⟩)), (9, true, .int .i64 ((k - 1 : Nat) : Int)), (18, true, .int .i64 (((k : Nat) : Int) - 1)), (19, true, .bool (decide (1 ≤ k)))]) ⟨rfl, rfl, rfl, rfl, rfl, congrArg some (pre_nat hp6), rfl, rfl, trivial⟩
    refine wp_skip ?_
    refine then_n ?_
    refine wp_seq ?_
    refine wp_block ?_
    refine wp_seq ?_
    refine wp_region_lit ?_
    refine lstep (wpO_plain rfl (op_load hs none 1 (v := W v) rfl rfl rfl rfl Try.isAgg24 Try.sizeOf24 rfl rfl fun ac hs => ?_))
    refine lstep (wpO_plain rfl (op_alloc hs none none (cs := [.int .u64 0, .int .u64 0, .int .u64 0, .int .u64 0]) rfl rfl Try.zeroValue24 (by kernel_rfl) rfl rfl fun g7 ac w hs => ?_))
    refine lstep (wpO_plain rfl (op_store hs 5 (vs := (Wl v)) rfl rfl rfl rfl rfl Try.sizeOf24 rfl rfl rfl rfl rfl fun w hs => ?_))
    refine wpList_nil ?_
    refine then_n ?_
    refine wp_seq ?_
    refine wp_seq ?_
    refine wp_region_lit ?_
    refine lstep (wpO_plain rfl (op_move hs none rfl rfl rfl rfl fun ac hs => ?_))
    refine lstep (wpO_plain rfl (op_bin hs none (v := .bool (decide (256 ≤ k - 1))) rfl rfl rfl rfl (fun _ => rfl) (bin_geqN (x := k - 1) (y := 256)) rfl fun ac hs => ?_))
    refine wpList_nil ?_
    refine then_n ?_
    refine wp_cond_split (hs.ev rfl) (fun hc => ?_) (fun hc => ?_)
    · skip
      have hp8 := of_decide_eq_true hc
      refine wp_region_lit ?_
      refine lstep (wpO_plain rfl (op_load hs none 0 (v := W u) rfl rfl rfl rfl Try.isAgg24 Try.sizeOf24 rfl rfl fun ac hs => ?_))
      refine lstep (wpO_plain rfl (op_store hs 5 (vs := (Wl u)) rfl rfl rfl rfl rfl Try.sizeOf24 rfl rfl rfl rfl rfl fun w hs => ?_))
      refine wpList_nil ?_
      refine then_n ?_
      refine wp_seq ?_
      replace hs : St 51 w0 [(3, true, .pointer (some ⟨g1, 0, none⟩)), (4, true, .pointer (some ⟨g2, 0, none⟩)), (5, true, .pointer (some ⟨g3, 0, none⟩)), (6, true, .pointer (some ⟨g4, 0, none⟩)), (8, true, .pointer (some ⟨g5, 0, none⟩)), (9, true, .int .i64 ((k - 1 : Nat) : Int)), (10, true, .pointer (some ⟨g7, 0, none⟩))] [(true, g1, 24, (Wl u)), (true, g2, 24, (Wl v)), (true, g3, 24, (Wl m)), (true, g4, 24, [.int .u64 0, .int .u64 0, .int .u64 0, .int .u64 0]), (true, g5, 24, (Wl r)), (true, g7, 24, (Wl u))] ac _ := hs.re ⟨rfl, rfl, rfl, rfl, rfl, rfl, rfl, trivial⟩
      obtain ⟨b9, hb9⟩ : ∃ z0, u / 2 ^ ((k - 1) % 256) % 2 = z0 := ⟨_, rfl⟩
      have lb9 := bit_le hb9
      obtain ⟨t10, ht10, lt10⟩ : ∃ z0, (2 * r + b9) % 2 ^ 256 = z0 ∧ z0 < 2 ^ 256 := ⟨_, rfl, Nat.mod_lt _ (Nat.two_pow_pos 256)⟩
      obtain ⟨c11, hc11⟩ : ∃ z0, (2 * r + b9) / 2 ^ 256 = z0 := ⟨_, rfl⟩
      refine region_inv [([], [5, 6, 7, 8, 10, 11]), ([], [4, 5, 6, 7, 8, 10, 11]), ([], [3, 4, 5, 6, 7, 8, 10, 11]), ([2], [4, 5, 6, 7, 8, 10, 11]), ([1, 2, 3], [5, 6, 7, 8, 10, 11]), ([0, 1, 2, 3, 4], [6, 7, 8, 10, 11]), ([0, 1, 2, 3, 4, 5], [7, 8, 10, 11]), ([0, 1, 2, 3, 4, 5, 6], [10, 11]), ([0, 1, 2, 3, 4, 5, 6], [11]), ([], [10, 11]), ([0, 1, 2, 3, 4, 5, 6, 7, 9], [11]), ([0, 1, 2, 3, 4, 5, 6, 7, 8, 9, 10], [])] (fun L ac w => ∃ (g12 : Nat), St 51 w0 [(27, L 0, W r), (28, L 1, W u), (29, L 2, .int .i64 ((k - 1 : Nat) : Int)), (30, L 3, .int .i64 (((k - 1) % 256 : Nat) : Int)), (31, L 4, .int .u64 ((b9 : Nat) : Int)), (32, L 5, .tuple #[W t10, .int .u64 ((c11 : Nat) : Int)]), (26, L 6, .tuple #[W t10, .int .u64 ((c11 : Nat) : Int)]), (33, L 7, W t10), (34, L 8, .int .u64 ((c11 : Nat) : Int)), (11, L 9, .pointer (some ⟨g12, 0, none⟩)), (12, L 11, .int .u64 ((c11 : Nat) : Int)), (3, true, .pointer (some ⟨g1, 0, none⟩)), (4, true, .pointer (some ⟨g2, 0, none⟩)), (5, true, .pointer (some ⟨g3, 0, none⟩)), (6, true, .pointer (some ⟨g4, 0, none⟩)), (8, true, .pointer (some ⟨g5, 0, none⟩)), (9, true, .int .i64 ((k - 1 : Nat) : Int)), (10, true, .pointer (some ⟨g7, 0, none⟩))] [(true, g1, 24, (Wl u)), (true, g2, 24, (Wl v)), (true, g3, 24, (Wl m)), (true, g4, 24, [.int .u64 0, .int .u64 0, .int .u64 0, .int .u64 0]), (true, g5, 24, (Wl r)), (true, g7, 24, (Wl u)), (L 9, g12, 24, (cond (L 10) (Wl t10) [.int .u64 0, .int .u64 0, .int .u64 0, .int .u64 0]))] ac w) (by kernel_rfl) (by kernel_rfl) ?_ ?_ ?_
      · exact ⟨0, hs.drew.skip.skip.skip.skip.skip.skip.skip.skip.skip.skip.skip.pad⟩
      · refine ⟨?_, ?_, ?_, ?_, ?_, ?_, ?_, ?_, ?_, ?_, ?_, ?_, trivial⟩
        · intro L ac w hJ
          obtain ⟨g12, hs⟩ := hJ
          refine wpO_plain rfl (op_load hs (some 0) 4 (v := W r) rfl rfl rfl rfl Try.isAgg24 Try.sizeOf24 rfl rfl fun ac hs => ?_)
          exact ⟨g12, hs⟩
        · intro L ac w hJ
          obtain ⟨g12, hs⟩ := hJ
          refine wpO_plain rfl (op_load hs (some 1) 5 (v := W u) rfl rfl rfl rfl Try.isAgg24 Try.sizeOf24 rfl rfl fun ac hs => ?_)
          exact ⟨g12, hs⟩
        · intro L ac w hJ
          obtain ⟨g12, hs⟩ := hJ
          refine wpO_plain rfl (op_move hs (some 2) rfl rfl rfl rfl fun ac hs => ?_)
          exact ⟨g12, hs⟩
        · intro L ac w hJ
          obtain ⟨g12, hs⟩ := hJ
          refine wpO_plain rfl (op_bin hs (some 3) (v := .int .i64 (((k - 1) % 256 : Nat) : Int)) rfl rfl rfl rfl (fun _ => rfl) (bin_remN (x := k - 1) (y := 256) (z := (k - 1) % 256) rfl (by decide)) rfl fun ac hs => ?_)
          exact ⟨g12, hs⟩
        · intro L ac w hJ
          obtain ⟨g12, hs⟩ := hJ
          refine wpO_plain rfl (op_call (F := 44) hs (some 4) (v := .int .u64 ((b9 : Nat) : Int)) rfl rfl rfl rfl (Try.call44 _) (rbit_c u ((k - 1) % 256) b9 (show (k - 1) % 256 < 256 by omega) hb9) rfl fun ac w hs => ?_)
          exact ⟨g12, hs⟩
        · intro L ac w hJ
          obtain ⟨g12, hs⟩ := hJ
          refine wpO_plain rfl (op_call (F := 47) hs (some 5) (v := .tuple #[W t10, .int .u64 ((c11 : Nat) : Int)]) rfl rfl rfl rfl (Try.call47 _) (rtwice_c r b9 t10 c11 lr (show b9 ≤ 1 by omega) ht10 hc11) rfl fun ac w hs => ?_)
          exact ⟨g12, hs⟩
        · intro L ac w hJ
          obtain ⟨g12, hs⟩ := hJ
          refine wpO_plain rfl (op_move hs (some 6) rfl rfl rfl rfl fun ac hs => ?_)
          exact ⟨g12, hs⟩
        · intro L ac w hJ
          obtain ⟨g12, hs⟩ := hJ
          refine wpO_plain rfl (op_extract hs (some 7) rfl rfl rfl rfl rfl fun ac hs => ?_)
          exact ⟨g12, hs⟩
        · intro L ac w hJ
          obtain ⟨g12, hs⟩ := hJ
          refine wpO_plain rfl (op_extract hs (some 8) rfl rfl rfl rfl rfl fun ac hs => ?_)
          exact ⟨g12, hs⟩
        · intro L ac w hJ
          obtain ⟨g12, hs⟩ := hJ
          refine wpO_plain rfl (op_alloc hs (some 9) (some 6) (cs := [.int .u64 0, .int .u64 0, .int .u64 0, .int .u64 0]) rfl rfl Try.zeroValue24 (by kernel_rfl) rfl rfl fun g12 ac w hs => ?_)
          exact ⟨g12, hs⟩
        · intro L ac w hJ
          obtain ⟨g12, hs⟩ := hJ
          refine wpO_plain rfl (op_store hs 6 (vs := (Wl t10)) rfl rfl rfl rfl rfl Try.sizeOf24 rfl rfl rfl rfl rfl fun w hs => ?_)
          exact ⟨g12, hs⟩
        · intro L ac w hJ
          obtain ⟨g12, hs⟩ := hJ
          refine wpO_plain rfl (op_assign hs (some 10) rfl rfl rfl rfl fun ac hs => ?_)
          exact ⟨g12, hs⟩
      intro ac w hJ
      obtain ⟨g12, hs⟩ := hJ
      replace hs : St 51 w0 [(27, true, W r), (28, true, W u), (29, true, .int .i64 ((k - 1 : Nat) : Int)), (30, true, .int .i64 (((k - 1) % 256 : Nat) : Int)), (31, true, .int .u64 ((b9 : Nat) : Int)), (32, true, .tuple #[W t10, .int .u64 ((c11 : Nat) : Int)]), (26, true, .tuple #[W t10, .int .u64 ((c11 : Nat) : Int)]), (33, true, W t10), (34, true, .int .u64 ((c11 : Nat) : Int)), (11, true, .pointer (some ⟨g12, 0, none⟩)), (12, true, .int .u64 ((c11 : Nat) : Int)), (3, true, .pointer (some ⟨g1, 0, none⟩)), (4, true, .pointer (some ⟨g2, 0, none⟩)), (5, true, .pointer (some ⟨g3, 0, none⟩)), (6, true, .pointer (some ⟨g4, 0, none⟩)), (8, true, .pointer (some ⟨g5, 0, none⟩)), (9, true, .int .i64 ((k - 1 : Nat) : Int)), (10, true, .pointer (some ⟨g7, 0, none⟩))] [(true, g1, 24, (Wl u)), (true, g2, 24, (Wl v)), (true, g3, 24, (Wl m)), (true, g4, 24, [.int .u64 0, .int .u64 0, .int .u64 0, .int .u64 0]), (true, g5, 24, (Wl r)), (true, g7, 24, (Wl u)), (true, g12, 24, (Wl t10))] ac w := hs
      refine then_n ?_
      refine wp_seq ?_
      refine wp_region_lit ?_
      refine lstep (wpO_plain rfl (op_load hs none 6 (v := W t10) rfl rfl rfl rfl Try.isAgg24 Try.sizeOf24 rfl rfl fun ac hs => ?_))
      refine lstep (wpO_plain rfl (op_store hs 4 (vs := (Wl t10)) rfl rfl rfl rfl rfl Try.sizeOf24 rfl rfl rfl rfl rfl fun w hs => ?_))
      refine wpList_nil ?_
      refine then_n ?_
      refine wp_seq ?_
      by_cases hq13 : c11 = 1
      · skip
        refine wp_region_lit ?_
        refine lstep (wpO_plain rfl (op_move hs none rfl rfl rfl rfl fun ac hs => ?_))
        refine lstep (wpO_plain rfl (op_bin hs none (v := .bool true) rfl rfl rfl rfl (fun _ => rfl) (fun w => dT hq13 (bin_eqlN (x := c11) (y := 1) w)) rfl fun ac hs => ?_))
        refine lstep (wpO_plain rfl (op_move hs none rfl rfl rfl rfl fun ac hs => ?_))
        refine lstep (wpO_out hs none rfl rfl (.inl rfl) rfl rfl fun ac hs => ?_)
        refine lstep (wpO_out hs none rfl rfl (.inl rfl) rfl rfl fun ac hs => ?_)
        refine lstep (wpO_out hs none rfl rfl (.inl rfl) rfl rfl fun ac hs => ?_)
        refine lstep (wpO_out hs none rfl rfl (.inl rfl) rfl rfl fun ac hs => ?_)
        refine lstep (wpO_plain rfl (op_pickT hs none rfl rfl rfl rfl rfl fun ac hs => ?_))
        refine wpList_nil ?_
        refine then_n ?_
        refine wp_cond_true (hs.ev rfl) ?_
        refine wp_region_lit ?_
        refine lstep (wpO_plain rfl (op_load hs none 4 (v := W t10) rfl rfl rfl rfl Try.isAgg24 Try.sizeOf24 rfl rfl fun ac hs => ?_))
        refine lstep (wpO_plain rfl (op_load hs none 2 (v := W m) rfl rfl rfl rfl Try.isAgg24 Try.sizeOf24 rfl rfl fun ac hs => ?_))
        obtain ⟨d14, hd14, ld14⟩ : ∃ z0, (t10 + 2 ^ 256 - m) % 2 ^ 256 = z0 ∧ z0 < 2 ^ 256 := ⟨_, rfl, Nat.mod_lt _ (Nat.two_pow_pos 256)⟩
        obtain ⟨c15, hc15⟩ : ∃ z0, bor t10 m = z0 := ⟨_, rfl⟩
        refine lstep (wpO_plain rfl (op_call (F := 14) hs none (v := .tuple #[W d14, .int .u64 ((c15 : Nat) : Int)]) rfl rfl rfl rfl (Try.call14 _) (rsub06_c t10 m d14 c15 lt10 hm hd14 hc15) rfl fun ac w hs => ?_))
        refine lstep (wpO_plain rfl (op_move hs none rfl rfl rfl rfl fun ac hs => ?_))
        refine lstep (wpO_plain rfl (op_extract hs none rfl rfl rfl rfl rfl fun ac hs => ?_))
        refine lstep (wpO_plain rfl (op_extract hs none rfl rfl rfl rfl rfl fun ac hs => ?_))
        refine lstep (wpO_plain rfl (op_store hs 4 (vs := (Wl d14)) rfl rfl rfl rfl rfl Try.sizeOf24 rfl rfl rfl rfl rfl fun w hs => ?_))
        refine wpList_nil ?_
        refine blk_n ?_
        refine then_n ?_
        refine wp_region_lit ?_
        refine lstep (wpO_plain rfl (op_move hs none rfl rfl rfl rfl fun ac hs => ?_))
        refine lstep (wpO_plain rfl (op_bin hs none (v := .int .i64 (((k - 1 : Nat) : Int) - 1)) rfl rfl rfl rfl (fun _ => rfl) (bin_subP (x := k - 1) (by omega)) rfl fun ac hs => ?_))
        refine lstep (wpO_plain rfl (op_assign hs none rfl rfl rfl rfl fun ac hs => ?_))
        refine wpList_nil ?_
        refine then_n ?_
        exact ⟨_, ⟨(k - 1), d14, rfl, (by omega), ((rem_bit hp6 hr ((half_hi hL hp8 (by omega)).trans hb9)).trans (rem_yes lm hm lb9 ht10 hc11 hd14 (.inl hq13))), ((hs.takeb 5).re ⟨rfl, rfl, rfl, rfl, rfl, rfl, trivial⟩)⟩, (by omega)⟩
      · skip
        refine wp_region_lit ?_
        refine lstep (wpO_plain rfl (op_move hs none rfl rfl rfl rfl fun ac hs => ?_))
        refine lstep (wpO_plain rfl (op_bin hs none (v := .bool false) rfl rfl rfl rfl (fun _ => rfl) (fun w => dF hq13 (bin_eqlN (x := c11) (y := 1) w)) rfl fun ac hs => ?_))
        refine lstep (wpO_plain rfl (op_move hs none rfl rfl rfl rfl fun ac hs => ?_))
        refine lstep (wpO_in hs rfl rfl rfl (op_load hs none 4 (v := W t10) rfl rfl rfl rfl Try.isAgg24 Try.sizeOf24 rfl rfl fun ac hs => ?_))
        refine lstep (wpO_in hs rfl rfl rfl (op_load hs none 2 (v := W m) rfl rfl rfl rfl Try.isAgg24 Try.sizeOf24 rfl rfl fun ac hs => ?_))
        refine lstep (wpO_in hs rfl rfl rfl (op_call (F := 17) hs none (v := .int .i64 (cmpZ t10 m)) rfl rfl rfl rfl (Try.call17 _) (rcmp_c t10 m lt10 hm) rfl fun ac w hs => ?_))
        refine lstep (wpO_in hs rfl rfl rfl (op_bin hs none (v := .bool (decide (m ≤ t10))) rfl rfl rfl rfl (fun _ => rfl) (bin_cmp_geq t10 m) rfl fun ac hs => ?_))
        refine lstep (wpO_plain rfl (op_pickF hs none rfl rfl rfl rfl rfl fun ac hs => ?_))
        refine wpList_nil ?_
        refine then_n ?_
        refine wp_cond_split (hs.ev rfl) (fun hc => ?_) (fun hc => ?_)
        · skip
          have hp16 := of_decide_eq_true hc
          refine wp_region_lit ?_
          refine lstep (wpO_plain rfl (op_load hs none 4 (v := W t10) rfl rfl rfl rfl Try.isAgg24 Try.sizeOf24 rfl rfl fun ac hs => ?_))
          refine lstep (wpO_plain rfl (op_load hs none 2 (v := W m) rfl rfl rfl rfl Try.isAgg24 Try.sizeOf24 rfl rfl fun ac hs => ?_))
          obtain ⟨d17, hd17, ld17⟩ : ∃ z0, (t10 + 2 ^ 256 - m) % 2 ^ 256 = z0 ∧ z0 < 2 ^ 256 := ⟨_, rfl, Nat.mod_lt _ (Nat.two_pow_pos 256)⟩
          obtain ⟨c18, hc18⟩ : ∃ z0, bor t10 m = z0 := ⟨_, rfl⟩
          refine lstep (wpO_plain rfl (op_call (F := 14) hs none (v := .tuple #[W d17, .int .u64 ((c18 : Nat) : Int)]) rfl rfl rfl rfl (Try.call14 _) (rsub06_c t10 m d17 c18 lt10 hm hd17 hc18) rfl fun ac w hs => ?_))
          refine lstep (wpO_plain rfl (op_move hs none rfl rfl rfl rfl fun ac hs => ?_))
          refine lstep (wpO_plain rfl (op_extract hs none rfl rfl rfl rfl rfl fun ac hs => ?_))
          refine lstep (wpO_plain rfl (op_extract hs none rfl rfl rfl rfl rfl fun ac hs => ?_))
          refine lstep (wpO_plain rfl (op_store hs 4 (vs := (Wl d17)) rfl rfl rfl rfl rfl Try.sizeOf24 rfl rfl rfl rfl rfl fun w hs => ?_))
          refine wpList_nil ?_
          refine blk_n ?_
          refine then_n ?_
          refine wp_region_lit ?_
          refine lstep (wpO_plain rfl (op_move hs none rfl rfl rfl rfl fun ac hs => ?_))
          refine lstep (wpO_plain rfl (op_bin hs none (v := .int .i64 (((k - 1 : Nat) : Int) - 1)) rfl rfl rfl rfl (fun _ => rfl) (bin_subP (x := k - 1) (by omega)) rfl fun ac hs => ?_))
          refine lstep (wpO_plain rfl (op_assign hs none rfl rfl rfl rfl fun ac hs => ?_))
          refine wpList_nil ?_
          refine then_n ?_
          exact ⟨_, ⟨(k - 1), d17, rfl, (by omega), ((rem_bit hp6 hr ((half_hi hL hp8 (by omega)).trans hb9)).trans (rem_yes lm hm lb9 ht10 hc11 hd17 (.inr hp16))), ((hs.takeb 5).re ⟨rfl, rfl, rfl, rfl, rfl, rfl, trivial⟩)⟩, (by omega)⟩
        · skip
          have hp19 := of_decide_eq_false hc
          refine wp_skip ?_
          refine blk_n ?_
          refine then_n ?_
          refine wp_region_lit ?_
          refine lstep (wpO_plain rfl (op_move hs none rfl rfl rfl rfl fun ac hs => ?_))
          refine lstep (wpO_plain rfl (op_bin hs none (v := .int .i64 (((k - 1 : Nat) : Int) - 1)) rfl rfl rfl rfl (fun _ => rfl) (bin_subP (x := k - 1) (by omega)) rfl fun ac hs => ?_))
          refine lstep (wpO_plain rfl (op_assign hs none rfl rfl rfl rfl fun ac hs => ?_))
          refine wpList_nil ?_
          refine then_n ?_
          exact ⟨_, ⟨(k - 1), t10, rfl, (by omega), ((rem_bit hp6 hr ((half_hi hL hp8 (by omega)).trans hb9)).trans (rem_no lm hm lb9 ht10 hc11 hq13 hp19)), ((hs.takeb 5).re ⟨rfl, rfl, rfl, rfl, rfl, rfl, trivial⟩)⟩, (by omega)⟩
    · skip
      have hp20 := of_decide_eq_false hc
      refine wp_skip ?_
      refine then_n ?_
      refine wp_seq ?_
      replace hs : St 51 w0 [(3, true, .pointer (some ⟨g1, 0, none⟩)), (4, true, .pointer (some ⟨g2, 0, none⟩)), (5, true, .pointer (some ⟨g3, 0, none⟩)), (6, true, .pointer (some ⟨g4, 0, none⟩)), (8, true, .pointer (some ⟨g5, 0, none⟩)), (9, true, .int .i64 ((k - 1 : Nat) : Int)), (10, true, .pointer (some ⟨g7, 0, none⟩))] [(true, g1, 24, (Wl u)), (true, g2, 24, (Wl v)), (true, g3, 24, (Wl m)), (true, g4, 24, [.int .u64 0, .int .u64 0, .int .u64 0, .int .u64 0]), (true, g5, 24, (Wl r)), (true, g7, 24, (Wl v))] ac _ := hs.re ⟨rfl, rfl, rfl, rfl, rfl, rfl, rfl, trivial⟩
      obtain ⟨b21, hb21⟩ : ∃ z0, v / 2 ^ ((k - 1) % 256) % 2 = z0 := ⟨_, rfl⟩
      have lb21 := bit_le hb21
      obtain ⟨t22, ht22, lt22⟩ : ∃ z0, (2 * r + b21) % 2 ^ 256 = z0 ∧ z0 < 2 ^ 256 := ⟨_, rfl, Nat.mod_lt _ (Nat.two_pow_pos 256)⟩
      obtain ⟨c23, hc23⟩ : ∃ z0, (2 * r + b21) / 2 ^ 256 = z0 := ⟨_, rfl⟩
      refine region_inv [([], [5, 6, 7, 8, 10, 11]), ([], [4, 5, 6, 7, 8, 10, 11]), ([], [3, 4, 5, 6, 7, 8, 10, 11]), ([2], [4, 5, 6, 7, 8, 10, 11]), ([1, 2, 3], [5, 6, 7, 8, 10, 11]), ([0, 1, 2, 3, 4], [6, 7, 8, 10, 11]), ([0, 1, 2, 3, 4, 5], [7, 8, 10, 11]), ([0, 1, 2, 3, 4, 5, 6], [10, 11]), ([0, 1, 2, 3, 4, 5, 6], [11]), ([], [10, 11]), ([0, 1, 2, 3, 4, 5, 6, 7, 9], [11]), ([0, 1, 2, 3, 4, 5, 6, 7, 8, 9, 10], [])] (fun L ac w => ∃ (g24 : Nat), St 51 w0 [(27, L 0, W r), (28, L 1, W v), (29, L 2, .int .i64 ((k - 1 : Nat) : Int)), (30, L 3, .int .i64 (((k - 1) % 256 : Nat) : Int)), (31, L 4, .int .u64 ((b21 : Nat) : Int)), (32, L 5, .tuple #[W t22, .int .u64 ((c23 : Nat) : Int)]), (26, L 6, .tuple #[W t22, .int .u64 ((c23 : Nat) : Int)]), (33, L 7, W t22), (34, L 8, .int .u64 ((c23 : Nat) : Int)), (11, L 9, .pointer (some ⟨g24, 0, none⟩)), (12, L 11, .int .u64 ((c23 : Nat) : Int)), (3, true, .pointer (some ⟨g1, 0, none⟩)), (4, true, .pointer (some ⟨g2, 0, none⟩)), (5, true, .pointer (some ⟨g3, 0, none⟩)), (6, true, .pointer (some ⟨g4, 0, none⟩)), (8, true, .pointer (some ⟨g5, 0, none⟩)), (9, true, .int .i64 ((k - 1 : Nat) : Int)), (10, true, .pointer (some ⟨g7, 0, none⟩))] [(true, g1, 24, (Wl u)), (true, g2, 24, (Wl v)), (true, g3, 24, (Wl m)), (true, g4, 24, [.int .u64 0, .int .u64 0, .int .u64 0, .int .u64 0]), (true, g5, 24, (Wl r)), (true, g7, 24, (Wl v)), (L 9, g24, 24, (cond (L 10) (Wl t22) [.int .u64 0, .int .u64 0, .int .u64 0, .int .u64 0]))] ac w) (by kernel_rfl) (by kernel_rfl) ?_ ?_ ?_
      · exact ⟨0, hs.drew.skip.skip.skip.skip.skip.skip.skip.skip.skip.skip.skip.pad⟩
      · refine ⟨?_, ?_, ?_, ?_, ?_, ?_, ?_, ?_, ?_, ?_, ?_, ?_, trivial⟩
        · intro L ac w hJ
          obtain ⟨g24, hs⟩ := hJ
          refine wpO_plain rfl (op_load hs (some 0) 4 (v := W r) rfl rfl rfl rfl Try.isAgg24 Try.sizeOf24 rfl rfl fun ac hs => ?_)
          exact ⟨g24, hs⟩
        · intro L ac w hJ
          obtain ⟨g24, hs⟩ := hJ
          refine wpO_plain rfl (op_load hs (some 1) 5 (v := W v) rfl rfl rfl rfl Try.isAgg24 Try.sizeOf24 rfl rfl fun ac hs => ?_)
          exact ⟨g24, hs⟩
        · intro L ac w hJ
          obtain ⟨g24, hs⟩ := hJ
          refine wpO_plain rfl (op_move hs (some 2) rfl rfl rfl rfl fun ac hs => ?_)
          exact ⟨g24, hs⟩
        · intro L ac w hJ
          obtain ⟨g24, hs⟩ := hJ
          refine wpO_plain rfl (op_bin hs (some 3) (v := .int .i64 (((k - 1) % 256 : Nat) : Int)) rfl rfl rfl rfl (fun _ => rfl) (bin_remN (x := k - 1) (y := 256) (z := (k - 1) % 256) rfl (by decide)) rfl fun ac hs => ?_)
          exact ⟨g24, hs⟩
        · intro L ac w hJ
          obtain ⟨g24, hs⟩ := hJ
          refine wpO_plain rfl (op_call (F := 44) hs (some 4) (v := .int .u64 ((b21 : Nat) : Int)) rfl rfl rfl rfl (Try.call44 _) (rbit_c v ((k - 1) % 256) b21 (show (k - 1) % 256 < 256 by omega) hb21) rfl fun ac w hs => ?_)
          exact ⟨g24, hs⟩
        · intro L ac w hJ
          obtain ⟨g24, hs⟩ := hJ
          refine wpO_plain rfl (op_call (F := 47) hs (some 5) (v := .tuple #[W t22, .int .u64 ((c23 : Nat) : Int)]) rfl rfl rfl rfl (Try.call47 _) (rtwice_c r b21 t22 c23 lr (show b21 ≤ 1 by omega) ht22 hc23) rfl fun ac w hs => ?_)
          exact ⟨g24, hs⟩
        · intro L ac w hJ
          obtain ⟨g24, hs⟩ := hJ
          refine wpO_plain rfl (op_move hs (some 6) rfl rfl rfl rfl fun ac hs => ?_)
          exact ⟨g24, hs⟩
        · intro L ac w hJ
          obtain ⟨g24, hs⟩ := hJ
          refine wpO_plain rfl (op_extract hs (some 7) rfl rfl rfl rfl rfl fun ac hs => ?_)
          exact ⟨g24, hs⟩
        · intro L ac w hJ
          obtain ⟨g24, hs⟩ := hJ
          refine wpO_plain rfl (op_extract hs (some 8) rfl rfl rfl rfl rfl fun ac hs => ?_)
          exact ⟨g24, hs⟩
        · intro L ac w hJ
          obtain ⟨g24, hs⟩ := hJ
          refine wpO_plain rfl (op_alloc hs (some 9) (some 6) (cs := [.int .u64 0, .int .u64 0, .int .u64 0, .int .u64 0]) rfl rfl Try.zeroValue24 (by kernel_rfl) rfl rfl fun g24 ac w hs => ?_)
          exact ⟨g24, hs⟩
        · intro L ac w hJ
          obtain ⟨g24, hs⟩ := hJ
          refine wpO_plain rfl (op_store hs 6 (vs := (Wl t22)) rfl rfl rfl rfl rfl Try.sizeOf24 rfl rfl rfl rfl rfl fun w hs => ?_)
          exact ⟨g24, hs⟩
        · intro L ac w hJ
          obtain ⟨g24, hs⟩ := hJ
          refine wpO_plain rfl (op_assign hs (some 10) rfl rfl rfl rfl fun ac hs => ?_)
          exact ⟨g24, hs⟩
      intro ac w hJ
      obtain ⟨g24, hs⟩ := hJ
      replace hs : St 51 w0 [(27, true, W r), (28, true, W v), (29, true, .int .i64 ((k - 1 : Nat) : Int)), (30, true, .int .i64 (((k - 1) % 256 : Nat) : Int)), (31, true, .int .u64 ((b21 : Nat) : Int)), (32, true, .tuple #[W t22, .int .u64 ((c23 : Nat) : Int)]), (26, true, .tuple #[W t22, .int .u64 ((c23 : Nat) : Int)]), (33, true, W t22), (34, true, .int .u64 ((c23 : Nat) : Int)), (11, true, .pointer (some ⟨g24, 0, none⟩)), (12, true, .int .u64 ((c23 : Nat) : Int)), (3, true, .pointer (some ⟨g1, 0, none⟩)), (4, true, .pointer (some ⟨g2, 0, none⟩)), (5, true, .pointer (some ⟨g3, 0, none⟩)), (6, true, .pointer (some ⟨g4, 0, none⟩)), (8, true, .pointer (some ⟨g5, 0, none⟩)), (9, true, .int .i64 ((k - 1 : Nat) : Int)), (10, true, .pointer (some ⟨g7, 0, none⟩))] [(true, g1, 24, (Wl u)), (true, g2, 24, (Wl v)), (true, g3, 24, (Wl m)), (true, g4, 24, [.int .u64 0, .int .u64 0, .int .u64 0, .int .u64 0]), (true, g5, 24, (Wl r)), (true, g7, 24, (Wl v)), (true, g24, 24, (Wl t22))] ac w := hs
      refine then_n ?_
      refine wp_seq ?_
      refine wp_region_lit ?_
      refine lstep (wpO_plain rfl (op_load hs none 6 (v := W t22) rfl rfl rfl rfl Try.isAgg24 Try.sizeOf24 rfl rfl fun ac hs => ?_))
      refine lstep (wpO_plain rfl (op_store hs 4 (vs := (Wl t22)) rfl rfl rfl rfl rfl Try.sizeOf24 rfl rfl rfl rfl rfl fun w hs => ?_))
      refine wpList_nil ?_
      refine then_n ?_
      refine wp_seq ?_
      by_cases hq25 : c23 = 1
      · skip
        refine wp_region_lit ?_
        refine lstep (wpO_plain rfl (op_move hs none rfl rfl rfl rfl fun ac hs => ?_))
        refine lstep (wpO_plain rfl (op_bin hs none (v := .bool true) rfl rfl rfl rfl (fun _ => rfl) (fun w => dT hq25 (bin_eqlN (x := c23) (y := 1) w)) rfl fun ac hs => ?_))
        refine lstep (wpO_plain rfl (op_move hs none rfl rfl rfl rfl fun ac hs => ?_))
        refine lstep (wpO_out hs none rfl rfl (.inl rfl) rfl rfl fun ac hs => ?_)
        refine lstep (wpO_out hs none rfl rfl (.inl rfl) rfl rfl fun ac hs => ?_)
        refine lstep (wpO_out hs none rfl rfl (.inl rfl) rfl rfl fun ac hs => ?_)
        refine lstep (wpO_out hs none rfl rfl (.inl rfl) rfl rfl fun ac hs => ?_)
        refine lstep (wpO_plain rfl (op_pickT hs none rfl rfl rfl rfl rfl fun ac hs => ?_))
        refine wpList_nil ?_
        refine then_n ?_
        refine wp_cond_true (hs.ev rfl) ?_
        refine wp_region_lit ?_
        refine lstep (wpO_plain rfl (op_load hs none 4 (v := W t22) rfl rfl rfl rfl Try.isAgg24 Try.sizeOf24 rfl rfl fun ac hs => ?_))
        refine lstep (wpO_plain rfl (op_load hs none 2 (v := W m) rfl rfl rfl rfl Try.isAgg24 Try.sizeOf24 rfl rfl fun ac hs => ?_))
        obtain ⟨d26, hd26, ld26⟩ : ∃ z0, (t22 + 2 ^ 256 - m) % 2 ^ 256 = z0 ∧ z0 < 2 ^ 256 := ⟨_, rfl, Nat.mod_lt _ (Nat.two_pow_pos 256)⟩
        obtain ⟨c27, hc27⟩ : ∃ z0, bor t22 m = z0 := ⟨_, rfl⟩
        refine lstep (wpO_plain rfl (op_call (F := 14) hs none (v := .tuple #[W d26, .int .u64 ((c27 : Nat) : Int)]) rfl rfl rfl rfl (Try.call14 _) (rsub06_c t22 m d26 c27 lt22 hm hd26 hc27) rfl fun ac w hs => ?_))
        refine lstep (wpO_plain rfl (op_move hs none rfl rfl rfl rfl fun ac hs => ?_))
        refine lstep (wpO_plain rfl (op_extract hs none rfl rfl rfl rfl rfl fun ac hs => ?_))
        refine lstep (wpO_plain rfl (op_extract hs none rfl rfl rfl rfl rfl fun ac hs => ?_))
        refine lstep (wpO_plain rfl (op_store hs 4 (vs := (Wl d26)) rfl rfl rfl rfl rfl Try.sizeOf24 rfl rfl rfl rfl rfl fun w hs => ?_))
        refine wpList_nil ?_
        refine blk_n ?_
        refine then_n ?_
        refine wp_region_lit ?_
        refine lstep (wpO_plain rfl (op_move hs none rfl rfl rfl rfl fun ac hs => ?_))
        refine lstep (wpO_plain rfl (op_bin hs none (v := .int .i64 (((k - 1 : Nat) : Int) - 1)) rfl rfl rfl rfl (fun _ => rfl) (bin_subP (x := k - 1) (by omega)) rfl fun ac hs => ?_))
        refine lstep (wpO_plain rfl (op_assign hs none rfl rfl rfl rfl fun ac hs => ?_))
        refine wpList_nil ?_
        refine then_n ?_
        exact ⟨_, ⟨(k - 1), d26, rfl, (by omega), ((rem_bit hp6 hr ((half_lo (by omega)).trans hb21)).trans (rem_yes lm hm lb21 ht22 hc23 hd26 (.inl hq25))), ((hs.takeb 5).re ⟨rfl, rfl, rfl, rfl, rfl, rfl, trivial⟩)⟩, (by omega)⟩
      · skip
        refine wp_region_lit ?_
        refine lstep (wpO_plain rfl (op_move hs none rfl rfl rfl rfl fun ac hs => ?_))
        refine lstep (wpO_plain rfl (op_bin hs none (v := .bool false) rfl rfl rfl rfl (fun _ => rfl) (fun w => dF hq25 (bin_eqlN (x := c23) (y := 1) w)) rfl fun ac hs => ?_))
        refine lstep (wpO_plain rfl (op_move hs none rfl rfl rfl rfl fun ac hs => ?_))
        refine lstep (wpO_in hs rfl rfl rfl (op_load hs none 4 (v := W t22) rfl rfl rfl rfl Try.isAgg24 Try.sizeOf24 rfl rfl fun ac hs => ?_))
        refine lstep (wpO_in hs rfl rfl rfl (op_load hs none 2 (v := W m) rfl rfl rfl rfl Try.isAgg24 Try.sizeOf24 rfl rfl fun ac hs => ?_))
        refine lstep (wpO_in hs rfl rfl rfl (op_call (F := 17) hs none (v := .int .i64 (cmpZ t22 m)) rfl rfl rfl rfl (Try.call17 _) (rcmp_c t22 m lt22 hm) rfl fun ac w hs => ?_))
        refine lstep (wpO_in hs rfl rfl rfl (op_bin hs none (v := .bool (decide (m ≤ t22))) rfl rfl rfl rfl (fun _ => rfl) (bin_cmp_geq t22 m) rfl fun ac hs => ?_))
        refine lstep (wpO_plain rfl (op_pickF hs none rfl rfl rfl rfl rfl fun ac hs => ?_))
        refine wpList_nil ?_
        refine then_n ?_
        refine wp_cond_split (hs.ev rfl) (fun hc => ?_) (fun hc => ?_)
        · skip
          have hp28 := of_decide_eq_true hc
          refine wp_region_lit ?_
          refine lstep (wpO_plain rfl (op_load hs none 4 (v := W t22) rfl rfl rfl rfl Try.isAgg24 Try.sizeOf24 rfl rfl fun ac hs => ?_))
          refine lstep (wpO_plain rfl (op_load hs none 2 (v := W m) rfl rfl rfl rfl Try.isAgg24 Try.sizeOf24 rfl rfl fun ac hs => ?_))
          obtain ⟨d29, hd29, ld29⟩ : ∃ z0, (t22 + 2 ^ 256 - m) % 2 ^ 256 = z0 ∧ z0 < 2 ^ 256 := ⟨_, rfl, Nat.mod_lt _ (Nat.two_pow_pos 256)⟩
          obtain ⟨c30, hc30⟩ : ∃ z0, bor t22 m = z0 := ⟨_, rfl⟩
          refine lstep (wpO_plain rfl (op_call (F := 14) hs none (v := .tuple #[W d29, .int .u64 ((c30 : Nat) : Int)]) rfl rfl rfl rfl (Try.call14 _) (rsub06_c t22 m d29 c30 lt22 hm hd29 hc30) rfl fun ac w hs => ?_))
          refine lstep (wpO_plain rfl (op_move hs none rfl rfl rfl rfl fun ac hs => ?_))
          refine lstep (wpO_plain rfl (op_extract hs none rfl rfl rfl rfl rfl fun ac hs => ?_))
          refine lstep (wpO_plain rfl (op_extract hs none rfl rfl rfl rfl rfl fun ac hs => ?_))
          refine lstep (wpO_plain rfl (op_store hs 4 (vs := (Wl d29)) rfl rfl rfl rfl rfl Try.sizeOf24 rfl rfl rfl rfl rfl fun w hs => ?_))
          refine wpList_nil ?_
          refine blk_n ?_
          refine then_n ?_
          refine wp_region_lit ?_
          refine lstep (wpO_plain rfl (op_move hs none rfl rfl rfl rfl fun ac hs => ?_))
          refine lstep (wpO_plain rfl (op_bin hs none (v := .int .i64 (((k - 1 : Nat) : Int) - 1)) rfl rfl rfl rfl (fun _ => rfl) (bin_subP (x := k - 1) (by omega)) rfl fun ac hs => ?_))
          refine lstep (wpO_plain rfl (op_assign hs none rfl rfl rfl rfl fun ac hs => ?_))
          refine wpList_nil ?_
          refine then_n ?_
          exact ⟨_, ⟨(k - 1), d29, rfl, (by omega), ((rem_bit hp6 hr ((half_lo (by omega)).trans hb21)).trans (rem_yes lm hm lb21 ht22 hc23 hd29 (.inr hp28))), ((hs.takeb 5).re ⟨rfl, rfl, rfl, rfl, rfl, rfl, trivial⟩)⟩, (by omega)⟩
        · skip
          have hp31 := of_decide_eq_false hc
          refine wp_skip ?_
          refine blk_n ?_
          refine then_n ?_
          refine wp_region_lit ?_
          refine lstep (wpO_plain rfl (op_move hs none rfl rfl rfl rfl fun ac hs => ?_))
          refine lstep (wpO_plain rfl (op_bin hs none (v := .int .i64 (((k - 1 : Nat) : Int) - 1)) rfl rfl rfl rfl (fun _ => rfl) (bin_subP (x := k - 1) (by omega)) rfl fun ac hs => ?_))
          refine lstep (wpO_plain rfl (op_assign hs none rfl rfl rfl rfl fun ac hs => ?_))
          refine wpList_nil ?_
          refine then_n ?_
          exact ⟨_, ⟨(k - 1), t22, rfl, (by omega), ((rem_bit hp6 hr ((half_lo (by omega)).trans hb21)).trans (rem_no lm hm lb21 ht22 hc23 hq25 hp31)), ((hs.takeb 5).re ⟨rfl, rfl, rfl, rfl, rfl, rfl, trivial⟩)⟩, (by omega)⟩
  · skip
    have hp32 := of_decide_eq_false hc
    obtain rfl : k = 0 := by omega
    refine wp_exit ?_
    refine then_e ?_
    refine then_e ?_
    refine blk_e ?_
    refine then_n ?_
    refine wp_seq ?_
    refine wp_region_lit ?_
    refine lstep (wpO_plain rfl (op_load hs none 4 (v := W r) rfl rfl rfl rfl Try.isAgg24 Try.sizeOf24 rfl rfl fun ac hs => ?_))
    refine lstep (wpO_plain rfl (op_store hs 3 (vs := (Wl r)) rfl rfl rfl rfl rfl Try.sizeOf24 rfl rfl rfl rfl rfl fun w hs => ?_))
    refine lstep (wpO_plain rfl (op_assign hs none rfl rfl rfl rfl fun ac hs => ?_))
    refine wpList_nil ?_
    refine then_n ?_
    refine wp_ret ?_
    exact bodyPost_ret (res2 rfl (rv_c hs 3 (v := W r) rfl rfl Try.isAgg24 Try.sizeOf24 rfl) (rv_t hs rfl)) hs.defers ⟨by rw [← hr', ← hr, Nat.pow_zero, Nat.div_one], hs.below⟩
end Go.Proofs.Ytaeafgkjinhceaa
