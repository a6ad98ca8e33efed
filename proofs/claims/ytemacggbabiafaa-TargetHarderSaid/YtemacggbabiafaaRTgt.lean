/- The contracts of targets. -/
import Derived.Test.YtemacggbabiafaaTgt
namespace Go.Proofs.Ytemacggbabiafaa
open Go.RowKit
set_option maxRecDepth 10000

theorem of_decide_ne {x : Nat} (h : decide (x ≠ 0) = false) : x = 0 := Classical.not_not.1 (of_decide_eq_false h)

theorem turned_c (b : Nat → Nat) (gd c : Nat) (w0 : World) (hcell : ∀ j, j < 32 → w0.cell? ⟨gd, j, none⟩ = some (.int .u8 ((b j : Nat) : Int))) (hb : ∀ j, j < 32 → b j < 256): Calls Try.prog 34 #[.slice (some ⟨gd, 0, none⟩) 32 c] w0 fun e w' => Made w0 5 (fun g c => .slice (some ⟨g, 0, none⟩) 32 c) (tab .u8 32 (rvb b)) e w' := by
  refine enter (n := 21) (args := [.slice (some ⟨gd, 0, none⟩) 32 c]) Try.func34 rfl rfl (Nat.le_of_ble_eq_true rfl) fun ac hs => ?_
  refine wp_seq ?_
  refine wp_region_lit ?_
  refine lstep (wpO_plain rfl (op_assign hs none rfl rfl rfl rfl fun ac hs => ?_))
  refine wpList_nil ?_
  refine then_n ?_
  refine wp_seq ?_
  refine wp_region_lit ?_
  refine lstep (wpO_plain rfl (op_bs0 hs none none rfl rfl Try.underlying50 inf_u8_5 rfl rfl fun g1 ac w hs => ?_))
  refine lstep (wpO_plain rfl (op_assign hs none rfl rfl rfl rfl fun ac hs => ?_))
  refine wpList_nil ?_
  refine then_n ?_
  refine wp_seq ?_
  refine wp_seq ?_
  refine wp_region_lit ?_
  refine lstep (wpO_plain rfl (op_move hs none rfl rfl rfl rfl fun ac hs => ?_))
  refine lstep (wpO_plain rfl (op_blt hs none (v := .int .i64 32) rfl rfl rfl (blt_len Try.underlying50) rfl fun ac hs => ?_))
  refine lstep (wpO_plain rfl (op_bin hs none (v := .int .i64 31) rfl rfl rfl rfl (fun _ => rfl) (fun _ => by kernel_rfl) rfl fun ac hs => ?_))
  refine lstep (wpO_plain rfl (op_assign hs none rfl rfl rfl rfl fun ac hs => ?_))
  refine wpList_nil ?_
  refine then_n ?_
  refine wp_block ?_
  refine wp_loop_m (fun μ ac w => ∃ (k : Nat) (ge : Nat) (sq : List Value), (k) = μ ∧ (k ≤ 32) ∧ ((tab .u8 (32 - k) (rvb b) ++ sq).length ≤ maxLen) ∧ St 21 w0 [(0, true, .slice (some ⟨gd, 0, none⟩) 32 c), (3, true, .slice (some ⟨ge, 0, none⟩) (32 - k) ((tab .u8 (32 - k) (rvb b) ++ sq).length)), (4, true, .int .i64 (((k : Nat) : Int) - 1))] [(true, ge, 5, (tab .u8 (32 - k) (rvb b) ++ sq))] ac w) ?_ ?_
  · exact ⟨_, 32, g1, ([]), rfl, (by omega), cap0, (hs.re ⟨rfl, rfl, rfl, trivial⟩)⟩
  intro μ ac w ⟨k, ge, sq, hμ, hk, hcap, hs⟩
  refine wp_seq ?_
  refine wp_seq ?_
  refine wp_region_lit ?_
  refine lstep (wpO_plain rfl (op_move hs none rfl rfl rfl rfl fun ac hs => ?_))
  refine lstep (wpO_plain rfl (op_bin hs none (v := .bool (decide (1 ≤ k))) rfl rfl rfl rfl (fun _ => rfl) bin_geqP rfl fun ac hs => ?_))
  refine wpList_nil ?_
  refine then_n ?_
  refine wp_cond_split (hs.ev rfl) (fun hc => ?_) (fun hc => ?_)
  · skip
    have hp2 := of_decide_eq_true hc
    replace hs := hs.re (fs' := [(0, true, .slice (some ⟨gd, 0, none⟩) 32 c), (3, true, .slice (some ⟨ge, 0, none⟩) (32 - k) ((tab .u8 (32 - k) (rvb b) ++ sq).length)), (4, true, .int .i64 ((k - 1 : Nat) : Int)), (9, true, .int .i64 (((k : Nat) : Int) - 1)), (10, true, .bool (decide (1 ≤ k)))]) ⟨rfl, rfl, congrArg some (pre_nat hp2), rfl, rfl, trivial⟩
    refine wp_skip ?_
    refine then_n ?_
    refine wp_seq ?_
    refine wp_block ?_
    refine wp_region_lit ?_
    refine lstep (wpO_plain rfl (op_move hs none rfl rfl rfl rfl fun ac hs => ?_))
    refine lstep (wpO_plain rfl (op_move hs none rfl rfl rfl rfl fun ac hs => ?_))
    refine lstep (wpO_plain rfl (op_move hs none rfl rfl rfl rfl fun ac hs => ?_))
    refine lstep (wpO_plain rfl (op_idxS hs none (j := k - 1) rfl rfl rfl rfl Try.underlying50 Try.sizeOf5 (show k - 1 < 32 by omega) (off := k - 1) (by omega) rfl fun ac hs => ?_))
    have l3 := hb (k - 1) (by omega)
    refine lstep (wpO_plain rfl (op_loadOld hs none (v := .int .u8 ((b (k - 1) : Nat) : Int)) rfl rfl rfl Try.isAgg5 (hcell (k - 1) (show k - 1 < 32 by omega)) rfl fun ac hs => ?_))
    refine lstep (wpO_plain rfl (op_bs1 hs none none rfl rfl rfl rfl Try.underlying50 inf_u8_5 rfl rfl fun g4 ac w hs => ?_))
    refine lstep (wpO_plain rfl (op_app1 hs none 0 1 (κ := .u8) (f := rvb b) (sp := sq) (xv := b (k - 1)) rfl rfl rfl rfl rfl rfl Try.underlying50 inf_u8_5 rfl (by decide) hcap (by omega) (by unfold rvb; congr 1; omega) rfl fun g5 sp6 ac w hs hm7 => ?_))
    refine lstep (wpO_plain rfl (op_assign hs none rfl rfl rfl rfl fun ac hs => ?_))
    refine wpList_nil ?_
    refine blk_n ?_
    refine then_n ?_
    refine wp_region_lit ?_
    refine lstep (wpO_plain rfl (op_move hs none rfl rfl rfl rfl fun ac hs => ?_))
    refine lstep (wpO_plain rfl (op_bin hs none (v := .int .i64 (((k - 1 : Nat) : Int) - 1)) rfl rfl rfl rfl (fun _ => rfl) (bin_subP (x := k - 1) (by omega)) rfl fun ac hs => ?_))
    refine lstep (wpO_plain rfl (op_assign hs none rfl rfl rfl rfl fun ac hs => ?_))
    refine wpList_nil ?_
    refine then_n ?_
    have hkk : 32 - k + 1 = 32 - (k - 1) := by omega
    rw [hkk] at hs hm7
    exact ⟨_, ⟨(k - 1), g5, sp6, rfl, (by omega), hm7, ((hs.takeb 1).re ⟨rfl, rfl, rfl, trivial⟩)⟩, (by omega)⟩
  · skip
    have hp8 := of_decide_eq_false hc
    obtain rfl : k = 0 := by omega
    refine wp_exit ?_
    refine then_e ?_
    refine then_e ?_
    refine blk_e ?_
    refine then_n ?_
    refine wp_seq ?_
    refine wp_region_lit ?_
    refine lstep (wpO_plain rfl (op_move hs none rfl rfl rfl rfl fun ac hs => ?_))
    refine lstep (wpO_plain rfl (op_assign hs none rfl rfl rfl rfl fun ac hs => ?_))
    refine wpList_nil ?_
    refine then_n ?_
    refine wp_ret ?_
    exact bodyPost_ret (res1 rfl (rv_t hs rfl)) hs.defers ⟨_, sq, rfl, (hs.blks 0 _ rfl rfl).2, (hs.blks 0 _ rfl rfl).1, hs.below⟩
theorem hash_c (b : Nat → Nat) (gd c : Nat) (w0 : World) (hcell : ∀ j, j < 32 → w0.cell? ⟨gd, j, none⟩ = some (.int .u8 ((b j : Nat) : Int))): Calls Try.prog 33 #[.slice (some ⟨gd, 0, none⟩) 32 c] w0 fun e w' => e = .returned (At .u8 32 b) ∧ Below w0.heap.size w0 w' := by
  refine enter (n := 23) (args := [.slice (some ⟨gd, 0, none⟩) 32 c]) Try.func33 rfl rfl (Nat.le_of_ble_eq_true rfl) fun ac hs => ?_
  refine wp_seq ?_
  refine wp_region_lit ?_
  refine lstep (wpO_plain rfl (op_alloc hs none none (cs := (tab .u8 32 (fun _ => 0))) rfl rfl Try.zeroValue32 (by kernel_rfl) rfl rfl fun g1 ac w hs => ?_))
  refine wpList_nil ?_
  refine then_n ?_
  refine wp_seq ?_
  refine wp_region_lit ?_
  refine lstep (wpO_plain rfl (op_build hs none (qs := []) (v := At .u8 32 (fun _ => 0)) rfl rfl rfl rfl (fun _ => by kernel_rfl) rfl fun ac hs => ?_))
  refine lstep (wpO_plain rfl (op_alloc hs none none (cs := (tab .u8 32 (fun _ => 0))) rfl rfl Try.zeroValue32 (by kernel_rfl) rfl rfl fun g2 ac w hs => ?_))
  refine lstep (wpO_plain rfl (op_store hs 1 (vs := (tab .u8 32 (fun _ => 0))) rfl rfl rfl rfl rfl Try.sizeOf32 (by kernel_rfl) tab_length' (tab_one _ _ _) tab_leA wr_tab fun w hs => ?_))
  refine wpList_nil ?_
  refine then_n ?_
  refine wp_seq ?_
  refine wp_seq ?_
  refine wp_region_lit ?_
  refine lstep (wpO_plain rfl (op_assign hs none rfl rfl rfl rfl fun ac hs => ?_))
  refine wpList_nil ?_
  refine then_n ?_
  refine wp_block ?_
  refine wp_loop_m (fun μ ac w => ∃ (i : Nat) (f : Nat → Nat), (32 - i) = μ ∧ (i ≤ 32) ∧ (∀ j, j < i → f j = b j) ∧ St 23 w0 [(0, true, .slice (some ⟨gd, 0, none⟩) 32 c), (2, true, .pointer (some ⟨g1, 0, none⟩)), (3, true, .pointer (some ⟨g2, 0, none⟩)), (4, true, .int .i64 ((i : Nat) : Int))] [(true, g1, 32, (tab .u8 32 (fun _ => 0))), (true, g2, 32, (tab .u8 32 f))] ac w) ?_ ?_
  · exact ⟨_, 0, (fun _ => 0), rfl, (by omega), (fun j hj => by omega), (hs.re ⟨rfl, rfl, rfl, rfl, trivial⟩)⟩
  intro μ ac w ⟨i, f, hμ, hi, hf, hs⟩
  refine wp_seq ?_
  refine wp_seq ?_
  by_cases hq3 : i < 32
  · skip
    refine wp_region_lit ?_
    refine lstep (wpO_plain rfl (op_move hs none rfl rfl rfl rfl fun ac hs => ?_))
    refine lstep (wpO_plain rfl (op_move hs none rfl rfl rfl rfl fun ac hs => ?_))
    refine lstep (wpO_plain rfl (op_blt hs none (v := .int .i64 32) rfl rfl rfl (blt_len Try.underlying50) rfl fun ac hs => ?_))
    refine lstep (wpO_plain rfl (op_bin hs none (v := .bool true) rfl rfl rfl rfl (fun _ => rfl) (fun w => dT hq3 (bin_lssN (x := i) (y := 32) w)) rfl fun ac hs => ?_))
    refine lstep (wpO_plain rfl (op_move hs none rfl rfl rfl rfl fun ac hs => ?_))
    refine lstep (wpO_in hs rfl rfl rfl (op_move hs none rfl rfl rfl rfl fun ac hs => ?_))
    refine lstep (wpO_in hs rfl rfl rfl (op_bin hs none (v := .bool true) rfl rfl rfl rfl (fun _ => rfl) (fun w => dT hq3 (bin_lssN (x := i) (y := 32) w)) rfl fun ac hs => ?_))
    refine lstep (wpO_plain rfl (op_pickT hs none rfl rfl rfl rfl rfl fun ac hs => ?_))
    refine wpList_nil ?_
    refine then_n ?_
    refine wp_cond_true (hs.ev rfl) ?_
    refine wp_skip ?_
    refine then_n ?_
    refine wp_seq ?_
    refine wp_block ?_
    refine wp_region_lit ?_
    refine lstep (wpO_plain rfl (op_move hs none rfl rfl rfl rfl fun ac hs => ?_))
    refine lstep (wpO_plain rfl (op_move hs none rfl rfl rfl rfl fun ac hs => ?_))
    refine lstep (wpO_plain rfl (op_move hs none rfl rfl rfl rfl fun ac hs => ?_))
    refine lstep (wpO_plain rfl (op_idxS hs none (j := i) rfl rfl rfl rfl Try.underlying50 Try.sizeOf5 (show i < 32 by omega) (off := i) (by omega) rfl fun ac hs => ?_))
    refine lstep (wpO_plain rfl (op_loadOld hs none (v := .int .u8 ((b i : Nat) : Int)) rfl rfl rfl Try.isAgg5 (hcell i (show i < 32 by omega)) rfl fun ac hs => ?_))
    refine lstep (wpO_plain rfl (op_idxA hs none (j := i) rfl rfl rfl rfl Try.underlying32 Try.sizeOf5 (show i < 32 by omega) (off := i) (by omega) rfl fun ac hs => ?_))
    refine lstep (wpO_plain rfl (op_store hs 1 (vs := [.int .u8 ((b i : Nat) : Int)]) rfl rfl rfl rfl rfl Try.sizeOf5 rfl rfl rfl (tab_le (j := i) (show i < 32 by omega)) (tab_set) fun w hs => ?_))
    refine wpList_nil ?_
    refine blk_n ?_
    refine then_n ?_
    refine wp_region_lit ?_
    refine lstep (wpO_plain rfl (op_move hs none rfl rfl rfl rfl fun ac hs => ?_))
    refine lstep (wpO_plain rfl (op_bin hs none (v := .int .i64 ((i + 1 : Nat) : Int)) rfl rfl rfl rfl (fun _ => rfl) (bin_addN (x := i) (y := 1) (z := i + 1) rfl (show i + 1 < 9223372036854775808 by omega)) rfl fun ac hs => ?_))
    refine lstep (wpO_plain rfl (op_assign hs none rfl rfl rfl rfl fun ac hs => ?_))
    refine wpList_nil ?_
    refine then_n ?_
    exact ⟨_, ⟨(i + 1), (upn f i (b i)), rfl, (by omega), (copy_step hf), (hs.re ⟨rfl, rfl, rfl, rfl, trivial⟩)⟩, (by omega)⟩
  · skip
    refine wp_region_lit ?_
    refine lstep (wpO_plain rfl (op_move hs none rfl rfl rfl rfl fun ac hs => ?_))
    refine lstep (wpO_plain rfl (op_move hs none rfl rfl rfl rfl fun ac hs => ?_))
    refine lstep (wpO_plain rfl (op_blt hs none (v := .int .i64 32) rfl rfl rfl (blt_len Try.underlying50) rfl fun ac hs => ?_))
    refine lstep (wpO_plain rfl (op_bin hs none (v := .bool false) rfl rfl rfl rfl (fun _ => rfl) (fun w => dF hq3 (bin_lssN (x := i) (y := 32) w)) rfl fun ac hs => ?_))
    refine lstep (wpO_plain rfl (op_move hs none rfl rfl rfl rfl fun ac hs => ?_))
    refine lstep (wpO_out hs none rfl rfl (.inl rfl) rfl rfl fun ac hs => ?_)
    refine lstep (wpO_out hs none rfl rfl (.inl rfl) rfl rfl fun ac hs => ?_)
    refine lstep (wpO_plain rfl (op_pickF hs none rfl rfl rfl rfl rfl fun ac hs => ?_))
    refine wpList_nil ?_
    obtain rfl : i = 32 := by omega
    replace hs := hs.setb 1 (cs' := tab .u8 32 b) rfl (tab_congr hf)
    refine then_n ?_
    refine wp_cond_false (hs.ev rfl) ?_
    refine wp_exit ?_
    refine then_e ?_
    refine then_e ?_
    refine blk_e ?_
    refine then_n ?_
    refine wp_seq ?_
    refine wp_region_lit ?_
    refine lstep (wpO_plain rfl (op_load hs none 1 (v := At .u8 32 b) rfl rfl rfl rfl Try.isAgg32 Try.sizeOf32 ldv_tab rfl fun ac hs => ?_))
    refine lstep (wpO_plain rfl (op_store hs 0 (vs := (tab .u8 32 b)) rfl rfl rfl rfl rfl Try.sizeOf32 (by kernel_rfl) tab_length' (tab_one _ _ _) tab_leA wr_tab fun w hs => ?_))
    refine wpList_nil ?_
    refine then_n ?_
    refine wp_ret ?_
    exact bodyPost_ret (res1 rfl (rv_c hs 0 (v := At .u8 32 b) rfl rfl Try.isAgg32 Try.sizeOf32 ldv_tab)) hs.defers ⟨rfl, hs.below⟩
theorem rexpand_c (b x : Nat) (hb : b < 4294967296) (hx : tgt b = x) (w0 : World) : Calls Try.prog 10 #[.int .u32 ((b : Nat) : Int)] w0 fun e w' => e = .returned (.tuple #[W x, .int .i64 ((ec x : Nat) : Int)]) ∧ Below w0.heap.size w0 w' := by
  refine enter (n := 73) (args := [.int .u32 ((b : Nat) : Int)]) Try.func10 rfl rfl (Nat.le_of_ble_eq_true rfl) fun ac hs => ?_
  refine wp_seq ?_
  refine wp_region_lit ?_
  refine lstep (wpO_plain rfl (op_alloc hs none none (cs := [.int .u64 0, .int .u64 0, .int .u64 0, .int .u64 0]) rfl rfl Try.zeroValue25 (by kernel_rfl) rfl rfl fun g1 ac w hs => ?_))
  refine lstep (wpO_plain rfl (op_assign hs none rfl rfl rfl rfl fun ac hs => ?_))
  refine wpList_nil ?_
  refine then_n ?_
  refine wp_seq ?_
  refine wp_region_lit ?_
  refine lstep (wpO_plain rfl (op_move hs none rfl rfl rfl rfl fun ac hs => ?_))
  refine lstep (wpO_plain rfl (op_bin hs none (v := .int .u32 ((b / 16777216 : Nat) : Int)) rfl rfl rfl rfl (fun _ => rfl) (bin_quoN (x := b) (y := 16777216) (z := b / 16777216) rfl (by decide) (show b < 4294967296 by omega)) rfl fun ac hs => ?_))
  refine lstep (wpO_plain rfl (op_convert hs none (v := .int .i64 ((b / 16777216 : Nat) : Int)) rfl rfl rfl (conv_N Try.underlying22 Try.underlying3 (show b / 16777216 < 9223372036854775808 by omega)) rfl fun ac hs => ?_))
  refine lstep (wpO_plain rfl (op_assign hs none rfl rfl rfl rfl fun ac hs => ?_))
  refine wpList_nil ?_
  refine then_n ?_
  refine wp_seq ?_
  refine wp_region_lit ?_
  refine lstep (wpO_plain rfl (op_move hs none rfl rfl rfl rfl fun ac hs => ?_))
  refine lstep (wpO_plain rfl (op_bin hs none (v := .int .u32 ((b / 65536 : Nat) : Int)) rfl rfl rfl rfl (fun _ => rfl) (bin_quoN (x := b) (y := 65536) (z := b / 65536) rfl (by decide) (show b < 4294967296 by omega)) rfl fun ac hs => ?_))
  refine lstep (wpO_plain rfl (op_bin hs none (v := .int .u32 (((b / 65536) % 128 : Nat) : Int)) rfl rfl rfl rfl (fun _ => rfl) (bin_remN (x := b / 65536) (y := 128) (z := (b / 65536) % 128) rfl (by decide)) rfl fun ac hs => ?_))
  refine lstep (wpO_plain rfl (op_convert hs none (v := .int .u8 ((mb b 0 : Nat) : Int)) rfl rfl rfl (conv_M (z := mb b 0) rfl Try.underlying22 Try.underlying5 (by show b / 65536 % 128 % 256 = b / 65536 % 128; omega)) rfl fun ac hs => ?_))
  refine lstep (wpO_plain rfl (op_move hs none rfl rfl rfl rfl fun ac hs => ?_))
  refine lstep (wpO_plain rfl (op_bin hs none (v := .int .u32 ((b / 256 : Nat) : Int)) rfl rfl rfl rfl (fun _ => rfl) (bin_quoN (x := b) (y := 256) (z := b / 256) rfl (by decide) (show b < 4294967296 by omega)) rfl fun ac hs => ?_))
  refine lstep (wpO_plain rfl (op_convert hs none (v := .int .u8 ((mb b 1 : Nat) : Int)) rfl rfl rfl (conv_M (z := mb b 1) rfl Try.underlying22 Try.underlying5 rfl) rfl fun ac hs => ?_))
  refine lstep (wpO_plain rfl (op_move hs none rfl rfl rfl rfl fun ac hs => ?_))
  refine lstep (wpO_plain rfl (op_convert hs none (v := .int .u8 ((mb b 2 : Nat) : Int)) rfl rfl rfl (conv_M (z := mb b 2) rfl Try.underlying22 Try.underlying5 rfl) rfl fun ac hs => ?_))
  refine lstep (wpO_plain rfl (op_buildSlice hs none none (l := 3) (qs := [(0, .int .u8 ((mb b 0 : Nat) : Int)), (1, .int .u8 ((mb b 1 : Nat) : Int)), (2, .int .u8 ((mb b 2 : Nat) : Int))]) (cs := [.int .u8 ((mb b 0 : Nat) : Int), .int .u8 ((mb b 1 : Nat) : Int), .int .u8 ((mb b 2 : Nat) : Int)]) rfl rfl rfl rfl (run_bsN Try.underlying50 inf_u8_5 (by decide) (by decide) (by simp [Instr.fill, Value.cells, show Array.range (3 * 1) = #[0, 1, 2] from Array.ext' (by simp [List.range_succ])])) rfl rfl fun g2 ac w hs => ?_))
  refine lstep (wpO_plain rfl (op_assign hs none rfl rfl rfl rfl fun ac hs => ?_))
  refine wpList_nil ?_
  refine then_n ?_
  refine wp_seq ?_
  refine wp_seq ?_
  refine wp_region_lit ?_
  refine lstep (wpO_plain rfl (op_move hs none rfl rfl rfl rfl fun ac hs => ?_))
  refine lstep (wpO_plain rfl (op_bin hs none (v := .int .u32 ((b / 8388608 : Nat) : Int)) rfl rfl rfl rfl (fun _ => rfl) (bin_quoN (x := b) (y := 8388608) (z := b / 8388608) rfl (by decide) (show b < 4294967296 by omega)) rfl fun ac hs => ?_))
  refine lstep (wpO_plain rfl (op_bin hs none (v := .int .u32 (((b / 8388608) % 2 : Nat) : Int)) rfl rfl rfl rfl (fun _ => rfl) (bin_remN (x := b / 8388608) (y := 2) (z := (b / 8388608) % 2) rfl (by decide)) rfl fun ac hs => ?_))
  refine lstep (wpO_plain rfl (op_bin hs none (v := .bool (decide ((b / 8388608) % 2 = 1))) rfl rfl rfl rfl (fun _ => rfl) (bin_eqlN (x := (b / 8388608) % 2) (y := 1)) rfl fun ac hs => ?_))
  refine wpList_nil ?_
  refine then_n ?_
  refine wp_cond_split (hs.ev rfl) (fun hc => ?_) (fun hc => ?_)
  · skip
    have hp3 := of_decide_eq_true hc
    refine wp_seq ?_
    refine wp_region_lit ?_
    refine lstep (wpO_plain rfl (op_build hs none (qs := []) (v := .agg #[.int .u64 0, .int .u64 0, .int .u64 0, .int .u64 0]) rfl rfl rfl rfl (fun _ => by kernel_rfl) rfl fun ac hs => ?_))
    refine lstep (wpO_plain rfl (op_store hs 0 (vs := [.int .u64 0, .int .u64 0, .int .u64 0, .int .u64 0]) rfl rfl rfl rfl rfl Try.sizeOf25 rfl rfl rfl rfl rfl fun w hs => ?_))
    refine lstep (wpO_plain rfl (op_assign hs none rfl rfl rfl rfl fun ac hs => ?_))
    refine wpList_nil ?_
    refine then_n ?_
    refine wp_ret ?_
    refine then_r ?_
    exact bodyPost_ret (res2 rfl (rv_c hs 0 (v := .agg #[.int .u64 0, .int .u64 0, .int .u64 0, .int .u64 0]) rfl rfl Try.isAgg25 Try.sizeOf25 rfl) (rv_t hs rfl)) hs.defers ⟨by rw [← hx, tgt_sign (b := b) (by omega)]; rfl, hs.below⟩
  · skip
    have hp4 := of_decide_eq_false hc
    refine wp_skip ?_
    refine then_n ?_
    refine wp_seq ?_
    refine wp_region_lit ?_
    refine lstep (wpO_plain rfl (op_build hs none (qs := []) (v := At .u8 32 (fun _ => 0)) rfl rfl rfl rfl (fun _ => by kernel_rfl) rfl fun ac hs => ?_))
    refine lstep (wpO_plain rfl (op_alloc hs none none (cs := (tab .u8 32 (fun _ => 0))) rfl rfl Try.zeroValue32 (by kernel_rfl) rfl rfl fun g5 ac w hs => ?_))
    refine lstep (wpO_plain rfl (op_store hs 2 (vs := (tab .u8 32 (fun _ => 0))) rfl rfl rfl rfl rfl Try.sizeOf32 (by kernel_rfl) tab_length' (tab_one _ _ _) tab_leA wr_tab fun w hs => ?_))
    refine wpList_nil ?_
    refine then_n ?_
    refine wp_seq ?_
    refine wp_region_lit ?_
    refine lstep (wpO_plain rfl (op_assign hs none rfl rfl rfl rfl fun ac hs => ?_))
    refine wpList_nil ?_
    refine then_n ?_
    refine wp_seq ?_
    refine wp_seq ?_
    refine wp_region_lit ?_
    refine lstep (wpO_plain rfl (op_assign hs none rfl rfl rfl rfl fun ac hs => ?_))
    refine wpList_nil ?_
    refine then_n ?_
    refine wp_block ?_
    refine wp_loop_m (fun μ ac w => (∃ (f : Nat → Nat) (y : Bool), 3 = μ ∧ (∀ j, j < 32 → f j = by8 (epx b 0) j) ∧ (decide (epx b 0 ≠ 0) = y) ∧ (epk b 0) ∧ St 73 w0 [(2, true, .pointer (some ⟨g1, 0, none⟩)), (3, true, .int .i64 0), (4, true, .int .i64 ((b / 16777216 : Nat) : Int)), (5, true, .slice (some ⟨g2, 0, none⟩) 3 3), (6, true, .pointer (some ⟨g5, 0, none⟩)), (7, true, .bool y), (8, true, .int .i64 0)] [(true, g1, 25, [.int .u64 0, .int .u64 0, .int .u64 0, .int .u64 0]), (true, g2, 5, [.int .u8 ((mb b 0 : Nat) : Int), .int .u8 ((mb b 1 : Nat) : Int), .int .u8 ((mb b 2 : Nat) : Int)]), (true, g5, 32, (tab .u8 32 f))] ac w) ∨ (∃ (f : Nat → Nat) (y : Bool), 2 = μ ∧ (∀ j, j < 32 → f j = by8 (epx b 1) j) ∧ (decide (epx b 1 ≠ 0) = y) ∧ (epk b 1) ∧ St 73 w0 [(2, true, .pointer (some ⟨g1, 0, none⟩)), (3, true, .int .i64 0), (4, true, .int .i64 ((b / 16777216 : Nat) : Int)), (5, true, .slice (some ⟨g2, 0, none⟩) 3 3), (6, true, .pointer (some ⟨g5, 0, none⟩)), (7, true, .bool y), (8, true, .int .i64 1)] [(true, g1, 25, [.int .u64 0, .int .u64 0, .int .u64 0, .int .u64 0]), (true, g2, 5, [.int .u8 ((mb b 0 : Nat) : Int), .int .u8 ((mb b 1 : Nat) : Int), .int .u8 ((mb b 2 : Nat) : Int)]), (true, g5, 32, (tab .u8 32 f))] ac w) ∨ (∃ (f : Nat → Nat) (y : Bool), 1 = μ ∧ (∀ j, j < 32 → f j = by8 (epx b 2) j) ∧ (decide (epx b 2 ≠ 0) = y) ∧ (epk b 2) ∧ St 73 w0 [(2, true, .pointer (some ⟨g1, 0, none⟩)), (3, true, .int .i64 0), (4, true, .int .i64 ((b / 16777216 : Nat) : Int)), (5, true, .slice (some ⟨g2, 0, none⟩) 3 3), (6, true, .pointer (some ⟨g5, 0, none⟩)), (7, true, .bool y), (8, true, .int .i64 2)] [(true, g1, 25, [.int .u64 0, .int .u64 0, .int .u64 0, .int .u64 0]), (true, g2, 5, [.int .u8 ((mb b 0 : Nat) : Int), .int .u8 ((mb b 1 : Nat) : Int), .int .u8 ((mb b 2 : Nat) : Int)]), (true, g5, 32, (tab .u8 32 f))] ac w) ∨ (∃ (f : Nat → Nat) (y : Bool), 0 = μ ∧ (∀ j, j < 32 → f j = by8 (epx b 3) j) ∧ (decide (epx b 3 ≠ 0) = y) ∧ (epk b 3) ∧ St 73 w0 [(2, true, .pointer (some ⟨g1, 0, none⟩)), (3, true, .int .i64 0), (4, true, .int .i64 ((b / 16777216 : Nat) : Int)), (5, true, .slice (some ⟨g2, 0, none⟩) 3 3), (6, true, .pointer (some ⟨g5, 0, none⟩)), (7, true, .bool y), (8, true, .int .i64 3)] [(true, g1, 25, [.int .u64 0, .int .u64 0, .int .u64 0, .int .u64 0]), (true, g2, 5, [.int .u8 ((mb b 0 : Nat) : Int), .int .u8 ((mb b 1 : Nat) : Int), .int .u8 ((mb b 2 : Nat) : Int)]), (true, g5, 32, (tab .u8 32 f))] ac w)) ?_ ?_
    · exact ⟨_, .inl ⟨(fun _ => 0), false, rfl, (fun j _ => by simp [by8, epx]), (by simp [epx]), (epk_zero b), (hs.re ⟨rfl, rfl, rfl, rfl, rfl, rfl, rfl, trivial⟩)⟩⟩
    intro μ ac w hJ
    rcases hJ with hJ | hJ | hJ | hJ
    · obtain ⟨f, y, rfl, hf, hy, hk, hs⟩ := hJ
      refine wp_seq ?_
      refine wp_seq ?_
      refine wp_region_lit ?_
      refine lstep (wpO_plain rfl (op_move hs none rfl rfl rfl rfl fun ac hs => ?_))
      refine lstep (wpO_plain rfl (op_bin hs none (v := .bool true) rfl rfl rfl rfl (fun _ => rfl) (fun _ => by kernel_rfl) rfl fun ac hs => ?_))
      refine wpList_nil ?_
      refine then_n ?_
      refine wp_cond_true (hs.ev rfl) ?_
      refine wp_skip ?_
      refine then_n ?_
      refine wp_seq ?_
      refine wp_block ?_
      refine wp_seq ?_
      refine wp_region_lit ?_
      refine lstep (wpO_plain rfl (op_move hs none rfl rfl rfl rfl fun ac hs => ?_))
      refine lstep (wpO_plain rfl (op_bin hs none (v := .int .i64 (((b / 16777216 : Nat) : Int) - 1)) rfl rfl rfl rfl (fun _ => rfl) (bin_subI (x := ((b / 16777216 : Nat) : Int)) (y := 1) (by omega) (by omega)) rfl fun ac hs => ?_))
      refine lstep (wpO_plain rfl (op_move hs none rfl rfl rfl rfl fun ac hs => ?_))
      refine lstep (wpO_plain rfl (op_bin hs none (v := .int .i64 (((b / 16777216 : Nat) : Int) - 1 - 0)) rfl rfl rfl rfl (fun _ => rfl) (bin_subI (x := ((b / 16777216 : Nat) : Int) - 1) (y := 0) (by omega) (by omega)) rfl fun ac hs => ?_))
      refine lstep (wpO_plain rfl (op_assign hs none rfl rfl rfl rfl fun ac hs => ?_))
      refine wpList_nil ?_
      refine then_n ?_
      refine wp_seq ?_
      refine wp_seq ?_
      by_cases hq6 : 32 ≤ ((b / 16777216 : Nat) : Int) - 1 - 0
      · skip
        refine wp_region_lit ?_
        refine lstep (wpO_plain rfl (op_move hs none rfl rfl rfl rfl fun ac hs => ?_))
        refine lstep (wpO_plain rfl (op_bin hs none (v := .bool true) rfl rfl rfl rfl (fun _ => rfl) (fun w => dT hq6 (bin_geqI (x := ((b / 16777216 : Nat) : Int) - 1 - 0) (y := 32) w)) rfl fun ac hs => ?_))
        refine lstep (wpO_plain rfl (op_move hs none rfl rfl rfl rfl fun ac hs => ?_))
        refine lstep (wpO_in hs rfl rfl rfl (op_move hs none rfl rfl rfl rfl fun ac hs => ?_))
        refine lstep (wpO_in hs rfl rfl rfl (op_move hs none rfl rfl rfl rfl fun ac hs => ?_))
        refine lstep (wpO_in hs rfl rfl rfl (op_idxS hs none (j := 0) rfl rfl rfl rfl Try.underlying50 Try.sizeOf5 (by decide) (off := 0) rfl rfl fun ac hs => ?_))
        refine lstep (wpO_in hs rfl rfl rfl (op_load hs none 1 (v := .int .u8 ((mb b 0 : Nat) : Int)) rfl rfl rfl rfl Try.isAgg5 Try.sizeOf5 rfl rfl fun ac hs => ?_))
        refine lstep (wpO_in hs rfl rfl rfl (op_bin hs none (v := .bool (decide (mb b 0 ≠ 0))) rfl rfl rfl rfl (fun _ => rfl) (bin_neqN (x := mb b 0) (y := 0)) rfl fun ac hs => ?_))
        refine lstep (wpO_plain rfl (op_pickT hs none rfl rfl rfl rfl rfl fun ac hs => ?_))
        refine wpList_nil ?_
        refine then_n ?_
        refine wp_cond_split (hs.ev rfl) (fun hc => ?_) (fun hc => ?_)
        · skip
          have hp7 := of_decide_eq_true hc
          refine wp_seq ?_
          refine wp_region_lit ?_
          refine lstep (wpO_plain rfl (op_build hs none (qs := []) (v := .agg #[.int .u64 0, .int .u64 0, .int .u64 0, .int .u64 0]) rfl rfl rfl rfl (fun _ => by kernel_rfl) rfl fun ac hs => ?_))
          refine lstep (wpO_plain rfl (op_store hs 0 (vs := [.int .u64 0, .int .u64 0, .int .u64 0, .int .u64 0]) rfl rfl rfl rfl rfl Try.sizeOf25 rfl rfl rfl rfl rfl fun w hs => ?_))
          refine lstep (wpO_plain rfl (op_assign hs none rfl rfl rfl rfl fun ac hs => ?_))
          refine wpList_nil ?_
          refine then_n ?_
          refine wp_ret ?_
          refine then_r ?_
          refine blk_r ?_
          refine then_r ?_
          refine then_r ?_
          refine blk_r ?_
          refine then_r ?_
          exact bodyPost_ret (res2 rfl (rv_c hs 0 (v := .agg #[.int .u64 0, .int .u64 0, .int .u64 0, .int .u64 0]) rfl rfl Try.isAgg25 Try.sizeOf25 rfl) (rv_t hs rfl)) hs.defers ⟨by rw [← hx, tgt_over (t := 0) hp4 (by omega) (by omega) hp7]; rfl, hs.below⟩
        · skip
          have hp8 := of_decide_eq_false hc
          refine wp_skip ?_
          refine then_n ?_
          refine wp_seq ?_
          by_cases hq9 : 0 ≤ ((b / 16777216 : Nat) : Int) - 1 - 0
          · skip
            refine wp_region_lit ?_
            refine lstep (wpO_plain rfl (op_move hs none rfl rfl rfl rfl fun ac hs => ?_))
            refine lstep (wpO_plain rfl (op_bin hs none (v := .bool true) rfl rfl rfl rfl (fun _ => rfl) (fun w => dT hq9 (bin_geqI (x := ((b / 16777216 : Nat) : Int) - 1 - 0) (y := 0) w)) rfl fun ac hs => ?_))
            refine lstep (wpO_plain rfl (op_move hs none rfl rfl rfl rfl fun ac hs => ?_))
            refine lstep (wpO_in hs rfl rfl rfl (op_move hs none rfl rfl rfl rfl fun ac hs => ?_))
            refine lstep (wpO_in hs rfl rfl rfl (op_bin hs none (v := .bool false) rfl rfl rfl rfl (fun _ => rfl) (fun w => dF (by omega) (bin_lssI (x := ((b / 16777216 : Nat) : Int) - 1 - 0) (y := 32) w)) rfl fun ac hs => ?_))
            refine lstep (wpO_plain rfl (op_pickT hs none rfl rfl rfl rfl rfl fun ac hs => ?_))
            refine wpList_nil ?_
            refine then_n ?_
            refine wp_cond_false (hs.ev rfl) ?_
            refine wp_skip ?_
            refine blk_n ?_
            refine then_n ?_
            refine wp_region_lit ?_
            refine lstep (wpO_plain rfl (op_move hs none rfl rfl rfl rfl fun ac hs => ?_))
            refine lstep (wpO_plain rfl (op_bin hs none (v := .int .i64 1) rfl rfl rfl rfl (fun _ => rfl) (fun _ => by kernel_rfl) rfl fun ac hs => ?_))
            refine lstep (wpO_plain rfl (op_assign hs none rfl rfl rfl rfl fun ac hs => ?_))
            refine wpList_nil ?_
            refine then_n ?_
            exact ⟨_, .inr (.inl ⟨f, y, rfl, (epx_not (by omega) hf), ((any_not (by omega)).trans hy), (epk_step hk (.inr (Classical.not_not.1 hp8))), (hs.re ⟨rfl, rfl, rfl, rfl, rfl, rfl, rfl, trivial⟩)⟩), by omega⟩
          · skip
            refine wp_region_lit ?_
            refine lstep (wpO_plain rfl (op_move hs none rfl rfl rfl rfl fun ac hs => ?_))
            refine lstep (wpO_plain rfl (op_bin hs none (v := .bool false) rfl rfl rfl rfl (fun _ => rfl) (fun w => dF hq9 (bin_geqI (x := ((b / 16777216 : Nat) : Int) - 1 - 0) (y := 0) w)) rfl fun ac hs => ?_))
            refine lstep (wpO_plain rfl (op_move hs none rfl rfl rfl rfl fun ac hs => ?_))
            refine lstep (wpO_out hs none rfl rfl (.inl rfl) rfl rfl fun ac hs => ?_)
            refine lstep (wpO_out hs none rfl rfl (.inl rfl) rfl rfl fun ac hs => ?_)
            refine lstep (wpO_plain rfl (op_pickF hs none rfl rfl rfl rfl rfl fun ac hs => ?_))
            refine wpList_nil ?_
            refine then_n ?_
            refine wp_cond_false (hs.ev rfl) ?_
            refine wp_skip ?_
            refine blk_n ?_
            refine then_n ?_
            refine wp_region_lit ?_
            refine lstep (wpO_plain rfl (op_move hs none rfl rfl rfl rfl fun ac hs => ?_))
            refine lstep (wpO_plain rfl (op_bin hs none (v := .int .i64 1) rfl rfl rfl rfl (fun _ => rfl) (fun _ => by kernel_rfl) rfl fun ac hs => ?_))
            refine lstep (wpO_plain rfl (op_assign hs none rfl rfl rfl rfl fun ac hs => ?_))
            refine wpList_nil ?_
            refine then_n ?_
            exact ⟨_, .inr (.inl ⟨f, y, rfl, (epx_not (by omega) hf), ((any_not (by omega)).trans hy), (epk_step hk (.inr (Classical.not_not.1 hp8))), (hs.re ⟨rfl, rfl, rfl, rfl, rfl, rfl, rfl, trivial⟩)⟩), by omega⟩
      · skip
        refine wp_region_lit ?_
        refine lstep (wpO_plain rfl (op_move hs none rfl rfl rfl rfl fun ac hs => ?_))
        refine lstep (wpO_plain rfl (op_bin hs none (v := .bool false) rfl rfl rfl rfl (fun _ => rfl) (fun w => dF hq6 (bin_geqI (x := ((b / 16777216 : Nat) : Int) - 1 - 0) (y := 32) w)) rfl fun ac hs => ?_))
        refine lstep (wpO_plain rfl (op_move hs none rfl rfl rfl rfl fun ac hs => ?_))
        refine lstep (wpO_out hs none rfl rfl (.inl rfl) rfl rfl fun ac hs => ?_)
        refine lstep (wpO_out hs none rfl rfl (.inl rfl) rfl rfl fun ac hs => ?_)
        refine lstep (wpO_out hs none rfl rfl (.inl rfl) rfl rfl fun ac hs => ?_)
        refine lstep (wpO_out hs none rfl rfl (.inl rfl) rfl rfl fun ac hs => ?_)
        refine lstep (wpO_out hs none rfl rfl (.inl rfl) rfl rfl fun ac hs => ?_)
        refine lstep (wpO_plain rfl (op_pickF hs none rfl rfl rfl rfl rfl fun ac hs => ?_))
        refine wpList_nil ?_
        refine then_n ?_
        refine wp_cond_false (hs.ev rfl) ?_
        refine wp_skip ?_
        refine then_n ?_
        refine wp_seq ?_
        by_cases hq10 : 0 ≤ ((b / 16777216 : Nat) : Int) - 1 - 0
        · skip
          refine wp_region_lit ?_
          refine lstep (wpO_plain rfl (op_move hs none rfl rfl rfl rfl fun ac hs => ?_))
          refine lstep (wpO_plain rfl (op_bin hs none (v := .bool true) rfl rfl rfl rfl (fun _ => rfl) (fun w => dT hq10 (bin_geqI (x := ((b / 16777216 : Nat) : Int) - 1 - 0) (y := 0) w)) rfl fun ac hs => ?_))
          refine lstep (wpO_plain rfl (op_move hs none rfl rfl rfl rfl fun ac hs => ?_))
          refine lstep (wpO_in hs rfl rfl rfl (op_move hs none rfl rfl rfl rfl fun ac hs => ?_))
          refine lstep (wpO_in hs rfl rfl rfl (op_bin hs none (v := .bool true) rfl rfl rfl rfl (fun _ => rfl) (fun w => dT (by omega) (bin_lssI (x := ((b / 16777216 : Nat) : Int) - 1 - 0) (y := 32) w)) rfl fun ac hs => ?_))
          refine lstep (wpO_plain rfl (op_pickT hs none rfl rfl rfl rfl rfl fun ac hs => ?_))
          refine wpList_nil ?_
          obtain ⟨p, hpl⟩ : ∃ p : Nat, p = b / 16777216 - 1 - 0 := ⟨_, rfl⟩
          replace hs := hs.re (fs' := [(2, true, .pointer (some ⟨g1, 0, none⟩)), (3, true, .int .i64 0), (4, true, .int .i64 ((b / 16777216 : Nat) : Int)), (5, true, .slice (some ⟨g2, 0, none⟩) 3 3), (6, true, .pointer (some ⟨g5, 0, none⟩)), (7, true, .bool y), (8, true, .int .i64 0), (29, true, .int .i64 0), (30, true, .bool true), (33, true, .int .i64 ((b / 16777216 : Nat) : Int)), (34, true, .int .i64 (((b / 16777216 : Nat) : Int) - 1)), (35, true, .int .i64 0), (36, true, .int .i64 (((b / 16777216 : Nat) : Int) - 1 - 0)), (9, true, .int .i64 ((p : Nat) : Int)), (37, true, .int .i64 (((b / 16777216 : Nat) : Int) - 1 - 0)), (38, true, .bool false), (39, true, .bool false), (45, true, .bool false), (47, true, .int .i64 (((b / 16777216 : Nat) : Int) - 1 - 0)), (48, true, .bool true), (49, true, .bool true), (50, true, .int .i64 (((b / 16777216 : Nat) : Int) - 1 - 0)), (51, true, .bool true), (52, true, .bool true)]) ⟨rfl, rfl, rfl, rfl, rfl, rfl, rfl, rfl, rfl, rfl, rfl, rfl, rfl, congrArg some (show Value.int .i64 (((b / 16777216 : Nat) : Int) - 1 - 0) = .int .i64 (p : Int) by rw [show ((b / 16777216 : Nat) : Int) - 1 - 0 = (p : Int) by omega]), rfl, rfl, rfl, rfl, rfl, rfl, rfl, rfl, rfl, rfl, trivial⟩
          refine then_n ?_
          refine wp_cond_true (hs.ev rfl) ?_
          refine wp_seq ?_
          refine wp_region_lit ?_
          refine lstep (wpO_plain rfl (op_move hs none rfl rfl rfl rfl fun ac hs => ?_))
          refine lstep (wpO_plain rfl (op_bin hs none (v := .int .i64 ((31 - p : Nat) : Int)) rfl rfl rfl rfl (fun _ => rfl) (bin_subN (x := 31) (y := p) (z := 31 - p) (by omega) (show 31 - p < 9223372036854775808 by omega)) rfl fun ac hs => ?_))
          refine lstep (wpO_plain rfl (op_move hs none rfl rfl rfl rfl fun ac hs => ?_))
          refine lstep (wpO_plain rfl (op_move hs none rfl rfl rfl rfl fun ac hs => ?_))
          refine lstep (wpO_plain rfl (op_idxS hs none (j := 0) rfl rfl rfl rfl Try.underlying50 Try.sizeOf5 (by decide) (off := 0) rfl rfl fun ac hs => ?_))
          refine lstep (wpO_plain rfl (op_load hs none 1 (v := .int .u8 ((mb b 0 : Nat) : Int)) rfl rfl rfl rfl Try.isAgg5 Try.sizeOf5 rfl rfl fun ac hs => ?_))
          refine lstep (wpO_plain rfl (op_idxA hs none (j := 31 - p) rfl rfl rfl rfl Try.underlying32 Try.sizeOf5 (show 31 - p < 32 by omega) (off := 31 - p) (by omega) rfl fun ac hs => ?_))
          refine lstep (wpO_plain rfl (op_store hs 2 (vs := [.int .u8 ((mb b 0 : Nat) : Int)]) rfl rfl rfl rfl rfl Try.sizeOf5 rfl rfl rfl (tab_le (j := 31 - p) (show 31 - p < 32 by omega)) (tab_set) fun w hs => ?_))
          refine wpList_nil ?_
          refine then_n ?_
          by_cases hq11 : y = true
          · skip
            have hyy : y = true := hq11
            replace hs := hs.re (fs' := [(2, true, .pointer (some ⟨g1, 0, none⟩)), (3, true, .int .i64 0), (4, true, .int .i64 ((b / 16777216 : Nat) : Int)), (5, true, .slice (some ⟨g2, 0, none⟩) 3 3), (6, true, .pointer (some ⟨g5, 0, none⟩)), (7, true, .bool true), (8, true, .int .i64 0), (29, true, .int .i64 0), (30, true, .bool true), (33, true, .int .i64 ((b / 16777216 : Nat) : Int)), (34, true, .int .i64 (((b / 16777216 : Nat) : Int) - 1)), (35, true, .int .i64 0), (36, true, .int .i64 (((b / 16777216 : Nat) : Int) - 1 - 0)), (9, true, .int .i64 ((p : Nat) : Int)), (37, true, .int .i64 (((b / 16777216 : Nat) : Int) - 1 - 0)), (38, true, .bool false), (39, true, .bool false), (45, true, .bool false), (47, true, .int .i64 (((b / 16777216 : Nat) : Int) - 1 - 0)), (48, true, .bool true), (49, true, .bool true), (50, true, .int .i64 (((b / 16777216 : Nat) : Int) - 1 - 0)), (51, true, .bool true), (52, true, .bool true), (53, true, .int .i64 ((p : Nat) : Int)), (54, true, .int .i64 ((31 - p : Nat) : Int)), (55, true, .slice (some ⟨g2, 0, none⟩) 3 3), (56, true, .int .i64 0), (57, true, .pointer (some ⟨g2, 0, none⟩)), (58, true, .int .u8 ((mb b 0 : Nat) : Int)), (59, true, .pointer (some ⟨g5, 31 - p, none⟩))]) ⟨rfl, rfl, rfl, rfl, rfl, congrArg some (by rw [hyy]), rfl, rfl, rfl, rfl, rfl, rfl, rfl, rfl, rfl, rfl, rfl, rfl, rfl, rfl, rfl, rfl, rfl, rfl, rfl, rfl, rfl, rfl, rfl, rfl, rfl, trivial⟩
            refine wp_region_lit ?_
            refine lstep (wpO_plain rfl (op_move hs none rfl rfl rfl rfl fun ac hs => ?_))
            refine lstep (wpO_plain rfl (op_move hs none rfl rfl rfl rfl fun ac hs => ?_))
            refine lstep (wpO_out hs none rfl rfl (.inl rfl) rfl rfl fun ac hs => ?_)
            refine lstep (wpO_out hs none rfl rfl (.inl rfl) rfl rfl fun ac hs => ?_)
            refine lstep (wpO_out hs none rfl rfl (.inl rfl) rfl rfl fun ac hs => ?_)
            refine lstep (wpO_out hs none rfl rfl (.inl rfl) rfl rfl fun ac hs => ?_)
            refine lstep (wpO_out hs none rfl rfl (.inl rfl) rfl rfl fun ac hs => ?_)
            refine lstep (wpO_plain rfl (op_pickT hs none rfl rfl rfl rfl rfl fun ac hs => ?_))
            refine lstep (wpO_plain rfl (op_assign hs none rfl rfl rfl rfl fun ac hs => ?_))
            refine wpList_nil ?_
            refine blk_n ?_
            refine then_n ?_
            refine wp_region_lit ?_
            refine lstep (wpO_plain rfl (op_move hs none rfl rfl rfl rfl fun ac hs => ?_))
            refine lstep (wpO_plain rfl (op_bin hs none (v := .int .i64 1) rfl rfl rfl rfl (fun _ => rfl) (fun _ => by kernel_rfl) rfl fun ac hs => ?_))
            refine lstep (wpO_plain rfl (op_assign hs none rfl rfl rfl rfl fun ac hs => ?_))
            refine wpList_nil ?_
            refine then_n ?_
            exact ⟨_, .inr (.inl ⟨(upn f (31 - p) (mb b 0)), true, rfl, (epx_put (by omega) (by omega) (by omega) hpl hf), ((any_put (by omega) (by omega)).trans (by rw [hy]; rw [hyy]; simp)), (epk_step hk (.inl (by omega))), (hs.re ⟨rfl, rfl, rfl, rfl, rfl, rfl, rfl, trivial⟩)⟩), by omega⟩
          · skip
            have hyy : y = false := Bool.eq_false_iff.2 hq11
            replace hs := hs.re (fs' := [(2, true, .pointer (some ⟨g1, 0, none⟩)), (3, true, .int .i64 0), (4, true, .int .i64 ((b / 16777216 : Nat) : Int)), (5, true, .slice (some ⟨g2, 0, none⟩) 3 3), (6, true, .pointer (some ⟨g5, 0, none⟩)), (7, true, .bool false), (8, true, .int .i64 0), (29, true, .int .i64 0), (30, true, .bool true), (33, true, .int .i64 ((b / 16777216 : Nat) : Int)), (34, true, .int .i64 (((b / 16777216 : Nat) : Int) - 1)), (35, true, .int .i64 0), (36, true, .int .i64 (((b / 16777216 : Nat) : Int) - 1 - 0)), (9, true, .int .i64 ((p : Nat) : Int)), (37, true, .int .i64 (((b / 16777216 : Nat) : Int) - 1 - 0)), (38, true, .bool false), (39, true, .bool false), (45, true, .bool false), (47, true, .int .i64 (((b / 16777216 : Nat) : Int) - 1 - 0)), (48, true, .bool true), (49, true, .bool true), (50, true, .int .i64 (((b / 16777216 : Nat) : Int) - 1 - 0)), (51, true, .bool true), (52, true, .bool true), (53, true, .int .i64 ((p : Nat) : Int)), (54, true, .int .i64 ((31 - p : Nat) : Int)), (55, true, .slice (some ⟨g2, 0, none⟩) 3 3), (56, true, .int .i64 0), (57, true, .pointer (some ⟨g2, 0, none⟩)), (58, true, .int .u8 ((mb b 0 : Nat) : Int)), (59, true, .pointer (some ⟨g5, 31 - p, none⟩))]) ⟨rfl, rfl, rfl, rfl, rfl, congrArg some (by rw [hyy]), rfl, rfl, rfl, rfl, rfl, rfl, rfl, rfl, rfl, rfl, rfl, rfl, rfl, rfl, rfl, rfl, rfl, rfl, rfl, rfl, rfl, rfl, rfl, rfl, rfl, trivial⟩
            refine wp_region_lit ?_
            refine lstep (wpO_plain rfl (op_move hs none rfl rfl rfl rfl fun ac hs => ?_))
            refine lstep (wpO_plain rfl (op_move hs none rfl rfl rfl rfl fun ac hs => ?_))
            refine lstep (wpO_in hs rfl rfl rfl (op_move hs none rfl rfl rfl rfl fun ac hs => ?_))
            refine lstep (wpO_in hs rfl rfl rfl (op_move hs none rfl rfl rfl rfl fun ac hs => ?_))
            refine lstep (wpO_in hs rfl rfl rfl (op_idxS hs none (j := 0) rfl rfl rfl rfl Try.underlying50 Try.sizeOf5 (by decide) (off := 0) rfl rfl fun ac hs => ?_))
            refine lstep (wpO_in hs rfl rfl rfl (op_load hs none 1 (v := .int .u8 ((mb b 0 : Nat) : Int)) rfl rfl rfl rfl Try.isAgg5 Try.sizeOf5 rfl rfl fun ac hs => ?_))
            refine lstep (wpO_in hs rfl rfl rfl (op_bin hs none (v := .bool (decide (mb b 0 ≠ 0))) rfl rfl rfl rfl (fun _ => rfl) (bin_neqN (x := mb b 0) (y := 0)) rfl fun ac hs => ?_))
            refine lstep (wpO_plain rfl (op_pickF hs none rfl rfl rfl rfl rfl fun ac hs => ?_))
            refine lstep (wpO_plain rfl (op_assign hs none rfl rfl rfl rfl fun ac hs => ?_))
            refine wpList_nil ?_
            refine blk_n ?_
            refine then_n ?_
            refine wp_region_lit ?_
            refine lstep (wpO_plain rfl (op_move hs none rfl rfl rfl rfl fun ac hs => ?_))
            refine lstep (wpO_plain rfl (op_bin hs none (v := .int .i64 1) rfl rfl rfl rfl (fun _ => rfl) (fun _ => by kernel_rfl) rfl fun ac hs => ?_))
            refine lstep (wpO_plain rfl (op_assign hs none rfl rfl rfl rfl fun ac hs => ?_))
            refine wpList_nil ?_
            refine then_n ?_
            exact ⟨_, .inr (.inl ⟨(upn f (31 - p) (mb b 0)), (decide (mb b 0 ≠ 0)), rfl, (epx_put (by omega) (by omega) (by omega) hpl hf), ((any_put (by omega) (by omega)).trans (by rw [hy]; rw [hyy]; simp)), (epk_step hk (.inl (by omega))), (hs.re ⟨rfl, rfl, rfl, rfl, rfl, rfl, rfl, trivial⟩)⟩), by omega⟩
        · skip
          refine wp_region_lit ?_
          refine lstep (wpO_plain rfl (op_move hs none rfl rfl rfl rfl fun ac hs => ?_))
          refine lstep (wpO_plain rfl (op_bin hs none (v := .bool false) rfl rfl rfl rfl (fun _ => rfl) (fun w => dF hq10 (bin_geqI (x := ((b / 16777216 : Nat) : Int) - 1 - 0) (y := 0) w)) rfl fun ac hs => ?_))
          refine lstep (wpO_plain rfl (op_move hs none rfl rfl rfl rfl fun ac hs => ?_))
          refine lstep (wpO_out hs none rfl rfl (.inl rfl) rfl rfl fun ac hs => ?_)
          refine lstep (wpO_out hs none rfl rfl (.inl rfl) rfl rfl fun ac hs => ?_)
          refine lstep (wpO_plain rfl (op_pickF hs none rfl rfl rfl rfl rfl fun ac hs => ?_))
          refine wpList_nil ?_
          refine then_n ?_
          refine wp_cond_false (hs.ev rfl) ?_
          refine wp_skip ?_
          refine blk_n ?_
          refine then_n ?_
          refine wp_region_lit ?_
          refine lstep (wpO_plain rfl (op_move hs none rfl rfl rfl rfl fun ac hs => ?_))
          refine lstep (wpO_plain rfl (op_bin hs none (v := .int .i64 1) rfl rfl rfl rfl (fun _ => rfl) (fun _ => by kernel_rfl) rfl fun ac hs => ?_))
          refine lstep (wpO_plain rfl (op_assign hs none rfl rfl rfl rfl fun ac hs => ?_))
          refine wpList_nil ?_
          refine then_n ?_
          exact ⟨_, .inr (.inl ⟨f, y, rfl, (epx_not (by omega) hf), ((any_not (by omega)).trans hy), (epk_step hk (.inl (by omega))), (hs.re ⟨rfl, rfl, rfl, rfl, rfl, rfl, rfl, trivial⟩)⟩), by omega⟩
    · obtain ⟨f, y, rfl, hf, hy, hk, hs⟩ := hJ
      refine wp_seq ?_
      refine wp_seq ?_
      refine wp_region_lit ?_
      refine lstep (wpO_plain rfl (op_move hs none rfl rfl rfl rfl fun ac hs => ?_))
      refine lstep (wpO_plain rfl (op_bin hs none (v := .bool true) rfl rfl rfl rfl (fun _ => rfl) (fun _ => by kernel_rfl) rfl fun ac hs => ?_))
      refine wpList_nil ?_
      refine then_n ?_
      refine wp_cond_true (hs.ev rfl) ?_
      refine wp_skip ?_
      refine then_n ?_
      refine wp_seq ?_
      refine wp_block ?_
      refine wp_seq ?_
      refine wp_region_lit ?_
      refine lstep (wpO_plain rfl (op_move hs none rfl rfl rfl rfl fun ac hs => ?_))
      refine lstep (wpO_plain rfl (op_bin hs none (v := .int .i64 (((b / 16777216 : Nat) : Int) - 1)) rfl rfl rfl rfl (fun _ => rfl) (bin_subI (x := ((b / 16777216 : Nat) : Int)) (y := 1) (by omega) (by omega)) rfl fun ac hs => ?_))
      refine lstep (wpO_plain rfl (op_move hs none rfl rfl rfl rfl fun ac hs => ?_))
      refine lstep (wpO_plain rfl (op_bin hs none (v := .int .i64 (((b / 16777216 : Nat) : Int) - 1 - 1)) rfl rfl rfl rfl (fun _ => rfl) (bin_subI (x := ((b / 16777216 : Nat) : Int) - 1) (y := 1) (by omega) (by omega)) rfl fun ac hs => ?_))
      refine lstep (wpO_plain rfl (op_assign hs none rfl rfl rfl rfl fun ac hs => ?_))
      refine wpList_nil ?_
      refine then_n ?_
      refine wp_seq ?_
      refine wp_seq ?_
      by_cases hq12 : 32 ≤ ((b / 16777216 : Nat) : Int) - 1 - 1
      · skip
        refine wp_region_lit ?_
        refine lstep (wpO_plain rfl (op_move hs none rfl rfl rfl rfl fun ac hs => ?_))
        refine lstep (wpO_plain rfl (op_bin hs none (v := .bool true) rfl rfl rfl rfl (fun _ => rfl) (fun w => dT hq12 (bin_geqI (x := ((b / 16777216 : Nat) : Int) - 1 - 1) (y := 32) w)) rfl fun ac hs => ?_))
        refine lstep (wpO_plain rfl (op_move hs none rfl rfl rfl rfl fun ac hs => ?_))
        refine lstep (wpO_in hs rfl rfl rfl (op_move hs none rfl rfl rfl rfl fun ac hs => ?_))
        refine lstep (wpO_in hs rfl rfl rfl (op_move hs none rfl rfl rfl rfl fun ac hs => ?_))
        refine lstep (wpO_in hs rfl rfl rfl (op_idxS hs none (j := 1) rfl rfl rfl rfl Try.underlying50 Try.sizeOf5 (by decide) (off := 1) rfl rfl fun ac hs => ?_))
        refine lstep (wpO_in hs rfl rfl rfl (op_load hs none 1 (v := .int .u8 ((mb b 1 : Nat) : Int)) rfl rfl rfl rfl Try.isAgg5 Try.sizeOf5 rfl rfl fun ac hs => ?_))
        refine lstep (wpO_in hs rfl rfl rfl (op_bin hs none (v := .bool (decide (mb b 1 ≠ 0))) rfl rfl rfl rfl (fun _ => rfl) (bin_neqN (x := mb b 1) (y := 0)) rfl fun ac hs => ?_))
        refine lstep (wpO_plain rfl (op_pickT hs none rfl rfl rfl rfl rfl fun ac hs => ?_))
        refine wpList_nil ?_
        refine then_n ?_
        refine wp_cond_split (hs.ev rfl) (fun hc => ?_) (fun hc => ?_)
        · skip
          have hp13 := of_decide_eq_true hc
          refine wp_seq ?_
          refine wp_region_lit ?_
          refine lstep (wpO_plain rfl (op_build hs none (qs := []) (v := .agg #[.int .u64 0, .int .u64 0, .int .u64 0, .int .u64 0]) rfl rfl rfl rfl (fun _ => by kernel_rfl) rfl fun ac hs => ?_))
          refine lstep (wpO_plain rfl (op_store hs 0 (vs := [.int .u64 0, .int .u64 0, .int .u64 0, .int .u64 0]) rfl rfl rfl rfl rfl Try.sizeOf25 rfl rfl rfl rfl rfl fun w hs => ?_))
          refine lstep (wpO_plain rfl (op_assign hs none rfl rfl rfl rfl fun ac hs => ?_))
          refine wpList_nil ?_
          refine then_n ?_
          refine wp_ret ?_
          refine then_r ?_
          refine blk_r ?_
          refine then_r ?_
          refine then_r ?_
          refine blk_r ?_
          refine then_r ?_
          exact bodyPost_ret (res2 rfl (rv_c hs 0 (v := .agg #[.int .u64 0, .int .u64 0, .int .u64 0, .int .u64 0]) rfl rfl Try.isAgg25 Try.sizeOf25 rfl) (rv_t hs rfl)) hs.defers ⟨by rw [← hx, tgt_over (t := 1) hp4 (by omega) (by omega) hp13]; rfl, hs.below⟩
        · skip
          have hp14 := of_decide_eq_false hc
          refine wp_skip ?_
          refine then_n ?_
          refine wp_seq ?_
          by_cases hq15 : 0 ≤ ((b / 16777216 : Nat) : Int) - 1 - 1
          · skip
            refine wp_region_lit ?_
            refine lstep (wpO_plain rfl (op_move hs none rfl rfl rfl rfl fun ac hs => ?_))
            refine lstep (wpO_plain rfl (op_bin hs none (v := .bool true) rfl rfl rfl rfl (fun _ => rfl) (fun w => dT hq15 (bin_geqI (x := ((b / 16777216 : Nat) : Int) - 1 - 1) (y := 0) w)) rfl fun ac hs => ?_))
            refine lstep (wpO_plain rfl (op_move hs none rfl rfl rfl rfl fun ac hs => ?_))
            refine lstep (wpO_in hs rfl rfl rfl (op_move hs none rfl rfl rfl rfl fun ac hs => ?_))
            refine lstep (wpO_in hs rfl rfl rfl (op_bin hs none (v := .bool false) rfl rfl rfl rfl (fun _ => rfl) (fun w => dF (by omega) (bin_lssI (x := ((b / 16777216 : Nat) : Int) - 1 - 1) (y := 32) w)) rfl fun ac hs => ?_))
            refine lstep (wpO_plain rfl (op_pickT hs none rfl rfl rfl rfl rfl fun ac hs => ?_))
            refine wpList_nil ?_
            refine then_n ?_
            refine wp_cond_false (hs.ev rfl) ?_
            refine wp_skip ?_
            refine blk_n ?_
            refine then_n ?_
            refine wp_region_lit ?_
            refine lstep (wpO_plain rfl (op_move hs none rfl rfl rfl rfl fun ac hs => ?_))
            refine lstep (wpO_plain rfl (op_bin hs none (v := .int .i64 2) rfl rfl rfl rfl (fun _ => rfl) (fun _ => by kernel_rfl) rfl fun ac hs => ?_))
            refine lstep (wpO_plain rfl (op_assign hs none rfl rfl rfl rfl fun ac hs => ?_))
            refine wpList_nil ?_
            refine then_n ?_
            exact ⟨_, .inr (.inr (.inl ⟨f, y, rfl, (epx_not (by omega) hf), ((any_not (by omega)).trans hy), (epk_step hk (.inr (Classical.not_not.1 hp14))), (hs.re ⟨rfl, rfl, rfl, rfl, rfl, rfl, rfl, trivial⟩)⟩)), by omega⟩
          · skip
            refine wp_region_lit ?_
            refine lstep (wpO_plain rfl (op_move hs none rfl rfl rfl rfl fun ac hs => ?_))
            refine lstep (wpO_plain rfl (op_bin hs none (v := .bool false) rfl rfl rfl rfl (fun _ => rfl) (fun w => dF hq15 (bin_geqI (x := ((b / 16777216 : Nat) : Int) - 1 - 1) (y := 0) w)) rfl fun ac hs => ?_))
            refine lstep (wpO_plain rfl (op_move hs none rfl rfl rfl rfl fun ac hs => ?_))
            refine lstep (wpO_out hs none rfl rfl (.inl rfl) rfl rfl fun ac hs => ?_)
            refine lstep (wpO_out hs none rfl rfl (.inl rfl) rfl rfl fun ac hs => ?_)
            refine lstep (wpO_plain rfl (op_pickF hs none rfl rfl rfl rfl rfl fun ac hs => ?_))
            refine wpList_nil ?_
            refine then_n ?_
            refine wp_cond_false (hs.ev rfl) ?_
            refine wp_skip ?_
            refine blk_n ?_
            refine then_n ?_
            refine wp_region_lit ?_
            refine lstep (wpO_plain rfl (op_move hs none rfl rfl rfl rfl fun ac hs => ?_))
            refine lstep (wpO_plain rfl (op_bin hs none (v := .int .i64 2) rfl rfl rfl rfl (fun _ => rfl) (fun _ => by kernel_rfl) rfl fun ac hs => ?_))
            refine lstep (wpO_plain rfl (op_assign hs none rfl rfl rfl rfl fun ac hs => ?_))
            refine wpList_nil ?_
            refine then_n ?_
            exact ⟨_, .inr (.inr (.inl ⟨f, y, rfl, (epx_not (by omega) hf), ((any_not (by omega)).trans hy), (epk_step hk (.inr (Classical.not_not.1 hp14))), (hs.re ⟨rfl, rfl, rfl, rfl, rfl, rfl, rfl, trivial⟩)⟩)), by omega⟩
      · skip
        refine wp_region_lit ?_
        refine lstep (wpO_plain rfl (op_move hs none rfl rfl rfl rfl fun ac hs => ?_))
        refine lstep (wpO_plain rfl (op_bin hs none (v := .bool false) rfl rfl rfl rfl (fun _ => rfl) (fun w => dF hq12 (bin_geqI (x := ((b / 16777216 : Nat) : Int) - 1 - 1) (y := 32) w)) rfl fun ac hs => ?_))
        refine lstep (wpO_plain rfl (op_move hs none rfl rfl rfl rfl fun ac hs => ?_))
        refine lstep (wpO_out hs none rfl rfl (.inl rfl) rfl rfl fun ac hs => ?_)
        refine lstep (wpO_out hs none rfl rfl (.inl rfl) rfl rfl fun ac hs => ?_)
        refine lstep (wpO_out hs none rfl rfl (.inl rfl) rfl rfl fun ac hs => ?_)
        refine lstep (wpO_out hs none rfl rfl (.inl rfl) rfl rfl fun ac hs => ?_)
        refine lstep (wpO_out hs none rfl rfl (.inl rfl) rfl rfl fun ac hs => ?_)
        refine lstep (wpO_plain rfl (op_pickF hs none rfl rfl rfl rfl rfl fun ac hs => ?_))
        refine wpList_nil ?_
        refine then_n ?_
        refine wp_cond_false (hs.ev rfl) ?_
        refine wp_skip ?_
        refine then_n ?_
        refine wp_seq ?_
        by_cases hq16 : 0 ≤ ((b / 16777216 : Nat) : Int) - 1 - 1
        · skip
          refine wp_region_lit ?_
          refine lstep (wpO_plain rfl (op_move hs none rfl rfl rfl rfl fun ac hs => ?_))
          refine lstep (wpO_plain rfl (op_bin hs none (v := .bool true) rfl rfl rfl rfl (fun _ => rfl) (fun w => dT hq16 (bin_geqI (x := ((b / 16777216 : Nat) : Int) - 1 - 1) (y := 0) w)) rfl fun ac hs => ?_))
          refine lstep (wpO_plain rfl (op_move hs none rfl rfl rfl rfl fun ac hs => ?_))
          refine lstep (wpO_in hs rfl rfl rfl (op_move hs none rfl rfl rfl rfl fun ac hs => ?_))
          refine lstep (wpO_in hs rfl rfl rfl (op_bin hs none (v := .bool true) rfl rfl rfl rfl (fun _ => rfl) (fun w => dT (by omega) (bin_lssI (x := ((b / 16777216 : Nat) : Int) - 1 - 1) (y := 32) w)) rfl fun ac hs => ?_))
          refine lstep (wpO_plain rfl (op_pickT hs none rfl rfl rfl rfl rfl fun ac hs => ?_))
          refine wpList_nil ?_
          obtain ⟨p, hpl⟩ : ∃ p : Nat, p = b / 16777216 - 1 - 1 := ⟨_, rfl⟩
          replace hs := hs.re (fs' := [(2, true, .pointer (some ⟨g1, 0, none⟩)), (3, true, .int .i64 0), (4, true, .int .i64 ((b / 16777216 : Nat) : Int)), (5, true, .slice (some ⟨g2, 0, none⟩) 3 3), (6, true, .pointer (some ⟨g5, 0, none⟩)), (7, true, .bool y), (8, true, .int .i64 1), (29, true, .int .i64 1), (30, true, .bool true), (33, true, .int .i64 ((b / 16777216 : Nat) : Int)), (34, true, .int .i64 (((b / 16777216 : Nat) : Int) - 1)), (35, true, .int .i64 1), (36, true, .int .i64 (((b / 16777216 : Nat) : Int) - 1 - 1)), (9, true, .int .i64 ((p : Nat) : Int)), (37, true, .int .i64 (((b / 16777216 : Nat) : Int) - 1 - 1)), (38, true, .bool false), (39, true, .bool false), (45, true, .bool false), (47, true, .int .i64 (((b / 16777216 : Nat) : Int) - 1 - 1)), (48, true, .bool true), (49, true, .bool true), (50, true, .int .i64 (((b / 16777216 : Nat) : Int) - 1 - 1)), (51, true, .bool true), (52, true, .bool true)]) ⟨rfl, rfl, rfl, rfl, rfl, rfl, rfl, rfl, rfl, rfl, rfl, rfl, rfl, congrArg some (show Value.int .i64 (((b / 16777216 : Nat) : Int) - 1 - 1) = .int .i64 (p : Int) by rw [show ((b / 16777216 : Nat) : Int) - 1 - 1 = (p : Int) by omega]), rfl, rfl, rfl, rfl, rfl, rfl, rfl, rfl, rfl, rfl, trivial⟩
          refine then_n ?_
          refine wp_cond_true (hs.ev rfl) ?_
          refine wp_seq ?_
          refine wp_region_lit ?_
          refine lstep (wpO_plain rfl (op_move hs none rfl rfl rfl rfl fun ac hs => ?_))
          refine lstep (wpO_plain rfl (op_bin hs none (v := .int .i64 ((31 - p : Nat) : Int)) rfl rfl rfl rfl (fun _ => rfl) (bin_subN (x := 31) (y := p) (z := 31 - p) (by omega) (show 31 - p < 9223372036854775808 by omega)) rfl fun ac hs => ?_))
          refine lstep (wpO_plain rfl (op_move hs none rfl rfl rfl rfl fun ac hs => ?_))
          refine lstep (wpO_plain rfl (op_move hs none rfl rfl rfl rfl fun ac hs => ?_))
          refine lstep (wpO_plain rfl (op_idxS hs none (j := 1) rfl rfl rfl rfl Try.underlying50 Try.sizeOf5 (by decide) (off := 1) rfl rfl fun ac hs => ?_))
          refine lstep (wpO_plain rfl (op_load hs none 1 (v := .int .u8 ((mb b 1 : Nat) : Int)) rfl rfl rfl rfl Try.isAgg5 Try.sizeOf5 rfl rfl fun ac hs => ?_))
          refine lstep (wpO_plain rfl (op_idxA hs none (j := 31 - p) rfl rfl rfl rfl Try.underlying32 Try.sizeOf5 (show 31 - p < 32 by omega) (off := 31 - p) (by omega) rfl fun ac hs => ?_))
          refine lstep (wpO_plain rfl (op_store hs 2 (vs := [.int .u8 ((mb b 1 : Nat) : Int)]) rfl rfl rfl rfl rfl Try.sizeOf5 rfl rfl rfl (tab_le (j := 31 - p) (show 31 - p < 32 by omega)) (tab_set) fun w hs => ?_))
          refine wpList_nil ?_
          refine then_n ?_
          by_cases hq17 : y = true
          · skip
            have hyy : y = true := hq17
            replace hs := hs.re (fs' := [(2, true, .pointer (some ⟨g1, 0, none⟩)), (3, true, .int .i64 0), (4, true, .int .i64 ((b / 16777216 : Nat) : Int)), (5, true, .slice (some ⟨g2, 0, none⟩) 3 3), (6, true, .pointer (some ⟨g5, 0, none⟩)), (7, true, .bool true), (8, true, .int .i64 1), (29, true, .int .i64 1), (30, true, .bool true), (33, true, .int .i64 ((b / 16777216 : Nat) : Int)), (34, true, .int .i64 (((b / 16777216 : Nat) : Int) - 1)), (35, true, .int .i64 1), (36, true, .int .i64 (((b / 16777216 : Nat) : Int) - 1 - 1)), (9, true, .int .i64 ((p : Nat) : Int)), (37, true, .int .i64 (((b / 16777216 : Nat) : Int) - 1 - 1)), (38, true, .bool false), (39, true, .bool false), (45, true, .bool false), (47, true, .int .i64 (((b / 16777216 : Nat) : Int) - 1 - 1)), (48, true, .bool true), (49, true, .bool true), (50, true, .int .i64 (((b / 16777216 : Nat) : Int) - 1 - 1)), (51, true, .bool true), (52, true, .bool true), (53, true, .int .i64 ((p : Nat) : Int)), (54, true, .int .i64 ((31 - p : Nat) : Int)), (55, true, .slice (some ⟨g2, 0, none⟩) 3 3), (56, true, .int .i64 1), (57, true, .pointer (some ⟨g2, 1, none⟩)), (58, true, .int .u8 ((mb b 1 : Nat) : Int)), (59, true, .pointer (some ⟨g5, 31 - p, none⟩))]) ⟨rfl, rfl, rfl, rfl, rfl, congrArg some (by rw [hyy]), rfl, rfl, rfl, rfl, rfl, rfl, rfl, rfl, rfl, rfl, rfl, rfl, rfl, rfl, rfl, rfl, rfl, rfl, rfl, rfl, rfl, rfl, rfl, rfl, rfl, trivial⟩
            refine wp_region_lit ?_
            refine lstep (wpO_plain rfl (op_move hs none rfl rfl rfl rfl fun ac hs => ?_))
            refine lstep (wpO_plain rfl (op_move hs none rfl rfl rfl rfl fun ac hs => ?_))
            refine lstep (wpO_out hs none rfl rfl (.inl rfl) rfl rfl fun ac hs => ?_)
            refine lstep (wpO_out hs none rfl rfl (.inl rfl) rfl rfl fun ac hs => ?_)
            refine lstep (wpO_out hs none rfl rfl (.inl rfl) rfl rfl fun ac hs => ?_)
            refine lstep (wpO_out hs none rfl rfl (.inl rfl) rfl rfl fun ac hs => ?_)
            refine lstep (wpO_out hs none rfl rfl (.inl rfl) rfl rfl fun ac hs => ?_)
            refine lstep (wpO_plain rfl (op_pickT hs none rfl rfl rfl rfl rfl fun ac hs => ?_))
            refine lstep (wpO_plain rfl (op_assign hs none rfl rfl rfl rfl fun ac hs => ?_))
            refine wpList_nil ?_
            refine blk_n ?_
            refine then_n ?_
            refine wp_region_lit ?_
            refine lstep (wpO_plain rfl (op_move hs none rfl rfl rfl rfl fun ac hs => ?_))
            refine lstep (wpO_plain rfl (op_bin hs none (v := .int .i64 2) rfl rfl rfl rfl (fun _ => rfl) (fun _ => by kernel_rfl) rfl fun ac hs => ?_))
            refine lstep (wpO_plain rfl (op_assign hs none rfl rfl rfl rfl fun ac hs => ?_))
            refine wpList_nil ?_
            refine then_n ?_
            exact ⟨_, .inr (.inr (.inl ⟨(upn f (31 - p) (mb b 1)), true, rfl, (epx_put (by omega) (by omega) (by omega) hpl hf), ((any_put (by omega) (by omega)).trans (by rw [hy]; rw [hyy]; simp)), (epk_step hk (.inl (by omega))), (hs.re ⟨rfl, rfl, rfl, rfl, rfl, rfl, rfl, trivial⟩)⟩)), by omega⟩
          · skip
            have hyy : y = false := Bool.eq_false_iff.2 hq17
            replace hs := hs.re (fs' := [(2, true, .pointer (some ⟨g1, 0, none⟩)), (3, true, .int .i64 0), (4, true, .int .i64 ((b / 16777216 : Nat) : Int)), (5, true, .slice (some ⟨g2, 0, none⟩) 3 3), (6, true, .pointer (some ⟨g5, 0, none⟩)), (7, true, .bool false), (8, true, .int .i64 1), (29, true, .int .i64 1), (30, true, .bool true), (33, true, .int .i64 ((b / 16777216 : Nat) : Int)), (34, true, .int .i64 (((b / 16777216 : Nat) : Int) - 1)), (35, true, .int .i64 1), (36, true, .int .i64 (((b / 16777216 : Nat) : Int) - 1 - 1)), (9, true, .int .i64 ((p : Nat) : Int)), (37, true, .int .i64 (((b / 16777216 : Nat) : Int) - 1 - 1)), (38, true, .bool false), (39, true, .bool false), (45, true, .bool false), (47, true, .int .i64 (((b / 16777216 : Nat) : Int) - 1 - 1)), (48, true, .bool true), (49, true, .bool true), (50, true, .int .i64 (((b / 16777216 : Nat) : Int) - 1 - 1)), (51, true, .bool true), (52, true, .bool true), (53, true, .int .i64 ((p : Nat) : Int)), (54, true, .int .i64 ((31 - p : Nat) : Int)), (55, true, .slice (some ⟨g2, 0, none⟩) 3 3), (56, true, .int .i64 1), (57, true, .pointer (some ⟨g2, 1, none⟩)), (58, true, .int .u8 ((mb b 1 : Nat) : Int)), (59, true, .pointer (some ⟨g5, 31 - p, none⟩))]) ⟨rfl, rfl, rfl, rfl, rfl, congrArg some (by rw [hyy]), rfl, rfl, rfl, rfl, rfl, rfl, rfl, rfl, rfl, rfl, rfl, rfl, rfl, rfl, rfl, rfl, rfl, rfl, rfl, rfl, rfl, rfl, rfl, rfl, rfl, trivial⟩
            refine wp_region_lit ?_
            refine lstep (wpO_plain rfl (op_move hs none rfl rfl rfl rfl fun ac hs => ?_))
            refine lstep (wpO_plain rfl (op_move hs none rfl rfl rfl rfl fun ac hs => ?_))
            refine lstep (wpO_in hs rfl rfl rfl (op_move hs none rfl rfl rfl rfl fun ac hs => ?_))
            refine lstep (wpO_in hs rfl rfl rfl (op_move hs none rfl rfl rfl rfl fun ac hs => ?_))
            refine lstep (wpO_in hs rfl rfl rfl (op_idxS hs none (j := 1) rfl rfl rfl rfl Try.underlying50 Try.sizeOf5 (by decide) (off := 1) rfl rfl fun ac hs => ?_))
            refine lstep (wpO_in hs rfl rfl rfl (op_load hs none 1 (v := .int .u8 ((mb b 1 : Nat) : Int)) rfl rfl rfl rfl Try.isAgg5 Try.sizeOf5 rfl rfl fun ac hs => ?_))
            refine lstep (wpO_in hs rfl rfl rfl (op_bin hs none (v := .bool (decide (mb b 1 ≠ 0))) rfl rfl rfl rfl (fun _ => rfl) (bin_neqN (x := mb b 1) (y := 0)) rfl fun ac hs => ?_))
            refine lstep (wpO_plain rfl (op_pickF hs none rfl rfl rfl rfl rfl fun ac hs => ?_))
            refine lstep (wpO_plain rfl (op_assign hs none rfl rfl rfl rfl fun ac hs => ?_))
            refine wpList_nil ?_
            refine blk_n ?_
            refine then_n ?_
            refine wp_region_lit ?_
            refine lstep (wpO_plain rfl (op_move hs none rfl rfl rfl rfl fun ac hs => ?_))
            refine lstep (wpO_plain rfl (op_bin hs none (v := .int .i64 2) rfl rfl rfl rfl (fun _ => rfl) (fun _ => by kernel_rfl) rfl fun ac hs => ?_))
            refine lstep (wpO_plain rfl (op_assign hs none rfl rfl rfl rfl fun ac hs => ?_))
            refine wpList_nil ?_
            refine then_n ?_
            exact ⟨_, .inr (.inr (.inl ⟨(upn f (31 - p) (mb b 1)), (decide (mb b 1 ≠ 0)), rfl, (epx_put (by omega) (by omega) (by omega) hpl hf), ((any_put (by omega) (by omega)).trans (by rw [hy]; rw [hyy]; simp)), (epk_step hk (.inl (by omega))), (hs.re ⟨rfl, rfl, rfl, rfl, rfl, rfl, rfl, trivial⟩)⟩)), by omega⟩
        · skip
          refine wp_region_lit ?_
          refine lstep (wpO_plain rfl (op_move hs none rfl rfl rfl rfl fun ac hs => ?_))
          refine lstep (wpO_plain rfl (op_bin hs none (v := .bool false) rfl rfl rfl rfl (fun _ => rfl) (fun w => dF hq16 (bin_geqI (x := ((b / 16777216 : Nat) : Int) - 1 - 1) (y := 0) w)) rfl fun ac hs => ?_))
          refine lstep (wpO_plain rfl (op_move hs none rfl rfl rfl rfl fun ac hs => ?_))
          refine lstep (wpO_out hs none rfl rfl (.inl rfl) rfl rfl fun ac hs => ?_)
          refine lstep (wpO_out hs none rfl rfl (.inl rfl) rfl rfl fun ac hs => ?_)
          refine lstep (wpO_plain rfl (op_pickF hs none rfl rfl rfl rfl rfl fun ac hs => ?_))
          refine wpList_nil ?_
          refine then_n ?_
          refine wp_cond_false (hs.ev rfl) ?_
          refine wp_skip ?_
          refine blk_n ?_
          refine then_n ?_
          refine wp_region_lit ?_
          refine lstep (wpO_plain rfl (op_move hs none rfl rfl rfl rfl fun ac hs => ?_))
          refine lstep (wpO_plain rfl (op_bin hs none (v := .int .i64 2) rfl rfl rfl rfl (fun _ => rfl) (fun _ => by kernel_rfl) rfl fun ac hs => ?_))
          refine lstep (wpO_plain rfl (op_assign hs none rfl rfl rfl rfl fun ac hs => ?_))
          refine wpList_nil ?_
          refine then_n ?_
          exact ⟨_, .inr (.inr (.inl ⟨f, y, rfl, (epx_not (by omega) hf), ((any_not (by omega)).trans hy), (epk_step hk (.inl (by omega))), (hs.re ⟨rfl, rfl, rfl, rfl, rfl, rfl, rfl, trivial⟩)⟩)), by omega⟩
    · obtain ⟨f, y, rfl, hf, hy, hk, hs⟩ := hJ
      refine wp_seq ?_
      refine wp_seq ?_
      refine wp_region_lit ?_
      refine lstep (wpO_plain rfl (op_move hs none rfl rfl rfl rfl fun ac hs => ?_))
      refine lstep (wpO_plain rfl (op_bin hs none (v := .bool true) rfl rfl rfl rfl (fun _ => rfl) (fun _ => by kernel_rfl) rfl fun ac hs => ?_))
      refine wpList_nil ?_
      refine then_n ?_
      refine wp_cond_true (hs.ev rfl) ?_
      refine wp_skip ?_
      refine then_n ?_
      refine wp_seq ?_
      refine wp_block ?_
      refine wp_seq ?_
      refine wp_region_lit ?_
      refine lstep (wpO_plain rfl (op_move hs none rfl rfl rfl rfl fun ac hs => ?_))
      refine lstep (wpO_plain rfl (op_bin hs none (v := .int .i64 (((b / 16777216 : Nat) : Int) - 1)) rfl rfl rfl rfl (fun _ => rfl) (bin_subI (x := ((b / 16777216 : Nat) : Int)) (y := 1) (by omega) (by omega)) rfl fun ac hs => ?_))
      refine lstep (wpO_plain rfl (op_move hs none rfl rfl rfl rfl fun ac hs => ?_))
      refine lstep (wpO_plain rfl (op_bin hs none (v := .int .i64 (((b / 16777216 : Nat) : Int) - 1 - 2)) rfl rfl rfl rfl (fun _ => rfl) (bin_subI (x := ((b / 16777216 : Nat) : Int) - 1) (y := 2) (by omega) (by omega)) rfl fun ac hs => ?_))
      refine lstep (wpO_plain rfl (op_assign hs none rfl rfl rfl rfl fun ac hs => ?_))
      refine wpList_nil ?_
      refine then_n ?_
      refine wp_seq ?_
      refine wp_seq ?_
      by_cases hq18 : 32 ≤ ((b / 16777216 : Nat) : Int) - 1 - 2
      · skip
        refine wp_region_lit ?_
        refine lstep (wpO_plain rfl (op_move hs none rfl rfl rfl rfl fun ac hs => ?_))
        refine lstep (wpO_plain rfl (op_bin hs none (v := .bool true) rfl rfl rfl rfl (fun _ => rfl) (fun w => dT hq18 (bin_geqI (x := ((b / 16777216 : Nat) : Int) - 1 - 2) (y := 32) w)) rfl fun ac hs => ?_))
        refine lstep (wpO_plain rfl (op_move hs none rfl rfl rfl rfl fun ac hs => ?_))
        refine lstep (wpO_in hs rfl rfl rfl (op_move hs none rfl rfl rfl rfl fun ac hs => ?_))
        refine lstep (wpO_in hs rfl rfl rfl (op_move hs none rfl rfl rfl rfl fun ac hs => ?_))
        refine lstep (wpO_in hs rfl rfl rfl (op_idxS hs none (j := 2) rfl rfl rfl rfl Try.underlying50 Try.sizeOf5 (by decide) (off := 2) rfl rfl fun ac hs => ?_))
        refine lstep (wpO_in hs rfl rfl rfl (op_load hs none 1 (v := .int .u8 ((mb b 2 : Nat) : Int)) rfl rfl rfl rfl Try.isAgg5 Try.sizeOf5 rfl rfl fun ac hs => ?_))
        refine lstep (wpO_in hs rfl rfl rfl (op_bin hs none (v := .bool (decide (mb b 2 ≠ 0))) rfl rfl rfl rfl (fun _ => rfl) (bin_neqN (x := mb b 2) (y := 0)) rfl fun ac hs => ?_))
        refine lstep (wpO_plain rfl (op_pickT hs none rfl rfl rfl rfl rfl fun ac hs => ?_))
        refine wpList_nil ?_
        refine then_n ?_
        refine wp_cond_split (hs.ev rfl) (fun hc => ?_) (fun hc => ?_)
        · skip
          have hp19 := of_decide_eq_true hc
          refine wp_seq ?_
          refine wp_region_lit ?_
          refine lstep (wpO_plain rfl (op_build hs none (qs := []) (v := .agg #[.int .u64 0, .int .u64 0, .int .u64 0, .int .u64 0]) rfl rfl rfl rfl (fun _ => by kernel_rfl) rfl fun ac hs => ?_))
          refine lstep (wpO_plain rfl (op_store hs 0 (vs := [.int .u64 0, .int .u64 0, .int .u64 0, .int .u64 0]) rfl rfl rfl rfl rfl Try.sizeOf25 rfl rfl rfl rfl rfl fun w hs => ?_))
          refine lstep (wpO_plain rfl (op_assign hs none rfl rfl rfl rfl fun ac hs => ?_))
          refine wpList_nil ?_
          refine then_n ?_
          refine wp_ret ?_
          refine then_r ?_
          refine blk_r ?_
          refine then_r ?_
          refine then_r ?_
          refine blk_r ?_
          refine then_r ?_
          exact bodyPost_ret (res2 rfl (rv_c hs 0 (v := .agg #[.int .u64 0, .int .u64 0, .int .u64 0, .int .u64 0]) rfl rfl Try.isAgg25 Try.sizeOf25 rfl) (rv_t hs rfl)) hs.defers ⟨by rw [← hx, tgt_over (t := 2) hp4 (by omega) (by omega) hp19]; rfl, hs.below⟩
        · skip
          have hp20 := of_decide_eq_false hc
          refine wp_skip ?_
          refine then_n ?_
          refine wp_seq ?_
          by_cases hq21 : 0 ≤ ((b / 16777216 : Nat) : Int) - 1 - 2
          · skip
            refine wp_region_lit ?_
            refine lstep (wpO_plain rfl (op_move hs none rfl rfl rfl rfl fun ac hs => ?_))
            refine lstep (wpO_plain rfl (op_bin hs none (v := .bool true) rfl rfl rfl rfl (fun _ => rfl) (fun w => dT hq21 (bin_geqI (x := ((b / 16777216 : Nat) : Int) - 1 - 2) (y := 0) w)) rfl fun ac hs => ?_))
            refine lstep (wpO_plain rfl (op_move hs none rfl rfl rfl rfl fun ac hs => ?_))
            refine lstep (wpO_in hs rfl rfl rfl (op_move hs none rfl rfl rfl rfl fun ac hs => ?_))
            refine lstep (wpO_in hs rfl rfl rfl (op_bin hs none (v := .bool false) rfl rfl rfl rfl (fun _ => rfl) (fun w => dF (by omega) (bin_lssI (x := ((b / 16777216 : Nat) : Int) - 1 - 2) (y := 32) w)) rfl fun ac hs => ?_))
            refine lstep (wpO_plain rfl (op_pickT hs none rfl rfl rfl rfl rfl fun ac hs => ?_))
            refine wpList_nil ?_
            refine then_n ?_
            refine wp_cond_false (hs.ev rfl) ?_
            refine wp_skip ?_
            refine blk_n ?_
            refine then_n ?_
            refine wp_region_lit ?_
            refine lstep (wpO_plain rfl (op_move hs none rfl rfl rfl rfl fun ac hs => ?_))
            refine lstep (wpO_plain rfl (op_bin hs none (v := .int .i64 3) rfl rfl rfl rfl (fun _ => rfl) (fun _ => by kernel_rfl) rfl fun ac hs => ?_))
            refine lstep (wpO_plain rfl (op_assign hs none rfl rfl rfl rfl fun ac hs => ?_))
            refine wpList_nil ?_
            refine then_n ?_
            exact ⟨_, .inr (.inr (.inr (⟨f, y, rfl, (epx_not (by omega) hf), ((any_not (by omega)).trans hy), (epk_step hk (.inr (Classical.not_not.1 hp20))), (hs.re ⟨rfl, rfl, rfl, rfl, rfl, rfl, rfl, trivial⟩)⟩))), by omega⟩
          · skip
            refine wp_region_lit ?_
            refine lstep (wpO_plain rfl (op_move hs none rfl rfl rfl rfl fun ac hs => ?_))
            refine lstep (wpO_plain rfl (op_bin hs none (v := .bool false) rfl rfl rfl rfl (fun _ => rfl) (fun w => dF hq21 (bin_geqI (x := ((b / 16777216 : Nat) : Int) - 1 - 2) (y := 0) w)) rfl fun ac hs => ?_))
            refine lstep (wpO_plain rfl (op_move hs none rfl rfl rfl rfl fun ac hs => ?_))
            refine lstep (wpO_out hs none rfl rfl (.inl rfl) rfl rfl fun ac hs => ?_)
            refine lstep (wpO_out hs none rfl rfl (.inl rfl) rfl rfl fun ac hs => ?_)
            refine lstep (wpO_plain rfl (op_pickF hs none rfl rfl rfl rfl rfl fun ac hs => ?_))
            refine wpList_nil ?_
            refine then_n ?_
            refine wp_cond_false (hs.ev rfl) ?_
            refine wp_skip ?_
            refine blk_n ?_
            refine then_n ?_
            refine wp_region_lit ?_
            refine lstep (wpO_plain rfl (op_move hs none rfl rfl rfl rfl fun ac hs => ?_))
            refine lstep (wpO_plain rfl (op_bin hs none (v := .int .i64 3) rfl rfl rfl rfl (fun _ => rfl) (fun _ => by kernel_rfl) rfl fun ac hs => ?_))
            refine lstep (wpO_plain rfl (op_assign hs none rfl rfl rfl rfl fun ac hs => ?_))
            refine wpList_nil ?_
            refine then_n ?_
            exact ⟨_, .inr (.inr (.inr (⟨f, y, rfl, (epx_not (by omega) hf), ((any_not (by omega)).trans hy), (epk_step hk (.inr (Classical.not_not.1 hp20))), (hs.re ⟨rfl, rfl, rfl, rfl, rfl, rfl, rfl, trivial⟩)⟩))), by omega⟩
      · skip
        refine wp_region_lit ?_
        refine lstep (wpO_plain rfl (op_move hs none rfl rfl rfl rfl fun ac hs => ?_))
        refine lstep (wpO_plain rfl (op_bin hs none (v := .bool false) rfl rfl rfl rfl (fun _ => rfl) (fun w => dF hq18 (bin_geqI (x := ((b / 16777216 : Nat) : Int) - 1 - 2) (y := 32) w)) rfl fun ac hs => ?_))
        refine lstep (wpO_plain rfl (op_move hs none rfl rfl rfl rfl fun ac hs => ?_))
        refine lstep (wpO_out hs none rfl rfl (.inl rfl) rfl rfl fun ac hs => ?_)
        refine lstep (wpO_out hs none rfl rfl (.inl rfl) rfl rfl fun ac hs => ?_)
        refine lstep (wpO_out hs none rfl rfl (.inl rfl) rfl rfl fun ac hs => ?_)
        refine lstep (wpO_out hs none rfl rfl (.inl rfl) rfl rfl fun ac hs => ?_)
        refine lstep (wpO_out hs none rfl rfl (.inl rfl) rfl rfl fun ac hs => ?_)
        refine lstep (wpO_plain rfl (op_pickF hs none rfl rfl rfl rfl rfl fun ac hs => ?_))
        refine wpList_nil ?_
        refine then_n ?_
        refine wp_cond_false (hs.ev rfl) ?_
        refine wp_skip ?_
        refine then_n ?_
        refine wp_seq ?_
        by_cases hq22 : 0 ≤ ((b / 16777216 : Nat) : Int) - 1 - 2
        · skip
          refine wp_region_lit ?_
          refine lstep (wpO_plain rfl (op_move hs none rfl rfl rfl rfl fun ac hs => ?_))
          refine lstep (wpO_plain rfl (op_bin hs none (v := .bool true) rfl rfl rfl rfl (fun _ => rfl) (fun w => dT hq22 (bin_geqI (x := ((b / 16777216 : Nat) : Int) - 1 - 2) (y := 0) w)) rfl fun ac hs => ?_))
          refine lstep (wpO_plain rfl (op_move hs none rfl rfl rfl rfl fun ac hs => ?_))
          refine lstep (wpO_in hs rfl rfl rfl (op_move hs none rfl rfl rfl rfl fun ac hs => ?_))
          refine lstep (wpO_in hs rfl rfl rfl (op_bin hs none (v := .bool true) rfl rfl rfl rfl (fun _ => rfl) (fun w => dT (by omega) (bin_lssI (x := ((b / 16777216 : Nat) : Int) - 1 - 2) (y := 32) w)) rfl fun ac hs => ?_))
          refine lstep (wpO_plain rfl (op_pickT hs none rfl rfl rfl rfl rfl fun ac hs => ?_))
          refine wpList_nil ?_
          obtain ⟨p, hpl⟩ : ∃ p : Nat, p = b / 16777216 - 1 - 2 := ⟨_, rfl⟩
          replace hs := hs.re (fs' := [(2, true, .pointer (some ⟨g1, 0, none⟩)), (3, true, .int .i64 0), (4, true, .int .i64 ((b / 16777216 : Nat) : Int)), (5, true, .slice (some ⟨g2, 0, none⟩) 3 3), (6, true, .pointer (some ⟨g5, 0, none⟩)), (7, true, .bool y), (8, true, .int .i64 2), (29, true, .int .i64 2), (30, true, .bool true), (33, true, .int .i64 ((b / 16777216 : Nat) : Int)), (34, true, .int .i64 (((b / 16777216 : Nat) : Int) - 1)), (35, true, .int .i64 2), (36, true, .int .i64 (((b / 16777216 : Nat) : Int) - 1 - 2)), (9, true, .int .i64 ((p : Nat) : Int)), (37, true, .int .i64 (((b / 16777216 : Nat) : Int) - 1 - 2)), (38, true, .bool false), (39, true, .bool false), (45, true, .bool false), (47, true, .int .i64 (((b / 16777216 : Nat) : Int) - 1 - 2)), (48, true, .bool true), (49, true, .bool true), (50, true, .int .i64 (((b / 16777216 : Nat) : Int) - 1 - 2)), (51, true, .bool true), (52, true, .bool true)]) ⟨rfl, rfl, rfl, rfl, rfl, rfl, rfl, rfl, rfl, rfl, rfl, rfl, rfl, congrArg some (show Value.int .i64 (((b / 16777216 : Nat) : Int) - 1 - 2) = .int .i64 (p : Int) by rw [show ((b / 16777216 : Nat) : Int) - 1 - 2 = (p : Int) by omega]), rfl, rfl, rfl, rfl, rfl, rfl, rfl, rfl, rfl, rfl, trivial⟩
          refine then_n ?_
          refine wp_cond_true (hs.ev rfl) ?_
          refine wp_seq ?_
          refine wp_region_lit ?_
          refine lstep (wpO_plain rfl (op_move hs none rfl rfl rfl rfl fun ac hs => ?_))
          refine lstep (wpO_plain rfl (op_bin hs none (v := .int .i64 ((31 - p : Nat) : Int)) rfl rfl rfl rfl (fun _ => rfl) (bin_subN (x := 31) (y := p) (z := 31 - p) (by omega) (show 31 - p < 9223372036854775808 by omega)) rfl fun ac hs => ?_))
          refine lstep (wpO_plain rfl (op_move hs none rfl rfl rfl rfl fun ac hs => ?_))
          refine lstep (wpO_plain rfl (op_move hs none rfl rfl rfl rfl fun ac hs => ?_))
          refine lstep (wpO_plain rfl (op_idxS hs none (j := 2) rfl rfl rfl rfl Try.underlying50 Try.sizeOf5 (by decide) (off := 2) rfl rfl fun ac hs => ?_))
          refine lstep (wpO_plain rfl (op_load hs none 1 (v := .int .u8 ((mb b 2 : Nat) : Int)) rfl rfl rfl rfl Try.isAgg5 Try.sizeOf5 rfl rfl fun ac hs => ?_))
          refine lstep (wpO_plain rfl (op_idxA hs none (j := 31 - p) rfl rfl rfl rfl Try.underlying32 Try.sizeOf5 (show 31 - p < 32 by omega) (off := 31 - p) (by omega) rfl fun ac hs => ?_))
          refine lstep (wpO_plain rfl (op_store hs 2 (vs := [.int .u8 ((mb b 2 : Nat) : Int)]) rfl rfl rfl rfl rfl Try.sizeOf5 rfl rfl rfl (tab_le (j := 31 - p) (show 31 - p < 32 by omega)) (tab_set) fun w hs => ?_))
          refine wpList_nil ?_
          refine then_n ?_
          by_cases hq23 : y = true
          · skip
            have hyy : y = true := hq23
            replace hs := hs.re (fs' := [(2, true, .pointer (some ⟨g1, 0, none⟩)), (3, true, .int .i64 0), (4, true, .int .i64 ((b / 16777216 : Nat) : Int)), (5, true, .slice (some ⟨g2, 0, none⟩) 3 3), (6, true, .pointer (some ⟨g5, 0, none⟩)), (7, true, .bool true), (8, true, .int .i64 2), (29, true, .int .i64 2), (30, true, .bool true), (33, true, .int .i64 ((b / 16777216 : Nat) : Int)), (34, true, .int .i64 (((b / 16777216 : Nat) : Int) - 1)), (35, true, .int .i64 2), (36, true, .int .i64 (((b / 16777216 : Nat) : Int) - 1 - 2)), (9, true, .int .i64 ((p : Nat) : Int)), (37, true, .int .i64 (((b / 16777216 : Nat) : Int) - 1 - 2)), (38, true, .bool false), (39, true, .bool false), (45, true, .bool false), (47, true, .int .i64 (((b / 16777216 : Nat) : Int) - 1 - 2)), (48, true, .bool true), (49, true, .bool true), (50, true, .int .i64 (((b / 16777216 : Nat) : Int) - 1 - 2)), (51, true, .bool true), (52, true, .bool true), (53, true, .int .i64 ((p : Nat) : Int)), (54, true, .int .i64 ((31 - p : Nat) : Int)), (55, true, .slice (some ⟨g2, 0, none⟩) 3 3), (56, true, .int .i64 2), (57, true, .pointer (some ⟨g2, 2, none⟩)), (58, true, .int .u8 ((mb b 2 : Nat) : Int)), (59, true, .pointer (some ⟨g5, 31 - p, none⟩))]) ⟨rfl, rfl, rfl, rfl, rfl, congrArg some (by rw [hyy]), rfl, rfl, rfl, rfl, rfl, rfl, rfl, rfl, rfl, rfl, rfl, rfl, rfl, rfl, rfl, rfl, rfl, rfl, rfl, rfl, rfl, rfl, rfl, rfl, rfl, trivial⟩
            refine wp_region_lit ?_
            refine lstep (wpO_plain rfl (op_move hs none rfl rfl rfl rfl fun ac hs => ?_))
            refine lstep (wpO_plain rfl (op_move hs none rfl rfl rfl rfl fun ac hs => ?_))
            refine lstep (wpO_out hs none rfl rfl (.inl rfl) rfl rfl fun ac hs => ?_)
            refine lstep (wpO_out hs none rfl rfl (.inl rfl) rfl rfl fun ac hs => ?_)
            refine lstep (wpO_out hs none rfl rfl (.inl rfl) rfl rfl fun ac hs => ?_)
            refine lstep (wpO_out hs none rfl rfl (.inl rfl) rfl rfl fun ac hs => ?_)
            refine lstep (wpO_out hs none rfl rfl (.inl rfl) rfl rfl fun ac hs => ?_)
            refine lstep (wpO_plain rfl (op_pickT hs none rfl rfl rfl rfl rfl fun ac hs => ?_))
            refine lstep (wpO_plain rfl (op_assign hs none rfl rfl rfl rfl fun ac hs => ?_))
            refine wpList_nil ?_
            refine blk_n ?_
            refine then_n ?_
            refine wp_region_lit ?_
            refine lstep (wpO_plain rfl (op_move hs none rfl rfl rfl rfl fun ac hs => ?_))
            refine lstep (wpO_plain rfl (op_bin hs none (v := .int .i64 3) rfl rfl rfl rfl (fun _ => rfl) (fun _ => by kernel_rfl) rfl fun ac hs => ?_))
            refine lstep (wpO_plain rfl (op_assign hs none rfl rfl rfl rfl fun ac hs => ?_))
            refine wpList_nil ?_
            refine then_n ?_
            exact ⟨_, .inr (.inr (.inr (⟨(upn f (31 - p) (mb b 2)), true, rfl, (epx_put (by omega) (by omega) (by omega) hpl hf), ((any_put (by omega) (by omega)).trans (by rw [hy]; rw [hyy]; simp)), (epk_step hk (.inl (by omega))), (hs.re ⟨rfl, rfl, rfl, rfl, rfl, rfl, rfl, trivial⟩)⟩))), by omega⟩
          · skip
            have hyy : y = false := Bool.eq_false_iff.2 hq23
            replace hs := hs.re (fs' := [(2, true, .pointer (some ⟨g1, 0, none⟩)), (3, true, .int .i64 0), (4, true, .int .i64 ((b / 16777216 : Nat) : Int)), (5, true, .slice (some ⟨g2, 0, none⟩) 3 3), (6, true, .pointer (some ⟨g5, 0, none⟩)), (7, true, .bool false), (8, true, .int .i64 2), (29, true, .int .i64 2), (30, true, .bool true), (33, true, .int .i64 ((b / 16777216 : Nat) : Int)), (34, true, .int .i64 (((b / 16777216 : Nat) : Int) - 1)), (35, true, .int .i64 2), (36, true, .int .i64 (((b / 16777216 : Nat) : Int) - 1 - 2)), (9, true, .int .i64 ((p : Nat) : Int)), (37, true, .int .i64 (((b / 16777216 : Nat) : Int) - 1 - 2)), (38, true, .bool false), (39, true, .bool false), (45, true, .bool false), (47, true, .int .i64 (((b / 16777216 : Nat) : Int) - 1 - 2)), (48, true, .bool true), (49, true, .bool true), (50, true, .int .i64 (((b / 16777216 : Nat) : Int) - 1 - 2)), (51, true, .bool true), (52, true, .bool true), (53, true, .int .i64 ((p : Nat) : Int)), (54, true, .int .i64 ((31 - p : Nat) : Int)), (55, true, .slice (some ⟨g2, 0, none⟩) 3 3), (56, true, .int .i64 2), (57, true, .pointer (some ⟨g2, 2, none⟩)), (58, true, .int .u8 ((mb b 2 : Nat) : Int)), (59, true, .pointer (some ⟨g5, 31 - p, none⟩))]) ⟨rfl, rfl, rfl, rfl, rfl, congrArg some (by rw [hyy]), rfl, rfl, rfl, rfl, rfl, rfl, rfl, rfl, rfl, rfl, rfl, rfl, rfl, rfl, rfl, rfl, rfl, rfl, rfl, rfl, rfl, rfl, rfl, rfl, rfl, trivial⟩
            refine wp_region_lit ?_
            refine lstep (wpO_plain rfl (op_move hs none rfl rfl rfl rfl fun ac hs => ?_))
            refine lstep (wpO_plain rfl (op_move hs none rfl rfl rfl rfl fun ac hs => ?_))
            refine lstep (wpO_in hs rfl rfl rfl (op_move hs none rfl rfl rfl rfl fun ac hs => ?_))
            refine lstep (wpO_in hs rfl rfl rfl (op_move hs none rfl rfl rfl rfl fun ac hs => ?_))
            refine lstep (wpO_in hs rfl rfl rfl (op_idxS hs none (j := 2) rfl rfl rfl rfl Try.underlying50 Try.sizeOf5 (by decide) (off := 2) rfl rfl fun ac hs => ?_))
            refine lstep (wpO_in hs rfl rfl rfl (op_load hs none 1 (v := .int .u8 ((mb b 2 : Nat) : Int)) rfl rfl rfl rfl Try.isAgg5 Try.sizeOf5 rfl rfl fun ac hs => ?_))
            refine lstep (wpO_in hs rfl rfl rfl (op_bin hs none (v := .bool (decide (mb b 2 ≠ 0))) rfl rfl rfl rfl (fun _ => rfl) (bin_neqN (x := mb b 2) (y := 0)) rfl fun ac hs => ?_))
            refine lstep (wpO_plain rfl (op_pickF hs none rfl rfl rfl rfl rfl fun ac hs => ?_))
            refine lstep (wpO_plain rfl (op_assign hs none rfl rfl rfl rfl fun ac hs => ?_))
            refine wpList_nil ?_
            refine blk_n ?_
            refine then_n ?_
            refine wp_region_lit ?_
            refine lstep (wpO_plain rfl (op_move hs none rfl rfl rfl rfl fun ac hs => ?_))
            refine lstep (wpO_plain rfl (op_bin hs none (v := .int .i64 3) rfl rfl rfl rfl (fun _ => rfl) (fun _ => by kernel_rfl) rfl fun ac hs => ?_))
            refine lstep (wpO_plain rfl (op_assign hs none rfl rfl rfl rfl fun ac hs => ?_))
            refine wpList_nil ?_
            refine then_n ?_
            exact ⟨_, .inr (.inr (.inr (⟨(upn f (31 - p) (mb b 2)), (decide (mb b 2 ≠ 0)), rfl, (epx_put (by omega) (by omega) (by omega) hpl hf), ((any_put (by omega) (by omega)).trans (by rw [hy]; rw [hyy]; simp)), (epk_step hk (.inl (by omega))), (hs.re ⟨rfl, rfl, rfl, rfl, rfl, rfl, rfl, trivial⟩)⟩))), by omega⟩
        · skip
          refine wp_region_lit ?_
          refine lstep (wpO_plain rfl (op_move hs none rfl rfl rfl rfl fun ac hs => ?_))
          refine lstep (wpO_plain rfl (op_bin hs none (v := .bool false) rfl rfl rfl rfl (fun _ => rfl) (fun w => dF hq22 (bin_geqI (x := ((b / 16777216 : Nat) : Int) - 1 - 2) (y := 0) w)) rfl fun ac hs => ?_))
          refine lstep (wpO_plain rfl (op_move hs none rfl rfl rfl rfl fun ac hs => ?_))
          refine lstep (wpO_out hs none rfl rfl (.inl rfl) rfl rfl fun ac hs => ?_)
          refine lstep (wpO_out hs none rfl rfl (.inl rfl) rfl rfl fun ac hs => ?_)
          refine lstep (wpO_plain rfl (op_pickF hs none rfl rfl rfl rfl rfl fun ac hs => ?_))
          refine wpList_nil ?_
          refine then_n ?_
          refine wp_cond_false (hs.ev rfl) ?_
          refine wp_skip ?_
          refine blk_n ?_
          refine then_n ?_
          refine wp_region_lit ?_
          refine lstep (wpO_plain rfl (op_move hs none rfl rfl rfl rfl fun ac hs => ?_))
          refine lstep (wpO_plain rfl (op_bin hs none (v := .int .i64 3) rfl rfl rfl rfl (fun _ => rfl) (fun _ => by kernel_rfl) rfl fun ac hs => ?_))
          refine lstep (wpO_plain rfl (op_assign hs none rfl rfl rfl rfl fun ac hs => ?_))
          refine wpList_nil ?_
          refine then_n ?_
          exact ⟨_, .inr (.inr (.inr (⟨f, y, rfl, (epx_not (by omega) hf), ((any_not (by omega)).trans hy), (epk_step hk (.inl (by omega))), (hs.re ⟨rfl, rfl, rfl, rfl, rfl, rfl, rfl, trivial⟩)⟩))), by omega⟩
    · obtain ⟨f, y, rfl, hf, hy, hk, hs⟩ := hJ
      refine wp_seq ?_
      refine wp_seq ?_
      refine wp_region_lit ?_
      refine lstep (wpO_plain rfl (op_move hs none rfl rfl rfl rfl fun ac hs => ?_))
      refine lstep (wpO_plain rfl (op_bin hs none (v := .bool false) rfl rfl rfl rfl (fun _ => rfl) (fun _ => by kernel_rfl) rfl fun ac hs => ?_))
      refine wpList_nil ?_
      refine then_n ?_
      refine wp_cond_false (hs.ev rfl) ?_
      refine wp_exit ?_
      refine then_e ?_
      refine then_e ?_
      refine blk_e ?_
      refine then_n ?_
      refine wp_seq ?_
      refine wp_seq ?_
      by_cases hq24 : y = true
      · skip
        have hyy : y = true := hq24
        replace hs := hs.re (fs' := [(2, true, .pointer (some ⟨g1, 0, none⟩)), (3, true, .int .i64 0), (4, true, .int .i64 ((b / 16777216 : Nat) : Int)), (5, true, .slice (some ⟨g2, 0, none⟩) 3 3), (6, true, .pointer (some ⟨g5, 0, none⟩)), (7, true, .bool true), (8, true, .int .i64 3), (29, true, .int .i64 3), (30, true, .bool false)]) ⟨rfl, rfl, rfl, rfl, rfl, congrArg some (by rw [hyy]), rfl, rfl, rfl, trivial⟩
        refine wp_region_lit ?_
        refine lstep (wpO_plain rfl (op_move hs none rfl rfl rfl rfl fun ac hs => ?_))
        refine lstep (wpO_plain rfl (op_un hs none (v := .bool false) rfl rfl rfl (fun _ => rfl) rfl fun ac hs => ?_))
        refine wpList_nil ?_
        refine then_n ?_
        refine wp_cond_false (hs.ev rfl) ?_
        refine wp_skip ?_
        refine then_n ?_
        refine wp_seq ?_
        refine wp_region_lit ?_
        refine lstep (wpO_plain rfl (op_load hs none 2 (v := At .u8 32 f) rfl rfl rfl rfl Try.isAgg32 Try.sizeOf32 ldv_tab rfl fun ac hs => ?_))
        obtain ⟨a25, ha25, la25⟩ : ∃ z0, pr f 0 32 = z0 ∧ z0 < 2 ^ 256 := ⟨_, rfl, pr_lt32 (by8_bd hf)⟩
        refine lstep (wpO_plain rfl (op_call (F := 29) hs none (v := W a25) rfl rfl rfl rfl (Try.call29 _) (rread_c f a25 (by8_bd hf) ha25) rfl fun ac w hs => ?_))
        refine lstep (wpO_plain rfl (op_store hs 0 (vs := (Wl a25)) rfl rfl rfl rfl rfl Try.sizeOf25 rfl rfl rfl rfl rfl fun w hs => ?_))
        refine lstep (wpO_plain rfl (op_assign hs none rfl rfl rfl rfl fun ac hs => ?_))
        refine wpList_nil ?_
        refine then_n ?_
        refine wp_ret ?_
        exact bodyPost_ret (res2 rfl (rv_c hs 0 (v := W a25) rfl rfl Try.isAgg25 Try.sizeOf25 rfl) (rv_t hs rfl)) hs.defers ⟨by rw [← hx, tgt_epx hp4 hk, ec, if_neg (of_decide_eq_true (hy.trans hyy)), ← read_epx hf, ha25]; first | done | rfl, hs.below⟩
      · skip
        have hyy : y = false := Bool.eq_false_iff.2 hq24
        replace hs := hs.re (fs' := [(2, true, .pointer (some ⟨g1, 0, none⟩)), (3, true, .int .i64 0), (4, true, .int .i64 ((b / 16777216 : Nat) : Int)), (5, true, .slice (some ⟨g2, 0, none⟩) 3 3), (6, true, .pointer (some ⟨g5, 0, none⟩)), (7, true, .bool false), (8, true, .int .i64 3), (29, true, .int .i64 3), (30, true, .bool false)]) ⟨rfl, rfl, rfl, rfl, rfl, congrArg some (by rw [hyy]), rfl, rfl, rfl, trivial⟩
        refine wp_region_lit ?_
        refine lstep (wpO_plain rfl (op_move hs none rfl rfl rfl rfl fun ac hs => ?_))
        refine lstep (wpO_plain rfl (op_un hs none (v := .bool true) rfl rfl rfl (fun _ => rfl) rfl fun ac hs => ?_))
        refine wpList_nil ?_
        refine then_n ?_
        refine wp_cond_true (hs.ev rfl) ?_
        refine wp_seq ?_
        refine wp_region_lit ?_
        refine lstep (wpO_plain rfl (op_build hs none (qs := []) (v := .agg #[.int .u64 0, .int .u64 0, .int .u64 0, .int .u64 0]) rfl rfl rfl rfl (fun _ => by kernel_rfl) rfl fun ac hs => ?_))
        refine lstep (wpO_plain rfl (op_store hs 0 (vs := [.int .u64 0, .int .u64 0, .int .u64 0, .int .u64 0]) rfl rfl rfl rfl rfl Try.sizeOf25 rfl rfl rfl rfl rfl fun w hs => ?_))
        refine lstep (wpO_plain rfl (op_assign hs none rfl rfl rfl rfl fun ac hs => ?_))
        refine wpList_nil ?_
        refine then_n ?_
        refine wp_ret ?_
        refine then_r ?_
        exact bodyPost_ret (res2 rfl (rv_c hs 0 (v := .agg #[.int .u64 0, .int .u64 0, .int .u64 0, .int .u64 0]) rfl rfl Try.isAgg25 Try.sizeOf25 rfl) (rv_t hs rfl)) hs.defers ⟨by rw [← hx, tgt_epx hp4 hk, of_decide_ne (hy.trans hyy)]; rfl, hs.below⟩
theorem rcompact_c (t x : Nat) (lt : t < 2 ^ 256) (hx : cpt t = x) (w0 : World) : Calls Try.prog 13 #[W t] w0 fun e w' => e = .returned (.int .u32 ((x : Nat) : Int)) ∧ Below w0.heap.size w0 w' := by
  have hn := nb_le lt
  have hlow := low3_lt t
  refine enter (n := 42) (args := [W t]) Try.func13 rfl rfl (Nat.le_of_ble_eq_true rfl) fun ac hs => ?_
  refine wp_seq ?_
  refine wp_region_lit ?_
  refine lstep (wpO_plain rfl (op_box hs none none (cs := (Wl t)) rfl rfl rfl rfl rfl rfl fun g1 ac w hs => ?_))
  refine lstep (wpO_plain rfl (op_assign hs none rfl rfl rfl rfl fun ac hs => ?_))
  refine wpList_nil ?_
  refine then_n ?_
  refine wp_seq ?_
  refine wp_region_lit ?_
  refine lstep (wpO_plain rfl (op_load hs none 0 (v := W t) rfl rfl rfl rfl Try.isAgg25 Try.sizeOf25 rfl rfl fun ac hs => ?_))
  refine lstep (wpO_plain rfl (op_call (F := 30) hs none (v := At .u8 32 (by8 t)) rfl rfl rfl rfl (Try.call30 _) (rbytes_c t lt) rfl fun ac w hs => ?_))
  refine lstep (wpO_plain rfl (op_alloc hs none none (cs := (tab .u8 32 (fun _ => 0))) rfl rfl Try.zeroValue32 (by kernel_rfl) rfl rfl fun g2 ac w hs => ?_))
  refine lstep (wpO_plain rfl (op_store hs 1 (vs := (tab .u8 32 (by8 t))) rfl rfl rfl rfl rfl Try.sizeOf32 (by kernel_rfl) tab_length' (tab_one _ _ _) tab_leA wr_tab fun w hs => ?_))
  refine wpList_nil ?_
  refine then_n ?_
  refine wp_seq ?_
  refine wp_region_lit ?_
  refine lstep (wpO_plain rfl (op_load hs none 0 (v := W t) rfl rfl rfl rfl Try.isAgg25 Try.sizeOf25 rfl rfl fun ac hs => ?_))
  have ll3 := ln_le t 256 lt
  refine lstep (wpO_plain rfl (op_call (F := 31) hs none (v := .int .i64 ((ln t : Nat) : Int)) rfl rfl rfl rfl (Try.call31 _) (fun w => lenR_any w t lt) rfl fun ac w hs => ?_))
  refine lstep (wpO_plain rfl (op_bin hs none (v := .int .i64 ((ln t + 7 : Nat) : Int)) rfl rfl rfl rfl (fun _ => rfl) (bin_addN (x := ln t) (y := 7) (z := ln t + 7) rfl (show ln t + 7 < 9223372036854775808 by omega)) rfl fun ac hs => ?_))
  refine lstep (wpO_plain rfl (op_bin hs none (v := .int .i64 (((ln t + 7) / 8 : Nat) : Int)) rfl rfl rfl rfl (fun _ => rfl) (bin_quoN (x := ln t + 7) (y := 8) (z := (ln t + 7) / 8) rfl (by decide) (show ln t + 7 < 9223372036854775808 by omega)) rfl fun ac hs => ?_))
  refine lstep (wpO_plain rfl (op_assign hs none rfl rfl rfl rfl fun ac hs => ?_))
  refine wpList_nil ?_
  replace hs := hs.re (fs' := [(0, true, W t), (1, true, .pointer (some ⟨g1, 0, none⟩)), (2, true, .int .u32 0), (7, true, W t), (8, true, At .u8 32 (by8 t)), (3, true, .pointer (some ⟨g2, 0, none⟩)), (9, true, W t), (10, true, .int .i64 ((ln t : Nat) : Int)), (11, true, .int .i64 ((ln t + 7 : Nat) : Int)), (12, true, .int .i64 (((ln t + 7) / 8 : Nat) : Int)), (4, true, .int .i64 ((nb t : Nat) : Int))]) ⟨rfl, rfl, rfl, rfl, rfl, rfl, rfl, rfl, rfl, rfl, congrArg some rfl, trivial⟩
  refine then_n ?_
  refine wp_seq ?_
  refine wp_region_lit ?_
  refine lstep (wpO_plain rfl (op_assign hs none rfl rfl rfl rfl fun ac hs => ?_))
  refine wpList_nil ?_
  refine then_n ?_
  refine wp_seq ?_
  refine wp_seq ?_
  refine wp_region_lit ?_
  refine lstep (wpO_plain rfl (op_assign hs none rfl rfl rfl rfl fun ac hs => ?_))
  refine wpList_nil ?_
  refine then_n ?_
  refine wp_block ?_
  refine wp_loop_m (fun μ ac w => ∃ (i : Nat) (m : Nat), (3 - i) = μ ∧ (i ≤ 3) ∧ (m = cmx t i) ∧ St 42 w0 [(1, true, .pointer (some ⟨g1, 0, none⟩)), (2, true, .int .u32 0), (3, true, .pointer (some ⟨g2, 0, none⟩)), (4, true, .int .i64 ((nb t : Nat) : Int)), (5, true, .int .u32 ((m : Nat) : Int)), (6, true, .int .i64 ((i : Nat) : Int))] [(true, g1, 25, (Wl t)), (true, g2, 32, (tab .u8 32 (by8 t)))] ac w) ?_ ?_
  · exact ⟨_, 0, 0, rfl, (by omega), rfl, (hs.re ⟨rfl, rfl, rfl, rfl, rfl, rfl, trivial⟩)⟩
  intro μ ac w ⟨i, m, hμ, hi, hmv, hs⟩
  refine wp_seq ?_
  refine wp_seq ?_
  refine wp_region_lit ?_
  refine lstep (wpO_plain rfl (op_move hs none rfl rfl rfl rfl fun ac hs => ?_))
  refine lstep (wpO_plain rfl (op_bin hs none (v := .bool (decide (i < 3))) rfl rfl rfl rfl (fun _ => rfl) (bin_lssN (x := i) (y := 3)) rfl fun ac hs => ?_))
  refine wpList_nil ?_
  refine then_n ?_
  refine wp_cond_split (hs.ev rfl) (fun hc => ?_) (fun hc => ?_)
  · skip
    have hp4 := of_decide_eq_true hc
    have hlt : i < 3 := of_decide_eq_true hc
    have hmm : m < 65536 := by rw [hmv]; exact cmx_lt hlt
    refine wp_skip ?_
    refine then_n ?_
    refine wp_seq ?_
    refine wp_block ?_
    refine wp_seq ?_
    refine wp_region_lit ?_
    refine lstep (wpO_plain rfl (op_move hs none rfl rfl rfl rfl fun ac hs => ?_))
    refine lstep (wpO_plain rfl (op_bin hs none (v := .int .u32 ((m * 256 : Nat) : Int)) rfl rfl rfl rfl (fun _ => rfl) (bin_mulN (x := m) (y := 256) (z := m * 256) rfl (show m * 256 < 4294967296 by omega)) rfl fun ac hs => ?_))
    refine lstep (wpO_plain rfl (op_assign hs none rfl rfl rfl rfl fun ac hs => ?_))
    refine wpList_nil ?_
    refine then_n ?_
    refine wp_seq ?_
    refine wp_region_lit ?_
    refine lstep (wpO_plain rfl (op_move hs none rfl rfl rfl rfl fun ac hs => ?_))
    refine lstep (wpO_plain rfl (op_move hs none rfl rfl rfl rfl fun ac hs => ?_))
    refine lstep (wpO_plain rfl (op_bin hs none (v := .bool (decide (i < nb t))) rfl rfl rfl rfl (fun _ => rfl) (bin_lssN (x := i) (y := nb t)) rfl fun ac hs => ?_))
    refine wpList_nil ?_
    refine then_n ?_
    refine wp_cond_split (hs.ev rfl) (fun hc => ?_) (fun hc => ?_)
    · skip
      have hp5 := of_decide_eq_true hc
      refine wp_region_lit ?_
      refine lstep (wpO_plain rfl (op_move hs none rfl rfl rfl rfl fun ac hs => ?_))
      refine lstep (wpO_plain rfl (op_move hs none rfl rfl rfl rfl fun ac hs => ?_))
      refine lstep (wpO_plain rfl (op_bin hs none (v := .int .i64 ((32 - (nb t) : Nat) : Int)) rfl rfl rfl rfl (fun _ => rfl) (bin_subN (x := 32) (y := nb t) (z := 32 - (nb t)) (by omega) (show 32 - (nb t) < 9223372036854775808 by omega)) rfl fun ac hs => ?_))
      refine lstep (wpO_plain rfl (op_move hs none rfl rfl rfl rfl fun ac hs => ?_))
      refine lstep (wpO_plain rfl (op_bin hs none (v := .int .i64 ((32 - (nb t) + i : Nat) : Int)) rfl rfl rfl rfl (fun _ => rfl) (bin_addN (x := 32 - (nb t)) (y := i) (z := 32 - (nb t) + i) rfl (show 32 - (nb t) + i < 9223372036854775808 by omega)) rfl fun ac hs => ?_))
      refine lstep (wpO_plain rfl (op_idxA hs none (j := 32 - (nb t) + i) rfl rfl rfl rfl Try.underlying32 Try.sizeOf5 (show 32 - (nb t) + i < 32 by omega) (off := 32 - (nb t) + i) (by omega) rfl fun ac hs => ?_))
      have l6 := by8_lt t (32 - (nb t) + i)
      refine lstep (wpO_plain rfl (op_load hs none 1 (v := .int .u8 (((by8 t) (32 - (nb t) + i) : Nat) : Int)) rfl rfl rfl rfl Try.isAgg5 Try.sizeOf5 (tab_get (j := 32 - (nb t) + i) (show 32 - (nb t) + i < 32 by omega)) rfl fun ac hs => ?_))
      refine lstep (wpO_plain rfl (op_convert hs none (v := .int .u32 (((by8 t) (32 - (nb t) + i) : Nat) : Int)) rfl rfl rfl (conv_N Try.underlying5 Try.underlying22 (show (by8 t) (32 - (nb t) + i) < 4294967296 by omega)) rfl fun ac hs => ?_))
      refine lstep (wpO_plain rfl (op_bin hs none (v := .int .u32 ((m * 256 + ((by8 t) (32 - (nb t) + i)) : Nat) : Int)) rfl rfl rfl rfl (fun _ => rfl) (bin_addN (x := m * 256) (y := (by8 t) (32 - (nb t) + i)) (z := m * 256 + ((by8 t) (32 - (nb t) + i))) rfl (show m * 256 + ((by8 t) (32 - (nb t) + i)) < 4294967296 by omega)) rfl fun ac hs => ?_))
      refine lstep (wpO_plain rfl (op_assign hs none rfl rfl rfl rfl fun ac hs => ?_))
      refine wpList_nil ?_
      refine blk_n ?_
      refine then_n ?_
      refine wp_region_lit ?_
      refine lstep (wpO_plain rfl (op_move hs none rfl rfl rfl rfl fun ac hs => ?_))
      refine lstep (wpO_plain rfl (op_bin hs none (v := .int .i64 ((i + 1 : Nat) : Int)) rfl rfl rfl rfl (fun _ => rfl) (bin_addN (x := i) (y := 1) (z := i + 1) rfl (show i + 1 < 9223372036854775808 by omega)) rfl fun ac hs => ?_))
      refine lstep (wpO_plain rfl (op_assign hs none rfl rfl rfl rfl fun ac hs => ?_))
      refine wpList_nil ?_
      refine then_n ?_
      exact ⟨_, ⟨(i + 1), (m * 256 + ((by8 t) (32 - (nb t) + i))), rfl, hlt, (by rw [cmx_yes hp5, ← hmv]), (hs.re ⟨rfl, rfl, rfl, rfl, rfl, rfl, trivial⟩)⟩, (by omega)⟩
    · skip
      have hp7 := of_decide_eq_false hc
      refine wp_skip ?_
      refine blk_n ?_
      refine then_n ?_
      refine wp_region_lit ?_
      refine lstep (wpO_plain rfl (op_move hs none rfl rfl rfl rfl fun ac hs => ?_))
      refine lstep (wpO_plain rfl (op_bin hs none (v := .int .i64 ((i + 1 : Nat) : Int)) rfl rfl rfl rfl (fun _ => rfl) (bin_addN (x := i) (y := 1) (z := i + 1) rfl (show i + 1 < 9223372036854775808 by omega)) rfl fun ac hs => ?_))
      refine lstep (wpO_plain rfl (op_assign hs none rfl rfl rfl rfl fun ac hs => ?_))
      refine wpList_nil ?_
      refine then_n ?_
      exact ⟨_, ⟨(i + 1), (m * 256), rfl, hlt, (by rw [cmx_no hp7, ← hmv]), (hs.re ⟨rfl, rfl, rfl, rfl, rfl, rfl, trivial⟩)⟩, (by omega)⟩
  · skip
    have hp8 := of_decide_eq_false hc
    obtain rfl : i = 3 := by omega
    have hm3 : m = low3 t := hmv.trans (cmx_low lt)
    replace hs := hs.re (fs' := [(1, true, .pointer (some ⟨g1, 0, none⟩)), (2, true, .int .u32 0), (3, true, .pointer (some ⟨g2, 0, none⟩)), (4, true, .int .i64 ((nb t : Nat) : Int)), (5, true, .int .u32 ((low3 t : Nat) : Int)), (6, true, .int .i64 ((3 : Nat) : Int)), (13, true, .int .i64 ((3 : Nat) : Int)), (14, true, .bool (decide (3 < 3)))]) ⟨rfl, rfl, rfl, rfl, congrArg some (by rw [hm3]), rfl, rfl, rfl, trivial⟩
    refine wp_exit ?_
    refine then_e ?_
    refine then_e ?_
    refine blk_e ?_
    refine then_n ?_
    refine wp_seq ?_
    refine wp_seq ?_
    refine wp_region_lit ?_
    refine lstep (wpO_plain rfl (op_move hs none rfl rfl rfl rfl fun ac hs => ?_))
    refine lstep (wpO_plain rfl (op_bin hs none (v := .bool (decide (8388608 ≤ low3 t))) rfl rfl rfl rfl (fun _ => rfl) (bin_geqN (x := low3 t) (y := 8388608)) rfl fun ac hs => ?_))
    refine wpList_nil ?_
    refine then_n ?_
    refine wp_cond_split (hs.ev rfl) (fun hc => ?_) (fun hc => ?_)
    · skip
      have hp9 := of_decide_eq_true hc
      refine wp_seq ?_
      refine wp_region_lit ?_
      refine lstep (wpO_plain rfl (op_move hs none rfl rfl rfl rfl fun ac hs => ?_))
      refine lstep (wpO_plain rfl (op_bin hs none (v := .int .u32 (((low3 t) / 256 : Nat) : Int)) rfl rfl rfl rfl (fun _ => rfl) (bin_quoN (x := low3 t) (y := 256) (z := (low3 t) / 256) rfl (by decide) (show low3 t < 4294967296 by omega)) rfl fun ac hs => ?_))
      refine lstep (wpO_plain rfl (op_assign hs none rfl rfl rfl rfl fun ac hs => ?_))
      refine wpList_nil ?_
      refine then_n ?_
      refine wp_region_lit ?_
      refine lstep (wpO_plain rfl (op_move hs none rfl rfl rfl rfl fun ac hs => ?_))
      refine lstep (wpO_plain rfl (op_bin hs none (v := .int .i64 ((nb t + 1 : Nat) : Int)) rfl rfl rfl rfl (fun _ => rfl) (bin_addN (x := nb t) (y := 1) (z := nb t + 1) rfl (show nb t + 1 < 9223372036854775808 by omega)) rfl fun ac hs => ?_))
      refine lstep (wpO_plain rfl (op_assign hs none rfl rfl rfl rfl fun ac hs => ?_))
      refine wpList_nil ?_
      refine then_n ?_
      refine wp_seq ?_
      refine wp_region_lit ?_
      refine lstep (wpO_plain rfl (op_move hs none rfl rfl rfl rfl fun ac hs => ?_))
      refine lstep (wpO_plain rfl (op_convert hs none (v := .int .u32 ((nb t + 1 : Nat) : Int)) rfl rfl rfl (conv_N Try.underlying3 Try.underlying22 (show nb t + 1 < 4294967296 by omega)) rfl fun ac hs => ?_))
      refine lstep (wpO_plain rfl (op_bin hs none (v := .int .u32 (((nb t + 1) * 16777216 : Nat) : Int)) rfl rfl rfl rfl (fun _ => rfl) (bin_mulN (x := nb t + 1) (y := 16777216) (z := (nb t + 1) * 16777216) rfl (show (nb t + 1) * 16777216 < 4294967296 by omega)) rfl fun ac hs => ?_))
      refine lstep (wpO_plain rfl (op_move hs none rfl rfl rfl rfl fun ac hs => ?_))
      refine lstep (wpO_plain rfl (op_bin hs none (v := .int .u32 (((nb t + 1) * 16777216 + ((low3 t) / 256) : Nat) : Int)) rfl rfl rfl rfl (fun _ => rfl) (bin_addN (x := (nb t + 1) * 16777216) (y := (low3 t) / 256) (z := (nb t + 1) * 16777216 + ((low3 t) / 256)) rfl (show (nb t + 1) * 16777216 + ((low3 t) / 256) < 4294967296 by omega)) rfl fun ac hs => ?_))
      refine lstep (wpO_plain rfl (op_assign hs none rfl rfl rfl rfl fun ac hs => ?_))
      refine wpList_nil ?_
      refine then_n ?_
      refine wp_ret ?_
      exact bodyPost_ret (res1 rfl (rv_t hs rfl)) hs.defers ⟨by rw [← hx, cpt, if_pos hp9], hs.below⟩
    · skip
      have hp10 := of_decide_eq_false hc
      refine wp_skip ?_
      refine then_n ?_
      refine wp_seq ?_
      refine wp_region_lit ?_
      refine lstep (wpO_plain rfl (op_move hs none rfl rfl rfl rfl fun ac hs => ?_))
      refine lstep (wpO_plain rfl (op_convert hs none (v := .int .u32 ((nb t : Nat) : Int)) rfl rfl rfl (conv_N Try.underlying3 Try.underlying22 (show nb t < 4294967296 by omega)) rfl fun ac hs => ?_))
      refine lstep (wpO_plain rfl (op_bin hs none (v := .int .u32 (((nb t) * 16777216 : Nat) : Int)) rfl rfl rfl rfl (fun _ => rfl) (bin_mulN (x := nb t) (y := 16777216) (z := (nb t) * 16777216) rfl (show (nb t) * 16777216 < 4294967296 by omega)) rfl fun ac hs => ?_))
      refine lstep (wpO_plain rfl (op_move hs none rfl rfl rfl rfl fun ac hs => ?_))
      refine lstep (wpO_plain rfl (op_bin hs none (v := .int .u32 (((nb t) * 16777216 + (low3 t) : Nat) : Int)) rfl rfl rfl rfl (fun _ => rfl) (bin_addN (x := (nb t) * 16777216) (y := low3 t) (z := (nb t) * 16777216 + (low3 t)) rfl (show (nb t) * 16777216 + (low3 t) < 4294967296 by omega)) rfl fun ac hs => ?_))
      refine lstep (wpO_plain rfl (op_assign hs none rfl rfl rfl rfl fun ac hs => ?_))
      refine wpList_nil ?_
      refine then_n ?_
      refine wp_ret ?_
      exact bodyPost_ret (res1 rfl (rv_t hs rfl)) hs.defers ⟨by rw [← hx, cpt, if_neg hp10], hs.below⟩
theorem rmeets_c (f : Nat → Nat) (b : Nat) (q : Bool) (hf : ∀ j, j < 32 → f j < 256) (hb : b < 4294967296) (hq : mts f b = q) (w0 : World) : Calls Try.prog 15 #[At .u8 32 f, .int .u32 ((b : Nat) : Int)] w0 fun e w' => e = .returned (.bool q) ∧ Below w0.heap.size w0 w' := by
  refine enter (n := 25) (args := [At .u8 32 f, .int .u32 ((b : Nat) : Int)]) Try.func15 rfl rfl (Nat.le_of_ble_eq_true rfl) fun ac hs => ?_
  refine wp_seq ?_
  refine wp_region_lit ?_
  refine lstep (wpO_plain rfl (op_box hs none none (cs := (tab .u8 32 f)) rfl rfl rfl rfl rfl rfl fun g1 ac w hs => ?_))
  refine lstep (wpO_plain rfl (op_assign hs none rfl rfl rfl rfl fun ac hs => ?_))
  refine wpList_nil ?_
  refine then_n ?_
  refine wp_seq ?_
  refine wp_region_lit ?_
  refine lstep (wpO_plain rfl (op_move hs none rfl rfl rfl rfl fun ac hs => ?_))
  obtain ⟨x2, hx2, lx2⟩ : ∃ z0, tgt b = z0 ∧ z0 < 2 ^ 256 := ⟨_, rfl, tgt_lt' _⟩
  refine lstep (wpO_plain rfl (op_call (F := 10) hs none (v := .tuple #[W x2, .int .i64 ((ec x2 : Nat) : Int)]) rfl rfl rfl rfl (Try.call10 _) (rexpand_c b x2 (show b < 4294967296 by omega) hx2) rfl fun ac w hs => ?_))
  refine lstep (wpO_plain rfl (op_move hs none rfl rfl rfl rfl fun ac hs => ?_))
  refine lstep (wpO_plain rfl (op_extract hs none rfl rfl rfl rfl rfl fun ac hs => ?_))
  refine lstep (wpO_plain rfl (op_extract hs none rfl rfl rfl rfl rfl fun ac hs => ?_))
  refine lstep (wpO_plain rfl (op_alloc hs none none (cs := [.int .u64 0, .int .u64 0, .int .u64 0, .int .u64 0]) rfl rfl Try.zeroValue25 (by kernel_rfl) rfl rfl fun g3 ac w hs => ?_))
  refine lstep (wpO_plain rfl (op_store hs 1 (vs := (Wl x2)) rfl rfl rfl rfl rfl Try.sizeOf25 rfl rfl rfl rfl rfl fun w hs => ?_))
  refine lstep (wpO_plain rfl (op_assign hs none rfl rfl rfl rfl fun ac hs => ?_))
  refine wpList_nil ?_
  refine then_n ?_
  refine wp_seq ?_
  refine wp_region_lit ?_
  refine lstep (wpO_plain rfl (op_val hs none (v := .slice (some ⟨g1, 0, none⟩) 32 32) rfl rfl (run_slA rfl (hs.ev rfl) Try.underlying32 Try.sizeOf5) fun ac hs => ?_))
  refine lstep (wpO_plain rfl (op_callMW (F := 34) hs none none (T := 5) (v := fun g c => .slice (some ⟨g, 0, none⟩) 32 c) (cs := (tab .u8 32 (rvb f))) rfl rfl rfl rfl (Try.call34 _) (fun hs => turned_c f g1 _ _ (hs.cellT0 (k := 0) rfl) hf) rfl rfl fun g4 sp5 ac w hs => ?_))
  refine lstep (wpO_plain rfl (op_callW (F := 33) hs none (v := At .u8 32 (rvb f)) rfl rfl rfl rfl (Try.call33 _) (fun hs => hash_c (rvb f) g4 _ _ (hs.cellT (k := 2) rfl)) rfl fun ac w hs => ?_))
  obtain ⟨a6, ha6, la6⟩ : ∃ z0, pr (rvb f) 0 32 = z0 ∧ z0 < 2 ^ 256 := ⟨_, rfl, pr_lt32 (rvb_lt hf)⟩
  refine lstep (wpO_plain rfl (op_call (F := 29) hs none (v := W a6) rfl rfl rfl rfl (Try.call29 _) (rread_c (rvb f) a6 (rvb_lt hf) ha6) rfl fun ac w hs => ?_))
  refine lstep (wpO_plain rfl (op_alloc hs none none (cs := [.int .u64 0, .int .u64 0, .int .u64 0, .int .u64 0]) rfl rfl Try.zeroValue25 (by kernel_rfl) rfl rfl fun g7 ac w hs => ?_))
  refine lstep (wpO_plain rfl (op_store hs 3 (vs := (Wl a6)) rfl rfl rfl rfl rfl Try.sizeOf25 rfl rfl rfl rfl rfl fun w hs => ?_))
  refine wpList_nil ?_
  refine then_n ?_
  refine wp_seq ?_
  by_cases hq8 : x2 = 0
  · skip
    refine wp_region_lit ?_
    refine lstep (wpO_plain rfl (op_move hs none rfl rfl rfl rfl fun ac hs => ?_))
    refine lstep (wpO_plain rfl (op_bin hs none (v := .bool false) rfl rfl rfl rfl (fun _ => rfl) (fun w => dF (fun hh => ec_zero.1 hh hq8) (bin_eqlN (x := ec x2) (y := 0) w)) rfl fun ac hs => ?_))
    refine lstep (wpO_plain rfl (op_move hs none rfl rfl rfl rfl fun ac hs => ?_))
    refine lstep (wpO_out hs none rfl rfl (.inl rfl) rfl rfl fun ac hs => ?_)
    refine lstep (wpO_out hs none rfl rfl (.inl rfl) rfl rfl fun ac hs => ?_)
    refine lstep (wpO_out hs none rfl rfl (.inl rfl) rfl rfl fun ac hs => ?_)
    refine lstep (wpO_out hs none rfl rfl (.inl rfl) rfl rfl fun ac hs => ?_)
    refine lstep (wpO_plain rfl (op_pickF hs none rfl rfl rfl rfl rfl fun ac hs => ?_))
    refine lstep (wpO_plain rfl (op_assign hs none rfl rfl rfl rfl fun ac hs => ?_))
    refine wpList_nil ?_
    refine then_n ?_
    refine wp_ret ?_
    exact bodyPost_ret (res1 rfl (rv_t hs rfl)) hs.defers ⟨by rw [← hq, mts, hx2, decide_eq_false (fun hh => hh hq8), Bool.false_and], hs.below⟩
  · skip
    refine wp_region_lit ?_
    refine lstep (wpO_plain rfl (op_move hs none rfl rfl rfl rfl fun ac hs => ?_))
    refine lstep (wpO_plain rfl (op_bin hs none (v := .bool true) rfl rfl rfl rfl (fun _ => rfl) (fun w => dT (ec_zero.2 hq8) (bin_eqlN (x := ec x2) (y := 0) w)) rfl fun ac hs => ?_))
    refine lstep (wpO_plain rfl (op_move hs none rfl rfl rfl rfl fun ac hs => ?_))
    refine lstep (wpO_in hs rfl rfl rfl (op_load hs none 3 (v := W a6) rfl rfl rfl rfl Try.isAgg25 Try.sizeOf25 rfl rfl fun ac hs => ?_))
    refine lstep (wpO_in hs rfl rfl rfl (op_load hs none 1 (v := W x2) rfl rfl rfl rfl Try.isAgg25 Try.sizeOf25 rfl rfl fun ac hs => ?_))
    refine lstep (wpO_in hs rfl rfl rfl (op_call (F := 35) hs none (v := .int .i64 (cmpZ a6 x2)) rfl rfl rfl rfl (Try.call35 _) (rcmp_c a6 x2 la6 lx2) rfl fun ac w hs => ?_))
    refine lstep (wpO_in hs rfl rfl rfl (op_bin hs none (v := .bool (decide (a6 ≤ x2))) rfl rfl rfl rfl (fun _ => rfl) (bin_cmp_leq a6 x2) rfl fun ac hs => ?_))
    refine lstep (wpO_plain rfl (op_pickT hs none rfl rfl rfl rfl rfl fun ac hs => ?_))
    refine lstep (wpO_plain rfl (op_assign hs none rfl rfl rfl rfl fun ac hs => ?_))
    refine wpList_nil ?_
    refine then_n ?_
    refine wp_ret ?_
    exact bodyPost_ret (res1 rfl (rv_t hs rfl)) hs.defers ⟨by rw [← hq, mts, hx2, decide_eq_true hq8, Bool.true_and, ha6], hs.below⟩
theorem rwork_c (b wo : Nat) (hb : b < 4294967296) (hwo : wrk b = wo) (w0 : World) : Calls Try.prog 17 #[.int .u32 ((b : Nat) : Int)] w0 fun e w' => e = .returned (W wo) ∧ Below w0.heap.size w0 w' := by
  refine enter (n := 64) (args := [.int .u32 ((b : Nat) : Int)]) Try.func17 rfl rfl (Nat.le_of_ble_eq_true rfl) fun ac hs => ?_
  refine wp_seq ?_
  refine wp_region_lit ?_
  refine lstep (wpO_plain rfl (op_alloc hs none none (cs := [.int .u64 0, .int .u64 0, .int .u64 0, .int .u64 0]) rfl rfl Try.zeroValue25 (by kernel_rfl) rfl rfl fun g1 ac w hs => ?_))
  refine wpList_nil ?_
  refine then_n ?_
  refine wp_seq ?_
  refine wp_region_lit ?_
  refine lstep (wpO_plain rfl (op_move hs none rfl rfl rfl rfl fun ac hs => ?_))
  obtain ⟨x2, hx2, lx2⟩ : ∃ z0, tgt b = z0 ∧ z0 < 2 ^ 256 := ⟨_, rfl, tgt_lt' _⟩
  refine lstep (wpO_plain rfl (op_call (F := 10) hs none (v := .tuple #[W x2, .int .i64 ((ec x2 : Nat) : Int)]) rfl rfl rfl rfl (Try.call10 _) (rexpand_c b x2 (show b < 4294967296 by omega) hx2) rfl fun ac w hs => ?_))
  refine lstep (wpO_plain rfl (op_move hs none rfl rfl rfl rfl fun ac hs => ?_))
  refine lstep (wpO_plain rfl (op_extract hs none rfl rfl rfl rfl rfl fun ac hs => ?_))
  refine lstep (wpO_plain rfl (op_extract hs none rfl rfl rfl rfl rfl fun ac hs => ?_))
  refine lstep (wpO_plain rfl (op_alloc hs none none (cs := [.int .u64 0, .int .u64 0, .int .u64 0, .int .u64 0]) rfl rfl Try.zeroValue25 (by kernel_rfl) rfl rfl fun g3 ac w hs => ?_))
  refine lstep (wpO_plain rfl (op_store hs 1 (vs := (Wl x2)) rfl rfl rfl rfl rfl Try.sizeOf25 rfl rfl rfl rfl rfl fun w hs => ?_))
  refine lstep (wpO_plain rfl (op_assign hs none rfl rfl rfl rfl fun ac hs => ?_))
  refine wpList_nil ?_
  refine then_n ?_
  refine wp_seq ?_
  refine wp_seq ?_
  by_cases hq4 : x2 = 0
  · skip
    refine wp_region_lit ?_
    refine lstep (wpO_plain rfl (op_move hs none rfl rfl rfl rfl fun ac hs => ?_))
    refine lstep (wpO_plain rfl (op_bin hs none (v := .bool true) rfl rfl rfl rfl (fun _ => rfl) (fun w => dT (by rw [ec, if_pos hq4]; decide) (bin_neqN (x := ec x2) (y := 0) w)) rfl fun ac hs => ?_))
    refine wpList_nil ?_
    refine then_n ?_
    refine wp_cond_true (hs.ev rfl) ?_
    refine wp_seq ?_
    refine wp_region_lit ?_
    refine lstep (wpO_plain rfl (op_build hs none (qs := []) (v := .agg #[.int .u64 0, .int .u64 0, .int .u64 0, .int .u64 0]) rfl rfl rfl rfl (fun _ => by kernel_rfl) rfl fun ac hs => ?_))
    refine lstep (wpO_plain rfl (op_store hs 0 (vs := [.int .u64 0, .int .u64 0, .int .u64 0, .int .u64 0]) rfl rfl rfl rfl rfl Try.sizeOf25 rfl rfl rfl rfl rfl fun w hs => ?_))
    refine wpList_nil ?_
    refine then_n ?_
    refine wp_ret ?_
    refine then_r ?_
    exact bodyPost_ret (res1 rfl (rv_c hs 0 (v := .agg #[.int .u64 0, .int .u64 0, .int .u64 0, .int .u64 0]) rfl rfl Try.isAgg25 Try.sizeOf25 rfl)) hs.defers ⟨by rw [← hwo, wrk, if_pos (hx2.trans hq4)]; rfl, hs.below⟩
  · skip
    refine wp_region_lit ?_
    refine lstep (wpO_plain rfl (op_move hs none rfl rfl rfl rfl fun ac hs => ?_))
    refine lstep (wpO_plain rfl (op_bin hs none (v := .bool false) rfl rfl rfl rfl (fun _ => rfl) (fun w => dF (fun hh => hh (ec_zero.2 hq4)) (bin_neqN (x := ec x2) (y := 0) w)) rfl fun ac hs => ?_))
    refine wpList_nil ?_
    refine then_n ?_
    refine wp_cond_false (hs.ev rfl) ?_
    refine wp_skip ?_
    refine then_n ?_
    refine wp_seq ?_
    refine wp_region_lit ?_
    refine lstep (wpO_plain rfl (op_load hs none 1 (v := W x2) rfl rfl rfl rfl Try.isAgg25 Try.sizeOf25 rfl rfl fun ac hs => ?_))
    refine lstep (wpO_plain rfl (op_build hs none (qs := [(0, .int .u64 1)]) (v := .agg #[.int .u64 1, .int .u64 0, .int .u64 0, .int .u64 0]) rfl rfl rfl rfl (fun _ => by kernel_rfl) rfl fun ac hs => ?_))
    obtain ⟨s5, hs5, ls5⟩ : ∃ z0, (x2 + 1) % 2 ^ 256 = z0 ∧ z0 < 2 ^ 256 := ⟨_, rfl, Nat.mod_lt _ (Nat.two_pow_pos 256)⟩
    obtain ⟨c6, hc6⟩ : ∃ z0, (x2 + 1) / 2 ^ 256 = z0 := ⟨_, rfl⟩
    refine lstep (wpO_plain rfl (op_call (F := 37) hs none (v := .tuple #[W s5, .int .u64 ((c6 : Nat) : Int)]) rfl rfl rfl rfl (Try.call37 _) (radd06_c x2 1 s5 c6 lx2 (by decide) hs5 hc6) rfl fun ac w hs => ?_))
    refine lstep (wpO_plain rfl (op_move hs none rfl rfl rfl rfl fun ac hs => ?_))
    refine lstep (wpO_plain rfl (op_extract hs none rfl rfl rfl rfl rfl fun ac hs => ?_))
    refine lstep (wpO_plain rfl (op_extract hs none rfl rfl rfl rfl rfl fun ac hs => ?_))
    refine lstep (wpO_plain rfl (op_alloc hs none none (cs := [.int .u64 0, .int .u64 0, .int .u64 0, .int .u64 0]) rfl rfl Try.zeroValue25 (by kernel_rfl) rfl rfl fun g7 ac w hs => ?_))
    refine lstep (wpO_plain rfl (op_store hs 2 (vs := (Wl s5)) rfl rfl rfl rfl rfl Try.sizeOf25 rfl rfl rfl rfl rfl fun w hs => ?_))
    refine lstep (wpO_plain rfl (op_assign hs none rfl rfl rfl rfl fun ac hs => ?_))
    refine wpList_nil ?_
    refine then_n ?_
    refine wp_seq ?_
    refine wp_seq ?_
    refine wp_region_lit ?_
    refine lstep (wpO_plain rfl (op_move hs none rfl rfl rfl rfl fun ac hs => ?_))
    refine lstep (wpO_plain rfl (op_bin hs none (v := .bool false) rfl rfl rfl rfl (fun _ => rfl) (fun w => dF (by have := tgt_lt b; rw [hx2] at this; omega) (bin_eqlN (x := c6) (y := 1) w)) rfl fun ac hs => ?_))
    refine wpList_nil ?_
    refine then_n ?_
    refine wp_cond_false (hs.ev rfl) ?_
    refine wp_skip ?_
    refine then_n ?_
    refine wp_seq ?_
    refine wp_region_lit ?_
    refine lstep (wpO_plain rfl (op_build hs none (qs := []) (v := .agg #[.int .u64 0, .int .u64 0, .int .u64 0, .int .u64 0]) rfl rfl rfl rfl (fun _ => by kernel_rfl) rfl fun ac hs => ?_))
    refine lstep (wpO_plain rfl (op_alloc hs none none (cs := [.int .u64 0, .int .u64 0, .int .u64 0, .int .u64 0]) rfl rfl Try.zeroValue25 (by kernel_rfl) rfl rfl fun g8 ac w hs => ?_))
    refine lstep (wpO_plain rfl (op_store hs 3 (vs := [.int .u64 0, .int .u64 0, .int .u64 0, .int .u64 0]) rfl rfl rfl rfl rfl Try.sizeOf25 rfl rfl rfl rfl rfl fun w hs => ?_))
    refine wpList_nil ?_
    refine then_n ?_
    refine wp_seq ?_
    refine wp_seq ?_
    refine wp_region_lit ?_
    refine lstep (wpO_plain rfl (op_assign hs none rfl rfl rfl rfl fun ac hs => ?_))
    refine wpList_nil ?_
    refine then_n ?_
    refine wp_block ?_
    have hd0 := rwk_d hx2 hq4 hs5
    refine wp_loop_m (fun μ ac w => ∃ (k : Nat) (v : Nat), (k) = μ ∧ (k ≤ 256) ∧ (v < 2 ^ 256) ∧ (2 ^ 256 / s5 / 2 ^ k * 2 ^ k = v) ∧ St 64 w0 [(2, true, .pointer (some ⟨g1, 0, none⟩)), (5, true, .pointer (some ⟨g7, 0, none⟩)), (7, true, .pointer (some ⟨g8, 0, none⟩)), (8, true, .int .i64 (((k : Nat) : Int) - 1))] [(true, g1, 25, [.int .u64 0, .int .u64 0, .int .u64 0, .int .u64 0]), (true, g3, 25, (Wl x2)), (true, g7, 25, (Wl s5)), (true, g8, 25, (Wl v))] ac w) ?_ ?_
    · exact ⟨_, 256, 0, rfl, (by omega), (by decide), (rwk_start hd0.2), (hs.re ⟨rfl, rfl, rfl, rfl, trivial⟩)⟩
    intro μ ac w ⟨k, v, hμ, hk, lv, hw, hs⟩
    refine wp_seq ?_
    refine wp_seq ?_
    refine wp_region_lit ?_
    refine lstep (wpO_plain rfl (op_move hs none rfl rfl rfl rfl fun ac hs => ?_))
    refine lstep (wpO_plain rfl (op_bin hs none (v := .bool (decide (1 ≤ k))) rfl rfl rfl rfl (fun _ => rfl) bin_geqP rfl fun ac hs => ?_))
    refine wpList_nil ?_
    refine then_n ?_
    refine wp_cond_split (hs.ev rfl) (fun hc => ?_) (fun hc => ?_)
    · skip
      have hp9 := of_decide_eq_true hc
      replace hs := hs.re (fs' := [(2, true, .pointer (some ⟨g1, 0, none⟩)), (5, true, .pointer (some ⟨g7, 0, none⟩)), (7, true, .pointer (some ⟨g8, 0, none⟩)), (8, true, .int .i64 ((k - 1 : Nat) : Int)), (31, true, .int .i64 (((k : Nat) : Int) - 1)), (32, true, .bool (decide (1 ≤ k)))]) ⟨rfl, rfl, rfl, congrArg some (pre_nat hp9), rfl, rfl, trivial⟩
      refine wp_skip ?_
      refine then_n ?_
      refine wp_seq ?_
      refine wp_block ?_
      refine wp_seq ?_
      replace hs : St 64 w0 [(2, true, .pointer (some ⟨g1, 0, none⟩)), (5, true, .pointer (some ⟨g7, 0, none⟩)), (7, true, .pointer (some ⟨g8, 0, none⟩)), (8, true, .int .i64 ((k - 1 : Nat) : Int))] [(true, g1, 25, [.int .u64 0, .int .u64 0, .int .u64 0, .int .u64 0]), (true, g3, 25, (Wl x2)), (true, g7, 25, (Wl s5)), (true, g8, 25, (Wl v))] ac w := hs.re ⟨rfl, rfl, rfl, rfl, trivial⟩
      obtain ⟨sh10, hsh10, lsh10⟩ : ∃ z0, 1 * 2 ^ (k - 1) % 2 ^ 256 = z0 ∧ z0 < 2 ^ 256 := ⟨_, rfl, Nat.mod_lt _ (Nat.two_pow_pos 256)⟩
      obtain ⟨s11, hs11, ls11⟩ : ∃ z0, (v + sh10) % 2 ^ 256 = z0 ∧ z0 < 2 ^ 256 := ⟨_, rfl, Nat.mod_lt _ (Nat.two_pow_pos 256)⟩
      obtain ⟨c12, hc12⟩ : ∃ z0, (v + sh10) / 2 ^ 256 = z0 := ⟨_, rfl⟩
      refine region_inv [([], [4, 5, 6, 7, 9, 10]), ([], [3, 4, 5, 6, 7, 9, 10]), ([], [3, 4, 5, 6, 7, 9, 10]), ([1, 2], [4, 5, 6, 7, 9, 10]), ([0, 1, 2, 3], [5, 6, 7, 9, 10]), ([0, 1, 2, 3, 4], [6, 7, 9, 10]), ([0, 1, 2, 3, 4, 5], [9, 10]), ([0, 1, 2, 3, 4, 5], [10]), ([], [9, 10]), ([0, 1, 2, 3, 4, 5, 6, 8], [10]), ([0, 1, 2, 3, 4, 5, 6, 7, 8, 9], [])] (fun L ac w => ∃ (g13 : Nat), St 64 w0 [(36, L 0, W v), (37, L 1, .agg #[.int .u64 1, .int .u64 0, .int .u64 0, .int .u64 0]), (38, L 2, .int .i64 ((k - 1 : Nat) : Int)), (39, L 3, W sh10), (40, L 4, .tuple #[W s11, .int .u64 ((c12 : Nat) : Int)]), (35, L 5, .tuple #[W s11, .int .u64 ((c12 : Nat) : Int)]), (41, L 6, W s11), (42, L 7, .int .u64 ((c12 : Nat) : Int)), (9, L 8, .pointer (some ⟨g13, 0, none⟩)), (10, L 10, .int .u64 ((c12 : Nat) : Int)), (2, true, .pointer (some ⟨g1, 0, none⟩)), (5, true, .pointer (some ⟨g7, 0, none⟩)), (7, true, .pointer (some ⟨g8, 0, none⟩)), (8, true, .int .i64 ((k - 1 : Nat) : Int))] [(true, g1, 25, [.int .u64 0, .int .u64 0, .int .u64 0, .int .u64 0]), (true, g3, 25, (Wl x2)), (true, g7, 25, (Wl s5)), (true, g8, 25, (Wl v)), (L 8, g13, 25, (cond (L 9) (Wl s11) [.int .u64 0, .int .u64 0, .int .u64 0, .int .u64 0]))] ac w) (by kernel_rfl) (by kernel_rfl) ?_ ?_ ?_
      · exact ⟨0, hs.drew.skip.skip.skip.skip.skip.skip.skip.skip.skip.skip.pad⟩
      · refine ⟨?_, ?_, ?_, ?_, ?_, ?_, ?_, ?_, ?_, ?_, ?_, trivial⟩
        · intro L ac w hJ
          obtain ⟨g13, hs⟩ := hJ
          refine wpO_plain rfl (op_load hs (some 0) 3 (v := W v) rfl rfl rfl rfl Try.isAgg25 Try.sizeOf25 rfl rfl fun ac hs => ?_)
          exact ⟨g13, hs⟩
        · intro L ac w hJ
          obtain ⟨g13, hs⟩ := hJ
          refine wpO_plain rfl (op_build hs (some 1) (qs := [(0, .int .u64 1)]) (v := .agg #[.int .u64 1, .int .u64 0, .int .u64 0, .int .u64 0]) rfl rfl rfl rfl (fun _ => by kernel_rfl) rfl fun ac hs => ?_)
          exact ⟨g13, hs⟩
        · intro L ac w hJ
          obtain ⟨g13, hs⟩ := hJ
          refine wpO_plain rfl (op_move hs (some 2) rfl rfl rfl rfl fun ac hs => ?_)
          exact ⟨g13, hs⟩
        · intro L ac w hJ
          obtain ⟨g13, hs⟩ := hJ
          refine wpO_plain rfl (op_call (F := 38) hs (some 3) (v := W sh10) rfl rfl rfl rfl (Try.call38 _) (rshl_c 1 ((k - 1 : Nat) : Int) (k - 1) sh10 (by decide) (show min (max ((k - 1 : Nat) : Int) 0) 256 = ((k - 1 : Nat) : Int) by omega) hsh10) rfl fun ac w hs => ?_)
          exact ⟨g13, hs⟩
        · intro L ac w hJ
          obtain ⟨g13, hs⟩ := hJ
          refine wpO_plain rfl (op_call (F := 37) hs (some 4) (v := .tuple #[W s11, .int .u64 ((c12 : Nat) : Int)]) rfl rfl rfl rfl (Try.call37 _) (radd06_c v sh10 s11 c12 lv lsh10 hs11 hc12) rfl fun ac w hs => ?_)
          exact ⟨g13, hs⟩
        · intro L ac w hJ
          obtain ⟨g13, hs⟩ := hJ
          refine wpO_plain rfl (op_move hs (some 5) rfl rfl rfl rfl fun ac hs => ?_)
          exact ⟨g13, hs⟩
        · intro L ac w hJ
          obtain ⟨g13, hs⟩ := hJ
          refine wpO_plain rfl (op_extract hs (some 6) rfl rfl rfl rfl rfl fun ac hs => ?_)
          exact ⟨g13, hs⟩
        · intro L ac w hJ
          obtain ⟨g13, hs⟩ := hJ
          refine wpO_plain rfl (op_extract hs (some 7) rfl rfl rfl rfl rfl fun ac hs => ?_)
          exact ⟨g13, hs⟩
        · intro L ac w hJ
          obtain ⟨g13, hs⟩ := hJ
          refine wpO_plain rfl (op_alloc hs (some 8) (some 4) (cs := [.int .u64 0, .int .u64 0, .int .u64 0, .int .u64 0]) rfl rfl Try.zeroValue25 (by kernel_rfl) rfl rfl fun g13 ac w hs => ?_)
          exact ⟨g13, hs⟩
        · intro L ac w hJ
          obtain ⟨g13, hs⟩ := hJ
          refine wpO_plain rfl (op_store hs 4 (vs := (Wl s11)) rfl rfl rfl rfl rfl Try.sizeOf25 rfl rfl rfl rfl rfl fun w hs => ?_)
          exact ⟨g13, hs⟩
        · intro L ac w hJ
          obtain ⟨g13, hs⟩ := hJ
          refine wpO_plain rfl (op_assign hs (some 9) rfl rfl rfl rfl fun ac hs => ?_)
          exact ⟨g13, hs⟩
      intro ac w hJ
      obtain ⟨g13, hs⟩ := hJ
      replace hs : St 64 w0 [(36, true, W v), (37, true, .agg #[.int .u64 1, .int .u64 0, .int .u64 0, .int .u64 0]), (38, true, .int .i64 ((k - 1 : Nat) : Int)), (39, true, W sh10), (40, true, .tuple #[W s11, .int .u64 ((c12 : Nat) : Int)]), (35, true, .tuple #[W s11, .int .u64 ((c12 : Nat) : Int)]), (41, true, W s11), (42, true, .int .u64 ((c12 : Nat) : Int)), (9, true, .pointer (some ⟨g13, 0, none⟩)), (10, true, .int .u64 ((c12 : Nat) : Int)), (2, true, .pointer (some ⟨g1, 0, none⟩)), (5, true, .pointer (some ⟨g7, 0, none⟩)), (7, true, .pointer (some ⟨g8, 0, none⟩)), (8, true, .int .i64 ((k - 1 : Nat) : Int))] [(true, g1, 25, [.int .u64 0, .int .u64 0, .int .u64 0, .int .u64 0]), (true, g3, 25, (Wl x2)), (true, g7, 25, (Wl s5)), (true, g8, 25, (Wl v)), (true, g13, 25, (Wl s11))] ac w := hs
      refine then_n ?_
      refine wp_seq ?_
      refine wp_region_lit ?_
      refine lstep (wpO_plain rfl (op_load hs none 4 (v := W s11) rfl rfl rfl rfl Try.isAgg25 Try.sizeOf25 rfl rfl fun ac hs => ?_))
      refine lstep (wpO_plain rfl (op_load hs none 2 (v := W s5) rfl rfl rfl rfl Try.isAgg25 Try.sizeOf25 rfl rfl fun ac hs => ?_))
      obtain ⟨lo14, hlo14, llo14⟩ : ∃ z0, s11 * s5 % 2 ^ 256 = z0 ∧ z0 < 2 ^ 256 := ⟨_, rfl, Nat.mod_lt _ (Nat.two_pow_pos 256)⟩
      obtain ⟨hi15, hhi15, lhi15⟩ : ∃ z0, s11 * s5 / 2 ^ 256 = z0 ∧ z0 < 2 ^ 256 := ⟨_, rfl, mul_hi ls11 ls5⟩
      refine lstep (wpO_plain rfl (op_call (F := 39) hs none (v := .tuple #[W lo14, W hi15]) rfl rfl rfl rfl (Try.call39 _) (rmul_c s11 s5 lo14 hi15 ls11 ls5 hlo14 hhi15) rfl fun ac w hs => ?_))
      refine lstep (wpO_plain rfl (op_move hs none rfl rfl rfl rfl fun ac hs => ?_))
      refine lstep (wpO_plain rfl (op_extract hs none rfl rfl rfl rfl rfl fun ac hs => ?_))
      refine lstep (wpO_plain rfl (op_extract hs none rfl rfl rfl rfl rfl fun ac hs => ?_))
      refine lstep (wpO_plain rfl (op_alloc hs none none (cs := [.int .u64 0, .int .u64 0, .int .u64 0, .int .u64 0]) rfl rfl Try.zeroValue25 (by kernel_rfl) rfl rfl fun g16 ac w hs => ?_))
      refine lstep (wpO_plain rfl (op_alloc hs none none (cs := [.int .u64 0, .int .u64 0, .int .u64 0, .int .u64 0]) rfl rfl Try.zeroValue25 (by kernel_rfl) rfl rfl fun g17 ac w hs => ?_))
      refine lstep (wpO_plain rfl (op_store hs 5 (vs := (Wl lo14)) rfl rfl rfl rfl rfl Try.sizeOf25 rfl rfl rfl rfl rfl fun w hs => ?_))
      refine lstep (wpO_plain rfl (op_store hs 6 (vs := (Wl hi15)) rfl rfl rfl rfl rfl Try.sizeOf25 rfl rfl rfl rfl rfl fun w hs => ?_))
      refine wpList_nil ?_
      refine then_n ?_
      refine wp_seq ?_
      by_cases hq18 : hi15 = 0
      · skip
        refine wp_region_lit ?_
        refine lstep (wpO_plain rfl (op_load hs none 6 (v := W hi15) rfl rfl rfl rfl Try.isAgg25 Try.sizeOf25 rfl rfl fun ac hs => ?_))
        refine lstep (wpO_plain rfl (op_build hs none (qs := []) (v := .agg #[.int .u64 0, .int .u64 0, .int .u64 0, .int .u64 0]) rfl rfl rfl rfl (fun _ => by kernel_rfl) rfl fun ac hs => ?_))
        refine lstep (wpO_plain rfl (op_bin hs none (v := .bool true) rfl rfl rfl rfl (fun w => run_eqGuard_agg w .eql 25 _ _ _ _ Try.eqGuardType25) (eqlW hi15 0 lhi15 (by decide) true (decide_eq_true hq18)) rfl fun ac hs => ?_))
        refine lstep (wpO_plain rfl (op_move hs none rfl rfl rfl rfl fun ac hs => ?_))
        refine lstep (wpO_out hs none rfl rfl (.inl rfl) rfl rfl fun ac hs => ?_)
        refine lstep (wpO_out hs none rfl rfl (.inl rfl) rfl rfl fun ac hs => ?_)
        refine lstep (wpO_out hs none rfl rfl (.inl rfl) rfl rfl fun ac hs => ?_)
        refine lstep (wpO_out hs none rfl rfl (.inl rfl) rfl rfl fun ac hs => ?_)
        refine lstep (wpO_out hs none rfl rfl (.inr rfl) rfl rfl fun ac hs => ?_)
        refine lstep (wpO_out hs none rfl rfl (.inr rfl) rfl rfl fun ac hs => ?_)
        refine lstep (wpO_out hs none rfl rfl (.inr rfl) rfl rfl fun ac hs => ?_)
        refine lstep (wpO_out hs none rfl rfl (.inl rfl) rfl rfl fun ac hs => ?_)
        refine lstep (wpO_plain rfl (op_pickT hs none rfl rfl rfl rfl rfl fun ac hs => ?_))
        refine wpList_nil ?_
        refine then_n ?_
        refine wp_cond_true (hs.ev rfl) ?_
        refine wp_region_lit ?_
        refine lstep (wpO_plain rfl (op_load hs none 4 (v := W s11) rfl rfl rfl rfl Try.isAgg25 Try.sizeOf25 rfl rfl fun ac hs => ?_))
        refine lstep (wpO_plain rfl (op_store hs 3 (vs := (Wl s11)) rfl rfl rfl rfl rfl Try.sizeOf25 rfl rfl rfl rfl rfl fun w hs => ?_))
        refine wpList_nil ?_
        refine blk_n ?_
        refine then_n ?_
        refine wp_region_lit ?_
        refine lstep (wpO_plain rfl (op_move hs none rfl rfl rfl rfl fun ac hs => ?_))
        refine lstep (wpO_plain rfl (op_bin hs none (v := .int .i64 (((k - 1 : Nat) : Int) - 1)) rfl rfl rfl rfl (fun _ => rfl) (bin_subP (x := k - 1) (by omega)) rfl fun ac hs => ?_))
        refine lstep (wpO_plain rfl (op_assign hs none rfl rfl rfl rfl fun ac hs => ?_))
        refine wpList_nil ?_
        refine then_n ?_
        exact ⟨_, ⟨(k - 1), s11, rfl, (by omega), ls11, (rwk_yes hd0.1 rfl hd0.2 hp9 hk hw hsh10 hs11 hlo14 hhi15 (.inl hq18)), ((hs.takeb 4).re ⟨rfl, rfl, rfl, rfl, trivial⟩)⟩, (by omega)⟩
      · skip
        by_cases hq19 : hi15 = 1
        · skip
          refine wp_region_lit ?_
          refine lstep (wpO_plain rfl (op_load hs none 6 (v := W hi15) rfl rfl rfl rfl Try.isAgg25 Try.sizeOf25 rfl rfl fun ac hs => ?_))
          refine lstep (wpO_plain rfl (op_build hs none (qs := []) (v := .agg #[.int .u64 0, .int .u64 0, .int .u64 0, .int .u64 0]) rfl rfl rfl rfl (fun _ => by kernel_rfl) rfl fun ac hs => ?_))
          refine lstep (wpO_plain rfl (op_bin hs none (v := .bool false) rfl rfl rfl rfl (fun w => run_eqGuard_agg w .eql 25 _ _ _ _ Try.eqGuardType25) (eqlW hi15 0 lhi15 (by decide) false (decide_eq_false hq18)) rfl fun ac hs => ?_))
          refine lstep (wpO_plain rfl (op_move hs none rfl rfl rfl rfl fun ac hs => ?_))
          refine lstep (wpO_in hs rfl rfl rfl (op_load hs none 6 (v := W hi15) rfl rfl rfl rfl Try.isAgg25 Try.sizeOf25 rfl rfl fun ac hs => ?_))
          refine lstep (wpO_in hs rfl rfl rfl (op_build hs none (qs := [(0, .int .u64 1)]) (v := .agg #[.int .u64 1, .int .u64 0, .int .u64 0, .int .u64 0]) rfl rfl rfl rfl (fun _ => by kernel_rfl) rfl fun ac hs => ?_))
          refine lstep (wpO_in hs rfl rfl rfl (op_bin hs none (v := .bool true) rfl rfl rfl rfl (fun w => run_eqGuard_agg w .eql 25 _ _ _ _ Try.eqGuardType25) (eqlW hi15 1 lhi15 (by decide) true (decide_eq_true hq19)) rfl fun ac hs => ?_))
          refine lstep (wpO_in hs rfl rfl rfl (op_move hs none rfl rfl rfl rfl fun ac hs => ?_))
          refine lstep (wpO_in hs rfl rfl rfl (op_load hs none 5 (v := W lo14) rfl rfl rfl rfl Try.isAgg25 Try.sizeOf25 rfl rfl fun ac hs => ?_))
          refine lstep (wpO_in hs rfl rfl rfl (op_build hs none (qs := []) (v := .agg #[.int .u64 0, .int .u64 0, .int .u64 0, .int .u64 0]) rfl rfl rfl rfl (fun _ => by kernel_rfl) rfl fun ac hs => ?_))
          refine lstep (wpO_in hs rfl rfl rfl (op_bin hs none (v := .bool (decide (lo14 = 0))) rfl rfl rfl rfl (fun w => run_eqGuard_agg w .eql 25 _ _ _ _ Try.eqGuardType25) (eqlW lo14 0 llo14 (by decide) _ rfl) rfl fun ac hs => ?_))
          refine lstep (wpO_in hs rfl rfl rfl (op_pickT hs none rfl rfl rfl rfl rfl fun ac hs => ?_))
          refine lstep (wpO_plain rfl (op_pickF hs none rfl rfl rfl rfl rfl fun ac hs => ?_))
          refine wpList_nil ?_
          refine then_n ?_
          refine wp_cond_split (hs.ev rfl) (fun hc => ?_) (fun hc => ?_)
          · skip
            have hp20 := of_decide_eq_true hc
            refine wp_region_lit ?_
            refine lstep (wpO_plain rfl (op_load hs none 4 (v := W s11) rfl rfl rfl rfl Try.isAgg25 Try.sizeOf25 rfl rfl fun ac hs => ?_))
            refine lstep (wpO_plain rfl (op_store hs 3 (vs := (Wl s11)) rfl rfl rfl rfl rfl Try.sizeOf25 rfl rfl rfl rfl rfl fun w hs => ?_))
            refine wpList_nil ?_
            refine blk_n ?_
            refine then_n ?_
            refine wp_region_lit ?_
            refine lstep (wpO_plain rfl (op_move hs none rfl rfl rfl rfl fun ac hs => ?_))
            refine lstep (wpO_plain rfl (op_bin hs none (v := .int .i64 (((k - 1 : Nat) : Int) - 1)) rfl rfl rfl rfl (fun _ => rfl) (bin_subP (x := k - 1) (by omega)) rfl fun ac hs => ?_))
            refine lstep (wpO_plain rfl (op_assign hs none rfl rfl rfl rfl fun ac hs => ?_))
            refine wpList_nil ?_
            refine then_n ?_
            exact ⟨_, ⟨(k - 1), s11, rfl, (by omega), ls11, (rwk_yes hd0.1 rfl hd0.2 hp9 hk hw hsh10 hs11 hlo14 hhi15 (.inr ⟨hq19, hp20⟩)), ((hs.takeb 4).re ⟨rfl, rfl, rfl, rfl, trivial⟩)⟩, (by omega)⟩
          · skip
            have hp21 := of_decide_eq_false hc
            refine wp_skip ?_
            refine blk_n ?_
            refine then_n ?_
            refine wp_region_lit ?_
            refine lstep (wpO_plain rfl (op_move hs none rfl rfl rfl rfl fun ac hs => ?_))
            refine lstep (wpO_plain rfl (op_bin hs none (v := .int .i64 (((k - 1 : Nat) : Int) - 1)) rfl rfl rfl rfl (fun _ => rfl) (bin_subP (x := k - 1) (by omega)) rfl fun ac hs => ?_))
            refine lstep (wpO_plain rfl (op_assign hs none rfl rfl rfl rfl fun ac hs => ?_))
            refine wpList_nil ?_
            refine then_n ?_
            exact ⟨_, ⟨(k - 1), v, rfl, (by omega), lv, (rwk_no hd0.1 rfl hd0.2 hp9 hk hw hsh10 hs11 hlo14 hhi15 (fun hh => hh.elim hq18 fun h2 => hp21 h2.2)), ((hs.takeb 4).re ⟨rfl, rfl, rfl, rfl, trivial⟩)⟩, (by omega)⟩
        · skip
          refine wp_region_lit ?_
          refine lstep (wpO_plain rfl (op_load hs none 6 (v := W hi15) rfl rfl rfl rfl Try.isAgg25 Try.sizeOf25 rfl rfl fun ac hs => ?_))
          refine lstep (wpO_plain rfl (op_build hs none (qs := []) (v := .agg #[.int .u64 0, .int .u64 0, .int .u64 0, .int .u64 0]) rfl rfl rfl rfl (fun _ => by kernel_rfl) rfl fun ac hs => ?_))
          refine lstep (wpO_plain rfl (op_bin hs none (v := .bool false) rfl rfl rfl rfl (fun w => run_eqGuard_agg w .eql 25 _ _ _ _ Try.eqGuardType25) (eqlW hi15 0 lhi15 (by decide) false (decide_eq_false hq18)) rfl fun ac hs => ?_))
          refine lstep (wpO_plain rfl (op_move hs none rfl rfl rfl rfl fun ac hs => ?_))
          refine lstep (wpO_in hs rfl rfl rfl (op_load hs none 6 (v := W hi15) rfl rfl rfl rfl Try.isAgg25 Try.sizeOf25 rfl rfl fun ac hs => ?_))
          refine lstep (wpO_in hs rfl rfl rfl (op_build hs none (qs := [(0, .int .u64 1)]) (v := .agg #[.int .u64 1, .int .u64 0, .int .u64 0, .int .u64 0]) rfl rfl rfl rfl (fun _ => by kernel_rfl) rfl fun ac hs => ?_))
          refine lstep (wpO_in hs rfl rfl rfl (op_bin hs none (v := .bool false) rfl rfl rfl rfl (fun w => run_eqGuard_agg w .eql 25 _ _ _ _ Try.eqGuardType25) (eqlW hi15 1 lhi15 (by decide) false (decide_eq_false hq19)) rfl fun ac hs => ?_))
          refine lstep (wpO_in hs rfl rfl rfl (op_move hs none rfl rfl rfl rfl fun ac hs => ?_))
          refine lstep (wpO_out hs none rfl rfl (.inl rfl) rfl rfl fun ac hs => ?_)
          refine lstep (wpO_out hs none rfl rfl (.inl rfl) rfl rfl fun ac hs => ?_)
          refine lstep (wpO_out hs none rfl rfl (.inl rfl) rfl rfl fun ac hs => ?_)
          refine lstep (wpO_in hs rfl rfl rfl (op_pickF hs none rfl rfl rfl rfl rfl fun ac hs => ?_))
          refine lstep (wpO_plain rfl (op_pickF hs none rfl rfl rfl rfl rfl fun ac hs => ?_))
          refine wpList_nil ?_
          refine then_n ?_
          refine wp_cond_false (hs.ev rfl) ?_
          refine wp_skip ?_
          refine blk_n ?_
          refine then_n ?_
          refine wp_region_lit ?_
          refine lstep (wpO_plain rfl (op_move hs none rfl rfl rfl rfl fun ac hs => ?_))
          refine lstep (wpO_plain rfl (op_bin hs none (v := .int .i64 (((k - 1 : Nat) : Int) - 1)) rfl rfl rfl rfl (fun _ => rfl) (bin_subP (x := k - 1) (by omega)) rfl fun ac hs => ?_))
          refine lstep (wpO_plain rfl (op_assign hs none rfl rfl rfl rfl fun ac hs => ?_))
          refine wpList_nil ?_
          refine then_n ?_
          exact ⟨_, ⟨(k - 1), v, rfl, (by omega), lv, (rwk_no hd0.1 rfl hd0.2 hp9 hk hw hsh10 hs11 hlo14 hhi15 (fun hh => hh.elim hq18 fun h2 => hq19 h2.1)), ((hs.takeb 4).re ⟨rfl, rfl, rfl, rfl, trivial⟩)⟩, (by omega)⟩
    · skip
      have hp22 := of_decide_eq_false hc
      obtain rfl : k = 0 := by omega
      refine wp_exit ?_
      refine then_e ?_
      refine then_e ?_
      refine blk_e ?_
      refine then_n ?_
      refine wp_seq ?_
      refine wp_region_lit ?_
      refine lstep (wpO_plain rfl (op_load hs none 3 (v := W v) rfl rfl rfl rfl Try.isAgg25 Try.sizeOf25 rfl rfl fun ac hs => ?_))
      refine lstep (wpO_plain rfl (op_store hs 0 (vs := (Wl v)) rfl rfl rfl rfl rfl Try.sizeOf25 rfl rfl rfl rfl rfl fun w hs => ?_))
      refine wpList_nil ?_
      refine then_n ?_
      refine wp_ret ?_
      exact bodyPost_ret (res1 rfl (rv_c hs 0 (v := W v) rfl rfl Try.isAgg25 Try.sizeOf25 rfl)) hs.defers ⟨by rw [← hwo, rwk_fin hx2 hq4 hs5 hw], hs.below⟩
set_option maxHeartbeats 2000000 in
theorem rnext_c (b : Nat) (n : Int) (x' : Nat) (hb : b < 4294967296) (hx' : nxt b n = x') (w0 : World) : Calls Try.prog 24 #[.int .u32 ((b : Nat) : Int), .int .i64 n] w0 fun e w' => e = .returned (.int .u32 ((x' : Nat) : Int)) ∧ Below w0.heap.size w0 w' := by
  obtain ⟨sp, hsp⟩ : ∃ sp : Nat, min (max n 1200) 19200 = (sp : Int) := ⟨(min (max n 1200) 19200).toNat, by omega⟩
  refine enter (n := 56) (args := [.int .u32 ((b : Nat) : Int), .int .i64 n]) Try.func24 rfl rfl (Nat.le_of_ble_eq_true rfl) fun ac hs => ?_
  refine wp_seq ?_
  refine wp_region_lit ?_
  refine lstep (wpO_plain rfl (op_assign hs none rfl rfl rfl rfl fun ac hs => ?_))
  refine wpList_nil ?_
  refine then_n ?_
  refine wp_seq ?_
  refine wp_region_lit ?_
  refine lstep (wpO_plain rfl (op_move hs none rfl rfl rfl rfl fun ac hs => ?_))
  obtain ⟨x1, hx1, lx1⟩ : ∃ z0, tgt b = z0 ∧ z0 < 2 ^ 256 := ⟨_, rfl, tgt_lt' _⟩
  refine lstep (wpO_plain rfl (op_call (F := 10) hs none (v := .tuple #[W x1, .int .i64 ((ec x1 : Nat) : Int)]) rfl rfl rfl rfl (Try.call10 _) (rexpand_c b x1 (show b < 4294967296 by omega) hx1) rfl fun ac w hs => ?_))
  refine lstep (wpO_plain rfl (op_move hs none rfl rfl rfl rfl fun ac hs => ?_))
  refine lstep (wpO_plain rfl (op_extract hs none rfl rfl rfl rfl rfl fun ac hs => ?_))
  refine lstep (wpO_plain rfl (op_extract hs none rfl rfl rfl rfl rfl fun ac hs => ?_))
  refine lstep (wpO_plain rfl (op_alloc hs none none (cs := [.int .u64 0, .int .u64 0, .int .u64 0, .int .u64 0]) rfl rfl Try.zeroValue25 (by kernel_rfl) rfl rfl fun g2 ac w hs => ?_))
  refine lstep (wpO_plain rfl (op_store hs 0 (vs := (Wl x1)) rfl rfl rfl rfl rfl Try.sizeOf25 rfl rfl rfl rfl rfl fun w hs => ?_))
  refine lstep (wpO_plain rfl (op_assign hs none rfl rfl rfl rfl fun ac hs => ?_))
  refine wpList_nil ?_
  refine then_n ?_
  refine wp_seq ?_
  refine wp_seq ?_
  by_cases hq3 : x1 = 0
  · skip
    refine wp_region_lit ?_
    refine lstep (wpO_plain rfl (op_move hs none rfl rfl rfl rfl fun ac hs => ?_))
    refine lstep (wpO_plain rfl (op_bin hs none (v := .bool true) rfl rfl rfl rfl (fun _ => rfl) (fun w => dT (by rw [ec, if_pos hq3]; decide) (bin_neqN (x := ec x1) (y := 0) w)) rfl fun ac hs => ?_))
    refine wpList_nil ?_
    refine then_n ?_
    refine wp_cond_true (hs.ev rfl) ?_
    refine wp_seq ?_
    refine wp_region_lit ?_
    refine lstep (wpO_plain rfl (op_assign hs none rfl rfl rfl rfl fun ac hs => ?_))
    refine wpList_nil ?_
    refine then_n ?_
    refine wp_ret ?_
    refine then_r ?_
    exact bodyPost_ret (res1 rfl (rv_t hs rfl)) hs.defers ⟨by rw [← hx', nxt_none hx1 hq3]; first | done | rfl, hs.below⟩
  · skip
    refine wp_region_lit ?_
    refine lstep (wpO_plain rfl (op_move hs none rfl rfl rfl rfl fun ac hs => ?_))
    refine lstep (wpO_plain rfl (op_bin hs none (v := .bool false) rfl rfl rfl rfl (fun _ => rfl) (fun w => dF (fun hh => hh (ec_zero.2 hq3)) (bin_neqN (x := ec x1) (y := 0) w)) rfl fun ac hs => ?_))
    refine wpList_nil ?_
    refine then_n ?_
    refine wp_cond_false (hs.ev rfl) ?_
    refine wp_skip ?_
    refine then_n ?_
    refine wp_seq ?_
    refine wp_seq ?_
    refine wp_region_lit ?_
    refine lstep (wpO_plain rfl (op_move hs none rfl rfl rfl rfl fun ac hs => ?_))
    refine lstep (wpO_plain rfl (op_bin hs none (v := .bool (decide (n < 1200))) rfl rfl rfl rfl (fun _ => rfl) (bin_lssI (x := n) (y := 1200)) rfl fun ac hs => ?_))
    refine wpList_nil ?_
    refine then_n ?_
    refine wp_cond_split (hs.ev rfl) (fun hc => ?_) (fun hc => ?_)
    · skip
      have hp4 := of_decide_eq_true hc
      refine wp_region_lit ?_
      refine lstep (wpO_plain rfl (op_assign hs none rfl rfl rfl rfl fun ac hs => ?_))
      refine wpList_nil ?_
      refine then_n ?_
      refine wp_seq ?_
      refine wp_seq ?_
      refine wp_region_lit ?_
      refine lstep (wpO_plain rfl (op_move hs none rfl rfl rfl rfl fun ac hs => ?_))
      refine lstep (wpO_plain rfl (op_bin hs none (v := .bool false) rfl rfl rfl rfl (fun _ => rfl) (fun _ => by kernel_rfl) rfl fun ac hs => ?_))
      refine wpList_nil ?_
      refine then_n ?_
      refine wp_cond_false (hs.ev rfl) ?_
      refine wp_skip ?_
      refine then_n ?_
      refine wp_seq ?_
      refine wp_region_lit ?_
      obtain ⟨x5, hx5, lx5⟩ : ∃ z0, tgt 545259519 = z0 ∧ z0 < 2 ^ 256 := ⟨_, rfl, tgt_lt' _⟩
      refine lstep (wpO_plain rfl (op_call (F := 10) hs none (v := .tuple #[W x5, .int .i64 ((ec x5 : Nat) : Int)]) rfl rfl rfl rfl (Try.call10 _) (rexpand_c 545259519 x5 (by decide) hx5) rfl fun ac w hs => ?_))
      refine lstep (wpO_plain rfl (op_move hs none rfl rfl rfl rfl fun ac hs => ?_))
      refine lstep (wpO_plain rfl (op_extract hs none rfl rfl rfl rfl rfl fun ac hs => ?_))
      refine lstep (wpO_plain rfl (op_extract hs none rfl rfl rfl rfl rfl fun ac hs => ?_))
      refine lstep (wpO_plain rfl (op_alloc hs none none (cs := [.int .u64 0, .int .u64 0, .int .u64 0, .int .u64 0]) rfl rfl Try.zeroValue25 (by kernel_rfl) rfl rfl fun g6 ac w hs => ?_))
      refine lstep (wpO_plain rfl (op_store hs 1 (vs := (Wl x5)) rfl rfl rfl rfl rfl Try.sizeOf25 rfl rfl rfl rfl rfl fun w hs => ?_))
      refine lstep (wpO_plain rfl (op_assign hs none rfl rfl rfl rfl fun ac hs => ?_))
      refine wpList_nil ?_
      refine then_n ?_
      refine wp_seq ?_
      refine wp_region_lit ?_
      refine lstep (wpO_plain rfl (op_load hs none 0 (v := W x1) rfl rfl rfl rfl Try.isAgg25 Try.sizeOf25 rfl rfl fun ac hs => ?_))
      refine lstep (wpO_plain rfl (op_build hs none (qs := [(0, .int .u64 4800)]) (v := .agg #[.int .u64 4800, .int .u64 0, .int .u64 0, .int .u64 0]) rfl rfl rfl rfl (fun _ => by kernel_rfl) rfl fun ac hs => ?_))
      obtain ⟨q7, hq7, lq7⟩ : ∃ z0, x1 / 4800 = z0 ∧ z0 < 2 ^ 256 := ⟨_, rfl, Nat.lt_of_le_of_lt (Nat.div_le_self _ _) lx1⟩
      obtain ⟨r8, hr8, lr8⟩ : ∃ z0, x1 % 4800 = z0 ∧ z0 < 2 ^ 256 := ⟨_, rfl, Nat.lt_trans (Nat.mod_lt _ (by decide)) (by decide)⟩
      refine lstep (wpO_plain rfl (op_call (F := 44) hs none (v := .tuple #[W q7, W r8, .int .i64 0]) rfl rfl rfl rfl (Try.call44 _) (rdiv_c x1 4800 q7 r8 lx1 (by decide) (by decide) hq7 hr8) rfl fun ac w hs => ?_))
      refine lstep (wpO_plain rfl (op_move hs none rfl rfl rfl rfl fun ac hs => ?_))
      refine lstep (wpO_plain rfl (op_extract hs none rfl rfl rfl rfl rfl fun ac hs => ?_))
      refine lstep (wpO_plain rfl (op_extract hs none rfl rfl rfl rfl rfl fun ac hs => ?_))
      refine lstep (wpO_plain rfl (op_extract hs none rfl rfl rfl rfl rfl fun ac hs => ?_))
      refine lstep (wpO_plain rfl (op_alloc hs none none (cs := [.int .u64 0, .int .u64 0, .int .u64 0, .int .u64 0]) rfl rfl Try.zeroValue25 (by kernel_rfl) rfl rfl fun g9 ac w hs => ?_))
      refine lstep (wpO_plain rfl (op_alloc hs none none (cs := [.int .u64 0, .int .u64 0, .int .u64 0, .int .u64 0]) rfl rfl Try.zeroValue25 (by kernel_rfl) rfl rfl fun g10 ac w hs => ?_))
      refine lstep (wpO_plain rfl (op_store hs 2 (vs := (Wl q7)) rfl rfl rfl rfl rfl Try.sizeOf25 rfl rfl rfl rfl rfl fun w hs => ?_))
      refine lstep (wpO_plain rfl (op_store hs 3 (vs := (Wl r8)) rfl rfl rfl rfl rfl Try.sizeOf25 rfl rfl rfl rfl rfl fun w hs => ?_))
      refine lstep (wpO_plain rfl (op_assign hs none rfl rfl rfl rfl fun ac hs => ?_))
      refine wpList_nil ?_
      refine then_n ?_
      refine wp_seq ?_
      refine wp_region_lit ?_
      refine lstep (wpO_plain rfl (op_load hs none 2 (v := W q7) rfl rfl rfl rfl Try.isAgg25 Try.sizeOf25 rfl rfl fun ac hs => ?_))
      refine lstep (wpO_plain rfl (op_move hs none rfl rfl rfl rfl fun ac hs => ?_))
      refine lstep (wpO_plain rfl (op_convert hs none (v := .int .u64 1200) rfl rfl rfl (conv_N Try.underlying2 Try.underlying23 (show 1200 < 18446744073709551616 by omega)) rfl fun ac hs => ?_))
      refine lstep (wpO_plain rfl (op_build hs none (qs := [(0, .int .u64 1200)]) (v := .agg #[.int .u64 1200, .int .u64 0, .int .u64 0, .int .u64 0]) rfl rfl rfl rfl (fun _ => by kernel_rfl) rfl fun ac hs => ?_))
      obtain ⟨lo11, hlo11, llo11⟩ : ∃ z0, q7 * 1200 % 2 ^ 256 = z0 ∧ z0 < 2 ^ 256 := ⟨_, rfl, Nat.mod_lt _ (Nat.two_pow_pos 256)⟩
      obtain ⟨hi12, hhi12, lhi12⟩ : ∃ z0, q7 * 1200 / 2 ^ 256 = z0 ∧ z0 < 2 ^ 256 := ⟨_, rfl, mul_hi lq7 (by decide)⟩
      refine lstep (wpO_plain rfl (op_call (F := 39) hs none (v := .tuple #[W lo11, W hi12]) rfl rfl rfl rfl (Try.call39 _) (rmul_c q7 1200 lo11 hi12 lq7 (by decide) hlo11 hhi12) rfl fun ac w hs => ?_))
      refine lstep (wpO_plain rfl (op_move hs none rfl rfl rfl rfl fun ac hs => ?_))
      refine lstep (wpO_plain rfl (op_extract hs none rfl rfl rfl rfl rfl fun ac hs => ?_))
      refine lstep (wpO_plain rfl (op_extract hs none rfl rfl rfl rfl rfl fun ac hs => ?_))
      refine lstep (wpO_plain rfl (op_alloc hs none none (cs := [.int .u64 0, .int .u64 0, .int .u64 0, .int .u64 0]) rfl rfl Try.zeroValue25 (by kernel_rfl) rfl rfl fun g13 ac w hs => ?_))
      refine lstep (wpO_plain rfl (op_alloc hs none none (cs := [.int .u64 0, .int .u64 0, .int .u64 0, .int .u64 0]) rfl rfl Try.zeroValue25 (by kernel_rfl) rfl rfl fun g14 ac w hs => ?_))
      refine lstep (wpO_plain rfl (op_store hs 4 (vs := (Wl lo11)) rfl rfl rfl rfl rfl Try.sizeOf25 rfl rfl rfl rfl rfl fun w hs => ?_))
      refine lstep (wpO_plain rfl (op_store hs 5 (vs := (Wl hi12)) rfl rfl rfl rfl rfl Try.sizeOf25 rfl rfl rfl rfl rfl fun w hs => ?_))
      refine wpList_nil ?_
      refine then_n ?_
      refine wp_seq ?_
      refine wp_seq ?_
      by_cases hq15 : hi12 ≠ 0
      · skip
        refine wp_region_lit ?_
        refine lstep (wpO_plain rfl (op_load hs none 5 (v := W hi12) rfl rfl rfl rfl Try.isAgg25 Try.sizeOf25 rfl rfl fun ac hs => ?_))
        refine lstep (wpO_plain rfl (op_build hs none (qs := []) (v := .agg #[.int .u64 0, .int .u64 0, .int .u64 0, .int .u64 0]) rfl rfl rfl rfl (fun _ => by kernel_rfl) rfl fun ac hs => ?_))
        refine lstep (wpO_plain rfl (op_bin hs none (v := .bool true) rfl rfl rfl rfl (fun w => run_eqGuard_agg w .neq 25 _ _ _ _ Try.eqGuardType25) (neqW hi12 0 lhi12 (by decide) true (decide_eq_true hq15)) rfl fun ac hs => ?_))
        refine lstep (wpO_plain rfl (op_move hs none rfl rfl rfl rfl fun ac hs => ?_))
        refine lstep (wpO_out hs none rfl rfl (.inl rfl) rfl rfl fun ac hs => ?_)
        refine lstep (wpO_out hs none rfl rfl (.inl rfl) rfl rfl fun ac hs => ?_)
        refine lstep (wpO_out hs none rfl rfl (.inl rfl) rfl rfl fun ac hs => ?_)
        refine lstep (wpO_out hs none rfl rfl (.inl rfl) rfl rfl fun ac hs => ?_)
        refine lstep (wpO_plain rfl (op_pickT hs none rfl rfl rfl rfl rfl fun ac hs => ?_))
        refine wpList_nil ?_
        refine then_n ?_
        refine wp_cond_true (hs.ev rfl) ?_
        refine wp_region_lit ?_
        refine lstep (wpO_plain rfl (op_load hs none 1 (v := W x5) rfl rfl rfl rfl Try.isAgg25 Try.sizeOf25 rfl rfl fun ac hs => ?_))
        refine lstep (wpO_plain rfl (op_store hs 4 (vs := (Wl x5)) rfl rfl rfl rfl rfl Try.sizeOf25 rfl rfl rfl rfl rfl fun w hs => ?_))
        refine wpList_nil ?_
        refine then_n ?_
        refine wp_seq ?_
        refine wp_region_lit ?_
        refine lstep (wpO_plain rfl (op_load hs none 4 (v := W x5) rfl rfl rfl rfl Try.isAgg25 Try.sizeOf25 rfl rfl fun ac hs => ?_))
        obtain ⟨cp16, hcp16⟩ : ∃ z0, cpt x5 = z0 := ⟨_, rfl⟩
        have lcp16 : cp16 < 4294967296 := by rw [← hcp16]; exact cpt_lt lx5
        refine lstep (wpO_plain rfl (op_call (F := 13) hs none (v := .int .u32 ((cp16 : Nat) : Int)) rfl rfl rfl rfl (Try.call13 _) (rcompact_c x5 cp16 lx5 hcp16) rfl fun ac w hs => ?_))
        refine lstep (wpO_plain rfl (op_assign hs none rfl rfl rfl rfl fun ac hs => ?_))
        refine wpList_nil ?_
        refine then_n ?_
        refine wp_ret ?_
        exact bodyPost_ret (res1 rfl (rv_t hs rfl)) hs.defers ⟨by rw [← hx', nxt_easy hx1 hq3 hq7 (by omega) hlo11 hhi12 hx5 (.inl hq15), hcp16], hs.below⟩
      · skip
        refine wp_region_lit ?_
        refine lstep (wpO_plain rfl (op_load hs none 5 (v := W hi12) rfl rfl rfl rfl Try.isAgg25 Try.sizeOf25 rfl rfl fun ac hs => ?_))
        refine lstep (wpO_plain rfl (op_build hs none (qs := []) (v := .agg #[.int .u64 0, .int .u64 0, .int .u64 0, .int .u64 0]) rfl rfl rfl rfl (fun _ => by kernel_rfl) rfl fun ac hs => ?_))
        refine lstep (wpO_plain rfl (op_bin hs none (v := .bool false) rfl rfl rfl rfl (fun w => run_eqGuard_agg w .neq 25 _ _ _ _ Try.eqGuardType25) (neqW hi12 0 lhi12 (by decide) false (decide_eq_false (not_not_intro (Classical.not_not.1 hq15)))) rfl fun ac hs => ?_))
        refine lstep (wpO_plain rfl (op_move hs none rfl rfl rfl rfl fun ac hs => ?_))
        refine lstep (wpO_in hs rfl rfl rfl (op_load hs none 4 (v := W lo11) rfl rfl rfl rfl Try.isAgg25 Try.sizeOf25 rfl rfl fun ac hs => ?_))
        refine lstep (wpO_in hs rfl rfl rfl (op_load hs none 1 (v := W x5) rfl rfl rfl rfl Try.isAgg25 Try.sizeOf25 rfl rfl fun ac hs => ?_))
        refine lstep (wpO_in hs rfl rfl rfl (op_call (F := 35) hs none (v := .int .i64 (cmpZ lo11 x5)) rfl rfl rfl rfl (Try.call35 _) (rcmp_c lo11 x5 llo11 lx5) rfl fun ac w hs => ?_))
        refine lstep (wpO_in hs rfl rfl rfl (op_bin hs none (v := .bool (decide (x5 < lo11))) rfl rfl rfl rfl (fun _ => rfl) (bin_cmp_gtr lo11 x5) rfl fun ac hs => ?_))
        refine lstep (wpO_plain rfl (op_pickF hs none rfl rfl rfl rfl rfl fun ac hs => ?_))
        refine wpList_nil ?_
        refine then_n ?_
        refine wp_cond_split (hs.ev rfl) (fun hc => ?_) (fun hc => ?_)
        · skip
          have hp17 := of_decide_eq_true hc
          refine wp_region_lit ?_
          refine lstep (wpO_plain rfl (op_load hs none 1 (v := W x5) rfl rfl rfl rfl Try.isAgg25 Try.sizeOf25 rfl rfl fun ac hs => ?_))
          refine lstep (wpO_plain rfl (op_store hs 4 (vs := (Wl x5)) rfl rfl rfl rfl rfl Try.sizeOf25 rfl rfl rfl rfl rfl fun w hs => ?_))
          refine wpList_nil ?_
          refine then_n ?_
          refine wp_seq ?_
          refine wp_region_lit ?_
          refine lstep (wpO_plain rfl (op_load hs none 4 (v := W x5) rfl rfl rfl rfl Try.isAgg25 Try.sizeOf25 rfl rfl fun ac hs => ?_))
          obtain ⟨cp18, hcp18⟩ : ∃ z0, cpt x5 = z0 := ⟨_, rfl⟩
          have lcp18 : cp18 < 4294967296 := by rw [← hcp18]; exact cpt_lt lx5
          refine lstep (wpO_plain rfl (op_call (F := 13) hs none (v := .int .u32 ((cp18 : Nat) : Int)) rfl rfl rfl rfl (Try.call13 _) (rcompact_c x5 cp18 lx5 hcp18) rfl fun ac w hs => ?_))
          refine lstep (wpO_plain rfl (op_assign hs none rfl rfl rfl rfl fun ac hs => ?_))
          refine wpList_nil ?_
          refine then_n ?_
          refine wp_ret ?_
          exact bodyPost_ret (res1 rfl (rv_t hs rfl)) hs.defers ⟨by rw [← hx', nxt_easy hx1 hq3 hq7 (by omega) hlo11 hhi12 hx5 (.inr hp17), hcp18], hs.below⟩
        · skip
          have hp19 := of_decide_eq_false hc
          refine wp_skip ?_
          refine then_n ?_
          refine wp_seq ?_
          refine wp_region_lit ?_
          refine lstep (wpO_plain rfl (op_load hs none 4 (v := W lo11) rfl rfl rfl rfl Try.isAgg25 Try.sizeOf25 rfl rfl fun ac hs => ?_))
          obtain ⟨cp20, hcp20⟩ : ∃ z0, cpt lo11 = z0 := ⟨_, rfl⟩
          have lcp20 : cp20 < 4294967296 := by rw [← hcp20]; exact cpt_lt llo11
          refine lstep (wpO_plain rfl (op_call (F := 13) hs none (v := .int .u32 ((cp20 : Nat) : Int)) rfl rfl rfl rfl (Try.call13 _) (rcompact_c lo11 cp20 llo11 hcp20) rfl fun ac w hs => ?_))
          refine lstep (wpO_plain rfl (op_assign hs none rfl rfl rfl rfl fun ac hs => ?_))
          refine wpList_nil ?_
          refine then_n ?_
          refine wp_ret ?_
          exact bodyPost_ret (res1 rfl (rv_t hs rfl)) hs.defers ⟨by rw [← hx', nxt_low hx1 hq3 hq7 (by omega) hlo11 hhi12 hx5 hq15 hp19, hcp20], hs.below⟩
    · skip
      have hp21 := of_decide_eq_false hc
      refine wp_skip ?_
      refine then_n ?_
      refine wp_seq ?_
      refine wp_seq ?_
      refine wp_region_lit ?_
      refine lstep (wpO_plain rfl (op_move hs none rfl rfl rfl rfl fun ac hs => ?_))
      refine lstep (wpO_plain rfl (op_bin hs none (v := .bool (decide (19200 < n))) rfl rfl rfl rfl (fun _ => rfl) (bin_gtrI (x := n) (y := 19200)) rfl fun ac hs => ?_))
      refine wpList_nil ?_
      refine then_n ?_
      refine wp_cond_split (hs.ev rfl) (fun hc => ?_) (fun hc => ?_)
      · skip
        have hp22 := of_decide_eq_true hc
        refine wp_region_lit ?_
        refine lstep (wpO_plain rfl (op_assign hs none rfl rfl rfl rfl fun ac hs => ?_))
        refine wpList_nil ?_
        refine then_n ?_
        refine wp_seq ?_
        refine wp_region_lit ?_
        obtain ⟨x23, hx23, lx23⟩ : ∃ z0, tgt 545259519 = z0 ∧ z0 < 2 ^ 256 := ⟨_, rfl, tgt_lt' _⟩
        refine lstep (wpO_plain rfl (op_call (F := 10) hs none (v := .tuple #[W x23, .int .i64 ((ec x23 : Nat) : Int)]) rfl rfl rfl rfl (Try.call10 _) (rexpand_c 545259519 x23 (by decide) hx23) rfl fun ac w hs => ?_))
        refine lstep (wpO_plain rfl (op_move hs none rfl rfl rfl rfl fun ac hs => ?_))
        refine lstep (wpO_plain rfl (op_extract hs none rfl rfl rfl rfl rfl fun ac hs => ?_))
        refine lstep (wpO_plain rfl (op_extract hs none rfl rfl rfl rfl rfl fun ac hs => ?_))
        refine lstep (wpO_plain rfl (op_alloc hs none none (cs := [.int .u64 0, .int .u64 0, .int .u64 0, .int .u64 0]) rfl rfl Try.zeroValue25 (by kernel_rfl) rfl rfl fun g24 ac w hs => ?_))
        refine lstep (wpO_plain rfl (op_store hs 1 (vs := (Wl x23)) rfl rfl rfl rfl rfl Try.sizeOf25 rfl rfl rfl rfl rfl fun w hs => ?_))
        refine lstep (wpO_plain rfl (op_assign hs none rfl rfl rfl rfl fun ac hs => ?_))
        refine wpList_nil ?_
        refine then_n ?_
        refine wp_seq ?_
        refine wp_region_lit ?_
        refine lstep (wpO_plain rfl (op_load hs none 0 (v := W x1) rfl rfl rfl rfl Try.isAgg25 Try.sizeOf25 rfl rfl fun ac hs => ?_))
        refine lstep (wpO_plain rfl (op_build hs none (qs := [(0, .int .u64 4800)]) (v := .agg #[.int .u64 4800, .int .u64 0, .int .u64 0, .int .u64 0]) rfl rfl rfl rfl (fun _ => by kernel_rfl) rfl fun ac hs => ?_))
        obtain ⟨q25, hq25, lq25⟩ : ∃ z0, x1 / 4800 = z0 ∧ z0 < 2 ^ 256 := ⟨_, rfl, Nat.lt_of_le_of_lt (Nat.div_le_self _ _) lx1⟩
        obtain ⟨r26, hr26, lr26⟩ : ∃ z0, x1 % 4800 = z0 ∧ z0 < 2 ^ 256 := ⟨_, rfl, Nat.lt_trans (Nat.mod_lt _ (by decide)) (by decide)⟩
        refine lstep (wpO_plain rfl (op_call (F := 44) hs none (v := .tuple #[W q25, W r26, .int .i64 0]) rfl rfl rfl rfl (Try.call44 _) (rdiv_c x1 4800 q25 r26 lx1 (by decide) (by decide) hq25 hr26) rfl fun ac w hs => ?_))
        refine lstep (wpO_plain rfl (op_move hs none rfl rfl rfl rfl fun ac hs => ?_))
        refine lstep (wpO_plain rfl (op_extract hs none rfl rfl rfl rfl rfl fun ac hs => ?_))
        refine lstep (wpO_plain rfl (op_extract hs none rfl rfl rfl rfl rfl fun ac hs => ?_))
        refine lstep (wpO_plain rfl (op_extract hs none rfl rfl rfl rfl rfl fun ac hs => ?_))
        refine lstep (wpO_plain rfl (op_alloc hs none none (cs := [.int .u64 0, .int .u64 0, .int .u64 0, .int .u64 0]) rfl rfl Try.zeroValue25 (by kernel_rfl) rfl rfl fun g27 ac w hs => ?_))
        refine lstep (wpO_plain rfl (op_alloc hs none none (cs := [.int .u64 0, .int .u64 0, .int .u64 0, .int .u64 0]) rfl rfl Try.zeroValue25 (by kernel_rfl) rfl rfl fun g28 ac w hs => ?_))
        refine lstep (wpO_plain rfl (op_store hs 2 (vs := (Wl q25)) rfl rfl rfl rfl rfl Try.sizeOf25 rfl rfl rfl rfl rfl fun w hs => ?_))
        refine lstep (wpO_plain rfl (op_store hs 3 (vs := (Wl r26)) rfl rfl rfl rfl rfl Try.sizeOf25 rfl rfl rfl rfl rfl fun w hs => ?_))
        refine lstep (wpO_plain rfl (op_assign hs none rfl rfl rfl rfl fun ac hs => ?_))
        refine wpList_nil ?_
        refine then_n ?_
        refine wp_seq ?_
        refine wp_region_lit ?_
        refine lstep (wpO_plain rfl (op_load hs none 2 (v := W q25) rfl rfl rfl rfl Try.isAgg25 Try.sizeOf25 rfl rfl fun ac hs => ?_))
        refine lstep (wpO_plain rfl (op_move hs none rfl rfl rfl rfl fun ac hs => ?_))
        refine lstep (wpO_plain rfl (op_convert hs none (v := .int .u64 19200) rfl rfl rfl (conv_N Try.underlying2 Try.underlying23 (show 19200 < 18446744073709551616 by omega)) rfl fun ac hs => ?_))
        refine lstep (wpO_plain rfl (op_build hs none (qs := [(0, .int .u64 19200)]) (v := .agg #[.int .u64 19200, .int .u64 0, .int .u64 0, .int .u64 0]) rfl rfl rfl rfl (fun _ => by kernel_rfl) rfl fun ac hs => ?_))
        obtain ⟨lo29, hlo29, llo29⟩ : ∃ z0, q25 * 19200 % 2 ^ 256 = z0 ∧ z0 < 2 ^ 256 := ⟨_, rfl, Nat.mod_lt _ (Nat.two_pow_pos 256)⟩
        obtain ⟨hi30, hhi30, lhi30⟩ : ∃ z0, q25 * 19200 / 2 ^ 256 = z0 ∧ z0 < 2 ^ 256 := ⟨_, rfl, mul_hi lq25 (by decide)⟩
        refine lstep (wpO_plain rfl (op_call (F := 39) hs none (v := .tuple #[W lo29, W hi30]) rfl rfl rfl rfl (Try.call39 _) (rmul_c q25 19200 lo29 hi30 lq25 (by decide) hlo29 hhi30) rfl fun ac w hs => ?_))
        refine lstep (wpO_plain rfl (op_move hs none rfl rfl rfl rfl fun ac hs => ?_))
        refine lstep (wpO_plain rfl (op_extract hs none rfl rfl rfl rfl rfl fun ac hs => ?_))
        refine lstep (wpO_plain rfl (op_extract hs none rfl rfl rfl rfl rfl fun ac hs => ?_))
        refine lstep (wpO_plain rfl (op_alloc hs none none (cs := [.int .u64 0, .int .u64 0, .int .u64 0, .int .u64 0]) rfl rfl Try.zeroValue25 (by kernel_rfl) rfl rfl fun g31 ac w hs => ?_))
        refine lstep (wpO_plain rfl (op_alloc hs none none (cs := [.int .u64 0, .int .u64 0, .int .u64 0, .int .u64 0]) rfl rfl Try.zeroValue25 (by kernel_rfl) rfl rfl fun g32 ac w hs => ?_))
        refine lstep (wpO_plain rfl (op_store hs 4 (vs := (Wl lo29)) rfl rfl rfl rfl rfl Try.sizeOf25 rfl rfl rfl rfl rfl fun w hs => ?_))
        refine lstep (wpO_plain rfl (op_store hs 5 (vs := (Wl hi30)) rfl rfl rfl rfl rfl Try.sizeOf25 rfl rfl rfl rfl rfl fun w hs => ?_))
        refine wpList_nil ?_
        refine then_n ?_
        refine wp_seq ?_
        refine wp_seq ?_
        by_cases hq33 : hi30 ≠ 0
        · skip
          refine wp_region_lit ?_
          refine lstep (wpO_plain rfl (op_load hs none 5 (v := W hi30) rfl rfl rfl rfl Try.isAgg25 Try.sizeOf25 rfl rfl fun ac hs => ?_))
          refine lstep (wpO_plain rfl (op_build hs none (qs := []) (v := .agg #[.int .u64 0, .int .u64 0, .int .u64 0, .int .u64 0]) rfl rfl rfl rfl (fun _ => by kernel_rfl) rfl fun ac hs => ?_))
          refine lstep (wpO_plain rfl (op_bin hs none (v := .bool true) rfl rfl rfl rfl (fun w => run_eqGuard_agg w .neq 25 _ _ _ _ Try.eqGuardType25) (neqW hi30 0 lhi30 (by decide) true (decide_eq_true hq33)) rfl fun ac hs => ?_))
          refine lstep (wpO_plain rfl (op_move hs none rfl rfl rfl rfl fun ac hs => ?_))
          refine lstep (wpO_out hs none rfl rfl (.inl rfl) rfl rfl fun ac hs => ?_)
          refine lstep (wpO_out hs none rfl rfl (.inl rfl) rfl rfl fun ac hs => ?_)
          refine lstep (wpO_out hs none rfl rfl (.inl rfl) rfl rfl fun ac hs => ?_)
          refine lstep (wpO_out hs none rfl rfl (.inl rfl) rfl rfl fun ac hs => ?_)
          refine lstep (wpO_plain rfl (op_pickT hs none rfl rfl rfl rfl rfl fun ac hs => ?_))
          refine wpList_nil ?_
          refine then_n ?_
          refine wp_cond_true (hs.ev rfl) ?_
          refine wp_region_lit ?_
          refine lstep (wpO_plain rfl (op_load hs none 1 (v := W x23) rfl rfl rfl rfl Try.isAgg25 Try.sizeOf25 rfl rfl fun ac hs => ?_))
          refine lstep (wpO_plain rfl (op_store hs 4 (vs := (Wl x23)) rfl rfl rfl rfl rfl Try.sizeOf25 rfl rfl rfl rfl rfl fun w hs => ?_))
          refine wpList_nil ?_
          refine then_n ?_
          refine wp_seq ?_
          refine wp_region_lit ?_
          refine lstep (wpO_plain rfl (op_load hs none 4 (v := W x23) rfl rfl rfl rfl Try.isAgg25 Try.sizeOf25 rfl rfl fun ac hs => ?_))
          obtain ⟨cp34, hcp34⟩ : ∃ z0, cpt x23 = z0 := ⟨_, rfl⟩
          have lcp34 : cp34 < 4294967296 := by rw [← hcp34]; exact cpt_lt lx23
          refine lstep (wpO_plain rfl (op_call (F := 13) hs none (v := .int .u32 ((cp34 : Nat) : Int)) rfl rfl rfl rfl (Try.call13 _) (rcompact_c x23 cp34 lx23 hcp34) rfl fun ac w hs => ?_))
          refine lstep (wpO_plain rfl (op_assign hs none rfl rfl rfl rfl fun ac hs => ?_))
          refine wpList_nil ?_
          refine then_n ?_
          refine wp_ret ?_
          exact bodyPost_ret (res1 rfl (rv_t hs rfl)) hs.defers ⟨by rw [← hx', nxt_easy hx1 hq3 hq25 (by omega) hlo29 hhi30 hx23 (.inl hq33), hcp34], hs.below⟩
        · skip
          refine wp_region_lit ?_
          refine lstep (wpO_plain rfl (op_load hs none 5 (v := W hi30) rfl rfl rfl rfl Try.isAgg25 Try.sizeOf25 rfl rfl fun ac hs => ?_))
          refine lstep (wpO_plain rfl (op_build hs none (qs := []) (v := .agg #[.int .u64 0, .int .u64 0, .int .u64 0, .int .u64 0]) rfl rfl rfl rfl (fun _ => by kernel_rfl) rfl fun ac hs => ?_))
          refine lstep (wpO_plain rfl (op_bin hs none (v := .bool false) rfl rfl rfl rfl (fun w => run_eqGuard_agg w .neq 25 _ _ _ _ Try.eqGuardType25) (neqW hi30 0 lhi30 (by decide) false (decide_eq_false (not_not_intro (Classical.not_not.1 hq33)))) rfl fun ac hs => ?_))
          refine lstep (wpO_plain rfl (op_move hs none rfl rfl rfl rfl fun ac hs => ?_))
          refine lstep (wpO_in hs rfl rfl rfl (op_load hs none 4 (v := W lo29) rfl rfl rfl rfl Try.isAgg25 Try.sizeOf25 rfl rfl fun ac hs => ?_))
          refine lstep (wpO_in hs rfl rfl rfl (op_load hs none 1 (v := W x23) rfl rfl rfl rfl Try.isAgg25 Try.sizeOf25 rfl rfl fun ac hs => ?_))
          refine lstep (wpO_in hs rfl rfl rfl (op_call (F := 35) hs none (v := .int .i64 (cmpZ lo29 x23)) rfl rfl rfl rfl (Try.call35 _) (rcmp_c lo29 x23 llo29 lx23) rfl fun ac w hs => ?_))
          refine lstep (wpO_in hs rfl rfl rfl (op_bin hs none (v := .bool (decide (x23 < lo29))) rfl rfl rfl rfl (fun _ => rfl) (bin_cmp_gtr lo29 x23) rfl fun ac hs => ?_))
          refine lstep (wpO_plain rfl (op_pickF hs none rfl rfl rfl rfl rfl fun ac hs => ?_))
          refine wpList_nil ?_
          refine then_n ?_
          refine wp_cond_split (hs.ev rfl) (fun hc => ?_) (fun hc => ?_)
          · skip
            have hp35 := of_decide_eq_true hc
            refine wp_region_lit ?_
            refine lstep (wpO_plain rfl (op_load hs none 1 (v := W x23) rfl rfl rfl rfl Try.isAgg25 Try.sizeOf25 rfl rfl fun ac hs => ?_))
            refine lstep (wpO_plain rfl (op_store hs 4 (vs := (Wl x23)) rfl rfl rfl rfl rfl Try.sizeOf25 rfl rfl rfl rfl rfl fun w hs => ?_))
            refine wpList_nil ?_
            refine then_n ?_
            refine wp_seq ?_
            refine wp_region_lit ?_
            refine lstep (wpO_plain rfl (op_load hs none 4 (v := W x23) rfl rfl rfl rfl Try.isAgg25 Try.sizeOf25 rfl rfl fun ac hs => ?_))
            obtain ⟨cp36, hcp36⟩ : ∃ z0, cpt x23 = z0 := ⟨_, rfl⟩
            have lcp36 : cp36 < 4294967296 := by rw [← hcp36]; exact cpt_lt lx23
            refine lstep (wpO_plain rfl (op_call (F := 13) hs none (v := .int .u32 ((cp36 : Nat) : Int)) rfl rfl rfl rfl (Try.call13 _) (rcompact_c x23 cp36 lx23 hcp36) rfl fun ac w hs => ?_))
            refine lstep (wpO_plain rfl (op_assign hs none rfl rfl rfl rfl fun ac hs => ?_))
            refine wpList_nil ?_
            refine then_n ?_
            refine wp_ret ?_
            exact bodyPost_ret (res1 rfl (rv_t hs rfl)) hs.defers ⟨by rw [← hx', nxt_easy hx1 hq3 hq25 (by omega) hlo29 hhi30 hx23 (.inr hp35), hcp36], hs.below⟩
          · skip
            have hp37 := of_decide_eq_false hc
            refine wp_skip ?_
            refine then_n ?_
            refine wp_seq ?_
            refine wp_region_lit ?_
            refine lstep (wpO_plain rfl (op_load hs none 4 (v := W lo29) rfl rfl rfl rfl Try.isAgg25 Try.sizeOf25 rfl rfl fun ac hs => ?_))
            obtain ⟨cp38, hcp38⟩ : ∃ z0, cpt lo29 = z0 := ⟨_, rfl⟩
            have lcp38 : cp38 < 4294967296 := by rw [← hcp38]; exact cpt_lt llo29
            refine lstep (wpO_plain rfl (op_call (F := 13) hs none (v := .int .u32 ((cp38 : Nat) : Int)) rfl rfl rfl rfl (Try.call13 _) (rcompact_c lo29 cp38 llo29 hcp38) rfl fun ac w hs => ?_))
            refine lstep (wpO_plain rfl (op_assign hs none rfl rfl rfl rfl fun ac hs => ?_))
            refine wpList_nil ?_
            refine then_n ?_
            refine wp_ret ?_
            exact bodyPost_ret (res1 rfl (rv_t hs rfl)) hs.defers ⟨by rw [← hx', nxt_low hx1 hq3 hq25 (by omega) hlo29 hhi30 hx23 hq33 hp37, hcp38], hs.below⟩
      · skip
        have hp39 := of_decide_eq_false hc
        have hn1 : n = (sp : Int) := by omega
        replace hs := hs.re (fs' := [(0, true, .int .u32 ((b : Nat) : Int)), (1, true, .int .i64 ((sp : Nat) : Int)), (4, true, .int .u32 0), (15, true, .int .u32 ((b : Nat) : Int)), (16, true, .tuple #[W x1, .int .i64 ((ec x1 : Nat) : Int)]), (14, true, .tuple #[W x1, .int .i64 ((ec x1 : Nat) : Int)]), (17, true, W x1), (18, true, .int .i64 ((ec x1 : Nat) : Int)), (5, true, .pointer (some ⟨g2, 0, none⟩)), (6, true, .int .i64 ((ec x1 : Nat) : Int)), (19, true, .int .i64 ((ec x1 : Nat) : Int)), (20, true, .bool false), (21, true, .int .i64 n), (22, true, .bool (decide (n < 1200))), (23, true, .int .i64 n), (24, true, .bool (decide (19200 < n)))]) ⟨rfl, congrArg some (by rw [hn1]), rfl, rfl, rfl, rfl, rfl, rfl, rfl, rfl, rfl, rfl, rfl, rfl, rfl, rfl, trivial⟩
        refine wp_skip ?_
        refine then_n ?_
        refine wp_seq ?_
        refine wp_region_lit ?_
        obtain ⟨x40, hx40, lx40⟩ : ∃ z0, tgt 545259519 = z0 ∧ z0 < 2 ^ 256 := ⟨_, rfl, tgt_lt' _⟩
        refine lstep (wpO_plain rfl (op_call (F := 10) hs none (v := .tuple #[W x40, .int .i64 ((ec x40 : Nat) : Int)]) rfl rfl rfl rfl (Try.call10 _) (rexpand_c 545259519 x40 (by decide) hx40) rfl fun ac w hs => ?_))
        refine lstep (wpO_plain rfl (op_move hs none rfl rfl rfl rfl fun ac hs => ?_))
        refine lstep (wpO_plain rfl (op_extract hs none rfl rfl rfl rfl rfl fun ac hs => ?_))
        refine lstep (wpO_plain rfl (op_extract hs none rfl rfl rfl rfl rfl fun ac hs => ?_))
        refine lstep (wpO_plain rfl (op_alloc hs none none (cs := [.int .u64 0, .int .u64 0, .int .u64 0, .int .u64 0]) rfl rfl Try.zeroValue25 (by kernel_rfl) rfl rfl fun g41 ac w hs => ?_))
        refine lstep (wpO_plain rfl (op_store hs 1 (vs := (Wl x40)) rfl rfl rfl rfl rfl Try.sizeOf25 rfl rfl rfl rfl rfl fun w hs => ?_))
        refine lstep (wpO_plain rfl (op_assign hs none rfl rfl rfl rfl fun ac hs => ?_))
        refine wpList_nil ?_
        refine then_n ?_
        refine wp_seq ?_
        refine wp_region_lit ?_
        refine lstep (wpO_plain rfl (op_load hs none 0 (v := W x1) rfl rfl rfl rfl Try.isAgg25 Try.sizeOf25 rfl rfl fun ac hs => ?_))
        refine lstep (wpO_plain rfl (op_build hs none (qs := [(0, .int .u64 4800)]) (v := .agg #[.int .u64 4800, .int .u64 0, .int .u64 0, .int .u64 0]) rfl rfl rfl rfl (fun _ => by kernel_rfl) rfl fun ac hs => ?_))
        obtain ⟨q42, hq42, lq42⟩ : ∃ z0, x1 / 4800 = z0 ∧ z0 < 2 ^ 256 := ⟨_, rfl, Nat.lt_of_le_of_lt (Nat.div_le_self _ _) lx1⟩
        obtain ⟨r43, hr43, lr43⟩ : ∃ z0, x1 % 4800 = z0 ∧ z0 < 2 ^ 256 := ⟨_, rfl, Nat.lt_trans (Nat.mod_lt _ (by decide)) (by decide)⟩
        refine lstep (wpO_plain rfl (op_call (F := 44) hs none (v := .tuple #[W q42, W r43, .int .i64 0]) rfl rfl rfl rfl (Try.call44 _) (rdiv_c x1 4800 q42 r43 lx1 (by decide) (by decide) hq42 hr43) rfl fun ac w hs => ?_))
        refine lstep (wpO_plain rfl (op_move hs none rfl rfl rfl rfl fun ac hs => ?_))
        refine lstep (wpO_plain rfl (op_extract hs none rfl rfl rfl rfl rfl fun ac hs => ?_))
        refine lstep (wpO_plain rfl (op_extract hs none rfl rfl rfl rfl rfl fun ac hs => ?_))
        refine lstep (wpO_plain rfl (op_extract hs none rfl rfl rfl rfl rfl fun ac hs => ?_))
        refine lstep (wpO_plain rfl (op_alloc hs none none (cs := [.int .u64 0, .int .u64 0, .int .u64 0, .int .u64 0]) rfl rfl Try.zeroValue25 (by kernel_rfl) rfl rfl fun g44 ac w hs => ?_))
        refine lstep (wpO_plain rfl (op_alloc hs none none (cs := [.int .u64 0, .int .u64 0, .int .u64 0, .int .u64 0]) rfl rfl Try.zeroValue25 (by kernel_rfl) rfl rfl fun g45 ac w hs => ?_))
        refine lstep (wpO_plain rfl (op_store hs 2 (vs := (Wl q42)) rfl rfl rfl rfl rfl Try.sizeOf25 rfl rfl rfl rfl rfl fun w hs => ?_))
        refine lstep (wpO_plain rfl (op_store hs 3 (vs := (Wl r43)) rfl rfl rfl rfl rfl Try.sizeOf25 rfl rfl rfl rfl rfl fun w hs => ?_))
        refine lstep (wpO_plain rfl (op_assign hs none rfl rfl rfl rfl fun ac hs => ?_))
        refine wpList_nil ?_
        refine then_n ?_
        refine wp_seq ?_
        refine wp_region_lit ?_
        refine lstep (wpO_plain rfl (op_load hs none 2 (v := W q42) rfl rfl rfl rfl Try.isAgg25 Try.sizeOf25 rfl rfl fun ac hs => ?_))
        refine lstep (wpO_plain rfl (op_move hs none rfl rfl rfl rfl fun ac hs => ?_))
        refine lstep (wpO_plain rfl (op_convert hs none (v := .int .u64 ((sp : Nat) : Int)) rfl rfl rfl (conv_N Try.underlying2 Try.underlying23 (show sp < 18446744073709551616 by omega)) rfl fun ac hs => ?_))
        refine lstep (wpO_plain rfl (op_build hs none (qs := [(0, .int .u64 ((sp : Nat) : Int))]) (v := W sp) rfl rfl rfl rfl (fun _ => by rw [W_small sp (show sp < 2 ^ 64 by omega)]; kernel_rfl) rfl fun ac hs => ?_))
        obtain ⟨lo46, hlo46, llo46⟩ : ∃ z0, q42 * sp % 2 ^ 256 = z0 ∧ z0 < 2 ^ 256 := ⟨_, rfl, Nat.mod_lt _ (Nat.two_pow_pos 256)⟩
        obtain ⟨hi47, hhi47, lhi47⟩ : ∃ z0, q42 * sp / 2 ^ 256 = z0 ∧ z0 < 2 ^ 256 := ⟨_, rfl, mul_hi lq42 (show sp < 2 ^ 256 by omega)⟩
        refine lstep (wpO_plain rfl (op_call (F := 39) hs none (v := .tuple #[W lo46, W hi47]) rfl rfl rfl rfl (Try.call39 _) (rmul_c q42 sp lo46 hi47 lq42 (show sp < 2 ^ 256 by omega) hlo46 hhi47) rfl fun ac w hs => ?_))
        refine lstep (wpO_plain rfl (op_move hs none rfl rfl rfl rfl fun ac hs => ?_))
        refine lstep (wpO_plain rfl (op_extract hs none rfl rfl rfl rfl rfl fun ac hs => ?_))
        refine lstep (wpO_plain rfl (op_extract hs none rfl rfl rfl rfl rfl fun ac hs => ?_))
        refine lstep (wpO_plain rfl (op_alloc hs none none (cs := [.int .u64 0, .int .u64 0, .int .u64 0, .int .u64 0]) rfl rfl Try.zeroValue25 (by kernel_rfl) rfl rfl fun g48 ac w hs => ?_))
        refine lstep (wpO_plain rfl (op_alloc hs none none (cs := [.int .u64 0, .int .u64 0, .int .u64 0, .int .u64 0]) rfl rfl Try.zeroValue25 (by kernel_rfl) rfl rfl fun g49 ac w hs => ?_))
        refine lstep (wpO_plain rfl (op_store hs 4 (vs := (Wl lo46)) rfl rfl rfl rfl rfl Try.sizeOf25 rfl rfl rfl rfl rfl fun w hs => ?_))
        refine lstep (wpO_plain rfl (op_store hs 5 (vs := (Wl hi47)) rfl rfl rfl rfl rfl Try.sizeOf25 rfl rfl rfl rfl rfl fun w hs => ?_))
        refine wpList_nil ?_
        refine then_n ?_
        refine wp_seq ?_
        refine wp_seq ?_
        by_cases hq50 : hi47 ≠ 0
        · skip
          refine wp_region_lit ?_
          refine lstep (wpO_plain rfl (op_load hs none 5 (v := W hi47) rfl rfl rfl rfl Try.isAgg25 Try.sizeOf25 rfl rfl fun ac hs => ?_))
          refine lstep (wpO_plain rfl (op_build hs none (qs := []) (v := .agg #[.int .u64 0, .int .u64 0, .int .u64 0, .int .u64 0]) rfl rfl rfl rfl (fun _ => by kernel_rfl) rfl fun ac hs => ?_))
          refine lstep (wpO_plain rfl (op_bin hs none (v := .bool true) rfl rfl rfl rfl (fun w => run_eqGuard_agg w .neq 25 _ _ _ _ Try.eqGuardType25) (neqW hi47 0 lhi47 (by decide) true (decide_eq_true hq50)) rfl fun ac hs => ?_))
          refine lstep (wpO_plain rfl (op_move hs none rfl rfl rfl rfl fun ac hs => ?_))
          refine lstep (wpO_out hs none rfl rfl (.inl rfl) rfl rfl fun ac hs => ?_)
          refine lstep (wpO_out hs none rfl rfl (.inl rfl) rfl rfl fun ac hs => ?_)
          refine lstep (wpO_out hs none rfl rfl (.inl rfl) rfl rfl fun ac hs => ?_)
          refine lstep (wpO_out hs none rfl rfl (.inl rfl) rfl rfl fun ac hs => ?_)
          refine lstep (wpO_plain rfl (op_pickT hs none rfl rfl rfl rfl rfl fun ac hs => ?_))
          refine wpList_nil ?_
          refine then_n ?_
          refine wp_cond_true (hs.ev rfl) ?_
          refine wp_region_lit ?_
          refine lstep (wpO_plain rfl (op_load hs none 1 (v := W x40) rfl rfl rfl rfl Try.isAgg25 Try.sizeOf25 rfl rfl fun ac hs => ?_))
          refine lstep (wpO_plain rfl (op_store hs 4 (vs := (Wl x40)) rfl rfl rfl rfl rfl Try.sizeOf25 rfl rfl rfl rfl rfl fun w hs => ?_))
          refine wpList_nil ?_
          refine then_n ?_
          refine wp_seq ?_
          refine wp_region_lit ?_
          refine lstep (wpO_plain rfl (op_load hs none 4 (v := W x40) rfl rfl rfl rfl Try.isAgg25 Try.sizeOf25 rfl rfl fun ac hs => ?_))
          obtain ⟨cp51, hcp51⟩ : ∃ z0, cpt x40 = z0 := ⟨_, rfl⟩
          have lcp51 : cp51 < 4294967296 := by rw [← hcp51]; exact cpt_lt lx40
          refine lstep (wpO_plain rfl (op_call (F := 13) hs none (v := .int .u32 ((cp51 : Nat) : Int)) rfl rfl rfl rfl (Try.call13 _) (rcompact_c x40 cp51 lx40 hcp51) rfl fun ac w hs => ?_))
          refine lstep (wpO_plain rfl (op_assign hs none rfl rfl rfl rfl fun ac hs => ?_))
          refine wpList_nil ?_
          refine then_n ?_
          refine wp_ret ?_
          exact bodyPost_ret (res1 rfl (rv_t hs rfl)) hs.defers ⟨by rw [← hx', nxt_easy hx1 hq3 hq42 (by omega) hlo46 hhi47 hx40 (.inl hq50), hcp51], hs.below⟩
        · skip
          refine wp_region_lit ?_
          refine lstep (wpO_plain rfl (op_load hs none 5 (v := W hi47) rfl rfl rfl rfl Try.isAgg25 Try.sizeOf25 rfl rfl fun ac hs => ?_))
          refine lstep (wpO_plain rfl (op_build hs none (qs := []) (v := .agg #[.int .u64 0, .int .u64 0, .int .u64 0, .int .u64 0]) rfl rfl rfl rfl (fun _ => by kernel_rfl) rfl fun ac hs => ?_))
          refine lstep (wpO_plain rfl (op_bin hs none (v := .bool false) rfl rfl rfl rfl (fun w => run_eqGuard_agg w .neq 25 _ _ _ _ Try.eqGuardType25) (neqW hi47 0 lhi47 (by decide) false (decide_eq_false (not_not_intro (Classical.not_not.1 hq50)))) rfl fun ac hs => ?_))
          refine lstep (wpO_plain rfl (op_move hs none rfl rfl rfl rfl fun ac hs => ?_))
          refine lstep (wpO_in hs rfl rfl rfl (op_load hs none 4 (v := W lo46) rfl rfl rfl rfl Try.isAgg25 Try.sizeOf25 rfl rfl fun ac hs => ?_))
          refine lstep (wpO_in hs rfl rfl rfl (op_load hs none 1 (v := W x40) rfl rfl rfl rfl Try.isAgg25 Try.sizeOf25 rfl rfl fun ac hs => ?_))
          refine lstep (wpO_in hs rfl rfl rfl (op_call (F := 35) hs none (v := .int .i64 (cmpZ lo46 x40)) rfl rfl rfl rfl (Try.call35 _) (rcmp_c lo46 x40 llo46 lx40) rfl fun ac w hs => ?_))
          refine lstep (wpO_in hs rfl rfl rfl (op_bin hs none (v := .bool (decide (x40 < lo46))) rfl rfl rfl rfl (fun _ => rfl) (bin_cmp_gtr lo46 x40) rfl fun ac hs => ?_))
          refine lstep (wpO_plain rfl (op_pickF hs none rfl rfl rfl rfl rfl fun ac hs => ?_))
          refine wpList_nil ?_
          refine then_n ?_
          refine wp_cond_split (hs.ev rfl) (fun hc => ?_) (fun hc => ?_)
          · skip
            have hp52 := of_decide_eq_true hc
            refine wp_region_lit ?_
            refine lstep (wpO_plain rfl (op_load hs none 1 (v := W x40) rfl rfl rfl rfl Try.isAgg25 Try.sizeOf25 rfl rfl fun ac hs => ?_))
            refine lstep (wpO_plain rfl (op_store hs 4 (vs := (Wl x40)) rfl rfl rfl rfl rfl Try.sizeOf25 rfl rfl rfl rfl rfl fun w hs => ?_))
            refine wpList_nil ?_
            refine then_n ?_
            refine wp_seq ?_
            refine wp_region_lit ?_
            refine lstep (wpO_plain rfl (op_load hs none 4 (v := W x40) rfl rfl rfl rfl Try.isAgg25 Try.sizeOf25 rfl rfl fun ac hs => ?_))
            obtain ⟨cp53, hcp53⟩ : ∃ z0, cpt x40 = z0 := ⟨_, rfl⟩
            have lcp53 : cp53 < 4294967296 := by rw [← hcp53]; exact cpt_lt lx40
            refine lstep (wpO_plain rfl (op_call (F := 13) hs none (v := .int .u32 ((cp53 : Nat) : Int)) rfl rfl rfl rfl (Try.call13 _) (rcompact_c x40 cp53 lx40 hcp53) rfl fun ac w hs => ?_))
            refine lstep (wpO_plain rfl (op_assign hs none rfl rfl rfl rfl fun ac hs => ?_))
            refine wpList_nil ?_
            refine then_n ?_
            refine wp_ret ?_
            exact bodyPost_ret (res1 rfl (rv_t hs rfl)) hs.defers ⟨by rw [← hx', nxt_easy hx1 hq3 hq42 (by omega) hlo46 hhi47 hx40 (.inr hp52), hcp53], hs.below⟩
          · skip
            have hp54 := of_decide_eq_false hc
            refine wp_skip ?_
            refine then_n ?_
            refine wp_seq ?_
            refine wp_region_lit ?_
            refine lstep (wpO_plain rfl (op_load hs none 4 (v := W lo46) rfl rfl rfl rfl Try.isAgg25 Try.sizeOf25 rfl rfl fun ac hs => ?_))
            obtain ⟨cp55, hcp55⟩ : ∃ z0, cpt lo46 = z0 := ⟨_, rfl⟩
            have lcp55 : cp55 < 4294967296 := by rw [← hcp55]; exact cpt_lt llo46
            refine lstep (wpO_plain rfl (op_call (F := 13) hs none (v := .int .u32 ((cp55 : Nat) : Int)) rfl rfl rfl rfl (Try.call13 _) (rcompact_c lo46 cp55 llo46 hcp55) rfl fun ac w hs => ?_))
            refine lstep (wpO_plain rfl (op_assign hs none rfl rfl rfl rfl fun ac hs => ?_))
            refine wpList_nil ?_
            refine then_n ?_
            refine wp_ret ?_
            exact bodyPost_ret (res1 rfl (rv_t hs rfl)) hs.defers ⟨by rw [← hx', nxt_low hx1 hq3 hq42 (by omega) hlo46 hhi47 hx40 hq50 hp54, hcp55], hs.below⟩
end Go.Proofs.Ytemacggbabiafaa
