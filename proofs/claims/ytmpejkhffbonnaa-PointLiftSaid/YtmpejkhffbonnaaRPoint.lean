/- The contracts of the reference's points. -/
import Derived.Test.YtmpejkhffbonnaaRField
import Derived.Test.YtmpejkhffbonnaaPoint
import Derived.Test.YtmpejkhffbonnaaOrdP
import Derived.Test.YtmpejkhffbonnaaWLenR
namespace Go.Proofs.Ytmpejkhffbonnaa
open Go.RowKit
set_option maxRecDepth 10000
set_option maxHeartbeats 1000000

theorem rbytes_c (a : Nat) (ha : a < 2 ^ 256) (w0 : World) : Calls Try.prog 52 #[W a] w0 fun e w' => e = .returned (At .u8 32 (by8 a)) ∧ Below w0.heap.size w0 w' := by
  refine enter (n := 25) (args := [W a]) Try.func52 rfl rfl (Nat.le_of_ble_eq_true rfl) fun ac hs => ?_
  refine wp_seq ?_
  refine wp_region_lit ?_
  refine lstep (wpO_plain rfl (op_box hs none none (cs := (Wl a)) rfl rfl rfl rfl rfl rfl fun g1 ac w hs => ?_))
  refine lstep (wpO_plain rfl (op_alloc hs none none (cs := (tab .u8 32 (fun _ => 0))) rfl rfl Try.zeroValue35 (by kernel_rfl) rfl rfl fun g2 ac w hs => ?_))
  refine wpList_nil ?_
  refine then_n ?_
  refine wp_seq ?_
  refine wp_region_lit ?_
  refine lstep (wpO_plain rfl (op_build hs none (qs := []) (v := At .u8 32 (fun _ => 0)) rfl rfl rfl rfl (fun _ => by kernel_rfl) rfl fun ac hs => ?_))
  refine lstep (wpO_plain rfl (op_alloc hs none none (cs := (tab .u8 32 (fun _ => 0))) rfl rfl Try.zeroValue35 (by kernel_rfl) rfl rfl fun g3 ac w hs => ?_))
  refine lstep (wpO_plain rfl (op_store hs 2 (vs := (tab .u8 32 (fun _ => 0))) rfl rfl rfl rfl rfl Try.sizeOf35 (by kernel_rfl) tab_length' (tab_one _ _ _) tab_leA wr_tab fun w hs => ?_))
  refine wpList_nil ?_
  refine then_n ?_
  refine wp_seq ?_
  refine wp_seq ?_
  refine wp_region_lit ?_
  refine lstep (wpO_plain rfl (op_assign hs none rfl rfl rfl rfl fun ac hs => ?_))
  refine wpList_nil ?_
  refine then_n ?_
  refine wp_block ?_
  refine wp_loop_m (fun μ ac w => ∃ (i : Nat) (f : Nat → Nat), (32 - i) = μ ∧ (i ≤ 32) ∧ (∀ j, j < 32 → f j = byf a i j) ∧ St 25 w0 [(1, true, .pointer (some ⟨g1, 0, none⟩)), (2, true, .pointer (some ⟨g2, 0, none⟩)), (3, true, .pointer (some ⟨g3, 0, none⟩)), (4, true, .int .i64 ((i : Nat) : Int))] [(true, g1, 24, (Wl a)), (true, g2, 35, (tab .u8 32 (fun _ => 0))), (true, g3, 35, (tab .u8 32 f))] ac w) ?_ ?_
  · exact ⟨_, 0, (fun _ => 0), rfl, (by omega), byte_start, (hs.re ⟨rfl, rfl, rfl, rfl, trivial⟩)⟩
  intro μ ac w ⟨i, f, hμ, hi, hf, hs⟩
  refine wp_seq ?_
  refine wp_seq ?_
  refine wp_region_lit ?_
  refine lstep (wpO_plain rfl (op_move hs none rfl rfl rfl rfl fun ac hs => ?_))
  refine lstep (wpO_plain rfl (op_bin hs none (v := .bool (decide (i < 32))) rfl rfl rfl rfl (fun _ => rfl) (bin_lssN (x := i) (y := 32)) rfl fun ac hs => ?_))
  refine wpList_nil ?_
  refine then_n ?_
  refine wp_cond_split (hs.ev rfl) (fun hc => ?_) (fun hc => ?_)
  · skip
    have hp4 := of_decide_eq_true hc
    have hlt : i < 32 := of_decide_eq_true hc
    refine wp_skip ?_
    refine then_n ?_
    refine wp_seq ?_
    refine wp_block ?_
    refine wp_region_lit ?_
    refine lstep (wpO_plain rfl (op_move hs none rfl rfl rfl rfl fun ac hs => ?_))
    refine lstep (wpO_plain rfl (op_bin hs none (v := .int .i64 ((31 - i : Nat) : Int)) rfl rfl rfl rfl (fun _ => rfl) (bin_subN (x := 31) (y := i) (z := 31 - i) (by omega) (show 31 - i < 9223372036854775808 by omega)) rfl fun ac hs => ?_))
    refine lstep (wpO_plain rfl (op_move hs none rfl rfl rfl rfl fun ac hs => ?_))
    refine lstep (wpO_plain rfl (op_bin hs none (v := .int .i64 ((i / 8 : Nat) : Int)) rfl rfl rfl rfl (fun _ => rfl) (bin_quoN (x := i) (y := 8) (z := i / 8) rfl (by decide) (show i < 9223372036854775808 by omega)) rfl fun ac hs => ?_))
    refine lstep (wpO_plain rfl (op_idxA hs none (j := i / 8) rfl rfl rfl rfl Try.underlying24 Try.sizeOf22 (show i / 8 < 4 by omega) (off := i / 8) (by omega) rfl fun ac hs => ?_))
    have l5 := limN_lt a (i / 8)
    refine lstep (wpO_plain rfl (op_load hs none 0 (v := .int .u64 ((limN a (i / 8) : Nat) : Int)) rfl rfl rfl rfl Try.isAgg22 Try.sizeOf22 (Wl_get (j := i / 8) (show i / 8 < 4 by omega)) rfl fun ac hs => ?_))
    refine lstep (wpO_plain rfl (op_move hs none rfl rfl rfl rfl fun ac hs => ?_))
    refine lstep (wpO_plain rfl (op_bin hs none (v := .int .i64 ((i % 8 : Nat) : Int)) rfl rfl rfl rfl (fun _ => rfl) (bin_remN (x := i) (y := 8) (z := i % 8) rfl (by decide)) rfl fun ac hs => ?_))
    refine lstep (wpO_plain rfl (op_bin hs none (v := .int .i64 ((8 * (i % 8) : Nat) : Int)) rfl rfl rfl rfl (fun _ => rfl) (bin_mulN (x := 8) (y := i % 8) (z := 8 * (i % 8)) rfl (show 8 * (i % 8) < 9223372036854775808 by omega)) rfl fun ac hs => ?_))
    refine lstep (wpO_plain rfl (op_convert hs none (v := .int .u64 ((8 * (i % 8) : Nat) : Int)) rfl rfl rfl (conv_N Try.underlying3 Try.underlying70 (show 8 * (i % 8) < 18446744073709551616 by omega)) rfl fun ac hs => ?_))
    refine lstep (wpO_plain rfl (op_bin hs none (v := .int .u64 ((2 ^ (8 * (i % 8)) : Nat) : Int)) rfl rfl rfl rfl (fun _ => rfl) (bin_shlM (x := 1) (y := 8 * (i % 8)) (z := 2 ^ (8 * (i % 8))) rfl (pow_mod64 (show 8 * (i % 8) < 64 by omega))) rfl fun ac hs => ?_))
    refine lstep (wpO_plain rfl (op_bin hs none (v := .int .u64 (((limN a (i / 8)) / (2 ^ (8 * (i % 8))) : Nat) : Int)) rfl rfl rfl rfl (fun _ => rfl) (bin_quoN (x := limN a (i / 8)) (y := 2 ^ (8 * (i % 8))) (z := (limN a (i / 8)) / (2 ^ (8 * (i % 8)))) rfl (Nat.ne_of_gt (Nat.two_pow_pos _)) (limN_lt _ _)) rfl fun ac hs => ?_))
    refine lstep (wpO_plain rfl (op_convert hs none (v := .int .u8 ((((limN a (i / 8)) / (2 ^ (8 * (i % 8)))) % 256 : Nat) : Int)) rfl rfl rfl (conv_M (z := ((limN a (i / 8)) / (2 ^ (8 * (i % 8)))) % 256) rfl Try.underlying22 Try.underlying5 rfl) rfl fun ac hs => ?_))
    refine lstep (wpO_plain rfl (op_idxA hs none (j := 31 - i) rfl rfl rfl rfl Try.underlying35 Try.sizeOf5 (show 31 - i < 32 by omega) (off := 31 - i) (by omega) rfl fun ac hs => ?_))
    refine lstep (wpO_plain rfl (op_store hs 2 (vs := [.int .u8 ((((limN a (i / 8)) / (2 ^ (8 * (i % 8)))) % 256 : Nat) : Int)]) rfl rfl rfl rfl rfl Try.sizeOf5 rfl rfl rfl (tab_le (j := 31 - i) (show 31 - i < 32 by omega)) (tab_set) fun w hs => ?_))
    refine wpList_nil ?_
    refine blk_n ?_
    refine then_n ?_
    replace hs : St 25 w0 [(1, true, .pointer (some ⟨g1, 0, none⟩)), (2, true, .pointer (some ⟨g2, 0, none⟩)), (3, true, .pointer (some ⟨g3, 0, none⟩)), (4, true, .int .i64 ((i : Nat) : Int))] [(true, g1, 24, (Wl a)), (true, g2, 35, (tab .u8 32 (fun _ => 0))), (true, g3, 35, (tab .u8 32 (upn f (31 - i) (((limN a (i / 8)) / (2 ^ (8 * (i % 8)))) % 256))))] ac _ := hs.re ⟨rfl, rfl, rfl, rfl, trivial⟩
    refine wp_region_lit ?_
    refine lstep (wpO_plain rfl (op_move hs none rfl rfl rfl rfl fun ac hs => ?_))
    refine lstep (wpO_plain rfl (op_bin hs none (v := .int .i64 ((i + 1 : Nat) : Int)) rfl rfl rfl rfl (fun _ => rfl) (bin_addN (x := i) (y := 1) (z := i + 1) rfl (show i + 1 < 9223372036854775808 by omega)) rfl fun ac hs => ?_))
    refine lstep (wpO_plain rfl (op_assign hs none rfl rfl rfl rfl fun ac hs => ?_))
    refine wpList_nil ?_
    refine then_n ?_
    exact ⟨_, ⟨(i + 1), (upn f (31 - i) (((limN a (i / 8)) / (2 ^ (8 * (i % 8)))) % 256)), rfl, hlt, (byte_step hlt hf), (hs.re ⟨rfl, rfl, rfl, rfl, trivial⟩)⟩, (by omega)⟩
  · skip
    have hp6 := of_decide_eq_false hc
    obtain rfl : i = 32 := by omega
    replace hs := hs.setb 2 (cs' := tab .u8 32 (by8 a)) rfl (tab_congr (byte_fin hf))
    refine wp_exit ?_
    refine then_e ?_
    refine then_e ?_
    refine blk_e ?_
    refine then_n ?_
    refine wp_seq ?_
    refine wp_region_lit ?_
    refine lstep (wpO_plain rfl (op_load hs none 2 (v := At .u8 32 (by8 a)) rfl rfl rfl rfl Try.isAgg35 Try.sizeOf35 ldv_tab rfl fun ac hs => ?_))
    refine lstep (wpO_plain rfl (op_store hs 1 (vs := (tab .u8 32 (by8 a))) rfl rfl rfl rfl rfl Try.sizeOf35 (by kernel_rfl) tab_length' (tab_one _ _ _) tab_leA wr_tab fun w hs => ?_))
    refine wpList_nil ?_
    refine then_n ?_
    refine wp_ret ?_
    exact bodyPost_ret (res1 rfl (rv_c hs 1 (v := At .u8 32 (by8 a)) rfl rfl Try.isAgg35 Try.sizeOf35 ldv_tab)) hs.defers ⟨rfl, hs.below⟩
theorem rright_c (a x : Nat) (ha : a < 2 ^ 256) (hx : rgt a = x) (w0 : World) : Calls Try.prog 49 #[W a] w0 fun e w' => e = .returned (W x) ∧ Below w0.heap.size w0 w' := by
  refine enter (n := 10) (args := [W a]) Try.func49 rfl rfl (Nat.le_of_ble_eq_true rfl) fun ac hs => ?_
  refine wp_seq ?_
  refine wp_region_lit ?_
  refine lstep (wpO_plain rfl (op_box hs none none (cs := (Wl a)) rfl rfl rfl rfl rfl rfl fun g1 ac w hs => ?_))
  refine lstep (wpO_plain rfl (op_alloc hs none none (cs := [.int .u64 0, .int .u64 0, .int .u64 0, .int .u64 0]) rfl rfl Try.zeroValue24 (by kernel_rfl) rfl rfl fun g2 ac w hs => ?_))
  refine wpList_nil ?_
  refine then_n ?_
  refine wp_seq ?_
  replace hs : St 10 w0 [(1, true, .pointer (some ⟨g1, 0, none⟩)), (2, true, .pointer (some ⟨g2, 0, none⟩))] [(true, g1, 24, (Wl a)), (true, g2, 24, [.int .u64 0, .int .u64 0, .int .u64 0, .int .u64 0])] ac _ := hs.re ⟨rfl, rfl, trivial⟩
  obtain ⟨r3, hr3, lr3⟩ : ∃ z0, a * a % Pf = z0 ∧ z0 < 2 ^ 256 := ⟨_, rfl, modP_lt _⟩
  obtain ⟨r4, hr4, lr4⟩ : ∃ z0, a * r3 % Pf = z0 ∧ z0 < 2 ^ 256 := ⟨_, rfl, modP_lt _⟩
  obtain ⟨r5, hr5, lr5⟩ : ∃ z0, (r4 + 7) % Pf = z0 ∧ z0 < 2 ^ 256 := ⟨_, rfl, modP_lt _⟩
  refine region_inv [([], [4, 6, 7]), ([], [3, 4, 6, 7]), ([], [3, 4, 6, 7]), ([1, 2], [4, 6, 7]), ([0, 1, 2, 3], [6, 7]), ([], [6, 7]), ([0, 1, 2, 3, 4, 5], [7]), ([0, 1, 2, 3, 4, 5, 6], [])] (fun L ac w => St 10 w0 [(3, L 0, W a), (4, L 1, W a), (5, L 2, W a), (6, L 3, W r3), (7, L 4, W r4), (8, L 5, .agg #[.int .u64 7, .int .u64 0, .int .u64 0, .int .u64 0]), (9, L 6, W r5), (1, true, .pointer (some ⟨g1, 0, none⟩)), (2, true, .pointer (some ⟨g2, 0, none⟩))] [(true, g1, 24, (Wl a)), (true, g2, 24, (cond (L 7) (Wl r5) [.int .u64 0, .int .u64 0, .int .u64 0, .int .u64 0]))] ac w) (by kernel_rfl) (by kernel_rfl) ?_ ?_ ?_
  · exact hs.drew.skip.skip.skip.skip.skip.skip.skip
  · refine ⟨?_, ?_, ?_, ?_, ?_, ?_, ?_, ?_, trivial⟩
    · intro L ac w hJ
      have hs := hJ
      refine wpO_plain rfl (op_load hs (some 0) 0 (v := W a) rfl rfl rfl rfl Try.isAgg24 Try.sizeOf24 rfl rfl fun ac hs => ?_)
      exact hs
    · intro L ac w hJ
      have hs := hJ
      refine wpO_plain rfl (op_load hs (some 1) 0 (v := W a) rfl rfl rfl rfl Try.isAgg24 Try.sizeOf24 rfl rfl fun ac hs => ?_)
      exact hs
    · intro L ac w hJ
      have hs := hJ
      refine wpO_plain rfl (op_load hs (some 2) 0 (v := W a) rfl rfl rfl rfl Try.isAgg24 Try.sizeOf24 rfl rfl fun ac hs => ?_)
      exact hs
    · intro L ac w hJ
      have hs := hJ
      refine wpO_plain rfl (op_call (F := 43) hs (some 3) (v := W r3) rfl rfl rfl rfl (Try.call43 _) (rfmul_c a a r3 ha ha hr3) rfl fun ac w hs => ?_)
      exact hs
    · intro L ac w hJ
      have hs := hJ
      refine wpO_plain rfl (op_call (F := 43) hs (some 4) (v := W r4) rfl rfl rfl rfl (Try.call43 _) (rfmul_c a r3 r4 ha lr3 hr4) rfl fun ac w hs => ?_)
      exact hs
    · intro L ac w hJ
      have hs := hJ
      refine wpO_plain rfl (op_build hs (some 5) (qs := [(0, .int .u64 7)]) (v := .agg #[.int .u64 7, .int .u64 0, .int .u64 0, .int .u64 0]) rfl rfl rfl rfl (fun _ => by kernel_rfl) rfl fun ac hs => ?_)
      exact hs
    · intro L ac w hJ
      have hs := hJ
      refine wpO_plain rfl (op_call (F := 71) hs (some 6) (v := W r5) rfl rfl rfl rfl (Try.call71 _) (rfadd_c r4 7 r5 lr4 (by decide) hr5) rfl fun ac w hs => ?_)
      exact hs
    · intro L ac w hJ
      have hs := hJ
      refine wpO_plain rfl (op_store hs 1 (vs := (Wl r5)) rfl rfl rfl rfl rfl Try.sizeOf24 rfl rfl rfl rfl rfl fun w hs => ?_)
      exact hs
  intro ac w hJ
  replace hs : St 10 w0 [(3, true, W a), (4, true, W a), (5, true, W a), (6, true, W r3), (7, true, W r4), (8, true, .agg #[.int .u64 7, .int .u64 0, .int .u64 0, .int .u64 0]), (9, true, W r5), (1, true, .pointer (some ⟨g1, 0, none⟩)), (2, true, .pointer (some ⟨g2, 0, none⟩))] [(true, g1, 24, (Wl a)), (true, g2, 24, (Wl r5))] ac w := hJ
  refine then_n ?_
  refine wp_ret ?_
  exact bodyPost_ret (res1 rfl (rv_c hs 1 (v := W r5) rfl rfl Try.isAgg24 Try.sizeOf24 rfl)) hs.defers ⟨by rw [← hx, rgt_of2 hr3 hr4 hr5], hs.below⟩
theorem rbelow_c (a : Nat) (q : Bool) (ha : a < 2 ^ 256) (hq : decide (a < Pf) = q) (w0 : World) : Calls Try.prog 48 #[W a] w0 fun e w' => e = .returned (.bool q) ∧ Below w0.heap.size w0 w' := by
  refine enter (n := 7) (args := [W a]) Try.func48 rfl rfl (Nat.le_of_ble_eq_true rfl) fun ac hs => ?_
  refine wp_seq ?_
  refine wp_region_lit ?_
  refine lstep (wpO_plain rfl (op_box hs none none (cs := (Wl a)) rfl rfl rfl rfl rfl rfl fun g1 ac w hs => ?_))
  refine lstep (wpO_plain rfl (op_assign hs none rfl rfl rfl rfl fun ac hs => ?_))
  refine wpList_nil ?_
  refine then_n ?_
  refine wp_seq ?_
  replace hs : St 7 w0 [(1, true, .pointer (some ⟨g1, 0, none⟩)), (2, true, .bool false)] [(true, g1, 24, (Wl a))] ac _ := hs.re ⟨rfl, rfl, trivial⟩
  refine region_inv [([], [2, 3, 4]), ([], [2, 3, 4]), ([0, 1], [3, 4]), ([0, 1, 2], [4]), ([0, 1, 2, 3], [])] (fun L ac w => St 7 w0 [(3, L 0, W a), (4, L 1, W Pf), (5, L 2, .int .i64 (cmpZ a Pf)), (6, L 3, .bool (decide (a < Pf))), (2, L 4, .bool (decide (a < Pf))), (1, true, .pointer (some ⟨g1, 0, none⟩)), (2, true, .bool false)] [(true, g1, 24, (Wl a))] ac w) (by kernel_rfl) (by kernel_rfl) ?_ ?_ ?_
  · exact hs.drew.skip.skip.skip.skip.skip
  · refine ⟨?_, ?_, ?_, ?_, ?_, trivial⟩
    · intro L ac w hJ
      have hs := hJ
      refine wpO_plain rfl (op_load hs (some 0) 0 (v := W a) rfl rfl rfl rfl Try.isAgg24 Try.sizeOf24 rfl rfl fun ac hs => ?_)
      exact hs
    · intro L ac w hJ
      have hs := hJ
      refine wpO_plain rfl (op_call (F := 74) hs (some 1) (v := W Pf) rfl rfl rfl rfl (Try.call74 _) rprime_c rfl fun ac w hs => ?_)
      exact hs
    · intro L ac w hJ
      have hs := hJ
      refine wpO_plain rfl (op_call (F := 80) hs (some 2) (v := .int .i64 (cmpZ a Pf)) rfl rfl rfl rfl (Try.call80 _) (rcmp_c a Pf ha Pf_lt) rfl fun ac w hs => ?_)
      exact hs
    · intro L ac w hJ
      have hs := hJ
      refine wpO_plain rfl (op_bin hs (some 3) (v := .bool (decide (a < Pf))) rfl rfl rfl rfl (fun _ => rfl) (bin_cmp_lss a Pf) rfl fun ac hs => ?_)
      exact hs
    · intro L ac w hJ
      have hs := hJ
      refine wpO_plain rfl (op_assign hs (some 4) rfl rfl rfl rfl fun ac hs => ?_)
      exact hs
  intro ac w hJ
  replace hs : St 7 w0 [(3, true, W a), (4, true, W Pf), (5, true, .int .i64 (cmpZ a Pf)), (6, true, .bool (decide (a < Pf))), (2, true, .bool (decide (a < Pf))), (1, true, .pointer (some ⟨g1, 0, none⟩)), (2, true, .bool false)] [(true, g1, 24, (Wl a))] ac w := hJ
  refine then_n ?_
  refine wp_ret ?_
  exact bodyPost_ret (res1 rfl (rv_t hs rfl)) hs.defers ⟨by rw [← hq], hs.below⟩
theorem ron_c_t (x y : Nat) (hx : x < 2 ^ 256) (hy : y < 2 ^ 256) (w0 : World) : Calls Try.prog 17 #[PV x y true] w0 fun e w' => e = .returned (.bool (onB x y true)) ∧ Below w0.heap.size w0 w' := by
  refine enter (n := 27) (args := [PV x y true]) Try.func17 rfl rfl (Nat.le_of_ble_eq_true rfl) fun ac hs => ?_
  refine wp_seq ?_
  refine wp_region_lit ?_
  refine lstep (wpO_plain rfl (op_box hs none none (cs := (PVl x y true)) rfl rfl rfl rfl rfl rfl fun g1 ac w hs => ?_))
  refine lstep (wpO_plain rfl (op_assign hs none rfl rfl rfl rfl fun ac hs => ?_))
  refine wpList_nil ?_
  refine then_n ?_
  refine wp_seq ?_
  refine wp_seq ?_
  refine wp_region_lit ?_
  refine lstep (wpO_plain rfl (op_fieldA hs none rfl rfl rfl Try.underlying26 rfl Try.sizeOf4 (by decide) rfl fun ac hs => ?_))
  refine lstep (wpO_plain rfl (op_load hs none 0 (v := .bool true) rfl rfl rfl rfl Try.isAgg4 Try.sizeOf4 rfl rfl fun ac hs => ?_))
  refine wpList_nil ?_
  refine then_n ?_
  refine wp_cond_true (hs.ev rfl) ?_
  refine wp_seq ?_
  refine wp_region_lit ?_
  refine lstep (wpO_plain rfl (op_load hs none 0 (v := PV x y true) rfl rfl rfl rfl Try.isAgg26 Try.sizeOf26 rfl rfl fun ac hs => ?_))
  refine lstep (wpO_plain rfl (op_build hs none (qs := [(2, .bool true)]) (v := PV 0 0 true) rfl rfl rfl rfl (fun _ => by kernel_rfl) rfl fun ac hs => ?_))
  refine lstep (wpO_plain rfl (op_bin hs none (v := .bool (decide (x = 0 ∧ y = 0 ∧ true = true))) rfl rfl rfl rfl (fun w => run_eqGuard_agg w .eql 26 _ _ _ _ Try.eqGuardType26) (eqlP x y 0 0 true true hx hy (by decide) (by decide) _ rfl) rfl fun ac hs => ?_))
  refine lstep (wpO_plain rfl (op_assign hs none rfl rfl rfl rfl fun ac hs => ?_))
  refine wpList_nil ?_
  refine then_n ?_
  refine wp_ret ?_
  refine then_r ?_
  exact bodyPost_ret (res1 rfl (rv_t hs rfl)) hs.defers ⟨congrArg (fun b => Ending.returned (.bool b)) ont, hs.below⟩
theorem ron_c_f (x y : Nat) (hx : x < 2 ^ 256) (hy : y < 2 ^ 256) (w0 : World) : Calls Try.prog 17 #[PV x y false] w0 fun e w' => e = .returned (.bool (onB x y false)) ∧ Below w0.heap.size w0 w' := by
  refine enter (n := 27) (args := [PV x y false]) Try.func17 rfl rfl (Nat.le_of_ble_eq_true rfl) fun ac hs => ?_
  refine wp_seq ?_
  refine wp_region_lit ?_
  refine lstep (wpO_plain rfl (op_box hs none none (cs := (PVl x y false)) rfl rfl rfl rfl rfl rfl fun g1 ac w hs => ?_))
  refine lstep (wpO_plain rfl (op_assign hs none rfl rfl rfl rfl fun ac hs => ?_))
  refine wpList_nil ?_
  refine then_n ?_
  refine wp_seq ?_
  refine wp_seq ?_
  refine wp_region_lit ?_
  refine lstep (wpO_plain rfl (op_fieldA hs none rfl rfl rfl Try.underlying26 rfl Try.sizeOf4 (by decide) rfl fun ac hs => ?_))
  refine lstep (wpO_plain rfl (op_load hs none 0 (v := .bool false) rfl rfl rfl rfl Try.isAgg4 Try.sizeOf4 rfl rfl fun ac hs => ?_))
  refine wpList_nil ?_
  refine then_n ?_
  refine wp_cond_false (hs.ev rfl) ?_
  refine wp_skip ?_
  refine then_n ?_
  refine wp_seq ?_
  by_cases hq2 : x < Pf
  · skip
    by_cases hq3 : y < Pf
    · skip
      replace hs : St 27 w0 [(1, true, .pointer (some ⟨g1, 0, none⟩)), (2, true, .bool false)] [(true, g1, 26, (PVl x y false))] ac _ := hs.re ⟨rfl, rfl, trivial⟩
      obtain ⟨r4, hr4, lr4⟩ : ∃ z0, y * y % Pf = z0 ∧ z0 < 2 ^ 256 := ⟨_, rfl, modP_lt _⟩
      obtain ⟨r5, hr5, lr5⟩ : ∃ z0, rgt x = z0 ∧ z0 < 2 ^ 256 := ⟨_, rfl, modP_lt _⟩
      refine region_inv [([], [1, 2, 3, 4, 5, 6, 7, 8, 9, 10, 11, 12, 13, 14, 15, 16, 17, 18, 19]), ([0], [2, 3, 4, 5, 6, 7, 8, 9, 10, 11, 12, 13, 14, 15, 16, 17, 18, 19]), ([0, 1], [3, 4, 5, 6, 7, 8, 9, 10, 11, 12, 13, 14, 15, 16, 17, 18, 19]), ([0, 1, 2], [4, 5, 6, 7, 8, 9, 10, 11, 12, 13, 14, 15, 16, 17, 18, 19]), ([0, 1, 2, 3], [5, 6, 7, 8, 9, 10, 11, 12, 13, 14, 15, 16, 17, 18, 19]), ([0, 1, 2, 3, 4], [6, 7, 8, 9, 10, 11, 12, 13, 14, 15, 16, 17, 18, 19]), ([0, 1, 2, 3, 4, 5], [7, 8, 9, 10, 11, 12, 13, 14, 15, 16, 17, 18, 19]), ([0, 1, 2, 3, 4, 5, 6], [8, 9, 10, 11, 12, 13, 14, 15, 16, 17, 18, 19]), ([0, 1, 2, 3, 4, 5, 6, 7], [9, 10, 11, 12, 13, 14, 15, 16, 17, 18, 19]), ([0, 1, 2, 3, 4, 5, 6, 7, 8], [10, 13, 16, 17, 18, 19]), ([0, 1, 2, 3, 4, 5, 6, 7, 8, 9], [13, 16, 17, 18, 19]), ([0, 1, 2, 3, 4, 5, 6, 7, 8], [12, 13, 16, 17, 18, 19]), ([0, 1, 2, 3, 4, 5, 6, 7, 8, 11], [13, 16, 17, 18, 19]), ([0, 1, 2, 3, 4, 5, 6, 7, 8, 9, 10, 11, 12], [16, 17, 18, 19]), ([0, 1, 2, 3, 4, 5, 6, 7, 8], [15, 16, 17, 18, 19]), ([0, 1, 2, 3, 4, 5, 6, 7, 8, 14], [16, 17, 18, 19]), ([0, 1, 2, 3, 4, 5, 6, 7, 8, 9, 10, 11, 12, 13, 14, 15], [17, 18, 19]), ([0, 1, 2, 3, 4, 5, 6, 7, 8, 9, 10, 11, 12, 13, 14, 15, 16], [18, 19]), ([0, 1, 2, 3, 4, 5, 6, 7, 8, 9, 10, 11, 12, 13, 14, 15, 16, 17], [19]), ([0, 1, 2, 3, 4, 5, 6, 7, 8, 9, 10, 11, 12, 13, 14, 15, 16, 17, 18], [])] (fun L ac w => St 27 w0 [(8, L 0, .pointer (some ⟨g1, 0, none⟩)), (9, L 1, W x), (10, L 2, .bool true), (11, L 3, .bool true), (12, L 4, .pointer (some ⟨g1, 4, none⟩)), (13, L 5, W y), (14, L 6, .bool true), (15, L 7, .bool true), (16, L 8, .bool true), (17, L 9, .pointer (some ⟨g1, 4, none⟩)), (18, L 10, W y), (19, L 11, .pointer (some ⟨g1, 4, none⟩)), (20, L 12, W y), (21, L 13, W r4), (22, L 14, .pointer (some ⟨g1, 0, none⟩)), (23, L 15, W x), (24, L 16, W r5), (25, L 17, .bool (decide (r4 = r5))), (26, L 18, .bool (decide (r4 = r5))), (2, L 19, .bool (decide (r4 = r5))), (1, true, .pointer (some ⟨g1, 0, none⟩)), (2, true, .bool false)] [(true, g1, 26, (PVl x y false))] ac w) (by kernel_rfl) (by kernel_rfl) ?_ ?_ ?_
      · exact hs.drew.skip.skip.skip.skip.skip.skip.skip.skip.skip.skip.skip.skip.skip.skip.skip.skip.skip.skip.skip.skip
      · refine ⟨?_, ?_, ?_, ?_, ?_, ?_, ?_, ?_, ?_, ?_, ?_, ?_, ?_, ?_, ?_, ?_, ?_, ?_, ?_, ?_, trivial⟩
        · intro L ac w hJ
          have hs := hJ
          refine wpO_plain rfl (op_fieldA hs (some 0) rfl rfl rfl Try.underlying26 rfl Try.sizeOf24 (by decide) rfl fun ac hs => ?_)
          exact hs
        · intro L ac w hJ
          have hs := hJ
          refine wpO_plain rfl (op_load hs (some 1) 0 (v := W x) rfl rfl rfl rfl Try.isAgg24 Try.sizeOf24 rfl rfl fun ac hs => ?_)
          exact hs
        · intro L ac w hJ
          have hs := hJ
          refine wpO_plain rfl (op_call (F := 48) hs (some 2) (v := .bool true) rfl rfl rfl rfl (Try.call48 _) (rbelow_c x true hx (decide_eq_true hq2)) rfl fun ac w hs => ?_)
          exact hs
        · intro L ac w hJ
          have hs := hJ
          refine wpO_plain rfl (op_move hs (some 3) rfl rfl rfl rfl fun ac hs => ?_)
          exact hs
        · intro L ac w hJ
          have hs := hJ
          refine wpO_in hs rfl rfl rfl (op_fieldA hs (some 4) rfl rfl rfl Try.underlying26 rfl Try.sizeOf24 (by decide) rfl fun ac hs => ?_)
          exact hs
        · intro L ac w hJ
          have hs := hJ
          refine wpO_in hs rfl rfl rfl (op_load hs (some 5) 0 (v := W y) rfl rfl rfl rfl Try.isAgg24 Try.sizeOf24 rfl rfl fun ac hs => ?_)
          exact hs
        · intro L ac w hJ
          have hs := hJ
          refine wpO_in hs rfl rfl rfl (op_call (F := 48) hs (some 6) (v := .bool true) rfl rfl rfl rfl (Try.call48 _) (rbelow_c y true hy (decide_eq_true hq3)) rfl fun ac w hs => ?_)
          exact hs
        · intro L ac w hJ
          have hs := hJ
          refine wpO_plain rfl (op_pickT hs (some 7) rfl rfl rfl rfl rfl fun ac hs => ?_)
          exact hs
        · intro L ac w hJ
          have hs := hJ
          refine wpO_plain rfl (op_move hs (some 8) rfl rfl rfl rfl fun ac hs => ?_)
          exact hs
        · intro L ac w hJ
          have hs := hJ
          refine wpO_in hs rfl rfl rfl (op_fieldA hs (some 9) rfl rfl rfl Try.underlying26 rfl Try.sizeOf24 (by decide) rfl fun ac hs => ?_)
          exact hs
        · intro L ac w hJ
          have hs := hJ
          refine wpO_in hs rfl rfl rfl (op_load hs (some 10) 0 (v := W y) rfl rfl rfl rfl Try.isAgg24 Try.sizeOf24 rfl rfl fun ac hs => ?_)
          exact hs
        · intro L ac w hJ
          have hs := hJ
          refine wpO_in hs rfl rfl rfl (op_fieldA hs (some 11) rfl rfl rfl Try.underlying26 rfl Try.sizeOf24 (by decide) rfl fun ac hs => ?_)
          exact hs
        · intro L ac w hJ
          have hs := hJ
          refine wpO_in hs rfl rfl rfl (op_load hs (some 12) 0 (v := W y) rfl rfl rfl rfl Try.isAgg24 Try.sizeOf24 rfl rfl fun ac hs => ?_)
          exact hs
        · intro L ac w hJ
          have hs := hJ
          refine wpO_in hs rfl rfl rfl (op_call (F := 43) hs (some 13) (v := W r4) rfl rfl rfl rfl (Try.call43 _) (rfmul_c y y r4 hy hy hr4) rfl fun ac w hs => ?_)
          exact hs
        · intro L ac w hJ
          have hs := hJ
          refine wpO_in hs rfl rfl rfl (op_fieldA hs (some 14) rfl rfl rfl Try.underlying26 rfl Try.sizeOf24 (by decide) rfl fun ac hs => ?_)
          exact hs
        · intro L ac w hJ
          have hs := hJ
          refine wpO_in hs rfl rfl rfl (op_load hs (some 15) 0 (v := W x) rfl rfl rfl rfl Try.isAgg24 Try.sizeOf24 rfl rfl fun ac hs => ?_)
          exact hs
        · intro L ac w hJ
          have hs := hJ
          refine wpO_in hs rfl rfl rfl (op_call (F := 49) hs (some 16) (v := W r5) rfl rfl rfl rfl (Try.call49 _) (rright_c x r5 hx hr5) rfl fun ac w hs => ?_)
          exact hs
        · intro L ac w hJ
          have hs := hJ
          refine wpO_in hs rfl rfl rfl (op_bin hs (some 17) (v := .bool (decide (r4 = r5))) rfl rfl rfl rfl (fun w => run_eqGuard_agg w .eql 24 _ _ _ _ Try.eqGuardType24) (eqlW r4 r5 lr4 lr5 _ rfl) rfl fun ac hs => ?_)
          exact hs
        · intro L ac w hJ
          have hs := hJ
          refine wpO_plain rfl (op_pickT hs (some 18) rfl rfl rfl rfl rfl fun ac hs => ?_)
          exact hs
        · intro L ac w hJ
          have hs := hJ
          refine wpO_plain rfl (op_assign hs (some 19) rfl rfl rfl rfl fun ac hs => ?_)
          exact hs
      intro ac w hJ
      replace hs : St 27 w0 [(8, true, .pointer (some ⟨g1, 0, none⟩)), (9, true, W x), (10, true, .bool true), (11, true, .bool true), (12, true, .pointer (some ⟨g1, 4, none⟩)), (13, true, W y), (14, true, .bool true), (15, true, .bool true), (16, true, .bool true), (17, true, .pointer (some ⟨g1, 4, none⟩)), (18, true, W y), (19, true, .pointer (some ⟨g1, 4, none⟩)), (20, true, W y), (21, true, W r4), (22, true, .pointer (some ⟨g1, 0, none⟩)), (23, true, W x), (24, true, W r5), (25, true, .bool (decide (r4 = r5))), (26, true, .bool (decide (r4 = r5))), (2, true, .bool (decide (r4 = r5))), (1, true, .pointer (some ⟨g1, 0, none⟩)), (2, true, .bool false)] [(true, g1, 26, (PVl x y false))] ac w := hJ
      refine then_n ?_
      refine wp_ret ?_
      exact bodyPost_ret (res1 rfl (rv_t hs rfl)) hs.defers ⟨congrArg (fun b => Ending.returned (.bool b)) (onf3 hq2 hq3 hr4 hr5), hs.below⟩
    · skip
      replace hs : St 27 w0 [(1, true, .pointer (some ⟨g1, 0, none⟩)), (2, true, .bool false)] [(true, g1, 26, (PVl x y false))] ac _ := hs.re ⟨rfl, rfl, trivial⟩
      refine region_inv [([], [1, 2, 3, 4, 5, 6, 7, 8, 9, 10, 11, 12, 13, 14, 15, 16, 17, 18, 19]), ([0], [2, 3, 4, 5, 6, 7, 8, 9, 10, 11, 12, 13, 14, 15, 16, 17, 18, 19]), ([0, 1], [3, 4, 5, 6, 7, 8, 9, 10, 11, 12, 13, 14, 15, 16, 17, 18, 19]), ([0, 1, 2], [4, 5, 6, 7, 8, 9, 10, 11, 12, 13, 14, 15, 16, 17, 18, 19]), ([0, 1, 2, 3], [5, 6, 7, 8, 9, 10, 11, 12, 13, 14, 15, 16, 17, 18, 19]), ([0, 1, 2, 3, 4], [6, 7, 8, 9, 10, 11, 12, 13, 14, 15, 16, 17, 18, 19]), ([0, 1, 2, 3, 4, 5], [7, 8, 9, 10, 11, 12, 13, 14, 15, 16, 17, 18, 19]), ([0, 1, 2, 3, 4, 5, 6], [8, 9, 10, 11, 12, 13, 14, 15, 16, 17, 18, 19]), ([0, 1, 2, 3, 4, 5, 6, 7], [9, 10, 11, 12, 13, 14, 15, 16, 17, 18, 19]), ([0, 1, 2, 3, 4, 5, 6, 7, 8], [10, 13, 16, 17, 18, 19]), ([0, 1, 2, 3, 4, 5, 6, 7, 8, 9], [13, 16, 17, 18, 19]), ([0, 1, 2, 3, 4, 5, 6, 7, 8], [12, 13, 16, 17, 18, 19]), ([0, 1, 2, 3, 4, 5, 6, 7, 8, 11], [13, 16, 17, 18, 19]), ([0, 1, 2, 3, 4, 5, 6, 7, 8, 9, 10, 11, 12], [16, 17, 18, 19]), ([0, 1, 2, 3, 4, 5, 6, 7, 8], [15, 16, 17, 18, 19]), ([0, 1, 2, 3, 4, 5, 6, 7, 8, 14], [16, 17, 18, 19]), ([0, 1, 2, 3, 4, 5, 6, 7, 8, 9, 10, 11, 12, 13, 14, 15], [17, 18, 19]), ([0, 1, 2, 3, 4, 5, 6, 7, 8, 9, 10, 11, 12, 13, 14, 15, 16], [18, 19]), ([0, 1, 2, 3, 4, 5, 6, 7, 8, 9, 10, 11, 12, 13, 14, 15, 16, 17], [19]), ([0, 1, 2, 3, 4, 5, 6, 7, 8, 9, 10, 11, 12, 13, 14, 15, 16, 17, 18], [])] (fun L ac w => St 27 w0 [(8, L 0, .pointer (some ⟨g1, 0, none⟩)), (9, L 1, W x), (10, L 2, .bool true), (11, L 3, .bool true), (12, L 4, .pointer (some ⟨g1, 4, none⟩)), (13, L 5, W y), (14, L 6, .bool false), (15, L 7, .bool false), (16, L 8, .bool false), (17, L 9, undef), (18, L 10, undef), (19, L 11, undef), (20, L 12, undef), (21, L 13, undef), (22, L 14, undef), (23, L 15, undef), (24, L 16, undef), (25, L 17, undef), (26, L 18, .bool false), (2, L 19, .bool false), (1, true, .pointer (some ⟨g1, 0, none⟩)), (2, true, .bool false)] [(true, g1, 26, (PVl x y false))] ac w) (by kernel_rfl) (by kernel_rfl) ?_ ?_ ?_
      · exact hs.drew.skip.skip.skip.skip.skip.skip.skip.skip.skip.skip.skip.skip.skip.skip.skip.skip.skip.skip.skip.skip
      · refine ⟨?_, ?_, ?_, ?_, ?_, ?_, ?_, ?_, ?_, ?_, ?_, ?_, ?_, ?_, ?_, ?_, ?_, ?_, ?_, ?_, trivial⟩
        · intro L ac w hJ
          have hs := hJ
          refine wpO_plain rfl (op_fieldA hs (some 0) rfl rfl rfl Try.underlying26 rfl Try.sizeOf24 (by decide) rfl fun ac hs => ?_)
          exact hs
        · intro L ac w hJ
          have hs := hJ
          refine wpO_plain rfl (op_load hs (some 1) 0 (v := W x) rfl rfl rfl rfl Try.isAgg24 Try.sizeOf24 rfl rfl fun ac hs => ?_)
          exact hs
        · intro L ac w hJ
          have hs := hJ
          refine wpO_plain rfl (op_call (F := 48) hs (some 2) (v := .bool true) rfl rfl rfl rfl (Try.call48 _) (rbelow_c x true hx (decide_eq_true hq2)) rfl fun ac w hs => ?_)
          exact hs
        · intro L ac w hJ
          have hs := hJ
          refine wpO_plain rfl (op_move hs (some 3) rfl rfl rfl rfl fun ac hs => ?_)
          exact hs
        · intro L ac w hJ
          have hs := hJ
          refine wpO_in hs rfl rfl rfl (op_fieldA hs (some 4) rfl rfl rfl Try.underlying26 rfl Try.sizeOf24 (by decide) rfl fun ac hs => ?_)
          exact hs
        · intro L ac w hJ
          have hs := hJ
          refine wpO_in hs rfl rfl rfl (op_load hs (some 5) 0 (v := W y) rfl rfl rfl rfl Try.isAgg24 Try.sizeOf24 rfl rfl fun ac hs => ?_)
          exact hs
        · intro L ac w hJ
          have hs := hJ
          refine wpO_in hs rfl rfl rfl (op_call (F := 48) hs (some 6) (v := .bool false) rfl rfl rfl rfl (Try.call48 _) (rbelow_c y false hy (decide_eq_false hq3)) rfl fun ac w hs => ?_)
          exact hs
        · intro L ac w hJ
          have hs := hJ
          refine wpO_plain rfl (op_pickT hs (some 7) rfl rfl rfl rfl rfl fun ac hs => ?_)
          exact hs
        · intro L ac w hJ
          have hs := hJ
          refine wpO_plain rfl (op_move hs (some 8) rfl rfl rfl rfl fun ac hs => ?_)
          exact hs
        · intro L ac w hJ
          have hs := hJ
          refine wpO_out hs (some 9) rfl rfl (.inl rfl) rfl rfl fun ac hs => ?_
          exact hs
        · intro L ac w hJ
          have hs := hJ
          refine wpO_out hs (some 10) rfl rfl (.inl rfl) rfl rfl fun ac hs => ?_
          exact hs
        · intro L ac w hJ
          have hs := hJ
          refine wpO_out hs (some 11) rfl rfl (.inl rfl) rfl rfl fun ac hs => ?_
          exact hs
        · intro L ac w hJ
          have hs := hJ
          refine wpO_out hs (some 12) rfl rfl (.inl rfl) rfl rfl fun ac hs => ?_
          exact hs
        · intro L ac w hJ
          have hs := hJ
          refine wpO_out hs (some 13) rfl rfl (.inl rfl) rfl rfl fun ac hs => ?_
          exact hs
        · intro L ac w hJ
          have hs := hJ
          refine wpO_out hs (some 14) rfl rfl (.inl rfl) rfl rfl fun ac hs => ?_
          exact hs
        · intro L ac w hJ
          have hs := hJ
          refine wpO_out hs (some 15) rfl rfl (.inl rfl) rfl rfl fun ac hs => ?_
          exact hs
        · intro L ac w hJ
          have hs := hJ
          refine wpO_out hs (some 16) rfl rfl (.inl rfl) rfl rfl fun ac hs => ?_
          exact hs
        · intro L ac w hJ
          have hs := hJ
          refine wpO_out hs (some 17) rfl rfl (.inl rfl) rfl rfl fun ac hs => ?_
          exact hs
        · intro L ac w hJ
          have hs := hJ
          refine wpO_plain rfl (op_pickF hs (some 18) rfl rfl rfl rfl rfl fun ac hs => ?_)
          exact hs
        · intro L ac w hJ
          have hs := hJ
          refine wpO_plain rfl (op_assign hs (some 19) rfl rfl rfl rfl fun ac hs => ?_)
          exact hs
      intro ac w hJ
      replace hs : St 27 w0 [(8, true, .pointer (some ⟨g1, 0, none⟩)), (9, true, W x), (10, true, .bool true), (11, true, .bool true), (12, true, .pointer (some ⟨g1, 4, none⟩)), (13, true, W y), (14, true, .bool false), (15, true, .bool false), (16, true, .bool false), (17, true, undef), (18, true, undef), (19, true, undef), (20, true, undef), (21, true, undef), (22, true, undef), (23, true, undef), (24, true, undef), (25, true, undef), (26, true, .bool false), (2, true, .bool false), (1, true, .pointer (some ⟨g1, 0, none⟩)), (2, true, .bool false)] [(true, g1, 26, (PVl x y false))] ac w := hJ
      refine then_n ?_
      refine wp_ret ?_
      exact bodyPost_ret (res1 rfl (rv_t hs rfl)) hs.defers ⟨congrArg (fun b => Ending.returned (.bool b)) (onf2 hq3), hs.below⟩
  · skip
    replace hs : St 27 w0 [(1, true, .pointer (some ⟨g1, 0, none⟩)), (2, true, .bool false)] [(true, g1, 26, (PVl x y false))] ac _ := hs.re ⟨rfl, rfl, trivial⟩
    refine region_inv [([], [1, 2, 3, 4, 5, 6, 7, 8, 9, 10, 11, 12, 13, 14, 15, 16, 17, 18, 19]), ([0], [2, 3, 4, 5, 6, 7, 8, 9, 10, 11, 12, 13, 14, 15, 16, 17, 18, 19]), ([0, 1], [3, 4, 5, 6, 7, 8, 9, 10, 11, 12, 13, 14, 15, 16, 17, 18, 19]), ([0, 1, 2], [4, 5, 6, 7, 8, 9, 10, 11, 12, 13, 14, 15, 16, 17, 18, 19]), ([0, 1, 2, 3], [5, 6, 7, 8, 9, 10, 11, 12, 13, 14, 15, 16, 17, 18, 19]), ([0, 1, 2, 3, 4], [6, 7, 8, 9, 10, 11, 12, 13, 14, 15, 16, 17, 18, 19]), ([0, 1, 2, 3, 4, 5], [7, 8, 9, 10, 11, 12, 13, 14, 15, 16, 17, 18, 19]), ([0, 1, 2, 3, 4, 5, 6], [8, 9, 10, 11, 12, 13, 14, 15, 16, 17, 18, 19]), ([0, 1, 2, 3, 4, 5, 6, 7], [9, 10, 11, 12, 13, 14, 15, 16, 17, 18, 19]), ([0, 1, 2, 3, 4, 5, 6, 7, 8], [10, 13, 16, 17, 18, 19]), ([0, 1, 2, 3, 4, 5, 6, 7, 8, 9], [13, 16, 17, 18, 19]), ([0, 1, 2, 3, 4, 5, 6, 7, 8], [12, 13, 16, 17, 18, 19]), ([0, 1, 2, 3, 4, 5, 6, 7, 8, 11], [13, 16, 17, 18, 19]), ([0, 1, 2, 3, 4, 5, 6, 7, 8, 9, 10, 11, 12], [16, 17, 18, 19]), ([0, 1, 2, 3, 4, 5, 6, 7, 8], [15, 16, 17, 18, 19]), ([0, 1, 2, 3, 4, 5, 6, 7, 8, 14], [16, 17, 18, 19]), ([0, 1, 2, 3, 4, 5, 6, 7, 8, 9, 10, 11, 12, 13, 14, 15], [17, 18, 19]), ([0, 1, 2, 3, 4, 5, 6, 7, 8, 9, 10, 11, 12, 13, 14, 15, 16], [18, 19]), ([0, 1, 2, 3, 4, 5, 6, 7, 8, 9, 10, 11, 12, 13, 14, 15, 16, 17], [19]), ([0, 1, 2, 3, 4, 5, 6, 7, 8, 9, 10, 11, 12, 13, 14, 15, 16, 17, 18], [])] (fun L ac w => St 27 w0 [(8, L 0, .pointer (some ⟨g1, 0, none⟩)), (9, L 1, W x), (10, L 2, .bool false), (11, L 3, .bool false), (12, L 4, undef), (13, L 5, undef), (14, L 6, undef), (15, L 7, .bool false), (16, L 8, .bool false), (17, L 9, undef), (18, L 10, undef), (19, L 11, undef), (20, L 12, undef), (21, L 13, undef), (22, L 14, undef), (23, L 15, undef), (24, L 16, undef), (25, L 17, undef), (26, L 18, .bool false), (2, L 19, .bool false), (1, true, .pointer (some ⟨g1, 0, none⟩)), (2, true, .bool false)] [(true, g1, 26, (PVl x y false))] ac w) (by kernel_rfl) (by kernel_rfl) ?_ ?_ ?_
    · exact hs.drew.skip.skip.skip.skip.skip.skip.skip.skip.skip.skip.skip.skip.skip.skip.skip.skip.skip.skip.skip.skip
    · refine ⟨?_, ?_, ?_, ?_, ?_, ?_, ?_, ?_, ?_, ?_, ?_, ?_, ?_, ?_, ?_, ?_, ?_, ?_, ?_, ?_, trivial⟩
      · intro L ac w hJ
        have hs := hJ
        refine wpO_plain rfl (op_fieldA hs (some 0) rfl rfl rfl Try.underlying26 rfl Try.sizeOf24 (by decide) rfl fun ac hs => ?_)
        exact hs
      · intro L ac w hJ
        have hs := hJ
        refine wpO_plain rfl (op_load hs (some 1) 0 (v := W x) rfl rfl rfl rfl Try.isAgg24 Try.sizeOf24 rfl rfl fun ac hs => ?_)
        exact hs
      · intro L ac w hJ
        have hs := hJ
        refine wpO_plain rfl (op_call (F := 48) hs (some 2) (v := .bool false) rfl rfl rfl rfl (Try.call48 _) (rbelow_c x false hx (decide_eq_false hq2)) rfl fun ac w hs => ?_)
        exact hs
      · intro L ac w hJ
        have hs := hJ
        refine wpO_plain rfl (op_move hs (some 3) rfl rfl rfl rfl fun ac hs => ?_)
        exact hs
      · intro L ac w hJ
        have hs := hJ
        refine wpO_out hs (some 4) rfl rfl (.inl rfl) rfl rfl fun ac hs => ?_
        exact hs
      · intro L ac w hJ
        have hs := hJ
        refine wpO_out hs (some 5) rfl rfl (.inl rfl) rfl rfl fun ac hs => ?_
        exact hs
      · intro L ac w hJ
        have hs := hJ
        refine wpO_out hs (some 6) rfl rfl (.inl rfl) rfl rfl fun ac hs => ?_
        exact hs
      · intro L ac w hJ
        have hs := hJ
        refine wpO_plain rfl (op_pickF hs (some 7) rfl rfl rfl rfl rfl fun ac hs => ?_)
        exact hs
      · intro L ac w hJ
        have hs := hJ
        refine wpO_plain rfl (op_move hs (some 8) rfl rfl rfl rfl fun ac hs => ?_)
        exact hs
      · intro L ac w hJ
        have hs := hJ
        refine wpO_out hs (some 9) rfl rfl (.inl rfl) rfl rfl fun ac hs => ?_
        exact hs
      · intro L ac w hJ
        have hs := hJ
        refine wpO_out hs (some 10) rfl rfl (.inl rfl) rfl rfl fun ac hs => ?_
        exact hs
      · intro L ac w hJ
        have hs := hJ
        refine wpO_out hs (some 11) rfl rfl (.inl rfl) rfl rfl fun ac hs => ?_
        exact hs
      · intro L ac w hJ
        have hs := hJ
        refine wpO_out hs (some 12) rfl rfl (.inl rfl) rfl rfl fun ac hs => ?_
        exact hs
      · intro L ac w hJ
        have hs := hJ
        refine wpO_out hs (some 13) rfl rfl (.inl rfl) rfl rfl fun ac hs => ?_
        exact hs
      · intro L ac w hJ
        have hs := hJ
        refine wpO_out hs (some 14) rfl rfl (.inl rfl) rfl rfl fun ac hs => ?_
        exact hs
      · intro L ac w hJ
        have hs := hJ
        refine wpO_out hs (some 15) rfl rfl (.inl rfl) rfl rfl fun ac hs => ?_
        exact hs
      · intro L ac w hJ
        have hs := hJ
        refine wpO_out hs (some 16) rfl rfl (.inl rfl) rfl rfl fun ac hs => ?_
        exact hs
      · intro L ac w hJ
        have hs := hJ
        refine wpO_out hs (some 17) rfl rfl (.inl rfl) rfl rfl fun ac hs => ?_
        exact hs
      · intro L ac w hJ
        have hs := hJ
        refine wpO_plain rfl (op_pickF hs (some 18) rfl rfl rfl rfl rfl fun ac hs => ?_)
        exact hs
      · intro L ac w hJ
        have hs := hJ
        refine wpO_plain rfl (op_assign hs (some 19) rfl rfl rfl rfl fun ac hs => ?_)
        exact hs
    intro ac w hJ
    replace hs : St 27 w0 [(8, true, .pointer (some ⟨g1, 0, none⟩)), (9, true, W x), (10, true, .bool false), (11, true, .bool false), (12, true, undef), (13, true, undef), (14, true, undef), (15, true, .bool false), (16, true, .bool false), (17, true, undef), (18, true, undef), (19, true, undef), (20, true, undef), (21, true, undef), (22, true, undef), (23, true, undef), (24, true, undef), (25, true, undef), (26, true, .bool false), (2, true, .bool false), (1, true, .pointer (some ⟨g1, 0, none⟩)), (2, true, .bool false)] [(true, g1, 26, (PVl x y false))] ac w := hJ
    refine then_n ?_
    refine wp_ret ?_
    exact bodyPost_ret (res1 rfl (rv_t hs rfl)) hs.defers ⟨congrArg (fun b => Ending.returned (.bool b)) (onf1 hq2), hs.below⟩
theorem ron_c (x y : Nat) (z q : Bool) (hx : x < 2 ^ 256) (hy : y < 2 ^ 256) (hq : onB x y z = q) (w : World) : Calls Try.prog 17 #[PV x y z] w fun e w' => e = .returned (.bool q) ∧ Below w.heap.size w w' := by
  subst hq
  cases z with
  | true => exact ron_c_t x y hx hy w
  | false => exact ron_c_f x y hx hy w
theorem own_c (x y : Nat) (z : Bool) (T : EM.Pt Pf) (hx : x < 2 ^ 256) (hy : y < 2 ^ 256) (hT : ptOf x y z = T) (w0 : World) : Calls Try.prog 36 #[PV x y z] w0 fun e w' => e = .returned (PV (px T) (py T) (pz T)) ∧ Below w0.heap.size w0 w' := by
  refine enter (n := 7) (args := [PV x y z]) Try.func36 rfl rfl (Nat.le_of_ble_eq_true rfl) fun ac hs => ?_
  refine wp_seq ?_
  refine wp_region_lit ?_
  refine lstep (wpO_plain rfl (op_box hs none none (cs := (PVl x y z)) rfl rfl rfl rfl rfl rfl fun g1 ac w hs => ?_))
  refine lstep (wpO_plain rfl (op_alloc hs none none (cs := (PVl 0 0 false)) rfl rfl Try.zeroValue26 (by kernel_rfl) rfl rfl fun g2 ac w hs => ?_))
  refine wpList_nil ?_
  refine then_n ?_
  refine wp_seq ?_
  refine wp_seq ?_
  refine wp_region_lit ?_
  refine lstep (wpO_plain rfl (op_load hs none 0 (v := PV x y z) rfl rfl rfl rfl Try.isAgg26 Try.sizeOf26 rfl rfl fun ac hs => ?_))
  refine lstep (wpO_plain rfl (op_call (F := 17) hs none (v := .bool (onB x y z)) rfl rfl rfl rfl (Try.call17 _) (ron_c x y z _ hx hy rfl) rfl fun ac w hs => ?_))
  refine wpList_nil ?_
  refine then_n ?_
  refine wp_cond_split (hs.ev rfl) (fun hc => ?_) (fun hc => ?_)
  · skip
    refine wp_seq ?_
    refine wp_region_lit ?_
    refine lstep (wpO_plain rfl (op_load hs none 0 (v := PV x y z) rfl rfl rfl rfl Try.isAgg26 Try.sizeOf26 rfl rfl fun ac hs => ?_))
    refine lstep (wpO_plain rfl (op_store hs 1 (vs := (PVl x y z)) rfl rfl rfl rfl rfl Try.sizeOf26 rfl rfl rfl rfl rfl fun w hs => ?_))
    refine wpList_nil ?_
    refine then_n ?_
    refine wp_ret ?_
    refine then_r ?_
    exact bodyPost_ret (res1 rfl (rv_c hs 1 (v := PV x y z) rfl rfl Try.isAgg26 Try.sizeOf26 rfl)) hs.defers ⟨by subst hT; rw [(on_yes hc).1, (on_yes hc).2.1, (on_yes hc).2.2], hs.below⟩
  · skip
    refine wp_skip ?_
    refine then_n ?_
    refine wp_seq ?_
    refine wp_region_lit ?_
    refine lstep (wpO_plain rfl (op_build hs none (qs := [(2, .bool true)]) (v := PV 0 0 true) rfl rfl rfl rfl (fun _ => by kernel_rfl) rfl fun ac hs => ?_))
    refine lstep (wpO_plain rfl (op_store hs 1 (vs := (PVl 0 0 true)) rfl rfl rfl rfl rfl Try.sizeOf26 rfl rfl rfl rfl rfl fun w hs => ?_))
    refine wpList_nil ?_
    refine then_n ?_
    refine wp_ret ?_
    exact bodyPost_ret (res1 rfl (rv_c hs 1 (v := PV 0 0 true) rfl rfl Try.isAgg26 Try.sizeOf26 rfl)) hs.defers ⟨by rw [← hT, on_no (Bool.eq_false_iff.1 hc)]; rfl, hs.below⟩
theorem rneg_c (x y : Nat) (z : Bool) (T N : EM.Pt Pf) (hx : x < 2 ^ 256) (hy : y < 2 ^ 256) (hT : ptOf x y z = T) (hN : T.neg = N) (w0 : World) : Calls Try.prog 18 #[PV x y z] w0 fun e w' => e = .returned (PV (px N) (py N) (pz N)) ∧ Below w0.heap.size w0 w' := by
  have oT : T.on := by rw [← hT]; exact pt_on x y z
  refine enter (n := 13) (args := [PV x y z]) Try.func18 rfl rfl (Nat.le_of_ble_eq_true rfl) fun ac hs => ?_
  refine wp_seq ?_
  refine wp_region_lit ?_
  refine lstep (wpO_plain rfl (op_box hs none none (cs := (PVl x y z)) rfl rfl rfl rfl rfl rfl fun g1 ac w hs => ?_))
  refine lstep (wpO_plain rfl (op_alloc hs none none (cs := (PVl 0 0 false)) rfl rfl Try.zeroValue26 (by kernel_rfl) rfl rfl fun g2 ac w hs => ?_))
  refine wpList_nil ?_
  refine then_n ?_
  refine wp_seq ?_
  refine wp_region_lit ?_
  refine lstep (wpO_plain rfl (op_load hs none 0 (v := PV x y z) rfl rfl rfl rfl Try.isAgg26 Try.sizeOf26 rfl rfl fun ac hs => ?_))
  refine lstep (wpO_plain rfl (op_call (F := 36) hs none (v := PV (px T) (py T) (pz T)) rfl rfl rfl rfl (Try.call36 _) (own_c x y z T hx hy hT) rfl fun ac w hs => ?_))
  refine lstep (wpO_plain rfl (op_store hs 0 (vs := (PVl (px T) (py T) (pz T))) rfl rfl rfl rfl rfl Try.sizeOf26 rfl rfl rfl rfl rfl fun w hs => ?_))
  refine wpList_nil ?_
  refine then_n ?_
  refine wp_seq ?_
  refine wp_seq ?_
  refine wp_region_lit ?_
  refine lstep (wpO_plain rfl (op_fieldA hs none rfl rfl rfl Try.underlying26 rfl Try.sizeOf4 (by decide) rfl fun ac hs => ?_))
  refine lstep (wpO_plain rfl (op_load hs none 0 (v := .bool (pz T)) rfl rfl rfl rfl Try.isAgg4 Try.sizeOf4 rfl rfl fun ac hs => ?_))
  refine lstep (wpO_plain rfl (op_un hs none (v := .bool (!(pz T))) rfl rfl rfl (fun _ => rfl) rfl fun ac hs => ?_))
  refine wpList_nil ?_
  refine then_n ?_
  refine wp_cond_split (hs.ev rfl) (fun hc => ?_) (fun hc => ?_)
  · skip
    replace hs : St 13 w0 [(1, true, .pointer (some ⟨g1, 0, none⟩)), (2, true, .pointer (some ⟨g2, 0, none⟩))] [(true, g1, 26, (PVl (px T) (py T) (pz T))), (true, g2, 26, (PVl 0 0 false))] ac _ := hs.re ⟨rfl, rfl, trivial⟩
    refine wp_region_lit ?_
    refine lstep (wpO_plain rfl (op_fieldA hs none rfl rfl rfl Try.underlying26 rfl Try.sizeOf24 (by decide) rfl fun ac hs => ?_))
    refine lstep (wpO_plain rfl (op_load hs none 0 (v := W (py T)) rfl rfl rfl rfl Try.isAgg24 Try.sizeOf24 rfl rfl fun ac hs => ?_))
    obtain ⟨r3, hr3, lr3⟩ : ∃ z0, fsub 0 (py T) = z0 ∧ z0 < 2 ^ 256 := ⟨_, rfl, fsub_lt _ _⟩
    refine lstep (wpO_plain rfl (op_call (F := 50) hs none (v := W r3) rfl rfl rfl rfl (Try.call50 _) (rfneg_c (py T) r3 (py_lt T) hr3) rfl fun ac w hs => ?_))
    refine lstep (wpO_plain rfl (op_fieldA hs none rfl rfl rfl Try.underlying26 rfl Try.sizeOf24 (by decide) rfl fun ac hs => ?_))
    refine lstep (wpO_plain rfl (op_store hs 0 (vs := (Wl r3)) rfl rfl rfl rfl rfl Try.sizeOf24 rfl rfl rfl rfl rfl fun w hs => ?_))
    refine wpList_nil ?_
    refine then_n ?_
    refine wp_seq ?_
    refine wp_region_lit ?_
    refine lstep (wpO_plain rfl (op_load hs none 0 (v := PV (px T) r3 (pz T)) rfl rfl rfl rfl Try.isAgg26 Try.sizeOf26 rfl rfl fun ac hs => ?_))
    refine lstep (wpO_plain rfl (op_store hs 1 (vs := (PVl (px T) r3 (pz T))) rfl rfl rfl rfl rfl Try.sizeOf26 rfl rfl rfl rfl rfl fun w hs => ?_))
    refine wpList_nil ?_
    refine then_n ?_
    refine wp_ret ?_
    exact bodyPost_ret (res1 rfl (rv_c hs 1 (v := PV (px T) r3 (pz T)) rfl rfl Try.isAgg26 Try.sizeOf26 rfl)) hs.defers ⟨by rw [← hN, (neg_A (by simpa using hc)).1, (neg_A (by simpa using hc)).2.1, (neg_A (by simpa using hc)).2.2, hr3, show pz T = false by simpa using hc], hs.below⟩
  · skip
    refine wp_skip ?_
    refine then_n ?_
    refine wp_seq ?_
    replace hs : St 13 w0 [(1, true, .pointer (some ⟨g1, 0, none⟩)), (2, true, .pointer (some ⟨g2, 0, none⟩))] [(true, g1, 26, (PVl (px T) (py T) (pz T))), (true, g2, 26, (PVl 0 0 false))] ac _ := hs.re ⟨rfl, rfl, trivial⟩
    refine wp_region_lit ?_
    refine lstep (wpO_plain rfl (op_load hs none 0 (v := PV (px T) (py T) (pz T)) rfl rfl rfl rfl Try.isAgg26 Try.sizeOf26 rfl rfl fun ac hs => ?_))
    refine lstep (wpO_plain rfl (op_store hs 1 (vs := (PVl (px T) (py T) (pz T))) rfl rfl rfl rfl rfl Try.sizeOf26 rfl rfl rfl rfl rfl fun w hs => ?_))
    refine wpList_nil ?_
    refine then_n ?_
    refine wp_ret ?_
    exact bodyPost_ret (res1 rfl (rv_c hs 1 (v := PV (px T) (py T) (pz T)) rfl rfl Try.isAgg26 Try.sizeOf26 rfl)) hs.defers ⟨by rw [← hN, neg_O (by simpa using hc), pz_O (T := T) (by simpa using hc)]; first | done | rfl, hs.below⟩
theorem rsum_c (P Q T : EM.Pt Pf) (oP : P.on) (oQ : Q.on) (hT : P.add Q = T) (w0 : World) : Calls Try.prog 35 #[PV (px P) (py P) (pz P), PV (px Q) (py Q) (pz Q)] w0 fun e w' => e = .returned (PV (px T) (py T) (pz T)) ∧ Below w0.heap.size w0 w' := by
  refine enter (n := 80) (args := [PV (px P) (py P) (pz P), PV (px Q) (py Q) (pz Q)]) Try.func35 rfl rfl (Nat.le_of_ble_eq_true rfl) fun ac hs => ?_
  refine wp_seq ?_
  refine wp_region_lit ?_
  refine lstep (wpO_plain rfl (op_box hs none none (cs := (PVl (px P) (py P) (pz P))) rfl rfl rfl rfl rfl rfl fun g1 ac w hs => ?_))
  refine lstep (wpO_plain rfl (op_box hs none none (cs := (PVl (px Q) (py Q) (pz Q))) rfl rfl rfl rfl rfl rfl fun g2 ac w hs => ?_))
  refine lstep (wpO_plain rfl (op_alloc hs none none (cs := (PVl 0 0 false)) rfl rfl Try.zeroValue26 (by kernel_rfl) rfl rfl fun g3 ac w hs => ?_))
  refine wpList_nil ?_
  refine then_n ?_
  refine wp_seq ?_
  refine wp_seq ?_
  refine wp_region_lit ?_
  refine lstep (wpO_plain rfl (op_fieldA hs none rfl rfl rfl Try.underlying26 rfl Try.sizeOf4 (by decide) rfl fun ac hs => ?_))
  refine lstep (wpO_plain rfl (op_load hs none 0 (v := .bool (pz P)) rfl rfl rfl rfl Try.isAgg4 Try.sizeOf4 rfl rfl fun ac hs => ?_))
  refine wpList_nil ?_
  refine then_n ?_
  refine wp_cond_split (hs.ev rfl) (fun hc => ?_) (fun hc => ?_)
  · skip
    have hzP := hc
    refine wp_seq ?_
    refine wp_region_lit ?_
    refine lstep (wpO_plain rfl (op_load hs none 1 (v := PV (px Q) (py Q) (pz Q)) rfl rfl rfl rfl Try.isAgg26 Try.sizeOf26 rfl rfl fun ac hs => ?_))
    refine lstep (wpO_plain rfl (op_store hs 2 (vs := (PVl (px Q) (py Q) (pz Q))) rfl rfl rfl rfl rfl Try.sizeOf26 rfl rfl rfl rfl rfl fun w hs => ?_))
    refine wpList_nil ?_
    refine then_n ?_
    refine wp_ret ?_
    refine then_r ?_
    exact bodyPost_ret (res1 rfl (rv_c hs 2 (v := PV (px Q) (py Q) (pz Q)) rfl rfl Try.isAgg26 Try.sizeOf26 rfl)) hs.defers ⟨by rw [← hT, pz_O (T := P) hzP, EM.O_add], hs.below⟩
  · skip
    have hzP := hc
    refine wp_skip ?_
    refine then_n ?_
    refine wp_seq ?_
    refine wp_seq ?_
    refine wp_region_lit ?_
    refine lstep (wpO_plain rfl (op_fieldA hs none rfl rfl rfl Try.underlying26 rfl Try.sizeOf4 (by decide) rfl fun ac hs => ?_))
    refine lstep (wpO_plain rfl (op_load hs none 1 (v := .bool (pz Q)) rfl rfl rfl rfl Try.isAgg4 Try.sizeOf4 rfl rfl fun ac hs => ?_))
    refine wpList_nil ?_
    refine then_n ?_
    refine wp_cond_split (hs.ev rfl) (fun hc => ?_) (fun hc => ?_)
    · skip
      have hzQ := hc
      refine wp_seq ?_
      replace hs : St 80 w0 [(2, true, .pointer (some ⟨g1, 0, none⟩)), (3, true, .pointer (some ⟨g2, 0, none⟩)), (4, true, .pointer (some ⟨g3, 0, none⟩))] [(true, g1, 26, (PVl (px P) (py P) (pz P))), (true, g2, 26, (PVl (px Q) (py Q) (pz Q))), (true, g3, 26, (PVl 0 0 false))] ac _ := hs.re ⟨rfl, rfl, rfl, trivial⟩
      refine wp_region_lit ?_
      refine lstep (wpO_plain rfl (op_load hs none 0 (v := PV (px P) (py P) (pz P)) rfl rfl rfl rfl Try.isAgg26 Try.sizeOf26 rfl rfl fun ac hs => ?_))
      refine lstep (wpO_plain rfl (op_store hs 2 (vs := (PVl (px P) (py P) (pz P))) rfl rfl rfl rfl rfl Try.sizeOf26 rfl rfl rfl rfl rfl fun w hs => ?_))
      refine wpList_nil ?_
      refine then_n ?_
      refine wp_ret ?_
      refine then_r ?_
      exact bodyPost_ret (res1 rfl (rv_c hs 2 (v := PV (px P) (py P) (pz P)) rfl rfl Try.isAgg26 Try.sizeOf26 rfl)) hs.defers ⟨by rw [← hT, pz_O (T := Q) hzQ, EM.add_O], hs.below⟩
    · skip
      have hzQ := hc
      refine wp_skip ?_
      refine then_n ?_
      refine wp_seq ?_
      replace hs : St 80 w0 [(2, true, .pointer (some ⟨g1, 0, none⟩)), (3, true, .pointer (some ⟨g2, 0, none⟩)), (4, true, .pointer (some ⟨g3, 0, none⟩))] [(true, g1, 26, (PVl (px P) (py P) (pz P))), (true, g2, 26, (PVl (px Q) (py Q) (pz Q))), (true, g3, 26, (PVl 0 0 false))] ac _ := hs.re ⟨rfl, rfl, rfl, trivial⟩
      obtain ⟨r4, hr4, lr4⟩ : ∃ z0, fsub (py Q) (py P) = z0 ∧ z0 < 2 ^ 256 := ⟨_, rfl, fsub_lt _ _⟩
      obtain ⟨r5, hr5, lr5⟩ : ∃ z0, fsub (px Q) (px P) = z0 ∧ z0 < 2 ^ 256 := ⟨_, rfl, fsub_lt _ _⟩
      refine region_inv [([], [1, 4, 9, 12, 13]), ([0], [4, 9, 12, 13]), ([], [3, 4, 9, 12, 13]), ([2], [4, 9, 12, 13]), ([0, 1, 2, 3], [9, 12, 13]), ([], [6, 9, 12, 13]), ([5], [9, 12, 13]), ([], [8, 9, 12, 13]), ([7], [9, 12, 13]), ([0, 1, 2, 3, 4, 5, 6, 7, 8], [12, 13]), ([], [12, 13]), ([], [12, 13]), ([0, 1, 2, 3, 4, 5, 6, 7, 8, 9, 10, 11], [13]), ([0, 1, 2, 3, 4, 5, 6, 7, 8, 9, 10, 11, 12], [])] (fun L ac w => ∃ (g6 : Nat) (g7 : Nat), St 80 w0 [(16, L 0, .pointer (some ⟨g2, 4, none⟩)), (17, L 1, W (py Q)), (18, L 2, .pointer (some ⟨g1, 4, none⟩)), (19, L 3, W (py P)), (20, L 4, W r4), (21, L 5, .pointer (some ⟨g2, 0, none⟩)), (22, L 6, W (px Q)), (23, L 7, .pointer (some ⟨g1, 0, none⟩)), (24, L 8, W (px P)), (25, L 9, W r5), (5, L 10, .pointer (some ⟨g6, 0, none⟩)), (6, L 11, .pointer (some ⟨g7, 0, none⟩)), (2, true, .pointer (some ⟨g1, 0, none⟩)), (3, true, .pointer (some ⟨g2, 0, none⟩)), (4, true, .pointer (some ⟨g3, 0, none⟩))] [(true, g1, 26, (PVl (px P) (py P) (pz P))), (true, g2, 26, (PVl (px Q) (py Q) (pz Q))), (true, g3, 26, (PVl 0 0 false)), (L 10, g6, 24, (cond (L 12) (Wl r4) [.int .u64 0, .int .u64 0, .int .u64 0, .int .u64 0])), (L 11, g7, 24, (cond (L 13) (Wl r5) [.int .u64 0, .int .u64 0, .int .u64 0, .int .u64 0]))] ac w) (by kernel_rfl) (by kernel_rfl) ?_ ?_ ?_
      · exact ⟨0, 0, hs.drew.skip.skip.skip.skip.skip.skip.skip.skip.skip.skip.skip.skip.pad.pad⟩
      · refine ⟨?_, ?_, ?_, ?_, ?_, ?_, ?_, ?_, ?_, ?_, ?_, ?_, ?_, ?_, trivial⟩
        · intro L ac w hJ
          obtain ⟨g6, g7, hs⟩ := hJ
          refine wpO_plain rfl (op_fieldA hs (some 0) rfl rfl rfl Try.underlying26 rfl Try.sizeOf24 (by decide) rfl fun ac hs => ?_)
          exact ⟨g6, g7, hs⟩
        · intro L ac w hJ
          obtain ⟨g6, g7, hs⟩ := hJ
          refine wpO_plain rfl (op_load hs (some 1) 1 (v := W (py Q)) rfl rfl rfl rfl Try.isAgg24 Try.sizeOf24 rfl rfl fun ac hs => ?_)
          exact ⟨g6, g7, hs⟩
        · intro L ac w hJ
          obtain ⟨g6, g7, hs⟩ := hJ
          refine wpO_plain rfl (op_fieldA hs (some 2) rfl rfl rfl Try.underlying26 rfl Try.sizeOf24 (by decide) rfl fun ac hs => ?_)
          exact ⟨g6, g7, hs⟩
        · intro L ac w hJ
          obtain ⟨g6, g7, hs⟩ := hJ
          refine wpO_plain rfl (op_load hs (some 3) 0 (v := W (py P)) rfl rfl rfl rfl Try.isAgg24 Try.sizeOf24 rfl rfl fun ac hs => ?_)
          exact ⟨g6, g7, hs⟩
        · intro L ac w hJ
          obtain ⟨g6, g7, hs⟩ := hJ
          refine wpO_plain rfl (op_call (F := 70) hs (some 4) (v := W r4) rfl rfl rfl rfl (Try.call70 _) (rfsub_c (py Q) (py P) r4 (py_lt Q) (py_lt P) hr4) rfl fun ac w hs => ?_)
          exact ⟨g6, g7, hs⟩
        · intro L ac w hJ
          obtain ⟨g6, g7, hs⟩ := hJ
          refine wpO_plain rfl (op_fieldA hs (some 5) rfl rfl rfl Try.underlying26 rfl Try.sizeOf24 (by decide) rfl fun ac hs => ?_)
          exact ⟨g6, g7, hs⟩
        · intro L ac w hJ
          obtain ⟨g6, g7, hs⟩ := hJ
          refine wpO_plain rfl (op_load hs (some 6) 1 (v := W (px Q)) rfl rfl rfl rfl Try.isAgg24 Try.sizeOf24 rfl rfl fun ac hs => ?_)
          exact ⟨g6, g7, hs⟩
        · intro L ac w hJ
          obtain ⟨g6, g7, hs⟩ := hJ
          refine wpO_plain rfl (op_fieldA hs (some 7) rfl rfl rfl Try.underlying26 rfl Try.sizeOf24 (by decide) rfl fun ac hs => ?_)
          exact ⟨g6, g7, hs⟩
        · intro L ac w hJ
          obtain ⟨g6, g7, hs⟩ := hJ
          refine wpO_plain rfl (op_load hs (some 8) 0 (v := W (px P)) rfl rfl rfl rfl Try.isAgg24 Try.sizeOf24 rfl rfl fun ac hs => ?_)
          exact ⟨g6, g7, hs⟩
        · intro L ac w hJ
          obtain ⟨g6, g7, hs⟩ := hJ
          refine wpO_plain rfl (op_call (F := 70) hs (some 9) (v := W r5) rfl rfl rfl rfl (Try.call70 _) (rfsub_c (px Q) (px P) r5 (px_lt Q) (px_lt P) hr5) rfl fun ac w hs => ?_)
          exact ⟨g6, g7, hs⟩
        · intro L ac w hJ
          obtain ⟨g6, g7, hs⟩ := hJ
          refine wpO_plain rfl (op_alloc hs (some 10) (some 3) (cs := [.int .u64 0, .int .u64 0, .int .u64 0, .int .u64 0]) rfl rfl Try.zeroValue24 (by kernel_rfl) rfl rfl fun g6 ac w hs => ?_)
          exact ⟨g6, g7, hs⟩
        · intro L ac w hJ
          obtain ⟨g6, g7, hs⟩ := hJ
          refine wpO_plain rfl (op_alloc hs (some 11) (some 4) (cs := [.int .u64 0, .int .u64 0, .int .u64 0, .int .u64 0]) rfl rfl Try.zeroValue24 (by kernel_rfl) rfl rfl fun g7 ac w hs => ?_)
          exact ⟨g6, g7, hs⟩
        · intro L ac w hJ
          obtain ⟨g6, g7, hs⟩ := hJ
          refine wpO_plain rfl (op_store hs 3 (vs := (Wl r4)) rfl rfl rfl rfl rfl Try.sizeOf24 rfl rfl rfl rfl rfl fun w hs => ?_)
          exact ⟨g6, g7, hs⟩
        · intro L ac w hJ
          obtain ⟨g6, g7, hs⟩ := hJ
          refine wpO_plain rfl (op_store hs 4 (vs := (Wl r5)) rfl rfl rfl rfl rfl Try.sizeOf24 rfl rfl rfl rfl rfl fun w hs => ?_)
          exact ⟨g6, g7, hs⟩
      intro ac w hJ
      obtain ⟨g6, g7, hs⟩ := hJ
      replace hs : St 80 w0 [(16, true, .pointer (some ⟨g2, 4, none⟩)), (17, true, W (py Q)), (18, true, .pointer (some ⟨g1, 4, none⟩)), (19, true, W (py P)), (20, true, W r4), (21, true, .pointer (some ⟨g2, 0, none⟩)), (22, true, W (px Q)), (23, true, .pointer (some ⟨g1, 0, none⟩)), (24, true, W (px P)), (25, true, W r5), (5, true, .pointer (some ⟨g6, 0, none⟩)), (6, true, .pointer (some ⟨g7, 0, none⟩)), (2, true, .pointer (some ⟨g1, 0, none⟩)), (3, true, .pointer (some ⟨g2, 0, none⟩)), (4, true, .pointer (some ⟨g3, 0, none⟩))] [(true, g1, 26, (PVl (px P) (py P) (pz P))), (true, g2, 26, (PVl (px Q) (py Q) (pz Q))), (true, g3, 26, (PVl 0 0 false)), (true, g6, 24, (Wl r4)), (true, g7, 24, (Wl r5))] ac w := hs
      refine then_n ?_
      refine wp_seq ?_
      refine wp_seq ?_
      refine wp_region_lit ?_
      refine lstep (wpO_plain rfl (op_fieldA hs none rfl rfl rfl Try.underlying26 rfl Try.sizeOf24 (by decide) rfl fun ac hs => ?_))
      refine lstep (wpO_plain rfl (op_load hs none 0 (v := W (px P)) rfl rfl rfl rfl Try.isAgg24 Try.sizeOf24 rfl rfl fun ac hs => ?_))
      refine lstep (wpO_plain rfl (op_fieldA hs none rfl rfl rfl Try.underlying26 rfl Try.sizeOf24 (by decide) rfl fun ac hs => ?_))
      refine lstep (wpO_plain rfl (op_load hs none 1 (v := W (px Q)) rfl rfl rfl rfl Try.isAgg24 Try.sizeOf24 rfl rfl fun ac hs => ?_))
      refine lstep (wpO_plain rfl (op_bin hs none (v := .bool (decide ((px P) = (px Q)))) rfl rfl rfl rfl (fun w => run_eqGuard_agg w .eql 24 _ _ _ _ Try.eqGuardType24) (eqlW (px P) (px Q) (px_lt P) (px_lt Q) _ rfl) rfl fun ac hs => ?_))
      refine wpList_nil ?_
      refine then_n ?_
      refine wp_cond_split (hs.ev rfl) (fun hc => ?_) (fun hc => ?_)
      · skip
        have hp8 := of_decide_eq_true hc
        refine wp_seq ?_
        refine wp_seq ?_
        by_cases hq9 : py P = py Q
        · skip
          by_cases hq10 : py P = 0
          · skip
            refine wp_region_lit ?_
            refine lstep (wpO_plain rfl (op_fieldA hs none rfl rfl rfl Try.underlying26 rfl Try.sizeOf24 (by decide) rfl fun ac hs => ?_))
            refine lstep (wpO_plain rfl (op_load hs none 0 (v := W (py P)) rfl rfl rfl rfl Try.isAgg24 Try.sizeOf24 rfl rfl fun ac hs => ?_))
            refine lstep (wpO_plain rfl (op_fieldA hs none rfl rfl rfl Try.underlying26 rfl Try.sizeOf24 (by decide) rfl fun ac hs => ?_))
            refine lstep (wpO_plain rfl (op_load hs none 1 (v := W (py Q)) rfl rfl rfl rfl Try.isAgg24 Try.sizeOf24 rfl rfl fun ac hs => ?_))
            refine lstep (wpO_plain rfl (op_bin hs none (v := .bool false) rfl rfl rfl rfl (fun w => run_eqGuard_agg w .neq 24 _ _ _ _ Try.eqGuardType24) (neqW (py P) (py Q) (py_lt P) (py_lt Q) false (decide_eq_false (not_not_intro hq9))) rfl fun ac hs => ?_))
            refine lstep (wpO_plain rfl (op_move hs none rfl rfl rfl rfl fun ac hs => ?_))
            refine lstep (wpO_in hs rfl rfl rfl (op_fieldA hs none rfl rfl rfl Try.underlying26 rfl Try.sizeOf24 (by decide) rfl fun ac hs => ?_))
            refine lstep (wpO_in hs rfl rfl rfl (op_load hs none 0 (v := W (py P)) rfl rfl rfl rfl Try.isAgg24 Try.sizeOf24 rfl rfl fun ac hs => ?_))
            refine lstep (wpO_in hs rfl rfl rfl (op_build hs none (qs := []) (v := .agg #[.int .u64 0, .int .u64 0, .int .u64 0, .int .u64 0]) rfl rfl rfl rfl (fun _ => by kernel_rfl) rfl fun ac hs => ?_))
            refine lstep (wpO_in hs rfl rfl rfl (op_bin hs none (v := .bool true) rfl rfl rfl rfl (fun w => run_eqGuard_agg w .eql 24 _ _ _ _ Try.eqGuardType24) (eqlW (py P) 0 (py_lt P) (by decide) true (decide_eq_true hq10)) rfl fun ac hs => ?_))
            refine lstep (wpO_plain rfl (op_pickF hs none rfl rfl rfl rfl rfl fun ac hs => ?_))
            refine wpList_nil ?_
            refine then_n ?_
            refine wp_cond_true (hs.ev rfl) ?_
            refine wp_seq ?_
            replace hs : St 80 w0 [(2, true, .pointer (some ⟨g1, 0, none⟩)), (3, true, .pointer (some ⟨g2, 0, none⟩)), (4, true, .pointer (some ⟨g3, 0, none⟩)), (5, true, .pointer (some ⟨g6, 0, none⟩)), (6, true, .pointer (some ⟨g7, 0, none⟩))] [(true, g1, 26, (PVl (px P) (py P) (pz P))), (true, g2, 26, (PVl (px Q) (py Q) (pz Q))), (true, g3, 26, (PVl 0 0 false)), (true, g6, 24, (Wl r4)), (true, g7, 24, (Wl r5))] ac _ := hs.re ⟨rfl, rfl, rfl, rfl, rfl, trivial⟩
            refine wp_region_lit ?_
            refine lstep (wpO_plain rfl (op_build hs none (qs := [(2, .bool true)]) (v := PV 0 0 true) rfl rfl rfl rfl (fun _ => by kernel_rfl) rfl fun ac hs => ?_))
            refine lstep (wpO_plain rfl (op_store hs 2 (vs := (PVl 0 0 true)) rfl rfl rfl rfl rfl Try.sizeOf26 rfl rfl rfl rfl rfl fun w hs => ?_))
            refine wpList_nil ?_
            refine then_n ?_
            refine wp_ret ?_
            refine then_r ?_
            refine then_r ?_
            exact bodyPost_ret (res1 rfl (rv_c hs 2 (v := PV 0 0 true) rfl rfl Try.isAgg26 Try.sizeOf26 rfl)) hs.defers ⟨by rw [← hT, rsum_O hzP hzQ hp8 (.inr hq10)]; first | done | rfl, hs.below⟩
          · skip
            refine wp_region_lit ?_
            refine lstep (wpO_plain rfl (op_fieldA hs none rfl rfl rfl Try.underlying26 rfl Try.sizeOf24 (by decide) rfl fun ac hs => ?_))
            refine lstep (wpO_plain rfl (op_load hs none 0 (v := W (py P)) rfl rfl rfl rfl Try.isAgg24 Try.sizeOf24 rfl rfl fun ac hs => ?_))
            refine lstep (wpO_plain rfl (op_fieldA hs none rfl rfl rfl Try.underlying26 rfl Try.sizeOf24 (by decide) rfl fun ac hs => ?_))
            refine lstep (wpO_plain rfl (op_load hs none 1 (v := W (py Q)) rfl rfl rfl rfl Try.isAgg24 Try.sizeOf24 rfl rfl fun ac hs => ?_))
            refine lstep (wpO_plain rfl (op_bin hs none (v := .bool false) rfl rfl rfl rfl (fun w => run_eqGuard_agg w .neq 24 _ _ _ _ Try.eqGuardType24) (neqW (py P) (py Q) (py_lt P) (py_lt Q) false (decide_eq_false (not_not_intro hq9))) rfl fun ac hs => ?_))
            refine lstep (wpO_plain rfl (op_move hs none rfl rfl rfl rfl fun ac hs => ?_))
            refine lstep (wpO_in hs rfl rfl rfl (op_fieldA hs none rfl rfl rfl Try.underlying26 rfl Try.sizeOf24 (by decide) rfl fun ac hs => ?_))
            refine lstep (wpO_in hs rfl rfl rfl (op_load hs none 0 (v := W (py P)) rfl rfl rfl rfl Try.isAgg24 Try.sizeOf24 rfl rfl fun ac hs => ?_))
            refine lstep (wpO_in hs rfl rfl rfl (op_build hs none (qs := []) (v := .agg #[.int .u64 0, .int .u64 0, .int .u64 0, .int .u64 0]) rfl rfl rfl rfl (fun _ => by kernel_rfl) rfl fun ac hs => ?_))
            refine lstep (wpO_in hs rfl rfl rfl (op_bin hs none (v := .bool false) rfl rfl rfl rfl (fun w => run_eqGuard_agg w .eql 24 _ _ _ _ Try.eqGuardType24) (eqlW (py P) 0 (py_lt P) (by decide) false (decide_eq_false hq10)) rfl fun ac hs => ?_))
            refine lstep (wpO_plain rfl (op_pickF hs none rfl rfl rfl rfl rfl fun ac hs => ?_))
            refine wpList_nil ?_
            refine then_n ?_
            refine wp_cond_false (hs.ev rfl) ?_
            refine wp_skip ?_
            refine then_n ?_
            refine wp_seq ?_
            replace hs : St 80 w0 [(2, true, .pointer (some ⟨g1, 0, none⟩)), (3, true, .pointer (some ⟨g2, 0, none⟩)), (4, true, .pointer (some ⟨g3, 0, none⟩)), (5, true, .pointer (some ⟨g6, 0, none⟩)), (6, true, .pointer (some ⟨g7, 0, none⟩))] [(true, g1, 26, (PVl (px P) (py P) (pz P))), (true, g2, 26, (PVl (px Q) (py Q) (pz Q))), (true, g3, 26, (PVl 0 0 false)), (true, g6, 24, (Wl r4)), (true, g7, 24, (Wl r5))] ac _ := hs.re ⟨rfl, rfl, rfl, rfl, rfl, trivial⟩
            refine wp_region_lit ?_
            refine lstep (wpO_plain rfl (op_build hs none (qs := [(0, .int .u64 3)]) (v := .agg #[.int .u64 3, .int .u64 0, .int .u64 0, .int .u64 0]) rfl rfl rfl rfl (fun _ => by kernel_rfl) rfl fun ac hs => ?_))
            refine lstep (wpO_plain rfl (op_fieldA hs none rfl rfl rfl Try.underlying26 rfl Try.sizeOf24 (by decide) rfl fun ac hs => ?_))
            refine lstep (wpO_plain rfl (op_load hs none 0 (v := W (px P)) rfl rfl rfl rfl Try.isAgg24 Try.sizeOf24 rfl rfl fun ac hs => ?_))
            refine lstep (wpO_plain rfl (op_fieldA hs none rfl rfl rfl Try.underlying26 rfl Try.sizeOf24 (by decide) rfl fun ac hs => ?_))
            refine lstep (wpO_plain rfl (op_load hs none 0 (v := W (px P)) rfl rfl rfl rfl Try.isAgg24 Try.sizeOf24 rfl rfl fun ac hs => ?_))
            obtain ⟨r11, hr11, lr11⟩ : ∃ z0, (px P) * (px P) % Pf = z0 ∧ z0 < 2 ^ 256 := ⟨_, rfl, modP_lt _⟩
            refine lstep (wpO_plain rfl (op_call (F := 43) hs none (v := W r11) rfl rfl rfl rfl (Try.call43 _) (rfmul_c (px P) (px P) r11 (px_lt P) (px_lt P) hr11) rfl fun ac w hs => ?_))
            obtain ⟨r12, hr12, lr12⟩ : ∃ z0, 3 * r11 % Pf = z0 ∧ z0 < 2 ^ 256 := ⟨_, rfl, modP_lt _⟩
            refine lstep (wpO_plain rfl (op_call (F := 43) hs none (v := W r12) rfl rfl rfl rfl (Try.call43 _) (rfmul_c 3 r11 r12 (by decide) lr11 hr12) rfl fun ac w hs => ?_))
            refine lstep (wpO_plain rfl (op_store hs 3 (vs := (Wl r12)) rfl rfl rfl rfl rfl Try.sizeOf24 rfl rfl rfl rfl rfl fun w hs => ?_))
            refine wpList_nil ?_
            refine then_n ?_
            replace hs : St 80 w0 [(2, true, .pointer (some ⟨g1, 0, none⟩)), (3, true, .pointer (some ⟨g2, 0, none⟩)), (4, true, .pointer (some ⟨g3, 0, none⟩)), (5, true, .pointer (some ⟨g6, 0, none⟩)), (6, true, .pointer (some ⟨g7, 0, none⟩))] [(true, g1, 26, (PVl (px P) (py P) (pz P))), (true, g2, 26, (PVl (px Q) (py Q) (pz Q))), (true, g3, 26, (PVl 0 0 false)), (true, g6, 24, (Wl r12)), (true, g7, 24, (Wl r5))] ac _ := hs.re ⟨rfl, rfl, rfl, rfl, rfl, trivial⟩
            refine wp_region_lit ?_
            refine lstep (wpO_plain rfl (op_fieldA hs none rfl rfl rfl Try.underlying26 rfl Try.sizeOf24 (by decide) rfl fun ac hs => ?_))
            refine lstep (wpO_plain rfl (op_load hs none 0 (v := W (py P)) rfl rfl rfl rfl Try.isAgg24 Try.sizeOf24 rfl rfl fun ac hs => ?_))
            refine lstep (wpO_plain rfl (op_fieldA hs none rfl rfl rfl Try.underlying26 rfl Try.sizeOf24 (by decide) rfl fun ac hs => ?_))
            refine lstep (wpO_plain rfl (op_load hs none 0 (v := W (py P)) rfl rfl rfl rfl Try.isAgg24 Try.sizeOf24 rfl rfl fun ac hs => ?_))
            obtain ⟨r13, hr13, lr13⟩ : ∃ z0, ((py P) + (py P)) % Pf = z0 ∧ z0 < 2 ^ 256 := ⟨_, rfl, modP_lt _⟩
            refine lstep (wpO_plain rfl (op_call (F := 71) hs none (v := W r13) rfl rfl rfl rfl (Try.call71 _) (rfadd_c (py P) (py P) r13 (py_lt P) (py_lt P) hr13) rfl fun ac w hs => ?_))
            refine lstep (wpO_plain rfl (op_store hs 4 (vs := (Wl r13)) rfl rfl rfl rfl rfl Try.sizeOf24 rfl rfl rfl rfl rfl fun w hs => ?_))
            refine wpList_nil ?_
            refine then_n ?_
            refine wp_seq ?_
            replace hs : St 80 w0 [(2, true, .pointer (some ⟨g1, 0, none⟩)), (3, true, .pointer (some ⟨g2, 0, none⟩)), (4, true, .pointer (some ⟨g3, 0, none⟩)), (5, true, .pointer (some ⟨g6, 0, none⟩)), (6, true, .pointer (some ⟨g7, 0, none⟩))] [(true, g1, 26, (PVl (px P) (py P) (pz P))), (true, g2, 26, (PVl (px Q) (py Q) (pz Q))), (true, g3, 26, (PVl 0 0 false)), (true, g6, 24, (Wl r12)), (true, g7, 24, (Wl r13))] ac _ := hs.re ⟨rfl, rfl, rfl, rfl, rfl, trivial⟩
            obtain ⟨r14, hr14, lr14⟩ : ∃ z0, pinv Pf r13 = z0 ∧ z0 < 2 ^ 256 := ⟨_, rfl, modP_lt _⟩
            obtain ⟨r15, hr15, lr15⟩ : ∃ z0, r12 * r14 % Pf = z0 ∧ z0 < 2 ^ 256 := ⟨_, rfl, modP_lt _⟩
            refine region_inv [([], [3, 5]), ([], [2, 3, 5]), ([1], [3, 5]), ([0, 1, 2], [5]), ([], [5]), ([0, 1, 2, 3, 4], [])] (fun L ac w => ∃ (g16 : Nat), St 80 w0 [(55, L 0, W r12), (56, L 1, W r13), (57, L 2, W r14), (58, L 3, W r15), (7, L 4, .pointer (some ⟨g16, 0, none⟩)), (2, true, .pointer (some ⟨g1, 0, none⟩)), (3, true, .pointer (some ⟨g2, 0, none⟩)), (4, true, .pointer (some ⟨g3, 0, none⟩)), (5, true, .pointer (some ⟨g6, 0, none⟩)), (6, true, .pointer (some ⟨g7, 0, none⟩))] [(true, g1, 26, (PVl (px P) (py P) (pz P))), (true, g2, 26, (PVl (px Q) (py Q) (pz Q))), (true, g3, 26, (PVl 0 0 false)), (true, g6, 24, (Wl r12)), (true, g7, 24, (Wl r13)), (L 4, g16, 24, (cond (L 5) (Wl r15) [.int .u64 0, .int .u64 0, .int .u64 0, .int .u64 0]))] ac w) (by kernel_rfl) (by kernel_rfl) ?_ ?_ ?_
            · exact ⟨0, hs.drew.skip.skip.skip.skip.skip.pad⟩
            · refine ⟨?_, ?_, ?_, ?_, ?_, ?_, trivial⟩
              · intro L ac w hJ
                obtain ⟨g16, hs⟩ := hJ
                refine wpO_plain rfl (op_load hs (some 0) 3 (v := W r12) rfl rfl rfl rfl Try.isAgg24 Try.sizeOf24 rfl rfl fun ac hs => ?_)
                exact ⟨g16, hs⟩
              · intro L ac w hJ
                obtain ⟨g16, hs⟩ := hJ
                refine wpO_plain rfl (op_load hs (some 1) 4 (v := W r13) rfl rfl rfl rfl Try.isAgg24 Try.sizeOf24 rfl rfl fun ac hs => ?_)
                exact ⟨g16, hs⟩
              · intro L ac w hJ
                obtain ⟨g16, hs⟩ := hJ
                refine wpO_plain rfl (op_call (F := 42) hs (some 2) (v := W r14) rfl rfl rfl rfl (Try.call42 _) (rfinv_c r13 r14 lr13 hr14) rfl fun ac w hs => ?_)
                exact ⟨g16, hs⟩
              · intro L ac w hJ
                obtain ⟨g16, hs⟩ := hJ
                refine wpO_plain rfl (op_call (F := 43) hs (some 3) (v := W r15) rfl rfl rfl rfl (Try.call43 _) (rfmul_c r12 r14 r15 lr12 lr14 hr15) rfl fun ac w hs => ?_)
                exact ⟨g16, hs⟩
              · intro L ac w hJ
                obtain ⟨g16, hs⟩ := hJ
                refine wpO_plain rfl (op_alloc hs (some 4) (some 5) (cs := [.int .u64 0, .int .u64 0, .int .u64 0, .int .u64 0]) rfl rfl Try.zeroValue24 (by kernel_rfl) rfl rfl fun g16 ac w hs => ?_)
                exact ⟨g16, hs⟩
              · intro L ac w hJ
                obtain ⟨g16, hs⟩ := hJ
                refine wpO_plain rfl (op_store hs 5 (vs := (Wl r15)) rfl rfl rfl rfl rfl Try.sizeOf24 rfl rfl rfl rfl rfl fun w hs => ?_)
                exact ⟨g16, hs⟩
            intro ac w hJ
            obtain ⟨g16, hs⟩ := hJ
            replace hs : St 80 w0 [(55, true, W r12), (56, true, W r13), (57, true, W r14), (58, true, W r15), (7, true, .pointer (some ⟨g16, 0, none⟩)), (2, true, .pointer (some ⟨g1, 0, none⟩)), (3, true, .pointer (some ⟨g2, 0, none⟩)), (4, true, .pointer (some ⟨g3, 0, none⟩)), (5, true, .pointer (some ⟨g6, 0, none⟩)), (6, true, .pointer (some ⟨g7, 0, none⟩))] [(true, g1, 26, (PVl (px P) (py P) (pz P))), (true, g2, 26, (PVl (px Q) (py Q) (pz Q))), (true, g3, 26, (PVl 0 0 false)), (true, g6, 24, (Wl r12)), (true, g7, 24, (Wl r13)), (true, g16, 24, (Wl r15))] ac w := hs
            refine then_n ?_
            refine wp_seq ?_
            replace hs : St 80 w0 [(2, true, .pointer (some ⟨g1, 0, none⟩)), (3, true, .pointer (some ⟨g2, 0, none⟩)), (4, true, .pointer (some ⟨g3, 0, none⟩)), (7, true, .pointer (some ⟨g16, 0, none⟩))] [(true, g1, 26, (PVl (px P) (py P) (pz P))), (true, g2, 26, (PVl (px Q) (py Q) (pz Q))), (true, g3, 26, (PVl 0 0 false)), (true, g6, 24, (Wl r12)), (true, g7, 24, (Wl r13)), (true, g16, 24, (Wl r15))] ac _ := hs.re ⟨rfl, rfl, rfl, rfl, trivial⟩
            obtain ⟨r17, hr17, lr17⟩ : ∃ z0, r15 * r15 % Pf = z0 ∧ z0 < 2 ^ 256 := ⟨_, rfl, modP_lt _⟩
            obtain ⟨r18, hr18, lr18⟩ : ∃ z0, fsub r17 (px P) = z0 ∧ z0 < 2 ^ 256 := ⟨_, rfl, fsub_lt _ _⟩
            obtain ⟨r19, hr19, lr19⟩ : ∃ z0, fsub r18 (px Q) = z0 ∧ z0 < 2 ^ 256 := ⟨_, rfl, fsub_lt _ _⟩
            refine region_inv [([], [2, 5, 8, 10]), ([], [2, 5, 8, 10]), ([0, 1], [5, 8, 10]), ([], [4, 5, 8, 10]), ([3], [5, 8, 10]), ([0, 1, 2, 3, 4], [8, 10]), ([], [7, 8, 10]), ([6], [8, 10]), ([0, 1, 2, 3, 4, 5, 6, 7], [10]), ([], [10]), ([0, 1, 2, 3, 4, 5, 6, 7, 8, 9], [])] (fun L ac w => ∃ (g20 : Nat), St 80 w0 [(59, L 0, W r15), (60, L 1, W r15), (61, L 2, W r17), (62, L 3, .pointer (some ⟨g1, 0, none⟩)), (63, L 4, W (px P)), (64, L 5, W r18), (65, L 6, .pointer (some ⟨g2, 0, none⟩)), (66, L 7, W (px Q)), (67, L 8, W r19), (8, L 9, .pointer (some ⟨g20, 0, none⟩)), (2, true, .pointer (some ⟨g1, 0, none⟩)), (3, true, .pointer (some ⟨g2, 0, none⟩)), (4, true, .pointer (some ⟨g3, 0, none⟩)), (7, true, .pointer (some ⟨g16, 0, none⟩))] [(true, g1, 26, (PVl (px P) (py P) (pz P))), (true, g2, 26, (PVl (px Q) (py Q) (pz Q))), (true, g3, 26, (PVl 0 0 false)), (true, g6, 24, (Wl r12)), (true, g7, 24, (Wl r13)), (true, g16, 24, (Wl r15)), (L 9, g20, 24, (cond (L 10) (Wl r19) [.int .u64 0, .int .u64 0, .int .u64 0, .int .u64 0]))] ac w) (by kernel_rfl) (by kernel_rfl) ?_ ?_ ?_
            · exact ⟨0, hs.drew.skip.skip.skip.skip.skip.skip.skip.skip.skip.skip.pad⟩
            · refine ⟨?_, ?_, ?_, ?_, ?_, ?_, ?_, ?_, ?_, ?_, ?_, trivial⟩
              · intro L ac w hJ
                obtain ⟨g20, hs⟩ := hJ
                refine wpO_plain rfl (op_load hs (some 0) 5 (v := W r15) rfl rfl rfl rfl Try.isAgg24 Try.sizeOf24 rfl rfl fun ac hs => ?_)
                exact ⟨g20, hs⟩
              · intro L ac w hJ
                obtain ⟨g20, hs⟩ := hJ
                refine wpO_plain rfl (op_load hs (some 1) 5 (v := W r15) rfl rfl rfl rfl Try.isAgg24 Try.sizeOf24 rfl rfl fun ac hs => ?_)
                exact ⟨g20, hs⟩
              · intro L ac w hJ
                obtain ⟨g20, hs⟩ := hJ
                refine wpO_plain rfl (op_call (F := 43) hs (some 2) (v := W r17) rfl rfl rfl rfl (Try.call43 _) (rfmul_c r15 r15 r17 lr15 lr15 hr17) rfl fun ac w hs => ?_)
                exact ⟨g20, hs⟩
              · intro L ac w hJ
                obtain ⟨g20, hs⟩ := hJ
                refine wpO_plain rfl (op_fieldA hs (some 3) rfl rfl rfl Try.underlying26 rfl Try.sizeOf24 (by decide) rfl fun ac hs => ?_)
                exact ⟨g20, hs⟩
              · intro L ac w hJ
                obtain ⟨g20, hs⟩ := hJ
                refine wpO_plain rfl (op_load hs (some 4) 0 (v := W (px P)) rfl rfl rfl rfl Try.isAgg24 Try.sizeOf24 rfl rfl fun ac hs => ?_)
                exact ⟨g20, hs⟩
              · intro L ac w hJ
                obtain ⟨g20, hs⟩ := hJ
                refine wpO_plain rfl (op_call (F := 70) hs (some 5) (v := W r18) rfl rfl rfl rfl (Try.call70 _) (rfsub_c r17 (px P) r18 lr17 (px_lt P) hr18) rfl fun ac w hs => ?_)
                exact ⟨g20, hs⟩
              · intro L ac w hJ
                obtain ⟨g20, hs⟩ := hJ
                refine wpO_plain rfl (op_fieldA hs (some 6) rfl rfl rfl Try.underlying26 rfl Try.sizeOf24 (by decide) rfl fun ac hs => ?_)
                exact ⟨g20, hs⟩
              · intro L ac w hJ
                obtain ⟨g20, hs⟩ := hJ
                refine wpO_plain rfl (op_load hs (some 7) 1 (v := W (px Q)) rfl rfl rfl rfl Try.isAgg24 Try.sizeOf24 rfl rfl fun ac hs => ?_)
                exact ⟨g20, hs⟩
              · intro L ac w hJ
                obtain ⟨g20, hs⟩ := hJ
                refine wpO_plain rfl (op_call (F := 70) hs (some 8) (v := W r19) rfl rfl rfl rfl (Try.call70 _) (rfsub_c r18 (px Q) r19 lr18 (px_lt Q) hr19) rfl fun ac w hs => ?_)
                exact ⟨g20, hs⟩
              · intro L ac w hJ
                obtain ⟨g20, hs⟩ := hJ
                refine wpO_plain rfl (op_alloc hs (some 9) (some 6) (cs := [.int .u64 0, .int .u64 0, .int .u64 0, .int .u64 0]) rfl rfl Try.zeroValue24 (by kernel_rfl) rfl rfl fun g20 ac w hs => ?_)
                exact ⟨g20, hs⟩
              · intro L ac w hJ
                obtain ⟨g20, hs⟩ := hJ
                refine wpO_plain rfl (op_store hs 6 (vs := (Wl r19)) rfl rfl rfl rfl rfl Try.sizeOf24 rfl rfl rfl rfl rfl fun w hs => ?_)
                exact ⟨g20, hs⟩
            intro ac w hJ
            obtain ⟨g20, hs⟩ := hJ
            replace hs : St 80 w0 [(59, true, W r15), (60, true, W r15), (61, true, W r17), (62, true, .pointer (some ⟨g1, 0, none⟩)), (63, true, W (px P)), (64, true, W r18), (65, true, .pointer (some ⟨g2, 0, none⟩)), (66, true, W (px Q)), (67, true, W r19), (8, true, .pointer (some ⟨g20, 0, none⟩)), (2, true, .pointer (some ⟨g1, 0, none⟩)), (3, true, .pointer (some ⟨g2, 0, none⟩)), (4, true, .pointer (some ⟨g3, 0, none⟩)), (7, true, .pointer (some ⟨g16, 0, none⟩))] [(true, g1, 26, (PVl (px P) (py P) (pz P))), (true, g2, 26, (PVl (px Q) (py Q) (pz Q))), (true, g3, 26, (PVl 0 0 false)), (true, g6, 24, (Wl r12)), (true, g7, 24, (Wl r13)), (true, g16, 24, (Wl r15)), (true, g20, 24, (Wl r19))] ac w := hs
            refine then_n ?_
            refine wp_seq ?_
            replace hs : St 80 w0 [(2, true, .pointer (some ⟨g1, 0, none⟩)), (4, true, .pointer (some ⟨g3, 0, none⟩)), (7, true, .pointer (some ⟨g16, 0, none⟩)), (8, true, .pointer (some ⟨g20, 0, none⟩))] [(true, g1, 26, (PVl (px P) (py P) (pz P))), (true, g2, 26, (PVl (px Q) (py Q) (pz Q))), (true, g3, 26, (PVl 0 0 false)), (true, g6, 24, (Wl r12)), (true, g7, 24, (Wl r13)), (true, g16, 24, (Wl r15)), (true, g20, 24, (Wl r19))] ac _ := hs.re ⟨rfl, rfl, rfl, rfl, trivial⟩
            obtain ⟨r21, hr21, lr21⟩ : ∃ z0, fsub (px P) r19 = z0 ∧ z0 < 2 ^ 256 := ⟨_, rfl, fsub_lt _ _⟩
            obtain ⟨r22, hr22, lr22⟩ : ∃ z0, r15 * r21 % Pf = z0 ∧ z0 < 2 ^ 256 := ⟨_, rfl, modP_lt _⟩
            obtain ⟨r23, hr23, lr23⟩ : ∃ z0, fsub r22 (py P) = z0 ∧ z0 < 2 ^ 256 := ⟨_, rfl, fsub_lt _ _⟩
            refine region_inv [([], [5, 8, 10]), ([], [2, 4, 5, 8, 10]), ([1], [4, 5, 8, 10]), ([], [4, 5, 8, 10]), ([1, 2, 3], [5, 8, 10]), ([0, 1, 2, 3, 4], [8, 10]), ([], [7, 8, 10]), ([6], [8, 10]), ([0, 1, 2, 3, 4, 5, 6, 7], [10]), ([], [10]), ([0, 1, 2, 3, 4, 5, 6, 7, 8, 9], [])] (fun L ac w => ∃ (g24 : Nat), St 80 w0 [(68, L 0, W r15), (69, L 1, .pointer (some ⟨g1, 0, none⟩)), (70, L 2, W (px P)), (71, L 3, W r19), (72, L 4, W r21), (73, L 5, W r22), (74, L 6, .pointer (some ⟨g1, 4, none⟩)), (75, L 7, W (py P)), (76, L 8, W r23), (9, L 9, .pointer (some ⟨g24, 0, none⟩)), (2, true, .pointer (some ⟨g1, 0, none⟩)), (4, true, .pointer (some ⟨g3, 0, none⟩)), (7, true, .pointer (some ⟨g16, 0, none⟩)), (8, true, .pointer (some ⟨g20, 0, none⟩))] [(true, g1, 26, (PVl (px P) (py P) (pz P))), (true, g2, 26, (PVl (px Q) (py Q) (pz Q))), (true, g3, 26, (PVl 0 0 false)), (true, g6, 24, (Wl r12)), (true, g7, 24, (Wl r13)), (true, g16, 24, (Wl r15)), (true, g20, 24, (Wl r19)), (L 9, g24, 24, (cond (L 10) (Wl r23) [.int .u64 0, .int .u64 0, .int .u64 0, .int .u64 0]))] ac w) (by kernel_rfl) (by kernel_rfl) ?_ ?_ ?_
            · exact ⟨0, hs.drew.skip.skip.skip.skip.skip.skip.skip.skip.skip.skip.pad⟩
            · refine ⟨?_, ?_, ?_, ?_, ?_, ?_, ?_, ?_, ?_, ?_, ?_, trivial⟩
              · intro L ac w hJ
                obtain ⟨g24, hs⟩ := hJ
                refine wpO_plain rfl (op_load hs (some 0) 5 (v := W r15) rfl rfl rfl rfl Try.isAgg24 Try.sizeOf24 rfl rfl fun ac hs => ?_)
                exact ⟨g24, hs⟩
              · intro L ac w hJ
                obtain ⟨g24, hs⟩ := hJ
                refine wpO_plain rfl (op_fieldA hs (some 1) rfl rfl rfl Try.underlying26 rfl Try.sizeOf24 (by decide) rfl fun ac hs => ?_)
                exact ⟨g24, hs⟩
              · intro L ac w hJ
                obtain ⟨g24, hs⟩ := hJ
                refine wpO_plain rfl (op_load hs (some 2) 0 (v := W (px P)) rfl rfl rfl rfl Try.isAgg24 Try.sizeOf24 rfl rfl fun ac hs => ?_)
                exact ⟨g24, hs⟩
              · intro L ac w hJ
                obtain ⟨g24, hs⟩ := hJ
                refine wpO_plain rfl (op_load hs (some 3) 6 (v := W r19) rfl rfl rfl rfl Try.isAgg24 Try.sizeOf24 rfl rfl fun ac hs => ?_)
                exact ⟨g24, hs⟩
              · intro L ac w hJ
                obtain ⟨g24, hs⟩ := hJ
                refine wpO_plain rfl (op_call (F := 70) hs (some 4) (v := W r21) rfl rfl rfl rfl (Try.call70 _) (rfsub_c (px P) r19 r21 (px_lt P) lr19 hr21) rfl fun ac w hs => ?_)
                exact ⟨g24, hs⟩
              · intro L ac w hJ
                obtain ⟨g24, hs⟩ := hJ
                refine wpO_plain rfl (op_call (F := 43) hs (some 5) (v := W r22) rfl rfl rfl rfl (Try.call43 _) (rfmul_c r15 r21 r22 lr15 lr21 hr22) rfl fun ac w hs => ?_)
                exact ⟨g24, hs⟩
              · intro L ac w hJ
                obtain ⟨g24, hs⟩ := hJ
                refine wpO_plain rfl (op_fieldA hs (some 6) rfl rfl rfl Try.underlying26 rfl Try.sizeOf24 (by decide) rfl fun ac hs => ?_)
                exact ⟨g24, hs⟩
              · intro L ac w hJ
                obtain ⟨g24, hs⟩ := hJ
                refine wpO_plain rfl (op_load hs (some 7) 0 (v := W (py P)) rfl rfl rfl rfl Try.isAgg24 Try.sizeOf24 rfl rfl fun ac hs => ?_)
                exact ⟨g24, hs⟩
              · intro L ac w hJ
                obtain ⟨g24, hs⟩ := hJ
                refine wpO_plain rfl (op_call (F := 70) hs (some 8) (v := W r23) rfl rfl rfl rfl (Try.call70 _) (rfsub_c r22 (py P) r23 lr22 (py_lt P) hr23) rfl fun ac w hs => ?_)
                exact ⟨g24, hs⟩
              · intro L ac w hJ
                obtain ⟨g24, hs⟩ := hJ
                refine wpO_plain rfl (op_alloc hs (some 9) (some 7) (cs := [.int .u64 0, .int .u64 0, .int .u64 0, .int .u64 0]) rfl rfl Try.zeroValue24 (by kernel_rfl) rfl rfl fun g24 ac w hs => ?_)
                exact ⟨g24, hs⟩
              · intro L ac w hJ
                obtain ⟨g24, hs⟩ := hJ
                refine wpO_plain rfl (op_store hs 7 (vs := (Wl r23)) rfl rfl rfl rfl rfl Try.sizeOf24 rfl rfl rfl rfl rfl fun w hs => ?_)
                exact ⟨g24, hs⟩
            intro ac w hJ
            obtain ⟨g24, hs⟩ := hJ
            replace hs : St 80 w0 [(68, true, W r15), (69, true, .pointer (some ⟨g1, 0, none⟩)), (70, true, W (px P)), (71, true, W r19), (72, true, W r21), (73, true, W r22), (74, true, .pointer (some ⟨g1, 4, none⟩)), (75, true, W (py P)), (76, true, W r23), (9, true, .pointer (some ⟨g24, 0, none⟩)), (2, true, .pointer (some ⟨g1, 0, none⟩)), (4, true, .pointer (some ⟨g3, 0, none⟩)), (7, true, .pointer (some ⟨g16, 0, none⟩)), (8, true, .pointer (some ⟨g20, 0, none⟩))] [(true, g1, 26, (PVl (px P) (py P) (pz P))), (true, g2, 26, (PVl (px Q) (py Q) (pz Q))), (true, g3, 26, (PVl 0 0 false)), (true, g6, 24, (Wl r12)), (true, g7, 24, (Wl r13)), (true, g16, 24, (Wl r15)), (true, g20, 24, (Wl r19)), (true, g24, 24, (Wl r23))] ac w := hs
            refine then_n ?_
            refine wp_seq ?_
            refine wp_region_lit ?_
            refine lstep (wpO_plain rfl (op_load hs none 6 (v := W r19) rfl rfl rfl rfl Try.isAgg24 Try.sizeOf24 rfl rfl fun ac hs => ?_))
            refine lstep (wpO_plain rfl (op_load hs none 7 (v := W r23) rfl rfl rfl rfl Try.isAgg24 Try.sizeOf24 rfl rfl fun ac hs => ?_))
            refine lstep (wpO_plain rfl (op_build hs none (qs := [(0, W r19), (1, W r23)]) (v := PV r19 r23 false) rfl rfl rfl rfl (fun _ => by kernel_rfl) rfl fun ac hs => ?_))
            refine lstep (wpO_plain rfl (op_store hs 2 (vs := (PVl r19 r23 false)) rfl rfl rfl rfl rfl Try.sizeOf26 rfl rfl rfl rfl rfl fun w hs => ?_))
            refine wpList_nil ?_
            refine then_n ?_
            refine wp_ret ?_
            exact bodyPost_ret (res1 rfl (rv_c hs 2 (v := PV r19 r23 false) rfl rfl Try.isAgg26 Try.sizeOf26 rfl)) hs.defers ⟨by obtain ⟨e1, e2, e3⟩ := rsum_A hzP hzQ (fun hh => hh.2.elim (fun k => k hq9) (fun k => hq10 k)) (slope_D hp8 hr11 hr12 hr13 hr14 hr15) hr17 hr18 hr19 hr21 hr22 hr23; rw [← hT, e1, e2, e3], hs.below⟩
        · skip
          refine wp_region_lit ?_
          refine lstep (wpO_plain rfl (op_fieldA hs none rfl rfl rfl Try.underlying26 rfl Try.sizeOf24 (by decide) rfl fun ac hs => ?_))
          refine lstep (wpO_plain rfl (op_load hs none 0 (v := W (py P)) rfl rfl rfl rfl Try.isAgg24 Try.sizeOf24 rfl rfl fun ac hs => ?_))
          refine lstep (wpO_plain rfl (op_fieldA hs none rfl rfl rfl Try.underlying26 rfl Try.sizeOf24 (by decide) rfl fun ac hs => ?_))
          refine lstep (wpO_plain rfl (op_load hs none 1 (v := W (py Q)) rfl rfl rfl rfl Try.isAgg24 Try.sizeOf24 rfl rfl fun ac hs => ?_))
          refine lstep (wpO_plain rfl (op_bin hs none (v := .bool true) rfl rfl rfl rfl (fun w => run_eqGuard_agg w .neq 24 _ _ _ _ Try.eqGuardType24) (neqW (py P) (py Q) (py_lt P) (py_lt Q) true (decide_eq_true hq9)) rfl fun ac hs => ?_))
          refine lstep (wpO_plain rfl (op_move hs none rfl rfl rfl rfl fun ac hs => ?_))
          refine lstep (wpO_out hs none rfl rfl (.inl rfl) rfl rfl fun ac hs => ?_)
          refine lstep (wpO_out hs none rfl rfl (.inl rfl) rfl rfl fun ac hs => ?_)
          refine lstep (wpO_out hs none rfl rfl (.inl rfl) rfl rfl fun ac hs => ?_)
          refine lstep (wpO_out hs none rfl rfl (.inl rfl) rfl rfl fun ac hs => ?_)
          refine lstep (wpO_plain rfl (op_pickT hs none rfl rfl rfl rfl rfl fun ac hs => ?_))
          refine wpList_nil ?_
          refine then_n ?_
          refine wp_cond_true (hs.ev rfl) ?_
          refine wp_seq ?_
          replace hs : St 80 w0 [(2, true, .pointer (some ⟨g1, 0, none⟩)), (3, true, .pointer (some ⟨g2, 0, none⟩)), (4, true, .pointer (some ⟨g3, 0, none⟩)), (5, true, .pointer (some ⟨g6, 0, none⟩)), (6, true, .pointer (some ⟨g7, 0, none⟩))] [(true, g1, 26, (PVl (px P) (py P) (pz P))), (true, g2, 26, (PVl (px Q) (py Q) (pz Q))), (true, g3, 26, (PVl 0 0 false)), (true, g6, 24, (Wl r4)), (true, g7, 24, (Wl r5))] ac _ := hs.re ⟨rfl, rfl, rfl, rfl, rfl, trivial⟩
          refine wp_region_lit ?_
          refine lstep (wpO_plain rfl (op_build hs none (qs := [(2, .bool true)]) (v := PV 0 0 true) rfl rfl rfl rfl (fun _ => by kernel_rfl) rfl fun ac hs => ?_))
          refine lstep (wpO_plain rfl (op_store hs 2 (vs := (PVl 0 0 true)) rfl rfl rfl rfl rfl Try.sizeOf26 rfl rfl rfl rfl rfl fun w hs => ?_))
          refine wpList_nil ?_
          refine then_n ?_
          refine wp_ret ?_
          refine then_r ?_
          refine then_r ?_
          exact bodyPost_ret (res1 rfl (rv_c hs 2 (v := PV 0 0 true) rfl rfl Try.isAgg26 Try.sizeOf26 rfl)) hs.defers ⟨by rw [← hT, rsum_O hzP hzQ hp8 (.inl hq9)]; first | done | rfl, hs.below⟩
      · skip
        have hp25 := of_decide_eq_false hc
        refine wp_skip ?_
        refine then_n ?_
        refine wp_seq ?_
        replace hs : St 80 w0 [(2, true, .pointer (some ⟨g1, 0, none⟩)), (3, true, .pointer (some ⟨g2, 0, none⟩)), (4, true, .pointer (some ⟨g3, 0, none⟩)), (5, true, .pointer (some ⟨g6, 0, none⟩)), (6, true, .pointer (some ⟨g7, 0, none⟩))] [(true, g1, 26, (PVl (px P) (py P) (pz P))), (true, g2, 26, (PVl (px Q) (py Q) (pz Q))), (true, g3, 26, (PVl 0 0 false)), (true, g6, 24, (Wl r4)), (true, g7, 24, (Wl r5))] ac _ := hs.re ⟨rfl, rfl, rfl, rfl, rfl, trivial⟩
        obtain ⟨r26, hr26, lr26⟩ : ∃ z0, pinv Pf r5 = z0 ∧ z0 < 2 ^ 256 := ⟨_, rfl, modP_lt _⟩
        obtain ⟨r27, hr27, lr27⟩ : ∃ z0, r4 * r26 % Pf = z0 ∧ z0 < 2 ^ 256 := ⟨_, rfl, modP_lt _⟩
        refine region_inv [([], [3, 5]), ([], [2, 3, 5]), ([1], [3, 5]), ([0, 1, 2], [5]), ([], [5]), ([0, 1, 2, 3, 4], [])] (fun L ac w => ∃ (g28 : Nat), St 80 w0 [(55, L 0, W r4), (56, L 1, W r5), (57, L 2, W r26), (58, L 3, W r27), (7, L 4, .pointer (some ⟨g28, 0, none⟩)), (2, true, .pointer (some ⟨g1, 0, none⟩)), (3, true, .pointer (some ⟨g2, 0, none⟩)), (4, true, .pointer (some ⟨g3, 0, none⟩)), (5, true, .pointer (some ⟨g6, 0, none⟩)), (6, true, .pointer (some ⟨g7, 0, none⟩))] [(true, g1, 26, (PVl (px P) (py P) (pz P))), (true, g2, 26, (PVl (px Q) (py Q) (pz Q))), (true, g3, 26, (PVl 0 0 false)), (true, g6, 24, (Wl r4)), (true, g7, 24, (Wl r5)), (L 4, g28, 24, (cond (L 5) (Wl r27) [.int .u64 0, .int .u64 0, .int .u64 0, .int .u64 0]))] ac w) (by kernel_rfl) (by kernel_rfl) ?_ ?_ ?_
        · exact ⟨0, hs.drew.skip.skip.skip.skip.skip.pad⟩
        · refine ⟨?_, ?_, ?_, ?_, ?_, ?_, trivial⟩
          · intro L ac w hJ
            obtain ⟨g28, hs⟩ := hJ
            refine wpO_plain rfl (op_load hs (some 0) 3 (v := W r4) rfl rfl rfl rfl Try.isAgg24 Try.sizeOf24 rfl rfl fun ac hs => ?_)
            exact ⟨g28, hs⟩
          · intro L ac w hJ
            obtain ⟨g28, hs⟩ := hJ
            refine wpO_plain rfl (op_load hs (some 1) 4 (v := W r5) rfl rfl rfl rfl Try.isAgg24 Try.sizeOf24 rfl rfl fun ac hs => ?_)
            exact ⟨g28, hs⟩
          · intro L ac w hJ
            obtain ⟨g28, hs⟩ := hJ
            refine wpO_plain rfl (op_call (F := 42) hs (some 2) (v := W r26) rfl rfl rfl rfl (Try.call42 _) (rfinv_c r5 r26 lr5 hr26) rfl fun ac w hs => ?_)
            exact ⟨g28, hs⟩
          · intro L ac w hJ
            obtain ⟨g28, hs⟩ := hJ
            refine wpO_plain rfl (op_call (F := 43) hs (some 3) (v := W r27) rfl rfl rfl rfl (Try.call43 _) (rfmul_c r4 r26 r27 lr4 lr26 hr27) rfl fun ac w hs => ?_)
            exact ⟨g28, hs⟩
          · intro L ac w hJ
            obtain ⟨g28, hs⟩ := hJ
            refine wpO_plain rfl (op_alloc hs (some 4) (some 5) (cs := [.int .u64 0, .int .u64 0, .int .u64 0, .int .u64 0]) rfl rfl Try.zeroValue24 (by kernel_rfl) rfl rfl fun g28 ac w hs => ?_)
            exact ⟨g28, hs⟩
          · intro L ac w hJ
            obtain ⟨g28, hs⟩ := hJ
            refine wpO_plain rfl (op_store hs 5 (vs := (Wl r27)) rfl rfl rfl rfl rfl Try.sizeOf24 rfl rfl rfl rfl rfl fun w hs => ?_)
            exact ⟨g28, hs⟩
        intro ac w hJ
        obtain ⟨g28, hs⟩ := hJ
        replace hs : St 80 w0 [(55, true, W r4), (56, true, W r5), (57, true, W r26), (58, true, W r27), (7, true, .pointer (some ⟨g28, 0, none⟩)), (2, true, .pointer (some ⟨g1, 0, none⟩)), (3, true, .pointer (some ⟨g2, 0, none⟩)), (4, true, .pointer (some ⟨g3, 0, none⟩)), (5, true, .pointer (some ⟨g6, 0, none⟩)), (6, true, .pointer (some ⟨g7, 0, none⟩))] [(true, g1, 26, (PVl (px P) (py P) (pz P))), (true, g2, 26, (PVl (px Q) (py Q) (pz Q))), (true, g3, 26, (PVl 0 0 false)), (true, g6, 24, (Wl r4)), (true, g7, 24, (Wl r5)), (true, g28, 24, (Wl r27))] ac w := hs
        refine then_n ?_
        refine wp_seq ?_
        replace hs : St 80 w0 [(2, true, .pointer (some ⟨g1, 0, none⟩)), (3, true, .pointer (some ⟨g2, 0, none⟩)), (4, true, .pointer (some ⟨g3, 0, none⟩)), (7, true, .pointer (some ⟨g28, 0, none⟩))] [(true, g1, 26, (PVl (px P) (py P) (pz P))), (true, g2, 26, (PVl (px Q) (py Q) (pz Q))), (true, g3, 26, (PVl 0 0 false)), (true, g6, 24, (Wl r4)), (true, g7, 24, (Wl r5)), (true, g28, 24, (Wl r27))] ac _ := hs.re ⟨rfl, rfl, rfl, rfl, trivial⟩
        obtain ⟨r29, hr29, lr29⟩ : ∃ z0, r27 * r27 % Pf = z0 ∧ z0 < 2 ^ 256 := ⟨_, rfl, modP_lt _⟩
        obtain ⟨r30, hr30, lr30⟩ : ∃ z0, fsub r29 (px P) = z0 ∧ z0 < 2 ^ 256 := ⟨_, rfl, fsub_lt _ _⟩
        obtain ⟨r31, hr31, lr31⟩ : ∃ z0, fsub r30 (px Q) = z0 ∧ z0 < 2 ^ 256 := ⟨_, rfl, fsub_lt _ _⟩
        refine region_inv [([], [2, 5, 8, 10]), ([], [2, 5, 8, 10]), ([0, 1], [5, 8, 10]), ([], [4, 5, 8, 10]), ([3], [5, 8, 10]), ([0, 1, 2, 3, 4], [8, 10]), ([], [7, 8, 10]), ([6], [8, 10]), ([0, 1, 2, 3, 4, 5, 6, 7], [10]), ([], [10]), ([0, 1, 2, 3, 4, 5, 6, 7, 8, 9], [])] (fun L ac w => ∃ (g32 : Nat), St 80 w0 [(59, L 0, W r27), (60, L 1, W r27), (61, L 2, W r29), (62, L 3, .pointer (some ⟨g1, 0, none⟩)), (63, L 4, W (px P)), (64, L 5, W r30), (65, L 6, .pointer (some ⟨g2, 0, none⟩)), (66, L 7, W (px Q)), (67, L 8, W r31), (8, L 9, .pointer (some ⟨g32, 0, none⟩)), (2, true, .pointer (some ⟨g1, 0, none⟩)), (3, true, .pointer (some ⟨g2, 0, none⟩)), (4, true, .pointer (some ⟨g3, 0, none⟩)), (7, true, .pointer (some ⟨g28, 0, none⟩))] [(true, g1, 26, (PVl (px P) (py P) (pz P))), (true, g2, 26, (PVl (px Q) (py Q) (pz Q))), (true, g3, 26, (PVl 0 0 false)), (true, g6, 24, (Wl r4)), (true, g7, 24, (Wl r5)), (true, g28, 24, (Wl r27)), (L 9, g32, 24, (cond (L 10) (Wl r31) [.int .u64 0, .int .u64 0, .int .u64 0, .int .u64 0]))] ac w) (by kernel_rfl) (by kernel_rfl) ?_ ?_ ?_
        · exact ⟨0, hs.drew.skip.skip.skip.skip.skip.skip.skip.skip.skip.skip.pad⟩
        · refine ⟨?_, ?_, ?_, ?_, ?_, ?_, ?_, ?_, ?_, ?_, ?_, trivial⟩
          · intro L ac w hJ
            obtain ⟨g32, hs⟩ := hJ
            refine wpO_plain rfl (op_load hs (some 0) 5 (v := W r27) rfl rfl rfl rfl Try.isAgg24 Try.sizeOf24 rfl rfl fun ac hs => ?_)
            exact ⟨g32, hs⟩
          · intro L ac w hJ
            obtain ⟨g32, hs⟩ := hJ
            refine wpO_plain rfl (op_load hs (some 1) 5 (v := W r27) rfl rfl rfl rfl Try.isAgg24 Try.sizeOf24 rfl rfl fun ac hs => ?_)
            exact ⟨g32, hs⟩
          · intro L ac w hJ
            obtain ⟨g32, hs⟩ := hJ
            refine wpO_plain rfl (op_call (F := 43) hs (some 2) (v := W r29) rfl rfl rfl rfl (Try.call43 _) (rfmul_c r27 r27 r29 lr27 lr27 hr29) rfl fun ac w hs => ?_)
            exact ⟨g32, hs⟩
          · intro L ac w hJ
            obtain ⟨g32, hs⟩ := hJ
            refine wpO_plain rfl (op_fieldA hs (some 3) rfl rfl rfl Try.underlying26 rfl Try.sizeOf24 (by decide) rfl fun ac hs => ?_)
            exact ⟨g32, hs⟩
          · intro L ac w hJ
            obtain ⟨g32, hs⟩ := hJ
            refine wpO_plain rfl (op_load hs (some 4) 0 (v := W (px P)) rfl rfl rfl rfl Try.isAgg24 Try.sizeOf24 rfl rfl fun ac hs => ?_)
            exact ⟨g32, hs⟩
          · intro L ac w hJ
            obtain ⟨g32, hs⟩ := hJ
            refine wpO_plain rfl (op_call (F := 70) hs (some 5) (v := W r30) rfl rfl rfl rfl (Try.call70 _) (rfsub_c r29 (px P) r30 lr29 (px_lt P) hr30) rfl fun ac w hs => ?_)
            exact ⟨g32, hs⟩
          · intro L ac w hJ
            obtain ⟨g32, hs⟩ := hJ
            refine wpO_plain rfl (op_fieldA hs (some 6) rfl rfl rfl Try.underlying26 rfl Try.sizeOf24 (by decide) rfl fun ac hs => ?_)
            exact ⟨g32, hs⟩
          · intro L ac w hJ
            obtain ⟨g32, hs⟩ := hJ
            refine wpO_plain rfl (op_load hs (some 7) 1 (v := W (px Q)) rfl rfl rfl rfl Try.isAgg24 Try.sizeOf24 rfl rfl fun ac hs => ?_)
            exact ⟨g32, hs⟩
          · intro L ac w hJ
            obtain ⟨g32, hs⟩ := hJ
            refine wpO_plain rfl (op_call (F := 70) hs (some 8) (v := W r31) rfl rfl rfl rfl (Try.call70 _) (rfsub_c r30 (px Q) r31 lr30 (px_lt Q) hr31) rfl fun ac w hs => ?_)
            exact ⟨g32, hs⟩
          · intro L ac w hJ
            obtain ⟨g32, hs⟩ := hJ
            refine wpO_plain rfl (op_alloc hs (some 9) (some 6) (cs := [.int .u64 0, .int .u64 0, .int .u64 0, .int .u64 0]) rfl rfl Try.zeroValue24 (by kernel_rfl) rfl rfl fun g32 ac w hs => ?_)
            exact ⟨g32, hs⟩
          · intro L ac w hJ
            obtain ⟨g32, hs⟩ := hJ
            refine wpO_plain rfl (op_store hs 6 (vs := (Wl r31)) rfl rfl rfl rfl rfl Try.sizeOf24 rfl rfl rfl rfl rfl fun w hs => ?_)
            exact ⟨g32, hs⟩
        intro ac w hJ
        obtain ⟨g32, hs⟩ := hJ
        replace hs : St 80 w0 [(59, true, W r27), (60, true, W r27), (61, true, W r29), (62, true, .pointer (some ⟨g1, 0, none⟩)), (63, true, W (px P)), (64, true, W r30), (65, true, .pointer (some ⟨g2, 0, none⟩)), (66, true, W (px Q)), (67, true, W r31), (8, true, .pointer (some ⟨g32, 0, none⟩)), (2, true, .pointer (some ⟨g1, 0, none⟩)), (3, true, .pointer (some ⟨g2, 0, none⟩)), (4, true, .pointer (some ⟨g3, 0, none⟩)), (7, true, .pointer (some ⟨g28, 0, none⟩))] [(true, g1, 26, (PVl (px P) (py P) (pz P))), (true, g2, 26, (PVl (px Q) (py Q) (pz Q))), (true, g3, 26, (PVl 0 0 false)), (true, g6, 24, (Wl r4)), (true, g7, 24, (Wl r5)), (true, g28, 24, (Wl r27)), (true, g32, 24, (Wl r31))] ac w := hs
        refine then_n ?_
        refine wp_seq ?_
        replace hs : St 80 w0 [(2, true, .pointer (some ⟨g1, 0, none⟩)), (4, true, .pointer (some ⟨g3, 0, none⟩)), (7, true, .pointer (some ⟨g28, 0, none⟩)), (8, true, .pointer (some ⟨g32, 0, none⟩))] [(true, g1, 26, (PVl (px P) (py P) (pz P))), (true, g2, 26, (PVl (px Q) (py Q) (pz Q))), (true, g3, 26, (PVl 0 0 false)), (true, g6, 24, (Wl r4)), (true, g7, 24, (Wl r5)), (true, g28, 24, (Wl r27)), (true, g32, 24, (Wl r31))] ac _ := hs.re ⟨rfl, rfl, rfl, rfl, trivial⟩
        obtain ⟨r33, hr33, lr33⟩ : ∃ z0, fsub (px P) r31 = z0 ∧ z0 < 2 ^ 256 := ⟨_, rfl, fsub_lt _ _⟩
        obtain ⟨r34, hr34, lr34⟩ : ∃ z0, r27 * r33 % Pf = z0 ∧ z0 < 2 ^ 256 := ⟨_, rfl, modP_lt _⟩
        obtain ⟨r35, hr35, lr35⟩ : ∃ z0, fsub r34 (py P) = z0 ∧ z0 < 2 ^ 256 := ⟨_, rfl, fsub_lt _ _⟩
        refine region_inv [([], [5, 8, 10]), ([], [2, 4, 5, 8, 10]), ([1], [4, 5, 8, 10]), ([], [4, 5, 8, 10]), ([1, 2, 3], [5, 8, 10]), ([0, 1, 2, 3, 4], [8, 10]), ([], [7, 8, 10]), ([6], [8, 10]), ([0, 1, 2, 3, 4, 5, 6, 7], [10]), ([], [10]), ([0, 1, 2, 3, 4, 5, 6, 7, 8, 9], [])] (fun L ac w => ∃ (g36 : Nat), St 80 w0 [(68, L 0, W r27), (69, L 1, .pointer (some ⟨g1, 0, none⟩)), (70, L 2, W (px P)), (71, L 3, W r31), (72, L 4, W r33), (73, L 5, W r34), (74, L 6, .pointer (some ⟨g1, 4, none⟩)), (75, L 7, W (py P)), (76, L 8, W r35), (9, L 9, .pointer (some ⟨g36, 0, none⟩)), (2, true, .pointer (some ⟨g1, 0, none⟩)), (4, true, .pointer (some ⟨g3, 0, none⟩)), (7, true, .pointer (some ⟨g28, 0, none⟩)), (8, true, .pointer (some ⟨g32, 0, none⟩))] [(true, g1, 26, (PVl (px P) (py P) (pz P))), (true, g2, 26, (PVl (px Q) (py Q) (pz Q))), (true, g3, 26, (PVl 0 0 false)), (true, g6, 24, (Wl r4)), (true, g7, 24, (Wl r5)), (true, g28, 24, (Wl r27)), (true, g32, 24, (Wl r31)), (L 9, g36, 24, (cond (L 10) (Wl r35) [.int .u64 0, .int .u64 0, .int .u64 0, .int .u64 0]))] ac w) (by kernel_rfl) (by kernel_rfl) ?_ ?_ ?_
        · exact ⟨0, hs.drew.skip.skip.skip.skip.skip.skip.skip.skip.skip.skip.pad⟩
        · refine ⟨?_, ?_, ?_, ?_, ?_, ?_, ?_, ?_, ?_, ?_, ?_, trivial⟩
          · intro L ac w hJ
            obtain ⟨g36, hs⟩ := hJ
            refine wpO_plain rfl (op_load hs (some 0) 5 (v := W r27) rfl rfl rfl rfl Try.isAgg24 Try.sizeOf24 rfl rfl fun ac hs => ?_)
            exact ⟨g36, hs⟩
          · intro L ac w hJ
            obtain ⟨g36, hs⟩ := hJ
            refine wpO_plain rfl (op_fieldA hs (some 1) rfl rfl rfl Try.underlying26 rfl Try.sizeOf24 (by decide) rfl fun ac hs => ?_)
            exact ⟨g36, hs⟩
          · intro L ac w hJ
            obtain ⟨g36, hs⟩ := hJ
            refine wpO_plain rfl (op_load hs (some 2) 0 (v := W (px P)) rfl rfl rfl rfl Try.isAgg24 Try.sizeOf24 rfl rfl fun ac hs => ?_)
            exact ⟨g36, hs⟩
          · intro L ac w hJ
            obtain ⟨g36, hs⟩ := hJ
            refine wpO_plain rfl (op_load hs (some 3) 6 (v := W r31) rfl rfl rfl rfl Try.isAgg24 Try.sizeOf24 rfl rfl fun ac hs => ?_)
            exact ⟨g36, hs⟩
          · intro L ac w hJ
            obtain ⟨g36, hs⟩ := hJ
            refine wpO_plain rfl (op_call (F := 70) hs (some 4) (v := W r33) rfl rfl rfl rfl (Try.call70 _) (rfsub_c (px P) r31 r33 (px_lt P) lr31 hr33) rfl fun ac w hs => ?_)
            exact ⟨g36, hs⟩
          · intro L ac w hJ
            obtain ⟨g36, hs⟩ := hJ
            refine wpO_plain rfl (op_call (F := 43) hs (some 5) (v := W r34) rfl rfl rfl rfl (Try.call43 _) (rfmul_c r27 r33 r34 lr27 lr33 hr34) rfl fun ac w hs => ?_)
            exact ⟨g36, hs⟩
          · intro L ac w hJ
            obtain ⟨g36, hs⟩ := hJ
            refine wpO_plain rfl (op_fieldA hs (some 6) rfl rfl rfl Try.underlying26 rfl Try.sizeOf24 (by decide) rfl fun ac hs => ?_)
            exact ⟨g36, hs⟩
          · intro L ac w hJ
            obtain ⟨g36, hs⟩ := hJ
            refine wpO_plain rfl (op_load hs (some 7) 0 (v := W (py P)) rfl rfl rfl rfl Try.isAgg24 Try.sizeOf24 rfl rfl fun ac hs => ?_)
            exact ⟨g36, hs⟩
          · intro L ac w hJ
            obtain ⟨g36, hs⟩ := hJ
            refine wpO_plain rfl (op_call (F := 70) hs (some 8) (v := W r35) rfl rfl rfl rfl (Try.call70 _) (rfsub_c r34 (py P) r35 lr34 (py_lt P) hr35) rfl fun ac w hs => ?_)
            exact ⟨g36, hs⟩
          · intro L ac w hJ
            obtain ⟨g36, hs⟩ := hJ
            refine wpO_plain rfl (op_alloc hs (some 9) (some 7) (cs := [.int .u64 0, .int .u64 0, .int .u64 0, .int .u64 0]) rfl rfl Try.zeroValue24 (by kernel_rfl) rfl rfl fun g36 ac w hs => ?_)
            exact ⟨g36, hs⟩
          · intro L ac w hJ
            obtain ⟨g36, hs⟩ := hJ
            refine wpO_plain rfl (op_store hs 7 (vs := (Wl r35)) rfl rfl rfl rfl rfl Try.sizeOf24 rfl rfl rfl rfl rfl fun w hs => ?_)
            exact ⟨g36, hs⟩
        intro ac w hJ
        obtain ⟨g36, hs⟩ := hJ
        replace hs : St 80 w0 [(68, true, W r27), (69, true, .pointer (some ⟨g1, 0, none⟩)), (70, true, W (px P)), (71, true, W r31), (72, true, W r33), (73, true, W r34), (74, true, .pointer (some ⟨g1, 4, none⟩)), (75, true, W (py P)), (76, true, W r35), (9, true, .pointer (some ⟨g36, 0, none⟩)), (2, true, .pointer (some ⟨g1, 0, none⟩)), (4, true, .pointer (some ⟨g3, 0, none⟩)), (7, true, .pointer (some ⟨g28, 0, none⟩)), (8, true, .pointer (some ⟨g32, 0, none⟩))] [(true, g1, 26, (PVl (px P) (py P) (pz P))), (true, g2, 26, (PVl (px Q) (py Q) (pz Q))), (true, g3, 26, (PVl 0 0 false)), (true, g6, 24, (Wl r4)), (true, g7, 24, (Wl r5)), (true, g28, 24, (Wl r27)), (true, g32, 24, (Wl r31)), (true, g36, 24, (Wl r35))] ac w := hs
        refine then_n ?_
        refine wp_seq ?_
        refine wp_region_lit ?_
        refine lstep (wpO_plain rfl (op_load hs none 6 (v := W r31) rfl rfl rfl rfl Try.isAgg24 Try.sizeOf24 rfl rfl fun ac hs => ?_))
        refine lstep (wpO_plain rfl (op_load hs none 7 (v := W r35) rfl rfl rfl rfl Try.isAgg24 Try.sizeOf24 rfl rfl fun ac hs => ?_))
        refine lstep (wpO_plain rfl (op_build hs none (qs := [(0, W r31), (1, W r35)]) (v := PV r31 r35 false) rfl rfl rfl rfl (fun _ => by kernel_rfl) rfl fun ac hs => ?_))
        refine lstep (wpO_plain rfl (op_store hs 2 (vs := (PVl r31 r35 false)) rfl rfl rfl rfl rfl Try.sizeOf26 rfl rfl rfl rfl rfl fun w hs => ?_))
        refine wpList_nil ?_
        refine then_n ?_
        refine wp_ret ?_
        exact bodyPost_ret (res1 rfl (rv_c hs 2 (v := PV r31 r35 false) rfl rfl Try.isAgg26 Try.sizeOf26 rfl)) hs.defers ⟨by obtain ⟨e1, e2, e3⟩ := rsum_A hzP hzQ (fun hh => hp25 hh.1) (slope_S hp25 hr4 hr5 hr26 hr27) hr29 hr30 hr31 hr33 hr34 hr35; rw [← hT, e1, e2, e3], hs.below⟩
theorem radd14_c (x1 y1 : Nat) (z1 : Bool) (x2 y2 : Nat) (z2 : Bool) (P Q T : EM.Pt Pf) (a1 : x1 < 2 ^ 256) (a2 : y1 < 2 ^ 256) (b1 : x2 < 2 ^ 256) (b2 : y2 < 2 ^ 256) (hP : ptOf x1 y1 z1 = P) (hQ : ptOf x2 y2 z2 = Q) (hT : P.add Q = T) (w0 : World) : Calls Try.prog 12 #[PV x1 y1 z1, PV x2 y2 z2] w0 fun e w' => e = .returned (PV (px T) (py T) (pz T)) ∧ Below w0.heap.size w0 w' := by
  have oP : P.on := by rw [← hP]; exact pt_on x1 y1 z1
  have oQ : Q.on := by rw [← hQ]; exact pt_on x2 y2 z2
  refine enter (n := 10) (args := [PV x1 y1 z1, PV x2 y2 z2]) Try.func12 rfl rfl (Nat.le_of_ble_eq_true rfl) fun ac hs => ?_
  refine wp_seq ?_
  refine wp_region_lit ?_
  refine lstep (wpO_plain rfl (op_box hs none none (cs := (PVl x1 y1 z1)) rfl rfl rfl rfl rfl rfl fun g1 ac w hs => ?_))
  refine lstep (wpO_plain rfl (op_box hs none none (cs := (PVl x2 y2 z2)) rfl rfl rfl rfl rfl rfl fun g2 ac w hs => ?_))
  refine lstep (wpO_plain rfl (op_alloc hs none none (cs := (PVl 0 0 false)) rfl rfl Try.zeroValue26 (by kernel_rfl) rfl rfl fun g3 ac w hs => ?_))
  refine wpList_nil ?_
  refine then_n ?_
  refine wp_seq ?_
  replace hs : St 10 w0 [(2, true, .pointer (some ⟨g1, 0, none⟩)), (3, true, .pointer (some ⟨g2, 0, none⟩)), (4, true, .pointer (some ⟨g3, 0, none⟩))] [(true, g1, 26, (PVl x1 y1 z1)), (true, g2, 26, (PVl x2 y2 z2)), (true, g3, 26, (PVl 0 0 false))] ac _ := hs.re ⟨rfl, rfl, rfl, trivial⟩
  obtain ⟨T4, hT4, oT4⟩ := mkAdd oP oQ
  refine region_inv [([], [1, 3, 4, 5]), ([0], [3, 4, 5]), ([], [3, 4, 5]), ([0, 1, 2], [4, 5]), ([0, 1, 2, 3], [5]), ([0, 1, 2, 3, 4], [])] (fun L ac w => St 10 w0 [(5, L 0, PV x1 y1 z1), (6, L 1, PV (px P) (py P) (pz P)), (7, L 2, PV x2 y2 z2), (8, L 3, PV (px Q) (py Q) (pz Q)), (9, L 4, PV (px T4) (py T4) (pz T4)), (2, true, .pointer (some ⟨g1, 0, none⟩)), (3, true, .pointer (some ⟨g2, 0, none⟩)), (4, true, .pointer (some ⟨g3, 0, none⟩))] [(true, g1, 26, (PVl x1 y1 z1)), (true, g2, 26, (PVl x2 y2 z2)), (true, g3, 26, (cond (L 5) (PVl (px T4) (py T4) (pz T4)) (PVl 0 0 false)))] ac w) (by kernel_rfl) (by kernel_rfl) ?_ ?_ ?_
  · exact hs.drew.skip.skip.skip.skip.skip
  · refine ⟨?_, ?_, ?_, ?_, ?_, ?_, trivial⟩
    · intro L ac w hJ
      have hs := hJ
      refine wpO_plain rfl (op_load hs (some 0) 0 (v := PV x1 y1 z1) rfl rfl rfl rfl Try.isAgg26 Try.sizeOf26 rfl rfl fun ac hs => ?_)
      exact hs
    · intro L ac w hJ
      have hs := hJ
      refine wpO_plain rfl (op_call (F := 36) hs (some 1) (v := PV (px P) (py P) (pz P)) rfl rfl rfl rfl (Try.call36 _) (own_c x1 y1 z1 P a1 a2 hP) rfl fun ac w hs => ?_)
      exact hs
    · intro L ac w hJ
      have hs := hJ
      refine wpO_plain rfl (op_load hs (some 2) 1 (v := PV x2 y2 z2) rfl rfl rfl rfl Try.isAgg26 Try.sizeOf26 rfl rfl fun ac hs => ?_)
      exact hs
    · intro L ac w hJ
      have hs := hJ
      refine wpO_plain rfl (op_call (F := 36) hs (some 3) (v := PV (px Q) (py Q) (pz Q)) rfl rfl rfl rfl (Try.call36 _) (own_c x2 y2 z2 Q b1 b2 hQ) rfl fun ac w hs => ?_)
      exact hs
    · intro L ac w hJ
      have hs := hJ
      refine wpO_plain rfl (op_call (F := 35) hs (some 4) (v := PV (px T4) (py T4) (pz T4)) rfl rfl rfl rfl (Try.call35 _) (rsum_c P Q T4 oP oQ hT4) rfl fun ac w hs => ?_)
      exact hs
    · intro L ac w hJ
      have hs := hJ
      refine wpO_plain rfl (op_store hs 2 (vs := (PVl (px T4) (py T4) (pz T4))) rfl rfl rfl rfl rfl Try.sizeOf26 rfl rfl rfl rfl rfl fun w hs => ?_)
      exact hs
  intro ac w hJ
  replace hs : St 10 w0 [(5, true, PV x1 y1 z1), (6, true, PV (px P) (py P) (pz P)), (7, true, PV x2 y2 z2), (8, true, PV (px Q) (py Q) (pz Q)), (9, true, PV (px T4) (py T4) (pz T4)), (2, true, .pointer (some ⟨g1, 0, none⟩)), (3, true, .pointer (some ⟨g2, 0, none⟩)), (4, true, .pointer (some ⟨g3, 0, none⟩))] [(true, g1, 26, (PVl x1 y1 z1)), (true, g2, 26, (PVl x2 y2 z2)), (true, g3, 26, (PVl (px T4) (py T4) (pz T4)))] ac w := hJ
  refine then_n ?_
  refine wp_ret ?_
  exact bodyPost_ret (res1 rfl (rv_c hs 2 (v := PV (px T4) (py T4) (pz T4)) rfl rfl Try.isAgg26 Try.sizeOf26 rfl)) hs.defers ⟨by rw [← hT, ← hT4], hs.below⟩
theorem rtwice14_c (x y z X Y Z : Nat) (hx : x < 2 ^ 256) (hy : y < 2 ^ 256) (hz : z < 2 ^ 256) (hE : tF x y z = (X, Y, Z)) (w0 : World) : Calls Try.prog 39 #[TV x y z] w0 fun e w' => e = .returned (TV X Y Z) ∧ Below w0.heap.size w0 w' := by
  refine enter (n := 70) (args := [TV x y z]) Try.func39 rfl rfl (Nat.le_of_ble_eq_true rfl) fun ac hs => ?_
  refine wp_seq ?_
  refine wp_region_lit ?_
  refine lstep (wpO_plain rfl (op_box hs none none (cs := (TVl x y z)) rfl rfl rfl rfl rfl rfl fun g1 ac w hs => ?_))
  refine lstep (wpO_plain rfl (op_alloc hs none none (cs := (TVl 0 0 0)) rfl rfl Try.zeroValue51 (by kernel_rfl) rfl rfl fun g2 ac w hs => ?_))
  refine wpList_nil ?_
  refine then_n ?_
  refine wp_seq ?_
  refine wp_region_lit ?_
  refine lstep (wpO_plain rfl (op_build hs none (qs := [(0, .int .u64 3)]) (v := .agg #[.int .u64 3, .int .u64 0, .int .u64 0, .int .u64 0]) rfl rfl rfl rfl (fun _ => by kernel_rfl) rfl fun ac hs => ?_))
  refine lstep (wpO_plain rfl (op_fieldA hs none rfl rfl rfl Try.underlying51 rfl Try.sizeOf24 (by decide) rfl fun ac hs => ?_))
  refine lstep (wpO_plain rfl (op_load hs none 0 (v := W x) rfl rfl rfl rfl Try.isAgg24 Try.sizeOf24 rfl rfl fun ac hs => ?_))
  refine lstep (wpO_plain rfl (op_fieldA hs none rfl rfl rfl Try.underlying51 rfl Try.sizeOf24 (by decide) rfl fun ac hs => ?_))
  refine lstep (wpO_plain rfl (op_load hs none 0 (v := W x) rfl rfl rfl rfl Try.isAgg24 Try.sizeOf24 rfl rfl fun ac hs => ?_))
  obtain ⟨r3, hr3, lr3⟩ : ∃ z0, x * x % Pf = z0 ∧ z0 < 2 ^ 256 := ⟨_, rfl, modP_lt _⟩
  refine lstep (wpO_plain rfl (op_call (F := 43) hs none (v := W r3) rfl rfl rfl rfl (Try.call43 _) (rfmul_c x x r3 hx hx hr3) rfl fun ac w hs => ?_))
  obtain ⟨r4, hr4, lr4⟩ : ∃ z0, 3 * r3 % Pf = z0 ∧ z0 < 2 ^ 256 := ⟨_, rfl, modP_lt _⟩
  refine lstep (wpO_plain rfl (op_call (F := 43) hs none (v := W r4) rfl rfl rfl rfl (Try.call43 _) (rfmul_c 3 r3 r4 (by decide) lr3 hr4) rfl fun ac w hs => ?_))
  refine lstep (wpO_plain rfl (op_alloc hs none none (cs := [.int .u64 0, .int .u64 0, .int .u64 0, .int .u64 0]) rfl rfl Try.zeroValue24 (by kernel_rfl) rfl rfl fun g5 ac w hs => ?_))
  refine lstep (wpO_plain rfl (op_store hs 2 (vs := (Wl r4)) rfl rfl rfl rfl rfl Try.sizeOf24 rfl rfl rfl rfl rfl fun w hs => ?_))
  refine wpList_nil ?_
  refine then_n ?_
  refine wp_seq ?_
  replace hs : St 70 w0 [(1, true, .pointer (some ⟨g1, 0, none⟩)), (2, true, .pointer (some ⟨g2, 0, none⟩)), (3, true, .pointer (some ⟨g5, 0, none⟩))] [(true, g1, 51, (TVl x y z)), (true, g2, 51, (TVl 0 0 0)), (true, g5, 24, (Wl r4))] ac _ := hs.re ⟨rfl, rfl, rfl, trivial⟩
  refine wp_region_lit ?_
  refine lstep (wpO_plain rfl (op_fieldA hs none rfl rfl rfl Try.underlying51 rfl Try.sizeOf24 (by decide) rfl fun ac hs => ?_))
  refine lstep (wpO_plain rfl (op_load hs none 0 (v := W y) rfl rfl rfl rfl Try.isAgg24 Try.sizeOf24 rfl rfl fun ac hs => ?_))
  refine lstep (wpO_plain rfl (op_fieldA hs none rfl rfl rfl Try.underlying51 rfl Try.sizeOf24 (by decide) rfl fun ac hs => ?_))
  refine lstep (wpO_plain rfl (op_load hs none 0 (v := W z) rfl rfl rfl rfl Try.isAgg24 Try.sizeOf24 rfl rfl fun ac hs => ?_))
  obtain ⟨r6, hr6, lr6⟩ : ∃ z0, y * z % Pf = z0 ∧ z0 < 2 ^ 256 := ⟨_, rfl, modP_lt _⟩
  refine lstep (wpO_plain rfl (op_call (F := 43) hs none (v := W r6) rfl rfl rfl rfl (Try.call43 _) (rfmul_c y z r6 hy hz hr6) rfl fun ac w hs => ?_))
  refine lstep (wpO_plain rfl (op_alloc hs none none (cs := [.int .u64 0, .int .u64 0, .int .u64 0, .int .u64 0]) rfl rfl Try.zeroValue24 (by kernel_rfl) rfl rfl fun g7 ac w hs => ?_))
  refine lstep (wpO_plain rfl (op_store hs 3 (vs := (Wl r6)) rfl rfl rfl rfl rfl Try.sizeOf24 rfl rfl rfl rfl rfl fun w hs => ?_))
  refine wpList_nil ?_
  refine then_n ?_
  refine wp_seq ?_
  replace hs : St 70 w0 [(1, true, .pointer (some ⟨g1, 0, none⟩)), (2, true, .pointer (some ⟨g2, 0, none⟩)), (3, true, .pointer (some ⟨g5, 0, none⟩)), (4, true, .pointer (some ⟨g7, 0, none⟩))] [(true, g1, 51, (TVl x y z)), (true, g2, 51, (TVl 0 0 0)), (true, g5, 24, (Wl r4)), (true, g7, 24, (Wl r6))] ac _ := hs.re ⟨rfl, rfl, rfl, rfl, trivial⟩
  obtain ⟨r8, hr8, lr8⟩ : ∃ z0, x * y % Pf = z0 ∧ z0 < 2 ^ 256 := ⟨_, rfl, modP_lt _⟩
  obtain ⟨r9, hr9, lr9⟩ : ∃ z0, r8 * r6 % Pf = z0 ∧ z0 < 2 ^ 256 := ⟨_, rfl, modP_lt _⟩
  refine region_inv [([], [1, 4, 6, 8]), ([0], [4, 6, 8]), ([], [3, 4, 6, 8]), ([2], [4, 6, 8]), ([0, 1, 2, 3], [6, 8]), ([], [6, 8]), ([0, 1, 2, 3, 4, 5], [8]), ([], [8]), ([0, 1, 2, 3, 4, 5, 6, 7], [])] (fun L ac w => ∃ (g10 : Nat), St 70 w0 [(23, L 0, .pointer (some ⟨g1, 0, none⟩)), (24, L 1, W x), (25, L 2, .pointer (some ⟨g1, 4, none⟩)), (26, L 3, W y), (27, L 4, W r8), (28, L 5, W r6), (29, L 6, W r9), (5, L 7, .pointer (some ⟨g10, 0, none⟩)), (1, true, .pointer (some ⟨g1, 0, none⟩)), (2, true, .pointer (some ⟨g2, 0, none⟩)), (3, true, .pointer (some ⟨g5, 0, none⟩)), (4, true, .pointer (some ⟨g7, 0, none⟩))] [(true, g1, 51, (TVl x y z)), (true, g2, 51, (TVl 0 0 0)), (true, g5, 24, (Wl r4)), (true, g7, 24, (Wl r6)), (L 7, g10, 24, (cond (L 8) (Wl r9) [.int .u64 0, .int .u64 0, .int .u64 0, .int .u64 0]))] ac w) (by kernel_rfl) (by kernel_rfl) ?_ ?_ ?_
  · exact ⟨0, hs.drew.skip.skip.skip.skip.skip.skip.skip.skip.pad⟩
  · refine ⟨?_, ?_, ?_, ?_, ?_, ?_, ?_, ?_, ?_, trivial⟩
    · intro L ac w hJ
      obtain ⟨g10, hs⟩ := hJ
      refine wpO_plain rfl (op_fieldA hs (some 0) rfl rfl rfl Try.underlying51 rfl Try.sizeOf24 (by decide) rfl fun ac hs => ?_)
      exact ⟨g10, hs⟩
    · intro L ac w hJ
      obtain ⟨g10, hs⟩ := hJ
      refine wpO_plain rfl (op_load hs (some 1) 0 (v := W x) rfl rfl rfl rfl Try.isAgg24 Try.sizeOf24 rfl rfl fun ac hs => ?_)
      exact ⟨g10, hs⟩
    · intro L ac w hJ
      obtain ⟨g10, hs⟩ := hJ
      refine wpO_plain rfl (op_fieldA hs (some 2) rfl rfl rfl Try.underlying51 rfl Try.sizeOf24 (by decide) rfl fun ac hs => ?_)
      exact ⟨g10, hs⟩
    · intro L ac w hJ
      obtain ⟨g10, hs⟩ := hJ
      refine wpO_plain rfl (op_load hs (some 3) 0 (v := W y) rfl rfl rfl rfl Try.isAgg24 Try.sizeOf24 rfl rfl fun ac hs => ?_)
      exact ⟨g10, hs⟩
    · intro L ac w hJ
      obtain ⟨g10, hs⟩ := hJ
      refine wpO_plain rfl (op_call (F := 43) hs (some 4) (v := W r8) rfl rfl rfl rfl (Try.call43 _) (rfmul_c x y r8 hx hy hr8) rfl fun ac w hs => ?_)
      exact ⟨g10, hs⟩
    · intro L ac w hJ
      obtain ⟨g10, hs⟩ := hJ
      refine wpO_plain rfl (op_load hs (some 5) 3 (v := W r6) rfl rfl rfl rfl Try.isAgg24 Try.sizeOf24 rfl rfl fun ac hs => ?_)
      exact ⟨g10, hs⟩
    · intro L ac w hJ
      obtain ⟨g10, hs⟩ := hJ
      refine wpO_plain rfl (op_call (F := 43) hs (some 6) (v := W r9) rfl rfl rfl rfl (Try.call43 _) (rfmul_c r8 r6 r9 lr8 lr6 hr9) rfl fun ac w hs => ?_)
      exact ⟨g10, hs⟩
    · intro L ac w hJ
      obtain ⟨g10, hs⟩ := hJ
      refine wpO_plain rfl (op_alloc hs (some 7) (some 4) (cs := [.int .u64 0, .int .u64 0, .int .u64 0, .int .u64 0]) rfl rfl Try.zeroValue24 (by kernel_rfl) rfl rfl fun g10 ac w hs => ?_)
      exact ⟨g10, hs⟩
    · intro L ac w hJ
      obtain ⟨g10, hs⟩ := hJ
      refine wpO_plain rfl (op_store hs 4 (vs := (Wl r9)) rfl rfl rfl rfl rfl Try.sizeOf24 rfl rfl rfl rfl rfl fun w hs => ?_)
      exact ⟨g10, hs⟩
  intro ac w hJ
  obtain ⟨g10, hs⟩ := hJ
  replace hs : St 70 w0 [(23, true, .pointer (some ⟨g1, 0, none⟩)), (24, true, W x), (25, true, .pointer (some ⟨g1, 4, none⟩)), (26, true, W y), (27, true, W r8), (28, true, W r6), (29, true, W r9), (5, true, .pointer (some ⟨g10, 0, none⟩)), (1, true, .pointer (some ⟨g1, 0, none⟩)), (2, true, .pointer (some ⟨g2, 0, none⟩)), (3, true, .pointer (some ⟨g5, 0, none⟩)), (4, true, .pointer (some ⟨g7, 0, none⟩))] [(true, g1, 51, (TVl x y z)), (true, g2, 51, (TVl 0 0 0)), (true, g5, 24, (Wl r4)), (true, g7, 24, (Wl r6)), (true, g10, 24, (Wl r9))] ac w := hs
  refine then_n ?_
  refine wp_seq ?_
  replace hs : St 70 w0 [(1, true, .pointer (some ⟨g1, 0, none⟩)), (2, true, .pointer (some ⟨g2, 0, none⟩)), (3, true, .pointer (some ⟨g5, 0, none⟩)), (4, true, .pointer (some ⟨g7, 0, none⟩)), (5, true, .pointer (some ⟨g10, 0, none⟩))] [(true, g1, 51, (TVl x y z)), (true, g2, 51, (TVl 0 0 0)), (true, g5, 24, (Wl r4)), (true, g7, 24, (Wl r6)), (true, g10, 24, (Wl r9))] ac _ := hs.re ⟨rfl, rfl, rfl, rfl, rfl, trivial⟩
  obtain ⟨r11, hr11, lr11⟩ : ∃ z0, r4 * r4 % Pf = z0 ∧ z0 < 2 ^ 256 := ⟨_, rfl, modP_lt _⟩
  obtain ⟨r12, hr12, lr12⟩ : ∃ z0, 8 * r9 % Pf = z0 ∧ z0 < 2 ^ 256 := ⟨_, rfl, modP_lt _⟩
  obtain ⟨r13, hr13, lr13⟩ : ∃ z0, fsub r11 r12 = z0 ∧ z0 < 2 ^ 256 := ⟨_, rfl, fsub_lt _ _⟩
  refine region_inv [([], [2, 5, 6, 8]), ([], [2, 5, 6, 8]), ([0, 1], [5, 6, 8]), ([], [5, 6, 8]), ([], [5, 6, 8]), ([0, 1, 2, 3, 4], [6, 8]), ([0, 1, 2, 3, 4, 5], [8]), ([], [8]), ([0, 1, 2, 3, 4, 5, 6, 7], [])] (fun L ac w => ∃ (g14 : Nat), St 70 w0 [(30, L 0, W r4), (31, L 1, W r4), (32, L 2, W r11), (33, L 3, .agg #[.int .u64 8, .int .u64 0, .int .u64 0, .int .u64 0]), (34, L 4, W r9), (35, L 5, W r12), (36, L 6, W r13), (6, L 7, .pointer (some ⟨g14, 0, none⟩)), (1, true, .pointer (some ⟨g1, 0, none⟩)), (2, true, .pointer (some ⟨g2, 0, none⟩)), (3, true, .pointer (some ⟨g5, 0, none⟩)), (4, true, .pointer (some ⟨g7, 0, none⟩)), (5, true, .pointer (some ⟨g10, 0, none⟩))] [(true, g1, 51, (TVl x y z)), (true, g2, 51, (TVl 0 0 0)), (true, g5, 24, (Wl r4)), (true, g7, 24, (Wl r6)), (true, g10, 24, (Wl r9)), (L 7, g14, 24, (cond (L 8) (Wl r13) [.int .u64 0, .int .u64 0, .int .u64 0, .int .u64 0]))] ac w) (by kernel_rfl) (by kernel_rfl) ?_ ?_ ?_
  · exact ⟨0, hs.drew.skip.skip.skip.skip.skip.skip.skip.skip.pad⟩
  · refine ⟨?_, ?_, ?_, ?_, ?_, ?_, ?_, ?_, ?_, trivial⟩
    · intro L ac w hJ
      obtain ⟨g14, hs⟩ := hJ
      refine wpO_plain rfl (op_load hs (some 0) 2 (v := W r4) rfl rfl rfl rfl Try.isAgg24 Try.sizeOf24 rfl rfl fun ac hs => ?_)
      exact ⟨g14, hs⟩
    · intro L ac w hJ
      obtain ⟨g14, hs⟩ := hJ
      refine wpO_plain rfl (op_load hs (some 1) 2 (v := W r4) rfl rfl rfl rfl Try.isAgg24 Try.sizeOf24 rfl rfl fun ac hs => ?_)
      exact ⟨g14, hs⟩
    · intro L ac w hJ
      obtain ⟨g14, hs⟩ := hJ
      refine wpO_plain rfl (op_call (F := 43) hs (some 2) (v := W r11) rfl rfl rfl rfl (Try.call43 _) (rfmul_c r4 r4 r11 lr4 lr4 hr11) rfl fun ac w hs => ?_)
      exact ⟨g14, hs⟩
    · intro L ac w hJ
      obtain ⟨g14, hs⟩ := hJ
      refine wpO_plain rfl (op_build hs (some 3) (qs := [(0, .int .u64 8)]) (v := .agg #[.int .u64 8, .int .u64 0, .int .u64 0, .int .u64 0]) rfl rfl rfl rfl (fun _ => by kernel_rfl) rfl fun ac hs => ?_)
      exact ⟨g14, hs⟩
    · intro L ac w hJ
      obtain ⟨g14, hs⟩ := hJ
      refine wpO_plain rfl (op_load hs (some 4) 4 (v := W r9) rfl rfl rfl rfl Try.isAgg24 Try.sizeOf24 rfl rfl fun ac hs => ?_)
      exact ⟨g14, hs⟩
    · intro L ac w hJ
      obtain ⟨g14, hs⟩ := hJ
      refine wpO_plain rfl (op_call (F := 43) hs (some 5) (v := W r12) rfl rfl rfl rfl (Try.call43 _) (rfmul_c 8 r9 r12 (by decide) lr9 hr12) rfl fun ac w hs => ?_)
      exact ⟨g14, hs⟩
    · intro L ac w hJ
      obtain ⟨g14, hs⟩ := hJ
      refine wpO_plain rfl (op_call (F := 70) hs (some 6) (v := W r13) rfl rfl rfl rfl (Try.call70 _) (rfsub_c r11 r12 r13 lr11 lr12 hr13) rfl fun ac w hs => ?_)
      exact ⟨g14, hs⟩
    · intro L ac w hJ
      obtain ⟨g14, hs⟩ := hJ
      refine wpO_plain rfl (op_alloc hs (some 7) (some 5) (cs := [.int .u64 0, .int .u64 0, .int .u64 0, .int .u64 0]) rfl rfl Try.zeroValue24 (by kernel_rfl) rfl rfl fun g14 ac w hs => ?_)
      exact ⟨g14, hs⟩
    · intro L ac w hJ
      obtain ⟨g14, hs⟩ := hJ
      refine wpO_plain rfl (op_store hs 5 (vs := (Wl r13)) rfl rfl rfl rfl rfl Try.sizeOf24 rfl rfl rfl rfl rfl fun w hs => ?_)
      exact ⟨g14, hs⟩
  intro ac w hJ
  obtain ⟨g14, hs⟩ := hJ
  replace hs : St 70 w0 [(30, true, W r4), (31, true, W r4), (32, true, W r11), (33, true, .agg #[.int .u64 8, .int .u64 0, .int .u64 0, .int .u64 0]), (34, true, W r9), (35, true, W r12), (36, true, W r13), (6, true, .pointer (some ⟨g14, 0, none⟩)), (1, true, .pointer (some ⟨g1, 0, none⟩)), (2, true, .pointer (some ⟨g2, 0, none⟩)), (3, true, .pointer (some ⟨g5, 0, none⟩)), (4, true, .pointer (some ⟨g7, 0, none⟩)), (5, true, .pointer (some ⟨g10, 0, none⟩))] [(true, g1, 51, (TVl x y z)), (true, g2, 51, (TVl 0 0 0)), (true, g5, 24, (Wl r4)), (true, g7, 24, (Wl r6)), (true, g10, 24, (Wl r9)), (true, g14, 24, (Wl r13))] ac w := hs
  refine then_n ?_
  refine wp_seq ?_
  refine wp_region_lit ?_
  refine lstep (wpO_plain rfl (op_fieldA hs none rfl rfl rfl Try.underlying51 rfl Try.sizeOf24 (by decide) rfl fun ac hs => ?_))
  refine lstep (wpO_plain rfl (op_load hs none 0 (v := W y) rfl rfl rfl rfl Try.isAgg24 Try.sizeOf24 rfl rfl fun ac hs => ?_))
  refine lstep (wpO_plain rfl (op_load hs none 3 (v := W r6) rfl rfl rfl rfl Try.isAgg24 Try.sizeOf24 rfl rfl fun ac hs => ?_))
  obtain ⟨r15, hr15, lr15⟩ : ∃ z0, y * r6 % Pf = z0 ∧ z0 < 2 ^ 256 := ⟨_, rfl, modP_lt _⟩
  refine lstep (wpO_plain rfl (op_call (F := 43) hs none (v := W r15) rfl rfl rfl rfl (Try.call43 _) (rfmul_c y r6 r15 hy lr6 hr15) rfl fun ac w hs => ?_))
  refine lstep (wpO_plain rfl (op_alloc hs none none (cs := [.int .u64 0, .int .u64 0, .int .u64 0, .int .u64 0]) rfl rfl Try.zeroValue24 (by kernel_rfl) rfl rfl fun g16 ac w hs => ?_))
  refine lstep (wpO_plain rfl (op_store hs 6 (vs := (Wl r15)) rfl rfl rfl rfl rfl Try.sizeOf24 rfl rfl rfl rfl rfl fun w hs => ?_))
  refine wpList_nil ?_
  refine then_n ?_
  refine wp_seq ?_
  replace hs : St 70 w0 [(2, true, .pointer (some ⟨g2, 0, none⟩)), (3, true, .pointer (some ⟨g5, 0, none⟩)), (4, true, .pointer (some ⟨g7, 0, none⟩)), (5, true, .pointer (some ⟨g10, 0, none⟩)), (6, true, .pointer (some ⟨g14, 0, none⟩)), (7, true, .pointer (some ⟨g16, 0, none⟩))] [(true, g1, 51, (TVl x y z)), (true, g2, 51, (TVl 0 0 0)), (true, g5, 24, (Wl r4)), (true, g7, 24, (Wl r6)), (true, g10, 24, (Wl r9)), (true, g14, 24, (Wl r13)), (true, g16, 24, (Wl r15))] ac _ := hs.re ⟨rfl, rfl, rfl, rfl, rfl, rfl, trivial⟩
  refine wp_region_lit ?_
  refine lstep (wpO_plain rfl (op_build hs none (qs := [(0, .int .u64 2)]) (v := .agg #[.int .u64 2, .int .u64 0, .int .u64 0, .int .u64 0]) rfl rfl rfl rfl (fun _ => by kernel_rfl) rfl fun ac hs => ?_))
  refine lstep (wpO_plain rfl (op_load hs none 5 (v := W r13) rfl rfl rfl rfl Try.isAgg24 Try.sizeOf24 rfl rfl fun ac hs => ?_))
  refine lstep (wpO_plain rfl (op_load hs none 3 (v := W r6) rfl rfl rfl rfl Try.isAgg24 Try.sizeOf24 rfl rfl fun ac hs => ?_))
  obtain ⟨r17, hr17, lr17⟩ : ∃ z0, r13 * r6 % Pf = z0 ∧ z0 < 2 ^ 256 := ⟨_, rfl, modP_lt _⟩
  refine lstep (wpO_plain rfl (op_call (F := 43) hs none (v := W r17) rfl rfl rfl rfl (Try.call43 _) (rfmul_c r13 r6 r17 lr13 lr6 hr17) rfl fun ac w hs => ?_))
  obtain ⟨r18, hr18, lr18⟩ : ∃ z0, 2 * r17 % Pf = z0 ∧ z0 < 2 ^ 256 := ⟨_, rfl, modP_lt _⟩
  refine lstep (wpO_plain rfl (op_call (F := 43) hs none (v := W r18) rfl rfl rfl rfl (Try.call43 _) (rfmul_c 2 r17 r18 (by decide) lr17 hr18) rfl fun ac w hs => ?_))
  refine lstep (wpO_plain rfl (op_alloc hs none none (cs := [.int .u64 0, .int .u64 0, .int .u64 0, .int .u64 0]) rfl rfl Try.zeroValue24 (by kernel_rfl) rfl rfl fun g19 ac w hs => ?_))
  refine lstep (wpO_plain rfl (op_store hs 7 (vs := (Wl r18)) rfl rfl rfl rfl rfl Try.sizeOf24 rfl rfl rfl rfl rfl fun w hs => ?_))
  refine wpList_nil ?_
  refine then_n ?_
  refine wp_seq ?_
  replace hs : St 70 w0 [(2, true, .pointer (some ⟨g2, 0, none⟩)), (3, true, .pointer (some ⟨g5, 0, none⟩)), (4, true, .pointer (some ⟨g7, 0, none⟩)), (5, true, .pointer (some ⟨g10, 0, none⟩)), (6, true, .pointer (some ⟨g14, 0, none⟩)), (7, true, .pointer (some ⟨g16, 0, none⟩)), (8, true, .pointer (some ⟨g19, 0, none⟩))] [(true, g1, 51, (TVl x y z)), (true, g2, 51, (TVl 0 0 0)), (true, g5, 24, (Wl r4)), (true, g7, 24, (Wl r6)), (true, g10, 24, (Wl r9)), (true, g14, 24, (Wl r13)), (true, g16, 24, (Wl r15)), (true, g19, 24, (Wl r18))] ac _ := hs.re ⟨rfl, rfl, rfl, rfl, rfl, rfl, rfl, trivial⟩
  obtain ⟨r20, hr20, lr20⟩ : ∃ z0, 4 * r9 % Pf = z0 ∧ z0 < 2 ^ 256 := ⟨_, rfl, modP_lt _⟩
  obtain ⟨r21, hr21, lr21⟩ : ∃ z0, fsub r20 r13 = z0 ∧ z0 < 2 ^ 256 := ⟨_, rfl, fsub_lt _ _⟩
  obtain ⟨r22, hr22, lr22⟩ : ∃ z0, r4 * r21 % Pf = z0 ∧ z0 < 2 ^ 256 := ⟨_, rfl, modP_lt _⟩
  obtain ⟨r23, hr23, lr23⟩ : ∃ z0, r15 * r15 % Pf = z0 ∧ z0 < 2 ^ 256 := ⟨_, rfl, modP_lt _⟩
  obtain ⟨r24, hr24, lr24⟩ : ∃ z0, 8 * r23 % Pf = z0 ∧ z0 < 2 ^ 256 := ⟨_, rfl, modP_lt _⟩
  obtain ⟨r25, hr25, lr25⟩ : ∃ z0, fsub r22 r24 = z0 ∧ z0 < 2 ^ 256 := ⟨_, rfl, fsub_lt _ _⟩
  refine region_inv [([], [6, 10, 11, 12, 14]), ([], [3, 5, 6, 10, 11, 12, 14]), ([], [3, 5, 6, 10, 11, 12, 14]), ([1, 2], [5, 6, 10, 11, 12, 14]), ([], [5, 6, 10, 11, 12, 14]), ([1, 2, 3, 4], [6, 10, 11, 12, 14]), ([0, 1, 2, 3, 4, 5], [10, 11, 12, 14]), ([], [11, 12, 14]), ([], [10, 11, 12, 14]), ([], [10, 11, 12, 14]), ([0, 1, 2, 3, 4, 5, 6, 8, 9], [11, 12, 14]), ([0, 1, 2, 3, 4, 5, 6, 7, 8, 9, 10], [12, 14]), ([0, 1, 2, 3, 4, 5, 6, 7, 8, 9, 10, 11], [14]), ([], [14]), ([0, 1, 2, 3, 4, 5, 6, 7, 8, 9, 10, 11, 12, 13], [])] (fun L ac w => ∃ (g26 : Nat), St 70 w0 [(46, L 0, W r4), (47, L 1, .agg #[.int .u64 4, .int .u64 0, .int .u64 0, .int .u64 0]), (48, L 2, W r9), (49, L 3, W r20), (50, L 4, W r13), (51, L 5, W r21), (52, L 6, W r22), (53, L 7, .agg #[.int .u64 8, .int .u64 0, .int .u64 0, .int .u64 0]), (54, L 8, W r15), (55, L 9, W r15), (56, L 10, W r23), (57, L 11, W r24), (58, L 12, W r25), (9, L 13, .pointer (some ⟨g26, 0, none⟩)), (2, true, .pointer (some ⟨g2, 0, none⟩)), (3, true, .pointer (some ⟨g5, 0, none⟩)), (4, true, .pointer (some ⟨g7, 0, none⟩)), (5, true, .pointer (some ⟨g10, 0, none⟩)), (6, true, .pointer (some ⟨g14, 0, none⟩)), (7, true, .pointer (some ⟨g16, 0, none⟩)), (8, true, .pointer (some ⟨g19, 0, none⟩))] [(true, g1, 51, (TVl x y z)), (true, g2, 51, (TVl 0 0 0)), (true, g5, 24, (Wl r4)), (true, g7, 24, (Wl r6)), (true, g10, 24, (Wl r9)), (true, g14, 24, (Wl r13)), (true, g16, 24, (Wl r15)), (true, g19, 24, (Wl r18)), (L 13, g26, 24, (cond (L 14) (Wl r25) [.int .u64 0, .int .u64 0, .int .u64 0, .int .u64 0]))] ac w) (by kernel_rfl) (by kernel_rfl) ?_ ?_ ?_
  · exact ⟨0, hs.drew.skip.skip.skip.skip.skip.skip.skip.skip.skip.skip.skip.skip.skip.skip.pad⟩
  · refine ⟨?_, ?_, ?_, ?_, ?_, ?_, ?_, ?_, ?_, ?_, ?_, ?_, ?_, ?_, ?_, trivial⟩
    · intro L ac w hJ
      obtain ⟨g26, hs⟩ := hJ
      refine wpO_plain rfl (op_load hs (some 0) 2 (v := W r4) rfl rfl rfl rfl Try.isAgg24 Try.sizeOf24 rfl rfl fun ac hs => ?_)
      exact ⟨g26, hs⟩
    · intro L ac w hJ
      obtain ⟨g26, hs⟩ := hJ
      refine wpO_plain rfl (op_build hs (some 1) (qs := [(0, .int .u64 4)]) (v := .agg #[.int .u64 4, .int .u64 0, .int .u64 0, .int .u64 0]) rfl rfl rfl rfl (fun _ => by kernel_rfl) rfl fun ac hs => ?_)
      exact ⟨g26, hs⟩
    · intro L ac w hJ
      obtain ⟨g26, hs⟩ := hJ
      refine wpO_plain rfl (op_load hs (some 2) 4 (v := W r9) rfl rfl rfl rfl Try.isAgg24 Try.sizeOf24 rfl rfl fun ac hs => ?_)
      exact ⟨g26, hs⟩
    · intro L ac w hJ
      obtain ⟨g26, hs⟩ := hJ
      refine wpO_plain rfl (op_call (F := 43) hs (some 3) (v := W r20) rfl rfl rfl rfl (Try.call43 _) (rfmul_c 4 r9 r20 (by decide) lr9 hr20) rfl fun ac w hs => ?_)
      exact ⟨g26, hs⟩
    · intro L ac w hJ
      obtain ⟨g26, hs⟩ := hJ
      refine wpO_plain rfl (op_load hs (some 4) 5 (v := W r13) rfl rfl rfl rfl Try.isAgg24 Try.sizeOf24 rfl rfl fun ac hs => ?_)
      exact ⟨g26, hs⟩
    · intro L ac w hJ
      obtain ⟨g26, hs⟩ := hJ
      refine wpO_plain rfl (op_call (F := 70) hs (some 5) (v := W r21) rfl rfl rfl rfl (Try.call70 _) (rfsub_c r20 r13 r21 lr20 lr13 hr21) rfl fun ac w hs => ?_)
      exact ⟨g26, hs⟩
    · intro L ac w hJ
      obtain ⟨g26, hs⟩ := hJ
      refine wpO_plain rfl (op_call (F := 43) hs (some 6) (v := W r22) rfl rfl rfl rfl (Try.call43 _) (rfmul_c r4 r21 r22 lr4 lr21 hr22) rfl fun ac w hs => ?_)
      exact ⟨g26, hs⟩
    · intro L ac w hJ
      obtain ⟨g26, hs⟩ := hJ
      refine wpO_plain rfl (op_build hs (some 7) (qs := [(0, .int .u64 8)]) (v := .agg #[.int .u64 8, .int .u64 0, .int .u64 0, .int .u64 0]) rfl rfl rfl rfl (fun _ => by kernel_rfl) rfl fun ac hs => ?_)
      exact ⟨g26, hs⟩
    · intro L ac w hJ
      obtain ⟨g26, hs⟩ := hJ
      refine wpO_plain rfl (op_load hs (some 8) 6 (v := W r15) rfl rfl rfl rfl Try.isAgg24 Try.sizeOf24 rfl rfl fun ac hs => ?_)
      exact ⟨g26, hs⟩
    · intro L ac w hJ
      obtain ⟨g26, hs⟩ := hJ
      refine wpO_plain rfl (op_load hs (some 9) 6 (v := W r15) rfl rfl rfl rfl Try.isAgg24 Try.sizeOf24 rfl rfl fun ac hs => ?_)
      exact ⟨g26, hs⟩
    · intro L ac w hJ
      obtain ⟨g26, hs⟩ := hJ
      refine wpO_plain rfl (op_call (F := 43) hs (some 10) (v := W r23) rfl rfl rfl rfl (Try.call43 _) (rfmul_c r15 r15 r23 lr15 lr15 hr23) rfl fun ac w hs => ?_)
      exact ⟨g26, hs⟩
    · intro L ac w hJ
      obtain ⟨g26, hs⟩ := hJ
      refine wpO_plain rfl (op_call (F := 43) hs (some 11) (v := W r24) rfl rfl rfl rfl (Try.call43 _) (rfmul_c 8 r23 r24 (by decide) lr23 hr24) rfl fun ac w hs => ?_)
      exact ⟨g26, hs⟩
    · intro L ac w hJ
      obtain ⟨g26, hs⟩ := hJ
      refine wpO_plain rfl (op_call (F := 70) hs (some 12) (v := W r25) rfl rfl rfl rfl (Try.call70 _) (rfsub_c r22 r24 r25 lr22 lr24 hr25) rfl fun ac w hs => ?_)
      exact ⟨g26, hs⟩
    · intro L ac w hJ
      obtain ⟨g26, hs⟩ := hJ
      refine wpO_plain rfl (op_alloc hs (some 13) (some 8) (cs := [.int .u64 0, .int .u64 0, .int .u64 0, .int .u64 0]) rfl rfl Try.zeroValue24 (by kernel_rfl) rfl rfl fun g26 ac w hs => ?_)
      exact ⟨g26, hs⟩
    · intro L ac w hJ
      obtain ⟨g26, hs⟩ := hJ
      refine wpO_plain rfl (op_store hs 8 (vs := (Wl r25)) rfl rfl rfl rfl rfl Try.sizeOf24 rfl rfl rfl rfl rfl fun w hs => ?_)
      exact ⟨g26, hs⟩
  intro ac w hJ
  obtain ⟨g26, hs⟩ := hJ
  replace hs : St 70 w0 [(46, true, W r4), (47, true, .agg #[.int .u64 4, .int .u64 0, .int .u64 0, .int .u64 0]), (48, true, W r9), (49, true, W r20), (50, true, W r13), (51, true, W r21), (52, true, W r22), (53, true, .agg #[.int .u64 8, .int .u64 0, .int .u64 0, .int .u64 0]), (54, true, W r15), (55, true, W r15), (56, true, W r23), (57, true, W r24), (58, true, W r25), (9, true, .pointer (some ⟨g26, 0, none⟩)), (2, true, .pointer (some ⟨g2, 0, none⟩)), (3, true, .pointer (some ⟨g5, 0, none⟩)), (4, true, .pointer (some ⟨g7, 0, none⟩)), (5, true, .pointer (some ⟨g10, 0, none⟩)), (6, true, .pointer (some ⟨g14, 0, none⟩)), (7, true, .pointer (some ⟨g16, 0, none⟩)), (8, true, .pointer (some ⟨g19, 0, none⟩))] [(true, g1, 51, (TVl x y z)), (true, g2, 51, (TVl 0 0 0)), (true, g5, 24, (Wl r4)), (true, g7, 24, (Wl r6)), (true, g10, 24, (Wl r9)), (true, g14, 24, (Wl r13)), (true, g16, 24, (Wl r15)), (true, g19, 24, (Wl r18)), (true, g26, 24, (Wl r25))] ac w := hs
  refine then_n ?_
  refine wp_seq ?_
  replace hs : St 70 w0 [(2, true, .pointer (some ⟨g2, 0, none⟩)), (4, true, .pointer (some ⟨g7, 0, none⟩)), (8, true, .pointer (some ⟨g19, 0, none⟩)), (9, true, .pointer (some ⟨g26, 0, none⟩))] [(true, g1, 51, (TVl x y z)), (true, g2, 51, (TVl 0 0 0)), (true, g5, 24, (Wl r4)), (true, g7, 24, (Wl r6)), (true, g10, 24, (Wl r9)), (true, g14, 24, (Wl r13)), (true, g16, 24, (Wl r15)), (true, g19, 24, (Wl r18)), (true, g26, 24, (Wl r25))] ac _ := hs.re ⟨rfl, rfl, rfl, rfl, trivial⟩
  obtain ⟨r27, hr27, lr27⟩ : ∃ z0, r6 * r6 % Pf = z0 ∧ z0 < 2 ^ 256 := ⟨_, rfl, modP_lt _⟩
  obtain ⟨r28, hr28, lr28⟩ : ∃ z0, r6 * r27 % Pf = z0 ∧ z0 < 2 ^ 256 := ⟨_, rfl, modP_lt _⟩
  obtain ⟨r29, hr29, lr29⟩ : ∃ z0, 8 * r28 % Pf = z0 ∧ z0 < 2 ^ 256 := ⟨_, rfl, modP_lt _⟩
  refine region_inv [([], [6, 8]), ([], [5, 6, 8]), ([], [4, 5, 6, 8]), ([], [4, 5, 6, 8]), ([2, 3], [5, 6, 8]), ([1, 2, 3, 4], [6, 8]), ([0, 1, 2, 3, 4, 5], [8]), ([], [8]), ([0, 1, 2, 3, 4, 5, 6, 7], [])] (fun L ac w => ∃ (g30 : Nat), St 70 w0 [(59, L 0, .agg #[.int .u64 8, .int .u64 0, .int .u64 0, .int .u64 0]), (60, L 1, W r6), (61, L 2, W r6), (62, L 3, W r6), (63, L 4, W r27), (64, L 5, W r28), (65, L 6, W r29), (10, L 7, .pointer (some ⟨g30, 0, none⟩)), (2, true, .pointer (some ⟨g2, 0, none⟩)), (4, true, .pointer (some ⟨g7, 0, none⟩)), (8, true, .pointer (some ⟨g19, 0, none⟩)), (9, true, .pointer (some ⟨g26, 0, none⟩))] [(true, g1, 51, (TVl x y z)), (true, g2, 51, (TVl 0 0 0)), (true, g5, 24, (Wl r4)), (true, g7, 24, (Wl r6)), (true, g10, 24, (Wl r9)), (true, g14, 24, (Wl r13)), (true, g16, 24, (Wl r15)), (true, g19, 24, (Wl r18)), (true, g26, 24, (Wl r25)), (L 7, g30, 24, (cond (L 8) (Wl r29) [.int .u64 0, .int .u64 0, .int .u64 0, .int .u64 0]))] ac w) (by kernel_rfl) (by kernel_rfl) ?_ ?_ ?_
  · exact ⟨0, hs.drew.skip.skip.skip.skip.skip.skip.skip.skip.pad⟩
  · refine ⟨?_, ?_, ?_, ?_, ?_, ?_, ?_, ?_, ?_, trivial⟩
    · intro L ac w hJ
      obtain ⟨g30, hs⟩ := hJ
      refine wpO_plain rfl (op_build hs (some 0) (qs := [(0, .int .u64 8)]) (v := .agg #[.int .u64 8, .int .u64 0, .int .u64 0, .int .u64 0]) rfl rfl rfl rfl (fun _ => by kernel_rfl) rfl fun ac hs => ?_)
      exact ⟨g30, hs⟩
    · intro L ac w hJ
      obtain ⟨g30, hs⟩ := hJ
      refine wpO_plain rfl (op_load hs (some 1) 3 (v := W r6) rfl rfl rfl rfl Try.isAgg24 Try.sizeOf24 rfl rfl fun ac hs => ?_)
      exact ⟨g30, hs⟩
    · intro L ac w hJ
      obtain ⟨g30, hs⟩ := hJ
      refine wpO_plain rfl (op_load hs (some 2) 3 (v := W r6) rfl rfl rfl rfl Try.isAgg24 Try.sizeOf24 rfl rfl fun ac hs => ?_)
      exact ⟨g30, hs⟩
    · intro L ac w hJ
      obtain ⟨g30, hs⟩ := hJ
      refine wpO_plain rfl (op_load hs (some 3) 3 (v := W r6) rfl rfl rfl rfl Try.isAgg24 Try.sizeOf24 rfl rfl fun ac hs => ?_)
      exact ⟨g30, hs⟩
    · intro L ac w hJ
      obtain ⟨g30, hs⟩ := hJ
      refine wpO_plain rfl (op_call (F := 43) hs (some 4) (v := W r27) rfl rfl rfl rfl (Try.call43 _) (rfmul_c r6 r6 r27 lr6 lr6 hr27) rfl fun ac w hs => ?_)
      exact ⟨g30, hs⟩
    · intro L ac w hJ
      obtain ⟨g30, hs⟩ := hJ
      refine wpO_plain rfl (op_call (F := 43) hs (some 5) (v := W r28) rfl rfl rfl rfl (Try.call43 _) (rfmul_c r6 r27 r28 lr6 lr27 hr28) rfl fun ac w hs => ?_)
      exact ⟨g30, hs⟩
    · intro L ac w hJ
      obtain ⟨g30, hs⟩ := hJ
      refine wpO_plain rfl (op_call (F := 43) hs (some 6) (v := W r29) rfl rfl rfl rfl (Try.call43 _) (rfmul_c 8 r28 r29 (by decide) lr28 hr29) rfl fun ac w hs => ?_)
      exact ⟨g30, hs⟩
    · intro L ac w hJ
      obtain ⟨g30, hs⟩ := hJ
      refine wpO_plain rfl (op_alloc hs (some 7) (some 9) (cs := [.int .u64 0, .int .u64 0, .int .u64 0, .int .u64 0]) rfl rfl Try.zeroValue24 (by kernel_rfl) rfl rfl fun g30 ac w hs => ?_)
      exact ⟨g30, hs⟩
    · intro L ac w hJ
      obtain ⟨g30, hs⟩ := hJ
      refine wpO_plain rfl (op_store hs 9 (vs := (Wl r29)) rfl rfl rfl rfl rfl Try.sizeOf24 rfl rfl rfl rfl rfl fun w hs => ?_)
      exact ⟨g30, hs⟩
  intro ac w hJ
  obtain ⟨g30, hs⟩ := hJ
  replace hs : St 70 w0 [(59, true, .agg #[.int .u64 8, .int .u64 0, .int .u64 0, .int .u64 0]), (60, true, W r6), (61, true, W r6), (62, true, W r6), (63, true, W r27), (64, true, W r28), (65, true, W r29), (10, true, .pointer (some ⟨g30, 0, none⟩)), (2, true, .pointer (some ⟨g2, 0, none⟩)), (4, true, .pointer (some ⟨g7, 0, none⟩)), (8, true, .pointer (some ⟨g19, 0, none⟩)), (9, true, .pointer (some ⟨g26, 0, none⟩))] [(true, g1, 51, (TVl x y z)), (true, g2, 51, (TVl 0 0 0)), (true, g5, 24, (Wl r4)), (true, g7, 24, (Wl r6)), (true, g10, 24, (Wl r9)), (true, g14, 24, (Wl r13)), (true, g16, 24, (Wl r15)), (true, g19, 24, (Wl r18)), (true, g26, 24, (Wl r25)), (true, g30, 24, (Wl r29))] ac w := hs
  refine then_n ?_
  refine wp_seq ?_
  refine wp_region_lit ?_
  refine lstep (wpO_plain rfl (op_load hs none 7 (v := W r18) rfl rfl rfl rfl Try.isAgg24 Try.sizeOf24 rfl rfl fun ac hs => ?_))
  refine lstep (wpO_plain rfl (op_load hs none 8 (v := W r25) rfl rfl rfl rfl Try.isAgg24 Try.sizeOf24 rfl rfl fun ac hs => ?_))
  refine lstep (wpO_plain rfl (op_load hs none 9 (v := W r29) rfl rfl rfl rfl Try.isAgg24 Try.sizeOf24 rfl rfl fun ac hs => ?_))
  refine lstep (wpO_plain rfl (op_build hs none (qs := [(0, W r18), (1, W r25), (2, W r29)]) (v := TV r18 r25 r29) rfl rfl rfl rfl (fun _ => by kernel_rfl) rfl fun ac hs => ?_))
  refine lstep (wpO_plain rfl (op_store hs 1 (vs := (TVl r18 r25 r29)) rfl rfl rfl rfl rfl Try.sizeOf51 rfl rfl rfl rfl rfl fun w hs => ?_))
  refine wpList_nil ?_
  refine then_n ?_
  refine wp_ret ?_
  exact bodyPost_ret (res1 rfl (rv_c hs 1 (v := TV r18 r25 r29) rfl rfl Try.isAgg51 Try.sizeOf51 rfl)) hs.defers ⟨by subst hr3 hr4 hr6 hr8 hr9 hr11 hr12 hr13 hr15 hr17 hr18 hr20 hr21 hr22 hr23 hr24 hr25 hr27 hr28 hr29; obtain ⟨rfl, rfl, rfl⟩ := tri3 hE; rfl, hs.below⟩
theorem rplus_c (x1 y1 z1 x2 y2 z2 X Y Z : Nat) (a1 : x1 < 2 ^ 256) (a2 : y1 < 2 ^ 256) (a3 : z1 < 2 ^ 256) (b1 : x2 < 2 ^ 256) (b2 : y2 < 2 ^ 256) (b3 : z2 < 2 ^ 256) (hE : pF x1 y1 z1 x2 y2 z2 = (X, Y, Z)) (w0 : World) : Calls Try.prog 41 #[TV x1 y1 z1, TV x2 y2 z2] w0 fun e w' => e = .returned (TV X Y Z) ∧ Below w0.heap.size w0 w' := by
  refine enter (n := 100) (args := [TV x1 y1 z1, TV x2 y2 z2]) Try.func41 rfl rfl (Nat.le_of_ble_eq_true rfl) fun ac hs => ?_
  refine wp_seq ?_
  refine wp_region_lit ?_
  refine lstep (wpO_plain rfl (op_box hs none none (cs := (TVl x1 y1 z1)) rfl rfl rfl rfl rfl rfl fun g1 ac w hs => ?_))
  refine lstep (wpO_plain rfl (op_box hs none none (cs := (TVl x2 y2 z2)) rfl rfl rfl rfl rfl rfl fun g2 ac w hs => ?_))
  refine lstep (wpO_plain rfl (op_alloc hs none none (cs := (TVl 0 0 0)) rfl rfl Try.zeroValue51 (by kernel_rfl) rfl rfl fun g3 ac w hs => ?_))
  refine wpList_nil ?_
  refine then_n ?_
  refine wp_seq ?_
  refine wp_seq ?_
  refine wp_region_lit ?_
  refine lstep (wpO_plain rfl (op_fieldA hs none rfl rfl rfl Try.underlying51 rfl Try.sizeOf24 (by decide) rfl fun ac hs => ?_))
  refine lstep (wpO_plain rfl (op_load hs none 0 (v := W z1) rfl rfl rfl rfl Try.isAgg24 Try.sizeOf24 rfl rfl fun ac hs => ?_))
  refine lstep (wpO_plain rfl (op_build hs none (qs := []) (v := .agg #[.int .u64 0, .int .u64 0, .int .u64 0, .int .u64 0]) rfl rfl rfl rfl (fun _ => by kernel_rfl) rfl fun ac hs => ?_))
  refine lstep (wpO_plain rfl (op_bin hs none (v := .bool (decide (z1 = 0))) rfl rfl rfl rfl (fun w => run_eqGuard_agg w .eql 24 _ _ _ _ Try.eqGuardType24) (eqlW z1 0 a3 (by decide) _ rfl) rfl fun ac hs => ?_))
  refine wpList_nil ?_
  refine then_n ?_
  refine wp_cond_split (hs.ev rfl) (fun hc => ?_) (fun hc => ?_)
  · skip
    have hp4 := of_decide_eq_true hc
    refine wp_seq ?_
    replace hs : St 100 w0 [(2, true, .pointer (some ⟨g1, 0, none⟩)), (3, true, .pointer (some ⟨g2, 0, none⟩)), (4, true, .pointer (some ⟨g3, 0, none⟩))] [(true, g1, 51, (TVl x1 y1 z1)), (true, g2, 51, (TVl x2 y2 z2)), (true, g3, 51, (TVl 0 0 0))] ac _ := hs.re ⟨rfl, rfl, rfl, trivial⟩
    refine wp_region_lit ?_
    refine lstep (wpO_plain rfl (op_load hs none 1 (v := TV x2 y2 z2) rfl rfl rfl rfl Try.isAgg51 Try.sizeOf51 rfl rfl fun ac hs => ?_))
    refine lstep (wpO_plain rfl (op_store hs 2 (vs := (TVl x2 y2 z2)) rfl rfl rfl rfl rfl Try.sizeOf51 rfl rfl rfl rfl rfl fun w hs => ?_))
    refine wpList_nil ?_
    refine then_n ?_
    refine wp_ret ?_
    refine then_r ?_
    exact bodyPost_ret (res1 rfl (rv_c hs 2 (v := TV x2 y2 z2) rfl rfl Try.isAgg51 Try.sizeOf51 rfl)) hs.defers ⟨by obtain ⟨rfl, rfl, rfl⟩ := tri3 ((pF_1 hp4).symm.trans hE); rfl, hs.below⟩
  · skip
    have hp5 := of_decide_eq_false hc
    refine wp_skip ?_
    refine then_n ?_
    refine wp_seq ?_
    refine wp_seq ?_
    replace hs : St 100 w0 [(2, true, .pointer (some ⟨g1, 0, none⟩)), (3, true, .pointer (some ⟨g2, 0, none⟩)), (4, true, .pointer (some ⟨g3, 0, none⟩))] [(true, g1, 51, (TVl x1 y1 z1)), (true, g2, 51, (TVl x2 y2 z2)), (true, g3, 51, (TVl 0 0 0))] ac _ := hs.re ⟨rfl, rfl, rfl, trivial⟩
    refine wp_region_lit ?_
    refine lstep (wpO_plain rfl (op_fieldA hs none rfl rfl rfl Try.underlying51 rfl Try.sizeOf24 (by decide) rfl fun ac hs => ?_))
    refine lstep (wpO_plain rfl (op_load hs none 1 (v := W z2) rfl rfl rfl rfl Try.isAgg24 Try.sizeOf24 rfl rfl fun ac hs => ?_))
    refine lstep (wpO_plain rfl (op_build hs none (qs := []) (v := .agg #[.int .u64 0, .int .u64 0, .int .u64 0, .int .u64 0]) rfl rfl rfl rfl (fun _ => by kernel_rfl) rfl fun ac hs => ?_))
    refine lstep (wpO_plain rfl (op_bin hs none (v := .bool (decide (z2 = 0))) rfl rfl rfl rfl (fun w => run_eqGuard_agg w .eql 24 _ _ _ _ Try.eqGuardType24) (eqlW z2 0 b3 (by decide) _ rfl) rfl fun ac hs => ?_))
    refine wpList_nil ?_
    refine then_n ?_
    refine wp_cond_split (hs.ev rfl) (fun hc => ?_) (fun hc => ?_)
    · skip
      have hp6 := of_decide_eq_true hc
      refine wp_seq ?_
      refine wp_region_lit ?_
      refine lstep (wpO_plain rfl (op_load hs none 0 (v := TV x1 y1 z1) rfl rfl rfl rfl Try.isAgg51 Try.sizeOf51 rfl rfl fun ac hs => ?_))
      refine lstep (wpO_plain rfl (op_store hs 2 (vs := (TVl x1 y1 z1)) rfl rfl rfl rfl rfl Try.sizeOf51 rfl rfl rfl rfl rfl fun w hs => ?_))
      refine wpList_nil ?_
      refine then_n ?_
      refine wp_ret ?_
      refine then_r ?_
      exact bodyPost_ret (res1 rfl (rv_c hs 2 (v := TV x1 y1 z1) rfl rfl Try.isAgg51 Try.sizeOf51 rfl)) hs.defers ⟨by obtain ⟨rfl, rfl, rfl⟩ := tri3 ((pF_2 hp5 hp6).symm.trans hE); rfl, hs.below⟩
    · skip
      have hp7 := of_decide_eq_false hc
      refine wp_skip ?_
      refine then_n ?_
      refine wp_seq ?_
      replace hs : St 100 w0 [(2, true, .pointer (some ⟨g1, 0, none⟩)), (3, true, .pointer (some ⟨g2, 0, none⟩)), (4, true, .pointer (some ⟨g3, 0, none⟩))] [(true, g1, 51, (TVl x1 y1 z1)), (true, g2, 51, (TVl x2 y2 z2)), (true, g3, 51, (TVl 0 0 0))] ac _ := hs.re ⟨rfl, rfl, rfl, trivial⟩
      obtain ⟨r8, hr8, lr8⟩ : ∃ z0, x1 * z2 % Pf = z0 ∧ z0 < 2 ^ 256 := ⟨_, rfl, modP_lt _⟩
      obtain ⟨r9, hr9, lr9⟩ : ∃ z0, y1 * z2 % Pf = z0 ∧ z0 < 2 ^ 256 := ⟨_, rfl, modP_lt _⟩
      refine region_inv [([], [1, 4, 9, 12, 13]), ([0], [4, 9, 12, 13]), ([], [3, 4, 9, 12, 13]), ([2], [4, 9, 12, 13]), ([0, 1, 2, 3], [9, 12, 13]), ([], [6, 9, 12, 13]), ([5], [9, 12, 13]), ([], [8, 9, 12, 13]), ([7], [9, 12, 13]), ([0, 1, 2, 3, 4, 5, 6, 7, 8], [12, 13]), ([], [12, 13]), ([], [12, 13]), ([0, 1, 2, 3, 4, 5, 6, 7, 8, 9, 10, 11], [13]), ([0, 1, 2, 3, 4, 5, 6, 7, 8, 9, 10, 11, 12], [])] (fun L ac w => ∃ (g10 : Nat) (g11 : Nat), St 100 w0 [(25, L 0, .pointer (some ⟨g1, 0, none⟩)), (26, L 1, W x1), (27, L 2, .pointer (some ⟨g2, 8, none⟩)), (28, L 3, W z2), (29, L 4, W r8), (30, L 5, .pointer (some ⟨g1, 4, none⟩)), (31, L 6, W y1), (32, L 7, .pointer (some ⟨g2, 8, none⟩)), (33, L 8, W z2), (34, L 9, W r9), (5, L 10, .pointer (some ⟨g10, 0, none⟩)), (6, L 11, .pointer (some ⟨g11, 0, none⟩)), (2, true, .pointer (some ⟨g1, 0, none⟩)), (3, true, .pointer (some ⟨g2, 0, none⟩)), (4, true, .pointer (some ⟨g3, 0, none⟩))] [(true, g1, 51, (TVl x1 y1 z1)), (true, g2, 51, (TVl x2 y2 z2)), (true, g3, 51, (TVl 0 0 0)), (L 10, g10, 24, (cond (L 12) (Wl r8) [.int .u64 0, .int .u64 0, .int .u64 0, .int .u64 0])), (L 11, g11, 24, (cond (L 13) (Wl r9) [.int .u64 0, .int .u64 0, .int .u64 0, .int .u64 0]))] ac w) (by kernel_rfl) (by kernel_rfl) ?_ ?_ ?_
      · exact ⟨0, 0, hs.drew.skip.skip.skip.skip.skip.skip.skip.skip.skip.skip.skip.skip.pad.pad⟩
      · refine ⟨?_, ?_, ?_, ?_, ?_, ?_, ?_, ?_, ?_, ?_, ?_, ?_, ?_, ?_, trivial⟩
        · intro L ac w hJ
          obtain ⟨g10, g11, hs⟩ := hJ
          refine wpO_plain rfl (op_fieldA hs (some 0) rfl rfl rfl Try.underlying51 rfl Try.sizeOf24 (by decide) rfl fun ac hs => ?_)
          exact ⟨g10, g11, hs⟩
        · intro L ac w hJ
          obtain ⟨g10, g11, hs⟩ := hJ
          refine wpO_plain rfl (op_load hs (some 1) 0 (v := W x1) rfl rfl rfl rfl Try.isAgg24 Try.sizeOf24 rfl rfl fun ac hs => ?_)
          exact ⟨g10, g11, hs⟩
        · intro L ac w hJ
          obtain ⟨g10, g11, hs⟩ := hJ
          refine wpO_plain rfl (op_fieldA hs (some 2) rfl rfl rfl Try.underlying51 rfl Try.sizeOf24 (by decide) rfl fun ac hs => ?_)
          exact ⟨g10, g11, hs⟩
        · intro L ac w hJ
          obtain ⟨g10, g11, hs⟩ := hJ
          refine wpO_plain rfl (op_load hs (some 3) 1 (v := W z2) rfl rfl rfl rfl Try.isAgg24 Try.sizeOf24 rfl rfl fun ac hs => ?_)
          exact ⟨g10, g11, hs⟩
        · intro L ac w hJ
          obtain ⟨g10, g11, hs⟩ := hJ
          refine wpO_plain rfl (op_call (F := 43) hs (some 4) (v := W r8) rfl rfl rfl rfl (Try.call43 _) (rfmul_c x1 z2 r8 a1 b3 hr8) rfl fun ac w hs => ?_)
          exact ⟨g10, g11, hs⟩
        · intro L ac w hJ
          obtain ⟨g10, g11, hs⟩ := hJ
          refine wpO_plain rfl (op_fieldA hs (some 5) rfl rfl rfl Try.underlying51 rfl Try.sizeOf24 (by decide) rfl fun ac hs => ?_)
          exact ⟨g10, g11, hs⟩
        · intro L ac w hJ
          obtain ⟨g10, g11, hs⟩ := hJ
          refine wpO_plain rfl (op_load hs (some 6) 0 (v := W y1) rfl rfl rfl rfl Try.isAgg24 Try.sizeOf24 rfl rfl fun ac hs => ?_)
          exact ⟨g10, g11, hs⟩
        · intro L ac w hJ
          obtain ⟨g10, g11, hs⟩ := hJ
          refine wpO_plain rfl (op_fieldA hs (some 7) rfl rfl rfl Try.underlying51 rfl Try.sizeOf24 (by decide) rfl fun ac hs => ?_)
          exact ⟨g10, g11, hs⟩
        · intro L ac w hJ
          obtain ⟨g10, g11, hs⟩ := hJ
          refine wpO_plain rfl (op_load hs (some 8) 1 (v := W z2) rfl rfl rfl rfl Try.isAgg24 Try.sizeOf24 rfl rfl fun ac hs => ?_)
          exact ⟨g10, g11, hs⟩
        · intro L ac w hJ
          obtain ⟨g10, g11, hs⟩ := hJ
          refine wpO_plain rfl (op_call (F := 43) hs (some 9) (v := W r9) rfl rfl rfl rfl (Try.call43 _) (rfmul_c y1 z2 r9 a2 b3 hr9) rfl fun ac w hs => ?_)
          exact ⟨g10, g11, hs⟩
        · intro L ac w hJ
          obtain ⟨g10, g11, hs⟩ := hJ
          refine wpO_plain rfl (op_alloc hs (some 10) (some 3) (cs := [.int .u64 0, .int .u64 0, .int .u64 0, .int .u64 0]) rfl rfl Try.zeroValue24 (by kernel_rfl) rfl rfl fun g10 ac w hs => ?_)
          exact ⟨g10, g11, hs⟩
        · intro L ac w hJ
          obtain ⟨g10, g11, hs⟩ := hJ
          refine wpO_plain rfl (op_alloc hs (some 11) (some 4) (cs := [.int .u64 0, .int .u64 0, .int .u64 0, .int .u64 0]) rfl rfl Try.zeroValue24 (by kernel_rfl) rfl rfl fun g11 ac w hs => ?_)
          exact ⟨g10, g11, hs⟩
        · intro L ac w hJ
          obtain ⟨g10, g11, hs⟩ := hJ
          refine wpO_plain rfl (op_store hs 3 (vs := (Wl r8)) rfl rfl rfl rfl rfl Try.sizeOf24 rfl rfl rfl rfl rfl fun w hs => ?_)
          exact ⟨g10, g11, hs⟩
        · intro L ac w hJ
          obtain ⟨g10, g11, hs⟩ := hJ
          refine wpO_plain rfl (op_store hs 4 (vs := (Wl r9)) rfl rfl rfl rfl rfl Try.sizeOf24 rfl rfl rfl rfl rfl fun w hs => ?_)
          exact ⟨g10, g11, hs⟩
      intro ac w hJ
      obtain ⟨g10, g11, hs⟩ := hJ
      replace hs : St 100 w0 [(25, true, .pointer (some ⟨g1, 0, none⟩)), (26, true, W x1), (27, true, .pointer (some ⟨g2, 8, none⟩)), (28, true, W z2), (29, true, W r8), (30, true, .pointer (some ⟨g1, 4, none⟩)), (31, true, W y1), (32, true, .pointer (some ⟨g2, 8, none⟩)), (33, true, W z2), (34, true, W r9), (5, true, .pointer (some ⟨g10, 0, none⟩)), (6, true, .pointer (some ⟨g11, 0, none⟩)), (2, true, .pointer (some ⟨g1, 0, none⟩)), (3, true, .pointer (some ⟨g2, 0, none⟩)), (4, true, .pointer (some ⟨g3, 0, none⟩))] [(true, g1, 51, (TVl x1 y1 z1)), (true, g2, 51, (TVl x2 y2 z2)), (true, g3, 51, (TVl 0 0 0)), (true, g10, 24, (Wl r8)), (true, g11, 24, (Wl r9))] ac w := hs
      refine then_n ?_
      refine wp_seq ?_
      replace hs : St 100 w0 [(2, true, .pointer (some ⟨g1, 0, none⟩)), (3, true, .pointer (some ⟨g2, 0, none⟩)), (4, true, .pointer (some ⟨g3, 0, none⟩)), (5, true, .pointer (some ⟨g10, 0, none⟩)), (6, true, .pointer (some ⟨g11, 0, none⟩))] [(true, g1, 51, (TVl x1 y1 z1)), (true, g2, 51, (TVl x2 y2 z2)), (true, g3, 51, (TVl 0 0 0)), (true, g10, 24, (Wl r8)), (true, g11, 24, (Wl r9))] ac _ := hs.re ⟨rfl, rfl, rfl, rfl, rfl, trivial⟩
      obtain ⟨r12, hr12, lr12⟩ : ∃ z0, y2 * z1 % Pf = z0 ∧ z0 < 2 ^ 256 := ⟨_, rfl, modP_lt _⟩
      obtain ⟨r13, hr13, lr13⟩ : ∃ z0, fsub r12 r9 = z0 ∧ z0 < 2 ^ 256 := ⟨_, rfl, fsub_lt _ _⟩
      refine region_inv [([], [1, 4, 6, 8]), ([0], [4, 6, 8]), ([], [3, 4, 6, 8]), ([2], [4, 6, 8]), ([0, 1, 2, 3], [6, 8]), ([], [6, 8]), ([0, 1, 2, 3, 4, 5], [8]), ([], [8]), ([0, 1, 2, 3, 4, 5, 6, 7], [])] (fun L ac w => ∃ (g14 : Nat), St 100 w0 [(35, L 0, .pointer (some ⟨g2, 4, none⟩)), (36, L 1, W y2), (37, L 2, .pointer (some ⟨g1, 8, none⟩)), (38, L 3, W z1), (39, L 4, W r12), (40, L 5, W r9), (41, L 6, W r13), (7, L 7, .pointer (some ⟨g14, 0, none⟩)), (2, true, .pointer (some ⟨g1, 0, none⟩)), (3, true, .pointer (some ⟨g2, 0, none⟩)), (4, true, .pointer (some ⟨g3, 0, none⟩)), (5, true, .pointer (some ⟨g10, 0, none⟩)), (6, true, .pointer (some ⟨g11, 0, none⟩))] [(true, g1, 51, (TVl x1 y1 z1)), (true, g2, 51, (TVl x2 y2 z2)), (true, g3, 51, (TVl 0 0 0)), (true, g10, 24, (Wl r8)), (true, g11, 24, (Wl r9)), (L 7, g14, 24, (cond (L 8) (Wl r13) [.int .u64 0, .int .u64 0, .int .u64 0, .int .u64 0]))] ac w) (by kernel_rfl) (by kernel_rfl) ?_ ?_ ?_
      · exact ⟨0, hs.drew.skip.skip.skip.skip.skip.skip.skip.skip.pad⟩
      · refine ⟨?_, ?_, ?_, ?_, ?_, ?_, ?_, ?_, ?_, trivial⟩
        · intro L ac w hJ
          obtain ⟨g14, hs⟩ := hJ
          refine wpO_plain rfl (op_fieldA hs (some 0) rfl rfl rfl Try.underlying51 rfl Try.sizeOf24 (by decide) rfl fun ac hs => ?_)
          exact ⟨g14, hs⟩
        · intro L ac w hJ
          obtain ⟨g14, hs⟩ := hJ
          refine wpO_plain rfl (op_load hs (some 1) 1 (v := W y2) rfl rfl rfl rfl Try.isAgg24 Try.sizeOf24 rfl rfl fun ac hs => ?_)
          exact ⟨g14, hs⟩
        · intro L ac w hJ
          obtain ⟨g14, hs⟩ := hJ
          refine wpO_plain rfl (op_fieldA hs (some 2) rfl rfl rfl Try.underlying51 rfl Try.sizeOf24 (by decide) rfl fun ac hs => ?_)
          exact ⟨g14, hs⟩
        · intro L ac w hJ
          obtain ⟨g14, hs⟩ := hJ
          refine wpO_plain rfl (op_load hs (some 3) 0 (v := W z1) rfl rfl rfl rfl Try.isAgg24 Try.sizeOf24 rfl rfl fun ac hs => ?_)
          exact ⟨g14, hs⟩
        · intro L ac w hJ
          obtain ⟨g14, hs⟩ := hJ
          refine wpO_plain rfl (op_call (F := 43) hs (some 4) (v := W r12) rfl rfl rfl rfl (Try.call43 _) (rfmul_c y2 z1 r12 b2 a3 hr12) rfl fun ac w hs => ?_)
          exact ⟨g14, hs⟩
        · intro L ac w hJ
          obtain ⟨g14, hs⟩ := hJ
          refine wpO_plain rfl (op_load hs (some 5) 4 (v := W r9) rfl rfl rfl rfl Try.isAgg24 Try.sizeOf24 rfl rfl fun ac hs => ?_)
          exact ⟨g14, hs⟩
        · intro L ac w hJ
          obtain ⟨g14, hs⟩ := hJ
          refine wpO_plain rfl (op_call (F := 70) hs (some 6) (v := W r13) rfl rfl rfl rfl (Try.call70 _) (rfsub_c r12 r9 r13 lr12 lr9 hr13) rfl fun ac w hs => ?_)
          exact ⟨g14, hs⟩
        · intro L ac w hJ
          obtain ⟨g14, hs⟩ := hJ
          refine wpO_plain rfl (op_alloc hs (some 7) (some 5) (cs := [.int .u64 0, .int .u64 0, .int .u64 0, .int .u64 0]) rfl rfl Try.zeroValue24 (by kernel_rfl) rfl rfl fun g14 ac w hs => ?_)
          exact ⟨g14, hs⟩
        · intro L ac w hJ
          obtain ⟨g14, hs⟩ := hJ
          refine wpO_plain rfl (op_store hs 5 (vs := (Wl r13)) rfl rfl rfl rfl rfl Try.sizeOf24 rfl rfl rfl rfl rfl fun w hs => ?_)
          exact ⟨g14, hs⟩
      intro ac w hJ
      obtain ⟨g14, hs⟩ := hJ
      replace hs : St 100 w0 [(35, true, .pointer (some ⟨g2, 4, none⟩)), (36, true, W y2), (37, true, .pointer (some ⟨g1, 8, none⟩)), (38, true, W z1), (39, true, W r12), (40, true, W r9), (41, true, W r13), (7, true, .pointer (some ⟨g14, 0, none⟩)), (2, true, .pointer (some ⟨g1, 0, none⟩)), (3, true, .pointer (some ⟨g2, 0, none⟩)), (4, true, .pointer (some ⟨g3, 0, none⟩)), (5, true, .pointer (some ⟨g10, 0, none⟩)), (6, true, .pointer (some ⟨g11, 0, none⟩))] [(true, g1, 51, (TVl x1 y1 z1)), (true, g2, 51, (TVl x2 y2 z2)), (true, g3, 51, (TVl 0 0 0)), (true, g10, 24, (Wl r8)), (true, g11, 24, (Wl r9)), (true, g14, 24, (Wl r13))] ac w := hs
      refine then_n ?_
      refine wp_seq ?_
      replace hs : St 100 w0 [(2, true, .pointer (some ⟨g1, 0, none⟩)), (3, true, .pointer (some ⟨g2, 0, none⟩)), (4, true, .pointer (some ⟨g3, 0, none⟩)), (5, true, .pointer (some ⟨g10, 0, none⟩)), (6, true, .pointer (some ⟨g11, 0, none⟩)), (7, true, .pointer (some ⟨g14, 0, none⟩))] [(true, g1, 51, (TVl x1 y1 z1)), (true, g2, 51, (TVl x2 y2 z2)), (true, g3, 51, (TVl 0 0 0)), (true, g10, 24, (Wl r8)), (true, g11, 24, (Wl r9)), (true, g14, 24, (Wl r13))] ac _ := hs.re ⟨rfl, rfl, rfl, rfl, rfl, rfl, trivial⟩
      obtain ⟨r15, hr15, lr15⟩ : ∃ z0, x2 * z1 % Pf = z0 ∧ z0 < 2 ^ 256 := ⟨_, rfl, modP_lt _⟩
      obtain ⟨r16, hr16, lr16⟩ : ∃ z0, fsub r15 r8 = z0 ∧ z0 < 2 ^ 256 := ⟨_, rfl, fsub_lt _ _⟩
      refine region_inv [([], [1, 4, 6, 8]), ([0], [4, 6, 8]), ([], [3, 4, 6, 8]), ([2], [4, 6, 8]), ([0, 1, 2, 3], [6, 8]), ([], [6, 8]), ([0, 1, 2, 3, 4, 5], [8]), ([], [8]), ([0, 1, 2, 3, 4, 5, 6, 7], [])] (fun L ac w => ∃ (g17 : Nat), St 100 w0 [(42, L 0, .pointer (some ⟨g2, 0, none⟩)), (43, L 1, W x2), (44, L 2, .pointer (some ⟨g1, 8, none⟩)), (45, L 3, W z1), (46, L 4, W r15), (47, L 5, W r8), (48, L 6, W r16), (8, L 7, .pointer (some ⟨g17, 0, none⟩)), (2, true, .pointer (some ⟨g1, 0, none⟩)), (3, true, .pointer (some ⟨g2, 0, none⟩)), (4, true, .pointer (some ⟨g3, 0, none⟩)), (5, true, .pointer (some ⟨g10, 0, none⟩)), (6, true, .pointer (some ⟨g11, 0, none⟩)), (7, true, .pointer (some ⟨g14, 0, none⟩))] [(true, g1, 51, (TVl x1 y1 z1)), (true, g2, 51, (TVl x2 y2 z2)), (true, g3, 51, (TVl 0 0 0)), (true, g10, 24, (Wl r8)), (true, g11, 24, (Wl r9)), (true, g14, 24, (Wl r13)), (L 7, g17, 24, (cond (L 8) (Wl r16) [.int .u64 0, .int .u64 0, .int .u64 0, .int .u64 0]))] ac w) (by kernel_rfl) (by kernel_rfl) ?_ ?_ ?_
      · exact ⟨0, hs.drew.skip.skip.skip.skip.skip.skip.skip.skip.pad⟩
      · refine ⟨?_, ?_, ?_, ?_, ?_, ?_, ?_, ?_, ?_, trivial⟩
        · intro L ac w hJ
          obtain ⟨g17, hs⟩ := hJ
          refine wpO_plain rfl (op_fieldA hs (some 0) rfl rfl rfl Try.underlying51 rfl Try.sizeOf24 (by decide) rfl fun ac hs => ?_)
          exact ⟨g17, hs⟩
        · intro L ac w hJ
          obtain ⟨g17, hs⟩ := hJ
          refine wpO_plain rfl (op_load hs (some 1) 1 (v := W x2) rfl rfl rfl rfl Try.isAgg24 Try.sizeOf24 rfl rfl fun ac hs => ?_)
          exact ⟨g17, hs⟩
        · intro L ac w hJ
          obtain ⟨g17, hs⟩ := hJ
          refine wpO_plain rfl (op_fieldA hs (some 2) rfl rfl rfl Try.underlying51 rfl Try.sizeOf24 (by decide) rfl fun ac hs => ?_)
          exact ⟨g17, hs⟩
        · intro L ac w hJ
          obtain ⟨g17, hs⟩ := hJ
          refine wpO_plain rfl (op_load hs (some 3) 0 (v := W z1) rfl rfl rfl rfl Try.isAgg24 Try.sizeOf24 rfl rfl fun ac hs => ?_)
          exact ⟨g17, hs⟩
        · intro L ac w hJ
          obtain ⟨g17, hs⟩ := hJ
          refine wpO_plain rfl (op_call (F := 43) hs (some 4) (v := W r15) rfl rfl rfl rfl (Try.call43 _) (rfmul_c x2 z1 r15 b1 a3 hr15) rfl fun ac w hs => ?_)
          exact ⟨g17, hs⟩
        · intro L ac w hJ
          obtain ⟨g17, hs⟩ := hJ
          refine wpO_plain rfl (op_load hs (some 5) 3 (v := W r8) rfl rfl rfl rfl Try.isAgg24 Try.sizeOf24 rfl rfl fun ac hs => ?_)
          exact ⟨g17, hs⟩
        · intro L ac w hJ
          obtain ⟨g17, hs⟩ := hJ
          refine wpO_plain rfl (op_call (F := 70) hs (some 6) (v := W r16) rfl rfl rfl rfl (Try.call70 _) (rfsub_c r15 r8 r16 lr15 lr8 hr16) rfl fun ac w hs => ?_)
          exact ⟨g17, hs⟩
        · intro L ac w hJ
          obtain ⟨g17, hs⟩ := hJ
          refine wpO_plain rfl (op_alloc hs (some 7) (some 6) (cs := [.int .u64 0, .int .u64 0, .int .u64 0, .int .u64 0]) rfl rfl Try.zeroValue24 (by kernel_rfl) rfl rfl fun g17 ac w hs => ?_)
          exact ⟨g17, hs⟩
        · intro L ac w hJ
          obtain ⟨g17, hs⟩ := hJ
          refine wpO_plain rfl (op_store hs 6 (vs := (Wl r16)) rfl rfl rfl rfl rfl Try.sizeOf24 rfl rfl rfl rfl rfl fun w hs => ?_)
          exact ⟨g17, hs⟩
      intro ac w hJ
      obtain ⟨g17, hs⟩ := hJ
      replace hs : St 100 w0 [(42, true, .pointer (some ⟨g2, 0, none⟩)), (43, true, W x2), (44, true, .pointer (some ⟨g1, 8, none⟩)), (45, true, W z1), (46, true, W r15), (47, true, W r8), (48, true, W r16), (8, true, .pointer (some ⟨g17, 0, none⟩)), (2, true, .pointer (some ⟨g1, 0, none⟩)), (3, true, .pointer (some ⟨g2, 0, none⟩)), (4, true, .pointer (some ⟨g3, 0, none⟩)), (5, true, .pointer (some ⟨g10, 0, none⟩)), (6, true, .pointer (some ⟨g11, 0, none⟩)), (7, true, .pointer (some ⟨g14, 0, none⟩))] [(true, g1, 51, (TVl x1 y1 z1)), (true, g2, 51, (TVl x2 y2 z2)), (true, g3, 51, (TVl 0 0 0)), (true, g10, 24, (Wl r8)), (true, g11, 24, (Wl r9)), (true, g14, 24, (Wl r13)), (true, g17, 24, (Wl r16))] ac w := hs
      refine then_n ?_
      refine wp_seq ?_
      refine wp_seq ?_
      refine wp_region_lit ?_
      refine lstep (wpO_plain rfl (op_load hs none 6 (v := W r16) rfl rfl rfl rfl Try.isAgg24 Try.sizeOf24 rfl rfl fun ac hs => ?_))
      refine lstep (wpO_plain rfl (op_build hs none (qs := []) (v := .agg #[.int .u64 0, .int .u64 0, .int .u64 0, .int .u64 0]) rfl rfl rfl rfl (fun _ => by kernel_rfl) rfl fun ac hs => ?_))
      refine lstep (wpO_plain rfl (op_bin hs none (v := .bool (decide (r16 = 0))) rfl rfl rfl rfl (fun w => run_eqGuard_agg w .eql 24 _ _ _ _ Try.eqGuardType24) (eqlW r16 0 lr16 (by decide) _ rfl) rfl fun ac hs => ?_))
      refine wpList_nil ?_
      refine then_n ?_
      refine wp_cond_split (hs.ev rfl) (fun hc => ?_) (fun hc => ?_)
      · skip
        have hp18 := of_decide_eq_true hc
        refine wp_seq ?_
        refine wp_seq ?_
        refine wp_region_lit ?_
        refine lstep (wpO_plain rfl (op_load hs none 5 (v := W r13) rfl rfl rfl rfl Try.isAgg24 Try.sizeOf24 rfl rfl fun ac hs => ?_))
        refine lstep (wpO_plain rfl (op_build hs none (qs := []) (v := .agg #[.int .u64 0, .int .u64 0, .int .u64 0, .int .u64 0]) rfl rfl rfl rfl (fun _ => by kernel_rfl) rfl fun ac hs => ?_))
        refine lstep (wpO_plain rfl (op_bin hs none (v := .bool (decide (r13 = 0))) rfl rfl rfl rfl (fun w => run_eqGuard_agg w .eql 24 _ _ _ _ Try.eqGuardType24) (eqlW r13 0 lr13 (by decide) _ rfl) rfl fun ac hs => ?_))
        refine wpList_nil ?_
        refine then_n ?_
        refine wp_cond_split (hs.ev rfl) (fun hc => ?_) (fun hc => ?_)
        · skip
          have hp19 := of_decide_eq_true hc
          refine wp_seq ?_
          replace hs : St 100 w0 [(2, true, .pointer (some ⟨g1, 0, none⟩)), (3, true, .pointer (some ⟨g2, 0, none⟩)), (4, true, .pointer (some ⟨g3, 0, none⟩)), (5, true, .pointer (some ⟨g10, 0, none⟩)), (6, true, .pointer (some ⟨g11, 0, none⟩)), (7, true, .pointer (some ⟨g14, 0, none⟩)), (8, true, .pointer (some ⟨g17, 0, none⟩))] [(true, g1, 51, (TVl x1 y1 z1)), (true, g2, 51, (TVl x2 y2 z2)), (true, g3, 51, (TVl 0 0 0)), (true, g10, 24, (Wl r8)), (true, g11, 24, (Wl r9)), (true, g14, 24, (Wl r13)), (true, g17, 24, (Wl r16))] ac _ := hs.re ⟨rfl, rfl, rfl, rfl, rfl, rfl, rfl, trivial⟩
          refine wp_region_lit ?_
          refine lstep (wpO_plain rfl (op_load hs none 0 (v := TV x1 y1 z1) rfl rfl rfl rfl Try.isAgg51 Try.sizeOf51 rfl rfl fun ac hs => ?_))
          obtain ⟨X20, Y21, Z22, hX20, lX20, lY21, lZ22⟩ : ∃ zz0 zz1 zz2, tF x1 y1 z1 = (zz0, zz1, zz2) ∧ zz0 < 2 ^ 256 ∧ zz1 < 2 ^ 256 ∧ zz2 < 2 ^ 256 := tF_lt x1 y1 z1
          refine lstep (wpO_plain rfl (op_call (F := 39) hs none (v := TV X20 Y21 Z22) rfl rfl rfl rfl (Try.call39 _) (rtwice14_c x1 y1 z1 X20 Y21 Z22 a1 a2 a3 hX20) rfl fun ac w hs => ?_))
          refine lstep (wpO_plain rfl (op_store hs 2 (vs := (TVl X20 Y21 Z22)) rfl rfl rfl rfl rfl Try.sizeOf51 rfl rfl rfl rfl rfl fun w hs => ?_))
          refine wpList_nil ?_
          refine then_n ?_
          refine wp_ret ?_
          refine then_r ?_
          refine then_r ?_
          exact bodyPost_ret (res1 rfl (rv_c hs 2 (v := TV X20 Y21 Z22) rfl rfl Try.isAgg51 Try.sizeOf51 rfl)) hs.defers ⟨by subst hr8 hr9 hr12 hr13 hr15 hr16; obtain ⟨rfl, rfl, rfl⟩ := tri3 (hX20.symm.trans ((pF_3 hp5 hp7 hp18 hp19).symm.trans hE)); rfl, hs.below⟩
        · skip
          have hp23 := of_decide_eq_false hc
          refine wp_skip ?_
          refine then_n ?_
          refine wp_seq ?_
          replace hs : St 100 w0 [(2, true, .pointer (some ⟨g1, 0, none⟩)), (3, true, .pointer (some ⟨g2, 0, none⟩)), (4, true, .pointer (some ⟨g3, 0, none⟩)), (5, true, .pointer (some ⟨g10, 0, none⟩)), (6, true, .pointer (some ⟨g11, 0, none⟩)), (7, true, .pointer (some ⟨g14, 0, none⟩)), (8, true, .pointer (some ⟨g17, 0, none⟩))] [(true, g1, 51, (TVl x1 y1 z1)), (true, g2, 51, (TVl x2 y2 z2)), (true, g3, 51, (TVl 0 0 0)), (true, g10, 24, (Wl r8)), (true, g11, 24, (Wl r9)), (true, g14, 24, (Wl r13)), (true, g17, 24, (Wl r16))] ac _ := hs.re ⟨rfl, rfl, rfl, rfl, rfl, rfl, rfl, trivial⟩
          refine wp_region_lit ?_
          refine lstep (wpO_plain rfl (op_build hs none (qs := []) (v := TV 0 0 0) rfl rfl rfl rfl (fun _ => by kernel_rfl) rfl fun ac hs => ?_))
          refine lstep (wpO_plain rfl (op_store hs 2 (vs := (TVl 0 0 0)) rfl rfl rfl rfl rfl Try.sizeOf51 rfl rfl rfl rfl rfl fun w hs => ?_))
          refine wpList_nil ?_
          refine then_n ?_
          refine wp_ret ?_
          refine then_r ?_
          exact bodyPost_ret (res1 rfl (rv_c hs 2 (v := TV 0 0 0) rfl rfl Try.isAgg51 Try.sizeOf51 rfl)) hs.defers ⟨by subst hr8 hr9 hr12 hr13 hr15 hr16; obtain ⟨rfl, rfl, rfl⟩ := tri3 ((pF_4 hp5 hp7 hp18 hp23).symm.trans hE); rfl, hs.below⟩
      · skip
        have hp24 := of_decide_eq_false hc
        refine wp_skip ?_
        refine then_n ?_
        refine wp_seq ?_
        refine wp_region_lit ?_
        refine lstep (wpO_plain rfl (op_fieldA hs none rfl rfl rfl Try.underlying51 rfl Try.sizeOf24 (by decide) rfl fun ac hs => ?_))
        refine lstep (wpO_plain rfl (op_load hs none 0 (v := W z1) rfl rfl rfl rfl Try.isAgg24 Try.sizeOf24 rfl rfl fun ac hs => ?_))
        refine lstep (wpO_plain rfl (op_fieldA hs none rfl rfl rfl Try.underlying51 rfl Try.sizeOf24 (by decide) rfl fun ac hs => ?_))
        refine lstep (wpO_plain rfl (op_load hs none 1 (v := W z2) rfl rfl rfl rfl Try.isAgg24 Try.sizeOf24 rfl rfl fun ac hs => ?_))
        obtain ⟨r25, hr25, lr25⟩ : ∃ z0, z1 * z2 % Pf = z0 ∧ z0 < 2 ^ 256 := ⟨_, rfl, modP_lt _⟩
        refine lstep (wpO_plain rfl (op_call (F := 43) hs none (v := W r25) rfl rfl rfl rfl (Try.call43 _) (rfmul_c z1 z2 r25 a3 b3 hr25) rfl fun ac w hs => ?_))
        refine lstep (wpO_plain rfl (op_alloc hs none none (cs := [.int .u64 0, .int .u64 0, .int .u64 0, .int .u64 0]) rfl rfl Try.zeroValue24 (by kernel_rfl) rfl rfl fun g26 ac w hs => ?_))
        refine lstep (wpO_plain rfl (op_store hs 7 (vs := (Wl r25)) rfl rfl rfl rfl rfl Try.sizeOf24 rfl rfl rfl rfl rfl fun w hs => ?_))
        refine wpList_nil ?_
        refine then_n ?_
        refine wp_seq ?_
        replace hs : St 100 w0 [(4, true, .pointer (some ⟨g3, 0, none⟩)), (5, true, .pointer (some ⟨g10, 0, none⟩)), (6, true, .pointer (some ⟨g11, 0, none⟩)), (7, true, .pointer (some ⟨g14, 0, none⟩)), (8, true, .pointer (some ⟨g17, 0, none⟩)), (9, true, .pointer (some ⟨g26, 0, none⟩))] [(true, g1, 51, (TVl x1 y1 z1)), (true, g2, 51, (TVl x2 y2 z2)), (true, g3, 51, (TVl 0 0 0)), (true, g10, 24, (Wl r8)), (true, g11, 24, (Wl r9)), (true, g14, 24, (Wl r13)), (true, g17, 24, (Wl r16)), (true, g26, 24, (Wl r25))] ac _ := hs.re ⟨rfl, rfl, rfl, rfl, rfl, rfl, trivial⟩
        refine wp_region_lit ?_
        refine lstep (wpO_plain rfl (op_load hs none 6 (v := W r16) rfl rfl rfl rfl Try.isAgg24 Try.sizeOf24 rfl rfl fun ac hs => ?_))
        refine lstep (wpO_plain rfl (op_load hs none 6 (v := W r16) rfl rfl rfl rfl Try.isAgg24 Try.sizeOf24 rfl rfl fun ac hs => ?_))
        obtain ⟨r27, hr27, lr27⟩ : ∃ z0, r16 * r16 % Pf = z0 ∧ z0 < 2 ^ 256 := ⟨_, rfl, modP_lt _⟩
        refine lstep (wpO_plain rfl (op_call (F := 43) hs none (v := W r27) rfl rfl rfl rfl (Try.call43 _) (rfmul_c r16 r16 r27 lr16 lr16 hr27) rfl fun ac w hs => ?_))
        refine lstep (wpO_plain rfl (op_alloc hs none none (cs := [.int .u64 0, .int .u64 0, .int .u64 0, .int .u64 0]) rfl rfl Try.zeroValue24 (by kernel_rfl) rfl rfl fun g28 ac w hs => ?_))
        refine lstep (wpO_plain rfl (op_store hs 8 (vs := (Wl r27)) rfl rfl rfl rfl rfl Try.sizeOf24 rfl rfl rfl rfl rfl fun w hs => ?_))
        refine wpList_nil ?_
        refine then_n ?_
        refine wp_seq ?_
        refine wp_region_lit ?_
        refine lstep (wpO_plain rfl (op_load hs none 8 (v := W r27) rfl rfl rfl rfl Try.isAgg24 Try.sizeOf24 rfl rfl fun ac hs => ?_))
        refine lstep (wpO_plain rfl (op_load hs none 6 (v := W r16) rfl rfl rfl rfl Try.isAgg24 Try.sizeOf24 rfl rfl fun ac hs => ?_))
        obtain ⟨r29, hr29, lr29⟩ : ∃ z0, r27 * r16 % Pf = z0 ∧ z0 < 2 ^ 256 := ⟨_, rfl, modP_lt _⟩
        refine lstep (wpO_plain rfl (op_call (F := 43) hs none (v := W r29) rfl rfl rfl rfl (Try.call43 _) (rfmul_c r27 r16 r29 lr27 lr16 hr29) rfl fun ac w hs => ?_))
        refine lstep (wpO_plain rfl (op_alloc hs none none (cs := [.int .u64 0, .int .u64 0, .int .u64 0, .int .u64 0]) rfl rfl Try.zeroValue24 (by kernel_rfl) rfl rfl fun g30 ac w hs => ?_))
        refine lstep (wpO_plain rfl (op_store hs 9 (vs := (Wl r29)) rfl rfl rfl rfl rfl Try.sizeOf24 rfl rfl rfl rfl rfl fun w hs => ?_))
        refine wpList_nil ?_
        refine then_n ?_
        refine wp_seq ?_
        replace hs : St 100 w0 [(4, true, .pointer (some ⟨g3, 0, none⟩)), (5, true, .pointer (some ⟨g10, 0, none⟩)), (6, true, .pointer (some ⟨g11, 0, none⟩)), (7, true, .pointer (some ⟨g14, 0, none⟩)), (8, true, .pointer (some ⟨g17, 0, none⟩)), (9, true, .pointer (some ⟨g26, 0, none⟩)), (10, true, .pointer (some ⟨g28, 0, none⟩)), (11, true, .pointer (some ⟨g30, 0, none⟩))] [(true, g1, 51, (TVl x1 y1 z1)), (true, g2, 51, (TVl x2 y2 z2)), (true, g3, 51, (TVl 0 0 0)), (true, g10, 24, (Wl r8)), (true, g11, 24, (Wl r9)), (true, g14, 24, (Wl r13)), (true, g17, 24, (Wl r16)), (true, g26, 24, (Wl r25)), (true, g28, 24, (Wl r27)), (true, g30, 24, (Wl r29))] ac _ := hs.re ⟨rfl, rfl, rfl, rfl, rfl, rfl, rfl, rfl, trivial⟩
        refine wp_region_lit ?_
        refine lstep (wpO_plain rfl (op_load hs none 8 (v := W r27) rfl rfl rfl rfl Try.isAgg24 Try.sizeOf24 rfl rfl fun ac hs => ?_))
        refine lstep (wpO_plain rfl (op_load hs none 3 (v := W r8) rfl rfl rfl rfl Try.isAgg24 Try.sizeOf24 rfl rfl fun ac hs => ?_))
        obtain ⟨r31, hr31, lr31⟩ : ∃ z0, r27 * r8 % Pf = z0 ∧ z0 < 2 ^ 256 := ⟨_, rfl, modP_lt _⟩
        refine lstep (wpO_plain rfl (op_call (F := 43) hs none (v := W r31) rfl rfl rfl rfl (Try.call43 _) (rfmul_c r27 r8 r31 lr27 lr8 hr31) rfl fun ac w hs => ?_))
        refine lstep (wpO_plain rfl (op_alloc hs none none (cs := [.int .u64 0, .int .u64 0, .int .u64 0, .int .u64 0]) rfl rfl Try.zeroValue24 (by kernel_rfl) rfl rfl fun g32 ac w hs => ?_))
        refine lstep (wpO_plain rfl (op_store hs 10 (vs := (Wl r31)) rfl rfl rfl rfl rfl Try.sizeOf24 rfl rfl rfl rfl rfl fun w hs => ?_))
        refine wpList_nil ?_
        refine then_n ?_
        refine wp_seq ?_
        replace hs : St 100 w0 [(4, true, .pointer (some ⟨g3, 0, none⟩)), (6, true, .pointer (some ⟨g11, 0, none⟩)), (7, true, .pointer (some ⟨g14, 0, none⟩)), (8, true, .pointer (some ⟨g17, 0, none⟩)), (9, true, .pointer (some ⟨g26, 0, none⟩)), (11, true, .pointer (some ⟨g30, 0, none⟩)), (12, true, .pointer (some ⟨g32, 0, none⟩))] [(true, g1, 51, (TVl x1 y1 z1)), (true, g2, 51, (TVl x2 y2 z2)), (true, g3, 51, (TVl 0 0 0)), (true, g10, 24, (Wl r8)), (true, g11, 24, (Wl r9)), (true, g14, 24, (Wl r13)), (true, g17, 24, (Wl r16)), (true, g26, 24, (Wl r25)), (true, g28, 24, (Wl r27)), (true, g30, 24, (Wl r29)), (true, g32, 24, (Wl r31))] ac _ := hs.re ⟨rfl, rfl, rfl, rfl, rfl, rfl, rfl, trivial⟩
        obtain ⟨r33, hr33, lr33⟩ : ∃ z0, r13 * r13 % Pf = z0 ∧ z0 < 2 ^ 256 := ⟨_, rfl, modP_lt _⟩
        obtain ⟨r34, hr34, lr34⟩ : ∃ z0, r33 * r25 % Pf = z0 ∧ z0 < 2 ^ 256 := ⟨_, rfl, modP_lt _⟩
        obtain ⟨r35, hr35, lr35⟩ : ∃ z0, fsub r34 r29 = z0 ∧ z0 < 2 ^ 256 := ⟨_, rfl, fsub_lt _ _⟩
        obtain ⟨r36, hr36, lr36⟩ : ∃ z0, (r31 + r31) % Pf = z0 ∧ z0 < 2 ^ 256 := ⟨_, rfl, modP_lt _⟩
        obtain ⟨r37, hr37, lr37⟩ : ∃ z0, fsub r35 r36 = z0 ∧ z0 < 2 ^ 256 := ⟨_, rfl, fsub_lt _ _⟩
        refine region_inv [([], [2, 4, 6, 9, 10, 12]), ([], [2, 4, 6, 9, 10, 12]), ([0, 1], [4, 6, 9, 10, 12]), ([], [4, 6, 9, 10, 12]), ([0, 1, 2, 3], [6, 9, 10, 12]), ([], [6, 9, 10, 12]), ([0, 1, 2, 3, 4, 5], [9, 10, 12]), ([], [9, 10, 12]), ([], [9, 10, 12]), ([0, 1, 2, 3, 4, 5, 6, 7, 8], [10, 12]), ([0, 1, 2, 3, 4, 5, 6, 7, 8, 9], [12]), ([], [12]), ([0, 1, 2, 3, 4, 5, 6, 7, 8, 9, 10, 11], [])] (fun L ac w => ∃ (g38 : Nat), St 100 w0 [(72, L 0, W r13), (73, L 1, W r13), (74, L 2, W r33), (75, L 3, W r25), (76, L 4, W r34), (77, L 5, W r29), (78, L 6, W r35), (79, L 7, W r31), (80, L 8, W r31), (81, L 9, W r36), (82, L 10, W r37), (13, L 11, .pointer (some ⟨g38, 0, none⟩)), (4, true, .pointer (some ⟨g3, 0, none⟩)), (6, true, .pointer (some ⟨g11, 0, none⟩)), (7, true, .pointer (some ⟨g14, 0, none⟩)), (8, true, .pointer (some ⟨g17, 0, none⟩)), (9, true, .pointer (some ⟨g26, 0, none⟩)), (11, true, .pointer (some ⟨g30, 0, none⟩)), (12, true, .pointer (some ⟨g32, 0, none⟩))] [(true, g1, 51, (TVl x1 y1 z1)), (true, g2, 51, (TVl x2 y2 z2)), (true, g3, 51, (TVl 0 0 0)), (true, g10, 24, (Wl r8)), (true, g11, 24, (Wl r9)), (true, g14, 24, (Wl r13)), (true, g17, 24, (Wl r16)), (true, g26, 24, (Wl r25)), (true, g28, 24, (Wl r27)), (true, g30, 24, (Wl r29)), (true, g32, 24, (Wl r31)), (L 11, g38, 24, (cond (L 12) (Wl r37) [.int .u64 0, .int .u64 0, .int .u64 0, .int .u64 0]))] ac w) (by kernel_rfl) (by kernel_rfl) ?_ ?_ ?_
        · exact ⟨0, hs.drew.skip.skip.skip.skip.skip.skip.skip.skip.skip.skip.skip.skip.pad⟩
        · refine ⟨?_, ?_, ?_, ?_, ?_, ?_, ?_, ?_, ?_, ?_, ?_, ?_, ?_, trivial⟩
          · intro L ac w hJ
            obtain ⟨g38, hs⟩ := hJ
            refine wpO_plain rfl (op_load hs (some 0) 5 (v := W r13) rfl rfl rfl rfl Try.isAgg24 Try.sizeOf24 rfl rfl fun ac hs => ?_)
            exact ⟨g38, hs⟩
          · intro L ac w hJ
            obtain ⟨g38, hs⟩ := hJ
            refine wpO_plain rfl (op_load hs (some 1) 5 (v := W r13) rfl rfl rfl rfl Try.isAgg24 Try.sizeOf24 rfl rfl fun ac hs => ?_)
            exact ⟨g38, hs⟩
          · intro L ac w hJ
            obtain ⟨g38, hs⟩ := hJ
            refine wpO_plain rfl (op_call (F := 43) hs (some 2) (v := W r33) rfl rfl rfl rfl (Try.call43 _) (rfmul_c r13 r13 r33 lr13 lr13 hr33) rfl fun ac w hs => ?_)
            exact ⟨g38, hs⟩
          · intro L ac w hJ
            obtain ⟨g38, hs⟩ := hJ
            refine wpO_plain rfl (op_load hs (some 3) 7 (v := W r25) rfl rfl rfl rfl Try.isAgg24 Try.sizeOf24 rfl rfl fun ac hs => ?_)
            exact ⟨g38, hs⟩
          · intro L ac w hJ
            obtain ⟨g38, hs⟩ := hJ
            refine wpO_plain rfl (op_call (F := 43) hs (some 4) (v := W r34) rfl rfl rfl rfl (Try.call43 _) (rfmul_c r33 r25 r34 lr33 lr25 hr34) rfl fun ac w hs => ?_)
            exact ⟨g38, hs⟩
          · intro L ac w hJ
            obtain ⟨g38, hs⟩ := hJ
            refine wpO_plain rfl (op_load hs (some 5) 9 (v := W r29) rfl rfl rfl rfl Try.isAgg24 Try.sizeOf24 rfl rfl fun ac hs => ?_)
            exact ⟨g38, hs⟩
          · intro L ac w hJ
            obtain ⟨g38, hs⟩ := hJ
            refine wpO_plain rfl (op_call (F := 70) hs (some 6) (v := W r35) rfl rfl rfl rfl (Try.call70 _) (rfsub_c r34 r29 r35 lr34 lr29 hr35) rfl fun ac w hs => ?_)
            exact ⟨g38, hs⟩
          · intro L ac w hJ
            obtain ⟨g38, hs⟩ := hJ
            refine wpO_plain rfl (op_load hs (some 7) 10 (v := W r31) rfl rfl rfl rfl Try.isAgg24 Try.sizeOf24 rfl rfl fun ac hs => ?_)
            exact ⟨g38, hs⟩
          · intro L ac w hJ
            obtain ⟨g38, hs⟩ := hJ
            refine wpO_plain rfl (op_load hs (some 8) 10 (v := W r31) rfl rfl rfl rfl Try.isAgg24 Try.sizeOf24 rfl rfl fun ac hs => ?_)
            exact ⟨g38, hs⟩
          · intro L ac w hJ
            obtain ⟨g38, hs⟩ := hJ
            refine wpO_plain rfl (op_call (F := 71) hs (some 9) (v := W r36) rfl rfl rfl rfl (Try.call71 _) (rfadd_c r31 r31 r36 lr31 lr31 hr36) rfl fun ac w hs => ?_)
            exact ⟨g38, hs⟩
          · intro L ac w hJ
            obtain ⟨g38, hs⟩ := hJ
            refine wpO_plain rfl (op_call (F := 70) hs (some 10) (v := W r37) rfl rfl rfl rfl (Try.call70 _) (rfsub_c r35 r36 r37 lr35 lr36 hr37) rfl fun ac w hs => ?_)
            exact ⟨g38, hs⟩
          · intro L ac w hJ
            obtain ⟨g38, hs⟩ := hJ
            refine wpO_plain rfl (op_alloc hs (some 11) (some 11) (cs := [.int .u64 0, .int .u64 0, .int .u64 0, .int .u64 0]) rfl rfl Try.zeroValue24 (by kernel_rfl) rfl rfl fun g38 ac w hs => ?_)
            exact ⟨g38, hs⟩
          · intro L ac w hJ
            obtain ⟨g38, hs⟩ := hJ
            refine wpO_plain rfl (op_store hs 11 (vs := (Wl r37)) rfl rfl rfl rfl rfl Try.sizeOf24 rfl rfl rfl rfl rfl fun w hs => ?_)
            exact ⟨g38, hs⟩
        intro ac w hJ
        obtain ⟨g38, hs⟩ := hJ
        replace hs : St 100 w0 [(72, true, W r13), (73, true, W r13), (74, true, W r33), (75, true, W r25), (76, true, W r34), (77, true, W r29), (78, true, W r35), (79, true, W r31), (80, true, W r31), (81, true, W r36), (82, true, W r37), (13, true, .pointer (some ⟨g38, 0, none⟩)), (4, true, .pointer (some ⟨g3, 0, none⟩)), (6, true, .pointer (some ⟨g11, 0, none⟩)), (7, true, .pointer (some ⟨g14, 0, none⟩)), (8, true, .pointer (some ⟨g17, 0, none⟩)), (9, true, .pointer (some ⟨g26, 0, none⟩)), (11, true, .pointer (some ⟨g30, 0, none⟩)), (12, true, .pointer (some ⟨g32, 0, none⟩))] [(true, g1, 51, (TVl x1 y1 z1)), (true, g2, 51, (TVl x2 y2 z2)), (true, g3, 51, (TVl 0 0 0)), (true, g10, 24, (Wl r8)), (true, g11, 24, (Wl r9)), (true, g14, 24, (Wl r13)), (true, g17, 24, (Wl r16)), (true, g26, 24, (Wl r25)), (true, g28, 24, (Wl r27)), (true, g30, 24, (Wl r29)), (true, g32, 24, (Wl r31)), (true, g38, 24, (Wl r37))] ac w := hs
        refine then_n ?_
        refine wp_seq ?_
        replace hs : St 100 w0 [(4, true, .pointer (some ⟨g3, 0, none⟩)), (6, true, .pointer (some ⟨g11, 0, none⟩)), (7, true, .pointer (some ⟨g14, 0, none⟩)), (8, true, .pointer (some ⟨g17, 0, none⟩)), (9, true, .pointer (some ⟨g26, 0, none⟩)), (11, true, .pointer (some ⟨g30, 0, none⟩)), (12, true, .pointer (some ⟨g32, 0, none⟩)), (13, true, .pointer (some ⟨g38, 0, none⟩))] [(true, g1, 51, (TVl x1 y1 z1)), (true, g2, 51, (TVl x2 y2 z2)), (true, g3, 51, (TVl 0 0 0)), (true, g10, 24, (Wl r8)), (true, g11, 24, (Wl r9)), (true, g14, 24, (Wl r13)), (true, g17, 24, (Wl r16)), (true, g26, 24, (Wl r25)), (true, g28, 24, (Wl r27)), (true, g30, 24, (Wl r29)), (true, g32, 24, (Wl r31)), (true, g38, 24, (Wl r37))] ac _ := hs.re ⟨rfl, rfl, rfl, rfl, rfl, rfl, rfl, rfl, trivial⟩
        obtain ⟨r39, hr39, lr39⟩ : ∃ z0, fsub r31 r37 = z0 ∧ z0 < 2 ^ 256 := ⟨_, rfl, fsub_lt _ _⟩
        obtain ⟨r40, hr40, lr40⟩ : ∃ z0, r13 * r39 % Pf = z0 ∧ z0 < 2 ^ 256 := ⟨_, rfl, modP_lt _⟩
        obtain ⟨r41, hr41, lr41⟩ : ∃ z0, r29 * r9 % Pf = z0 ∧ z0 < 2 ^ 256 := ⟨_, rfl, modP_lt _⟩
        obtain ⟨r42, hr42, lr42⟩ : ∃ z0, fsub r40 r41 = z0 ∧ z0 < 2 ^ 256 := ⟨_, rfl, fsub_lt _ _⟩
        refine region_inv [([], [4, 7, 8, 10]), ([], [3, 4, 7, 8, 10]), ([], [3, 4, 7, 8, 10]), ([1, 2], [4, 7, 8, 10]), ([0, 1, 2, 3], [7, 8, 10]), ([], [7, 8, 10]), ([], [7, 8, 10]), ([0, 1, 2, 3, 4, 5, 6], [8, 10]), ([0, 1, 2, 3, 4, 5, 6, 7], [10]), ([], [10]), ([0, 1, 2, 3, 4, 5, 6, 7, 8, 9], [])] (fun L ac w => ∃ (g43 : Nat), St 100 w0 [(83, L 0, W r13), (84, L 1, W r31), (85, L 2, W r37), (86, L 3, W r39), (87, L 4, W r40), (88, L 5, W r29), (89, L 6, W r9), (90, L 7, W r41), (91, L 8, W r42), (14, L 9, .pointer (some ⟨g43, 0, none⟩)), (4, true, .pointer (some ⟨g3, 0, none⟩)), (6, true, .pointer (some ⟨g11, 0, none⟩)), (7, true, .pointer (some ⟨g14, 0, none⟩)), (8, true, .pointer (some ⟨g17, 0, none⟩)), (9, true, .pointer (some ⟨g26, 0, none⟩)), (11, true, .pointer (some ⟨g30, 0, none⟩)), (12, true, .pointer (some ⟨g32, 0, none⟩)), (13, true, .pointer (some ⟨g38, 0, none⟩))] [(true, g1, 51, (TVl x1 y1 z1)), (true, g2, 51, (TVl x2 y2 z2)), (true, g3, 51, (TVl 0 0 0)), (true, g10, 24, (Wl r8)), (true, g11, 24, (Wl r9)), (true, g14, 24, (Wl r13)), (true, g17, 24, (Wl r16)), (true, g26, 24, (Wl r25)), (true, g28, 24, (Wl r27)), (true, g30, 24, (Wl r29)), (true, g32, 24, (Wl r31)), (true, g38, 24, (Wl r37)), (L 9, g43, 24, (cond (L 10) (Wl r42) [.int .u64 0, .int .u64 0, .int .u64 0, .int .u64 0]))] ac w) (by kernel_rfl) (by kernel_rfl) ?_ ?_ ?_
        · exact ⟨0, hs.drew.skip.skip.skip.skip.skip.skip.skip.skip.skip.skip.pad⟩
        · refine ⟨?_, ?_, ?_, ?_, ?_, ?_, ?_, ?_, ?_, ?_, ?_, trivial⟩
          · intro L ac w hJ
            obtain ⟨g43, hs⟩ := hJ
            refine wpO_plain rfl (op_load hs (some 0) 5 (v := W r13) rfl rfl rfl rfl Try.isAgg24 Try.sizeOf24 rfl rfl fun ac hs => ?_)
            exact ⟨g43, hs⟩
          · intro L ac w hJ
            obtain ⟨g43, hs⟩ := hJ
            refine wpO_plain rfl (op_load hs (some 1) 10 (v := W r31) rfl rfl rfl rfl Try.isAgg24 Try.sizeOf24 rfl rfl fun ac hs => ?_)
            exact ⟨g43, hs⟩
          · intro L ac w hJ
            obtain ⟨g43, hs⟩ := hJ
            refine wpO_plain rfl (op_load hs (some 2) 11 (v := W r37) rfl rfl rfl rfl Try.isAgg24 Try.sizeOf24 rfl rfl fun ac hs => ?_)
            exact ⟨g43, hs⟩
          · intro L ac w hJ
            obtain ⟨g43, hs⟩ := hJ
            refine wpO_plain rfl (op_call (F := 70) hs (some 3) (v := W r39) rfl rfl rfl rfl (Try.call70 _) (rfsub_c r31 r37 r39 lr31 lr37 hr39) rfl fun ac w hs => ?_)
            exact ⟨g43, hs⟩
          · intro L ac w hJ
            obtain ⟨g43, hs⟩ := hJ
            refine wpO_plain rfl (op_call (F := 43) hs (some 4) (v := W r40) rfl rfl rfl rfl (Try.call43 _) (rfmul_c r13 r39 r40 lr13 lr39 hr40) rfl fun ac w hs => ?_)
            exact ⟨g43, hs⟩
          · intro L ac w hJ
            obtain ⟨g43, hs⟩ := hJ
            refine wpO_plain rfl (op_load hs (some 5) 9 (v := W r29) rfl rfl rfl rfl Try.isAgg24 Try.sizeOf24 rfl rfl fun ac hs => ?_)
            exact ⟨g43, hs⟩
          · intro L ac w hJ
            obtain ⟨g43, hs⟩ := hJ
            refine wpO_plain rfl (op_load hs (some 6) 4 (v := W r9) rfl rfl rfl rfl Try.isAgg24 Try.sizeOf24 rfl rfl fun ac hs => ?_)
            exact ⟨g43, hs⟩
          · intro L ac w hJ
            obtain ⟨g43, hs⟩ := hJ
            refine wpO_plain rfl (op_call (F := 43) hs (some 7) (v := W r41) rfl rfl rfl rfl (Try.call43 _) (rfmul_c r29 r9 r41 lr29 lr9 hr41) rfl fun ac w hs => ?_)
            exact ⟨g43, hs⟩
          · intro L ac w hJ
            obtain ⟨g43, hs⟩ := hJ
            refine wpO_plain rfl (op_call (F := 70) hs (some 8) (v := W r42) rfl rfl rfl rfl (Try.call70 _) (rfsub_c r40 r41 r42 lr40 lr41 hr42) rfl fun ac w hs => ?_)
            exact ⟨g43, hs⟩
          · intro L ac w hJ
            obtain ⟨g43, hs⟩ := hJ
            refine wpO_plain rfl (op_alloc hs (some 9) (some 12) (cs := [.int .u64 0, .int .u64 0, .int .u64 0, .int .u64 0]) rfl rfl Try.zeroValue24 (by kernel_rfl) rfl rfl fun g43 ac w hs => ?_)
            exact ⟨g43, hs⟩
          · intro L ac w hJ
            obtain ⟨g43, hs⟩ := hJ
            refine wpO_plain rfl (op_store hs 12 (vs := (Wl r42)) rfl rfl rfl rfl rfl Try.sizeOf24 rfl rfl rfl rfl rfl fun w hs => ?_)
            exact ⟨g43, hs⟩
        intro ac w hJ
        obtain ⟨g43, hs⟩ := hJ
        replace hs : St 100 w0 [(83, true, W r13), (84, true, W r31), (85, true, W r37), (86, true, W r39), (87, true, W r40), (88, true, W r29), (89, true, W r9), (90, true, W r41), (91, true, W r42), (14, true, .pointer (some ⟨g43, 0, none⟩)), (4, true, .pointer (some ⟨g3, 0, none⟩)), (6, true, .pointer (some ⟨g11, 0, none⟩)), (7, true, .pointer (some ⟨g14, 0, none⟩)), (8, true, .pointer (some ⟨g17, 0, none⟩)), (9, true, .pointer (some ⟨g26, 0, none⟩)), (11, true, .pointer (some ⟨g30, 0, none⟩)), (12, true, .pointer (some ⟨g32, 0, none⟩)), (13, true, .pointer (some ⟨g38, 0, none⟩))] [(true, g1, 51, (TVl x1 y1 z1)), (true, g2, 51, (TVl x2 y2 z2)), (true, g3, 51, (TVl 0 0 0)), (true, g10, 24, (Wl r8)), (true, g11, 24, (Wl r9)), (true, g14, 24, (Wl r13)), (true, g17, 24, (Wl r16)), (true, g26, 24, (Wl r25)), (true, g28, 24, (Wl r27)), (true, g30, 24, (Wl r29)), (true, g32, 24, (Wl r31)), (true, g38, 24, (Wl r37)), (true, g43, 24, (Wl r42))] ac w := hs
        refine then_n ?_
        refine wp_seq ?_
        replace hs : St 100 w0 [(4, true, .pointer (some ⟨g3, 0, none⟩)), (8, true, .pointer (some ⟨g17, 0, none⟩)), (9, true, .pointer (some ⟨g26, 0, none⟩)), (11, true, .pointer (some ⟨g30, 0, none⟩)), (13, true, .pointer (some ⟨g38, 0, none⟩)), (14, true, .pointer (some ⟨g43, 0, none⟩))] [(true, g1, 51, (TVl x1 y1 z1)), (true, g2, 51, (TVl x2 y2 z2)), (true, g3, 51, (TVl 0 0 0)), (true, g10, 24, (Wl r8)), (true, g11, 24, (Wl r9)), (true, g14, 24, (Wl r13)), (true, g17, 24, (Wl r16)), (true, g26, 24, (Wl r25)), (true, g28, 24, (Wl r27)), (true, g30, 24, (Wl r29)), (true, g32, 24, (Wl r31)), (true, g38, 24, (Wl r37)), (true, g43, 24, (Wl r42))] ac _ := hs.re ⟨rfl, rfl, rfl, rfl, rfl, rfl, trivial⟩
        obtain ⟨r44, hr44, lr44⟩ : ∃ z0, r16 * r37 % Pf = z0 ∧ z0 < 2 ^ 256 := ⟨_, rfl, modP_lt _⟩
        obtain ⟨r45, hr45, lr45⟩ : ∃ z0, r29 * r25 % Pf = z0 ∧ z0 < 2 ^ 256 := ⟨_, rfl, modP_lt _⟩
        refine region_inv [([], [2, 6, 7, 8]), ([], [2, 6, 7, 8]), ([0, 1], [6, 7, 8]), ([], [7, 8]), ([], [6, 7, 8]), ([], [6, 7, 8]), ([0, 1, 2, 4, 5], [7, 8]), ([0, 1, 2, 3, 4, 5, 6], [8]), ([0, 1, 2, 3, 4, 5, 6, 7], [])] (fun L ac w => St 100 w0 [(92, L 0, W r16), (93, L 1, W r37), (94, L 2, W r44), (95, L 3, W r42), (96, L 4, W r29), (97, L 5, W r25), (98, L 6, W r45), (99, L 7, TV r44 r42 r45), (4, true, .pointer (some ⟨g3, 0, none⟩)), (8, true, .pointer (some ⟨g17, 0, none⟩)), (9, true, .pointer (some ⟨g26, 0, none⟩)), (11, true, .pointer (some ⟨g30, 0, none⟩)), (13, true, .pointer (some ⟨g38, 0, none⟩)), (14, true, .pointer (some ⟨g43, 0, none⟩))] [(true, g1, 51, (TVl x1 y1 z1)), (true, g2, 51, (TVl x2 y2 z2)), (true, g3, 51, (cond (L 8) (TVl r44 r42 r45) (TVl 0 0 0))), (true, g10, 24, (Wl r8)), (true, g11, 24, (Wl r9)), (true, g14, 24, (Wl r13)), (true, g17, 24, (Wl r16)), (true, g26, 24, (Wl r25)), (true, g28, 24, (Wl r27)), (true, g30, 24, (Wl r29)), (true, g32, 24, (Wl r31)), (true, g38, 24, (Wl r37)), (true, g43, 24, (Wl r42))] ac w) (by kernel_rfl) (by kernel_rfl) ?_ ?_ ?_
        · exact hs.drew.skip.skip.skip.skip.skip.skip.skip.skip
        · refine ⟨?_, ?_, ?_, ?_, ?_, ?_, ?_, ?_, ?_, trivial⟩
          · intro L ac w hJ
            have hs := hJ
            refine wpO_plain rfl (op_load hs (some 0) 6 (v := W r16) rfl rfl rfl rfl Try.isAgg24 Try.sizeOf24 rfl rfl fun ac hs => ?_)
            exact hs
          · intro L ac w hJ
            have hs := hJ
            refine wpO_plain rfl (op_load hs (some 1) 11 (v := W r37) rfl rfl rfl rfl Try.isAgg24 Try.sizeOf24 rfl rfl fun ac hs => ?_)
            exact hs
          · intro L ac w hJ
            have hs := hJ
            refine wpO_plain rfl (op_call (F := 43) hs (some 2) (v := W r44) rfl rfl rfl rfl (Try.call43 _) (rfmul_c r16 r37 r44 lr16 lr37 hr44) rfl fun ac w hs => ?_)
            exact hs
          · intro L ac w hJ
            have hs := hJ
            refine wpO_plain rfl (op_load hs (some 3) 12 (v := W r42) rfl rfl rfl rfl Try.isAgg24 Try.sizeOf24 rfl rfl fun ac hs => ?_)
            exact hs
          · intro L ac w hJ
            have hs := hJ
            refine wpO_plain rfl (op_load hs (some 4) 9 (v := W r29) rfl rfl rfl rfl Try.isAgg24 Try.sizeOf24 rfl rfl fun ac hs => ?_)
            exact hs
          · intro L ac w hJ
            have hs := hJ
            refine wpO_plain rfl (op_load hs (some 5) 7 (v := W r25) rfl rfl rfl rfl Try.isAgg24 Try.sizeOf24 rfl rfl fun ac hs => ?_)
            exact hs
          · intro L ac w hJ
            have hs := hJ
            refine wpO_plain rfl (op_call (F := 43) hs (some 6) (v := W r45) rfl rfl rfl rfl (Try.call43 _) (rfmul_c r29 r25 r45 lr29 lr25 hr45) rfl fun ac w hs => ?_)
            exact hs
          · intro L ac w hJ
            have hs := hJ
            refine wpO_plain rfl (op_build hs (some 7) (qs := [(0, W r44), (1, W r42), (2, W r45)]) (v := TV r44 r42 r45) rfl rfl rfl rfl (fun _ => by kernel_rfl) rfl fun ac hs => ?_)
            exact hs
          · intro L ac w hJ
            have hs := hJ
            refine wpO_plain rfl (op_store hs 2 (vs := (TVl r44 r42 r45)) rfl rfl rfl rfl rfl Try.sizeOf51 rfl rfl rfl rfl rfl fun w hs => ?_)
            exact hs
        intro ac w hJ
        replace hs : St 100 w0 [(92, true, W r16), (93, true, W r37), (94, true, W r44), (95, true, W r42), (96, true, W r29), (97, true, W r25), (98, true, W r45), (99, true, TV r44 r42 r45), (4, true, .pointer (some ⟨g3, 0, none⟩)), (8, true, .pointer (some ⟨g17, 0, none⟩)), (9, true, .pointer (some ⟨g26, 0, none⟩)), (11, true, .pointer (some ⟨g30, 0, none⟩)), (13, true, .pointer (some ⟨g38, 0, none⟩)), (14, true, .pointer (some ⟨g43, 0, none⟩))] [(true, g1, 51, (TVl x1 y1 z1)), (true, g2, 51, (TVl x2 y2 z2)), (true, g3, 51, (TVl r44 r42 r45)), (true, g10, 24, (Wl r8)), (true, g11, 24, (Wl r9)), (true, g14, 24, (Wl r13)), (true, g17, 24, (Wl r16)), (true, g26, 24, (Wl r25)), (true, g28, 24, (Wl r27)), (true, g30, 24, (Wl r29)), (true, g32, 24, (Wl r31)), (true, g38, 24, (Wl r37)), (true, g43, 24, (Wl r42))] ac w := hJ
        refine then_n ?_
        refine wp_ret ?_
        exact bodyPost_ret (res1 rfl (rv_c hs 2 (v := TV r44 r42 r45) rfl rfl Try.isAgg51 Try.sizeOf51 rfl)) hs.defers ⟨by subst hr8 hr9 hr12 hr13 hr15 hr16 hr25 hr27 hr29 hr31 hr33 hr34 hr35 hr36 hr37 hr39 hr40 hr41 hr42 hr44 hr45; obtain ⟨rfl, rfl, rfl⟩ := tri3 ((pF_5 hp5 hp7 hp24).symm.trans hE); rfl, hs.below⟩
theorem rmul14_c (a x y : Nat) (z : Bool) (P T : EM.Pt Pf) (ha : a < 2 ^ 256) (hx : x < 2 ^ 256) (hy : y < 2 ^ 256) (hP : ptOf x y z = P) (hT : EM.nmul a P = T) (w0 : World) : Calls Try.prog 14 #[W a, PV x y z] w0 fun e w' => e = .returned (PV (px T) (py T) (pz T)) ∧ Below w0.heap.size w0 w' := by
  have oP : P.on := by rw [← hP]; exact pt_on x y z
  refine enter (n := 54) (args := [W a, PV x y z]) Try.func14 rfl rfl (Nat.le_of_ble_eq_true rfl) fun ac hs => ?_
  refine wp_seq ?_
  refine wp_region_lit ?_
  refine lstep (wpO_plain rfl (op_box hs none none (cs := (Wl a)) rfl rfl rfl rfl rfl rfl fun g1 ac w hs => ?_))
  refine lstep (wpO_plain rfl (op_box hs none none (cs := (PVl x y z)) rfl rfl rfl rfl rfl rfl fun g2 ac w hs => ?_))
  refine lstep (wpO_plain rfl (op_alloc hs none none (cs := (PVl 0 0 false)) rfl rfl Try.zeroValue26 (by kernel_rfl) rfl rfl fun g3 ac w hs => ?_))
  refine wpList_nil ?_
  refine then_n ?_
  refine wp_seq ?_
  refine wp_region_lit ?_
  refine lstep (wpO_plain rfl (op_load hs none 1 (v := PV x y z) rfl rfl rfl rfl Try.isAgg26 Try.sizeOf26 rfl rfl fun ac hs => ?_))
  refine lstep (wpO_plain rfl (op_call (F := 36) hs none (v := PV (px P) (py P) (pz P)) rfl rfl rfl rfl (Try.call36 _) (own_c x y z P hx hy hP) rfl fun ac w hs => ?_))
  refine lstep (wpO_plain rfl (op_store hs 1 (vs := (PVl (px P) (py P) (pz P))) rfl rfl rfl rfl rfl Try.sizeOf26 rfl rfl rfl rfl rfl fun w hs => ?_))
  refine wpList_nil ?_
  refine then_n ?_
  refine wp_seq ?_
  replace hs : St 54 w0 [(2, true, .pointer (some ⟨g1, 0, none⟩)), (3, true, .pointer (some ⟨g2, 0, none⟩)), (4, true, .pointer (some ⟨g3, 0, none⟩))] [(true, g1, 24, (Wl a)), (true, g2, 26, (PVl (px P) (py P) (pz P))), (true, g3, 26, (PVl 0 0 false))] ac _ := hs.re ⟨rfl, rfl, rfl, trivial⟩
  refine wp_region_lit ?_
  refine lstep (wpO_plain rfl (op_fieldA hs none rfl rfl rfl Try.underlying26 rfl Try.sizeOf24 (by decide) rfl fun ac hs => ?_))
  refine lstep (wpO_plain rfl (op_load hs none 1 (v := W (px P)) rfl rfl rfl rfl Try.isAgg24 Try.sizeOf24 rfl rfl fun ac hs => ?_))
  refine lstep (wpO_plain rfl (op_fieldA hs none rfl rfl rfl Try.underlying26 rfl Try.sizeOf24 (by decide) rfl fun ac hs => ?_))
  refine lstep (wpO_plain rfl (op_load hs none 1 (v := W (py P)) rfl rfl rfl rfl Try.isAgg24 Try.sizeOf24 rfl rfl fun ac hs => ?_))
  refine lstep (wpO_plain rfl (op_build hs none (qs := [(0, .int .u64 1)]) (v := .agg #[.int .u64 1, .int .u64 0, .int .u64 0, .int .u64 0]) rfl rfl rfl rfl (fun _ => by kernel_rfl) rfl fun ac hs => ?_))
  refine lstep (wpO_plain rfl (op_build hs none (qs := [(0, W (px P)), (1, W (py P)), (2, .agg #[.int .u64 1, .int .u64 0, .int .u64 0, .int .u64 0])]) (v := .agg #[.int .u64 (lim (px P) 0), .int .u64 (lim (px P) 1), .int .u64 (lim (px P) 2), .int .u64 (lim (px P) 3), .int .u64 (lim (py P) 0), .int .u64 (lim (py P) 1), .int .u64 (lim (py P) 2), .int .u64 (lim (py P) 3), .int .u64 1, .int .u64 0, .int .u64 0, .int .u64 0]) rfl rfl rfl rfl (fun _ => by kernel_rfl) rfl fun ac hs => ?_))
  refine lstep (wpO_plain rfl (op_alloc hs none none (cs := (TVl 0 0 0)) rfl rfl Try.zeroValue51 (by kernel_rfl) rfl rfl fun g4 ac w hs => ?_))
  refine lstep (wpO_plain rfl (op_store hs 3 (vs := [.int .u64 (lim (px P) 0), .int .u64 (lim (px P) 1), .int .u64 (lim (px P) 2), .int .u64 (lim (px P) 3), .int .u64 (lim (py P) 0), .int .u64 (lim (py P) 1), .int .u64 (lim (py P) 2), .int .u64 (lim (py P) 3), .int .u64 1, .int .u64 0, .int .u64 0, .int .u64 0]) rfl rfl rfl rfl rfl Try.sizeOf51 rfl rfl rfl rfl rfl fun w hs => ?_))
  refine wpList_nil ?_
  refine then_n ?_
  refine wp_seq ?_
  refine wp_seq ?_
  replace hs : St 54 w0 [(2, true, .pointer (some ⟨g1, 0, none⟩)), (3, true, .pointer (some ⟨g2, 0, none⟩)), (4, true, .pointer (some ⟨g3, 0, none⟩)), (5, true, .pointer (some ⟨g4, 0, none⟩))] [(true, g1, 24, (Wl a)), (true, g2, 26, (PVl (px P) (py P) (pz P))), (true, g3, 26, (PVl 0 0 false)), (true, g4, 51, [.int .u64 (lim (px P) 0), .int .u64 (lim (px P) 1), .int .u64 (lim (px P) 2), .int .u64 (lim (px P) 3), .int .u64 (lim (py P) 0), .int .u64 (lim (py P) 1), .int .u64 (lim (py P) 2), .int .u64 (lim (py P) 3), .int .u64 1, .int .u64 0, .int .u64 0, .int .u64 0])] ac _ := hs.re ⟨rfl, rfl, rfl, rfl, trivial⟩
  refine wp_region_lit ?_
  refine lstep (wpO_plain rfl (op_fieldA hs none rfl rfl rfl Try.underlying26 rfl Try.sizeOf4 (by decide) rfl fun ac hs => ?_))
  refine lstep (wpO_plain rfl (op_load hs none 1 (v := .bool (pz P)) rfl rfl rfl rfl Try.isAgg4 Try.sizeOf4 rfl rfl fun ac hs => ?_))
  refine wpList_nil ?_
  refine then_n ?_
  refine wp_cond_split (hs.ev rfl) (fun hc => ?_) (fun hc => ?_)
  · skip
    have hzP := hc
    refine wp_region_lit ?_
    refine lstep (wpO_plain rfl (op_build hs none (qs := []) (v := TV 0 0 0) rfl rfl rfl rfl (fun _ => by kernel_rfl) rfl fun ac hs => ?_))
    refine lstep (wpO_plain rfl (op_store hs 3 (vs := (TVl 0 0 0)) rfl rfl rfl rfl rfl Try.sizeOf51 rfl rfl rfl rfl rfl fun w hs => ?_))
    refine wpList_nil ?_
    refine then_n ?_
    refine wp_seq ?_
    refine wp_region_lit ?_
    refine lstep (wpO_plain rfl (op_build hs none (qs := []) (v := TV 0 0 0) rfl rfl rfl rfl (fun _ => by kernel_rfl) rfl fun ac hs => ?_))
    refine lstep (wpO_plain rfl (op_alloc hs none none (cs := (TVl 0 0 0)) rfl rfl Try.zeroValue51 (by kernel_rfl) rfl rfl fun g5 ac w hs => ?_))
    refine lstep (wpO_plain rfl (op_store hs 4 (vs := (TVl 0 0 0)) rfl rfl rfl rfl rfl Try.sizeOf51 rfl rfl rfl rfl rfl fun w hs => ?_))
    refine wpList_nil ?_
    refine then_n ?_
    refine wp_seq ?_
    refine wp_seq ?_
    replace hs : St 54 w0 [(2, true, .pointer (some ⟨g1, 0, none⟩)), (4, true, .pointer (some ⟨g3, 0, none⟩)), (5, true, .pointer (some ⟨g4, 0, none⟩)), (6, true, .pointer (some ⟨g5, 0, none⟩))] [(true, g1, 24, (Wl a)), (true, g2, 26, (PVl (px P) (py P) (pz P))), (true, g3, 26, (PVl 0 0 false)), (true, g4, 51, (TVl 0 0 0)), (true, g5, 51, (TVl 0 0 0))] ac _ := hs.re ⟨rfl, rfl, rfl, rfl, trivial⟩
    refine wp_region_lit ?_
    refine lstep (wpO_plain rfl (op_load hs none 0 (v := W a) rfl rfl rfl rfl Try.isAgg24 Try.sizeOf24 rfl rfl fun ac hs => ?_))
    have ll6 := ln_le a 256 ha
    refine lstep (wpO_plain rfl (op_call (F := 38) hs none (v := .int .i64 ((ln a : Nat) : Int)) rfl rfl rfl rfl (Try.call38 _) (fun w => lenR_any w a ha) rfl fun ac w hs => ?_))
    refine lstep (wpO_plain rfl (op_bin hs none (v := .int .i64 (((ln a : Nat) : Int) - 1)) rfl rfl rfl rfl (fun _ => rfl) (bin_subP (x := ln a) (by omega)) rfl fun ac hs => ?_))
    refine lstep (wpO_plain rfl (op_assign hs none rfl rfl rfl rfl fun ac hs => ?_))
    refine wpList_nil ?_
    refine then_n ?_
    refine wp_block ?_
    refine wp_loop_m (fun μ ac w => ∃ (k : Nat) (ox : Nat) (oy : Nat) (oz : Nat), (k) = μ ∧ (k ≤ 256) ∧ (FN ox oy oz (EM.nmul (a / 2 ^ k) P)) ∧ (ox < 2 ^ 256) ∧ (oy < 2 ^ 256) ∧ (oz < 2 ^ 256) ∧ St 54 w0 [(2, true, .pointer (some ⟨g1, 0, none⟩)), (4, true, .pointer (some ⟨g3, 0, none⟩)), (5, true, .pointer (some ⟨g4, 0, none⟩)), (6, true, .pointer (some ⟨g5, 0, none⟩)), (7, true, .int .i64 (((k : Nat) : Int) - 1))] [(true, g1, 24, (Wl a)), (true, g2, 26, (PVl (px P) (py P) (pz P))), (true, g3, 26, (PVl 0 0 false)), (true, g4, 51, (TVl 0 0 0)), (true, g5, 51, (TVl ox oy oz))] ac w) ?_ ?_
    · exact ⟨_, (ln a), 0, 0, 0, rfl, (ln_le a 256 ha), (fn_start (ln_spec a).1), (by decide), (by decide), (by decide), (hs.re ⟨rfl, rfl, rfl, rfl, rfl, trivial⟩)⟩
    intro μ ac w ⟨k, ox, oy, oz, hμ, hk, hJn, lx, ly, lz, hs⟩
    refine wp_seq ?_
    refine wp_seq ?_
    refine wp_region_lit ?_
    refine lstep (wpO_plain rfl (op_move hs none rfl rfl rfl rfl fun ac hs => ?_))
    refine lstep (wpO_plain rfl (op_bin hs none (v := .bool (decide (1 ≤ k))) rfl rfl rfl rfl (fun _ => rfl) bin_geqP rfl fun ac hs => ?_))
    refine wpList_nil ?_
    refine then_n ?_
    refine wp_cond_split (hs.ev rfl) (fun hc => ?_) (fun hc => ?_)
    · skip
      have hp7 := of_decide_eq_true hc
      replace hs := hs.re (fs' := [(2, true, .pointer (some ⟨g1, 0, none⟩)), (4, true, .pointer (some ⟨g3, 0, none⟩)), (5, true, .pointer (some ⟨g4, 0, none⟩)), (6, true, .pointer (some ⟨g5, 0, none⟩)), (7, true, .int .i64 ((k - 1 : Nat) : Int)), (24, true, .int .i64 (((k : Nat) : Int) - 1)), (25, true, .bool (decide (1 ≤ k)))]) ⟨rfl, rfl, rfl, rfl, congrArg some (pre_nat hp7), rfl, rfl, trivial⟩
      refine wp_skip ?_
      refine then_n ?_
      refine wp_seq ?_
      refine wp_block ?_
      refine wp_seq ?_
      refine wp_region_lit ?_
      refine lstep (wpO_plain rfl (op_load hs none 4 (v := TV ox oy oz) rfl rfl rfl rfl Try.isAgg51 Try.sizeOf51 rfl rfl fun ac hs => ?_))
      obtain ⟨X8, Y9, Z10, hX8, lX8, lY9, lZ10⟩ : ∃ zz0 zz1 zz2, tF ox oy oz = (zz0, zz1, zz2) ∧ zz0 < 2 ^ 256 ∧ zz1 < 2 ^ 256 ∧ zz2 < 2 ^ 256 := tF_lt ox oy oz
      refine lstep (wpO_plain rfl (op_call (F := 39) hs none (v := TV X8 Y9 Z10) rfl rfl rfl rfl (Try.call39 _) (rtwice14_c ox oy oz X8 Y9 Z10 lx ly lz hX8) rfl fun ac w hs => ?_))
      refine lstep (wpO_plain rfl (op_store hs 4 (vs := (TVl X8 Y9 Z10)) rfl rfl rfl rfl rfl Try.sizeOf51 rfl rfl rfl rfl rfl fun w hs => ?_))
      refine wpList_nil ?_
      refine then_n ?_
      refine wp_seq ?_
      refine wp_region_lit ?_
      refine lstep (wpO_plain rfl (op_load hs none 0 (v := W a) rfl rfl rfl rfl Try.isAgg24 Try.sizeOf24 rfl rfl fun ac hs => ?_))
      refine lstep (wpO_plain rfl (op_move hs none rfl rfl rfl rfl fun ac hs => ?_))
      obtain ⟨b11, hb11⟩ : ∃ z0, a / 2 ^ (k - 1) % 2 = z0 := ⟨_, rfl⟩
      have lb11 := bit_le hb11
      refine lstep (wpO_plain rfl (op_call (F := 40) hs none (v := .int .u64 ((b11 : Nat) : Int)) rfl rfl rfl rfl (Try.call40 _) (rbit_c a (k - 1) b11 (show k - 1 < 256 by omega) hb11) rfl fun ac w hs => ?_))
      refine lstep (wpO_plain rfl (op_bin hs none (v := .bool (decide (b11 = 1))) rfl rfl rfl rfl (fun _ => rfl) (bin_eqlN (x := b11) (y := 1)) rfl fun ac hs => ?_))
      refine wpList_nil ?_
      refine then_n ?_
      refine wp_cond_split (hs.ev rfl) (fun hc => ?_) (fun hc => ?_)
      · skip
        have hp12 := of_decide_eq_true hc
        replace hs : St 54 w0 [(2, true, .pointer (some ⟨g1, 0, none⟩)), (4, true, .pointer (some ⟨g3, 0, none⟩)), (5, true, .pointer (some ⟨g4, 0, none⟩)), (6, true, .pointer (some ⟨g5, 0, none⟩)), (7, true, .int .i64 ((k - 1 : Nat) : Int))] [(true, g1, 24, (Wl a)), (true, g2, 26, (PVl (px P) (py P) (pz P))), (true, g3, 26, (PVl 0 0 false)), (true, g4, 51, (TVl 0 0 0)), (true, g5, 51, (TVl X8 Y9 Z10))] ac _ := hs.re ⟨rfl, rfl, rfl, rfl, rfl, trivial⟩
        refine wp_region_lit ?_
        refine lstep (wpO_plain rfl (op_load hs none 4 (v := TV X8 Y9 Z10) rfl rfl rfl rfl Try.isAgg51 Try.sizeOf51 rfl rfl fun ac hs => ?_))
        refine lstep (wpO_plain rfl (op_load hs none 3 (v := TV 0 0 0) rfl rfl rfl rfl Try.isAgg51 Try.sizeOf51 rfl rfl fun ac hs => ?_))
        obtain ⟨X13, Y14, Z15, hX13, lX13, lY14, lZ15⟩ : ∃ zz0 zz1 zz2, pF X8 Y9 Z10 0 0 0 = (zz0, zz1, zz2) ∧ zz0 < 2 ^ 256 ∧ zz1 < 2 ^ 256 ∧ zz2 < 2 ^ 256 := pF_lt X8 Y9 Z10 0 0 0 lX8 lY9 lZ10 (by decide) (by decide) (by decide)
        refine lstep (wpO_plain rfl (op_call (F := 41) hs none (v := TV X13 Y14 Z15) rfl rfl rfl rfl (Try.call41 _) (rplus_c X8 Y9 Z10 0 0 0 X13 Y14 Z15 lX8 lY9 lZ10 (by decide) (by decide) (by decide) hX13) rfl fun ac w hs => ?_))
        refine lstep (wpO_plain rfl (op_store hs 4 (vs := (TVl X13 Y14 Z15)) rfl rfl rfl rfl rfl Try.sizeOf51 rfl rfl rfl rfl rfl fun w hs => ?_))
        refine wpList_nil ?_
        refine blk_n ?_
        refine then_n ?_
        refine wp_region_lit ?_
        refine lstep (wpO_plain rfl (op_move hs none rfl rfl rfl rfl fun ac hs => ?_))
        refine lstep (wpO_plain rfl (op_bin hs none (v := .int .i64 (((k - 1 : Nat) : Int) - 1)) rfl rfl rfl rfl (fun _ => rfl) (bin_subP (x := k - 1) (by omega)) rfl fun ac hs => ?_))
        refine lstep (wpO_plain rfl (op_assign hs none rfl rfl rfl rfl fun ac hs => ?_))
        refine wpList_nil ?_
        refine then_n ?_
        exact ⟨_, ⟨(k - 1), X13, Y14, Z15, rfl, (by omega), (oneT oP hp7 (hb11.trans hp12) (pF_fn (tF_fn hJn hX8) (frac_zero hzP) hX13)), lX13, lY14, lZ15, (hs.re ⟨rfl, rfl, rfl, rfl, rfl, trivial⟩)⟩, (by omega)⟩
      · skip
        have hp16 := of_decide_eq_false hc
        refine wp_skip ?_
        refine blk_n ?_
        refine then_n ?_
        replace hs : St 54 w0 [(2, true, .pointer (some ⟨g1, 0, none⟩)), (4, true, .pointer (some ⟨g3, 0, none⟩)), (5, true, .pointer (some ⟨g4, 0, none⟩)), (6, true, .pointer (some ⟨g5, 0, none⟩)), (7, true, .int .i64 ((k - 1 : Nat) : Int))] [(true, g1, 24, (Wl a)), (true, g2, 26, (PVl (px P) (py P) (pz P))), (true, g3, 26, (PVl 0 0 false)), (true, g4, 51, (TVl 0 0 0)), (true, g5, 51, (TVl X8 Y9 Z10))] ac _ := hs.re ⟨rfl, rfl, rfl, rfl, rfl, trivial⟩
        refine wp_region_lit ?_
        refine lstep (wpO_plain rfl (op_move hs none rfl rfl rfl rfl fun ac hs => ?_))
        refine lstep (wpO_plain rfl (op_bin hs none (v := .int .i64 (((k - 1 : Nat) : Int) - 1)) rfl rfl rfl rfl (fun _ => rfl) (bin_subP (x := k - 1) (by omega)) rfl fun ac hs => ?_))
        refine lstep (wpO_plain rfl (op_assign hs none rfl rfl rfl rfl fun ac hs => ?_))
        refine wpList_nil ?_
        refine then_n ?_
        exact ⟨_, ⟨(k - 1), X8, Y9, Z10, rfl, (by omega), (oneF oP hp7 (fun h => hp16 (hb11.symm.trans h)) (tF_fn hJn hX8)), lX8, lY9, lZ10, (hs.re ⟨rfl, rfl, rfl, rfl, rfl, trivial⟩)⟩, (by omega)⟩
    · skip
      have hp17 := of_decide_eq_false hc
      obtain rfl : k = 0 := by omega
      have hF : FN ox oy oz T := by rw [← hT]; rw [Nat.pow_zero, Nat.div_one] at hJn; exact hJn
      refine wp_exit ?_
      refine then_e ?_
      refine then_e ?_
      refine blk_e ?_
      refine then_n ?_
      refine wp_seq ?_
      refine wp_seq ?_
      refine wp_region_lit ?_
      refine lstep (wpO_plain rfl (op_fieldA hs none rfl rfl rfl Try.underlying51 rfl Try.sizeOf24 (by decide) rfl fun ac hs => ?_))
      refine lstep (wpO_plain rfl (op_load hs none 4 (v := W oz) rfl rfl rfl rfl Try.isAgg24 Try.sizeOf24 rfl rfl fun ac hs => ?_))
      refine lstep (wpO_plain rfl (op_build hs none (qs := []) (v := .agg #[.int .u64 0, .int .u64 0, .int .u64 0, .int .u64 0]) rfl rfl rfl rfl (fun _ => by kernel_rfl) rfl fun ac hs => ?_))
      refine lstep (wpO_plain rfl (op_bin hs none (v := .bool (decide (oz = 0))) rfl rfl rfl rfl (fun w => run_eqGuard_agg w .eql 24 _ _ _ _ Try.eqGuardType24) (eqlW oz 0 lz (by decide) _ rfl) rfl fun ac hs => ?_))
      refine wpList_nil ?_
      refine then_n ?_
      refine wp_cond_split (hs.ev rfl) (fun hc => ?_) (fun hc => ?_)
      · skip
        have hp18 := of_decide_eq_true hc
        refine wp_seq ?_
        replace hs : St 54 w0 [(4, true, .pointer (some ⟨g3, 0, none⟩)), (6, true, .pointer (some ⟨g5, 0, none⟩))] [(true, g1, 24, (Wl a)), (true, g2, 26, (PVl (px P) (py P) (pz P))), (true, g3, 26, (PVl 0 0 false)), (true, g4, 51, (TVl 0 0 0)), (true, g5, 51, (TVl ox oy oz))] ac _ := hs.re ⟨rfl, rfl, trivial⟩
        refine wp_region_lit ?_
        refine lstep (wpO_plain rfl (op_build hs none (qs := [(2, .bool true)]) (v := PV 0 0 true) rfl rfl rfl rfl (fun _ => by kernel_rfl) rfl fun ac hs => ?_))
        refine lstep (wpO_plain rfl (op_store hs 2 (vs := (PVl 0 0 true)) rfl rfl rfl rfl rfl Try.sizeOf26 rfl rfl rfl rfl rfl fun w hs => ?_))
        refine wpList_nil ?_
        refine then_n ?_
        refine wp_ret ?_
        refine then_r ?_
        exact bodyPost_ret (res1 rfl (rv_c hs 2 (v := PV 0 0 true) rfl rfl Try.isAgg26 Try.sizeOf26 rfl)) hs.defers ⟨by rw [fn_zero hF hp18]; first | done | rfl, hs.below⟩
      · skip
        have hp19 := of_decide_eq_false hc
        refine wp_skip ?_
        refine then_n ?_
        refine wp_seq ?_
        replace hs : St 54 w0 [(4, true, .pointer (some ⟨g3, 0, none⟩)), (6, true, .pointer (some ⟨g5, 0, none⟩))] [(true, g1, 24, (Wl a)), (true, g2, 26, (PVl (px P) (py P) (pz P))), (true, g3, 26, (PVl 0 0 false)), (true, g4, 51, (TVl 0 0 0)), (true, g5, 51, (TVl ox oy oz))] ac _ := hs.re ⟨rfl, rfl, trivial⟩
        refine wp_region_lit ?_
        refine lstep (wpO_plain rfl (op_fieldA hs none rfl rfl rfl Try.underlying51 rfl Try.sizeOf24 (by decide) rfl fun ac hs => ?_))
        refine lstep (wpO_plain rfl (op_load hs none 4 (v := W oz) rfl rfl rfl rfl Try.isAgg24 Try.sizeOf24 rfl rfl fun ac hs => ?_))
        obtain ⟨r20, hr20, lr20⟩ : ∃ z0, pinv Pf oz = z0 ∧ z0 < 2 ^ 256 := ⟨_, rfl, modP_lt _⟩
        refine lstep (wpO_plain rfl (op_call (F := 42) hs none (v := W r20) rfl rfl rfl rfl (Try.call42 _) (rfinv_c oz r20 lz hr20) rfl fun ac w hs => ?_))
        refine lstep (wpO_plain rfl (op_alloc hs none none (cs := [.int .u64 0, .int .u64 0, .int .u64 0, .int .u64 0]) rfl rfl Try.zeroValue24 (by kernel_rfl) rfl rfl fun g21 ac w hs => ?_))
        refine lstep (wpO_plain rfl (op_store hs 5 (vs := (Wl r20)) rfl rfl rfl rfl rfl Try.sizeOf24 rfl rfl rfl rfl rfl fun w hs => ?_))
        refine wpList_nil ?_
        refine then_n ?_
        refine wp_seq ?_
        replace hs : St 54 w0 [(4, true, .pointer (some ⟨g3, 0, none⟩)), (6, true, .pointer (some ⟨g5, 0, none⟩)), (8, true, .pointer (some ⟨g21, 0, none⟩))] [(true, g1, 24, (Wl a)), (true, g2, 26, (PVl (px P) (py P) (pz P))), (true, g3, 26, (PVl 0 0 false)), (true, g4, 51, (TVl 0 0 0)), (true, g5, 51, (TVl ox oy oz)), (true, g21, 24, (Wl r20))] ac _ := hs.re ⟨rfl, rfl, rfl, trivial⟩
        obtain ⟨r22, hr22, lr22⟩ : ∃ z0, ox * r20 % Pf = z0 ∧ z0 < 2 ^ 256 := ⟨_, rfl, modP_lt _⟩
        obtain ⟨r23, hr23, lr23⟩ : ∃ z0, oy * r20 % Pf = z0 ∧ z0 < 2 ^ 256 := ⟨_, rfl, modP_lt _⟩
        refine region_inv [([], [1, 3, 7, 8, 9]), ([0], [3, 7, 8, 9]), ([], [3, 7, 8, 9]), ([0, 1, 2], [7, 8, 9]), ([], [5, 7, 8, 9]), ([4], [7, 8, 9]), ([], [7, 8, 9]), ([0, 1, 2, 3, 4, 5, 6], [8, 9]), ([0, 1, 2, 3, 4, 5, 6, 7], [9]), ([0, 1, 2, 3, 4, 5, 6, 7, 8], [])] (fun L ac w => St 54 w0 [(45, L 0, .pointer (some ⟨g5, 0, none⟩)), (46, L 1, W ox), (47, L 2, W r20), (48, L 3, W r22), (49, L 4, .pointer (some ⟨g5, 4, none⟩)), (50, L 5, W oy), (51, L 6, W r20), (52, L 7, W r23), (53, L 8, PV r22 r23 false), (4, true, .pointer (some ⟨g3, 0, none⟩)), (6, true, .pointer (some ⟨g5, 0, none⟩)), (8, true, .pointer (some ⟨g21, 0, none⟩))] [(true, g1, 24, (Wl a)), (true, g2, 26, (PVl (px P) (py P) (pz P))), (true, g3, 26, (cond (L 9) (PVl r22 r23 false) (PVl 0 0 false))), (true, g4, 51, (TVl 0 0 0)), (true, g5, 51, (TVl ox oy oz)), (true, g21, 24, (Wl r20))] ac w) (by kernel_rfl) (by kernel_rfl) ?_ ?_ ?_
        · exact hs.drew.skip.skip.skip.skip.skip.skip.skip.skip.skip
        · refine ⟨?_, ?_, ?_, ?_, ?_, ?_, ?_, ?_, ?_, ?_, trivial⟩
          · intro L ac w hJ
            have hs := hJ
            refine wpO_plain rfl (op_fieldA hs (some 0) rfl rfl rfl Try.underlying51 rfl Try.sizeOf24 (by decide) rfl fun ac hs => ?_)
            exact hs
          · intro L ac w hJ
            have hs := hJ
            refine wpO_plain rfl (op_load hs (some 1) 4 (v := W ox) rfl rfl rfl rfl Try.isAgg24 Try.sizeOf24 rfl rfl fun ac hs => ?_)
            exact hs
          · intro L ac w hJ
            have hs := hJ
            refine wpO_plain rfl (op_load hs (some 2) 5 (v := W r20) rfl rfl rfl rfl Try.isAgg24 Try.sizeOf24 rfl rfl fun ac hs => ?_)
            exact hs
          · intro L ac w hJ
            have hs := hJ
            refine wpO_plain rfl (op_call (F := 43) hs (some 3) (v := W r22) rfl rfl rfl rfl (Try.call43 _) (rfmul_c ox r20 r22 lx lr20 hr22) rfl fun ac w hs => ?_)
            exact hs
          · intro L ac w hJ
            have hs := hJ
            refine wpO_plain rfl (op_fieldA hs (some 4) rfl rfl rfl Try.underlying51 rfl Try.sizeOf24 (by decide) rfl fun ac hs => ?_)
            exact hs
          · intro L ac w hJ
            have hs := hJ
            refine wpO_plain rfl (op_load hs (some 5) 4 (v := W oy) rfl rfl rfl rfl Try.isAgg24 Try.sizeOf24 rfl rfl fun ac hs => ?_)
            exact hs
          · intro L ac w hJ
            have hs := hJ
            refine wpO_plain rfl (op_load hs (some 6) 5 (v := W r20) rfl rfl rfl rfl Try.isAgg24 Try.sizeOf24 rfl rfl fun ac hs => ?_)
            exact hs
          · intro L ac w hJ
            have hs := hJ
            refine wpO_plain rfl (op_call (F := 43) hs (some 7) (v := W r23) rfl rfl rfl rfl (Try.call43 _) (rfmul_c oy r20 r23 ly lr20 hr23) rfl fun ac w hs => ?_)
            exact hs
          · intro L ac w hJ
            have hs := hJ
            refine wpO_plain rfl (op_build hs (some 8) (qs := [(0, W r22), (1, W r23)]) (v := PV r22 r23 false) rfl rfl rfl rfl (fun _ => by kernel_rfl) rfl fun ac hs => ?_)
            exact hs
          · intro L ac w hJ
            have hs := hJ
            refine wpO_plain rfl (op_store hs 2 (vs := (PVl r22 r23 false)) rfl rfl rfl rfl rfl Try.sizeOf26 rfl rfl rfl rfl rfl fun w hs => ?_)
            exact hs
        intro ac w hJ
        replace hs : St 54 w0 [(45, true, .pointer (some ⟨g5, 0, none⟩)), (46, true, W ox), (47, true, W r20), (48, true, W r22), (49, true, .pointer (some ⟨g5, 4, none⟩)), (50, true, W oy), (51, true, W r20), (52, true, W r23), (53, true, PV r22 r23 false), (4, true, .pointer (some ⟨g3, 0, none⟩)), (6, true, .pointer (some ⟨g5, 0, none⟩)), (8, true, .pointer (some ⟨g21, 0, none⟩))] [(true, g1, 24, (Wl a)), (true, g2, 26, (PVl (px P) (py P) (pz P))), (true, g3, 26, (PVl r22 r23 false)), (true, g4, 51, (TVl 0 0 0)), (true, g5, 51, (TVl ox oy oz)), (true, g21, 24, (Wl r20))] ac w := hJ
        refine then_n ?_
        refine wp_ret ?_
        exact bodyPost_ret (res1 rfl (rv_c hs 2 (v := PV r22 r23 false) rfl rfl Try.isAgg26 Try.sizeOf26 rfl)) hs.defers ⟨by obtain ⟨e1, e2, e3⟩ := fplain_law hF hp19 hr20 hr22 hr23; rw [e1, e2, e3]; first | done | rfl, hs.below⟩
  · skip
    have hzP := hc
    refine wp_skip ?_
    refine then_n ?_
    refine wp_seq ?_
    refine wp_region_lit ?_
    refine lstep (wpO_plain rfl (op_build hs none (qs := []) (v := TV 0 0 0) rfl rfl rfl rfl (fun _ => by kernel_rfl) rfl fun ac hs => ?_))
    refine lstep (wpO_plain rfl (op_alloc hs none none (cs := (TVl 0 0 0)) rfl rfl Try.zeroValue51 (by kernel_rfl) rfl rfl fun g24 ac w hs => ?_))
    refine lstep (wpO_plain rfl (op_store hs 4 (vs := (TVl 0 0 0)) rfl rfl rfl rfl rfl Try.sizeOf51 rfl rfl rfl rfl rfl fun w hs => ?_))
    refine wpList_nil ?_
    refine then_n ?_
    refine wp_seq ?_
    refine wp_seq ?_
    refine wp_region_lit ?_
    refine lstep (wpO_plain rfl (op_load hs none 0 (v := W a) rfl rfl rfl rfl Try.isAgg24 Try.sizeOf24 rfl rfl fun ac hs => ?_))
    have ll25 := ln_le a 256 ha
    refine lstep (wpO_plain rfl (op_call (F := 38) hs none (v := .int .i64 ((ln a : Nat) : Int)) rfl rfl rfl rfl (Try.call38 _) (fun w => lenR_any w a ha) rfl fun ac w hs => ?_))
    refine lstep (wpO_plain rfl (op_bin hs none (v := .int .i64 (((ln a : Nat) : Int) - 1)) rfl rfl rfl rfl (fun _ => rfl) (bin_subP (x := ln a) (by omega)) rfl fun ac hs => ?_))
    refine lstep (wpO_plain rfl (op_assign hs none rfl rfl rfl rfl fun ac hs => ?_))
    refine wpList_nil ?_
    refine then_n ?_
    refine wp_block ?_
    refine wp_loop_m (fun μ ac w => ∃ (k : Nat) (ox : Nat) (oy : Nat) (oz : Nat), (k) = μ ∧ (k ≤ 256) ∧ (FN ox oy oz (EM.nmul (a / 2 ^ k) P)) ∧ (ox < 2 ^ 256) ∧ (oy < 2 ^ 256) ∧ (oz < 2 ^ 256) ∧ St 54 w0 [(2, true, .pointer (some ⟨g1, 0, none⟩)), (4, true, .pointer (some ⟨g3, 0, none⟩)), (5, true, .pointer (some ⟨g4, 0, none⟩)), (6, true, .pointer (some ⟨g24, 0, none⟩)), (7, true, .int .i64 (((k : Nat) : Int) - 1))] [(true, g1, 24, (Wl a)), (true, g2, 26, (PVl (px P) (py P) (pz P))), (true, g3, 26, (PVl 0 0 false)), (true, g4, 51, [.int .u64 (lim (px P) 0), .int .u64 (lim (px P) 1), .int .u64 (lim (px P) 2), .int .u64 (lim (px P) 3), .int .u64 (lim (py P) 0), .int .u64 (lim (py P) 1), .int .u64 (lim (py P) 2), .int .u64 (lim (py P) 3), .int .u64 1, .int .u64 0, .int .u64 0, .int .u64 0]), (true, g24, 51, (TVl ox oy oz))] ac w) ?_ ?_
    · exact ⟨_, (ln a), 0, 0, 0, rfl, (ln_le a 256 ha), (fn_start (ln_spec a).1), (by decide), (by decide), (by decide), (hs.re ⟨rfl, rfl, rfl, rfl, rfl, trivial⟩)⟩
    intro μ ac w ⟨k, ox, oy, oz, hμ, hk, hJn, lx, ly, lz, hs⟩
    refine wp_seq ?_
    refine wp_seq ?_
    refine wp_region_lit ?_
    refine lstep (wpO_plain rfl (op_move hs none rfl rfl rfl rfl fun ac hs => ?_))
    refine lstep (wpO_plain rfl (op_bin hs none (v := .bool (decide (1 ≤ k))) rfl rfl rfl rfl (fun _ => rfl) bin_geqP rfl fun ac hs => ?_))
    refine wpList_nil ?_
    refine then_n ?_
    refine wp_cond_split (hs.ev rfl) (fun hc => ?_) (fun hc => ?_)
    · skip
      have hp26 := of_decide_eq_true hc
      replace hs := hs.re (fs' := [(2, true, .pointer (some ⟨g1, 0, none⟩)), (4, true, .pointer (some ⟨g3, 0, none⟩)), (5, true, .pointer (some ⟨g4, 0, none⟩)), (6, true, .pointer (some ⟨g24, 0, none⟩)), (7, true, .int .i64 ((k - 1 : Nat) : Int)), (24, true, .int .i64 (((k : Nat) : Int) - 1)), (25, true, .bool (decide (1 ≤ k)))]) ⟨rfl, rfl, rfl, rfl, congrArg some (pre_nat hp26), rfl, rfl, trivial⟩
      refine wp_skip ?_
      refine then_n ?_
      refine wp_seq ?_
      refine wp_block ?_
      refine wp_seq ?_
      refine wp_region_lit ?_
      refine lstep (wpO_plain rfl (op_load hs none 4 (v := TV ox oy oz) rfl rfl rfl rfl Try.isAgg51 Try.sizeOf51 rfl rfl fun ac hs => ?_))
      obtain ⟨X27, Y28, Z29, hX27, lX27, lY28, lZ29⟩ : ∃ zz0 zz1 zz2, tF ox oy oz = (zz0, zz1, zz2) ∧ zz0 < 2 ^ 256 ∧ zz1 < 2 ^ 256 ∧ zz2 < 2 ^ 256 := tF_lt ox oy oz
      refine lstep (wpO_plain rfl (op_call (F := 39) hs none (v := TV X27 Y28 Z29) rfl rfl rfl rfl (Try.call39 _) (rtwice14_c ox oy oz X27 Y28 Z29 lx ly lz hX27) rfl fun ac w hs => ?_))
      refine lstep (wpO_plain rfl (op_store hs 4 (vs := (TVl X27 Y28 Z29)) rfl rfl rfl rfl rfl Try.sizeOf51 rfl rfl rfl rfl rfl fun w hs => ?_))
      refine wpList_nil ?_
      refine then_n ?_
      refine wp_seq ?_
      refine wp_region_lit ?_
      refine lstep (wpO_plain rfl (op_load hs none 0 (v := W a) rfl rfl rfl rfl Try.isAgg24 Try.sizeOf24 rfl rfl fun ac hs => ?_))
      refine lstep (wpO_plain rfl (op_move hs none rfl rfl rfl rfl fun ac hs => ?_))
      obtain ⟨b30, hb30⟩ : ∃ z0, a / 2 ^ (k - 1) % 2 = z0 := ⟨_, rfl⟩
      have lb30 := bit_le hb30
      refine lstep (wpO_plain rfl (op_call (F := 40) hs none (v := .int .u64 ((b30 : Nat) : Int)) rfl rfl rfl rfl (Try.call40 _) (rbit_c a (k - 1) b30 (show k - 1 < 256 by omega) hb30) rfl fun ac w hs => ?_))
      refine lstep (wpO_plain rfl (op_bin hs none (v := .bool (decide (b30 = 1))) rfl rfl rfl rfl (fun _ => rfl) (bin_eqlN (x := b30) (y := 1)) rfl fun ac hs => ?_))
      refine wpList_nil ?_
      refine then_n ?_
      refine wp_cond_split (hs.ev rfl) (fun hc => ?_) (fun hc => ?_)
      · skip
        have hp31 := of_decide_eq_true hc
        replace hs : St 54 w0 [(2, true, .pointer (some ⟨g1, 0, none⟩)), (4, true, .pointer (some ⟨g3, 0, none⟩)), (5, true, .pointer (some ⟨g4, 0, none⟩)), (6, true, .pointer (some ⟨g24, 0, none⟩)), (7, true, .int .i64 ((k - 1 : Nat) : Int))] [(true, g1, 24, (Wl a)), (true, g2, 26, (PVl (px P) (py P) (pz P))), (true, g3, 26, (PVl 0 0 false)), (true, g4, 51, [.int .u64 (lim (px P) 0), .int .u64 (lim (px P) 1), .int .u64 (lim (px P) 2), .int .u64 (lim (px P) 3), .int .u64 (lim (py P) 0), .int .u64 (lim (py P) 1), .int .u64 (lim (py P) 2), .int .u64 (lim (py P) 3), .int .u64 1, .int .u64 0, .int .u64 0, .int .u64 0]), (true, g24, 51, (TVl X27 Y28 Z29))] ac _ := hs.re ⟨rfl, rfl, rfl, rfl, rfl, trivial⟩
        refine wp_region_lit ?_
        refine lstep (wpO_plain rfl (op_load hs none 4 (v := TV X27 Y28 Z29) rfl rfl rfl rfl Try.isAgg51 Try.sizeOf51 rfl rfl fun ac hs => ?_))
        refine lstep (wpO_plain rfl (op_load hs none 3 (v := .agg #[.int .u64 (lim (px P) 0), .int .u64 (lim (px P) 1), .int .u64 (lim (px P) 2), .int .u64 (lim (px P) 3), .int .u64 (lim (py P) 0), .int .u64 (lim (py P) 1), .int .u64 (lim (py P) 2), .int .u64 (lim (py P) 3), .int .u64 1, .int .u64 0, .int .u64 0, .int .u64 0]) rfl rfl rfl rfl Try.isAgg51 Try.sizeOf51 rfl rfl fun ac hs => ?_))
        obtain ⟨X32, Y33, Z34, hX32, lX32, lY33, lZ34⟩ : ∃ zz0 zz1 zz2, pF X27 Y28 Z29 (px P) (py P) 1 = (zz0, zz1, zz2) ∧ zz0 < 2 ^ 256 ∧ zz1 < 2 ^ 256 ∧ zz2 < 2 ^ 256 := pF_lt X27 Y28 Z29 (px P) (py P) 1 lX27 lY28 lZ29 (px_lt P) (py_lt P) (by decide)
        refine lstep (wpO_plain rfl (op_call (F := 41) hs none (v := TV X32 Y33 Z34) rfl rfl rfl rfl (Try.call41 _) (rplus_c X27 Y28 Z29 (px P) (py P) 1 X32 Y33 Z34 lX27 lY28 lZ29 (px_lt P) (py_lt P) (by decide) hX32) rfl fun ac w hs => ?_))
        refine lstep (wpO_plain rfl (op_store hs 4 (vs := (TVl X32 Y33 Z34)) rfl rfl rfl rfl rfl Try.sizeOf51 rfl rfl rfl rfl rfl fun w hs => ?_))
        refine wpList_nil ?_
        refine blk_n ?_
        refine then_n ?_
        refine wp_region_lit ?_
        refine lstep (wpO_plain rfl (op_move hs none rfl rfl rfl rfl fun ac hs => ?_))
        refine lstep (wpO_plain rfl (op_bin hs none (v := .int .i64 (((k - 1 : Nat) : Int) - 1)) rfl rfl rfl rfl (fun _ => rfl) (bin_subP (x := k - 1) (by omega)) rfl fun ac hs => ?_))
        refine lstep (wpO_plain rfl (op_assign hs none rfl rfl rfl rfl fun ac hs => ?_))
        refine wpList_nil ?_
        refine then_n ?_
        exact ⟨_, ⟨(k - 1), X32, Y33, Z34, rfl, (by omega), (oneT oP hp26 (hb30.trans hp31) (pF_fn (tF_fn hJn hX27) (frac_one oP hzP) hX32)), lX32, lY33, lZ34, (hs.re ⟨rfl, rfl, rfl, rfl, rfl, trivial⟩)⟩, (by omega)⟩
      · skip
        have hp35 := of_decide_eq_false hc
        refine wp_skip ?_
        refine blk_n ?_
        refine then_n ?_
        replace hs : St 54 w0 [(2, true, .pointer (some ⟨g1, 0, none⟩)), (4, true, .pointer (some ⟨g3, 0, none⟩)), (5, true, .pointer (some ⟨g4, 0, none⟩)), (6, true, .pointer (some ⟨g24, 0, none⟩)), (7, true, .int .i64 ((k - 1 : Nat) : Int))] [(true, g1, 24, (Wl a)), (true, g2, 26, (PVl (px P) (py P) (pz P))), (true, g3, 26, (PVl 0 0 false)), (true, g4, 51, [.int .u64 (lim (px P) 0), .int .u64 (lim (px P) 1), .int .u64 (lim (px P) 2), .int .u64 (lim (px P) 3), .int .u64 (lim (py P) 0), .int .u64 (lim (py P) 1), .int .u64 (lim (py P) 2), .int .u64 (lim (py P) 3), .int .u64 1, .int .u64 0, .int .u64 0, .int .u64 0]), (true, g24, 51, (TVl X27 Y28 Z29))] ac _ := hs.re ⟨rfl, rfl, rfl, rfl, rfl, trivial⟩
        refine wp_region_lit ?_
        refine lstep (wpO_plain rfl (op_move hs none rfl rfl rfl rfl fun ac hs => ?_))
        refine lstep (wpO_plain rfl (op_bin hs none (v := .int .i64 (((k - 1 : Nat) : Int) - 1)) rfl rfl rfl rfl (fun _ => rfl) (bin_subP (x := k - 1) (by omega)) rfl fun ac hs => ?_))
        refine lstep (wpO_plain rfl (op_assign hs none rfl rfl rfl rfl fun ac hs => ?_))
        refine wpList_nil ?_
        refine then_n ?_
        exact ⟨_, ⟨(k - 1), X27, Y28, Z29, rfl, (by omega), (oneF oP hp26 (fun h => hp35 (hb30.symm.trans h)) (tF_fn hJn hX27)), lX27, lY28, lZ29, (hs.re ⟨rfl, rfl, rfl, rfl, rfl, trivial⟩)⟩, (by omega)⟩
    · skip
      have hp36 := of_decide_eq_false hc
      obtain rfl : k = 0 := by omega
      have hF : FN ox oy oz T := by rw [← hT]; rw [Nat.pow_zero, Nat.div_one] at hJn; exact hJn
      refine wp_exit ?_
      refine then_e ?_
      refine then_e ?_
      refine blk_e ?_
      refine then_n ?_
      refine wp_seq ?_
      refine wp_seq ?_
      refine wp_region_lit ?_
      refine lstep (wpO_plain rfl (op_fieldA hs none rfl rfl rfl Try.underlying51 rfl Try.sizeOf24 (by decide) rfl fun ac hs => ?_))
      refine lstep (wpO_plain rfl (op_load hs none 4 (v := W oz) rfl rfl rfl rfl Try.isAgg24 Try.sizeOf24 rfl rfl fun ac hs => ?_))
      refine lstep (wpO_plain rfl (op_build hs none (qs := []) (v := .agg #[.int .u64 0, .int .u64 0, .int .u64 0, .int .u64 0]) rfl rfl rfl rfl (fun _ => by kernel_rfl) rfl fun ac hs => ?_))
      refine lstep (wpO_plain rfl (op_bin hs none (v := .bool (decide (oz = 0))) rfl rfl rfl rfl (fun w => run_eqGuard_agg w .eql 24 _ _ _ _ Try.eqGuardType24) (eqlW oz 0 lz (by decide) _ rfl) rfl fun ac hs => ?_))
      refine wpList_nil ?_
      refine then_n ?_
      refine wp_cond_split (hs.ev rfl) (fun hc => ?_) (fun hc => ?_)
      · skip
        have hp37 := of_decide_eq_true hc
        refine wp_seq ?_
        replace hs : St 54 w0 [(4, true, .pointer (some ⟨g3, 0, none⟩)), (6, true, .pointer (some ⟨g24, 0, none⟩))] [(true, g1, 24, (Wl a)), (true, g2, 26, (PVl (px P) (py P) (pz P))), (true, g3, 26, (PVl 0 0 false)), (true, g4, 51, [.int .u64 (lim (px P) 0), .int .u64 (lim (px P) 1), .int .u64 (lim (px P) 2), .int .u64 (lim (px P) 3), .int .u64 (lim (py P) 0), .int .u64 (lim (py P) 1), .int .u64 (lim (py P) 2), .int .u64 (lim (py P) 3), .int .u64 1, .int .u64 0, .int .u64 0, .int .u64 0]), (true, g24, 51, (TVl ox oy oz))] ac _ := hs.re ⟨rfl, rfl, trivial⟩
        refine wp_region_lit ?_
        refine lstep (wpO_plain rfl (op_build hs none (qs := [(2, .bool true)]) (v := PV 0 0 true) rfl rfl rfl rfl (fun _ => by kernel_rfl) rfl fun ac hs => ?_))
        refine lstep (wpO_plain rfl (op_store hs 2 (vs := (PVl 0 0 true)) rfl rfl rfl rfl rfl Try.sizeOf26 rfl rfl rfl rfl rfl fun w hs => ?_))
        refine wpList_nil ?_
        refine then_n ?_
        refine wp_ret ?_
        refine then_r ?_
        exact bodyPost_ret (res1 rfl (rv_c hs 2 (v := PV 0 0 true) rfl rfl Try.isAgg26 Try.sizeOf26 rfl)) hs.defers ⟨by rw [fn_zero hF hp37]; first | done | rfl, hs.below⟩
      · skip
        have hp38 := of_decide_eq_false hc
        refine wp_skip ?_
        refine then_n ?_
        refine wp_seq ?_
        replace hs : St 54 w0 [(4, true, .pointer (some ⟨g3, 0, none⟩)), (6, true, .pointer (some ⟨g24, 0, none⟩))] [(true, g1, 24, (Wl a)), (true, g2, 26, (PVl (px P) (py P) (pz P))), (true, g3, 26, (PVl 0 0 false)), (true, g4, 51, [.int .u64 (lim (px P) 0), .int .u64 (lim (px P) 1), .int .u64 (lim (px P) 2), .int .u64 (lim (px P) 3), .int .u64 (lim (py P) 0), .int .u64 (lim (py P) 1), .int .u64 (lim (py P) 2), .int .u64 (lim (py P) 3), .int .u64 1, .int .u64 0, .int .u64 0, .int .u64 0]), (true, g24, 51, (TVl ox oy oz))] ac _ := hs.re ⟨rfl, rfl, trivial⟩
        refine wp_region_lit ?_
        refine lstep (wpO_plain rfl (op_fieldA hs none rfl rfl rfl Try.underlying51 rfl Try.sizeOf24 (by decide) rfl fun ac hs => ?_))
        refine lstep (wpO_plain rfl (op_load hs none 4 (v := W oz) rfl rfl rfl rfl Try.isAgg24 Try.sizeOf24 rfl rfl fun ac hs => ?_))
        obtain ⟨r39, hr39, lr39⟩ : ∃ z0, pinv Pf oz = z0 ∧ z0 < 2 ^ 256 := ⟨_, rfl, modP_lt _⟩
        refine lstep (wpO_plain rfl (op_call (F := 42) hs none (v := W r39) rfl rfl rfl rfl (Try.call42 _) (rfinv_c oz r39 lz hr39) rfl fun ac w hs => ?_))
        refine lstep (wpO_plain rfl (op_alloc hs none none (cs := [.int .u64 0, .int .u64 0, .int .u64 0, .int .u64 0]) rfl rfl Try.zeroValue24 (by kernel_rfl) rfl rfl fun g40 ac w hs => ?_))
        refine lstep (wpO_plain rfl (op_store hs 5 (vs := (Wl r39)) rfl rfl rfl rfl rfl Try.sizeOf24 rfl rfl rfl rfl rfl fun w hs => ?_))
        refine wpList_nil ?_
        refine then_n ?_
        refine wp_seq ?_
        replace hs : St 54 w0 [(4, true, .pointer (some ⟨g3, 0, none⟩)), (6, true, .pointer (some ⟨g24, 0, none⟩)), (8, true, .pointer (some ⟨g40, 0, none⟩))] [(true, g1, 24, (Wl a)), (true, g2, 26, (PVl (px P) (py P) (pz P))), (true, g3, 26, (PVl 0 0 false)), (true, g4, 51, [.int .u64 (lim (px P) 0), .int .u64 (lim (px P) 1), .int .u64 (lim (px P) 2), .int .u64 (lim (px P) 3), .int .u64 (lim (py P) 0), .int .u64 (lim (py P) 1), .int .u64 (lim (py P) 2), .int .u64 (lim (py P) 3), .int .u64 1, .int .u64 0, .int .u64 0, .int .u64 0]), (true, g24, 51, (TVl ox oy oz)), (true, g40, 24, (Wl r39))] ac _ := hs.re ⟨rfl, rfl, rfl, trivial⟩
        obtain ⟨r41, hr41, lr41⟩ : ∃ z0, ox * r39 % Pf = z0 ∧ z0 < 2 ^ 256 := ⟨_, rfl, modP_lt _⟩
        obtain ⟨r42, hr42, lr42⟩ : ∃ z0, oy * r39 % Pf = z0 ∧ z0 < 2 ^ 256 := ⟨_, rfl, modP_lt _⟩
        refine region_inv [([], [1, 3, 7, 8, 9]), ([0], [3, 7, 8, 9]), ([], [3, 7, 8, 9]), ([0, 1, 2], [7, 8, 9]), ([], [5, 7, 8, 9]), ([4], [7, 8, 9]), ([], [7, 8, 9]), ([0, 1, 2, 3, 4, 5, 6], [8, 9]), ([0, 1, 2, 3, 4, 5, 6, 7], [9]), ([0, 1, 2, 3, 4, 5, 6, 7, 8], [])] (fun L ac w => St 54 w0 [(45, L 0, .pointer (some ⟨g24, 0, none⟩)), (46, L 1, W ox), (47, L 2, W r39), (48, L 3, W r41), (49, L 4, .pointer (some ⟨g24, 4, none⟩)), (50, L 5, W oy), (51, L 6, W r39), (52, L 7, W r42), (53, L 8, PV r41 r42 false), (4, true, .pointer (some ⟨g3, 0, none⟩)), (6, true, .pointer (some ⟨g24, 0, none⟩)), (8, true, .pointer (some ⟨g40, 0, none⟩))] [(true, g1, 24, (Wl a)), (true, g2, 26, (PVl (px P) (py P) (pz P))), (true, g3, 26, (cond (L 9) (PVl r41 r42 false) (PVl 0 0 false))), (true, g4, 51, [.int .u64 (lim (px P) 0), .int .u64 (lim (px P) 1), .int .u64 (lim (px P) 2), .int .u64 (lim (px P) 3), .int .u64 (lim (py P) 0), .int .u64 (lim (py P) 1), .int .u64 (lim (py P) 2), .int .u64 (lim (py P) 3), .int .u64 1, .int .u64 0, .int .u64 0, .int .u64 0]), (true, g24, 51, (TVl ox oy oz)), (true, g40, 24, (Wl r39))] ac w) (by kernel_rfl) (by kernel_rfl) ?_ ?_ ?_
        · exact hs.drew.skip.skip.skip.skip.skip.skip.skip.skip.skip
        · refine ⟨?_, ?_, ?_, ?_, ?_, ?_, ?_, ?_, ?_, ?_, trivial⟩
          · intro L ac w hJ
            have hs := hJ
            refine wpO_plain rfl (op_fieldA hs (some 0) rfl rfl rfl Try.underlying51 rfl Try.sizeOf24 (by decide) rfl fun ac hs => ?_)
            exact hs
          · intro L ac w hJ
            have hs := hJ
            refine wpO_plain rfl (op_load hs (some 1) 4 (v := W ox) rfl rfl rfl rfl Try.isAgg24 Try.sizeOf24 rfl rfl fun ac hs => ?_)
            exact hs
          · intro L ac w hJ
            have hs := hJ
            refine wpO_plain rfl (op_load hs (some 2) 5 (v := W r39) rfl rfl rfl rfl Try.isAgg24 Try.sizeOf24 rfl rfl fun ac hs => ?_)
            exact hs
          · intro L ac w hJ
            have hs := hJ
            refine wpO_plain rfl (op_call (F := 43) hs (some 3) (v := W r41) rfl rfl rfl rfl (Try.call43 _) (rfmul_c ox r39 r41 lx lr39 hr41) rfl fun ac w hs => ?_)
            exact hs
          · intro L ac w hJ
            have hs := hJ
            refine wpO_plain rfl (op_fieldA hs (some 4) rfl rfl rfl Try.underlying51 rfl Try.sizeOf24 (by decide) rfl fun ac hs => ?_)
            exact hs
          · intro L ac w hJ
            have hs := hJ
            refine wpO_plain rfl (op_load hs (some 5) 4 (v := W oy) rfl rfl rfl rfl Try.isAgg24 Try.sizeOf24 rfl rfl fun ac hs => ?_)
            exact hs
          · intro L ac w hJ
            have hs := hJ
            refine wpO_plain rfl (op_load hs (some 6) 5 (v := W r39) rfl rfl rfl rfl Try.isAgg24 Try.sizeOf24 rfl rfl fun ac hs => ?_)
            exact hs
          · intro L ac w hJ
            have hs := hJ
            refine wpO_plain rfl (op_call (F := 43) hs (some 7) (v := W r42) rfl rfl rfl rfl (Try.call43 _) (rfmul_c oy r39 r42 ly lr39 hr42) rfl fun ac w hs => ?_)
            exact hs
          · intro L ac w hJ
            have hs := hJ
            refine wpO_plain rfl (op_build hs (some 8) (qs := [(0, W r41), (1, W r42)]) (v := PV r41 r42 false) rfl rfl rfl rfl (fun _ => by kernel_rfl) rfl fun ac hs => ?_)
            exact hs
          · intro L ac w hJ
            have hs := hJ
            refine wpO_plain rfl (op_store hs 2 (vs := (PVl r41 r42 false)) rfl rfl rfl rfl rfl Try.sizeOf26 rfl rfl rfl rfl rfl fun w hs => ?_)
            exact hs
        intro ac w hJ
        replace hs : St 54 w0 [(45, true, .pointer (some ⟨g24, 0, none⟩)), (46, true, W ox), (47, true, W r39), (48, true, W r41), (49, true, .pointer (some ⟨g24, 4, none⟩)), (50, true, W oy), (51, true, W r39), (52, true, W r42), (53, true, PV r41 r42 false), (4, true, .pointer (some ⟨g3, 0, none⟩)), (6, true, .pointer (some ⟨g24, 0, none⟩)), (8, true, .pointer (some ⟨g40, 0, none⟩))] [(true, g1, 24, (Wl a)), (true, g2, 26, (PVl (px P) (py P) (pz P))), (true, g3, 26, (PVl r41 r42 false)), (true, g4, 51, [.int .u64 (lim (px P) 0), .int .u64 (lim (px P) 1), .int .u64 (lim (px P) 2), .int .u64 (lim (px P) 3), .int .u64 (lim (py P) 0), .int .u64 (lim (py P) 1), .int .u64 (lim (py P) 2), .int .u64 (lim (py P) 3), .int .u64 1, .int .u64 0, .int .u64 0, .int .u64 0]), (true, g24, 51, (TVl ox oy oz)), (true, g40, 24, (Wl r39))] ac w := hJ
        refine then_n ?_
        refine wp_ret ?_
        exact bodyPost_ret (res1 rfl (rv_c hs 2 (v := PV r41 r42 false) rfl rfl Try.isAgg26 Try.sizeOf26 rfl)) hs.defers ⟨by obtain ⟨e1, e2, e3⟩ := fplain_law hF hp38 hr39 hr41 hr42; rw [e1, e2, e3]; first | done | rfl, hs.below⟩
theorem rlift_c (b : Nat → Nat) (T : EM.Pt Pf) (hb : ∀ j, j < 32 → b j < 256) (hT : liftP (pr b 0 32) = T) (w0 : World) : Calls Try.prog 30 #[At .u8 32 b] w0 fun e w' => e = .returned (.tuple #[PV (px T) (py T) (pz T), .bool (!pz T)]) ∧ Below w0.heap.size w0 w' := by
  refine enter (n := 26) (args := [At .u8 32 b]) Try.func30 rfl rfl (Nat.le_of_ble_eq_true rfl) fun ac hs => ?_
  refine wp_seq ?_
  refine wp_region_lit ?_
  refine lstep (wpO_plain rfl (op_box hs none none (cs := (tab .u8 32 b)) rfl rfl rfl rfl rfl rfl fun g1 ac w hs => ?_))
  refine lstep (wpO_plain rfl (op_alloc hs none none (cs := (PVl 0 0 false)) rfl rfl Try.zeroValue26 (by kernel_rfl) rfl rfl fun g2 ac w hs => ?_))
  refine lstep (wpO_plain rfl (op_assign hs none rfl rfl rfl rfl fun ac hs => ?_))
  refine wpList_nil ?_
  refine then_n ?_
  refine wp_seq ?_
  refine wp_region_lit ?_
  refine lstep (wpO_plain rfl (op_load hs none 0 (v := At .u8 32 b) rfl rfl rfl rfl Try.isAgg35 Try.sizeOf35 ldv_tab rfl fun ac hs => ?_))
  obtain ⟨a3, ha3, la3⟩ : ∃ z0, pr b 0 32 = z0 ∧ z0 < 2 ^ 256 := ⟨_, rfl, pr_lt32 hb⟩
  refine lstep (wpO_plain rfl (op_call (F := 63) hs none (v := W a3) rfl rfl rfl rfl (Try.call63 _) (rread_c b a3 hb ha3) rfl fun ac w hs => ?_))
  refine lstep (wpO_plain rfl (op_alloc hs none none (cs := [.int .u64 0, .int .u64 0, .int .u64 0, .int .u64 0]) rfl rfl Try.zeroValue24 (by kernel_rfl) rfl rfl fun g4 ac w hs => ?_))
  refine lstep (wpO_plain rfl (op_store hs 2 (vs := (Wl a3)) rfl rfl rfl rfl rfl Try.sizeOf24 rfl rfl rfl rfl rfl fun w hs => ?_))
  refine wpList_nil ?_
  refine then_n ?_
  refine wp_seq ?_
  replace hs : St 26 w0 [(2, true, .pointer (some ⟨g2, 0, none⟩)), (3, true, .bool false), (4, true, .pointer (some ⟨g4, 0, none⟩))] [(true, g1, 35, (tab .u8 32 b)), (true, g2, 26, (PVl 0 0 false)), (true, g4, 24, (Wl a3))] ac _ := hs.re ⟨rfl, rfl, rfl, trivial⟩
  refine wp_region_lit ?_
  refine lstep (wpO_plain rfl (op_load hs none 2 (v := W a3) rfl rfl rfl rfl Try.isAgg24 Try.sizeOf24 rfl rfl fun ac hs => ?_))
  obtain ⟨r5, hr5, lr5⟩ : ∃ z0, rgt a3 = z0 ∧ z0 < 2 ^ 256 := ⟨_, rfl, modP_lt _⟩
  refine lstep (wpO_plain rfl (op_call (F := 49) hs none (v := W r5) rfl rfl rfl rfl (Try.call49 _) (rright_c a3 r5 la3 hr5) rfl fun ac w hs => ?_))
  obtain ⟨y6, hy6, ly6⟩ : ∃ z0, frV r5 = z0 ∧ z0 < 2 ^ 256 := ⟨_, rfl, frV_lt _⟩
  obtain ⟨q7, hq7⟩ : ∃ z0, frB r5 = z0 := ⟨_, rfl⟩
  refine lstep (wpO_plain rfl (op_call (F := 64) hs none (v := .tuple #[W y6, .bool q7]) rfl rfl rfl rfl (Try.call64 _) (rfroot_c r5 y6 q7 lr5 hy6 hq7) rfl fun ac w hs => ?_))
  refine lstep (wpO_plain rfl (op_move hs none rfl rfl rfl rfl fun ac hs => ?_))
  refine lstep (wpO_plain rfl (op_extract hs none rfl rfl rfl rfl rfl fun ac hs => ?_))
  refine lstep (wpO_plain rfl (op_extract hs none rfl rfl rfl rfl rfl fun ac hs => ?_))
  refine lstep (wpO_plain rfl (op_alloc hs none none (cs := [.int .u64 0, .int .u64 0, .int .u64 0, .int .u64 0]) rfl rfl Try.zeroValue24 (by kernel_rfl) rfl rfl fun g8 ac w hs => ?_))
  refine lstep (wpO_plain rfl (op_store hs 3 (vs := (Wl y6)) rfl rfl rfl rfl rfl Try.sizeOf24 rfl rfl rfl rfl rfl fun w hs => ?_))
  refine lstep (wpO_plain rfl (op_assign hs none rfl rfl rfl rfl fun ac hs => ?_))
  refine wpList_nil ?_
  refine then_n ?_
  refine wp_seq ?_
  refine wp_seq ?_
  by_cases hq9 : q7 = true
  · skip
    replace hs := hs.re (fs' := [(2, true, .pointer (some ⟨g2, 0, none⟩)), (3, true, .bool false), (4, true, .pointer (some ⟨g4, 0, none⟩)), (10, true, W a3), (11, true, W r5), (12, true, .tuple #[W y6, .bool q7]), (9, true, .tuple #[W y6, .bool q7]), (13, true, W y6), (14, true, .bool q7), (5, true, .pointer (some ⟨g8, 0, none⟩)), (6, true, .bool true)]) ⟨rfl, rfl, rfl, rfl, rfl, rfl, rfl, rfl, rfl, rfl, congrArg some (congrArg Value.bool hq9), trivial⟩
    by_cases hq10 : a3 < Pf
    · skip
      replace hs : St 26 w0 [(2, true, .pointer (some ⟨g2, 0, none⟩)), (3, true, .bool false), (4, true, .pointer (some ⟨g4, 0, none⟩)), (5, true, .pointer (some ⟨g8, 0, none⟩)), (6, true, .bool true)] [(true, g1, 35, (tab .u8 32 b)), (true, g2, 26, (PVl 0 0 false)), (true, g4, 24, (Wl a3)), (true, g8, 24, (Wl y6))] ac _ := hs.re ⟨rfl, rfl, rfl, rfl, rfl, trivial⟩
      refine wp_region_lit ?_
      refine lstep (wpO_plain rfl (op_move hs none rfl rfl rfl rfl fun ac hs => ?_))
      refine lstep (wpO_plain rfl (op_un hs none (v := .bool false) rfl rfl rfl (fun _ => rfl) rfl fun ac hs => ?_))
      refine lstep (wpO_plain rfl (op_move hs none rfl rfl rfl rfl fun ac hs => ?_))
      refine lstep (wpO_in hs rfl rfl rfl (op_load hs none 2 (v := W a3) rfl rfl rfl rfl Try.isAgg24 Try.sizeOf24 rfl rfl fun ac hs => ?_))
      refine lstep (wpO_in hs rfl rfl rfl (op_call (F := 48) hs none (v := .bool true) rfl rfl rfl rfl (Try.call48 _) (rbelow_c a3 true la3 (decide_eq_true hq10)) rfl fun ac w hs => ?_))
      refine lstep (wpO_in hs rfl rfl rfl (op_un hs none (v := .bool false) rfl rfl rfl (fun _ => rfl) rfl fun ac hs => ?_))
      refine lstep (wpO_plain rfl (op_pickF hs none rfl rfl rfl rfl rfl fun ac hs => ?_))
      refine wpList_nil ?_
      refine then_n ?_
      refine wp_cond_false (hs.ev rfl) ?_
      refine wp_skip ?_
      refine then_n ?_
      refine wp_seq ?_
      replace hs : St 26 w0 [(2, true, .pointer (some ⟨g2, 0, none⟩)), (3, true, .bool false), (4, true, .pointer (some ⟨g4, 0, none⟩)), (5, true, .pointer (some ⟨g8, 0, none⟩))] [(true, g1, 35, (tab .u8 32 b)), (true, g2, 26, (PVl 0 0 false)), (true, g4, 24, (Wl a3)), (true, g8, 24, (Wl y6))] ac _ := hs.re ⟨rfl, rfl, rfl, rfl, trivial⟩
      refine wp_region_lit ?_
      refine lstep (wpO_plain rfl (op_load hs none 2 (v := W a3) rfl rfl rfl rfl Try.isAgg24 Try.sizeOf24 rfl rfl fun ac hs => ?_))
      refine lstep (wpO_plain rfl (op_load hs none 3 (v := W y6) rfl rfl rfl rfl Try.isAgg24 Try.sizeOf24 rfl rfl fun ac hs => ?_))
      refine lstep (wpO_plain rfl (op_build hs none (qs := [(0, W a3), (1, W y6)]) (v := PV a3 y6 false) rfl rfl rfl rfl (fun _ => by kernel_rfl) rfl fun ac hs => ?_))
      refine lstep (wpO_plain rfl (op_store hs 1 (vs := (PVl a3 y6 false)) rfl rfl rfl rfl rfl Try.sizeOf26 rfl rfl rfl rfl rfl fun w hs => ?_))
      refine lstep (wpO_plain rfl (op_assign hs none rfl rfl rfl rfl fun ac hs => ?_))
      refine wpList_nil ?_
      refine then_n ?_
      refine wp_ret ?_
      exact bodyPost_ret (res2 rfl (rv_c hs 1 (v := PV a3 y6 false) rfl rfl Try.isAgg26 Try.sizeOf26 rfl) (rv_t hs rfl)) hs.defers ⟨by rw [← hT, ha3, (liftP_yes hq10 (show frB (rgt a3) = true by rw [hr5, hq7]; exact hq9)).1, (liftP_yes hq10 (show frB (rgt a3) = true by rw [hr5, hq7]; exact hq9)).2.1, (liftP_yes hq10 (show frB (rgt a3) = true by rw [hr5, hq7]; exact hq9)).2.2, hr5, hy6]; rfl, hs.below⟩
    · skip
      replace hs : St 26 w0 [(2, true, .pointer (some ⟨g2, 0, none⟩)), (3, true, .bool false), (4, true, .pointer (some ⟨g4, 0, none⟩)), (5, true, .pointer (some ⟨g8, 0, none⟩)), (6, true, .bool true)] [(true, g1, 35, (tab .u8 32 b)), (true, g2, 26, (PVl 0 0 false)), (true, g4, 24, (Wl a3)), (true, g8, 24, (Wl y6))] ac _ := hs.re ⟨rfl, rfl, rfl, rfl, rfl, trivial⟩
      refine wp_region_lit ?_
      refine lstep (wpO_plain rfl (op_move hs none rfl rfl rfl rfl fun ac hs => ?_))
      refine lstep (wpO_plain rfl (op_un hs none (v := .bool false) rfl rfl rfl (fun _ => rfl) rfl fun ac hs => ?_))
      refine lstep (wpO_plain rfl (op_move hs none rfl rfl rfl rfl fun ac hs => ?_))
      refine lstep (wpO_in hs rfl rfl rfl (op_load hs none 2 (v := W a3) rfl rfl rfl rfl Try.isAgg24 Try.sizeOf24 rfl rfl fun ac hs => ?_))
      refine lstep (wpO_in hs rfl rfl rfl (op_call (F := 48) hs none (v := .bool false) rfl rfl rfl rfl (Try.call48 _) (rbelow_c a3 false la3 (decide_eq_false hq10)) rfl fun ac w hs => ?_))
      refine lstep (wpO_in hs rfl rfl rfl (op_un hs none (v := .bool true) rfl rfl rfl (fun _ => rfl) rfl fun ac hs => ?_))
      refine lstep (wpO_plain rfl (op_pickF hs none rfl rfl rfl rfl rfl fun ac hs => ?_))
      refine wpList_nil ?_
      refine then_n ?_
      refine wp_cond_true (hs.ev rfl) ?_
      refine wp_seq ?_
      replace hs : St 26 w0 [(2, true, .pointer (some ⟨g2, 0, none⟩)), (3, true, .bool false), (4, true, .pointer (some ⟨g4, 0, none⟩)), (5, true, .pointer (some ⟨g8, 0, none⟩))] [(true, g1, 35, (tab .u8 32 b)), (true, g2, 26, (PVl 0 0 false)), (true, g4, 24, (Wl a3)), (true, g8, 24, (Wl y6))] ac _ := hs.re ⟨rfl, rfl, rfl, rfl, trivial⟩
      refine wp_region_lit ?_
      refine lstep (wpO_plain rfl (op_build hs none (qs := [(2, .bool true)]) (v := PV 0 0 true) rfl rfl rfl rfl (fun _ => by kernel_rfl) rfl fun ac hs => ?_))
      refine lstep (wpO_plain rfl (op_store hs 1 (vs := (PVl 0 0 true)) rfl rfl rfl rfl rfl Try.sizeOf26 rfl rfl rfl rfl rfl fun w hs => ?_))
      refine lstep (wpO_plain rfl (op_assign hs none rfl rfl rfl rfl fun ac hs => ?_))
      refine wpList_nil ?_
      refine then_n ?_
      refine wp_ret ?_
      refine then_r ?_
      exact bodyPost_ret (res2 rfl (rv_c hs 1 (v := PV 0 0 true) rfl rfl Try.isAgg26 Try.sizeOf26 rfl) (rv_t hs rfl)) hs.defers ⟨by rw [← hT, ha3, liftP_no (.inl hq10)]; rfl, hs.below⟩
  · skip
    replace hs := hs.re (fs' := [(2, true, .pointer (some ⟨g2, 0, none⟩)), (3, true, .bool false), (4, true, .pointer (some ⟨g4, 0, none⟩)), (10, true, W a3), (11, true, W r5), (12, true, .tuple #[W y6, .bool q7]), (9, true, .tuple #[W y6, .bool q7]), (13, true, W y6), (14, true, .bool q7), (5, true, .pointer (some ⟨g8, 0, none⟩)), (6, true, .bool false)]) ⟨rfl, rfl, rfl, rfl, rfl, rfl, rfl, rfl, rfl, rfl, congrArg some (congrArg Value.bool (Bool.eq_false_iff.2 hq9)), trivial⟩
    replace hs : St 26 w0 [(2, true, .pointer (some ⟨g2, 0, none⟩)), (3, true, .bool false), (4, true, .pointer (some ⟨g4, 0, none⟩)), (5, true, .pointer (some ⟨g8, 0, none⟩)), (6, true, .bool false)] [(true, g1, 35, (tab .u8 32 b)), (true, g2, 26, (PVl 0 0 false)), (true, g4, 24, (Wl a3)), (true, g8, 24, (Wl y6))] ac _ := hs.re ⟨rfl, rfl, rfl, rfl, rfl, trivial⟩
    refine wp_region_lit ?_
    refine lstep (wpO_plain rfl (op_move hs none rfl rfl rfl rfl fun ac hs => ?_))
    refine lstep (wpO_plain rfl (op_un hs none (v := .bool true) rfl rfl rfl (fun _ => rfl) rfl fun ac hs => ?_))
    refine lstep (wpO_plain rfl (op_move hs none rfl rfl rfl rfl fun ac hs => ?_))
    refine lstep (wpO_out hs none rfl rfl (.inl rfl) rfl rfl fun ac hs => ?_)
    refine lstep (wpO_out hs none rfl rfl (.inl rfl) rfl rfl fun ac hs => ?_)
    refine lstep (wpO_out hs none rfl rfl (.inl rfl) rfl rfl fun ac hs => ?_)
    refine lstep (wpO_plain rfl (op_pickT hs none rfl rfl rfl rfl rfl fun ac hs => ?_))
    refine wpList_nil ?_
    refine then_n ?_
    refine wp_cond_true (hs.ev rfl) ?_
    refine wp_seq ?_
    refine wp_region_lit ?_
    refine lstep (wpO_plain rfl (op_build hs none (qs := [(2, .bool true)]) (v := PV 0 0 true) rfl rfl rfl rfl (fun _ => by kernel_rfl) rfl fun ac hs => ?_))
    refine lstep (wpO_plain rfl (op_store hs 1 (vs := (PVl 0 0 true)) rfl rfl rfl rfl rfl Try.sizeOf26 rfl rfl rfl rfl rfl fun w hs => ?_))
    refine lstep (wpO_plain rfl (op_assign hs none rfl rfl rfl rfl fun ac hs => ?_))
    refine wpList_nil ?_
    refine then_n ?_
    refine wp_ret ?_
    refine then_r ?_
    exact bodyPost_ret (res2 rfl (rv_c hs 1 (v := PV 0 0 true) rfl rfl Try.isAgg26 Try.sizeOf26 rfl) (rv_t hs rfl)) hs.defers ⟨by rw [← hT, ha3, liftP_no (.inr (by rw [hr5, hq7]; exact hq9))]; rfl, hs.below⟩
theorem rpbytes_c (x y : Nat) (z : Bool) (T : EM.Pt Pf) (hx : x < 2 ^ 256) (hy : y < 2 ^ 256) (hT : ptOf x y z = T) (w0 : World) : Calls Try.prog 20 #[PV x y z] w0 fun e w' => e = .returned (At .u8 32 (by8 (px T))) ∧ Below w0.heap.size w0 w' := by
  have oT : T.on := by rw [← hT]; exact pt_on x y z
  refine enter (n := 8) (args := [PV x y z]) Try.func20 rfl rfl (Nat.le_of_ble_eq_true rfl) fun ac hs => ?_
  refine wp_seq ?_
  refine wp_region_lit ?_
  refine lstep (wpO_plain rfl (op_box hs none none (cs := (PVl x y z)) rfl rfl rfl rfl rfl rfl fun g1 ac w hs => ?_))
  refine lstep (wpO_plain rfl (op_alloc hs none none (cs := (tab .u8 32 (fun _ => 0))) rfl rfl Try.zeroValue35 (by kernel_rfl) rfl rfl fun g2 ac w hs => ?_))
  refine wpList_nil ?_
  refine then_n ?_
  refine wp_seq ?_
  refine wp_region_lit ?_
  refine lstep (wpO_plain rfl (op_load hs none 0 (v := PV x y z) rfl rfl rfl rfl Try.isAgg26 Try.sizeOf26 rfl rfl fun ac hs => ?_))
  refine lstep (wpO_plain rfl (op_call (F := 36) hs none (v := PV (px T) (py T) (pz T)) rfl rfl rfl rfl (Try.call36 _) (own_c x y z T hx hy hT) rfl fun ac w hs => ?_))
  refine lstep (wpO_plain rfl (op_store hs 0 (vs := (PVl (px T) (py T) (pz T))) rfl rfl rfl rfl rfl Try.sizeOf26 rfl rfl rfl rfl rfl fun w hs => ?_))
  refine wpList_nil ?_
  refine then_n ?_
  refine wp_seq ?_
  refine wp_region_lit ?_
  refine lstep (wpO_plain rfl (op_fieldA hs none rfl rfl rfl Try.underlying26 rfl Try.sizeOf24 (by decide) rfl fun ac hs => ?_))
  refine lstep (wpO_plain rfl (op_load hs none 0 (v := W (px T)) rfl rfl rfl rfl Try.isAgg24 Try.sizeOf24 rfl rfl fun ac hs => ?_))
  refine lstep (wpO_plain rfl (op_call (F := 52) hs none (v := At .u8 32 (by8 (px T))) rfl rfl rfl rfl (Try.call52 _) (rbytes_c (px T) (px_lt T)) rfl fun ac w hs => ?_))
  refine lstep (wpO_plain rfl (op_store hs 1 (vs := (tab .u8 32 (by8 (px T)))) rfl rfl rfl rfl rfl Try.sizeOf35 (by kernel_rfl) tab_length' (tab_one _ _ _) tab_leA wr_tab fun w hs => ?_))
  refine wpList_nil ?_
  refine then_n ?_
  refine wp_ret ?_
  exact bodyPost_ret (res1 rfl (rv_c hs 1 (v := At .u8 32 (by8 (px T))) rfl rfl Try.isAgg35 Try.sizeOf35 ldv_tab)) hs.defers ⟨rfl, hs.below⟩
theorem reven_c (x y : Nat) (z : Bool) (T : EM.Pt Pf) (q : Bool) (hx : x < 2 ^ 256) (hy : y < 2 ^ 256) (hT : ptOf x y z = T) (hq : evB T = q) (w0 : World) : Calls Try.prog 22 #[PV x y z] w0 fun e w' => e = .returned (.bool q) ∧ Below w0.heap.size w0 w' := by
  have oT : T.on := by rw [← hT]; exact pt_on x y z
  refine enter (n := 15) (args := [PV x y z]) Try.func22 rfl rfl (Nat.le_of_ble_eq_true rfl) fun ac hs => ?_
  refine wp_seq ?_
  refine wp_region_lit ?_
  refine lstep (wpO_plain rfl (op_box hs none none (cs := (PVl x y z)) rfl rfl rfl rfl rfl rfl fun g1 ac w hs => ?_))
  refine lstep (wpO_plain rfl (op_assign hs none rfl rfl rfl rfl fun ac hs => ?_))
  refine wpList_nil ?_
  refine then_n ?_
  refine wp_seq ?_
  refine wp_region_lit ?_
  refine lstep (wpO_plain rfl (op_load hs none 0 (v := PV x y z) rfl rfl rfl rfl Try.isAgg26 Try.sizeOf26 rfl rfl fun ac hs => ?_))
  refine lstep (wpO_plain rfl (op_call (F := 36) hs none (v := PV (px T) (py T) (pz T)) rfl rfl rfl rfl (Try.call36 _) (own_c x y z T hx hy hT) rfl fun ac w hs => ?_))
  refine lstep (wpO_plain rfl (op_store hs 0 (vs := (PVl (px T) (py T) (pz T))) rfl rfl rfl rfl rfl Try.sizeOf26 rfl rfl rfl rfl rfl fun w hs => ?_))
  refine wpList_nil ?_
  refine then_n ?_
  refine wp_seq ?_
  by_cases hq2 : pz T = true
  · skip
    replace hs := hs.setb 0 (cs' := (PVl (px T) (py T) true)) rfl (by rw [hq2]; rfl)
    refine wp_region_lit ?_
    refine lstep (wpO_plain rfl (op_fieldA hs none rfl rfl rfl Try.underlying26 rfl Try.sizeOf4 (by decide) rfl fun ac hs => ?_))
    refine lstep (wpO_plain rfl (op_load hs none 0 (v := .bool true) rfl rfl rfl rfl Try.isAgg4 Try.sizeOf4 rfl rfl fun ac hs => ?_))
    refine lstep (wpO_plain rfl (op_un hs none (v := .bool false) rfl rfl rfl (fun _ => rfl) rfl fun ac hs => ?_))
    refine lstep (wpO_plain rfl (op_move hs none rfl rfl rfl rfl fun ac hs => ?_))
    refine lstep (wpO_out hs none rfl rfl (.inl rfl) rfl rfl fun ac hs => ?_)
    refine lstep (wpO_out hs none rfl rfl (.inl rfl) rfl rfl fun ac hs => ?_)
    refine lstep (wpO_out hs none rfl rfl (.inl rfl) rfl rfl fun ac hs => ?_)
    refine lstep (wpO_out hs none rfl rfl (.inl rfl) rfl rfl fun ac hs => ?_)
    refine lstep (wpO_out hs none rfl rfl (.inl rfl) rfl rfl fun ac hs => ?_)
    refine lstep (wpO_plain rfl (op_pickF hs none rfl rfl rfl rfl rfl fun ac hs => ?_))
    refine lstep (wpO_plain rfl (op_assign hs none rfl rfl rfl rfl fun ac hs => ?_))
    refine wpList_nil ?_
    refine then_n ?_
    refine wp_ret ?_
    exact bodyPost_ret (res1 rfl (rv_t hs rfl)) hs.defers ⟨by rw [← hq]; exact congrArg (fun b => Ending.returned (.bool b)) (ev_odd hq2), hs.below⟩
  · skip
    replace hs := hs.setb 0 (cs' := (PVl (px T) (py T) false)) rfl (by rw [(Bool.eq_false_iff.2 hq2)]; rfl)
    refine wp_region_lit ?_
    refine lstep (wpO_plain rfl (op_fieldA hs none rfl rfl rfl Try.underlying26 rfl Try.sizeOf4 (by decide) rfl fun ac hs => ?_))
    refine lstep (wpO_plain rfl (op_load hs none 0 (v := .bool false) rfl rfl rfl rfl Try.isAgg4 Try.sizeOf4 rfl rfl fun ac hs => ?_))
    refine lstep (wpO_plain rfl (op_un hs none (v := .bool true) rfl rfl rfl (fun _ => rfl) rfl fun ac hs => ?_))
    refine lstep (wpO_plain rfl (op_move hs none rfl rfl rfl rfl fun ac hs => ?_))
    refine lstep (wpO_in hs rfl rfl rfl (op_fieldA hs none rfl rfl rfl Try.underlying26 rfl Try.sizeOf24 (by decide) rfl fun ac hs => ?_))
    refine lstep (wpO_in hs rfl rfl rfl (op_idxA hs none (j := 0) rfl rfl rfl rfl Try.underlying24 Try.sizeOf22 (by decide) (off := 4) rfl rfl fun ac hs => ?_))
    have l3 := limN_lt (py T) 0
    refine lstep (wpO_in hs rfl rfl rfl (op_load hs none 0 (v := .int .u64 (lim (py T) 0)) rfl rfl rfl rfl Try.isAgg22 Try.sizeOf22 rfl rfl fun ac hs => ?_))
    refine lstep (wpO_in hs rfl rfl rfl (op_bin hs none (v := .int .u64 (((limN (py T) 0) % 2 : Nat) : Int)) rfl rfl rfl rfl (fun _ => rfl) (bin_remN (x := limN (py T) 0) (y := 2) (z := (limN (py T) 0) % 2) rfl (by decide)) rfl fun ac hs => ?_))
    refine lstep (wpO_in hs rfl rfl rfl (op_bin hs none (v := .bool (decide ((limN (py T) 0) % 2 = 0))) rfl rfl rfl rfl (fun _ => rfl) (bin_eqlN (x := (limN (py T) 0) % 2) (y := 0)) rfl fun ac hs => ?_))
    refine lstep (wpO_plain rfl (op_pickT hs none rfl rfl rfl rfl rfl fun ac hs => ?_))
    refine lstep (wpO_plain rfl (op_assign hs none rfl rfl rfl rfl fun ac hs => ?_))
    refine wpList_nil ?_
    refine then_n ?_
    refine wp_ret ?_
    exact bodyPost_ret (res1 rfl (rv_t hs rfl)) hs.defers ⟨by rw [← hq]; exact congrArg (fun b => Ending.returned (.bool b)) (ev_val hq2), hs.below⟩
theorem rbase_c  (w0 : World) : Calls Try.prog 24 #[] w0 fun e w' => e = .returned (PV (px Gp) (py Gp) (pz Gp)) ∧ Below w0.heap.size w0 w' := by
  obtain ⟨n, hn⟩ : ∃ n : Nat, n = 55066263022277343669578718895168534326250603453777594175500187360389116729240 := ⟨_, rfl⟩
  have ln : n < 2 ^ 256 := by rw [hn]; decide
  refine enter (n := 12) (args := []) Try.func24 rfl rfl (Nat.le_of_ble_eq_true rfl) fun ac hs => ?_
  refine wp_seq ?_
  refine wp_region_lit ?_
  refine lstep (wpO_plain rfl (op_alloc hs none none (cs := (PVl 0 0 false)) rfl rfl Try.zeroValue26 (by kernel_rfl) rfl rfl fun g1 ac w hs => ?_))
  refine wpList_nil ?_
  refine then_n ?_
  refine wp_seq ?_
  refine wp_region_lit ?_
  refine lstep (wpO_plain rfl (op_build hs none (qs := [(0, .int .u64 6481385041966929816), (1, .int .u64 188021827762530521), (2, .int .u64 6170039885052185351), (3, .int .u64 8772561819708210092)]) (v := .agg #[.int .u64 6481385041966929816, .int .u64 188021827762530521, .int .u64 6170039885052185351, .int .u64 8772561819708210092]) rfl rfl rfl rfl (fun _ => by kernel_rfl) rfl fun ac hs => ?_))
  refine lstep (wpO_plain rfl (op_alloc hs none none (cs := [.int .u64 0, .int .u64 0, .int .u64 0, .int .u64 0]) rfl rfl Try.zeroValue24 (by kernel_rfl) rfl rfl fun g2 ac w hs => ?_))
  refine lstep (wpO_plain rfl (op_store hs 1 (vs := [.int .u64 6481385041966929816, .int .u64 188021827762530521, .int .u64 6170039885052185351, .int .u64 8772561819708210092]) rfl rfl rfl rfl rfl Try.sizeOf24 rfl rfl rfl rfl rfl fun w hs => ?_))
  refine wpList_nil ?_
  replace hs := hs.setb 1 (cs' := Wl n) rfl (by rw [hn]; rfl)
  refine then_n ?_
  refine wp_seq ?_
  refine wp_region_lit ?_
  refine lstep (wpO_plain rfl (op_load hs none 1 (v := W n) rfl rfl rfl rfl Try.isAgg24 Try.sizeOf24 rfl rfl fun ac hs => ?_))
  refine lstep (wpO_plain rfl (op_call (F := 52) hs none (v := At .u8 32 (by8 n)) rfl rfl rfl rfl (Try.call52 _) (rbytes_c n ln) rfl fun ac w hs => ?_))
  obtain ⟨T3, hT3, oT3⟩ := mkLift (pr (by8 n) 0 32)
  refine lstep (wpO_plain rfl (op_call (F := 30) hs none (v := .tuple #[PV (px T3) (py T3) (pz T3), .bool (!pz T3)]) rfl rfl rfl rfl (Try.call30 _) (rlift_c (by8 n) T3 (fun j _ => by8_lt n j) hT3) rfl fun ac w hs => ?_))
  refine lstep (wpO_plain rfl (op_move hs none rfl rfl rfl rfl fun ac hs => ?_))
  refine lstep (wpO_plain rfl (op_extract hs none rfl rfl rfl rfl rfl fun ac hs => ?_))
  refine lstep (wpO_plain rfl (op_extract hs none rfl rfl rfl rfl rfl fun ac hs => ?_))
  refine lstep (wpO_plain rfl (op_alloc hs none none (cs := (PVl 0 0 false)) rfl rfl Try.zeroValue26 (by kernel_rfl) rfl rfl fun g4 ac w hs => ?_))
  refine lstep (wpO_plain rfl (op_store hs 2 (vs := (PVl (px T3) (py T3) (pz T3))) rfl rfl rfl rfl rfl Try.sizeOf26 rfl rfl rfl rfl rfl fun w hs => ?_))
  refine lstep (wpO_plain rfl (op_assign hs none rfl rfl rfl rfl fun ac hs => ?_))
  refine wpList_nil ?_
  refine then_n ?_
  refine wp_seq ?_
  replace hs : St 12 w0 [(0, true, .pointer (some ⟨g1, 0, none⟩)), (2, true, .pointer (some ⟨g4, 0, none⟩))] [(true, g1, 26, (PVl 0 0 false)), (true, g2, 24, (Wl n)), (true, g4, 26, (PVl (px T3) (py T3) (pz T3)))] ac _ := hs.re ⟨rfl, rfl, trivial⟩
  refine wp_region_lit ?_
  refine lstep (wpO_plain rfl (op_load hs none 2 (v := PV (px T3) (py T3) (pz T3)) rfl rfl rfl rfl Try.isAgg26 Try.sizeOf26 rfl rfl fun ac hs => ?_))
  refine lstep (wpO_plain rfl (op_store hs 0 (vs := (PVl (px T3) (py T3) (pz T3))) rfl rfl rfl rfl rfl Try.sizeOf26 rfl rfl rfl rfl rfl fun w hs => ?_))
  refine wpList_nil ?_
  refine then_n ?_
  refine wp_ret ?_
  exact bodyPost_ret (res1 rfl (rv_c hs 0 (v := PV (px T3) (py T3) (pz T3)) rfl rfl Try.isAgg26 Try.sizeOf26 rfl)) hs.defers ⟨by rw [← hT3, pr_by8_all ln, hn, Gp_lift]; first | done | rfl, hs.below⟩
end Go.Proofs.Ytmpejkhffbonnaa
