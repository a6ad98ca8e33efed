/- The contracts of half, Inverse, of what bytes tell. -/
import Derived.Test.YtaeafgkjinhceaaSl
import Derived.Test.YtaeafgkjinhceaaInvP
namespace Go.Proofs.Ytaeafgkjinhceaa
open Go.RowKit
set_option maxRecDepth 10000

theorem wread_c (b : Nat → Nat) (a : Nat) (hb : ∀ j, j < 32 → b j < 256) (hx : pr b 0 32 = a) (w0 : World) : Calls Try.prog 35 #[At .u8 32 b] w0 fun e w' => e = .returned (W a) ∧ Below w0.heap.size w0 w' := by
  refine enter (n := 28) (args := [At .u8 32 b]) Try.func35 rfl rfl (Nat.le_of_ble_eq_true rfl) fun ac hs => ?_
  refine wp_seq ?_
  refine wp_region_lit ?_
  refine lstep (wpO_plain rfl (op_box hs none none (cs := (tab .u8 32 b)) rfl rfl rfl rfl rfl rfl fun g1 ac w hs => ?_))
  refine lstep (wpO_plain rfl (op_alloc hs none none (cs := [.int .u64 0, .int .u64 0, .int .u64 0, .int .u64 0]) rfl rfl Try.zeroValue24 (by kernel_rfl) rfl rfl fun g2 ac w hs => ?_))
  refine wpList_nil ?_
  refine then_n ?_
  refine wp_seq ?_
  refine wp_region_lit ?_
  refine lstep (wpO_plain rfl (op_alloc hs none none (cs := [.int .u64 0, .int .u64 0, .int .u64 0, .int .u64 0]) rfl rfl Try.zeroValue24 (by kernel_rfl) rfl rfl fun g3 ac w hs => ?_))
  refine wpList_nil ?_
  refine then_n ?_
  refine wp_seq ?_
  refine wp_seq ?_
  refine wp_region_lit ?_
  refine lstep (wpO_plain rfl (op_load hs none 0 (v := At .u8 32 b) rfl rfl rfl rfl Try.isAgg42 Try.sizeOf42 ldv_tab rfl fun ac hs => ?_))
  refine lstep (wpO_plain rfl (op_move hs none rfl rfl rfl rfl fun ac hs => ?_))
  refine wpList_nil ?_
  refine then_n ?_
  refine wp_block ?_
  refine wp_loop_m (fun μ ac w => ∃ (i : Nat) (f : Nat → Nat), (32 - i) = μ ∧ (i ≤ 32) ∧ (∀ j, j < 4 → f j = limN (pr b 0 i * 256 ^ (32 - i)) j) ∧ St 28 w0 [(1, true, .pointer (some ⟨g1, 0, none⟩)), (2, true, .pointer (some ⟨g2, 0, none⟩)), (3, true, .pointer (some ⟨g3, 0, none⟩)), (7, true, At .u8 32 b), (8, true, .int .i64 ((i : Nat) : Int))] [(true, g1, 42, (tab .u8 32 b)), (true, g2, 24, [.int .u64 0, .int .u64 0, .int .u64 0, .int .u64 0]), (true, g3, 24, (tab .u64 4 f))] ac w) ?_ ?_
  · exact ⟨_, 0, (fun _ => 0), rfl, (by omega), read_start, (hs.re ⟨rfl, rfl, rfl, rfl, rfl, trivial⟩)⟩
  intro μ ac w ⟨i, f, hμ, hi, hf, hs⟩
  refine wp_seq ?_
  refine wp_region_lit ?_
  refine lstep (wpO_plain rfl (op_bin hs none (v := .bool (decide (i < 32))) rfl rfl rfl rfl (fun _ => rfl) (bin_lssN (x := i) (y := 32)) rfl fun ac hs => ?_))
  refine wpList_nil ?_
  refine then_n ?_
  refine wp_seq ?_
  refine wp_cond_split (hs.ev rfl) (fun hc => ?_) (fun hc => ?_)
  · skip
    have hp4 := of_decide_eq_true hc
    have hlt : i < 32 := of_decide_eq_true hc
    have hbi := hb i hlt
    refine wp_skip ?_
    refine then_n ?_
    refine wp_seq ?_
    refine wp_block ?_
    refine wp_seq ?_
    refine wp_region_lit ?_
    refine lstep (wpO_plain rfl (op_move hs none rfl rfl rfl rfl fun ac hs => ?_))
    have l5 := hb i (by omega)
    refine lstep (wpO_plain rfl (op_index hs none (v := .int .u8 ((b i : Nat) : Int)) rfl rfl rfl rfl (idx_at (j := i) Try.underlying42 Try.isAgg5 Try.sizeOf5 (show i < 32 by omega)) rfl fun ac hs => ?_))
    refine lstep (wpO_plain rfl (op_assign hs none rfl rfl rfl rfl fun ac hs => ?_))
    refine lstep (wpO_plain rfl (op_assign hs none rfl rfl rfl rfl fun ac hs => ?_))
    refine wpList_nil ?_
    refine then_n ?_
    refine wp_seq ?_
    refine wp_region_lit ?_
    refine lstep (wpO_plain rfl (op_move hs none rfl rfl rfl rfl fun ac hs => ?_))
    refine lstep (wpO_plain rfl (op_bin hs none (v := .int .i64 ((31 - i : Nat) : Int)) rfl rfl rfl rfl (fun _ => rfl) (bin_subN (x := 31) (y := i) (z := 31 - i) (by omega) (show 31 - i < 9223372036854775808 by omega)) rfl fun ac hs => ?_))
    refine lstep (wpO_plain rfl (op_assign hs none rfl rfl rfl rfl fun ac hs => ?_))
    refine wpList_nil ?_
    refine then_n ?_
    replace hs : St 28 w0 [(1, true, .pointer (some ⟨g1, 0, none⟩)), (2, true, .pointer (some ⟨g2, 0, none⟩)), (3, true, .pointer (some ⟨g3, 0, none⟩)), (7, true, At .u8 32 b), (8, true, .int .i64 ((i : Nat) : Int)), (5, true, .int .u8 ((b i : Nat) : Int)), (6, true, .int .i64 ((31 - i : Nat) : Int))] [(true, g1, 42, (tab .u8 32 b)), (true, g2, 24, [.int .u64 0, .int .u64 0, .int .u64 0, .int .u64 0]), (true, g3, 24, (tab .u64 4 f))] ac _ := hs.re ⟨rfl, rfl, rfl, rfl, rfl, rfl, rfl, trivial⟩
    have l6 := read_lt hf ((31 - i) / 8) (by omega)
    refine region_inv [([], [1, 2, 3, 10, 11, 12]), ([0], [2, 3, 10, 11, 12]), ([0, 1], [3, 10, 11, 12]), ([0, 1, 2], [10, 11, 12]), ([], [5, 9, 10, 11, 12]), ([4], [9, 10, 11, 12]), ([], [7, 8, 9, 10, 11, 12]), ([6], [8, 9, 10, 11, 12]), ([6, 7], [9, 10, 11, 12]), ([4, 5, 6, 7, 8], [10, 11, 12]), ([0, 1, 2, 3, 4, 5, 6, 7, 8, 9], [11, 12]), ([0, 1, 2, 3, 4, 5, 6, 7, 8, 9, 10], [12]), ([0, 1, 2, 3, 4, 5, 6, 7, 8, 9, 10, 11], [])] (fun L ac w => St 28 w0 [(14, L 0, .int .i64 ((31 - i : Nat) : Int)), (15, L 1, .int .i64 (((31 - i) / 8 : Nat) : Int)), (16, L 2, .pointer (some ⟨g3, (31 - i) / 8, none⟩)), (17, L 3, .int .u64 ((f ((31 - i) / 8) : Nat) : Int)), (18, L 4, .int .u8 ((b i : Nat) : Int)), (19, L 5, .int .u64 ((b i : Nat) : Int)), (20, L 6, .int .i64 ((31 - i : Nat) : Int)), (21, L 7, .int .i64 (((31 - i) % 8 : Nat) : Int)), (22, L 8, .int .i64 ((8 * ((31 - i) % 8) : Nat) : Int)), (23, L 9, .int .u64 (((b i) * 2 ^ (8 * ((31 - i) % 8)) % 18446744073709551616 : Nat) : Int)), (24, L 10, .int .u64 (((f ((31 - i) / 8)) ||| ((b i) * 2 ^ (8 * ((31 - i) % 8)) % 18446744073709551616) : Nat) : Int)), (25, L 11, .pointer (some ⟨g3, (31 - i) / 8, none⟩)), (1, true, .pointer (some ⟨g1, 0, none⟩)), (2, true, .pointer (some ⟨g2, 0, none⟩)), (3, true, .pointer (some ⟨g3, 0, none⟩)), (7, true, At .u8 32 b), (8, true, .int .i64 ((i : Nat) : Int)), (5, true, .int .u8 ((b i : Nat) : Int)), (6, true, .int .i64 ((31 - i : Nat) : Int))] [(true, g1, 42, (tab .u8 32 b)), (true, g2, 24, [.int .u64 0, .int .u64 0, .int .u64 0, .int .u64 0]), (true, g3, 24, (cond (L 12) (tab .u64 4 (upn f ((31 - i) / 8) ((f ((31 - i) / 8)) ||| ((b i) * 2 ^ (8 * ((31 - i) % 8)) % 18446744073709551616)))) (tab .u64 4 f)))] ac w) (by kernel_rfl) (by kernel_rfl) ?_ ?_ ?_
    · exact hs.drew.skip.skip.skip.skip.skip.skip.skip.skip.skip.skip.skip.skip
    · refine ⟨?_, ?_, ?_, ?_, ?_, ?_, ?_, ?_, ?_, ?_, ?_, ?_, ?_, trivial⟩
      · intro L ac w hJ
        have hs := hJ
        refine wpO_plain rfl (op_move hs (some 0) rfl rfl rfl rfl fun ac hs => ?_)
        exact hs
      · intro L ac w hJ
        have hs := hJ
        refine wpO_plain rfl (op_bin hs (some 1) (v := .int .i64 (((31 - i) / 8 : Nat) : Int)) rfl rfl rfl rfl (fun _ => rfl) (bin_quoN (x := 31 - i) (y := 8) (z := (31 - i) / 8) rfl (by decide) (show 31 - i < 9223372036854775808 by omega)) rfl fun ac hs => ?_)
        exact hs
      · intro L ac w hJ
        have hs := hJ
        refine wpO_plain rfl (op_idxA hs (some 2) (j := (31 - i) / 8) rfl rfl rfl rfl Try.underlying24 Try.sizeOf22 (show (31 - i) / 8 < 4 by omega) (off := (31 - i) / 8) (by omega) rfl fun ac hs => ?_)
        exact hs
      · intro L ac w hJ
        have hs := hJ
        refine wpO_plain rfl (op_load hs (some 3) 2 (v := .int .u64 ((f ((31 - i) / 8) : Nat) : Int)) rfl rfl rfl rfl Try.isAgg22 Try.sizeOf22 (tab_get (j := (31 - i) / 8) (show (31 - i) / 8 < 4 by omega)) rfl fun ac hs => ?_)
        exact hs
      · intro L ac w hJ
        have hs := hJ
        refine wpO_plain rfl (op_move hs (some 4) rfl rfl rfl rfl fun ac hs => ?_)
        exact hs
      · intro L ac w hJ
        have hs := hJ
        refine wpO_plain rfl (op_convert hs (some 5) (v := .int .u64 ((b i : Nat) : Int)) rfl rfl rfl (conv_N Try.underlying5 Try.underlying22 (show b i < 18446744073709551616 by omega)) rfl fun ac hs => ?_)
        exact hs
      · intro L ac w hJ
        have hs := hJ
        refine wpO_plain rfl (op_move hs (some 6) rfl rfl rfl rfl fun ac hs => ?_)
        exact hs
      · intro L ac w hJ
        have hs := hJ
        refine wpO_plain rfl (op_bin hs (some 7) (v := .int .i64 (((31 - i) % 8 : Nat) : Int)) rfl rfl rfl rfl (fun _ => rfl) (bin_remN (x := 31 - i) (y := 8) (z := (31 - i) % 8) rfl (by decide)) rfl fun ac hs => ?_)
        exact hs
      · intro L ac w hJ
        have hs := hJ
        refine wpO_plain rfl (op_bin hs (some 8) (v := .int .i64 ((8 * ((31 - i) % 8) : Nat) : Int)) rfl rfl rfl rfl (fun _ => rfl) (bin_mulN (x := 8) (y := (31 - i) % 8) (z := 8 * ((31 - i) % 8)) rfl (show 8 * ((31 - i) % 8) < 9223372036854775808 by omega)) rfl fun ac hs => ?_)
        exact hs
      · intro L ac w hJ
        have hs := hJ
        refine wpO_plain rfl (op_bin hs (some 9) (v := .int .u64 (((b i) * 2 ^ (8 * ((31 - i) % 8)) % 18446744073709551616 : Nat) : Int)) rfl rfl rfl rfl (fun _ => rfl) (bin_shlM (x := b i) (y := 8 * ((31 - i) % 8)) (z := (b i) * 2 ^ (8 * ((31 - i) % 8)) % 18446744073709551616) rfl rfl) rfl fun ac hs => ?_)
        exact hs
      · intro L ac w hJ
        have hs := hJ
        refine wpO_plain rfl (op_bin hs (some 10) (v := .int .u64 (((f ((31 - i) / 8)) ||| ((b i) * 2 ^ (8 * ((31 - i) % 8)) % 18446744073709551616) : Nat) : Int)) rfl rfl rfl rfl (fun _ => rfl) (bin_orN (x := f ((31 - i) / 8)) (y := (b i) * 2 ^ (8 * ((31 - i) % 8)) % 18446744073709551616) (z := (f ((31 - i) / 8)) ||| ((b i) * 2 ^ (8 * ((31 - i) % 8)) % 18446744073709551616)) rfl (show f ((31 - i) / 8) < 18446744073709551616 by omega) (show (b i) * 2 ^ (8 * ((31 - i) % 8)) % 18446744073709551616 < 18446744073709551616 by omega) (or_lt64 (show f ((31 - i) / 8) < 18446744073709551616 by omega) (show (b i) * 2 ^ (8 * ((31 - i) % 8)) % 18446744073709551616 < 18446744073709551616 by omega))) rfl fun ac hs => ?_)
        exact hs
      · intro L ac w hJ
        have hs := hJ
        refine wpO_plain rfl (op_idxA hs (some 11) (j := (31 - i) / 8) rfl rfl rfl rfl Try.underlying24 Try.sizeOf22 (show (31 - i) / 8 < 4 by omega) (off := (31 - i) / 8) (by omega) rfl fun ac hs => ?_)
        exact hs
      · intro L ac w hJ
        have hs := hJ
        refine wpO_plain rfl (op_store hs 2 (vs := [.int .u64 (((f ((31 - i) / 8)) ||| ((b i) * 2 ^ (8 * ((31 - i) % 8)) % 18446744073709551616) : Nat) : Int)]) rfl rfl rfl rfl rfl Try.sizeOf22 rfl rfl rfl (tab_le (j := (31 - i) / 8) (show (31 - i) / 8 < 4 by omega)) (tab_set) fun w hs => ?_)
        exact hs
    intro ac w hJ
    replace hs : St 28 w0 [(14, true, .int .i64 ((31 - i : Nat) : Int)), (15, true, .int .i64 (((31 - i) / 8 : Nat) : Int)), (16, true, .pointer (some ⟨g3, (31 - i) / 8, none⟩)), (17, true, .int .u64 ((f ((31 - i) / 8) : Nat) : Int)), (18, true, .int .u8 ((b i : Nat) : Int)), (19, true, .int .u64 ((b i : Nat) : Int)), (20, true, .int .i64 ((31 - i : Nat) : Int)), (21, true, .int .i64 (((31 - i) % 8 : Nat) : Int)), (22, true, .int .i64 ((8 * ((31 - i) % 8) : Nat) : Int)), (23, true, .int .u64 (((b i) * 2 ^ (8 * ((31 - i) % 8)) % 18446744073709551616 : Nat) : Int)), (24, true, .int .u64 (((f ((31 - i) / 8)) ||| ((b i) * 2 ^ (8 * ((31 - i) % 8)) % 18446744073709551616) : Nat) : Int)), (25, true, .pointer (some ⟨g3, (31 - i) / 8, none⟩)), (1, true, .pointer (some ⟨g1, 0, none⟩)), (2, true, .pointer (some ⟨g2, 0, none⟩)), (3, true, .pointer (some ⟨g3, 0, none⟩)), (7, true, At .u8 32 b), (8, true, .int .i64 ((i : Nat) : Int)), (5, true, .int .u8 ((b i : Nat) : Int)), (6, true, .int .i64 ((31 - i : Nat) : Int))] [(true, g1, 42, (tab .u8 32 b)), (true, g2, 24, [.int .u64 0, .int .u64 0, .int .u64 0, .int .u64 0]), (true, g3, 24, (tab .u64 4 (upn f ((31 - i) / 8) ((f ((31 - i) / 8)) ||| ((b i) * 2 ^ (8 * ((31 - i) % 8)) % 18446744073709551616)))))] ac w := hJ
    refine blk_n ?_
    refine then_n ?_
    refine wp_region_lit ?_
    refine lstep (wpO_plain rfl (op_bin hs none (v := .int .i64 ((i + 1 : Nat) : Int)) rfl rfl rfl rfl (fun _ => rfl) (bin_addN (x := i) (y := 1) (z := i + 1) rfl (show i + 1 < 9223372036854775808 by omega)) rfl fun ac hs => ?_))
    refine lstep (wpO_plain rfl (op_move hs none rfl rfl rfl rfl fun ac hs => ?_))
    refine wpList_nil ?_
    refine then_n ?_
    exact ⟨_, ⟨(i + 1), (upn f ((31 - i) / 8) ((f ((31 - i) / 8)) ||| ((b i) * 2 ^ (8 * ((31 - i) % 8)) % 18446744073709551616))), rfl, hlt, (read_step hlt hbi hf), (hs.re ⟨rfl, rfl, rfl, rfl, rfl, trivial⟩)⟩, (by omega)⟩
  · skip
    have hp7 := of_decide_eq_false hc
    obtain rfl : i = 32 := by omega
    replace hs := hs.setb 2 (cs' := Wl a) rfl (tab_Wl fun j hj => (hf j hj).trans (by rw [← hx, Nat.sub_self, Nat.pow_zero, Nat.mul_one]))
    refine wp_exit ?_
    refine then_e ?_
    refine then_e ?_
    refine blk_e ?_
    refine then_n ?_
    refine wp_seq ?_
    refine wp_region_lit ?_
    refine lstep (wpO_plain rfl (op_load hs none 2 (v := W a) rfl rfl rfl rfl Try.isAgg24 Try.sizeOf24 rfl rfl fun ac hs => ?_))
    refine lstep (wpO_plain rfl (op_store hs 1 (vs := (Wl a)) rfl rfl rfl rfl rfl Try.sizeOf24 rfl rfl rfl rfl rfl fun w hs => ?_))
    refine wpList_nil ?_
    refine then_n ?_
    refine wp_ret ?_
    exact bodyPost_ret (res1 rfl (rv_c hs 1 (v := W a) rfl rfl Try.isAgg24 Try.sizeOf24 rfl)) hs.defers ⟨rfl, hs.below⟩
theorem rread_c (b : Nat → Nat) (a : Nat) (hb : ∀ j, j < 32 → b j < 256) (hx : pr b 0 32 = a) (w0 : World) : Calls Try.prog 36 #[At .u8 32 b] w0 fun e w' => e = .returned (W a) ∧ Below w0.heap.size w0 w' := by
  refine enter (n := 26) (args := [At .u8 32 b]) Try.func36 rfl rfl (Nat.le_of_ble_eq_true rfl) fun ac hs => ?_
  refine wp_seq ?_
  refine wp_region_lit ?_
  refine lstep (wpO_plain rfl (op_box hs none none (cs := (tab .u8 32 b)) rfl rfl rfl rfl rfl rfl fun g1 ac w hs => ?_))
  refine lstep (wpO_plain rfl (op_alloc hs none none (cs := [.int .u64 0, .int .u64 0, .int .u64 0, .int .u64 0]) rfl rfl Try.zeroValue24 (by kernel_rfl) rfl rfl fun g2 ac w hs => ?_))
  refine wpList_nil ?_
  refine then_n ?_
  refine wp_seq ?_
  refine wp_region_lit ?_
  refine lstep (wpO_plain rfl (op_build hs none (qs := []) (v := .agg #[.int .u64 0, .int .u64 0, .int .u64 0, .int .u64 0]) rfl rfl rfl rfl (fun _ => by kernel_rfl) rfl fun ac hs => ?_))
  refine lstep (wpO_plain rfl (op_alloc hs none none (cs := [.int .u64 0, .int .u64 0, .int .u64 0, .int .u64 0]) rfl rfl Try.zeroValue24 (by kernel_rfl) rfl rfl fun g3 ac w hs => ?_))
  refine lstep (wpO_plain rfl (op_store hs 2 (vs := [.int .u64 0, .int .u64 0, .int .u64 0, .int .u64 0]) rfl rfl rfl rfl rfl Try.sizeOf24 rfl rfl rfl rfl rfl fun w hs => ?_))
  refine wpList_nil ?_
  refine then_n ?_
  refine wp_seq ?_
  refine wp_seq ?_
  refine wp_region_lit ?_
  refine lstep (wpO_plain rfl (op_assign hs none rfl rfl rfl rfl fun ac hs => ?_))
  refine wpList_nil ?_
  refine then_n ?_
  refine wp_block ?_
  refine wp_loop_m (fun μ ac w => ∃ (i : Nat) (f : Nat → Nat), (32 - i) = μ ∧ (i ≤ 32) ∧ (∀ j, j < 4 → f j = pr b (8 * (3 - j)) (min 8 (i - 8 * (3 - j)))) ∧ St 26 w0 [(1, true, .pointer (some ⟨g1, 0, none⟩)), (2, true, .pointer (some ⟨g2, 0, none⟩)), (3, true, .pointer (some ⟨g3, 0, none⟩)), (4, true, .int .i64 ((i : Nat) : Int))] [(true, g1, 42, (tab .u8 32 b)), (true, g2, 24, [.int .u64 0, .int .u64 0, .int .u64 0, .int .u64 0]), (true, g3, 24, (tab .u64 4 f))] ac w) ?_ ?_
  · exact ⟨_, 0, (fun _ => 0), rfl, (by omega), rread_start, (hs.re ⟨rfl, rfl, rfl, rfl, trivial⟩)⟩
  intro μ ac w ⟨i, f, hμ, hi, hf, hs⟩
  refine wp_seq ?_
  refine wp_seq ?_
  refine wp_region_lit ?_
  refine lstep (wpO_plain rfl (op_move hs none rfl rfl rfl rfl fun ac hs => ?_))
  refine lstep (wpO_plain rfl (op_bin hs none (v := .bool (decide (i < 32))) rfl rfl rfl rfl (fun _ => rfl) (bin_lssN (x := i) (y := 32)) rfl fun ac hs => ?_))
  refine wpList_nil ?_
  refine then_n ?_
  refine wp_cond_split (hs.ev rfl) (fun hc => ?_) (fun hc => ?_)
  · skip
    have hp4 := of_decide_eq_true hc
    have hlt : i < 32 := of_decide_eq_true hc
    have hbi := hb i hlt
    have hroom := rread_room hb hlt hf
    refine wp_skip ?_
    refine then_n ?_
    refine wp_seq ?_
    refine wp_block ?_
    replace hs : St 26 w0 [(1, true, .pointer (some ⟨g1, 0, none⟩)), (2, true, .pointer (some ⟨g2, 0, none⟩)), (3, true, .pointer (some ⟨g3, 0, none⟩)), (4, true, .int .i64 ((i : Nat) : Int))] [(true, g1, 42, (tab .u8 32 b)), (true, g2, 24, [.int .u64 0, .int .u64 0, .int .u64 0, .int .u64 0]), (true, g3, 24, (tab .u64 4 f))] ac _ := hs.re ⟨rfl, rfl, rfl, rfl, trivial⟩
    have l5 := hb i (by omega)
    refine region_inv [([], [1, 2, 14, 15]), ([0], [2, 14, 15]), ([0, 1], [14, 15]), ([], [4, 5, 6, 7, 8, 13, 14, 15]), ([3], [5, 6, 7, 8, 13, 14, 15]), ([3, 4], [6, 7, 8, 13, 14, 15]), ([3, 4, 5], [7, 8, 13, 14, 15]), ([3, 4, 5, 6], [8, 13, 14, 15]), ([3, 4, 5, 6, 7], [13, 14, 15]), ([], [10, 11, 12, 13, 14, 15]), ([9], [11, 12, 13, 14, 15]), ([9, 10], [12, 13, 14, 15]), ([9, 10, 11], [13, 14, 15]), ([3, 4, 5, 6, 7, 8, 9, 10, 11, 12], [14, 15]), ([0, 1, 2, 3, 4, 5, 6, 7, 8, 9, 10, 11, 12, 13], [15]), ([0, 1, 2, 3, 4, 5, 6, 7, 8, 9, 10, 11, 12, 13, 14], [])] (fun L ac w => St 26 w0 [(10, L 0, .int .i64 ((i : Nat) : Int)), (11, L 1, .int .i64 ((i / 8 : Nat) : Int)), (12, L 2, .int .i64 ((3 - (i / 8) : Nat) : Int)), (13, L 3, .int .i64 ((i : Nat) : Int)), (14, L 4, .int .i64 ((i / 8 : Nat) : Int)), (15, L 5, .int .i64 ((3 - (i / 8) : Nat) : Int)), (16, L 6, .pointer (some ⟨g3, 3 - (i / 8), none⟩)), (17, L 7, .int .u64 ((f (3 - (i / 8)) : Nat) : Int)), (18, L 8, .int .u64 (((f (3 - (i / 8))) * 256 : Nat) : Int)), (19, L 9, .int .i64 ((i : Nat) : Int)), (20, L 10, .pointer (some ⟨g1, i, none⟩)), (21, L 11, .int .u8 ((b i : Nat) : Int)), (22, L 12, .int .u64 ((b i : Nat) : Int)), (23, L 13, .int .u64 (((f (3 - (i / 8))) * 256 + (b i) : Nat) : Int)), (24, L 14, .pointer (some ⟨g3, 3 - (i / 8), none⟩)), (1, true, .pointer (some ⟨g1, 0, none⟩)), (2, true, .pointer (some ⟨g2, 0, none⟩)), (3, true, .pointer (some ⟨g3, 0, none⟩)), (4, true, .int .i64 ((i : Nat) : Int))] [(true, g1, 42, (tab .u8 32 b)), (true, g2, 24, [.int .u64 0, .int .u64 0, .int .u64 0, .int .u64 0]), (true, g3, 24, (cond (L 15) (tab .u64 4 (upn f (3 - (i / 8)) ((f (3 - (i / 8))) * 256 + (b i)))) (tab .u64 4 f)))] ac w) (by kernel_rfl) (by kernel_rfl) ?_ ?_ ?_
    · exact hs.drew.skip.skip.skip.skip.skip.skip.skip.skip.skip.skip.skip.skip.skip.skip.skip
    · refine ⟨?_, ?_, ?_, ?_, ?_, ?_, ?_, ?_, ?_, ?_, ?_, ?_, ?_, ?_, ?_, ?_, trivial⟩
      · intro L ac w hJ
        have hs := hJ
        refine wpO_plain rfl (op_move hs (some 0) rfl rfl rfl rfl fun ac hs => ?_)
        exact hs
      · intro L ac w hJ
        have hs := hJ
        refine wpO_plain rfl (op_bin hs (some 1) (v := .int .i64 ((i / 8 : Nat) : Int)) rfl rfl rfl rfl (fun _ => rfl) (bin_quoN (x := i) (y := 8) (z := i / 8) rfl (by decide) (show i < 9223372036854775808 by omega)) rfl fun ac hs => ?_)
        exact hs
      · intro L ac w hJ
        have hs := hJ
        refine wpO_plain rfl (op_bin hs (some 2) (v := .int .i64 ((3 - (i / 8) : Nat) : Int)) rfl rfl rfl rfl (fun _ => rfl) (bin_subN (x := 3) (y := i / 8) (z := 3 - (i / 8)) (by omega) (show 3 - (i / 8) < 9223372036854775808 by omega)) rfl fun ac hs => ?_)
        exact hs
      · intro L ac w hJ
        have hs := hJ
        refine wpO_plain rfl (op_move hs (some 3) rfl rfl rfl rfl fun ac hs => ?_)
        exact hs
      · intro L ac w hJ
        have hs := hJ
        refine wpO_plain rfl (op_bin hs (some 4) (v := .int .i64 ((i / 8 : Nat) : Int)) rfl rfl rfl rfl (fun _ => rfl) (bin_quoN (x := i) (y := 8) (z := i / 8) rfl (by decide) (show i < 9223372036854775808 by omega)) rfl fun ac hs => ?_)
        exact hs
      · intro L ac w hJ
        have hs := hJ
        refine wpO_plain rfl (op_bin hs (some 5) (v := .int .i64 ((3 - (i / 8) : Nat) : Int)) rfl rfl rfl rfl (fun _ => rfl) (bin_subN (x := 3) (y := i / 8) (z := 3 - (i / 8)) (by omega) (show 3 - (i / 8) < 9223372036854775808 by omega)) rfl fun ac hs => ?_)
        exact hs
      · intro L ac w hJ
        have hs := hJ
        refine wpO_plain rfl (op_idxA hs (some 6) (j := 3 - (i / 8)) rfl rfl rfl rfl Try.underlying24 Try.sizeOf22 (show 3 - (i / 8) < 4 by omega) (off := 3 - (i / 8)) (by omega) rfl fun ac hs => ?_)
        exact hs
      · intro L ac w hJ
        have hs := hJ
        refine wpO_plain rfl (op_load hs (some 7) 2 (v := .int .u64 ((f (3 - (i / 8)) : Nat) : Int)) rfl rfl rfl rfl Try.isAgg22 Try.sizeOf22 (tab_get (j := 3 - (i / 8)) (show 3 - (i / 8) < 4 by omega)) rfl fun ac hs => ?_)
        exact hs
      · intro L ac w hJ
        have hs := hJ
        refine wpO_plain rfl (op_bin hs (some 8) (v := .int .u64 (((f (3 - (i / 8))) * 256 : Nat) : Int)) rfl rfl rfl rfl (fun _ => rfl) (bin_mulN (x := f (3 - (i / 8))) (y := 256) (z := (f (3 - (i / 8))) * 256) rfl (show (f (3 - (i / 8))) * 256 < 18446744073709551616 by omega)) rfl fun ac hs => ?_)
        exact hs
      · intro L ac w hJ
        have hs := hJ
        refine wpO_plain rfl (op_move hs (some 9) rfl rfl rfl rfl fun ac hs => ?_)
        exact hs
      · intro L ac w hJ
        have hs := hJ
        refine wpO_plain rfl (op_idxA hs (some 10) (j := i) rfl rfl rfl rfl Try.underlying42 Try.sizeOf5 (show i < 32 by omega) (off := i) (by omega) rfl fun ac hs => ?_)
        exact hs
      · intro L ac w hJ
        have hs := hJ
        refine wpO_plain rfl (op_load hs (some 11) 0 (v := .int .u8 ((b i : Nat) : Int)) rfl rfl rfl rfl Try.isAgg5 Try.sizeOf5 (tab_get (j := i) (show i < 32 by omega)) rfl fun ac hs => ?_)
        exact hs
      · intro L ac w hJ
        have hs := hJ
        refine wpO_plain rfl (op_convert hs (some 12) (v := .int .u64 ((b i : Nat) : Int)) rfl rfl rfl (conv_N Try.underlying5 Try.underlying22 (show b i < 18446744073709551616 by omega)) rfl fun ac hs => ?_)
        exact hs
      · intro L ac w hJ
        have hs := hJ
        refine wpO_plain rfl (op_bin hs (some 13) (v := .int .u64 (((f (3 - (i / 8))) * 256 + (b i) : Nat) : Int)) rfl rfl rfl rfl (fun _ => rfl) (bin_addN (x := (f (3 - (i / 8))) * 256) (y := b i) (z := (f (3 - (i / 8))) * 256 + (b i)) rfl (show (f (3 - (i / 8))) * 256 + (b i) < 18446744073709551616 by omega)) rfl fun ac hs => ?_)
        exact hs
      · intro L ac w hJ
        have hs := hJ
        refine wpO_plain rfl (op_idxA hs (some 14) (j := 3 - (i / 8)) rfl rfl rfl rfl Try.underlying24 Try.sizeOf22 (show 3 - (i / 8) < 4 by omega) (off := 3 - (i / 8)) (by omega) rfl fun ac hs => ?_)
        exact hs
      · intro L ac w hJ
        have hs := hJ
        refine wpO_plain rfl (op_store hs 2 (vs := [.int .u64 (((f (3 - (i / 8))) * 256 + (b i) : Nat) : Int)]) rfl rfl rfl rfl rfl Try.sizeOf22 rfl rfl rfl (tab_le (j := 3 - (i / 8)) (show 3 - (i / 8) < 4 by omega)) (tab_set) fun w hs => ?_)
        exact hs
    intro ac w hJ
    replace hs : St 26 w0 [(10, true, .int .i64 ((i : Nat) : Int)), (11, true, .int .i64 ((i / 8 : Nat) : Int)), (12, true, .int .i64 ((3 - (i / 8) : Nat) : Int)), (13, true, .int .i64 ((i : Nat) : Int)), (14, true, .int .i64 ((i / 8 : Nat) : Int)), (15, true, .int .i64 ((3 - (i / 8) : Nat) : Int)), (16, true, .pointer (some ⟨g3, 3 - (i / 8), none⟩)), (17, true, .int .u64 ((f (3 - (i / 8)) : Nat) : Int)), (18, true, .int .u64 (((f (3 - (i / 8))) * 256 : Nat) : Int)), (19, true, .int .i64 ((i : Nat) : Int)), (20, true, .pointer (some ⟨g1, i, none⟩)), (21, true, .int .u8 ((b i : Nat) : Int)), (22, true, .int .u64 ((b i : Nat) : Int)), (23, true, .int .u64 (((f (3 - (i / 8))) * 256 + (b i) : Nat) : Int)), (24, true, .pointer (some ⟨g3, 3 - (i / 8), none⟩)), (1, true, .pointer (some ⟨g1, 0, none⟩)), (2, true, .pointer (some ⟨g2, 0, none⟩)), (3, true, .pointer (some ⟨g3, 0, none⟩)), (4, true, .int .i64 ((i : Nat) : Int))] [(true, g1, 42, (tab .u8 32 b)), (true, g2, 24, [.int .u64 0, .int .u64 0, .int .u64 0, .int .u64 0]), (true, g3, 24, (tab .u64 4 (upn f (3 - (i / 8)) ((f (3 - (i / 8))) * 256 + (b i)))))] ac w := hJ
    refine blk_n ?_
    refine then_n ?_
    refine wp_region_lit ?_
    refine lstep (wpO_plain rfl (op_move hs none rfl rfl rfl rfl fun ac hs => ?_))
    refine lstep (wpO_plain rfl (op_bin hs none (v := .int .i64 ((i + 1 : Nat) : Int)) rfl rfl rfl rfl (fun _ => rfl) (bin_addN (x := i) (y := 1) (z := i + 1) rfl (show i + 1 < 9223372036854775808 by omega)) rfl fun ac hs => ?_))
    refine lstep (wpO_plain rfl (op_assign hs none rfl rfl rfl rfl fun ac hs => ?_))
    refine wpList_nil ?_
    refine then_n ?_
    exact ⟨_, ⟨(i + 1), (upn f (3 - (i / 8)) ((f (3 - (i / 8))) * 256 + (b i))), rfl, hlt, (rread_step hlt hf), (hs.re ⟨rfl, rfl, rfl, rfl, trivial⟩)⟩, (by omega)⟩
  · skip
    have hp6 := of_decide_eq_false hc
    obtain rfl : i = 32 := by omega
    replace hs := hs.setb 2 (cs' := Wl a) rfl (tab_Wl fun j hj => (hf j hj).trans (rread_fin hb hx hj))
    refine wp_exit ?_
    refine then_e ?_
    refine then_e ?_
    refine blk_e ?_
    refine then_n ?_
    refine wp_seq ?_
    refine wp_region_lit ?_
    refine lstep (wpO_plain rfl (op_load hs none 2 (v := W a) rfl rfl rfl rfl Try.isAgg24 Try.sizeOf24 rfl rfl fun ac hs => ?_))
    refine lstep (wpO_plain rfl (op_store hs 1 (vs := (Wl a)) rfl rfl rfl rfl rfl Try.sizeOf24 rfl rfl rfl rfl rfl fun w hs => ?_))
    refine wpList_nil ?_
    refine then_n ?_
    refine wp_ret ?_
    exact bodyPost_ret (res1 rfl (rv_c hs 1 (v := W a) rfl rfl Try.isAgg24 Try.sizeOf24 rfl)) hs.defers ⟨rfl, hs.below⟩
end Go.Proofs.Ytaeafgkjinhceaa
