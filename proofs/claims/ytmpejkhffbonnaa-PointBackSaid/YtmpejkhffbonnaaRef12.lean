/- The contracts of the reference's Less and More. -/
import Derived.Test.YtmpejkhffbonnaaRefP
namespace Go.Proofs.Ytmpejkhffbonnaa
open Go.RowKit
set_option maxRecDepth 10000

theorem less_at (a b d q : Nat) (ha : a < 2 ^ 256) (hb : b < 2 ^ 256) (hd : (a + 2 ^ 256 - b) % 2 ^ 256 = d) (hc' : bor a b = q) (w0 : World) : Calls Try.prog 93 #[W a, W b] w0 fun e w' => e = .returned (.tuple #[W d, .int .u64 ((q : Nat) : Int)]) ∧ Below w0.heap.size w0 w' := by
  refine enter (n := 47) (args := [W a, W b]) Try.func93 rfl rfl (Nat.le_of_ble_eq_true rfl) fun ac hs => ?_
  refine wp_seq ?_
  refine wp_region_lit ?_
  refine lstep (wpO_plain rfl (op_box hs none none (cs := (Wl a)) rfl rfl rfl rfl rfl rfl fun g1 ac w hs => ?_))
  refine lstep (wpO_plain rfl (op_box hs none none (cs := (Wl b)) rfl rfl rfl rfl rfl rfl fun g2 ac w hs => ?_))
  refine lstep (wpO_plain rfl (op_alloc hs none none (cs := [.int .u64 0, .int .u64 0, .int .u64 0, .int .u64 0]) rfl rfl Try.zeroValue24 (by kernel_rfl) rfl rfl fun g3 ac w hs => ?_))
  refine lstep (wpO_plain rfl (op_assign hs none rfl rfl rfl rfl fun ac hs => ?_))
  refine wpList_nil ?_
  refine then_n ?_
  refine wp_seq ?_
  refine wp_region_lit ?_
  refine lstep (wpO_plain rfl (op_build hs none (qs := []) (v := .agg #[.int .u64 0, .int .u64 0, .int .u64 0, .int .u64 0]) rfl rfl rfl rfl (fun _ => by kernel_rfl) rfl fun ac hs => ?_))
  refine lstep (wpO_plain rfl (op_alloc hs none none (cs := [.int .u64 0, .int .u64 0, .int .u64 0, .int .u64 0]) rfl rfl Try.zeroValue24 (by kernel_rfl) rfl rfl fun g4 ac w hs => ?_))
  refine lstep (wpO_plain rfl (op_store hs 3 (vs := [.int .u64 0, .int .u64 0, .int .u64 0, .int .u64 0]) rfl rfl rfl rfl rfl Try.sizeOf24 rfl rfl rfl rfl rfl fun w hs => ?_))
  refine wpList_nil ?_
  refine then_n ?_
  refine wp_seq ?_
  refine wp_region_lit ?_
  refine lstep (wpO_plain rfl (op_assign hs none rfl rfl rfl rfl fun ac hs => ?_))
  refine wpList_nil ?_
  refine then_n ?_
  refine wp_seq ?_
  refine wp_seq ?_
  refine wp_region_lit ?_
  refine lstep (wpO_plain rfl (op_assign hs none rfl rfl rfl rfl fun ac hs => ?_))
  refine wpList_nil ?_
  refine then_n ?_
  refine wp_block ?_
  refine wp_loop_m (fun μ ac w => ∃ (k : Nat) (c : Nat) (f : Nat → Nat), (4 - k) = μ ∧ (k ≤ 4) ∧ (c = brw a b k) ∧ (∀ j, j < k → f j = limN (a + 2 ^ 256 - b) j) ∧ St 47 w0 [(2, true, .pointer (some ⟨g1, 0, none⟩)), (3, true, .pointer (some ⟨g2, 0, none⟩)), (4, true, .pointer (some ⟨g3, 0, none⟩)), (6, true, .pointer (some ⟨g4, 0, none⟩)), (7, true, .int .u64 ((c : Nat) : Int)), (8, true, .int .i64 ((k : Nat) : Int))] [(true, g1, 24, (Wl a)), (true, g2, 24, (Wl b)), (true, g3, 24, [.int .u64 0, .int .u64 0, .int .u64 0, .int .u64 0]), (true, g4, 24, (tab .u64 4 f))] ac w) ?_ ?_
  · exact ⟨_, 0, 0, (fun _ => 0), rfl, (by omega), (brw_zero a b).symm, (fun j hj => by omega), (hs.re ⟨rfl, rfl, rfl, rfl, rfl, rfl, trivial⟩)⟩
  intro μ ac w ⟨k, c, f, hμ, hk, hcb, hf, hs⟩
  have hc0 : c ≤ 1 := by rw [hcb]; exact brw_le a b k
  refine wp_seq ?_
  refine wp_seq ?_
  refine wp_region_lit ?_
  refine lstep (wpO_plain rfl (op_move hs none rfl rfl rfl rfl fun ac hs => ?_))
  refine lstep (wpO_plain rfl (op_bin hs none (v := .bool (decide (k < 4))) rfl rfl rfl rfl (fun _ => rfl) (bin_lssN (x := k) (y := 4)) rfl fun ac hs => ?_))
  refine wpList_nil ?_
  refine then_n ?_
  refine wp_cond_split (hs.ev rfl) (fun hc => ?_) (fun hc => ?_)
  · skip
    have hp5 := of_decide_eq_true hc
    have hlt : k < 4 := of_decide_eq_true hc
    refine wp_skip ?_
    refine then_n ?_
    refine wp_seq ?_
    refine wp_block ?_
    refine wp_seq ?_
    replace hs : St 47 w0 [(2, true, .pointer (some ⟨g1, 0, none⟩)), (3, true, .pointer (some ⟨g2, 0, none⟩)), (4, true, .pointer (some ⟨g3, 0, none⟩)), (6, true, .pointer (some ⟨g4, 0, none⟩)), (7, true, .int .u64 ((c : Nat) : Int)), (8, true, .int .i64 ((k : Nat) : Int))] [(true, g1, 24, (Wl a)), (true, g2, 24, (Wl b)), (true, g3, 24, [.int .u64 0, .int .u64 0, .int .u64 0, .int .u64 0]), (true, g4, 24, (tab .u64 4 f))] ac _ := hs.re ⟨rfl, rfl, rfl, rfl, rfl, rfl, trivial⟩
    have l6 := limN_lt a k
    have l7 := limN_lt b k
    refine region_inv [([], [10, 11]), ([], [2, 3, 7, 9, 10, 11]), ([1], [3, 7, 9, 10, 11]), ([1, 2], [7, 9, 10, 11]), ([], [5, 6, 7, 9, 10, 11]), ([4], [6, 7, 9, 10, 11]), ([4, 5], [7, 9, 10, 11]), ([1, 2, 3, 4, 5, 6], [9, 10, 11]), ([], [9, 10, 11]), ([1, 2, 3, 4, 5, 6, 7, 8], [10, 11]), ([0, 1, 2, 3, 4, 5, 6, 7, 8, 9], [11]), ([0, 1, 2, 3, 4, 5, 6, 7, 8, 9, 10], [])] (fun L ac w => St 47 w0 [(14, L 0, .int .i64 ((k : Nat) : Int)), (15, L 1, .int .i64 ((k : Nat) : Int)), (16, L 2, .pointer (some ⟨g1, k, none⟩)), (17, L 3, .int .u64 ((limN a k : Nat) : Int)), (18, L 4, .int .i64 ((k : Nat) : Int)), (19, L 5, .pointer (some ⟨g2, k, none⟩)), (20, L 6, .int .u64 ((limN b k : Nat) : Int)), (21, L 7, .int .u64 (((limN a k + 18446744073709551616 - (limN b k)) % 18446744073709551616 : Nat) : Int)), (22, L 8, .int .u64 ((c : Nat) : Int)), (23, L 9, .int .u64 ((((limN a k + 18446744073709551616 - (limN b k)) % 18446744073709551616 + 18446744073709551616 - c) % 18446744073709551616 : Nat) : Int)), (24, L 10, .pointer (some ⟨g4, k, none⟩)), (2, true, .pointer (some ⟨g1, 0, none⟩)), (3, true, .pointer (some ⟨g2, 0, none⟩)), (4, true, .pointer (some ⟨g3, 0, none⟩)), (6, true, .pointer (some ⟨g4, 0, none⟩)), (7, true, .int .u64 ((c : Nat) : Int)), (8, true, .int .i64 ((k : Nat) : Int))] [(true, g1, 24, (Wl a)), (true, g2, 24, (Wl b)), (true, g3, 24, [.int .u64 0, .int .u64 0, .int .u64 0, .int .u64 0]), (true, g4, 24, (cond (L 11) (tab .u64 4 (upn f k (((limN a k + 18446744073709551616 - (limN b k)) % 18446744073709551616 + 18446744073709551616 - c) % 18446744073709551616))) (tab .u64 4 f)))] ac w) (by kernel_rfl) (by kernel_rfl) ?_ ?_ ?_
    · exact hs.drew.skip.skip.skip.skip.skip.skip.skip.skip.skip.skip.skip
    · refine ⟨?_, ?_, ?_, ?_, ?_, ?_, ?_, ?_, ?_, ?_, ?_, ?_, trivial⟩
      · intro L ac w hJ
        have hs := hJ
        refine wpO_plain rfl (op_move hs (some 0) rfl rfl rfl rfl fun ac hs => ?_)
        exact hs
      · intro L ac w hJ
        have hs := hJ
        refine wpO_plain rfl (op_move hs (some 1) rfl rfl rfl rfl fun ac hs => ?_)
        exact hs
      · intro L ac w hJ
        have hs := hJ
        refine wpO_plain rfl (op_idxA hs (some 2) (j := k) rfl rfl rfl rfl Try.underlying24 Try.sizeOf22 (show k < 4 by omega) (off := k) (by omega) rfl fun ac hs => ?_)
        exact hs
      · intro L ac w hJ
        have hs := hJ
        refine wpO_plain rfl (op_load hs (some 3) 0 (v := .int .u64 ((limN a k : Nat) : Int)) rfl rfl rfl rfl Try.isAgg22 Try.sizeOf22 (Wl_get (j := k) (show k < 4 by omega)) rfl fun ac hs => ?_)
        exact hs
      · intro L ac w hJ
        have hs := hJ
        refine wpO_plain rfl (op_move hs (some 4) rfl rfl rfl rfl fun ac hs => ?_)
        exact hs
      · intro L ac w hJ
        have hs := hJ
        refine wpO_plain rfl (op_idxA hs (some 5) (j := k) rfl rfl rfl rfl Try.underlying24 Try.sizeOf22 (show k < 4 by omega) (off := k) (by omega) rfl fun ac hs => ?_)
        exact hs
      · intro L ac w hJ
        have hs := hJ
        refine wpO_plain rfl (op_load hs (some 6) 1 (v := .int .u64 ((limN b k : Nat) : Int)) rfl rfl rfl rfl Try.isAgg22 Try.sizeOf22 (Wl_get (j := k) (show k < 4 by omega)) rfl fun ac hs => ?_)
        exact hs
      · intro L ac w hJ
        have hs := hJ
        refine wpO_plain rfl (op_bin hs (some 7) (v := .int .u64 (((limN a k + 18446744073709551616 - (limN b k)) % 18446744073709551616 : Nat) : Int)) rfl rfl rfl rfl (fun _ => rfl) (bin_subM (x := limN a k) (y := limN b k) (z := (limN a k + 18446744073709551616 - (limN b k)) % 18446744073709551616) rfl rfl (show limN b k ≤ 18446744073709551616 by omega)) rfl fun ac hs => ?_)
        exact hs
      · intro L ac w hJ
        have hs := hJ
        refine wpO_plain rfl (op_move hs (some 8) rfl rfl rfl rfl fun ac hs => ?_)
        exact hs
      · intro L ac w hJ
        have hs := hJ
        refine wpO_plain rfl (op_bin hs (some 9) (v := .int .u64 ((((limN a k + 18446744073709551616 - (limN b k)) % 18446744073709551616 + 18446744073709551616 - c) % 18446744073709551616 : Nat) : Int)) rfl rfl rfl rfl (fun _ => rfl) (bin_subM (x := (limN a k + 18446744073709551616 - (limN b k)) % 18446744073709551616) (y := c) (z := ((limN a k + 18446744073709551616 - (limN b k)) % 18446744073709551616 + 18446744073709551616 - c) % 18446744073709551616) rfl rfl (show c ≤ 18446744073709551616 by omega)) rfl fun ac hs => ?_)
        exact hs
      · intro L ac w hJ
        have hs := hJ
        refine wpO_plain rfl (op_idxA hs (some 10) (j := k) rfl rfl rfl rfl Try.underlying24 Try.sizeOf22 (show k < 4 by omega) (off := k) (by omega) rfl fun ac hs => ?_)
        exact hs
      · intro L ac w hJ
        have hs := hJ
        refine wpO_plain rfl (op_store hs 3 (vs := [.int .u64 ((((limN a k + 18446744073709551616 - (limN b k)) % 18446744073709551616 + 18446744073709551616 - c) % 18446744073709551616 : Nat) : Int)]) rfl rfl rfl rfl rfl Try.sizeOf22 rfl rfl rfl (tab_le (j := k) (show k < 4 by omega)) (tab_set) fun w hs => ?_)
        exact hs
    intro ac w hJ
    replace hs : St 47 w0 [(14, true, .int .i64 ((k : Nat) : Int)), (15, true, .int .i64 ((k : Nat) : Int)), (16, true, .pointer (some ⟨g1, k, none⟩)), (17, true, .int .u64 ((limN a k : Nat) : Int)), (18, true, .int .i64 ((k : Nat) : Int)), (19, true, .pointer (some ⟨g2, k, none⟩)), (20, true, .int .u64 ((limN b k : Nat) : Int)), (21, true, .int .u64 (((limN a k + 18446744073709551616 - (limN b k)) % 18446744073709551616 : Nat) : Int)), (22, true, .int .u64 ((c : Nat) : Int)), (23, true, .int .u64 ((((limN a k + 18446744073709551616 - (limN b k)) % 18446744073709551616 + 18446744073709551616 - c) % 18446744073709551616 : Nat) : Int)), (24, true, .pointer (some ⟨g4, k, none⟩)), (2, true, .pointer (some ⟨g1, 0, none⟩)), (3, true, .pointer (some ⟨g2, 0, none⟩)), (4, true, .pointer (some ⟨g3, 0, none⟩)), (6, true, .pointer (some ⟨g4, 0, none⟩)), (7, true, .int .u64 ((c : Nat) : Int)), (8, true, .int .i64 ((k : Nat) : Int))] [(true, g1, 24, (Wl a)), (true, g2, 24, (Wl b)), (true, g3, 24, [.int .u64 0, .int .u64 0, .int .u64 0, .int .u64 0]), (true, g4, 24, (tab .u64 4 (upn f k (((limN a k + 18446744073709551616 - (limN b k)) % 18446744073709551616 + 18446744073709551616 - c) % 18446744073709551616))))] ac w := hJ
    refine then_n ?_
    refine wp_seq ?_
    by_cases hq8 : limN a k < limN b k
    · skip
      replace hs : St 47 w0 [(2, true, .pointer (some ⟨g1, 0, none⟩)), (3, true, .pointer (some ⟨g2, 0, none⟩)), (4, true, .pointer (some ⟨g3, 0, none⟩)), (6, true, .pointer (some ⟨g4, 0, none⟩)), (7, true, .int .u64 ((c : Nat) : Int)), (8, true, .int .i64 ((k : Nat) : Int))] [(true, g1, 24, (Wl a)), (true, g2, 24, (Wl b)), (true, g3, 24, [.int .u64 0, .int .u64 0, .int .u64 0, .int .u64 0]), (true, g4, 24, (tab .u64 4 (upn f k (((limN a k + 18446744073709551616 - (limN b k)) % 18446744073709551616 + 18446744073709551616 - c) % 18446744073709551616))))] ac _ := hs.re ⟨rfl, rfl, rfl, rfl, rfl, rfl, trivial⟩
      have l9 := limN_lt a k
      have l10 := limN_lt b k
      refine region_inv [([], [1, 2, 6, 7, 8, 9, 10, 11, 12, 13, 14, 15, 16, 17, 18, 19]), ([0], [2, 6, 7, 8, 9, 10, 11, 12, 13, 14, 15, 16, 17, 18, 19]), ([0, 1], [6, 7, 8, 9, 10, 11, 12, 13, 14, 15, 16, 17, 18, 19]), ([], [4, 5, 6, 7, 8, 9, 10, 11, 12, 13, 14, 15, 16, 17, 18, 19]), ([3], [5, 6, 7, 8, 9, 10, 11, 12, 13, 14, 15, 16, 17, 18, 19]), ([3, 4], [6, 7, 8, 9, 10, 11, 12, 13, 14, 15, 16, 17, 18, 19]), ([0, 1, 2, 3, 4, 5], [7, 8, 9, 10, 11, 12, 13, 14, 15, 16, 17, 18, 19]), ([0, 1, 2, 3, 4, 5, 6], [8, 9, 10, 11, 12, 13, 14, 15, 16, 17, 18, 19]), ([0, 1, 2, 3, 4, 5, 6, 7], [9, 10, 14, 15, 16, 17, 18, 19]), ([0, 1, 2, 3, 4, 5, 6, 7, 8], [10, 14, 15, 16, 17, 18, 19]), ([0, 1, 2, 3, 4, 5, 6, 7, 8, 9], [14, 15, 16, 17, 18, 19]), ([0, 1, 2, 3, 4, 5, 6, 7], [12, 13, 14, 15, 16, 17, 18, 19]), ([0, 1, 2, 3, 4, 5, 6, 7, 11], [13, 14, 15, 16, 17, 18, 19]), ([0, 1, 2, 3, 4, 5, 6, 7, 11, 12], [14, 15, 16, 17, 18, 19]), ([0, 1, 2, 3, 4, 5, 6, 7, 8, 9, 10, 11, 12, 13], [15, 16, 17, 18, 19]), ([0, 1, 2, 3, 4, 5, 6, 7, 8, 9, 10, 11, 12, 13, 14], [16, 17, 18, 19]), ([0, 1, 2, 3, 4, 5, 6, 7, 8, 9, 10, 11, 12, 13, 14, 15], [17, 18, 19]), ([0, 1, 2, 3, 4, 5, 6, 7, 8, 9, 10, 11, 12, 13, 14, 15, 16], [18, 19]), ([0, 1, 2, 3, 4, 5, 6, 7, 8, 9, 10, 11, 12, 13, 14, 15, 16, 17], [19]), ([0, 1, 2, 3, 4, 5, 6, 7, 8, 9, 10, 11, 12, 13, 14, 15, 16, 17, 18], [])] (fun L ac w => St 47 w0 [(25, L 0, .int .i64 ((k : Nat) : Int)), (26, L 1, .pointer (some ⟨g1, k, none⟩)), (27, L 2, .int .u64 ((limN a k : Nat) : Int)), (28, L 3, .int .i64 ((k : Nat) : Int)), (29, L 4, .pointer (some ⟨g2, k, none⟩)), (30, L 5, .int .u64 ((limN b k : Nat) : Int)), (31, L 6, .bool true), (32, L 7, .bool true), (33, L 8, undef), (34, L 9, undef), (35, L 10, undef), (36, L 11, undef), (37, L 12, undef), (38, L 13, undef), (39, L 14, undef), (40, L 15, undef), (41, L 16, undef), (42, L 17, undef), (43, L 18, undef), (44, L 19, .bool true), (2, true, .pointer (some ⟨g1, 0, none⟩)), (3, true, .pointer (some ⟨g2, 0, none⟩)), (4, true, .pointer (some ⟨g3, 0, none⟩)), (6, true, .pointer (some ⟨g4, 0, none⟩)), (7, true, .int .u64 ((c : Nat) : Int)), (8, true, .int .i64 ((k : Nat) : Int))] [(true, g1, 24, (Wl a)), (true, g2, 24, (Wl b)), (true, g3, 24, [.int .u64 0, .int .u64 0, .int .u64 0, .int .u64 0]), (true, g4, 24, (tab .u64 4 (upn f k (((limN a k + 18446744073709551616 - (limN b k)) % 18446744073709551616 + 18446744073709551616 - c) % 18446744073709551616))))] ac w) (by kernel_rfl) (by kernel_rfl) ?_ ?_ ?_
      · exact hs.drew.skip.skip.skip.skip.skip.skip.skip.skip.skip.skip.skip.skip.skip.skip.skip.skip.skip.skip.skip.skip
      · refine ⟨?_, ?_, ?_, ?_, ?_, ?_, ?_, ?_, ?_, ?_, ?_, ?_, ?_, ?_, ?_, ?_, ?_, ?_, ?_, ?_, trivial⟩
        · intro L ac w hJ
          have hs := hJ
          refine wpO_plain rfl (op_move hs (some 0) rfl rfl rfl rfl fun ac hs => ?_)
          exact hs
        · intro L ac w hJ
          have hs := hJ
          refine wpO_plain rfl (op_idxA hs (some 1) (j := k) rfl rfl rfl rfl Try.underlying24 Try.sizeOf22 (show k < 4 by omega) (off := k) (by omega) rfl fun ac hs => ?_)
          exact hs
        · intro L ac w hJ
          have hs := hJ
          refine wpO_plain rfl (op_load hs (some 2) 0 (v := .int .u64 ((limN a k : Nat) : Int)) rfl rfl rfl rfl Try.isAgg22 Try.sizeOf22 (Wl_get (j := k) (show k < 4 by omega)) rfl fun ac hs => ?_)
          exact hs
        · intro L ac w hJ
          have hs := hJ
          refine wpO_plain rfl (op_move hs (some 3) rfl rfl rfl rfl fun ac hs => ?_)
          exact hs
        · intro L ac w hJ
          have hs := hJ
          refine wpO_plain rfl (op_idxA hs (some 4) (j := k) rfl rfl rfl rfl Try.underlying24 Try.sizeOf22 (show k < 4 by omega) (off := k) (by omega) rfl fun ac hs => ?_)
          exact hs
        · intro L ac w hJ
          have hs := hJ
          refine wpO_plain rfl (op_load hs (some 5) 1 (v := .int .u64 ((limN b k : Nat) : Int)) rfl rfl rfl rfl Try.isAgg22 Try.sizeOf22 (Wl_get (j := k) (show k < 4 by omega)) rfl fun ac hs => ?_)
          exact hs
        · intro L ac w hJ
          have hs := hJ
          refine wpO_plain rfl (op_bin hs (some 6) (v := .bool true) rfl rfl rfl rfl (fun _ => rfl) (fun w => dT hq8 (bin_lssN (x := limN a k) (y := limN b k) w)) rfl fun ac hs => ?_)
          exact hs
        · intro L ac w hJ
          have hs := hJ
          refine wpO_plain rfl (op_move hs (some 7) rfl rfl rfl rfl fun ac hs => ?_)
          exact hs
        · intro L ac w hJ
          have hs := hJ
          refine wpO_out hs (some 8) rfl rfl (.inl rfl) rfl rfl fun ac hs => ?_
          exact hs
        · intro L ac w hJ
          have hs := hJ
          refine wpO_out hs (some 9) rfl rfl (.inl rfl) rfl rfl fun ac hs => ?_
          exact hs
        · intro L ac w hJ
          have hs := hJ
          refine wpO_out hs (some 10) rfl rfl (.inl rfl) rfl rfl fun ac hs => ?_
          exact hs
        · intro L ac w hJ
          have hs := hJ
          refine wpO_out hs (some 11) rfl rfl (.inl rfl) rfl rfl fun ac hs => ?_
          exact hs
        · intro L ac w hJ
          have hs := hJ
          refine wpO_out hs (some 12) rfl rfl (.inl rfl) rfl rfl fun ac hs => ?_
          exact hs
        · intro L ac w hJ
          have hs := hJ
          refine wpO_out hs (some 13) rfl rfl (.inl rfl) rfl rfl fun ac hs => ?_
          exact hs
        · intro L ac w hJ
          have hs := hJ
          refine wpO_out hs (some 14) rfl rfl (.inl rfl) rfl rfl fun ac hs => ?_
          exact hs
        · intro L ac w hJ
          have hs := hJ
          refine wpO_out hs (some 15) rfl rfl (.inl rfl) rfl rfl fun ac hs => ?_
          exact hs
        · intro L ac w hJ
          have hs := hJ
          refine wpO_out hs (some 16) rfl rfl (.inr rfl) rfl rfl fun ac hs => ?_
          exact hs
        · intro L ac w hJ
          have hs := hJ
          refine wpO_out hs (some 17) rfl rfl (.inr rfl) rfl rfl fun ac hs => ?_
          exact hs
        · intro L ac w hJ
          have hs := hJ
          refine wpO_out hs (some 18) rfl rfl (.inl rfl) rfl rfl fun ac hs => ?_
          exact hs
        · intro L ac w hJ
          have hs := hJ
          refine wpO_plain rfl (op_pickT hs (some 19) rfl rfl rfl rfl rfl fun ac hs => ?_)
          exact hs
      intro ac w hJ
      replace hs : St 47 w0 [(25, true, .int .i64 ((k : Nat) : Int)), (26, true, .pointer (some ⟨g1, k, none⟩)), (27, true, .int .u64 ((limN a k : Nat) : Int)), (28, true, .int .i64 ((k : Nat) : Int)), (29, true, .pointer (some ⟨g2, k, none⟩)), (30, true, .int .u64 ((limN b k : Nat) : Int)), (31, true, .bool true), (32, true, .bool true), (33, true, undef), (34, true, undef), (35, true, undef), (36, true, undef), (37, true, undef), (38, true, undef), (39, true, undef), (40, true, undef), (41, true, undef), (42, true, undef), (43, true, undef), (44, true, .bool true), (2, true, .pointer (some ⟨g1, 0, none⟩)), (3, true, .pointer (some ⟨g2, 0, none⟩)), (4, true, .pointer (some ⟨g3, 0, none⟩)), (6, true, .pointer (some ⟨g4, 0, none⟩)), (7, true, .int .u64 ((c : Nat) : Int)), (8, true, .int .i64 ((k : Nat) : Int))] [(true, g1, 24, (Wl a)), (true, g2, 24, (Wl b)), (true, g3, 24, [.int .u64 0, .int .u64 0, .int .u64 0, .int .u64 0]), (true, g4, 24, (tab .u64 4 (upn f k (((limN a k + 18446744073709551616 - (limN b k)) % 18446744073709551616 + 18446744073709551616 - c) % 18446744073709551616))))] ac w := hJ
      refine then_n ?_
      refine wp_cond_true (hs.ev rfl) ?_
      refine wp_region_lit ?_
      refine lstep (wpO_plain rfl (op_assign hs none rfl rfl rfl rfl fun ac hs => ?_))
      refine wpList_nil ?_
      refine blk_n ?_
      refine then_n ?_
      refine wp_region_lit ?_
      refine lstep (wpO_plain rfl (op_move hs none rfl rfl rfl rfl fun ac hs => ?_))
      refine lstep (wpO_plain rfl (op_bin hs none (v := .int .i64 ((k + 1 : Nat) : Int)) rfl rfl rfl rfl (fun _ => rfl) (bin_addN (x := k) (y := 1) (z := k + 1) rfl (show k + 1 < 9223372036854775808 by omega)) rfl fun ac hs => ?_))
      refine lstep (wpO_plain rfl (op_assign hs none rfl rfl rfl rfl fun ac hs => ?_))
      refine wpList_nil ?_
      refine then_n ?_
      exact ⟨_, ⟨(k + 1), 1, (upn f k (((limN a k + 18446744073709551616 - (limN b k)) % 18446744073709551616 + 18446744073709551616 - c) % 18446744073709551616)), rfl, hlt, (less_c hc0 hcb (by split <;> omega)), (less_f hb hlt hc0 hcb hf), (hs.re ⟨rfl, rfl, rfl, rfl, rfl, rfl, trivial⟩)⟩, (by omega)⟩
    · skip
      by_cases hq11 : limN a k = limN b k
      · skip
        by_cases hq12 : c = 1
        · skip
          replace hs : St 47 w0 [(2, true, .pointer (some ⟨g1, 0, none⟩)), (3, true, .pointer (some ⟨g2, 0, none⟩)), (4, true, .pointer (some ⟨g3, 0, none⟩)), (6, true, .pointer (some ⟨g4, 0, none⟩)), (7, true, .int .u64 ((c : Nat) : Int)), (8, true, .int .i64 ((k : Nat) : Int))] [(true, g1, 24, (Wl a)), (true, g2, 24, (Wl b)), (true, g3, 24, [.int .u64 0, .int .u64 0, .int .u64 0, .int .u64 0]), (true, g4, 24, (tab .u64 4 (upn f k (((limN a k + 18446744073709551616 - (limN b k)) % 18446744073709551616 + 18446744073709551616 - c) % 18446744073709551616))))] ac _ := hs.re ⟨rfl, rfl, rfl, rfl, rfl, rfl, trivial⟩
          have l13 := limN_lt a k
          have l14 := limN_lt b k
          have l15 := limN_lt a k
          have l16 := limN_lt b k
          refine region_inv [([], [1, 2, 6, 7, 8, 9, 10, 11, 12, 13, 14, 15, 16, 17, 18, 19]), ([0], [2, 6, 7, 8, 9, 10, 11, 12, 13, 14, 15, 16, 17, 18, 19]), ([0, 1], [6, 7, 8, 9, 10, 11, 12, 13, 14, 15, 16, 17, 18, 19]), ([], [4, 5, 6, 7, 8, 9, 10, 11, 12, 13, 14, 15, 16, 17, 18, 19]), ([3], [5, 6, 7, 8, 9, 10, 11, 12, 13, 14, 15, 16, 17, 18, 19]), ([3, 4], [6, 7, 8, 9, 10, 11, 12, 13, 14, 15, 16, 17, 18, 19]), ([0, 1, 2, 3, 4, 5], [7, 8, 9, 10, 11, 12, 13, 14, 15, 16, 17, 18, 19]), ([0, 1, 2, 3, 4, 5, 6], [8, 9, 10, 11, 12, 13, 14, 15, 16, 17, 18, 19]), ([0, 1, 2, 3, 4, 5, 6, 7], [9, 10, 14, 15, 16, 17, 18, 19]), ([0, 1, 2, 3, 4, 5, 6, 7, 8], [10, 14, 15, 16, 17, 18, 19]), ([0, 1, 2, 3, 4, 5, 6, 7, 8, 9], [14, 15, 16, 17, 18, 19]), ([0, 1, 2, 3, 4, 5, 6, 7], [12, 13, 14, 15, 16, 17, 18, 19]), ([0, 1, 2, 3, 4, 5, 6, 7, 11], [13, 14, 15, 16, 17, 18, 19]), ([0, 1, 2, 3, 4, 5, 6, 7, 11, 12], [14, 15, 16, 17, 18, 19]), ([0, 1, 2, 3, 4, 5, 6, 7, 8, 9, 10, 11, 12, 13], [15, 16, 17, 18, 19]), ([0, 1, 2, 3, 4, 5, 6, 7, 8, 9, 10, 11, 12, 13, 14], [16, 17, 18, 19]), ([0, 1, 2, 3, 4, 5, 6, 7, 8, 9, 10, 11, 12, 13, 14, 15], [17, 18, 19]), ([0, 1, 2, 3, 4, 5, 6, 7, 8, 9, 10, 11, 12, 13, 14, 15, 16], [18, 19]), ([0, 1, 2, 3, 4, 5, 6, 7, 8, 9, 10, 11, 12, 13, 14, 15, 16, 17], [19]), ([0, 1, 2, 3, 4, 5, 6, 7, 8, 9, 10, 11, 12, 13, 14, 15, 16, 17, 18], [])] (fun L ac w => St 47 w0 [(25, L 0, .int .i64 ((k : Nat) : Int)), (26, L 1, .pointer (some ⟨g1, k, none⟩)), (27, L 2, .int .u64 ((limN a k : Nat) : Int)), (28, L 3, .int .i64 ((k : Nat) : Int)), (29, L 4, .pointer (some ⟨g2, k, none⟩)), (30, L 5, .int .u64 ((limN b k : Nat) : Int)), (31, L 6, .bool false), (32, L 7, .bool false), (33, L 8, .int .i64 ((k : Nat) : Int)), (34, L 9, .pointer (some ⟨g1, k, none⟩)), (35, L 10, .int .u64 ((limN a k : Nat) : Int)), (36, L 11, .int .i64 ((k : Nat) : Int)), (37, L 12, .pointer (some ⟨g2, k, none⟩)), (38, L 13, .int .u64 ((limN b k : Nat) : Int)), (39, L 14, .bool true), (40, L 15, .bool true), (41, L 16, .int .u64 ((c : Nat) : Int)), (42, L 17, .bool true), (43, L 18, .bool true), (44, L 19, .bool true), (2, true, .pointer (some ⟨g1, 0, none⟩)), (3, true, .pointer (some ⟨g2, 0, none⟩)), (4, true, .pointer (some ⟨g3, 0, none⟩)), (6, true, .pointer (some ⟨g4, 0, none⟩)), (7, true, .int .u64 ((c : Nat) : Int)), (8, true, .int .i64 ((k : Nat) : Int))] [(true, g1, 24, (Wl a)), (true, g2, 24, (Wl b)), (true, g3, 24, [.int .u64 0, .int .u64 0, .int .u64 0, .int .u64 0]), (true, g4, 24, (tab .u64 4 (upn f k (((limN a k + 18446744073709551616 - (limN b k)) % 18446744073709551616 + 18446744073709551616 - c) % 18446744073709551616))))] ac w) (by kernel_rfl) (by kernel_rfl) ?_ ?_ ?_
          · exact hs.drew.skip.skip.skip.skip.skip.skip.skip.skip.skip.skip.skip.skip.skip.skip.skip.skip.skip.skip.skip.skip
          · refine ⟨?_, ?_, ?_, ?_, ?_, ?_, ?_, ?_, ?_, ?_, ?_, ?_, ?_, ?_, ?_, ?_, ?_, ?_, ?_, ?_, trivial⟩
            · intro L ac w hJ
              have hs := hJ
              refine wpO_plain rfl (op_move hs (some 0) rfl rfl rfl rfl fun ac hs => ?_)
              exact hs
            · intro L ac w hJ
              have hs := hJ
              refine wpO_plain rfl (op_idxA hs (some 1) (j := k) rfl rfl rfl rfl Try.underlying24 Try.sizeOf22 (show k < 4 by omega) (off := k) (by omega) rfl fun ac hs => ?_)
              exact hs
            · intro L ac w hJ
              have hs := hJ
              refine wpO_plain rfl (op_load hs (some 2) 0 (v := .int .u64 ((limN a k : Nat) : Int)) rfl rfl rfl rfl Try.isAgg22 Try.sizeOf22 (Wl_get (j := k) (show k < 4 by omega)) rfl fun ac hs => ?_)
              exact hs
            · intro L ac w hJ
              have hs := hJ
              refine wpO_plain rfl (op_move hs (some 3) rfl rfl rfl rfl fun ac hs => ?_)
              exact hs
            · intro L ac w hJ
              have hs := hJ
              refine wpO_plain rfl (op_idxA hs (some 4) (j := k) rfl rfl rfl rfl Try.underlying24 Try.sizeOf22 (show k < 4 by omega) (off := k) (by omega) rfl fun ac hs => ?_)
              exact hs
            · intro L ac w hJ
              have hs := hJ
              refine wpO_plain rfl (op_load hs (some 5) 1 (v := .int .u64 ((limN b k : Nat) : Int)) rfl rfl rfl rfl Try.isAgg22 Try.sizeOf22 (Wl_get (j := k) (show k < 4 by omega)) rfl fun ac hs => ?_)
              exact hs
            · intro L ac w hJ
              have hs := hJ
              refine wpO_plain rfl (op_bin hs (some 6) (v := .bool false) rfl rfl rfl rfl (fun _ => rfl) (fun w => dF hq8 (bin_lssN (x := limN a k) (y := limN b k) w)) rfl fun ac hs => ?_)
              exact hs
            · intro L ac w hJ
              have hs := hJ
              refine wpO_plain rfl (op_move hs (some 7) rfl rfl rfl rfl fun ac hs => ?_)
              exact hs
            · intro L ac w hJ
              have hs := hJ
              refine wpO_in hs rfl rfl rfl (op_move hs (some 8) rfl rfl rfl rfl fun ac hs => ?_)
              exact hs
            · intro L ac w hJ
              have hs := hJ
              refine wpO_in hs rfl rfl rfl (op_idxA hs (some 9) (j := k) rfl rfl rfl rfl Try.underlying24 Try.sizeOf22 (show k < 4 by omega) (off := k) (by omega) rfl fun ac hs => ?_)
              exact hs
            · intro L ac w hJ
              have hs := hJ
              refine wpO_in hs rfl rfl rfl (op_load hs (some 10) 0 (v := .int .u64 ((limN a k : Nat) : Int)) rfl rfl rfl rfl Try.isAgg22 Try.sizeOf22 (Wl_get (j := k) (show k < 4 by omega)) rfl fun ac hs => ?_)
              exact hs
            · intro L ac w hJ
              have hs := hJ
              refine wpO_in hs rfl rfl rfl (op_move hs (some 11) rfl rfl rfl rfl fun ac hs => ?_)
              exact hs
            · intro L ac w hJ
              have hs := hJ
              refine wpO_in hs rfl rfl rfl (op_idxA hs (some 12) (j := k) rfl rfl rfl rfl Try.underlying24 Try.sizeOf22 (show k < 4 by omega) (off := k) (by omega) rfl fun ac hs => ?_)
              exact hs
            · intro L ac w hJ
              have hs := hJ
              refine wpO_in hs rfl rfl rfl (op_load hs (some 13) 1 (v := .int .u64 ((limN b k : Nat) : Int)) rfl rfl rfl rfl Try.isAgg22 Try.sizeOf22 (Wl_get (j := k) (show k < 4 by omega)) rfl fun ac hs => ?_)
              exact hs
            · intro L ac w hJ
              have hs := hJ
              refine wpO_in hs rfl rfl rfl (op_bin hs (some 14) (v := .bool true) rfl rfl rfl rfl (fun _ => rfl) (fun w => dT hq11 (bin_eqlN (x := limN a k) (y := limN b k) w)) rfl fun ac hs => ?_)
              exact hs
            · intro L ac w hJ
              have hs := hJ
              refine wpO_in hs rfl rfl rfl (op_move hs (some 15) rfl rfl rfl rfl fun ac hs => ?_)
              exact hs
            · intro L ac w hJ
              have hs := hJ
              refine wpO_in hs rfl rfl rfl (op_move hs (some 16) rfl rfl rfl rfl fun ac hs => ?_)
              exact hs
            · intro L ac w hJ
              have hs := hJ
              refine wpO_in hs rfl rfl rfl (op_bin hs (some 17) (v := .bool true) rfl rfl rfl rfl (fun _ => rfl) (fun w => dT hq12 (bin_eqlN (x := c) (y := 1) w)) rfl fun ac hs => ?_)
              exact hs
            · intro L ac w hJ
              have hs := hJ
              refine wpO_in hs rfl rfl rfl (op_pickT hs (some 18) rfl rfl rfl rfl rfl fun ac hs => ?_)
              exact hs
            · intro L ac w hJ
              have hs := hJ
              refine wpO_plain rfl (op_pickF hs (some 19) rfl rfl rfl rfl rfl fun ac hs => ?_)
              exact hs
          intro ac w hJ
          replace hs : St 47 w0 [(25, true, .int .i64 ((k : Nat) : Int)), (26, true, .pointer (some ⟨g1, k, none⟩)), (27, true, .int .u64 ((limN a k : Nat) : Int)), (28, true, .int .i64 ((k : Nat) : Int)), (29, true, .pointer (some ⟨g2, k, none⟩)), (30, true, .int .u64 ((limN b k : Nat) : Int)), (31, true, .bool false), (32, true, .bool false), (33, true, .int .i64 ((k : Nat) : Int)), (34, true, .pointer (some ⟨g1, k, none⟩)), (35, true, .int .u64 ((limN a k : Nat) : Int)), (36, true, .int .i64 ((k : Nat) : Int)), (37, true, .pointer (some ⟨g2, k, none⟩)), (38, true, .int .u64 ((limN b k : Nat) : Int)), (39, true, .bool true), (40, true, .bool true), (41, true, .int .u64 ((c : Nat) : Int)), (42, true, .bool true), (43, true, .bool true), (44, true, .bool true), (2, true, .pointer (some ⟨g1, 0, none⟩)), (3, true, .pointer (some ⟨g2, 0, none⟩)), (4, true, .pointer (some ⟨g3, 0, none⟩)), (6, true, .pointer (some ⟨g4, 0, none⟩)), (7, true, .int .u64 ((c : Nat) : Int)), (8, true, .int .i64 ((k : Nat) : Int))] [(true, g1, 24, (Wl a)), (true, g2, 24, (Wl b)), (true, g3, 24, [.int .u64 0, .int .u64 0, .int .u64 0, .int .u64 0]), (true, g4, 24, (tab .u64 4 (upn f k (((limN a k + 18446744073709551616 - (limN b k)) % 18446744073709551616 + 18446744073709551616 - c) % 18446744073709551616))))] ac w := hJ
          refine then_n ?_
          refine wp_cond_true (hs.ev rfl) ?_
          refine wp_region_lit ?_
          refine lstep (wpO_plain rfl (op_assign hs none rfl rfl rfl rfl fun ac hs => ?_))
          refine wpList_nil ?_
          refine blk_n ?_
          refine then_n ?_
          refine wp_region_lit ?_
          refine lstep (wpO_plain rfl (op_move hs none rfl rfl rfl rfl fun ac hs => ?_))
          refine lstep (wpO_plain rfl (op_bin hs none (v := .int .i64 ((k + 1 : Nat) : Int)) rfl rfl rfl rfl (fun _ => rfl) (bin_addN (x := k) (y := 1) (z := k + 1) rfl (show k + 1 < 9223372036854775808 by omega)) rfl fun ac hs => ?_))
          refine lstep (wpO_plain rfl (op_assign hs none rfl rfl rfl rfl fun ac hs => ?_))
          refine wpList_nil ?_
          refine then_n ?_
          exact ⟨_, ⟨(k + 1), 1, (upn f k (((limN a k + 18446744073709551616 - (limN b k)) % 18446744073709551616 + 18446744073709551616 - c) % 18446744073709551616)), rfl, hlt, (less_c hc0 hcb (by split <;> omega)), (less_f hb hlt hc0 hcb hf), (hs.re ⟨rfl, rfl, rfl, rfl, rfl, rfl, trivial⟩)⟩, (by omega)⟩
        · skip
          replace hs : St 47 w0 [(2, true, .pointer (some ⟨g1, 0, none⟩)), (3, true, .pointer (some ⟨g2, 0, none⟩)), (4, true, .pointer (some ⟨g3, 0, none⟩)), (6, true, .pointer (some ⟨g4, 0, none⟩)), (7, true, .int .u64 ((c : Nat) : Int)), (8, true, .int .i64 ((k : Nat) : Int))] [(true, g1, 24, (Wl a)), (true, g2, 24, (Wl b)), (true, g3, 24, [.int .u64 0, .int .u64 0, .int .u64 0, .int .u64 0]), (true, g4, 24, (tab .u64 4 (upn f k (((limN a k + 18446744073709551616 - (limN b k)) % 18446744073709551616 + 18446744073709551616 - c) % 18446744073709551616))))] ac _ := hs.re ⟨rfl, rfl, rfl, rfl, rfl, rfl, trivial⟩
          have l17 := limN_lt a k
          have l18 := limN_lt b k
          have l19 := limN_lt a k
          have l20 := limN_lt b k
          refine region_inv [([], [1, 2, 6, 7, 8, 9, 10, 11, 12, 13, 14, 15, 16, 17, 18, 19]), ([0], [2, 6, 7, 8, 9, 10, 11, 12, 13, 14, 15, 16, 17, 18, 19]), ([0, 1], [6, 7, 8, 9, 10, 11, 12, 13, 14, 15, 16, 17, 18, 19]), ([], [4, 5, 6, 7, 8, 9, 10, 11, 12, 13, 14, 15, 16, 17, 18, 19]), ([3], [5, 6, 7, 8, 9, 10, 11, 12, 13, 14, 15, 16, 17, 18, 19]), ([3, 4], [6, 7, 8, 9, 10, 11, 12, 13, 14, 15, 16, 17, 18, 19]), ([0, 1, 2, 3, 4, 5], [7, 8, 9, 10, 11, 12, 13, 14, 15, 16, 17, 18, 19]), ([0, 1, 2, 3, 4, 5, 6], [8, 9, 10, 11, 12, 13, 14, 15, 16, 17, 18, 19]), ([0, 1, 2, 3, 4, 5, 6, 7], [9, 10, 14, 15, 16, 17, 18, 19]), ([0, 1, 2, 3, 4, 5, 6, 7, 8], [10, 14, 15, 16, 17, 18, 19]), ([0, 1, 2, 3, 4, 5, 6, 7, 8, 9], [14, 15, 16, 17, 18, 19]), ([0, 1, 2, 3, 4, 5, 6, 7], [12, 13, 14, 15, 16, 17, 18, 19]), ([0, 1, 2, 3, 4, 5, 6, 7, 11], [13, 14, 15, 16, 17, 18, 19]), ([0, 1, 2, 3, 4, 5, 6, 7, 11, 12], [14, 15, 16, 17, 18, 19]), ([0, 1, 2, 3, 4, 5, 6, 7, 8, 9, 10, 11, 12, 13], [15, 16, 17, 18, 19]), ([0, 1, 2, 3, 4, 5, 6, 7, 8, 9, 10, 11, 12, 13, 14], [16, 17, 18, 19]), ([0, 1, 2, 3, 4, 5, 6, 7, 8, 9, 10, 11, 12, 13, 14, 15], [17, 18, 19]), ([0, 1, 2, 3, 4, 5, 6, 7, 8, 9, 10, 11, 12, 13, 14, 15, 16], [18, 19]), ([0, 1, 2, 3, 4, 5, 6, 7, 8, 9, 10, 11, 12, 13, 14, 15, 16, 17], [19]), ([0, 1, 2, 3, 4, 5, 6, 7, 8, 9, 10, 11, 12, 13, 14, 15, 16, 17, 18], [])] (fun L ac w => St 47 w0 [(25, L 0, .int .i64 ((k : Nat) : Int)), (26, L 1, .pointer (some ⟨g1, k, none⟩)), (27, L 2, .int .u64 ((limN a k : Nat) : Int)), (28, L 3, .int .i64 ((k : Nat) : Int)), (29, L 4, .pointer (some ⟨g2, k, none⟩)), (30, L 5, .int .u64 ((limN b k : Nat) : Int)), (31, L 6, .bool false), (32, L 7, .bool false), (33, L 8, .int .i64 ((k : Nat) : Int)), (34, L 9, .pointer (some ⟨g1, k, none⟩)), (35, L 10, .int .u64 ((limN a k : Nat) : Int)), (36, L 11, .int .i64 ((k : Nat) : Int)), (37, L 12, .pointer (some ⟨g2, k, none⟩)), (38, L 13, .int .u64 ((limN b k : Nat) : Int)), (39, L 14, .bool true), (40, L 15, .bool true), (41, L 16, .int .u64 ((c : Nat) : Int)), (42, L 17, .bool false), (43, L 18, .bool false), (44, L 19, .bool false), (2, true, .pointer (some ⟨g1, 0, none⟩)), (3, true, .pointer (some ⟨g2, 0, none⟩)), (4, true, .pointer (some ⟨g3, 0, none⟩)), (6, true, .pointer (some ⟨g4, 0, none⟩)), (7, true, .int .u64 ((c : Nat) : Int)), (8, true, .int .i64 ((k : Nat) : Int))] [(true, g1, 24, (Wl a)), (true, g2, 24, (Wl b)), (true, g3, 24, [.int .u64 0, .int .u64 0, .int .u64 0, .int .u64 0]), (true, g4, 24, (tab .u64 4 (upn f k (((limN a k + 18446744073709551616 - (limN b k)) % 18446744073709551616 + 18446744073709551616 - c) % 18446744073709551616))))] ac w) (by kernel_rfl) (by kernel_rfl) ?_ ?_ ?_
          · exact hs.drew.skip.skip.skip.skip.skip.skip.skip.skip.skip.skip.skip.skip.skip.skip.skip.skip.skip.skip.skip.skip
          · refine ⟨?_, ?_, ?_, ?_, ?_, ?_, ?_, ?_, ?_, ?_, ?_, ?_, ?_, ?_, ?_, ?_, ?_, ?_, ?_, ?_, trivial⟩
            · intro L ac w hJ
              have hs := hJ
              refine wpO_plain rfl (op_move hs (some 0) rfl rfl rfl rfl fun ac hs => ?_)
              exact hs
            · intro L ac w hJ
              have hs := hJ
              refine wpO_plain rfl (op_idxA hs (some 1) (j := k) rfl rfl rfl rfl Try.underlying24 Try.sizeOf22 (show k < 4 by omega) (off := k) (by omega) rfl fun ac hs => ?_)
              exact hs
            · intro L ac w hJ
              have hs := hJ
              refine wpO_plain rfl (op_load hs (some 2) 0 (v := .int .u64 ((limN a k : Nat) : Int)) rfl rfl rfl rfl Try.isAgg22 Try.sizeOf22 (Wl_get (j := k) (show k < 4 by omega)) rfl fun ac hs => ?_)
              exact hs
            · intro L ac w hJ
              have hs := hJ
              refine wpO_plain rfl (op_move hs (some 3) rfl rfl rfl rfl fun ac hs => ?_)
              exact hs
            · intro L ac w hJ
              have hs := hJ
              refine wpO_plain rfl (op_idxA hs (some 4) (j := k) rfl rfl rfl rfl Try.underlying24 Try.sizeOf22 (show k < 4 by omega) (off := k) (by omega) rfl fun ac hs => ?_)
              exact hs
            · intro L ac w hJ
              have hs := hJ
              refine wpO_plain rfl (op_load hs (some 5) 1 (v := .int .u64 ((limN b k : Nat) : Int)) rfl rfl rfl rfl Try.isAgg22 Try.sizeOf22 (Wl_get (j := k) (show k < 4 by omega)) rfl fun ac hs => ?_)
              exact hs
            · intro L ac w hJ
              have hs := hJ
              refine wpO_plain rfl (op_bin hs (some 6) (v := .bool false) rfl rfl rfl rfl (fun _ => rfl) (fun w => dF hq8 (bin_lssN (x := limN a k) (y := limN b k) w)) rfl fun ac hs => ?_)
              exact hs
            · intro L ac w hJ
              have hs := hJ
              refine wpO_plain rfl (op_move hs (some 7) rfl rfl rfl rfl fun ac hs => ?_)
              exact hs
            · intro L ac w hJ
              have hs := hJ
              refine wpO_in hs rfl rfl rfl (op_move hs (some 8) rfl rfl rfl rfl fun ac hs => ?_)
              exact hs
            · intro L ac w hJ
              have hs := hJ
              refine wpO_in hs rfl rfl rfl (op_idxA hs (some 9) (j := k) rfl rfl rfl rfl Try.underlying24 Try.sizeOf22 (show k < 4 by omega) (off := k) (by omega) rfl fun ac hs => ?_)
              exact hs
            · intro L ac w hJ
              have hs := hJ
              refine wpO_in hs rfl rfl rfl (op_load hs (some 10) 0 (v := .int .u64 ((limN a k : Nat) : Int)) rfl rfl rfl rfl Try.isAgg22 Try.sizeOf22 (Wl_get (j := k) (show k < 4 by omega)) rfl fun ac hs => ?_)
              exact hs
            · intro L ac w hJ
              have hs := hJ
              refine wpO_in hs rfl rfl rfl (op_move hs (some 11) rfl rfl rfl rfl fun ac hs => ?_)
              exact hs
            · intro L ac w hJ
              have hs := hJ
              refine wpO_in hs rfl rfl rfl (op_idxA hs (some 12) (j := k) rfl rfl rfl rfl Try.underlying24 Try.sizeOf22 (show k < 4 by omega) (off := k) (by omega) rfl fun ac hs => ?_)
              exact hs
            · intro L ac w hJ
              have hs := hJ
              refine wpO_in hs rfl rfl rfl (op_load hs (some 13) 1 (v := .int .u64 ((limN b k : Nat) : Int)) rfl rfl rfl rfl Try.isAgg22 Try.sizeOf22 (Wl_get (j := k) (show k < 4 by omega)) rfl fun ac hs => ?_)
              exact hs
            · intro L ac w hJ
              have hs := hJ
              refine wpO_in hs rfl rfl rfl (op_bin hs (some 14) (v := .bool true) rfl rfl rfl rfl (fun _ => rfl) (fun w => dT hq11 (bin_eqlN (x := limN a k) (y := limN b k) w)) rfl fun ac hs => ?_)
              exact hs
            · intro L ac w hJ
              have hs := hJ
              refine wpO_in hs rfl rfl rfl (op_move hs (some 15) rfl rfl rfl rfl fun ac hs => ?_)
              exact hs
            · intro L ac w hJ
              have hs := hJ
              refine wpO_in hs rfl rfl rfl (op_move hs (some 16) rfl rfl rfl rfl fun ac hs => ?_)
              exact hs
            · intro L ac w hJ
              have hs := hJ
              refine wpO_in hs rfl rfl rfl (op_bin hs (some 17) (v := .bool false) rfl rfl rfl rfl (fun _ => rfl) (fun w => dF hq12 (bin_eqlN (x := c) (y := 1) w)) rfl fun ac hs => ?_)
              exact hs
            · intro L ac w hJ
              have hs := hJ
              refine wpO_in hs rfl rfl rfl (op_pickT hs (some 18) rfl rfl rfl rfl rfl fun ac hs => ?_)
              exact hs
            · intro L ac w hJ
              have hs := hJ
              refine wpO_plain rfl (op_pickF hs (some 19) rfl rfl rfl rfl rfl fun ac hs => ?_)
              exact hs
          intro ac w hJ
          replace hs : St 47 w0 [(25, true, .int .i64 ((k : Nat) : Int)), (26, true, .pointer (some ⟨g1, k, none⟩)), (27, true, .int .u64 ((limN a k : Nat) : Int)), (28, true, .int .i64 ((k : Nat) : Int)), (29, true, .pointer (some ⟨g2, k, none⟩)), (30, true, .int .u64 ((limN b k : Nat) : Int)), (31, true, .bool false), (32, true, .bool false), (33, true, .int .i64 ((k : Nat) : Int)), (34, true, .pointer (some ⟨g1, k, none⟩)), (35, true, .int .u64 ((limN a k : Nat) : Int)), (36, true, .int .i64 ((k : Nat) : Int)), (37, true, .pointer (some ⟨g2, k, none⟩)), (38, true, .int .u64 ((limN b k : Nat) : Int)), (39, true, .bool true), (40, true, .bool true), (41, true, .int .u64 ((c : Nat) : Int)), (42, true, .bool false), (43, true, .bool false), (44, true, .bool false), (2, true, .pointer (some ⟨g1, 0, none⟩)), (3, true, .pointer (some ⟨g2, 0, none⟩)), (4, true, .pointer (some ⟨g3, 0, none⟩)), (6, true, .pointer (some ⟨g4, 0, none⟩)), (7, true, .int .u64 ((c : Nat) : Int)), (8, true, .int .i64 ((k : Nat) : Int))] [(true, g1, 24, (Wl a)), (true, g2, 24, (Wl b)), (true, g3, 24, [.int .u64 0, .int .u64 0, .int .u64 0, .int .u64 0]), (true, g4, 24, (tab .u64 4 (upn f k (((limN a k + 18446744073709551616 - (limN b k)) % 18446744073709551616 + 18446744073709551616 - c) % 18446744073709551616))))] ac w := hJ
          refine then_n ?_
          refine wp_cond_false (hs.ev rfl) ?_
          refine wp_region_lit ?_
          refine lstep (wpO_plain rfl (op_assign hs none rfl rfl rfl rfl fun ac hs => ?_))
          refine wpList_nil ?_
          refine blk_n ?_
          refine then_n ?_
          refine wp_region_lit ?_
          refine lstep (wpO_plain rfl (op_move hs none rfl rfl rfl rfl fun ac hs => ?_))
          refine lstep (wpO_plain rfl (op_bin hs none (v := .int .i64 ((k + 1 : Nat) : Int)) rfl rfl rfl rfl (fun _ => rfl) (bin_addN (x := k) (y := 1) (z := k + 1) rfl (show k + 1 < 9223372036854775808 by omega)) rfl fun ac hs => ?_))
          refine lstep (wpO_plain rfl (op_assign hs none rfl rfl rfl rfl fun ac hs => ?_))
          refine wpList_nil ?_
          refine then_n ?_
          exact ⟨_, ⟨(k + 1), 0, (upn f k (((limN a k + 18446744073709551616 - (limN b k)) % 18446744073709551616 + 18446744073709551616 - c) % 18446744073709551616)), rfl, hlt, (less_c hc0 hcb (by split <;> omega)), (less_f hb hlt hc0 hcb hf), (hs.re ⟨rfl, rfl, rfl, rfl, rfl, rfl, trivial⟩)⟩, (by omega)⟩
      · skip
        replace hs : St 47 w0 [(2, true, .pointer (some ⟨g1, 0, none⟩)), (3, true, .pointer (some ⟨g2, 0, none⟩)), (4, true, .pointer (some ⟨g3, 0, none⟩)), (6, true, .pointer (some ⟨g4, 0, none⟩)), (7, true, .int .u64 ((c : Nat) : Int)), (8, true, .int .i64 ((k : Nat) : Int))] [(true, g1, 24, (Wl a)), (true, g2, 24, (Wl b)), (true, g3, 24, [.int .u64 0, .int .u64 0, .int .u64 0, .int .u64 0]), (true, g4, 24, (tab .u64 4 (upn f k (((limN a k + 18446744073709551616 - (limN b k)) % 18446744073709551616 + 18446744073709551616 - c) % 18446744073709551616))))] ac _ := hs.re ⟨rfl, rfl, rfl, rfl, rfl, rfl, trivial⟩
        have l21 := limN_lt a k
        have l22 := limN_lt b k
        have l23 := limN_lt a k
        have l24 := limN_lt b k
        refine region_inv [([], [1, 2, 6, 7, 8, 9, 10, 11, 12, 13, 14, 15, 16, 17, 18, 19]), ([0], [2, 6, 7, 8, 9, 10, 11, 12, 13, 14, 15, 16, 17, 18, 19]), ([0, 1], [6, 7, 8, 9, 10, 11, 12, 13, 14, 15, 16, 17, 18, 19]), ([], [4, 5, 6, 7, 8, 9, 10, 11, 12, 13, 14, 15, 16, 17, 18, 19]), ([3], [5, 6, 7, 8, 9, 10, 11, 12, 13, 14, 15, 16, 17, 18, 19]), ([3, 4], [6, 7, 8, 9, 10, 11, 12, 13, 14, 15, 16, 17, 18, 19]), ([0, 1, 2, 3, 4, 5], [7, 8, 9, 10, 11, 12, 13, 14, 15, 16, 17, 18, 19]), ([0, 1, 2, 3, 4, 5, 6], [8, 9, 10, 11, 12, 13, 14, 15, 16, 17, 18, 19]), ([0, 1, 2, 3, 4, 5, 6, 7], [9, 10, 14, 15, 16, 17, 18, 19]), ([0, 1, 2, 3, 4, 5, 6, 7, 8], [10, 14, 15, 16, 17, 18, 19]), ([0, 1, 2, 3, 4, 5, 6, 7, 8, 9], [14, 15, 16, 17, 18, 19]), ([0, 1, 2, 3, 4, 5, 6, 7], [12, 13, 14, 15, 16, 17, 18, 19]), ([0, 1, 2, 3, 4, 5, 6, 7, 11], [13, 14, 15, 16, 17, 18, 19]), ([0, 1, 2, 3, 4, 5, 6, 7, 11, 12], [14, 15, 16, 17, 18, 19]), ([0, 1, 2, 3, 4, 5, 6, 7, 8, 9, 10, 11, 12, 13], [15, 16, 17, 18, 19]), ([0, 1, 2, 3, 4, 5, 6, 7, 8, 9, 10, 11, 12, 13, 14], [16, 17, 18, 19]), ([0, 1, 2, 3, 4, 5, 6, 7, 8, 9, 10, 11, 12, 13, 14, 15], [17, 18, 19]), ([0, 1, 2, 3, 4, 5, 6, 7, 8, 9, 10, 11, 12, 13, 14, 15, 16], [18, 19]), ([0, 1, 2, 3, 4, 5, 6, 7, 8, 9, 10, 11, 12, 13, 14, 15, 16, 17], [19]), ([0, 1, 2, 3, 4, 5, 6, 7, 8, 9, 10, 11, 12, 13, 14, 15, 16, 17, 18], [])] (fun L ac w => St 47 w0 [(25, L 0, .int .i64 ((k : Nat) : Int)), (26, L 1, .pointer (some ⟨g1, k, none⟩)), (27, L 2, .int .u64 ((limN a k : Nat) : Int)), (28, L 3, .int .i64 ((k : Nat) : Int)), (29, L 4, .pointer (some ⟨g2, k, none⟩)), (30, L 5, .int .u64 ((limN b k : Nat) : Int)), (31, L 6, .bool false), (32, L 7, .bool false), (33, L 8, .int .i64 ((k : Nat) : Int)), (34, L 9, .pointer (some ⟨g1, k, none⟩)), (35, L 10, .int .u64 ((limN a k : Nat) : Int)), (36, L 11, .int .i64 ((k : Nat) : Int)), (37, L 12, .pointer (some ⟨g2, k, none⟩)), (38, L 13, .int .u64 ((limN b k : Nat) : Int)), (39, L 14, .bool false), (40, L 15, .bool false), (41, L 16, undef), (42, L 17, undef), (43, L 18, .bool false), (44, L 19, .bool false), (2, true, .pointer (some ⟨g1, 0, none⟩)), (3, true, .pointer (some ⟨g2, 0, none⟩)), (4, true, .pointer (some ⟨g3, 0, none⟩)), (6, true, .pointer (some ⟨g4, 0, none⟩)), (7, true, .int .u64 ((c : Nat) : Int)), (8, true, .int .i64 ((k : Nat) : Int))] [(true, g1, 24, (Wl a)), (true, g2, 24, (Wl b)), (true, g3, 24, [.int .u64 0, .int .u64 0, .int .u64 0, .int .u64 0]), (true, g4, 24, (tab .u64 4 (upn f k (((limN a k + 18446744073709551616 - (limN b k)) % 18446744073709551616 + 18446744073709551616 - c) % 18446744073709551616))))] ac w) (by kernel_rfl) (by kernel_rfl) ?_ ?_ ?_
        · exact hs.drew.skip.skip.skip.skip.skip.skip.skip.skip.skip.skip.skip.skip.skip.skip.skip.skip.skip.skip.skip.skip
        · refine ⟨?_, ?_, ?_, ?_, ?_, ?_, ?_, ?_, ?_, ?_, ?_, ?_, ?_, ?_, ?_, ?_, ?_, ?_, ?_, ?_, trivial⟩
          · intro L ac w hJ
            have hs := hJ
            refine wpO_plain rfl (op_move hs (some 0) rfl rfl rfl rfl fun ac hs => ?_)
            exact hs
          · intro L ac w hJ
            have hs := hJ
            refine wpO_plain rfl (op_idxA hs (some 1) (j := k) rfl rfl rfl rfl Try.underlying24 Try.sizeOf22 (show k < 4 by omega) (off := k) (by omega) rfl fun ac hs => ?_)
            exact hs
          · intro L ac w hJ
            have hs := hJ
            refine wpO_plain rfl (op_load hs (some 2) 0 (v := .int .u64 ((limN a k : Nat) : Int)) rfl rfl rfl rfl Try.isAgg22 Try.sizeOf22 (Wl_get (j := k) (show k < 4 by omega)) rfl fun ac hs => ?_)
            exact hs
          · intro L ac w hJ
            have hs := hJ
            refine wpO_plain rfl (op_move hs (some 3) rfl rfl rfl rfl fun ac hs => ?_)
            exact hs
          · intro L ac w hJ
            have hs := hJ
            refine wpO_plain rfl (op_idxA hs (some 4) (j := k) rfl rfl rfl rfl Try.underlying24 Try.sizeOf22 (show k < 4 by omega) (off := k) (by omega) rfl fun ac hs => ?_)
            exact hs
          · intro L ac w hJ
            have hs := hJ
            refine wpO_plain rfl (op_load hs (some 5) 1 (v := .int .u64 ((limN b k : Nat) : Int)) rfl rfl rfl rfl Try.isAgg22 Try.sizeOf22 (Wl_get (j := k) (show k < 4 by omega)) rfl fun ac hs => ?_)
            exact hs
          · intro L ac w hJ
            have hs := hJ
            refine wpO_plain rfl (op_bin hs (some 6) (v := .bool false) rfl rfl rfl rfl (fun _ => rfl) (fun w => dF hq8 (bin_lssN (x := limN a k) (y := limN b k) w)) rfl fun ac hs => ?_)
            exact hs
          · intro L ac w hJ
            have hs := hJ
            refine wpO_plain rfl (op_move hs (some 7) rfl rfl rfl rfl fun ac hs => ?_)
            exact hs
          · intro L ac w hJ
            have hs := hJ
            refine wpO_in hs rfl rfl rfl (op_move hs (some 8) rfl rfl rfl rfl fun ac hs => ?_)
            exact hs
          · intro L ac w hJ
            have hs := hJ
            refine wpO_in hs rfl rfl rfl (op_idxA hs (some 9) (j := k) rfl rfl rfl rfl Try.underlying24 Try.sizeOf22 (show k < 4 by omega) (off := k) (by omega) rfl fun ac hs => ?_)
            exact hs
          · intro L ac w hJ
            have hs := hJ
            refine wpO_in hs rfl rfl rfl (op_load hs (some 10) 0 (v := .int .u64 ((limN a k : Nat) : Int)) rfl rfl rfl rfl Try.isAgg22 Try.sizeOf22 (Wl_get (j := k) (show k < 4 by omega)) rfl fun ac hs => ?_)
            exact hs
          · intro L ac w hJ
            have hs := hJ
            refine wpO_in hs rfl rfl rfl (op_move hs (some 11) rfl rfl rfl rfl fun ac hs => ?_)
            exact hs
          · intro L ac w hJ
            have hs := hJ
            refine wpO_in hs rfl rfl rfl (op_idxA hs (some 12) (j := k) rfl rfl rfl rfl Try.underlying24 Try.sizeOf22 (show k < 4 by omega) (off := k) (by omega) rfl fun ac hs => ?_)
            exact hs
          · intro L ac w hJ
            have hs := hJ
            refine wpO_in hs rfl rfl rfl (op_load hs (some 13) 1 (v := .int .u64 ((limN b k : Nat) : Int)) rfl rfl rfl rfl Try.isAgg22 Try.sizeOf22 (Wl_get (j := k) (show k < 4 by omega)) rfl fun ac hs => ?_)
            exact hs
          · intro L ac w hJ
            have hs := hJ
            refine wpO_in hs rfl rfl rfl (op_bin hs (some 14) (v := .bool false) rfl rfl rfl rfl (fun _ => rfl) (fun w => dF hq11 (bin_eqlN (x := limN a k) (y := limN b k) w)) rfl fun ac hs => ?_)
            exact hs
          · intro L ac w hJ
            have hs := hJ
            refine wpO_in hs rfl rfl rfl (op_move hs (some 15) rfl rfl rfl rfl fun ac hs => ?_)
            exact hs
          · intro L ac w hJ
            have hs := hJ
            refine wpO_out hs (some 16) rfl rfl (.inl rfl) rfl rfl fun ac hs => ?_
            exact hs
          · intro L ac w hJ
            have hs := hJ
            refine wpO_out hs (some 17) rfl rfl (.inl rfl) rfl rfl fun ac hs => ?_
            exact hs
          · intro L ac w hJ
            have hs := hJ
            refine wpO_in hs rfl rfl rfl (op_pickF hs (some 18) rfl rfl rfl rfl rfl fun ac hs => ?_)
            exact hs
          · intro L ac w hJ
            have hs := hJ
            refine wpO_plain rfl (op_pickF hs (some 19) rfl rfl rfl rfl rfl fun ac hs => ?_)
            exact hs
        intro ac w hJ
        replace hs : St 47 w0 [(25, true, .int .i64 ((k : Nat) : Int)), (26, true, .pointer (some ⟨g1, k, none⟩)), (27, true, .int .u64 ((limN a k : Nat) : Int)), (28, true, .int .i64 ((k : Nat) : Int)), (29, true, .pointer (some ⟨g2, k, none⟩)), (30, true, .int .u64 ((limN b k : Nat) : Int)), (31, true, .bool false), (32, true, .bool false), (33, true, .int .i64 ((k : Nat) : Int)), (34, true, .pointer (some ⟨g1, k, none⟩)), (35, true, .int .u64 ((limN a k : Nat) : Int)), (36, true, .int .i64 ((k : Nat) : Int)), (37, true, .pointer (some ⟨g2, k, none⟩)), (38, true, .int .u64 ((limN b k : Nat) : Int)), (39, true, .bool false), (40, true, .bool false), (41, true, undef), (42, true, undef), (43, true, .bool false), (44, true, .bool false), (2, true, .pointer (some ⟨g1, 0, none⟩)), (3, true, .pointer (some ⟨g2, 0, none⟩)), (4, true, .pointer (some ⟨g3, 0, none⟩)), (6, true, .pointer (some ⟨g4, 0, none⟩)), (7, true, .int .u64 ((c : Nat) : Int)), (8, true, .int .i64 ((k : Nat) : Int))] [(true, g1, 24, (Wl a)), (true, g2, 24, (Wl b)), (true, g3, 24, [.int .u64 0, .int .u64 0, .int .u64 0, .int .u64 0]), (true, g4, 24, (tab .u64 4 (upn f k (((limN a k + 18446744073709551616 - (limN b k)) % 18446744073709551616 + 18446744073709551616 - c) % 18446744073709551616))))] ac w := hJ
        refine then_n ?_
        refine wp_cond_false (hs.ev rfl) ?_
        refine wp_region_lit ?_
        refine lstep (wpO_plain rfl (op_assign hs none rfl rfl rfl rfl fun ac hs => ?_))
        refine wpList_nil ?_
        refine blk_n ?_
        refine then_n ?_
        refine wp_region_lit ?_
        refine lstep (wpO_plain rfl (op_move hs none rfl rfl rfl rfl fun ac hs => ?_))
        refine lstep (wpO_plain rfl (op_bin hs none (v := .int .i64 ((k + 1 : Nat) : Int)) rfl rfl rfl rfl (fun _ => rfl) (bin_addN (x := k) (y := 1) (z := k + 1) rfl (show k + 1 < 9223372036854775808 by omega)) rfl fun ac hs => ?_))
        refine lstep (wpO_plain rfl (op_assign hs none rfl rfl rfl rfl fun ac hs => ?_))
        refine wpList_nil ?_
        refine then_n ?_
        exact ⟨_, ⟨(k + 1), 0, (upn f k (((limN a k + 18446744073709551616 - (limN b k)) % 18446744073709551616 + 18446744073709551616 - c) % 18446744073709551616)), rfl, hlt, (less_c hc0 hcb (by split <;> omega)), (less_f hb hlt hc0 hcb hf), (hs.re ⟨rfl, rfl, rfl, rfl, rfl, rfl, trivial⟩)⟩, (by omega)⟩
  · skip
    have hp25 := of_decide_eq_false hc
    obtain rfl : k = 4 := by have := of_decide_eq_false hc; omega
    replace hs := hs.setb 3 (cs' := Wl (a + 2 ^ 256 - b)) rfl (tab_Wl hf)
    refine wp_exit ?_
    refine then_e ?_
    refine then_e ?_
    refine blk_e ?_
    refine then_n ?_
    refine wp_seq ?_
    refine wp_region_lit ?_
    refine lstep (wpO_plain rfl (op_load hs none 3 (v := W (a + 2 ^ 256 - b)) rfl rfl rfl rfl Try.isAgg24 Try.sizeOf24 rfl rfl fun ac hs => ?_))
    refine lstep (wpO_plain rfl (op_move hs none rfl rfl rfl rfl fun ac hs => ?_))
    refine lstep (wpO_plain rfl (op_store hs 2 (vs := (Wl (a + 2 ^ 256 - b))) rfl rfl rfl rfl rfl Try.sizeOf24 rfl rfl rfl rfl rfl fun w hs => ?_))
    refine lstep (wpO_plain rfl (op_assign hs none rfl rfl rfl rfl fun ac hs => ?_))
    refine wpList_nil ?_
    refine then_n ?_
    refine wp_ret ?_
    exact bodyPost_ret (res2 rfl (rv_c hs 2 (v := W (a + 2 ^ 256 - b)) rfl rfl Try.isAgg24 Try.sizeOf24 rfl) (rv_t hs rfl)) hs.defers ⟨by rw [← hd, W_mod, hcb]; exact congrArg _ (less_fin ha hb hc'), hs.below⟩
theorem more_at (a b d q : Nat) (ha : a < 2 ^ 256) (hb : b < 2 ^ 256) (hd : (a + b) % 2 ^ 256 = d) (hc' : (a + b) / 2 ^ 256 = q) (w0 : World) : Calls Try.prog 88 #[W a, W b] w0 fun e w' => e = .returned (.tuple #[W d, .int .u64 ((q : Nat) : Int)]) ∧ Below w0.heap.size w0 w' := by
  refine enter (n := 41) (args := [W a, W b]) Try.func88 rfl rfl (Nat.le_of_ble_eq_true rfl) fun ac hs => ?_
  refine wp_seq ?_
  refine wp_region_lit ?_
  refine lstep (wpO_plain rfl (op_box hs none none (cs := (Wl a)) rfl rfl rfl rfl rfl rfl fun g1 ac w hs => ?_))
  refine lstep (wpO_plain rfl (op_box hs none none (cs := (Wl b)) rfl rfl rfl rfl rfl rfl fun g2 ac w hs => ?_))
  refine lstep (wpO_plain rfl (op_alloc hs none none (cs := [.int .u64 0, .int .u64 0, .int .u64 0, .int .u64 0]) rfl rfl Try.zeroValue24 (by kernel_rfl) rfl rfl fun g3 ac w hs => ?_))
  refine lstep (wpO_plain rfl (op_assign hs none rfl rfl rfl rfl fun ac hs => ?_))
  refine wpList_nil ?_
  refine then_n ?_
  refine wp_seq ?_
  refine wp_region_lit ?_
  refine lstep (wpO_plain rfl (op_build hs none (qs := []) (v := .agg #[.int .u64 0, .int .u64 0, .int .u64 0, .int .u64 0]) rfl rfl rfl rfl (fun _ => by kernel_rfl) rfl fun ac hs => ?_))
  refine lstep (wpO_plain rfl (op_alloc hs none none (cs := [.int .u64 0, .int .u64 0, .int .u64 0, .int .u64 0]) rfl rfl Try.zeroValue24 (by kernel_rfl) rfl rfl fun g4 ac w hs => ?_))
  refine lstep (wpO_plain rfl (op_store hs 3 (vs := [.int .u64 0, .int .u64 0, .int .u64 0, .int .u64 0]) rfl rfl rfl rfl rfl Try.sizeOf24 rfl rfl rfl rfl rfl fun w hs => ?_))
  refine wpList_nil ?_
  refine then_n ?_
  refine wp_seq ?_
  refine wp_region_lit ?_
  refine lstep (wpO_plain rfl (op_assign hs none rfl rfl rfl rfl fun ac hs => ?_))
  refine wpList_nil ?_
  refine then_n ?_
  refine wp_seq ?_
  refine wp_seq ?_
  refine wp_region_lit ?_
  refine lstep (wpO_plain rfl (op_assign hs none rfl rfl rfl rfl fun ac hs => ?_))
  refine wpList_nil ?_
  refine then_n ?_
  refine wp_block ?_
  refine wp_loop_m (fun μ ac w => ∃ (k : Nat) (c : Nat) (f : Nat → Nat), (4 - k) = μ ∧ (k ≤ 4) ∧ (c = cry a b k) ∧ (∀ j, j < k → f j = limN (a + b) j) ∧ St 41 w0 [(2, true, .pointer (some ⟨g1, 0, none⟩)), (3, true, .pointer (some ⟨g2, 0, none⟩)), (4, true, .pointer (some ⟨g3, 0, none⟩)), (6, true, .pointer (some ⟨g4, 0, none⟩)), (7, true, .int .u64 ((c : Nat) : Int)), (8, true, .int .i64 ((k : Nat) : Int))] [(true, g1, 24, (Wl a)), (true, g2, 24, (Wl b)), (true, g3, 24, [.int .u64 0, .int .u64 0, .int .u64 0, .int .u64 0]), (true, g4, 24, (tab .u64 4 f))] ac w) ?_ ?_
  · exact ⟨_, 0, 0, (fun _ => 0), rfl, (by omega), (cry_zero a b).symm, (fun j hj => by omega), (hs.re ⟨rfl, rfl, rfl, rfl, rfl, rfl, trivial⟩)⟩
  intro μ ac w ⟨k, c, f, hμ, hk, hcb, hf, hs⟩
  have hc0 : c ≤ 1 := by rw [hcb]; exact cry_le a b k
  refine wp_seq ?_
  refine wp_seq ?_
  refine wp_region_lit ?_
  refine lstep (wpO_plain rfl (op_move hs none rfl rfl rfl rfl fun ac hs => ?_))
  refine lstep (wpO_plain rfl (op_bin hs none (v := .bool (decide (k < 4))) rfl rfl rfl rfl (fun _ => rfl) (bin_lssN (x := k) (y := 4)) rfl fun ac hs => ?_))
  refine wpList_nil ?_
  refine then_n ?_
  refine wp_cond_split (hs.ev rfl) (fun hc => ?_) (fun hc => ?_)
  · skip
    have hp5 := of_decide_eq_true hc
    have hlt : k < 4 := of_decide_eq_true hc
    refine wp_skip ?_
    refine then_n ?_
    refine wp_seq ?_
    refine wp_block ?_
    refine wp_seq ?_
    replace hs : St 41 w0 [(2, true, .pointer (some ⟨g1, 0, none⟩)), (3, true, .pointer (some ⟨g2, 0, none⟩)), (4, true, .pointer (some ⟨g3, 0, none⟩)), (6, true, .pointer (some ⟨g4, 0, none⟩)), (7, true, .int .u64 ((c : Nat) : Int)), (8, true, .int .i64 ((k : Nat) : Int))] [(true, g1, 24, (Wl a)), (true, g2, 24, (Wl b)), (true, g3, 24, [.int .u64 0, .int .u64 0, .int .u64 0, .int .u64 0]), (true, g4, 24, (tab .u64 4 f))] ac _ := hs.re ⟨rfl, rfl, rfl, rfl, rfl, rfl, trivial⟩
    have l6 := limN_lt a k
    have l7 := limN_lt b k
    refine region_inv [([], [1, 2, 6, 7]), ([0], [2, 6, 7]), ([0, 1], [6, 7]), ([], [4, 5, 6, 7]), ([3], [5, 6, 7]), ([3, 4], [6, 7]), ([0, 1, 2, 3, 4, 5], [7]), ([0, 1, 2, 3, 4, 5, 6], [])] (fun L ac w => St 41 w0 [(16, L 0, .int .i64 ((k : Nat) : Int)), (17, L 1, .pointer (some ⟨g1, k, none⟩)), (18, L 2, .int .u64 ((limN a k : Nat) : Int)), (19, L 3, .int .i64 ((k : Nat) : Int)), (20, L 4, .pointer (some ⟨g2, k, none⟩)), (21, L 5, .int .u64 ((limN b k : Nat) : Int)), (22, L 6, .int .u64 (((limN a k + (limN b k)) % 18446744073709551616 : Nat) : Int)), (9, L 7, .int .u64 (((limN a k + (limN b k)) % 18446744073709551616 : Nat) : Int)), (2, true, .pointer (some ⟨g1, 0, none⟩)), (3, true, .pointer (some ⟨g2, 0, none⟩)), (4, true, .pointer (some ⟨g3, 0, none⟩)), (6, true, .pointer (some ⟨g4, 0, none⟩)), (7, true, .int .u64 ((c : Nat) : Int)), (8, true, .int .i64 ((k : Nat) : Int))] [(true, g1, 24, (Wl a)), (true, g2, 24, (Wl b)), (true, g3, 24, [.int .u64 0, .int .u64 0, .int .u64 0, .int .u64 0]), (true, g4, 24, (tab .u64 4 f))] ac w) (by kernel_rfl) (by kernel_rfl) ?_ ?_ ?_
    · exact hs.drew.skip.skip.skip.skip.skip.skip.skip.skip
    · refine ⟨?_, ?_, ?_, ?_, ?_, ?_, ?_, ?_, trivial⟩
      · intro L ac w hJ
        have hs := hJ
        refine wpO_plain rfl (op_move hs (some 0) rfl rfl rfl rfl fun ac hs => ?_)
        exact hs
      · intro L ac w hJ
        have hs := hJ
        refine wpO_plain rfl (op_idxA hs (some 1) (j := k) rfl rfl rfl rfl Try.underlying24 Try.sizeOf22 (show k < 4 by omega) (off := k) (by omega) rfl fun ac hs => ?_)
        exact hs
      · intro L ac w hJ
        have hs := hJ
        refine wpO_plain rfl (op_load hs (some 2) 0 (v := .int .u64 ((limN a k : Nat) : Int)) rfl rfl rfl rfl Try.isAgg22 Try.sizeOf22 (Wl_get (j := k) (show k < 4 by omega)) rfl fun ac hs => ?_)
        exact hs
      · intro L ac w hJ
        have hs := hJ
        refine wpO_plain rfl (op_move hs (some 3) rfl rfl rfl rfl fun ac hs => ?_)
        exact hs
      · intro L ac w hJ
        have hs := hJ
        refine wpO_plain rfl (op_idxA hs (some 4) (j := k) rfl rfl rfl rfl Try.underlying24 Try.sizeOf22 (show k < 4 by omega) (off := k) (by omega) rfl fun ac hs => ?_)
        exact hs
      · intro L ac w hJ
        have hs := hJ
        refine wpO_plain rfl (op_load hs (some 5) 1 (v := .int .u64 ((limN b k : Nat) : Int)) rfl rfl rfl rfl Try.isAgg22 Try.sizeOf22 (Wl_get (j := k) (show k < 4 by omega)) rfl fun ac hs => ?_)
        exact hs
      · intro L ac w hJ
        have hs := hJ
        refine wpO_plain rfl (op_bin hs (some 6) (v := .int .u64 (((limN a k + (limN b k)) % 18446744073709551616 : Nat) : Int)) rfl rfl rfl rfl (fun _ => rfl) (bin_addM (x := limN a k) (y := limN b k) (z := (limN a k + (limN b k)) % 18446744073709551616) rfl rfl) rfl fun ac hs => ?_)
        exact hs
      · intro L ac w hJ
        have hs := hJ
        refine wpO_plain rfl (op_assign hs (some 7) rfl rfl rfl rfl fun ac hs => ?_)
        exact hs
    intro ac w hJ
    replace hs : St 41 w0 [(16, true, .int .i64 ((k : Nat) : Int)), (17, true, .pointer (some ⟨g1, k, none⟩)), (18, true, .int .u64 ((limN a k : Nat) : Int)), (19, true, .int .i64 ((k : Nat) : Int)), (20, true, .pointer (some ⟨g2, k, none⟩)), (21, true, .int .u64 ((limN b k : Nat) : Int)), (22, true, .int .u64 (((limN a k + (limN b k)) % 18446744073709551616 : Nat) : Int)), (9, true, .int .u64 (((limN a k + (limN b k)) % 18446744073709551616 : Nat) : Int)), (2, true, .pointer (some ⟨g1, 0, none⟩)), (3, true, .pointer (some ⟨g2, 0, none⟩)), (4, true, .pointer (some ⟨g3, 0, none⟩)), (6, true, .pointer (some ⟨g4, 0, none⟩)), (7, true, .int .u64 ((c : Nat) : Int)), (8, true, .int .i64 ((k : Nat) : Int))] [(true, g1, 24, (Wl a)), (true, g2, 24, (Wl b)), (true, g3, 24, [.int .u64 0, .int .u64 0, .int .u64 0, .int .u64 0]), (true, g4, 24, (tab .u64 4 f))] ac w := hJ
    refine then_n ?_
    refine wp_seq ?_
    refine wp_region_lit ?_
    refine lstep (wpO_plain rfl (op_move hs none rfl rfl rfl rfl fun ac hs => ?_))
    refine lstep (wpO_plain rfl (op_move hs none rfl rfl rfl rfl fun ac hs => ?_))
    refine lstep (wpO_plain rfl (op_bin hs none (v := .int .u64 ((((limN a k + (limN b k)) % 18446744073709551616 + c) % 18446744073709551616 : Nat) : Int)) rfl rfl rfl rfl (fun _ => rfl) (bin_addM (x := (limN a k + (limN b k)) % 18446744073709551616) (y := c) (z := ((limN a k + (limN b k)) % 18446744073709551616 + c) % 18446744073709551616) rfl rfl) rfl fun ac hs => ?_))
    refine lstep (wpO_plain rfl (op_assign hs none rfl rfl rfl rfl fun ac hs => ?_))
    refine wpList_nil ?_
    refine then_n ?_
    refine wp_seq ?_
    refine wp_seq ?_
    by_cases hq8 : (limN a k + (limN b k)) % 18446744073709551616 < limN a k
    · skip
      refine wp_region_lit ?_
      refine lstep (wpO_plain rfl (op_move hs none rfl rfl rfl rfl fun ac hs => ?_))
      refine lstep (wpO_plain rfl (op_move hs none rfl rfl rfl rfl fun ac hs => ?_))
      refine lstep (wpO_plain rfl (op_idxA hs none (j := k) rfl rfl rfl rfl Try.underlying24 Try.sizeOf22 (show k < 4 by omega) (off := k) (by omega) rfl fun ac hs => ?_))
      have l9 := limN_lt a k
      refine lstep (wpO_plain rfl (op_load hs none 0 (v := .int .u64 ((limN a k : Nat) : Int)) rfl rfl rfl rfl Try.isAgg22 Try.sizeOf22 (Wl_get (j := k) (show k < 4 by omega)) rfl fun ac hs => ?_))
      refine lstep (wpO_plain rfl (op_bin hs none (v := .bool true) rfl rfl rfl rfl (fun _ => rfl) (fun w => dT hq8 (bin_lssN (x := (limN a k + (limN b k)) % 18446744073709551616) (y := limN a k) w)) rfl fun ac hs => ?_))
      refine lstep (wpO_plain rfl (op_move hs none rfl rfl rfl rfl fun ac hs => ?_))
      refine lstep (wpO_out hs none rfl rfl (.inl rfl) rfl rfl fun ac hs => ?_)
      refine lstep (wpO_out hs none rfl rfl (.inl rfl) rfl rfl fun ac hs => ?_)
      refine lstep (wpO_out hs none rfl rfl (.inl rfl) rfl rfl fun ac hs => ?_)
      refine lstep (wpO_plain rfl (op_pickT hs none rfl rfl rfl rfl rfl fun ac hs => ?_))
      refine wpList_nil ?_
      refine then_n ?_
      refine wp_cond_true (hs.ev rfl) ?_
      refine wp_region_lit ?_
      refine lstep (wpO_plain rfl (op_assign hs none rfl rfl rfl rfl fun ac hs => ?_))
      refine wpList_nil ?_
      refine then_n ?_
      refine wp_region_lit ?_
      refine lstep (wpO_plain rfl (op_move hs none rfl rfl rfl rfl fun ac hs => ?_))
      refine lstep (wpO_plain rfl (op_move hs none rfl rfl rfl rfl fun ac hs => ?_))
      refine lstep (wpO_plain rfl (op_idxA hs none (j := k) rfl rfl rfl rfl Try.underlying24 Try.sizeOf22 (show k < 4 by omega) (off := k) (by omega) rfl fun ac hs => ?_))
      refine lstep (wpO_plain rfl (op_store hs 3 (vs := [.int .u64 ((((limN a k + (limN b k)) % 18446744073709551616 + c) % 18446744073709551616 : Nat) : Int)]) rfl rfl rfl rfl rfl Try.sizeOf22 rfl rfl rfl (tab_le (j := k) (show k < 4 by omega)) (tab_set) fun w hs => ?_))
      refine wpList_nil ?_
      refine blk_n ?_
      refine then_n ?_
      refine wp_region_lit ?_
      refine lstep (wpO_plain rfl (op_move hs none rfl rfl rfl rfl fun ac hs => ?_))
      refine lstep (wpO_plain rfl (op_bin hs none (v := .int .i64 ((k + 1 : Nat) : Int)) rfl rfl rfl rfl (fun _ => rfl) (bin_addN (x := k) (y := 1) (z := k + 1) rfl (show k + 1 < 9223372036854775808 by omega)) rfl fun ac hs => ?_))
      refine lstep (wpO_plain rfl (op_assign hs none rfl rfl rfl rfl fun ac hs => ?_))
      refine wpList_nil ?_
      refine then_n ?_
      exact ⟨_, ⟨(k + 1), 1, (upn f k (((limN a k + (limN b k)) % 18446744073709551616 + c) % 18446744073709551616)), rfl, hlt, (more_c hc0 hcb (by omega)), (more_f hc0 hcb hf), (hs.re ⟨rfl, rfl, rfl, rfl, rfl, rfl, trivial⟩)⟩, (by omega)⟩
    · skip
      by_cases hq10 : ((limN a k + (limN b k)) % 18446744073709551616 + c) % 18446744073709551616 < (limN a k + (limN b k)) % 18446744073709551616
      · skip
        refine wp_region_lit ?_
        refine lstep (wpO_plain rfl (op_move hs none rfl rfl rfl rfl fun ac hs => ?_))
        refine lstep (wpO_plain rfl (op_move hs none rfl rfl rfl rfl fun ac hs => ?_))
        refine lstep (wpO_plain rfl (op_idxA hs none (j := k) rfl rfl rfl rfl Try.underlying24 Try.sizeOf22 (show k < 4 by omega) (off := k) (by omega) rfl fun ac hs => ?_))
        have l11 := limN_lt a k
        refine lstep (wpO_plain rfl (op_load hs none 0 (v := .int .u64 ((limN a k : Nat) : Int)) rfl rfl rfl rfl Try.isAgg22 Try.sizeOf22 (Wl_get (j := k) (show k < 4 by omega)) rfl fun ac hs => ?_))
        refine lstep (wpO_plain rfl (op_bin hs none (v := .bool false) rfl rfl rfl rfl (fun _ => rfl) (fun w => dF hq8 (bin_lssN (x := (limN a k + (limN b k)) % 18446744073709551616) (y := limN a k) w)) rfl fun ac hs => ?_))
        refine lstep (wpO_plain rfl (op_move hs none rfl rfl rfl rfl fun ac hs => ?_))
        refine lstep (wpO_in hs rfl rfl rfl (op_move hs none rfl rfl rfl rfl fun ac hs => ?_))
        refine lstep (wpO_in hs rfl rfl rfl (op_move hs none rfl rfl rfl rfl fun ac hs => ?_))
        refine lstep (wpO_in hs rfl rfl rfl (op_bin hs none (v := .bool true) rfl rfl rfl rfl (fun _ => rfl) (fun w => dT hq10 (bin_lssN (x := ((limN a k + (limN b k)) % 18446744073709551616 + c) % 18446744073709551616) (y := (limN a k + (limN b k)) % 18446744073709551616) w)) rfl fun ac hs => ?_))
        refine lstep (wpO_plain rfl (op_pickF hs none rfl rfl rfl rfl rfl fun ac hs => ?_))
        refine wpList_nil ?_
        refine then_n ?_
        refine wp_cond_true (hs.ev rfl) ?_
        refine wp_region_lit ?_
        refine lstep (wpO_plain rfl (op_assign hs none rfl rfl rfl rfl fun ac hs => ?_))
        refine wpList_nil ?_
        refine then_n ?_
        refine wp_region_lit ?_
        refine lstep (wpO_plain rfl (op_move hs none rfl rfl rfl rfl fun ac hs => ?_))
        refine lstep (wpO_plain rfl (op_move hs none rfl rfl rfl rfl fun ac hs => ?_))
        refine lstep (wpO_plain rfl (op_idxA hs none (j := k) rfl rfl rfl rfl Try.underlying24 Try.sizeOf22 (show k < 4 by omega) (off := k) (by omega) rfl fun ac hs => ?_))
        refine lstep (wpO_plain rfl (op_store hs 3 (vs := [.int .u64 ((((limN a k + (limN b k)) % 18446744073709551616 + c) % 18446744073709551616 : Nat) : Int)]) rfl rfl rfl rfl rfl Try.sizeOf22 rfl rfl rfl (tab_le (j := k) (show k < 4 by omega)) (tab_set) fun w hs => ?_))
        refine wpList_nil ?_
        refine blk_n ?_
        refine then_n ?_
        refine wp_region_lit ?_
        refine lstep (wpO_plain rfl (op_move hs none rfl rfl rfl rfl fun ac hs => ?_))
        refine lstep (wpO_plain rfl (op_bin hs none (v := .int .i64 ((k + 1 : Nat) : Int)) rfl rfl rfl rfl (fun _ => rfl) (bin_addN (x := k) (y := 1) (z := k + 1) rfl (show k + 1 < 9223372036854775808 by omega)) rfl fun ac hs => ?_))
        refine lstep (wpO_plain rfl (op_assign hs none rfl rfl rfl rfl fun ac hs => ?_))
        refine wpList_nil ?_
        refine then_n ?_
        exact ⟨_, ⟨(k + 1), 1, (upn f k (((limN a k + (limN b k)) % 18446744073709551616 + c) % 18446744073709551616)), rfl, hlt, (more_c hc0 hcb (by omega)), (more_f hc0 hcb hf), (hs.re ⟨rfl, rfl, rfl, rfl, rfl, rfl, trivial⟩)⟩, (by omega)⟩
      · skip
        refine wp_region_lit ?_
        refine lstep (wpO_plain rfl (op_move hs none rfl rfl rfl rfl fun ac hs => ?_))
        refine lstep (wpO_plain rfl (op_move hs none rfl rfl rfl rfl fun ac hs => ?_))
        refine lstep (wpO_plain rfl (op_idxA hs none (j := k) rfl rfl rfl rfl Try.underlying24 Try.sizeOf22 (show k < 4 by omega) (off := k) (by omega) rfl fun ac hs => ?_))
        have l12 := limN_lt a k
        refine lstep (wpO_plain rfl (op_load hs none 0 (v := .int .u64 ((limN a k : Nat) : Int)) rfl rfl rfl rfl Try.isAgg22 Try.sizeOf22 (Wl_get (j := k) (show k < 4 by omega)) rfl fun ac hs => ?_))
        refine lstep (wpO_plain rfl (op_bin hs none (v := .bool false) rfl rfl rfl rfl (fun _ => rfl) (fun w => dF hq8 (bin_lssN (x := (limN a k + (limN b k)) % 18446744073709551616) (y := limN a k) w)) rfl fun ac hs => ?_))
        refine lstep (wpO_plain rfl (op_move hs none rfl rfl rfl rfl fun ac hs => ?_))
        refine lstep (wpO_in hs rfl rfl rfl (op_move hs none rfl rfl rfl rfl fun ac hs => ?_))
        refine lstep (wpO_in hs rfl rfl rfl (op_move hs none rfl rfl rfl rfl fun ac hs => ?_))
        refine lstep (wpO_in hs rfl rfl rfl (op_bin hs none (v := .bool false) rfl rfl rfl rfl (fun _ => rfl) (fun w => dF hq10 (bin_lssN (x := ((limN a k + (limN b k)) % 18446744073709551616 + c) % 18446744073709551616) (y := (limN a k + (limN b k)) % 18446744073709551616) w)) rfl fun ac hs => ?_))
        refine lstep (wpO_plain rfl (op_pickF hs none rfl rfl rfl rfl rfl fun ac hs => ?_))
        refine wpList_nil ?_
        refine then_n ?_
        refine wp_cond_false (hs.ev rfl) ?_
        refine wp_region_lit ?_
        refine lstep (wpO_plain rfl (op_assign hs none rfl rfl rfl rfl fun ac hs => ?_))
        refine wpList_nil ?_
        refine then_n ?_
        refine wp_region_lit ?_
        refine lstep (wpO_plain rfl (op_move hs none rfl rfl rfl rfl fun ac hs => ?_))
        refine lstep (wpO_plain rfl (op_move hs none rfl rfl rfl rfl fun ac hs => ?_))
        refine lstep (wpO_plain rfl (op_idxA hs none (j := k) rfl rfl rfl rfl Try.underlying24 Try.sizeOf22 (show k < 4 by omega) (off := k) (by omega) rfl fun ac hs => ?_))
        refine lstep (wpO_plain rfl (op_store hs 3 (vs := [.int .u64 ((((limN a k + (limN b k)) % 18446744073709551616 + c) % 18446744073709551616 : Nat) : Int)]) rfl rfl rfl rfl rfl Try.sizeOf22 rfl rfl rfl (tab_le (j := k) (show k < 4 by omega)) (tab_set) fun w hs => ?_))
        refine wpList_nil ?_
        refine blk_n ?_
        refine then_n ?_
        refine wp_region_lit ?_
        refine lstep (wpO_plain rfl (op_move hs none rfl rfl rfl rfl fun ac hs => ?_))
        refine lstep (wpO_plain rfl (op_bin hs none (v := .int .i64 ((k + 1 : Nat) : Int)) rfl rfl rfl rfl (fun _ => rfl) (bin_addN (x := k) (y := 1) (z := k + 1) rfl (show k + 1 < 9223372036854775808 by omega)) rfl fun ac hs => ?_))
        refine lstep (wpO_plain rfl (op_assign hs none rfl rfl rfl rfl fun ac hs => ?_))
        refine wpList_nil ?_
        refine then_n ?_
        exact ⟨_, ⟨(k + 1), 0, (upn f k (((limN a k + (limN b k)) % 18446744073709551616 + c) % 18446744073709551616)), rfl, hlt, (more_c hc0 hcb (by omega)), (more_f hc0 hcb hf), (hs.re ⟨rfl, rfl, rfl, rfl, rfl, rfl, trivial⟩)⟩, (by omega)⟩
  · skip
    have hp13 := of_decide_eq_false hc
    obtain rfl : k = 4 := by have := of_decide_eq_false hc; omega
    replace hs := hs.setb 3 (cs' := Wl (a + b)) rfl (tab_Wl hf)
    refine wp_exit ?_
    refine then_e ?_
    refine then_e ?_
    refine blk_e ?_
    refine then_n ?_
    refine wp_seq ?_
    refine wp_region_lit ?_
    refine lstep (wpO_plain rfl (op_load hs none 3 (v := W (a + b)) rfl rfl rfl rfl Try.isAgg24 Try.sizeOf24 rfl rfl fun ac hs => ?_))
    refine lstep (wpO_plain rfl (op_move hs none rfl rfl rfl rfl fun ac hs => ?_))
    refine lstep (wpO_plain rfl (op_store hs 2 (vs := (Wl (a + b))) rfl rfl rfl rfl rfl Try.sizeOf24 rfl rfl rfl rfl rfl fun w hs => ?_))
    refine lstep (wpO_plain rfl (op_assign hs none rfl rfl rfl rfl fun ac hs => ?_))
    refine wpList_nil ?_
    refine then_n ?_
    refine wp_ret ?_
    exact bodyPost_ret (res2 rfl (rv_c hs 2 (v := W (a + b)) rfl rfl Try.isAgg24 Try.sizeOf24 rfl) (rv_t hs rfl)) hs.defers ⟨by rw [← hd, W_mod, hcb]; exact congrArg _ (more_fin ha hb hc'), hs.below⟩
end Go.Proofs.Ytmpejkhffbonnaa
