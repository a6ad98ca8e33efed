/- Figures. -/
import Derived.Test.YtaeafgkjinhceaaStr
import Derived.Test.YtaeafgkjinhceaaDec
import Derived.Test.YtaeafgkjinhceaaPrt
import Derived.Test.YtaeafgkjinhceaaRWide2
namespace Go.Proofs.Ytaeafgkjinhceaa
open Go.RowKit
set_option maxRecDepth 10000

theorem wparse_c (s : ByteArray) (hsz : s.size < 9223372036854775808) (w0 : World) : Calls Try.prog 31 #[.string s] w0 fun e w' => e = .returned (.tuple #[W (txV s), .int .i64 ((txE s : Nat) : Int)]) ∧ Below w0.heap.size w0 w' := by
  refine enter (n := 69) (args := [.string s]) Try.func31 rfl rfl (Nat.le_of_ble_eq_true rfl) fun ac hs => ?_
  refine wp_seq ?_
  refine wp_region_lit ?_
  refine lstep (wpO_plain rfl (op_alloc hs none none (cs := [.int .u64 0, .int .u64 0, .int .u64 0, .int .u64 0]) rfl rfl Try.zeroValue24 (by kernel_rfl) rfl rfl fun g1 ac w hs => ?_))
  refine lstep (wpO_plain rfl (op_assign hs none rfl rfl rfl rfl fun ac hs => ?_))
  refine wpList_nil ?_
  refine then_n ?_
  refine wp_seq ?_
  refine wp_seq ?_
  by_cases hq2 : s.size = 0
  · skip
    refine wp_region_lit ?_
    refine lstep (wpO_plain rfl (op_move hs none rfl rfl rfl rfl fun ac hs => ?_))
    refine lstep (wpO_plain rfl (op_bin hs none (v := .bool true) rfl rfl rfl rfl (fun _ => rfl) (bin_eqlS (b := true) (tx_size0.trans (decide_eq_true hq2))) rfl fun ac hs => ?_))
    refine lstep (wpO_plain rfl (op_move hs none rfl rfl rfl rfl fun ac hs => ?_))
    refine lstep (wpO_out hs none rfl rfl (.inl rfl) rfl rfl fun ac hs => ?_)
    refine lstep (wpO_out hs none rfl rfl (.inl rfl) rfl rfl fun ac hs => ?_)
    refine lstep (wpO_out hs none rfl rfl (.inl rfl) rfl rfl fun ac hs => ?_)
    refine lstep (wpO_out hs none rfl rfl (.inl rfl) rfl rfl fun ac hs => ?_)
    refine lstep (wpO_out hs none rfl rfl (.inr rfl) rfl rfl fun ac hs => ?_)
    refine lstep (wpO_out hs none rfl rfl (.inr rfl) rfl rfl fun ac hs => ?_)
    refine lstep (wpO_out hs none rfl rfl (.inr rfl) rfl rfl fun ac hs => ?_)
    refine lstep (wpO_out hs none rfl rfl (.inl rfl) rfl rfl fun ac hs => ?_)
    refine lstep (wpO_plain rfl (op_pickT hs none rfl rfl rfl rfl rfl fun ac hs => ?_))
    refine wpList_nil ?_
    refine then_n ?_
    refine wp_cond_true (hs.ev rfl) ?_
    refine wp_seq ?_
    refine wp_region_lit ?_
    refine lstep (wpO_plain rfl (op_build hs none (qs := []) (v := .agg #[.int .u64 0, .int .u64 0, .int .u64 0, .int .u64 0]) rfl rfl rfl rfl (fun _ => by kernel_rfl) rfl fun ac hs => ?_))
    refine lstep (wpO_plain rfl (op_store hs 0 (vs := [.int .u64 0, .int .u64 0, .int .u64 0, .int .u64 0]) rfl rfl rfl rfl rfl Try.sizeOf24 rfl rfl rfl rfl rfl fun w hs => ?_))
    refine lstep (wpO_plain rfl (op_assign hs none rfl rfl rfl rfl fun ac hs => ?_))
    refine wpList_nil ?_
    refine then_n ?_
    refine wp_ret ?_
    refine then_r ?_
    exact bodyPost_ret (res2 rfl (rv_c hs 0 (v := .agg #[.int .u64 0, .int .u64 0, .int .u64 0, .int .u64 0]) rfl rfl Try.isAgg24 Try.sizeOf24 rfl) (rv_t hs rfl)) hs.defers ⟨by rw [tx_V0 (tx_head (.inl hq2)) (by decide), (tx_head (.inl hq2))]; first | done | rfl, hs.below⟩
  · skip
    by_cases hq3 : 1 < s.size
    · skip
      refine wp_region_lit ?_
      refine lstep (wpO_plain rfl (op_move hs none rfl rfl rfl rfl fun ac hs => ?_))
      refine lstep (wpO_plain rfl (op_bin hs none (v := .bool false) rfl rfl rfl rfl (fun _ => rfl) (bin_eqlS (b := false) (tx_size0.trans (decide_eq_false hq2))) rfl fun ac hs => ?_))
      refine lstep (wpO_plain rfl (op_move hs none rfl rfl rfl rfl fun ac hs => ?_))
      refine lstep (wpO_in hs rfl rfl rfl (op_move hs none rfl rfl rfl rfl fun ac hs => ?_))
      refine lstep (wpO_in hs rfl rfl rfl (op_blt hs none (v := .int .i64 ((s.size : Nat) : Int)) rfl rfl rfl (blt_lenS Try.underlying9 (show s.size < 9223372036854775808 by omega)) rfl fun ac hs => ?_))
      refine lstep (wpO_in hs rfl rfl rfl (op_bin hs none (v := .bool true) rfl rfl rfl rfl (fun _ => rfl) (fun w => dT hq3 (bin_gtrN (x := s.size) (y := 1) w)) rfl fun ac hs => ?_))
      refine lstep (wpO_in hs rfl rfl rfl (op_move hs none rfl rfl rfl rfl fun ac hs => ?_))
      refine lstep (wpO_in hs rfl rfl rfl (op_move hs none rfl rfl rfl rfl fun ac hs => ?_))
      have l4 := sb_lt s 0
      refine lstep (wpO_in hs rfl rfl rfl (op_index hs none (v := .int .u8 ((sb s 0 : Nat) : Int)) rfl rfl rfl rfl (idx_s (j := 0) Try.underlying9 (show 0 < s.size by omega)) rfl fun ac hs => ?_))
      refine lstep (wpO_in hs rfl rfl rfl (op_bin hs none (v := .bool (decide (sb s 0 = 48))) rfl rfl rfl rfl (fun _ => rfl) (bin_eqlN (x := sb s 0) (y := 48)) rfl fun ac hs => ?_))
      refine lstep (wpO_in hs rfl rfl rfl (op_pickT hs none rfl rfl rfl rfl rfl fun ac hs => ?_))
      refine lstep (wpO_plain rfl (op_pickF hs none rfl rfl rfl rfl rfl fun ac hs => ?_))
      refine wpList_nil ?_
      refine then_n ?_
      refine wp_cond_split (hs.ev rfl) (fun hc => ?_) (fun hc => ?_)
      · skip
        have hp5 := of_decide_eq_true hc
        refine wp_seq ?_
        refine wp_region_lit ?_
        refine lstep (wpO_plain rfl (op_build hs none (qs := []) (v := .agg #[.int .u64 0, .int .u64 0, .int .u64 0, .int .u64 0]) rfl rfl rfl rfl (fun _ => by kernel_rfl) rfl fun ac hs => ?_))
        refine lstep (wpO_plain rfl (op_store hs 0 (vs := [.int .u64 0, .int .u64 0, .int .u64 0, .int .u64 0]) rfl rfl rfl rfl rfl Try.sizeOf24 rfl rfl rfl rfl rfl fun w hs => ?_))
        refine lstep (wpO_plain rfl (op_assign hs none rfl rfl rfl rfl fun ac hs => ?_))
        refine wpList_nil ?_
        refine then_n ?_
        refine wp_ret ?_
        refine then_r ?_
        exact bodyPost_ret (res2 rfl (rv_c hs 0 (v := .agg #[.int .u64 0, .int .u64 0, .int .u64 0, .int .u64 0]) rfl rfl Try.isAgg24 Try.sizeOf24 rfl) (rv_t hs rfl)) hs.defers ⟨by rw [tx_V0 (tx_head (.inr ⟨hq3, hp5⟩)) (by decide), (tx_head (.inr ⟨hq3, hp5⟩))]; first | done | rfl, hs.below⟩
      · skip
        have hp6 := of_decide_eq_false hc
        refine wp_skip ?_
        refine then_n ?_
        refine wp_seq ?_
        refine wp_region_lit ?_
        refine lstep (wpO_plain rfl (op_alloc hs none none (cs := [.int .u64 0, .int .u64 0, .int .u64 0, .int .u64 0]) rfl rfl Try.zeroValue24 (by kernel_rfl) rfl rfl fun g7 ac w hs => ?_))
        refine wpList_nil ?_
        refine then_n ?_
        refine wp_seq ?_
        refine wp_region_lit ?_
        refine lstep (wpO_plain rfl (op_assign hs none rfl rfl rfl rfl fun ac hs => ?_))
        refine wpList_nil ?_
        refine then_n ?_
        refine wp_seq ?_
        refine wp_seq ?_
        refine wp_region_lit ?_
        refine lstep (wpO_plain rfl (op_move hs none rfl rfl rfl rfl fun ac hs => ?_))
        refine lstep (wpO_plain rfl (op_convSB hs none rfl rfl rfl Try.underlying9 Try.underlying63 Try.underlying5 rfl fun g8 cp9 ob10 ac w hF11 hs => ?_))
        refine lstep (wpO_plain rfl (op_blt hs none (v := .int .i64 ((s.size : Nat) : Int)) rfl rfl rfl (blt_len Try.underlying63) rfl fun ac hs => ?_))
        refine lstep (wpO_plain rfl (op_move hs none rfl rfl rfl rfl fun ac hs => ?_))
        refine wpList_nil ?_
        refine then_n ?_
        refine wp_block ?_
        refine wp_loop_m (fun μ ac w => ∃ (i : Nat) (T : Nat), (s.size - i) = μ ∧ (i ≤ s.size) ∧ (T < 2 ^ 256) ∧ (dv s i % 2 ^ 256 = T) ∧ (Figs s i) ∧ St 69 ⟨w0, [(g8, ob10)]⟩ [(2, true, .pointer (some ⟨g1, 0, none⟩)), (3, true, .int .i64 0), (4, true, .pointer (some ⟨g7, 0, none⟩)), (5, true, .bool (decide (2 ^ 256 ≤ dv s i))), (26, true, .slice (some ⟨g8, 0, none⟩) s.size cp9), (27, true, .int .i64 ((s.size : Nat) : Int)), (28, true, .int .i64 ((i : Nat) : Int))] [(true, g1, 24, [.int .u64 0, .int .u64 0, .int .u64 0, .int .u64 0]), (true, g7, 24, (Wl T))] ac w) ?_ ?_
        · exact ⟨_, 0, 0, rfl, (Nat.zero_le _), (by decide), (dv_0 s), (fun j hj => absurd hj (Nat.not_lt_zero j)), (hs.re ⟨rfl, rfl, rfl, (congrArg (fun z => some (Value.bool z)) (dv_0n s).symm), rfl, rfl, rfl, trivial⟩)⟩
        intro μ ac w ⟨i, T, hμ, hi, lT, hT, hfg, hs⟩
        refine wp_seq ?_
        refine wp_region_lit ?_
        refine lstep (wpO_plain rfl (op_bin hs none (v := .bool (decide (i < s.size))) rfl rfl rfl rfl (fun _ => rfl) (bin_lssN (x := i) (y := s.size)) rfl fun ac hs => ?_))
        refine wpList_nil ?_
        refine then_n ?_
        refine wp_seq ?_
        refine wp_cond_split (hs.ev rfl) (fun hc => ?_) (fun hc => ?_)
        · skip
          have hp12 := of_decide_eq_true hc
          refine wp_skip ?_
          refine then_n ?_
          refine wp_seq ?_
          refine wp_block ?_
          refine wp_seq ?_
          refine wp_region_lit ?_
          refine lstep (wpO_plain rfl (op_idxS hs none (j := i) rfl rfl rfl rfl Try.underlying63 Try.sizeOf5 (show i < s.size by omega) (off := i) (by omega) rfl fun ac hs => ?_))
          have l13 := sb_lt s i
          refine lstep (wpO_plain rfl (op_loadF hs none (ob := ob10) (v := .int .u8 ((sb s i : Nat) : Int)) rfl rfl rfl Try.isAgg5 (.head _) (hF11 i (show i < s.size by omega)) rfl fun ac hs => ?_))
          refine lstep (wpO_plain rfl (op_assign hs none rfl rfl rfl rfl fun ac hs => ?_))
          refine wpList_nil ?_
          refine then_n ?_
          refine wp_seq ?_
          refine wp_seq ?_
          by_cases hq14 : sb s i < 48
          · skip
            refine wp_region_lit ?_
            refine lstep (wpO_plain rfl (op_move hs none rfl rfl rfl rfl fun ac hs => ?_))
            refine lstep (wpO_plain rfl (op_bin hs none (v := .bool true) rfl rfl rfl rfl (fun _ => rfl) (fun w => dT hq14 (bin_lssN (x := sb s i) (y := 48) w)) rfl fun ac hs => ?_))
            refine lstep (wpO_plain rfl (op_move hs none rfl rfl rfl rfl fun ac hs => ?_))
            refine lstep (wpO_out hs none rfl rfl (.inl rfl) rfl rfl fun ac hs => ?_)
            refine lstep (wpO_out hs none rfl rfl (.inl rfl) rfl rfl fun ac hs => ?_)
            refine lstep (wpO_plain rfl (op_pickT hs none rfl rfl rfl rfl rfl fun ac hs => ?_))
            refine wpList_nil ?_
            refine then_n ?_
            refine wp_cond_true (hs.ev rfl) ?_
            refine wp_seq ?_
            refine wp_region_lit ?_
            refine lstep (wpO_plain rfl (op_build hs none (qs := []) (v := .agg #[.int .u64 0, .int .u64 0, .int .u64 0, .int .u64 0]) rfl rfl rfl rfl (fun _ => by kernel_rfl) rfl fun ac hs => ?_))
            refine lstep (wpO_plain rfl (op_store hs 0 (vs := [.int .u64 0, .int .u64 0, .int .u64 0, .int .u64 0]) rfl rfl rfl rfl rfl Try.sizeOf24 rfl rfl rfl rfl rfl fun w hs => ?_))
            refine lstep (wpO_plain rfl (op_assign hs none rfl rfl rfl rfl fun ac hs => ?_))
            refine wpList_nil ?_
            refine then_n ?_
            refine wp_ret ?_
            refine then_r ?_
            refine blk_r ?_
            refine then_r ?_
            refine then_r ?_
            refine blk_r ?_
            refine then_r ?_
            exact bodyPost_ret (res2 rfl (rv_c hs 0 (v := .agg #[.int .u64 0, .int .u64 0, .int .u64 0, .int .u64 0]) rfl rfl Try.isAgg24 Try.sizeOf24 rfl) (rv_t hs rfl)) hs.defers ⟨by rw [tx_V0 (tx_bad hp12 (by omega)) (by decide), (tx_bad hp12 (by omega))]; first | done | rfl, hs.below⟩
          · skip
            by_cases hq15 : 57 < sb s i
            · skip
              refine wp_region_lit ?_
              refine lstep (wpO_plain rfl (op_move hs none rfl rfl rfl rfl fun ac hs => ?_))
              refine lstep (wpO_plain rfl (op_bin hs none (v := .bool false) rfl rfl rfl rfl (fun _ => rfl) (fun w => dF hq14 (bin_lssN (x := sb s i) (y := 48) w)) rfl fun ac hs => ?_))
              refine lstep (wpO_plain rfl (op_move hs none rfl rfl rfl rfl fun ac hs => ?_))
              refine lstep (wpO_in hs rfl rfl rfl (op_move hs none rfl rfl rfl rfl fun ac hs => ?_))
              refine lstep (wpO_in hs rfl rfl rfl (op_bin hs none (v := .bool true) rfl rfl rfl rfl (fun _ => rfl) (fun w => dT hq15 (bin_gtrN (x := sb s i) (y := 57) w)) rfl fun ac hs => ?_))
              refine lstep (wpO_plain rfl (op_pickF hs none rfl rfl rfl rfl rfl fun ac hs => ?_))
              refine wpList_nil ?_
              refine then_n ?_
              refine wp_cond_true (hs.ev rfl) ?_
              refine wp_seq ?_
              refine wp_region_lit ?_
              refine lstep (wpO_plain rfl (op_build hs none (qs := []) (v := .agg #[.int .u64 0, .int .u64 0, .int .u64 0, .int .u64 0]) rfl rfl rfl rfl (fun _ => by kernel_rfl) rfl fun ac hs => ?_))
              refine lstep (wpO_plain rfl (op_store hs 0 (vs := [.int .u64 0, .int .u64 0, .int .u64 0, .int .u64 0]) rfl rfl rfl rfl rfl Try.sizeOf24 rfl rfl rfl rfl rfl fun w hs => ?_))
              refine lstep (wpO_plain rfl (op_assign hs none rfl rfl rfl rfl fun ac hs => ?_))
              refine wpList_nil ?_
              refine then_n ?_
              refine wp_ret ?_
              refine then_r ?_
              refine blk_r ?_
              refine then_r ?_
              refine then_r ?_
              refine blk_r ?_
              refine then_r ?_
              exact bodyPost_ret (res2 rfl (rv_c hs 0 (v := .agg #[.int .u64 0, .int .u64 0, .int .u64 0, .int .u64 0]) rfl rfl Try.isAgg24 Try.sizeOf24 rfl) (rv_t hs rfl)) hs.defers ⟨by rw [tx_V0 (tx_bad hp12 (by omega)) (by decide), (tx_bad hp12 (by omega))]; first | done | rfl, hs.below⟩
            · skip
              have hd1 : 48 ≤ sb s i := by omega
              have hd2 : sb s i ≤ 57 := by omega
              refine wp_region_lit ?_
              refine lstep (wpO_plain rfl (op_move hs none rfl rfl rfl rfl fun ac hs => ?_))
              refine lstep (wpO_plain rfl (op_bin hs none (v := .bool false) rfl rfl rfl rfl (fun _ => rfl) (fun w => dF hq14 (bin_lssN (x := sb s i) (y := 48) w)) rfl fun ac hs => ?_))
              refine lstep (wpO_plain rfl (op_move hs none rfl rfl rfl rfl fun ac hs => ?_))
              refine lstep (wpO_in hs rfl rfl rfl (op_move hs none rfl rfl rfl rfl fun ac hs => ?_))
              refine lstep (wpO_in hs rfl rfl rfl (op_bin hs none (v := .bool false) rfl rfl rfl rfl (fun _ => rfl) (fun w => dF hq15 (bin_gtrN (x := sb s i) (y := 57) w)) rfl fun ac hs => ?_))
              refine lstep (wpO_plain rfl (op_pickF hs none rfl rfl rfl rfl rfl fun ac hs => ?_))
              refine wpList_nil ?_
              refine then_n ?_
              refine wp_cond_false (hs.ev rfl) ?_
              refine wp_skip ?_
              refine then_n ?_
              refine wp_seq ?_
              replace hs : St 69 ⟨w0, [(g8, ob10)]⟩ [(2, true, .pointer (some ⟨g1, 0, none⟩)), (3, true, .int .i64 0), (4, true, .pointer (some ⟨g7, 0, none⟩)), (5, true, .bool (decide (2 ^ 256 ≤ dv s i))), (26, true, .slice (some ⟨g8, 0, none⟩) s.size cp9), (27, true, .int .i64 ((s.size : Nat) : Int)), (28, true, .int .i64 ((i : Nat) : Int)), (7, true, .int .u8 ((sb s i : Nat) : Int))] [(true, g1, 24, [.int .u64 0, .int .u64 0, .int .u64 0, .int .u64 0]), (true, g7, 24, (Wl T))] ac _ := hs.re ⟨rfl, rfl, rfl, rfl, rfl, rfl, rfl, rfl, trivial⟩
              obtain ⟨lo16, hlo16, llo16⟩ : ∃ z0, T * 10 % 2 ^ 256 = z0 ∧ z0 < 2 ^ 256 := ⟨_, rfl, Nat.mod_lt _ (Nat.two_pow_pos 256)⟩
              obtain ⟨hi17, hhi17, lhi17⟩ : ∃ z0, T * 10 / 2 ^ 256 = z0 ∧ z0 < 2 ^ 256 := ⟨_, rfl, mul_hi lT (by decide)⟩
              refine region_inv [([], [2, 3, 4, 5, 8, 9]), ([], [2, 3, 4, 5, 8, 9]), ([0, 1], [3, 4, 5, 8, 9]), ([0, 1, 2], [4, 5, 8, 9]), ([0, 1, 2, 3], [8, 9]), ([0, 1, 2, 3], [9]), ([], [8, 9]), ([], [8, 9]), ([0, 1, 2, 3, 4, 6, 7], [9]), ([0, 1, 2, 3, 4, 5, 6, 7, 8], [])] (fun L ac w => ∃ (g18 : Nat) (g19 : Nat), St 69 ⟨w0, [(g8, ob10)]⟩ [(40, L 0, W T), (41, L 1, W 10), (42, L 2, .tuple #[W lo16, W hi17]), (39, L 3, .tuple #[W lo16, W hi17]), (43, L 4, W lo16), (44, L 5, W hi17), (8, L 6, .pointer (some ⟨g18, 0, none⟩)), (9, L 7, .pointer (some ⟨g19, 0, none⟩)), (2, true, .pointer (some ⟨g1, 0, none⟩)), (3, true, .int .i64 0), (4, true, .pointer (some ⟨g7, 0, none⟩)), (5, true, .bool (decide (2 ^ 256 ≤ dv s i))), (26, true, .slice (some ⟨g8, 0, none⟩) s.size cp9), (27, true, .int .i64 ((s.size : Nat) : Int)), (28, true, .int .i64 ((i : Nat) : Int)), (7, true, .int .u8 ((sb s i : Nat) : Int))] [(true, g1, 24, [.int .u64 0, .int .u64 0, .int .u64 0, .int .u64 0]), (true, g7, 24, (Wl T)), (L 6, g18, 24, (cond (L 8) (Wl lo16) [.int .u64 0, .int .u64 0, .int .u64 0, .int .u64 0])), (L 7, g19, 24, (cond (L 9) (Wl hi17) [.int .u64 0, .int .u64 0, .int .u64 0, .int .u64 0]))] ac w) (by kernel_rfl) (by kernel_rfl) ?_ ?_ ?_
              · exact ⟨0, 0, hs.drew.skip.skip.skip.skip.skip.skip.skip.skip.pad.pad⟩
              · refine ⟨?_, ?_, ?_, ?_, ?_, ?_, ?_, ?_, ?_, ?_, trivial⟩
                · intro L ac w hJ
                  obtain ⟨g18, g19, hs⟩ := hJ
                  refine wpO_plain rfl (op_load hs (some 0) 1 (v := W T) rfl rfl rfl rfl Try.isAgg24 Try.sizeOf24 rfl rfl fun ac hs => ?_)
                  exact ⟨g18, g19, hs⟩
                · intro L ac w hJ
                  obtain ⟨g18, g19, hs⟩ := hJ
                  refine wpO_plain rfl (op_call (F := 20) hs (some 1) (v := W 10) rfl rfl rfl rfl (Try.call20 _) (fun w => from_any w 10 (by decide)) rfl fun ac w hs => ?_)
                  exact ⟨g18, g19, hs⟩
                · intro L ac w hJ
                  obtain ⟨g18, g19, hs⟩ := hJ
                  refine wpO_plain rfl (op_call (F := 29) hs (some 2) (v := .tuple #[W lo16, W hi17]) rfl rfl rfl rfl (Try.call29 _) (fun w => wmul_at w T 10 lo16 hi17 lT (by decide) hlo16 hhi17) rfl fun ac w hs => ?_)
                  exact ⟨g18, g19, hs⟩
                · intro L ac w hJ
                  obtain ⟨g18, g19, hs⟩ := hJ
                  refine wpO_plain rfl (op_move hs (some 3) rfl rfl rfl rfl fun ac hs => ?_)
                  exact ⟨g18, g19, hs⟩
                · intro L ac w hJ
                  obtain ⟨g18, g19, hs⟩ := hJ
                  refine wpO_plain rfl (op_extract hs (some 4) rfl rfl rfl rfl rfl fun ac hs => ?_)
                  exact ⟨g18, g19, hs⟩
                · intro L ac w hJ
                  obtain ⟨g18, g19, hs⟩ := hJ
                  refine wpO_plain rfl (op_extract hs (some 5) rfl rfl rfl rfl rfl fun ac hs => ?_)
                  exact ⟨g18, g19, hs⟩
                · intro L ac w hJ
                  obtain ⟨g18, g19, hs⟩ := hJ
                  refine wpO_plain rfl (op_alloc hs (some 6) (some 2) (cs := [.int .u64 0, .int .u64 0, .int .u64 0, .int .u64 0]) rfl rfl Try.zeroValue24 (by kernel_rfl) rfl rfl fun g18 ac w hs => ?_)
                  exact ⟨g18, g19, hs⟩
                · intro L ac w hJ
                  obtain ⟨g18, g19, hs⟩ := hJ
                  refine wpO_plain rfl (op_alloc hs (some 7) (some 3) (cs := [.int .u64 0, .int .u64 0, .int .u64 0, .int .u64 0]) rfl rfl Try.zeroValue24 (by kernel_rfl) rfl rfl fun g19 ac w hs => ?_)
                  exact ⟨g18, g19, hs⟩
                · intro L ac w hJ
                  obtain ⟨g18, g19, hs⟩ := hJ
                  refine wpO_plain rfl (op_store hs 2 (vs := (Wl lo16)) rfl rfl rfl rfl rfl Try.sizeOf24 rfl rfl rfl rfl rfl fun w hs => ?_)
                  exact ⟨g18, g19, hs⟩
                · intro L ac w hJ
                  obtain ⟨g18, g19, hs⟩ := hJ
                  refine wpO_plain rfl (op_store hs 3 (vs := (Wl hi17)) rfl rfl rfl rfl rfl Try.sizeOf24 rfl rfl rfl rfl rfl fun w hs => ?_)
                  exact ⟨g18, g19, hs⟩
              intro ac w hJ
              obtain ⟨g18, g19, hs⟩ := hJ
              replace hs : St 69 ⟨w0, [(g8, ob10)]⟩ [(40, true, W T), (41, true, W 10), (42, true, .tuple #[W lo16, W hi17]), (39, true, .tuple #[W lo16, W hi17]), (43, true, W lo16), (44, true, W hi17), (8, true, .pointer (some ⟨g18, 0, none⟩)), (9, true, .pointer (some ⟨g19, 0, none⟩)), (2, true, .pointer (some ⟨g1, 0, none⟩)), (3, true, .int .i64 0), (4, true, .pointer (some ⟨g7, 0, none⟩)), (5, true, .bool (decide (2 ^ 256 ≤ dv s i))), (26, true, .slice (some ⟨g8, 0, none⟩) s.size cp9), (27, true, .int .i64 ((s.size : Nat) : Int)), (28, true, .int .i64 ((i : Nat) : Int)), (7, true, .int .u8 ((sb s i : Nat) : Int))] [(true, g1, 24, [.int .u64 0, .int .u64 0, .int .u64 0, .int .u64 0]), (true, g7, 24, (Wl T)), (true, g18, 24, (Wl lo16)), (true, g19, 24, (Wl hi17))] ac w := hs
              refine then_n ?_
              refine wp_seq ?_
              replace hs : St 69 ⟨w0, [(g8, ob10)]⟩ [(2, true, .pointer (some ⟨g1, 0, none⟩)), (3, true, .int .i64 0), (4, true, .pointer (some ⟨g7, 0, none⟩)), (5, true, .bool (decide (2 ^ 256 ≤ dv s i))), (26, true, .slice (some ⟨g8, 0, none⟩) s.size cp9), (27, true, .int .i64 ((s.size : Nat) : Int)), (28, true, .int .i64 ((i : Nat) : Int)), (7, true, .int .u8 ((sb s i : Nat) : Int)), (8, true, .pointer (some ⟨g18, 0, none⟩)), (9, true, .pointer (some ⟨g19, 0, none⟩))] [(true, g1, 24, [.int .u64 0, .int .u64 0, .int .u64 0, .int .u64 0]), (true, g7, 24, (Wl T)), (true, g18, 24, (Wl lo16)), (true, g19, 24, (Wl hi17))] ac _ := hs.re ⟨rfl, rfl, rfl, rfl, rfl, rfl, rfl, rfl, rfl, rfl, trivial⟩
              obtain ⟨s20, hs20, ls20⟩ : ∃ z0, (lo16 + (sb s i - 48)) % 2 ^ 256 = z0 ∧ z0 < 2 ^ 256 := ⟨_, rfl, Nat.mod_lt _ (Nat.two_pow_pos 256)⟩
              obtain ⟨c21, hc21⟩ : ∃ z0, (lo16 + (sb s i - 48)) / 2 ^ 256 = z0 := ⟨_, rfl⟩
              refine region_inv [([], [5, 6, 7, 8, 10, 11]), ([], [2, 3, 4, 5, 6, 7, 8, 10, 11]), ([1], [3, 4, 5, 6, 7, 8, 10, 11]), ([1, 2], [4, 5, 6, 7, 8, 10, 11]), ([1, 2, 3], [5, 6, 7, 8, 10, 11]), ([0, 1, 2, 3, 4], [6, 7, 8, 10, 11]), ([0, 1, 2, 3, 4, 5], [7, 8, 10, 11]), ([0, 1, 2, 3, 4, 5, 6], [10, 11]), ([0, 1, 2, 3, 4, 5, 6], [11]), ([], [10, 11]), ([0, 1, 2, 3, 4, 5, 6, 7, 9], [11]), ([0, 1, 2, 3, 4, 5, 6, 7, 8, 9, 10], [])] (fun L ac w => ∃ (g22 : Nat), St 69 ⟨w0, [(g8, ob10)]⟩ [(46, L 0, W lo16), (47, L 1, .int .u8 ((sb s i : Nat) : Int)), (48, L 2, .int .u8 ((sb s i - 48 : Nat) : Int)), (49, L 3, .int .u64 ((sb s i - 48 : Nat) : Int)), (50, L 4, W (sb s i - 48)), (51, L 5, .tuple #[W s20, .int .u64 ((c21 : Nat) : Int)]), (45, L 6, .tuple #[W s20, .int .u64 ((c21 : Nat) : Int)]), (52, L 7, W s20), (53, L 8, .int .u64 ((c21 : Nat) : Int)), (10, L 9, .pointer (some ⟨g22, 0, none⟩)), (11, L 11, .int .u64 ((c21 : Nat) : Int)), (2, true, .pointer (some ⟨g1, 0, none⟩)), (3, true, .int .i64 0), (4, true, .pointer (some ⟨g7, 0, none⟩)), (5, true, .bool (decide (2 ^ 256 ≤ dv s i))), (26, true, .slice (some ⟨g8, 0, none⟩) s.size cp9), (27, true, .int .i64 ((s.size : Nat) : Int)), (28, true, .int .i64 ((i : Nat) : Int)), (7, true, .int .u8 ((sb s i : Nat) : Int)), (8, true, .pointer (some ⟨g18, 0, none⟩)), (9, true, .pointer (some ⟨g19, 0, none⟩))] [(true, g1, 24, [.int .u64 0, .int .u64 0, .int .u64 0, .int .u64 0]), (true, g7, 24, (Wl T)), (true, g18, 24, (Wl lo16)), (true, g19, 24, (Wl hi17)), (L 9, g22, 24, (cond (L 10) (Wl s20) [.int .u64 0, .int .u64 0, .int .u64 0, .int .u64 0]))] ac w) (by kernel_rfl) (by kernel_rfl) ?_ ?_ ?_
              · exact ⟨0, hs.drew.skip.skip.skip.skip.skip.skip.skip.skip.skip.skip.skip.pad⟩
              · refine ⟨?_, ?_, ?_, ?_, ?_, ?_, ?_, ?_, ?_, ?_, ?_, ?_, trivial⟩
                · intro L ac w hJ
                  obtain ⟨g22, hs⟩ := hJ
                  refine wpO_plain rfl (op_load hs (some 0) 2 (v := W lo16) rfl rfl rfl rfl Try.isAgg24 Try.sizeOf24 rfl rfl fun ac hs => ?_)
                  exact ⟨g22, hs⟩
                · intro L ac w hJ
                  obtain ⟨g22, hs⟩ := hJ
                  refine wpO_plain rfl (op_move hs (some 1) rfl rfl rfl rfl fun ac hs => ?_)
                  exact ⟨g22, hs⟩
                · intro L ac w hJ
                  obtain ⟨g22, hs⟩ := hJ
                  refine wpO_plain rfl (op_bin hs (some 2) (v := .int .u8 ((sb s i - 48 : Nat) : Int)) rfl rfl rfl rfl (fun _ => rfl) (bin_subN (x := sb s i) (y := 48) (z := sb s i - 48) (by omega) (show sb s i - 48 < 256 by omega)) rfl fun ac hs => ?_)
                  exact ⟨g22, hs⟩
                · intro L ac w hJ
                  obtain ⟨g22, hs⟩ := hJ
                  refine wpO_plain rfl (op_convert hs (some 3) (v := .int .u64 ((sb s i - 48 : Nat) : Int)) rfl rfl rfl (conv_N Try.underlying5 Try.underlying22 (show sb s i - 48 < 18446744073709551616 by omega)) rfl fun ac hs => ?_)
                  exact ⟨g22, hs⟩
                · intro L ac w hJ
                  obtain ⟨g22, hs⟩ := hJ
                  refine wpO_plain rfl (op_call (F := 20) hs (some 4) (v := W (sb s i - 48)) rfl rfl rfl rfl (Try.call20 _) (fun w => from_any w (sb s i - 48) (show sb s i - 48 < 2 ^ 64 by omega)) rfl fun ac w hs => ?_)
                  exact ⟨g22, hs⟩
                · intro L ac w hJ
                  obtain ⟨g22, hs⟩ := hJ
                  refine wpO_plain rfl (op_call (F := 11) hs (some 5) (v := .tuple #[W s20, .int .u64 ((c21 : Nat) : Int)]) rfl rfl rfl rfl (Try.call11 _) (fun w => add_at w lo16 (sb s i - 48) s20 c21 llo16 (show sb s i - 48 < 2 ^ 256 by omega) hs20 hc21) rfl fun ac w hs => ?_)
                  exact ⟨g22, hs⟩
                · intro L ac w hJ
                  obtain ⟨g22, hs⟩ := hJ
                  refine wpO_plain rfl (op_move hs (some 6) rfl rfl rfl rfl fun ac hs => ?_)
                  exact ⟨g22, hs⟩
                · intro L ac w hJ
                  obtain ⟨g22, hs⟩ := hJ
                  refine wpO_plain rfl (op_extract hs (some 7) rfl rfl rfl rfl rfl fun ac hs => ?_)
                  exact ⟨g22, hs⟩
                · intro L ac w hJ
                  obtain ⟨g22, hs⟩ := hJ
                  refine wpO_plain rfl (op_extract hs (some 8) rfl rfl rfl rfl rfl fun ac hs => ?_)
                  exact ⟨g22, hs⟩
                · intro L ac w hJ
                  obtain ⟨g22, hs⟩ := hJ
                  refine wpO_plain rfl (op_alloc hs (some 9) (some 4) (cs := [.int .u64 0, .int .u64 0, .int .u64 0, .int .u64 0]) rfl rfl Try.zeroValue24 (by kernel_rfl) rfl rfl fun g22 ac w hs => ?_)
                  exact ⟨g22, hs⟩
                · intro L ac w hJ
                  obtain ⟨g22, hs⟩ := hJ
                  refine wpO_plain rfl (op_store hs 4 (vs := (Wl s20)) rfl rfl rfl rfl rfl Try.sizeOf24 rfl rfl rfl rfl rfl fun w hs => ?_)
                  exact ⟨g22, hs⟩
                · intro L ac w hJ
                  obtain ⟨g22, hs⟩ := hJ
                  refine wpO_plain rfl (op_assign hs (some 10) rfl rfl rfl rfl fun ac hs => ?_)
                  exact ⟨g22, hs⟩
              intro ac w hJ
              obtain ⟨g22, hs⟩ := hJ
              replace hs : St 69 ⟨w0, [(g8, ob10)]⟩ [(46, true, W lo16), (47, true, .int .u8 ((sb s i : Nat) : Int)), (48, true, .int .u8 ((sb s i - 48 : Nat) : Int)), (49, true, .int .u64 ((sb s i - 48 : Nat) : Int)), (50, true, W (sb s i - 48)), (51, true, .tuple #[W s20, .int .u64 ((c21 : Nat) : Int)]), (45, true, .tuple #[W s20, .int .u64 ((c21 : Nat) : Int)]), (52, true, W s20), (53, true, .int .u64 ((c21 : Nat) : Int)), (10, true, .pointer (some ⟨g22, 0, none⟩)), (11, true, .int .u64 ((c21 : Nat) : Int)), (2, true, .pointer (some ⟨g1, 0, none⟩)), (3, true, .int .i64 0), (4, true, .pointer (some ⟨g7, 0, none⟩)), (5, true, .bool (decide (2 ^ 256 ≤ dv s i))), (26, true, .slice (some ⟨g8, 0, none⟩) s.size cp9), (27, true, .int .i64 ((s.size : Nat) : Int)), (28, true, .int .i64 ((i : Nat) : Int)), (7, true, .int .u8 ((sb s i : Nat) : Int)), (8, true, .pointer (some ⟨g18, 0, none⟩)), (9, true, .pointer (some ⟨g19, 0, none⟩))] [(true, g1, 24, [.int .u64 0, .int .u64 0, .int .u64 0, .int .u64 0]), (true, g7, 24, (Wl T)), (true, g18, 24, (Wl lo16)), (true, g19, 24, (Wl hi17)), (true, g22, 24, (Wl s20))] ac w := hs
              refine then_n ?_
              refine wp_seq ?_
              by_cases hq23 : 2 ^ 256 ≤ dv s i
              · skip
                replace hs := hs.re (fs' := [(2, true, .pointer (some ⟨g1, 0, none⟩)), (3, true, .int .i64 0), (4, true, .pointer (some ⟨g7, 0, none⟩)), (5, true, .bool true), (26, true, .slice (some ⟨g8, 0, none⟩) s.size cp9), (27, true, .int .i64 ((s.size : Nat) : Int)), (28, true, .int .i64 ((i : Nat) : Int)), (7, true, .int .u8 ((sb s i : Nat) : Int)), (8, true, .pointer (some ⟨g18, 0, none⟩)), (9, true, .pointer (some ⟨g19, 0, none⟩)), (46, true, W lo16), (47, true, .int .u8 ((sb s i : Nat) : Int)), (48, true, .int .u8 ((sb s i - 48 : Nat) : Int)), (49, true, .int .u64 ((sb s i - 48 : Nat) : Int)), (50, true, W (sb s i - 48)), (51, true, .tuple #[W s20, .int .u64 ((c21 : Nat) : Int)]), (45, true, .tuple #[W s20, .int .u64 ((c21 : Nat) : Int)]), (52, true, W s20), (53, true, .int .u64 ((c21 : Nat) : Int)), (10, true, .pointer (some ⟨g22, 0, none⟩)), (11, true, .int .u64 ((c21 : Nat) : Int))]) ⟨rfl, rfl, rfl, congrArg some (congrArg Value.bool (decide_eq_true hq23)), rfl, rfl, rfl, rfl, rfl, rfl, rfl, rfl, rfl, rfl, rfl, rfl, rfl, rfl, rfl, rfl, rfl, trivial⟩
                refine wp_region_lit ?_
                refine lstep (wpO_plain rfl (op_move hs none rfl rfl rfl rfl fun ac hs => ?_))
                refine lstep (wpO_plain rfl (op_move hs none rfl rfl rfl rfl fun ac hs => ?_))
                refine lstep (wpO_out hs none rfl rfl (.inl rfl) rfl rfl fun ac hs => ?_)
                refine lstep (wpO_out hs none rfl rfl (.inl rfl) rfl rfl fun ac hs => ?_)
                refine lstep (wpO_out hs none rfl rfl (.inl rfl) rfl rfl fun ac hs => ?_)
                refine lstep (wpO_plain rfl (op_pickT hs none rfl rfl rfl rfl rfl fun ac hs => ?_))
                refine lstep (wpO_plain rfl (op_move hs none rfl rfl rfl rfl fun ac hs => ?_))
                refine lstep (wpO_out hs none rfl rfl (.inl rfl) rfl rfl fun ac hs => ?_)
                refine lstep (wpO_out hs none rfl rfl (.inl rfl) rfl rfl fun ac hs => ?_)
                refine lstep (wpO_plain rfl (op_pickT hs none rfl rfl rfl rfl rfl fun ac hs => ?_))
                refine lstep (wpO_plain rfl (op_assign hs none rfl rfl rfl rfl fun ac hs => ?_))
                refine wpList_nil ?_
                refine then_n ?_
                refine wp_region_lit ?_
                refine lstep (wpO_plain rfl (op_load hs none 4 (v := W s20) rfl rfl rfl rfl Try.isAgg24 Try.sizeOf24 rfl rfl fun ac hs => ?_))
                refine lstep (wpO_plain rfl (op_store hs 1 (vs := (Wl s20)) rfl rfl rfl rfl rfl Try.sizeOf24 rfl rfl rfl rfl rfl fun w hs => ?_))
                refine wpList_nil ?_
                refine blk_n ?_
                refine then_n ?_
                refine wp_region_lit ?_
                refine lstep (wpO_plain rfl (op_bin hs none (v := .int .i64 ((i + 1 : Nat) : Int)) rfl rfl rfl rfl (fun _ => rfl) (bin_addN (x := i) (y := 1) (z := i + 1) rfl (show i + 1 < 9223372036854775808 by omega)) rfl fun ac hs => ?_))
                refine lstep (wpO_plain rfl (op_move hs none rfl rfl rfl rfl fun ac hs => ?_))
                refine wpList_nil ?_
                refine then_n ?_
                exact ⟨_, ⟨(i + 1), s20, rfl, (by omega), ls20, (acc_val hT hlo16 hs20), (figs_succ hfg hd1 hd2), ((hs.takeb 2).re ⟨rfl, rfl, rfl, (congrArg (fun z => some (Value.bool z)) (decide_eq_true (acc_ov hq23)).symm), rfl, rfl, rfl, trivial⟩)⟩, (by omega)⟩
              · skip
                replace hs := hs.re (fs' := [(2, true, .pointer (some ⟨g1, 0, none⟩)), (3, true, .int .i64 0), (4, true, .pointer (some ⟨g7, 0, none⟩)), (5, true, .bool false), (26, true, .slice (some ⟨g8, 0, none⟩) s.size cp9), (27, true, .int .i64 ((s.size : Nat) : Int)), (28, true, .int .i64 ((i : Nat) : Int)), (7, true, .int .u8 ((sb s i : Nat) : Int)), (8, true, .pointer (some ⟨g18, 0, none⟩)), (9, true, .pointer (some ⟨g19, 0, none⟩)), (46, true, W lo16), (47, true, .int .u8 ((sb s i : Nat) : Int)), (48, true, .int .u8 ((sb s i - 48 : Nat) : Int)), (49, true, .int .u64 ((sb s i - 48 : Nat) : Int)), (50, true, W (sb s i - 48)), (51, true, .tuple #[W s20, .int .u64 ((c21 : Nat) : Int)]), (45, true, .tuple #[W s20, .int .u64 ((c21 : Nat) : Int)]), (52, true, W s20), (53, true, .int .u64 ((c21 : Nat) : Int)), (10, true, .pointer (some ⟨g22, 0, none⟩)), (11, true, .int .u64 ((c21 : Nat) : Int))]) ⟨rfl, rfl, rfl, congrArg some (congrArg Value.bool (decide_eq_false hq23)), rfl, rfl, rfl, rfl, rfl, rfl, rfl, rfl, rfl, rfl, rfl, rfl, rfl, rfl, rfl, rfl, rfl, trivial⟩
                by_cases hq24 : hi17 = 0
                · skip
                  refine wp_region_lit ?_
                  refine lstep (wpO_plain rfl (op_move hs none rfl rfl rfl rfl fun ac hs => ?_))
                  refine lstep (wpO_plain rfl (op_move hs none rfl rfl rfl rfl fun ac hs => ?_))
                  refine lstep (wpO_in hs rfl rfl rfl (op_load hs none 3 (v := W hi17) rfl rfl rfl rfl Try.isAgg24 Try.sizeOf24 rfl rfl fun ac hs => ?_))
                  refine lstep (wpO_in hs rfl rfl rfl (op_build hs none (qs := []) (v := .agg #[.int .u64 0, .int .u64 0, .int .u64 0, .int .u64 0]) rfl rfl rfl rfl (fun _ => by kernel_rfl) rfl fun ac hs => ?_))
                  refine lstep (wpO_in hs rfl rfl rfl (op_bin hs none (v := .bool false) rfl rfl rfl rfl (fun w => run_eqGuard_agg w .neq 24 _ _ _ _ Try.eqGuardType24) (neqW hi17 0 lhi17 (by decide) false (decide_eq_false (not_not_intro hq24))) rfl fun ac hs => ?_))
                  refine lstep (wpO_plain rfl (op_pickF hs none rfl rfl rfl rfl rfl fun ac hs => ?_))
                  refine lstep (wpO_plain rfl (op_move hs none rfl rfl rfl rfl fun ac hs => ?_))
                  refine lstep (wpO_in hs rfl rfl rfl (op_move hs none rfl rfl rfl rfl fun ac hs => ?_))
                  refine lstep (wpO_in hs rfl rfl rfl (op_bin hs none (v := .bool (decide (0 < c21))) rfl rfl rfl rfl (fun _ => rfl) (bin_gtrN (x := c21) (y := 0)) rfl fun ac hs => ?_))
                  refine lstep (wpO_plain rfl (op_pickF hs none rfl rfl rfl rfl rfl fun ac hs => ?_))
                  refine lstep (wpO_plain rfl (op_assign hs none rfl rfl rfl rfl fun ac hs => ?_))
                  refine wpList_nil ?_
                  refine then_n ?_
                  refine wp_region_lit ?_
                  refine lstep (wpO_plain rfl (op_load hs none 4 (v := W s20) rfl rfl rfl rfl Try.isAgg24 Try.sizeOf24 rfl rfl fun ac hs => ?_))
                  refine lstep (wpO_plain rfl (op_store hs 1 (vs := (Wl s20)) rfl rfl rfl rfl rfl Try.sizeOf24 rfl rfl rfl rfl rfl fun w hs => ?_))
                  refine wpList_nil ?_
                  refine blk_n ?_
                  refine then_n ?_
                  refine wp_region_lit ?_
                  refine lstep (wpO_plain rfl (op_bin hs none (v := .int .i64 ((i + 1 : Nat) : Int)) rfl rfl rfl rfl (fun _ => rfl) (bin_addN (x := i) (y := 1) (z := i + 1) rfl (show i + 1 < 9223372036854775808 by omega)) rfl fun ac hs => ?_))
                  refine lstep (wpO_plain rfl (op_move hs none rfl rfl rfl rfl fun ac hs => ?_))
                  refine wpList_nil ?_
                  refine then_n ?_
                  exact ⟨_, ⟨(i + 1), s20, rfl, (by omega), ls20, (acc_val hT hlo16 hs20), (figs_succ hfg hd1 hd2), ((hs.takeb 2).re ⟨rfl, rfl, rfl, (congrArg (fun z => some (Value.bool z)) (acc_lo hq23 hT hlo16 hhi17 hs20 hc21 hq24)), rfl, rfl, rfl, trivial⟩)⟩, (by omega)⟩
                · skip
                  refine wp_region_lit ?_
                  refine lstep (wpO_plain rfl (op_move hs none rfl rfl rfl rfl fun ac hs => ?_))
                  refine lstep (wpO_plain rfl (op_move hs none rfl rfl rfl rfl fun ac hs => ?_))
                  refine lstep (wpO_in hs rfl rfl rfl (op_load hs none 3 (v := W hi17) rfl rfl rfl rfl Try.isAgg24 Try.sizeOf24 rfl rfl fun ac hs => ?_))
                  refine lstep (wpO_in hs rfl rfl rfl (op_build hs none (qs := []) (v := .agg #[.int .u64 0, .int .u64 0, .int .u64 0, .int .u64 0]) rfl rfl rfl rfl (fun _ => by kernel_rfl) rfl fun ac hs => ?_))
                  refine lstep (wpO_in hs rfl rfl rfl (op_bin hs none (v := .bool true) rfl rfl rfl rfl (fun w => run_eqGuard_agg w .neq 24 _ _ _ _ Try.eqGuardType24) (neqW hi17 0 lhi17 (by decide) true (decide_eq_true hq24)) rfl fun ac hs => ?_))
                  refine lstep (wpO_plain rfl (op_pickF hs none rfl rfl rfl rfl rfl fun ac hs => ?_))
                  refine lstep (wpO_plain rfl (op_move hs none rfl rfl rfl rfl fun ac hs => ?_))
                  refine lstep (wpO_out hs none rfl rfl (.inl rfl) rfl rfl fun ac hs => ?_)
                  refine lstep (wpO_out hs none rfl rfl (.inl rfl) rfl rfl fun ac hs => ?_)
                  refine lstep (wpO_plain rfl (op_pickT hs none rfl rfl rfl rfl rfl fun ac hs => ?_))
                  refine lstep (wpO_plain rfl (op_assign hs none rfl rfl rfl rfl fun ac hs => ?_))
                  refine wpList_nil ?_
                  refine then_n ?_
                  refine wp_region_lit ?_
                  refine lstep (wpO_plain rfl (op_load hs none 4 (v := W s20) rfl rfl rfl rfl Try.isAgg24 Try.sizeOf24 rfl rfl fun ac hs => ?_))
                  refine lstep (wpO_plain rfl (op_store hs 1 (vs := (Wl s20)) rfl rfl rfl rfl rfl Try.sizeOf24 rfl rfl rfl rfl rfl fun w hs => ?_))
                  refine wpList_nil ?_
                  refine blk_n ?_
                  refine then_n ?_
                  refine wp_region_lit ?_
                  refine lstep (wpO_plain rfl (op_bin hs none (v := .int .i64 ((i + 1 : Nat) : Int)) rfl rfl rfl rfl (fun _ => rfl) (bin_addN (x := i) (y := 1) (z := i + 1) rfl (show i + 1 < 9223372036854775808 by omega)) rfl fun ac hs => ?_))
                  refine lstep (wpO_plain rfl (op_move hs none rfl rfl rfl rfl fun ac hs => ?_))
                  refine wpList_nil ?_
                  refine then_n ?_
                  exact ⟨_, ⟨(i + 1), s20, rfl, (by omega), ls20, (acc_val hT hlo16 hs20), (figs_succ hfg hd1 hd2), ((hs.takeb 2).re ⟨rfl, rfl, rfl, (congrArg (fun z => some (Value.bool z)) (decide_eq_true (acc_hi hq23 hT hlo16 hhi17 hs20 hc21 hq24)).symm), rfl, rfl, rfl, trivial⟩)⟩, (by omega)⟩
        · skip
          have hp25 := of_decide_eq_false hc
          obtain rfl : i = s.size := by omega
          refine wp_exit ?_
          refine then_e ?_
          refine then_e ?_
          refine blk_e ?_
          refine then_n ?_
          refine wp_seq ?_
          refine wp_seq ?_
          refine wp_region_lit ?_
          refine lstep (wpO_plain rfl (op_move hs none rfl rfl rfl rfl fun ac hs => ?_))
          refine wpList_nil ?_
          refine then_n ?_
          refine wp_cond_split (hs.ev rfl) (fun hc => ?_) (fun hc => ?_)
          · skip
            have hp26 := of_decide_eq_true hc
            refine wp_seq ?_
            refine wp_region_lit ?_
            refine lstep (wpO_plain rfl (op_build hs none (qs := []) (v := .agg #[.int .u64 0, .int .u64 0, .int .u64 0, .int .u64 0]) rfl rfl rfl rfl (fun _ => by kernel_rfl) rfl fun ac hs => ?_))
            refine lstep (wpO_plain rfl (op_store hs 0 (vs := [.int .u64 0, .int .u64 0, .int .u64 0, .int .u64 0]) rfl rfl rfl rfl rfl Try.sizeOf24 rfl rfl rfl rfl rfl fun w hs => ?_))
            refine lstep (wpO_plain rfl (op_assign hs none rfl rfl rfl rfl fun ac hs => ?_))
            refine wpList_nil ?_
            refine then_n ?_
            refine wp_ret ?_
            refine then_r ?_
            exact bodyPost_ret (res2 rfl (rv_c hs 0 (v := .agg #[.int .u64 0, .int .u64 0, .int .u64 0, .int .u64 0]) rfl rfl Try.isAgg24 Try.sizeOf24 rfl) (rv_t hs rfl)) hs.defers ⟨by rw [tx_V0 (tx_big (by have := hq2; have := hq3; omega) hfg hp26) (by decide), (tx_big (by have := hq2; have := hq3; omega) hfg hp26)]; first | done | rfl, hs.below⟩
          · skip
            have hp27 := of_decide_eq_false hc
            refine wp_skip ?_
            refine then_n ?_
            refine wp_seq ?_
            refine wp_region_lit ?_
            refine lstep (wpO_plain rfl (op_load hs none 1 (v := W T) rfl rfl rfl rfl Try.isAgg24 Try.sizeOf24 rfl rfl fun ac hs => ?_))
            refine lstep (wpO_plain rfl (op_store hs 0 (vs := (Wl T)) rfl rfl rfl rfl rfl Try.sizeOf24 rfl rfl rfl rfl rfl fun w hs => ?_))
            refine lstep (wpO_plain rfl (op_assign hs none rfl rfl rfl rfl fun ac hs => ?_))
            refine wpList_nil ?_
            refine then_n ?_
            refine wp_ret ?_
            exact bodyPost_ret (res2 rfl (rv_c hs 0 (v := W T) rfl rfl Try.isAgg24 Try.sizeOf24 rfl) (rv_t hs rfl)) hs.defers ⟨by have hz := tx_ok (by have := hq2; have := hq3; omega) hfg hp27; rw [tx_V hz, hz, ← hT, Nat.mod_eq_of_lt (Nat.lt_of_not_le hp27)]; first | done | rfl, hs.below⟩
    · skip
      refine wp_region_lit ?_
      refine lstep (wpO_plain rfl (op_move hs none rfl rfl rfl rfl fun ac hs => ?_))
      refine lstep (wpO_plain rfl (op_bin hs none (v := .bool false) rfl rfl rfl rfl (fun _ => rfl) (bin_eqlS (b := false) (tx_size0.trans (decide_eq_false hq2))) rfl fun ac hs => ?_))
      refine lstep (wpO_plain rfl (op_move hs none rfl rfl rfl rfl fun ac hs => ?_))
      refine lstep (wpO_in hs rfl rfl rfl (op_move hs none rfl rfl rfl rfl fun ac hs => ?_))
      refine lstep (wpO_in hs rfl rfl rfl (op_blt hs none (v := .int .i64 ((s.size : Nat) : Int)) rfl rfl rfl (blt_lenS Try.underlying9 (show s.size < 9223372036854775808 by omega)) rfl fun ac hs => ?_))
      refine lstep (wpO_in hs rfl rfl rfl (op_bin hs none (v := .bool false) rfl rfl rfl rfl (fun _ => rfl) (fun w => dF hq3 (bin_gtrN (x := s.size) (y := 1) w)) rfl fun ac hs => ?_))
      refine lstep (wpO_in hs rfl rfl rfl (op_move hs none rfl rfl rfl rfl fun ac hs => ?_))
      refine lstep (wpO_out hs none rfl rfl (.inl rfl) rfl rfl fun ac hs => ?_)
      refine lstep (wpO_out hs none rfl rfl (.inl rfl) rfl rfl fun ac hs => ?_)
      refine lstep (wpO_out hs none rfl rfl (.inl rfl) rfl rfl fun ac hs => ?_)
      refine lstep (wpO_in hs rfl rfl rfl (op_pickF hs none rfl rfl rfl rfl rfl fun ac hs => ?_))
      refine lstep (wpO_plain rfl (op_pickF hs none rfl rfl rfl rfl rfl fun ac hs => ?_))
      refine wpList_nil ?_
      refine then_n ?_
      refine wp_cond_false (hs.ev rfl) ?_
      refine wp_skip ?_
      refine then_n ?_
      refine wp_seq ?_
      refine wp_region_lit ?_
      refine lstep (wpO_plain rfl (op_alloc hs none none (cs := [.int .u64 0, .int .u64 0, .int .u64 0, .int .u64 0]) rfl rfl Try.zeroValue24 (by kernel_rfl) rfl rfl fun g28 ac w hs => ?_))
      refine wpList_nil ?_
      refine then_n ?_
      refine wp_seq ?_
      refine wp_region_lit ?_
      refine lstep (wpO_plain rfl (op_assign hs none rfl rfl rfl rfl fun ac hs => ?_))
      refine wpList_nil ?_
      refine then_n ?_
      refine wp_seq ?_
      refine wp_seq ?_
      refine wp_region_lit ?_
      refine lstep (wpO_plain rfl (op_move hs none rfl rfl rfl rfl fun ac hs => ?_))
      refine lstep (wpO_plain rfl (op_convSB hs none rfl rfl rfl Try.underlying9 Try.underlying63 Try.underlying5 rfl fun g29 cp30 ob31 ac w hF32 hs => ?_))
      refine lstep (wpO_plain rfl (op_blt hs none (v := .int .i64 ((s.size : Nat) : Int)) rfl rfl rfl (blt_len Try.underlying63) rfl fun ac hs => ?_))
      refine lstep (wpO_plain rfl (op_move hs none rfl rfl rfl rfl fun ac hs => ?_))
      refine wpList_nil ?_
      refine then_n ?_
      refine wp_block ?_
      refine wp_loop_m (fun μ ac w => ∃ (i : Nat) (T : Nat), (s.size - i) = μ ∧ (i ≤ s.size) ∧ (T < 2 ^ 256) ∧ (dv s i % 2 ^ 256 = T) ∧ (Figs s i) ∧ St 69 ⟨w0, [(g29, ob31)]⟩ [(2, true, .pointer (some ⟨g1, 0, none⟩)), (3, true, .int .i64 0), (4, true, .pointer (some ⟨g28, 0, none⟩)), (5, true, .bool (decide (2 ^ 256 ≤ dv s i))), (26, true, .slice (some ⟨g29, 0, none⟩) s.size cp30), (27, true, .int .i64 ((s.size : Nat) : Int)), (28, true, .int .i64 ((i : Nat) : Int))] [(true, g1, 24, [.int .u64 0, .int .u64 0, .int .u64 0, .int .u64 0]), (true, g28, 24, (Wl T))] ac w) ?_ ?_
      · exact ⟨_, 0, 0, rfl, (Nat.zero_le _), (by decide), (dv_0 s), (fun j hj => absurd hj (Nat.not_lt_zero j)), (hs.re ⟨rfl, rfl, rfl, (congrArg (fun z => some (Value.bool z)) (dv_0n s).symm), rfl, rfl, rfl, trivial⟩)⟩
      intro μ ac w ⟨i, T, hμ, hi, lT, hT, hfg, hs⟩
      refine wp_seq ?_
      refine wp_region_lit ?_
      refine lstep (wpO_plain rfl (op_bin hs none (v := .bool (decide (i < s.size))) rfl rfl rfl rfl (fun _ => rfl) (bin_lssN (x := i) (y := s.size)) rfl fun ac hs => ?_))
      refine wpList_nil ?_
      refine then_n ?_
      refine wp_seq ?_
      refine wp_cond_split (hs.ev rfl) (fun hc => ?_) (fun hc => ?_)
      · skip
        have hp33 := of_decide_eq_true hc
        refine wp_skip ?_
        refine then_n ?_
        refine wp_seq ?_
        refine wp_block ?_
        refine wp_seq ?_
        refine wp_region_lit ?_
        refine lstep (wpO_plain rfl (op_idxS hs none (j := i) rfl rfl rfl rfl Try.underlying63 Try.sizeOf5 (show i < s.size by omega) (off := i) (by omega) rfl fun ac hs => ?_))
        have l34 := sb_lt s i
        refine lstep (wpO_plain rfl (op_loadF hs none (ob := ob31) (v := .int .u8 ((sb s i : Nat) : Int)) rfl rfl rfl Try.isAgg5 (.head _) (hF32 i (show i < s.size by omega)) rfl fun ac hs => ?_))
        refine lstep (wpO_plain rfl (op_assign hs none rfl rfl rfl rfl fun ac hs => ?_))
        refine wpList_nil ?_
        refine then_n ?_
        refine wp_seq ?_
        refine wp_seq ?_
        by_cases hq35 : sb s i < 48
        · skip
          refine wp_region_lit ?_
          refine lstep (wpO_plain rfl (op_move hs none rfl rfl rfl rfl fun ac hs => ?_))
          refine lstep (wpO_plain rfl (op_bin hs none (v := .bool true) rfl rfl rfl rfl (fun _ => rfl) (fun w => dT hq35 (bin_lssN (x := sb s i) (y := 48) w)) rfl fun ac hs => ?_))
          refine lstep (wpO_plain rfl (op_move hs none rfl rfl rfl rfl fun ac hs => ?_))
          refine lstep (wpO_out hs none rfl rfl (.inl rfl) rfl rfl fun ac hs => ?_)
          refine lstep (wpO_out hs none rfl rfl (.inl rfl) rfl rfl fun ac hs => ?_)
          refine lstep (wpO_plain rfl (op_pickT hs none rfl rfl rfl rfl rfl fun ac hs => ?_))
          refine wpList_nil ?_
          refine then_n ?_
          refine wp_cond_true (hs.ev rfl) ?_
          refine wp_seq ?_
          refine wp_region_lit ?_
          refine lstep (wpO_plain rfl (op_build hs none (qs := []) (v := .agg #[.int .u64 0, .int .u64 0, .int .u64 0, .int .u64 0]) rfl rfl rfl rfl (fun _ => by kernel_rfl) rfl fun ac hs => ?_))
          refine lstep (wpO_plain rfl (op_store hs 0 (vs := [.int .u64 0, .int .u64 0, .int .u64 0, .int .u64 0]) rfl rfl rfl rfl rfl Try.sizeOf24 rfl rfl rfl rfl rfl fun w hs => ?_))
          refine lstep (wpO_plain rfl (op_assign hs none rfl rfl rfl rfl fun ac hs => ?_))
          refine wpList_nil ?_
          refine then_n ?_
          refine wp_ret ?_
          refine then_r ?_
          refine blk_r ?_
          refine then_r ?_
          refine then_r ?_
          refine blk_r ?_
          refine then_r ?_
          exact bodyPost_ret (res2 rfl (rv_c hs 0 (v := .agg #[.int .u64 0, .int .u64 0, .int .u64 0, .int .u64 0]) rfl rfl Try.isAgg24 Try.sizeOf24 rfl) (rv_t hs rfl)) hs.defers ⟨by rw [tx_V0 (tx_bad hp33 (by omega)) (by decide), (tx_bad hp33 (by omega))]; first | done | rfl, hs.below⟩
        · skip
          by_cases hq36 : 57 < sb s i
          · skip
            refine wp_region_lit ?_
            refine lstep (wpO_plain rfl (op_move hs none rfl rfl rfl rfl fun ac hs => ?_))
            refine lstep (wpO_plain rfl (op_bin hs none (v := .bool false) rfl rfl rfl rfl (fun _ => rfl) (fun w => dF hq35 (bin_lssN (x := sb s i) (y := 48) w)) rfl fun ac hs => ?_))
            refine lstep (wpO_plain rfl (op_move hs none rfl rfl rfl rfl fun ac hs => ?_))
            refine lstep (wpO_in hs rfl rfl rfl (op_move hs none rfl rfl rfl rfl fun ac hs => ?_))
            refine lstep (wpO_in hs rfl rfl rfl (op_bin hs none (v := .bool true) rfl rfl rfl rfl (fun _ => rfl) (fun w => dT hq36 (bin_gtrN (x := sb s i) (y := 57) w)) rfl fun ac hs => ?_))
            refine lstep (wpO_plain rfl (op_pickF hs none rfl rfl rfl rfl rfl fun ac hs => ?_))
            refine wpList_nil ?_
            refine then_n ?_
            refine wp_cond_true (hs.ev rfl) ?_
            refine wp_seq ?_
            refine wp_region_lit ?_
            refine lstep (wpO_plain rfl (op_build hs none (qs := []) (v := .agg #[.int .u64 0, .int .u64 0, .int .u64 0, .int .u64 0]) rfl rfl rfl rfl (fun _ => by kernel_rfl) rfl fun ac hs => ?_))
            refine lstep (wpO_plain rfl (op_store hs 0 (vs := [.int .u64 0, .int .u64 0, .int .u64 0, .int .u64 0]) rfl rfl rfl rfl rfl Try.sizeOf24 rfl rfl rfl rfl rfl fun w hs => ?_))
            refine lstep (wpO_plain rfl (op_assign hs none rfl rfl rfl rfl fun ac hs => ?_))
            refine wpList_nil ?_
            refine then_n ?_
            refine wp_ret ?_
            refine then_r ?_
            refine blk_r ?_
            refine then_r ?_
            refine then_r ?_
            refine blk_r ?_
            refine then_r ?_
            exact bodyPost_ret (res2 rfl (rv_c hs 0 (v := .agg #[.int .u64 0, .int .u64 0, .int .u64 0, .int .u64 0]) rfl rfl Try.isAgg24 Try.sizeOf24 rfl) (rv_t hs rfl)) hs.defers ⟨by rw [tx_V0 (tx_bad hp33 (by omega)) (by decide), (tx_bad hp33 (by omega))]; first | done | rfl, hs.below⟩
          · skip
            have hd1 : 48 ≤ sb s i := by omega
            have hd2 : sb s i ≤ 57 := by omega
            refine wp_region_lit ?_
            refine lstep (wpO_plain rfl (op_move hs none rfl rfl rfl rfl fun ac hs => ?_))
            refine lstep (wpO_plain rfl (op_bin hs none (v := .bool false) rfl rfl rfl rfl (fun _ => rfl) (fun w => dF hq35 (bin_lssN (x := sb s i) (y := 48) w)) rfl fun ac hs => ?_))
            refine lstep (wpO_plain rfl (op_move hs none rfl rfl rfl rfl fun ac hs => ?_))
            refine lstep (wpO_in hs rfl rfl rfl (op_move hs none rfl rfl rfl rfl fun ac hs => ?_))
            refine lstep (wpO_in hs rfl rfl rfl (op_bin hs none (v := .bool false) rfl rfl rfl rfl (fun _ => rfl) (fun w => dF hq36 (bin_gtrN (x := sb s i) (y := 57) w)) rfl fun ac hs => ?_))
            refine lstep (wpO_plain rfl (op_pickF hs none rfl rfl rfl rfl rfl fun ac hs => ?_))
            refine wpList_nil ?_
            refine then_n ?_
            refine wp_cond_false (hs.ev rfl) ?_
            refine wp_skip ?_
            refine then_n ?_
            refine wp_seq ?_
            replace hs : St 69 ⟨w0, [(g29, ob31)]⟩ [(2, true, .pointer (some ⟨g1, 0, none⟩)), (3, true, .int .i64 0), (4, true, .pointer (some ⟨g28, 0, none⟩)), (5, true, .bool (decide (2 ^ 256 ≤ dv s i))), (26, true, .slice (some ⟨g29, 0, none⟩) s.size cp30), (27, true, .int .i64 ((s.size : Nat) : Int)), (28, true, .int .i64 ((i : Nat) : Int)), (7, true, .int .u8 ((sb s i : Nat) : Int))] [(true, g1, 24, [.int .u64 0, .int .u64 0, .int .u64 0, .int .u64 0]), (true, g28, 24, (Wl T))] ac _ := hs.re ⟨rfl, rfl, rfl, rfl, rfl, rfl, rfl, rfl, trivial⟩
            obtain ⟨lo37, hlo37, llo37⟩ : ∃ z0, T * 10 % 2 ^ 256 = z0 ∧ z0 < 2 ^ 256 := ⟨_, rfl, Nat.mod_lt _ (Nat.two_pow_pos 256)⟩
            obtain ⟨hi38, hhi38, lhi38⟩ : ∃ z0, T * 10 / 2 ^ 256 = z0 ∧ z0 < 2 ^ 256 := ⟨_, rfl, mul_hi lT (by decide)⟩
            refine region_inv [([], [2, 3, 4, 5, 8, 9]), ([], [2, 3, 4, 5, 8, 9]), ([0, 1], [3, 4, 5, 8, 9]), ([0, 1, 2], [4, 5, 8, 9]), ([0, 1, 2, 3], [8, 9]), ([0, 1, 2, 3], [9]), ([], [8, 9]), ([], [8, 9]), ([0, 1, 2, 3, 4, 6, 7], [9]), ([0, 1, 2, 3, 4, 5, 6, 7, 8], [])] (fun L ac w => ∃ (g39 : Nat) (g40 : Nat), St 69 ⟨w0, [(g29, ob31)]⟩ [(40, L 0, W T), (41, L 1, W 10), (42, L 2, .tuple #[W lo37, W hi38]), (39, L 3, .tuple #[W lo37, W hi38]), (43, L 4, W lo37), (44, L 5, W hi38), (8, L 6, .pointer (some ⟨g39, 0, none⟩)), (9, L 7, .pointer (some ⟨g40, 0, none⟩)), (2, true, .pointer (some ⟨g1, 0, none⟩)), (3, true, .int .i64 0), (4, true, .pointer (some ⟨g28, 0, none⟩)), (5, true, .bool (decide (2 ^ 256 ≤ dv s i))), (26, true, .slice (some ⟨g29, 0, none⟩) s.size cp30), (27, true, .int .i64 ((s.size : Nat) : Int)), (28, true, .int .i64 ((i : Nat) : Int)), (7, true, .int .u8 ((sb s i : Nat) : Int))] [(true, g1, 24, [.int .u64 0, .int .u64 0, .int .u64 0, .int .u64 0]), (true, g28, 24, (Wl T)), (L 6, g39, 24, (cond (L 8) (Wl lo37) [.int .u64 0, .int .u64 0, .int .u64 0, .int .u64 0])), (L 7, g40, 24, (cond (L 9) (Wl hi38) [.int .u64 0, .int .u64 0, .int .u64 0, .int .u64 0]))] ac w) (by kernel_rfl) (by kernel_rfl) ?_ ?_ ?_
            · exact ⟨0, 0, hs.drew.skip.skip.skip.skip.skip.skip.skip.skip.pad.pad⟩
            · refine ⟨?_, ?_, ?_, ?_, ?_, ?_, ?_, ?_, ?_, ?_, trivial⟩
              · intro L ac w hJ
                obtain ⟨g39, g40, hs⟩ := hJ
                refine wpO_plain rfl (op_load hs (some 0) 1 (v := W T) rfl rfl rfl rfl Try.isAgg24 Try.sizeOf24 rfl rfl fun ac hs => ?_)
                exact ⟨g39, g40, hs⟩
              · intro L ac w hJ
                obtain ⟨g39, g40, hs⟩ := hJ
                refine wpO_plain rfl (op_call (F := 20) hs (some 1) (v := W 10) rfl rfl rfl rfl (Try.call20 _) (fun w => from_any w 10 (by decide)) rfl fun ac w hs => ?_)
                exact ⟨g39, g40, hs⟩
              · intro L ac w hJ
                obtain ⟨g39, g40, hs⟩ := hJ
                refine wpO_plain rfl (op_call (F := 29) hs (some 2) (v := .tuple #[W lo37, W hi38]) rfl rfl rfl rfl (Try.call29 _) (fun w => wmul_at w T 10 lo37 hi38 lT (by decide) hlo37 hhi38) rfl fun ac w hs => ?_)
                exact ⟨g39, g40, hs⟩
              · intro L ac w hJ
                obtain ⟨g39, g40, hs⟩ := hJ
                refine wpO_plain rfl (op_move hs (some 3) rfl rfl rfl rfl fun ac hs => ?_)
                exact ⟨g39, g40, hs⟩
              · intro L ac w hJ
                obtain ⟨g39, g40, hs⟩ := hJ
                refine wpO_plain rfl (op_extract hs (some 4) rfl rfl rfl rfl rfl fun ac hs => ?_)
                exact ⟨g39, g40, hs⟩
              · intro L ac w hJ
                obtain ⟨g39, g40, hs⟩ := hJ
                refine wpO_plain rfl (op_extract hs (some 5) rfl rfl rfl rfl rfl fun ac hs => ?_)
                exact ⟨g39, g40, hs⟩
              · intro L ac w hJ
                obtain ⟨g39, g40, hs⟩ := hJ
                refine wpO_plain rfl (op_alloc hs (some 6) (some 2) (cs := [.int .u64 0, .int .u64 0, .int .u64 0, .int .u64 0]) rfl rfl Try.zeroValue24 (by kernel_rfl) rfl rfl fun g39 ac w hs => ?_)
                exact ⟨g39, g40, hs⟩
              · intro L ac w hJ
                obtain ⟨g39, g40, hs⟩ := hJ
                refine wpO_plain rfl (op_alloc hs (some 7) (some 3) (cs := [.int .u64 0, .int .u64 0, .int .u64 0, .int .u64 0]) rfl rfl Try.zeroValue24 (by kernel_rfl) rfl rfl fun g40 ac w hs => ?_)
                exact ⟨g39, g40, hs⟩
              · intro L ac w hJ
                obtain ⟨g39, g40, hs⟩ := hJ
                refine wpO_plain rfl (op_store hs 2 (vs := (Wl lo37)) rfl rfl rfl rfl rfl Try.sizeOf24 rfl rfl rfl rfl rfl fun w hs => ?_)
                exact ⟨g39, g40, hs⟩
              · intro L ac w hJ
                obtain ⟨g39, g40, hs⟩ := hJ
                refine wpO_plain rfl (op_store hs 3 (vs := (Wl hi38)) rfl rfl rfl rfl rfl Try.sizeOf24 rfl rfl rfl rfl rfl fun w hs => ?_)
                exact ⟨g39, g40, hs⟩
            intro ac w hJ
            obtain ⟨g39, g40, hs⟩ := hJ
            replace hs : St 69 ⟨w0, [(g29, ob31)]⟩ [(40, true, W T), (41, true, W 10), (42, true, .tuple #[W lo37, W hi38]), (39, true, .tuple #[W lo37, W hi38]), (43, true, W lo37), (44, true, W hi38), (8, true, .pointer (some ⟨g39, 0, none⟩)), (9, true, .pointer (some ⟨g40, 0, none⟩)), (2, true, .pointer (some ⟨g1, 0, none⟩)), (3, true, .int .i64 0), (4, true, .pointer (some ⟨g28, 0, none⟩)), (5, true, .bool (decide (2 ^ 256 ≤ dv s i))), (26, true, .slice (some ⟨g29, 0, none⟩) s.size cp30), (27, true, .int .i64 ((s.size : Nat) : Int)), (28, true, .int .i64 ((i : Nat) : Int)), (7, true, .int .u8 ((sb s i : Nat) : Int))] [(true, g1, 24, [.int .u64 0, .int .u64 0, .int .u64 0, .int .u64 0]), (true, g28, 24, (Wl T)), (true, g39, 24, (Wl lo37)), (true, g40, 24, (Wl hi38))] ac w := hs
            refine then_n ?_
            refine wp_seq ?_
            replace hs : St 69 ⟨w0, [(g29, ob31)]⟩ [(2, true, .pointer (some ⟨g1, 0, none⟩)), (3, true, .int .i64 0), (4, true, .pointer (some ⟨g28, 0, none⟩)), (5, true, .bool (decide (2 ^ 256 ≤ dv s i))), (26, true, .slice (some ⟨g29, 0, none⟩) s.size cp30), (27, true, .int .i64 ((s.size : Nat) : Int)), (28, true, .int .i64 ((i : Nat) : Int)), (7, true, .int .u8 ((sb s i : Nat) : Int)), (8, true, .pointer (some ⟨g39, 0, none⟩)), (9, true, .pointer (some ⟨g40, 0, none⟩))] [(true, g1, 24, [.int .u64 0, .int .u64 0, .int .u64 0, .int .u64 0]), (true, g28, 24, (Wl T)), (true, g39, 24, (Wl lo37)), (true, g40, 24, (Wl hi38))] ac _ := hs.re ⟨rfl, rfl, rfl, rfl, rfl, rfl, rfl, rfl, rfl, rfl, trivial⟩
            obtain ⟨s41, hs41, ls41⟩ : ∃ z0, (lo37 + (sb s i - 48)) % 2 ^ 256 = z0 ∧ z0 < 2 ^ 256 := ⟨_, rfl, Nat.mod_lt _ (Nat.two_pow_pos 256)⟩
            obtain ⟨c42, hc42⟩ : ∃ z0, (lo37 + (sb s i - 48)) / 2 ^ 256 = z0 := ⟨_, rfl⟩
            refine region_inv [([], [5, 6, 7, 8, 10, 11]), ([], [2, 3, 4, 5, 6, 7, 8, 10, 11]), ([1], [3, 4, 5, 6, 7, 8, 10, 11]), ([1, 2], [4, 5, 6, 7, 8, 10, 11]), ([1, 2, 3], [5, 6, 7, 8, 10, 11]), ([0, 1, 2, 3, 4], [6, 7, 8, 10, 11]), ([0, 1, 2, 3, 4, 5], [7, 8, 10, 11]), ([0, 1, 2, 3, 4, 5, 6], [10, 11]), ([0, 1, 2, 3, 4, 5, 6], [11]), ([], [10, 11]), ([0, 1, 2, 3, 4, 5, 6, 7, 9], [11]), ([0, 1, 2, 3, 4, 5, 6, 7, 8, 9, 10], [])] (fun L ac w => ∃ (g43 : Nat), St 69 ⟨w0, [(g29, ob31)]⟩ [(46, L 0, W lo37), (47, L 1, .int .u8 ((sb s i : Nat) : Int)), (48, L 2, .int .u8 ((sb s i - 48 : Nat) : Int)), (49, L 3, .int .u64 ((sb s i - 48 : Nat) : Int)), (50, L 4, W (sb s i - 48)), (51, L 5, .tuple #[W s41, .int .u64 ((c42 : Nat) : Int)]), (45, L 6, .tuple #[W s41, .int .u64 ((c42 : Nat) : Int)]), (52, L 7, W s41), (53, L 8, .int .u64 ((c42 : Nat) : Int)), (10, L 9, .pointer (some ⟨g43, 0, none⟩)), (11, L 11, .int .u64 ((c42 : Nat) : Int)), (2, true, .pointer (some ⟨g1, 0, none⟩)), (3, true, .int .i64 0), (4, true, .pointer (some ⟨g28, 0, none⟩)), (5, true, .bool (decide (2 ^ 256 ≤ dv s i))), (26, true, .slice (some ⟨g29, 0, none⟩) s.size cp30), (27, true, .int .i64 ((s.size : Nat) : Int)), (28, true, .int .i64 ((i : Nat) : Int)), (7, true, .int .u8 ((sb s i : Nat) : Int)), (8, true, .pointer (some ⟨g39, 0, none⟩)), (9, true, .pointer (some ⟨g40, 0, none⟩))] [(true, g1, 24, [.int .u64 0, .int .u64 0, .int .u64 0, .int .u64 0]), (true, g28, 24, (Wl T)), (true, g39, 24, (Wl lo37)), (true, g40, 24, (Wl hi38)), (L 9, g43, 24, (cond (L 10) (Wl s41) [.int .u64 0, .int .u64 0, .int .u64 0, .int .u64 0]))] ac w) (by kernel_rfl) (by kernel_rfl) ?_ ?_ ?_
            · exact ⟨0, hs.drew.skip.skip.skip.skip.skip.skip.skip.skip.skip.skip.skip.pad⟩
            · refine ⟨?_, ?_, ?_, ?_, ?_, ?_, ?_, ?_, ?_, ?_, ?_, ?_, trivial⟩
              · intro L ac w hJ
                obtain ⟨g43, hs⟩ := hJ
                refine wpO_plain rfl (op_load hs (some 0) 2 (v := W lo37) rfl rfl rfl rfl Try.isAgg24 Try.sizeOf24 rfl rfl fun ac hs => ?_)
                exact ⟨g43, hs⟩
              · intro L ac w hJ
                obtain ⟨g43, hs⟩ := hJ
                refine wpO_plain rfl (op_move hs (some 1) rfl rfl rfl rfl fun ac hs => ?_)
                exact ⟨g43, hs⟩
              · intro L ac w hJ
                obtain ⟨g43, hs⟩ := hJ
                refine wpO_plain rfl (op_bin hs (some 2) (v := .int .u8 ((sb s i - 48 : Nat) : Int)) rfl rfl rfl rfl (fun _ => rfl) (bin_subN (x := sb s i) (y := 48) (z := sb s i - 48) (by omega) (show sb s i - 48 < 256 by omega)) rfl fun ac hs => ?_)
                exact ⟨g43, hs⟩
              · intro L ac w hJ
                obtain ⟨g43, hs⟩ := hJ
                refine wpO_plain rfl (op_convert hs (some 3) (v := .int .u64 ((sb s i - 48 : Nat) : Int)) rfl rfl rfl (conv_N Try.underlying5 Try.underlying22 (show sb s i - 48 < 18446744073709551616 by omega)) rfl fun ac hs => ?_)
                exact ⟨g43, hs⟩
              · intro L ac w hJ
                obtain ⟨g43, hs⟩ := hJ
                refine wpO_plain rfl (op_call (F := 20) hs (some 4) (v := W (sb s i - 48)) rfl rfl rfl rfl (Try.call20 _) (fun w => from_any w (sb s i - 48) (show sb s i - 48 < 2 ^ 64 by omega)) rfl fun ac w hs => ?_)
                exact ⟨g43, hs⟩
              · intro L ac w hJ
                obtain ⟨g43, hs⟩ := hJ
                refine wpO_plain rfl (op_call (F := 11) hs (some 5) (v := .tuple #[W s41, .int .u64 ((c42 : Nat) : Int)]) rfl rfl rfl rfl (Try.call11 _) (fun w => add_at w lo37 (sb s i - 48) s41 c42 llo37 (show sb s i - 48 < 2 ^ 256 by omega) hs41 hc42) rfl fun ac w hs => ?_)
                exact ⟨g43, hs⟩
              · intro L ac w hJ
                obtain ⟨g43, hs⟩ := hJ
                refine wpO_plain rfl (op_move hs (some 6) rfl rfl rfl rfl fun ac hs => ?_)
                exact ⟨g43, hs⟩
              · intro L ac w hJ
                obtain ⟨g43, hs⟩ := hJ
                refine wpO_plain rfl (op_extract hs (some 7) rfl rfl rfl rfl rfl fun ac hs => ?_)
                exact ⟨g43, hs⟩
              · intro L ac w hJ
                obtain ⟨g43, hs⟩ := hJ
                refine wpO_plain rfl (op_extract hs (some 8) rfl rfl rfl rfl rfl fun ac hs => ?_)
                exact ⟨g43, hs⟩
              · intro L ac w hJ
                obtain ⟨g43, hs⟩ := hJ
                refine wpO_plain rfl (op_alloc hs (some 9) (some 4) (cs := [.int .u64 0, .int .u64 0, .int .u64 0, .int .u64 0]) rfl rfl Try.zeroValue24 (by kernel_rfl) rfl rfl fun g43 ac w hs => ?_)
                exact ⟨g43, hs⟩
              · intro L ac w hJ
                obtain ⟨g43, hs⟩ := hJ
                refine wpO_plain rfl (op_store hs 4 (vs := (Wl s41)) rfl rfl rfl rfl rfl Try.sizeOf24 rfl rfl rfl rfl rfl fun w hs => ?_)
                exact ⟨g43, hs⟩
              · intro L ac w hJ
                obtain ⟨g43, hs⟩ := hJ
                refine wpO_plain rfl (op_assign hs (some 10) rfl rfl rfl rfl fun ac hs => ?_)
                exact ⟨g43, hs⟩
            intro ac w hJ
            obtain ⟨g43, hs⟩ := hJ
            replace hs : St 69 ⟨w0, [(g29, ob31)]⟩ [(46, true, W lo37), (47, true, .int .u8 ((sb s i : Nat) : Int)), (48, true, .int .u8 ((sb s i - 48 : Nat) : Int)), (49, true, .int .u64 ((sb s i - 48 : Nat) : Int)), (50, true, W (sb s i - 48)), (51, true, .tuple #[W s41, .int .u64 ((c42 : Nat) : Int)]), (45, true, .tuple #[W s41, .int .u64 ((c42 : Nat) : Int)]), (52, true, W s41), (53, true, .int .u64 ((c42 : Nat) : Int)), (10, true, .pointer (some ⟨g43, 0, none⟩)), (11, true, .int .u64 ((c42 : Nat) : Int)), (2, true, .pointer (some ⟨g1, 0, none⟩)), (3, true, .int .i64 0), (4, true, .pointer (some ⟨g28, 0, none⟩)), (5, true, .bool (decide (2 ^ 256 ≤ dv s i))), (26, true, .slice (some ⟨g29, 0, none⟩) s.size cp30), (27, true, .int .i64 ((s.size : Nat) : Int)), (28, true, .int .i64 ((i : Nat) : Int)), (7, true, .int .u8 ((sb s i : Nat) : Int)), (8, true, .pointer (some ⟨g39, 0, none⟩)), (9, true, .pointer (some ⟨g40, 0, none⟩))] [(true, g1, 24, [.int .u64 0, .int .u64 0, .int .u64 0, .int .u64 0]), (true, g28, 24, (Wl T)), (true, g39, 24, (Wl lo37)), (true, g40, 24, (Wl hi38)), (true, g43, 24, (Wl s41))] ac w := hs
            refine then_n ?_
            refine wp_seq ?_
            by_cases hq44 : 2 ^ 256 ≤ dv s i
            · skip
              replace hs := hs.re (fs' := [(2, true, .pointer (some ⟨g1, 0, none⟩)), (3, true, .int .i64 0), (4, true, .pointer (some ⟨g28, 0, none⟩)), (5, true, .bool true), (26, true, .slice (some ⟨g29, 0, none⟩) s.size cp30), (27, true, .int .i64 ((s.size : Nat) : Int)), (28, true, .int .i64 ((i : Nat) : Int)), (7, true, .int .u8 ((sb s i : Nat) : Int)), (8, true, .pointer (some ⟨g39, 0, none⟩)), (9, true, .pointer (some ⟨g40, 0, none⟩)), (46, true, W lo37), (47, true, .int .u8 ((sb s i : Nat) : Int)), (48, true, .int .u8 ((sb s i - 48 : Nat) : Int)), (49, true, .int .u64 ((sb s i - 48 : Nat) : Int)), (50, true, W (sb s i - 48)), (51, true, .tuple #[W s41, .int .u64 ((c42 : Nat) : Int)]), (45, true, .tuple #[W s41, .int .u64 ((c42 : Nat) : Int)]), (52, true, W s41), (53, true, .int .u64 ((c42 : Nat) : Int)), (10, true, .pointer (some ⟨g43, 0, none⟩)), (11, true, .int .u64 ((c42 : Nat) : Int))]) ⟨rfl, rfl, rfl, congrArg some (congrArg Value.bool (decide_eq_true hq44)), rfl, rfl, rfl, rfl, rfl, rfl, rfl, rfl, rfl, rfl, rfl, rfl, rfl, rfl, rfl, rfl, rfl, trivial⟩
              refine wp_region_lit ?_
              refine lstep (wpO_plain rfl (op_move hs none rfl rfl rfl rfl fun ac hs => ?_))
              refine lstep (wpO_plain rfl (op_move hs none rfl rfl rfl rfl fun ac hs => ?_))
              refine lstep (wpO_out hs none rfl rfl (.inl rfl) rfl rfl fun ac hs => ?_)
              refine lstep (wpO_out hs none rfl rfl (.inl rfl) rfl rfl fun ac hs => ?_)
              refine lstep (wpO_out hs none rfl rfl (.inl rfl) rfl rfl fun ac hs => ?_)
              refine lstep (wpO_plain rfl (op_pickT hs none rfl rfl rfl rfl rfl fun ac hs => ?_))
              refine lstep (wpO_plain rfl (op_move hs none rfl rfl rfl rfl fun ac hs => ?_))
              refine lstep (wpO_out hs none rfl rfl (.inl rfl) rfl rfl fun ac hs => ?_)
              refine lstep (wpO_out hs none rfl rfl (.inl rfl) rfl rfl fun ac hs => ?_)
              refine lstep (wpO_plain rfl (op_pickT hs none rfl rfl rfl rfl rfl fun ac hs => ?_))
              refine lstep (wpO_plain rfl (op_assign hs none rfl rfl rfl rfl fun ac hs => ?_))
              refine wpList_nil ?_
              refine then_n ?_
              refine wp_region_lit ?_
              refine lstep (wpO_plain rfl (op_load hs none 4 (v := W s41) rfl rfl rfl rfl Try.isAgg24 Try.sizeOf24 rfl rfl fun ac hs => ?_))
              refine lstep (wpO_plain rfl (op_store hs 1 (vs := (Wl s41)) rfl rfl rfl rfl rfl Try.sizeOf24 rfl rfl rfl rfl rfl fun w hs => ?_))
              refine wpList_nil ?_
              refine blk_n ?_
              refine then_n ?_
              refine wp_region_lit ?_
              refine lstep (wpO_plain rfl (op_bin hs none (v := .int .i64 ((i + 1 : Nat) : Int)) rfl rfl rfl rfl (fun _ => rfl) (bin_addN (x := i) (y := 1) (z := i + 1) rfl (show i + 1 < 9223372036854775808 by omega)) rfl fun ac hs => ?_))
              refine lstep (wpO_plain rfl (op_move hs none rfl rfl rfl rfl fun ac hs => ?_))
              refine wpList_nil ?_
              refine then_n ?_
              exact ⟨_, ⟨(i + 1), s41, rfl, (by omega), ls41, (acc_val hT hlo37 hs41), (figs_succ hfg hd1 hd2), ((hs.takeb 2).re ⟨rfl, rfl, rfl, (congrArg (fun z => some (Value.bool z)) (decide_eq_true (acc_ov hq44)).symm), rfl, rfl, rfl, trivial⟩)⟩, (by omega)⟩
            · skip
              replace hs := hs.re (fs' := [(2, true, .pointer (some ⟨g1, 0, none⟩)), (3, true, .int .i64 0), (4, true, .pointer (some ⟨g28, 0, none⟩)), (5, true, .bool false), (26, true, .slice (some ⟨g29, 0, none⟩) s.size cp30), (27, true, .int .i64 ((s.size : Nat) : Int)), (28, true, .int .i64 ((i : Nat) : Int)), (7, true, .int .u8 ((sb s i : Nat) : Int)), (8, true, .pointer (some ⟨g39, 0, none⟩)), (9, true, .pointer (some ⟨g40, 0, none⟩)), (46, true, W lo37), (47, true, .int .u8 ((sb s i : Nat) : Int)), (48, true, .int .u8 ((sb s i - 48 : Nat) : Int)), (49, true, .int .u64 ((sb s i - 48 : Nat) : Int)), (50, true, W (sb s i - 48)), (51, true, .tuple #[W s41, .int .u64 ((c42 : Nat) : Int)]), (45, true, .tuple #[W s41, .int .u64 ((c42 : Nat) : Int)]), (52, true, W s41), (53, true, .int .u64 ((c42 : Nat) : Int)), (10, true, .pointer (some ⟨g43, 0, none⟩)), (11, true, .int .u64 ((c42 : Nat) : Int))]) ⟨rfl, rfl, rfl, congrArg some (congrArg Value.bool (decide_eq_false hq44)), rfl, rfl, rfl, rfl, rfl, rfl, rfl, rfl, rfl, rfl, rfl, rfl, rfl, rfl, rfl, rfl, rfl, trivial⟩
              by_cases hq45 : hi38 = 0
              · skip
                refine wp_region_lit ?_
                refine lstep (wpO_plain rfl (op_move hs none rfl rfl rfl rfl fun ac hs => ?_))
                refine lstep (wpO_plain rfl (op_move hs none rfl rfl rfl rfl fun ac hs => ?_))
                refine lstep (wpO_in hs rfl rfl rfl (op_load hs none 3 (v := W hi38) rfl rfl rfl rfl Try.isAgg24 Try.sizeOf24 rfl rfl fun ac hs => ?_))
                refine lstep (wpO_in hs rfl rfl rfl (op_build hs none (qs := []) (v := .agg #[.int .u64 0, .int .u64 0, .int .u64 0, .int .u64 0]) rfl rfl rfl rfl (fun _ => by kernel_rfl) rfl fun ac hs => ?_))
                refine lstep (wpO_in hs rfl rfl rfl (op_bin hs none (v := .bool false) rfl rfl rfl rfl (fun w => run_eqGuard_agg w .neq 24 _ _ _ _ Try.eqGuardType24) (neqW hi38 0 lhi38 (by decide) false (decide_eq_false (not_not_intro hq45))) rfl fun ac hs => ?_))
                refine lstep (wpO_plain rfl (op_pickF hs none rfl rfl rfl rfl rfl fun ac hs => ?_))
                refine lstep (wpO_plain rfl (op_move hs none rfl rfl rfl rfl fun ac hs => ?_))
                refine lstep (wpO_in hs rfl rfl rfl (op_move hs none rfl rfl rfl rfl fun ac hs => ?_))
                refine lstep (wpO_in hs rfl rfl rfl (op_bin hs none (v := .bool (decide (0 < c42))) rfl rfl rfl rfl (fun _ => rfl) (bin_gtrN (x := c42) (y := 0)) rfl fun ac hs => ?_))
                refine lstep (wpO_plain rfl (op_pickF hs none rfl rfl rfl rfl rfl fun ac hs => ?_))
                refine lstep (wpO_plain rfl (op_assign hs none rfl rfl rfl rfl fun ac hs => ?_))
                refine wpList_nil ?_
                refine then_n ?_
                refine wp_region_lit ?_
                refine lstep (wpO_plain rfl (op_load hs none 4 (v := W s41) rfl rfl rfl rfl Try.isAgg24 Try.sizeOf24 rfl rfl fun ac hs => ?_))
                refine lstep (wpO_plain rfl (op_store hs 1 (vs := (Wl s41)) rfl rfl rfl rfl rfl Try.sizeOf24 rfl rfl rfl rfl rfl fun w hs => ?_))
                refine wpList_nil ?_
                refine blk_n ?_
                refine then_n ?_
                refine wp_region_lit ?_
                refine lstep (wpO_plain rfl (op_bin hs none (v := .int .i64 ((i + 1 : Nat) : Int)) rfl rfl rfl rfl (fun _ => rfl) (bin_addN (x := i) (y := 1) (z := i + 1) rfl (show i + 1 < 9223372036854775808 by omega)) rfl fun ac hs => ?_))
                refine lstep (wpO_plain rfl (op_move hs none rfl rfl rfl rfl fun ac hs => ?_))
                refine wpList_nil ?_
                refine then_n ?_
                exact ⟨_, ⟨(i + 1), s41, rfl, (by omega), ls41, (acc_val hT hlo37 hs41), (figs_succ hfg hd1 hd2), ((hs.takeb 2).re ⟨rfl, rfl, rfl, (congrArg (fun z => some (Value.bool z)) (acc_lo hq44 hT hlo37 hhi38 hs41 hc42 hq45)), rfl, rfl, rfl, trivial⟩)⟩, (by omega)⟩
              · skip
                refine wp_region_lit ?_
                refine lstep (wpO_plain rfl (op_move hs none rfl rfl rfl rfl fun ac hs => ?_))
                refine lstep (wpO_plain rfl (op_move hs none rfl rfl rfl rfl fun ac hs => ?_))
                refine lstep (wpO_in hs rfl rfl rfl (op_load hs none 3 (v := W hi38) rfl rfl rfl rfl Try.isAgg24 Try.sizeOf24 rfl rfl fun ac hs => ?_))
                refine lstep (wpO_in hs rfl rfl rfl (op_build hs none (qs := []) (v := .agg #[.int .u64 0, .int .u64 0, .int .u64 0, .int .u64 0]) rfl rfl rfl rfl (fun _ => by kernel_rfl) rfl fun ac hs => ?_))
                refine lstep (wpO_in hs rfl rfl rfl (op_bin hs none (v := .bool true) rfl rfl rfl rfl (fun w => run_eqGuard_agg w .neq 24 _ _ _ _ Try.eqGuardType24) (neqW hi38 0 lhi38 (by decide) true (decide_eq_true hq45)) rfl fun ac hs => ?_))
                refine lstep (wpO_plain rfl (op_pickF hs none rfl rfl rfl rfl rfl fun ac hs => ?_))
                refine lstep (wpO_plain rfl (op_move hs none rfl rfl rfl rfl fun ac hs => ?_))
                refine lstep (wpO_out hs none rfl rfl (.inl rfl) rfl rfl fun ac hs => ?_)
                refine lstep (wpO_out hs none rfl rfl (.inl rfl) rfl rfl fun ac hs => ?_)
                refine lstep (wpO_plain rfl (op_pickT hs none rfl rfl rfl rfl rfl fun ac hs => ?_))
                refine lstep (wpO_plain rfl (op_assign hs none rfl rfl rfl rfl fun ac hs => ?_))
                refine wpList_nil ?_
                refine then_n ?_
                refine wp_region_lit ?_
                refine lstep (wpO_plain rfl (op_load hs none 4 (v := W s41) rfl rfl rfl rfl Try.isAgg24 Try.sizeOf24 rfl rfl fun ac hs => ?_))
                refine lstep (wpO_plain rfl (op_store hs 1 (vs := (Wl s41)) rfl rfl rfl rfl rfl Try.sizeOf24 rfl rfl rfl rfl rfl fun w hs => ?_))
                refine wpList_nil ?_
                refine blk_n ?_
                refine then_n ?_
                refine wp_region_lit ?_
                refine lstep (wpO_plain rfl (op_bin hs none (v := .int .i64 ((i + 1 : Nat) : Int)) rfl rfl rfl rfl (fun _ => rfl) (bin_addN (x := i) (y := 1) (z := i + 1) rfl (show i + 1 < 9223372036854775808 by omega)) rfl fun ac hs => ?_))
                refine lstep (wpO_plain rfl (op_move hs none rfl rfl rfl rfl fun ac hs => ?_))
                refine wpList_nil ?_
                refine then_n ?_
                exact ⟨_, ⟨(i + 1), s41, rfl, (by omega), ls41, (acc_val hT hlo37 hs41), (figs_succ hfg hd1 hd2), ((hs.takeb 2).re ⟨rfl, rfl, rfl, (congrArg (fun z => some (Value.bool z)) (decide_eq_true (acc_hi hq44 hT hlo37 hhi38 hs41 hc42 hq45)).symm), rfl, rfl, rfl, trivial⟩)⟩, (by omega)⟩
      · skip
        have hp46 := of_decide_eq_false hc
        obtain rfl : i = s.size := by omega
        refine wp_exit ?_
        refine then_e ?_
        refine then_e ?_
        refine blk_e ?_
        refine then_n ?_
        refine wp_seq ?_
        refine wp_seq ?_
        refine wp_region_lit ?_
        refine lstep (wpO_plain rfl (op_move hs none rfl rfl rfl rfl fun ac hs => ?_))
        refine wpList_nil ?_
        refine then_n ?_
        refine wp_cond_split (hs.ev rfl) (fun hc => ?_) (fun hc => ?_)
        · skip
          have hp47 := of_decide_eq_true hc
          refine wp_seq ?_
          refine wp_region_lit ?_
          refine lstep (wpO_plain rfl (op_build hs none (qs := []) (v := .agg #[.int .u64 0, .int .u64 0, .int .u64 0, .int .u64 0]) rfl rfl rfl rfl (fun _ => by kernel_rfl) rfl fun ac hs => ?_))
          refine lstep (wpO_plain rfl (op_store hs 0 (vs := [.int .u64 0, .int .u64 0, .int .u64 0, .int .u64 0]) rfl rfl rfl rfl rfl Try.sizeOf24 rfl rfl rfl rfl rfl fun w hs => ?_))
          refine lstep (wpO_plain rfl (op_assign hs none rfl rfl rfl rfl fun ac hs => ?_))
          refine wpList_nil ?_
          refine then_n ?_
          refine wp_ret ?_
          refine then_r ?_
          exact bodyPost_ret (res2 rfl (rv_c hs 0 (v := .agg #[.int .u64 0, .int .u64 0, .int .u64 0, .int .u64 0]) rfl rfl Try.isAgg24 Try.sizeOf24 rfl) (rv_t hs rfl)) hs.defers ⟨by rw [tx_V0 (tx_big (by have := hq2; have := hq3; omega) hfg hp47) (by decide), (tx_big (by have := hq2; have := hq3; omega) hfg hp47)]; first | done | rfl, hs.below⟩
        · skip
          have hp48 := of_decide_eq_false hc
          refine wp_skip ?_
          refine then_n ?_
          refine wp_seq ?_
          refine wp_region_lit ?_
          refine lstep (wpO_plain rfl (op_load hs none 1 (v := W T) rfl rfl rfl rfl Try.isAgg24 Try.sizeOf24 rfl rfl fun ac hs => ?_))
          refine lstep (wpO_plain rfl (op_store hs 0 (vs := (Wl T)) rfl rfl rfl rfl rfl Try.sizeOf24 rfl rfl rfl rfl rfl fun w hs => ?_))
          refine lstep (wpO_plain rfl (op_assign hs none rfl rfl rfl rfl fun ac hs => ?_))
          refine wpList_nil ?_
          refine then_n ?_
          refine wp_ret ?_
          exact bodyPost_ret (res2 rfl (rv_c hs 0 (v := W T) rfl rfl Try.isAgg24 Try.sizeOf24 rfl) (rv_t hs rfl)) hs.defers ⟨by have hz := tx_ok (by have := hq2; have := hq3; omega) hfg hp48; rw [tx_V hz, hz, ← hT, Nat.mod_eq_of_lt (Nat.lt_of_not_le hp48)]; first | done | rfl, hs.below⟩
end Go.Proofs.Ytaeafgkjinhceaa
