/- Figures. -/
import Derived.Test.YtaeafgkjinhceaaStr
import Derived.Test.YtaeafgkjinhceaaDec
import Derived.Test.YtaeafgkjinhceaaPrt
import Derived.Test.YtaeafgkjinhceaaRWide2
namespace Go.Proofs.Ytaeafgkjinhceaa
open Go.RowKit
set_option maxRecDepth 10000

theorem rparse_c (s : ByteArray) (hsz : s.size < 9223372036854775808) (w0 : World) : Calls Try.prog 32 #[.string s] w0 fun e w' => e = .returned (.tuple #[W (txV s), .int .i64 ((txE s : Nat) : Int)]) ∧ Below w0.heap.size w0 w' := by
  refine enter (n := 75) (args := [.string s]) Try.func32 rfl rfl (Nat.le_of_ble_eq_true rfl) fun ac hs => ?_
  refine wp_seq ?_
  refine wp_region_lit ?_
  refine lstep (wpO_plain rfl (op_alloc hs none none (cs := [.int .u64 0, .int .u64 0, .int .u64 0, .int .u64 0]) rfl rfl Try.zeroValue24 (by kernel_rfl) rfl rfl fun g1 ac w hs => ?_))
  refine lstep (wpO_plain rfl (op_assign hs none rfl rfl rfl rfl fun ac hs => ?_))
  refine wpList_nil ?_
  refine then_n ?_
  refine wp_seq ?_
  refine wp_seq ?_
  by_cases hq2 : s.size = 0
  · skip
    refine wp_region_lit ?_
    refine lstep (wpO_plain rfl (op_move hs none rfl rfl rfl rfl fun ac hs => ?_))
    refine lstep (wpO_plain rfl (op_bin hs none (v := .bool true) rfl rfl rfl rfl (fun _ => rfl) (bin_eqlS (b := true) (tx_size0.trans (decide_eq_true hq2))) rfl fun ac hs => ?_))
    refine lstep (wpO_plain rfl (op_move hs none rfl rfl rfl rfl fun ac hs => ?_))
    refine lstep (wpO_out hs none rfl rfl (.inl rfl) rfl rfl fun ac hs => ?_)
    refine lstep (wpO_out hs none rfl rfl (.inl rfl) rfl rfl fun ac hs => ?_)
    refine lstep (wpO_out hs none rfl rfl (.inl rfl) rfl rfl fun ac hs => ?_)
    refine lstep (wpO_out hs none rfl rfl (.inl rfl) rfl rfl fun ac hs => ?_)
    refine lstep (wpO_out hs none rfl rfl (.inr rfl) rfl rfl fun ac hs => ?_)
    refine lstep (wpO_out hs none rfl rfl (.inr rfl) rfl rfl fun ac hs => ?_)
    refine lstep (wpO_out hs none rfl rfl (.inr rfl) rfl rfl fun ac hs => ?_)
    refine lstep (wpO_out hs none rfl rfl (.inl rfl) rfl rfl fun ac hs => ?_)
    refine lstep (wpO_plain rfl (op_pickT hs none rfl rfl rfl rfl rfl fun ac hs => ?_))
    refine wpList_nil ?_
    refine then_n ?_
    refine wp_cond_true (hs.ev rfl) ?_
    refine wp_seq ?_
    refine wp_region_lit ?_
    refine lstep (wpO_plain rfl (op_build hs none (qs := []) (v := .agg #[.int .u64 0, .int .u64 0, .int .u64 0, .int .u64 0]) rfl rfl rfl rfl (fun _ => by kernel_rfl) rfl fun ac hs => ?_))
    refine lstep (wpO_plain rfl (op_store hs 0 (vs := [.int .u64 0, .int .u64 0, .int .u64 0, .int .u64 0]) rfl rfl rfl rfl rfl Try.sizeOf24 rfl rfl rfl rfl rfl fun w hs => ?_))
    refine lstep (wpO_plain rfl (op_assign hs none rfl rfl rfl rfl fun ac hs => ?_))
    refine wpList_nil ?_
    refine then_n ?_
    refine wp_ret ?_
    refine then_r ?_
    exact bodyPost_ret (res2 rfl (rv_c hs 0 (v := .agg #[.int .u64 0, .int .u64 0, .int .u64 0, .int .u64 0]) rfl rfl Try.isAgg24 Try.sizeOf24 rfl) (rv_t hs rfl)) hs.defers ⟨by rw [tx_V0 (tx_head (.inl hq2)) (by decide), (tx_head (.inl hq2))]; first | done | rfl, hs.below⟩
  · skip
    by_cases hq3 : 1 < s.size
    · skip
      refine wp_region_lit ?_
      refine lstep (wpO_plain rfl (op_move hs none rfl rfl rfl rfl fun ac hs => ?_))
      refine lstep (wpO_plain rfl (op_bin hs none (v := .bool false) rfl rfl rfl rfl (fun _ => rfl) (bin_eqlS (b := false) (tx_size0.trans (decide_eq_false hq2))) rfl fun ac hs => ?_))
      refine lstep (wpO_plain rfl (op_move hs none rfl rfl rfl rfl fun ac hs => ?_))
      refine lstep (wpO_in hs rfl rfl rfl (op_move hs none rfl rfl rfl rfl fun ac hs => ?_))
      refine lstep (wpO_in hs rfl rfl rfl (op_blt hs none (v := .int .i64 ((s.size : Nat) : Int)) rfl rfl rfl (blt_lenS Try.underlying9 (show s.size < 9223372036854775808 by omega)) rfl fun ac hs => ?_))
      refine lstep (wpO_in hs rfl rfl rfl (op_bin hs none (v := .bool true) rfl rfl rfl rfl (fun _ => rfl) (fun w => dT hq3 (bin_gtrN (x := s.size) (y := 1) w)) rfl fun ac hs => ?_))
      refine lstep (wpO_in hs rfl rfl rfl (op_move hs none rfl rfl rfl rfl fun ac hs => ?_))
      refine lstep (wpO_in hs rfl rfl rfl (op_move hs none rfl rfl rfl rfl fun ac hs => ?_))
      have l4 := sb_lt s 0
      refine lstep (wpO_in hs rfl rfl rfl (op_index hs none (v := .int .u8 ((sb s 0 : Nat) : Int)) rfl rfl rfl rfl (idx_s (j := 0) Try.underlying9 (show 0 < s.size by omega)) rfl fun ac hs => ?_))
      refine lstep (wpO_in hs rfl rfl rfl (op_bin hs none (v := .bool (decide (sb s 0 = 48))) rfl rfl rfl rfl (fun _ => rfl) (bin_eqlN (x := sb s 0) (y := 48)) rfl fun ac hs => ?_))
      refine lstep (wpO_in hs rfl rfl rfl (op_pickT hs none rfl rfl rfl rfl rfl fun ac hs => ?_))
      refine lstep (wpO_plain rfl (op_pickF hs none rfl rfl rfl rfl rfl fun ac hs => ?_))
      refine wpList_nil ?_
      refine then_n ?_
      refine wp_cond_split (hs.ev rfl) (fun hc => ?_) (fun hc => ?_)
      · skip
        have hp5 := of_decide_eq_true hc
        refine wp_seq ?_
        refine wp_region_lit ?_
        refine lstep (wpO_plain rfl (op_build hs none (qs := []) (v := .agg #[.int .u64 0, .int .u64 0, .int .u64 0, .int .u64 0]) rfl rfl rfl rfl (fun _ => by kernel_rfl) rfl fun ac hs => ?_))
        refine lstep (wpO_plain rfl (op_store hs 0 (vs := [.int .u64 0, .int .u64 0, .int .u64 0, .int .u64 0]) rfl rfl rfl rfl rfl Try.sizeOf24 rfl rfl rfl rfl rfl fun w hs => ?_))
        refine lstep (wpO_plain rfl (op_assign hs none rfl rfl rfl rfl fun ac hs => ?_))
        refine wpList_nil ?_
        refine then_n ?_
        refine wp_ret ?_
        refine then_r ?_
        exact bodyPost_ret (res2 rfl (rv_c hs 0 (v := .agg #[.int .u64 0, .int .u64 0, .int .u64 0, .int .u64 0]) rfl rfl Try.isAgg24 Try.sizeOf24 rfl) (rv_t hs rfl)) hs.defers ⟨by rw [tx_V0 (tx_head (.inr ⟨hq3, hp5⟩)) (by decide), (tx_head (.inr ⟨hq3, hp5⟩))]; first | done | rfl, hs.below⟩
      · skip
        have hp6 := of_decide_eq_false hc
        refine wp_skip ?_
        refine then_n ?_
        refine wp_seq ?_
        refine wp_seq ?_
        refine wp_region_lit ?_
        refine lstep (wpO_plain rfl (op_assign hs none rfl rfl rfl rfl fun ac hs => ?_))
        refine wpList_nil ?_
        refine then_n ?_
        refine wp_block ?_
        refine wp_loop_m (fun μ ac w => ∃ (i : Nat), (s.size - i) = μ ∧ (i ≤ s.size) ∧ (Figs s i) ∧ St 75 w0 [(0, true, .string s), (2, true, .pointer (some ⟨g1, 0, none⟩)), (3, true, .int .i64 0), (4, true, .int .i64 ((i : Nat) : Int))] [(true, g1, 24, [.int .u64 0, .int .u64 0, .int .u64 0, .int .u64 0])] ac w) ?_ ?_
        · exact ⟨_, 0, rfl, (Nat.zero_le _), (fun j hj => absurd hj (Nat.not_lt_zero j)), (hs.re ⟨rfl, rfl, rfl, rfl, trivial⟩)⟩
        intro μ ac w ⟨i, hμ, hi, hfg, hs⟩
        refine wp_seq ?_
        refine wp_seq ?_
        refine wp_region_lit ?_
        refine lstep (wpO_plain rfl (op_move hs none rfl rfl rfl rfl fun ac hs => ?_))
        refine lstep (wpO_plain rfl (op_move hs none rfl rfl rfl rfl fun ac hs => ?_))
        refine lstep (wpO_plain rfl (op_blt hs none (v := .int .i64 ((s.size : Nat) : Int)) rfl rfl rfl (blt_lenS Try.underlying9 (show s.size < 9223372036854775808 by omega)) rfl fun ac hs => ?_))
        refine lstep (wpO_plain rfl (op_bin hs none (v := .bool (decide (i < s.size))) rfl rfl rfl rfl (fun _ => rfl) (bin_lssN (x := i) (y := s.size)) rfl fun ac hs => ?_))
        refine wpList_nil ?_
        refine then_n ?_
        refine wp_cond_split (hs.ev rfl) (fun hc => ?_) (fun hc => ?_)
        · skip
          have hp7 := of_decide_eq_true hc
          refine wp_skip ?_
          refine then_n ?_
          refine wp_seq ?_
          refine wp_block ?_
          refine wp_seq ?_
          by_cases hq8 : sb s i < 48
          · skip
            refine wp_region_lit ?_
            refine lstep (wpO_plain rfl (op_move hs none rfl rfl rfl rfl fun ac hs => ?_))
            refine lstep (wpO_plain rfl (op_move hs none rfl rfl rfl rfl fun ac hs => ?_))
            have l9 := sb_lt s i
            refine lstep (wpO_plain rfl (op_index hs none (v := .int .u8 ((sb s i : Nat) : Int)) rfl rfl rfl rfl (idx_s (j := i) Try.underlying9 (show i < s.size by omega)) rfl fun ac hs => ?_))
            refine lstep (wpO_plain rfl (op_bin hs none (v := .bool true) rfl rfl rfl rfl (fun _ => rfl) (fun w => dT hq8 (bin_lssN (x := sb s i) (y := 48) w)) rfl fun ac hs => ?_))
            refine lstep (wpO_plain rfl (op_move hs none rfl rfl rfl rfl fun ac hs => ?_))
            refine lstep (wpO_out hs none rfl rfl (.inl rfl) rfl rfl fun ac hs => ?_)
            refine lstep (wpO_out hs none rfl rfl (.inl rfl) rfl rfl fun ac hs => ?_)
            refine lstep (wpO_out hs none rfl rfl (.inl rfl) rfl rfl fun ac hs => ?_)
            refine lstep (wpO_out hs none rfl rfl (.inl rfl) rfl rfl fun ac hs => ?_)
            refine lstep (wpO_plain rfl (op_pickT hs none rfl rfl rfl rfl rfl fun ac hs => ?_))
            refine wpList_nil ?_
            refine then_n ?_
            refine wp_cond_true (hs.ev rfl) ?_
            refine wp_seq ?_
            refine wp_region_lit ?_
            refine lstep (wpO_plain rfl (op_build hs none (qs := []) (v := .agg #[.int .u64 0, .int .u64 0, .int .u64 0, .int .u64 0]) rfl rfl rfl rfl (fun _ => by kernel_rfl) rfl fun ac hs => ?_))
            refine lstep (wpO_plain rfl (op_store hs 0 (vs := [.int .u64 0, .int .u64 0, .int .u64 0, .int .u64 0]) rfl rfl rfl rfl rfl Try.sizeOf24 rfl rfl rfl rfl rfl fun w hs => ?_))
            refine lstep (wpO_plain rfl (op_assign hs none rfl rfl rfl rfl fun ac hs => ?_))
            refine wpList_nil ?_
            refine then_n ?_
            refine wp_ret ?_
            refine blk_r ?_
            refine then_r ?_
            refine then_r ?_
            refine blk_r ?_
            refine then_r ?_
            exact bodyPost_ret (res2 rfl (rv_c hs 0 (v := .agg #[.int .u64 0, .int .u64 0, .int .u64 0, .int .u64 0]) rfl rfl Try.isAgg24 Try.sizeOf24 rfl) (rv_t hs rfl)) hs.defers ⟨by rw [tx_V0 (tx_bad hp7 (by omega)) (by decide), (tx_bad hp7 (by omega))]; first | done | rfl, hs.below⟩
          · skip
            by_cases hq10 : 57 < sb s i
            · skip
              refine wp_region_lit ?_
              refine lstep (wpO_plain rfl (op_move hs none rfl rfl rfl rfl fun ac hs => ?_))
              refine lstep (wpO_plain rfl (op_move hs none rfl rfl rfl rfl fun ac hs => ?_))
              have l11 := sb_lt s i
              refine lstep (wpO_plain rfl (op_index hs none (v := .int .u8 ((sb s i : Nat) : Int)) rfl rfl rfl rfl (idx_s (j := i) Try.underlying9 (show i < s.size by omega)) rfl fun ac hs => ?_))
              refine lstep (wpO_plain rfl (op_bin hs none (v := .bool false) rfl rfl rfl rfl (fun _ => rfl) (fun w => dF hq8 (bin_lssN (x := sb s i) (y := 48) w)) rfl fun ac hs => ?_))
              refine lstep (wpO_plain rfl (op_move hs none rfl rfl rfl rfl fun ac hs => ?_))
              refine lstep (wpO_in hs rfl rfl rfl (op_move hs none rfl rfl rfl rfl fun ac hs => ?_))
              refine lstep (wpO_in hs rfl rfl rfl (op_move hs none rfl rfl rfl rfl fun ac hs => ?_))
              have l12 := sb_lt s i
              refine lstep (wpO_in hs rfl rfl rfl (op_index hs none (v := .int .u8 ((sb s i : Nat) : Int)) rfl rfl rfl rfl (idx_s (j := i) Try.underlying9 (show i < s.size by omega)) rfl fun ac hs => ?_))
              refine lstep (wpO_in hs rfl rfl rfl (op_bin hs none (v := .bool true) rfl rfl rfl rfl (fun _ => rfl) (fun w => dT hq10 (bin_gtrN (x := sb s i) (y := 57) w)) rfl fun ac hs => ?_))
              refine lstep (wpO_plain rfl (op_pickF hs none rfl rfl rfl rfl rfl fun ac hs => ?_))
              refine wpList_nil ?_
              refine then_n ?_
              refine wp_cond_true (hs.ev rfl) ?_
              refine wp_seq ?_
              refine wp_region_lit ?_
              refine lstep (wpO_plain rfl (op_build hs none (qs := []) (v := .agg #[.int .u64 0, .int .u64 0, .int .u64 0, .int .u64 0]) rfl rfl rfl rfl (fun _ => by kernel_rfl) rfl fun ac hs => ?_))
              refine lstep (wpO_plain rfl (op_store hs 0 (vs := [.int .u64 0, .int .u64 0, .int .u64 0, .int .u64 0]) rfl rfl rfl rfl rfl Try.sizeOf24 rfl rfl rfl rfl rfl fun w hs => ?_))
              refine lstep (wpO_plain rfl (op_assign hs none rfl rfl rfl rfl fun ac hs => ?_))
              refine wpList_nil ?_
              refine then_n ?_
              refine wp_ret ?_
              refine blk_r ?_
              refine then_r ?_
              refine then_r ?_
              refine blk_r ?_
              refine then_r ?_
              exact bodyPost_ret (res2 rfl (rv_c hs 0 (v := .agg #[.int .u64 0, .int .u64 0, .int .u64 0, .int .u64 0]) rfl rfl Try.isAgg24 Try.sizeOf24 rfl) (rv_t hs rfl)) hs.defers ⟨by rw [tx_V0 (tx_bad hp7 (by omega)) (by decide), (tx_bad hp7 (by omega))]; first | done | rfl, hs.below⟩
            · skip
              have hd1 : 48 ≤ sb s i := by omega
              have hd2 : sb s i ≤ 57 := by omega
              refine wp_region_lit ?_
              refine lstep (wpO_plain rfl (op_move hs none rfl rfl rfl rfl fun ac hs => ?_))
              refine lstep (wpO_plain rfl (op_move hs none rfl rfl rfl rfl fun ac hs => ?_))
              have l13 := sb_lt s i
              refine lstep (wpO_plain rfl (op_index hs none (v := .int .u8 ((sb s i : Nat) : Int)) rfl rfl rfl rfl (idx_s (j := i) Try.underlying9 (show i < s.size by omega)) rfl fun ac hs => ?_))
              refine lstep (wpO_plain rfl (op_bin hs none (v := .bool false) rfl rfl rfl rfl (fun _ => rfl) (fun w => dF hq8 (bin_lssN (x := sb s i) (y := 48) w)) rfl fun ac hs => ?_))
              refine lstep (wpO_plain rfl (op_move hs none rfl rfl rfl rfl fun ac hs => ?_))
              refine lstep (wpO_in hs rfl rfl rfl (op_move hs none rfl rfl rfl rfl fun ac hs => ?_))
              refine lstep (wpO_in hs rfl rfl rfl (op_move hs none rfl rfl rfl rfl fun ac hs => ?_))
              have l14 := sb_lt s i
              refine lstep (wpO_in hs rfl rfl rfl (op_index hs none (v := .int .u8 ((sb s i : Nat) : Int)) rfl rfl rfl rfl (idx_s (j := i) Try.underlying9 (show i < s.size by omega)) rfl fun ac hs => ?_))
              refine lstep (wpO_in hs rfl rfl rfl (op_bin hs none (v := .bool false) rfl rfl rfl rfl (fun _ => rfl) (fun w => dF hq10 (bin_gtrN (x := sb s i) (y := 57) w)) rfl fun ac hs => ?_))
              refine lstep (wpO_plain rfl (op_pickF hs none rfl rfl rfl rfl rfl fun ac hs => ?_))
              refine wpList_nil ?_
              refine then_n ?_
              refine wp_cond_false (hs.ev rfl) ?_
              refine wp_skip ?_
              refine blk_n ?_
              refine then_n ?_
              refine wp_region_lit ?_
              refine lstep (wpO_plain rfl (op_move hs none rfl rfl rfl rfl fun ac hs => ?_))
              refine lstep (wpO_plain rfl (op_bin hs none (v := .int .i64 ((i + 1 : Nat) : Int)) rfl rfl rfl rfl (fun _ => rfl) (bin_addN (x := i) (y := 1) (z := i + 1) rfl (show i + 1 < 9223372036854775808 by omega)) rfl fun ac hs => ?_))
              refine lstep (wpO_plain rfl (op_assign hs none rfl rfl rfl rfl fun ac hs => ?_))
              refine wpList_nil ?_
              refine then_n ?_
              exact ⟨_, ⟨(i + 1), rfl, (by omega), (figs_succ hfg hd1 hd2), (hs.re ⟨rfl, rfl, rfl, rfl, trivial⟩)⟩, (by omega)⟩
        · skip
          have hp15 := of_decide_eq_false hc
          obtain rfl : i = s.size := by omega
          refine wp_exit ?_
          refine then_e ?_
          refine then_e ?_
          refine blk_e ?_
          refine then_n ?_
          refine wp_seq ?_
          refine wp_region_lit ?_
          refine lstep (wpO_plain rfl (op_build hs none (qs := []) (v := .agg #[.int .u64 0, .int .u64 0, .int .u64 0, .int .u64 0]) rfl rfl rfl rfl (fun _ => by kernel_rfl) rfl fun ac hs => ?_))
          refine lstep (wpO_plain rfl (op_alloc hs none none (cs := [.int .u64 0, .int .u64 0, .int .u64 0, .int .u64 0]) rfl rfl Try.zeroValue24 (by kernel_rfl) rfl rfl fun g16 ac w hs => ?_))
          refine lstep (wpO_plain rfl (op_store hs 1 (vs := [.int .u64 0, .int .u64 0, .int .u64 0, .int .u64 0]) rfl rfl rfl rfl rfl Try.sizeOf24 rfl rfl rfl rfl rfl fun w hs => ?_))
          refine wpList_nil ?_
          refine then_n ?_
          refine wp_seq ?_
          refine wp_seq ?_
          refine wp_region_lit ?_
          refine lstep (wpO_plain rfl (op_assign hs none rfl rfl rfl rfl fun ac hs => ?_))
          refine wpList_nil ?_
          refine then_n ?_
          refine wp_block ?_
          refine wp_loop_m (fun μ ac w => ∃ (i : Nat) (T : Nat), (s.size - i) = μ ∧ (i ≤ s.size) ∧ (T < 2 ^ 256) ∧ (dv s i % 2 ^ 256 = T) ∧ (¬ 2 ^ 256 ≤ dv s i) ∧ St 75 w0 [(0, true, .string s), (2, true, .pointer (some ⟨g1, 0, none⟩)), (3, true, .int .i64 0), (5, true, .pointer (some ⟨g16, 0, none⟩)), (6, true, .int .i64 ((i : Nat) : Int))] [(true, g1, 24, [.int .u64 0, .int .u64 0, .int .u64 0, .int .u64 0]), (true, g16, 24, (Wl T))] ac w) ?_ ?_
          · exact ⟨_, 0, 0, rfl, (Nat.zero_le _), (by decide), (dv_0 s), (of_decide_eq_false (dv_0n s)), (hs.re ⟨rfl, rfl, rfl, rfl, rfl, trivial⟩)⟩
          intro μ ac w ⟨i, T, hμ, hi, lT, hT, hno, hs⟩
          refine wp_seq ?_
          refine wp_seq ?_
          refine wp_region_lit ?_
          refine lstep (wpO_plain rfl (op_move hs none rfl rfl rfl rfl fun ac hs => ?_))
          refine lstep (wpO_plain rfl (op_move hs none rfl rfl rfl rfl fun ac hs => ?_))
          refine lstep (wpO_plain rfl (op_blt hs none (v := .int .i64 ((s.size : Nat) : Int)) rfl rfl rfl (blt_lenS Try.underlying9 (show s.size < 9223372036854775808 by omega)) rfl fun ac hs => ?_))
          refine lstep (wpO_plain rfl (op_bin hs none (v := .bool (decide (i < s.size))) rfl rfl rfl rfl (fun _ => rfl) (bin_lssN (x := i) (y := s.size)) rfl fun ac hs => ?_))
          refine wpList_nil ?_
          refine then_n ?_
          refine wp_cond_split (hs.ev rfl) (fun hc => ?_) (fun hc => ?_)
          · skip
            have hp17 := of_decide_eq_true hc
            have hlt : i < s.size := hp17
            have hd1 := (hfg i hlt).1
            refine wp_skip ?_
            refine then_n ?_
            refine wp_seq ?_
            refine wp_block ?_
            refine wp_seq ?_
            refine wp_region_lit ?_
            refine lstep (wpO_plain rfl (op_load hs none 1 (v := W T) rfl rfl rfl rfl Try.isAgg24 Try.sizeOf24 rfl rfl fun ac hs => ?_))
            refine lstep (wpO_plain rfl (op_build hs none (qs := [(0, .int .u64 10)]) (v := .agg #[.int .u64 10, .int .u64 0, .int .u64 0, .int .u64 0]) rfl rfl rfl rfl (fun _ => by kernel_rfl) rfl fun ac hs => ?_))
            obtain ⟨lo18, hlo18, llo18⟩ : ∃ z0, T * 10 % 2 ^ 256 = z0 ∧ z0 < 2 ^ 256 := ⟨_, rfl, Nat.mod_lt _ (Nat.two_pow_pos 256)⟩
            obtain ⟨hi19, hhi19, lhi19⟩ : ∃ z0, T * 10 / 2 ^ 256 = z0 ∧ z0 < 2 ^ 256 := ⟨_, rfl, mul_hi lT (by decide)⟩
            refine lstep (wpO_plain rfl (op_call (F := 30) hs none (v := .tuple #[W lo18, W hi19]) rfl rfl rfl rfl (Try.call30 _) (rmul_c T 10 lo18 hi19 lT (by decide) hlo18 hhi19) rfl fun ac w hs => ?_))
            refine lstep (wpO_plain rfl (op_move hs none rfl rfl rfl rfl fun ac hs => ?_))
            refine lstep (wpO_plain rfl (op_extract hs none rfl rfl rfl rfl rfl fun ac hs => ?_))
            refine lstep (wpO_plain rfl (op_extract hs none rfl rfl rfl rfl rfl fun ac hs => ?_))
            refine lstep (wpO_plain rfl (op_alloc hs none none (cs := [.int .u64 0, .int .u64 0, .int .u64 0, .int .u64 0]) rfl rfl Try.zeroValue24 (by kernel_rfl) rfl rfl fun g20 ac w hs => ?_))
            refine lstep (wpO_plain rfl (op_alloc hs none none (cs := [.int .u64 0, .int .u64 0, .int .u64 0, .int .u64 0]) rfl rfl Try.zeroValue24 (by kernel_rfl) rfl rfl fun g21 ac w hs => ?_))
            refine lstep (wpO_plain rfl (op_store hs 2 (vs := (Wl lo18)) rfl rfl rfl rfl rfl Try.sizeOf24 rfl rfl rfl rfl rfl fun w hs => ?_))
            refine lstep (wpO_plain rfl (op_store hs 3 (vs := (Wl hi19)) rfl rfl rfl rfl rfl Try.sizeOf24 rfl rfl rfl rfl rfl fun w hs => ?_))
            refine wpList_nil ?_
            refine then_n ?_
            refine wp_seq ?_
            replace hs : St 75 w0 [(0, true, .string s), (2, true, .pointer (some ⟨g1, 0, none⟩)), (3, true, .int .i64 0), (5, true, .pointer (some ⟨g16, 0, none⟩)), (6, true, .int .i64 ((i : Nat) : Int)), (7, true, .pointer (some ⟨g20, 0, none⟩)), (8, true, .pointer (some ⟨g21, 0, none⟩))] [(true, g1, 24, [.int .u64 0, .int .u64 0, .int .u64 0, .int .u64 0]), (true, g16, 24, (Wl T)), (true, g20, 24, (Wl lo18)), (true, g21, 24, (Wl hi19))] ac _ := hs.re ⟨rfl, rfl, rfl, rfl, rfl, rfl, rfl, trivial⟩
            have l22 := sb_lt s i
            obtain ⟨s23, hs23, ls23⟩ : ∃ z0, (lo18 + (sb s i - 48)) % 2 ^ 256 = z0 ∧ z0 < 2 ^ 256 := ⟨_, rfl, Nat.mod_lt _ (Nat.two_pow_pos 256)⟩
            obtain ⟨c24, hc24⟩ : ∃ z0, (lo18 + (sb s i - 48)) / 2 ^ 256 = z0 := ⟨_, rfl⟩
            refine region_inv [([], [7, 8, 9, 10, 12, 13]), ([], [3, 4, 5, 6, 7, 8, 9, 10, 12, 13]), ([], [3, 4, 5, 6, 7, 8, 9, 10, 12, 13]), ([1, 2], [4, 5, 6, 7, 8, 9, 10, 12, 13]), ([1, 2, 3], [5, 6, 7, 8, 9, 10, 12, 13]), ([1, 2, 3, 4], [6, 7, 8, 9, 10, 12, 13]), ([1, 2, 3, 4, 5], [7, 8, 9, 10, 12, 13]), ([0, 1, 2, 3, 4, 5, 6], [8, 9, 10, 12, 13]), ([0, 1, 2, 3, 4, 5, 6, 7], [9, 10, 12, 13]), ([0, 1, 2, 3, 4, 5, 6, 7, 8], [12, 13]), ([0, 1, 2, 3, 4, 5, 6, 7, 8], [13]), ([], [12, 13]), ([0, 1, 2, 3, 4, 5, 6, 7, 8, 9, 11], [13]), ([0, 1, 2, 3, 4, 5, 6, 7, 8, 9, 10, 11, 12], [])] (fun L ac w => ∃ (g25 : Nat), St 75 w0 [(55, L 0, W lo18), (56, L 1, .string s), (57, L 2, .int .i64 ((i : Nat) : Int)), (58, L 3, .int .u8 ((sb s i : Nat) : Int)), (59, L 4, .int .u8 ((sb s i - 48 : Nat) : Int)), (60, L 5, .int .u64 ((sb s i - 48 : Nat) : Int)), (61, L 6, W (sb s i - 48)), (62, L 7, .tuple #[W s23, .int .u64 ((c24 : Nat) : Int)]), (54, L 8, .tuple #[W s23, .int .u64 ((c24 : Nat) : Int)]), (63, L 9, W s23), (64, L 10, .int .u64 ((c24 : Nat) : Int)), (9, L 11, .pointer (some ⟨g25, 0, none⟩)), (10, L 13, .int .u64 ((c24 : Nat) : Int)), (0, true, .string s), (2, true, .pointer (some ⟨g1, 0, none⟩)), (3, true, .int .i64 0), (5, true, .pointer (some ⟨g16, 0, none⟩)), (6, true, .int .i64 ((i : Nat) : Int)), (7, true, .pointer (some ⟨g20, 0, none⟩)), (8, true, .pointer (some ⟨g21, 0, none⟩))] [(true, g1, 24, [.int .u64 0, .int .u64 0, .int .u64 0, .int .u64 0]), (true, g16, 24, (Wl T)), (true, g20, 24, (Wl lo18)), (true, g21, 24, (Wl hi19)), (L 11, g25, 24, (cond (L 12) (Wl s23) [.int .u64 0, .int .u64 0, .int .u64 0, .int .u64 0]))] ac w) (by kernel_rfl) (by kernel_rfl) ?_ ?_ ?_
            · exact ⟨0, hs.drew.skip.skip.skip.skip.skip.skip.skip.skip.skip.skip.skip.skip.skip.pad⟩
            · refine ⟨?_, ?_, ?_, ?_, ?_, ?_, ?_, ?_, ?_, ?_, ?_, ?_, ?_, ?_, trivial⟩
              · intro L ac w hJ
                obtain ⟨g25, hs⟩ := hJ
                refine wpO_plain rfl (op_load hs (some 0) 2 (v := W lo18) rfl rfl rfl rfl Try.isAgg24 Try.sizeOf24 rfl rfl fun ac hs => ?_)
                exact ⟨g25, hs⟩
              · intro L ac w hJ
                obtain ⟨g25, hs⟩ := hJ
                refine wpO_plain rfl (op_move hs (some 1) rfl rfl rfl rfl fun ac hs => ?_)
                exact ⟨g25, hs⟩
              · intro L ac w hJ
                obtain ⟨g25, hs⟩ := hJ
                refine wpO_plain rfl (op_move hs (some 2) rfl rfl rfl rfl fun ac hs => ?_)
                exact ⟨g25, hs⟩
              · intro L ac w hJ
                obtain ⟨g25, hs⟩ := hJ
                refine wpO_plain rfl (op_index hs (some 3) (v := .int .u8 ((sb s i : Nat) : Int)) rfl rfl rfl rfl (idx_s (j := i) Try.underlying9 (show i < s.size by omega)) rfl fun ac hs => ?_)
                exact ⟨g25, hs⟩
              · intro L ac w hJ
                obtain ⟨g25, hs⟩ := hJ
                refine wpO_plain rfl (op_bin hs (some 4) (v := .int .u8 ((sb s i - 48 : Nat) : Int)) rfl rfl rfl rfl (fun _ => rfl) (bin_subN (x := sb s i) (y := 48) (z := sb s i - 48) (by omega) (show sb s i - 48 < 256 by omega)) rfl fun ac hs => ?_)
                exact ⟨g25, hs⟩
              · intro L ac w hJ
                obtain ⟨g25, hs⟩ := hJ
                refine wpO_plain rfl (op_convert hs (some 5) (v := .int .u64 ((sb s i - 48 : Nat) : Int)) rfl rfl rfl (conv_N Try.underlying5 Try.underlying22 (show sb s i - 48 < 18446744073709551616 by omega)) rfl fun ac hs => ?_)
                exact ⟨g25, hs⟩
              · intro L ac w hJ
                obtain ⟨g25, hs⟩ := hJ
                refine wpO_plain rfl (op_build hs (some 6) (qs := [(0, .int .u64 ((sb s i - 48 : Nat) : Int))]) (v := W (sb s i - 48)) rfl rfl rfl rfl (fun _ => by rw [W_small (sb s i - 48) (show sb s i - 48 < 2 ^ 64 by omega)]; kernel_rfl) rfl fun ac hs => ?_)
                exact ⟨g25, hs⟩
              · intro L ac w hJ
                obtain ⟨g25, hs⟩ := hJ
                refine wpO_plain rfl (op_call (F := 12) hs (some 7) (v := .tuple #[W s23, .int .u64 ((c24 : Nat) : Int)]) rfl rfl rfl rfl (Try.call12 _) (radd06_c lo18 (sb s i - 48) s23 c24 llo18 (show sb s i - 48 < 2 ^ 256 by omega) hs23 hc24) rfl fun ac w hs => ?_)
                exact ⟨g25, hs⟩
              · intro L ac w hJ
                obtain ⟨g25, hs⟩ := hJ
                refine wpO_plain rfl (op_move hs (some 8) rfl rfl rfl rfl fun ac hs => ?_)
                exact ⟨g25, hs⟩
              · intro L ac w hJ
                obtain ⟨g25, hs⟩ := hJ
                refine wpO_plain rfl (op_extract hs (some 9) rfl rfl rfl rfl rfl fun ac hs => ?_)
                exact ⟨g25, hs⟩
              · intro L ac w hJ
                obtain ⟨g25, hs⟩ := hJ
                refine wpO_plain rfl (op_extract hs (some 10) rfl rfl rfl rfl rfl fun ac hs => ?_)
                exact ⟨g25, hs⟩
              · intro L ac w hJ
                obtain ⟨g25, hs⟩ := hJ
                refine wpO_plain rfl (op_alloc hs (some 11) (some 4) (cs := [.int .u64 0, .int .u64 0, .int .u64 0, .int .u64 0]) rfl rfl Try.zeroValue24 (by kernel_rfl) rfl rfl fun g25 ac w hs => ?_)
                exact ⟨g25, hs⟩
              · intro L ac w hJ
                obtain ⟨g25, hs⟩ := hJ
                refine wpO_plain rfl (op_store hs 4 (vs := (Wl s23)) rfl rfl rfl rfl rfl Try.sizeOf24 rfl rfl rfl rfl rfl fun w hs => ?_)
                exact ⟨g25, hs⟩
              · intro L ac w hJ
                obtain ⟨g25, hs⟩ := hJ
                refine wpO_plain rfl (op_assign hs (some 12) rfl rfl rfl rfl fun ac hs => ?_)
                exact ⟨g25, hs⟩
            intro ac w hJ
            obtain ⟨g25, hs⟩ := hJ
            replace hs : St 75 w0 [(55, true, W lo18), (56, true, .string s), (57, true, .int .i64 ((i : Nat) : Int)), (58, true, .int .u8 ((sb s i : Nat) : Int)), (59, true, .int .u8 ((sb s i - 48 : Nat) : Int)), (60, true, .int .u64 ((sb s i - 48 : Nat) : Int)), (61, true, W (sb s i - 48)), (62, true, .tuple #[W s23, .int .u64 ((c24 : Nat) : Int)]), (54, true, .tuple #[W s23, .int .u64 ((c24 : Nat) : Int)]), (63, true, W s23), (64, true, .int .u64 ((c24 : Nat) : Int)), (9, true, .pointer (some ⟨g25, 0, none⟩)), (10, true, .int .u64 ((c24 : Nat) : Int)), (0, true, .string s), (2, true, .pointer (some ⟨g1, 0, none⟩)), (3, true, .int .i64 0), (5, true, .pointer (some ⟨g16, 0, none⟩)), (6, true, .int .i64 ((i : Nat) : Int)), (7, true, .pointer (some ⟨g20, 0, none⟩)), (8, true, .pointer (some ⟨g21, 0, none⟩))] [(true, g1, 24, [.int .u64 0, .int .u64 0, .int .u64 0, .int .u64 0]), (true, g16, 24, (Wl T)), (true, g20, 24, (Wl lo18)), (true, g21, 24, (Wl hi19)), (true, g25, 24, (Wl s23))] ac w := hs
            refine then_n ?_
            refine wp_seq ?_
            refine wp_seq ?_
            by_cases hq26 : hi19 = 0
            · skip
              refine wp_region_lit ?_
              refine lstep (wpO_plain rfl (op_load hs none 3 (v := W hi19) rfl rfl rfl rfl Try.isAgg24 Try.sizeOf24 rfl rfl fun ac hs => ?_))
              refine lstep (wpO_plain rfl (op_build hs none (qs := []) (v := .agg #[.int .u64 0, .int .u64 0, .int .u64 0, .int .u64 0]) rfl rfl rfl rfl (fun _ => by kernel_rfl) rfl fun ac hs => ?_))
              refine lstep (wpO_plain rfl (op_bin hs none (v := .bool false) rfl rfl rfl rfl (fun w => run_eqGuard_agg w .neq 24 _ _ _ _ Try.eqGuardType24) (neqW hi19 0 lhi19 (by decide) false (decide_eq_false (not_not_intro hq26))) rfl fun ac hs => ?_))
              refine lstep (wpO_plain rfl (op_move hs none rfl rfl rfl rfl fun ac hs => ?_))
              refine lstep (wpO_in hs rfl rfl rfl (op_move hs none rfl rfl rfl rfl fun ac hs => ?_))
              refine lstep (wpO_in hs rfl rfl rfl (op_bin hs none (v := .bool (decide (0 < c24))) rfl rfl rfl rfl (fun _ => rfl) (bin_gtrN (x := c24) (y := 0)) rfl fun ac hs => ?_))
              refine lstep (wpO_plain rfl (op_pickF hs none rfl rfl rfl rfl rfl fun ac hs => ?_))
              refine wpList_nil ?_
              refine then_n ?_
              refine wp_cond_split (hs.ev rfl) (fun hc => ?_) (fun hc => ?_)
              · skip
                have hp27 := of_decide_eq_true hc
                refine wp_seq ?_
                refine wp_region_lit ?_
                refine lstep (wpO_plain rfl (op_build hs none (qs := []) (v := .agg #[.int .u64 0, .int .u64 0, .int .u64 0, .int .u64 0]) rfl rfl rfl rfl (fun _ => by kernel_rfl) rfl fun ac hs => ?_))
                refine lstep (wpO_plain rfl (op_store hs 0 (vs := [.int .u64 0, .int .u64 0, .int .u64 0, .int .u64 0]) rfl rfl rfl rfl rfl Try.sizeOf24 rfl rfl rfl rfl rfl fun w hs => ?_))
                refine lstep (wpO_plain rfl (op_assign hs none rfl rfl rfl rfl fun ac hs => ?_))
                refine wpList_nil ?_
                refine then_n ?_
                refine wp_ret ?_
                refine then_r ?_
                refine blk_r ?_
                refine then_r ?_
                refine then_r ?_
                refine blk_r ?_
                refine then_r ?_
                exact bodyPost_ret (res2 rfl (rv_c hs 0 (v := .agg #[.int .u64 0, .int .u64 0, .int .u64 0, .int .u64 0]) rfl rfl Try.isAgg24 Try.sizeOf24 rfl) (rv_t hs rfl)) hs.defers ⟨by rw [tx_V0 (tx_big (by have := hq2; have := hq3; omega) hfg (Nat.le_trans (acc_big hno hT hlo18 hhi19 hs23 hc24 hq26 hp27) (dv_le hlt))) (by decide), (tx_big (by have := hq2; have := hq3; omega) hfg (Nat.le_trans (acc_big hno hT hlo18 hhi19 hs23 hc24 hq26 hp27) (dv_le hlt)))]; first | done | rfl, hs.below⟩
              · skip
                have hp28 := of_decide_eq_false hc
                refine wp_skip ?_
                refine then_n ?_
                refine wp_region_lit ?_
                refine lstep (wpO_plain rfl (op_load hs none 4 (v := W s23) rfl rfl rfl rfl Try.isAgg24 Try.sizeOf24 rfl rfl fun ac hs => ?_))
                refine lstep (wpO_plain rfl (op_store hs 1 (vs := (Wl s23)) rfl rfl rfl rfl rfl Try.sizeOf24 rfl rfl rfl rfl rfl fun w hs => ?_))
                refine wpList_nil ?_
                refine blk_n ?_
                refine then_n ?_
                refine wp_region_lit ?_
                refine lstep (wpO_plain rfl (op_move hs none rfl rfl rfl rfl fun ac hs => ?_))
                refine lstep (wpO_plain rfl (op_bin hs none (v := .int .i64 ((i + 1 : Nat) : Int)) rfl rfl rfl rfl (fun _ => rfl) (bin_addN (x := i) (y := 1) (z := i + 1) rfl (show i + 1 < 9223372036854775808 by omega)) rfl fun ac hs => ?_))
                refine lstep (wpO_plain rfl (op_assign hs none rfl rfl rfl rfl fun ac hs => ?_))
                refine wpList_nil ?_
                refine then_n ?_
                exact ⟨_, ⟨(i + 1), s23, rfl, (by omega), ls23, (acc_val hT hlo18 hs23), (acc_fit hno hT hlo18 hhi19 hs23 hc24 hq26 hp28), ((hs.takeb 2).re ⟨rfl, rfl, rfl, rfl, rfl, trivial⟩)⟩, (by omega)⟩
            · skip
              refine wp_region_lit ?_
              refine lstep (wpO_plain rfl (op_load hs none 3 (v := W hi19) rfl rfl rfl rfl Try.isAgg24 Try.sizeOf24 rfl rfl fun ac hs => ?_))
              refine lstep (wpO_plain rfl (op_build hs none (qs := []) (v := .agg #[.int .u64 0, .int .u64 0, .int .u64 0, .int .u64 0]) rfl rfl rfl rfl (fun _ => by kernel_rfl) rfl fun ac hs => ?_))
              refine lstep (wpO_plain rfl (op_bin hs none (v := .bool true) rfl rfl rfl rfl (fun w => run_eqGuard_agg w .neq 24 _ _ _ _ Try.eqGuardType24) (neqW hi19 0 lhi19 (by decide) true (decide_eq_true hq26)) rfl fun ac hs => ?_))
              refine lstep (wpO_plain rfl (op_move hs none rfl rfl rfl rfl fun ac hs => ?_))
              refine lstep (wpO_out hs none rfl rfl (.inl rfl) rfl rfl fun ac hs => ?_)
              refine lstep (wpO_out hs none rfl rfl (.inl rfl) rfl rfl fun ac hs => ?_)
              refine lstep (wpO_plain rfl (op_pickT hs none rfl rfl rfl rfl rfl fun ac hs => ?_))
              refine wpList_nil ?_
              refine then_n ?_
              refine wp_cond_true (hs.ev rfl) ?_
              refine wp_seq ?_
              refine wp_region_lit ?_
              refine lstep (wpO_plain rfl (op_build hs none (qs := []) (v := .agg #[.int .u64 0, .int .u64 0, .int .u64 0, .int .u64 0]) rfl rfl rfl rfl (fun _ => by kernel_rfl) rfl fun ac hs => ?_))
              refine lstep (wpO_plain rfl (op_store hs 0 (vs := [.int .u64 0, .int .u64 0, .int .u64 0, .int .u64 0]) rfl rfl rfl rfl rfl Try.sizeOf24 rfl rfl rfl rfl rfl fun w hs => ?_))
              refine lstep (wpO_plain rfl (op_assign hs none rfl rfl rfl rfl fun ac hs => ?_))
              refine wpList_nil ?_
              refine then_n ?_
              refine wp_ret ?_
              refine then_r ?_
              refine blk_r ?_
              refine then_r ?_
              refine then_r ?_
              refine blk_r ?_
              refine then_r ?_
              exact bodyPost_ret (res2 rfl (rv_c hs 0 (v := .agg #[.int .u64 0, .int .u64 0, .int .u64 0, .int .u64 0]) rfl rfl Try.isAgg24 Try.sizeOf24 rfl) (rv_t hs rfl)) hs.defers ⟨by rw [tx_V0 (tx_big (by have := hq2; have := hq3; omega) hfg (Nat.le_trans (acc_hi hno hT hlo18 hhi19 hs23 hc24 hq26) (dv_le hlt))) (by decide), (tx_big (by have := hq2; have := hq3; omega) hfg (Nat.le_trans (acc_hi hno hT hlo18 hhi19 hs23 hc24 hq26) (dv_le hlt)))]; first | done | rfl, hs.below⟩
          · skip
            have hp29 := of_decide_eq_false hc
            obtain rfl : i = s.size := by omega
            refine wp_exit ?_
            refine then_e ?_
            refine then_e ?_
            refine blk_e ?_
            refine then_n ?_
            refine wp_seq ?_
            refine wp_region_lit ?_
            refine lstep (wpO_plain rfl (op_load hs none 1 (v := W T) rfl rfl rfl rfl Try.isAgg24 Try.sizeOf24 rfl rfl fun ac hs => ?_))
            refine lstep (wpO_plain rfl (op_store hs 0 (vs := (Wl T)) rfl rfl rfl rfl rfl Try.sizeOf24 rfl rfl rfl rfl rfl fun w hs => ?_))
            refine lstep (wpO_plain rfl (op_assign hs none rfl rfl rfl rfl fun ac hs => ?_))
            refine wpList_nil ?_
            refine then_n ?_
            refine wp_ret ?_
            exact bodyPost_ret (res2 rfl (rv_c hs 0 (v := W T) rfl rfl Try.isAgg24 Try.sizeOf24 rfl) (rv_t hs rfl)) hs.defers ⟨by have hz := tx_ok (by have := hq2; have := hq3; omega) hfg hno; rw [tx_V hz, hz, ← hT, Nat.mod_eq_of_lt (Nat.lt_of_not_le hno)]; first | done | rfl, hs.below⟩
    · skip
      refine wp_region_lit ?_
      refine lstep (wpO_plain rfl (op_move hs none rfl rfl rfl rfl fun ac hs => ?_))
      refine lstep (wpO_plain rfl (op_bin hs none (v := .bool false) rfl rfl rfl rfl (fun _ => rfl) (bin_eqlS (b := false) (tx_size0.trans (decide_eq_false hq2))) rfl fun ac hs => ?_))
      refine lstep (wpO_plain rfl (op_move hs none rfl rfl rfl rfl fun ac hs => ?_))
      refine lstep (wpO_in hs rfl rfl rfl (op_move hs none rfl rfl rfl rfl fun ac hs => ?_))
      refine lstep (wpO_in hs rfl rfl rfl (op_blt hs none (v := .int .i64 ((s.size : Nat) : Int)) rfl rfl rfl (blt_lenS Try.underlying9 (show s.size < 9223372036854775808 by omega)) rfl fun ac hs => ?_))
      refine lstep (wpO_in hs rfl rfl rfl (op_bin hs none (v := .bool false) rfl rfl rfl rfl (fun _ => rfl) (fun w => dF hq3 (bin_gtrN (x := s.size) (y := 1) w)) rfl fun ac hs => ?_))
      refine lstep (wpO_in hs rfl rfl rfl (op_move hs none rfl rfl rfl rfl fun ac hs => ?_))
      refine lstep (wpO_out hs none rfl rfl (.inl rfl) rfl rfl fun ac hs => ?_)
      refine lstep (wpO_out hs none rfl rfl (.inl rfl) rfl rfl fun ac hs => ?_)
      refine lstep (wpO_out hs none rfl rfl (.inl rfl) rfl rfl fun ac hs => ?_)
      refine lstep (wpO_in hs rfl rfl rfl (op_pickF hs none rfl rfl rfl rfl rfl fun ac hs => ?_))
      refine lstep (wpO_plain rfl (op_pickF hs none rfl rfl rfl rfl rfl fun ac hs => ?_))
      refine wpList_nil ?_
      refine then_n ?_
      refine wp_cond_false (hs.ev rfl) ?_
      refine wp_skip ?_
      refine then_n ?_
      refine wp_seq ?_
      refine wp_seq ?_
      refine wp_region_lit ?_
      refine lstep (wpO_plain rfl (op_assign hs none rfl rfl rfl rfl fun ac hs => ?_))
      refine wpList_nil ?_
      refine then_n ?_
      refine wp_block ?_
      refine wp_loop_m (fun μ ac w => ∃ (i : Nat), (s.size - i) = μ ∧ (i ≤ s.size) ∧ (Figs s i) ∧ St 75 w0 [(0, true, .string s), (2, true, .pointer (some ⟨g1, 0, none⟩)), (3, true, .int .i64 0), (4, true, .int .i64 ((i : Nat) : Int))] [(true, g1, 24, [.int .u64 0, .int .u64 0, .int .u64 0, .int .u64 0])] ac w) ?_ ?_
      · exact ⟨_, 0, rfl, (Nat.zero_le _), (fun j hj => absurd hj (Nat.not_lt_zero j)), (hs.re ⟨rfl, rfl, rfl, rfl, trivial⟩)⟩
      intro μ ac w ⟨i, hμ, hi, hfg, hs⟩
      refine wp_seq ?_
      refine wp_seq ?_
      refine wp_region_lit ?_
      refine lstep (wpO_plain rfl (op_move hs none rfl rfl rfl rfl fun ac hs => ?_))
      refine lstep (wpO_plain rfl (op_move hs none rfl rfl rfl rfl fun ac hs => ?_))
      refine lstep (wpO_plain rfl (op_blt hs none (v := .int .i64 ((s.size : Nat) : Int)) rfl rfl rfl (blt_lenS Try.underlying9 (show s.size < 9223372036854775808 by omega)) rfl fun ac hs => ?_))
      refine lstep (wpO_plain rfl (op_bin hs none (v := .bool (decide (i < s.size))) rfl rfl rfl rfl (fun _ => rfl) (bin_lssN (x := i) (y := s.size)) rfl fun ac hs => ?_))
      refine wpList_nil ?_
      refine then_n ?_
      refine wp_cond_split (hs.ev rfl) (fun hc => ?_) (fun hc => ?_)
      · skip
        have hp30 := of_decide_eq_true hc
        refine wp_skip ?_
        refine then_n ?_
        refine wp_seq ?_
        refine wp_block ?_
        refine wp_seq ?_
        by_cases hq31 : sb s i < 48
        · skip
          refine wp_region_lit ?_
          refine lstep (wpO_plain rfl (op_move hs none rfl rfl rfl rfl fun ac hs => ?_))
          refine lstep (wpO_plain rfl (op_move hs none rfl rfl rfl rfl fun ac hs => ?_))
          have l32 := sb_lt s i
          refine lstep (wpO_plain rfl (op_index hs none (v := .int .u8 ((sb s i : Nat) : Int)) rfl rfl rfl rfl (idx_s (j := i) Try.underlying9 (show i < s.size by omega)) rfl fun ac hs => ?_))
          refine lstep (wpO_plain rfl (op_bin hs none (v := .bool true) rfl rfl rfl rfl (fun _ => rfl) (fun w => dT hq31 (bin_lssN (x := sb s i) (y := 48) w)) rfl fun ac hs => ?_))
          refine lstep (wpO_plain rfl (op_move hs none rfl rfl rfl rfl fun ac hs => ?_))
          refine lstep (wpO_out hs none rfl rfl (.inl rfl) rfl rfl fun ac hs => ?_)
          refine lstep (wpO_out hs none rfl rfl (.inl rfl) rfl rfl fun ac hs => ?_)
          refine lstep (wpO_out hs none rfl rfl (.inl rfl) rfl rfl fun ac hs => ?_)
          refine lstep (wpO_out hs none rfl rfl (.inl rfl) rfl rfl fun ac hs => ?_)
          refine lstep (wpO_plain rfl (op_pickT hs none rfl rfl rfl rfl rfl fun ac hs => ?_))
          refine wpList_nil ?_
          refine then_n ?_
          refine wp_cond_true (hs.ev rfl) ?_
          refine wp_seq ?_
          refine wp_region_lit ?_
          refine lstep (wpO_plain rfl (op_build hs none (qs := []) (v := .agg #[.int .u64 0, .int .u64 0, .int .u64 0, .int .u64 0]) rfl rfl rfl rfl (fun _ => by kernel_rfl) rfl fun ac hs => ?_))
          refine lstep (wpO_plain rfl (op_store hs 0 (vs := [.int .u64 0, .int .u64 0, .int .u64 0, .int .u64 0]) rfl rfl rfl rfl rfl Try.sizeOf24 rfl rfl rfl rfl rfl fun w hs => ?_))
          refine lstep (wpO_plain rfl (op_assign hs none rfl rfl rfl rfl fun ac hs => ?_))
          refine wpList_nil ?_
          refine then_n ?_
          refine wp_ret ?_
          refine blk_r ?_
          refine then_r ?_
          refine then_r ?_
          refine blk_r ?_
          refine then_r ?_
          exact bodyPost_ret (res2 rfl (rv_c hs 0 (v := .agg #[.int .u64 0, .int .u64 0, .int .u64 0, .int .u64 0]) rfl rfl Try.isAgg24 Try.sizeOf24 rfl) (rv_t hs rfl)) hs.defers ⟨by rw [tx_V0 (tx_bad hp30 (by omega)) (by decide), (tx_bad hp30 (by omega))]; first | done | rfl, hs.below⟩
        · skip
          by_cases hq33 : 57 < sb s i
          · skip
            refine wp_region_lit ?_
            refine lstep (wpO_plain rfl (op_move hs none rfl rfl rfl rfl fun ac hs => ?_))
            refine lstep (wpO_plain rfl (op_move hs none rfl rfl rfl rfl fun ac hs => ?_))
            have l34 := sb_lt s i
            refine lstep (wpO_plain rfl (op_index hs none (v := .int .u8 ((sb s i : Nat) : Int)) rfl rfl rfl rfl (idx_s (j := i) Try.underlying9 (show i < s.size by omega)) rfl fun ac hs => ?_))
            refine lstep (wpO_plain rfl (op_bin hs none (v := .bool false) rfl rfl rfl rfl (fun _ => rfl) (fun w => dF hq31 (bin_lssN (x := sb s i) (y := 48) w)) rfl fun ac hs => ?_))
            refine lstep (wpO_plain rfl (op_move hs none rfl rfl rfl rfl fun ac hs => ?_))
            refine lstep (wpO_in hs rfl rfl rfl (op_move hs none rfl rfl rfl rfl fun ac hs => ?_))
            refine lstep (wpO_in hs rfl rfl rfl (op_move hs none rfl rfl rfl rfl fun ac hs => ?_))
            have l35 := sb_lt s i
            refine lstep (wpO_in hs rfl rfl rfl (op_index hs none (v := .int .u8 ((sb s i : Nat) : Int)) rfl rfl rfl rfl (idx_s (j := i) Try.underlying9 (show i < s.size by omega)) rfl fun ac hs => ?_))
            refine lstep (wpO_in hs rfl rfl rfl (op_bin hs none (v := .bool true) rfl rfl rfl rfl (fun _ => rfl) (fun w => dT hq33 (bin_gtrN (x := sb s i) (y := 57) w)) rfl fun ac hs => ?_))
            refine lstep (wpO_plain rfl (op_pickF hs none rfl rfl rfl rfl rfl fun ac hs => ?_))
            refine wpList_nil ?_
            refine then_n ?_
            refine wp_cond_true (hs.ev rfl) ?_
            refine wp_seq ?_
            refine wp_region_lit ?_
            refine lstep (wpO_plain rfl (op_build hs none (qs := []) (v := .agg #[.int .u64 0, .int .u64 0, .int .u64 0, .int .u64 0]) rfl rfl rfl rfl (fun _ => by kernel_rfl) rfl fun ac hs => ?_))
            refine lstep (wpO_plain rfl (op_store hs 0 (vs := [.int .u64 0, .int .u64 0, .int .u64 0, .int .u64 0]) rfl rfl rfl rfl rfl Try.sizeOf24 rfl rfl rfl rfl rfl fun w hs => ?_))
            refine lstep (wpO_plain rfl (op_assign hs none rfl rfl rfl rfl fun ac hs => ?_))
            refine wpList_nil ?_
            refine then_n ?_
            refine wp_ret ?_
            refine blk_r ?_
            refine then_r ?_
            refine then_r ?_
            refine blk_r ?_
            refine then_r ?_
            exact bodyPost_ret (res2 rfl (rv_c hs 0 (v := .agg #[.int .u64 0, .int .u64 0, .int .u64 0, .int .u64 0]) rfl rfl Try.isAgg24 Try.sizeOf24 rfl) (rv_t hs rfl)) hs.defers ⟨by rw [tx_V0 (tx_bad hp30 (by omega)) (by decide), (tx_bad hp30 (by omega))]; first | done | rfl, hs.below⟩
          · skip
            have hd1 : 48 ≤ sb s i := by omega
            have hd2 : sb s i ≤ 57 := by omega
            refine wp_region_lit ?_
            refine lstep (wpO_plain rfl (op_move hs none rfl rfl rfl rfl fun ac hs => ?_))
            refine lstep (wpO_plain rfl (op_move hs none rfl rfl rfl rfl fun ac hs => ?_))
            have l36 := sb_lt s i
            refine lstep (wpO_plain rfl (op_index hs none (v := .int .u8 ((sb s i : Nat) : Int)) rfl rfl rfl rfl (idx_s (j := i) Try.underlying9 (show i < s.size by omega)) rfl fun ac hs => ?_))
            refine lstep (wpO_plain rfl (op_bin hs none (v := .bool false) rfl rfl rfl rfl (fun _ => rfl) (fun w => dF hq31 (bin_lssN (x := sb s i) (y := 48) w)) rfl fun ac hs => ?_))
            refine lstep (wpO_plain rfl (op_move hs none rfl rfl rfl rfl fun ac hs => ?_))
            refine lstep (wpO_in hs rfl rfl rfl (op_move hs none rfl rfl rfl rfl fun ac hs => ?_))
            refine lstep (wpO_in hs rfl rfl rfl (op_move hs none rfl rfl rfl rfl fun ac hs => ?_))
            have l37 := sb_lt s i
            refine lstep (wpO_in hs rfl rfl rfl (op_index hs none (v := .int .u8 ((sb s i : Nat) : Int)) rfl rfl rfl rfl (idx_s (j := i) Try.underlying9 (show i < s.size by omega)) rfl fun ac hs => ?_))
            refine lstep (wpO_in hs rfl rfl rfl (op_bin hs none (v := .bool false) rfl rfl rfl rfl (fun _ => rfl) (fun w => dF hq33 (bin_gtrN (x := sb s i) (y := 57) w)) rfl fun ac hs => ?_))
            refine lstep (wpO_plain rfl (op_pickF hs none rfl rfl rfl rfl rfl fun ac hs => ?_))
            refine wpList_nil ?_
            refine then_n ?_
            refine wp_cond_false (hs.ev rfl) ?_
            refine wp_skip ?_
            refine blk_n ?_
            refine then_n ?_
            refine wp_region_lit ?_
            refine lstep (wpO_plain rfl (op_move hs none rfl rfl rfl rfl fun ac hs => ?_))
            refine lstep (wpO_plain rfl (op_bin hs none (v := .int .i64 ((i + 1 : Nat) : Int)) rfl rfl rfl rfl (fun _ => rfl) (bin_addN (x := i) (y := 1) (z := i + 1) rfl (show i + 1 < 9223372036854775808 by omega)) rfl fun ac hs => ?_))
            refine lstep (wpO_plain rfl (op_assign hs none rfl rfl rfl rfl fun ac hs => ?_))
            refine wpList_nil ?_
            refine then_n ?_
            exact ⟨_, ⟨(i + 1), rfl, (by omega), (figs_succ hfg hd1 hd2), (hs.re ⟨rfl, rfl, rfl, rfl, trivial⟩)⟩, (by omega)⟩
      · skip
        have hp38 := of_decide_eq_false hc
        obtain rfl : i = s.size := by omega
        refine wp_exit ?_
        refine then_e ?_
        refine then_e ?_
        refine blk_e ?_
        refine then_n ?_
        refine wp_seq ?_
        refine wp_region_lit ?_
        refine lstep (wpO_plain rfl (op_build hs none (qs := []) (v := .agg #[.int .u64 0, .int .u64 0, .int .u64 0, .int .u64 0]) rfl rfl rfl rfl (fun _ => by kernel_rfl) rfl fun ac hs => ?_))
        refine lstep (wpO_plain rfl (op_alloc hs none none (cs := [.int .u64 0, .int .u64 0, .int .u64 0, .int .u64 0]) rfl rfl Try.zeroValue24 (by kernel_rfl) rfl rfl fun g39 ac w hs => ?_))
        refine lstep (wpO_plain rfl (op_store hs 1 (vs := [.int .u64 0, .int .u64 0, .int .u64 0, .int .u64 0]) rfl rfl rfl rfl rfl Try.sizeOf24 rfl rfl rfl rfl rfl fun w hs => ?_))
        refine wpList_nil ?_
        refine then_n ?_
        refine wp_seq ?_
        refine wp_seq ?_
        refine wp_region_lit ?_
        refine lstep (wpO_plain rfl (op_assign hs none rfl rfl rfl rfl fun ac hs => ?_))
        refine wpList_nil ?_
        refine then_n ?_
        refine wp_block ?_
        refine wp_loop_m (fun μ ac w => ∃ (i : Nat) (T : Nat), (s.size - i) = μ ∧ (i ≤ s.size) ∧ (T < 2 ^ 256) ∧ (dv s i % 2 ^ 256 = T) ∧ (¬ 2 ^ 256 ≤ dv s i) ∧ St 75 w0 [(0, true, .string s), (2, true, .pointer (some ⟨g1, 0, none⟩)), (3, true, .int .i64 0), (5, true, .pointer (some ⟨g39, 0, none⟩)), (6, true, .int .i64 ((i : Nat) : Int))] [(true, g1, 24, [.int .u64 0, .int .u64 0, .int .u64 0, .int .u64 0]), (true, g39, 24, (Wl T))] ac w) ?_ ?_
        · exact ⟨_, 0, 0, rfl, (Nat.zero_le _), (by decide), (dv_0 s), (of_decide_eq_false (dv_0n s)), (hs.re ⟨rfl, rfl, rfl, rfl, rfl, trivial⟩)⟩
        intro μ ac w ⟨i, T, hμ, hi, lT, hT, hno, hs⟩
        refine wp_seq ?_
        refine wp_seq ?_
        refine wp_region_lit ?_
        refine lstep (wpO_plain rfl (op_move hs none rfl rfl rfl rfl fun ac hs => ?_))
        refine lstep (wpO_plain rfl (op_move hs none rfl rfl rfl rfl fun ac hs => ?_))
        refine lstep (wpO_plain rfl (op_blt hs none (v := .int .i64 ((s.size : Nat) : Int)) rfl rfl rfl (blt_lenS Try.underlying9 (show s.size < 9223372036854775808 by omega)) rfl fun ac hs => ?_))
        refine lstep (wpO_plain rfl (op_bin hs none (v := .bool (decide (i < s.size))) rfl rfl rfl rfl (fun _ => rfl) (bin_lssN (x := i) (y := s.size)) rfl fun ac hs => ?_))
        refine wpList_nil ?_
        refine then_n ?_
        refine wp_cond_split (hs.ev rfl) (fun hc => ?_) (fun hc => ?_)
        · skip
          have hp40 := of_decide_eq_true hc
          have hlt : i < s.size := hp40
          have hd1 := (hfg i hlt).1
          refine wp_skip ?_
          refine then_n ?_
          refine wp_seq ?_
          refine wp_block ?_
          refine wp_seq ?_
          refine wp_region_lit ?_
          refine lstep (wpO_plain rfl (op_load hs none 1 (v := W T) rfl rfl rfl rfl Try.isAgg24 Try.sizeOf24 rfl rfl fun ac hs => ?_))
          refine lstep (wpO_plain rfl (op_build hs none (qs := [(0, .int .u64 10)]) (v := .agg #[.int .u64 10, .int .u64 0, .int .u64 0, .int .u64 0]) rfl rfl rfl rfl (fun _ => by kernel_rfl) rfl fun ac hs => ?_))
          obtain ⟨lo41, hlo41, llo41⟩ : ∃ z0, T * 10 % 2 ^ 256 = z0 ∧ z0 < 2 ^ 256 := ⟨_, rfl, Nat.mod_lt _ (Nat.two_pow_pos 256)⟩
          obtain ⟨hi42, hhi42, lhi42⟩ : ∃ z0, T * 10 / 2 ^ 256 = z0 ∧ z0 < 2 ^ 256 := ⟨_, rfl, mul_hi lT (by decide)⟩
          refine lstep (wpO_plain rfl (op_call (F := 30) hs none (v := .tuple #[W lo41, W hi42]) rfl rfl rfl rfl (Try.call30 _) (rmul_c T 10 lo41 hi42 lT (by decide) hlo41 hhi42) rfl fun ac w hs => ?_))
          refine lstep (wpO_plain rfl (op_move hs none rfl rfl rfl rfl fun ac hs => ?_))
          refine lstep (wpO_plain rfl (op_extract hs none rfl rfl rfl rfl rfl fun ac hs => ?_))
          refine lstep (wpO_plain rfl (op_extract hs none rfl rfl rfl rfl rfl fun ac hs => ?_))
          refine lstep (wpO_plain rfl (op_alloc hs none none (cs := [.int .u64 0, .int .u64 0, .int .u64 0, .int .u64 0]) rfl rfl Try.zeroValue24 (by kernel_rfl) rfl rfl fun g43 ac w hs => ?_))
          refine lstep (wpO_plain rfl (op_alloc hs none none (cs := [.int .u64 0, .int .u64 0, .int .u64 0, .int .u64 0]) rfl rfl Try.zeroValue24 (by kernel_rfl) rfl rfl fun g44 ac w hs => ?_))
          refine lstep (wpO_plain rfl (op_store hs 2 (vs := (Wl lo41)) rfl rfl rfl rfl rfl Try.sizeOf24 rfl rfl rfl rfl rfl fun w hs => ?_))
          refine lstep (wpO_plain rfl (op_store hs 3 (vs := (Wl hi42)) rfl rfl rfl rfl rfl Try.sizeOf24 rfl rfl rfl rfl rfl fun w hs => ?_))
          refine wpList_nil ?_
          refine then_n ?_
          refine wp_seq ?_
          replace hs : St 75 w0 [(0, true, .string s), (2, true, .pointer (some ⟨g1, 0, none⟩)), (3, true, .int .i64 0), (5, true, .pointer (some ⟨g39, 0, none⟩)), (6, true, .int .i64 ((i : Nat) : Int)), (7, true, .pointer (some ⟨g43, 0, none⟩)), (8, true, .pointer (some ⟨g44, 0, none⟩))] [(true, g1, 24, [.int .u64 0, .int .u64 0, .int .u64 0, .int .u64 0]), (true, g39, 24, (Wl T)), (true, g43, 24, (Wl lo41)), (true, g44, 24, (Wl hi42))] ac _ := hs.re ⟨rfl, rfl, rfl, rfl, rfl, rfl, rfl, trivial⟩
          have l45 := sb_lt s i
          obtain ⟨s46, hs46, ls46⟩ : ∃ z0, (lo41 + (sb s i - 48)) % 2 ^ 256 = z0 ∧ z0 < 2 ^ 256 := ⟨_, rfl, Nat.mod_lt _ (Nat.two_pow_pos 256)⟩
          obtain ⟨c47, hc47⟩ : ∃ z0, (lo41 + (sb s i - 48)) / 2 ^ 256 = z0 := ⟨_, rfl⟩
          refine region_inv [([], [7, 8, 9, 10, 12, 13]), ([], [3, 4, 5, 6, 7, 8, 9, 10, 12, 13]), ([], [3, 4, 5, 6, 7, 8, 9, 10, 12, 13]), ([1, 2], [4, 5, 6, 7, 8, 9, 10, 12, 13]), ([1, 2, 3], [5, 6, 7, 8, 9, 10, 12, 13]), ([1, 2, 3, 4], [6, 7, 8, 9, 10, 12, 13]), ([1, 2, 3, 4, 5], [7, 8, 9, 10, 12, 13]), ([0, 1, 2, 3, 4, 5, 6], [8, 9, 10, 12, 13]), ([0, 1, 2, 3, 4, 5, 6, 7], [9, 10, 12, 13]), ([0, 1, 2, 3, 4, 5, 6, 7, 8], [12, 13]), ([0, 1, 2, 3, 4, 5, 6, 7, 8], [13]), ([], [12, 13]), ([0, 1, 2, 3, 4, 5, 6, 7, 8, 9, 11], [13]), ([0, 1, 2, 3, 4, 5, 6, 7, 8, 9, 10, 11, 12], [])] (fun L ac w => ∃ (g48 : Nat), St 75 w0 [(55, L 0, W lo41), (56, L 1, .string s), (57, L 2, .int .i64 ((i : Nat) : Int)), (58, L 3, .int .u8 ((sb s i : Nat) : Int)), (59, L 4, .int .u8 ((sb s i - 48 : Nat) : Int)), (60, L 5, .int .u64 ((sb s i - 48 : Nat) : Int)), (61, L 6, W (sb s i - 48)), (62, L 7, .tuple #[W s46, .int .u64 ((c47 : Nat) : Int)]), (54, L 8, .tuple #[W s46, .int .u64 ((c47 : Nat) : Int)]), (63, L 9, W s46), (64, L 10, .int .u64 ((c47 : Nat) : Int)), (9, L 11, .pointer (some ⟨g48, 0, none⟩)), (10, L 13, .int .u64 ((c47 : Nat) : Int)), (0, true, .string s), (2, true, .pointer (some ⟨g1, 0, none⟩)), (3, true, .int .i64 0), (5, true, .pointer (some ⟨g39, 0, none⟩)), (6, true, .int .i64 ((i : Nat) : Int)), (7, true, .pointer (some ⟨g43, 0, none⟩)), (8, true, .pointer (some ⟨g44, 0, none⟩))] [(true, g1, 24, [.int .u64 0, .int .u64 0, .int .u64 0, .int .u64 0]), (true, g39, 24, (Wl T)), (true, g43, 24, (Wl lo41)), (true, g44, 24, (Wl hi42)), (L 11, g48, 24, (cond (L 12) (Wl s46) [.int .u64 0, .int .u64 0, .int .u64 0, .int .u64 0]))] ac w) (by kernel_rfl) (by kernel_rfl) ?_ ?_ ?_
          · exact ⟨0, hs.drew.skip.skip.skip.skip.skip.skip.skip.skip.skip.skip.skip.skip.skip.pad⟩
          · refine ⟨?_, ?_, ?_, ?_, ?_, ?_, ?_, ?_, ?_, ?_, ?_, ?_, ?_, ?_, trivial⟩
            · intro L ac w hJ
              obtain ⟨g48, hs⟩ := hJ
              refine wpO_plain rfl (op_load hs (some 0) 2 (v := W lo41) rfl rfl rfl rfl Try.isAgg24 Try.sizeOf24 rfl rfl fun ac hs => ?_)
              exact ⟨g48, hs⟩
            · intro L ac w hJ
              obtain ⟨g48, hs⟩ := hJ
              refine wpO_plain rfl (op_move hs (some 1) rfl rfl rfl rfl fun ac hs => ?_)
              exact ⟨g48, hs⟩
            · intro L ac w hJ
              obtain ⟨g48, hs⟩ := hJ
              refine wpO_plain rfl (op_move hs (some 2) rfl rfl rfl rfl fun ac hs => ?_)
              exact ⟨g48, hs⟩
            · intro L ac w hJ
              obtain ⟨g48, hs⟩ := hJ
              refine wpO_plain rfl (op_index hs (some 3) (v := .int .u8 ((sb s i : Nat) : Int)) rfl rfl rfl rfl (idx_s (j := i) Try.underlying9 (show i < s.size by omega)) rfl fun ac hs => ?_)
              exact ⟨g48, hs⟩
            · intro L ac w hJ
              obtain ⟨g48, hs⟩ := hJ
              refine wpO_plain rfl (op_bin hs (some 4) (v := .int .u8 ((sb s i - 48 : Nat) : Int)) rfl rfl rfl rfl (fun _ => rfl) (bin_subN (x := sb s i) (y := 48) (z := sb s i - 48) (by omega) (show sb s i - 48 < 256 by omega)) rfl fun ac hs => ?_)
              exact ⟨g48, hs⟩
            · intro L ac w hJ
              obtain ⟨g48, hs⟩ := hJ
              refine wpO_plain rfl (op_convert hs (some 5) (v := .int .u64 ((sb s i - 48 : Nat) : Int)) rfl rfl rfl (conv_N Try.underlying5 Try.underlying22 (show sb s i - 48 < 18446744073709551616 by omega)) rfl fun ac hs => ?_)
              exact ⟨g48, hs⟩
            · intro L ac w hJ
              obtain ⟨g48, hs⟩ := hJ
              refine wpO_plain rfl (op_build hs (some 6) (qs := [(0, .int .u64 ((sb s i - 48 : Nat) : Int))]) (v := W (sb s i - 48)) rfl rfl rfl rfl (fun _ => by rw [W_small (sb s i - 48) (show sb s i - 48 < 2 ^ 64 by omega)]; kernel_rfl) rfl fun ac hs => ?_)
              exact ⟨g48, hs⟩
            · intro L ac w hJ
              obtain ⟨g48, hs⟩ := hJ
              refine wpO_plain rfl (op_call (F := 12) hs (some 7) (v := .tuple #[W s46, .int .u64 ((c47 : Nat) : Int)]) rfl rfl rfl rfl (Try.call12 _) (radd06_c lo41 (sb s i - 48) s46 c47 llo41 (show sb s i - 48 < 2 ^ 256 by omega) hs46 hc47) rfl fun ac w hs => ?_)
              exact ⟨g48, hs⟩
            · intro L ac w hJ
              obtain ⟨g48, hs⟩ := hJ
              refine wpO_plain rfl (op_move hs (some 8) rfl rfl rfl rfl fun ac hs => ?_)
              exact ⟨g48, hs⟩
            · intro L ac w hJ
              obtain ⟨g48, hs⟩ := hJ
              refine wpO_plain rfl (op_extract hs (some 9) rfl rfl rfl rfl rfl fun ac hs => ?_)
              exact ⟨g48, hs⟩
            · intro L ac w hJ
              obtain ⟨g48, hs⟩ := hJ
              refine wpO_plain rfl (op_extract hs (some 10) rfl rfl rfl rfl rfl fun ac hs => ?_)
              exact ⟨g48, hs⟩
            · intro L ac w hJ
              obtain ⟨g48, hs⟩ := hJ
              refine wpO_plain rfl (op_alloc hs (some 11) (some 4) (cs := [.int .u64 0, .int .u64 0, .int .u64 0, .int .u64 0]) rfl rfl Try.zeroValue24 (by kernel_rfl) rfl rfl fun g48 ac w hs => ?_)
              exact ⟨g48, hs⟩
            · intro L ac w hJ
              obtain ⟨g48, hs⟩ := hJ
              refine wpO_plain rfl (op_store hs 4 (vs := (Wl s46)) rfl rfl rfl rfl rfl Try.sizeOf24 rfl rfl rfl rfl rfl fun w hs => ?_)
              exact ⟨g48, hs⟩
            · intro L ac w hJ
              obtain ⟨g48, hs⟩ := hJ
              refine wpO_plain rfl (op_assign hs (some 12) rfl rfl rfl rfl fun ac hs => ?_)
              exact ⟨g48, hs⟩
          intro ac w hJ
          obtain ⟨g48, hs⟩ := hJ
          replace hs : St 75 w0 [(55, true, W lo41), (56, true, .string s), (57, true, .int .i64 ((i : Nat) : Int)), (58, true, .int .u8 ((sb s i : Nat) : Int)), (59, true, .int .u8 ((sb s i - 48 : Nat) : Int)), (60, true, .int .u64 ((sb s i - 48 : Nat) : Int)), (61, true, W (sb s i - 48)), (62, true, .tuple #[W s46, .int .u64 ((c47 : Nat) : Int)]), (54, true, .tuple #[W s46, .int .u64 ((c47 : Nat) : Int)]), (63, true, W s46), (64, true, .int .u64 ((c47 : Nat) : Int)), (9, true, .pointer (some ⟨g48, 0, none⟩)), (10, true, .int .u64 ((c47 : Nat) : Int)), (0, true, .string s), (2, true, .pointer (some ⟨g1, 0, none⟩)), (3, true, .int .i64 0), (5, true, .pointer (some ⟨g39, 0, none⟩)), (6, true, .int .i64 ((i : Nat) : Int)), (7, true, .pointer (some ⟨g43, 0, none⟩)), (8, true, .pointer (some ⟨g44, 0, none⟩))] [(true, g1, 24, [.int .u64 0, .int .u64 0, .int .u64 0, .int .u64 0]), (true, g39, 24, (Wl T)), (true, g43, 24, (Wl lo41)), (true, g44, 24, (Wl hi42)), (true, g48, 24, (Wl s46))] ac w := hs
          refine then_n ?_
          refine wp_seq ?_
          refine wp_seq ?_
          by_cases hq49 : hi42 = 0
          · skip
            refine wp_region_lit ?_
            refine lstep (wpO_plain rfl (op_load hs none 3 (v := W hi42) rfl rfl rfl rfl Try.isAgg24 Try.sizeOf24 rfl rfl fun ac hs => ?_))
            refine lstep (wpO_plain rfl (op_build hs none (qs := []) (v := .agg #[.int .u64 0, .int .u64 0, .int .u64 0, .int .u64 0]) rfl rfl rfl rfl (fun _ => by kernel_rfl) rfl fun ac hs => ?_))
            refine lstep (wpO_plain rfl (op_bin hs none (v := .bool false) rfl rfl rfl rfl (fun w => run_eqGuard_agg w .neq 24 _ _ _ _ Try.eqGuardType24) (neqW hi42 0 lhi42 (by decide) false (decide_eq_false (not_not_intro hq49))) rfl fun ac hs => ?_))
            refine lstep (wpO_plain rfl (op_move hs none rfl rfl rfl rfl fun ac hs => ?_))
            refine lstep (wpO_in hs rfl rfl rfl (op_move hs none rfl rfl rfl rfl fun ac hs => ?_))
            refine lstep (wpO_in hs rfl rfl rfl (op_bin hs none (v := .bool (decide (0 < c47))) rfl rfl rfl rfl (fun _ => rfl) (bin_gtrN (x := c47) (y := 0)) rfl fun ac hs => ?_))
            refine lstep (wpO_plain rfl (op_pickF hs none rfl rfl rfl rfl rfl fun ac hs => ?_))
            refine wpList_nil ?_
            refine then_n ?_
            refine wp_cond_split (hs.ev rfl) (fun hc => ?_) (fun hc => ?_)
            · skip
              have hp50 := of_decide_eq_true hc
              refine wp_seq ?_
              refine wp_region_lit ?_
              refine lstep (wpO_plain rfl (op_build hs none (qs := []) (v := .agg #[.int .u64 0, .int .u64 0, .int .u64 0, .int .u64 0]) rfl rfl rfl rfl (fun _ => by kernel_rfl) rfl fun ac hs => ?_))
              refine lstep (wpO_plain rfl (op_store hs 0 (vs := [.int .u64 0, .int .u64 0, .int .u64 0, .int .u64 0]) rfl rfl rfl rfl rfl Try.sizeOf24 rfl rfl rfl rfl rfl fun w hs => ?_))
              refine lstep (wpO_plain rfl (op_assign hs none rfl rfl rfl rfl fun ac hs => ?_))
              refine wpList_nil ?_
              refine then_n ?_
              refine wp_ret ?_
              refine then_r ?_
              refine blk_r ?_
              refine then_r ?_
              refine then_r ?_
              refine blk_r ?_
              refine then_r ?_
              exact bodyPost_ret (res2 rfl (rv_c hs 0 (v := .agg #[.int .u64 0, .int .u64 0, .int .u64 0, .int .u64 0]) rfl rfl Try.isAgg24 Try.sizeOf24 rfl) (rv_t hs rfl)) hs.defers ⟨by rw [tx_V0 (tx_big (by have := hq2; have := hq3; omega) hfg (Nat.le_trans (acc_big hno hT hlo41 hhi42 hs46 hc47 hq49 hp50) (dv_le hlt))) (by decide), (tx_big (by have := hq2; have := hq3; omega) hfg (Nat.le_trans (acc_big hno hT hlo41 hhi42 hs46 hc47 hq49 hp50) (dv_le hlt)))]; first | done | rfl, hs.below⟩
            · skip
              have hp51 := of_decide_eq_false hc
              refine wp_skip ?_
              refine then_n ?_
              refine wp_region_lit ?_
              refine lstep (wpO_plain rfl (op_load hs none 4 (v := W s46) rfl rfl rfl rfl Try.isAgg24 Try.sizeOf24 rfl rfl fun ac hs => ?_))
              refine lstep (wpO_plain rfl (op_store hs 1 (vs := (Wl s46)) rfl rfl rfl rfl rfl Try.sizeOf24 rfl rfl rfl rfl rfl fun w hs => ?_))
              refine wpList_nil ?_
              refine blk_n ?_
              refine then_n ?_
              refine wp_region_lit ?_
              refine lstep (wpO_plain rfl (op_move hs none rfl rfl rfl rfl fun ac hs => ?_))
              refine lstep (wpO_plain rfl (op_bin hs none (v := .int .i64 ((i + 1 : Nat) : Int)) rfl rfl rfl rfl (fun _ => rfl) (bin_addN (x := i) (y := 1) (z := i + 1) rfl (show i + 1 < 9223372036854775808 by omega)) rfl fun ac hs => ?_))
              refine lstep (wpO_plain rfl (op_assign hs none rfl rfl rfl rfl fun ac hs => ?_))
              refine wpList_nil ?_
              refine then_n ?_
              exact ⟨_, ⟨(i + 1), s46, rfl, (by omega), ls46, (acc_val hT hlo41 hs46), (acc_fit hno hT hlo41 hhi42 hs46 hc47 hq49 hp51), ((hs.takeb 2).re ⟨rfl, rfl, rfl, rfl, rfl, trivial⟩)⟩, (by omega)⟩
          · skip
            refine wp_region_lit ?_
            refine lstep (wpO_plain rfl (op_load hs none 3 (v := W hi42) rfl rfl rfl rfl Try.isAgg24 Try.sizeOf24 rfl rfl fun ac hs => ?_))
            refine lstep (wpO_plain rfl (op_build hs none (qs := []) (v := .agg #[.int .u64 0, .int .u64 0, .int .u64 0, .int .u64 0]) rfl rfl rfl rfl (fun _ => by kernel_rfl) rfl fun ac hs => ?_))
            refine lstep (wpO_plain rfl (op_bin hs none (v := .bool true) rfl rfl rfl rfl (fun w => run_eqGuard_agg w .neq 24 _ _ _ _ Try.eqGuardType24) (neqW hi42 0 lhi42 (by decide) true (decide_eq_true hq49)) rfl fun ac hs => ?_))
            refine lstep (wpO_plain rfl (op_move hs none rfl rfl rfl rfl fun ac hs => ?_))
            refine lstep (wpO_out hs none rfl rfl (.inl rfl) rfl rfl fun ac hs => ?_)
            refine lstep (wpO_out hs none rfl rfl (.inl rfl) rfl rfl fun ac hs => ?_)
            refine lstep (wpO_plain rfl (op_pickT hs none rfl rfl rfl rfl rfl fun ac hs => ?_))
            refine wpList_nil ?_
            refine then_n ?_
            refine wp_cond_true (hs.ev rfl) ?_
            refine wp_seq ?_
            refine wp_region_lit ?_
            refine lstep (wpO_plain rfl (op_build hs none (qs := []) (v := .agg #[.int .u64 0, .int .u64 0, .int .u64 0, .int .u64 0]) rfl rfl rfl rfl (fun _ => by kernel_rfl) rfl fun ac hs => ?_))
            refine lstep (wpO_plain rfl (op_store hs 0 (vs := [.int .u64 0, .int .u64 0, .int .u64 0, .int .u64 0]) rfl rfl rfl rfl rfl Try.sizeOf24 rfl rfl rfl rfl rfl fun w hs => ?_))
            refine lstep (wpO_plain rfl (op_assign hs none rfl rfl rfl rfl fun ac hs => ?_))
            refine wpList_nil ?_
            refine then_n ?_
            refine wp_ret ?_
            refine then_r ?_
            refine blk_r ?_
            refine then_r ?_
            refine then_r ?_
            refine blk_r ?_
            refine then_r ?_
            exact bodyPost_ret (res2 rfl (rv_c hs 0 (v := .agg #[.int .u64 0, .int .u64 0, .int .u64 0, .int .u64 0]) rfl rfl Try.isAgg24 Try.sizeOf24 rfl) (rv_t hs rfl)) hs.defers ⟨by rw [tx_V0 (tx_big (by have := hq2; have := hq3; omega) hfg (Nat.le_trans (acc_hi hno hT hlo41 hhi42 hs46 hc47 hq49) (dv_le hlt))) (by decide), (tx_big (by have := hq2; have := hq3; omega) hfg (Nat.le_trans (acc_hi hno hT hlo41 hhi42 hs46 hc47 hq49) (dv_le hlt)))]; first | done | rfl, hs.below⟩
        · skip
          have hp52 := of_decide_eq_false hc
          obtain rfl : i = s.size := by omega
          refine wp_exit ?_
          refine then_e ?_
          refine then_e ?_
          refine blk_e ?_
          refine then_n ?_
          refine wp_seq ?_
          refine wp_region_lit ?_
          refine lstep (wpO_plain rfl (op_load hs none 1 (v := W T) rfl rfl rfl rfl Try.isAgg24 Try.sizeOf24 rfl rfl fun ac hs => ?_))
          refine lstep (wpO_plain rfl (op_store hs 0 (vs := (Wl T)) rfl rfl rfl rfl rfl Try.sizeOf24 rfl rfl rfl rfl rfl fun w hs => ?_))
          refine lstep (wpO_plain rfl (op_assign hs none rfl rfl rfl rfl fun ac hs => ?_))
          refine wpList_nil ?_
          refine then_n ?_
          refine wp_ret ?_
          exact bodyPost_ret (res2 rfl (rv_c hs 0 (v := W T) rfl rfl Try.isAgg24 Try.sizeOf24 rfl) (rv_t hs rfl)) hs.defers ⟨by have hz := tx_ok (by have := hq2; have := hq3; omega) hfg hno; rw [tx_V hz, hz, ← hT, Nat.mod_eq_of_lt (Nat.lt_of_not_le hno)]; first | done | rfl, hs.below⟩
end Go.Proofs.Ytaeafgkjinhceaa
