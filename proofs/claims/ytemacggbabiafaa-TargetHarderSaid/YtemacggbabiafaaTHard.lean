/- The laws of targets. -/
import Derived.Test.YtemacggbabiafaaTLaw
namespace Go.Proofs.Ytemacggbabiafaa
open Go.RowKit
set_option maxRecDepth 10000

set_option maxHeartbeats 8000000 in
theorem harder_law (a b : Nat) (ha : a < 4294967296) (hb : b < 4294967296) (f : Nat → Nat) (hf : ∀ j, j < 32 → f j < 256) (w0 : World) : Calls Try.prog 7 #[.int .u32 ((a : Nat) : Int), .int .u32 ((b : Nat) : Int), At .u8 32 f] w0 fun e w' => e = .returned (.bool true) ∧ Below w0.heap.size w0 w' := by
  refine enter (n := 139) (args := [.int .u32 ((a : Nat) : Int), .int .u32 ((b : Nat) : Int), At .u8 32 f]) Try.func7 rfl rfl (Nat.le_of_ble_eq_true rfl) fun ac hs => ?_
  refine wp_seq ?_
  refine wp_region_lit ?_
  refine lstep (wpO_plain rfl (op_box hs none none (cs := (tab .u8 32 f)) rfl rfl rfl rfl rfl rfl fun g1 ac w hs => ?_))
  refine lstep (wpO_plain rfl (op_assign hs none rfl rfl rfl rfl fun ac hs => ?_))
  refine wpList_nil ?_
  refine then_n ?_
  refine wp_seq ?_
  refine wp_region_lit ?_
  refine lstep (wpO_plain rfl (op_move hs none rfl rfl rfl rfl fun ac hs => ?_))
  obtain ⟨x2, hx2, lx2⟩ : ∃ z0, tgt a = z0 ∧ z0 < 2 ^ 256 := ⟨_, rfl, tgt_lt' _⟩
  refine lstep (wpO_plain rfl (op_call (F := 9) hs none (v := .tuple #[W x2, .int .i64 ((ec x2 : Nat) : Int)]) rfl rfl rfl rfl (Try.call9 _) (expand_c a x2 (show a < 4294967296 by omega) hx2) rfl fun ac w hs => ?_))
  refine lstep (wpO_plain rfl (op_move hs none rfl rfl rfl rfl fun ac hs => ?_))
  refine lstep (wpO_plain rfl (op_extract hs none rfl rfl rfl rfl rfl fun ac hs => ?_))
  refine lstep (wpO_plain rfl (op_extract hs none rfl rfl rfl rfl rfl fun ac hs => ?_))
  refine lstep (wpO_plain rfl (op_alloc hs none none (cs := [.int .u64 0, .int .u64 0, .int .u64 0, .int .u64 0]) rfl rfl Try.zeroValue25 (by kernel_rfl) rfl rfl fun g3 ac w hs => ?_))
  refine lstep (wpO_plain rfl (op_store hs 1 (vs := (Wl x2)) rfl rfl rfl rfl rfl Try.sizeOf25 rfl rfl rfl rfl rfl fun w hs => ?_))
  refine lstep (wpO_plain rfl (op_assign hs none rfl rfl rfl rfl fun ac hs => ?_))
  refine wpList_nil ?_
  refine then_n ?_
  refine wp_seq ?_
  refine wp_region_lit ?_
  refine lstep (wpO_plain rfl (op_move hs none rfl rfl rfl rfl fun ac hs => ?_))
  obtain ⟨x4, hx4, lx4⟩ : ∃ z0, tgt b = z0 ∧ z0 < 2 ^ 256 := ⟨_, rfl, tgt_lt' _⟩
  refine lstep (wpO_plain rfl (op_call (F := 9) hs none (v := .tuple #[W x4, .int .i64 ((ec x4 : Nat) : Int)]) rfl rfl rfl rfl (Try.call9 _) (expand_c b x4 (show b < 4294967296 by omega) hx4) rfl fun ac w hs => ?_))
  refine lstep (wpO_plain rfl (op_move hs none rfl rfl rfl rfl fun ac hs => ?_))
  refine lstep (wpO_plain rfl (op_extract hs none rfl rfl rfl rfl rfl fun ac hs => ?_))
  refine lstep (wpO_plain rfl (op_extract hs none rfl rfl rfl rfl rfl fun ac hs => ?_))
  refine lstep (wpO_plain rfl (op_alloc hs none none (cs := [.int .u64 0, .int .u64 0, .int .u64 0, .int .u64 0]) rfl rfl Try.zeroValue25 (by kernel_rfl) rfl rfl fun g5 ac w hs => ?_))
  refine lstep (wpO_plain rfl (op_store hs 2 (vs := (Wl x4)) rfl rfl rfl rfl rfl Try.sizeOf25 rfl rfl rfl rfl rfl fun w hs => ?_))
  refine lstep (wpO_plain rfl (op_assign hs none rfl rfl rfl rfl fun ac hs => ?_))
  refine wpList_nil ?_
  refine then_n ?_
  refine wp_seq ?_
  refine wp_seq ?_
  by_cases hq6 : x2 = 0
  · skip
    refine wp_region_lit ?_
    refine lstep (wpO_plain rfl (op_move hs none rfl rfl rfl rfl fun ac hs => ?_))
    refine lstep (wpO_plain rfl (op_bin hs none (v := .bool true) rfl rfl rfl rfl (fun _ => rfl) (fun w => dT (by rw [ec, if_pos hq6]; decide) (bin_neqN (x := ec x2) (y := 0) w)) rfl fun ac hs => ?_))
    refine lstep (wpO_plain rfl (op_move hs none rfl rfl rfl rfl fun ac hs => ?_))
    refine lstep (wpO_out hs none rfl rfl (.inl rfl) rfl rfl fun ac hs => ?_)
    refine lstep (wpO_out hs none rfl rfl (.inl rfl) rfl rfl fun ac hs => ?_)
    refine lstep (wpO_plain rfl (op_pickT hs none rfl rfl rfl rfl rfl fun ac hs => ?_))
    refine wpList_nil ?_
    refine then_n ?_
    refine wp_cond_true (hs.ev rfl) ?_
    refine wp_seq ?_
    refine wp_region_lit ?_
    refine lstep (wpO_plain rfl (op_call (F := 11) hs none (v := .bool true) rfl rfl rfl rfl (Try.call11 _) alive_c rfl fun ac w hs => ?_))
    refine lstep (wpO_plain rfl (op_move hs none rfl rfl rfl rfl fun ac hs => ?_))
    refine lstep (wpO_in hs rfl rfl rfl (op_move hs none rfl rfl rfl rfl fun ac hs => ?_))
    refine lstep (wpO_in hs rfl rfl rfl (op_bin hs none (v := .bool false) rfl rfl rfl rfl (fun _ => rfl) (fun w => dF (fun hh => ec_zero.1 hh hq6) (bin_eqlN (x := ec x2) (y := 0) w)) rfl fun ac hs => ?_))
    refine lstep (wpO_in hs rfl rfl rfl (op_move hs none rfl rfl rfl rfl fun ac hs => ?_))
    refine lstep (wpO_in hs rfl rfl rfl (op_move hs none rfl rfl rfl rfl fun ac hs => ?_))
    obtain ⟨wk7, hwk7, lwk7⟩ : ∃ z0, wrk a = z0 ∧ z0 < 2 ^ 256 := ⟨_, rfl, wrk_lt _⟩
    refine lstep (wpO_in hs rfl rfl rfl (op_call (F := 16) hs none (v := W wk7) rfl rfl rfl rfl (Try.call16 _) (work_c a wk7 (show a < 4294967296 by omega) hwk7) rfl fun ac w hs => ?_))
    refine lstep (wpO_in hs rfl rfl rfl (op_build hs none (qs := []) (v := .agg #[.int .u64 0, .int .u64 0, .int .u64 0, .int .u64 0]) rfl rfl rfl rfl (fun _ => by kernel_rfl) rfl fun ac hs => ?_))
    refine lstep (wpO_in hs rfl rfl rfl (op_bin hs none (v := .bool true) rfl rfl rfl rfl (fun w => run_eqGuard_agg w .eql 25 _ _ _ _ Try.eqGuardType25) (eqlW wk7 0 lwk7 (by decide) true (decide_eq_true (by rw [← hwk7, wrk, if_pos (hx2.trans hq6)]))) rfl fun ac hs => ?_))
    refine lstep (wpO_in hs rfl rfl rfl (op_move hs none rfl rfl rfl rfl fun ac hs => ?_))
    refine lstep (wpO_in hs rfl rfl rfl (op_load hs none 0 (v := At .u8 32 f) rfl rfl rfl rfl Try.isAgg32 Try.sizeOf32 ldv_tab rfl fun ac hs => ?_))
    refine lstep (wpO_in hs rfl rfl rfl (op_move hs none rfl rfl rfl rfl fun ac hs => ?_))
    obtain ⟨q8, hq8⟩ : ∃ z0, mts f a = z0 := ⟨_, rfl⟩
    refine lstep (wpO_in hs rfl rfl rfl (op_call (F := 14) hs none (v := .bool q8) rfl rfl rfl rfl (Try.call14 _) (meets_c f a q8 hf (show a < 4294967296 by omega) hq8) rfl fun ac w hs => ?_))
    refine lstep (wpO_in hs rfl rfl rfl (op_un hs none (v := .bool (!q8)) rfl rfl rfl (fun _ => rfl) rfl fun ac hs => ?_))
    refine lstep (wpO_in hs rfl rfl rfl (op_pickT hs none rfl rfl rfl rfl rfl fun ac hs => ?_))
    refine lstep (wpO_in hs rfl rfl rfl (op_pickF hs none rfl rfl rfl rfl rfl fun ac hs => ?_))
    refine lstep (wpO_plain rfl (op_pickT hs none rfl rfl rfl rfl rfl fun ac hs => ?_))
    refine lstep (wpO_plain rfl (op_assign hs none rfl rfl rfl rfl fun ac hs => ?_))
    refine wpList_nil ?_
    refine then_n ?_
    refine wp_ret ?_
    refine then_r ?_
    exact bodyPost_ret (res1 rfl (rv_t hs rfl)) hs.defers ⟨by rw [← hq8, mts_zero (hx2.trans hq6)]; rfl, hs.below⟩
  · skip
    by_cases hq9 : x4 = 0
    · skip
      refine wp_region_lit ?_
      refine lstep (wpO_plain rfl (op_move hs none rfl rfl rfl rfl fun ac hs => ?_))
      refine lstep (wpO_plain rfl (op_bin hs none (v := .bool false) rfl rfl rfl rfl (fun _ => rfl) (fun w => dF (fun hh => hh (ec_zero.2 hq6)) (bin_neqN (x := ec x2) (y := 0) w)) rfl fun ac hs => ?_))
      refine lstep (wpO_plain rfl (op_move hs none rfl rfl rfl rfl fun ac hs => ?_))
      refine lstep (wpO_in hs rfl rfl rfl (op_move hs none rfl rfl rfl rfl fun ac hs => ?_))
      refine lstep (wpO_in hs rfl rfl rfl (op_bin hs none (v := .bool true) rfl rfl rfl rfl (fun _ => rfl) (fun w => dT (by rw [ec, if_pos hq9]; decide) (bin_neqN (x := ec x4) (y := 0) w)) rfl fun ac hs => ?_))
      refine lstep (wpO_plain rfl (op_pickF hs none rfl rfl rfl rfl rfl fun ac hs => ?_))
      refine wpList_nil ?_
      refine then_n ?_
      refine wp_cond_true (hs.ev rfl) ?_
      refine wp_seq ?_
      refine wp_region_lit ?_
      refine lstep (wpO_plain rfl (op_call (F := 11) hs none (v := .bool true) rfl rfl rfl rfl (Try.call11 _) alive_c rfl fun ac w hs => ?_))
      refine lstep (wpO_plain rfl (op_move hs none rfl rfl rfl rfl fun ac hs => ?_))
      refine lstep (wpO_in hs rfl rfl rfl (op_move hs none rfl rfl rfl rfl fun ac hs => ?_))
      refine lstep (wpO_in hs rfl rfl rfl (op_bin hs none (v := .bool true) rfl rfl rfl rfl (fun _ => rfl) (fun w => dT (ec_zero.2 hq6) (bin_eqlN (x := ec x2) (y := 0) w)) rfl fun ac hs => ?_))
      refine lstep (wpO_in hs rfl rfl rfl (op_move hs none rfl rfl rfl rfl fun ac hs => ?_))
      refine lstep (wpO_out hs none rfl rfl (.inl rfl) rfl rfl fun ac hs => ?_)
      refine lstep (wpO_out hs none rfl rfl (.inl rfl) rfl rfl fun ac hs => ?_)
      refine lstep (wpO_out hs none rfl rfl (.inl rfl) rfl rfl fun ac hs => ?_)
      refine lstep (wpO_out hs none rfl rfl (.inl rfl) rfl rfl fun ac hs => ?_)
      refine lstep (wpO_out hs none rfl rfl (.inl rfl) rfl rfl fun ac hs => ?_)
      refine lstep (wpO_out hs none rfl rfl (.inr rfl) rfl rfl fun ac hs => ?_)
      refine lstep (wpO_out hs none rfl rfl (.inr rfl) rfl rfl fun ac hs => ?_)
      refine lstep (wpO_out hs none rfl rfl (.inr rfl) rfl rfl fun ac hs => ?_)
      refine lstep (wpO_out hs none rfl rfl (.inr rfl) rfl rfl fun ac hs => ?_)
      refine lstep (wpO_out hs none rfl rfl (.inl rfl) rfl rfl fun ac hs => ?_)
      refine lstep (wpO_in hs rfl rfl rfl (op_pickT hs none rfl rfl rfl rfl rfl fun ac hs => ?_))
      refine lstep (wpO_plain rfl (op_pickT hs none rfl rfl rfl rfl rfl fun ac hs => ?_))
      refine lstep (wpO_plain rfl (op_assign hs none rfl rfl rfl rfl fun ac hs => ?_))
      refine wpList_nil ?_
      refine then_n ?_
      refine wp_ret ?_
      refine then_r ?_
      exact bodyPost_ret (res1 rfl (rv_t hs rfl)) hs.defers ⟨rfl, hs.below⟩
    · skip
      refine wp_region_lit ?_
      refine lstep (wpO_plain rfl (op_move hs none rfl rfl rfl rfl fun ac hs => ?_))
      refine lstep (wpO_plain rfl (op_bin hs none (v := .bool false) rfl rfl rfl rfl (fun _ => rfl) (fun w => dF (fun hh => hh (ec_zero.2 hq6)) (bin_neqN (x := ec x2) (y := 0) w)) rfl fun ac hs => ?_))
      refine lstep (wpO_plain rfl (op_move hs none rfl rfl rfl rfl fun ac hs => ?_))
      refine lstep (wpO_in hs rfl rfl rfl (op_move hs none rfl rfl rfl rfl fun ac hs => ?_))
      refine lstep (wpO_in hs rfl rfl rfl (op_bin hs none (v := .bool false) rfl rfl rfl rfl (fun _ => rfl) (fun w => dF (fun hh => hh (ec_zero.2 hq9)) (bin_neqN (x := ec x4) (y := 0) w)) rfl fun ac hs => ?_))
      refine lstep (wpO_plain rfl (op_pickF hs none rfl rfl rfl rfl rfl fun ac hs => ?_))
      refine wpList_nil ?_
      refine then_n ?_
      refine wp_cond_false (hs.ev rfl) ?_
      refine wp_skip ?_
      refine then_n ?_
      refine wp_seq ?_
      refine wp_seq ?_
      refine wp_region_lit ?_
      refine lstep (wpO_plain rfl (op_load hs none 1 (v := W x2) rfl rfl rfl rfl Try.isAgg25 Try.sizeOf25 rfl rfl fun ac hs => ?_))
      refine lstep (wpO_plain rfl (op_load hs none 2 (v := W x4) rfl rfl rfl rfl Try.isAgg25 Try.sizeOf25 rfl rfl fun ac hs => ?_))
      refine lstep (wpO_plain rfl (op_call (F := 18) hs none (v := .int .i64 (cmpZ x2 x4)) rfl rfl rfl rfl (Try.call18 _) (fun w => cmp_any w x2 x4 lx2 lx4) rfl fun ac w hs => ?_))
      refine lstep (wpO_plain rfl (op_bin hs none (v := .bool (decide (x4 < x2))) rfl rfl rfl rfl (fun _ => rfl) (bin_cmp_gtr x2 x4) rfl fun ac hs => ?_))
      refine wpList_nil ?_
      refine then_n ?_
      refine wp_cond_split (hs.ev rfl) (fun hc => ?_) (fun hc => ?_)
      · skip
        have hp10 := of_decide_eq_true hc
        replace hs : St 139 w0 [(0, true, .int .u32 ((a : Nat) : Int)), (1, true, .int .u32 ((b : Nat) : Int)), (5, true, .pointer (some ⟨g1, 0, none⟩)), (6, true, .bool false), (7, true, .pointer (some ⟨g3, 0, none⟩)), (9, true, .pointer (some ⟨g5, 0, none⟩))] [(true, g1, 32, (tab .u8 32 f)), (true, g3, 25, (Wl x2)), (true, g5, 25, (Wl x4))] ac w := hs.re ⟨rfl, rfl, rfl, rfl, rfl, rfl, trivial⟩
        refine region_inv [([], [4, 5, 6, 7]), ([], [4, 5, 6, 7]), ([], [6, 7]), ([], [4, 5, 6, 7]), ([0, 1, 3], [5, 6, 7]), ([0, 1, 3, 4], [6, 7]), ([0, 1, 2, 3, 4, 5], [7]), ([0, 1, 2, 3, 4, 5, 6], [])] (fun L ac w => St 139 w0 [(56, L 0, .int .u32 ((b : Nat) : Int)), (57, L 1, .int .u32 ((a : Nat) : Int)), (58, L 2, W x4), (59, L 3, W x2), (0, L 4, .int .u32 ((b : Nat) : Int)), (1, L 5, .int .u32 ((a : Nat) : Int)), (0, true, .int .u32 ((a : Nat) : Int)), (1, true, .int .u32 ((b : Nat) : Int)), (5, true, .pointer (some ⟨g1, 0, none⟩)), (6, true, .bool false), (7, true, .pointer (some ⟨g3, 0, none⟩)), (9, true, .pointer (some ⟨g5, 0, none⟩))] [(true, g1, 32, (tab .u8 32 f)), (true, g3, 25, (cond (L 6) (Wl x4) (Wl x2))), (true, g5, 25, (cond (L 7) (Wl x2) (Wl x4)))] ac w) (by kernel_rfl) (by kernel_rfl) ?_ ?_ ?_
        · exact hs.drew.skip.skip.skip.skip.skip.skip
        · refine ⟨?_, ?_, ?_, ?_, ?_, ?_, ?_, ?_, trivial⟩
          · intro L ac w hJ
            have hs := hJ
            refine wpO_plain rfl (op_move hs (some 0) rfl rfl rfl rfl fun ac hs => ?_)
            exact hs
          · intro L ac w hJ
            have hs := hJ
            refine wpO_plain rfl (op_move hs (some 1) rfl rfl rfl rfl fun ac hs => ?_)
            exact hs
          · intro L ac w hJ
            have hs := hJ
            refine wpO_plain rfl (op_load hs (some 2) 2 (v := W x4) rfl rfl rfl rfl Try.isAgg25 Try.sizeOf25 rfl rfl fun ac hs => ?_)
            exact hs
          · intro L ac w hJ
            have hs := hJ
            refine wpO_plain rfl (op_load hs (some 3) 1 (v := W x2) rfl rfl rfl rfl Try.isAgg25 Try.sizeOf25 rfl rfl fun ac hs => ?_)
            exact hs
          · intro L ac w hJ
            have hs := hJ
            refine wpO_plain rfl (op_assign hs (some 4) rfl rfl rfl rfl fun ac hs => ?_)
            exact hs
          · intro L ac w hJ
            have hs := hJ
            refine wpO_plain rfl (op_assign hs (some 5) rfl rfl rfl rfl fun ac hs => ?_)
            exact hs
          · intro L ac w hJ
            have hs := hJ
            refine wpO_plain rfl (op_store hs 1 (vs := (Wl x4)) rfl rfl rfl rfl rfl Try.sizeOf25 rfl rfl rfl rfl rfl fun w hs => ?_)
            exact hs
          · intro L ac w hJ
            have hs := hJ
            refine wpO_plain rfl (op_store hs 2 (vs := (Wl x2)) rfl rfl rfl rfl rfl Try.sizeOf25 rfl rfl rfl rfl rfl fun w hs => ?_)
            exact hs
        intro ac w hJ
        replace hs : St 139 w0 [(56, true, .int .u32 ((b : Nat) : Int)), (57, true, .int .u32 ((a : Nat) : Int)), (58, true, W x4), (59, true, W x2), (0, true, .int .u32 ((b : Nat) : Int)), (1, true, .int .u32 ((a : Nat) : Int)), (0, true, .int .u32 ((a : Nat) : Int)), (1, true, .int .u32 ((b : Nat) : Int)), (5, true, .pointer (some ⟨g1, 0, none⟩)), (6, true, .bool false), (7, true, .pointer (some ⟨g3, 0, none⟩)), (9, true, .pointer (some ⟨g5, 0, none⟩))] [(true, g1, 32, (tab .u8 32 f)), (true, g3, 25, (Wl x4)), (true, g5, 25, (Wl x2))] ac w := hJ
        refine then_n ?_
        refine wp_seq ?_
        refine wp_seq ?_
        have hle : tgt b ≤ tgt a := by rw [hx4, hx2]; omega
        have na : tgt b ≠ 0 := by rw [hx4]; exact hq9
        have nb' : tgt a ≠ 0 := by rw [hx2]; exact hq6
        by_cases hq11 : mts f b = true
        · skip
          by_cases hq12 : mts f a = true
          · skip
            refine wp_region_lit ?_
            refine lstep (wpO_plain rfl (op_move hs none rfl rfl rfl rfl fun ac hs => ?_))
            obtain ⟨wk13, hwk13, lwk13⟩ : ∃ z0, wrk b = z0 ∧ z0 < 2 ^ 256 := ⟨_, rfl, wrk_lt _⟩
            refine lstep (wpO_plain rfl (op_call (F := 16) hs none (v := W wk13) rfl rfl rfl rfl (Try.call16 _) (work_c b wk13 (show b < 4294967296 by omega) hwk13) rfl fun ac w hs => ?_))
            refine lstep (wpO_plain rfl (op_move hs none rfl rfl rfl rfl fun ac hs => ?_))
            obtain ⟨wk14, hwk14, lwk14⟩ : ∃ z0, wrk a = z0 ∧ z0 < 2 ^ 256 := ⟨_, rfl, wrk_lt _⟩
            refine lstep (wpO_plain rfl (op_call (F := 16) hs none (v := W wk14) rfl rfl rfl rfl (Try.call16 _) (work_c a wk14 (show a < 4294967296 by omega) hwk14) rfl fun ac w hs => ?_))
            refine lstep (wpO_plain rfl (op_call (F := 18) hs none (v := .int .i64 (cmpZ wk13 wk14)) rfl rfl rfl rfl (Try.call18 _) (fun w => cmp_any w wk13 wk14 lwk13 lwk14) rfl fun ac w hs => ?_))
            refine lstep (wpO_plain rfl (op_bin hs none (v := .bool false) rfl rfl rfl rfl (fun _ => rfl) (fun w => dF (Nat.not_lt.2 (by rw [← hwk13, ← hwk14]; exact wrk_mono na hle)) (bin_cmp_lss wk13 wk14 w)) rfl fun ac hs => ?_))
            refine lstep (wpO_plain rfl (op_move hs none rfl rfl rfl rfl fun ac hs => ?_))
            refine lstep (wpO_in hs rfl rfl rfl (op_load hs none 0 (v := At .u8 32 f) rfl rfl rfl rfl Try.isAgg32 Try.sizeOf32 ldv_tab rfl fun ac hs => ?_))
            refine lstep (wpO_in hs rfl rfl rfl (op_move hs none rfl rfl rfl rfl fun ac hs => ?_))
            refine lstep (wpO_in hs rfl rfl rfl (op_call (F := 14) hs none (v := .bool true) rfl rfl rfl rfl (Try.call14 _) (meets_c f b true hf (show b < 4294967296 by omega) hq11) rfl fun ac w hs => ?_))
            refine lstep (wpO_in hs rfl rfl rfl (op_move hs none rfl rfl rfl rfl fun ac hs => ?_))
            refine lstep (wpO_in hs rfl rfl rfl (op_load hs none 0 (v := At .u8 32 f) rfl rfl rfl rfl Try.isAgg32 Try.sizeOf32 ldv_tab rfl fun ac hs => ?_))
            refine lstep (wpO_in hs rfl rfl rfl (op_move hs none rfl rfl rfl rfl fun ac hs => ?_))
            refine lstep (wpO_in hs rfl rfl rfl (op_call (F := 14) hs none (v := .bool true) rfl rfl rfl rfl (Try.call14 _) (meets_c f a true hf (show a < 4294967296 by omega) hq12) rfl fun ac w hs => ?_))
            refine lstep (wpO_in hs rfl rfl rfl (op_un hs none (v := .bool false) rfl rfl rfl (fun _ => rfl) rfl fun ac hs => ?_))
            refine lstep (wpO_in hs rfl rfl rfl (op_pickT hs none rfl rfl rfl rfl rfl fun ac hs => ?_))
            refine lstep (wpO_plain rfl (op_pickF hs none rfl rfl rfl rfl rfl fun ac hs => ?_))
            refine wpList_nil ?_
            refine then_n ?_
            refine wp_cond_false (hs.ev rfl) ?_
            refine wp_skip ?_
            refine then_n ?_
            refine wp_seq ?_
            refine wp_region_lit ?_
            refine lstep (wpO_plain rfl (op_load hs none 2 (v := W x2) rfl rfl rfl rfl Try.isAgg25 Try.sizeOf25 rfl rfl fun ac hs => ?_))
            refine lstep (wpO_plain rfl (op_build hs none (qs := [(0, .int .u64 1)]) (v := .agg #[.int .u64 1, .int .u64 0, .int .u64 0, .int .u64 0]) rfl rfl rfl rfl (fun _ => by kernel_rfl) rfl fun ac hs => ?_))
            obtain ⟨s17, hs17, ls17⟩ : ∃ z0, (x2 + 1) % 2 ^ 256 = z0 ∧ z0 < 2 ^ 256 := ⟨_, rfl, Nat.mod_lt _ (Nat.two_pow_pos 256)⟩
            obtain ⟨c18, hc18⟩ : ∃ z0, (x2 + 1) / 2 ^ 256 = z0 := ⟨_, rfl⟩
            refine lstep (wpO_plain rfl (op_call (F := 21) hs none (v := .tuple #[W s17, .int .u64 ((c18 : Nat) : Int)]) rfl rfl rfl rfl (Try.call21 _) (fun w => add_at w x2 1 s17 c18 lx2 (by decide) hs17 hc18) rfl fun ac w hs => ?_))
            refine lstep (wpO_plain rfl (op_move hs none rfl rfl rfl rfl fun ac hs => ?_))
            refine lstep (wpO_plain rfl (op_extract hs none rfl rfl rfl rfl rfl fun ac hs => ?_))
            refine lstep (wpO_plain rfl (op_extract hs none rfl rfl rfl rfl rfl fun ac hs => ?_))
            refine lstep (wpO_plain rfl (op_alloc hs none none (cs := [.int .u64 0, .int .u64 0, .int .u64 0, .int .u64 0]) rfl rfl Try.zeroValue25 (by kernel_rfl) rfl rfl fun g19 ac w hs => ?_))
            refine lstep (wpO_plain rfl (op_store hs 3 (vs := (Wl s17)) rfl rfl rfl rfl rfl Try.sizeOf25 rfl rfl rfl rfl rfl fun w hs => ?_))
            refine lstep (wpO_plain rfl (op_assign hs none rfl rfl rfl rfl fun ac hs => ?_))
            refine wpList_nil ?_
            refine then_n ?_
            refine wp_seq ?_
            refine wp_seq ?_
            refine wp_region_lit ?_
            refine lstep (wpO_plain rfl (op_move hs none rfl rfl rfl rfl fun ac hs => ?_))
            refine lstep (wpO_plain rfl (op_bin hs none (v := .bool false) rfl rfl rfl rfl (fun _ => rfl) (fun w => dF (by have := tgt_lt a; rw [hx2] at this; omega) (bin_neqN (x := c18) (y := 0) w)) rfl fun ac hs => ?_))
            refine wpList_nil ?_
            refine then_n ?_
            refine wp_cond_false (hs.ev rfl) ?_
            refine wp_skip ?_
            refine then_n ?_
            refine wp_seq ?_
            replace hs : St 139 w0 [(1, true, .int .u32 ((a : Nat) : Int)), (6, true, .bool false), (11, true, .pointer (some ⟨g19, 0, none⟩))] [(true, g1, 32, (tab .u8 32 f)), (true, g3, 25, (Wl x4)), (true, g5, 25, (Wl x2)), (true, g19, 25, (Wl s17))] ac w := hs.re ⟨rfl, rfl, rfl, trivial⟩
            obtain ⟨wk20, hwk20, lwk20⟩ : ∃ z0, wrk a = z0 ∧ z0 < 2 ^ 256 := ⟨_, rfl, wrk_lt _⟩
            obtain ⟨lo21, hlo21, llo21⟩ : ∃ z0, wk20 * s17 % 2 ^ 256 = z0 ∧ z0 < 2 ^ 256 := ⟨_, rfl, Nat.mod_lt _ (Nat.two_pow_pos 256)⟩
            obtain ⟨hi22, hhi22, lhi22⟩ : ∃ z0, wk20 * s17 / 2 ^ 256 = z0 ∧ z0 < 2 ^ 256 := ⟨_, rfl, mul_hi lwk20 ls17⟩
            refine region_inv [([], [1, 3, 4, 5, 6, 9, 10]), ([0], [3, 4, 5, 6, 9, 10]), ([], [3, 4, 5, 6, 9, 10]), ([0, 1, 2], [4, 5, 6, 9, 10]), ([0, 1, 2, 3], [5, 6, 9, 10]), ([0, 1, 2, 3, 4], [9, 10]), ([0, 1, 2, 3, 4], [10]), ([], [9, 10]), ([], [9, 10]), ([0, 1, 2, 3, 4, 5, 7, 8], [10]), ([0, 1, 2, 3, 4, 5, 6, 7, 8, 9], [])] (fun L ac w => ∃ (g23 : Nat) (g24 : Nat), St 139 w0 [(86, L 0, .int .u32 ((a : Nat) : Int)), (87, L 1, W wk20), (88, L 2, W s17), (89, L 3, .tuple #[W lo21, W hi22]), (85, L 4, .tuple #[W lo21, W hi22]), (90, L 5, W lo21), (91, L 6, W hi22), (13, L 7, .pointer (some ⟨g23, 0, none⟩)), (14, L 8, .pointer (some ⟨g24, 0, none⟩)), (1, true, .int .u32 ((a : Nat) : Int)), (6, true, .bool false), (11, true, .pointer (some ⟨g19, 0, none⟩))] [(true, g1, 32, (tab .u8 32 f)), (true, g3, 25, (Wl x4)), (true, g5, 25, (Wl x2)), (true, g19, 25, (Wl s17)), (L 7, g23, 25, (cond (L 9) (Wl lo21) [.int .u64 0, .int .u64 0, .int .u64 0, .int .u64 0])), (L 8, g24, 25, (cond (L 10) (Wl hi22) [.int .u64 0, .int .u64 0, .int .u64 0, .int .u64 0]))] ac w) (by kernel_rfl) (by kernel_rfl) ?_ ?_ ?_
            · exact ⟨0, 0, hs.drew.skip.skip.skip.skip.skip.skip.skip.skip.skip.pad.pad⟩
            · refine ⟨?_, ?_, ?_, ?_, ?_, ?_, ?_, ?_, ?_, ?_, ?_, trivial⟩
              · intro L ac w hJ
                obtain ⟨g23, g24, hs⟩ := hJ
                refine wpO_plain rfl (op_move hs (some 0) rfl rfl rfl rfl fun ac hs => ?_)
                exact ⟨g23, g24, hs⟩
              · intro L ac w hJ
                obtain ⟨g23, g24, hs⟩ := hJ
                refine wpO_plain rfl (op_call (F := 16) hs (some 1) (v := W wk20) rfl rfl rfl rfl (Try.call16 _) (work_c a wk20 (show a < 4294967296 by omega) hwk20) rfl fun ac w hs => ?_)
                exact ⟨g23, g24, hs⟩
              · intro L ac w hJ
                obtain ⟨g23, g24, hs⟩ := hJ
                refine wpO_plain rfl (op_load hs (some 2) 3 (v := W s17) rfl rfl rfl rfl Try.isAgg25 Try.sizeOf25 rfl rfl fun ac hs => ?_)
                exact ⟨g23, g24, hs⟩
              · intro L ac w hJ
                obtain ⟨g23, g24, hs⟩ := hJ
                refine wpO_plain rfl (op_call (F := 22) hs (some 3) (v := .tuple #[W lo21, W hi22]) rfl rfl rfl rfl (Try.call22 _) (fun w => wmul_at w wk20 s17 lo21 hi22 lwk20 ls17 hlo21 hhi22) rfl fun ac w hs => ?_)
                exact ⟨g23, g24, hs⟩
              · intro L ac w hJ
                obtain ⟨g23, g24, hs⟩ := hJ
                refine wpO_plain rfl (op_move hs (some 4) rfl rfl rfl rfl fun ac hs => ?_)
                exact ⟨g23, g24, hs⟩
              · intro L ac w hJ
                obtain ⟨g23, g24, hs⟩ := hJ
                refine wpO_plain rfl (op_extract hs (some 5) rfl rfl rfl rfl rfl fun ac hs => ?_)
                exact ⟨g23, g24, hs⟩
              · intro L ac w hJ
                obtain ⟨g23, g24, hs⟩ := hJ
                refine wpO_plain rfl (op_extract hs (some 6) rfl rfl rfl rfl rfl fun ac hs => ?_)
                exact ⟨g23, g24, hs⟩
              · intro L ac w hJ
                obtain ⟨g23, g24, hs⟩ := hJ
                refine wpO_plain rfl (op_alloc hs (some 7) (some 4) (cs := [.int .u64 0, .int .u64 0, .int .u64 0, .int .u64 0]) rfl rfl Try.zeroValue25 (by kernel_rfl) rfl rfl fun g23 ac w hs => ?_)
                exact ⟨g23, g24, hs⟩
              · intro L ac w hJ
                obtain ⟨g23, g24, hs⟩ := hJ
                refine wpO_plain rfl (op_alloc hs (some 8) (some 5) (cs := [.int .u64 0, .int .u64 0, .int .u64 0, .int .u64 0]) rfl rfl Try.zeroValue25 (by kernel_rfl) rfl rfl fun g24 ac w hs => ?_)
                exact ⟨g23, g24, hs⟩
              · intro L ac w hJ
                obtain ⟨g23, g24, hs⟩ := hJ
                refine wpO_plain rfl (op_store hs 4 (vs := (Wl lo21)) rfl rfl rfl rfl rfl Try.sizeOf25 rfl rfl rfl rfl rfl fun w hs => ?_)
                exact ⟨g23, g24, hs⟩
              · intro L ac w hJ
                obtain ⟨g23, g24, hs⟩ := hJ
                refine wpO_plain rfl (op_store hs 5 (vs := (Wl hi22)) rfl rfl rfl rfl rfl Try.sizeOf25 rfl rfl rfl rfl rfl fun w hs => ?_)
                exact ⟨g23, g24, hs⟩
            intro ac w hJ
            obtain ⟨g23, g24, hs⟩ := hJ
            replace hs : St 139 w0 [(86, true, .int .u32 ((a : Nat) : Int)), (87, true, W wk20), (88, true, W s17), (89, true, .tuple #[W lo21, W hi22]), (85, true, .tuple #[W lo21, W hi22]), (90, true, W lo21), (91, true, W hi22), (13, true, .pointer (some ⟨g23, 0, none⟩)), (14, true, .pointer (some ⟨g24, 0, none⟩)), (1, true, .int .u32 ((a : Nat) : Int)), (6, true, .bool false), (11, true, .pointer (some ⟨g19, 0, none⟩))] [(true, g1, 32, (tab .u8 32 f)), (true, g3, 25, (Wl x4)), (true, g5, 25, (Wl x2)), (true, g19, 25, (Wl s17)), (true, g23, 25, (Wl lo21)), (true, g24, 25, (Wl hi22))] ac w := hs
            have hfit : hi22 = 0 ∨ hi22 = 1 ∧ lo21 = 0 := wrk_fits nb' (by rw [hx2]; exact hs17) hwk20 hlo21 hhi22
            refine then_n ?_
            refine wp_seq ?_
            by_cases hq25 : hi22 = 0
            · skip
              refine wp_region_lit ?_
              refine lstep (wpO_plain rfl (op_load hs none 5 (v := W hi22) rfl rfl rfl rfl Try.isAgg25 Try.sizeOf25 rfl rfl fun ac hs => ?_))
              refine lstep (wpO_plain rfl (op_build hs none (qs := []) (v := .agg #[.int .u64 0, .int .u64 0, .int .u64 0, .int .u64 0]) rfl rfl rfl rfl (fun _ => by kernel_rfl) rfl fun ac hs => ?_))
              refine lstep (wpO_plain rfl (op_bin hs none (v := .bool true) rfl rfl rfl rfl (fun w => run_eqGuard_agg w .eql 25 _ _ _ _ Try.eqGuardType25) (eqlW hi22 0 lhi22 (by decide) true (decide_eq_true hq25)) rfl fun ac hs => ?_))
              refine lstep (wpO_plain rfl (op_move hs none rfl rfl rfl rfl fun ac hs => ?_))
              refine lstep (wpO_out hs none rfl rfl (.inl rfl) rfl rfl fun ac hs => ?_)
              refine lstep (wpO_out hs none rfl rfl (.inl rfl) rfl rfl fun ac hs => ?_)
              refine lstep (wpO_out hs none rfl rfl (.inl rfl) rfl rfl fun ac hs => ?_)
              refine lstep (wpO_out hs none rfl rfl (.inl rfl) rfl rfl fun ac hs => ?_)
              refine lstep (wpO_out hs none rfl rfl (.inr rfl) rfl rfl fun ac hs => ?_)
              refine lstep (wpO_out hs none rfl rfl (.inr rfl) rfl rfl fun ac hs => ?_)
              refine lstep (wpO_out hs none rfl rfl (.inr rfl) rfl rfl fun ac hs => ?_)
              refine lstep (wpO_out hs none rfl rfl (.inl rfl) rfl rfl fun ac hs => ?_)
              refine lstep (wpO_plain rfl (op_pickT hs none rfl rfl rfl rfl rfl fun ac hs => ?_))
              refine lstep (wpO_plain rfl (op_assign hs none rfl rfl rfl rfl fun ac hs => ?_))
              refine wpList_nil ?_
              refine then_n ?_
              refine wp_seq ?_
              refine wp_region_lit ?_
              refine lstep (wpO_plain rfl (op_move hs none rfl rfl rfl rfl fun ac hs => ?_))
              obtain ⟨wk26, hwk26, lwk26⟩ : ∃ z0, wrk a = z0 ∧ z0 < 2 ^ 256 := ⟨_, rfl, wrk_lt _⟩
              refine lstep (wpO_plain rfl (op_call (F := 16) hs none (v := W wk26) rfl rfl rfl rfl (Try.call16 _) (work_c a wk26 (show a < 4294967296 by omega) hwk26) rfl fun ac w hs => ?_))
              refine lstep (wpO_plain rfl (op_build hs none (qs := [(0, .int .u64 1)]) (v := .agg #[.int .u64 1, .int .u64 0, .int .u64 0, .int .u64 0]) rfl rfl rfl rfl (fun _ => by kernel_rfl) rfl fun ac hs => ?_))
              obtain ⟨s27, hs27, ls27⟩ : ∃ z0, (wk26 + 1) % 2 ^ 256 = z0 ∧ z0 < 2 ^ 256 := ⟨_, rfl, Nat.mod_lt _ (Nat.two_pow_pos 256)⟩
              obtain ⟨c28, hc28⟩ : ∃ z0, (wk26 + 1) / 2 ^ 256 = z0 := ⟨_, rfl⟩
              refine lstep (wpO_plain rfl (op_call (F := 21) hs none (v := .tuple #[W s27, .int .u64 ((c28 : Nat) : Int)]) rfl rfl rfl rfl (Try.call21 _) (fun w => add_at w wk26 1 s27 c28 lwk26 (by decide) hs27 hc28) rfl fun ac w hs => ?_))
              refine lstep (wpO_plain rfl (op_move hs none rfl rfl rfl rfl fun ac hs => ?_))
              refine lstep (wpO_plain rfl (op_extract hs none rfl rfl rfl rfl rfl fun ac hs => ?_))
              refine lstep (wpO_plain rfl (op_extract hs none rfl rfl rfl rfl rfl fun ac hs => ?_))
              refine lstep (wpO_plain rfl (op_alloc hs none none (cs := [.int .u64 0, .int .u64 0, .int .u64 0, .int .u64 0]) rfl rfl Try.zeroValue25 (by kernel_rfl) rfl rfl fun g29 ac w hs => ?_))
              refine lstep (wpO_plain rfl (op_store hs 6 (vs := (Wl s27)) rfl rfl rfl rfl rfl Try.sizeOf25 rfl rfl rfl rfl rfl fun w hs => ?_))
              refine lstep (wpO_plain rfl (op_assign hs none rfl rfl rfl rfl fun ac hs => ?_))
              refine wpList_nil ?_
              refine then_n ?_
              refine wp_seq ?_
              refine wp_region_lit ?_
              refine lstep (wpO_plain rfl (op_load hs none 6 (v := W s27) rfl rfl rfl rfl Try.isAgg25 Try.sizeOf25 rfl rfl fun ac hs => ?_))
              refine lstep (wpO_plain rfl (op_load hs none 3 (v := W s17) rfl rfl rfl rfl Try.isAgg25 Try.sizeOf25 rfl rfl fun ac hs => ?_))
              obtain ⟨lo30, hlo30, llo30⟩ : ∃ z0, s27 * s17 % 2 ^ 256 = z0 ∧ z0 < 2 ^ 256 := ⟨_, rfl, Nat.mod_lt _ (Nat.two_pow_pos 256)⟩
              obtain ⟨hi31, hhi31, lhi31⟩ : ∃ z0, s27 * s17 / 2 ^ 256 = z0 ∧ z0 < 2 ^ 256 := ⟨_, rfl, mul_hi ls27 ls17⟩
              refine lstep (wpO_plain rfl (op_call (F := 22) hs none (v := .tuple #[W lo30, W hi31]) rfl rfl rfl rfl (Try.call22 _) (fun w => wmul_at w s27 s17 lo30 hi31 ls27 ls17 hlo30 hhi31) rfl fun ac w hs => ?_))
              refine lstep (wpO_plain rfl (op_move hs none rfl rfl rfl rfl fun ac hs => ?_))
              refine lstep (wpO_plain rfl (op_extract hs none rfl rfl rfl rfl rfl fun ac hs => ?_))
              refine lstep (wpO_plain rfl (op_extract hs none rfl rfl rfl rfl rfl fun ac hs => ?_))
              refine lstep (wpO_plain rfl (op_store hs 4 (vs := (Wl lo30)) rfl rfl rfl rfl rfl Try.sizeOf25 rfl rfl rfl rfl rfl fun w hs => ?_))
              refine lstep (wpO_plain rfl (op_store hs 5 (vs := (Wl hi31)) rfl rfl rfl rfl rfl Try.sizeOf25 rfl rfl rfl rfl rfl fun w hs => ?_))
              refine wpList_nil ?_
              have habv : 1 < hi31 ∨ hi31 = 1 ∧ lo30 ≠ 0 := wrk_above nb' (by rw [hx2]; exact hs17) hwk26 hs27 hlo30 hhi31
              refine then_n ?_
              refine wp_seq ?_
              by_cases hq32 : 1 < hi31
              · skip
                refine wp_region_lit ?_
                refine lstep (wpO_plain rfl (op_load hs none 5 (v := W hi31) rfl rfl rfl rfl Try.isAgg25 Try.sizeOf25 rfl rfl fun ac hs => ?_))
                refine lstep (wpO_plain rfl (op_build hs none (qs := [(0, .int .u64 1)]) (v := .agg #[.int .u64 1, .int .u64 0, .int .u64 0, .int .u64 0]) rfl rfl rfl rfl (fun _ => by kernel_rfl) rfl fun ac hs => ?_))
                refine lstep (wpO_plain rfl (op_call (F := 18) hs none (v := .int .i64 (cmpZ hi31 1)) rfl rfl rfl rfl (Try.call18 _) (fun w => cmp_any w hi31 1 lhi31 (by decide)) rfl fun ac w hs => ?_))
                refine lstep (wpO_plain rfl (op_bin hs none (v := .bool true) rfl rfl rfl rfl (fun _ => rfl) (fun w => dT hq32 (bin_cmp_gtr hi31 1 w)) rfl fun ac hs => ?_))
                refine lstep (wpO_plain rfl (op_move hs none rfl rfl rfl rfl fun ac hs => ?_))
                refine lstep (wpO_out hs none rfl rfl (.inl rfl) rfl rfl fun ac hs => ?_)
                refine lstep (wpO_out hs none rfl rfl (.inl rfl) rfl rfl fun ac hs => ?_)
                refine lstep (wpO_out hs none rfl rfl (.inl rfl) rfl rfl fun ac hs => ?_)
                refine lstep (wpO_out hs none rfl rfl (.inl rfl) rfl rfl fun ac hs => ?_)
                refine lstep (wpO_out hs none rfl rfl (.inr rfl) rfl rfl fun ac hs => ?_)
                refine lstep (wpO_out hs none rfl rfl (.inr rfl) rfl rfl fun ac hs => ?_)
                refine lstep (wpO_out hs none rfl rfl (.inr rfl) rfl rfl fun ac hs => ?_)
                refine lstep (wpO_out hs none rfl rfl (.inl rfl) rfl rfl fun ac hs => ?_)
                refine lstep (wpO_plain rfl (op_pickT hs none rfl rfl rfl rfl rfl fun ac hs => ?_))
                refine lstep (wpO_plain rfl (op_assign hs none rfl rfl rfl rfl fun ac hs => ?_))
                refine wpList_nil ?_
                refine then_n ?_
                refine wp_seq ?_
                refine wp_region_lit ?_
                refine lstep (wpO_plain rfl (op_call (F := 11) hs none (v := .bool true) rfl rfl rfl rfl (Try.call11 _) alive_c rfl fun ac w hs => ?_))
                refine lstep (wpO_plain rfl (op_move hs none rfl rfl rfl rfl fun ac hs => ?_))
                refine lstep (wpO_in hs rfl rfl rfl (op_move hs none rfl rfl rfl rfl fun ac hs => ?_))
                refine lstep (wpO_plain rfl (op_pickT hs none rfl rfl rfl rfl rfl fun ac hs => ?_))
                refine lstep (wpO_plain rfl (op_move hs none rfl rfl rfl rfl fun ac hs => ?_))
                refine lstep (wpO_in hs rfl rfl rfl (op_move hs none rfl rfl rfl rfl fun ac hs => ?_))
                refine lstep (wpO_plain rfl (op_pickT hs none rfl rfl rfl rfl rfl fun ac hs => ?_))
                refine lstep (wpO_plain rfl (op_assign hs none rfl rfl rfl rfl fun ac hs => ?_))
                refine wpList_nil ?_
                refine then_n ?_
                refine wp_ret ?_
                exact bodyPost_ret (res1 rfl (rv_t hs rfl)) hs.defers ⟨rfl, hs.below⟩
              · skip
                refine wp_region_lit ?_
                refine lstep (wpO_plain rfl (op_load hs none 5 (v := W hi31) rfl rfl rfl rfl Try.isAgg25 Try.sizeOf25 rfl rfl fun ac hs => ?_))
                refine lstep (wpO_plain rfl (op_build hs none (qs := [(0, .int .u64 1)]) (v := .agg #[.int .u64 1, .int .u64 0, .int .u64 0, .int .u64 0]) rfl rfl rfl rfl (fun _ => by kernel_rfl) rfl fun ac hs => ?_))
                refine lstep (wpO_plain rfl (op_call (F := 18) hs none (v := .int .i64 (cmpZ hi31 1)) rfl rfl rfl rfl (Try.call18 _) (fun w => cmp_any w hi31 1 lhi31 (by decide)) rfl fun ac w hs => ?_))
                refine lstep (wpO_plain rfl (op_bin hs none (v := .bool false) rfl rfl rfl rfl (fun _ => rfl) (fun w => dF hq32 (bin_cmp_gtr hi31 1 w)) rfl fun ac hs => ?_))
                refine lstep (wpO_plain rfl (op_move hs none rfl rfl rfl rfl fun ac hs => ?_))
                refine lstep (wpO_in hs rfl rfl rfl (op_load hs none 5 (v := W hi31) rfl rfl rfl rfl Try.isAgg25 Try.sizeOf25 rfl rfl fun ac hs => ?_))
                refine lstep (wpO_in hs rfl rfl rfl (op_build hs none (qs := [(0, .int .u64 1)]) (v := .agg #[.int .u64 1, .int .u64 0, .int .u64 0, .int .u64 0]) rfl rfl rfl rfl (fun _ => by kernel_rfl) rfl fun ac hs => ?_))
                refine lstep (wpO_in hs rfl rfl rfl (op_bin hs none (v := .bool true) rfl rfl rfl rfl (fun w => run_eqGuard_agg w .eql 25 _ _ _ _ Try.eqGuardType25) (eqlW hi31 1 lhi31 (by decide) true (decide_eq_true (habv.resolve_left hq32).1)) rfl fun ac hs => ?_))
                refine lstep (wpO_in hs rfl rfl rfl (op_move hs none rfl rfl rfl rfl fun ac hs => ?_))
                refine lstep (wpO_in hs rfl rfl rfl (op_load hs none 4 (v := W lo30) rfl rfl rfl rfl Try.isAgg25 Try.sizeOf25 rfl rfl fun ac hs => ?_))
                refine lstep (wpO_in hs rfl rfl rfl (op_build hs none (qs := []) (v := .agg #[.int .u64 0, .int .u64 0, .int .u64 0, .int .u64 0]) rfl rfl rfl rfl (fun _ => by kernel_rfl) rfl fun ac hs => ?_))
                refine lstep (wpO_in hs rfl rfl rfl (op_bin hs none (v := .bool true) rfl rfl rfl rfl (fun w => run_eqGuard_agg w .neq 25 _ _ _ _ Try.eqGuardType25) (neqW lo30 0 llo30 (by decide) true (decide_eq_true (habv.resolve_left hq32).2)) rfl fun ac hs => ?_))
                refine lstep (wpO_in hs rfl rfl rfl (op_pickT hs none rfl rfl rfl rfl rfl fun ac hs => ?_))
                refine lstep (wpO_plain rfl (op_pickF hs none rfl rfl rfl rfl rfl fun ac hs => ?_))
                refine lstep (wpO_plain rfl (op_assign hs none rfl rfl rfl rfl fun ac hs => ?_))
                refine wpList_nil ?_
                refine then_n ?_
                refine wp_seq ?_
                refine wp_region_lit ?_
                refine lstep (wpO_plain rfl (op_call (F := 11) hs none (v := .bool true) rfl rfl rfl rfl (Try.call11 _) alive_c rfl fun ac w hs => ?_))
                refine lstep (wpO_plain rfl (op_move hs none rfl rfl rfl rfl fun ac hs => ?_))
                refine lstep (wpO_in hs rfl rfl rfl (op_move hs none rfl rfl rfl rfl fun ac hs => ?_))
                refine lstep (wpO_plain rfl (op_pickT hs none rfl rfl rfl rfl rfl fun ac hs => ?_))
                refine lstep (wpO_plain rfl (op_move hs none rfl rfl rfl rfl fun ac hs => ?_))
                refine lstep (wpO_in hs rfl rfl rfl (op_move hs none rfl rfl rfl rfl fun ac hs => ?_))
                refine lstep (wpO_plain rfl (op_pickT hs none rfl rfl rfl rfl rfl fun ac hs => ?_))
                refine lstep (wpO_plain rfl (op_assign hs none rfl rfl rfl rfl fun ac hs => ?_))
                refine wpList_nil ?_
                refine then_n ?_
                refine wp_ret ?_
                exact bodyPost_ret (res1 rfl (rv_t hs rfl)) hs.defers ⟨rfl, hs.below⟩
            · skip
              refine wp_region_lit ?_
              refine lstep (wpO_plain rfl (op_load hs none 5 (v := W hi22) rfl rfl rfl rfl Try.isAgg25 Try.sizeOf25 rfl rfl fun ac hs => ?_))
              refine lstep (wpO_plain rfl (op_build hs none (qs := []) (v := .agg #[.int .u64 0, .int .u64 0, .int .u64 0, .int .u64 0]) rfl rfl rfl rfl (fun _ => by kernel_rfl) rfl fun ac hs => ?_))
              refine lstep (wpO_plain rfl (op_bin hs none (v := .bool false) rfl rfl rfl rfl (fun w => run_eqGuard_agg w .eql 25 _ _ _ _ Try.eqGuardType25) (eqlW hi22 0 lhi22 (by decide) false (decide_eq_false hq25)) rfl fun ac hs => ?_))
              refine lstep (wpO_plain rfl (op_move hs none rfl rfl rfl rfl fun ac hs => ?_))
              refine lstep (wpO_in hs rfl rfl rfl (op_load hs none 5 (v := W hi22) rfl rfl rfl rfl Try.isAgg25 Try.sizeOf25 rfl rfl fun ac hs => ?_))
              refine lstep (wpO_in hs rfl rfl rfl (op_build hs none (qs := [(0, .int .u64 1)]) (v := .agg #[.int .u64 1, .int .u64 0, .int .u64 0, .int .u64 0]) rfl rfl rfl rfl (fun _ => by kernel_rfl) rfl fun ac hs => ?_))
              refine lstep (wpO_in hs rfl rfl rfl (op_bin hs none (v := .bool true) rfl rfl rfl rfl (fun w => run_eqGuard_agg w .eql 25 _ _ _ _ Try.eqGuardType25) (eqlW hi22 1 lhi22 (by decide) true (decide_eq_true (hfit.resolve_left hq25).1)) rfl fun ac hs => ?_))
              refine lstep (wpO_in hs rfl rfl rfl (op_move hs none rfl rfl rfl rfl fun ac hs => ?_))
              refine lstep (wpO_in hs rfl rfl rfl (op_load hs none 4 (v := W lo21) rfl rfl rfl rfl Try.isAgg25 Try.sizeOf25 rfl rfl fun ac hs => ?_))
              refine lstep (wpO_in hs rfl rfl rfl (op_build hs none (qs := []) (v := .agg #[.int .u64 0, .int .u64 0, .int .u64 0, .int .u64 0]) rfl rfl rfl rfl (fun _ => by kernel_rfl) rfl fun ac hs => ?_))
              refine lstep (wpO_in hs rfl rfl rfl (op_bin hs none (v := .bool true) rfl rfl rfl rfl (fun w => run_eqGuard_agg w .eql 25 _ _ _ _ Try.eqGuardType25) (eqlW lo21 0 llo21 (by decide) true (decide_eq_true (hfit.resolve_left hq25).2)) rfl fun ac hs => ?_))
              refine lstep (wpO_in hs rfl rfl rfl (op_pickT hs none rfl rfl rfl rfl rfl fun ac hs => ?_))
              refine lstep (wpO_plain rfl (op_pickF hs none rfl rfl rfl rfl rfl fun ac hs => ?_))
              refine lstep (wpO_plain rfl (op_assign hs none rfl rfl rfl rfl fun ac hs => ?_))
              refine wpList_nil ?_
              refine then_n ?_
              refine wp_seq ?_
              refine wp_region_lit ?_
              refine lstep (wpO_plain rfl (op_move hs none rfl rfl rfl rfl fun ac hs => ?_))
              obtain ⟨wk33, hwk33, lwk33⟩ : ∃ z0, wrk a = z0 ∧ z0 < 2 ^ 256 := ⟨_, rfl, wrk_lt _⟩
              refine lstep (wpO_plain rfl (op_call (F := 16) hs none (v := W wk33) rfl rfl rfl rfl (Try.call16 _) (work_c a wk33 (show a < 4294967296 by omega) hwk33) rfl fun ac w hs => ?_))
              refine lstep (wpO_plain rfl (op_build hs none (qs := [(0, .int .u64 1)]) (v := .agg #[.int .u64 1, .int .u64 0, .int .u64 0, .int .u64 0]) rfl rfl rfl rfl (fun _ => by kernel_rfl) rfl fun ac hs => ?_))
              obtain ⟨s34, hs34, ls34⟩ : ∃ z0, (wk33 + 1) % 2 ^ 256 = z0 ∧ z0 < 2 ^ 256 := ⟨_, rfl, Nat.mod_lt _ (Nat.two_pow_pos 256)⟩
              obtain ⟨c35, hc35⟩ : ∃ z0, (wk33 + 1) / 2 ^ 256 = z0 := ⟨_, rfl⟩
              refine lstep (wpO_plain rfl (op_call (F := 21) hs none (v := .tuple #[W s34, .int .u64 ((c35 : Nat) : Int)]) rfl rfl rfl rfl (Try.call21 _) (fun w => add_at w wk33 1 s34 c35 lwk33 (by decide) hs34 hc35) rfl fun ac w hs => ?_))
              refine lstep (wpO_plain rfl (op_move hs none rfl rfl rfl rfl fun ac hs => ?_))
              refine lstep (wpO_plain rfl (op_extract hs none rfl rfl rfl rfl rfl fun ac hs => ?_))
              refine lstep (wpO_plain rfl (op_extract hs none rfl rfl rfl rfl rfl fun ac hs => ?_))
              refine lstep (wpO_plain rfl (op_alloc hs none none (cs := [.int .u64 0, .int .u64 0, .int .u64 0, .int .u64 0]) rfl rfl Try.zeroValue25 (by kernel_rfl) rfl rfl fun g36 ac w hs => ?_))
              refine lstep (wpO_plain rfl (op_store hs 6 (vs := (Wl s34)) rfl rfl rfl rfl rfl Try.sizeOf25 rfl rfl rfl rfl rfl fun w hs => ?_))
              refine lstep (wpO_plain rfl (op_assign hs none rfl rfl rfl rfl fun ac hs => ?_))
              refine wpList_nil ?_
              refine then_n ?_
              refine wp_seq ?_
              refine wp_region_lit ?_
              refine lstep (wpO_plain rfl (op_load hs none 6 (v := W s34) rfl rfl rfl rfl Try.isAgg25 Try.sizeOf25 rfl rfl fun ac hs => ?_))
              refine lstep (wpO_plain rfl (op_load hs none 3 (v := W s17) rfl rfl rfl rfl Try.isAgg25 Try.sizeOf25 rfl rfl fun ac hs => ?_))
              obtain ⟨lo37, hlo37, llo37⟩ : ∃ z0, s34 * s17 % 2 ^ 256 = z0 ∧ z0 < 2 ^ 256 := ⟨_, rfl, Nat.mod_lt _ (Nat.two_pow_pos 256)⟩
              obtain ⟨hi38, hhi38, lhi38⟩ : ∃ z0, s34 * s17 / 2 ^ 256 = z0 ∧ z0 < 2 ^ 256 := ⟨_, rfl, mul_hi ls34 ls17⟩
              refine lstep (wpO_plain rfl (op_call (F := 22) hs none (v := .tuple #[W lo37, W hi38]) rfl rfl rfl rfl (Try.call22 _) (fun w => wmul_at w s34 s17 lo37 hi38 ls34 ls17 hlo37 hhi38) rfl fun ac w hs => ?_))
              refine lstep (wpO_plain rfl (op_move hs none rfl rfl rfl rfl fun ac hs => ?_))
              refine lstep (wpO_plain rfl (op_extract hs none rfl rfl rfl rfl rfl fun ac hs => ?_))
              refine lstep (wpO_plain rfl (op_extract hs none rfl rfl rfl rfl rfl fun ac hs => ?_))
              refine lstep (wpO_plain rfl (op_store hs 4 (vs := (Wl lo37)) rfl rfl rfl rfl rfl Try.sizeOf25 rfl rfl rfl rfl rfl fun w hs => ?_))
              refine lstep (wpO_plain rfl (op_store hs 5 (vs := (Wl hi38)) rfl rfl rfl rfl rfl Try.sizeOf25 rfl rfl rfl rfl rfl fun w hs => ?_))
              refine wpList_nil ?_
              have habv : 1 < hi38 ∨ hi38 = 1 ∧ lo37 ≠ 0 := wrk_above nb' (by rw [hx2]; exact hs17) hwk33 hs34 hlo37 hhi38
              refine then_n ?_
              refine wp_seq ?_
              by_cases hq39 : 1 < hi38
              · skip
                refine wp_region_lit ?_
                refine lstep (wpO_plain rfl (op_load hs none 5 (v := W hi38) rfl rfl rfl rfl Try.isAgg25 Try.sizeOf25 rfl rfl fun ac hs => ?_))
                refine lstep (wpO_plain rfl (op_build hs none (qs := [(0, .int .u64 1)]) (v := .agg #[.int .u64 1, .int .u64 0, .int .u64 0, .int .u64 0]) rfl rfl rfl rfl (fun _ => by kernel_rfl) rfl fun ac hs => ?_))
                refine lstep (wpO_plain rfl (op_call (F := 18) hs none (v := .int .i64 (cmpZ hi38 1)) rfl rfl rfl rfl (Try.call18 _) (fun w => cmp_any w hi38 1 lhi38 (by decide)) rfl fun ac w hs => ?_))
                refine lstep (wpO_plain rfl (op_bin hs none (v := .bool true) rfl rfl rfl rfl (fun _ => rfl) (fun w => dT hq39 (bin_cmp_gtr hi38 1 w)) rfl fun ac hs => ?_))
                refine lstep (wpO_plain rfl (op_move hs none rfl rfl rfl rfl fun ac hs => ?_))
                refine lstep (wpO_out hs none rfl rfl (.inl rfl) rfl rfl fun ac hs => ?_)
                refine lstep (wpO_out hs none rfl rfl (.inl rfl) rfl rfl fun ac hs => ?_)
                refine lstep (wpO_out hs none rfl rfl (.inl rfl) rfl rfl fun ac hs => ?_)
                refine lstep (wpO_out hs none rfl rfl (.inl rfl) rfl rfl fun ac hs => ?_)
                refine lstep (wpO_out hs none rfl rfl (.inr rfl) rfl rfl fun ac hs => ?_)
                refine lstep (wpO_out hs none rfl rfl (.inr rfl) rfl rfl fun ac hs => ?_)
                refine lstep (wpO_out hs none rfl rfl (.inr rfl) rfl rfl fun ac hs => ?_)
                refine lstep (wpO_out hs none rfl rfl (.inl rfl) rfl rfl fun ac hs => ?_)
                refine lstep (wpO_plain rfl (op_pickT hs none rfl rfl rfl rfl rfl fun ac hs => ?_))
                refine lstep (wpO_plain rfl (op_assign hs none rfl rfl rfl rfl fun ac hs => ?_))
                refine wpList_nil ?_
                refine then_n ?_
                refine wp_seq ?_
                refine wp_region_lit ?_
                refine lstep (wpO_plain rfl (op_call (F := 11) hs none (v := .bool true) rfl rfl rfl rfl (Try.call11 _) alive_c rfl fun ac w hs => ?_))
                refine lstep (wpO_plain rfl (op_move hs none rfl rfl rfl rfl fun ac hs => ?_))
                refine lstep (wpO_in hs rfl rfl rfl (op_move hs none rfl rfl rfl rfl fun ac hs => ?_))
                refine lstep (wpO_plain rfl (op_pickT hs none rfl rfl rfl rfl rfl fun ac hs => ?_))
                refine lstep (wpO_plain rfl (op_move hs none rfl rfl rfl rfl fun ac hs => ?_))
                refine lstep (wpO_in hs rfl rfl rfl (op_move hs none rfl rfl rfl rfl fun ac hs => ?_))
                refine lstep (wpO_plain rfl (op_pickT hs none rfl rfl rfl rfl rfl fun ac hs => ?_))
                refine lstep (wpO_plain rfl (op_assign hs none rfl rfl rfl rfl fun ac hs => ?_))
                refine wpList_nil ?_
                refine then_n ?_
                refine wp_ret ?_
                exact bodyPost_ret (res1 rfl (rv_t hs rfl)) hs.defers ⟨rfl, hs.below⟩
              · skip
                refine wp_region_lit ?_
                refine lstep (wpO_plain rfl (op_load hs none 5 (v := W hi38) rfl rfl rfl rfl Try.isAgg25 Try.sizeOf25 rfl rfl fun ac hs => ?_))
                refine lstep (wpO_plain rfl (op_build hs none (qs := [(0, .int .u64 1)]) (v := .agg #[.int .u64 1, .int .u64 0, .int .u64 0, .int .u64 0]) rfl rfl rfl rfl (fun _ => by kernel_rfl) rfl fun ac hs => ?_))
                refine lstep (wpO_plain rfl (op_call (F := 18) hs none (v := .int .i64 (cmpZ hi38 1)) rfl rfl rfl rfl (Try.call18 _) (fun w => cmp_any w hi38 1 lhi38 (by decide)) rfl fun ac w hs => ?_))
                refine lstep (wpO_plain rfl (op_bin hs none (v := .bool false) rfl rfl rfl rfl (fun _ => rfl) (fun w => dF hq39 (bin_cmp_gtr hi38 1 w)) rfl fun ac hs => ?_))
                refine lstep (wpO_plain rfl (op_move hs none rfl rfl rfl rfl fun ac hs => ?_))
                refine lstep (wpO_in hs rfl rfl rfl (op_load hs none 5 (v := W hi38) rfl rfl rfl rfl Try.isAgg25 Try.sizeOf25 rfl rfl fun ac hs => ?_))
                refine lstep (wpO_in hs rfl rfl rfl (op_build hs none (qs := [(0, .int .u64 1)]) (v := .agg #[.int .u64 1, .int .u64 0, .int .u64 0, .int .u64 0]) rfl rfl rfl rfl (fun _ => by kernel_rfl) rfl fun ac hs => ?_))
                refine lstep (wpO_in hs rfl rfl rfl (op_bin hs none (v := .bool true) rfl rfl rfl rfl (fun w => run_eqGuard_agg w .eql 25 _ _ _ _ Try.eqGuardType25) (eqlW hi38 1 lhi38 (by decide) true (decide_eq_true (habv.resolve_left hq39).1)) rfl fun ac hs => ?_))
                refine lstep (wpO_in hs rfl rfl rfl (op_move hs none rfl rfl rfl rfl fun ac hs => ?_))
                refine lstep (wpO_in hs rfl rfl rfl (op_load hs none 4 (v := W lo37) rfl rfl rfl rfl Try.isAgg25 Try.sizeOf25 rfl rfl fun ac hs => ?_))
                refine lstep (wpO_in hs rfl rfl rfl (op_build hs none (qs := []) (v := .agg #[.int .u64 0, .int .u64 0, .int .u64 0, .int .u64 0]) rfl rfl rfl rfl (fun _ => by kernel_rfl) rfl fun ac hs => ?_))
                refine lstep (wpO_in hs rfl rfl rfl (op_bin hs none (v := .bool true) rfl rfl rfl rfl (fun w => run_eqGuard_agg w .neq 25 _ _ _ _ Try.eqGuardType25) (neqW lo37 0 llo37 (by decide) true (decide_eq_true (habv.resolve_left hq39).2)) rfl fun ac hs => ?_))
                refine lstep (wpO_in hs rfl rfl rfl (op_pickT hs none rfl rfl rfl rfl rfl fun ac hs => ?_))
                refine lstep (wpO_plain rfl (op_pickF hs none rfl rfl rfl rfl rfl fun ac hs => ?_))
                refine lstep (wpO_plain rfl (op_assign hs none rfl rfl rfl rfl fun ac hs => ?_))
                refine wpList_nil ?_
                refine then_n ?_
                refine wp_seq ?_
                refine wp_region_lit ?_
                refine lstep (wpO_plain rfl (op_call (F := 11) hs none (v := .bool true) rfl rfl rfl rfl (Try.call11 _) alive_c rfl fun ac w hs => ?_))
                refine lstep (wpO_plain rfl (op_move hs none rfl rfl rfl rfl fun ac hs => ?_))
                refine lstep (wpO_in hs rfl rfl rfl (op_move hs none rfl rfl rfl rfl fun ac hs => ?_))
                refine lstep (wpO_plain rfl (op_pickT hs none rfl rfl rfl rfl rfl fun ac hs => ?_))
                refine lstep (wpO_plain rfl (op_move hs none rfl rfl rfl rfl fun ac hs => ?_))
                refine lstep (wpO_in hs rfl rfl rfl (op_move hs none rfl rfl rfl rfl fun ac hs => ?_))
                refine lstep (wpO_plain rfl (op_pickT hs none rfl rfl rfl rfl rfl fun ac hs => ?_))
                refine lstep (wpO_plain rfl (op_assign hs none rfl rfl rfl rfl fun ac hs => ?_))
                refine wpList_nil ?_
                refine then_n ?_
                refine wp_ret ?_
                exact bodyPost_ret (res1 rfl (rv_t hs rfl)) hs.defers ⟨rfl, hs.below⟩
          · skip
            refine wp_region_lit ?_
            refine lstep (wpO_plain rfl (op_move hs none rfl rfl rfl rfl fun ac hs => ?_))
            obtain ⟨wk40, hwk40, lwk40⟩ : ∃ z0, wrk b = z0 ∧ z0 < 2 ^ 256 := ⟨_, rfl, wrk_lt _⟩
            refine lstep (wpO_plain rfl (op_call (F := 16) hs none (v := W wk40) rfl rfl rfl rfl (Try.call16 _) (work_c b wk40 (show b < 4294967296 by omega) hwk40) rfl fun ac w hs => ?_))
            refine lstep (wpO_plain rfl (op_move hs none rfl rfl rfl rfl fun ac hs => ?_))
            obtain ⟨wk41, hwk41, lwk41⟩ : ∃ z0, wrk a = z0 ∧ z0 < 2 ^ 256 := ⟨_, rfl, wrk_lt _⟩
            refine lstep (wpO_plain rfl (op_call (F := 16) hs none (v := W wk41) rfl rfl rfl rfl (Try.call16 _) (work_c a wk41 (show a < 4294967296 by omega) hwk41) rfl fun ac w hs => ?_))
            refine lstep (wpO_plain rfl (op_call (F := 18) hs none (v := .int .i64 (cmpZ wk40 wk41)) rfl rfl rfl rfl (Try.call18 _) (fun w => cmp_any w wk40 wk41 lwk40 lwk41) rfl fun ac w hs => ?_))
            refine lstep (wpO_plain rfl (op_bin hs none (v := .bool false) rfl rfl rfl rfl (fun _ => rfl) (fun w => dF (Nat.not_lt.2 (by rw [← hwk40, ← hwk41]; exact wrk_mono na hle)) (bin_cmp_lss wk40 wk41 w)) rfl fun ac hs => ?_))
            refine lstep (wpO_plain rfl (op_move hs none rfl rfl rfl rfl fun ac hs => ?_))
            refine lstep (wpO_in hs rfl rfl rfl (op_load hs none 0 (v := At .u8 32 f) rfl rfl rfl rfl Try.isAgg32 Try.sizeOf32 ldv_tab rfl fun ac hs => ?_))
            refine lstep (wpO_in hs rfl rfl rfl (op_move hs none rfl rfl rfl rfl fun ac hs => ?_))
            refine lstep (wpO_in hs rfl rfl rfl (op_call (F := 14) hs none (v := .bool true) rfl rfl rfl rfl (Try.call14 _) (meets_c f b true hf (show b < 4294967296 by omega) hq11) rfl fun ac w hs => ?_))
            refine lstep (wpO_in hs rfl rfl rfl (op_move hs none rfl rfl rfl rfl fun ac hs => ?_))
            refine lstep (wpO_in hs rfl rfl rfl (op_load hs none 0 (v := At .u8 32 f) rfl rfl rfl rfl Try.isAgg32 Try.sizeOf32 ldv_tab rfl fun ac hs => ?_))
            refine lstep (wpO_in hs rfl rfl rfl (op_move hs none rfl rfl rfl rfl fun ac hs => ?_))
            refine lstep (wpO_in hs rfl rfl rfl (op_call (F := 14) hs none (v := .bool false) rfl rfl rfl rfl (Try.call14 _) (meets_c f a false hf (show a < 4294967296 by omega) (Bool.eq_false_iff.2 hq12)) rfl fun ac w hs => ?_))
            refine lstep (wpO_in hs rfl rfl rfl (op_un hs none (v := .bool true) rfl rfl rfl (fun _ => rfl) rfl fun ac hs => ?_))
            refine lstep (wpO_in hs rfl rfl rfl (op_pickT hs none rfl rfl rfl rfl rfl fun ac hs => ?_))
            refine lstep (wpO_plain rfl (op_pickF hs none rfl rfl rfl rfl rfl fun ac hs => ?_))
            refine wpList_nil ?_
            refine then_n ?_
            refine wp_cond_true (hs.ev rfl) ?_
            refine wp_seq ?_
            refine wp_region_lit ?_
            refine lstep (wpO_plain rfl (op_assign hs none rfl rfl rfl rfl fun ac hs => ?_))
            refine wpList_nil ?_
            refine then_n ?_
            refine wp_ret ?_
            refine then_r ?_
            exact bodyPost_ret (res1 rfl (rv_t hs rfl)) hs.defers ⟨absurd (mts_mono hle hq11) hq12, hs.below⟩
        · skip
          refine wp_region_lit ?_
          refine lstep (wpO_plain rfl (op_move hs none rfl rfl rfl rfl fun ac hs => ?_))
          obtain ⟨wk44, hwk44, lwk44⟩ : ∃ z0, wrk b = z0 ∧ z0 < 2 ^ 256 := ⟨_, rfl, wrk_lt _⟩
          refine lstep (wpO_plain rfl (op_call (F := 16) hs none (v := W wk44) rfl rfl rfl rfl (Try.call16 _) (work_c b wk44 (show b < 4294967296 by omega) hwk44) rfl fun ac w hs => ?_))
          refine lstep (wpO_plain rfl (op_move hs none rfl rfl rfl rfl fun ac hs => ?_))
          obtain ⟨wk45, hwk45, lwk45⟩ : ∃ z0, wrk a = z0 ∧ z0 < 2 ^ 256 := ⟨_, rfl, wrk_lt _⟩
          refine lstep (wpO_plain rfl (op_call (F := 16) hs none (v := W wk45) rfl rfl rfl rfl (Try.call16 _) (work_c a wk45 (show a < 4294967296 by omega) hwk45) rfl fun ac w hs => ?_))
          refine lstep (wpO_plain rfl (op_call (F := 18) hs none (v := .int .i64 (cmpZ wk44 wk45)) rfl rfl rfl rfl (Try.call18 _) (fun w => cmp_any w wk44 wk45 lwk44 lwk45) rfl fun ac w hs => ?_))
          refine lstep (wpO_plain rfl (op_bin hs none (v := .bool false) rfl rfl rfl rfl (fun _ => rfl) (fun w => dF (Nat.not_lt.2 (by rw [← hwk44, ← hwk45]; exact wrk_mono na hle)) (bin_cmp_lss wk44 wk45 w)) rfl fun ac hs => ?_))
          refine lstep (wpO_plain rfl (op_move hs none rfl rfl rfl rfl fun ac hs => ?_))
          refine lstep (wpO_in hs rfl rfl rfl (op_load hs none 0 (v := At .u8 32 f) rfl rfl rfl rfl Try.isAgg32 Try.sizeOf32 ldv_tab rfl fun ac hs => ?_))
          refine lstep (wpO_in hs rfl rfl rfl (op_move hs none rfl rfl rfl rfl fun ac hs => ?_))
          refine lstep (wpO_in hs rfl rfl rfl (op_call (F := 14) hs none (v := .bool false) rfl rfl rfl rfl (Try.call14 _) (meets_c f b false hf (show b < 4294967296 by omega) (Bool.eq_false_iff.2 hq11)) rfl fun ac w hs => ?_))
          refine lstep (wpO_in hs rfl rfl rfl (op_move hs none rfl rfl rfl rfl fun ac hs => ?_))
          refine lstep (wpO_out hs none rfl rfl (.inl rfl) rfl rfl fun ac hs => ?_)
          refine lstep (wpO_out hs none rfl rfl (.inl rfl) rfl rfl fun ac hs => ?_)
          refine lstep (wpO_out hs none rfl rfl (.inl rfl) rfl rfl fun ac hs => ?_)
          refine lstep (wpO_out hs none rfl rfl (.inl rfl) rfl rfl fun ac hs => ?_)
          refine lstep (wpO_in hs rfl rfl rfl (op_pickF hs none rfl rfl rfl rfl rfl fun ac hs => ?_))
          refine lstep (wpO_plain rfl (op_pickF hs none rfl rfl rfl rfl rfl fun ac hs => ?_))
          refine wpList_nil ?_
          refine then_n ?_
          refine wp_cond_false (hs.ev rfl) ?_
          refine wp_skip ?_
          refine then_n ?_
          refine wp_seq ?_
          refine wp_region_lit ?_
          refine lstep (wpO_plain rfl (op_load hs none 2 (v := W x2) rfl rfl rfl rfl Try.isAgg25 Try.sizeOf25 rfl rfl fun ac hs => ?_))
          refine lstep (wpO_plain rfl (op_build hs none (qs := [(0, .int .u64 1)]) (v := .agg #[.int .u64 1, .int .u64 0, .int .u64 0, .int .u64 0]) rfl rfl rfl rfl (fun _ => by kernel_rfl) rfl fun ac hs => ?_))
          obtain ⟨s47, hs47, ls47⟩ : ∃ z0, (x2 + 1) % 2 ^ 256 = z0 ∧ z0 < 2 ^ 256 := ⟨_, rfl, Nat.mod_lt _ (Nat.two_pow_pos 256)⟩
          obtain ⟨c48, hc48⟩ : ∃ z0, (x2 + 1) / 2 ^ 256 = z0 := ⟨_, rfl⟩
          refine lstep (wpO_plain rfl (op_call (F := 21) hs none (v := .tuple #[W s47, .int .u64 ((c48 : Nat) : Int)]) rfl rfl rfl rfl (Try.call21 _) (fun w => add_at w x2 1 s47 c48 lx2 (by decide) hs47 hc48) rfl fun ac w hs => ?_))
          refine lstep (wpO_plain rfl (op_move hs none rfl rfl rfl rfl fun ac hs => ?_))
          refine lstep (wpO_plain rfl (op_extract hs none rfl rfl rfl rfl rfl fun ac hs => ?_))
          refine lstep (wpO_plain rfl (op_extract hs none rfl rfl rfl rfl rfl fun ac hs => ?_))
          refine lstep (wpO_plain rfl (op_alloc hs none none (cs := [.int .u64 0, .int .u64 0, .int .u64 0, .int .u64 0]) rfl rfl Try.zeroValue25 (by kernel_rfl) rfl rfl fun g49 ac w hs => ?_))
          refine lstep (wpO_plain rfl (op_store hs 3 (vs := (Wl s47)) rfl rfl rfl rfl rfl Try.sizeOf25 rfl rfl rfl rfl rfl fun w hs => ?_))
          refine lstep (wpO_plain rfl (op_assign hs none rfl rfl rfl rfl fun ac hs => ?_))
          refine wpList_nil ?_
          refine then_n ?_
          refine wp_seq ?_
          refine wp_seq ?_
          refine wp_region_lit ?_
          refine lstep (wpO_plain rfl (op_move hs none rfl rfl rfl rfl fun ac hs => ?_))
          refine lstep (wpO_plain rfl (op_bin hs none (v := .bool false) rfl rfl rfl rfl (fun _ => rfl) (fun w => dF (by have := tgt_lt a; rw [hx2] at this; omega) (bin_neqN (x := c48) (y := 0) w)) rfl fun ac hs => ?_))
          refine wpList_nil ?_
          refine then_n ?_
          refine wp_cond_false (hs.ev rfl) ?_
          refine wp_skip ?_
          refine then_n ?_
          refine wp_seq ?_
          replace hs : St 139 w0 [(1, true, .int .u32 ((a : Nat) : Int)), (6, true, .bool false), (11, true, .pointer (some ⟨g49, 0, none⟩))] [(true, g1, 32, (tab .u8 32 f)), (true, g3, 25, (Wl x4)), (true, g5, 25, (Wl x2)), (true, g49, 25, (Wl s47))] ac w := hs.re ⟨rfl, rfl, rfl, trivial⟩
          obtain ⟨wk50, hwk50, lwk50⟩ : ∃ z0, wrk a = z0 ∧ z0 < 2 ^ 256 := ⟨_, rfl, wrk_lt _⟩
          obtain ⟨lo51, hlo51, llo51⟩ : ∃ z0, wk50 * s47 % 2 ^ 256 = z0 ∧ z0 < 2 ^ 256 := ⟨_, rfl, Nat.mod_lt _ (Nat.two_pow_pos 256)⟩
          obtain ⟨hi52, hhi52, lhi52⟩ : ∃ z0, wk50 * s47 / 2 ^ 256 = z0 ∧ z0 < 2 ^ 256 := ⟨_, rfl, mul_hi lwk50 ls47⟩
          refine region_inv [([], [1, 3, 4, 5, 6, 9, 10]), ([0], [3, 4, 5, 6, 9, 10]), ([], [3, 4, 5, 6, 9, 10]), ([0, 1, 2], [4, 5, 6, 9, 10]), ([0, 1, 2, 3], [5, 6, 9, 10]), ([0, 1, 2, 3, 4], [9, 10]), ([0, 1, 2, 3, 4], [10]), ([], [9, 10]), ([], [9, 10]), ([0, 1, 2, 3, 4, 5, 7, 8], [10]), ([0, 1, 2, 3, 4, 5, 6, 7, 8, 9], [])] (fun L ac w => ∃ (g53 : Nat) (g54 : Nat), St 139 w0 [(86, L 0, .int .u32 ((a : Nat) : Int)), (87, L 1, W wk50), (88, L 2, W s47), (89, L 3, .tuple #[W lo51, W hi52]), (85, L 4, .tuple #[W lo51, W hi52]), (90, L 5, W lo51), (91, L 6, W hi52), (13, L 7, .pointer (some ⟨g53, 0, none⟩)), (14, L 8, .pointer (some ⟨g54, 0, none⟩)), (1, true, .int .u32 ((a : Nat) : Int)), (6, true, .bool false), (11, true, .pointer (some ⟨g49, 0, none⟩))] [(true, g1, 32, (tab .u8 32 f)), (true, g3, 25, (Wl x4)), (true, g5, 25, (Wl x2)), (true, g49, 25, (Wl s47)), (L 7, g53, 25, (cond (L 9) (Wl lo51) [.int .u64 0, .int .u64 0, .int .u64 0, .int .u64 0])), (L 8, g54, 25, (cond (L 10) (Wl hi52) [.int .u64 0, .int .u64 0, .int .u64 0, .int .u64 0]))] ac w) (by kernel_rfl) (by kernel_rfl) ?_ ?_ ?_
          · exact ⟨0, 0, hs.drew.skip.skip.skip.skip.skip.skip.skip.skip.skip.pad.pad⟩
          · refine ⟨?_, ?_, ?_, ?_, ?_, ?_, ?_, ?_, ?_, ?_, ?_, trivial⟩
            · intro L ac w hJ
              obtain ⟨g53, g54, hs⟩ := hJ
              refine wpO_plain rfl (op_move hs (some 0) rfl rfl rfl rfl fun ac hs => ?_)
              exact ⟨g53, g54, hs⟩
            · intro L ac w hJ
              obtain ⟨g53, g54, hs⟩ := hJ
              refine wpO_plain rfl (op_call (F := 16) hs (some 1) (v := W wk50) rfl rfl rfl rfl (Try.call16 _) (work_c a wk50 (show a < 4294967296 by omega) hwk50) rfl fun ac w hs => ?_)
              exact ⟨g53, g54, hs⟩
            · intro L ac w hJ
              obtain ⟨g53, g54, hs⟩ := hJ
              refine wpO_plain rfl (op_load hs (some 2) 3 (v := W s47) rfl rfl rfl rfl Try.isAgg25 Try.sizeOf25 rfl rfl fun ac hs => ?_)
              exact ⟨g53, g54, hs⟩
            · intro L ac w hJ
              obtain ⟨g53, g54, hs⟩ := hJ
              refine wpO_plain rfl (op_call (F := 22) hs (some 3) (v := .tuple #[W lo51, W hi52]) rfl rfl rfl rfl (Try.call22 _) (fun w => wmul_at w wk50 s47 lo51 hi52 lwk50 ls47 hlo51 hhi52) rfl fun ac w hs => ?_)
              exact ⟨g53, g54, hs⟩
            · intro L ac w hJ
              obtain ⟨g53, g54, hs⟩ := hJ
              refine wpO_plain rfl (op_move hs (some 4) rfl rfl rfl rfl fun ac hs => ?_)
              exact ⟨g53, g54, hs⟩
            · intro L ac w hJ
              obtain ⟨g53, g54, hs⟩ := hJ
              refine wpO_plain rfl (op_extract hs (some 5) rfl rfl rfl rfl rfl fun ac hs => ?_)
              exact ⟨g53, g54, hs⟩
            · intro L ac w hJ
              obtain ⟨g53, g54, hs⟩ := hJ
              refine wpO_plain rfl (op_extract hs (some 6) rfl rfl rfl rfl rfl fun ac hs => ?_)
              exact ⟨g53, g54, hs⟩
            · intro L ac w hJ
              obtain ⟨g53, g54, hs⟩ := hJ
              refine wpO_plain rfl (op_alloc hs (some 7) (some 4) (cs := [.int .u64 0, .int .u64 0, .int .u64 0, .int .u64 0]) rfl rfl Try.zeroValue25 (by kernel_rfl) rfl rfl fun g53 ac w hs => ?_)
              exact ⟨g53, g54, hs⟩
            · intro L ac w hJ
              obtain ⟨g53, g54, hs⟩ := hJ
              refine wpO_plain rfl (op_alloc hs (some 8) (some 5) (cs := [.int .u64 0, .int .u64 0, .int .u64 0, .int .u64 0]) rfl rfl Try.zeroValue25 (by kernel_rfl) rfl rfl fun g54 ac w hs => ?_)
              exact ⟨g53, g54, hs⟩
            · intro L ac w hJ
              obtain ⟨g53, g54, hs⟩ := hJ
              refine wpO_plain rfl (op_store hs 4 (vs := (Wl lo51)) rfl rfl rfl rfl rfl Try.sizeOf25 rfl rfl rfl rfl rfl fun w hs => ?_)
              exact ⟨g53, g54, hs⟩
            · intro L ac w hJ
              obtain ⟨g53, g54, hs⟩ := hJ
              refine wpO_plain rfl (op_store hs 5 (vs := (Wl hi52)) rfl rfl rfl rfl rfl Try.sizeOf25 rfl rfl rfl rfl rfl fun w hs => ?_)
              exact ⟨g53, g54, hs⟩
          intro ac w hJ
          obtain ⟨g53, g54, hs⟩ := hJ
          replace hs : St 139 w0 [(86, true, .int .u32 ((a : Nat) : Int)), (87, true, W wk50), (88, true, W s47), (89, true, .tuple #[W lo51, W hi52]), (85, true, .tuple #[W lo51, W hi52]), (90, true, W lo51), (91, true, W hi52), (13, true, .pointer (some ⟨g53, 0, none⟩)), (14, true, .pointer (some ⟨g54, 0, none⟩)), (1, true, .int .u32 ((a : Nat) : Int)), (6, true, .bool false), (11, true, .pointer (some ⟨g49, 0, none⟩))] [(true, g1, 32, (tab .u8 32 f)), (true, g3, 25, (Wl x4)), (true, g5, 25, (Wl x2)), (true, g49, 25, (Wl s47)), (true, g53, 25, (Wl lo51)), (true, g54, 25, (Wl hi52))] ac w := hs
          have hfit : hi52 = 0 ∨ hi52 = 1 ∧ lo51 = 0 := wrk_fits nb' (by rw [hx2]; exact hs47) hwk50 hlo51 hhi52
          refine then_n ?_
          refine wp_seq ?_
          by_cases hq55 : hi52 = 0
          · skip
            refine wp_region_lit ?_
            refine lstep (wpO_plain rfl (op_load hs none 5 (v := W hi52) rfl rfl rfl rfl Try.isAgg25 Try.sizeOf25 rfl rfl fun ac hs => ?_))
            refine lstep (wpO_plain rfl (op_build hs none (qs := []) (v := .agg #[.int .u64 0, .int .u64 0, .int .u64 0, .int .u64 0]) rfl rfl rfl rfl (fun _ => by kernel_rfl) rfl fun ac hs => ?_))
            refine lstep (wpO_plain rfl (op_bin hs none (v := .bool true) rfl rfl rfl rfl (fun w => run_eqGuard_agg w .eql 25 _ _ _ _ Try.eqGuardType25) (eqlW hi52 0 lhi52 (by decide) true (decide_eq_true hq55)) rfl fun ac hs => ?_))
            refine lstep (wpO_plain rfl (op_move hs none rfl rfl rfl rfl fun ac hs => ?_))
            refine lstep (wpO_out hs none rfl rfl (.inl rfl) rfl rfl fun ac hs => ?_)
            refine lstep (wpO_out hs none rfl rfl (.inl rfl) rfl rfl fun ac hs => ?_)
            refine lstep (wpO_out hs none rfl rfl (.inl rfl) rfl rfl fun ac hs => ?_)
            refine lstep (wpO_out hs none rfl rfl (.inl rfl) rfl rfl fun ac hs => ?_)
            refine lstep (wpO_out hs none rfl rfl (.inr rfl) rfl rfl fun ac hs => ?_)
            refine lstep (wpO_out hs none rfl rfl (.inr rfl) rfl rfl fun ac hs => ?_)
            refine lstep (wpO_out hs none rfl rfl (.inr rfl) rfl rfl fun ac hs => ?_)
            refine lstep (wpO_out hs none rfl rfl (.inl rfl) rfl rfl fun ac hs => ?_)
            refine lstep (wpO_plain rfl (op_pickT hs none rfl rfl rfl rfl rfl fun ac hs => ?_))
            refine lstep (wpO_plain rfl (op_assign hs none rfl rfl rfl rfl fun ac hs => ?_))
            refine wpList_nil ?_
            refine then_n ?_
            refine wp_seq ?_
            refine wp_region_lit ?_
            refine lstep (wpO_plain rfl (op_move hs none rfl rfl rfl rfl fun ac hs => ?_))
            obtain ⟨wk56, hwk56, lwk56⟩ : ∃ z0, wrk a = z0 ∧ z0 < 2 ^ 256 := ⟨_, rfl, wrk_lt _⟩
            refine lstep (wpO_plain rfl (op_call (F := 16) hs none (v := W wk56) rfl rfl rfl rfl (Try.call16 _) (work_c a wk56 (show a < 4294967296 by omega) hwk56) rfl fun ac w hs => ?_))
            refine lstep (wpO_plain rfl (op_build hs none (qs := [(0, .int .u64 1)]) (v := .agg #[.int .u64 1, .int .u64 0, .int .u64 0, .int .u64 0]) rfl rfl rfl rfl (fun _ => by kernel_rfl) rfl fun ac hs => ?_))
            obtain ⟨s57, hs57, ls57⟩ : ∃ z0, (wk56 + 1) % 2 ^ 256 = z0 ∧ z0 < 2 ^ 256 := ⟨_, rfl, Nat.mod_lt _ (Nat.two_pow_pos 256)⟩
            obtain ⟨c58, hc58⟩ : ∃ z0, (wk56 + 1) / 2 ^ 256 = z0 := ⟨_, rfl⟩
            refine lstep (wpO_plain rfl (op_call (F := 21) hs none (v := .tuple #[W s57, .int .u64 ((c58 : Nat) : Int)]) rfl rfl rfl rfl (Try.call21 _) (fun w => add_at w wk56 1 s57 c58 lwk56 (by decide) hs57 hc58) rfl fun ac w hs => ?_))
            refine lstep (wpO_plain rfl (op_move hs none rfl rfl rfl rfl fun ac hs => ?_))
            refine lstep (wpO_plain rfl (op_extract hs none rfl rfl rfl rfl rfl fun ac hs => ?_))
            refine lstep (wpO_plain rfl (op_extract hs none rfl rfl rfl rfl rfl fun ac hs => ?_))
            refine lstep (wpO_plain rfl (op_alloc hs none none (cs := [.int .u64 0, .int .u64 0, .int .u64 0, .int .u64 0]) rfl rfl Try.zeroValue25 (by kernel_rfl) rfl rfl fun g59 ac w hs => ?_))
            refine lstep (wpO_plain rfl (op_store hs 6 (vs := (Wl s57)) rfl rfl rfl rfl rfl Try.sizeOf25 rfl rfl rfl rfl rfl fun w hs => ?_))
            refine lstep (wpO_plain rfl (op_assign hs none rfl rfl rfl rfl fun ac hs => ?_))
            refine wpList_nil ?_
            refine then_n ?_
            refine wp_seq ?_
            refine wp_region_lit ?_
            refine lstep (wpO_plain rfl (op_load hs none 6 (v := W s57) rfl rfl rfl rfl Try.isAgg25 Try.sizeOf25 rfl rfl fun ac hs => ?_))
            refine lstep (wpO_plain rfl (op_load hs none 3 (v := W s47) rfl rfl rfl rfl Try.isAgg25 Try.sizeOf25 rfl rfl fun ac hs => ?_))
            obtain ⟨lo60, hlo60, llo60⟩ : ∃ z0, s57 * s47 % 2 ^ 256 = z0 ∧ z0 < 2 ^ 256 := ⟨_, rfl, Nat.mod_lt _ (Nat.two_pow_pos 256)⟩
            obtain ⟨hi61, hhi61, lhi61⟩ : ∃ z0, s57 * s47 / 2 ^ 256 = z0 ∧ z0 < 2 ^ 256 := ⟨_, rfl, mul_hi ls57 ls47⟩
            refine lstep (wpO_plain rfl (op_call (F := 22) hs none (v := .tuple #[W lo60, W hi61]) rfl rfl rfl rfl (Try.call22 _) (fun w => wmul_at w s57 s47 lo60 hi61 ls57 ls47 hlo60 hhi61) rfl fun ac w hs => ?_))
            refine lstep (wpO_plain rfl (op_move hs none rfl rfl rfl rfl fun ac hs => ?_))
            refine lstep (wpO_plain rfl (op_extract hs none rfl rfl rfl rfl rfl fun ac hs => ?_))
            refine lstep (wpO_plain rfl (op_extract hs none rfl rfl rfl rfl rfl fun ac hs => ?_))
            refine lstep (wpO_plain rfl (op_store hs 4 (vs := (Wl lo60)) rfl rfl rfl rfl rfl Try.sizeOf25 rfl rfl rfl rfl rfl fun w hs => ?_))
            refine lstep (wpO_plain rfl (op_store hs 5 (vs := (Wl hi61)) rfl rfl rfl rfl rfl Try.sizeOf25 rfl rfl rfl rfl rfl fun w hs => ?_))
            refine wpList_nil ?_
            have habv : 1 < hi61 ∨ hi61 = 1 ∧ lo60 ≠ 0 := wrk_above nb' (by rw [hx2]; exact hs47) hwk56 hs57 hlo60 hhi61
            refine then_n ?_
            refine wp_seq ?_
            by_cases hq62 : 1 < hi61
            · skip
              refine wp_region_lit ?_
              refine lstep (wpO_plain rfl (op_load hs none 5 (v := W hi61) rfl rfl rfl rfl Try.isAgg25 Try.sizeOf25 rfl rfl fun ac hs => ?_))
              refine lstep (wpO_plain rfl (op_build hs none (qs := [(0, .int .u64 1)]) (v := .agg #[.int .u64 1, .int .u64 0, .int .u64 0, .int .u64 0]) rfl rfl rfl rfl (fun _ => by kernel_rfl) rfl fun ac hs => ?_))
              refine lstep (wpO_plain rfl (op_call (F := 18) hs none (v := .int .i64 (cmpZ hi61 1)) rfl rfl rfl rfl (Try.call18 _) (fun w => cmp_any w hi61 1 lhi61 (by decide)) rfl fun ac w hs => ?_))
              refine lstep (wpO_plain rfl (op_bin hs none (v := .bool true) rfl rfl rfl rfl (fun _ => rfl) (fun w => dT hq62 (bin_cmp_gtr hi61 1 w)) rfl fun ac hs => ?_))
              refine lstep (wpO_plain rfl (op_move hs none rfl rfl rfl rfl fun ac hs => ?_))
              refine lstep (wpO_out hs none rfl rfl (.inl rfl) rfl rfl fun ac hs => ?_)
              refine lstep (wpO_out hs none rfl rfl (.inl rfl) rfl rfl fun ac hs => ?_)
              refine lstep (wpO_out hs none rfl rfl (.inl rfl) rfl rfl fun ac hs => ?_)
              refine lstep (wpO_out hs none rfl rfl (.inl rfl) rfl rfl fun ac hs => ?_)
              refine lstep (wpO_out hs none rfl rfl (.inr rfl) rfl rfl fun ac hs => ?_)
              refine lstep (wpO_out hs none rfl rfl (.inr rfl) rfl rfl fun ac hs => ?_)
              refine lstep (wpO_out hs none rfl rfl (.inr rfl) rfl rfl fun ac hs => ?_)
              refine lstep (wpO_out hs none rfl rfl (.inl rfl) rfl rfl fun ac hs => ?_)
              refine lstep (wpO_plain rfl (op_pickT hs none rfl rfl rfl rfl rfl fun ac hs => ?_))
              refine lstep (wpO_plain rfl (op_assign hs none rfl rfl rfl rfl fun ac hs => ?_))
              refine wpList_nil ?_
              refine then_n ?_
              refine wp_seq ?_
              refine wp_region_lit ?_
              refine lstep (wpO_plain rfl (op_call (F := 11) hs none (v := .bool true) rfl rfl rfl rfl (Try.call11 _) alive_c rfl fun ac w hs => ?_))
              refine lstep (wpO_plain rfl (op_move hs none rfl rfl rfl rfl fun ac hs => ?_))
              refine lstep (wpO_in hs rfl rfl rfl (op_move hs none rfl rfl rfl rfl fun ac hs => ?_))
              refine lstep (wpO_plain rfl (op_pickT hs none rfl rfl rfl rfl rfl fun ac hs => ?_))
              refine lstep (wpO_plain rfl (op_move hs none rfl rfl rfl rfl fun ac hs => ?_))
              refine lstep (wpO_in hs rfl rfl rfl (op_move hs none rfl rfl rfl rfl fun ac hs => ?_))
              refine lstep (wpO_plain rfl (op_pickT hs none rfl rfl rfl rfl rfl fun ac hs => ?_))
              refine lstep (wpO_plain rfl (op_assign hs none rfl rfl rfl rfl fun ac hs => ?_))
              refine wpList_nil ?_
              refine then_n ?_
              refine wp_ret ?_
              exact bodyPost_ret (res1 rfl (rv_t hs rfl)) hs.defers ⟨rfl, hs.below⟩
            · skip
              refine wp_region_lit ?_
              refine lstep (wpO_plain rfl (op_load hs none 5 (v := W hi61) rfl rfl rfl rfl Try.isAgg25 Try.sizeOf25 rfl rfl fun ac hs => ?_))
              refine lstep (wpO_plain rfl (op_build hs none (qs := [(0, .int .u64 1)]) (v := .agg #[.int .u64 1, .int .u64 0, .int .u64 0, .int .u64 0]) rfl rfl rfl rfl (fun _ => by kernel_rfl) rfl fun ac hs => ?_))
              refine lstep (wpO_plain rfl (op_call (F := 18) hs none (v := .int .i64 (cmpZ hi61 1)) rfl rfl rfl rfl (Try.call18 _) (fun w => cmp_any w hi61 1 lhi61 (by decide)) rfl fun ac w hs => ?_))
              refine lstep (wpO_plain rfl (op_bin hs none (v := .bool false) rfl rfl rfl rfl (fun _ => rfl) (fun w => dF hq62 (bin_cmp_gtr hi61 1 w)) rfl fun ac hs => ?_))
              refine lstep (wpO_plain rfl (op_move hs none rfl rfl rfl rfl fun ac hs => ?_))
              refine lstep (wpO_in hs rfl rfl rfl (op_load hs none 5 (v := W hi61) rfl rfl rfl rfl Try.isAgg25 Try.sizeOf25 rfl rfl fun ac hs => ?_))
              refine lstep (wpO_in hs rfl rfl rfl (op_build hs none (qs := [(0, .int .u64 1)]) (v := .agg #[.int .u64 1, .int .u64 0, .int .u64 0, .int .u64 0]) rfl rfl rfl rfl (fun _ => by kernel_rfl) rfl fun ac hs => ?_))
              refine lstep (wpO_in hs rfl rfl rfl (op_bin hs none (v := .bool true) rfl rfl rfl rfl (fun w => run_eqGuard_agg w .eql 25 _ _ _ _ Try.eqGuardType25) (eqlW hi61 1 lhi61 (by decide) true (decide_eq_true (habv.resolve_left hq62).1)) rfl fun ac hs => ?_))
              refine lstep (wpO_in hs rfl rfl rfl (op_move hs none rfl rfl rfl rfl fun ac hs => ?_))
              refine lstep (wpO_in hs rfl rfl rfl (op_load hs none 4 (v := W lo60) rfl rfl rfl rfl Try.isAgg25 Try.sizeOf25 rfl rfl fun ac hs => ?_))
              refine lstep (wpO_in hs rfl rfl rfl (op_build hs none (qs := []) (v := .agg #[.int .u64 0, .int .u64 0, .int .u64 0, .int .u64 0]) rfl rfl rfl rfl (fun _ => by kernel_rfl) rfl fun ac hs => ?_))
              refine lstep (wpO_in hs rfl rfl rfl (op_bin hs none (v := .bool true) rfl rfl rfl rfl (fun w => run_eqGuard_agg w .neq 25 _ _ _ _ Try.eqGuardType25) (neqW lo60 0 llo60 (by decide) true (decide_eq_true (habv.resolve_left hq62).2)) rfl fun ac hs => ?_))
              refine lstep (wpO_in hs rfl rfl rfl (op_pickT hs none rfl rfl rfl rfl rfl fun ac hs => ?_))
              refine lstep (wpO_plain rfl (op_pickF hs none rfl rfl rfl rfl rfl fun ac hs => ?_))
              refine lstep (wpO_plain rfl (op_assign hs none rfl rfl rfl rfl fun ac hs => ?_))
              refine wpList_nil ?_
              refine then_n ?_
              refine wp_seq ?_
              refine wp_region_lit ?_
              refine lstep (wpO_plain rfl (op_call (F := 11) hs none (v := .bool true) rfl rfl rfl rfl (Try.call11 _) alive_c rfl fun ac w hs => ?_))
              refine lstep (wpO_plain rfl (op_move hs none rfl rfl rfl rfl fun ac hs => ?_))
              refine lstep (wpO_in hs rfl rfl rfl (op_move hs none rfl rfl rfl rfl fun ac hs => ?_))
              refine lstep (wpO_plain rfl (op_pickT hs none rfl rfl rfl rfl rfl fun ac hs => ?_))
              refine lstep (wpO_plain rfl (op_move hs none rfl rfl rfl rfl fun ac hs => ?_))
              refine lstep (wpO_in hs rfl rfl rfl (op_move hs none rfl rfl rfl rfl fun ac hs => ?_))
              refine lstep (wpO_plain rfl (op_pickT hs none rfl rfl rfl rfl rfl fun ac hs => ?_))
              refine lstep (wpO_plain rfl (op_assign hs none rfl rfl rfl rfl fun ac hs => ?_))
              refine wpList_nil ?_
              refine then_n ?_
              refine wp_ret ?_
              exact bodyPost_ret (res1 rfl (rv_t hs rfl)) hs.defers ⟨rfl, hs.below⟩
          · skip
            refine wp_region_lit ?_
            refine lstep (wpO_plain rfl (op_load hs none 5 (v := W hi52) rfl rfl rfl rfl Try.isAgg25 Try.sizeOf25 rfl rfl fun ac hs => ?_))
            refine lstep (wpO_plain rfl (op_build hs none (qs := []) (v := .agg #[.int .u64 0, .int .u64 0, .int .u64 0, .int .u64 0]) rfl rfl rfl rfl (fun _ => by kernel_rfl) rfl fun ac hs => ?_))
            refine lstep (wpO_plain rfl (op_bin hs none (v := .bool false) rfl rfl rfl rfl (fun w => run_eqGuard_agg w .eql 25 _ _ _ _ Try.eqGuardType25) (eqlW hi52 0 lhi52 (by decide) false (decide_eq_false hq55)) rfl fun ac hs => ?_))
            refine lstep (wpO_plain rfl (op_move hs none rfl rfl rfl rfl fun ac hs => ?_))
            refine lstep (wpO_in hs rfl rfl rfl (op_load hs none 5 (v := W hi52) rfl rfl rfl rfl Try.isAgg25 Try.sizeOf25 rfl rfl fun ac hs => ?_))
            refine lstep (wpO_in hs rfl rfl rfl (op_build hs none (qs := [(0, .int .u64 1)]) (v := .agg #[.int .u64 1, .int .u64 0, .int .u64 0, .int .u64 0]) rfl rfl rfl rfl (fun _ => by kernel_rfl) rfl fun ac hs => ?_))
            refine lstep (wpO_in hs rfl rfl rfl (op_bin hs none (v := .bool true) rfl rfl rfl rfl (fun w => run_eqGuard_agg w .eql 25 _ _ _ _ Try.eqGuardType25) (eqlW hi52 1 lhi52 (by decide) true (decide_eq_true (hfit.resolve_left hq55).1)) rfl fun ac hs => ?_))
            refine lstep (wpO_in hs rfl rfl rfl (op_move hs none rfl rfl rfl rfl fun ac hs => ?_))
            refine lstep (wpO_in hs rfl rfl rfl (op_load hs none 4 (v := W lo51) rfl rfl rfl rfl Try.isAgg25 Try.sizeOf25 rfl rfl fun ac hs => ?_))
            refine lstep (wpO_in hs rfl rfl rfl (op_build hs none (qs := []) (v := .agg #[.int .u64 0, .int .u64 0, .int .u64 0, .int .u64 0]) rfl rfl rfl rfl (fun _ => by kernel_rfl) rfl fun ac hs => ?_))
            refine lstep (wpO_in hs rfl rfl rfl (op_bin hs none (v := .bool true) rfl rfl rfl rfl (fun w => run_eqGuard_agg w .eql 25 _ _ _ _ Try.eqGuardType25) (eqlW lo51 0 llo51 (by decide) true (decide_eq_true (hfit.resolve_left hq55).2)) rfl fun ac hs => ?_))
            refine lstep (wpO_in hs rfl rfl rfl (op_pickT hs none rfl rfl rfl rfl rfl fun ac hs => ?_))
            refine lstep (wpO_plain rfl (op_pickF hs none rfl rfl rfl rfl rfl fun ac hs => ?_))
            refine lstep (wpO_plain rfl (op_assign hs none rfl rfl rfl rfl fun ac hs => ?_))
            refine wpList_nil ?_
            refine then_n ?_
            refine wp_seq ?_
            refine wp_region_lit ?_
            refine lstep (wpO_plain rfl (op_move hs none rfl rfl rfl rfl fun ac hs => ?_))
            obtain ⟨wk63, hwk63, lwk63⟩ : ∃ z0, wrk a = z0 ∧ z0 < 2 ^ 256 := ⟨_, rfl, wrk_lt _⟩
            refine lstep (wpO_plain rfl (op_call (F := 16) hs none (v := W wk63) rfl rfl rfl rfl (Try.call16 _) (work_c a wk63 (show a < 4294967296 by omega) hwk63) rfl fun ac w hs => ?_))
            refine lstep (wpO_plain rfl (op_build hs none (qs := [(0, .int .u64 1)]) (v := .agg #[.int .u64 1, .int .u64 0, .int .u64 0, .int .u64 0]) rfl rfl rfl rfl (fun _ => by kernel_rfl) rfl fun ac hs => ?_))
            obtain ⟨s64, hs64, ls64⟩ : ∃ z0, (wk63 + 1) % 2 ^ 256 = z0 ∧ z0 < 2 ^ 256 := ⟨_, rfl, Nat.mod_lt _ (Nat.two_pow_pos 256)⟩
            obtain ⟨c65, hc65⟩ : ∃ z0, (wk63 + 1) / 2 ^ 256 = z0 := ⟨_, rfl⟩
            refine lstep (wpO_plain rfl (op_call (F := 21) hs none (v := .tuple #[W s64, .int .u64 ((c65 : Nat) : Int)]) rfl rfl rfl rfl (Try.call21 _) (fun w => add_at w wk63 1 s64 c65 lwk63 (by decide) hs64 hc65) rfl fun ac w hs => ?_))
            refine lstep (wpO_plain rfl (op_move hs none rfl rfl rfl rfl fun ac hs => ?_))
            refine lstep (wpO_plain rfl (op_extract hs none rfl rfl rfl rfl rfl fun ac hs => ?_))
            refine lstep (wpO_plain rfl (op_extract hs none rfl rfl rfl rfl rfl fun ac hs => ?_))
            refine lstep (wpO_plain rfl (op_alloc hs none none (cs := [.int .u64 0, .int .u64 0, .int .u64 0, .int .u64 0]) rfl rfl Try.zeroValue25 (by kernel_rfl) rfl rfl fun g66 ac w hs => ?_))
            refine lstep (wpO_plain rfl (op_store hs 6 (vs := (Wl s64)) rfl rfl rfl rfl rfl Try.sizeOf25 rfl rfl rfl rfl rfl fun w hs => ?_))
            refine lstep (wpO_plain rfl (op_assign hs none rfl rfl rfl rfl fun ac hs => ?_))
            refine wpList_nil ?_
            refine then_n ?_
            refine wp_seq ?_
            refine wp_region_lit ?_
            refine lstep (wpO_plain rfl (op_load hs none 6 (v := W s64) rfl rfl rfl rfl Try.isAgg25 Try.sizeOf25 rfl rfl fun ac hs => ?_))
            refine lstep (wpO_plain rfl (op_load hs none 3 (v := W s47) rfl rfl rfl rfl Try.isAgg25 Try.sizeOf25 rfl rfl fun ac hs => ?_))
            obtain ⟨lo67, hlo67, llo67⟩ : ∃ z0, s64 * s47 % 2 ^ 256 = z0 ∧ z0 < 2 ^ 256 := ⟨_, rfl, Nat.mod_lt _ (Nat.two_pow_pos 256)⟩
            obtain ⟨hi68, hhi68, lhi68⟩ : ∃ z0, s64 * s47 / 2 ^ 256 = z0 ∧ z0 < 2 ^ 256 := ⟨_, rfl, mul_hi ls64 ls47⟩
            refine lstep (wpO_plain rfl (op_call (F := 22) hs none (v := .tuple #[W lo67, W hi68]) rfl rfl rfl rfl (Try.call22 _) (fun w => wmul_at w s64 s47 lo67 hi68 ls64 ls47 hlo67 hhi68) rfl fun ac w hs => ?_))
            refine lstep (wpO_plain rfl (op_move hs none rfl rfl rfl rfl fun ac hs => ?_))
            refine lstep (wpO_plain rfl (op_extract hs none rfl rfl rfl rfl rfl fun ac hs => ?_))
            refine lstep (wpO_plain rfl (op_extract hs none rfl rfl rfl rfl rfl fun ac hs => ?_))
            refine lstep (wpO_plain rfl (op_store hs 4 (vs := (Wl lo67)) rfl rfl rfl rfl rfl Try.sizeOf25 rfl rfl rfl rfl rfl fun w hs => ?_))
            refine lstep (wpO_plain rfl (op_store hs 5 (vs := (Wl hi68)) rfl rfl rfl rfl rfl Try.sizeOf25 rfl rfl rfl rfl rfl fun w hs => ?_))
            refine wpList_nil ?_
            have habv : 1 < hi68 ∨ hi68 = 1 ∧ lo67 ≠ 0 := wrk_above nb' (by rw [hx2]; exact hs47) hwk63 hs64 hlo67 hhi68
            refine then_n ?_
            refine wp_seq ?_
            by_cases hq69 : 1 < hi68
            · skip
              refine wp_region_lit ?_
              refine lstep (wpO_plain rfl (op_load hs none 5 (v := W hi68) rfl rfl rfl rfl Try.isAgg25 Try.sizeOf25 rfl rfl fun ac hs => ?_))
              refine lstep (wpO_plain rfl (op_build hs none (qs := [(0, .int .u64 1)]) (v := .agg #[.int .u64 1, .int .u64 0, .int .u64 0, .int .u64 0]) rfl rfl rfl rfl (fun _ => by kernel_rfl) rfl fun ac hs => ?_))
              refine lstep (wpO_plain rfl (op_call (F := 18) hs none (v := .int .i64 (cmpZ hi68 1)) rfl rfl rfl rfl (Try.call18 _) (fun w => cmp_any w hi68 1 lhi68 (by decide)) rfl fun ac w hs => ?_))
              refine lstep (wpO_plain rfl (op_bin hs none (v := .bool true) rfl rfl rfl rfl (fun _ => rfl) (fun w => dT hq69 (bin_cmp_gtr hi68 1 w)) rfl fun ac hs => ?_))
              refine lstep (wpO_plain rfl (op_move hs none rfl rfl rfl rfl fun ac hs => ?_))
              refine lstep (wpO_out hs none rfl rfl (.inl rfl) rfl rfl fun ac hs => ?_)
              refine lstep (wpO_out hs none rfl rfl (.inl rfl) rfl rfl fun ac hs => ?_)
              refine lstep (wpO_out hs none rfl rfl (.inl rfl) rfl rfl fun ac hs => ?_)
              refine lstep (wpO_out hs none rfl rfl (.inl rfl) rfl rfl fun ac hs => ?_)
              refine lstep (wpO_out hs none rfl rfl (.inr rfl) rfl rfl fun ac hs => ?_)
              refine lstep (wpO_out hs none rfl rfl (.inr rfl) rfl rfl fun ac hs => ?_)
              refine lstep (wpO_out hs none rfl rfl (.inr rfl) rfl rfl fun ac hs => ?_)
              refine lstep (wpO_out hs none rfl rfl (.inl rfl) rfl rfl fun ac hs => ?_)
              refine lstep (wpO_plain rfl (op_pickT hs none rfl rfl rfl rfl rfl fun ac hs => ?_))
              refine lstep (wpO_plain rfl (op_assign hs none rfl rfl rfl rfl fun ac hs => ?_))
              refine wpList_nil ?_
              refine then_n ?_
              refine wp_seq ?_
              refine wp_region_lit ?_
              refine lstep (wpO_plain rfl (op_call (F := 11) hs none (v := .bool true) rfl rfl rfl rfl (Try.call11 _) alive_c rfl fun ac w hs => ?_))
              refine lstep (wpO_plain rfl (op_move hs none rfl rfl rfl rfl fun ac hs => ?_))
              refine lstep (wpO_in hs rfl rfl rfl (op_move hs none rfl rfl rfl rfl fun ac hs => ?_))
              refine lstep (wpO_plain rfl (op_pickT hs none rfl rfl rfl rfl rfl fun ac hs => ?_))
              refine lstep (wpO_plain rfl (op_move hs none rfl rfl rfl rfl fun ac hs => ?_))
              refine lstep (wpO_in hs rfl rfl rfl (op_move hs none rfl rfl rfl rfl fun ac hs => ?_))
              refine lstep (wpO_plain rfl (op_pickT hs none rfl rfl rfl rfl rfl fun ac hs => ?_))
              refine lstep (wpO_plain rfl (op_assign hs none rfl rfl rfl rfl fun ac hs => ?_))
              refine wpList_nil ?_
              refine then_n ?_
              refine wp_ret ?_
              exact bodyPost_ret (res1 rfl (rv_t hs rfl)) hs.defers ⟨rfl, hs.below⟩
            · skip
              refine wp_region_lit ?_
              refine lstep (wpO_plain rfl (op_load hs none 5 (v := W hi68) rfl rfl rfl rfl Try.isAgg25 Try.sizeOf25 rfl rfl fun ac hs => ?_))
              refine lstep (wpO_plain rfl (op_build hs none (qs := [(0, .int .u64 1)]) (v := .agg #[.int .u64 1, .int .u64 0, .int .u64 0, .int .u64 0]) rfl rfl rfl rfl (fun _ => by kernel_rfl) rfl fun ac hs => ?_))
              refine lstep (wpO_plain rfl (op_call (F := 18) hs none (v := .int .i64 (cmpZ hi68 1)) rfl rfl rfl rfl (Try.call18 _) (fun w => cmp_any w hi68 1 lhi68 (by decide)) rfl fun ac w hs => ?_))
              refine lstep (wpO_plain rfl (op_bin hs none (v := .bool false) rfl rfl rfl rfl (fun _ => rfl) (fun w => dF hq69 (bin_cmp_gtr hi68 1 w)) rfl fun ac hs => ?_))
              refine lstep (wpO_plain rfl (op_move hs none rfl rfl rfl rfl fun ac hs => ?_))
              refine lstep (wpO_in hs rfl rfl rfl (op_load hs none 5 (v := W hi68) rfl rfl rfl rfl Try.isAgg25 Try.sizeOf25 rfl rfl fun ac hs => ?_))
              refine lstep (wpO_in hs rfl rfl rfl (op_build hs none (qs := [(0, .int .u64 1)]) (v := .agg #[.int .u64 1, .int .u64 0, .int .u64 0, .int .u64 0]) rfl rfl rfl rfl (fun _ => by kernel_rfl) rfl fun ac hs => ?_))
              refine lstep (wpO_in hs rfl rfl rfl (op_bin hs none (v := .bool true) rfl rfl rfl rfl (fun w => run_eqGuard_agg w .eql 25 _ _ _ _ Try.eqGuardType25) (eqlW hi68 1 lhi68 (by decide) true (decide_eq_true (habv.resolve_left hq69).1)) rfl fun ac hs => ?_))
              refine lstep (wpO_in hs rfl rfl rfl (op_move hs none rfl rfl rfl rfl fun ac hs => ?_))
              refine lstep (wpO_in hs rfl rfl rfl (op_load hs none 4 (v := W lo67) rfl rfl rfl rfl Try.isAgg25 Try.sizeOf25 rfl rfl fun ac hs => ?_))
              refine lstep (wpO_in hs rfl rfl rfl (op_build hs none (qs := []) (v := .agg #[.int .u64 0, .int .u64 0, .int .u64 0, .int .u64 0]) rfl rfl rfl rfl (fun _ => by kernel_rfl) rfl fun ac hs => ?_))
              refine lstep (wpO_in hs rfl rfl rfl (op_bin hs none (v := .bool true) rfl rfl rfl rfl (fun w => run_eqGuard_agg w .neq 25 _ _ _ _ Try.eqGuardType25) (neqW lo67 0 llo67 (by decide) true (decide_eq_true (habv.resolve_left hq69).2)) rfl fun ac hs => ?_))
              refine lstep (wpO_in hs rfl rfl rfl (op_pickT hs none rfl rfl rfl rfl rfl fun ac hs => ?_))
              refine lstep (wpO_plain rfl (op_pickF hs none rfl rfl rfl rfl rfl fun ac hs => ?_))
              refine lstep (wpO_plain rfl (op_assign hs none rfl rfl rfl rfl fun ac hs => ?_))
              refine wpList_nil ?_
              refine then_n ?_
              refine wp_seq ?_
              refine wp_region_lit ?_
              refine lstep (wpO_plain rfl (op_call (F := 11) hs none (v := .bool true) rfl rfl rfl rfl (Try.call11 _) alive_c rfl fun ac w hs => ?_))
              refine lstep (wpO_plain rfl (op_move hs none rfl rfl rfl rfl fun ac hs => ?_))
              refine lstep (wpO_in hs rfl rfl rfl (op_move hs none rfl rfl rfl rfl fun ac hs => ?_))
              refine lstep (wpO_plain rfl (op_pickT hs none rfl rfl rfl rfl rfl fun ac hs => ?_))
              refine lstep (wpO_plain rfl (op_move hs none rfl rfl rfl rfl fun ac hs => ?_))
              refine lstep (wpO_in hs rfl rfl rfl (op_move hs none rfl rfl rfl rfl fun ac hs => ?_))
              refine lstep (wpO_plain rfl (op_pickT hs none rfl rfl rfl rfl rfl fun ac hs => ?_))
              refine lstep (wpO_plain rfl (op_assign hs none rfl rfl rfl rfl fun ac hs => ?_))
              refine wpList_nil ?_
              refine then_n ?_
              refine wp_ret ?_
              exact bodyPost_ret (res1 rfl (rv_t hs rfl)) hs.defers ⟨rfl, hs.below⟩
      · skip
        have hp70 := of_decide_eq_false hc
        refine wp_skip ?_
        refine then_n ?_
        refine wp_seq ?_
        refine wp_seq ?_
        have hle : tgt a ≤ tgt b := by rw [hx2, hx4]; omega
        have na : tgt a ≠ 0 := by rw [hx2]; exact hq6
        have nb' : tgt b ≠ 0 := by rw [hx4]; exact hq9
        by_cases hq71 : mts f a = true
        · skip
          by_cases hq72 : mts f b = true
          · skip
            refine wp_region_lit ?_
            refine lstep (wpO_plain rfl (op_move hs none rfl rfl rfl rfl fun ac hs => ?_))
            obtain ⟨wk73, hwk73, lwk73⟩ : ∃ z0, wrk a = z0 ∧ z0 < 2 ^ 256 := ⟨_, rfl, wrk_lt _⟩
            refine lstep (wpO_plain rfl (op_call (F := 16) hs none (v := W wk73) rfl rfl rfl rfl (Try.call16 _) (work_c a wk73 (show a < 4294967296 by omega) hwk73) rfl fun ac w hs => ?_))
            refine lstep (wpO_plain rfl (op_move hs none rfl rfl rfl rfl fun ac hs => ?_))
            obtain ⟨wk74, hwk74, lwk74⟩ : ∃ z0, wrk b = z0 ∧ z0 < 2 ^ 256 := ⟨_, rfl, wrk_lt _⟩
            refine lstep (wpO_plain rfl (op_call (F := 16) hs none (v := W wk74) rfl rfl rfl rfl (Try.call16 _) (work_c b wk74 (show b < 4294967296 by omega) hwk74) rfl fun ac w hs => ?_))
            refine lstep (wpO_plain rfl (op_call (F := 18) hs none (v := .int .i64 (cmpZ wk73 wk74)) rfl rfl rfl rfl (Try.call18 _) (fun w => cmp_any w wk73 wk74 lwk73 lwk74) rfl fun ac w hs => ?_))
            refine lstep (wpO_plain rfl (op_bin hs none (v := .bool false) rfl rfl rfl rfl (fun _ => rfl) (fun w => dF (Nat.not_lt.2 (by rw [← hwk73, ← hwk74]; exact wrk_mono na hle)) (bin_cmp_lss wk73 wk74 w)) rfl fun ac hs => ?_))
            refine lstep (wpO_plain rfl (op_move hs none rfl rfl rfl rfl fun ac hs => ?_))
            refine lstep (wpO_in hs rfl rfl rfl (op_load hs none 0 (v := At .u8 32 f) rfl rfl rfl rfl Try.isAgg32 Try.sizeOf32 ldv_tab rfl fun ac hs => ?_))
            refine lstep (wpO_in hs rfl rfl rfl (op_move hs none rfl rfl rfl rfl fun ac hs => ?_))
            refine lstep (wpO_in hs rfl rfl rfl (op_call (F := 14) hs none (v := .bool true) rfl rfl rfl rfl (Try.call14 _) (meets_c f a true hf (show a < 4294967296 by omega) hq71) rfl fun ac w hs => ?_))
            refine lstep (wpO_in hs rfl rfl rfl (op_move hs none rfl rfl rfl rfl fun ac hs => ?_))
            refine lstep (wpO_in hs rfl rfl rfl (op_load hs none 0 (v := At .u8 32 f) rfl rfl rfl rfl Try.isAgg32 Try.sizeOf32 ldv_tab rfl fun ac hs => ?_))
            refine lstep (wpO_in hs rfl rfl rfl (op_move hs none rfl rfl rfl rfl fun ac hs => ?_))
            refine lstep (wpO_in hs rfl rfl rfl (op_call (F := 14) hs none (v := .bool true) rfl rfl rfl rfl (Try.call14 _) (meets_c f b true hf (show b < 4294967296 by omega) hq72) rfl fun ac w hs => ?_))
            refine lstep (wpO_in hs rfl rfl rfl (op_un hs none (v := .bool false) rfl rfl rfl (fun _ => rfl) rfl fun ac hs => ?_))
            refine lstep (wpO_in hs rfl rfl rfl (op_pickT hs none rfl rfl rfl rfl rfl fun ac hs => ?_))
            refine lstep (wpO_plain rfl (op_pickF hs none rfl rfl rfl rfl rfl fun ac hs => ?_))
            refine wpList_nil ?_
            refine then_n ?_
            refine wp_cond_false (hs.ev rfl) ?_
            refine wp_skip ?_
            refine then_n ?_
            refine wp_seq ?_
            refine wp_region_lit ?_
            refine lstep (wpO_plain rfl (op_load hs none 2 (v := W x4) rfl rfl rfl rfl Try.isAgg25 Try.sizeOf25 rfl rfl fun ac hs => ?_))
            refine lstep (wpO_plain rfl (op_build hs none (qs := [(0, .int .u64 1)]) (v := .agg #[.int .u64 1, .int .u64 0, .int .u64 0, .int .u64 0]) rfl rfl rfl rfl (fun _ => by kernel_rfl) rfl fun ac hs => ?_))
            obtain ⟨s77, hs77, ls77⟩ : ∃ z0, (x4 + 1) % 2 ^ 256 = z0 ∧ z0 < 2 ^ 256 := ⟨_, rfl, Nat.mod_lt _ (Nat.two_pow_pos 256)⟩
            obtain ⟨c78, hc78⟩ : ∃ z0, (x4 + 1) / 2 ^ 256 = z0 := ⟨_, rfl⟩
            refine lstep (wpO_plain rfl (op_call (F := 21) hs none (v := .tuple #[W s77, .int .u64 ((c78 : Nat) : Int)]) rfl rfl rfl rfl (Try.call21 _) (fun w => add_at w x4 1 s77 c78 lx4 (by decide) hs77 hc78) rfl fun ac w hs => ?_))
            refine lstep (wpO_plain rfl (op_move hs none rfl rfl rfl rfl fun ac hs => ?_))
            refine lstep (wpO_plain rfl (op_extract hs none rfl rfl rfl rfl rfl fun ac hs => ?_))
            refine lstep (wpO_plain rfl (op_extract hs none rfl rfl rfl rfl rfl fun ac hs => ?_))
            refine lstep (wpO_plain rfl (op_alloc hs none none (cs := [.int .u64 0, .int .u64 0, .int .u64 0, .int .u64 0]) rfl rfl Try.zeroValue25 (by kernel_rfl) rfl rfl fun g79 ac w hs => ?_))
            refine lstep (wpO_plain rfl (op_store hs 3 (vs := (Wl s77)) rfl rfl rfl rfl rfl Try.sizeOf25 rfl rfl rfl rfl rfl fun w hs => ?_))
            refine lstep (wpO_plain rfl (op_assign hs none rfl rfl rfl rfl fun ac hs => ?_))
            refine wpList_nil ?_
            refine then_n ?_
            refine wp_seq ?_
            refine wp_seq ?_
            refine wp_region_lit ?_
            refine lstep (wpO_plain rfl (op_move hs none rfl rfl rfl rfl fun ac hs => ?_))
            refine lstep (wpO_plain rfl (op_bin hs none (v := .bool false) rfl rfl rfl rfl (fun _ => rfl) (fun w => dF (by have := tgt_lt b; rw [hx4] at this; omega) (bin_neqN (x := c78) (y := 0) w)) rfl fun ac hs => ?_))
            refine wpList_nil ?_
            refine then_n ?_
            refine wp_cond_false (hs.ev rfl) ?_
            refine wp_skip ?_
            refine then_n ?_
            refine wp_seq ?_
            replace hs : St 139 w0 [(1, true, .int .u32 ((b : Nat) : Int)), (6, true, .bool false), (11, true, .pointer (some ⟨g79, 0, none⟩))] [(true, g1, 32, (tab .u8 32 f)), (true, g3, 25, (Wl x2)), (true, g5, 25, (Wl x4)), (true, g79, 25, (Wl s77))] ac w := hs.re ⟨rfl, rfl, rfl, trivial⟩
            obtain ⟨wk80, hwk80, lwk80⟩ : ∃ z0, wrk b = z0 ∧ z0 < 2 ^ 256 := ⟨_, rfl, wrk_lt _⟩
            obtain ⟨lo81, hlo81, llo81⟩ : ∃ z0, wk80 * s77 % 2 ^ 256 = z0 ∧ z0 < 2 ^ 256 := ⟨_, rfl, Nat.mod_lt _ (Nat.two_pow_pos 256)⟩
            obtain ⟨hi82, hhi82, lhi82⟩ : ∃ z0, wk80 * s77 / 2 ^ 256 = z0 ∧ z0 < 2 ^ 256 := ⟨_, rfl, mul_hi lwk80 ls77⟩
            refine region_inv [([], [1, 3, 4, 5, 6, 9, 10]), ([0], [3, 4, 5, 6, 9, 10]), ([], [3, 4, 5, 6, 9, 10]), ([0, 1, 2], [4, 5, 6, 9, 10]), ([0, 1, 2, 3], [5, 6, 9, 10]), ([0, 1, 2, 3, 4], [9, 10]), ([0, 1, 2, 3, 4], [10]), ([], [9, 10]), ([], [9, 10]), ([0, 1, 2, 3, 4, 5, 7, 8], [10]), ([0, 1, 2, 3, 4, 5, 6, 7, 8, 9], [])] (fun L ac w => ∃ (g83 : Nat) (g84 : Nat), St 139 w0 [(86, L 0, .int .u32 ((b : Nat) : Int)), (87, L 1, W wk80), (88, L 2, W s77), (89, L 3, .tuple #[W lo81, W hi82]), (85, L 4, .tuple #[W lo81, W hi82]), (90, L 5, W lo81), (91, L 6, W hi82), (13, L 7, .pointer (some ⟨g83, 0, none⟩)), (14, L 8, .pointer (some ⟨g84, 0, none⟩)), (1, true, .int .u32 ((b : Nat) : Int)), (6, true, .bool false), (11, true, .pointer (some ⟨g79, 0, none⟩))] [(true, g1, 32, (tab .u8 32 f)), (true, g3, 25, (Wl x2)), (true, g5, 25, (Wl x4)), (true, g79, 25, (Wl s77)), (L 7, g83, 25, (cond (L 9) (Wl lo81) [.int .u64 0, .int .u64 0, .int .u64 0, .int .u64 0])), (L 8, g84, 25, (cond (L 10) (Wl hi82) [.int .u64 0, .int .u64 0, .int .u64 0, .int .u64 0]))] ac w) (by kernel_rfl) (by kernel_rfl) ?_ ?_ ?_
            · exact ⟨0, 0, hs.drew.skip.skip.skip.skip.skip.skip.skip.skip.skip.pad.pad⟩
            · refine ⟨?_, ?_, ?_, ?_, ?_, ?_, ?_, ?_, ?_, ?_, ?_, trivial⟩
              · intro L ac w hJ
                obtain ⟨g83, g84, hs⟩ := hJ
                refine wpO_plain rfl (op_move hs (some 0) rfl rfl rfl rfl fun ac hs => ?_)
                exact ⟨g83, g84, hs⟩
              · intro L ac w hJ
                obtain ⟨g83, g84, hs⟩ := hJ
                refine wpO_plain rfl (op_call (F := 16) hs (some 1) (v := W wk80) rfl rfl rfl rfl (Try.call16 _) (work_c b wk80 (show b < 4294967296 by omega) hwk80) rfl fun ac w hs => ?_)
                exact ⟨g83, g84, hs⟩
              · intro L ac w hJ
                obtain ⟨g83, g84, hs⟩ := hJ
                refine wpO_plain rfl (op_load hs (some 2) 3 (v := W s77) rfl rfl rfl rfl Try.isAgg25 Try.sizeOf25 rfl rfl fun ac hs => ?_)
                exact ⟨g83, g84, hs⟩
              · intro L ac w hJ
                obtain ⟨g83, g84, hs⟩ := hJ
                refine wpO_plain rfl (op_call (F := 22) hs (some 3) (v := .tuple #[W lo81, W hi82]) rfl rfl rfl rfl (Try.call22 _) (fun w => wmul_at w wk80 s77 lo81 hi82 lwk80 ls77 hlo81 hhi82) rfl fun ac w hs => ?_)
                exact ⟨g83, g84, hs⟩
              · intro L ac w hJ
                obtain ⟨g83, g84, hs⟩ := hJ
                refine wpO_plain rfl (op_move hs (some 4) rfl rfl rfl rfl fun ac hs => ?_)
                exact ⟨g83, g84, hs⟩
              · intro L ac w hJ
                obtain ⟨g83, g84, hs⟩ := hJ
                refine wpO_plain rfl (op_extract hs (some 5) rfl rfl rfl rfl rfl fun ac hs => ?_)
                exact ⟨g83, g84, hs⟩
              · intro L ac w hJ
                obtain ⟨g83, g84, hs⟩ := hJ
                refine wpO_plain rfl (op_extract hs (some 6) rfl rfl rfl rfl rfl fun ac hs => ?_)
                exact ⟨g83, g84, hs⟩
              · intro L ac w hJ
                obtain ⟨g83, g84, hs⟩ := hJ
                refine wpO_plain rfl (op_alloc hs (some 7) (some 4) (cs := [.int .u64 0, .int .u64 0, .int .u64 0, .int .u64 0]) rfl rfl Try.zeroValue25 (by kernel_rfl) rfl rfl fun g83 ac w hs => ?_)
                exact ⟨g83, g84, hs⟩
              · intro L ac w hJ
                obtain ⟨g83, g84, hs⟩ := hJ
                refine wpO_plain rfl (op_alloc hs (some 8) (some 5) (cs := [.int .u64 0, .int .u64 0, .int .u64 0, .int .u64 0]) rfl rfl Try.zeroValue25 (by kernel_rfl) rfl rfl fun g84 ac w hs => ?_)
                exact ⟨g83, g84, hs⟩
              · intro L ac w hJ
                obtain ⟨g83, g84, hs⟩ := hJ
                refine wpO_plain rfl (op_store hs 4 (vs := (Wl lo81)) rfl rfl rfl rfl rfl Try.sizeOf25 rfl rfl rfl rfl rfl fun w hs => ?_)
                exact ⟨g83, g84, hs⟩
              · intro L ac w hJ
                obtain ⟨g83, g84, hs⟩ := hJ
                refine wpO_plain rfl (op_store hs 5 (vs := (Wl hi82)) rfl rfl rfl rfl rfl Try.sizeOf25 rfl rfl rfl rfl rfl fun w hs => ?_)
                exact ⟨g83, g84, hs⟩
            intro ac w hJ
            obtain ⟨g83, g84, hs⟩ := hJ
            replace hs : St 139 w0 [(86, true, .int .u32 ((b : Nat) : Int)), (87, true, W wk80), (88, true, W s77), (89, true, .tuple #[W lo81, W hi82]), (85, true, .tuple #[W lo81, W hi82]), (90, true, W lo81), (91, true, W hi82), (13, true, .pointer (some ⟨g83, 0, none⟩)), (14, true, .pointer (some ⟨g84, 0, none⟩)), (1, true, .int .u32 ((b : Nat) : Int)), (6, true, .bool false), (11, true, .pointer (some ⟨g79, 0, none⟩))] [(true, g1, 32, (tab .u8 32 f)), (true, g3, 25, (Wl x2)), (true, g5, 25, (Wl x4)), (true, g79, 25, (Wl s77)), (true, g83, 25, (Wl lo81)), (true, g84, 25, (Wl hi82))] ac w := hs
            have hfit : hi82 = 0 ∨ hi82 = 1 ∧ lo81 = 0 := wrk_fits nb' (by rw [hx4]; exact hs77) hwk80 hlo81 hhi82
            refine then_n ?_
            refine wp_seq ?_
            by_cases hq85 : hi82 = 0
            · skip
              refine wp_region_lit ?_
              refine lstep (wpO_plain rfl (op_load hs none 5 (v := W hi82) rfl rfl rfl rfl Try.isAgg25 Try.sizeOf25 rfl rfl fun ac hs => ?_))
              refine lstep (wpO_plain rfl (op_build hs none (qs := []) (v := .agg #[.int .u64 0, .int .u64 0, .int .u64 0, .int .u64 0]) rfl rfl rfl rfl (fun _ => by kernel_rfl) rfl fun ac hs => ?_))
              refine lstep (wpO_plain rfl (op_bin hs none (v := .bool true) rfl rfl rfl rfl (fun w => run_eqGuard_agg w .eql 25 _ _ _ _ Try.eqGuardType25) (eqlW hi82 0 lhi82 (by decide) true (decide_eq_true hq85)) rfl fun ac hs => ?_))
              refine lstep (wpO_plain rfl (op_move hs none rfl rfl rfl rfl fun ac hs => ?_))
              refine lstep (wpO_out hs none rfl rfl (.inl rfl) rfl rfl fun ac hs => ?_)
              refine lstep (wpO_out hs none rfl rfl (.inl rfl) rfl rfl fun ac hs => ?_)
              refine lstep (wpO_out hs none rfl rfl (.inl rfl) rfl rfl fun ac hs => ?_)
              refine lstep (wpO_out hs none rfl rfl (.inl rfl) rfl rfl fun ac hs => ?_)
              refine lstep (wpO_out hs none rfl rfl (.inr rfl) rfl rfl fun ac hs => ?_)
              refine lstep (wpO_out hs none rfl rfl (.inr rfl) rfl rfl fun ac hs => ?_)
              refine lstep (wpO_out hs none rfl rfl (.inr rfl) rfl rfl fun ac hs => ?_)
              refine lstep (wpO_out hs none rfl rfl (.inl rfl) rfl rfl fun ac hs => ?_)
              refine lstep (wpO_plain rfl (op_pickT hs none rfl rfl rfl rfl rfl fun ac hs => ?_))
              refine lstep (wpO_plain rfl (op_assign hs none rfl rfl rfl rfl fun ac hs => ?_))
              refine wpList_nil ?_
              refine then_n ?_
              refine wp_seq ?_
              refine wp_region_lit ?_
              refine lstep (wpO_plain rfl (op_move hs none rfl rfl rfl rfl fun ac hs => ?_))
              obtain ⟨wk86, hwk86, lwk86⟩ : ∃ z0, wrk b = z0 ∧ z0 < 2 ^ 256 := ⟨_, rfl, wrk_lt _⟩
              refine lstep (wpO_plain rfl (op_call (F := 16) hs none (v := W wk86) rfl rfl rfl rfl (Try.call16 _) (work_c b wk86 (show b < 4294967296 by omega) hwk86) rfl fun ac w hs => ?_))
              refine lstep (wpO_plain rfl (op_build hs none (qs := [(0, .int .u64 1)]) (v := .agg #[.int .u64 1, .int .u64 0, .int .u64 0, .int .u64 0]) rfl rfl rfl rfl (fun _ => by kernel_rfl) rfl fun ac hs => ?_))
              obtain ⟨s87, hs87, ls87⟩ : ∃ z0, (wk86 + 1) % 2 ^ 256 = z0 ∧ z0 < 2 ^ 256 := ⟨_, rfl, Nat.mod_lt _ (Nat.two_pow_pos 256)⟩
              obtain ⟨c88, hc88⟩ : ∃ z0, (wk86 + 1) / 2 ^ 256 = z0 := ⟨_, rfl⟩
              refine lstep (wpO_plain rfl (op_call (F := 21) hs none (v := .tuple #[W s87, .int .u64 ((c88 : Nat) : Int)]) rfl rfl rfl rfl (Try.call21 _) (fun w => add_at w wk86 1 s87 c88 lwk86 (by decide) hs87 hc88) rfl fun ac w hs => ?_))
              refine lstep (wpO_plain rfl (op_move hs none rfl rfl rfl rfl fun ac hs => ?_))
              refine lstep (wpO_plain rfl (op_extract hs none rfl rfl rfl rfl rfl fun ac hs => ?_))
              refine lstep (wpO_plain rfl (op_extract hs none rfl rfl rfl rfl rfl fun ac hs => ?_))
              refine lstep (wpO_plain rfl (op_alloc hs none none (cs := [.int .u64 0, .int .u64 0, .int .u64 0, .int .u64 0]) rfl rfl Try.zeroValue25 (by kernel_rfl) rfl rfl fun g89 ac w hs => ?_))
              refine lstep (wpO_plain rfl (op_store hs 6 (vs := (Wl s87)) rfl rfl rfl rfl rfl Try.sizeOf25 rfl rfl rfl rfl rfl fun w hs => ?_))
              refine lstep (wpO_plain rfl (op_assign hs none rfl rfl rfl rfl fun ac hs => ?_))
              refine wpList_nil ?_
              refine then_n ?_
              refine wp_seq ?_
              refine wp_region_lit ?_
              refine lstep (wpO_plain rfl (op_load hs none 6 (v := W s87) rfl rfl rfl rfl Try.isAgg25 Try.sizeOf25 rfl rfl fun ac hs => ?_))
              refine lstep (wpO_plain rfl (op_load hs none 3 (v := W s77) rfl rfl rfl rfl Try.isAgg25 Try.sizeOf25 rfl rfl fun ac hs => ?_))
              obtain ⟨lo90, hlo90, llo90⟩ : ∃ z0, s87 * s77 % 2 ^ 256 = z0 ∧ z0 < 2 ^ 256 := ⟨_, rfl, Nat.mod_lt _ (Nat.two_pow_pos 256)⟩
              obtain ⟨hi91, hhi91, lhi91⟩ : ∃ z0, s87 * s77 / 2 ^ 256 = z0 ∧ z0 < 2 ^ 256 := ⟨_, rfl, mul_hi ls87 ls77⟩
              refine lstep (wpO_plain rfl (op_call (F := 22) hs none (v := .tuple #[W lo90, W hi91]) rfl rfl rfl rfl (Try.call22 _) (fun w => wmul_at w s87 s77 lo90 hi91 ls87 ls77 hlo90 hhi91) rfl fun ac w hs => ?_))
              refine lstep (wpO_plain rfl (op_move hs none rfl rfl rfl rfl fun ac hs => ?_))
              refine lstep (wpO_plain rfl (op_extract hs none rfl rfl rfl rfl rfl fun ac hs => ?_))
              refine lstep (wpO_plain rfl (op_extract hs none rfl rfl rfl rfl rfl fun ac hs => ?_))
              refine lstep (wpO_plain rfl (op_store hs 4 (vs := (Wl lo90)) rfl rfl rfl rfl rfl Try.sizeOf25 rfl rfl rfl rfl rfl fun w hs => ?_))
              refine lstep (wpO_plain rfl (op_store hs 5 (vs := (Wl hi91)) rfl rfl rfl rfl rfl Try.sizeOf25 rfl rfl rfl rfl rfl fun w hs => ?_))
              refine wpList_nil ?_
              have habv : 1 < hi91 ∨ hi91 = 1 ∧ lo90 ≠ 0 := wrk_above nb' (by rw [hx4]; exact hs77) hwk86 hs87 hlo90 hhi91
              refine then_n ?_
              refine wp_seq ?_
              by_cases hq92 : 1 < hi91
              · skip
                refine wp_region_lit ?_
                refine lstep (wpO_plain rfl (op_load hs none 5 (v := W hi91) rfl rfl rfl rfl Try.isAgg25 Try.sizeOf25 rfl rfl fun ac hs => ?_))
                refine lstep (wpO_plain rfl (op_build hs none (qs := [(0, .int .u64 1)]) (v := .agg #[.int .u64 1, .int .u64 0, .int .u64 0, .int .u64 0]) rfl rfl rfl rfl (fun _ => by kernel_rfl) rfl fun ac hs => ?_))
                refine lstep (wpO_plain rfl (op_call (F := 18) hs none (v := .int .i64 (cmpZ hi91 1)) rfl rfl rfl rfl (Try.call18 _) (fun w => cmp_any w hi91 1 lhi91 (by decide)) rfl fun ac w hs => ?_))
                refine lstep (wpO_plain rfl (op_bin hs none (v := .bool true) rfl rfl rfl rfl (fun _ => rfl) (fun w => dT hq92 (bin_cmp_gtr hi91 1 w)) rfl fun ac hs => ?_))
                refine lstep (wpO_plain rfl (op_move hs none rfl rfl rfl rfl fun ac hs => ?_))
                refine lstep (wpO_out hs none rfl rfl (.inl rfl) rfl rfl fun ac hs => ?_)
                refine lstep (wpO_out hs none rfl rfl (.inl rfl) rfl rfl fun ac hs => ?_)
                refine lstep (wpO_out hs none rfl rfl (.inl rfl) rfl rfl fun ac hs => ?_)
                refine lstep (wpO_out hs none rfl rfl (.inl rfl) rfl rfl fun ac hs => ?_)
                refine lstep (wpO_out hs none rfl rfl (.inr rfl) rfl rfl fun ac hs => ?_)
                refine lstep (wpO_out hs none rfl rfl (.inr rfl) rfl rfl fun ac hs => ?_)
                refine lstep (wpO_out hs none rfl rfl (.inr rfl) rfl rfl fun ac hs => ?_)
                refine lstep (wpO_out hs none rfl rfl (.inl rfl) rfl rfl fun ac hs => ?_)
                refine lstep (wpO_plain rfl (op_pickT hs none rfl rfl rfl rfl rfl fun ac hs => ?_))
                refine lstep (wpO_plain rfl (op_assign hs none rfl rfl rfl rfl fun ac hs => ?_))
                refine wpList_nil ?_
                refine then_n ?_
                refine wp_seq ?_
                refine wp_region_lit ?_
                refine lstep (wpO_plain rfl (op_call (F := 11) hs none (v := .bool true) rfl rfl rfl rfl (Try.call11 _) alive_c rfl fun ac w hs => ?_))
                refine lstep (wpO_plain rfl (op_move hs none rfl rfl rfl rfl fun ac hs => ?_))
                refine lstep (wpO_in hs rfl rfl rfl (op_move hs none rfl rfl rfl rfl fun ac hs => ?_))
                refine lstep (wpO_plain rfl (op_pickT hs none rfl rfl rfl rfl rfl fun ac hs => ?_))
                refine lstep (wpO_plain rfl (op_move hs none rfl rfl rfl rfl fun ac hs => ?_))
                refine lstep (wpO_in hs rfl rfl rfl (op_move hs none rfl rfl rfl rfl fun ac hs => ?_))
                refine lstep (wpO_plain rfl (op_pickT hs none rfl rfl rfl rfl rfl fun ac hs => ?_))
                refine lstep (wpO_plain rfl (op_assign hs none rfl rfl rfl rfl fun ac hs => ?_))
                refine wpList_nil ?_
                refine then_n ?_
                refine wp_ret ?_
                exact bodyPost_ret (res1 rfl (rv_t hs rfl)) hs.defers ⟨rfl, hs.below⟩
              · skip
                refine wp_region_lit ?_
                refine lstep (wpO_plain rfl (op_load hs none 5 (v := W hi91) rfl rfl rfl rfl Try.isAgg25 Try.sizeOf25 rfl rfl fun ac hs => ?_))
                refine lstep (wpO_plain rfl (op_build hs none (qs := [(0, .int .u64 1)]) (v := .agg #[.int .u64 1, .int .u64 0, .int .u64 0, .int .u64 0]) rfl rfl rfl rfl (fun _ => by kernel_rfl) rfl fun ac hs => ?_))
                refine lstep (wpO_plain rfl (op_call (F := 18) hs none (v := .int .i64 (cmpZ hi91 1)) rfl rfl rfl rfl (Try.call18 _) (fun w => cmp_any w hi91 1 lhi91 (by decide)) rfl fun ac w hs => ?_))
                refine lstep (wpO_plain rfl (op_bin hs none (v := .bool false) rfl rfl rfl rfl (fun _ => rfl) (fun w => dF hq92 (bin_cmp_gtr hi91 1 w)) rfl fun ac hs => ?_))
                refine lstep (wpO_plain rfl (op_move hs none rfl rfl rfl rfl fun ac hs => ?_))
                refine lstep (wpO_in hs rfl rfl rfl (op_load hs none 5 (v := W hi91) rfl rfl rfl rfl Try.isAgg25 Try.sizeOf25 rfl rfl fun ac hs => ?_))
                refine lstep (wpO_in hs rfl rfl rfl (op_build hs none (qs := [(0, .int .u64 1)]) (v := .agg #[.int .u64 1, .int .u64 0, .int .u64 0, .int .u64 0]) rfl rfl rfl rfl (fun _ => by kernel_rfl) rfl fun ac hs => ?_))
                refine lstep (wpO_in hs rfl rfl rfl (op_bin hs none (v := .bool true) rfl rfl rfl rfl (fun w => run_eqGuard_agg w .eql 25 _ _ _ _ Try.eqGuardType25) (eqlW hi91 1 lhi91 (by decide) true (decide_eq_true (habv.resolve_left hq92).1)) rfl fun ac hs => ?_))
                refine lstep (wpO_in hs rfl rfl rfl (op_move hs none rfl rfl rfl rfl fun ac hs => ?_))
                refine lstep (wpO_in hs rfl rfl rfl (op_load hs none 4 (v := W lo90) rfl rfl rfl rfl Try.isAgg25 Try.sizeOf25 rfl rfl fun ac hs => ?_))
                refine lstep (wpO_in hs rfl rfl rfl (op_build hs none (qs := []) (v := .agg #[.int .u64 0, .int .u64 0, .int .u64 0, .int .u64 0]) rfl rfl rfl rfl (fun _ => by kernel_rfl) rfl fun ac hs => ?_))
                refine lstep (wpO_in hs rfl rfl rfl (op_bin hs none (v := .bool true) rfl rfl rfl rfl (fun w => run_eqGuard_agg w .neq 25 _ _ _ _ Try.eqGuardType25) (neqW lo90 0 llo90 (by decide) true (decide_eq_true (habv.resolve_left hq92).2)) rfl fun ac hs => ?_))
                refine lstep (wpO_in hs rfl rfl rfl (op_pickT hs none rfl rfl rfl rfl rfl fun ac hs => ?_))
                refine lstep (wpO_plain rfl (op_pickF hs none rfl rfl rfl rfl rfl fun ac hs => ?_))
                refine lstep (wpO_plain rfl (op_assign hs none rfl rfl rfl rfl fun ac hs => ?_))
                refine wpList_nil ?_
                refine then_n ?_
                refine wp_seq ?_
                refine wp_region_lit ?_
                refine lstep (wpO_plain rfl (op_call (F := 11) hs none (v := .bool true) rfl rfl rfl rfl (Try.call11 _) alive_c rfl fun ac w hs => ?_))
                refine lstep (wpO_plain rfl (op_move hs none rfl rfl rfl rfl fun ac hs => ?_))
                refine lstep (wpO_in hs rfl rfl rfl (op_move hs none rfl rfl rfl rfl fun ac hs => ?_))
                refine lstep (wpO_plain rfl (op_pickT hs none rfl rfl rfl rfl rfl fun ac hs => ?_))
                refine lstep (wpO_plain rfl (op_move hs none rfl rfl rfl rfl fun ac hs => ?_))
                refine lstep (wpO_in hs rfl rfl rfl (op_move hs none rfl rfl rfl rfl fun ac hs => ?_))
                refine lstep (wpO_plain rfl (op_pickT hs none rfl rfl rfl rfl rfl fun ac hs => ?_))
                refine lstep (wpO_plain rfl (op_assign hs none rfl rfl rfl rfl fun ac hs => ?_))
                refine wpList_nil ?_
                refine then_n ?_
                refine wp_ret ?_
                exact bodyPost_ret (res1 rfl (rv_t hs rfl)) hs.defers ⟨rfl, hs.below⟩
            · skip
              refine wp_region_lit ?_
              refine lstep (wpO_plain rfl (op_load hs none 5 (v := W hi82) rfl rfl rfl rfl Try.isAgg25 Try.sizeOf25 rfl rfl fun ac hs => ?_))
              refine lstep (wpO_plain rfl (op_build hs none (qs := []) (v := .agg #[.int .u64 0, .int .u64 0, .int .u64 0, .int .u64 0]) rfl rfl rfl rfl (fun _ => by kernel_rfl) rfl fun ac hs => ?_))
              refine lstep (wpO_plain rfl (op_bin hs none (v := .bool false) rfl rfl rfl rfl (fun w => run_eqGuard_agg w .eql 25 _ _ _ _ Try.eqGuardType25) (eqlW hi82 0 lhi82 (by decide) false (decide_eq_false hq85)) rfl fun ac hs => ?_))
              refine lstep (wpO_plain rfl (op_move hs none rfl rfl rfl rfl fun ac hs => ?_))
              refine lstep (wpO_in hs rfl rfl rfl (op_load hs none 5 (v := W hi82) rfl rfl rfl rfl Try.isAgg25 Try.sizeOf25 rfl rfl fun ac hs => ?_))
              refine lstep (wpO_in hs rfl rfl rfl (op_build hs none (qs := [(0, .int .u64 1)]) (v := .agg #[.int .u64 1, .int .u64 0, .int .u64 0, .int .u64 0]) rfl rfl rfl rfl (fun _ => by kernel_rfl) rfl fun ac hs => ?_))
              refine lstep (wpO_in hs rfl rfl rfl (op_bin hs none (v := .bool true) rfl rfl rfl rfl (fun w => run_eqGuard_agg w .eql 25 _ _ _ _ Try.eqGuardType25) (eqlW hi82 1 lhi82 (by decide) true (decide_eq_true (hfit.resolve_left hq85).1)) rfl fun ac hs => ?_))
              refine lstep (wpO_in hs rfl rfl rfl (op_move hs none rfl rfl rfl rfl fun ac hs => ?_))
              refine lstep (wpO_in hs rfl rfl rfl (op_load hs none 4 (v := W lo81) rfl rfl rfl rfl Try.isAgg25 Try.sizeOf25 rfl rfl fun ac hs => ?_))
              refine lstep (wpO_in hs rfl rfl rfl (op_build hs none (qs := []) (v := .agg #[.int .u64 0, .int .u64 0, .int .u64 0, .int .u64 0]) rfl rfl rfl rfl (fun _ => by kernel_rfl) rfl fun ac hs => ?_))
              refine lstep (wpO_in hs rfl rfl rfl (op_bin hs none (v := .bool true) rfl rfl rfl rfl (fun w => run_eqGuard_agg w .eql 25 _ _ _ _ Try.eqGuardType25) (eqlW lo81 0 llo81 (by decide) true (decide_eq_true (hfit.resolve_left hq85).2)) rfl fun ac hs => ?_))
              refine lstep (wpO_in hs rfl rfl rfl (op_pickT hs none rfl rfl rfl rfl rfl fun ac hs => ?_))
              refine lstep (wpO_plain rfl (op_pickF hs none rfl rfl rfl rfl rfl fun ac hs => ?_))
              refine lstep (wpO_plain rfl (op_assign hs none rfl rfl rfl rfl fun ac hs => ?_))
              refine wpList_nil ?_
              refine then_n ?_
              refine wp_seq ?_
              refine wp_region_lit ?_
              refine lstep (wpO_plain rfl (op_move hs none rfl rfl rfl rfl fun ac hs => ?_))
              obtain ⟨wk93, hwk93, lwk93⟩ : ∃ z0, wrk b = z0 ∧ z0 < 2 ^ 256 := ⟨_, rfl, wrk_lt _⟩
              refine lstep (wpO_plain rfl (op_call (F := 16) hs none (v := W wk93) rfl rfl rfl rfl (Try.call16 _) (work_c b wk93 (show b < 4294967296 by omega) hwk93) rfl fun ac w hs => ?_))
              refine lstep (wpO_plain rfl (op_build hs none (qs := [(0, .int .u64 1)]) (v := .agg #[.int .u64 1, .int .u64 0, .int .u64 0, .int .u64 0]) rfl rfl rfl rfl (fun _ => by kernel_rfl) rfl fun ac hs => ?_))
              obtain ⟨s94, hs94, ls94⟩ : ∃ z0, (wk93 + 1) % 2 ^ 256 = z0 ∧ z0 < 2 ^ 256 := ⟨_, rfl, Nat.mod_lt _ (Nat.two_pow_pos 256)⟩
              obtain ⟨c95, hc95⟩ : ∃ z0, (wk93 + 1) / 2 ^ 256 = z0 := ⟨_, rfl⟩
              refine lstep (wpO_plain rfl (op_call (F := 21) hs none (v := .tuple #[W s94, .int .u64 ((c95 : Nat) : Int)]) rfl rfl rfl rfl (Try.call21 _) (fun w => add_at w wk93 1 s94 c95 lwk93 (by decide) hs94 hc95) rfl fun ac w hs => ?_))
              refine lstep (wpO_plain rfl (op_move hs none rfl rfl rfl rfl fun ac hs => ?_))
              refine lstep (wpO_plain rfl (op_extract hs none rfl rfl rfl rfl rfl fun ac hs => ?_))
              refine lstep (wpO_plain rfl (op_extract hs none rfl rfl rfl rfl rfl fun ac hs => ?_))
              refine lstep (wpO_plain rfl (op_alloc hs none none (cs := [.int .u64 0, .int .u64 0, .int .u64 0, .int .u64 0]) rfl rfl Try.zeroValue25 (by kernel_rfl) rfl rfl fun g96 ac w hs => ?_))
              refine lstep (wpO_plain rfl (op_store hs 6 (vs := (Wl s94)) rfl rfl rfl rfl rfl Try.sizeOf25 rfl rfl rfl rfl rfl fun w hs => ?_))
              refine lstep (wpO_plain rfl (op_assign hs none rfl rfl rfl rfl fun ac hs => ?_))
              refine wpList_nil ?_
              refine then_n ?_
              refine wp_seq ?_
              refine wp_region_lit ?_
              refine lstep (wpO_plain rfl (op_load hs none 6 (v := W s94) rfl rfl rfl rfl Try.isAgg25 Try.sizeOf25 rfl rfl fun ac hs => ?_))
              refine lstep (wpO_plain rfl (op_load hs none 3 (v := W s77) rfl rfl rfl rfl Try.isAgg25 Try.sizeOf25 rfl rfl fun ac hs => ?_))
              obtain ⟨lo97, hlo97, llo97⟩ : ∃ z0, s94 * s77 % 2 ^ 256 = z0 ∧ z0 < 2 ^ 256 := ⟨_, rfl, Nat.mod_lt _ (Nat.two_pow_pos 256)⟩
              obtain ⟨hi98, hhi98, lhi98⟩ : ∃ z0, s94 * s77 / 2 ^ 256 = z0 ∧ z0 < 2 ^ 256 := ⟨_, rfl, mul_hi ls94 ls77⟩
              refine lstep (wpO_plain rfl (op_call (F := 22) hs none (v := .tuple #[W lo97, W hi98]) rfl rfl rfl rfl (Try.call22 _) (fun w => wmul_at w s94 s77 lo97 hi98 ls94 ls77 hlo97 hhi98) rfl fun ac w hs => ?_))
              refine lstep (wpO_plain rfl (op_move hs none rfl rfl rfl rfl fun ac hs => ?_))
              refine lstep (wpO_plain rfl (op_extract hs none rfl rfl rfl rfl rfl fun ac hs => ?_))
              refine lstep (wpO_plain rfl (op_extract hs none rfl rfl rfl rfl rfl fun ac hs => ?_))
              refine lstep (wpO_plain rfl (op_store hs 4 (vs := (Wl lo97)) rfl rfl rfl rfl rfl Try.sizeOf25 rfl rfl rfl rfl rfl fun w hs => ?_))
              refine lstep (wpO_plain rfl (op_store hs 5 (vs := (Wl hi98)) rfl rfl rfl rfl rfl Try.sizeOf25 rfl rfl rfl rfl rfl fun w hs => ?_))
              refine wpList_nil ?_
              have habv : 1 < hi98 ∨ hi98 = 1 ∧ lo97 ≠ 0 := wrk_above nb' (by rw [hx4]; exact hs77) hwk93 hs94 hlo97 hhi98
              refine then_n ?_
              refine wp_seq ?_
              by_cases hq99 : 1 < hi98
              · skip
                refine wp_region_lit ?_
                refine lstep (wpO_plain rfl (op_load hs none 5 (v := W hi98) rfl rfl rfl rfl Try.isAgg25 Try.sizeOf25 rfl rfl fun ac hs => ?_))
                refine lstep (wpO_plain rfl (op_build hs none (qs := [(0, .int .u64 1)]) (v := .agg #[.int .u64 1, .int .u64 0, .int .u64 0, .int .u64 0]) rfl rfl rfl rfl (fun _ => by kernel_rfl) rfl fun ac hs => ?_))
                refine lstep (wpO_plain rfl (op_call (F := 18) hs none (v := .int .i64 (cmpZ hi98 1)) rfl rfl rfl rfl (Try.call18 _) (fun w => cmp_any w hi98 1 lhi98 (by decide)) rfl fun ac w hs => ?_))
                refine lstep (wpO_plain rfl (op_bin hs none (v := .bool true) rfl rfl rfl rfl (fun _ => rfl) (fun w => dT hq99 (bin_cmp_gtr hi98 1 w)) rfl fun ac hs => ?_))
                refine lstep (wpO_plain rfl (op_move hs none rfl rfl rfl rfl fun ac hs => ?_))
                refine lstep (wpO_out hs none rfl rfl (.inl rfl) rfl rfl fun ac hs => ?_)
                refine lstep (wpO_out hs none rfl rfl (.inl rfl) rfl rfl fun ac hs => ?_)
                refine lstep (wpO_out hs none rfl rfl (.inl rfl) rfl rfl fun ac hs => ?_)
                refine lstep (wpO_out hs none rfl rfl (.inl rfl) rfl rfl fun ac hs => ?_)
                refine lstep (wpO_out hs none rfl rfl (.inr rfl) rfl rfl fun ac hs => ?_)
                refine lstep (wpO_out hs none rfl rfl (.inr rfl) rfl rfl fun ac hs => ?_)
                refine lstep (wpO_out hs none rfl rfl (.inr rfl) rfl rfl fun ac hs => ?_)
                refine lstep (wpO_out hs none rfl rfl (.inl rfl) rfl rfl fun ac hs => ?_)
                refine lstep (wpO_plain rfl (op_pickT hs none rfl rfl rfl rfl rfl fun ac hs => ?_))
                refine lstep (wpO_plain rfl (op_assign hs none rfl rfl rfl rfl fun ac hs => ?_))
                refine wpList_nil ?_
                refine then_n ?_
                refine wp_seq ?_
                refine wp_region_lit ?_
                refine lstep (wpO_plain rfl (op_call (F := 11) hs none (v := .bool true) rfl rfl rfl rfl (Try.call11 _) alive_c rfl fun ac w hs => ?_))
                refine lstep (wpO_plain rfl (op_move hs none rfl rfl rfl rfl fun ac hs => ?_))
                refine lstep (wpO_in hs rfl rfl rfl (op_move hs none rfl rfl rfl rfl fun ac hs => ?_))
                refine lstep (wpO_plain rfl (op_pickT hs none rfl rfl rfl rfl rfl fun ac hs => ?_))
                refine lstep (wpO_plain rfl (op_move hs none rfl rfl rfl rfl fun ac hs => ?_))
                refine lstep (wpO_in hs rfl rfl rfl (op_move hs none rfl rfl rfl rfl fun ac hs => ?_))
                refine lstep (wpO_plain rfl (op_pickT hs none rfl rfl rfl rfl rfl fun ac hs => ?_))
                refine lstep (wpO_plain rfl (op_assign hs none rfl rfl rfl rfl fun ac hs => ?_))
                refine wpList_nil ?_
                refine then_n ?_
                refine wp_ret ?_
                exact bodyPost_ret (res1 rfl (rv_t hs rfl)) hs.defers ⟨rfl, hs.below⟩
              · skip
                refine wp_region_lit ?_
                refine lstep (wpO_plain rfl (op_load hs none 5 (v := W hi98) rfl rfl rfl rfl Try.isAgg25 Try.sizeOf25 rfl rfl fun ac hs => ?_))
                refine lstep (wpO_plain rfl (op_build hs none (qs := [(0, .int .u64 1)]) (v := .agg #[.int .u64 1, .int .u64 0, .int .u64 0, .int .u64 0]) rfl rfl rfl rfl (fun _ => by kernel_rfl) rfl fun ac hs => ?_))
                refine lstep (wpO_plain rfl (op_call (F := 18) hs none (v := .int .i64 (cmpZ hi98 1)) rfl rfl rfl rfl (Try.call18 _) (fun w => cmp_any w hi98 1 lhi98 (by decide)) rfl fun ac w hs => ?_))
                refine lstep (wpO_plain rfl (op_bin hs none (v := .bool false) rfl rfl rfl rfl (fun _ => rfl) (fun w => dF hq99 (bin_cmp_gtr hi98 1 w)) rfl fun ac hs => ?_))
                refine lstep (wpO_plain rfl (op_move hs none rfl rfl rfl rfl fun ac hs => ?_))
                refine lstep (wpO_in hs rfl rfl rfl (op_load hs none 5 (v := W hi98) rfl rfl rfl rfl Try.isAgg25 Try.sizeOf25 rfl rfl fun ac hs => ?_))
                refine lstep (wpO_in hs rfl rfl rfl (op_build hs none (qs := [(0, .int .u64 1)]) (v := .agg #[.int .u64 1, .int .u64 0, .int .u64 0, .int .u64 0]) rfl rfl rfl rfl (fun _ => by kernel_rfl) rfl fun ac hs => ?_))
                refine lstep (wpO_in hs rfl rfl rfl (op_bin hs none (v := .bool true) rfl rfl rfl rfl (fun w => run_eqGuard_agg w .eql 25 _ _ _ _ Try.eqGuardType25) (eqlW hi98 1 lhi98 (by decide) true (decide_eq_true (habv.resolve_left hq99).1)) rfl fun ac hs => ?_))
                refine lstep (wpO_in hs rfl rfl rfl (op_move hs none rfl rfl rfl rfl fun ac hs => ?_))
                refine lstep (wpO_in hs rfl rfl rfl (op_load hs none 4 (v := W lo97) rfl rfl rfl rfl Try.isAgg25 Try.sizeOf25 rfl rfl fun ac hs => ?_))
                refine lstep (wpO_in hs rfl rfl rfl (op_build hs none (qs := []) (v := .agg #[.int .u64 0, .int .u64 0, .int .u64 0, .int .u64 0]) rfl rfl rfl rfl (fun _ => by kernel_rfl) rfl fun ac hs => ?_))
                refine lstep (wpO_in hs rfl rfl rfl (op_bin hs none (v := .bool true) rfl rfl rfl rfl (fun w => run_eqGuard_agg w .neq 25 _ _ _ _ Try.eqGuardType25) (neqW lo97 0 llo97 (by decide) true (decide_eq_true (habv.resolve_left hq99).2)) rfl fun ac hs => ?_))
                refine lstep (wpO_in hs rfl rfl rfl (op_pickT hs none rfl rfl rfl rfl rfl fun ac hs => ?_))
                refine lstep (wpO_plain rfl (op_pickF hs none rfl rfl rfl rfl rfl fun ac hs => ?_))
                refine lstep (wpO_plain rfl (op_assign hs none rfl rfl rfl rfl fun ac hs => ?_))
                refine wpList_nil ?_
                refine then_n ?_
                refine wp_seq ?_
                refine wp_region_lit ?_
                refine lstep (wpO_plain rfl (op_call (F := 11) hs none (v := .bool true) rfl rfl rfl rfl (Try.call11 _) alive_c rfl fun ac w hs => ?_))
                refine lstep (wpO_plain rfl (op_move hs none rfl rfl rfl rfl fun ac hs => ?_))
                refine lstep (wpO_in hs rfl rfl rfl (op_move hs none rfl rfl rfl rfl fun ac hs => ?_))
                refine lstep (wpO_plain rfl (op_pickT hs none rfl rfl rfl rfl rfl fun ac hs => ?_))
                refine lstep (wpO_plain rfl (op_move hs none rfl rfl rfl rfl fun ac hs => ?_))
                refine lstep (wpO_in hs rfl rfl rfl (op_move hs none rfl rfl rfl rfl fun ac hs => ?_))
                refine lstep (wpO_plain rfl (op_pickT hs none rfl rfl rfl rfl rfl fun ac hs => ?_))
                refine lstep (wpO_plain rfl (op_assign hs none rfl rfl rfl rfl fun ac hs => ?_))
                refine wpList_nil ?_
                refine then_n ?_
                refine wp_ret ?_
                exact bodyPost_ret (res1 rfl (rv_t hs rfl)) hs.defers ⟨rfl, hs.below⟩
          · skip
            refine wp_region_lit ?_
            refine lstep (wpO_plain rfl (op_move hs none rfl rfl rfl rfl fun ac hs => ?_))
            obtain ⟨wk100, hwk100, lwk100⟩ : ∃ z0, wrk a = z0 ∧ z0 < 2 ^ 256 := ⟨_, rfl, wrk_lt _⟩
            refine lstep (wpO_plain rfl (op_call (F := 16) hs none (v := W wk100) rfl rfl rfl rfl (Try.call16 _) (work_c a wk100 (show a < 4294967296 by omega) hwk100) rfl fun ac w hs => ?_))
            refine lstep (wpO_plain rfl (op_move hs none rfl rfl rfl rfl fun ac hs => ?_))
            obtain ⟨wk101, hwk101, lwk101⟩ : ∃ z0, wrk b = z0 ∧ z0 < 2 ^ 256 := ⟨_, rfl, wrk_lt _⟩
            refine lstep (wpO_plain rfl (op_call (F := 16) hs none (v := W wk101) rfl rfl rfl rfl (Try.call16 _) (work_c b wk101 (show b < 4294967296 by omega) hwk101) rfl fun ac w hs => ?_))
            refine lstep (wpO_plain rfl (op_call (F := 18) hs none (v := .int .i64 (cmpZ wk100 wk101)) rfl rfl rfl rfl (Try.call18 _) (fun w => cmp_any w wk100 wk101 lwk100 lwk101) rfl fun ac w hs => ?_))
            refine lstep (wpO_plain rfl (op_bin hs none (v := .bool false) rfl rfl rfl rfl (fun _ => rfl) (fun w => dF (Nat.not_lt.2 (by rw [← hwk100, ← hwk101]; exact wrk_mono na hle)) (bin_cmp_lss wk100 wk101 w)) rfl fun ac hs => ?_))
            refine lstep (wpO_plain rfl (op_move hs none rfl rfl rfl rfl fun ac hs => ?_))
            refine lstep (wpO_in hs rfl rfl rfl (op_load hs none 0 (v := At .u8 32 f) rfl rfl rfl rfl Try.isAgg32 Try.sizeOf32 ldv_tab rfl fun ac hs => ?_))
            refine lstep (wpO_in hs rfl rfl rfl (op_move hs none rfl rfl rfl rfl fun ac hs => ?_))
            refine lstep (wpO_in hs rfl rfl rfl (op_call (F := 14) hs none (v := .bool true) rfl rfl rfl rfl (Try.call14 _) (meets_c f a true hf (show a < 4294967296 by omega) hq71) rfl fun ac w hs => ?_))
            refine lstep (wpO_in hs rfl rfl rfl (op_move hs none rfl rfl rfl rfl fun ac hs => ?_))
            refine lstep (wpO_in hs rfl rfl rfl (op_load hs none 0 (v := At .u8 32 f) rfl rfl rfl rfl Try.isAgg32 Try.sizeOf32 ldv_tab rfl fun ac hs => ?_))
            refine lstep (wpO_in hs rfl rfl rfl (op_move hs none rfl rfl rfl rfl fun ac hs => ?_))
            refine lstep (wpO_in hs rfl rfl rfl (op_call (F := 14) hs none (v := .bool false) rfl rfl rfl rfl (Try.call14 _) (meets_c f b false hf (show b < 4294967296 by omega) (Bool.eq_false_iff.2 hq72)) rfl fun ac w hs => ?_))
            refine lstep (wpO_in hs rfl rfl rfl (op_un hs none (v := .bool true) rfl rfl rfl (fun _ => rfl) rfl fun ac hs => ?_))
            refine lstep (wpO_in hs rfl rfl rfl (op_pickT hs none rfl rfl rfl rfl rfl fun ac hs => ?_))
            refine lstep (wpO_plain rfl (op_pickF hs none rfl rfl rfl rfl rfl fun ac hs => ?_))
            refine wpList_nil ?_
            refine then_n ?_
            refine wp_cond_true (hs.ev rfl) ?_
            refine wp_seq ?_
            refine wp_region_lit ?_
            refine lstep (wpO_plain rfl (op_assign hs none rfl rfl rfl rfl fun ac hs => ?_))
            refine wpList_nil ?_
            refine then_n ?_
            refine wp_ret ?_
            refine then_r ?_
            exact bodyPost_ret (res1 rfl (rv_t hs rfl)) hs.defers ⟨absurd (mts_mono hle hq71) hq72, hs.below⟩
        · skip
          refine wp_region_lit ?_
          refine lstep (wpO_plain rfl (op_move hs none rfl rfl rfl rfl fun ac hs => ?_))
          obtain ⟨wk104, hwk104, lwk104⟩ : ∃ z0, wrk a = z0 ∧ z0 < 2 ^ 256 := ⟨_, rfl, wrk_lt _⟩
          refine lstep (wpO_plain rfl (op_call (F := 16) hs none (v := W wk104) rfl rfl rfl rfl (Try.call16 _) (work_c a wk104 (show a < 4294967296 by omega) hwk104) rfl fun ac w hs => ?_))
          refine lstep (wpO_plain rfl (op_move hs none rfl rfl rfl rfl fun ac hs => ?_))
          obtain ⟨wk105, hwk105, lwk105⟩ : ∃ z0, wrk b = z0 ∧ z0 < 2 ^ 256 := ⟨_, rfl, wrk_lt _⟩
          refine lstep (wpO_plain rfl (op_call (F := 16) hs none (v := W wk105) rfl rfl rfl rfl (Try.call16 _) (work_c b wk105 (show b < 4294967296 by omega) hwk105) rfl fun ac w hs => ?_))
          refine lstep (wpO_plain rfl (op_call (F := 18) hs none (v := .int .i64 (cmpZ wk104 wk105)) rfl rfl rfl rfl (Try.call18 _) (fun w => cmp_any w wk104 wk105 lwk104 lwk105) rfl fun ac w hs => ?_))
          refine lstep (wpO_plain rfl (op_bin hs none (v := .bool false) rfl rfl rfl rfl (fun _ => rfl) (fun w => dF (Nat.not_lt.2 (by rw [← hwk104, ← hwk105]; exact wrk_mono na hle)) (bin_cmp_lss wk104 wk105 w)) rfl fun ac hs => ?_))
          refine lstep (wpO_plain rfl (op_move hs none rfl rfl rfl rfl fun ac hs => ?_))
          refine lstep (wpO_in hs rfl rfl rfl (op_load hs none 0 (v := At .u8 32 f) rfl rfl rfl rfl Try.isAgg32 Try.sizeOf32 ldv_tab rfl fun ac hs => ?_))
          refine lstep (wpO_in hs rfl rfl rfl (op_move hs none rfl rfl rfl rfl fun ac hs => ?_))
          refine lstep (wpO_in hs rfl rfl rfl (op_call (F := 14) hs none (v := .bool false) rfl rfl rfl rfl (Try.call14 _) (meets_c f a false hf (show a < 4294967296 by omega) (Bool.eq_false_iff.2 hq71)) rfl fun ac w hs => ?_))
          refine lstep (wpO_in hs rfl rfl rfl (op_move hs none rfl rfl rfl rfl fun ac hs => ?_))
          refine lstep (wpO_out hs none rfl rfl (.inl rfl) rfl rfl fun ac hs => ?_)
          refine lstep (wpO_out hs none rfl rfl (.inl rfl) rfl rfl fun ac hs => ?_)
          refine lstep (wpO_out hs none rfl rfl (.inl rfl) rfl rfl fun ac hs => ?_)
          refine lstep (wpO_out hs none rfl rfl (.inl rfl) rfl rfl fun ac hs => ?_)
          refine lstep (wpO_in hs rfl rfl rfl (op_pickF hs none rfl rfl rfl rfl rfl fun ac hs => ?_))
          refine lstep (wpO_plain rfl (op_pickF hs none rfl rfl rfl rfl rfl fun ac hs => ?_))
          refine wpList_nil ?_
          refine then_n ?_
          refine wp_cond_false (hs.ev rfl) ?_
          refine wp_skip ?_
          refine then_n ?_
          refine wp_seq ?_
          refine wp_region_lit ?_
          refine lstep (wpO_plain rfl (op_load hs none 2 (v := W x4) rfl rfl rfl rfl Try.isAgg25 Try.sizeOf25 rfl rfl fun ac hs => ?_))
          refine lstep (wpO_plain rfl (op_build hs none (qs := [(0, .int .u64 1)]) (v := .agg #[.int .u64 1, .int .u64 0, .int .u64 0, .int .u64 0]) rfl rfl rfl rfl (fun _ => by kernel_rfl) rfl fun ac hs => ?_))
          obtain ⟨s107, hs107, ls107⟩ : ∃ z0, (x4 + 1) % 2 ^ 256 = z0 ∧ z0 < 2 ^ 256 := ⟨_, rfl, Nat.mod_lt _ (Nat.two_pow_pos 256)⟩
          obtain ⟨c108, hc108⟩ : ∃ z0, (x4 + 1) / 2 ^ 256 = z0 := ⟨_, rfl⟩
          refine lstep (wpO_plain rfl (op_call (F := 21) hs none (v := .tuple #[W s107, .int .u64 ((c108 : Nat) : Int)]) rfl rfl rfl rfl (Try.call21 _) (fun w => add_at w x4 1 s107 c108 lx4 (by decide) hs107 hc108) rfl fun ac w hs => ?_))
          refine lstep (wpO_plain rfl (op_move hs none rfl rfl rfl rfl fun ac hs => ?_))
          refine lstep (wpO_plain rfl (op_extract hs none rfl rfl rfl rfl rfl fun ac hs => ?_))
          refine lstep (wpO_plain rfl (op_extract hs none rfl rfl rfl rfl rfl fun ac hs => ?_))
          refine lstep (wpO_plain rfl (op_alloc hs none none (cs := [.int .u64 0, .int .u64 0, .int .u64 0, .int .u64 0]) rfl rfl Try.zeroValue25 (by kernel_rfl) rfl rfl fun g109 ac w hs => ?_))
          refine lstep (wpO_plain rfl (op_store hs 3 (vs := (Wl s107)) rfl rfl rfl rfl rfl Try.sizeOf25 rfl rfl rfl rfl rfl fun w hs => ?_))
          refine lstep (wpO_plain rfl (op_assign hs none rfl rfl rfl rfl fun ac hs => ?_))
          refine wpList_nil ?_
          refine then_n ?_
          refine wp_seq ?_
          refine wp_seq ?_
          refine wp_region_lit ?_
          refine lstep (wpO_plain rfl (op_move hs none rfl rfl rfl rfl fun ac hs => ?_))
          refine lstep (wpO_plain rfl (op_bin hs none (v := .bool false) rfl rfl rfl rfl (fun _ => rfl) (fun w => dF (by have := tgt_lt b; rw [hx4] at this; omega) (bin_neqN (x := c108) (y := 0) w)) rfl fun ac hs => ?_))
          refine wpList_nil ?_
          refine then_n ?_
          refine wp_cond_false (hs.ev rfl) ?_
          refine wp_skip ?_
          refine then_n ?_
          refine wp_seq ?_
          replace hs : St 139 w0 [(1, true, .int .u32 ((b : Nat) : Int)), (6, true, .bool false), (11, true, .pointer (some ⟨g109, 0, none⟩))] [(true, g1, 32, (tab .u8 32 f)), (true, g3, 25, (Wl x2)), (true, g5, 25, (Wl x4)), (true, g109, 25, (Wl s107))] ac w := hs.re ⟨rfl, rfl, rfl, trivial⟩
          obtain ⟨wk110, hwk110, lwk110⟩ : ∃ z0, wrk b = z0 ∧ z0 < 2 ^ 256 := ⟨_, rfl, wrk_lt _⟩
          obtain ⟨lo111, hlo111, llo111⟩ : ∃ z0, wk110 * s107 % 2 ^ 256 = z0 ∧ z0 < 2 ^ 256 := ⟨_, rfl, Nat.mod_lt _ (Nat.two_pow_pos 256)⟩
          obtain ⟨hi112, hhi112, lhi112⟩ : ∃ z0, wk110 * s107 / 2 ^ 256 = z0 ∧ z0 < 2 ^ 256 := ⟨_, rfl, mul_hi lwk110 ls107⟩
          refine region_inv [([], [1, 3, 4, 5, 6, 9, 10]), ([0], [3, 4, 5, 6, 9, 10]), ([], [3, 4, 5, 6, 9, 10]), ([0, 1, 2], [4, 5, 6, 9, 10]), ([0, 1, 2, 3], [5, 6, 9, 10]), ([0, 1, 2, 3, 4], [9, 10]), ([0, 1, 2, 3, 4], [10]), ([], [9, 10]), ([], [9, 10]), ([0, 1, 2, 3, 4, 5, 7, 8], [10]), ([0, 1, 2, 3, 4, 5, 6, 7, 8, 9], [])] (fun L ac w => ∃ (g113 : Nat) (g114 : Nat), St 139 w0 [(86, L 0, .int .u32 ((b : Nat) : Int)), (87, L 1, W wk110), (88, L 2, W s107), (89, L 3, .tuple #[W lo111, W hi112]), (85, L 4, .tuple #[W lo111, W hi112]), (90, L 5, W lo111), (91, L 6, W hi112), (13, L 7, .pointer (some ⟨g113, 0, none⟩)), (14, L 8, .pointer (some ⟨g114, 0, none⟩)), (1, true, .int .u32 ((b : Nat) : Int)), (6, true, .bool false), (11, true, .pointer (some ⟨g109, 0, none⟩))] [(true, g1, 32, (tab .u8 32 f)), (true, g3, 25, (Wl x2)), (true, g5, 25, (Wl x4)), (true, g109, 25, (Wl s107)), (L 7, g113, 25, (cond (L 9) (Wl lo111) [.int .u64 0, .int .u64 0, .int .u64 0, .int .u64 0])), (L 8, g114, 25, (cond (L 10) (Wl hi112) [.int .u64 0, .int .u64 0, .int .u64 0, .int .u64 0]))] ac w) (by kernel_rfl) (by kernel_rfl) ?_ ?_ ?_
          · exact ⟨0, 0, hs.drew.skip.skip.skip.skip.skip.skip.skip.skip.skip.pad.pad⟩
          · refine ⟨?_, ?_, ?_, ?_, ?_, ?_, ?_, ?_, ?_, ?_, ?_, trivial⟩
            · intro L ac w hJ
              obtain ⟨g113, g114, hs⟩ := hJ
              refine wpO_plain rfl (op_move hs (some 0) rfl rfl rfl rfl fun ac hs => ?_)
              exact ⟨g113, g114, hs⟩
            · intro L ac w hJ
              obtain ⟨g113, g114, hs⟩ := hJ
              refine wpO_plain rfl (op_call (F := 16) hs (some 1) (v := W wk110) rfl rfl rfl rfl (Try.call16 _) (work_c b wk110 (show b < 4294967296 by omega) hwk110) rfl fun ac w hs => ?_)
              exact ⟨g113, g114, hs⟩
            · intro L ac w hJ
              obtain ⟨g113, g114, hs⟩ := hJ
              refine wpO_plain rfl (op_load hs (some 2) 3 (v := W s107) rfl rfl rfl rfl Try.isAgg25 Try.sizeOf25 rfl rfl fun ac hs => ?_)
              exact ⟨g113, g114, hs⟩
            · intro L ac w hJ
              obtain ⟨g113, g114, hs⟩ := hJ
              refine wpO_plain rfl (op_call (F := 22) hs (some 3) (v := .tuple #[W lo111, W hi112]) rfl rfl rfl rfl (Try.call22 _) (fun w => wmul_at w wk110 s107 lo111 hi112 lwk110 ls107 hlo111 hhi112) rfl fun ac w hs => ?_)
              exact ⟨g113, g114, hs⟩
            · intro L ac w hJ
              obtain ⟨g113, g114, hs⟩ := hJ
              refine wpO_plain rfl (op_move hs (some 4) rfl rfl rfl rfl fun ac hs => ?_)
              exact ⟨g113, g114, hs⟩
            · intro L ac w hJ
              obtain ⟨g113, g114, hs⟩ := hJ
              refine wpO_plain rfl (op_extract hs (some 5) rfl rfl rfl rfl rfl fun ac hs => ?_)
              exact ⟨g113, g114, hs⟩
            · intro L ac w hJ
              obtain ⟨g113, g114, hs⟩ := hJ
              refine wpO_plain rfl (op_extract hs (some 6) rfl rfl rfl rfl rfl fun ac hs => ?_)
              exact ⟨g113, g114, hs⟩
            · intro L ac w hJ
              obtain ⟨g113, g114, hs⟩ := hJ
              refine wpO_plain rfl (op_alloc hs (some 7) (some 4) (cs := [.int .u64 0, .int .u64 0, .int .u64 0, .int .u64 0]) rfl rfl Try.zeroValue25 (by kernel_rfl) rfl rfl fun g113 ac w hs => ?_)
              exact ⟨g113, g114, hs⟩
            · intro L ac w hJ
              obtain ⟨g113, g114, hs⟩ := hJ
              refine wpO_plain rfl (op_alloc hs (some 8) (some 5) (cs := [.int .u64 0, .int .u64 0, .int .u64 0, .int .u64 0]) rfl rfl Try.zeroValue25 (by kernel_rfl) rfl rfl fun g114 ac w hs => ?_)
              exact ⟨g113, g114, hs⟩
            · intro L ac w hJ
              obtain ⟨g113, g114, hs⟩ := hJ
              refine wpO_plain rfl (op_store hs 4 (vs := (Wl lo111)) rfl rfl rfl rfl rfl Try.sizeOf25 rfl rfl rfl rfl rfl fun w hs => ?_)
              exact ⟨g113, g114, hs⟩
            · intro L ac w hJ
              obtain ⟨g113, g114, hs⟩ := hJ
              refine wpO_plain rfl (op_store hs 5 (vs := (Wl hi112)) rfl rfl rfl rfl rfl Try.sizeOf25 rfl rfl rfl rfl rfl fun w hs => ?_)
              exact ⟨g113, g114, hs⟩
          intro ac w hJ
          obtain ⟨g113, g114, hs⟩ := hJ
          replace hs : St 139 w0 [(86, true, .int .u32 ((b : Nat) : Int)), (87, true, W wk110), (88, true, W s107), (89, true, .tuple #[W lo111, W hi112]), (85, true, .tuple #[W lo111, W hi112]), (90, true, W lo111), (91, true, W hi112), (13, true, .pointer (some ⟨g113, 0, none⟩)), (14, true, .pointer (some ⟨g114, 0, none⟩)), (1, true, .int .u32 ((b : Nat) : Int)), (6, true, .bool false), (11, true, .pointer (some ⟨g109, 0, none⟩))] [(true, g1, 32, (tab .u8 32 f)), (true, g3, 25, (Wl x2)), (true, g5, 25, (Wl x4)), (true, g109, 25, (Wl s107)), (true, g113, 25, (Wl lo111)), (true, g114, 25, (Wl hi112))] ac w := hs
          have hfit : hi112 = 0 ∨ hi112 = 1 ∧ lo111 = 0 := wrk_fits nb' (by rw [hx4]; exact hs107) hwk110 hlo111 hhi112
          refine then_n ?_
          refine wp_seq ?_
          by_cases hq115 : hi112 = 0
          · skip
            refine wp_region_lit ?_
            refine lstep (wpO_plain rfl (op_load hs none 5 (v := W hi112) rfl rfl rfl rfl Try.isAgg25 Try.sizeOf25 rfl rfl fun ac hs => ?_))
            refine lstep (wpO_plain rfl (op_build hs none (qs := []) (v := .agg #[.int .u64 0, .int .u64 0, .int .u64 0, .int .u64 0]) rfl rfl rfl rfl (fun _ => by kernel_rfl) rfl fun ac hs => ?_))
            refine lstep (wpO_plain rfl (op_bin hs none (v := .bool true) rfl rfl rfl rfl (fun w => run_eqGuard_agg w .eql 25 _ _ _ _ Try.eqGuardType25) (eqlW hi112 0 lhi112 (by decide) true (decide_eq_true hq115)) rfl fun ac hs => ?_))
            refine lstep (wpO_plain rfl (op_move hs none rfl rfl rfl rfl fun ac hs => ?_))
            refine lstep (wpO_out hs none rfl rfl (.inl rfl) rfl rfl fun ac hs => ?_)
            refine lstep (wpO_out hs none rfl rfl (.inl rfl) rfl rfl fun ac hs => ?_)
            refine lstep (wpO_out hs none rfl rfl (.inl rfl) rfl rfl fun ac hs => ?_)
            refine lstep (wpO_out hs none rfl rfl (.inl rfl) rfl rfl fun ac hs => ?_)
            refine lstep (wpO_out hs none rfl rfl (.inr rfl) rfl rfl fun ac hs => ?_)
            refine lstep (wpO_out hs none rfl rfl (.inr rfl) rfl rfl fun ac hs => ?_)
            refine lstep (wpO_out hs none rfl rfl (.inr rfl) rfl rfl fun ac hs => ?_)
            refine lstep (wpO_out hs none rfl rfl (.inl rfl) rfl rfl fun ac hs => ?_)
            refine lstep (wpO_plain rfl (op_pickT hs none rfl rfl rfl rfl rfl fun ac hs => ?_))
            refine lstep (wpO_plain rfl (op_assign hs none rfl rfl rfl rfl fun ac hs => ?_))
            refine wpList_nil ?_
            refine then_n ?_
            refine wp_seq ?_
            refine wp_region_lit ?_
            refine lstep (wpO_plain rfl (op_move hs none rfl rfl rfl rfl fun ac hs => ?_))
            obtain ⟨wk116, hwk116, lwk116⟩ : ∃ z0, wrk b = z0 ∧ z0 < 2 ^ 256 := ⟨_, rfl, wrk_lt _⟩
            refine lstep (wpO_plain rfl (op_call (F := 16) hs none (v := W wk116) rfl rfl rfl rfl (Try.call16 _) (work_c b wk116 (show b < 4294967296 by omega) hwk116) rfl fun ac w hs => ?_))
            refine lstep (wpO_plain rfl (op_build hs none (qs := [(0, .int .u64 1)]) (v := .agg #[.int .u64 1, .int .u64 0, .int .u64 0, .int .u64 0]) rfl rfl rfl rfl (fun _ => by kernel_rfl) rfl fun ac hs => ?_))
            obtain ⟨s117, hs117, ls117⟩ : ∃ z0, (wk116 + 1) % 2 ^ 256 = z0 ∧ z0 < 2 ^ 256 := ⟨_, rfl, Nat.mod_lt _ (Nat.two_pow_pos 256)⟩
            obtain ⟨c118, hc118⟩ : ∃ z0, (wk116 + 1) / 2 ^ 256 = z0 := ⟨_, rfl⟩
            refine lstep (wpO_plain rfl (op_call (F := 21) hs none (v := .tuple #[W s117, .int .u64 ((c118 : Nat) : Int)]) rfl rfl rfl rfl (Try.call21 _) (fun w => add_at w wk116 1 s117 c118 lwk116 (by decide) hs117 hc118) rfl fun ac w hs => ?_))
            refine lstep (wpO_plain rfl (op_move hs none rfl rfl rfl rfl fun ac hs => ?_))
            refine lstep (wpO_plain rfl (op_extract hs none rfl rfl rfl rfl rfl fun ac hs => ?_))
            refine lstep (wpO_plain rfl (op_extract hs none rfl rfl rfl rfl rfl fun ac hs => ?_))
            refine lstep (wpO_plain rfl (op_alloc hs none none (cs := [.int .u64 0, .int .u64 0, .int .u64 0, .int .u64 0]) rfl rfl Try.zeroValue25 (by kernel_rfl) rfl rfl fun g119 ac w hs => ?_))
            refine lstep (wpO_plain rfl (op_store hs 6 (vs := (Wl s117)) rfl rfl rfl rfl rfl Try.sizeOf25 rfl rfl rfl rfl rfl fun w hs => ?_))
            refine lstep (wpO_plain rfl (op_assign hs none rfl rfl rfl rfl fun ac hs => ?_))
            refine wpList_nil ?_
            refine then_n ?_
            refine wp_seq ?_
            refine wp_region_lit ?_
            refine lstep (wpO_plain rfl (op_load hs none 6 (v := W s117) rfl rfl rfl rfl Try.isAgg25 Try.sizeOf25 rfl rfl fun ac hs => ?_))
            refine lstep (wpO_plain rfl (op_load hs none 3 (v := W s107) rfl rfl rfl rfl Try.isAgg25 Try.sizeOf25 rfl rfl fun ac hs => ?_))
            obtain ⟨lo120, hlo120, llo120⟩ : ∃ z0, s117 * s107 % 2 ^ 256 = z0 ∧ z0 < 2 ^ 256 := ⟨_, rfl, Nat.mod_lt _ (Nat.two_pow_pos 256)⟩
            obtain ⟨hi121, hhi121, lhi121⟩ : ∃ z0, s117 * s107 / 2 ^ 256 = z0 ∧ z0 < 2 ^ 256 := ⟨_, rfl, mul_hi ls117 ls107⟩
            refine lstep (wpO_plain rfl (op_call (F := 22) hs none (v := .tuple #[W lo120, W hi121]) rfl rfl rfl rfl (Try.call22 _) (fun w => wmul_at w s117 s107 lo120 hi121 ls117 ls107 hlo120 hhi121) rfl fun ac w hs => ?_))
            refine lstep (wpO_plain rfl (op_move hs none rfl rfl rfl rfl fun ac hs => ?_))
            refine lstep (wpO_plain rfl (op_extract hs none rfl rfl rfl rfl rfl fun ac hs => ?_))
            refine lstep (wpO_plain rfl (op_extract hs none rfl rfl rfl rfl rfl fun ac hs => ?_))
            refine lstep (wpO_plain rfl (op_store hs 4 (vs := (Wl lo120)) rfl rfl rfl rfl rfl Try.sizeOf25 rfl rfl rfl rfl rfl fun w hs => ?_))
            refine lstep (wpO_plain rfl (op_store hs 5 (vs := (Wl hi121)) rfl rfl rfl rfl rfl Try.sizeOf25 rfl rfl rfl rfl rfl fun w hs => ?_))
            refine wpList_nil ?_
            have habv : 1 < hi121 ∨ hi121 = 1 ∧ lo120 ≠ 0 := wrk_above nb' (by rw [hx4]; exact hs107) hwk116 hs117 hlo120 hhi121
            refine then_n ?_
            refine wp_seq ?_
            by_cases hq122 : 1 < hi121
            · skip
              refine wp_region_lit ?_
              refine lstep (wpO_plain rfl (op_load hs none 5 (v := W hi121) rfl rfl rfl rfl Try.isAgg25 Try.sizeOf25 rfl rfl fun ac hs => ?_))
              refine lstep (wpO_plain rfl (op_build hs none (qs := [(0, .int .u64 1)]) (v := .agg #[.int .u64 1, .int .u64 0, .int .u64 0, .int .u64 0]) rfl rfl rfl rfl (fun _ => by kernel_rfl) rfl fun ac hs => ?_))
              refine lstep (wpO_plain rfl (op_call (F := 18) hs none (v := .int .i64 (cmpZ hi121 1)) rfl rfl rfl rfl (Try.call18 _) (fun w => cmp_any w hi121 1 lhi121 (by decide)) rfl fun ac w hs => ?_))
              refine lstep (wpO_plain rfl (op_bin hs none (v := .bool true) rfl rfl rfl rfl (fun _ => rfl) (fun w => dT hq122 (bin_cmp_gtr hi121 1 w)) rfl fun ac hs => ?_))
              refine lstep (wpO_plain rfl (op_move hs none rfl rfl rfl rfl fun ac hs => ?_))
              refine lstep (wpO_out hs none rfl rfl (.inl rfl) rfl rfl fun ac hs => ?_)
              refine lstep (wpO_out hs none rfl rfl (.inl rfl) rfl rfl fun ac hs => ?_)
              refine lstep (wpO_out hs none rfl rfl (.inl rfl) rfl rfl fun ac hs => ?_)
              refine lstep (wpO_out hs none rfl rfl (.inl rfl) rfl rfl fun ac hs => ?_)
              refine lstep (wpO_out hs none rfl rfl (.inr rfl) rfl rfl fun ac hs => ?_)
              refine lstep (wpO_out hs none rfl rfl (.inr rfl) rfl rfl fun ac hs => ?_)
              refine lstep (wpO_out hs none rfl rfl (.inr rfl) rfl rfl fun ac hs => ?_)
              refine lstep (wpO_out hs none rfl rfl (.inl rfl) rfl rfl fun ac hs => ?_)
              refine lstep (wpO_plain rfl (op_pickT hs none rfl rfl rfl rfl rfl fun ac hs => ?_))
              refine lstep (wpO_plain rfl (op_assign hs none rfl rfl rfl rfl fun ac hs => ?_))
              refine wpList_nil ?_
              refine then_n ?_
              refine wp_seq ?_
              refine wp_region_lit ?_
              refine lstep (wpO_plain rfl (op_call (F := 11) hs none (v := .bool true) rfl rfl rfl rfl (Try.call11 _) alive_c rfl fun ac w hs => ?_))
              refine lstep (wpO_plain rfl (op_move hs none rfl rfl rfl rfl fun ac hs => ?_))
              refine lstep (wpO_in hs rfl rfl rfl (op_move hs none rfl rfl rfl rfl fun ac hs => ?_))
              refine lstep (wpO_plain rfl (op_pickT hs none rfl rfl rfl rfl rfl fun ac hs => ?_))
              refine lstep (wpO_plain rfl (op_move hs none rfl rfl rfl rfl fun ac hs => ?_))
              refine lstep (wpO_in hs rfl rfl rfl (op_move hs none rfl rfl rfl rfl fun ac hs => ?_))
              refine lstep (wpO_plain rfl (op_pickT hs none rfl rfl rfl rfl rfl fun ac hs => ?_))
              refine lstep (wpO_plain rfl (op_assign hs none rfl rfl rfl rfl fun ac hs => ?_))
              refine wpList_nil ?_
              refine then_n ?_
              refine wp_ret ?_
              exact bodyPost_ret (res1 rfl (rv_t hs rfl)) hs.defers ⟨rfl, hs.below⟩
            · skip
              refine wp_region_lit ?_
              refine lstep (wpO_plain rfl (op_load hs none 5 (v := W hi121) rfl rfl rfl rfl Try.isAgg25 Try.sizeOf25 rfl rfl fun ac hs => ?_))
              refine lstep (wpO_plain rfl (op_build hs none (qs := [(0, .int .u64 1)]) (v := .agg #[.int .u64 1, .int .u64 0, .int .u64 0, .int .u64 0]) rfl rfl rfl rfl (fun _ => by kernel_rfl) rfl fun ac hs => ?_))
              refine lstep (wpO_plain rfl (op_call (F := 18) hs none (v := .int .i64 (cmpZ hi121 1)) rfl rfl rfl rfl (Try.call18 _) (fun w => cmp_any w hi121 1 lhi121 (by decide)) rfl fun ac w hs => ?_))
              refine lstep (wpO_plain rfl (op_bin hs none (v := .bool false) rfl rfl rfl rfl (fun _ => rfl) (fun w => dF hq122 (bin_cmp_gtr hi121 1 w)) rfl fun ac hs => ?_))
              refine lstep (wpO_plain rfl (op_move hs none rfl rfl rfl rfl fun ac hs => ?_))
              refine lstep (wpO_in hs rfl rfl rfl (op_load hs none 5 (v := W hi121) rfl rfl rfl rfl Try.isAgg25 Try.sizeOf25 rfl rfl fun ac hs => ?_))
              refine lstep (wpO_in hs rfl rfl rfl (op_build hs none (qs := [(0, .int .u64 1)]) (v := .agg #[.int .u64 1, .int .u64 0, .int .u64 0, .int .u64 0]) rfl rfl rfl rfl (fun _ => by kernel_rfl) rfl fun ac hs => ?_))
              refine lstep (wpO_in hs rfl rfl rfl (op_bin hs none (v := .bool true) rfl rfl rfl rfl (fun w => run_eqGuard_agg w .eql 25 _ _ _ _ Try.eqGuardType25) (eqlW hi121 1 lhi121 (by decide) true (decide_eq_true (habv.resolve_left hq122).1)) rfl fun ac hs => ?_))
              refine lstep (wpO_in hs rfl rfl rfl (op_move hs none rfl rfl rfl rfl fun ac hs => ?_))
              refine lstep (wpO_in hs rfl rfl rfl (op_load hs none 4 (v := W lo120) rfl rfl rfl rfl Try.isAgg25 Try.sizeOf25 rfl rfl fun ac hs => ?_))
              refine lstep (wpO_in hs rfl rfl rfl (op_build hs none (qs := []) (v := .agg #[.int .u64 0, .int .u64 0, .int .u64 0, .int .u64 0]) rfl rfl rfl rfl (fun _ => by kernel_rfl) rfl fun ac hs => ?_))
              refine lstep (wpO_in hs rfl rfl rfl (op_bin hs none (v := .bool true) rfl rfl rfl rfl (fun w => run_eqGuard_agg w .neq 25 _ _ _ _ Try.eqGuardType25) (neqW lo120 0 llo120 (by decide) true (decide_eq_true (habv.resolve_left hq122).2)) rfl fun ac hs => ?_))
              refine lstep (wpO_in hs rfl rfl rfl (op_pickT hs none rfl rfl rfl rfl rfl fun ac hs => ?_))
              refine lstep (wpO_plain rfl (op_pickF hs none rfl rfl rfl rfl rfl fun ac hs => ?_))
              refine lstep (wpO_plain rfl (op_assign hs none rfl rfl rfl rfl fun ac hs => ?_))
              refine wpList_nil ?_
              refine then_n ?_
              refine wp_seq ?_
              refine wp_region_lit ?_
              refine lstep (wpO_plain rfl (op_call (F := 11) hs none (v := .bool true) rfl rfl rfl rfl (Try.call11 _) alive_c rfl fun ac w hs => ?_))
              refine lstep (wpO_plain rfl (op_move hs none rfl rfl rfl rfl fun ac hs => ?_))
              refine lstep (wpO_in hs rfl rfl rfl (op_move hs none rfl rfl rfl rfl fun ac hs => ?_))
              refine lstep (wpO_plain rfl (op_pickT hs none rfl rfl rfl rfl rfl fun ac hs => ?_))
              refine lstep (wpO_plain rfl (op_move hs none rfl rfl rfl rfl fun ac hs => ?_))
              refine lstep (wpO_in hs rfl rfl rfl (op_move hs none rfl rfl rfl rfl fun ac hs => ?_))
              refine lstep (wpO_plain rfl (op_pickT hs none rfl rfl rfl rfl rfl fun ac hs => ?_))
              refine lstep (wpO_plain rfl (op_assign hs none rfl rfl rfl rfl fun ac hs => ?_))
              refine wpList_nil ?_
              refine then_n ?_
              refine wp_ret ?_
              exact bodyPost_ret (res1 rfl (rv_t hs rfl)) hs.defers ⟨rfl, hs.below⟩
          · skip
            refine wp_region_lit ?_
            refine lstep (wpO_plain rfl (op_load hs none 5 (v := W hi112) rfl rfl rfl rfl Try.isAgg25 Try.sizeOf25 rfl rfl fun ac hs => ?_))
            refine lstep (wpO_plain rfl (op_build hs none (qs := []) (v := .agg #[.int .u64 0, .int .u64 0, .int .u64 0, .int .u64 0]) rfl rfl rfl rfl (fun _ => by kernel_rfl) rfl fun ac hs => ?_))
            refine lstep (wpO_plain rfl (op_bin hs none (v := .bool false) rfl rfl rfl rfl (fun w => run_eqGuard_agg w .eql 25 _ _ _ _ Try.eqGuardType25) (eqlW hi112 0 lhi112 (by decide) false (decide_eq_false hq115)) rfl fun ac hs => ?_))
            refine lstep (wpO_plain rfl (op_move hs none rfl rfl rfl rfl fun ac hs => ?_))
            refine lstep (wpO_in hs rfl rfl rfl (op_load hs none 5 (v := W hi112) rfl rfl rfl rfl Try.isAgg25 Try.sizeOf25 rfl rfl fun ac hs => ?_))
            refine lstep (wpO_in hs rfl rfl rfl (op_build hs none (qs := [(0, .int .u64 1)]) (v := .agg #[.int .u64 1, .int .u64 0, .int .u64 0, .int .u64 0]) rfl rfl rfl rfl (fun _ => by kernel_rfl) rfl fun ac hs => ?_))
            refine lstep (wpO_in hs rfl rfl rfl (op_bin hs none (v := .bool true) rfl rfl rfl rfl (fun w => run_eqGuard_agg w .eql 25 _ _ _ _ Try.eqGuardType25) (eqlW hi112 1 lhi112 (by decide) true (decide_eq_true (hfit.resolve_left hq115).1)) rfl fun ac hs => ?_))
            refine lstep (wpO_in hs rfl rfl rfl (op_move hs none rfl rfl rfl rfl fun ac hs => ?_))
            refine lstep (wpO_in hs rfl rfl rfl (op_load hs none 4 (v := W lo111) rfl rfl rfl rfl Try.isAgg25 Try.sizeOf25 rfl rfl fun ac hs => ?_))
            refine lstep (wpO_in hs rfl rfl rfl (op_build hs none (qs := []) (v := .agg #[.int .u64 0, .int .u64 0, .int .u64 0, .int .u64 0]) rfl rfl rfl rfl (fun _ => by kernel_rfl) rfl fun ac hs => ?_))
            refine lstep (wpO_in hs rfl rfl rfl (op_bin hs none (v := .bool true) rfl rfl rfl rfl (fun w => run_eqGuard_agg w .eql 25 _ _ _ _ Try.eqGuardType25) (eqlW lo111 0 llo111 (by decide) true (decide_eq_true (hfit.resolve_left hq115).2)) rfl fun ac hs => ?_))
            refine lstep (wpO_in hs rfl rfl rfl (op_pickT hs none rfl rfl rfl rfl rfl fun ac hs => ?_))
            refine lstep (wpO_plain rfl (op_pickF hs none rfl rfl rfl rfl rfl fun ac hs => ?_))
            refine lstep (wpO_plain rfl (op_assign hs none rfl rfl rfl rfl fun ac hs => ?_))
            refine wpList_nil ?_
            refine then_n ?_
            refine wp_seq ?_
            refine wp_region_lit ?_
            refine lstep (wpO_plain rfl (op_move hs none rfl rfl rfl rfl fun ac hs => ?_))
            obtain ⟨wk123, hwk123, lwk123⟩ : ∃ z0, wrk b = z0 ∧ z0 < 2 ^ 256 := ⟨_, rfl, wrk_lt _⟩
            refine lstep (wpO_plain rfl (op_call (F := 16) hs none (v := W wk123) rfl rfl rfl rfl (Try.call16 _) (work_c b wk123 (show b < 4294967296 by omega) hwk123) rfl fun ac w hs => ?_))
            refine lstep (wpO_plain rfl (op_build hs none (qs := [(0, .int .u64 1)]) (v := .agg #[.int .u64 1, .int .u64 0, .int .u64 0, .int .u64 0]) rfl rfl rfl rfl (fun _ => by kernel_rfl) rfl fun ac hs => ?_))
            obtain ⟨s124, hs124, ls124⟩ : ∃ z0, (wk123 + 1) % 2 ^ 256 = z0 ∧ z0 < 2 ^ 256 := ⟨_, rfl, Nat.mod_lt _ (Nat.two_pow_pos 256)⟩
            obtain ⟨c125, hc125⟩ : ∃ z0, (wk123 + 1) / 2 ^ 256 = z0 := ⟨_, rfl⟩
            refine lstep (wpO_plain rfl (op_call (F := 21) hs none (v := .tuple #[W s124, .int .u64 ((c125 : Nat) : Int)]) rfl rfl rfl rfl (Try.call21 _) (fun w => add_at w wk123 1 s124 c125 lwk123 (by decide) hs124 hc125) rfl fun ac w hs => ?_))
            refine lstep (wpO_plain rfl (op_move hs none rfl rfl rfl rfl fun ac hs => ?_))
            refine lstep (wpO_plain rfl (op_extract hs none rfl rfl rfl rfl rfl fun ac hs => ?_))
            refine lstep (wpO_plain rfl (op_extract hs none rfl rfl rfl rfl rfl fun ac hs => ?_))
            refine lstep (wpO_plain rfl (op_alloc hs none none (cs := [.int .u64 0, .int .u64 0, .int .u64 0, .int .u64 0]) rfl rfl Try.zeroValue25 (by kernel_rfl) rfl rfl fun g126 ac w hs => ?_))
            refine lstep (wpO_plain rfl (op_store hs 6 (vs := (Wl s124)) rfl rfl rfl rfl rfl Try.sizeOf25 rfl rfl rfl rfl rfl fun w hs => ?_))
            refine lstep (wpO_plain rfl (op_assign hs none rfl rfl rfl rfl fun ac hs => ?_))
            refine wpList_nil ?_
            refine then_n ?_
            refine wp_seq ?_
            refine wp_region_lit ?_
            refine lstep (wpO_plain rfl (op_load hs none 6 (v := W s124) rfl rfl rfl rfl Try.isAgg25 Try.sizeOf25 rfl rfl fun ac hs => ?_))
            refine lstep (wpO_plain rfl (op_load hs none 3 (v := W s107) rfl rfl rfl rfl Try.isAgg25 Try.sizeOf25 rfl rfl fun ac hs => ?_))
            obtain ⟨lo127, hlo127, llo127⟩ : ∃ z0, s124 * s107 % 2 ^ 256 = z0 ∧ z0 < 2 ^ 256 := ⟨_, rfl, Nat.mod_lt _ (Nat.two_pow_pos 256)⟩
            obtain ⟨hi128, hhi128, lhi128⟩ : ∃ z0, s124 * s107 / 2 ^ 256 = z0 ∧ z0 < 2 ^ 256 := ⟨_, rfl, mul_hi ls124 ls107⟩
            refine lstep (wpO_plain rfl (op_call (F := 22) hs none (v := .tuple #[W lo127, W hi128]) rfl rfl rfl rfl (Try.call22 _) (fun w => wmul_at w s124 s107 lo127 hi128 ls124 ls107 hlo127 hhi128) rfl fun ac w hs => ?_))
            refine lstep (wpO_plain rfl (op_move hs none rfl rfl rfl rfl fun ac hs => ?_))
            refine lstep (wpO_plain rfl (op_extract hs none rfl rfl rfl rfl rfl fun ac hs => ?_))
            refine lstep (wpO_plain rfl (op_extract hs none rfl rfl rfl rfl rfl fun ac hs => ?_))
            refine lstep (wpO_plain rfl (op_store hs 4 (vs := (Wl lo127)) rfl rfl rfl rfl rfl Try.sizeOf25 rfl rfl rfl rfl rfl fun w hs => ?_))
            refine lstep (wpO_plain rfl (op_store hs 5 (vs := (Wl hi128)) rfl rfl rfl rfl rfl Try.sizeOf25 rfl rfl rfl rfl rfl fun w hs => ?_))
            refine wpList_nil ?_
            have habv : 1 < hi128 ∨ hi128 = 1 ∧ lo127 ≠ 0 := wrk_above nb' (by rw [hx4]; exact hs107) hwk123 hs124 hlo127 hhi128
            refine then_n ?_
            refine wp_seq ?_
            by_cases hq129 : 1 < hi128
            · skip
              refine wp_region_lit ?_
              refine lstep (wpO_plain rfl (op_load hs none 5 (v := W hi128) rfl rfl rfl rfl Try.isAgg25 Try.sizeOf25 rfl rfl fun ac hs => ?_))
              refine lstep (wpO_plain rfl (op_build hs none (qs := [(0, .int .u64 1)]) (v := .agg #[.int .u64 1, .int .u64 0, .int .u64 0, .int .u64 0]) rfl rfl rfl rfl (fun _ => by kernel_rfl) rfl fun ac hs => ?_))
              refine lstep (wpO_plain rfl (op_call (F := 18) hs none (v := .int .i64 (cmpZ hi128 1)) rfl rfl rfl rfl (Try.call18 _) (fun w => cmp_any w hi128 1 lhi128 (by decide)) rfl fun ac w hs => ?_))
              refine lstep (wpO_plain rfl (op_bin hs none (v := .bool true) rfl rfl rfl rfl (fun _ => rfl) (fun w => dT hq129 (bin_cmp_gtr hi128 1 w)) rfl fun ac hs => ?_))
              refine lstep (wpO_plain rfl (op_move hs none rfl rfl rfl rfl fun ac hs => ?_))
              refine lstep (wpO_out hs none rfl rfl (.inl rfl) rfl rfl fun ac hs => ?_)
              refine lstep (wpO_out hs none rfl rfl (.inl rfl) rfl rfl fun ac hs => ?_)
              refine lstep (wpO_out hs none rfl rfl (.inl rfl) rfl rfl fun ac hs => ?_)
              refine lstep (wpO_out hs none rfl rfl (.inl rfl) rfl rfl fun ac hs => ?_)
              refine lstep (wpO_out hs none rfl rfl (.inr rfl) rfl rfl fun ac hs => ?_)
              refine lstep (wpO_out hs none rfl rfl (.inr rfl) rfl rfl fun ac hs => ?_)
              refine lstep (wpO_out hs none rfl rfl (.inr rfl) rfl rfl fun ac hs => ?_)
              refine lstep (wpO_out hs none rfl rfl (.inl rfl) rfl rfl fun ac hs => ?_)
              refine lstep (wpO_plain rfl (op_pickT hs none rfl rfl rfl rfl rfl fun ac hs => ?_))
              refine lstep (wpO_plain rfl (op_assign hs none rfl rfl rfl rfl fun ac hs => ?_))
              refine wpList_nil ?_
              refine then_n ?_
              refine wp_seq ?_
              refine wp_region_lit ?_
              refine lstep (wpO_plain rfl (op_call (F := 11) hs none (v := .bool true) rfl rfl rfl rfl (Try.call11 _) alive_c rfl fun ac w hs => ?_))
              refine lstep (wpO_plain rfl (op_move hs none rfl rfl rfl rfl fun ac hs => ?_))
              refine lstep (wpO_in hs rfl rfl rfl (op_move hs none rfl rfl rfl rfl fun ac hs => ?_))
              refine lstep (wpO_plain rfl (op_pickT hs none rfl rfl rfl rfl rfl fun ac hs => ?_))
              refine lstep (wpO_plain rfl (op_move hs none rfl rfl rfl rfl fun ac hs => ?_))
              refine lstep (wpO_in hs rfl rfl rfl (op_move hs none rfl rfl rfl rfl fun ac hs => ?_))
              refine lstep (wpO_plain rfl (op_pickT hs none rfl rfl rfl rfl rfl fun ac hs => ?_))
              refine lstep (wpO_plain rfl (op_assign hs none rfl rfl rfl rfl fun ac hs => ?_))
              refine wpList_nil ?_
              refine then_n ?_
              refine wp_ret ?_
              exact bodyPost_ret (res1 rfl (rv_t hs rfl)) hs.defers ⟨rfl, hs.below⟩
            · skip
              refine wp_region_lit ?_
              refine lstep (wpO_plain rfl (op_load hs none 5 (v := W hi128) rfl rfl rfl rfl Try.isAgg25 Try.sizeOf25 rfl rfl fun ac hs => ?_))
              refine lstep (wpO_plain rfl (op_build hs none (qs := [(0, .int .u64 1)]) (v := .agg #[.int .u64 1, .int .u64 0, .int .u64 0, .int .u64 0]) rfl rfl rfl rfl (fun _ => by kernel_rfl) rfl fun ac hs => ?_))
              refine lstep (wpO_plain rfl (op_call (F := 18) hs none (v := .int .i64 (cmpZ hi128 1)) rfl rfl rfl rfl (Try.call18 _) (fun w => cmp_any w hi128 1 lhi128 (by decide)) rfl fun ac w hs => ?_))
              refine lstep (wpO_plain rfl (op_bin hs none (v := .bool false) rfl rfl rfl rfl (fun _ => rfl) (fun w => dF hq129 (bin_cmp_gtr hi128 1 w)) rfl fun ac hs => ?_))
              refine lstep (wpO_plain rfl (op_move hs none rfl rfl rfl rfl fun ac hs => ?_))
              refine lstep (wpO_in hs rfl rfl rfl (op_load hs none 5 (v := W hi128) rfl rfl rfl rfl Try.isAgg25 Try.sizeOf25 rfl rfl fun ac hs => ?_))
              refine lstep (wpO_in hs rfl rfl rfl (op_build hs none (qs := [(0, .int .u64 1)]) (v := .agg #[.int .u64 1, .int .u64 0, .int .u64 0, .int .u64 0]) rfl rfl rfl rfl (fun _ => by kernel_rfl) rfl fun ac hs => ?_))
              refine lstep (wpO_in hs rfl rfl rfl (op_bin hs none (v := .bool true) rfl rfl rfl rfl (fun w => run_eqGuard_agg w .eql 25 _ _ _ _ Try.eqGuardType25) (eqlW hi128 1 lhi128 (by decide) true (decide_eq_true (habv.resolve_left hq129).1)) rfl fun ac hs => ?_))
              refine lstep (wpO_in hs rfl rfl rfl (op_move hs none rfl rfl rfl rfl fun ac hs => ?_))
              refine lstep (wpO_in hs rfl rfl rfl (op_load hs none 4 (v := W lo127) rfl rfl rfl rfl Try.isAgg25 Try.sizeOf25 rfl rfl fun ac hs => ?_))
              refine lstep (wpO_in hs rfl rfl rfl (op_build hs none (qs := []) (v := .agg #[.int .u64 0, .int .u64 0, .int .u64 0, .int .u64 0]) rfl rfl rfl rfl (fun _ => by kernel_rfl) rfl fun ac hs => ?_))
              refine lstep (wpO_in hs rfl rfl rfl (op_bin hs none (v := .bool true) rfl rfl rfl rfl (fun w => run_eqGuard_agg w .neq 25 _ _ _ _ Try.eqGuardType25) (neqW lo127 0 llo127 (by decide) true (decide_eq_true (habv.resolve_left hq129).2)) rfl fun ac hs => ?_))
              refine lstep (wpO_in hs rfl rfl rfl (op_pickT hs none rfl rfl rfl rfl rfl fun ac hs => ?_))
              refine lstep (wpO_plain rfl (op_pickF hs none rfl rfl rfl rfl rfl fun ac hs => ?_))
              refine lstep (wpO_plain rfl (op_assign hs none rfl rfl rfl rfl fun ac hs => ?_))
              refine wpList_nil ?_
              refine then_n ?_
              refine wp_seq ?_
              refine wp_region_lit ?_
              refine lstep (wpO_plain rfl (op_call (F := 11) hs none (v := .bool true) rfl rfl rfl rfl (Try.call11 _) alive_c rfl fun ac w hs => ?_))
              refine lstep (wpO_plain rfl (op_move hs none rfl rfl rfl rfl fun ac hs => ?_))
              refine lstep (wpO_in hs rfl rfl rfl (op_move hs none rfl rfl rfl rfl fun ac hs => ?_))
              refine lstep (wpO_plain rfl (op_pickT hs none rfl rfl rfl rfl rfl fun ac hs => ?_))
              refine lstep (wpO_plain rfl (op_move hs none rfl rfl rfl rfl fun ac hs => ?_))
              refine lstep (wpO_in hs rfl rfl rfl (op_move hs none rfl rfl rfl rfl fun ac hs => ?_))
              refine lstep (wpO_plain rfl (op_pickT hs none rfl rfl rfl rfl rfl fun ac hs => ?_))
              refine lstep (wpO_plain rfl (op_assign hs none rfl rfl rfl rfl fun ac hs => ?_))
              refine wpList_nil ?_
              refine then_n ?_
              refine wp_ret ?_
              exact bodyPost_ret (res1 rfl (rv_t hs rfl)) hs.defers ⟨rfl, hs.below⟩
end Go.Proofs.Ytemacggbabiafaa
