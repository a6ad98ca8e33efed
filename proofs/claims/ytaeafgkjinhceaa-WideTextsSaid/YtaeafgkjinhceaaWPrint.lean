/- Figures. -/
import Derived.Test.YtaeafgkjinhceaaDec
import Derived.Test.YtaeafgkjinhceaaPrt
import Derived.Test.YtaeafgkjinhceaaRWide2
namespace Go.Proofs.Ytaeafgkjinhceaa
open Go.RowKit
set_option maxRecDepth 10000

theorem wprint_c (a : Nat) (ha : a < 2 ^ 256) (w0 : World) : Calls Try.prog 37 #[W a] w0 fun e w' => e = .returned (.string (dcs a)) ∧ Below w0.heap.size w0 w' := by
  refine enter (n := 47) (args := [W a]) Try.func37 rfl rfl (Nat.le_of_ble_eq_true rfl) fun ac hs => ?_
  refine wp_seq ?_
  refine wp_region_lit ?_
  refine lstep (wpO_plain rfl (op_box hs none none (cs := (Wl a)) rfl rfl rfl rfl rfl rfl fun g1 ac w hs => ?_))
  refine lstep (wpO_plain rfl (op_assign hs none rfl rfl rfl rfl fun ac hs => ?_))
  refine wpList_nil ?_
  refine then_n ?_
  refine wp_seq ?_
  refine wp_region_lit ?_
  refine lstep (wpO_plain rfl (op_assign hs none rfl rfl rfl rfl fun ac hs => ?_))
  refine wpList_nil ?_
  refine then_n ?_
  refine wp_seq ?_
  refine wp_block ?_
  refine wp_loop_m (fun μ ac w => (a + 2 = μ ∧ St 47 w0 [(1, true, .pointer (some ⟨g1, 0, none⟩)), (3, true, .slice none 0 0)] [(true, g1, 24, (Wl a))] ac w) ∨ (∃ (g : Nat) (sp : List Value) (cn : Nat) (y : Nat), y + 1 = μ ∧ (1 ≤ cn) ∧ (y < 2 ^ 256) ∧ (a / 10 ^ cn = y) ∧ (y ≠ 0) ∧ ((tab .u8 cn (lof a) ++ sp).length ≤ maxLen) ∧ St 47 w0 [(1, true, .pointer (some ⟨g1, 0, none⟩)), (3, true, .slice (some ⟨g, 0, none⟩) cn ((tab .u8 cn (lof a) ++ sp).length))] [(true, g1, 24, (Wl y)), (true, g, 5, (tab .u8 cn (lof a) ++ sp))] ac w)) ?_ ?_
  · exact ⟨_, .inl ⟨rfl, (hs.re ⟨rfl, rfl, trivial⟩)⟩⟩
  intro μ ac w hJ
  rcases hJ with hJ | hJ
  · obtain ⟨rfl, hs⟩ := hJ
    refine wp_block ?_
    refine wp_seq ?_
    refine wp_region_lit ?_
    refine lstep (wpO_plain rfl (op_assign hs none rfl rfl rfl rfl fun ac hs => ?_))
    refine wpList_nil ?_
    refine then_n ?_
    refine wp_seq ?_
    refine wp_region_lit ?_
    refine lstep (wpO_plain rfl (op_load hs none 0 (v := W a) rfl rfl rfl rfl Try.isAgg24 Try.sizeOf24 rfl rfl fun ac hs => ?_))
    obtain ⟨x2, hx2, lx2⟩ : ∃ z0, a / 10 = z0 ∧ z0 < 2 ^ 256 := ⟨_, rfl, Nat.lt_of_le_of_lt (Nat.div_le_self _ _) ha⟩
    obtain ⟨r3, hr3, lr3⟩ : ∃ z0, a % 10 = z0 ∧ z0 < 10 := ⟨_, rfl, Nat.mod_lt _ (by decide)⟩
    refine lstep (wpO_plain rfl (op_call (F := 50) hs none (v := .tuple #[W x2, .int .u64 ((r3 : Nat) : Int)]) rfl rfl rfl rfl (Try.call50 _) (small_c a x2 r3 ha hx2 hr3) rfl fun ac w hs => ?_))
    refine lstep (wpO_plain rfl (op_move hs none rfl rfl rfl rfl fun ac hs => ?_))
    refine lstep (wpO_plain rfl (op_extract hs none rfl rfl rfl rfl rfl fun ac hs => ?_))
    refine lstep (wpO_plain rfl (op_extract hs none rfl rfl rfl rfl rfl fun ac hs => ?_))
    refine lstep (wpO_plain rfl (op_store hs 0 (vs := (Wl x2)) rfl rfl rfl rfl rfl Try.sizeOf24 rfl rfl rfl rfl rfl fun w hs => ?_))
    refine lstep (wpO_plain rfl (op_assign hs none rfl rfl rfl rfl fun ac hs => ?_))
    refine wpList_nil ?_
    refine then_n ?_
    refine wp_seq ?_
    refine wp_region_lit ?_
    refine lstep (wpO_plain rfl (op_move hs none rfl rfl rfl rfl fun ac hs => ?_))
    refine lstep (wpO_plain rfl (op_move hs none rfl rfl rfl rfl fun ac hs => ?_))
    refine lstep (wpO_plain rfl (op_bin hs none (v := .int .u64 ((48 + r3 : Nat) : Int)) rfl rfl rfl rfl (fun _ => rfl) (bin_addN (x := 48) (y := r3) (z := 48 + r3) rfl (show 48 + r3 < 18446744073709551616 by omega)) rfl fun ac hs => ?_))
    refine lstep (wpO_plain rfl (op_convert hs none (v := .int .u8 ((48 + r3 : Nat) : Int)) rfl rfl rfl (conv_N Try.underlying22 Try.underlying5 (show 48 + r3 < 256 by omega)) rfl fun ac hs => ?_))
    refine lstep (wpO_plain rfl (op_bs1 hs none none rfl rfl rfl rfl Try.underlying63 inf_u8_5 rfl rfl fun g4 ac w hs => ?_))
    refine lstep (wpO_plain rfl (op_app0 hs none none 1 (κ := .u8) (xv := 48 + r3) rfl rfl rfl rfl rfl Try.underlying63 inf_u8_5 rfl (by decide) (lof a) (lof_0 hr3) rfl rfl fun g5 sp6 ac w hs hm7 => ?_))
    refine lstep (wpO_plain rfl (op_assign hs none rfl rfl rfl rfl fun ac hs => ?_))
    refine wpList_nil ?_
    refine then_n ?_
    refine wp_seq ?_
    refine wp_region_lit ?_
    refine lstep (wpO_plain rfl (op_load hs none 0 (v := W x2) rfl rfl rfl rfl Try.isAgg24 Try.sizeOf24 rfl rfl fun ac hs => ?_))
    refine lstep (wpO_plain rfl (op_build hs none (qs := []) (v := .agg #[.int .u64 0, .int .u64 0, .int .u64 0, .int .u64 0]) rfl rfl rfl rfl (fun _ => by kernel_rfl) rfl fun ac hs => ?_))
    refine lstep (wpO_plain rfl (op_bin hs none (v := .bool (decide (x2 = 0))) rfl rfl rfl rfl (fun w => run_eqGuard_agg w .eql 24 _ _ _ _ Try.eqGuardType24) (eqlW x2 0 lx2 (by decide) _ rfl) rfl fun ac hs => ?_))
    refine wpList_nil ?_
    refine then_n ?_
    refine wp_cond_split (hs.ev rfl) (fun hc => ?_) (fun hc => ?_)
    · skip
      have hp8 := of_decide_eq_true hc
      have hnd : nd a = 1 := nd_end (by decide) (by rw [Nat.pow_one, hx2]; exact hp8) (fun h => absurd rfl h)
      have hn1 : 1 ≤ 1 := Nat.le_refl 1
      refine wp_exit ?_
      refine blk_x (by decide) ?_
      refine then_e ?_
      refine blk_e ?_
      refine then_n ?_
      refine wp_seq ?_
      refine wp_seq ?_
      refine wp_region_lit ?_
      refine lstep (wpO_plain rfl (op_move hs none rfl rfl rfl rfl fun ac hs => ?_))
      refine lstep (wpO_plain rfl (op_blt hs none (v := .int .i64 1) rfl rfl rfl (blt_len Try.underlying63) rfl fun ac hs => ?_))
      refine lstep (wpO_plain rfl (op_bin hs none (v := .int .i64 0) rfl rfl rfl rfl (fun _ => rfl) (fun _ => by kernel_rfl) rfl fun ac hs => ?_))
      refine lstep (wpO_plain rfl (op_assign hs none rfl rfl rfl rfl fun ac hs => ?_))
      refine lstep (wpO_plain rfl (op_assign hs none rfl rfl rfl rfl fun ac hs => ?_))
      refine wpList_nil ?_
      refine then_n ?_
      refine wp_block ?_
      refine wp_loop_m (fun μ ac w => ∃ (i : Nat) (f : Nat → Nat), (1 - i) = μ ∧ (i ≤ 1 - i) ∧ (∀ j, j < 1 → f j = rvg (1) (lof a) i j) ∧ St 47 w0 [(3, true, .slice (some ⟨g5, 0, none⟩) 1 ((tab .u8 1 (lof a) ++ sp6).length)), (5, true, .int .i64 ((i : Nat) : Int)), (6, true, .int .i64 ((1 - 1 - i : Nat) : Int))] [(true, g1, 24, (Wl x2)), (true, g4, 5, [.int .u8 ((48 + r3 : Nat) : Int)]), (true, g5, 5, (tab .u8 1 f ++ sp6))] ac w) ?_ ?_
      · exact ⟨_, 0, (lof a), rfl, (by omega), rvg_start, (hs.re ⟨rfl, rfl, rfl, trivial⟩)⟩
      intro μ ac w ⟨i, f, hμ, hi, hf, hs⟩
      refine wp_seq ?_
      refine wp_seq ?_
      refine wp_region_lit ?_
      refine lstep (wpO_plain rfl (op_move hs none rfl rfl rfl rfl fun ac hs => ?_))
      refine lstep (wpO_plain rfl (op_move hs none rfl rfl rfl rfl fun ac hs => ?_))
      refine lstep (wpO_plain rfl (op_bin hs none (v := .bool (decide (i < 1 - 1 - i))) rfl rfl rfl rfl (fun _ => rfl) (bin_lssN (x := i) (y := 1 - 1 - i)) rfl fun ac hs => ?_))
      refine wpList_nil ?_
      refine then_n ?_
      refine wp_cond_split (hs.ev rfl) (fun hc => ?_) (fun hc => ?_)
      · skip
        have hp9 := of_decide_eq_true hc
        refine wp_skip ?_
        refine then_n ?_
        refine wp_seq ?_
        refine wp_block ?_
        replace hs : St 47 w0 [(3, true, .slice (some ⟨g5, 0, none⟩) 1 ((tab .u8 1 (lof a) ++ sp6).length)), (5, true, .int .i64 ((i : Nat) : Int)), (6, true, .int .i64 ((1 - 1 - i : Nat) : Int))] [(true, g1, 24, (Wl x2)), (true, g4, 5, [.int .u8 ((48 + r3 : Nat) : Int)]), (true, g5, 5, (tab .u8 1 f ++ sp6))] ac _ := hs.re ⟨rfl, rfl, rfl, trivial⟩
        have l10 := (trivial : True)
        have l11 := (trivial : True)
        refine region_inv [([], [12, 13, 14, 15]), ([], [12, 13, 14, 15]), ([], [14, 15]), ([], [14, 15]), ([], [6, 7, 12, 13, 14, 15]), ([], [6, 7, 12, 13, 14, 15]), ([4, 5], [7, 12, 13, 14, 15]), ([4, 5, 6], [12, 13, 14, 15]), ([], [10, 11, 12, 13, 14, 15]), ([], [10, 11, 12, 13, 14, 15]), ([8, 9], [11, 12, 13, 14, 15]), ([8, 9, 10], [12, 13, 14, 15]), ([0, 1, 4, 5, 6, 7, 8, 9, 10, 11], [13, 14, 15]), ([0, 1, 4, 5, 6, 7, 8, 9, 10, 11, 12], [14, 15]), ([0, 1, 2, 3, 4, 5, 6, 7, 8, 9, 10, 11, 12, 13], [15]), ([0, 1, 2, 3, 4, 5, 6, 7, 8, 9, 10, 11, 12, 13, 14], [])] (fun L ac w => St 47 w0 [(31, L 0, .slice (some ⟨g5, 0, none⟩) 1 ((tab .u8 1 (lof a) ++ sp6).length)), (32, L 1, .int .i64 ((i : Nat) : Int)), (33, L 2, .slice (some ⟨g5, 0, none⟩) 1 ((tab .u8 1 (lof a) ++ sp6).length)), (34, L 3, .int .i64 ((1 - 1 - i : Nat) : Int)), (35, L 4, .slice (some ⟨g5, 0, none⟩) 1 ((tab .u8 1 (lof a) ++ sp6).length)), (36, L 5, .int .i64 ((1 - 1 - i : Nat) : Int)), (37, L 6, .pointer (some ⟨g5, 1 - 1 - i, none⟩)), (38, L 7, .int .u8 ((f (1 - 1 - i) : Nat) : Int)), (39, L 8, .slice (some ⟨g5, 0, none⟩) 1 ((tab .u8 1 (lof a) ++ sp6).length)), (40, L 9, .int .i64 ((i : Nat) : Int)), (41, L 10, .pointer (some ⟨g5, i, none⟩)), (42, L 11, .int .u8 ((f i : Nat) : Int)), (43, L 12, .pointer (some ⟨g5, i, none⟩)), (44, L 14, .pointer (some ⟨g5, 1 - 1 - i, none⟩)), (3, true, .slice (some ⟨g5, 0, none⟩) 1 ((tab .u8 1 (lof a) ++ sp6).length)), (5, true, .int .i64 ((i : Nat) : Int)), (6, true, .int .i64 ((1 - 1 - i : Nat) : Int))] [(true, g1, 24, (Wl x2)), (true, g4, 5, [.int .u8 ((48 + r3 : Nat) : Int)]), (true, g5, 5, (cond (L 15) (tab .u8 1 (upn (upn f i (f (1 - 1 - i))) (1 - 1 - i) (f i)) ++ sp6) (cond (L 13) (tab .u8 1 (upn f i (f (1 - 1 - i))) ++ sp6) (tab .u8 1 f ++ sp6))))] ac w) (by kernel_rfl) (by kernel_rfl) ?_ ?_ ?_
        · exact hs.drew.skip.skip.skip.skip.skip.skip.skip.skip.skip.skip.skip.skip.skip.skip
        · refine ⟨?_, ?_, ?_, ?_, ?_, ?_, ?_, ?_, ?_, ?_, ?_, ?_, ?_, ?_, ?_, ?_, trivial⟩
          · intro L ac w hJ
            have hs := hJ
            refine wpO_plain rfl (op_move hs (some 0) rfl rfl rfl rfl fun ac hs => ?_)
            exact hs
          · intro L ac w hJ
            have hs := hJ
            refine wpO_plain rfl (op_move hs (some 1) rfl rfl rfl rfl fun ac hs => ?_)
            exact hs
          · intro L ac w hJ
            have hs := hJ
            refine wpO_plain rfl (op_move hs (some 2) rfl rfl rfl rfl fun ac hs => ?_)
            exact hs
          · intro L ac w hJ
            have hs := hJ
            refine wpO_plain rfl (op_move hs (some 3) rfl rfl rfl rfl fun ac hs => ?_)
            exact hs
          · intro L ac w hJ
            have hs := hJ
            refine wpO_plain rfl (op_move hs (some 4) rfl rfl rfl rfl fun ac hs => ?_)
            exact hs
          · intro L ac w hJ
            have hs := hJ
            refine wpO_plain rfl (op_move hs (some 5) rfl rfl rfl rfl fun ac hs => ?_)
            exact hs
          · intro L ac w hJ
            have hs := hJ
            refine wpO_plain rfl (op_idxS hs (some 6) (j := 1 - 1 - i) rfl rfl rfl rfl Try.underlying63 Try.sizeOf5 (show 1 - 1 - i < 1 by omega) (off := 1 - 1 - i) (by omega) rfl fun ac hs => ?_)
            exact hs
          · intro L ac w hJ
            have hs := hJ
            refine wpO_plain rfl (op_load hs (some 7) 2 (v := .int .u8 ((f (1 - 1 - i) : Nat) : Int)) rfl rfl rfl rfl Try.isAgg5 Try.sizeOf5 (tabs_get (j := 1 - 1 - i) (show 1 - 1 - i < 1 by omega)) rfl fun ac hs => ?_)
            exact hs
          · intro L ac w hJ
            have hs := hJ
            refine wpO_plain rfl (op_move hs (some 8) rfl rfl rfl rfl fun ac hs => ?_)
            exact hs
          · intro L ac w hJ
            have hs := hJ
            refine wpO_plain rfl (op_move hs (some 9) rfl rfl rfl rfl fun ac hs => ?_)
            exact hs
          · intro L ac w hJ
            have hs := hJ
            refine wpO_plain rfl (op_idxS hs (some 10) (j := i) rfl rfl rfl rfl Try.underlying63 Try.sizeOf5 (show i < 1 by omega) (off := i) (by omega) rfl fun ac hs => ?_)
            exact hs
          · intro L ac w hJ
            have hs := hJ
            refine wpO_plain rfl (op_load hs (some 11) 2 (v := .int .u8 ((f i : Nat) : Int)) rfl rfl rfl rfl Try.isAgg5 Try.sizeOf5 (tabs_get (j := i) (show i < 1 by omega)) rfl fun ac hs => ?_)
            exact hs
          · intro L ac w hJ
            have hs := hJ
            refine wpO_plain rfl (op_idxS hs (some 12) (j := i) rfl rfl rfl rfl Try.underlying63 Try.sizeOf5 (show i < 1 by omega) (off := i) (by omega) rfl fun ac hs => ?_)
            exact hs
          · intro L ac w hJ
            have hs := hJ
            refine wpO_plain rfl (op_store hs 2 (vs := [.int .u8 ((f (1 - 1 - i) : Nat) : Int)]) rfl rfl rfl rfl rfl Try.sizeOf5 rfl rfl rfl (tabs_le (j := i) (show i < 1 by omega)) (tabs_set (j := i) (show i < 1 by omega)) fun w hs => ?_)
            exact hs
          · intro L ac w hJ
            have hs := hJ
            refine wpO_plain rfl (op_idxS hs (some 13) (j := 1 - 1 - i) rfl rfl rfl rfl Try.underlying63 Try.sizeOf5 (show 1 - 1 - i < 1 by omega) (off := 1 - 1 - i) (by omega) rfl fun ac hs => ?_)
            exact hs
          · intro L ac w hJ
            have hs := hJ
            refine wpO_plain rfl (op_store hs 2 (vs := [.int .u8 ((f i : Nat) : Int)]) rfl rfl rfl rfl rfl Try.sizeOf5 rfl rfl rfl (tabs_le (j := 1 - 1 - i) (show 1 - 1 - i < 1 by omega)) (tabs_set (j := 1 - 1 - i) (show 1 - 1 - i < 1 by omega)) fun w hs => ?_)
            exact hs
        intro ac w hJ
        replace hs : St 47 w0 [(31, true, .slice (some ⟨g5, 0, none⟩) 1 ((tab .u8 1 (lof a) ++ sp6).length)), (32, true, .int .i64 ((i : Nat) : Int)), (33, true, .slice (some ⟨g5, 0, none⟩) 1 ((tab .u8 1 (lof a) ++ sp6).length)), (34, true, .int .i64 ((1 - 1 - i : Nat) : Int)), (35, true, .slice (some ⟨g5, 0, none⟩) 1 ((tab .u8 1 (lof a) ++ sp6).length)), (36, true, .int .i64 ((1 - 1 - i : Nat) : Int)), (37, true, .pointer (some ⟨g5, 1 - 1 - i, none⟩)), (38, true, .int .u8 ((f (1 - 1 - i) : Nat) : Int)), (39, true, .slice (some ⟨g5, 0, none⟩) 1 ((tab .u8 1 (lof a) ++ sp6).length)), (40, true, .int .i64 ((i : Nat) : Int)), (41, true, .pointer (some ⟨g5, i, none⟩)), (42, true, .int .u8 ((f i : Nat) : Int)), (43, true, .pointer (some ⟨g5, i, none⟩)), (44, true, .pointer (some ⟨g5, 1 - 1 - i, none⟩)), (3, true, .slice (some ⟨g5, 0, none⟩) 1 ((tab .u8 1 (lof a) ++ sp6).length)), (5, true, .int .i64 ((i : Nat) : Int)), (6, true, .int .i64 ((1 - 1 - i : Nat) : Int))] [(true, g1, 24, (Wl x2)), (true, g4, 5, [.int .u8 ((48 + r3 : Nat) : Int)]), (true, g5, 5, (tab .u8 1 (upn (upn f i (f (1 - 1 - i))) (1 - 1 - i) (f i)) ++ sp6))] ac w := hJ
        refine blk_n ?_
        refine then_n ?_
        refine wp_region_lit ?_
        refine lstep (wpO_plain rfl (op_move hs none rfl rfl rfl rfl fun ac hs => ?_))
        refine lstep (wpO_plain rfl (op_bin hs none (v := .int .i64 ((i + 1 : Nat) : Int)) rfl rfl rfl rfl (fun _ => rfl) (bin_addN (x := i) (y := 1) (z := i + 1) rfl (show i + 1 < 9223372036854775808 by omega)) rfl fun ac hs => ?_))
        refine lstep (wpO_plain rfl (op_move hs none rfl rfl rfl rfl fun ac hs => ?_))
        refine lstep (wpO_plain rfl (op_bin hs none (v := .int .i64 ((1 - 1 - i - 1 : Nat) : Int)) rfl rfl rfl rfl (fun _ => rfl) (bin_subN (x := 1 - 1 - i) (y := 1) (z := 1 - 1 - i - 1) (by omega) (show 1 - 1 - i - 1 < 9223372036854775808 by omega)) rfl fun ac hs => ?_))
        refine lstep (wpO_plain rfl (op_assign hs none rfl rfl rfl rfl fun ac hs => ?_))
        refine lstep (wpO_plain rfl (op_assign hs none rfl rfl rfl rfl fun ac hs => ?_))
        refine wpList_nil ?_
        refine then_n ?_
        exact ⟨_, ⟨(i + 1), (upn (upn f i (f (1 - 1 - i))) (1 - 1 - i) (f i)), rfl, (by omega), (rvg_step hp9 hf), (hs.re ⟨rfl, rfl, (congrArg (fun z : Nat => some (Value.int .i64 (z : Int))) (show 1 - 1 - i - 1 = 1 - 1 - (i + 1) by omega)), trivial⟩)⟩, (by omega)⟩
      · skip
        have hp12 := of_decide_eq_false hc
        refine wp_exit ?_
        refine then_e ?_
        refine then_e ?_
        refine blk_e ?_
        refine then_n ?_
        refine wp_seq ?_
        refine wp_region_lit ?_
        refine lstep (wpO_plain rfl (op_move hs none rfl rfl rfl rfl fun ac hs => ?_))
        refine lstep (wpO_plain rfl (op_convW hs none (v := .string (⟨((List.range 1).map fun i => UInt8.ofNat (f i)).toArray⟩)) rfl rfl rfl (conv_bs hs (k := 2) (f := f) rfl (fun j hj => by rw [rvg_fin hp12 hf j hj]; exact Nat.lt_trans (lof_lt _ _) (by decide)) Try.underlying63 Try.underlying5 Try.underlying9) rfl fun ac hs => ?_))
        refine lstep (wpO_plain rfl (op_assign hs none rfl rfl rfl rfl fun ac hs => ?_))
        refine wpList_nil ?_
        refine then_n ?_
        refine wp_ret ?_
        exact bodyPost_ret (res1 rfl (rv_t hs rfl)) hs.defers ⟨by rw [dcs_of hnd (rvg_fin hp12 hf)], hs.below⟩
    · skip
      have hp13 := of_decide_eq_false hc
      refine wp_skip ?_
      refine blk_n ?_
      refine then_n ?_
      replace hs := hs.dropb 1
      exact ⟨_, .inr (⟨g5, sp6, 1, x2, rfl, (by decide), lx2, ((congrArg (a / ·) (Nat.pow_one 10)).trans hx2), hp13, hm7, (hs.re ⟨rfl, rfl, trivial⟩)⟩), by omega⟩
  · obtain ⟨g, sp, cn, y, rfl, hj, ly, hy, hy0, hcap, hs⟩ := hJ
    have hj78 := figs_le ha hy hy0
    refine wp_block ?_
    refine wp_seq ?_
    refine wp_region_lit ?_
    refine lstep (wpO_plain rfl (op_assign hs none rfl rfl rfl rfl fun ac hs => ?_))
    refine wpList_nil ?_
    refine then_n ?_
    refine wp_seq ?_
    refine wp_region_lit ?_
    refine lstep (wpO_plain rfl (op_load hs none 0 (v := W y) rfl rfl rfl rfl Try.isAgg24 Try.sizeOf24 rfl rfl fun ac hs => ?_))
    obtain ⟨x14, hx14, lx14⟩ : ∃ z0, y / 10 = z0 ∧ z0 < 2 ^ 256 := ⟨_, rfl, Nat.lt_of_le_of_lt (Nat.div_le_self _ _) ly⟩
    obtain ⟨r15, hr15, lr15⟩ : ∃ z0, y % 10 = z0 ∧ z0 < 10 := ⟨_, rfl, Nat.mod_lt _ (by decide)⟩
    refine lstep (wpO_plain rfl (op_call (F := 50) hs none (v := .tuple #[W x14, .int .u64 ((r15 : Nat) : Int)]) rfl rfl rfl rfl (Try.call50 _) (small_c y x14 r15 ly hx14 hr15) rfl fun ac w hs => ?_))
    refine lstep (wpO_plain rfl (op_move hs none rfl rfl rfl rfl fun ac hs => ?_))
    refine lstep (wpO_plain rfl (op_extract hs none rfl rfl rfl rfl rfl fun ac hs => ?_))
    refine lstep (wpO_plain rfl (op_extract hs none rfl rfl rfl rfl rfl fun ac hs => ?_))
    refine lstep (wpO_plain rfl (op_store hs 0 (vs := (Wl x14)) rfl rfl rfl rfl rfl Try.sizeOf24 rfl rfl rfl rfl rfl fun w hs => ?_))
    refine lstep (wpO_plain rfl (op_assign hs none rfl rfl rfl rfl fun ac hs => ?_))
    refine wpList_nil ?_
    refine then_n ?_
    refine wp_seq ?_
    refine wp_region_lit ?_
    refine lstep (wpO_plain rfl (op_move hs none rfl rfl rfl rfl fun ac hs => ?_))
    refine lstep (wpO_plain rfl (op_move hs none rfl rfl rfl rfl fun ac hs => ?_))
    refine lstep (wpO_plain rfl (op_bin hs none (v := .int .u64 ((48 + r15 : Nat) : Int)) rfl rfl rfl rfl (fun _ => rfl) (bin_addN (x := 48) (y := r15) (z := 48 + r15) rfl (show 48 + r15 < 18446744073709551616 by omega)) rfl fun ac hs => ?_))
    refine lstep (wpO_plain rfl (op_convert hs none (v := .int .u8 ((48 + r15 : Nat) : Int)) rfl rfl rfl (conv_N Try.underlying22 Try.underlying5 (show 48 + r15 < 256 by omega)) rfl fun ac hs => ?_))
    refine lstep (wpO_plain rfl (op_bs1 hs none none rfl rfl rfl rfl Try.underlying63 inf_u8_5 rfl rfl fun g16 ac w hs => ?_))
    refine lstep (wpO_plain rfl (op_app1 hs none 1 2 (κ := .u8) (f := lof a) (sp := sp) (xv := 48 + r15) rfl rfl rfl rfl rfl rfl Try.underlying63 inf_u8_5 rfl (by decide) hcap (by omega) (lof_at hy hr15) rfl fun g17 sp18 ac w hs hm19 => ?_))
    refine lstep (wpO_plain rfl (op_assign hs none rfl rfl rfl rfl fun ac hs => ?_))
    refine wpList_nil ?_
    refine then_n ?_
    refine wp_seq ?_
    refine wp_region_lit ?_
    refine lstep (wpO_plain rfl (op_load hs none 0 (v := W x14) rfl rfl rfl rfl Try.isAgg24 Try.sizeOf24 rfl rfl fun ac hs => ?_))
    refine lstep (wpO_plain rfl (op_build hs none (qs := []) (v := .agg #[.int .u64 0, .int .u64 0, .int .u64 0, .int .u64 0]) rfl rfl rfl rfl (fun _ => by kernel_rfl) rfl fun ac hs => ?_))
    refine lstep (wpO_plain rfl (op_bin hs none (v := .bool (decide (x14 = 0))) rfl rfl rfl rfl (fun w => run_eqGuard_agg w .eql 24 _ _ _ _ Try.eqGuardType24) (eqlW x14 0 lx14 (by decide) _ rfl) rfl fun ac hs => ?_))
    refine wpList_nil ?_
    refine then_n ?_
    refine wp_cond_split (hs.ev rfl) (fun hc => ?_) (fun hc => ?_)
    · skip
      have hp20 := of_decide_eq_true hc
      have hnd : nd a = cn + 1 := nd_end (by omega) ((div10_pow hy hx14).trans hp20) (fun _ => by rw [Nat.add_sub_cancel, hy]; exact hy0)
      refine wp_exit ?_
      refine blk_x (by decide) ?_
      refine then_e ?_
      refine blk_e ?_
      refine then_n ?_
      refine wp_seq ?_
      refine wp_seq ?_
      refine wp_region_lit ?_
      refine lstep (wpO_plain rfl (op_move hs none rfl rfl rfl rfl fun ac hs => ?_))
      refine lstep (wpO_plain rfl (op_blt hs none (v := .int .i64 ((cn + 1 : Nat) : Int)) rfl rfl rfl (blt_len Try.underlying63) rfl fun ac hs => ?_))
      refine lstep (wpO_plain rfl (op_bin hs none (v := .int .i64 ((cn + 1 - 1 : Nat) : Int)) rfl rfl rfl rfl (fun _ => rfl) (bin_subN (x := cn + 1) (y := 1) (z := cn + 1 - 1) (by omega) (show cn + 1 - 1 < 9223372036854775808 by omega)) rfl fun ac hs => ?_))
      refine lstep (wpO_plain rfl (op_assign hs none rfl rfl rfl rfl fun ac hs => ?_))
      refine lstep (wpO_plain rfl (op_assign hs none rfl rfl rfl rfl fun ac hs => ?_))
      refine wpList_nil ?_
      refine then_n ?_
      refine wp_block ?_
      refine wp_loop_m (fun μ ac w => ∃ (i : Nat) (f : Nat → Nat), (cn + 1 - i) = μ ∧ (i ≤ cn + 1 - i) ∧ (∀ j, j < cn + 1 → f j = rvg (cn + 1) (lof a) i j) ∧ St 47 w0 [(3, true, .slice (some ⟨g17, 0, none⟩) (cn + 1) ((tab .u8 (cn + 1) (lof a) ++ sp18).length)), (5, true, .int .i64 ((i : Nat) : Int)), (6, true, .int .i64 ((cn + 1 - 1 - i : Nat) : Int))] [(true, g1, 24, (Wl x14)), (true, g17, 5, (tab .u8 (cn + 1) f ++ sp18)), (true, g16, 5, [.int .u8 ((48 + r15 : Nat) : Int)])] ac w) ?_ ?_
      · exact ⟨_, 0, (lof a), rfl, (by omega), rvg_start, (hs.re ⟨rfl, rfl, (congrArg (fun z : Nat => some (Value.int .i64 (z : Int))) (show cn + 1 - 1 = cn + 1 - 1 - 0 by omega)), trivial⟩)⟩
      intro μ ac w ⟨i, f, hμ, hi, hf, hs⟩
      refine wp_seq ?_
      refine wp_seq ?_
      refine wp_region_lit ?_
      refine lstep (wpO_plain rfl (op_move hs none rfl rfl rfl rfl fun ac hs => ?_))
      refine lstep (wpO_plain rfl (op_move hs none rfl rfl rfl rfl fun ac hs => ?_))
      refine lstep (wpO_plain rfl (op_bin hs none (v := .bool (decide (i < cn + 1 - 1 - i))) rfl rfl rfl rfl (fun _ => rfl) (bin_lssN (x := i) (y := cn + 1 - 1 - i)) rfl fun ac hs => ?_))
      refine wpList_nil ?_
      refine then_n ?_
      refine wp_cond_split (hs.ev rfl) (fun hc => ?_) (fun hc => ?_)
      · skip
        have hp21 := of_decide_eq_true hc
        refine wp_skip ?_
        refine then_n ?_
        refine wp_seq ?_
        refine wp_block ?_
        replace hs : St 47 w0 [(3, true, .slice (some ⟨g17, 0, none⟩) (cn + 1) ((tab .u8 (cn + 1) (lof a) ++ sp18).length)), (5, true, .int .i64 ((i : Nat) : Int)), (6, true, .int .i64 ((cn + 1 - 1 - i : Nat) : Int))] [(true, g1, 24, (Wl x14)), (true, g17, 5, (tab .u8 (cn + 1) f ++ sp18)), (true, g16, 5, [.int .u8 ((48 + r15 : Nat) : Int)])] ac _ := hs.re ⟨rfl, rfl, rfl, trivial⟩
        have l22 := (trivial : True)
        have l23 := (trivial : True)
        refine region_inv [([], [12, 13, 14, 15]), ([], [12, 13, 14, 15]), ([], [14, 15]), ([], [14, 15]), ([], [6, 7, 12, 13, 14, 15]), ([], [6, 7, 12, 13, 14, 15]), ([4, 5], [7, 12, 13, 14, 15]), ([4, 5, 6], [12, 13, 14, 15]), ([], [10, 11, 12, 13, 14, 15]), ([], [10, 11, 12, 13, 14, 15]), ([8, 9], [11, 12, 13, 14, 15]), ([8, 9, 10], [12, 13, 14, 15]), ([0, 1, 4, 5, 6, 7, 8, 9, 10, 11], [13, 14, 15]), ([0, 1, 4, 5, 6, 7, 8, 9, 10, 11, 12], [14, 15]), ([0, 1, 2, 3, 4, 5, 6, 7, 8, 9, 10, 11, 12, 13], [15]), ([0, 1, 2, 3, 4, 5, 6, 7, 8, 9, 10, 11, 12, 13, 14], [])] (fun L ac w => St 47 w0 [(31, L 0, .slice (some ⟨g17, 0, none⟩) (cn + 1) ((tab .u8 (cn + 1) (lof a) ++ sp18).length)), (32, L 1, .int .i64 ((i : Nat) : Int)), (33, L 2, .slice (some ⟨g17, 0, none⟩) (cn + 1) ((tab .u8 (cn + 1) (lof a) ++ sp18).length)), (34, L 3, .int .i64 ((cn + 1 - 1 - i : Nat) : Int)), (35, L 4, .slice (some ⟨g17, 0, none⟩) (cn + 1) ((tab .u8 (cn + 1) (lof a) ++ sp18).length)), (36, L 5, .int .i64 ((cn + 1 - 1 - i : Nat) : Int)), (37, L 6, .pointer (some ⟨g17, cn + 1 - 1 - i, none⟩)), (38, L 7, .int .u8 ((f (cn + 1 - 1 - i) : Nat) : Int)), (39, L 8, .slice (some ⟨g17, 0, none⟩) (cn + 1) ((tab .u8 (cn + 1) (lof a) ++ sp18).length)), (40, L 9, .int .i64 ((i : Nat) : Int)), (41, L 10, .pointer (some ⟨g17, i, none⟩)), (42, L 11, .int .u8 ((f i : Nat) : Int)), (43, L 12, .pointer (some ⟨g17, i, none⟩)), (44, L 14, .pointer (some ⟨g17, cn + 1 - 1 - i, none⟩)), (3, true, .slice (some ⟨g17, 0, none⟩) (cn + 1) ((tab .u8 (cn + 1) (lof a) ++ sp18).length)), (5, true, .int .i64 ((i : Nat) : Int)), (6, true, .int .i64 ((cn + 1 - 1 - i : Nat) : Int))] [(true, g1, 24, (Wl x14)), (true, g17, 5, (cond (L 15) (tab .u8 (cn + 1) (upn (upn f i (f (cn + 1 - 1 - i))) (cn + 1 - 1 - i) (f i)) ++ sp18) (cond (L 13) (tab .u8 (cn + 1) (upn f i (f (cn + 1 - 1 - i))) ++ sp18) (tab .u8 (cn + 1) f ++ sp18)))), (true, g16, 5, [.int .u8 ((48 + r15 : Nat) : Int)])] ac w) (by kernel_rfl) (by kernel_rfl) ?_ ?_ ?_
        · exact hs.drew.skip.skip.skip.skip.skip.skip.skip.skip.skip.skip.skip.skip.skip.skip
        · refine ⟨?_, ?_, ?_, ?_, ?_, ?_, ?_, ?_, ?_, ?_, ?_, ?_, ?_, ?_, ?_, ?_, trivial⟩
          · intro L ac w hJ
            have hs := hJ
            refine wpO_plain rfl (op_move hs (some 0) rfl rfl rfl rfl fun ac hs => ?_)
            exact hs
          · intro L ac w hJ
            have hs := hJ
            refine wpO_plain rfl (op_move hs (some 1) rfl rfl rfl rfl fun ac hs => ?_)
            exact hs
          · intro L ac w hJ
            have hs := hJ
            refine wpO_plain rfl (op_move hs (some 2) rfl rfl rfl rfl fun ac hs => ?_)
            exact hs
          · intro L ac w hJ
            have hs := hJ
            refine wpO_plain rfl (op_move hs (some 3) rfl rfl rfl rfl fun ac hs => ?_)
            exact hs
          · intro L ac w hJ
            have hs := hJ
            refine wpO_plain rfl (op_move hs (some 4) rfl rfl rfl rfl fun ac hs => ?_)
            exact hs
          · intro L ac w hJ
            have hs := hJ
            refine wpO_plain rfl (op_move hs (some 5) rfl rfl rfl rfl fun ac hs => ?_)
            exact hs
          · intro L ac w hJ
            have hs := hJ
            refine wpO_plain rfl (op_idxS hs (some 6) (j := cn + 1 - 1 - i) rfl rfl rfl rfl Try.underlying63 Try.sizeOf5 (show cn + 1 - 1 - i < cn + 1 by omega) (off := cn + 1 - 1 - i) (by omega) rfl fun ac hs => ?_)
            exact hs
          · intro L ac w hJ
            have hs := hJ
            refine wpO_plain rfl (op_load hs (some 7) 1 (v := .int .u8 ((f (cn + 1 - 1 - i) : Nat) : Int)) rfl rfl rfl rfl Try.isAgg5 Try.sizeOf5 (tabs_get (j := cn + 1 - 1 - i) (show cn + 1 - 1 - i < cn + 1 by omega)) rfl fun ac hs => ?_)
            exact hs
          · intro L ac w hJ
            have hs := hJ
            refine wpO_plain rfl (op_move hs (some 8) rfl rfl rfl rfl fun ac hs => ?_)
            exact hs
          · intro L ac w hJ
            have hs := hJ
            refine wpO_plain rfl (op_move hs (some 9) rfl rfl rfl rfl fun ac hs => ?_)
            exact hs
          · intro L ac w hJ
            have hs := hJ
            refine wpO_plain rfl (op_idxS hs (some 10) (j := i) rfl rfl rfl rfl Try.underlying63 Try.sizeOf5 (show i < cn + 1 by omega) (off := i) (by omega) rfl fun ac hs => ?_)
            exact hs
          · intro L ac w hJ
            have hs := hJ
            refine wpO_plain rfl (op_load hs (some 11) 1 (v := .int .u8 ((f i : Nat) : Int)) rfl rfl rfl rfl Try.isAgg5 Try.sizeOf5 (tabs_get (j := i) (show i < cn + 1 by omega)) rfl fun ac hs => ?_)
            exact hs
          · intro L ac w hJ
            have hs := hJ
            refine wpO_plain rfl (op_idxS hs (some 12) (j := i) rfl rfl rfl rfl Try.underlying63 Try.sizeOf5 (show i < cn + 1 by omega) (off := i) (by omega) rfl fun ac hs => ?_)
            exact hs
          · intro L ac w hJ
            have hs := hJ
            refine wpO_plain rfl (op_store hs 1 (vs := [.int .u8 ((f (cn + 1 - 1 - i) : Nat) : Int)]) rfl rfl rfl rfl rfl Try.sizeOf5 rfl rfl rfl (tabs_le (j := i) (show i < cn + 1 by omega)) (tabs_set (j := i) (show i < cn + 1 by omega)) fun w hs => ?_)
            exact hs
          · intro L ac w hJ
            have hs := hJ
            refine wpO_plain rfl (op_idxS hs (some 13) (j := cn + 1 - 1 - i) rfl rfl rfl rfl Try.underlying63 Try.sizeOf5 (show cn + 1 - 1 - i < cn + 1 by omega) (off := cn + 1 - 1 - i) (by omega) rfl fun ac hs => ?_)
            exact hs
          · intro L ac w hJ
            have hs := hJ
            refine wpO_plain rfl (op_store hs 1 (vs := [.int .u8 ((f i : Nat) : Int)]) rfl rfl rfl rfl rfl Try.sizeOf5 rfl rfl rfl (tabs_le (j := cn + 1 - 1 - i) (show cn + 1 - 1 - i < cn + 1 by omega)) (tabs_set (j := cn + 1 - 1 - i) (show cn + 1 - 1 - i < cn + 1 by omega)) fun w hs => ?_)
            exact hs
        intro ac w hJ
        replace hs : St 47 w0 [(31, true, .slice (some ⟨g17, 0, none⟩) (cn + 1) ((tab .u8 (cn + 1) (lof a) ++ sp18).length)), (32, true, .int .i64 ((i : Nat) : Int)), (33, true, .slice (some ⟨g17, 0, none⟩) (cn + 1) ((tab .u8 (cn + 1) (lof a) ++ sp18).length)), (34, true, .int .i64 ((cn + 1 - 1 - i : Nat) : Int)), (35, true, .slice (some ⟨g17, 0, none⟩) (cn + 1) ((tab .u8 (cn + 1) (lof a) ++ sp18).length)), (36, true, .int .i64 ((cn + 1 - 1 - i : Nat) : Int)), (37, true, .pointer (some ⟨g17, cn + 1 - 1 - i, none⟩)), (38, true, .int .u8 ((f (cn + 1 - 1 - i) : Nat) : Int)), (39, true, .slice (some ⟨g17, 0, none⟩) (cn + 1) ((tab .u8 (cn + 1) (lof a) ++ sp18).length)), (40, true, .int .i64 ((i : Nat) : Int)), (41, true, .pointer (some ⟨g17, i, none⟩)), (42, true, .int .u8 ((f i : Nat) : Int)), (43, true, .pointer (some ⟨g17, i, none⟩)), (44, true, .pointer (some ⟨g17, cn + 1 - 1 - i, none⟩)), (3, true, .slice (some ⟨g17, 0, none⟩) (cn + 1) ((tab .u8 (cn + 1) (lof a) ++ sp18).length)), (5, true, .int .i64 ((i : Nat) : Int)), (6, true, .int .i64 ((cn + 1 - 1 - i : Nat) : Int))] [(true, g1, 24, (Wl x14)), (true, g17, 5, (tab .u8 (cn + 1) (upn (upn f i (f (cn + 1 - 1 - i))) (cn + 1 - 1 - i) (f i)) ++ sp18)), (true, g16, 5, [.int .u8 ((48 + r15 : Nat) : Int)])] ac w := hJ
        refine blk_n ?_
        refine then_n ?_
        refine wp_region_lit ?_
        refine lstep (wpO_plain rfl (op_move hs none rfl rfl rfl rfl fun ac hs => ?_))
        refine lstep (wpO_plain rfl (op_bin hs none (v := .int .i64 ((i + 1 : Nat) : Int)) rfl rfl rfl rfl (fun _ => rfl) (bin_addN (x := i) (y := 1) (z := i + 1) rfl (show i + 1 < 9223372036854775808 by omega)) rfl fun ac hs => ?_))
        refine lstep (wpO_plain rfl (op_move hs none rfl rfl rfl rfl fun ac hs => ?_))
        refine lstep (wpO_plain rfl (op_bin hs none (v := .int .i64 ((cn + 1 - 1 - i - 1 : Nat) : Int)) rfl rfl rfl rfl (fun _ => rfl) (bin_subN (x := cn + 1 - 1 - i) (y := 1) (z := cn + 1 - 1 - i - 1) (by omega) (show cn + 1 - 1 - i - 1 < 9223372036854775808 by omega)) rfl fun ac hs => ?_))
        refine lstep (wpO_plain rfl (op_assign hs none rfl rfl rfl rfl fun ac hs => ?_))
        refine lstep (wpO_plain rfl (op_assign hs none rfl rfl rfl rfl fun ac hs => ?_))
        refine wpList_nil ?_
        refine then_n ?_
        exact ⟨_, ⟨(i + 1), (upn (upn f i (f (cn + 1 - 1 - i))) (cn + 1 - 1 - i) (f i)), rfl, (by omega), (rvg_step hp21 hf), (hs.re ⟨rfl, rfl, (congrArg (fun z : Nat => some (Value.int .i64 (z : Int))) (show cn + 1 - 1 - i - 1 = cn + 1 - 1 - (i + 1) by omega)), trivial⟩)⟩, (by omega)⟩
      · skip
        have hp24 := of_decide_eq_false hc
        refine wp_exit ?_
        refine then_e ?_
        refine then_e ?_
        refine blk_e ?_
        refine then_n ?_
        refine wp_seq ?_
        refine wp_region_lit ?_
        refine lstep (wpO_plain rfl (op_move hs none rfl rfl rfl rfl fun ac hs => ?_))
        refine lstep (wpO_plain rfl (op_convW hs none (v := .string (⟨((List.range (cn + 1)).map fun i => UInt8.ofNat (f i)).toArray⟩)) rfl rfl rfl (conv_bs hs (k := 1) (f := f) rfl (fun j hj => by rw [rvg_fin hp24 hf j hj]; exact Nat.lt_trans (lof_lt _ _) (by decide)) Try.underlying63 Try.underlying5 Try.underlying9) rfl fun ac hs => ?_))
        refine lstep (wpO_plain rfl (op_assign hs none rfl rfl rfl rfl fun ac hs => ?_))
        refine wpList_nil ?_
        refine then_n ?_
        refine wp_ret ?_
        exact bodyPost_ret (res1 rfl (rv_t hs rfl)) hs.defers ⟨by rw [dcs_of hnd (rvg_fin hp24 hf)], hs.below⟩
    · skip
      have hp25 := of_decide_eq_false hc
      refine wp_skip ?_
      refine blk_n ?_
      refine then_n ?_
      exact ⟨_, .inr (⟨g17, sp18, (cn + 1), x14, rfl, (by omega), lx14, (div10_pow hy hx14), hp25, hm19, ((hs.takeb 2).re ⟨rfl, rfl, trivial⟩)⟩), by omega⟩
end Go.Proofs.Ytaeafgkjinhceaa
