/- The laws of the field. -/
import Derived.Test.YtajmmhailcbfoaaRField
import Derived.Test.YtajmmhailcbfoaaFe
import Derived.Test.YtajmmhailcbfoaaFLaw
namespace Go.Proofs.Ytajmmhailcbfoaa
open Go.RowKit
set_option maxRecDepth 10000

set_option maxHeartbeats 4000000 in
theorem roots_law (a : Nat) (ha : a < 2 ^ 256) (w0 : World) : Calls Try.prog 8 #[W a] w0 fun e w' => e = .returned (.bool true) ∧ Below w0.heap.size w0 w' := by
  refine enter (n := 86) (args := [W a]) Try.func8 rfl rfl (Nat.le_of_ble_eq_true rfl) fun ac hs => ?_
  refine wp_seq ?_
  by_cases hq1 : frB a = true
  · skip
    by_cases hq2 : a % Pf = 0
    · skip
      by_cases hq3 : frV (a * a % Pf) = a % Pf
      · skip
        refine wp_region_lit ?_
        refine lstep (wpO_plain rfl (op_box hs none none (cs := (Wl a)) rfl rfl rfl rfl rfl rfl fun g4 ac w hs => ?_))
        refine lstep (wpO_plain rfl (op_assign hs none rfl rfl rfl rfl fun ac hs => ?_))
        refine wpList_nil ?_
        refine then_n ?_
        refine wp_seq ?_
        refine wp_region_lit ?_
        refine lstep (wpO_plain rfl (op_load hs none 0 (v := W a) rfl rfl rfl rfl Try.isAgg24 Try.sizeOf24 rfl rfl fun ac hs => ?_))
        refine lstep (wpO_plain rfl (op_load hs none 0 (v := W a) rfl rfl rfl rfl Try.isAgg24 Try.sizeOf24 rfl rfl fun ac hs => ?_))
        obtain ⟨r5, hr5, lr5⟩ : ∃ z0, a * a % Pf = z0 ∧ z0 < 2 ^ 256 := ⟨_, rfl, modP_lt _⟩
        refine lstep (wpO_plain rfl (op_call (F := 21) hs none (v := W r5) rfl rfl rfl rfl (Try.call21 _) (fmul_c a a r5 ha ha hr5) rfl fun ac w hs => ?_))
        obtain ⟨y6, hy6, ly6⟩ : ∃ z0, frV r5 = z0 ∧ z0 < 2 ^ 256 := ⟨_, rfl, frV_lt _⟩
        refine lstep (wpO_plain rfl (op_call (F := 23) hs none (v := .tuple #[W y6, .bool true]) rfl rfl rfl rfl (Try.call23 _) (froot_c r5 y6 true lr5 hy6 (by rw [← hr5]; exact frB_sq _)) rfl fun ac w hs => ?_))
        refine lstep (wpO_plain rfl (op_move hs none rfl rfl rfl rfl fun ac hs => ?_))
        refine lstep (wpO_plain rfl (op_extract hs none rfl rfl rfl rfl rfl fun ac hs => ?_))
        refine lstep (wpO_plain rfl (op_extract hs none rfl rfl rfl rfl rfl fun ac hs => ?_))
        refine lstep (wpO_plain rfl (op_alloc hs none none (cs := [.int .u64 0, .int .u64 0, .int .u64 0, .int .u64 0]) rfl rfl Try.zeroValue24 (by kernel_rfl) rfl rfl fun g8 ac w hs => ?_))
        refine lstep (wpO_plain rfl (op_store hs 1 (vs := (Wl y6)) rfl rfl rfl rfl rfl Try.sizeOf24 rfl rfl rfl rfl rfl fun w hs => ?_))
        refine lstep (wpO_plain rfl (op_assign hs none rfl rfl rfl rfl fun ac hs => ?_))
        refine wpList_nil ?_
        refine then_n ?_
        refine wp_seq ?_
        refine wp_seq ?_
        replace hs : St 86 w0 [(1, true, .pointer (some ⟨g4, 0, none⟩)), (2, true, .bool false), (3, true, .pointer (some ⟨g8, 0, none⟩)), (4, true, .bool true)] [(true, g4, 24, (Wl a)), (true, g8, 24, (Wl y6))] ac w := hs.re ⟨rfl, rfl, rfl, rfl, trivial⟩
        obtain ⟨r9, hr9, lr9⟩ : ∃ z0, a % Pf = z0 ∧ z0 < 2 ^ 256 := ⟨_, rfl, modP_lt _⟩
        refine region_inv [([], [1, 2, 3, 4, 5, 6, 7, 8, 9, 10, 11, 12, 13]), ([0], [2, 3, 4, 5, 6, 7, 8, 9, 10, 11, 12, 13]), ([0, 1], [3, 4, 5, 6, 7, 8, 9, 10, 11, 12, 13]), ([0, 1, 2], [6, 7, 8, 9, 10, 11, 12, 13]), ([0, 1, 2], [5, 6, 7, 8, 9, 10, 11, 12, 13]), ([0, 1, 2, 4], [6, 7, 8, 9, 10, 11, 12, 13]), ([0, 1, 2, 3, 4, 5], [7, 8, 9, 10, 11, 12, 13]), ([0, 1, 2, 3, 4, 5, 6], [8, 9, 10, 11, 12, 13]), ([0, 1, 2, 3, 4, 5, 6, 7], [11, 12, 13]), ([0, 1, 2, 3, 4, 5, 6, 7], [10, 11, 12, 13]), ([0, 1, 2, 3, 4, 5, 6, 7, 9], [11, 12, 13]), ([0, 1, 2, 3, 4, 5, 6, 7, 8, 9, 10], [12, 13]), ([0, 1, 2, 3, 4, 5, 6, 7, 8, 9, 10, 11], [13]), ([0, 1, 2, 3, 4, 5, 6, 7, 8, 9, 10, 11, 12], [])] (fun L ac w => St 86 w0 [(17, L 0, .bool true), (18, L 1, .bool false), (19, L 2, .bool false), (20, L 3, W y6), (21, L 4, W a), (22, L 5, W r9), (23, L 6, .bool false), (24, L 7, .bool false), (25, L 8, undef), (26, L 9, undef), (27, L 10, undef), (28, L 11, undef), (29, L 12, .bool false), (30, L 13, .bool false), (1, true, .pointer (some ⟨g4, 0, none⟩)), (2, true, .bool false), (3, true, .pointer (some ⟨g8, 0, none⟩)), (4, true, .bool true)] [(true, g4, 24, (Wl a)), (true, g8, 24, (Wl y6))] ac w) (by kernel_rfl) (by kernel_rfl) ?_ ?_ ?_
        · exact hs.drew.skip.skip.skip.skip.skip.skip.skip.skip.skip.skip.skip.skip.skip.skip
        · refine ⟨?_, ?_, ?_, ?_, ?_, ?_, ?_, ?_, ?_, ?_, ?_, ?_, ?_, ?_, trivial⟩
          · intro L ac w hJ
            have hs := hJ
            refine wpO_plain rfl (op_move hs (some 0) rfl rfl rfl rfl fun ac hs => ?_)
            exact hs
          · intro L ac w hJ
            have hs := hJ
            refine wpO_plain rfl (op_un hs (some 1) (v := .bool false) rfl rfl rfl (fun _ => rfl) rfl fun ac hs => ?_)
            exact hs
          · intro L ac w hJ
            have hs := hJ
            refine wpO_plain rfl (op_move hs (some 2) rfl rfl rfl rfl fun ac hs => ?_)
            exact hs
          · intro L ac w hJ
            have hs := hJ
            refine wpO_in hs rfl rfl rfl (op_load hs (some 3) 1 (v := W y6) rfl rfl rfl rfl Try.isAgg24 Try.sizeOf24 rfl rfl fun ac hs => ?_)
            exact hs
          · intro L ac w hJ
            have hs := hJ
            refine wpO_in hs rfl rfl rfl (op_load hs (some 4) 0 (v := W a) rfl rfl rfl rfl Try.isAgg24 Try.sizeOf24 rfl rfl fun ac hs => ?_)
            exact hs
          · intro L ac w hJ
            have hs := hJ
            refine wpO_in hs rfl rfl rfl (op_call (F := 13) hs (some 5) (v := W r9) rfl rfl rfl rfl (Try.call13 _) (fred_c a r9 ha hr9) rfl fun ac w hs => ?_)
            exact hs
          · intro L ac w hJ
            have hs := hJ
            refine wpO_in hs rfl rfl rfl (op_bin hs (some 6) (v := .bool false) rfl rfl rfl rfl (fun w => run_eqGuard_agg w .neq 24 _ _ _ _ Try.eqGuardType24) (neqW y6 r9 ly6 lr9 false (decide_eq_false (not_not_intro (by rw [← hy6, ← hr9, ← hr5]; exact hq3)))) rfl fun ac hs => ?_)
            exact hs
          · intro L ac w hJ
            have hs := hJ
            refine wpO_in hs rfl rfl rfl (op_move hs (some 7) rfl rfl rfl rfl fun ac hs => ?_)
            exact hs
          · intro L ac w hJ
            have hs := hJ
            refine wpO_out hs (some 8) rfl rfl (.inl rfl) rfl rfl fun ac hs => ?_
            exact hs
          · intro L ac w hJ
            have hs := hJ
            refine wpO_out hs (some 9) rfl rfl (.inl rfl) rfl rfl fun ac hs => ?_
            exact hs
          · intro L ac w hJ
            have hs := hJ
            refine wpO_out hs (some 10) rfl rfl (.inl rfl) rfl rfl fun ac hs => ?_
            exact hs
          · intro L ac w hJ
            have hs := hJ
            refine wpO_out hs (some 11) rfl rfl (.inl rfl) rfl rfl fun ac hs => ?_
            exact hs
          · intro L ac w hJ
            have hs := hJ
            refine wpO_in hs rfl rfl rfl (op_pickF hs (some 12) rfl rfl rfl rfl rfl fun ac hs => ?_)
            exact hs
          · intro L ac w hJ
            have hs := hJ
            refine wpO_plain rfl (op_pickF hs (some 13) rfl rfl rfl rfl rfl fun ac hs => ?_)
            exact hs
        intro ac w hJ
        replace hs : St 86 w0 [(17, true, .bool true), (18, true, .bool false), (19, true, .bool false), (20, true, W y6), (21, true, W a), (22, true, W r9), (23, true, .bool false), (24, true, .bool false), (25, true, undef), (26, true, undef), (27, true, undef), (28, true, undef), (29, true, .bool false), (30, true, .bool false), (1, true, .pointer (some ⟨g4, 0, none⟩)), (2, true, .bool false), (3, true, .pointer (some ⟨g8, 0, none⟩)), (4, true, .bool true)] [(true, g4, 24, (Wl a)), (true, g8, 24, (Wl y6))] ac w := hJ
        refine then_n ?_
        refine wp_cond_false (hs.ev rfl) ?_
        refine wp_skip ?_
        refine then_n ?_
        refine wp_seq ?_
        refine wp_region_lit ?_
        refine lstep (wpO_plain rfl (op_load hs none 0 (v := W a) rfl rfl rfl rfl Try.isAgg24 Try.sizeOf24 rfl rfl fun ac hs => ?_))
        obtain ⟨y10, hy10, ly10⟩ : ∃ z0, frV a = z0 ∧ z0 < 2 ^ 256 := ⟨_, rfl, frV_lt _⟩
        refine lstep (wpO_plain rfl (op_call (F := 23) hs none (v := .tuple #[W y10, .bool true]) rfl rfl rfl rfl (Try.call23 _) (froot_c a y10 true ha hy10 hq1) rfl fun ac w hs => ?_))
        refine lstep (wpO_plain rfl (op_move hs none rfl rfl rfl rfl fun ac hs => ?_))
        refine lstep (wpO_plain rfl (op_extract hs none rfl rfl rfl rfl rfl fun ac hs => ?_))
        refine lstep (wpO_plain rfl (op_extract hs none rfl rfl rfl rfl rfl fun ac hs => ?_))
        refine lstep (wpO_plain rfl (op_alloc hs none none (cs := [.int .u64 0, .int .u64 0, .int .u64 0, .int .u64 0]) rfl rfl Try.zeroValue24 (by kernel_rfl) rfl rfl fun g12 ac w hs => ?_))
        refine lstep (wpO_plain rfl (op_store hs 2 (vs := (Wl y10)) rfl rfl rfl rfl rfl Try.sizeOf24 rfl rfl rfl rfl rfl fun w hs => ?_))
        refine lstep (wpO_plain rfl (op_assign hs none rfl rfl rfl rfl fun ac hs => ?_))
        refine wpList_nil ?_
        refine then_n ?_
        refine wp_seq ?_
        refine wp_seq ?_
        replace hs : St 86 w0 [(1, true, .pointer (some ⟨g4, 0, none⟩)), (2, true, .bool false), (5, true, .pointer (some ⟨g12, 0, none⟩)), (6, true, .bool true)] [(true, g4, 24, (Wl a)), (true, g8, 24, (Wl y6)), (true, g12, 24, (Wl y10))] ac w := hs.re ⟨rfl, rfl, rfl, rfl, trivial⟩
        obtain ⟨r13, hr13, lr13⟩ : ∃ z0, y10 * y10 % Pf = z0 ∧ z0 < 2 ^ 256 := ⟨_, rfl, modP_lt _⟩
        obtain ⟨r14, hr14, lr14⟩ : ∃ z0, a % Pf = z0 ∧ z0 < 2 ^ 256 := ⟨_, rfl, modP_lt _⟩
        have l15 := limN_lt y10 0
        refine region_inv [([], [1, 2, 3, 4, 5, 6, 7, 8, 9, 10, 11, 12, 13, 14, 15, 16, 17, 18, 19, 20]), ([0], [2, 3, 4, 5, 6, 7, 8, 9, 10, 11, 12, 13, 14, 15, 16, 17, 18, 19, 20]), ([0, 1], [4, 6, 7, 8, 9, 10, 11, 12, 13, 14, 15, 16, 17, 18, 19, 20]), ([0, 1], [4, 6, 7, 8, 9, 10, 11, 12, 13, 14, 15, 16, 17, 18, 19, 20]), ([0, 1, 2, 3], [6, 7, 8, 9, 10, 11, 12, 13, 14, 15, 16, 17, 18, 19, 20]), ([0, 1], [6, 7, 8, 9, 10, 11, 12, 13, 14, 15, 16, 17, 18, 19, 20]), ([0, 1, 2, 3, 4, 5], [7, 8, 9, 10, 11, 12, 13, 14, 15, 16, 17, 18, 19, 20]), ([0, 1, 2, 3, 4, 5, 6], [8, 9, 10, 11, 12, 13, 14, 15, 16, 17, 18, 19, 20]), ([0, 1, 2, 3, 4, 5, 6, 7], [9, 10, 11, 12, 13, 14, 15, 16, 17, 18, 19, 20]), ([0, 1, 2, 3, 4, 5, 6, 7, 8], [10, 11, 12, 13, 14, 15, 16, 17, 18, 19, 20]), ([0, 1, 2, 3, 4, 5, 6, 7, 8, 9], [11, 12, 13, 14, 15, 16, 17, 18, 19, 20]), ([0, 1, 2, 3, 4, 5, 6, 7, 8, 9, 10], [12, 13, 14, 15, 16, 17, 18, 19, 20]), ([0, 1, 2, 3, 4, 5, 6, 7, 8, 9, 10, 11], [13, 14, 15, 16, 17, 18, 19, 20]), ([0, 1, 2, 3, 4, 5, 6, 7, 8, 9, 10, 11, 12], [14, 15, 16, 17, 18, 19, 20]), ([0, 1, 2, 3, 4, 5, 6, 7, 8, 9, 10, 11, 12, 13], [15, 16, 17, 18, 19, 20]), ([0, 1, 2, 3, 4, 5, 6, 7, 8, 9, 10, 11, 12, 13, 14], [17, 18, 19, 20]), ([0, 1, 2, 3, 4, 5, 6, 7, 8, 9, 10, 11, 12, 13, 14], [17, 18, 19, 20]), ([0, 1, 2, 3, 4, 5, 6, 7, 8, 9, 10, 11, 12, 13, 14, 15, 16], [18, 19, 20]), ([0, 1, 2, 3, 4, 5, 6, 7, 8, 9, 10, 11, 12, 13, 14, 15, 16, 17], [19, 20]), ([0, 1, 2, 3, 4, 5, 6, 7, 8, 9, 10, 11, 12, 13, 14, 15, 16, 17, 18], [20]), ([0, 1, 2, 3, 4, 5, 6, 7, 8, 9, 10, 11, 12, 13, 14, 15, 16, 17, 18, 19], [])] (fun L ac w => St 86 w0 [(36, L 0, .bool true), (37, L 1, .bool true), (38, L 2, W y10), (39, L 3, W y10), (40, L 4, W r13), (41, L 5, W a), (42, L 6, W r14), (43, L 7, .bool false), (44, L 8, .bool false), (45, L 9, .pointer (some ⟨g12, 0, none⟩)), (46, L 10, .int .u64 (lim y10 0)), (47, L 11, .int .u64 (((limN y10 0) % 2 : Nat) : Int)), (48, L 12, .bool false), (49, L 13, .bool false), (50, L 14, .bool false), (51, L 15, W y10), (52, L 16, W Pf), (53, L 17, .int .i64 (cmpZ y10 Pf)), (54, L 18, .bool false), (55, L 19, .bool false), (56, L 20, .bool false), (1, true, .pointer (some ⟨g4, 0, none⟩)), (2, true, .bool false), (5, true, .pointer (some ⟨g12, 0, none⟩)), (6, true, .bool true)] [(true, g4, 24, (Wl a)), (true, g8, 24, (Wl y6)), (true, g12, 24, (Wl y10))] ac w) (by kernel_rfl) (by kernel_rfl) ?_ ?_ ?_
        · exact hs.drew.skip.skip.skip.skip.skip.skip.skip.skip.skip.skip.skip.skip.skip.skip.skip.skip.skip.skip.skip.skip.skip
        · refine ⟨?_, ?_, ?_, ?_, ?_, ?_, ?_, ?_, ?_, ?_, ?_, ?_, ?_, ?_, ?_, ?_, ?_, ?_, ?_, ?_, ?_, trivial⟩
          · intro L ac w hJ
            have hs := hJ
            refine wpO_plain rfl (op_move hs (some 0) rfl rfl rfl rfl fun ac hs => ?_)
            exact hs
          · intro L ac w hJ
            have hs := hJ
            refine wpO_plain rfl (op_move hs (some 1) rfl rfl rfl rfl fun ac hs => ?_)
            exact hs
          · intro L ac w hJ
            have hs := hJ
            refine wpO_in hs rfl rfl rfl (op_load hs (some 2) 2 (v := W y10) rfl rfl rfl rfl Try.isAgg24 Try.sizeOf24 rfl rfl fun ac hs => ?_)
            exact hs
          · intro L ac w hJ
            have hs := hJ
            refine wpO_in hs rfl rfl rfl (op_load hs (some 3) 2 (v := W y10) rfl rfl rfl rfl Try.isAgg24 Try.sizeOf24 rfl rfl fun ac hs => ?_)
            exact hs
          · intro L ac w hJ
            have hs := hJ
            refine wpO_in hs rfl rfl rfl (op_call (F := 21) hs (some 4) (v := W r13) rfl rfl rfl rfl (Try.call21 _) (fmul_c y10 y10 r13 ly10 ly10 hr13) rfl fun ac w hs => ?_)
            exact hs
          · intro L ac w hJ
            have hs := hJ
            refine wpO_in hs rfl rfl rfl (op_load hs (some 5) 0 (v := W a) rfl rfl rfl rfl Try.isAgg24 Try.sizeOf24 rfl rfl fun ac hs => ?_)
            exact hs
          · intro L ac w hJ
            have hs := hJ
            refine wpO_in hs rfl rfl rfl (op_call (F := 13) hs (some 6) (v := W r14) rfl rfl rfl rfl (Try.call13 _) (fred_c a r14 ha hr14) rfl fun ac w hs => ?_)
            exact hs
          · intro L ac w hJ
            have hs := hJ
            refine wpO_in hs rfl rfl rfl (op_bin hs (some 7) (v := .bool false) rfl rfl rfl rfl (fun w => run_eqGuard_agg w .neq 24 _ _ _ _ Try.eqGuardType24) (neqW r13 r14 lr13 lr14 false (decide_eq_false (not_not_intro (by rw [← hr13, ← hr14, ← hy10]; exact frV_mul hq1)))) rfl fun ac hs => ?_)
            exact hs
          · intro L ac w hJ
            have hs := hJ
            refine wpO_in hs rfl rfl rfl (op_move hs (some 8) rfl rfl rfl rfl fun ac hs => ?_)
            exact hs
          · intro L ac w hJ
            have hs := hJ
            refine wpO_in hs rfl rfl rfl (op_idxA hs (some 9) (j := 0) rfl rfl rfl rfl Try.underlying24 Try.sizeOf22 (by decide) (off := 0) rfl rfl fun ac hs => ?_)
            exact hs
          · intro L ac w hJ
            have hs := hJ
            refine wpO_in hs rfl rfl rfl (op_load hs (some 10) 2 (v := .int .u64 (lim y10 0)) rfl rfl rfl rfl Try.isAgg22 Try.sizeOf22 rfl rfl fun ac hs => ?_)
            exact hs
          · intro L ac w hJ
            have hs := hJ
            refine wpO_in hs rfl rfl rfl (op_bin hs (some 11) (v := .int .u64 (((limN y10 0) % 2 : Nat) : Int)) rfl rfl rfl rfl (fun _ => rfl) (bin_remN (x := limN y10 0) (y := 2) (z := (limN y10 0) % 2) rfl (by decide)) rfl fun ac hs => ?_)
            exact hs
          · intro L ac w hJ
            have hs := hJ
            refine wpO_in hs rfl rfl rfl (op_bin hs (some 12) (v := .bool false) rfl rfl rfl rfl (fun _ => rfl) (fun w => dF (Classical.not_not.2 (by rw [lim_odd, ← hy10]; exact frV_even2 a)) (bin_neqN (x := (limN y10 0) % 2) (y := 0) w)) rfl fun ac hs => ?_)
            exact hs
          · intro L ac w hJ
            have hs := hJ
            refine wpO_in hs rfl rfl rfl (op_pickF hs (some 13) rfl rfl rfl rfl rfl fun ac hs => ?_)
            exact hs
          · intro L ac w hJ
            have hs := hJ
            refine wpO_in hs rfl rfl rfl (op_move hs (some 14) rfl rfl rfl rfl fun ac hs => ?_)
            exact hs
          · intro L ac w hJ
            have hs := hJ
            refine wpO_in hs rfl rfl rfl (op_load hs (some 15) 2 (v := W y10) rfl rfl rfl rfl Try.isAgg24 Try.sizeOf24 rfl rfl fun ac hs => ?_)
            exact hs
          · intro L ac w hJ
            have hs := hJ
            refine wpO_in hs rfl rfl rfl (op_call (F := 11) hs (some 16) (v := W Pf) rfl rfl rfl rfl (Try.call11 _) prime_c rfl fun ac w hs => ?_)
            exact hs
          · intro L ac w hJ
            have hs := hJ
            refine wpO_in hs rfl rfl rfl (op_call (F := 29) hs (some 17) (v := .int .i64 (cmpZ y10 Pf)) rfl rfl rfl rfl (Try.call29 _) (fun w => cmp_any w y10 Pf ly10 Pf_lt) rfl fun ac w hs => ?_)
            exact hs
          · intro L ac w hJ
            have hs := hJ
            refine wpO_in hs rfl rfl rfl (op_bin hs (some 18) (v := .bool false) rfl rfl rfl rfl (fun _ => rfl) (fun w => dF (Nat.not_le.2 (by rw [← hy10]; exact frV_ltP _)) (bin_cmp_geq y10 Pf w)) rfl fun ac hs => ?_)
            exact hs
          · intro L ac w hJ
            have hs := hJ
            refine wpO_in hs rfl rfl rfl (op_pickF hs (some 19) rfl rfl rfl rfl rfl fun ac hs => ?_)
            exact hs
          · intro L ac w hJ
            have hs := hJ
            refine wpO_plain rfl (op_pickT hs (some 20) rfl rfl rfl rfl rfl fun ac hs => ?_)
            exact hs
        intro ac w hJ
        replace hs : St 86 w0 [(36, true, .bool true), (37, true, .bool true), (38, true, W y10), (39, true, W y10), (40, true, W r13), (41, true, W a), (42, true, W r14), (43, true, .bool false), (44, true, .bool false), (45, true, .pointer (some ⟨g12, 0, none⟩)), (46, true, .int .u64 (lim y10 0)), (47, true, .int .u64 (((limN y10 0) % 2 : Nat) : Int)), (48, true, .bool false), (49, true, .bool false), (50, true, .bool false), (51, true, W y10), (52, true, W Pf), (53, true, .int .i64 (cmpZ y10 Pf)), (54, true, .bool false), (55, true, .bool false), (56, true, .bool false), (1, true, .pointer (some ⟨g4, 0, none⟩)), (2, true, .bool false), (5, true, .pointer (some ⟨g12, 0, none⟩)), (6, true, .bool true)] [(true, g4, 24, (Wl a)), (true, g8, 24, (Wl y6)), (true, g12, 24, (Wl y10))] ac w := hJ
        refine then_n ?_
        refine wp_cond_false (hs.ev rfl) ?_
        refine wp_skip ?_
        refine then_n ?_
        refine wp_seq ?_
        refine wp_region_lit ?_
        refine lstep (wpO_plain rfl (op_load hs none 0 (v := W a) rfl rfl rfl rfl Try.isAgg24 Try.sizeOf24 rfl rfl fun ac hs => ?_))
        obtain ⟨r16, hr16, lr16⟩ : ∃ z0, fsub 0 a = z0 ∧ z0 < 2 ^ 256 := ⟨_, rfl, fsub_lt _ _⟩
        refine lstep (wpO_plain rfl (op_call (F := 19) hs none (v := W r16) rfl rfl rfl rfl (Try.call19 _) (fneg_c a r16 ha hr16) rfl fun ac w hs => ?_))
        obtain ⟨y17, hy17, ly17⟩ : ∃ z0, frV r16 = z0 ∧ z0 < 2 ^ 256 := ⟨_, rfl, frV_lt _⟩
        refine lstep (wpO_plain rfl (op_call (F := 23) hs none (v := .tuple #[W y17, .bool true]) rfl rfl rfl rfl (Try.call23 _) (froot_c r16 y17 true lr16 hy17 (by rw [← hr16]; exact frB_negzero hq2)) rfl fun ac w hs => ?_))
        refine lstep (wpO_plain rfl (op_move hs none rfl rfl rfl rfl fun ac hs => ?_))
        refine lstep (wpO_plain rfl (op_extract hs none rfl rfl rfl rfl rfl fun ac hs => ?_))
        refine lstep (wpO_plain rfl (op_extract hs none rfl rfl rfl rfl rfl fun ac hs => ?_))
        refine lstep (wpO_plain rfl (op_alloc hs none none (cs := [.int .u64 0, .int .u64 0, .int .u64 0, .int .u64 0]) rfl rfl Try.zeroValue24 (by kernel_rfl) rfl rfl fun g19 ac w hs => ?_))
        refine lstep (wpO_plain rfl (op_store hs 3 (vs := (Wl y17)) rfl rfl rfl rfl rfl Try.sizeOf24 rfl rfl rfl rfl rfl fun w hs => ?_))
        refine lstep (wpO_plain rfl (op_assign hs none rfl rfl rfl rfl fun ac hs => ?_))
        refine wpList_nil ?_
        refine then_n ?_
        refine wp_seq ?_
        refine wp_region_lit ?_
        refine lstep (wpO_plain rfl (op_load hs none 0 (v := W a) rfl rfl rfl rfl Try.isAgg24 Try.sizeOf24 rfl rfl fun ac hs => ?_))
        obtain ⟨r20, hr20, lr20⟩ : ∃ z0, a % Pf = z0 ∧ z0 < 2 ^ 256 := ⟨_, rfl, modP_lt _⟩
        refine lstep (wpO_plain rfl (op_call (F := 13) hs none (v := W r20) rfl rfl rfl rfl (Try.call13 _) (fred_c a r20 ha hr20) rfl fun ac w hs => ?_))
        refine lstep (wpO_plain rfl (op_build hs none (qs := []) (v := .agg #[.int .u64 0, .int .u64 0, .int .u64 0, .int .u64 0]) rfl rfl rfl rfl (fun _ => by kernel_rfl) rfl fun ac hs => ?_))
        refine lstep (wpO_plain rfl (op_bin hs none (v := .bool true) rfl rfl rfl rfl (fun w => run_eqGuard_agg w .eql 24 _ _ _ _ Try.eqGuardType24) (eqlW r20 0 lr20 (by decide) true (decide_eq_true (by rw [← hr20]; exact hq2))) rfl fun ac hs => ?_))
        refine lstep (wpO_plain rfl (op_assign hs none rfl rfl rfl rfl fun ac hs => ?_))
        refine wpList_nil ?_
        refine then_n ?_
        refine wp_seq ?_
        refine wp_region_lit ?_
        refine lstep (wpO_plain rfl (op_call (F := 10) hs none (v := .bool true) rfl rfl rfl rfl (Try.call10 _) alive_c rfl fun ac w hs => ?_))
        refine lstep (wpO_plain rfl (op_move hs none rfl rfl rfl rfl fun ac hs => ?_))
        refine lstep (wpO_in hs rfl rfl rfl (op_move hs none rfl rfl rfl rfl fun ac hs => ?_))
        refine lstep (wpO_in hs rfl rfl rfl (op_move hs none rfl rfl rfl rfl fun ac hs => ?_))
        refine lstep (wpO_in hs rfl rfl rfl (op_move hs none rfl rfl rfl rfl fun ac hs => ?_))
        refine lstep (wpO_in hs rfl rfl rfl (op_pickT hs none rfl rfl rfl rfl rfl fun ac hs => ?_))
        refine lstep (wpO_in hs rfl rfl rfl (op_move hs none rfl rfl rfl rfl fun ac hs => ?_))
        refine lstep (wpO_in hs rfl rfl rfl (op_move hs none rfl rfl rfl rfl fun ac hs => ?_))
        refine lstep (wpO_in hs rfl rfl rfl (op_pickT hs none rfl rfl rfl rfl rfl fun ac hs => ?_))
        refine lstep (wpO_in hs rfl rfl rfl (op_move hs none rfl rfl rfl rfl fun ac hs => ?_))
        refine lstep (wpO_out hs none rfl rfl (.inl rfl) rfl rfl fun ac hs => ?_)
        refine lstep (wpO_out hs none rfl rfl (.inl rfl) rfl rfl fun ac hs => ?_)
        refine lstep (wpO_out hs none rfl rfl (.inl rfl) rfl rfl fun ac hs => ?_)
        refine lstep (wpO_out hs none rfl rfl (.inr rfl) rfl rfl fun ac hs => ?_)
        refine lstep (wpO_out hs none rfl rfl (.inr rfl) rfl rfl fun ac hs => ?_)
        refine lstep (wpO_out hs none rfl rfl (.inr rfl) rfl rfl fun ac hs => ?_)
        refine lstep (wpO_out hs none rfl rfl (.inl rfl) rfl rfl fun ac hs => ?_)
        refine lstep (wpO_in hs rfl rfl rfl (op_pickT hs none rfl rfl rfl rfl rfl fun ac hs => ?_))
        refine lstep (wpO_plain rfl (op_pickT hs none rfl rfl rfl rfl rfl fun ac hs => ?_))
        refine lstep (wpO_plain rfl (op_assign hs none rfl rfl rfl rfl fun ac hs => ?_))
        refine wpList_nil ?_
        refine then_n ?_
        refine wp_ret ?_
        exact bodyPost_ret (res1 rfl (rv_t hs rfl)) hs.defers ⟨rfl, hs.below⟩
      · skip
        refine wp_region_lit ?_
        refine lstep (wpO_plain rfl (op_box hs none none (cs := (Wl a)) rfl rfl rfl rfl rfl rfl fun g21 ac w hs => ?_))
        refine lstep (wpO_plain rfl (op_assign hs none rfl rfl rfl rfl fun ac hs => ?_))
        refine wpList_nil ?_
        refine then_n ?_
        refine wp_seq ?_
        refine wp_region_lit ?_
        refine lstep (wpO_plain rfl (op_load hs none 0 (v := W a) rfl rfl rfl rfl Try.isAgg24 Try.sizeOf24 rfl rfl fun ac hs => ?_))
        refine lstep (wpO_plain rfl (op_load hs none 0 (v := W a) rfl rfl rfl rfl Try.isAgg24 Try.sizeOf24 rfl rfl fun ac hs => ?_))
        obtain ⟨r22, hr22, lr22⟩ : ∃ z0, a * a % Pf = z0 ∧ z0 < 2 ^ 256 := ⟨_, rfl, modP_lt _⟩
        refine lstep (wpO_plain rfl (op_call (F := 21) hs none (v := W r22) rfl rfl rfl rfl (Try.call21 _) (fmul_c a a r22 ha ha hr22) rfl fun ac w hs => ?_))
        obtain ⟨y23, hy23, ly23⟩ : ∃ z0, frV r22 = z0 ∧ z0 < 2 ^ 256 := ⟨_, rfl, frV_lt _⟩
        refine lstep (wpO_plain rfl (op_call (F := 23) hs none (v := .tuple #[W y23, .bool true]) rfl rfl rfl rfl (Try.call23 _) (froot_c r22 y23 true lr22 hy23 (by rw [← hr22]; exact frB_sq _)) rfl fun ac w hs => ?_))
        refine lstep (wpO_plain rfl (op_move hs none rfl rfl rfl rfl fun ac hs => ?_))
        refine lstep (wpO_plain rfl (op_extract hs none rfl rfl rfl rfl rfl fun ac hs => ?_))
        refine lstep (wpO_plain rfl (op_extract hs none rfl rfl rfl rfl rfl fun ac hs => ?_))
        refine lstep (wpO_plain rfl (op_alloc hs none none (cs := [.int .u64 0, .int .u64 0, .int .u64 0, .int .u64 0]) rfl rfl Try.zeroValue24 (by kernel_rfl) rfl rfl fun g25 ac w hs => ?_))
        refine lstep (wpO_plain rfl (op_store hs 1 (vs := (Wl y23)) rfl rfl rfl rfl rfl Try.sizeOf24 rfl rfl rfl rfl rfl fun w hs => ?_))
        refine lstep (wpO_plain rfl (op_assign hs none rfl rfl rfl rfl fun ac hs => ?_))
        refine wpList_nil ?_
        refine then_n ?_
        refine wp_seq ?_
        refine wp_seq ?_
        replace hs : St 86 w0 [(1, true, .pointer (some ⟨g21, 0, none⟩)), (2, true, .bool false), (3, true, .pointer (some ⟨g25, 0, none⟩)), (4, true, .bool true)] [(true, g21, 24, (Wl a)), (true, g25, 24, (Wl y23))] ac w := hs.re ⟨rfl, rfl, rfl, rfl, trivial⟩
        obtain ⟨r26, hr26, lr26⟩ : ∃ z0, a % Pf = z0 ∧ z0 < 2 ^ 256 := ⟨_, rfl, modP_lt _⟩
        obtain ⟨r27, hr27, lr27⟩ : ∃ z0, fsub 0 a = z0 ∧ z0 < 2 ^ 256 := ⟨_, rfl, fsub_lt _ _⟩
        refine region_inv [([], [1, 2, 3, 4, 5, 6, 7, 8, 9, 10, 11, 12, 13]), ([0], [2, 3, 4, 5, 6, 7, 8, 9, 10, 11, 12, 13]), ([0, 1], [3, 4, 5, 6, 7, 8, 9, 10, 11, 12, 13]), ([0, 1, 2], [6, 7, 8, 9, 10, 11, 12, 13]), ([0, 1, 2], [5, 6, 7, 8, 9, 10, 11, 12, 13]), ([0, 1, 2, 4], [6, 7, 8, 9, 10, 11, 12, 13]), ([0, 1, 2, 3, 4, 5], [7, 8, 9, 10, 11, 12, 13]), ([0, 1, 2, 3, 4, 5, 6], [8, 9, 10, 11, 12, 13]), ([0, 1, 2, 3, 4, 5, 6, 7], [11, 12, 13]), ([0, 1, 2, 3, 4, 5, 6, 7], [10, 11, 12, 13]), ([0, 1, 2, 3, 4, 5, 6, 7, 9], [11, 12, 13]), ([0, 1, 2, 3, 4, 5, 6, 7, 8, 9, 10], [12, 13]), ([0, 1, 2, 3, 4, 5, 6, 7, 8, 9, 10, 11], [13]), ([0, 1, 2, 3, 4, 5, 6, 7, 8, 9, 10, 11, 12], [])] (fun L ac w => St 86 w0 [(17, L 0, .bool true), (18, L 1, .bool false), (19, L 2, .bool false), (20, L 3, W y23), (21, L 4, W a), (22, L 5, W r26), (23, L 6, .bool true), (24, L 7, .bool true), (25, L 8, W y23), (26, L 9, W a), (27, L 10, W r27), (28, L 11, .bool false), (29, L 12, .bool false), (30, L 13, .bool false), (1, true, .pointer (some ⟨g21, 0, none⟩)), (2, true, .bool false), (3, true, .pointer (some ⟨g25, 0, none⟩)), (4, true, .bool true)] [(true, g21, 24, (Wl a)), (true, g25, 24, (Wl y23))] ac w) (by kernel_rfl) (by kernel_rfl) ?_ ?_ ?_
        · exact hs.drew.skip.skip.skip.skip.skip.skip.skip.skip.skip.skip.skip.skip.skip.skip
        · refine ⟨?_, ?_, ?_, ?_, ?_, ?_, ?_, ?_, ?_, ?_, ?_, ?_, ?_, ?_, trivial⟩
          · intro L ac w hJ
            have hs := hJ
            refine wpO_plain rfl (op_move hs (some 0) rfl rfl rfl rfl fun ac hs => ?_)
            exact hs
          · intro L ac w hJ
            have hs := hJ
            refine wpO_plain rfl (op_un hs (some 1) (v := .bool false) rfl rfl rfl (fun _ => rfl) rfl fun ac hs => ?_)
            exact hs
          · intro L ac w hJ
            have hs := hJ
            refine wpO_plain rfl (op_move hs (some 2) rfl rfl rfl rfl fun ac hs => ?_)
            exact hs
          · intro L ac w hJ
            have hs := hJ
            refine wpO_in hs rfl rfl rfl (op_load hs (some 3) 1 (v := W y23) rfl rfl rfl rfl Try.isAgg24 Try.sizeOf24 rfl rfl fun ac hs => ?_)
            exact hs
          · intro L ac w hJ
            have hs := hJ
            refine wpO_in hs rfl rfl rfl (op_load hs (some 4) 0 (v := W a) rfl rfl rfl rfl Try.isAgg24 Try.sizeOf24 rfl rfl fun ac hs => ?_)
            exact hs
          · intro L ac w hJ
            have hs := hJ
            refine wpO_in hs rfl rfl rfl (op_call (F := 13) hs (some 5) (v := W r26) rfl rfl rfl rfl (Try.call13 _) (fred_c a r26 ha hr26) rfl fun ac w hs => ?_)
            exact hs
          · intro L ac w hJ
            have hs := hJ
            refine wpO_in hs rfl rfl rfl (op_bin hs (some 6) (v := .bool true) rfl rfl rfl rfl (fun w => run_eqGuard_agg w .neq 24 _ _ _ _ Try.eqGuardType24) (neqW y23 r26 ly23 lr26 true (decide_eq_true (by rw [← hy23, ← hr26, ← hr22]; exact hq3))) rfl fun ac hs => ?_)
            exact hs
          · intro L ac w hJ
            have hs := hJ
            refine wpO_in hs rfl rfl rfl (op_move hs (some 7) rfl rfl rfl rfl fun ac hs => ?_)
            exact hs
          · intro L ac w hJ
            have hs := hJ
            refine wpO_in hs rfl rfl rfl (op_load hs (some 8) 1 (v := W y23) rfl rfl rfl rfl Try.isAgg24 Try.sizeOf24 rfl rfl fun ac hs => ?_)
            exact hs
          · intro L ac w hJ
            have hs := hJ
            refine wpO_in hs rfl rfl rfl (op_load hs (some 9) 0 (v := W a) rfl rfl rfl rfl Try.isAgg24 Try.sizeOf24 rfl rfl fun ac hs => ?_)
            exact hs
          · intro L ac w hJ
            have hs := hJ
            refine wpO_in hs rfl rfl rfl (op_call (F := 19) hs (some 10) (v := W r27) rfl rfl rfl rfl (Try.call19 _) (fneg_c a r27 ha hr27) rfl fun ac w hs => ?_)
            exact hs
          · intro L ac w hJ
            have hs := hJ
            refine wpO_in hs rfl rfl rfl (op_bin hs (some 11) (v := .bool false) rfl rfl rfl rfl (fun w => run_eqGuard_agg w .neq 24 _ _ _ _ Try.eqGuardType24) (neqW y23 r27 ly23 lr27 false (decide_eq_false (not_not_intro (by rw [← hy23, ← hr27, ← hr22]; exact (frV_sq a).resolve_left hq3)))) rfl fun ac hs => ?_)
            exact hs
          · intro L ac w hJ
            have hs := hJ
            refine wpO_in hs rfl rfl rfl (op_pickT hs (some 12) rfl rfl rfl rfl rfl fun ac hs => ?_)
            exact hs
          · intro L ac w hJ
            have hs := hJ
            refine wpO_plain rfl (op_pickF hs (some 13) rfl rfl rfl rfl rfl fun ac hs => ?_)
            exact hs
        intro ac w hJ
        replace hs : St 86 w0 [(17, true, .bool true), (18, true, .bool false), (19, true, .bool false), (20, true, W y23), (21, true, W a), (22, true, W r26), (23, true, .bool true), (24, true, .bool true), (25, true, W y23), (26, true, W a), (27, true, W r27), (28, true, .bool false), (29, true, .bool false), (30, true, .bool false), (1, true, .pointer (some ⟨g21, 0, none⟩)), (2, true, .bool false), (3, true, .pointer (some ⟨g25, 0, none⟩)), (4, true, .bool true)] [(true, g21, 24, (Wl a)), (true, g25, 24, (Wl y23))] ac w := hJ
        refine then_n ?_
        refine wp_cond_false (hs.ev rfl) ?_
        refine wp_skip ?_
        refine then_n ?_
        refine wp_seq ?_
        refine wp_region_lit ?_
        refine lstep (wpO_plain rfl (op_load hs none 0 (v := W a) rfl rfl rfl rfl Try.isAgg24 Try.sizeOf24 rfl rfl fun ac hs => ?_))
        obtain ⟨y28, hy28, ly28⟩ : ∃ z0, frV a = z0 ∧ z0 < 2 ^ 256 := ⟨_, rfl, frV_lt _⟩
        refine lstep (wpO_plain rfl (op_call (F := 23) hs none (v := .tuple #[W y28, .bool true]) rfl rfl rfl rfl (Try.call23 _) (froot_c a y28 true ha hy28 hq1) rfl fun ac w hs => ?_))
        refine lstep (wpO_plain rfl (op_move hs none rfl rfl rfl rfl fun ac hs => ?_))
        refine lstep (wpO_plain rfl (op_extract hs none rfl rfl rfl rfl rfl fun ac hs => ?_))
        refine lstep (wpO_plain rfl (op_extract hs none rfl rfl rfl rfl rfl fun ac hs => ?_))
        refine lstep (wpO_plain rfl (op_alloc hs none none (cs := [.int .u64 0, .int .u64 0, .int .u64 0, .int .u64 0]) rfl rfl Try.zeroValue24 (by kernel_rfl) rfl rfl fun g30 ac w hs => ?_))
        refine lstep (wpO_plain rfl (op_store hs 2 (vs := (Wl y28)) rfl rfl rfl rfl rfl Try.sizeOf24 rfl rfl rfl rfl rfl fun w hs => ?_))
        refine lstep (wpO_plain rfl (op_assign hs none rfl rfl rfl rfl fun ac hs => ?_))
        refine wpList_nil ?_
        refine then_n ?_
        refine wp_seq ?_
        refine wp_seq ?_
        replace hs : St 86 w0 [(1, true, .pointer (some ⟨g21, 0, none⟩)), (2, true, .bool false), (5, true, .pointer (some ⟨g30, 0, none⟩)), (6, true, .bool true)] [(true, g21, 24, (Wl a)), (true, g25, 24, (Wl y23)), (true, g30, 24, (Wl y28))] ac w := hs.re ⟨rfl, rfl, rfl, rfl, trivial⟩
        obtain ⟨r31, hr31, lr31⟩ : ∃ z0, y28 * y28 % Pf = z0 ∧ z0 < 2 ^ 256 := ⟨_, rfl, modP_lt _⟩
        obtain ⟨r32, hr32, lr32⟩ : ∃ z0, a % Pf = z0 ∧ z0 < 2 ^ 256 := ⟨_, rfl, modP_lt _⟩
        have l33 := limN_lt y28 0
        refine region_inv [([], [1, 2, 3, 4, 5, 6, 7, 8, 9, 10, 11, 12, 13, 14, 15, 16, 17, 18, 19, 20]), ([0], [2, 3, 4, 5, 6, 7, 8, 9, 10, 11, 12, 13, 14, 15, 16, 17, 18, 19, 20]), ([0, 1], [4, 6, 7, 8, 9, 10, 11, 12, 13, 14, 15, 16, 17, 18, 19, 20]), ([0, 1], [4, 6, 7, 8, 9, 10, 11, 12, 13, 14, 15, 16, 17, 18, 19, 20]), ([0, 1, 2, 3], [6, 7, 8, 9, 10, 11, 12, 13, 14, 15, 16, 17, 18, 19, 20]), ([0, 1], [6, 7, 8, 9, 10, 11, 12, 13, 14, 15, 16, 17, 18, 19, 20]), ([0, 1, 2, 3, 4, 5], [7, 8, 9, 10, 11, 12, 13, 14, 15, 16, 17, 18, 19, 20]), ([0, 1, 2, 3, 4, 5, 6], [8, 9, 10, 11, 12, 13, 14, 15, 16, 17, 18, 19, 20]), ([0, 1, 2, 3, 4, 5, 6, 7], [9, 10, 11, 12, 13, 14, 15, 16, 17, 18, 19, 20]), ([0, 1, 2, 3, 4, 5, 6, 7, 8], [10, 11, 12, 13, 14, 15, 16, 17, 18, 19, 20]), ([0, 1, 2, 3, 4, 5, 6, 7, 8, 9], [11, 12, 13, 14, 15, 16, 17, 18, 19, 20]), ([0, 1, 2, 3, 4, 5, 6, 7, 8, 9, 10], [12, 13, 14, 15, 16, 17, 18, 19, 20]), ([0, 1, 2, 3, 4, 5, 6, 7, 8, 9, 10, 11], [13, 14, 15, 16, 17, 18, 19, 20]), ([0, 1, 2, 3, 4, 5, 6, 7, 8, 9, 10, 11, 12], [14, 15, 16, 17, 18, 19, 20]), ([0, 1, 2, 3, 4, 5, 6, 7, 8, 9, 10, 11, 12, 13], [15, 16, 17, 18, 19, 20]), ([0, 1, 2, 3, 4, 5, 6, 7, 8, 9, 10, 11, 12, 13, 14], [17, 18, 19, 20]), ([0, 1, 2, 3, 4, 5, 6, 7, 8, 9, 10, 11, 12, 13, 14], [17, 18, 19, 20]), ([0, 1, 2, 3, 4, 5, 6, 7, 8, 9, 10, 11, 12, 13, 14, 15, 16], [18, 19, 20]), ([0, 1, 2, 3, 4, 5, 6, 7, 8, 9, 10, 11, 12, 13, 14, 15, 16, 17], [19, 20]), ([0, 1, 2, 3, 4, 5, 6, 7, 8, 9, 10, 11, 12, 13, 14, 15, 16, 17, 18], [20]), ([0, 1, 2, 3, 4, 5, 6, 7, 8, 9, 10, 11, 12, 13, 14, 15, 16, 17, 18, 19], [])] (fun L ac w => St 86 w0 [(36, L 0, .bool true), (37, L 1, .bool true), (38, L 2, W y28), (39, L 3, W y28), (40, L 4, W r31), (41, L 5, W a), (42, L 6, W r32), (43, L 7, .bool false), (44, L 8, .bool false), (45, L 9, .pointer (some ⟨g30, 0, none⟩)), (46, L 10, .int .u64 (lim y28 0)), (47, L 11, .int .u64 (((limN y28 0) % 2 : Nat) : Int)), (48, L 12, .bool false), (49, L 13, .bool false), (50, L 14, .bool false), (51, L 15, W y28), (52, L 16, W Pf), (53, L 17, .int .i64 (cmpZ y28 Pf)), (54, L 18, .bool false), (55, L 19, .bool false), (56, L 20, .bool false), (1, true, .pointer (some ⟨g21, 0, none⟩)), (2, true, .bool false), (5, true, .pointer (some ⟨g30, 0, none⟩)), (6, true, .bool true)] [(true, g21, 24, (Wl a)), (true, g25, 24, (Wl y23)), (true, g30, 24, (Wl y28))] ac w) (by kernel_rfl) (by kernel_rfl) ?_ ?_ ?_
        · exact hs.drew.skip.skip.skip.skip.skip.skip.skip.skip.skip.skip.skip.skip.skip.skip.skip.skip.skip.skip.skip.skip.skip
        · refine ⟨?_, ?_, ?_, ?_, ?_, ?_, ?_, ?_, ?_, ?_, ?_, ?_, ?_, ?_, ?_, ?_, ?_, ?_, ?_, ?_, ?_, trivial⟩
          · intro L ac w hJ
            have hs := hJ
            refine wpO_plain rfl (op_move hs (some 0) rfl rfl rfl rfl fun ac hs => ?_)
            exact hs
          · intro L ac w hJ
            have hs := hJ
            refine wpO_plain rfl (op_move hs (some 1) rfl rfl rfl rfl fun ac hs => ?_)
            exact hs
          · intro L ac w hJ
            have hs := hJ
            refine wpO_in hs rfl rfl rfl (op_load hs (some 2) 2 (v := W y28) rfl rfl rfl rfl Try.isAgg24 Try.sizeOf24 rfl rfl fun ac hs => ?_)
            exact hs
          · intro L ac w hJ
            have hs := hJ
            refine wpO_in hs rfl rfl rfl (op_load hs (some 3) 2 (v := W y28) rfl rfl rfl rfl Try.isAgg24 Try.sizeOf24 rfl rfl fun ac hs => ?_)
            exact hs
          · intro L ac w hJ
            have hs := hJ
            refine wpO_in hs rfl rfl rfl (op_call (F := 21) hs (some 4) (v := W r31) rfl rfl rfl rfl (Try.call21 _) (fmul_c y28 y28 r31 ly28 ly28 hr31) rfl fun ac w hs => ?_)
            exact hs
          · intro L ac w hJ
            have hs := hJ
            refine wpO_in hs rfl rfl rfl (op_load hs (some 5) 0 (v := W a) rfl rfl rfl rfl Try.isAgg24 Try.sizeOf24 rfl rfl fun ac hs => ?_)
            exact hs
          · intro L ac w hJ
            have hs := hJ
            refine wpO_in hs rfl rfl rfl (op_call (F := 13) hs (some 6) (v := W r32) rfl rfl rfl rfl (Try.call13 _) (fred_c a r32 ha hr32) rfl fun ac w hs => ?_)
            exact hs
          · intro L ac w hJ
            have hs := hJ
            refine wpO_in hs rfl rfl rfl (op_bin hs (some 7) (v := .bool false) rfl rfl rfl rfl (fun w => run_eqGuard_agg w .neq 24 _ _ _ _ Try.eqGuardType24) (neqW r31 r32 lr31 lr32 false (decide_eq_false (not_not_intro (by rw [← hr31, ← hr32, ← hy28]; exact frV_mul hq1)))) rfl fun ac hs => ?_)
            exact hs
          · intro L ac w hJ
            have hs := hJ
            refine wpO_in hs rfl rfl rfl (op_move hs (some 8) rfl rfl rfl rfl fun ac hs => ?_)
            exact hs
          · intro L ac w hJ
            have hs := hJ
            refine wpO_in hs rfl rfl rfl (op_idxA hs (some 9) (j := 0) rfl rfl rfl rfl Try.underlying24 Try.sizeOf22 (by decide) (off := 0) rfl rfl fun ac hs => ?_)
            exact hs
          · intro L ac w hJ
            have hs := hJ
            refine wpO_in hs rfl rfl rfl (op_load hs (some 10) 2 (v := .int .u64 (lim y28 0)) rfl rfl rfl rfl Try.isAgg22 Try.sizeOf22 rfl rfl fun ac hs => ?_)
            exact hs
          · intro L ac w hJ
            have hs := hJ
            refine wpO_in hs rfl rfl rfl (op_bin hs (some 11) (v := .int .u64 (((limN y28 0) % 2 : Nat) : Int)) rfl rfl rfl rfl (fun _ => rfl) (bin_remN (x := limN y28 0) (y := 2) (z := (limN y28 0) % 2) rfl (by decide)) rfl fun ac hs => ?_)
            exact hs
          · intro L ac w hJ
            have hs := hJ
            refine wpO_in hs rfl rfl rfl (op_bin hs (some 12) (v := .bool false) rfl rfl rfl rfl (fun _ => rfl) (fun w => dF (Classical.not_not.2 (by rw [lim_odd, ← hy28]; exact frV_even2 a)) (bin_neqN (x := (limN y28 0) % 2) (y := 0) w)) rfl fun ac hs => ?_)
            exact hs
          · intro L ac w hJ
            have hs := hJ
            refine wpO_in hs rfl rfl rfl (op_pickF hs (some 13) rfl rfl rfl rfl rfl fun ac hs => ?_)
            exact hs
          · intro L ac w hJ
            have hs := hJ
            refine wpO_in hs rfl rfl rfl (op_move hs (some 14) rfl rfl rfl rfl fun ac hs => ?_)
            exact hs
          · intro L ac w hJ
            have hs := hJ
            refine wpO_in hs rfl rfl rfl (op_load hs (some 15) 2 (v := W y28) rfl rfl rfl rfl Try.isAgg24 Try.sizeOf24 rfl rfl fun ac hs => ?_)
            exact hs
          · intro L ac w hJ
            have hs := hJ
            refine wpO_in hs rfl rfl rfl (op_call (F := 11) hs (some 16) (v := W Pf) rfl rfl rfl rfl (Try.call11 _) prime_c rfl fun ac w hs => ?_)
            exact hs
          · intro L ac w hJ
            have hs := hJ
            refine wpO_in hs rfl rfl rfl (op_call (F := 29) hs (some 17) (v := .int .i64 (cmpZ y28 Pf)) rfl rfl rfl rfl (Try.call29 _) (fun w => cmp_any w y28 Pf ly28 Pf_lt) rfl fun ac w hs => ?_)
            exact hs
          · intro L ac w hJ
            have hs := hJ
            refine wpO_in hs rfl rfl rfl (op_bin hs (some 18) (v := .bool false) rfl rfl rfl rfl (fun _ => rfl) (fun w => dF (Nat.not_le.2 (by rw [← hy28]; exact frV_ltP _)) (bin_cmp_geq y28 Pf w)) rfl fun ac hs => ?_)
            exact hs
          · intro L ac w hJ
            have hs := hJ
            refine wpO_in hs rfl rfl rfl (op_pickF hs (some 19) rfl rfl rfl rfl rfl fun ac hs => ?_)
            exact hs
          · intro L ac w hJ
            have hs := hJ
            refine wpO_plain rfl (op_pickT hs (some 20) rfl rfl rfl rfl rfl fun ac hs => ?_)
            exact hs
        intro ac w hJ
        replace hs : St 86 w0 [(36, true, .bool true), (37, true, .bool true), (38, true, W y28), (39, true, W y28), (40, true, W r31), (41, true, W a), (42, true, W r32), (43, true, .bool false), (44, true, .bool false), (45, true, .pointer (some ⟨g30, 0, none⟩)), (46, true, .int .u64 (lim y28 0)), (47, true, .int .u64 (((limN y28 0) % 2 : Nat) : Int)), (48, true, .bool false), (49, true, .bool false), (50, true, .bool false), (51, true, W y28), (52, true, W Pf), (53, true, .int .i64 (cmpZ y28 Pf)), (54, true, .bool false), (55, true, .bool false), (56, true, .bool false), (1, true, .pointer (some ⟨g21, 0, none⟩)), (2, true, .bool false), (5, true, .pointer (some ⟨g30, 0, none⟩)), (6, true, .bool true)] [(true, g21, 24, (Wl a)), (true, g25, 24, (Wl y23)), (true, g30, 24, (Wl y28))] ac w := hJ
        refine then_n ?_
        refine wp_cond_false (hs.ev rfl) ?_
        refine wp_skip ?_
        refine then_n ?_
        refine wp_seq ?_
        refine wp_region_lit ?_
        refine lstep (wpO_plain rfl (op_load hs none 0 (v := W a) rfl rfl rfl rfl Try.isAgg24 Try.sizeOf24 rfl rfl fun ac hs => ?_))
        obtain ⟨r34, hr34, lr34⟩ : ∃ z0, fsub 0 a = z0 ∧ z0 < 2 ^ 256 := ⟨_, rfl, fsub_lt _ _⟩
        refine lstep (wpO_plain rfl (op_call (F := 19) hs none (v := W r34) rfl rfl rfl rfl (Try.call19 _) (fneg_c a r34 ha hr34) rfl fun ac w hs => ?_))
        obtain ⟨y35, hy35, ly35⟩ : ∃ z0, frV r34 = z0 ∧ z0 < 2 ^ 256 := ⟨_, rfl, frV_lt _⟩
        refine lstep (wpO_plain rfl (op_call (F := 23) hs none (v := .tuple #[W y35, .bool true]) rfl rfl rfl rfl (Try.call23 _) (froot_c r34 y35 true lr34 hy35 (by rw [← hr34]; exact frB_negzero hq2)) rfl fun ac w hs => ?_))
        refine lstep (wpO_plain rfl (op_move hs none rfl rfl rfl rfl fun ac hs => ?_))
        refine lstep (wpO_plain rfl (op_extract hs none rfl rfl rfl rfl rfl fun ac hs => ?_))
        refine lstep (wpO_plain rfl (op_extract hs none rfl rfl rfl rfl rfl fun ac hs => ?_))
        refine lstep (wpO_plain rfl (op_alloc hs none none (cs := [.int .u64 0, .int .u64 0, .int .u64 0, .int .u64 0]) rfl rfl Try.zeroValue24 (by kernel_rfl) rfl rfl fun g37 ac w hs => ?_))
        refine lstep (wpO_plain rfl (op_store hs 3 (vs := (Wl y35)) rfl rfl rfl rfl rfl Try.sizeOf24 rfl rfl rfl rfl rfl fun w hs => ?_))
        refine lstep (wpO_plain rfl (op_assign hs none rfl rfl rfl rfl fun ac hs => ?_))
        refine wpList_nil ?_
        refine then_n ?_
        refine wp_seq ?_
        refine wp_region_lit ?_
        refine lstep (wpO_plain rfl (op_load hs none 0 (v := W a) rfl rfl rfl rfl Try.isAgg24 Try.sizeOf24 rfl rfl fun ac hs => ?_))
        obtain ⟨r38, hr38, lr38⟩ : ∃ z0, a % Pf = z0 ∧ z0 < 2 ^ 256 := ⟨_, rfl, modP_lt _⟩
        refine lstep (wpO_plain rfl (op_call (F := 13) hs none (v := W r38) rfl rfl rfl rfl (Try.call13 _) (fred_c a r38 ha hr38) rfl fun ac w hs => ?_))
        refine lstep (wpO_plain rfl (op_build hs none (qs := []) (v := .agg #[.int .u64 0, .int .u64 0, .int .u64 0, .int .u64 0]) rfl rfl rfl rfl (fun _ => by kernel_rfl) rfl fun ac hs => ?_))
        refine lstep (wpO_plain rfl (op_bin hs none (v := .bool true) rfl rfl rfl rfl (fun w => run_eqGuard_agg w .eql 24 _ _ _ _ Try.eqGuardType24) (eqlW r38 0 lr38 (by decide) true (decide_eq_true (by rw [← hr38]; exact hq2))) rfl fun ac hs => ?_))
        refine lstep (wpO_plain rfl (op_assign hs none rfl rfl rfl rfl fun ac hs => ?_))
        refine wpList_nil ?_
        refine then_n ?_
        refine wp_seq ?_
        refine wp_region_lit ?_
        refine lstep (wpO_plain rfl (op_call (F := 10) hs none (v := .bool true) rfl rfl rfl rfl (Try.call10 _) alive_c rfl fun ac w hs => ?_))
        refine lstep (wpO_plain rfl (op_move hs none rfl rfl rfl rfl fun ac hs => ?_))
        refine lstep (wpO_in hs rfl rfl rfl (op_move hs none rfl rfl rfl rfl fun ac hs => ?_))
        refine lstep (wpO_in hs rfl rfl rfl (op_move hs none rfl rfl rfl rfl fun ac hs => ?_))
        refine lstep (wpO_in hs rfl rfl rfl (op_move hs none rfl rfl rfl rfl fun ac hs => ?_))
        refine lstep (wpO_in hs rfl rfl rfl (op_pickT hs none rfl rfl rfl rfl rfl fun ac hs => ?_))
        refine lstep (wpO_in hs rfl rfl rfl (op_move hs none rfl rfl rfl rfl fun ac hs => ?_))
        refine lstep (wpO_in hs rfl rfl rfl (op_move hs none rfl rfl rfl rfl fun ac hs => ?_))
        refine lstep (wpO_in hs rfl rfl rfl (op_pickT hs none rfl rfl rfl rfl rfl fun ac hs => ?_))
        refine lstep (wpO_in hs rfl rfl rfl (op_move hs none rfl rfl rfl rfl fun ac hs => ?_))
        refine lstep (wpO_out hs none rfl rfl (.inl rfl) rfl rfl fun ac hs => ?_)
        refine lstep (wpO_out hs none rfl rfl (.inl rfl) rfl rfl fun ac hs => ?_)
        refine lstep (wpO_out hs none rfl rfl (.inl rfl) rfl rfl fun ac hs => ?_)
        refine lstep (wpO_out hs none rfl rfl (.inr rfl) rfl rfl fun ac hs => ?_)
        refine lstep (wpO_out hs none rfl rfl (.inr rfl) rfl rfl fun ac hs => ?_)
        refine lstep (wpO_out hs none rfl rfl (.inr rfl) rfl rfl fun ac hs => ?_)
        refine lstep (wpO_out hs none rfl rfl (.inl rfl) rfl rfl fun ac hs => ?_)
        refine lstep (wpO_in hs rfl rfl rfl (op_pickT hs none rfl rfl rfl rfl rfl fun ac hs => ?_))
        refine lstep (wpO_plain rfl (op_pickT hs none rfl rfl rfl rfl rfl fun ac hs => ?_))
        refine lstep (wpO_plain rfl (op_assign hs none rfl rfl rfl rfl fun ac hs => ?_))
        refine wpList_nil ?_
        refine then_n ?_
        refine wp_ret ?_
        exact bodyPost_ret (res1 rfl (rv_t hs rfl)) hs.defers ⟨rfl, hs.below⟩
    · skip
      by_cases hq39 : frV (a * a % Pf) = a % Pf
      · skip
        refine wp_region_lit ?_
        refine lstep (wpO_plain rfl (op_box hs none none (cs := (Wl a)) rfl rfl rfl rfl rfl rfl fun g40 ac w hs => ?_))
        refine lstep (wpO_plain rfl (op_assign hs none rfl rfl rfl rfl fun ac hs => ?_))
        refine wpList_nil ?_
        refine then_n ?_
        refine wp_seq ?_
        refine wp_region_lit ?_
        refine lstep (wpO_plain rfl (op_load hs none 0 (v := W a) rfl rfl rfl rfl Try.isAgg24 Try.sizeOf24 rfl rfl fun ac hs => ?_))
        refine lstep (wpO_plain rfl (op_load hs none 0 (v := W a) rfl rfl rfl rfl Try.isAgg24 Try.sizeOf24 rfl rfl fun ac hs => ?_))
        obtain ⟨r41, hr41, lr41⟩ : ∃ z0, a * a % Pf = z0 ∧ z0 < 2 ^ 256 := ⟨_, rfl, modP_lt _⟩
        refine lstep (wpO_plain rfl (op_call (F := 21) hs none (v := W r41) rfl rfl rfl rfl (Try.call21 _) (fmul_c a a r41 ha ha hr41) rfl fun ac w hs => ?_))
        obtain ⟨y42, hy42, ly42⟩ : ∃ z0, frV r41 = z0 ∧ z0 < 2 ^ 256 := ⟨_, rfl, frV_lt _⟩
        refine lstep (wpO_plain rfl (op_call (F := 23) hs none (v := .tuple #[W y42, .bool true]) rfl rfl rfl rfl (Try.call23 _) (froot_c r41 y42 true lr41 hy42 (by rw [← hr41]; exact frB_sq _)) rfl fun ac w hs => ?_))
        refine lstep (wpO_plain rfl (op_move hs none rfl rfl rfl rfl fun ac hs => ?_))
        refine lstep (wpO_plain rfl (op_extract hs none rfl rfl rfl rfl rfl fun ac hs => ?_))
        refine lstep (wpO_plain rfl (op_extract hs none rfl rfl rfl rfl rfl fun ac hs => ?_))
        refine lstep (wpO_plain rfl (op_alloc hs none none (cs := [.int .u64 0, .int .u64 0, .int .u64 0, .int .u64 0]) rfl rfl Try.zeroValue24 (by kernel_rfl) rfl rfl fun g44 ac w hs => ?_))
        refine lstep (wpO_plain rfl (op_store hs 1 (vs := (Wl y42)) rfl rfl rfl rfl rfl Try.sizeOf24 rfl rfl rfl rfl rfl fun w hs => ?_))
        refine lstep (wpO_plain rfl (op_assign hs none rfl rfl rfl rfl fun ac hs => ?_))
        refine wpList_nil ?_
        refine then_n ?_
        refine wp_seq ?_
        refine wp_seq ?_
        replace hs : St 86 w0 [(1, true, .pointer (some ⟨g40, 0, none⟩)), (2, true, .bool false), (3, true, .pointer (some ⟨g44, 0, none⟩)), (4, true, .bool true)] [(true, g40, 24, (Wl a)), (true, g44, 24, (Wl y42))] ac w := hs.re ⟨rfl, rfl, rfl, rfl, trivial⟩
        obtain ⟨r45, hr45, lr45⟩ : ∃ z0, a % Pf = z0 ∧ z0 < 2 ^ 256 := ⟨_, rfl, modP_lt _⟩
        refine region_inv [([], [1, 2, 3, 4, 5, 6, 7, 8, 9, 10, 11, 12, 13]), ([0], [2, 3, 4, 5, 6, 7, 8, 9, 10, 11, 12, 13]), ([0, 1], [3, 4, 5, 6, 7, 8, 9, 10, 11, 12, 13]), ([0, 1, 2], [6, 7, 8, 9, 10, 11, 12, 13]), ([0, 1, 2], [5, 6, 7, 8, 9, 10, 11, 12, 13]), ([0, 1, 2, 4], [6, 7, 8, 9, 10, 11, 12, 13]), ([0, 1, 2, 3, 4, 5], [7, 8, 9, 10, 11, 12, 13]), ([0, 1, 2, 3, 4, 5, 6], [8, 9, 10, 11, 12, 13]), ([0, 1, 2, 3, 4, 5, 6, 7], [11, 12, 13]), ([0, 1, 2, 3, 4, 5, 6, 7], [10, 11, 12, 13]), ([0, 1, 2, 3, 4, 5, 6, 7, 9], [11, 12, 13]), ([0, 1, 2, 3, 4, 5, 6, 7, 8, 9, 10], [12, 13]), ([0, 1, 2, 3, 4, 5, 6, 7, 8, 9, 10, 11], [13]), ([0, 1, 2, 3, 4, 5, 6, 7, 8, 9, 10, 11, 12], [])] (fun L ac w => St 86 w0 [(17, L 0, .bool true), (18, L 1, .bool false), (19, L 2, .bool false), (20, L 3, W y42), (21, L 4, W a), (22, L 5, W r45), (23, L 6, .bool false), (24, L 7, .bool false), (25, L 8, undef), (26, L 9, undef), (27, L 10, undef), (28, L 11, undef), (29, L 12, .bool false), (30, L 13, .bool false), (1, true, .pointer (some ⟨g40, 0, none⟩)), (2, true, .bool false), (3, true, .pointer (some ⟨g44, 0, none⟩)), (4, true, .bool true)] [(true, g40, 24, (Wl a)), (true, g44, 24, (Wl y42))] ac w) (by kernel_rfl) (by kernel_rfl) ?_ ?_ ?_
        · exact hs.drew.skip.skip.skip.skip.skip.skip.skip.skip.skip.skip.skip.skip.skip.skip
        · refine ⟨?_, ?_, ?_, ?_, ?_, ?_, ?_, ?_, ?_, ?_, ?_, ?_, ?_, ?_, trivial⟩
          · intro L ac w hJ
            have hs := hJ
            refine wpO_plain rfl (op_move hs (some 0) rfl rfl rfl rfl fun ac hs => ?_)
            exact hs
          · intro L ac w hJ
            have hs := hJ
            refine wpO_plain rfl (op_un hs (some 1) (v := .bool false) rfl rfl rfl (fun _ => rfl) rfl fun ac hs => ?_)
            exact hs
          · intro L ac w hJ
            have hs := hJ
            refine wpO_plain rfl (op_move hs (some 2) rfl rfl rfl rfl fun ac hs => ?_)
            exact hs
          · intro L ac w hJ
            have hs := hJ
            refine wpO_in hs rfl rfl rfl (op_load hs (some 3) 1 (v := W y42) rfl rfl rfl rfl Try.isAgg24 Try.sizeOf24 rfl rfl fun ac hs => ?_)
            exact hs
          · intro L ac w hJ
            have hs := hJ
            refine wpO_in hs rfl rfl rfl (op_load hs (some 4) 0 (v := W a) rfl rfl rfl rfl Try.isAgg24 Try.sizeOf24 rfl rfl fun ac hs => ?_)
            exact hs
          · intro L ac w hJ
            have hs := hJ
            refine wpO_in hs rfl rfl rfl (op_call (F := 13) hs (some 5) (v := W r45) rfl rfl rfl rfl (Try.call13 _) (fred_c a r45 ha hr45) rfl fun ac w hs => ?_)
            exact hs
          · intro L ac w hJ
            have hs := hJ
            refine wpO_in hs rfl rfl rfl (op_bin hs (some 6) (v := .bool false) rfl rfl rfl rfl (fun w => run_eqGuard_agg w .neq 24 _ _ _ _ Try.eqGuardType24) (neqW y42 r45 ly42 lr45 false (decide_eq_false (not_not_intro (by rw [← hy42, ← hr45, ← hr41]; exact hq39)))) rfl fun ac hs => ?_)
            exact hs
          · intro L ac w hJ
            have hs := hJ
            refine wpO_in hs rfl rfl rfl (op_move hs (some 7) rfl rfl rfl rfl fun ac hs => ?_)
            exact hs
          · intro L ac w hJ
            have hs := hJ
            refine wpO_out hs (some 8) rfl rfl (.inl rfl) rfl rfl fun ac hs => ?_
            exact hs
          · intro L ac w hJ
            have hs := hJ
            refine wpO_out hs (some 9) rfl rfl (.inl rfl) rfl rfl fun ac hs => ?_
            exact hs
          · intro L ac w hJ
            have hs := hJ
            refine wpO_out hs (some 10) rfl rfl (.inl rfl) rfl rfl fun ac hs => ?_
            exact hs
          · intro L ac w hJ
            have hs := hJ
            refine wpO_out hs (some 11) rfl rfl (.inl rfl) rfl rfl fun ac hs => ?_
            exact hs
          · intro L ac w hJ
            have hs := hJ
            refine wpO_in hs rfl rfl rfl (op_pickF hs (some 12) rfl rfl rfl rfl rfl fun ac hs => ?_)
            exact hs
          · intro L ac w hJ
            have hs := hJ
            refine wpO_plain rfl (op_pickF hs (some 13) rfl rfl rfl rfl rfl fun ac hs => ?_)
            exact hs
        intro ac w hJ
        replace hs : St 86 w0 [(17, true, .bool true), (18, true, .bool false), (19, true, .bool false), (20, true, W y42), (21, true, W a), (22, true, W r45), (23, true, .bool false), (24, true, .bool false), (25, true, undef), (26, true, undef), (27, true, undef), (28, true, undef), (29, true, .bool false), (30, true, .bool false), (1, true, .pointer (some ⟨g40, 0, none⟩)), (2, true, .bool false), (3, true, .pointer (some ⟨g44, 0, none⟩)), (4, true, .bool true)] [(true, g40, 24, (Wl a)), (true, g44, 24, (Wl y42))] ac w := hJ
        refine then_n ?_
        refine wp_cond_false (hs.ev rfl) ?_
        refine wp_skip ?_
        refine then_n ?_
        refine wp_seq ?_
        refine wp_region_lit ?_
        refine lstep (wpO_plain rfl (op_load hs none 0 (v := W a) rfl rfl rfl rfl Try.isAgg24 Try.sizeOf24 rfl rfl fun ac hs => ?_))
        obtain ⟨y46, hy46, ly46⟩ : ∃ z0, frV a = z0 ∧ z0 < 2 ^ 256 := ⟨_, rfl, frV_lt _⟩
        refine lstep (wpO_plain rfl (op_call (F := 23) hs none (v := .tuple #[W y46, .bool true]) rfl rfl rfl rfl (Try.call23 _) (froot_c a y46 true ha hy46 hq1) rfl fun ac w hs => ?_))
        refine lstep (wpO_plain rfl (op_move hs none rfl rfl rfl rfl fun ac hs => ?_))
        refine lstep (wpO_plain rfl (op_extract hs none rfl rfl rfl rfl rfl fun ac hs => ?_))
        refine lstep (wpO_plain rfl (op_extract hs none rfl rfl rfl rfl rfl fun ac hs => ?_))
        refine lstep (wpO_plain rfl (op_alloc hs none none (cs := [.int .u64 0, .int .u64 0, .int .u64 0, .int .u64 0]) rfl rfl Try.zeroValue24 (by kernel_rfl) rfl rfl fun g48 ac w hs => ?_))
        refine lstep (wpO_plain rfl (op_store hs 2 (vs := (Wl y46)) rfl rfl rfl rfl rfl Try.sizeOf24 rfl rfl rfl rfl rfl fun w hs => ?_))
        refine lstep (wpO_plain rfl (op_assign hs none rfl rfl rfl rfl fun ac hs => ?_))
        refine wpList_nil ?_
        refine then_n ?_
        refine wp_seq ?_
        refine wp_seq ?_
        replace hs : St 86 w0 [(1, true, .pointer (some ⟨g40, 0, none⟩)), (2, true, .bool false), (5, true, .pointer (some ⟨g48, 0, none⟩)), (6, true, .bool true)] [(true, g40, 24, (Wl a)), (true, g44, 24, (Wl y42)), (true, g48, 24, (Wl y46))] ac w := hs.re ⟨rfl, rfl, rfl, rfl, trivial⟩
        obtain ⟨r49, hr49, lr49⟩ : ∃ z0, y46 * y46 % Pf = z0 ∧ z0 < 2 ^ 256 := ⟨_, rfl, modP_lt _⟩
        obtain ⟨r50, hr50, lr50⟩ : ∃ z0, a % Pf = z0 ∧ z0 < 2 ^ 256 := ⟨_, rfl, modP_lt _⟩
        have l51 := limN_lt y46 0
        refine region_inv [([], [1, 2, 3, 4, 5, 6, 7, 8, 9, 10, 11, 12, 13, 14, 15, 16, 17, 18, 19, 20]), ([0], [2, 3, 4, 5, 6, 7, 8, 9, 10, 11, 12, 13, 14, 15, 16, 17, 18, 19, 20]), ([0, 1], [4, 6, 7, 8, 9, 10, 11, 12, 13, 14, 15, 16, 17, 18, 19, 20]), ([0, 1], [4, 6, 7, 8, 9, 10, 11, 12, 13, 14, 15, 16, 17, 18, 19, 20]), ([0, 1, 2, 3], [6, 7, 8, 9, 10, 11, 12, 13, 14, 15, 16, 17, 18, 19, 20]), ([0, 1], [6, 7, 8, 9, 10, 11, 12, 13, 14, 15, 16, 17, 18, 19, 20]), ([0, 1, 2, 3, 4, 5], [7, 8, 9, 10, 11, 12, 13, 14, 15, 16, 17, 18, 19, 20]), ([0, 1, 2, 3, 4, 5, 6], [8, 9, 10, 11, 12, 13, 14, 15, 16, 17, 18, 19, 20]), ([0, 1, 2, 3, 4, 5, 6, 7], [9, 10, 11, 12, 13, 14, 15, 16, 17, 18, 19, 20]), ([0, 1, 2, 3, 4, 5, 6, 7, 8], [10, 11, 12, 13, 14, 15, 16, 17, 18, 19, 20]), ([0, 1, 2, 3, 4, 5, 6, 7, 8, 9], [11, 12, 13, 14, 15, 16, 17, 18, 19, 20]), ([0, 1, 2, 3, 4, 5, 6, 7, 8, 9, 10], [12, 13, 14, 15, 16, 17, 18, 19, 20]), ([0, 1, 2, 3, 4, 5, 6, 7, 8, 9, 10, 11], [13, 14, 15, 16, 17, 18, 19, 20]), ([0, 1, 2, 3, 4, 5, 6, 7, 8, 9, 10, 11, 12], [14, 15, 16, 17, 18, 19, 20]), ([0, 1, 2, 3, 4, 5, 6, 7, 8, 9, 10, 11, 12, 13], [15, 16, 17, 18, 19, 20]), ([0, 1, 2, 3, 4, 5, 6, 7, 8, 9, 10, 11, 12, 13, 14], [17, 18, 19, 20]), ([0, 1, 2, 3, 4, 5, 6, 7, 8, 9, 10, 11, 12, 13, 14], [17, 18, 19, 20]), ([0, 1, 2, 3, 4, 5, 6, 7, 8, 9, 10, 11, 12, 13, 14, 15, 16], [18, 19, 20]), ([0, 1, 2, 3, 4, 5, 6, 7, 8, 9, 10, 11, 12, 13, 14, 15, 16, 17], [19, 20]), ([0, 1, 2, 3, 4, 5, 6, 7, 8, 9, 10, 11, 12, 13, 14, 15, 16, 17, 18], [20]), ([0, 1, 2, 3, 4, 5, 6, 7, 8, 9, 10, 11, 12, 13, 14, 15, 16, 17, 18, 19], [])] (fun L ac w => St 86 w0 [(36, L 0, .bool true), (37, L 1, .bool true), (38, L 2, W y46), (39, L 3, W y46), (40, L 4, W r49), (41, L 5, W a), (42, L 6, W r50), (43, L 7, .bool false), (44, L 8, .bool false), (45, L 9, .pointer (some ⟨g48, 0, none⟩)), (46, L 10, .int .u64 (lim y46 0)), (47, L 11, .int .u64 (((limN y46 0) % 2 : Nat) : Int)), (48, L 12, .bool false), (49, L 13, .bool false), (50, L 14, .bool false), (51, L 15, W y46), (52, L 16, W Pf), (53, L 17, .int .i64 (cmpZ y46 Pf)), (54, L 18, .bool false), (55, L 19, .bool false), (56, L 20, .bool false), (1, true, .pointer (some ⟨g40, 0, none⟩)), (2, true, .bool false), (5, true, .pointer (some ⟨g48, 0, none⟩)), (6, true, .bool true)] [(true, g40, 24, (Wl a)), (true, g44, 24, (Wl y42)), (true, g48, 24, (Wl y46))] ac w) (by kernel_rfl) (by kernel_rfl) ?_ ?_ ?_
        · exact hs.drew.skip.skip.skip.skip.skip.skip.skip.skip.skip.skip.skip.skip.skip.skip.skip.skip.skip.skip.skip.skip.skip
        · refine ⟨?_, ?_, ?_, ?_, ?_, ?_, ?_, ?_, ?_, ?_, ?_, ?_, ?_, ?_, ?_, ?_, ?_, ?_, ?_, ?_, ?_, trivial⟩
          · intro L ac w hJ
            have hs := hJ
            refine wpO_plain rfl (op_move hs (some 0) rfl rfl rfl rfl fun ac hs => ?_)
            exact hs
          · intro L ac w hJ
            have hs := hJ
            refine wpO_plain rfl (op_move hs (some 1) rfl rfl rfl rfl fun ac hs => ?_)
            exact hs
          · intro L ac w hJ
            have hs := hJ
            refine wpO_in hs rfl rfl rfl (op_load hs (some 2) 2 (v := W y46) rfl rfl rfl rfl Try.isAgg24 Try.sizeOf24 rfl rfl fun ac hs => ?_)
            exact hs
          · intro L ac w hJ
            have hs := hJ
            refine wpO_in hs rfl rfl rfl (op_load hs (some 3) 2 (v := W y46) rfl rfl rfl rfl Try.isAgg24 Try.sizeOf24 rfl rfl fun ac hs => ?_)
            exact hs
          · intro L ac w hJ
            have hs := hJ
            refine wpO_in hs rfl rfl rfl (op_call (F := 21) hs (some 4) (v := W r49) rfl rfl rfl rfl (Try.call21 _) (fmul_c y46 y46 r49 ly46 ly46 hr49) rfl fun ac w hs => ?_)
            exact hs
          · intro L ac w hJ
            have hs := hJ
            refine wpO_in hs rfl rfl rfl (op_load hs (some 5) 0 (v := W a) rfl rfl rfl rfl Try.isAgg24 Try.sizeOf24 rfl rfl fun ac hs => ?_)
            exact hs
          · intro L ac w hJ
            have hs := hJ
            refine wpO_in hs rfl rfl rfl (op_call (F := 13) hs (some 6) (v := W r50) rfl rfl rfl rfl (Try.call13 _) (fred_c a r50 ha hr50) rfl fun ac w hs => ?_)
            exact hs
          · intro L ac w hJ
            have hs := hJ
            refine wpO_in hs rfl rfl rfl (op_bin hs (some 7) (v := .bool false) rfl rfl rfl rfl (fun w => run_eqGuard_agg w .neq 24 _ _ _ _ Try.eqGuardType24) (neqW r49 r50 lr49 lr50 false (decide_eq_false (not_not_intro (by rw [← hr49, ← hr50, ← hy46]; exact frV_mul hq1)))) rfl fun ac hs => ?_)
            exact hs
          · intro L ac w hJ
            have hs := hJ
            refine wpO_in hs rfl rfl rfl (op_move hs (some 8) rfl rfl rfl rfl fun ac hs => ?_)
            exact hs
          · intro L ac w hJ
            have hs := hJ
            refine wpO_in hs rfl rfl rfl (op_idxA hs (some 9) (j := 0) rfl rfl rfl rfl Try.underlying24 Try.sizeOf22 (by decide) (off := 0) rfl rfl fun ac hs => ?_)
            exact hs
          · intro L ac w hJ
            have hs := hJ
            refine wpO_in hs rfl rfl rfl (op_load hs (some 10) 2 (v := .int .u64 (lim y46 0)) rfl rfl rfl rfl Try.isAgg22 Try.sizeOf22 rfl rfl fun ac hs => ?_)
            exact hs
          · intro L ac w hJ
            have hs := hJ
            refine wpO_in hs rfl rfl rfl (op_bin hs (some 11) (v := .int .u64 (((limN y46 0) % 2 : Nat) : Int)) rfl rfl rfl rfl (fun _ => rfl) (bin_remN (x := limN y46 0) (y := 2) (z := (limN y46 0) % 2) rfl (by decide)) rfl fun ac hs => ?_)
            exact hs
          · intro L ac w hJ
            have hs := hJ
            refine wpO_in hs rfl rfl rfl (op_bin hs (some 12) (v := .bool false) rfl rfl rfl rfl (fun _ => rfl) (fun w => dF (Classical.not_not.2 (by rw [lim_odd, ← hy46]; exact frV_even2 a)) (bin_neqN (x := (limN y46 0) % 2) (y := 0) w)) rfl fun ac hs => ?_)
            exact hs
          · intro L ac w hJ
            have hs := hJ
            refine wpO_in hs rfl rfl rfl (op_pickF hs (some 13) rfl rfl rfl rfl rfl fun ac hs => ?_)
            exact hs
          · intro L ac w hJ
            have hs := hJ
            refine wpO_in hs rfl rfl rfl (op_move hs (some 14) rfl rfl rfl rfl fun ac hs => ?_)
            exact hs
          · intro L ac w hJ
            have hs := hJ
            refine wpO_in hs rfl rfl rfl (op_load hs (some 15) 2 (v := W y46) rfl rfl rfl rfl Try.isAgg24 Try.sizeOf24 rfl rfl fun ac hs => ?_)
            exact hs
          · intro L ac w hJ
            have hs := hJ
            refine wpO_in hs rfl rfl rfl (op_call (F := 11) hs (some 16) (v := W Pf) rfl rfl rfl rfl (Try.call11 _) prime_c rfl fun ac w hs => ?_)
            exact hs
          · intro L ac w hJ
            have hs := hJ
            refine wpO_in hs rfl rfl rfl (op_call (F := 29) hs (some 17) (v := .int .i64 (cmpZ y46 Pf)) rfl rfl rfl rfl (Try.call29 _) (fun w => cmp_any w y46 Pf ly46 Pf_lt) rfl fun ac w hs => ?_)
            exact hs
          · intro L ac w hJ
            have hs := hJ
            refine wpO_in hs rfl rfl rfl (op_bin hs (some 18) (v := .bool false) rfl rfl rfl rfl (fun _ => rfl) (fun w => dF (Nat.not_le.2 (by rw [← hy46]; exact frV_ltP _)) (bin_cmp_geq y46 Pf w)) rfl fun ac hs => ?_)
            exact hs
          · intro L ac w hJ
            have hs := hJ
            refine wpO_in hs rfl rfl rfl (op_pickF hs (some 19) rfl rfl rfl rfl rfl fun ac hs => ?_)
            exact hs
          · intro L ac w hJ
            have hs := hJ
            refine wpO_plain rfl (op_pickT hs (some 20) rfl rfl rfl rfl rfl fun ac hs => ?_)
            exact hs
        intro ac w hJ
        replace hs : St 86 w0 [(36, true, .bool true), (37, true, .bool true), (38, true, W y46), (39, true, W y46), (40, true, W r49), (41, true, W a), (42, true, W r50), (43, true, .bool false), (44, true, .bool false), (45, true, .pointer (some ⟨g48, 0, none⟩)), (46, true, .int .u64 (lim y46 0)), (47, true, .int .u64 (((limN y46 0) % 2 : Nat) : Int)), (48, true, .bool false), (49, true, .bool false), (50, true, .bool false), (51, true, W y46), (52, true, W Pf), (53, true, .int .i64 (cmpZ y46 Pf)), (54, true, .bool false), (55, true, .bool false), (56, true, .bool false), (1, true, .pointer (some ⟨g40, 0, none⟩)), (2, true, .bool false), (5, true, .pointer (some ⟨g48, 0, none⟩)), (6, true, .bool true)] [(true, g40, 24, (Wl a)), (true, g44, 24, (Wl y42)), (true, g48, 24, (Wl y46))] ac w := hJ
        refine then_n ?_
        refine wp_cond_false (hs.ev rfl) ?_
        refine wp_skip ?_
        refine then_n ?_
        refine wp_seq ?_
        refine wp_region_lit ?_
        refine lstep (wpO_plain rfl (op_load hs none 0 (v := W a) rfl rfl rfl rfl Try.isAgg24 Try.sizeOf24 rfl rfl fun ac hs => ?_))
        obtain ⟨r52, hr52, lr52⟩ : ∃ z0, fsub 0 a = z0 ∧ z0 < 2 ^ 256 := ⟨_, rfl, fsub_lt _ _⟩
        refine lstep (wpO_plain rfl (op_call (F := 19) hs none (v := W r52) rfl rfl rfl rfl (Try.call19 _) (fneg_c a r52 ha hr52) rfl fun ac w hs => ?_))
        obtain ⟨y53, hy53, ly53⟩ : ∃ z0, frV r52 = z0 ∧ z0 < 2 ^ 256 := ⟨_, rfl, frV_lt _⟩
        refine lstep (wpO_plain rfl (op_call (F := 23) hs none (v := .tuple #[W y53, .bool false]) rfl rfl rfl rfl (Try.call23 _) (froot_c r52 y53 false lr52 hy53 (by rw [← hr52]; exact Bool.eq_false_iff.2 fun h => (frB_neg hq2).1 h hq1)) rfl fun ac w hs => ?_))
        refine lstep (wpO_plain rfl (op_move hs none rfl rfl rfl rfl fun ac hs => ?_))
        refine lstep (wpO_plain rfl (op_extract hs none rfl rfl rfl rfl rfl fun ac hs => ?_))
        refine lstep (wpO_plain rfl (op_extract hs none rfl rfl rfl rfl rfl fun ac hs => ?_))
        refine lstep (wpO_plain rfl (op_alloc hs none none (cs := [.int .u64 0, .int .u64 0, .int .u64 0, .int .u64 0]) rfl rfl Try.zeroValue24 (by kernel_rfl) rfl rfl fun g55 ac w hs => ?_))
        refine lstep (wpO_plain rfl (op_store hs 3 (vs := (Wl y53)) rfl rfl rfl rfl rfl Try.sizeOf24 rfl rfl rfl rfl rfl fun w hs => ?_))
        refine lstep (wpO_plain rfl (op_assign hs none rfl rfl rfl rfl fun ac hs => ?_))
        refine wpList_nil ?_
        refine then_n ?_
        refine wp_seq ?_
        refine wp_region_lit ?_
        refine lstep (wpO_plain rfl (op_load hs none 0 (v := W a) rfl rfl rfl rfl Try.isAgg24 Try.sizeOf24 rfl rfl fun ac hs => ?_))
        obtain ⟨r56, hr56, lr56⟩ : ∃ z0, a % Pf = z0 ∧ z0 < 2 ^ 256 := ⟨_, rfl, modP_lt _⟩
        refine lstep (wpO_plain rfl (op_call (F := 13) hs none (v := W r56) rfl rfl rfl rfl (Try.call13 _) (fred_c a r56 ha hr56) rfl fun ac w hs => ?_))
        refine lstep (wpO_plain rfl (op_build hs none (qs := []) (v := .agg #[.int .u64 0, .int .u64 0, .int .u64 0, .int .u64 0]) rfl rfl rfl rfl (fun _ => by kernel_rfl) rfl fun ac hs => ?_))
        refine lstep (wpO_plain rfl (op_bin hs none (v := .bool false) rfl rfl rfl rfl (fun w => run_eqGuard_agg w .eql 24 _ _ _ _ Try.eqGuardType24) (eqlW r56 0 lr56 (by decide) false (decide_eq_false (by rw [← hr56]; exact hq2))) rfl fun ac hs => ?_))
        refine lstep (wpO_plain rfl (op_assign hs none rfl rfl rfl rfl fun ac hs => ?_))
        refine wpList_nil ?_
        refine then_n ?_
        refine wp_seq ?_
        refine wp_region_lit ?_
        refine lstep (wpO_plain rfl (op_call (F := 10) hs none (v := .bool true) rfl rfl rfl rfl (Try.call10 _) alive_c rfl fun ac w hs => ?_))
        refine lstep (wpO_plain rfl (op_move hs none rfl rfl rfl rfl fun ac hs => ?_))
        refine lstep (wpO_in hs rfl rfl rfl (op_move hs none rfl rfl rfl rfl fun ac hs => ?_))
        refine lstep (wpO_in hs rfl rfl rfl (op_move hs none rfl rfl rfl rfl fun ac hs => ?_))
        refine lstep (wpO_out hs none rfl rfl (.inl rfl) rfl rfl fun ac hs => ?_)
        refine lstep (wpO_in hs rfl rfl rfl (op_pickF hs none rfl rfl rfl rfl rfl fun ac hs => ?_))
        refine lstep (wpO_in hs rfl rfl rfl (op_move hs none rfl rfl rfl rfl fun ac hs => ?_))
        refine lstep (wpO_out hs none rfl rfl (.inl rfl) rfl rfl fun ac hs => ?_)
        refine lstep (wpO_in hs rfl rfl rfl (op_pickF hs none rfl rfl rfl rfl rfl fun ac hs => ?_))
        refine lstep (wpO_in hs rfl rfl rfl (op_move hs none rfl rfl rfl rfl fun ac hs => ?_))
        refine lstep (wpO_in hs rfl rfl rfl (op_move hs none rfl rfl rfl rfl fun ac hs => ?_))
        refine lstep (wpO_in hs rfl rfl rfl (op_un hs none (v := .bool true) rfl rfl rfl (fun _ => rfl) rfl fun ac hs => ?_))
        refine lstep (wpO_in hs rfl rfl rfl (op_move hs none rfl rfl rfl rfl fun ac hs => ?_))
        refine lstep (wpO_in hs rfl rfl rfl (op_move hs none rfl rfl rfl rfl fun ac hs => ?_))
        refine lstep (wpO_in hs rfl rfl rfl (op_move hs none rfl rfl rfl rfl fun ac hs => ?_))
        refine lstep (wpO_in hs rfl rfl rfl (op_bin hs none (v := .bool true) rfl rfl rfl rfl (fun _ => rfl) (fun _ => by kernel_rfl) rfl fun ac hs => ?_))
        refine lstep (wpO_in hs rfl rfl rfl (op_pickT hs none rfl rfl rfl rfl rfl fun ac hs => ?_))
        refine lstep (wpO_in hs rfl rfl rfl (op_pickF hs none rfl rfl rfl rfl rfl fun ac hs => ?_))
        refine lstep (wpO_plain rfl (op_pickT hs none rfl rfl rfl rfl rfl fun ac hs => ?_))
        refine lstep (wpO_plain rfl (op_assign hs none rfl rfl rfl rfl fun ac hs => ?_))
        refine wpList_nil ?_
        refine then_n ?_
        refine wp_ret ?_
        exact bodyPost_ret (res1 rfl (rv_t hs rfl)) hs.defers ⟨rfl, hs.below⟩
      · skip
        refine wp_region_lit ?_
        refine lstep (wpO_plain rfl (op_box hs none none (cs := (Wl a)) rfl rfl rfl rfl rfl rfl fun g57 ac w hs => ?_))
        refine lstep (wpO_plain rfl (op_assign hs none rfl rfl rfl rfl fun ac hs => ?_))
        refine wpList_nil ?_
        refine then_n ?_
        refine wp_seq ?_
        refine wp_region_lit ?_
        refine lstep (wpO_plain rfl (op_load hs none 0 (v := W a) rfl rfl rfl rfl Try.isAgg24 Try.sizeOf24 rfl rfl fun ac hs => ?_))
        refine lstep (wpO_plain rfl (op_load hs none 0 (v := W a) rfl rfl rfl rfl Try.isAgg24 Try.sizeOf24 rfl rfl fun ac hs => ?_))
        obtain ⟨r58, hr58, lr58⟩ : ∃ z0, a * a % Pf = z0 ∧ z0 < 2 ^ 256 := ⟨_, rfl, modP_lt _⟩
        refine lstep (wpO_plain rfl (op_call (F := 21) hs none (v := W r58) rfl rfl rfl rfl (Try.call21 _) (fmul_c a a r58 ha ha hr58) rfl fun ac w hs => ?_))
        obtain ⟨y59, hy59, ly59⟩ : ∃ z0, frV r58 = z0 ∧ z0 < 2 ^ 256 := ⟨_, rfl, frV_lt _⟩
        refine lstep (wpO_plain rfl (op_call (F := 23) hs none (v := .tuple #[W y59, .bool true]) rfl rfl rfl rfl (Try.call23 _) (froot_c r58 y59 true lr58 hy59 (by rw [← hr58]; exact frB_sq _)) rfl fun ac w hs => ?_))
        refine lstep (wpO_plain rfl (op_move hs none rfl rfl rfl rfl fun ac hs => ?_))
        refine lstep (wpO_plain rfl (op_extract hs none rfl rfl rfl rfl rfl fun ac hs => ?_))
        refine lstep (wpO_plain rfl (op_extract hs none rfl rfl rfl rfl rfl fun ac hs => ?_))
        refine lstep (wpO_plain rfl (op_alloc hs none none (cs := [.int .u64 0, .int .u64 0, .int .u64 0, .int .u64 0]) rfl rfl Try.zeroValue24 (by kernel_rfl) rfl rfl fun g61 ac w hs => ?_))
        refine lstep (wpO_plain rfl (op_store hs 1 (vs := (Wl y59)) rfl rfl rfl rfl rfl Try.sizeOf24 rfl rfl rfl rfl rfl fun w hs => ?_))
        refine lstep (wpO_plain rfl (op_assign hs none rfl rfl rfl rfl fun ac hs => ?_))
        refine wpList_nil ?_
        refine then_n ?_
        refine wp_seq ?_
        refine wp_seq ?_
        replace hs : St 86 w0 [(1, true, .pointer (some ⟨g57, 0, none⟩)), (2, true, .bool false), (3, true, .pointer (some ⟨g61, 0, none⟩)), (4, true, .bool true)] [(true, g57, 24, (Wl a)), (true, g61, 24, (Wl y59))] ac w := hs.re ⟨rfl, rfl, rfl, rfl, trivial⟩
        obtain ⟨r62, hr62, lr62⟩ : ∃ z0, a % Pf = z0 ∧ z0 < 2 ^ 256 := ⟨_, rfl, modP_lt _⟩
        obtain ⟨r63, hr63, lr63⟩ : ∃ z0, fsub 0 a = z0 ∧ z0 < 2 ^ 256 := ⟨_, rfl, fsub_lt _ _⟩
        refine region_inv [([], [1, 2, 3, 4, 5, 6, 7, 8, 9, 10, 11, 12, 13]), ([0], [2, 3, 4, 5, 6, 7, 8, 9, 10, 11, 12, 13]), ([0, 1], [3, 4, 5, 6, 7, 8, 9, 10, 11, 12, 13]), ([0, 1, 2], [6, 7, 8, 9, 10, 11, 12, 13]), ([0, 1, 2], [5, 6, 7, 8, 9, 10, 11, 12, 13]), ([0, 1, 2, 4], [6, 7, 8, 9, 10, 11, 12, 13]), ([0, 1, 2, 3, 4, 5], [7, 8, 9, 10, 11, 12, 13]), ([0, 1, 2, 3, 4, 5, 6], [8, 9, 10, 11, 12, 13]), ([0, 1, 2, 3, 4, 5, 6, 7], [11, 12, 13]), ([0, 1, 2, 3, 4, 5, 6, 7], [10, 11, 12, 13]), ([0, 1, 2, 3, 4, 5, 6, 7, 9], [11, 12, 13]), ([0, 1, 2, 3, 4, 5, 6, 7, 8, 9, 10], [12, 13]), ([0, 1, 2, 3, 4, 5, 6, 7, 8, 9, 10, 11], [13]), ([0, 1, 2, 3, 4, 5, 6, 7, 8, 9, 10, 11, 12], [])] (fun L ac w => St 86 w0 [(17, L 0, .bool true), (18, L 1, .bool false), (19, L 2, .bool false), (20, L 3, W y59), (21, L 4, W a), (22, L 5, W r62), (23, L 6, .bool true), (24, L 7, .bool true), (25, L 8, W y59), (26, L 9, W a), (27, L 10, W r63), (28, L 11, .bool false), (29, L 12, .bool false), (30, L 13, .bool false), (1, true, .pointer (some ⟨g57, 0, none⟩)), (2, true, .bool false), (3, true, .pointer (some ⟨g61, 0, none⟩)), (4, true, .bool true)] [(true, g57, 24, (Wl a)), (true, g61, 24, (Wl y59))] ac w) (by kernel_rfl) (by kernel_rfl) ?_ ?_ ?_
        · exact hs.drew.skip.skip.skip.skip.skip.skip.skip.skip.skip.skip.skip.skip.skip.skip
        · refine ⟨?_, ?_, ?_, ?_, ?_, ?_, ?_, ?_, ?_, ?_, ?_, ?_, ?_, ?_, trivial⟩
          · intro L ac w hJ
            have hs := hJ
            refine wpO_plain rfl (op_move hs (some 0) rfl rfl rfl rfl fun ac hs => ?_)
            exact hs
          · intro L ac w hJ
            have hs := hJ
            refine wpO_plain rfl (op_un hs (some 1) (v := .bool false) rfl rfl rfl (fun _ => rfl) rfl fun ac hs => ?_)
            exact hs
          · intro L ac w hJ
            have hs := hJ
            refine wpO_plain rfl (op_move hs (some 2) rfl rfl rfl rfl fun ac hs => ?_)
            exact hs
          · intro L ac w hJ
            have hs := hJ
            refine wpO_in hs rfl rfl rfl (op_load hs (some 3) 1 (v := W y59) rfl rfl rfl rfl Try.isAgg24 Try.sizeOf24 rfl rfl fun ac hs => ?_)
            exact hs
          · intro L ac w hJ
            have hs := hJ
            refine wpO_in hs rfl rfl rfl (op_load hs (some 4) 0 (v := W a) rfl rfl rfl rfl Try.isAgg24 Try.sizeOf24 rfl rfl fun ac hs => ?_)
            exact hs
          · intro L ac w hJ
            have hs := hJ
            refine wpO_in hs rfl rfl rfl (op_call (F := 13) hs (some 5) (v := W r62) rfl rfl rfl rfl (Try.call13 _) (fred_c a r62 ha hr62) rfl fun ac w hs => ?_)
            exact hs
          · intro L ac w hJ
            have hs := hJ
            refine wpO_in hs rfl rfl rfl (op_bin hs (some 6) (v := .bool true) rfl rfl rfl rfl (fun w => run_eqGuard_agg w .neq 24 _ _ _ _ Try.eqGuardType24) (neqW y59 r62 ly59 lr62 true (decide_eq_true (by rw [← hy59, ← hr62, ← hr58]; exact hq39))) rfl fun ac hs => ?_)
            exact hs
          · intro L ac w hJ
            have hs := hJ
            refine wpO_in hs rfl rfl rfl (op_move hs (some 7) rfl rfl rfl rfl fun ac hs => ?_)
            exact hs
          · intro L ac w hJ
            have hs := hJ
            refine wpO_in hs rfl rfl rfl (op_load hs (some 8) 1 (v := W y59) rfl rfl rfl rfl Try.isAgg24 Try.sizeOf24 rfl rfl fun ac hs => ?_)
            exact hs
          · intro L ac w hJ
            have hs := hJ
            refine wpO_in hs rfl rfl rfl (op_load hs (some 9) 0 (v := W a) rfl rfl rfl rfl Try.isAgg24 Try.sizeOf24 rfl rfl fun ac hs => ?_)
            exact hs
          · intro L ac w hJ
            have hs := hJ
            refine wpO_in hs rfl rfl rfl (op_call (F := 19) hs (some 10) (v := W r63) rfl rfl rfl rfl (Try.call19 _) (fneg_c a r63 ha hr63) rfl fun ac w hs => ?_)
            exact hs
          · intro L ac w hJ
            have hs := hJ
            refine wpO_in hs rfl rfl rfl (op_bin hs (some 11) (v := .bool false) rfl rfl rfl rfl (fun w => run_eqGuard_agg w .neq 24 _ _ _ _ Try.eqGuardType24) (neqW y59 r63 ly59 lr63 false (decide_eq_false (not_not_intro (by rw [← hy59, ← hr63, ← hr58]; exact (frV_sq a).resolve_left hq39)))) rfl fun ac hs => ?_)
            exact hs
          · intro L ac w hJ
            have hs := hJ
            refine wpO_in hs rfl rfl rfl (op_pickT hs (some 12) rfl rfl rfl rfl rfl fun ac hs => ?_)
            exact hs
          · intro L ac w hJ
            have hs := hJ
            refine wpO_plain rfl (op_pickF hs (some 13) rfl rfl rfl rfl rfl fun ac hs => ?_)
            exact hs
        intro ac w hJ
        replace hs : St 86 w0 [(17, true, .bool true), (18, true, .bool false), (19, true, .bool false), (20, true, W y59), (21, true, W a), (22, true, W r62), (23, true, .bool true), (24, true, .bool true), (25, true, W y59), (26, true, W a), (27, true, W r63), (28, true, .bool false), (29, true, .bool false), (30, true, .bool false), (1, true, .pointer (some ⟨g57, 0, none⟩)), (2, true, .bool false), (3, true, .pointer (some ⟨g61, 0, none⟩)), (4, true, .bool true)] [(true, g57, 24, (Wl a)), (true, g61, 24, (Wl y59))] ac w := hJ
        refine then_n ?_
        refine wp_cond_false (hs.ev rfl) ?_
        refine wp_skip ?_
        refine then_n ?_
        refine wp_seq ?_
        refine wp_region_lit ?_
        refine lstep (wpO_plain rfl (op_load hs none 0 (v := W a) rfl rfl rfl rfl Try.isAgg24 Try.sizeOf24 rfl rfl fun ac hs => ?_))
        obtain ⟨y64, hy64, ly64⟩ : ∃ z0, frV a = z0 ∧ z0 < 2 ^ 256 := ⟨_, rfl, frV_lt _⟩
        refine lstep (wpO_plain rfl (op_call (F := 23) hs none (v := .tuple #[W y64, .bool true]) rfl rfl rfl rfl (Try.call23 _) (froot_c a y64 true ha hy64 hq1) rfl fun ac w hs => ?_))
        refine lstep (wpO_plain rfl (op_move hs none rfl rfl rfl rfl fun ac hs => ?_))
        refine lstep (wpO_plain rfl (op_extract hs none rfl rfl rfl rfl rfl fun ac hs => ?_))
        refine lstep (wpO_plain rfl (op_extract hs none rfl rfl rfl rfl rfl fun ac hs => ?_))
        refine lstep (wpO_plain rfl (op_alloc hs none none (cs := [.int .u64 0, .int .u64 0, .int .u64 0, .int .u64 0]) rfl rfl Try.zeroValue24 (by kernel_rfl) rfl rfl fun g66 ac w hs => ?_))
        refine lstep (wpO_plain rfl (op_store hs 2 (vs := (Wl y64)) rfl rfl rfl rfl rfl Try.sizeOf24 rfl rfl rfl rfl rfl fun w hs => ?_))
        refine lstep (wpO_plain rfl (op_assign hs none rfl rfl rfl rfl fun ac hs => ?_))
        refine wpList_nil ?_
        refine then_n ?_
        refine wp_seq ?_
        refine wp_seq ?_
        replace hs : St 86 w0 [(1, true, .pointer (some ⟨g57, 0, none⟩)), (2, true, .bool false), (5, true, .pointer (some ⟨g66, 0, none⟩)), (6, true, .bool true)] [(true, g57, 24, (Wl a)), (true, g61, 24, (Wl y59)), (true, g66, 24, (Wl y64))] ac w := hs.re ⟨rfl, rfl, rfl, rfl, trivial⟩
        obtain ⟨r67, hr67, lr67⟩ : ∃ z0, y64 * y64 % Pf = z0 ∧ z0 < 2 ^ 256 := ⟨_, rfl, modP_lt _⟩
        obtain ⟨r68, hr68, lr68⟩ : ∃ z0, a % Pf = z0 ∧ z0 < 2 ^ 256 := ⟨_, rfl, modP_lt _⟩
        have l69 := limN_lt y64 0
        refine region_inv [([], [1, 2, 3, 4, 5, 6, 7, 8, 9, 10, 11, 12, 13, 14, 15, 16, 17, 18, 19, 20]), ([0], [2, 3, 4, 5, 6, 7, 8, 9, 10, 11, 12, 13, 14, 15, 16, 17, 18, 19, 20]), ([0, 1], [4, 6, 7, 8, 9, 10, 11, 12, 13, 14, 15, 16, 17, 18, 19, 20]), ([0, 1], [4, 6, 7, 8, 9, 10, 11, 12, 13, 14, 15, 16, 17, 18, 19, 20]), ([0, 1, 2, 3], [6, 7, 8, 9, 10, 11, 12, 13, 14, 15, 16, 17, 18, 19, 20]), ([0, 1], [6, 7, 8, 9, 10, 11, 12, 13, 14, 15, 16, 17, 18, 19, 20]), ([0, 1, 2, 3, 4, 5], [7, 8, 9, 10, 11, 12, 13, 14, 15, 16, 17, 18, 19, 20]), ([0, 1, 2, 3, 4, 5, 6], [8, 9, 10, 11, 12, 13, 14, 15, 16, 17, 18, 19, 20]), ([0, 1, 2, 3, 4, 5, 6, 7], [9, 10, 11, 12, 13, 14, 15, 16, 17, 18, 19, 20]), ([0, 1, 2, 3, 4, 5, 6, 7, 8], [10, 11, 12, 13, 14, 15, 16, 17, 18, 19, 20]), ([0, 1, 2, 3, 4, 5, 6, 7, 8, 9], [11, 12, 13, 14, 15, 16, 17, 18, 19, 20]), ([0, 1, 2, 3, 4, 5, 6, 7, 8, 9, 10], [12, 13, 14, 15, 16, 17, 18, 19, 20]), ([0, 1, 2, 3, 4, 5, 6, 7, 8, 9, 10, 11], [13, 14, 15, 16, 17, 18, 19, 20]), ([0, 1, 2, 3, 4, 5, 6, 7, 8, 9, 10, 11, 12], [14, 15, 16, 17, 18, 19, 20]), ([0, 1, 2, 3, 4, 5, 6, 7, 8, 9, 10, 11, 12, 13], [15, 16, 17, 18, 19, 20]), ([0, 1, 2, 3, 4, 5, 6, 7, 8, 9, 10, 11, 12, 13, 14], [17, 18, 19, 20]), ([0, 1, 2, 3, 4, 5, 6, 7, 8, 9, 10, 11, 12, 13, 14], [17, 18, 19, 20]), ([0, 1, 2, 3, 4, 5, 6, 7, 8, 9, 10, 11, 12, 13, 14, 15, 16], [18, 19, 20]), ([0, 1, 2, 3, 4, 5, 6, 7, 8, 9, 10, 11, 12, 13, 14, 15, 16, 17], [19, 20]), ([0, 1, 2, 3, 4, 5, 6, 7, 8, 9, 10, 11, 12, 13, 14, 15, 16, 17, 18], [20]), ([0, 1, 2, 3, 4, 5, 6, 7, 8, 9, 10, 11, 12, 13, 14, 15, 16, 17, 18, 19], [])] (fun L ac w => St 86 w0 [(36, L 0, .bool true), (37, L 1, .bool true), (38, L 2, W y64), (39, L 3, W y64), (40, L 4, W r67), (41, L 5, W a), (42, L 6, W r68), (43, L 7, .bool false), (44, L 8, .bool false), (45, L 9, .pointer (some ⟨g66, 0, none⟩)), (46, L 10, .int .u64 (lim y64 0)), (47, L 11, .int .u64 (((limN y64 0) % 2 : Nat) : Int)), (48, L 12, .bool false), (49, L 13, .bool false), (50, L 14, .bool false), (51, L 15, W y64), (52, L 16, W Pf), (53, L 17, .int .i64 (cmpZ y64 Pf)), (54, L 18, .bool false), (55, L 19, .bool false), (56, L 20, .bool false), (1, true, .pointer (some ⟨g57, 0, none⟩)), (2, true, .bool false), (5, true, .pointer (some ⟨g66, 0, none⟩)), (6, true, .bool true)] [(true, g57, 24, (Wl a)), (true, g61, 24, (Wl y59)), (true, g66, 24, (Wl y64))] ac w) (by kernel_rfl) (by kernel_rfl) ?_ ?_ ?_
        · exact hs.drew.skip.skip.skip.skip.skip.skip.skip.skip.skip.skip.skip.skip.skip.skip.skip.skip.skip.skip.skip.skip.skip
        · refine ⟨?_, ?_, ?_, ?_, ?_, ?_, ?_, ?_, ?_, ?_, ?_, ?_, ?_, ?_, ?_, ?_, ?_, ?_, ?_, ?_, ?_, trivial⟩
          · intro L ac w hJ
            have hs := hJ
            refine wpO_plain rfl (op_move hs (some 0) rfl rfl rfl rfl fun ac hs => ?_)
            exact hs
          · intro L ac w hJ
            have hs := hJ
            refine wpO_plain rfl (op_move hs (some 1) rfl rfl rfl rfl fun ac hs => ?_)
            exact hs
          · intro L ac w hJ
            have hs := hJ
            refine wpO_in hs rfl rfl rfl (op_load hs (some 2) 2 (v := W y64) rfl rfl rfl rfl Try.isAgg24 Try.sizeOf24 rfl rfl fun ac hs => ?_)
            exact hs
          · intro L ac w hJ
            have hs := hJ
            refine wpO_in hs rfl rfl rfl (op_load hs (some 3) 2 (v := W y64) rfl rfl rfl rfl Try.isAgg24 Try.sizeOf24 rfl rfl fun ac hs => ?_)
            exact hs
          · intro L ac w hJ
            have hs := hJ
            refine wpO_in hs rfl rfl rfl (op_call (F := 21) hs (some 4) (v := W r67) rfl rfl rfl rfl (Try.call21 _) (fmul_c y64 y64 r67 ly64 ly64 hr67) rfl fun ac w hs => ?_)
            exact hs
          · intro L ac w hJ
            have hs := hJ
            refine wpO_in hs rfl rfl rfl (op_load hs (some 5) 0 (v := W a) rfl rfl rfl rfl Try.isAgg24 Try.sizeOf24 rfl rfl fun ac hs => ?_)
            exact hs
          · intro L ac w hJ
            have hs := hJ
            refine wpO_in hs rfl rfl rfl (op_call (F := 13) hs (some 6) (v := W r68) rfl rfl rfl rfl (Try.call13 _) (fred_c a r68 ha hr68) rfl fun ac w hs => ?_)
            exact hs
          · intro L ac w hJ
            have hs := hJ
            refine wpO_in hs rfl rfl rfl (op_bin hs (some 7) (v := .bool false) rfl rfl rfl rfl (fun w => run_eqGuard_agg w .neq 24 _ _ _ _ Try.eqGuardType24) (neqW r67 r68 lr67 lr68 false (decide_eq_false (not_not_intro (by rw [← hr67, ← hr68, ← hy64]; exact frV_mul hq1)))) rfl fun ac hs => ?_)
            exact hs
          · intro L ac w hJ
            have hs := hJ
            refine wpO_in hs rfl rfl rfl (op_move hs (some 8) rfl rfl rfl rfl fun ac hs => ?_)
            exact hs
          · intro L ac w hJ
            have hs := hJ
            refine wpO_in hs rfl rfl rfl (op_idxA hs (some 9) (j := 0) rfl rfl rfl rfl Try.underlying24 Try.sizeOf22 (by decide) (off := 0) rfl rfl fun ac hs => ?_)
            exact hs
          · intro L ac w hJ
            have hs := hJ
            refine wpO_in hs rfl rfl rfl (op_load hs (some 10) 2 (v := .int .u64 (lim y64 0)) rfl rfl rfl rfl Try.isAgg22 Try.sizeOf22 rfl rfl fun ac hs => ?_)
            exact hs
          · intro L ac w hJ
            have hs := hJ
            refine wpO_in hs rfl rfl rfl (op_bin hs (some 11) (v := .int .u64 (((limN y64 0) % 2 : Nat) : Int)) rfl rfl rfl rfl (fun _ => rfl) (bin_remN (x := limN y64 0) (y := 2) (z := (limN y64 0) % 2) rfl (by decide)) rfl fun ac hs => ?_)
            exact hs
          · intro L ac w hJ
            have hs := hJ
            refine wpO_in hs rfl rfl rfl (op_bin hs (some 12) (v := .bool false) rfl rfl rfl rfl (fun _ => rfl) (fun w => dF (Classical.not_not.2 (by rw [lim_odd, ← hy64]; exact frV_even2 a)) (bin_neqN (x := (limN y64 0) % 2) (y := 0) w)) rfl fun ac hs => ?_)
            exact hs
          · intro L ac w hJ
            have hs := hJ
            refine wpO_in hs rfl rfl rfl (op_pickF hs (some 13) rfl rfl rfl rfl rfl fun ac hs => ?_)
            exact hs
          · intro L ac w hJ
            have hs := hJ
            refine wpO_in hs rfl rfl rfl (op_move hs (some 14) rfl rfl rfl rfl fun ac hs => ?_)
            exact hs
          · intro L ac w hJ
            have hs := hJ
            refine wpO_in hs rfl rfl rfl (op_load hs (some 15) 2 (v := W y64) rfl rfl rfl rfl Try.isAgg24 Try.sizeOf24 rfl rfl fun ac hs => ?_)
            exact hs
          · intro L ac w hJ
            have hs := hJ
            refine wpO_in hs rfl rfl rfl (op_call (F := 11) hs (some 16) (v := W Pf) rfl rfl rfl rfl (Try.call11 _) prime_c rfl fun ac w hs => ?_)
            exact hs
          · intro L ac w hJ
            have hs := hJ
            refine wpO_in hs rfl rfl rfl (op_call (F := 29) hs (some 17) (v := .int .i64 (cmpZ y64 Pf)) rfl rfl rfl rfl (Try.call29 _) (fun w => cmp_any w y64 Pf ly64 Pf_lt) rfl fun ac w hs => ?_)
            exact hs
          · intro L ac w hJ
            have hs := hJ
            refine wpO_in hs rfl rfl rfl (op_bin hs (some 18) (v := .bool false) rfl rfl rfl rfl (fun _ => rfl) (fun w => dF (Nat.not_le.2 (by rw [← hy64]; exact frV_ltP _)) (bin_cmp_geq y64 Pf w)) rfl fun ac hs => ?_)
            exact hs
          · intro L ac w hJ
            have hs := hJ
            refine wpO_in hs rfl rfl rfl (op_pickF hs (some 19) rfl rfl rfl rfl rfl fun ac hs => ?_)
            exact hs
          · intro L ac w hJ
            have hs := hJ
            refine wpO_plain rfl (op_pickT hs (some 20) rfl rfl rfl rfl rfl fun ac hs => ?_)
            exact hs
        intro ac w hJ
        replace hs : St 86 w0 [(36, true, .bool true), (37, true, .bool true), (38, true, W y64), (39, true, W y64), (40, true, W r67), (41, true, W a), (42, true, W r68), (43, true, .bool false), (44, true, .bool false), (45, true, .pointer (some ⟨g66, 0, none⟩)), (46, true, .int .u64 (lim y64 0)), (47, true, .int .u64 (((limN y64 0) % 2 : Nat) : Int)), (48, true, .bool false), (49, true, .bool false), (50, true, .bool false), (51, true, W y64), (52, true, W Pf), (53, true, .int .i64 (cmpZ y64 Pf)), (54, true, .bool false), (55, true, .bool false), (56, true, .bool false), (1, true, .pointer (some ⟨g57, 0, none⟩)), (2, true, .bool false), (5, true, .pointer (some ⟨g66, 0, none⟩)), (6, true, .bool true)] [(true, g57, 24, (Wl a)), (true, g61, 24, (Wl y59)), (true, g66, 24, (Wl y64))] ac w := hJ
        refine then_n ?_
        refine wp_cond_false (hs.ev rfl) ?_
        refine wp_skip ?_
        refine then_n ?_
        refine wp_seq ?_
        refine wp_region_lit ?_
        refine lstep (wpO_plain rfl (op_load hs none 0 (v := W a) rfl rfl rfl rfl Try.isAgg24 Try.sizeOf24 rfl rfl fun ac hs => ?_))
        obtain ⟨r70, hr70, lr70⟩ : ∃ z0, fsub 0 a = z0 ∧ z0 < 2 ^ 256 := ⟨_, rfl, fsub_lt _ _⟩
        refine lstep (wpO_plain rfl (op_call (F := 19) hs none (v := W r70) rfl rfl rfl rfl (Try.call19 _) (fneg_c a r70 ha hr70) rfl fun ac w hs => ?_))
        obtain ⟨y71, hy71, ly71⟩ : ∃ z0, frV r70 = z0 ∧ z0 < 2 ^ 256 := ⟨_, rfl, frV_lt _⟩
        refine lstep (wpO_plain rfl (op_call (F := 23) hs none (v := .tuple #[W y71, .bool false]) rfl rfl rfl rfl (Try.call23 _) (froot_c r70 y71 false lr70 hy71 (by rw [← hr70]; exact Bool.eq_false_iff.2 fun h => (frB_neg hq2).1 h hq1)) rfl fun ac w hs => ?_))
        refine lstep (wpO_plain rfl (op_move hs none rfl rfl rfl rfl fun ac hs => ?_))
        refine lstep (wpO_plain rfl (op_extract hs none rfl rfl rfl rfl rfl fun ac hs => ?_))
        refine lstep (wpO_plain rfl (op_extract hs none rfl rfl rfl rfl rfl fun ac hs => ?_))
        refine lstep (wpO_plain rfl (op_alloc hs none none (cs := [.int .u64 0, .int .u64 0, .int .u64 0, .int .u64 0]) rfl rfl Try.zeroValue24 (by kernel_rfl) rfl rfl fun g73 ac w hs => ?_))
        refine lstep (wpO_plain rfl (op_store hs 3 (vs := (Wl y71)) rfl rfl rfl rfl rfl Try.sizeOf24 rfl rfl rfl rfl rfl fun w hs => ?_))
        refine lstep (wpO_plain rfl (op_assign hs none rfl rfl rfl rfl fun ac hs => ?_))
        refine wpList_nil ?_
        refine then_n ?_
        refine wp_seq ?_
        refine wp_region_lit ?_
        refine lstep (wpO_plain rfl (op_load hs none 0 (v := W a) rfl rfl rfl rfl Try.isAgg24 Try.sizeOf24 rfl rfl fun ac hs => ?_))
        obtain ⟨r74, hr74, lr74⟩ : ∃ z0, a % Pf = z0 ∧ z0 < 2 ^ 256 := ⟨_, rfl, modP_lt _⟩
        refine lstep (wpO_plain rfl (op_call (F := 13) hs none (v := W r74) rfl rfl rfl rfl (Try.call13 _) (fred_c a r74 ha hr74) rfl fun ac w hs => ?_))
        refine lstep (wpO_plain rfl (op_build hs none (qs := []) (v := .agg #[.int .u64 0, .int .u64 0, .int .u64 0, .int .u64 0]) rfl rfl rfl rfl (fun _ => by kernel_rfl) rfl fun ac hs => ?_))
        refine lstep (wpO_plain rfl (op_bin hs none (v := .bool false) rfl rfl rfl rfl (fun w => run_eqGuard_agg w .eql 24 _ _ _ _ Try.eqGuardType24) (eqlW r74 0 lr74 (by decide) false (decide_eq_false (by rw [← hr74]; exact hq2))) rfl fun ac hs => ?_))
        refine lstep (wpO_plain rfl (op_assign hs none rfl rfl rfl rfl fun ac hs => ?_))
        refine wpList_nil ?_
        refine then_n ?_
        refine wp_seq ?_
        refine wp_region_lit ?_
        refine lstep (wpO_plain rfl (op_call (F := 10) hs none (v := .bool true) rfl rfl rfl rfl (Try.call10 _) alive_c rfl fun ac w hs => ?_))
        refine lstep (wpO_plain rfl (op_move hs none rfl rfl rfl rfl fun ac hs => ?_))
        refine lstep (wpO_in hs rfl rfl rfl (op_move hs none rfl rfl rfl rfl fun ac hs => ?_))
        refine lstep (wpO_in hs rfl rfl rfl (op_move hs none rfl rfl rfl rfl fun ac hs => ?_))
        refine lstep (wpO_out hs none rfl rfl (.inl rfl) rfl rfl fun ac hs => ?_)
        refine lstep (wpO_in hs rfl rfl rfl (op_pickF hs none rfl rfl rfl rfl rfl fun ac hs => ?_))
        refine lstep (wpO_in hs rfl rfl rfl (op_move hs none rfl rfl rfl rfl fun ac hs => ?_))
        refine lstep (wpO_out hs none rfl rfl (.inl rfl) rfl rfl fun ac hs => ?_)
        refine lstep (wpO_in hs rfl rfl rfl (op_pickF hs none rfl rfl rfl rfl rfl fun ac hs => ?_))
        refine lstep (wpO_in hs rfl rfl rfl (op_move hs none rfl rfl rfl rfl fun ac hs => ?_))
        refine lstep (wpO_in hs rfl rfl rfl (op_move hs none rfl rfl rfl rfl fun ac hs => ?_))
        refine lstep (wpO_in hs rfl rfl rfl (op_un hs none (v := .bool true) rfl rfl rfl (fun _ => rfl) rfl fun ac hs => ?_))
        refine lstep (wpO_in hs rfl rfl rfl (op_move hs none rfl rfl rfl rfl fun ac hs => ?_))
        refine lstep (wpO_in hs rfl rfl rfl (op_move hs none rfl rfl rfl rfl fun ac hs => ?_))
        refine lstep (wpO_in hs rfl rfl rfl (op_move hs none rfl rfl rfl rfl fun ac hs => ?_))
        refine lstep (wpO_in hs rfl rfl rfl (op_bin hs none (v := .bool true) rfl rfl rfl rfl (fun _ => rfl) (fun _ => by kernel_rfl) rfl fun ac hs => ?_))
        refine lstep (wpO_in hs rfl rfl rfl (op_pickT hs none rfl rfl rfl rfl rfl fun ac hs => ?_))
        refine lstep (wpO_in hs rfl rfl rfl (op_pickF hs none rfl rfl rfl rfl rfl fun ac hs => ?_))
        refine lstep (wpO_plain rfl (op_pickT hs none rfl rfl rfl rfl rfl fun ac hs => ?_))
        refine lstep (wpO_plain rfl (op_assign hs none rfl rfl rfl rfl fun ac hs => ?_))
        refine wpList_nil ?_
        refine then_n ?_
        refine wp_ret ?_
        exact bodyPost_ret (res1 rfl (rv_t hs rfl)) hs.defers ⟨rfl, hs.below⟩
  · skip
    by_cases hq75 : a % Pf = 0
    · skip
      by_cases hq76 : frV (a * a % Pf) = a % Pf
      · skip
        refine wp_region_lit ?_
        refine lstep (wpO_plain rfl (op_box hs none none (cs := (Wl a)) rfl rfl rfl rfl rfl rfl fun g77 ac w hs => ?_))
        refine lstep (wpO_plain rfl (op_assign hs none rfl rfl rfl rfl fun ac hs => ?_))
        refine wpList_nil ?_
        refine then_n ?_
        refine wp_seq ?_
        refine wp_region_lit ?_
        refine lstep (wpO_plain rfl (op_load hs none 0 (v := W a) rfl rfl rfl rfl Try.isAgg24 Try.sizeOf24 rfl rfl fun ac hs => ?_))
        refine lstep (wpO_plain rfl (op_load hs none 0 (v := W a) rfl rfl rfl rfl Try.isAgg24 Try.sizeOf24 rfl rfl fun ac hs => ?_))
        obtain ⟨r78, hr78, lr78⟩ : ∃ z0, a * a % Pf = z0 ∧ z0 < 2 ^ 256 := ⟨_, rfl, modP_lt _⟩
        refine lstep (wpO_plain rfl (op_call (F := 21) hs none (v := W r78) rfl rfl rfl rfl (Try.call21 _) (fmul_c a a r78 ha ha hr78) rfl fun ac w hs => ?_))
        obtain ⟨y79, hy79, ly79⟩ : ∃ z0, frV r78 = z0 ∧ z0 < 2 ^ 256 := ⟨_, rfl, frV_lt _⟩
        refine lstep (wpO_plain rfl (op_call (F := 23) hs none (v := .tuple #[W y79, .bool true]) rfl rfl rfl rfl (Try.call23 _) (froot_c r78 y79 true lr78 hy79 (by rw [← hr78]; exact frB_sq _)) rfl fun ac w hs => ?_))
        refine lstep (wpO_plain rfl (op_move hs none rfl rfl rfl rfl fun ac hs => ?_))
        refine lstep (wpO_plain rfl (op_extract hs none rfl rfl rfl rfl rfl fun ac hs => ?_))
        refine lstep (wpO_plain rfl (op_extract hs none rfl rfl rfl rfl rfl fun ac hs => ?_))
        refine lstep (wpO_plain rfl (op_alloc hs none none (cs := [.int .u64 0, .int .u64 0, .int .u64 0, .int .u64 0]) rfl rfl Try.zeroValue24 (by kernel_rfl) rfl rfl fun g81 ac w hs => ?_))
        refine lstep (wpO_plain rfl (op_store hs 1 (vs := (Wl y79)) rfl rfl rfl rfl rfl Try.sizeOf24 rfl rfl rfl rfl rfl fun w hs => ?_))
        refine lstep (wpO_plain rfl (op_assign hs none rfl rfl rfl rfl fun ac hs => ?_))
        refine wpList_nil ?_
        refine then_n ?_
        refine wp_seq ?_
        refine wp_seq ?_
        replace hs : St 86 w0 [(1, true, .pointer (some ⟨g77, 0, none⟩)), (2, true, .bool false), (3, true, .pointer (some ⟨g81, 0, none⟩)), (4, true, .bool true)] [(true, g77, 24, (Wl a)), (true, g81, 24, (Wl y79))] ac w := hs.re ⟨rfl, rfl, rfl, rfl, trivial⟩
        obtain ⟨r82, hr82, lr82⟩ : ∃ z0, a % Pf = z0 ∧ z0 < 2 ^ 256 := ⟨_, rfl, modP_lt _⟩
        refine region_inv [([], [1, 2, 3, 4, 5, 6, 7, 8, 9, 10, 11, 12, 13]), ([0], [2, 3, 4, 5, 6, 7, 8, 9, 10, 11, 12, 13]), ([0, 1], [3, 4, 5, 6, 7, 8, 9, 10, 11, 12, 13]), ([0, 1, 2], [6, 7, 8, 9, 10, 11, 12, 13]), ([0, 1, 2], [5, 6, 7, 8, 9, 10, 11, 12, 13]), ([0, 1, 2, 4], [6, 7, 8, 9, 10, 11, 12, 13]), ([0, 1, 2, 3, 4, 5], [7, 8, 9, 10, 11, 12, 13]), ([0, 1, 2, 3, 4, 5, 6], [8, 9, 10, 11, 12, 13]), ([0, 1, 2, 3, 4, 5, 6, 7], [11, 12, 13]), ([0, 1, 2, 3, 4, 5, 6, 7], [10, 11, 12, 13]), ([0, 1, 2, 3, 4, 5, 6, 7, 9], [11, 12, 13]), ([0, 1, 2, 3, 4, 5, 6, 7, 8, 9, 10], [12, 13]), ([0, 1, 2, 3, 4, 5, 6, 7, 8, 9, 10, 11], [13]), ([0, 1, 2, 3, 4, 5, 6, 7, 8, 9, 10, 11, 12], [])] (fun L ac w => St 86 w0 [(17, L 0, .bool true), (18, L 1, .bool false), (19, L 2, .bool false), (20, L 3, W y79), (21, L 4, W a), (22, L 5, W r82), (23, L 6, .bool false), (24, L 7, .bool false), (25, L 8, undef), (26, L 9, undef), (27, L 10, undef), (28, L 11, undef), (29, L 12, .bool false), (30, L 13, .bool false), (1, true, .pointer (some ⟨g77, 0, none⟩)), (2, true, .bool false), (3, true, .pointer (some ⟨g81, 0, none⟩)), (4, true, .bool true)] [(true, g77, 24, (Wl a)), (true, g81, 24, (Wl y79))] ac w) (by kernel_rfl) (by kernel_rfl) ?_ ?_ ?_
        · exact hs.drew.skip.skip.skip.skip.skip.skip.skip.skip.skip.skip.skip.skip.skip.skip
        · refine ⟨?_, ?_, ?_, ?_, ?_, ?_, ?_, ?_, ?_, ?_, ?_, ?_, ?_, ?_, trivial⟩
          · intro L ac w hJ
            have hs := hJ
            refine wpO_plain rfl (op_move hs (some 0) rfl rfl rfl rfl fun ac hs => ?_)
            exact hs
          · intro L ac w hJ
            have hs := hJ
            refine wpO_plain rfl (op_un hs (some 1) (v := .bool false) rfl rfl rfl (fun _ => rfl) rfl fun ac hs => ?_)
            exact hs
          · intro L ac w hJ
            have hs := hJ
            refine wpO_plain rfl (op_move hs (some 2) rfl rfl rfl rfl fun ac hs => ?_)
            exact hs
          · intro L ac w hJ
            have hs := hJ
            refine wpO_in hs rfl rfl rfl (op_load hs (some 3) 1 (v := W y79) rfl rfl rfl rfl Try.isAgg24 Try.sizeOf24 rfl rfl fun ac hs => ?_)
            exact hs
          · intro L ac w hJ
            have hs := hJ
            refine wpO_in hs rfl rfl rfl (op_load hs (some 4) 0 (v := W a) rfl rfl rfl rfl Try.isAgg24 Try.sizeOf24 rfl rfl fun ac hs => ?_)
            exact hs
          · intro L ac w hJ
            have hs := hJ
            refine wpO_in hs rfl rfl rfl (op_call (F := 13) hs (some 5) (v := W r82) rfl rfl rfl rfl (Try.call13 _) (fred_c a r82 ha hr82) rfl fun ac w hs => ?_)
            exact hs
          · intro L ac w hJ
            have hs := hJ
            refine wpO_in hs rfl rfl rfl (op_bin hs (some 6) (v := .bool false) rfl rfl rfl rfl (fun w => run_eqGuard_agg w .neq 24 _ _ _ _ Try.eqGuardType24) (neqW y79 r82 ly79 lr82 false (decide_eq_false (not_not_intro (by rw [← hy79, ← hr82, ← hr78]; exact hq76)))) rfl fun ac hs => ?_)
            exact hs
          · intro L ac w hJ
            have hs := hJ
            refine wpO_in hs rfl rfl rfl (op_move hs (some 7) rfl rfl rfl rfl fun ac hs => ?_)
            exact hs
          · intro L ac w hJ
            have hs := hJ
            refine wpO_out hs (some 8) rfl rfl (.inl rfl) rfl rfl fun ac hs => ?_
            exact hs
          · intro L ac w hJ
            have hs := hJ
            refine wpO_out hs (some 9) rfl rfl (.inl rfl) rfl rfl fun ac hs => ?_
            exact hs
          · intro L ac w hJ
            have hs := hJ
            refine wpO_out hs (some 10) rfl rfl (.inl rfl) rfl rfl fun ac hs => ?_
            exact hs
          · intro L ac w hJ
            have hs := hJ
            refine wpO_out hs (some 11) rfl rfl (.inl rfl) rfl rfl fun ac hs => ?_
            exact hs
          · intro L ac w hJ
            have hs := hJ
            refine wpO_in hs rfl rfl rfl (op_pickF hs (some 12) rfl rfl rfl rfl rfl fun ac hs => ?_)
            exact hs
          · intro L ac w hJ
            have hs := hJ
            refine wpO_plain rfl (op_pickF hs (some 13) rfl rfl rfl rfl rfl fun ac hs => ?_)
            exact hs
        intro ac w hJ
        replace hs : St 86 w0 [(17, true, .bool true), (18, true, .bool false), (19, true, .bool false), (20, true, W y79), (21, true, W a), (22, true, W r82), (23, true, .bool false), (24, true, .bool false), (25, true, undef), (26, true, undef), (27, true, undef), (28, true, undef), (29, true, .bool false), (30, true, .bool false), (1, true, .pointer (some ⟨g77, 0, none⟩)), (2, true, .bool false), (3, true, .pointer (some ⟨g81, 0, none⟩)), (4, true, .bool true)] [(true, g77, 24, (Wl a)), (true, g81, 24, (Wl y79))] ac w := hJ
        refine then_n ?_
        refine wp_cond_false (hs.ev rfl) ?_
        refine wp_skip ?_
        refine then_n ?_
        refine wp_seq ?_
        refine wp_region_lit ?_
        refine lstep (wpO_plain rfl (op_load hs none 0 (v := W a) rfl rfl rfl rfl Try.isAgg24 Try.sizeOf24 rfl rfl fun ac hs => ?_))
        obtain ⟨y83, hy83, ly83⟩ : ∃ z0, frV a = z0 ∧ z0 < 2 ^ 256 := ⟨_, rfl, frV_lt _⟩
        refine lstep (wpO_plain rfl (op_call (F := 23) hs none (v := .tuple #[W y83, .bool false]) rfl rfl rfl rfl (Try.call23 _) (froot_c a y83 false ha hy83 (Bool.eq_false_iff.2 hq1)) rfl fun ac w hs => ?_))
        refine lstep (wpO_plain rfl (op_move hs none rfl rfl rfl rfl fun ac hs => ?_))
        refine lstep (wpO_plain rfl (op_extract hs none rfl rfl rfl rfl rfl fun ac hs => ?_))
        refine lstep (wpO_plain rfl (op_extract hs none rfl rfl rfl rfl rfl fun ac hs => ?_))
        refine lstep (wpO_plain rfl (op_alloc hs none none (cs := [.int .u64 0, .int .u64 0, .int .u64 0, .int .u64 0]) rfl rfl Try.zeroValue24 (by kernel_rfl) rfl rfl fun g85 ac w hs => ?_))
        refine lstep (wpO_plain rfl (op_store hs 2 (vs := (Wl y83)) rfl rfl rfl rfl rfl Try.sizeOf24 rfl rfl rfl rfl rfl fun w hs => ?_))
        refine lstep (wpO_plain rfl (op_assign hs none rfl rfl rfl rfl fun ac hs => ?_))
        refine wpList_nil ?_
        refine then_n ?_
        refine wp_seq ?_
        refine wp_seq ?_
        replace hs : St 86 w0 [(1, true, .pointer (some ⟨g77, 0, none⟩)), (2, true, .bool false), (5, true, .pointer (some ⟨g85, 0, none⟩)), (6, true, .bool false)] [(true, g77, 24, (Wl a)), (true, g81, 24, (Wl y79)), (true, g85, 24, (Wl y83))] ac w := hs.re ⟨rfl, rfl, rfl, rfl, trivial⟩
        refine region_inv [([], [1, 2, 3, 4, 5, 6, 7, 8, 9, 10, 11, 12, 13, 14, 15, 16, 17, 18, 19, 20]), ([0], [2, 3, 4, 5, 6, 7, 8, 9, 10, 11, 12, 13, 14, 15, 16, 17, 18, 19, 20]), ([0, 1], [4, 6, 7, 8, 9, 10, 11, 12, 13, 14, 15, 16, 17, 18, 19, 20]), ([0, 1], [4, 6, 7, 8, 9, 10, 11, 12, 13, 14, 15, 16, 17, 18, 19, 20]), ([0, 1, 2, 3], [6, 7, 8, 9, 10, 11, 12, 13, 14, 15, 16, 17, 18, 19, 20]), ([0, 1], [6, 7, 8, 9, 10, 11, 12, 13, 14, 15, 16, 17, 18, 19, 20]), ([0, 1, 2, 3, 4, 5], [7, 8, 9, 10, 11, 12, 13, 14, 15, 16, 17, 18, 19, 20]), ([0, 1, 2, 3, 4, 5, 6], [8, 9, 10, 11, 12, 13, 14, 15, 16, 17, 18, 19, 20]), ([0, 1, 2, 3, 4, 5, 6, 7], [9, 10, 11, 12, 13, 14, 15, 16, 17, 18, 19, 20]), ([0, 1, 2, 3, 4, 5, 6, 7, 8], [10, 11, 12, 13, 14, 15, 16, 17, 18, 19, 20]), ([0, 1, 2, 3, 4, 5, 6, 7, 8, 9], [11, 12, 13, 14, 15, 16, 17, 18, 19, 20]), ([0, 1, 2, 3, 4, 5, 6, 7, 8, 9, 10], [12, 13, 14, 15, 16, 17, 18, 19, 20]), ([0, 1, 2, 3, 4, 5, 6, 7, 8, 9, 10, 11], [13, 14, 15, 16, 17, 18, 19, 20]), ([0, 1, 2, 3, 4, 5, 6, 7, 8, 9, 10, 11, 12], [14, 15, 16, 17, 18, 19, 20]), ([0, 1, 2, 3, 4, 5, 6, 7, 8, 9, 10, 11, 12, 13], [15, 16, 17, 18, 19, 20]), ([0, 1, 2, 3, 4, 5, 6, 7, 8, 9, 10, 11, 12, 13, 14], [17, 18, 19, 20]), ([0, 1, 2, 3, 4, 5, 6, 7, 8, 9, 10, 11, 12, 13, 14], [17, 18, 19, 20]), ([0, 1, 2, 3, 4, 5, 6, 7, 8, 9, 10, 11, 12, 13, 14, 15, 16], [18, 19, 20]), ([0, 1, 2, 3, 4, 5, 6, 7, 8, 9, 10, 11, 12, 13, 14, 15, 16, 17], [19, 20]), ([0, 1, 2, 3, 4, 5, 6, 7, 8, 9, 10, 11, 12, 13, 14, 15, 16, 17, 18], [20]), ([0, 1, 2, 3, 4, 5, 6, 7, 8, 9, 10, 11, 12, 13, 14, 15, 16, 17, 18, 19], [])] (fun L ac w => St 86 w0 [(36, L 0, .bool false), (37, L 1, .bool false), (38, L 2, undef), (39, L 3, undef), (40, L 4, undef), (41, L 5, undef), (42, L 6, undef), (43, L 7, undef), (44, L 8, undef), (45, L 9, undef), (46, L 10, undef), (47, L 11, undef), (48, L 12, undef), (49, L 13, undef), (50, L 14, undef), (51, L 15, undef), (52, L 16, undef), (53, L 17, undef), (54, L 18, undef), (55, L 19, undef), (56, L 20, .bool false), (1, true, .pointer (some ⟨g77, 0, none⟩)), (2, true, .bool false), (5, true, .pointer (some ⟨g85, 0, none⟩)), (6, true, .bool false)] [(true, g77, 24, (Wl a)), (true, g81, 24, (Wl y79)), (true, g85, 24, (Wl y83))] ac w) (by kernel_rfl) (by kernel_rfl) ?_ ?_ ?_
        · exact hs.drew.skip.skip.skip.skip.skip.skip.skip.skip.skip.skip.skip.skip.skip.skip.skip.skip.skip.skip.skip.skip.skip
        · refine ⟨?_, ?_, ?_, ?_, ?_, ?_, ?_, ?_, ?_, ?_, ?_, ?_, ?_, ?_, ?_, ?_, ?_, ?_, ?_, ?_, ?_, trivial⟩
          · intro L ac w hJ
            have hs := hJ
            refine wpO_plain rfl (op_move hs (some 0) rfl rfl rfl rfl fun ac hs => ?_)
            exact hs
          · intro L ac w hJ
            have hs := hJ
            refine wpO_plain rfl (op_move hs (some 1) rfl rfl rfl rfl fun ac hs => ?_)
            exact hs
          · intro L ac w hJ
            have hs := hJ
            refine wpO_out hs (some 2) rfl rfl (.inl rfl) rfl rfl fun ac hs => ?_
            exact hs
          · intro L ac w hJ
            have hs := hJ
            refine wpO_out hs (some 3) rfl rfl (.inl rfl) rfl rfl fun ac hs => ?_
            exact hs
          · intro L ac w hJ
            have hs := hJ
            refine wpO_out hs (some 4) rfl rfl (.inl rfl) rfl rfl fun ac hs => ?_
            exact hs
          · intro L ac w hJ
            have hs := hJ
            refine wpO_out hs (some 5) rfl rfl (.inl rfl) rfl rfl fun ac hs => ?_
            exact hs
          · intro L ac w hJ
            have hs := hJ
            refine wpO_out hs (some 6) rfl rfl (.inl rfl) rfl rfl fun ac hs => ?_
            exact hs
          · intro L ac w hJ
            have hs := hJ
            refine wpO_out hs (some 7) rfl rfl (.inl rfl) rfl rfl fun ac hs => ?_
            exact hs
          · intro L ac w hJ
            have hs := hJ
            refine wpO_out hs (some 8) rfl rfl (.inl rfl) rfl rfl fun ac hs => ?_
            exact hs
          · intro L ac w hJ
            have hs := hJ
            refine wpO_out hs (some 9) rfl rfl (.inr rfl) rfl rfl fun ac hs => ?_
            exact hs
          · intro L ac w hJ
            have hs := hJ
            refine wpO_out hs (some 10) rfl rfl (.inr rfl) rfl rfl fun ac hs => ?_
            exact hs
          · intro L ac w hJ
            have hs := hJ
            refine wpO_out hs (some 11) rfl rfl (.inr rfl) rfl rfl fun ac hs => ?_
            exact hs
          · intro L ac w hJ
            have hs := hJ
            refine wpO_out hs (some 12) rfl rfl (.inr rfl) rfl rfl fun ac hs => ?_
            exact hs
          · intro L ac w hJ
            have hs := hJ
            refine wpO_out hs (some 13) rfl rfl (.inl rfl) rfl rfl fun ac hs => ?_
            exact hs
          · intro L ac w hJ
            have hs := hJ
            refine wpO_out hs (some 14) rfl rfl (.inl rfl) rfl rfl fun ac hs => ?_
            exact hs
          · intro L ac w hJ
            have hs := hJ
            refine wpO_out hs (some 15) rfl rfl (.inr rfl) rfl rfl fun ac hs => ?_
            exact hs
          · intro L ac w hJ
            have hs := hJ
            refine wpO_out hs (some 16) rfl rfl (.inr rfl) rfl rfl fun ac hs => ?_
            exact hs
          · intro L ac w hJ
            have hs := hJ
            refine wpO_out hs (some 17) rfl rfl (.inr rfl) rfl rfl fun ac hs => ?_
            exact hs
          · intro L ac w hJ
            have hs := hJ
            refine wpO_out hs (some 18) rfl rfl (.inr rfl) rfl rfl fun ac hs => ?_
            exact hs
          · intro L ac w hJ
            have hs := hJ
            refine wpO_out hs (some 19) rfl rfl (.inl rfl) rfl rfl fun ac hs => ?_
            exact hs
          · intro L ac w hJ
            have hs := hJ
            refine wpO_plain rfl (op_pickF hs (some 20) rfl rfl rfl rfl rfl fun ac hs => ?_)
            exact hs
        intro ac w hJ
        replace hs : St 86 w0 [(36, true, .bool false), (37, true, .bool false), (38, true, undef), (39, true, undef), (40, true, undef), (41, true, undef), (42, true, undef), (43, true, undef), (44, true, undef), (45, true, undef), (46, true, undef), (47, true, undef), (48, true, undef), (49, true, undef), (50, true, undef), (51, true, undef), (52, true, undef), (53, true, undef), (54, true, undef), (55, true, undef), (56, true, .bool false), (1, true, .pointer (some ⟨g77, 0, none⟩)), (2, true, .bool false), (5, true, .pointer (some ⟨g85, 0, none⟩)), (6, true, .bool false)] [(true, g77, 24, (Wl a)), (true, g81, 24, (Wl y79)), (true, g85, 24, (Wl y83))] ac w := hJ
        refine then_n ?_
        refine wp_cond_false (hs.ev rfl) ?_
        refine wp_skip ?_
        refine then_n ?_
        refine wp_seq ?_
        refine wp_region_lit ?_
        refine lstep (wpO_plain rfl (op_load hs none 0 (v := W a) rfl rfl rfl rfl Try.isAgg24 Try.sizeOf24 rfl rfl fun ac hs => ?_))
        obtain ⟨r86, hr86, lr86⟩ : ∃ z0, fsub 0 a = z0 ∧ z0 < 2 ^ 256 := ⟨_, rfl, fsub_lt _ _⟩
        refine lstep (wpO_plain rfl (op_call (F := 19) hs none (v := W r86) rfl rfl rfl rfl (Try.call19 _) (fneg_c a r86 ha hr86) rfl fun ac w hs => ?_))
        obtain ⟨y87, hy87, ly87⟩ : ∃ z0, frV r86 = z0 ∧ z0 < 2 ^ 256 := ⟨_, rfl, frV_lt _⟩
        refine lstep (wpO_plain rfl (op_call (F := 23) hs none (v := .tuple #[W y87, .bool true]) rfl rfl rfl rfl (Try.call23 _) (froot_c r86 y87 true lr86 hy87 (by rw [← hr86]; exact frB_negzero hq75)) rfl fun ac w hs => ?_))
        refine lstep (wpO_plain rfl (op_move hs none rfl rfl rfl rfl fun ac hs => ?_))
        refine lstep (wpO_plain rfl (op_extract hs none rfl rfl rfl rfl rfl fun ac hs => ?_))
        refine lstep (wpO_plain rfl (op_extract hs none rfl rfl rfl rfl rfl fun ac hs => ?_))
        refine lstep (wpO_plain rfl (op_alloc hs none none (cs := [.int .u64 0, .int .u64 0, .int .u64 0, .int .u64 0]) rfl rfl Try.zeroValue24 (by kernel_rfl) rfl rfl fun g89 ac w hs => ?_))
        refine lstep (wpO_plain rfl (op_store hs 3 (vs := (Wl y87)) rfl rfl rfl rfl rfl Try.sizeOf24 rfl rfl rfl rfl rfl fun w hs => ?_))
        refine lstep (wpO_plain rfl (op_assign hs none rfl rfl rfl rfl fun ac hs => ?_))
        refine wpList_nil ?_
        refine then_n ?_
        refine wp_seq ?_
        refine wp_region_lit ?_
        refine lstep (wpO_plain rfl (op_load hs none 0 (v := W a) rfl rfl rfl rfl Try.isAgg24 Try.sizeOf24 rfl rfl fun ac hs => ?_))
        obtain ⟨r90, hr90, lr90⟩ : ∃ z0, a % Pf = z0 ∧ z0 < 2 ^ 256 := ⟨_, rfl, modP_lt _⟩
        refine lstep (wpO_plain rfl (op_call (F := 13) hs none (v := W r90) rfl rfl rfl rfl (Try.call13 _) (fred_c a r90 ha hr90) rfl fun ac w hs => ?_))
        refine lstep (wpO_plain rfl (op_build hs none (qs := []) (v := .agg #[.int .u64 0, .int .u64 0, .int .u64 0, .int .u64 0]) rfl rfl rfl rfl (fun _ => by kernel_rfl) rfl fun ac hs => ?_))
        refine lstep (wpO_plain rfl (op_bin hs none (v := .bool true) rfl rfl rfl rfl (fun w => run_eqGuard_agg w .eql 24 _ _ _ _ Try.eqGuardType24) (eqlW r90 0 lr90 (by decide) true (decide_eq_true (by rw [← hr90]; exact hq75))) rfl fun ac hs => ?_))
        refine lstep (wpO_plain rfl (op_assign hs none rfl rfl rfl rfl fun ac hs => ?_))
        refine wpList_nil ?_
        refine then_n ?_
        refine wp_seq ?_
        refine wp_region_lit ?_
        refine lstep (wpO_plain rfl (op_call (F := 10) hs none (v := .bool true) rfl rfl rfl rfl (Try.call10 _) alive_c rfl fun ac w hs => ?_))
        refine lstep (wpO_plain rfl (op_move hs none rfl rfl rfl rfl fun ac hs => ?_))
        refine lstep (wpO_in hs rfl rfl rfl (op_move hs none rfl rfl rfl rfl fun ac hs => ?_))
        refine lstep (wpO_in hs rfl rfl rfl (op_move hs none rfl rfl rfl rfl fun ac hs => ?_))
        refine lstep (wpO_in hs rfl rfl rfl (op_move hs none rfl rfl rfl rfl fun ac hs => ?_))
        refine lstep (wpO_in hs rfl rfl rfl (op_pickT hs none rfl rfl rfl rfl rfl fun ac hs => ?_))
        refine lstep (wpO_in hs rfl rfl rfl (op_move hs none rfl rfl rfl rfl fun ac hs => ?_))
        refine lstep (wpO_out hs none rfl rfl (.inl rfl) rfl rfl fun ac hs => ?_)
        refine lstep (wpO_in hs rfl rfl rfl (op_pickF hs none rfl rfl rfl rfl rfl fun ac hs => ?_))
        refine lstep (wpO_in hs rfl rfl rfl (op_move hs none rfl rfl rfl rfl fun ac hs => ?_))
        refine lstep (wpO_in hs rfl rfl rfl (op_move hs none rfl rfl rfl rfl fun ac hs => ?_))
        refine lstep (wpO_in hs rfl rfl rfl (op_un hs none (v := .bool false) rfl rfl rfl (fun _ => rfl) rfl fun ac hs => ?_))
        refine lstep (wpO_in hs rfl rfl rfl (op_move hs none rfl rfl rfl rfl fun ac hs => ?_))
        refine lstep (wpO_out hs none rfl rfl (.inl rfl) rfl rfl fun ac hs => ?_)
        refine lstep (wpO_out hs none rfl rfl (.inl rfl) rfl rfl fun ac hs => ?_)
        refine lstep (wpO_out hs none rfl rfl (.inl rfl) rfl rfl fun ac hs => ?_)
        refine lstep (wpO_in hs rfl rfl rfl (op_pickF hs none rfl rfl rfl rfl rfl fun ac hs => ?_))
        refine lstep (wpO_in hs rfl rfl rfl (op_pickF hs none rfl rfl rfl rfl rfl fun ac hs => ?_))
        refine lstep (wpO_plain rfl (op_pickT hs none rfl rfl rfl rfl rfl fun ac hs => ?_))
        refine lstep (wpO_plain rfl (op_assign hs none rfl rfl rfl rfl fun ac hs => ?_))
        refine wpList_nil ?_
        refine then_n ?_
        refine wp_ret ?_
        exact bodyPost_ret (res1 rfl (rv_t hs rfl)) hs.defers ⟨absurd (frB_zero hq75) hq1, hs.below⟩
      · skip
        refine wp_region_lit ?_
        refine lstep (wpO_plain rfl (op_box hs none none (cs := (Wl a)) rfl rfl rfl rfl rfl rfl fun g91 ac w hs => ?_))
        refine lstep (wpO_plain rfl (op_assign hs none rfl rfl rfl rfl fun ac hs => ?_))
        refine wpList_nil ?_
        refine then_n ?_
        refine wp_seq ?_
        refine wp_region_lit ?_
        refine lstep (wpO_plain rfl (op_load hs none 0 (v := W a) rfl rfl rfl rfl Try.isAgg24 Try.sizeOf24 rfl rfl fun ac hs => ?_))
        refine lstep (wpO_plain rfl (op_load hs none 0 (v := W a) rfl rfl rfl rfl Try.isAgg24 Try.sizeOf24 rfl rfl fun ac hs => ?_))
        obtain ⟨r92, hr92, lr92⟩ : ∃ z0, a * a % Pf = z0 ∧ z0 < 2 ^ 256 := ⟨_, rfl, modP_lt _⟩
        refine lstep (wpO_plain rfl (op_call (F := 21) hs none (v := W r92) rfl rfl rfl rfl (Try.call21 _) (fmul_c a a r92 ha ha hr92) rfl fun ac w hs => ?_))
        obtain ⟨y93, hy93, ly93⟩ : ∃ z0, frV r92 = z0 ∧ z0 < 2 ^ 256 := ⟨_, rfl, frV_lt _⟩
        refine lstep (wpO_plain rfl (op_call (F := 23) hs none (v := .tuple #[W y93, .bool true]) rfl rfl rfl rfl (Try.call23 _) (froot_c r92 y93 true lr92 hy93 (by rw [← hr92]; exact frB_sq _)) rfl fun ac w hs => ?_))
        refine lstep (wpO_plain rfl (op_move hs none rfl rfl rfl rfl fun ac hs => ?_))
        refine lstep (wpO_plain rfl (op_extract hs none rfl rfl rfl rfl rfl fun ac hs => ?_))
        refine lstep (wpO_plain rfl (op_extract hs none rfl rfl rfl rfl rfl fun ac hs => ?_))
        refine lstep (wpO_plain rfl (op_alloc hs none none (cs := [.int .u64 0, .int .u64 0, .int .u64 0, .int .u64 0]) rfl rfl Try.zeroValue24 (by kernel_rfl) rfl rfl fun g95 ac w hs => ?_))
        refine lstep (wpO_plain rfl (op_store hs 1 (vs := (Wl y93)) rfl rfl rfl rfl rfl Try.sizeOf24 rfl rfl rfl rfl rfl fun w hs => ?_))
        refine lstep (wpO_plain rfl (op_assign hs none rfl rfl rfl rfl fun ac hs => ?_))
        refine wpList_nil ?_
        refine then_n ?_
        refine wp_seq ?_
        refine wp_seq ?_
        replace hs : St 86 w0 [(1, true, .pointer (some ⟨g91, 0, none⟩)), (2, true, .bool false), (3, true, .pointer (some ⟨g95, 0, none⟩)), (4, true, .bool true)] [(true, g91, 24, (Wl a)), (true, g95, 24, (Wl y93))] ac w := hs.re ⟨rfl, rfl, rfl, rfl, trivial⟩
        obtain ⟨r96, hr96, lr96⟩ : ∃ z0, a % Pf = z0 ∧ z0 < 2 ^ 256 := ⟨_, rfl, modP_lt _⟩
        obtain ⟨r97, hr97, lr97⟩ : ∃ z0, fsub 0 a = z0 ∧ z0 < 2 ^ 256 := ⟨_, rfl, fsub_lt _ _⟩
        refine region_inv [([], [1, 2, 3, 4, 5, 6, 7, 8, 9, 10, 11, 12, 13]), ([0], [2, 3, 4, 5, 6, 7, 8, 9, 10, 11, 12, 13]), ([0, 1], [3, 4, 5, 6, 7, 8, 9, 10, 11, 12, 13]), ([0, 1, 2], [6, 7, 8, 9, 10, 11, 12, 13]), ([0, 1, 2], [5, 6, 7, 8, 9, 10, 11, 12, 13]), ([0, 1, 2, 4], [6, 7, 8, 9, 10, 11, 12, 13]), ([0, 1, 2, 3, 4, 5], [7, 8, 9, 10, 11, 12, 13]), ([0, 1, 2, 3, 4, 5, 6], [8, 9, 10, 11, 12, 13]), ([0, 1, 2, 3, 4, 5, 6, 7], [11, 12, 13]), ([0, 1, 2, 3, 4, 5, 6, 7], [10, 11, 12, 13]), ([0, 1, 2, 3, 4, 5, 6, 7, 9], [11, 12, 13]), ([0, 1, 2, 3, 4, 5, 6, 7, 8, 9, 10], [12, 13]), ([0, 1, 2, 3, 4, 5, 6, 7, 8, 9, 10, 11], [13]), ([0, 1, 2, 3, 4, 5, 6, 7, 8, 9, 10, 11, 12], [])] (fun L ac w => St 86 w0 [(17, L 0, .bool true), (18, L 1, .bool false), (19, L 2, .bool false), (20, L 3, W y93), (21, L 4, W a), (22, L 5, W r96), (23, L 6, .bool true), (24, L 7, .bool true), (25, L 8, W y93), (26, L 9, W a), (27, L 10, W r97), (28, L 11, .bool false), (29, L 12, .bool false), (30, L 13, .bool false), (1, true, .pointer (some ⟨g91, 0, none⟩)), (2, true, .bool false), (3, true, .pointer (some ⟨g95, 0, none⟩)), (4, true, .bool true)] [(true, g91, 24, (Wl a)), (true, g95, 24, (Wl y93))] ac w) (by kernel_rfl) (by kernel_rfl) ?_ ?_ ?_
        · exact hs.drew.skip.skip.skip.skip.skip.skip.skip.skip.skip.skip.skip.skip.skip.skip
        · refine ⟨?_, ?_, ?_, ?_, ?_, ?_, ?_, ?_, ?_, ?_, ?_, ?_, ?_, ?_, trivial⟩
          · intro L ac w hJ
            have hs := hJ
            refine wpO_plain rfl (op_move hs (some 0) rfl rfl rfl rfl fun ac hs => ?_)
            exact hs
          · intro L ac w hJ
            have hs := hJ
            refine wpO_plain rfl (op_un hs (some 1) (v := .bool false) rfl rfl rfl (fun _ => rfl) rfl fun ac hs => ?_)
            exact hs
          · intro L ac w hJ
            have hs := hJ
            refine wpO_plain rfl (op_move hs (some 2) rfl rfl rfl rfl fun ac hs => ?_)
            exact hs
          · intro L ac w hJ
            have hs := hJ
            refine wpO_in hs rfl rfl rfl (op_load hs (some 3) 1 (v := W y93) rfl rfl rfl rfl Try.isAgg24 Try.sizeOf24 rfl rfl fun ac hs => ?_)
            exact hs
          · intro L ac w hJ
            have hs := hJ
            refine wpO_in hs rfl rfl rfl (op_load hs (some 4) 0 (v := W a) rfl rfl rfl rfl Try.isAgg24 Try.sizeOf24 rfl rfl fun ac hs => ?_)
            exact hs
          · intro L ac w hJ
            have hs := hJ
            refine wpO_in hs rfl rfl rfl (op_call (F := 13) hs (some 5) (v := W r96) rfl rfl rfl rfl (Try.call13 _) (fred_c a r96 ha hr96) rfl fun ac w hs => ?_)
            exact hs
          · intro L ac w hJ
            have hs := hJ
            refine wpO_in hs rfl rfl rfl (op_bin hs (some 6) (v := .bool true) rfl rfl rfl rfl (fun w => run_eqGuard_agg w .neq 24 _ _ _ _ Try.eqGuardType24) (neqW y93 r96 ly93 lr96 true (decide_eq_true (by rw [← hy93, ← hr96, ← hr92]; exact hq76))) rfl fun ac hs => ?_)
            exact hs
          · intro L ac w hJ
            have hs := hJ
            refine wpO_in hs rfl rfl rfl (op_move hs (some 7) rfl rfl rfl rfl fun ac hs => ?_)
            exact hs
          · intro L ac w hJ
            have hs := hJ
            refine wpO_in hs rfl rfl rfl (op_load hs (some 8) 1 (v := W y93) rfl rfl rfl rfl Try.isAgg24 Try.sizeOf24 rfl rfl fun ac hs => ?_)
            exact hs
          · intro L ac w hJ
            have hs := hJ
            refine wpO_in hs rfl rfl rfl (op_load hs (some 9) 0 (v := W a) rfl rfl rfl rfl Try.isAgg24 Try.sizeOf24 rfl rfl fun ac hs => ?_)
            exact hs
          · intro L ac w hJ
            have hs := hJ
            refine wpO_in hs rfl rfl rfl (op_call (F := 19) hs (some 10) (v := W r97) rfl rfl rfl rfl (Try.call19 _) (fneg_c a r97 ha hr97) rfl fun ac w hs => ?_)
            exact hs
          · intro L ac w hJ
            have hs := hJ
            refine wpO_in hs rfl rfl rfl (op_bin hs (some 11) (v := .bool false) rfl rfl rfl rfl (fun w => run_eqGuard_agg w .neq 24 _ _ _ _ Try.eqGuardType24) (neqW y93 r97 ly93 lr97 false (decide_eq_false (not_not_intro (by rw [← hy93, ← hr97, ← hr92]; exact (frV_sq a).resolve_left hq76)))) rfl fun ac hs => ?_)
            exact hs
          · intro L ac w hJ
            have hs := hJ
            refine wpO_in hs rfl rfl rfl (op_pickT hs (some 12) rfl rfl rfl rfl rfl fun ac hs => ?_)
            exact hs
          · intro L ac w hJ
            have hs := hJ
            refine wpO_plain rfl (op_pickF hs (some 13) rfl rfl rfl rfl rfl fun ac hs => ?_)
            exact hs
        intro ac w hJ
        replace hs : St 86 w0 [(17, true, .bool true), (18, true, .bool false), (19, true, .bool false), (20, true, W y93), (21, true, W a), (22, true, W r96), (23, true, .bool true), (24, true, .bool true), (25, true, W y93), (26, true, W a), (27, true, W r97), (28, true, .bool false), (29, true, .bool false), (30, true, .bool false), (1, true, .pointer (some ⟨g91, 0, none⟩)), (2, true, .bool false), (3, true, .pointer (some ⟨g95, 0, none⟩)), (4, true, .bool true)] [(true, g91, 24, (Wl a)), (true, g95, 24, (Wl y93))] ac w := hJ
        refine then_n ?_
        refine wp_cond_false (hs.ev rfl) ?_
        refine wp_skip ?_
        refine then_n ?_
        refine wp_seq ?_
        refine wp_region_lit ?_
        refine lstep (wpO_plain rfl (op_load hs none 0 (v := W a) rfl rfl rfl rfl Try.isAgg24 Try.sizeOf24 rfl rfl fun ac hs => ?_))
        obtain ⟨y98, hy98, ly98⟩ : ∃ z0, frV a = z0 ∧ z0 < 2 ^ 256 := ⟨_, rfl, frV_lt _⟩
        refine lstep (wpO_plain rfl (op_call (F := 23) hs none (v := .tuple #[W y98, .bool false]) rfl rfl rfl rfl (Try.call23 _) (froot_c a y98 false ha hy98 (Bool.eq_false_iff.2 hq1)) rfl fun ac w hs => ?_))
        refine lstep (wpO_plain rfl (op_move hs none rfl rfl rfl rfl fun ac hs => ?_))
        refine lstep (wpO_plain rfl (op_extract hs none rfl rfl rfl rfl rfl fun ac hs => ?_))
        refine lstep (wpO_plain rfl (op_extract hs none rfl rfl rfl rfl rfl fun ac hs => ?_))
        refine lstep (wpO_plain rfl (op_alloc hs none none (cs := [.int .u64 0, .int .u64 0, .int .u64 0, .int .u64 0]) rfl rfl Try.zeroValue24 (by kernel_rfl) rfl rfl fun g100 ac w hs => ?_))
        refine lstep (wpO_plain rfl (op_store hs 2 (vs := (Wl y98)) rfl rfl rfl rfl rfl Try.sizeOf24 rfl rfl rfl rfl rfl fun w hs => ?_))
        refine lstep (wpO_plain rfl (op_assign hs none rfl rfl rfl rfl fun ac hs => ?_))
        refine wpList_nil ?_
        refine then_n ?_
        refine wp_seq ?_
        refine wp_seq ?_
        replace hs : St 86 w0 [(1, true, .pointer (some ⟨g91, 0, none⟩)), (2, true, .bool false), (5, true, .pointer (some ⟨g100, 0, none⟩)), (6, true, .bool false)] [(true, g91, 24, (Wl a)), (true, g95, 24, (Wl y93)), (true, g100, 24, (Wl y98))] ac w := hs.re ⟨rfl, rfl, rfl, rfl, trivial⟩
        refine region_inv [([], [1, 2, 3, 4, 5, 6, 7, 8, 9, 10, 11, 12, 13, 14, 15, 16, 17, 18, 19, 20]), ([0], [2, 3, 4, 5, 6, 7, 8, 9, 10, 11, 12, 13, 14, 15, 16, 17, 18, 19, 20]), ([0, 1], [4, 6, 7, 8, 9, 10, 11, 12, 13, 14, 15, 16, 17, 18, 19, 20]), ([0, 1], [4, 6, 7, 8, 9, 10, 11, 12, 13, 14, 15, 16, 17, 18, 19, 20]), ([0, 1, 2, 3], [6, 7, 8, 9, 10, 11, 12, 13, 14, 15, 16, 17, 18, 19, 20]), ([0, 1], [6, 7, 8, 9, 10, 11, 12, 13, 14, 15, 16, 17, 18, 19, 20]), ([0, 1, 2, 3, 4, 5], [7, 8, 9, 10, 11, 12, 13, 14, 15, 16, 17, 18, 19, 20]), ([0, 1, 2, 3, 4, 5, 6], [8, 9, 10, 11, 12, 13, 14, 15, 16, 17, 18, 19, 20]), ([0, 1, 2, 3, 4, 5, 6, 7], [9, 10, 11, 12, 13, 14, 15, 16, 17, 18, 19, 20]), ([0, 1, 2, 3, 4, 5, 6, 7, 8], [10, 11, 12, 13, 14, 15, 16, 17, 18, 19, 20]), ([0, 1, 2, 3, 4, 5, 6, 7, 8, 9], [11, 12, 13, 14, 15, 16, 17, 18, 19, 20]), ([0, 1, 2, 3, 4, 5, 6, 7, 8, 9, 10], [12, 13, 14, 15, 16, 17, 18, 19, 20]), ([0, 1, 2, 3, 4, 5, 6, 7, 8, 9, 10, 11], [13, 14, 15, 16, 17, 18, 19, 20]), ([0, 1, 2, 3, 4, 5, 6, 7, 8, 9, 10, 11, 12], [14, 15, 16, 17, 18, 19, 20]), ([0, 1, 2, 3, 4, 5, 6, 7, 8, 9, 10, 11, 12, 13], [15, 16, 17, 18, 19, 20]), ([0, 1, 2, 3, 4, 5, 6, 7, 8, 9, 10, 11, 12, 13, 14], [17, 18, 19, 20]), ([0, 1, 2, 3, 4, 5, 6, 7, 8, 9, 10, 11, 12, 13, 14], [17, 18, 19, 20]), ([0, 1, 2, 3, 4, 5, 6, 7, 8, 9, 10, 11, 12, 13, 14, 15, 16], [18, 19, 20]), ([0, 1, 2, 3, 4, 5, 6, 7, 8, 9, 10, 11, 12, 13, 14, 15, 16, 17], [19, 20]), ([0, 1, 2, 3, 4, 5, 6, 7, 8, 9, 10, 11, 12, 13, 14, 15, 16, 17, 18], [20]), ([0, 1, 2, 3, 4, 5, 6, 7, 8, 9, 10, 11, 12, 13, 14, 15, 16, 17, 18, 19], [])] (fun L ac w => St 86 w0 [(36, L 0, .bool false), (37, L 1, .bool false), (38, L 2, undef), (39, L 3, undef), (40, L 4, undef), (41, L 5, undef), (42, L 6, undef), (43, L 7, undef), (44, L 8, undef), (45, L 9, undef), (46, L 10, undef), (47, L 11, undef), (48, L 12, undef), (49, L 13, undef), (50, L 14, undef), (51, L 15, undef), (52, L 16, undef), (53, L 17, undef), (54, L 18, undef), (55, L 19, undef), (56, L 20, .bool false), (1, true, .pointer (some ⟨g91, 0, none⟩)), (2, true, .bool false), (5, true, .pointer (some ⟨g100, 0, none⟩)), (6, true, .bool false)] [(true, g91, 24, (Wl a)), (true, g95, 24, (Wl y93)), (true, g100, 24, (Wl y98))] ac w) (by kernel_rfl) (by kernel_rfl) ?_ ?_ ?_
        · exact hs.drew.skip.skip.skip.skip.skip.skip.skip.skip.skip.skip.skip.skip.skip.skip.skip.skip.skip.skip.skip.skip.skip
        · refine ⟨?_, ?_, ?_, ?_, ?_, ?_, ?_, ?_, ?_, ?_, ?_, ?_, ?_, ?_, ?_, ?_, ?_, ?_, ?_, ?_, ?_, trivial⟩
          · intro L ac w hJ
            have hs := hJ
            refine wpO_plain rfl (op_move hs (some 0) rfl rfl rfl rfl fun ac hs => ?_)
            exact hs
          · intro L ac w hJ
            have hs := hJ
            refine wpO_plain rfl (op_move hs (some 1) rfl rfl rfl rfl fun ac hs => ?_)
            exact hs
          · intro L ac w hJ
            have hs := hJ
            refine wpO_out hs (some 2) rfl rfl (.inl rfl) rfl rfl fun ac hs => ?_
            exact hs
          · intro L ac w hJ
            have hs := hJ
            refine wpO_out hs (some 3) rfl rfl (.inl rfl) rfl rfl fun ac hs => ?_
            exact hs
          · intro L ac w hJ
            have hs := hJ
            refine wpO_out hs (some 4) rfl rfl (.inl rfl) rfl rfl fun ac hs => ?_
            exact hs
          · intro L ac w hJ
            have hs := hJ
            refine wpO_out hs (some 5) rfl rfl (.inl rfl) rfl rfl fun ac hs => ?_
            exact hs
          · intro L ac w hJ
            have hs := hJ
            refine wpO_out hs (some 6) rfl rfl (.inl rfl) rfl rfl fun ac hs => ?_
            exact hs
          · intro L ac w hJ
            have hs := hJ
            refine wpO_out hs (some 7) rfl rfl (.inl rfl) rfl rfl fun ac hs => ?_
            exact hs
          · intro L ac w hJ
            have hs := hJ
            refine wpO_out hs (some 8) rfl rfl (.inl rfl) rfl rfl fun ac hs => ?_
            exact hs
          · intro L ac w hJ
            have hs := hJ
            refine wpO_out hs (some 9) rfl rfl (.inr rfl) rfl rfl fun ac hs => ?_
            exact hs
          · intro L ac w hJ
            have hs := hJ
            refine wpO_out hs (some 10) rfl rfl (.inr rfl) rfl rfl fun ac hs => ?_
            exact hs
          · intro L ac w hJ
            have hs := hJ
            refine wpO_out hs (some 11) rfl rfl (.inr rfl) rfl rfl fun ac hs => ?_
            exact hs
          · intro L ac w hJ
            have hs := hJ
            refine wpO_out hs (some 12) rfl rfl (.inr rfl) rfl rfl fun ac hs => ?_
            exact hs
          · intro L ac w hJ
            have hs := hJ
            refine wpO_out hs (some 13) rfl rfl (.inl rfl) rfl rfl fun ac hs => ?_
            exact hs
          · intro L ac w hJ
            have hs := hJ
            refine wpO_out hs (some 14) rfl rfl (.inl rfl) rfl rfl fun ac hs => ?_
            exact hs
          · intro L ac w hJ
            have hs := hJ
            refine wpO_out hs (some 15) rfl rfl (.inr rfl) rfl rfl fun ac hs => ?_
            exact hs
          · intro L ac w hJ
            have hs := hJ
            refine wpO_out hs (some 16) rfl rfl (.inr rfl) rfl rfl fun ac hs => ?_
            exact hs
          · intro L ac w hJ
            have hs := hJ
            refine wpO_out hs (some 17) rfl rfl (.inr rfl) rfl rfl fun ac hs => ?_
            exact hs
          · intro L ac w hJ
            have hs := hJ
            refine wpO_out hs (some 18) rfl rfl (.inr rfl) rfl rfl fun ac hs => ?_
            exact hs
          · intro L ac w hJ
            have hs := hJ
            refine wpO_out hs (some 19) rfl rfl (.inl rfl) rfl rfl fun ac hs => ?_
            exact hs
          · intro L ac w hJ
            have hs := hJ
            refine wpO_plain rfl (op_pickF hs (some 20) rfl rfl rfl rfl rfl fun ac hs => ?_)
            exact hs
        intro ac w hJ
        replace hs : St 86 w0 [(36, true, .bool false), (37, true, .bool false), (38, true, undef), (39, true, undef), (40, true, undef), (41, true, undef), (42, true, undef), (43, true, undef), (44, true, undef), (45, true, undef), (46, true, undef), (47, true, undef), (48, true, undef), (49, true, undef), (50, true, undef), (51, true, undef), (52, true, undef), (53, true, undef), (54, true, undef), (55, true, undef), (56, true, .bool false), (1, true, .pointer (some ⟨g91, 0, none⟩)), (2, true, .bool false), (5, true, .pointer (some ⟨g100, 0, none⟩)), (6, true, .bool false)] [(true, g91, 24, (Wl a)), (true, g95, 24, (Wl y93)), (true, g100, 24, (Wl y98))] ac w := hJ
        refine then_n ?_
        refine wp_cond_false (hs.ev rfl) ?_
        refine wp_skip ?_
        refine then_n ?_
        refine wp_seq ?_
        refine wp_region_lit ?_
        refine lstep (wpO_plain rfl (op_load hs none 0 (v := W a) rfl rfl rfl rfl Try.isAgg24 Try.sizeOf24 rfl rfl fun ac hs => ?_))
        obtain ⟨r101, hr101, lr101⟩ : ∃ z0, fsub 0 a = z0 ∧ z0 < 2 ^ 256 := ⟨_, rfl, fsub_lt _ _⟩
        refine lstep (wpO_plain rfl (op_call (F := 19) hs none (v := W r101) rfl rfl rfl rfl (Try.call19 _) (fneg_c a r101 ha hr101) rfl fun ac w hs => ?_))
        obtain ⟨y102, hy102, ly102⟩ : ∃ z0, frV r101 = z0 ∧ z0 < 2 ^ 256 := ⟨_, rfl, frV_lt _⟩
        refine lstep (wpO_plain rfl (op_call (F := 23) hs none (v := .tuple #[W y102, .bool true]) rfl rfl rfl rfl (Try.call23 _) (froot_c r101 y102 true lr101 hy102 (by rw [← hr101]; exact frB_negzero hq75)) rfl fun ac w hs => ?_))
        refine lstep (wpO_plain rfl (op_move hs none rfl rfl rfl rfl fun ac hs => ?_))
        refine lstep (wpO_plain rfl (op_extract hs none rfl rfl rfl rfl rfl fun ac hs => ?_))
        refine lstep (wpO_plain rfl (op_extract hs none rfl rfl rfl rfl rfl fun ac hs => ?_))
        refine lstep (wpO_plain rfl (op_alloc hs none none (cs := [.int .u64 0, .int .u64 0, .int .u64 0, .int .u64 0]) rfl rfl Try.zeroValue24 (by kernel_rfl) rfl rfl fun g104 ac w hs => ?_))
        refine lstep (wpO_plain rfl (op_store hs 3 (vs := (Wl y102)) rfl rfl rfl rfl rfl Try.sizeOf24 rfl rfl rfl rfl rfl fun w hs => ?_))
        refine lstep (wpO_plain rfl (op_assign hs none rfl rfl rfl rfl fun ac hs => ?_))
        refine wpList_nil ?_
        refine then_n ?_
        refine wp_seq ?_
        refine wp_region_lit ?_
        refine lstep (wpO_plain rfl (op_load hs none 0 (v := W a) rfl rfl rfl rfl Try.isAgg24 Try.sizeOf24 rfl rfl fun ac hs => ?_))
        obtain ⟨r105, hr105, lr105⟩ : ∃ z0, a % Pf = z0 ∧ z0 < 2 ^ 256 := ⟨_, rfl, modP_lt _⟩
        refine lstep (wpO_plain rfl (op_call (F := 13) hs none (v := W r105) rfl rfl rfl rfl (Try.call13 _) (fred_c a r105 ha hr105) rfl fun ac w hs => ?_))
        refine lstep (wpO_plain rfl (op_build hs none (qs := []) (v := .agg #[.int .u64 0, .int .u64 0, .int .u64 0, .int .u64 0]) rfl rfl rfl rfl (fun _ => by kernel_rfl) rfl fun ac hs => ?_))
        refine lstep (wpO_plain rfl (op_bin hs none (v := .bool true) rfl rfl rfl rfl (fun w => run_eqGuard_agg w .eql 24 _ _ _ _ Try.eqGuardType24) (eqlW r105 0 lr105 (by decide) true (decide_eq_true (by rw [← hr105]; exact hq75))) rfl fun ac hs => ?_))
        refine lstep (wpO_plain rfl (op_assign hs none rfl rfl rfl rfl fun ac hs => ?_))
        refine wpList_nil ?_
        refine then_n ?_
        refine wp_seq ?_
        refine wp_region_lit ?_
        refine lstep (wpO_plain rfl (op_call (F := 10) hs none (v := .bool true) rfl rfl rfl rfl (Try.call10 _) alive_c rfl fun ac w hs => ?_))
        refine lstep (wpO_plain rfl (op_move hs none rfl rfl rfl rfl fun ac hs => ?_))
        refine lstep (wpO_in hs rfl rfl rfl (op_move hs none rfl rfl rfl rfl fun ac hs => ?_))
        refine lstep (wpO_in hs rfl rfl rfl (op_move hs none rfl rfl rfl rfl fun ac hs => ?_))
        refine lstep (wpO_in hs rfl rfl rfl (op_move hs none rfl rfl rfl rfl fun ac hs => ?_))
        refine lstep (wpO_in hs rfl rfl rfl (op_pickT hs none rfl rfl rfl rfl rfl fun ac hs => ?_))
        refine lstep (wpO_in hs rfl rfl rfl (op_move hs none rfl rfl rfl rfl fun ac hs => ?_))
        refine lstep (wpO_out hs none rfl rfl (.inl rfl) rfl rfl fun ac hs => ?_)
        refine lstep (wpO_in hs rfl rfl rfl (op_pickF hs none rfl rfl rfl rfl rfl fun ac hs => ?_))
        refine lstep (wpO_in hs rfl rfl rfl (op_move hs none rfl rfl rfl rfl fun ac hs => ?_))
        refine lstep (wpO_in hs rfl rfl rfl (op_move hs none rfl rfl rfl rfl fun ac hs => ?_))
        refine lstep (wpO_in hs rfl rfl rfl (op_un hs none (v := .bool false) rfl rfl rfl (fun _ => rfl) rfl fun ac hs => ?_))
        refine lstep (wpO_in hs rfl rfl rfl (op_move hs none rfl rfl rfl rfl fun ac hs => ?_))
        refine lstep (wpO_out hs none rfl rfl (.inl rfl) rfl rfl fun ac hs => ?_)
        refine lstep (wpO_out hs none rfl rfl (.inl rfl) rfl rfl fun ac hs => ?_)
        refine lstep (wpO_out hs none rfl rfl (.inl rfl) rfl rfl fun ac hs => ?_)
        refine lstep (wpO_in hs rfl rfl rfl (op_pickF hs none rfl rfl rfl rfl rfl fun ac hs => ?_))
        refine lstep (wpO_in hs rfl rfl rfl (op_pickF hs none rfl rfl rfl rfl rfl fun ac hs => ?_))
        refine lstep (wpO_plain rfl (op_pickT hs none rfl rfl rfl rfl rfl fun ac hs => ?_))
        refine lstep (wpO_plain rfl (op_assign hs none rfl rfl rfl rfl fun ac hs => ?_))
        refine wpList_nil ?_
        refine then_n ?_
        refine wp_ret ?_
        exact bodyPost_ret (res1 rfl (rv_t hs rfl)) hs.defers ⟨absurd (frB_zero hq75) hq1, hs.below⟩
    · skip
      by_cases hq106 : frV (a * a % Pf) = a % Pf
      · skip
        refine wp_region_lit ?_
        refine lstep (wpO_plain rfl (op_box hs none none (cs := (Wl a)) rfl rfl rfl rfl rfl rfl fun g107 ac w hs => ?_))
        refine lstep (wpO_plain rfl (op_assign hs none rfl rfl rfl rfl fun ac hs => ?_))
        refine wpList_nil ?_
        refine then_n ?_
        refine wp_seq ?_
        refine wp_region_lit ?_
        refine lstep (wpO_plain rfl (op_load hs none 0 (v := W a) rfl rfl rfl rfl Try.isAgg24 Try.sizeOf24 rfl rfl fun ac hs => ?_))
        refine lstep (wpO_plain rfl (op_load hs none 0 (v := W a) rfl rfl rfl rfl Try.isAgg24 Try.sizeOf24 rfl rfl fun ac hs => ?_))
        obtain ⟨r108, hr108, lr108⟩ : ∃ z0, a * a % Pf = z0 ∧ z0 < 2 ^ 256 := ⟨_, rfl, modP_lt _⟩
        refine lstep (wpO_plain rfl (op_call (F := 21) hs none (v := W r108) rfl rfl rfl rfl (Try.call21 _) (fmul_c a a r108 ha ha hr108) rfl fun ac w hs => ?_))
        obtain ⟨y109, hy109, ly109⟩ : ∃ z0, frV r108 = z0 ∧ z0 < 2 ^ 256 := ⟨_, rfl, frV_lt _⟩
        refine lstep (wpO_plain rfl (op_call (F := 23) hs none (v := .tuple #[W y109, .bool true]) rfl rfl rfl rfl (Try.call23 _) (froot_c r108 y109 true lr108 hy109 (by rw [← hr108]; exact frB_sq _)) rfl fun ac w hs => ?_))
        refine lstep (wpO_plain rfl (op_move hs none rfl rfl rfl rfl fun ac hs => ?_))
        refine lstep (wpO_plain rfl (op_extract hs none rfl rfl rfl rfl rfl fun ac hs => ?_))
        refine lstep (wpO_plain rfl (op_extract hs none rfl rfl rfl rfl rfl fun ac hs => ?_))
        refine lstep (wpO_plain rfl (op_alloc hs none none (cs := [.int .u64 0, .int .u64 0, .int .u64 0, .int .u64 0]) rfl rfl Try.zeroValue24 (by kernel_rfl) rfl rfl fun g111 ac w hs => ?_))
        refine lstep (wpO_plain rfl (op_store hs 1 (vs := (Wl y109)) rfl rfl rfl rfl rfl Try.sizeOf24 rfl rfl rfl rfl rfl fun w hs => ?_))
        refine lstep (wpO_plain rfl (op_assign hs none rfl rfl rfl rfl fun ac hs => ?_))
        refine wpList_nil ?_
        refine then_n ?_
        refine wp_seq ?_
        refine wp_seq ?_
        replace hs : St 86 w0 [(1, true, .pointer (some ⟨g107, 0, none⟩)), (2, true, .bool false), (3, true, .pointer (some ⟨g111, 0, none⟩)), (4, true, .bool true)] [(true, g107, 24, (Wl a)), (true, g111, 24, (Wl y109))] ac w := hs.re ⟨rfl, rfl, rfl, rfl, trivial⟩
        obtain ⟨r112, hr112, lr112⟩ : ∃ z0, a % Pf = z0 ∧ z0 < 2 ^ 256 := ⟨_, rfl, modP_lt _⟩
        refine region_inv [([], [1, 2, 3, 4, 5, 6, 7, 8, 9, 10, 11, 12, 13]), ([0], [2, 3, 4, 5, 6, 7, 8, 9, 10, 11, 12, 13]), ([0, 1], [3, 4, 5, 6, 7, 8, 9, 10, 11, 12, 13]), ([0, 1, 2], [6, 7, 8, 9, 10, 11, 12, 13]), ([0, 1, 2], [5, 6, 7, 8, 9, 10, 11, 12, 13]), ([0, 1, 2, 4], [6, 7, 8, 9, 10, 11, 12, 13]), ([0, 1, 2, 3, 4, 5], [7, 8, 9, 10, 11, 12, 13]), ([0, 1, 2, 3, 4, 5, 6], [8, 9, 10, 11, 12, 13]), ([0, 1, 2, 3, 4, 5, 6, 7], [11, 12, 13]), ([0, 1, 2, 3, 4, 5, 6, 7], [10, 11, 12, 13]), ([0, 1, 2, 3, 4, 5, 6, 7, 9], [11, 12, 13]), ([0, 1, 2, 3, 4, 5, 6, 7, 8, 9, 10], [12, 13]), ([0, 1, 2, 3, 4, 5, 6, 7, 8, 9, 10, 11], [13]), ([0, 1, 2, 3, 4, 5, 6, 7, 8, 9, 10, 11, 12], [])] (fun L ac w => St 86 w0 [(17, L 0, .bool true), (18, L 1, .bool false), (19, L 2, .bool false), (20, L 3, W y109), (21, L 4, W a), (22, L 5, W r112), (23, L 6, .bool false), (24, L 7, .bool false), (25, L 8, undef), (26, L 9, undef), (27, L 10, undef), (28, L 11, undef), (29, L 12, .bool false), (30, L 13, .bool false), (1, true, .pointer (some ⟨g107, 0, none⟩)), (2, true, .bool false), (3, true, .pointer (some ⟨g111, 0, none⟩)), (4, true, .bool true)] [(true, g107, 24, (Wl a)), (true, g111, 24, (Wl y109))] ac w) (by kernel_rfl) (by kernel_rfl) ?_ ?_ ?_
        · exact hs.drew.skip.skip.skip.skip.skip.skip.skip.skip.skip.skip.skip.skip.skip.skip
        · refine ⟨?_, ?_, ?_, ?_, ?_, ?_, ?_, ?_, ?_, ?_, ?_, ?_, ?_, ?_, trivial⟩
          · intro L ac w hJ
            have hs := hJ
            refine wpO_plain rfl (op_move hs (some 0) rfl rfl rfl rfl fun ac hs => ?_)
            exact hs
          · intro L ac w hJ
            have hs := hJ
            refine wpO_plain rfl (op_un hs (some 1) (v := .bool false) rfl rfl rfl (fun _ => rfl) rfl fun ac hs => ?_)
            exact hs
          · intro L ac w hJ
            have hs := hJ
            refine wpO_plain rfl (op_move hs (some 2) rfl rfl rfl rfl fun ac hs => ?_)
            exact hs
          · intro L ac w hJ
            have hs := hJ
            refine wpO_in hs rfl rfl rfl (op_load hs (some 3) 1 (v := W y109) rfl rfl rfl rfl Try.isAgg24 Try.sizeOf24 rfl rfl fun ac hs => ?_)
            exact hs
          · intro L ac w hJ
            have hs := hJ
            refine wpO_in hs rfl rfl rfl (op_load hs (some 4) 0 (v := W a) rfl rfl rfl rfl Try.isAgg24 Try.sizeOf24 rfl rfl fun ac hs => ?_)
            exact hs
          · intro L ac w hJ
            have hs := hJ
            refine wpO_in hs rfl rfl rfl (op_call (F := 13) hs (some 5) (v := W r112) rfl rfl rfl rfl (Try.call13 _) (fred_c a r112 ha hr112) rfl fun ac w hs => ?_)
            exact hs
          · intro L ac w hJ
            have hs := hJ
            refine wpO_in hs rfl rfl rfl (op_bin hs (some 6) (v := .bool false) rfl rfl rfl rfl (fun w => run_eqGuard_agg w .neq 24 _ _ _ _ Try.eqGuardType24) (neqW y109 r112 ly109 lr112 false (decide_eq_false (not_not_intro (by rw [← hy109, ← hr112, ← hr108]; exact hq106)))) rfl fun ac hs => ?_)
            exact hs
          · intro L ac w hJ
            have hs := hJ
            refine wpO_in hs rfl rfl rfl (op_move hs (some 7) rfl rfl rfl rfl fun ac hs => ?_)
            exact hs
          · intro L ac w hJ
            have hs := hJ
            refine wpO_out hs (some 8) rfl rfl (.inl rfl) rfl rfl fun ac hs => ?_
            exact hs
          · intro L ac w hJ
            have hs := hJ
            refine wpO_out hs (some 9) rfl rfl (.inl rfl) rfl rfl fun ac hs => ?_
            exact hs
          · intro L ac w hJ
            have hs := hJ
            refine wpO_out hs (some 10) rfl rfl (.inl rfl) rfl rfl fun ac hs => ?_
            exact hs
          · intro L ac w hJ
            have hs := hJ
            refine wpO_out hs (some 11) rfl rfl (.inl rfl) rfl rfl fun ac hs => ?_
            exact hs
          · intro L ac w hJ
            have hs := hJ
            refine wpO_in hs rfl rfl rfl (op_pickF hs (some 12) rfl rfl rfl rfl rfl fun ac hs => ?_)
            exact hs
          · intro L ac w hJ
            have hs := hJ
            refine wpO_plain rfl (op_pickF hs (some 13) rfl rfl rfl rfl rfl fun ac hs => ?_)
            exact hs
        intro ac w hJ
        replace hs : St 86 w0 [(17, true, .bool true), (18, true, .bool false), (19, true, .bool false), (20, true, W y109), (21, true, W a), (22, true, W r112), (23, true, .bool false), (24, true, .bool false), (25, true, undef), (26, true, undef), (27, true, undef), (28, true, undef), (29, true, .bool false), (30, true, .bool false), (1, true, .pointer (some ⟨g107, 0, none⟩)), (2, true, .bool false), (3, true, .pointer (some ⟨g111, 0, none⟩)), (4, true, .bool true)] [(true, g107, 24, (Wl a)), (true, g111, 24, (Wl y109))] ac w := hJ
        refine then_n ?_
        refine wp_cond_false (hs.ev rfl) ?_
        refine wp_skip ?_
        refine then_n ?_
        refine wp_seq ?_
        refine wp_region_lit ?_
        refine lstep (wpO_plain rfl (op_load hs none 0 (v := W a) rfl rfl rfl rfl Try.isAgg24 Try.sizeOf24 rfl rfl fun ac hs => ?_))
        obtain ⟨y113, hy113, ly113⟩ : ∃ z0, frV a = z0 ∧ z0 < 2 ^ 256 := ⟨_, rfl, frV_lt _⟩
        refine lstep (wpO_plain rfl (op_call (F := 23) hs none (v := .tuple #[W y113, .bool false]) rfl rfl rfl rfl (Try.call23 _) (froot_c a y113 false ha hy113 (Bool.eq_false_iff.2 hq1)) rfl fun ac w hs => ?_))
        refine lstep (wpO_plain rfl (op_move hs none rfl rfl rfl rfl fun ac hs => ?_))
        refine lstep (wpO_plain rfl (op_extract hs none rfl rfl rfl rfl rfl fun ac hs => ?_))
        refine lstep (wpO_plain rfl (op_extract hs none rfl rfl rfl rfl rfl fun ac hs => ?_))
        refine lstep (wpO_plain rfl (op_alloc hs none none (cs := [.int .u64 0, .int .u64 0, .int .u64 0, .int .u64 0]) rfl rfl Try.zeroValue24 (by kernel_rfl) rfl rfl fun g115 ac w hs => ?_))
        refine lstep (wpO_plain rfl (op_store hs 2 (vs := (Wl y113)) rfl rfl rfl rfl rfl Try.sizeOf24 rfl rfl rfl rfl rfl fun w hs => ?_))
        refine lstep (wpO_plain rfl (op_assign hs none rfl rfl rfl rfl fun ac hs => ?_))
        refine wpList_nil ?_
        refine then_n ?_
        refine wp_seq ?_
        refine wp_seq ?_
        replace hs : St 86 w0 [(1, true, .pointer (some ⟨g107, 0, none⟩)), (2, true, .bool false), (5, true, .pointer (some ⟨g115, 0, none⟩)), (6, true, .bool false)] [(true, g107, 24, (Wl a)), (true, g111, 24, (Wl y109)), (true, g115, 24, (Wl y113))] ac w := hs.re ⟨rfl, rfl, rfl, rfl, trivial⟩
        refine region_inv [([], [1, 2, 3, 4, 5, 6, 7, 8, 9, 10, 11, 12, 13, 14, 15, 16, 17, 18, 19, 20]), ([0], [2, 3, 4, 5, 6, 7, 8, 9, 10, 11, 12, 13, 14, 15, 16, 17, 18, 19, 20]), ([0, 1], [4, 6, 7, 8, 9, 10, 11, 12, 13, 14, 15, 16, 17, 18, 19, 20]), ([0, 1], [4, 6, 7, 8, 9, 10, 11, 12, 13, 14, 15, 16, 17, 18, 19, 20]), ([0, 1, 2, 3], [6, 7, 8, 9, 10, 11, 12, 13, 14, 15, 16, 17, 18, 19, 20]), ([0, 1], [6, 7, 8, 9, 10, 11, 12, 13, 14, 15, 16, 17, 18, 19, 20]), ([0, 1, 2, 3, 4, 5], [7, 8, 9, 10, 11, 12, 13, 14, 15, 16, 17, 18, 19, 20]), ([0, 1, 2, 3, 4, 5, 6], [8, 9, 10, 11, 12, 13, 14, 15, 16, 17, 18, 19, 20]), ([0, 1, 2, 3, 4, 5, 6, 7], [9, 10, 11, 12, 13, 14, 15, 16, 17, 18, 19, 20]), ([0, 1, 2, 3, 4, 5, 6, 7, 8], [10, 11, 12, 13, 14, 15, 16, 17, 18, 19, 20]), ([0, 1, 2, 3, 4, 5, 6, 7, 8, 9], [11, 12, 13, 14, 15, 16, 17, 18, 19, 20]), ([0, 1, 2, 3, 4, 5, 6, 7, 8, 9, 10], [12, 13, 14, 15, 16, 17, 18, 19, 20]), ([0, 1, 2, 3, 4, 5, 6, 7, 8, 9, 10, 11], [13, 14, 15, 16, 17, 18, 19, 20]), ([0, 1, 2, 3, 4, 5, 6, 7, 8, 9, 10, 11, 12], [14, 15, 16, 17, 18, 19, 20]), ([0, 1, 2, 3, 4, 5, 6, 7, 8, 9, 10, 11, 12, 13], [15, 16, 17, 18, 19, 20]), ([0, 1, 2, 3, 4, 5, 6, 7, 8, 9, 10, 11, 12, 13, 14], [17, 18, 19, 20]), ([0, 1, 2, 3, 4, 5, 6, 7, 8, 9, 10, 11, 12, 13, 14], [17, 18, 19, 20]), ([0, 1, 2, 3, 4, 5, 6, 7, 8, 9, 10, 11, 12, 13, 14, 15, 16], [18, 19, 20]), ([0, 1, 2, 3, 4, 5, 6, 7, 8, 9, 10, 11, 12, 13, 14, 15, 16, 17], [19, 20]), ([0, 1, 2, 3, 4, 5, 6, 7, 8, 9, 10, 11, 12, 13, 14, 15, 16, 17, 18], [20]), ([0, 1, 2, 3, 4, 5, 6, 7, 8, 9, 10, 11, 12, 13, 14, 15, 16, 17, 18, 19], [])] (fun L ac w => St 86 w0 [(36, L 0, .bool false), (37, L 1, .bool false), (38, L 2, undef), (39, L 3, undef), (40, L 4, undef), (41, L 5, undef), (42, L 6, undef), (43, L 7, undef), (44, L 8, undef), (45, L 9, undef), (46, L 10, undef), (47, L 11, undef), (48, L 12, undef), (49, L 13, undef), (50, L 14, undef), (51, L 15, undef), (52, L 16, undef), (53, L 17, undef), (54, L 18, undef), (55, L 19, undef), (56, L 20, .bool false), (1, true, .pointer (some ⟨g107, 0, none⟩)), (2, true, .bool false), (5, true, .pointer (some ⟨g115, 0, none⟩)), (6, true, .bool false)] [(true, g107, 24, (Wl a)), (true, g111, 24, (Wl y109)), (true, g115, 24, (Wl y113))] ac w) (by kernel_rfl) (by kernel_rfl) ?_ ?_ ?_
        · exact hs.drew.skip.skip.skip.skip.skip.skip.skip.skip.skip.skip.skip.skip.skip.skip.skip.skip.skip.skip.skip.skip.skip
        · refine ⟨?_, ?_, ?_, ?_, ?_, ?_, ?_, ?_, ?_, ?_, ?_, ?_, ?_, ?_, ?_, ?_, ?_, ?_, ?_, ?_, ?_, trivial⟩
          · intro L ac w hJ
            have hs := hJ
            refine wpO_plain rfl (op_move hs (some 0) rfl rfl rfl rfl fun ac hs => ?_)
            exact hs
          · intro L ac w hJ
            have hs := hJ
            refine wpO_plain rfl (op_move hs (some 1) rfl rfl rfl rfl fun ac hs => ?_)
            exact hs
          · intro L ac w hJ
            have hs := hJ
            refine wpO_out hs (some 2) rfl rfl (.inl rfl) rfl rfl fun ac hs => ?_
            exact hs
          · intro L ac w hJ
            have hs := hJ
            refine wpO_out hs (some 3) rfl rfl (.inl rfl) rfl rfl fun ac hs => ?_
            exact hs
          · intro L ac w hJ
            have hs := hJ
            refine wpO_out hs (some 4) rfl rfl (.inl rfl) rfl rfl fun ac hs => ?_
            exact hs
          · intro L ac w hJ
            have hs := hJ
            refine wpO_out hs (some 5) rfl rfl (.inl rfl) rfl rfl fun ac hs => ?_
            exact hs
          · intro L ac w hJ
            have hs := hJ
            refine wpO_out hs (some 6) rfl rfl (.inl rfl) rfl rfl fun ac hs => ?_
            exact hs
          · intro L ac w hJ
            have hs := hJ
            refine wpO_out hs (some 7) rfl rfl (.inl rfl) rfl rfl fun ac hs => ?_
            exact hs
          · intro L ac w hJ
            have hs := hJ
            refine wpO_out hs (some 8) rfl rfl (.inl rfl) rfl rfl fun ac hs => ?_
            exact hs
          · intro L ac w hJ
            have hs := hJ
            refine wpO_out hs (some 9) rfl rfl (.inr rfl) rfl rfl fun ac hs => ?_
            exact hs
          · intro L ac w hJ
            have hs := hJ
            refine wpO_out hs (some 10) rfl rfl (.inr rfl) rfl rfl fun ac hs => ?_
            exact hs
          · intro L ac w hJ
            have hs := hJ
            refine wpO_out hs (some 11) rfl rfl (.inr rfl) rfl rfl fun ac hs => ?_
            exact hs
          · intro L ac w hJ
            have hs := hJ
            refine wpO_out hs (some 12) rfl rfl (.inr rfl) rfl rfl fun ac hs => ?_
            exact hs
          · intro L ac w hJ
            have hs := hJ
            refine wpO_out hs (some 13) rfl rfl (.inl rfl) rfl rfl fun ac hs => ?_
            exact hs
          · intro L ac w hJ
            have hs := hJ
            refine wpO_out hs (some 14) rfl rfl (.inl rfl) rfl rfl fun ac hs => ?_
            exact hs
          · intro L ac w hJ
            have hs := hJ
            refine wpO_out hs (some 15) rfl rfl (.inr rfl) rfl rfl fun ac hs => ?_
            exact hs
          · intro L ac w hJ
            have hs := hJ
            refine wpO_out hs (some 16) rfl rfl (.inr rfl) rfl rfl fun ac hs => ?_
            exact hs
          · intro L ac w hJ
            have hs := hJ
            refine wpO_out hs (some 17) rfl rfl (.inr rfl) rfl rfl fun ac hs => ?_
            exact hs
          · intro L ac w hJ
            have hs := hJ
            refine wpO_out hs (some 18) rfl rfl (.inr rfl) rfl rfl fun ac hs => ?_
            exact hs
          · intro L ac w hJ
            have hs := hJ
            refine wpO_out hs (some 19) rfl rfl (.inl rfl) rfl rfl fun ac hs => ?_
            exact hs
          · intro L ac w hJ
            have hs := hJ
            refine wpO_plain rfl (op_pickF hs (some 20) rfl rfl rfl rfl rfl fun ac hs => ?_)
            exact hs
        intro ac w hJ
        replace hs : St 86 w0 [(36, true, .bool false), (37, true, .bool false), (38, true, undef), (39, true, undef), (40, true, undef), (41, true, undef), (42, true, undef), (43, true, undef), (44, true, undef), (45, true, undef), (46, true, undef), (47, true, undef), (48, true, undef), (49, true, undef), (50, true, undef), (51, true, undef), (52, true, undef), (53, true, undef), (54, true, undef), (55, true, undef), (56, true, .bool false), (1, true, .pointer (some ⟨g107, 0, none⟩)), (2, true, .bool false), (5, true, .pointer (some ⟨g115, 0, none⟩)), (6, true, .bool false)] [(true, g107, 24, (Wl a)), (true, g111, 24, (Wl y109)), (true, g115, 24, (Wl y113))] ac w := hJ
        refine then_n ?_
        refine wp_cond_false (hs.ev rfl) ?_
        refine wp_skip ?_
        refine then_n ?_
        refine wp_seq ?_
        refine wp_region_lit ?_
        refine lstep (wpO_plain rfl (op_load hs none 0 (v := W a) rfl rfl rfl rfl Try.isAgg24 Try.sizeOf24 rfl rfl fun ac hs => ?_))
        obtain ⟨r116, hr116, lr116⟩ : ∃ z0, fsub 0 a = z0 ∧ z0 < 2 ^ 256 := ⟨_, rfl, fsub_lt _ _⟩
        refine lstep (wpO_plain rfl (op_call (F := 19) hs none (v := W r116) rfl rfl rfl rfl (Try.call19 _) (fneg_c a r116 ha hr116) rfl fun ac w hs => ?_))
        obtain ⟨y117, hy117, ly117⟩ : ∃ z0, frV r116 = z0 ∧ z0 < 2 ^ 256 := ⟨_, rfl, frV_lt _⟩
        refine lstep (wpO_plain rfl (op_call (F := 23) hs none (v := .tuple #[W y117, .bool true]) rfl rfl rfl rfl (Try.call23 _) (froot_c r116 y117 true lr116 hy117 (by rw [← hr116]; exact (frB_neg hq75).2 hq1)) rfl fun ac w hs => ?_))
        refine lstep (wpO_plain rfl (op_move hs none rfl rfl rfl rfl fun ac hs => ?_))
        refine lstep (wpO_plain rfl (op_extract hs none rfl rfl rfl rfl rfl fun ac hs => ?_))
        refine lstep (wpO_plain rfl (op_extract hs none rfl rfl rfl rfl rfl fun ac hs => ?_))
        refine lstep (wpO_plain rfl (op_alloc hs none none (cs := [.int .u64 0, .int .u64 0, .int .u64 0, .int .u64 0]) rfl rfl Try.zeroValue24 (by kernel_rfl) rfl rfl fun g119 ac w hs => ?_))
        refine lstep (wpO_plain rfl (op_store hs 3 (vs := (Wl y117)) rfl rfl rfl rfl rfl Try.sizeOf24 rfl rfl rfl rfl rfl fun w hs => ?_))
        refine lstep (wpO_plain rfl (op_assign hs none rfl rfl rfl rfl fun ac hs => ?_))
        refine wpList_nil ?_
        refine then_n ?_
        refine wp_seq ?_
        refine wp_region_lit ?_
        refine lstep (wpO_plain rfl (op_load hs none 0 (v := W a) rfl rfl rfl rfl Try.isAgg24 Try.sizeOf24 rfl rfl fun ac hs => ?_))
        obtain ⟨r120, hr120, lr120⟩ : ∃ z0, a % Pf = z0 ∧ z0 < 2 ^ 256 := ⟨_, rfl, modP_lt _⟩
        refine lstep (wpO_plain rfl (op_call (F := 13) hs none (v := W r120) rfl rfl rfl rfl (Try.call13 _) (fred_c a r120 ha hr120) rfl fun ac w hs => ?_))
        refine lstep (wpO_plain rfl (op_build hs none (qs := []) (v := .agg #[.int .u64 0, .int .u64 0, .int .u64 0, .int .u64 0]) rfl rfl rfl rfl (fun _ => by kernel_rfl) rfl fun ac hs => ?_))
        refine lstep (wpO_plain rfl (op_bin hs none (v := .bool false) rfl rfl rfl rfl (fun w => run_eqGuard_agg w .eql 24 _ _ _ _ Try.eqGuardType24) (eqlW r120 0 lr120 (by decide) false (decide_eq_false (by rw [← hr120]; exact hq75))) rfl fun ac hs => ?_))
        refine lstep (wpO_plain rfl (op_assign hs none rfl rfl rfl rfl fun ac hs => ?_))
        refine wpList_nil ?_
        refine then_n ?_
        refine wp_seq ?_
        refine wp_region_lit ?_
        refine lstep (wpO_plain rfl (op_call (F := 10) hs none (v := .bool true) rfl rfl rfl rfl (Try.call10 _) alive_c rfl fun ac w hs => ?_))
        refine lstep (wpO_plain rfl (op_move hs none rfl rfl rfl rfl fun ac hs => ?_))
        refine lstep (wpO_in hs rfl rfl rfl (op_move hs none rfl rfl rfl rfl fun ac hs => ?_))
        refine lstep (wpO_in hs rfl rfl rfl (op_move hs none rfl rfl rfl rfl fun ac hs => ?_))
        refine lstep (wpO_out hs none rfl rfl (.inl rfl) rfl rfl fun ac hs => ?_)
        refine lstep (wpO_in hs rfl rfl rfl (op_pickF hs none rfl rfl rfl rfl rfl fun ac hs => ?_))
        refine lstep (wpO_in hs rfl rfl rfl (op_move hs none rfl rfl rfl rfl fun ac hs => ?_))
        refine lstep (wpO_out hs none rfl rfl (.inl rfl) rfl rfl fun ac hs => ?_)
        refine lstep (wpO_in hs rfl rfl rfl (op_pickF hs none rfl rfl rfl rfl rfl fun ac hs => ?_))
        refine lstep (wpO_in hs rfl rfl rfl (op_move hs none rfl rfl rfl rfl fun ac hs => ?_))
        refine lstep (wpO_in hs rfl rfl rfl (op_move hs none rfl rfl rfl rfl fun ac hs => ?_))
        refine lstep (wpO_in hs rfl rfl rfl (op_un hs none (v := .bool true) rfl rfl rfl (fun _ => rfl) rfl fun ac hs => ?_))
        refine lstep (wpO_in hs rfl rfl rfl (op_move hs none rfl rfl rfl rfl fun ac hs => ?_))
        refine lstep (wpO_in hs rfl rfl rfl (op_move hs none rfl rfl rfl rfl fun ac hs => ?_))
        refine lstep (wpO_in hs rfl rfl rfl (op_move hs none rfl rfl rfl rfl fun ac hs => ?_))
        refine lstep (wpO_in hs rfl rfl rfl (op_bin hs none (v := .bool true) rfl rfl rfl rfl (fun _ => rfl) (fun _ => by kernel_rfl) rfl fun ac hs => ?_))
        refine lstep (wpO_in hs rfl rfl rfl (op_pickT hs none rfl rfl rfl rfl rfl fun ac hs => ?_))
        refine lstep (wpO_in hs rfl rfl rfl (op_pickF hs none rfl rfl rfl rfl rfl fun ac hs => ?_))
        refine lstep (wpO_plain rfl (op_pickT hs none rfl rfl rfl rfl rfl fun ac hs => ?_))
        refine lstep (wpO_plain rfl (op_assign hs none rfl rfl rfl rfl fun ac hs => ?_))
        refine wpList_nil ?_
        refine then_n ?_
        refine wp_ret ?_
        exact bodyPost_ret (res1 rfl (rv_t hs rfl)) hs.defers ⟨rfl, hs.below⟩
      · skip
        refine wp_region_lit ?_
        refine lstep (wpO_plain rfl (op_box hs none none (cs := (Wl a)) rfl rfl rfl rfl rfl rfl fun g121 ac w hs => ?_))
        refine lstep (wpO_plain rfl (op_assign hs none rfl rfl rfl rfl fun ac hs => ?_))
        refine wpList_nil ?_
        refine then_n ?_
        refine wp_seq ?_
        refine wp_region_lit ?_
        refine lstep (wpO_plain rfl (op_load hs none 0 (v := W a) rfl rfl rfl rfl Try.isAgg24 Try.sizeOf24 rfl rfl fun ac hs => ?_))
        refine lstep (wpO_plain rfl (op_load hs none 0 (v := W a) rfl rfl rfl rfl Try.isAgg24 Try.sizeOf24 rfl rfl fun ac hs => ?_))
        obtain ⟨r122, hr122, lr122⟩ : ∃ z0, a * a % Pf = z0 ∧ z0 < 2 ^ 256 := ⟨_, rfl, modP_lt _⟩
        refine lstep (wpO_plain rfl (op_call (F := 21) hs none (v := W r122) rfl rfl rfl rfl (Try.call21 _) (fmul_c a a r122 ha ha hr122) rfl fun ac w hs => ?_))
        obtain ⟨y123, hy123, ly123⟩ : ∃ z0, frV r122 = z0 ∧ z0 < 2 ^ 256 := ⟨_, rfl, frV_lt _⟩
        refine lstep (wpO_plain rfl (op_call (F := 23) hs none (v := .tuple #[W y123, .bool true]) rfl rfl rfl rfl (Try.call23 _) (froot_c r122 y123 true lr122 hy123 (by rw [← hr122]; exact frB_sq _)) rfl fun ac w hs => ?_))
        refine lstep (wpO_plain rfl (op_move hs none rfl rfl rfl rfl fun ac hs => ?_))
        refine lstep (wpO_plain rfl (op_extract hs none rfl rfl rfl rfl rfl fun ac hs => ?_))
        refine lstep (wpO_plain rfl (op_extract hs none rfl rfl rfl rfl rfl fun ac hs => ?_))
        refine lstep (wpO_plain rfl (op_alloc hs none none (cs := [.int .u64 0, .int .u64 0, .int .u64 0, .int .u64 0]) rfl rfl Try.zeroValue24 (by kernel_rfl) rfl rfl fun g125 ac w hs => ?_))
        refine lstep (wpO_plain rfl (op_store hs 1 (vs := (Wl y123)) rfl rfl rfl rfl rfl Try.sizeOf24 rfl rfl rfl rfl rfl fun w hs => ?_))
        refine lstep (wpO_plain rfl (op_assign hs none rfl rfl rfl rfl fun ac hs => ?_))
        refine wpList_nil ?_
        refine then_n ?_
        refine wp_seq ?_
        refine wp_seq ?_
        replace hs : St 86 w0 [(1, true, .pointer (some ⟨g121, 0, none⟩)), (2, true, .bool false), (3, true, .pointer (some ⟨g125, 0, none⟩)), (4, true, .bool true)] [(true, g121, 24, (Wl a)), (true, g125, 24, (Wl y123))] ac w := hs.re ⟨rfl, rfl, rfl, rfl, trivial⟩
        obtain ⟨r126, hr126, lr126⟩ : ∃ z0, a % Pf = z0 ∧ z0 < 2 ^ 256 := ⟨_, rfl, modP_lt _⟩
        obtain ⟨r127, hr127, lr127⟩ : ∃ z0, fsub 0 a = z0 ∧ z0 < 2 ^ 256 := ⟨_, rfl, fsub_lt _ _⟩
        refine region_inv [([], [1, 2, 3, 4, 5, 6, 7, 8, 9, 10, 11, 12, 13]), ([0], [2, 3, 4, 5, 6, 7, 8, 9, 10, 11, 12, 13]), ([0, 1], [3, 4, 5, 6, 7, 8, 9, 10, 11, 12, 13]), ([0, 1, 2], [6, 7, 8, 9, 10, 11, 12, 13]), ([0, 1, 2], [5, 6, 7, 8, 9, 10, 11, 12, 13]), ([0, 1, 2, 4], [6, 7, 8, 9, 10, 11, 12, 13]), ([0, 1, 2, 3, 4, 5], [7, 8, 9, 10, 11, 12, 13]), ([0, 1, 2, 3, 4, 5, 6], [8, 9, 10, 11, 12, 13]), ([0, 1, 2, 3, 4, 5, 6, 7], [11, 12, 13]), ([0, 1, 2, 3, 4, 5, 6, 7], [10, 11, 12, 13]), ([0, 1, 2, 3, 4, 5, 6, 7, 9], [11, 12, 13]), ([0, 1, 2, 3, 4, 5, 6, 7, 8, 9, 10], [12, 13]), ([0, 1, 2, 3, 4, 5, 6, 7, 8, 9, 10, 11], [13]), ([0, 1, 2, 3, 4, 5, 6, 7, 8, 9, 10, 11, 12], [])] (fun L ac w => St 86 w0 [(17, L 0, .bool true), (18, L 1, .bool false), (19, L 2, .bool false), (20, L 3, W y123), (21, L 4, W a), (22, L 5, W r126), (23, L 6, .bool true), (24, L 7, .bool true), (25, L 8, W y123), (26, L 9, W a), (27, L 10, W r127), (28, L 11, .bool false), (29, L 12, .bool false), (30, L 13, .bool false), (1, true, .pointer (some ⟨g121, 0, none⟩)), (2, true, .bool false), (3, true, .pointer (some ⟨g125, 0, none⟩)), (4, true, .bool true)] [(true, g121, 24, (Wl a)), (true, g125, 24, (Wl y123))] ac w) (by kernel_rfl) (by kernel_rfl) ?_ ?_ ?_
        · exact hs.drew.skip.skip.skip.skip.skip.skip.skip.skip.skip.skip.skip.skip.skip.skip
        · refine ⟨?_, ?_, ?_, ?_, ?_, ?_, ?_, ?_, ?_, ?_, ?_, ?_, ?_, ?_, trivial⟩
          · intro L ac w hJ
            have hs := hJ
            refine wpO_plain rfl (op_move hs (some 0) rfl rfl rfl rfl fun ac hs => ?_)
            exact hs
          · intro L ac w hJ
            have hs := hJ
            refine wpO_plain rfl (op_un hs (some 1) (v := .bool false) rfl rfl rfl (fun _ => rfl) rfl fun ac hs => ?_)
            exact hs
          · intro L ac w hJ
            have hs := hJ
            refine wpO_plain rfl (op_move hs (some 2) rfl rfl rfl rfl fun ac hs => ?_)
            exact hs
          · intro L ac w hJ
            have hs := hJ
            refine wpO_in hs rfl rfl rfl (op_load hs (some 3) 1 (v := W y123) rfl rfl rfl rfl Try.isAgg24 Try.sizeOf24 rfl rfl fun ac hs => ?_)
            exact hs
          · intro L ac w hJ
            have hs := hJ
            refine wpO_in hs rfl rfl rfl (op_load hs (some 4) 0 (v := W a) rfl rfl rfl rfl Try.isAgg24 Try.sizeOf24 rfl rfl fun ac hs => ?_)
            exact hs
          · intro L ac w hJ
            have hs := hJ
            refine wpO_in hs rfl rfl rfl (op_call (F := 13) hs (some 5) (v := W r126) rfl rfl rfl rfl (Try.call13 _) (fred_c a r126 ha hr126) rfl fun ac w hs => ?_)
            exact hs
          · intro L ac w hJ
            have hs := hJ
            refine wpO_in hs rfl rfl rfl (op_bin hs (some 6) (v := .bool true) rfl rfl rfl rfl (fun w => run_eqGuard_agg w .neq 24 _ _ _ _ Try.eqGuardType24) (neqW y123 r126 ly123 lr126 true (decide_eq_true (by rw [← hy123, ← hr126, ← hr122]; exact hq106))) rfl fun ac hs => ?_)
            exact hs
          · intro L ac w hJ
            have hs := hJ
            refine wpO_in hs rfl rfl rfl (op_move hs (some 7) rfl rfl rfl rfl fun ac hs => ?_)
            exact hs
          · intro L ac w hJ
            have hs := hJ
            refine wpO_in hs rfl rfl rfl (op_load hs (some 8) 1 (v := W y123) rfl rfl rfl rfl Try.isAgg24 Try.sizeOf24 rfl rfl fun ac hs => ?_)
            exact hs
          · intro L ac w hJ
            have hs := hJ
            refine wpO_in hs rfl rfl rfl (op_load hs (some 9) 0 (v := W a) rfl rfl rfl rfl Try.isAgg24 Try.sizeOf24 rfl rfl fun ac hs => ?_)
            exact hs
          · intro L ac w hJ
            have hs := hJ
            refine wpO_in hs rfl rfl rfl (op_call (F := 19) hs (some 10) (v := W r127) rfl rfl rfl rfl (Try.call19 _) (fneg_c a r127 ha hr127) rfl fun ac w hs => ?_)
            exact hs
          · intro L ac w hJ
            have hs := hJ
            refine wpO_in hs rfl rfl rfl (op_bin hs (some 11) (v := .bool false) rfl rfl rfl rfl (fun w => run_eqGuard_agg w .neq 24 _ _ _ _ Try.eqGuardType24) (neqW y123 r127 ly123 lr127 false (decide_eq_false (not_not_intro (by rw [← hy123, ← hr127, ← hr122]; exact (frV_sq a).resolve_left hq106)))) rfl fun ac hs => ?_)
            exact hs
          · intro L ac w hJ
            have hs := hJ
            refine wpO_in hs rfl rfl rfl (op_pickT hs (some 12) rfl rfl rfl rfl rfl fun ac hs => ?_)
            exact hs
          · intro L ac w hJ
            have hs := hJ
            refine wpO_plain rfl (op_pickF hs (some 13) rfl rfl rfl rfl rfl fun ac hs => ?_)
            exact hs
        intro ac w hJ
        replace hs : St 86 w0 [(17, true, .bool true), (18, true, .bool false), (19, true, .bool false), (20, true, W y123), (21, true, W a), (22, true, W r126), (23, true, .bool true), (24, true, .bool true), (25, true, W y123), (26, true, W a), (27, true, W r127), (28, true, .bool false), (29, true, .bool false), (30, true, .bool false), (1, true, .pointer (some ⟨g121, 0, none⟩)), (2, true, .bool false), (3, true, .pointer (some ⟨g125, 0, none⟩)), (4, true, .bool true)] [(true, g121, 24, (Wl a)), (true, g125, 24, (Wl y123))] ac w := hJ
        refine then_n ?_
        refine wp_cond_false (hs.ev rfl) ?_
        refine wp_skip ?_
        refine then_n ?_
        refine wp_seq ?_
        refine wp_region_lit ?_
        refine lstep (wpO_plain rfl (op_load hs none 0 (v := W a) rfl rfl rfl rfl Try.isAgg24 Try.sizeOf24 rfl rfl fun ac hs => ?_))
        obtain ⟨y128, hy128, ly128⟩ : ∃ z0, frV a = z0 ∧ z0 < 2 ^ 256 := ⟨_, rfl, frV_lt _⟩
        refine lstep (wpO_plain rfl (op_call (F := 23) hs none (v := .tuple #[W y128, .bool false]) rfl rfl rfl rfl (Try.call23 _) (froot_c a y128 false ha hy128 (Bool.eq_false_iff.2 hq1)) rfl fun ac w hs => ?_))
        refine lstep (wpO_plain rfl (op_move hs none rfl rfl rfl rfl fun ac hs => ?_))
        refine lstep (wpO_plain rfl (op_extract hs none rfl rfl rfl rfl rfl fun ac hs => ?_))
        refine lstep (wpO_plain rfl (op_extract hs none rfl rfl rfl rfl rfl fun ac hs => ?_))
        refine lstep (wpO_plain rfl (op_alloc hs none none (cs := [.int .u64 0, .int .u64 0, .int .u64 0, .int .u64 0]) rfl rfl Try.zeroValue24 (by kernel_rfl) rfl rfl fun g130 ac w hs => ?_))
        refine lstep (wpO_plain rfl (op_store hs 2 (vs := (Wl y128)) rfl rfl rfl rfl rfl Try.sizeOf24 rfl rfl rfl rfl rfl fun w hs => ?_))
        refine lstep (wpO_plain rfl (op_assign hs none rfl rfl rfl rfl fun ac hs => ?_))
        refine wpList_nil ?_
        refine then_n ?_
        refine wp_seq ?_
        refine wp_seq ?_
        replace hs : St 86 w0 [(1, true, .pointer (some ⟨g121, 0, none⟩)), (2, true, .bool false), (5, true, .pointer (some ⟨g130, 0, none⟩)), (6, true, .bool false)] [(true, g121, 24, (Wl a)), (true, g125, 24, (Wl y123)), (true, g130, 24, (Wl y128))] ac w := hs.re ⟨rfl, rfl, rfl, rfl, trivial⟩
        refine region_inv [([], [1, 2, 3, 4, 5, 6, 7, 8, 9, 10, 11, 12, 13, 14, 15, 16, 17, 18, 19, 20]), ([0], [2, 3, 4, 5, 6, 7, 8, 9, 10, 11, 12, 13, 14, 15, 16, 17, 18, 19, 20]), ([0, 1], [4, 6, 7, 8, 9, 10, 11, 12, 13, 14, 15, 16, 17, 18, 19, 20]), ([0, 1], [4, 6, 7, 8, 9, 10, 11, 12, 13, 14, 15, 16, 17, 18, 19, 20]), ([0, 1, 2, 3], [6, 7, 8, 9, 10, 11, 12, 13, 14, 15, 16, 17, 18, 19, 20]), ([0, 1], [6, 7, 8, 9, 10, 11, 12, 13, 14, 15, 16, 17, 18, 19, 20]), ([0, 1, 2, 3, 4, 5], [7, 8, 9, 10, 11, 12, 13, 14, 15, 16, 17, 18, 19, 20]), ([0, 1, 2, 3, 4, 5, 6], [8, 9, 10, 11, 12, 13, 14, 15, 16, 17, 18, 19, 20]), ([0, 1, 2, 3, 4, 5, 6, 7], [9, 10, 11, 12, 13, 14, 15, 16, 17, 18, 19, 20]), ([0, 1, 2, 3, 4, 5, 6, 7, 8], [10, 11, 12, 13, 14, 15, 16, 17, 18, 19, 20]), ([0, 1, 2, 3, 4, 5, 6, 7, 8, 9], [11, 12, 13, 14, 15, 16, 17, 18, 19, 20]), ([0, 1, 2, 3, 4, 5, 6, 7, 8, 9, 10], [12, 13, 14, 15, 16, 17, 18, 19, 20]), ([0, 1, 2, 3, 4, 5, 6, 7, 8, 9, 10, 11], [13, 14, 15, 16, 17, 18, 19, 20]), ([0, 1, 2, 3, 4, 5, 6, 7, 8, 9, 10, 11, 12], [14, 15, 16, 17, 18, 19, 20]), ([0, 1, 2, 3, 4, 5, 6, 7, 8, 9, 10, 11, 12, 13], [15, 16, 17, 18, 19, 20]), ([0, 1, 2, 3, 4, 5, 6, 7, 8, 9, 10, 11, 12, 13, 14], [17, 18, 19, 20]), ([0, 1, 2, 3, 4, 5, 6, 7, 8, 9, 10, 11, 12, 13, 14], [17, 18, 19, 20]), ([0, 1, 2, 3, 4, 5, 6, 7, 8, 9, 10, 11, 12, 13, 14, 15, 16], [18, 19, 20]), ([0, 1, 2, 3, 4, 5, 6, 7, 8, 9, 10, 11, 12, 13, 14, 15, 16, 17], [19, 20]), ([0, 1, 2, 3, 4, 5, 6, 7, 8, 9, 10, 11, 12, 13, 14, 15, 16, 17, 18], [20]), ([0, 1, 2, 3, 4, 5, 6, 7, 8, 9, 10, 11, 12, 13, 14, 15, 16, 17, 18, 19], [])] (fun L ac w => St 86 w0 [(36, L 0, .bool false), (37, L 1, .bool false), (38, L 2, undef), (39, L 3, undef), (40, L 4, undef), (41, L 5, undef), (42, L 6, undef), (43, L 7, undef), (44, L 8, undef), (45, L 9, undef), (46, L 10, undef), (47, L 11, undef), (48, L 12, undef), (49, L 13, undef), (50, L 14, undef), (51, L 15, undef), (52, L 16, undef), (53, L 17, undef), (54, L 18, undef), (55, L 19, undef), (56, L 20, .bool false), (1, true, .pointer (some ⟨g121, 0, none⟩)), (2, true, .bool false), (5, true, .pointer (some ⟨g130, 0, none⟩)), (6, true, .bool false)] [(true, g121, 24, (Wl a)), (true, g125, 24, (Wl y123)), (true, g130, 24, (Wl y128))] ac w) (by kernel_rfl) (by kernel_rfl) ?_ ?_ ?_
        · exact hs.drew.skip.skip.skip.skip.skip.skip.skip.skip.skip.skip.skip.skip.skip.skip.skip.skip.skip.skip.skip.skip.skip
        · refine ⟨?_, ?_, ?_, ?_, ?_, ?_, ?_, ?_, ?_, ?_, ?_, ?_, ?_, ?_, ?_, ?_, ?_, ?_, ?_, ?_, ?_, trivial⟩
          · intro L ac w hJ
            have hs := hJ
            refine wpO_plain rfl (op_move hs (some 0) rfl rfl rfl rfl fun ac hs => ?_)
            exact hs
          · intro L ac w hJ
            have hs := hJ
            refine wpO_plain rfl (op_move hs (some 1) rfl rfl rfl rfl fun ac hs => ?_)
            exact hs
          · intro L ac w hJ
            have hs := hJ
            refine wpO_out hs (some 2) rfl rfl (.inl rfl) rfl rfl fun ac hs => ?_
            exact hs
          · intro L ac w hJ
            have hs := hJ
            refine wpO_out hs (some 3) rfl rfl (.inl rfl) rfl rfl fun ac hs => ?_
            exact hs
          · intro L ac w hJ
            have hs := hJ
            refine wpO_out hs (some 4) rfl rfl (.inl rfl) rfl rfl fun ac hs => ?_
            exact hs
          · intro L ac w hJ
            have hs := hJ
            refine wpO_out hs (some 5) rfl rfl (.inl rfl) rfl rfl fun ac hs => ?_
            exact hs
          · intro L ac w hJ
            have hs := hJ
            refine wpO_out hs (some 6) rfl rfl (.inl rfl) rfl rfl fun ac hs => ?_
            exact hs
          · intro L ac w hJ
            have hs := hJ
            refine wpO_out hs (some 7) rfl rfl (.inl rfl) rfl rfl fun ac hs => ?_
            exact hs
          · intro L ac w hJ
            have hs := hJ
            refine wpO_out hs (some 8) rfl rfl (.inl rfl) rfl rfl fun ac hs => ?_
            exact hs
          · intro L ac w hJ
            have hs := hJ
            refine wpO_out hs (some 9) rfl rfl (.inr rfl) rfl rfl fun ac hs => ?_
            exact hs
          · intro L ac w hJ
            have hs := hJ
            refine wpO_out hs (some 10) rfl rfl (.inr rfl) rfl rfl fun ac hs => ?_
            exact hs
          · intro L ac w hJ
            have hs := hJ
            refine wpO_out hs (some 11) rfl rfl (.inr rfl) rfl rfl fun ac hs => ?_
            exact hs
          · intro L ac w hJ
            have hs := hJ
            refine wpO_out hs (some 12) rfl rfl (.inr rfl) rfl rfl fun ac hs => ?_
            exact hs
          · intro L ac w hJ
            have hs := hJ
            refine wpO_out hs (some 13) rfl rfl (.inl rfl) rfl rfl fun ac hs => ?_
            exact hs
          · intro L ac w hJ
            have hs := hJ
            refine wpO_out hs (some 14) rfl rfl (.inl rfl) rfl rfl fun ac hs => ?_
            exact hs
          · intro L ac w hJ
            have hs := hJ
            refine wpO_out hs (some 15) rfl rfl (.inr rfl) rfl rfl fun ac hs => ?_
            exact hs
          · intro L ac w hJ
            have hs := hJ
            refine wpO_out hs (some 16) rfl rfl (.inr rfl) rfl rfl fun ac hs => ?_
            exact hs
          · intro L ac w hJ
            have hs := hJ
            refine wpO_out hs (some 17) rfl rfl (.inr rfl) rfl rfl fun ac hs => ?_
            exact hs
          · intro L ac w hJ
            have hs := hJ
            refine wpO_out hs (some 18) rfl rfl (.inr rfl) rfl rfl fun ac hs => ?_
            exact hs
          · intro L ac w hJ
            have hs := hJ
            refine wpO_out hs (some 19) rfl rfl (.inl rfl) rfl rfl fun ac hs => ?_
            exact hs
          · intro L ac w hJ
            have hs := hJ
            refine wpO_plain rfl (op_pickF hs (some 20) rfl rfl rfl rfl rfl fun ac hs => ?_)
            exact hs
        intro ac w hJ
        replace hs : St 86 w0 [(36, true, .bool false), (37, true, .bool false), (38, true, undef), (39, true, undef), (40, true, undef), (41, true, undef), (42, true, undef), (43, true, undef), (44, true, undef), (45, true, undef), (46, true, undef), (47, true, undef), (48, true, undef), (49, true, undef), (50, true, undef), (51, true, undef), (52, true, undef), (53, true, undef), (54, true, undef), (55, true, undef), (56, true, .bool false), (1, true, .pointer (some ⟨g121, 0, none⟩)), (2, true, .bool false), (5, true, .pointer (some ⟨g130, 0, none⟩)), (6, true, .bool false)] [(true, g121, 24, (Wl a)), (true, g125, 24, (Wl y123)), (true, g130, 24, (Wl y128))] ac w := hJ
        refine then_n ?_
        refine wp_cond_false (hs.ev rfl) ?_
        refine wp_skip ?_
        refine then_n ?_
        refine wp_seq ?_
        refine wp_region_lit ?_
        refine lstep (wpO_plain rfl (op_load hs none 0 (v := W a) rfl rfl rfl rfl Try.isAgg24 Try.sizeOf24 rfl rfl fun ac hs => ?_))
        obtain ⟨r131, hr131, lr131⟩ : ∃ z0, fsub 0 a = z0 ∧ z0 < 2 ^ 256 := ⟨_, rfl, fsub_lt _ _⟩
        refine lstep (wpO_plain rfl (op_call (F := 19) hs none (v := W r131) rfl rfl rfl rfl (Try.call19 _) (fneg_c a r131 ha hr131) rfl fun ac w hs => ?_))
        obtain ⟨y132, hy132, ly132⟩ : ∃ z0, frV r131 = z0 ∧ z0 < 2 ^ 256 := ⟨_, rfl, frV_lt _⟩
        refine lstep (wpO_plain rfl (op_call (F := 23) hs none (v := .tuple #[W y132, .bool true]) rfl rfl rfl rfl (Try.call23 _) (froot_c r131 y132 true lr131 hy132 (by rw [← hr131]; exact (frB_neg hq75).2 hq1)) rfl fun ac w hs => ?_))
        refine lstep (wpO_plain rfl (op_move hs none rfl rfl rfl rfl fun ac hs => ?_))
        refine lstep (wpO_plain rfl (op_extract hs none rfl rfl rfl rfl rfl fun ac hs => ?_))
        refine lstep (wpO_plain rfl (op_extract hs none rfl rfl rfl rfl rfl fun ac hs => ?_))
        refine lstep (wpO_plain rfl (op_alloc hs none none (cs := [.int .u64 0, .int .u64 0, .int .u64 0, .int .u64 0]) rfl rfl Try.zeroValue24 (by kernel_rfl) rfl rfl fun g134 ac w hs => ?_))
        refine lstep (wpO_plain rfl (op_store hs 3 (vs := (Wl y132)) rfl rfl rfl rfl rfl Try.sizeOf24 rfl rfl rfl rfl rfl fun w hs => ?_))
        refine lstep (wpO_plain rfl (op_assign hs none rfl rfl rfl rfl fun ac hs => ?_))
        refine wpList_nil ?_
        refine then_n ?_
        refine wp_seq ?_
        refine wp_region_lit ?_
        refine lstep (wpO_plain rfl (op_load hs none 0 (v := W a) rfl rfl rfl rfl Try.isAgg24 Try.sizeOf24 rfl rfl fun ac hs => ?_))
        obtain ⟨r135, hr135, lr135⟩ : ∃ z0, a % Pf = z0 ∧ z0 < 2 ^ 256 := ⟨_, rfl, modP_lt _⟩
        refine lstep (wpO_plain rfl (op_call (F := 13) hs none (v := W r135) rfl rfl rfl rfl (Try.call13 _) (fred_c a r135 ha hr135) rfl fun ac w hs => ?_))
        refine lstep (wpO_plain rfl (op_build hs none (qs := []) (v := .agg #[.int .u64 0, .int .u64 0, .int .u64 0, .int .u64 0]) rfl rfl rfl rfl (fun _ => by kernel_rfl) rfl fun ac hs => ?_))
        refine lstep (wpO_plain rfl (op_bin hs none (v := .bool false) rfl rfl rfl rfl (fun w => run_eqGuard_agg w .eql 24 _ _ _ _ Try.eqGuardType24) (eqlW r135 0 lr135 (by decide) false (decide_eq_false (by rw [← hr135]; exact hq75))) rfl fun ac hs => ?_))
        refine lstep (wpO_plain rfl (op_assign hs none rfl rfl rfl rfl fun ac hs => ?_))
        refine wpList_nil ?_
        refine then_n ?_
        refine wp_seq ?_
        refine wp_region_lit ?_
        refine lstep (wpO_plain rfl (op_call (F := 10) hs none (v := .bool true) rfl rfl rfl rfl (Try.call10 _) alive_c rfl fun ac w hs => ?_))
        refine lstep (wpO_plain rfl (op_move hs none rfl rfl rfl rfl fun ac hs => ?_))
        refine lstep (wpO_in hs rfl rfl rfl (op_move hs none rfl rfl rfl rfl fun ac hs => ?_))
        refine lstep (wpO_in hs rfl rfl rfl (op_move hs none rfl rfl rfl rfl fun ac hs => ?_))
        refine lstep (wpO_out hs none rfl rfl (.inl rfl) rfl rfl fun ac hs => ?_)
        refine lstep (wpO_in hs rfl rfl rfl (op_pickF hs none rfl rfl rfl rfl rfl fun ac hs => ?_))
        refine lstep (wpO_in hs rfl rfl rfl (op_move hs none rfl rfl rfl rfl fun ac hs => ?_))
        refine lstep (wpO_out hs none rfl rfl (.inl rfl) rfl rfl fun ac hs => ?_)
        refine lstep (wpO_in hs rfl rfl rfl (op_pickF hs none rfl rfl rfl rfl rfl fun ac hs => ?_))
        refine lstep (wpO_in hs rfl rfl rfl (op_move hs none rfl rfl rfl rfl fun ac hs => ?_))
        refine lstep (wpO_in hs rfl rfl rfl (op_move hs none rfl rfl rfl rfl fun ac hs => ?_))
        refine lstep (wpO_in hs rfl rfl rfl (op_un hs none (v := .bool true) rfl rfl rfl (fun _ => rfl) rfl fun ac hs => ?_))
        refine lstep (wpO_in hs rfl rfl rfl (op_move hs none rfl rfl rfl rfl fun ac hs => ?_))
        refine lstep (wpO_in hs rfl rfl rfl (op_move hs none rfl rfl rfl rfl fun ac hs => ?_))
        refine lstep (wpO_in hs rfl rfl rfl (op_move hs none rfl rfl rfl rfl fun ac hs => ?_))
        refine lstep (wpO_in hs rfl rfl rfl (op_bin hs none (v := .bool true) rfl rfl rfl rfl (fun _ => rfl) (fun _ => by kernel_rfl) rfl fun ac hs => ?_))
        refine lstep (wpO_in hs rfl rfl rfl (op_pickT hs none rfl rfl rfl rfl rfl fun ac hs => ?_))
        refine lstep (wpO_in hs rfl rfl rfl (op_pickF hs none rfl rfl rfl rfl rfl fun ac hs => ?_))
        refine lstep (wpO_plain rfl (op_pickT hs none rfl rfl rfl rfl rfl fun ac hs => ?_))
        refine lstep (wpO_plain rfl (op_assign hs none rfl rfl rfl rfl fun ac hs => ?_))
        refine wpList_nil ?_
        refine then_n ?_
        refine wp_ret ?_
        exact bodyPost_ret (res1 rfl (rv_t hs rfl)) hs.defers ⟨rfl, hs.below⟩
end Go.Proofs.Ytajmmhailcbfoaa
