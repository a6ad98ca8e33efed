/- Several texts in one, what this law needs of them: RPoint, ShaR. -/
import Derived.Test.YtejbajgpiecjcaaGreatSB5

/- The contracts of the reference's points. -/
namespace Go.Proofs.YtejbajgpiecjcaaGreat
open Go.RowKit _root_.Go.Proofs.Tryz
set_option maxRecDepth 10000
set_option maxHeartbeats 1000000
theorem rbytes_c (a : Nat) (ha : a < 2 ^ 256) (w0 : World) : Calls prog 27 #[W a] w0 fun e w' => e = .returned (At .u8 32 (by8 a)) ∧ Below w0.heap.size w0 w' := by
 refine enter (n := 25) (args := [W a]) func27 rfl rfl (Nat.le_of_ble_eq_true rfl) fun ac hs => ?_
 refine wp_seq (wp_region_lit ?_)
 refine stp (op_box hs none none (cs := (Wl a)) rfl rfl rfl rfl rfl rfl fun g1 ac w hs => ?_)
 refine stp (op_alloc hs none none (cs := (tab .u8 32 (fun _ => 0))) rfl rfl zeroValue30 (by kernel_rfl) rfl rfl fun g2 ac w hs => ?_)
 refine wpList_nil (then_n (wp_seq (wp_region_lit ?_)))
 refine stp (op_build hs none (qs := []) (v := At .u8 32 (fun _ => 0)) rfl rfl rfl rfl (fun _ => by kernel_rfl) rfl fun ac hs => ?_)
 refine stp (op_alloc hs none none (cs := (tab .u8 32 (fun _ => 0))) rfl rfl zeroValue30 (by kernel_rfl) rfl rfl fun g3 ac w hs => ?_)
 refine stp (stoo hs 2 ((tab .u8 32 (fun _ => 0))) sizeOf30 rfl rfl rfl rfl rfl (by kernel_rfl) tab_length' (tab_one _ _ _) tab_leA wr_tab fun w hs => ?_)
 refine wpList_nil (then_n (wp_seq (wp_seq (wp_region_lit ?_))))
 refine asg hs rfl rfl rfl fun ac hs => ?_
 refine wpList_nil (then_n (wp_block ?_))
 refine wp_loop_m (fun μ ac w => ∃ (i : Nat) (f : Nat → Nat), (32 - i) = μ ∧ (i ≤ 32) ∧ (∀ j, j < 32 → f j = byf a i j) ∧ St 25 w0 [(1, true, ptA g1 0), (2, true, ptA g2 0), (3, true, ptA g3 0), (4, true, ni64 i)] [(true, g1, 24, (Wl a)), (true, g2, 30, (tab .u8 32 (fun _ => 0))), (true, g3, 30, (tab .u8 32 f))] ac w) ?_ ?_
 ·exact ⟨_, 0, (fun _ => 0), rfl, (by omega), byte_start, (hs.re ⟨rfl, rfl, rfl, rfl, trivial⟩)⟩
 intro μ ac w ⟨i, f, hμ, hi, hf, hs⟩
 refine wp_seq (wp_seq (wp_region_lit ?_))
 refine mvv hs rfl rfl rfl fun ac hs => ?_
 refine bnn hs (.bool (decide (i < 32))) rfl rfl rfl rfl (bin_lssN (y := 32)) fun ac hs => ?_
 refine wpList_nil (then_n ?_)
 refine wp_cond_split (hs.ev rfl) (fun hc => ?_) (fun hc => ?_)
 ·skip
  have hp4 := of_decide_eq_true hc
  have hlt : i < 32 := of_decide_eq_true hc
  refine wp_skip (then_n (wp_seq (wp_block (wp_region_lit ?_))))
  refine mvv hs rfl rfl rfl fun ac hs => ?_
  refine bnn hs (ni64 (31 - i)) rfl rfl rfl rfl (bin_subN (x := 31) (by omega) (show 31 - i < 9223372036854775808 by omega)) fun ac hs => ?_
  refine mvv hs rfl rfl rfl fun ac hs => ?_
  refine bnn hs (ni64 (i / 8)) rfl rfl rfl rfl (bin_quoN (y := 8) rfl (by decide) (show i < 9223372036854775808 by omega)) fun ac hs => ?_
  refine stp (op_idxA hs none (j := i / 8) rfl rfl rfl rfl underlying24 sizeOf22 (show i / 8 < 4 by omega) (off := i / 8) (by omega) rfl fun ac hs => ?_)
  have l5 := limN_lt a (i / 8)
  refine ldd hs 0 (nu64 (limN a (i / 8))) isAgg22 sizeOf22 rfl rfl rfl rfl (Wl_get (j := i / 8) (show i / 8 < 4 by omega)) fun ac hs => ?_
  refine mvv hs rfl rfl rfl fun ac hs => ?_
  refine bnn hs (ni64 (i % 8)) rfl rfl rfl rfl (bin_remN (y := 8) rfl (by decide)) fun ac hs => ?_
  refine bnn hs (ni64 (8 * (i % 8))) rfl rfl rfl rfl (bin_mulN (x := 8) rfl (show 8 * (i % 8) < 9223372036854775808 by omega)) fun ac hs => ?_
  refine stp (op_convert hs none (v := nu64 (8 * (i % 8))) rfl rfl rfl (conv_N underlying3 underlying73 (show 8 * (i % 8) < 18446744073709551616 by omega)) rfl fun ac hs => ?_)
  refine bnn hs (nu64 (2 ^ (8 * (i % 8)))) rfl rfl rfl rfl (bin_shlM (x := 1) rfl (pow_mod64 (show 8 * (i % 8) < 64 by omega))) fun ac hs => ?_
  refine bnn hs (.int .u64 (((limN a (i / 8)) / (2 ^ (8 * (i % 8))) : Nat) : Int)) rfl rfl rfl rfl (bin_quoN (z := (limN a (i / 8)) / (2 ^ (8 * (i % 8)))) rfl (Nat.ne_of_gt (Nat.two_pow_pos _)) (limN_lt _ _)) fun ac hs => ?_
  refine stp (op_convert hs none (v := .int .u8 ((((limN a (i / 8)) / (2 ^ (8 * (i % 8)))) % 256 : Nat) : Int)) rfl rfl rfl (conv_M (z := ((limN a (i / 8)) / (2 ^ (8 * (i % 8)))) % 256) rfl underlying22 underlying5 rfl) rfl fun ac hs => ?_)
  refine stp (op_idxA hs none (j := 31 - i) rfl rfl rfl rfl underlying30 sizeOf5 (show 31 - i < 32 by omega) (off := 31 - i) (by omega) rfl fun ac hs => ?_)
  refine stp (stoo hs 2 ([.int .u8 ((((limN a (i / 8)) / (2 ^ (8 * (i % 8)))) % 256 : Nat) : Int)]) sizeOf5 rfl rfl rfl rfl rfl rfl rfl rfl (tab_le (j := 31 - i) (show 31 - i < 32 by omega)) (tab_set) fun w hs => ?_)
  refine wpList_nil (blk_n (then_n ?_))
  replace hs := hs.n0 [1, 2, 3, 4] rfl rfl
  refine wp_region_lit ?_
  refine mvv hs rfl rfl rfl fun ac hs => ?_
  refine bnn hs (ni64 (i + 1)) rfl rfl rfl rfl (bin_addN (y := 1) rfl (show i + 1 < 9223372036854775808 by omega)) fun ac hs => ?_
  refine asg hs rfl rfl rfl fun ac hs => ?_
  refine wpList_nil (then_n ?_)
  exact ⟨_, ⟨(i + 1), (upn f (31 - i) (((limN a (i / 8)) / (2 ^ (8 * (i % 8)))) % 256)), rfl, hlt, (byte_step hlt hf), (hs.re ⟨rfl, rfl, rfl, rfl, trivial⟩)⟩, (by omega)⟩
 ·skip
  have hp6 := of_decide_eq_false hc
  obtain rfl : i = 32 := by omega
  replace hs := hs.setb 2 (cs' := tab .u8 32 (by8 a)) rfl (tab_congr (byte_fin hf))
  refine wp_exit (then_e (then_e (blk_e (then_n (wp_seq (wp_region_lit ?_))))))
  refine ldd hs 2 (At .u8 32 (by8 a)) isAgg30 sizeOf30 rfl rfl rfl rfl ldv_tab fun ac hs => ?_
  refine stp (stoo hs 1 ((tab .u8 32 (by8 a))) sizeOf30 rfl rfl rfl rfl rfl (by kernel_rfl) tab_length' (tab_one _ _ _) tab_leA wr_tab fun w hs => ?_)
  refine wpList_nil (then_n (wp_ret ?_))
  exact bodyPost_ret (res1 rfl (rv_c hs 1 (v := At .u8 32 (by8 a)) rfl rfl isAgg30 sizeOf30 ldv_tab)) hs.defers ⟨rfl, (hs.bel rfl)⟩
theorem rright_c (a x : Nat) (ha : a < 2 ^ 256) (hx : rgt a = x) (w0 : World) : Calls prog 80 #[W a] w0 fun e w' => e = .returned (W x) ∧ Below w0.heap.size w0 w' := by
 refine enter (n := 10) (args := [W a]) func80 rfl rfl (Nat.le_of_ble_eq_true rfl) fun ac hs => ?_
 refine wp_seq (wp_region_lit ?_)
 refine stp (op_box hs none none (cs := (Wl a)) rfl rfl rfl rfl rfl rfl fun g1 ac w hs => ?_)
 refine stp (op_alloc hs none none (cs := [.int .u64 0, .int .u64 0, .int .u64 0, .int .u64 0]) rfl rfl zeroValue24 (by kernel_rfl) rfl rfl fun g2 ac w hs => ?_)
 refine wpList_nil (then_n (wp_seq ?_))
 replace hs := hs.n0 [1, 2] rfl rfl
 obtain ⟨r3, hr3, lr3⟩ : ∃ z0, a * a % Pf = z0 ∧ z0 < 2 ^ 256 := ⟨_, rfl, modP_lt _⟩
 obtain ⟨r4, hr4, lr4⟩ : ∃ z0, a * r3 % Pf = z0 ∧ z0 < 2 ^ 256 := ⟨_, rfl, modP_lt _⟩
 obtain ⟨r5, hr5, lr5⟩ : ∃ z0, (r4 + 7) % Pf = z0 ∧ z0 < 2 ^ 256 := ⟨_, rfl, modP_lt _⟩
 refine region_inv [([], [4, 6, 7]), ([], [3, 4, 6, 7]), ([], [3, 4, 6, 7]), ([1, 2], [4, 6, 7]), (rgn 0 4, [6, 7]), ([], [6, 7]), (rgn 0 6, [7]), (rgn 0 7, [])] (fun L ac w => St 10 w0 [(3, L 0, W a), (4, L 1, W a), (5, L 2, W a), (6, L 3, W r3), (7, L 4, W r4), (8, L 5, .agg #[.int .u64 7, .int .u64 0, .int .u64 0, .int .u64 0]), (9, L 6, W r5), (1, true, ptA g1 0), (2, true, ptA g2 0)] [(true, g1, 24, (Wl a)), (true, g2, 24, (cond (L 7) (Wl r5) [.int .u64 0, .int .u64 0, .int .u64 0, .int .u64 0]))] ac w) (by kernel_rfl) (by kernel_rfl) ?_ ?_ ?_
 ·exact hs.drew.skip.skip.skip.skip.skip.skip.skip
 ·refine ⟨?_, ?_, ?_, ?_, ?_, ?_, ?_, ?_, trivial⟩
  ·exact fun L ac w hs => pln (oldd hs 0 0 (W a) isAgg24 sizeOf24 rfl rfl rfl rfl rfl fun ac hs => hs)
  ·exact fun L ac w hs => pln (oldd hs 1 0 (W a) isAgg24 sizeOf24 rfl rfl rfl rfl rfl fun ac hs => hs)
  ·exact fun L ac w hs => pln (oldd hs 2 0 (W a) isAgg24 sizeOf24 rfl rfl rfl rfl rfl fun ac hs => hs)
  ·exact fun L ac w hs => pln (op_call (F := 89) hs (some 3) (v := W r3) rfl rfl rfl rfl (call89 _) (rfmul_c a a r3 ha ha hr3) rfl fun ac w hs => hs)
  ·exact fun L ac w hs => pln (op_call (F := 89) hs (some 4) (v := W r4) rfl rfl rfl rfl (call89 _) (rfmul_c a r3 r4 ha lr3 hr4) rfl fun ac w hs => hs)
  ·exact fun L ac w hs => pln (op_build hs (some 5) (qs := [(0, .int .u64 7)]) (v := .agg #[.int .u64 7, .int .u64 0, .int .u64 0, .int .u64 0]) rfl rfl rfl rfl (fun _ => by kernel_rfl) rfl fun ac hs => hs)
  ·exact fun L ac w hs => pln (op_call (F := 122) hs (some 6) (v := W r5) rfl rfl rfl rfl (call122 _) (rfadd_c r4 7 r5 lr4 (by decide) hr5) rfl fun ac w hs => hs)
  ·exact fun L ac w hs => pln (stoo hs 1 ((Wl r5)) sizeOf24 rfl rfl rfl rfl rfl rfl rfl rfl rfl rfl fun w hs => hs)
 intro ac w hs
 try dsimp only [cond_true] at hs
 refine then_n (wp_ret ?_)
 exact bodyPost_ret (res1 rfl (rv_c hs 1 (v := W r5) rfl rfl isAgg24 sizeOf24 rfl)) hs.defers ⟨by rw [← hx, rgt_of2 hr3 hr4 hr5], (hs.bel rfl)⟩
theorem rbelow_c (a : Nat) (q : Bool) (ha : a < 2 ^ 256) (hq : decide (a < Pf) = q) (w0 : World) : Calls prog 81 #[W a] w0 fun e w' => e = .returned (.bool q) ∧ Below w0.heap.size w0 w' := by
 refine enter (n := 7) (args := [W a]) func81 rfl rfl (Nat.le_of_ble_eq_true rfl) fun ac hs => ?_
 refine wp_seq (wp_region_lit ?_)
 refine stp (op_box hs none none (cs := (Wl a)) rfl rfl rfl rfl rfl rfl fun g1 ac w hs => ?_)
 refine asg hs rfl rfl rfl fun ac hs => ?_
 refine wpList_nil (then_n (wp_seq ?_))
 replace hs := hs.n0 [1, 2] rfl rfl
 refine region_inv [([], [2, 3, 4]), ([], [2, 3, 4]), ([0, 1], [3, 4]), ([0, 1, 2], [4]), (rgn 0 4, [])] (fun L ac w => St 7 w0 [(3, L 0, W a), (4, L 1, W Pf), (5, L 2, .int .i64 (cmpZ a Pf)), (6, L 3, .bool (decide (a < Pf))), (2, L 4, .bool (decide (a < Pf))), (1, true, ptA g1 0), (2, true, .bool false)] [(true, g1, 24, (Wl a))] ac w) (by kernel_rfl) (by kernel_rfl) ?_ ?_ ?_
 ·exact hs.drew.skip.skip.skip.skip.skip
 ·refine ⟨?_, ?_, ?_, ?_, ?_, trivial⟩
  ·exact fun L ac w hs => pln (oldd hs 0 0 (W a) isAgg24 sizeOf24 rfl rfl rfl rfl rfl fun ac hs => hs)
  ·exact fun L ac w hs => pln (op_call (F := 118) hs (some 1) (v := W Pf) rfl rfl rfl rfl (call118 _) rprime_c rfl fun ac w hs => hs)
  ·exact fun L ac w hs => pln (op_call (F := 82) hs (some 2) (v := .int .i64 (cmpZ a Pf)) rfl rfl rfl rfl (call82 _) (rcmp_c a Pf ha Pf_lt) rfl fun ac w hs => hs)
  ·exact fun L ac w hs => pln (obn hs 3 (.bool (decide (a < Pf))) rfl rfl rfl rfl (bin_cmp_lss a Pf) fun ac hs => hs)
  ·exact fun L ac w hs => pln (oas hs 4 rfl rfl rfl fun ac hs => hs)
 intro ac w hs
 try dsimp only [cond_true] at hs
 refine then_n (wp_ret ?_)
 exact bodyPost_ret (res1 rfl (rv_t hs rfl)) hs.defers ⟨by rw [← hq], (hs.bel rfl)⟩
theorem ron_c_t (x y : Nat) (hx : x < 2 ^ 256) (hy : y < 2 ^ 256) (w0 : World) : Calls prog 123 #[PV x y true] w0 fun e w' => e = .returned (.bool (onB x y true)) ∧ Below w0.heap.size w0 w' := by
 refine enter (n := 27) (args := [PV x y true]) func123 rfl rfl (Nat.le_of_ble_eq_true rfl) fun ac hs => ?_
 refine wp_seq (wp_region_lit ?_)
 refine stp (op_box hs none none (cs := (PVl x y true)) rfl rfl rfl rfl rfl rfl fun g1 ac w hs => ?_)
 refine asg hs rfl rfl rfl fun ac hs => ?_
 refine wpList_nil (then_n (wp_seq (wp_seq (wp_region_lit ?_))))
 refine stp (op_fieldA hs none rfl rfl rfl underlying42 rfl sizeOf4 (by decide) rfl fun ac hs => ?_)
 refine ldd hs 0 (.bool true) isAgg4 sizeOf4 rfl rfl rfl rfl rfl fun ac hs => ?_
 refine wpList_nil (then_n ?_)
 refine wp_cond_true (hs.ev rfl) ?_
 refine wp_seq (wp_region_lit ?_)
 refine ldd hs 0 (PV x y true) isAgg42 sizeOf42 rfl rfl rfl rfl rfl fun ac hs => ?_
 refine stp (op_build hs none (qs := [(2, .bool true)]) (v := PV 0 0 true) rfl rfl rfl rfl (fun _ => by kernel_rfl) rfl fun ac hs => ?_)
 refine stp (op_bin hs none (v := .bool (decide (x = 0 ∧ y = 0 ∧ true = true))) rfl rfl rfl rfl (fun w => run_eqGuard_agg w .eql 42 _ _ _ _ Tryz.eqGuardType42) (eqlP x y 0 0 true true hx hy (by decide) (by decide) _ rfl) rfl fun ac hs => ?_)
 refine asg hs rfl rfl rfl fun ac hs => ?_
 refine wpList_nil (then_n (wp_ret (then_r ?_)))
 exact bodyPost_ret (res1 rfl (rv_t hs rfl)) hs.defers ⟨congrArg (fun b => Ending.returned (.bool b)) ont, (hs.bel rfl)⟩
theorem ron_c_f (x y : Nat) (hx : x < 2 ^ 256) (hy : y < 2 ^ 256) (w0 : World) : Calls prog 123 #[PV x y false] w0 fun e w' => e = .returned (.bool (onB x y false)) ∧ Below w0.heap.size w0 w' := by
 refine enter (n := 27) (args := [PV x y false]) func123 rfl rfl (Nat.le_of_ble_eq_true rfl) fun ac hs => ?_
 refine wp_seq (wp_region_lit ?_)
 refine stp (op_box hs none none (cs := (PVl x y false)) rfl rfl rfl rfl rfl rfl fun g1 ac w hs => ?_)
 refine asg hs rfl rfl rfl fun ac hs => ?_
 refine wpList_nil (then_n (wp_seq (wp_seq (wp_region_lit ?_))))
 refine stp (op_fieldA hs none rfl rfl rfl underlying42 rfl sizeOf4 (by decide) rfl fun ac hs => ?_)
 refine ldd hs 0 (.bool false) isAgg4 sizeOf4 rfl rfl rfl rfl rfl fun ac hs => ?_
 refine wpList_nil (then_n ?_)
 refine wp_cond_false (hs.ev rfl) ?_
 refine wp_skip (then_n (wp_seq ?_))
 by_cases hq2 : x < Pf
 ·skip
  by_cases hq3 : y < Pf
  ·skip
   replace hs := hs.n0 [1, 2] rfl rfl
   obtain ⟨r4, hr4, lr4⟩ : ∃ z0, y * y % Pf = z0 ∧ z0 < 2 ^ 256 := ⟨_, rfl, modP_lt _⟩
   obtain ⟨r5, hr5, lr5⟩ : ∃ z0, rgt x = z0 ∧ z0 < 2 ^ 256 := ⟨_, rfl, modP_lt _⟩
   refine region_inv [([], rgn 1 19), ([0], rgn 2 18), ([0, 1], rgn 3 17), ([0, 1, 2], rgn 4 16), (rgn 0 4, rgn 5 15), (rgn 0 5, rgn 6 14), (rgn 0 6, rgn 7 13), (rgn 0 7, rgn 8 12), (rgn 0 8, rgn 9 11), (rgn 0 9, [10, 13, 16, 17, 18, 19]), (rgn 0 10, [13, 16, 17, 18, 19]), (rgn 0 9, [12, 13, 16, 17, 18, 19]), ([0, 1, 2, 3, 4, 5, 6, 7, 8, 11], [13, 16, 17, 18, 19]), (rgn 0 13, rgn 16 4), (rgn 0 9, rgn 15 5), ([0, 1, 2, 3, 4, 5, 6, 7, 8, 14], rgn 16 4), (rgn 0 16, [17, 18, 19]), (rgn 0 17, [18, 19]), (rgn 0 18, [19]), (rgn 0 19, [])] (fun L ac w => St 27 w0 [(8, L 0, ptA g1 0), (9, L 1, W x), (10, L 2, .bool true), (11, L 3, .bool true), (12, L 4, ptA g1 4), (13, L 5, W y), (14, L 6, .bool true), (15, L 7, .bool true), (16, L 8, .bool true), (17, L 9, ptA g1 4), (18, L 10, W y), (19, L 11, ptA g1 4), (20, L 12, W y), (21, L 13, W r4), (22, L 14, ptA g1 0), (23, L 15, W x), (24, L 16, W r5), (25, L 17, .bool (decide (r4 = r5))), (26, L 18, .bool (decide (r4 = r5))), (2, L 19, .bool (decide (r4 = r5))), (1, true, ptA g1 0), (2, true, .bool false)] [(true, g1, 42, (PVl x y false))] ac w) (by kernel_rfl) (by kernel_rfl) ?_ ?_ ?_
   ·exact hs.drew.skip.skip.skip.skip.skip.skip.skip.skip.skip.skip.skip.skip.skip.skip.skip.skip.skip.skip.skip.skip
   ·refine ⟨?_, ?_, ?_, ?_, ?_, ?_, ?_, ?_, ?_, ?_, ?_, ?_, ?_, ?_, ?_, ?_, ?_, ?_, ?_, ?_, trivial⟩
    ·exact fun L ac w hs => pln (op_fieldA hs (some 0) rfl rfl rfl underlying42 rfl sizeOf24 (by decide) rfl fun ac hs => hs)
    ·exact fun L ac w hs => pln (oldd hs 1 0 (W x) isAgg24 sizeOf24 rfl rfl rfl rfl rfl fun ac hs => hs)
    ·exact fun L ac w hs => pln (op_call (F := 81) hs (some 2) (v := .bool true) rfl rfl rfl rfl (call81 _) (rbelow_c x true hx (decide_eq_true hq2)) rfl fun ac w hs => hs)
    ·exact fun L ac w hs => pln (omv hs 3 rfl rfl rfl fun ac hs => hs)
    ·exact fun L ac w hs => wpO_in hs rfl rfl rfl (op_fieldA hs (some 4) rfl rfl rfl underlying42 rfl sizeOf24 (by decide) rfl fun ac hs => hs)
    ·exact fun L ac w hs => wpO_in hs rfl rfl rfl (oldd hs 5 0 (W y) isAgg24 sizeOf24 rfl rfl rfl rfl rfl fun ac hs => hs)
    ·exact fun L ac w hs => wpO_in hs rfl rfl rfl (op_call (F := 81) hs (some 6) (v := .bool true) rfl rfl rfl rfl (call81 _) (rbelow_c y true hy (decide_eq_true hq3)) rfl fun ac w hs => hs)
    ·exact fun L ac w hs => pln (op_pickT hs (some 7) rfl rfl rfl rfl rfl fun ac hs => hs)
    ·exact fun L ac w hs => pln (omv hs 8 rfl rfl rfl fun ac hs => hs)
    ·exact fun L ac w hs => wpO_in hs rfl rfl rfl (op_fieldA hs (some 9) rfl rfl rfl underlying42 rfl sizeOf24 (by decide) rfl fun ac hs => hs)
    ·exact fun L ac w hs => wpO_in hs rfl rfl rfl (oldd hs 10 0 (W y) isAgg24 sizeOf24 rfl rfl rfl rfl rfl fun ac hs => hs)
    ·exact fun L ac w hs => wpO_in hs rfl rfl rfl (op_fieldA hs (some 11) rfl rfl rfl underlying42 rfl sizeOf24 (by decide) rfl fun ac hs => hs)
    ·exact fun L ac w hs => wpO_in hs rfl rfl rfl (oldd hs 12 0 (W y) isAgg24 sizeOf24 rfl rfl rfl rfl rfl fun ac hs => hs)
    ·exact fun L ac w hs => wpO_in hs rfl rfl rfl (op_call (F := 89) hs (some 13) (v := W r4) rfl rfl rfl rfl (call89 _) (rfmul_c y y r4 hy hy hr4) rfl fun ac w hs => hs)
    ·exact fun L ac w hs => wpO_in hs rfl rfl rfl (op_fieldA hs (some 14) rfl rfl rfl underlying42 rfl sizeOf24 (by decide) rfl fun ac hs => hs)
    ·exact fun L ac w hs => wpO_in hs rfl rfl rfl (oldd hs 15 0 (W x) isAgg24 sizeOf24 rfl rfl rfl rfl rfl fun ac hs => hs)
    ·exact fun L ac w hs => wpO_in hs rfl rfl rfl (op_call (F := 80) hs (some 16) (v := W r5) rfl rfl rfl rfl (call80 _) (rright_c x r5 hx hr5) rfl fun ac w hs => hs)
    ·exact fun L ac w hs => wpO_in hs rfl rfl rfl (op_bin hs (some 17) (v := .bool (decide (r4 = r5))) rfl rfl rfl rfl (fun w => run_eqGuard_agg w .eql 24 _ _ _ _ Tryz.eqGuardType24) (eqlW r4 r5 lr4 lr5 _ rfl) rfl fun ac hs => hs)
    ·exact fun L ac w hs => pln (op_pickT hs (some 18) rfl rfl rfl rfl rfl fun ac hs => hs)
    ·exact fun L ac w hs => pln (oas hs 19 rfl rfl rfl fun ac hs => hs)
   intro ac w hs
   try dsimp only [cond_true] at hs
   refine then_n (wp_ret ?_)
   exact bodyPost_ret (res1 rfl (rv_t hs rfl)) hs.defers ⟨congrArg (fun b => Ending.returned (.bool b)) (onf3 hq2 hq3 hr4 hr5), (hs.bel rfl)⟩
  ·skip
   replace hs := hs.n0 [1, 2] rfl rfl
   refine region_inv [([], rgn 1 19), ([0], rgn 2 18), ([0, 1], rgn 3 17), ([0, 1, 2], rgn 4 16), (rgn 0 4, rgn 5 15), (rgn 0 5, rgn 6 14), (rgn 0 6, rgn 7 13), (rgn 0 7, rgn 8 12), (rgn 0 8, rgn 9 11), (rgn 0 9, [10, 13, 16, 17, 18, 19]), (rgn 0 10, [13, 16, 17, 18, 19]), (rgn 0 9, [12, 13, 16, 17, 18, 19]), ([0, 1, 2, 3, 4, 5, 6, 7, 8, 11], [13, 16, 17, 18, 19]), (rgn 0 13, rgn 16 4), (rgn 0 9, rgn 15 5), ([0, 1, 2, 3, 4, 5, 6, 7, 8, 14], rgn 16 4), (rgn 0 16, [17, 18, 19]), (rgn 0 17, [18, 19]), (rgn 0 18, [19]), (rgn 0 19, [])] (fun L ac w => St 27 w0 [(8, L 0, ptA g1 0), (9, L 1, W x), (10, L 2, .bool true), (11, L 3, .bool true), (12, L 4, ptA g1 4), (13, L 5, W y), (14, L 6, .bool false), (15, L 7, .bool false), (16, L 8, .bool false), (17, L 9, undef), (18, L 10, undef), (19, L 11, undef), (20, L 12, undef), (21, L 13, undef), (22, L 14, undef), (23, L 15, undef), (24, L 16, undef), (25, L 17, undef), (26, L 18, .bool false), (2, L 19, .bool false), (1, true, ptA g1 0), (2, true, .bool false)] [(true, g1, 42, (PVl x y false))] ac w) (by kernel_rfl) (by kernel_rfl) ?_ ?_ ?_
   ·exact hs.drew.skip.skip.skip.skip.skip.skip.skip.skip.skip.skip.skip.skip.skip.skip.skip.skip.skip.skip.skip.skip
   ·refine ⟨?_, ?_, ?_, ?_, ?_, ?_, ?_, ?_, ?_, ?_, ?_, ?_, ?_, ?_, ?_, ?_, ?_, ?_, ?_, ?_, trivial⟩
    ·exact fun L ac w hs => pln (op_fieldA hs (some 0) rfl rfl rfl underlying42 rfl sizeOf24 (by decide) rfl fun ac hs => hs)
    ·exact fun L ac w hs => pln (oldd hs 1 0 (W x) isAgg24 sizeOf24 rfl rfl rfl rfl rfl fun ac hs => hs)
    ·exact fun L ac w hs => pln (op_call (F := 81) hs (some 2) (v := .bool true) rfl rfl rfl rfl (call81 _) (rbelow_c x true hx (decide_eq_true hq2)) rfl fun ac w hs => hs)
    ·exact fun L ac w hs => pln (omv hs 3 rfl rfl rfl fun ac hs => hs)
    ·exact fun L ac w hs => wpO_in hs rfl rfl rfl (op_fieldA hs (some 4) rfl rfl rfl underlying42 rfl sizeOf24 (by decide) rfl fun ac hs => hs)
    ·exact fun L ac w hs => wpO_in hs rfl rfl rfl (oldd hs 5 0 (W y) isAgg24 sizeOf24 rfl rfl rfl rfl rfl fun ac hs => hs)
    ·exact fun L ac w hs => wpO_in hs rfl rfl rfl (op_call (F := 81) hs (some 6) (v := .bool false) rfl rfl rfl rfl (call81 _) (rbelow_c y false hy (decide_eq_false hq3)) rfl fun ac w hs => hs)
    ·exact fun L ac w hs => pln (op_pickT hs (some 7) rfl rfl rfl rfl rfl fun ac hs => hs)
    ·exact fun L ac w hs => pln (omv hs 8 rfl rfl rfl fun ac hs => hs)
    ·intro L ac w hs
     refine wpO_out hs (some 9) rfl rfl (.inl rfl) rfl rfl fun ac hs => ?_
     exact hs
    ·intro L ac w hs
     refine wpO_out hs (some 10) rfl rfl (.inl rfl) rfl rfl fun ac hs => ?_
     exact hs
    ·intro L ac w hs
     refine wpO_out hs (some 11) rfl rfl (.inl rfl) rfl rfl fun ac hs => ?_
     exact hs
    ·intro L ac w hs
     refine wpO_out hs (some 12) rfl rfl (.inl rfl) rfl rfl fun ac hs => ?_
     exact hs
    ·intro L ac w hs
     refine wpO_out hs (some 13) rfl rfl (.inl rfl) rfl rfl fun ac hs => ?_
     exact hs
    ·intro L ac w hs
     refine wpO_out hs (some 14) rfl rfl (.inl rfl) rfl rfl fun ac hs => ?_
     exact hs
    ·intro L ac w hs
     refine wpO_out hs (some 15) rfl rfl (.inl rfl) rfl rfl fun ac hs => ?_
     exact hs
    ·intro L ac w hs
     refine wpO_out hs (some 16) rfl rfl (.inl rfl) rfl rfl fun ac hs => ?_
     exact hs
    ·intro L ac w hs
     refine wpO_out hs (some 17) rfl rfl (.inl rfl) rfl rfl fun ac hs => ?_
     exact hs
    ·exact fun L ac w hs => pln (op_pickF hs (some 18) rfl rfl rfl rfl rfl fun ac hs => hs)
    ·exact fun L ac w hs => pln (oas hs 19 rfl rfl rfl fun ac hs => hs)
   intro ac w hs
   try dsimp only [cond_true] at hs
   refine then_n (wp_ret ?_)
   exact bodyPost_ret (res1 rfl (rv_t hs rfl)) hs.defers ⟨congrArg (fun b => Ending.returned (.bool b)) (onf2 hq3), (hs.bel rfl)⟩
 ·skip
  replace hs := hs.n0 [1, 2] rfl rfl
  refine region_inv [([], rgn 1 19), ([0], rgn 2 18), ([0, 1], rgn 3 17), ([0, 1, 2], rgn 4 16), (rgn 0 4, rgn 5 15), (rgn 0 5, rgn 6 14), (rgn 0 6, rgn 7 13), (rgn 0 7, rgn 8 12), (rgn 0 8, rgn 9 11), (rgn 0 9, [10, 13, 16, 17, 18, 19]), (rgn 0 10, [13, 16, 17, 18, 19]), (rgn 0 9, [12, 13, 16, 17, 18, 19]), ([0, 1, 2, 3, 4, 5, 6, 7, 8, 11], [13, 16, 17, 18, 19]), (rgn 0 13, rgn 16 4), (rgn 0 9, rgn 15 5), ([0, 1, 2, 3, 4, 5, 6, 7, 8, 14], rgn 16 4), (rgn 0 16, [17, 18, 19]), (rgn 0 17, [18, 19]), (rgn 0 18, [19]), (rgn 0 19, [])] (fun L ac w => St 27 w0 [(8, L 0, ptA g1 0), (9, L 1, W x), (10, L 2, .bool false), (11, L 3, .bool false), (12, L 4, undef), (13, L 5, undef), (14, L 6, undef), (15, L 7, .bool false), (16, L 8, .bool false), (17, L 9, undef), (18, L 10, undef), (19, L 11, undef), (20, L 12, undef), (21, L 13, undef), (22, L 14, undef), (23, L 15, undef), (24, L 16, undef), (25, L 17, undef), (26, L 18, .bool false), (2, L 19, .bool false), (1, true, ptA g1 0), (2, true, .bool false)] [(true, g1, 42, (PVl x y false))] ac w) (by kernel_rfl) (by kernel_rfl) ?_ ?_ ?_
  ·exact hs.drew.skip.skip.skip.skip.skip.skip.skip.skip.skip.skip.skip.skip.skip.skip.skip.skip.skip.skip.skip.skip
  ·refine ⟨?_, ?_, ?_, ?_, ?_, ?_, ?_, ?_, ?_, ?_, ?_, ?_, ?_, ?_, ?_, ?_, ?_, ?_, ?_, ?_, trivial⟩
   ·exact fun L ac w hs => pln (op_fieldA hs (some 0) rfl rfl rfl underlying42 rfl sizeOf24 (by decide) rfl fun ac hs => hs)
   ·exact fun L ac w hs => pln (oldd hs 1 0 (W x) isAgg24 sizeOf24 rfl rfl rfl rfl rfl fun ac hs => hs)
   ·exact fun L ac w hs => pln (op_call (F := 81) hs (some 2) (v := .bool false) rfl rfl rfl rfl (call81 _) (rbelow_c x false hx (decide_eq_false hq2)) rfl fun ac w hs => hs)
   ·exact fun L ac w hs => pln (omv hs 3 rfl rfl rfl fun ac hs => hs)
   ·intro L ac w hs
    refine wpO_out hs (some 4) rfl rfl (.inl rfl) rfl rfl fun ac hs => ?_
    exact hs
   ·intro L ac w hs
    refine wpO_out hs (some 5) rfl rfl (.inl rfl) rfl rfl fun ac hs => ?_
    exact hs
   ·intro L ac w hs
    refine wpO_out hs (some 6) rfl rfl (.inl rfl) rfl rfl fun ac hs => ?_
    exact hs
   ·exact fun L ac w hs => pln (op_pickF hs (some 7) rfl rfl rfl rfl rfl fun ac hs => hs)
   ·exact fun L ac w hs => pln (omv hs 8 rfl rfl rfl fun ac hs => hs)
   ·intro L ac w hs
    refine wpO_out hs (some 9) rfl rfl (.inl rfl) rfl rfl fun ac hs => ?_
    exact hs
   ·intro L ac w hs
    refine wpO_out hs (some 10) rfl rfl (.inl rfl) rfl rfl fun ac hs => ?_
    exact hs
   ·intro L ac w hs
    refine wpO_out hs (some 11) rfl rfl (.inl rfl) rfl rfl fun ac hs => ?_
    exact hs
   ·intro L ac w hs
    refine wpO_out hs (some 12) rfl rfl (.inl rfl) rfl rfl fun ac hs => ?_
    exact hs
   ·intro L ac w hs
    refine wpO_out hs (some 13) rfl rfl (.inl rfl) rfl rfl fun ac hs => ?_
    exact hs
   ·intro L ac w hs
    refine wpO_out hs (some 14) rfl rfl (.inl rfl) rfl rfl fun ac hs => ?_
    exact hs
   ·intro L ac w hs
    refine wpO_out hs (some 15) rfl rfl (.inl rfl) rfl rfl fun ac hs => ?_
    exact hs
   ·intro L ac w hs
    refine wpO_out hs (some 16) rfl rfl (.inl rfl) rfl rfl fun ac hs => ?_
    exact hs
   ·intro L ac w hs
    refine wpO_out hs (some 17) rfl rfl (.inl rfl) rfl rfl fun ac hs => ?_
    exact hs
   ·exact fun L ac w hs => pln (op_pickF hs (some 18) rfl rfl rfl rfl rfl fun ac hs => hs)
   ·exact fun L ac w hs => pln (oas hs 19 rfl rfl rfl fun ac hs => hs)
  intro ac w hs
  try dsimp only [cond_true] at hs
  refine then_n (wp_ret ?_)
  exact bodyPost_ret (res1 rfl (rv_t hs rfl)) hs.defers ⟨congrArg (fun b => Ending.returned (.bool b)) (onf1 hq2), (hs.bel rfl)⟩
theorem ron_c (x y : Nat) (z q : Bool) (hx : x < 2 ^ 256) (hy : y < 2 ^ 256) (hq : onB x y z = q) (w : World) : Calls prog 123 #[PV x y z] w fun e w' => e = .returned (.bool q) ∧ Below w.heap.size w w' := by
 subst hq
 cases z with
 | true => exact ron_c_t x y hx hy w
 | false => exact ron_c_f x y hx hy w
theorem own_c (x y : Nat) (z : Bool) (T : EM.Pt Pf) (hx : x < 2 ^ 256) (hy : y < 2 ^ 256) (hT : ptOf x y z = T) (w0 : World) : Calls prog 83 #[PV x y z] w0 fun e w' => e = .returned (PV (px T) (py T) (pz T)) ∧ Below w0.heap.size w0 w' := by
 refine enter (n := 7) (args := [PV x y z]) func83 rfl rfl (Nat.le_of_ble_eq_true rfl) fun ac hs => ?_
 refine wp_seq (wp_region_lit ?_)
 refine stp (op_box hs none none (cs := (PVl x y z)) rfl rfl rfl rfl rfl rfl fun g1 ac w hs => ?_)
 refine stp (op_alloc hs none none (cs := (PVl 0 0 false)) rfl rfl zeroValue42 (by kernel_rfl) rfl rfl fun g2 ac w hs => ?_)
 refine wpList_nil (then_n (wp_seq (wp_seq (wp_region_lit ?_))))
 refine ldd hs 0 (PV x y z) isAgg42 sizeOf42 rfl rfl rfl rfl rfl fun ac hs => ?_
 refine stp (op_call (F := 123) hs none (v := .bool (onB x y z)) rfl rfl rfl rfl (call123 _) (ron_c x y z _ hx hy rfl) rfl fun ac w hs => ?_)
 refine wpList_nil (then_n ?_)
 refine wp_cond_split (hs.ev rfl) (fun hc => ?_) (fun hc => ?_)
 ·skip
  refine wp_seq (wp_region_lit ?_)
  refine ldd hs 0 (PV x y z) isAgg42 sizeOf42 rfl rfl rfl rfl rfl fun ac hs => ?_
  refine stp (stoo hs 1 ((PVl x y z)) sizeOf42 rfl rfl rfl rfl rfl rfl rfl rfl rfl rfl fun w hs => ?_)
  refine wpList_nil (then_n (wp_ret (then_r ?_)))
  exact bodyPost_ret (res1 rfl (rv_c hs 1 (v := PV x y z) rfl rfl isAgg42 sizeOf42 rfl)) hs.defers ⟨by subst hT; rw [(on_yes hc).1, (on_yes hc).2.1, (on_yes hc).2.2], (hs.bel rfl)⟩
 ·skip
  refine wp_skip (then_n (wp_seq (wp_region_lit ?_)))
  refine stp (op_build hs none (qs := [(2, .bool true)]) (v := PV 0 0 true) rfl rfl rfl rfl (fun _ => by kernel_rfl) rfl fun ac hs => ?_)
  refine stp (stoo hs 1 ((PVl 0 0 true)) sizeOf42 rfl rfl rfl rfl rfl rfl rfl rfl rfl rfl fun w hs => ?_)
  refine wpList_nil (then_n (wp_ret ?_))
  exact bodyPost_ret (res1 rfl (rv_c hs 1 (v := PV 0 0 true) rfl rfl isAgg42 sizeOf42 rfl)) hs.defers ⟨by rw [← hT, on_no (Bool.eq_false_iff.1 hc)]; rfl, (hs.bel rfl)⟩
theorem rneg_c (x y : Nat) (z : Bool) (T N : EM.Pt Pf) (hx : x < 2 ^ 256) (hy : y < 2 ^ 256) (hT : ptOf x y z = T) (hN : T.neg = N) (w0 : World) : Calls prog 40 #[PV x y z] w0 fun e w' => e = .returned (PV (px N) (py N) (pz N)) ∧ Below w0.heap.size w0 w' := by
 have oT : T.on := by rw [← hT]; exact pt_on x y z
 refine enter (n := 13) (args := [PV x y z]) func40 rfl rfl (Nat.le_of_ble_eq_true rfl) fun ac hs => ?_
 refine wp_seq (wp_region_lit ?_)
 refine stp (op_box hs none none (cs := (PVl x y z)) rfl rfl rfl rfl rfl rfl fun g1 ac w hs => ?_)
 refine stp (op_alloc hs none none (cs := (PVl 0 0 false)) rfl rfl zeroValue42 (by kernel_rfl) rfl rfl fun g2 ac w hs => ?_)
 refine wpList_nil (then_n (wp_seq (wp_region_lit ?_)))
 refine ldd hs 0 (PV x y z) isAgg42 sizeOf42 rfl rfl rfl rfl rfl fun ac hs => ?_
 refine stp (op_call (F := 83) hs none (v := PV (px T) (py T) (pz T)) rfl rfl rfl rfl (call83 _) (own_c x y z T hx hy hT) rfl fun ac w hs => ?_)
 refine stp (stoo hs 0 ((PVl (px T) (py T) (pz T))) sizeOf42 rfl rfl rfl rfl rfl rfl rfl rfl rfl rfl fun w hs => ?_)
 refine wpList_nil (then_n (wp_seq (wp_seq (wp_region_lit ?_))))
 refine stp (op_fieldA hs none rfl rfl rfl underlying42 rfl sizeOf4 (by decide) rfl fun ac hs => ?_)
 refine ldd hs 0 (.bool (pz T)) isAgg4 sizeOf4 rfl rfl rfl rfl rfl fun ac hs => ?_
 refine stp (op_un hs none (v := .bool (!(pz T))) rfl rfl rfl (fun _ => rfl) rfl fun ac hs => ?_)
 refine wpList_nil (then_n ?_)
 refine wp_cond_split (hs.ev rfl) (fun hc => ?_) (fun hc => ?_)
 ·skip
  replace hs := hs.n0 [1, 2] rfl rfl
  refine wp_region_lit ?_
  refine stp (op_fieldA hs none rfl rfl rfl underlying42 rfl sizeOf24 (by decide) rfl fun ac hs => ?_)
  refine ldd hs 0 (W (py T)) isAgg24 sizeOf24 rfl rfl rfl rfl rfl fun ac hs => ?_
  obtain ⟨r3, hr3, lr3⟩ : ∃ z0, fsub 0 (py T) = z0 ∧ z0 < 2 ^ 256 := ⟨_, rfl, fsub_lt _ _⟩
  refine stp (op_call (F := 90) hs none (v := W r3) rfl rfl rfl rfl (call90 _) (rfneg_c (py T) r3 (py_lt T) hr3) rfl fun ac w hs => ?_)
  refine stp (op_fieldA hs none rfl rfl rfl underlying42 rfl sizeOf24 (by decide) rfl fun ac hs => ?_)
  refine stp (stoo hs 0 ((Wl r3)) sizeOf24 rfl rfl rfl rfl rfl rfl rfl rfl rfl rfl fun w hs => ?_)
  refine wpList_nil (then_n (wp_seq (wp_region_lit ?_)))
  refine ldd hs 0 (PV (px T) r3 (pz T)) isAgg42 sizeOf42 rfl rfl rfl rfl rfl fun ac hs => ?_
  refine stp (stoo hs 1 ((PVl (px T) r3 (pz T))) sizeOf42 rfl rfl rfl rfl rfl rfl rfl rfl rfl rfl fun w hs => ?_)
  refine wpList_nil (then_n (wp_ret ?_))
  exact bodyPost_ret (res1 rfl (rv_c hs 1 (v := PV (px T) r3 (pz T)) rfl rfl isAgg42 sizeOf42 rfl)) hs.defers ⟨by rw [← hN, (neg_A (by simpa using hc)).1, (neg_A (by simpa using hc)).2.1, (neg_A (by simpa using hc)).2.2, hr3, show pz T = false by simpa using hc], (hs.bel rfl)⟩
 ·skip
  refine wp_skip (then_n (wp_seq ?_))
  replace hs := hs.n0 [1, 2] rfl rfl
  refine wp_region_lit ?_
  refine ldd hs 0 (PV (px T) (py T) (pz T)) isAgg42 sizeOf42 rfl rfl rfl rfl rfl fun ac hs => ?_
  refine stp (stoo hs 1 ((PVl (px T) (py T) (pz T))) sizeOf42 rfl rfl rfl rfl rfl rfl rfl rfl rfl rfl fun w hs => ?_)
  refine wpList_nil (then_n (wp_ret ?_))
  exact bodyPost_ret (res1 rfl (rv_c hs 1 (v := PV (px T) (py T) (pz T)) rfl rfl isAgg42 sizeOf42 rfl)) hs.defers ⟨by rw [← hN, neg_O (by simpa using hc), pz_O (T := T) (by simpa using hc)]; first | done | rfl, (hs.bel rfl)⟩
theorem rsum_c (P Q T : EM.Pt Pf) (oP : P.on) (oQ : Q.on) (hT : P.add Q = T) (w0 : World) : Calls prog 91 #[PV (px P) (py P) (pz P), PV (px Q) (py Q) (pz Q)] w0 fun e w' => e = .returned (PV (px T) (py T) (pz T)) ∧ Below w0.heap.size w0 w' := by
 refine enter (n := 80) (args := [PV (px P) (py P) (pz P), PV (px Q) (py Q) (pz Q)]) func91 rfl rfl (Nat.le_of_ble_eq_true rfl) fun ac hs => ?_
 refine wp_seq (wp_region_lit ?_)
 refine stp (op_box hs none none (cs := (PVl (px P) (py P) (pz P))) rfl rfl rfl rfl rfl rfl fun g1 ac w hs => ?_)
 refine stp (op_box hs none none (cs := (PVl (px Q) (py Q) (pz Q))) rfl rfl rfl rfl rfl rfl fun g2 ac w hs => ?_)
 refine stp (op_alloc hs none none (cs := (PVl 0 0 false)) rfl rfl zeroValue42 (by kernel_rfl) rfl rfl fun g3 ac w hs => ?_)
 refine wpList_nil (then_n (wp_seq (wp_seq (wp_region_lit ?_))))
 refine stp (op_fieldA hs none rfl rfl rfl underlying42 rfl sizeOf4 (by decide) rfl fun ac hs => ?_)
 refine ldd hs 0 (.bool (pz P)) isAgg4 sizeOf4 rfl rfl rfl rfl rfl fun ac hs => ?_
 refine wpList_nil (then_n ?_)
 refine wp_cond_split (hs.ev rfl) (fun hc => ?_) (fun hc => ?_)
 ·skip
  have hzP := hc
  refine wp_seq (wp_region_lit ?_)
  refine ldd hs 1 (PV (px Q) (py Q) (pz Q)) isAgg42 sizeOf42 rfl rfl rfl rfl rfl fun ac hs => ?_
  refine stp (stoo hs 2 ((PVl (px Q) (py Q) (pz Q))) sizeOf42 rfl rfl rfl rfl rfl rfl rfl rfl rfl rfl fun w hs => ?_)
  refine wpList_nil (then_n (wp_ret (then_r ?_)))
  exact bodyPost_ret (res1 rfl (rv_c hs 2 (v := PV (px Q) (py Q) (pz Q)) rfl rfl isAgg42 sizeOf42 rfl)) hs.defers ⟨by rw [← hT, pz_O (T := P) hzP, EM.O_add], (hs.bel rfl)⟩
 ·skip
  have hzP := hc
  refine wp_skip (then_n (wp_seq (wp_seq (wp_region_lit ?_))))
  refine stp (op_fieldA hs none rfl rfl rfl underlying42 rfl sizeOf4 (by decide) rfl fun ac hs => ?_)
  refine ldd hs 1 (.bool (pz Q)) isAgg4 sizeOf4 rfl rfl rfl rfl rfl fun ac hs => ?_
  refine wpList_nil (then_n ?_)
  refine wp_cond_split (hs.ev rfl) (fun hc => ?_) (fun hc => ?_)
  ·skip
   have hzQ := hc
   refine wp_seq ?_
   replace hs := hs.n0 [2, 3, 4] rfl rfl
   refine wp_region_lit ?_
   refine ldd hs 0 (PV (px P) (py P) (pz P)) isAgg42 sizeOf42 rfl rfl rfl rfl rfl fun ac hs => ?_
   refine stp (stoo hs 2 ((PVl (px P) (py P) (pz P))) sizeOf42 rfl rfl rfl rfl rfl rfl rfl rfl rfl rfl fun w hs => ?_)
   refine wpList_nil (then_n (wp_ret (then_r ?_)))
   exact bodyPost_ret (res1 rfl (rv_c hs 2 (v := PV (px P) (py P) (pz P)) rfl rfl isAgg42 sizeOf42 rfl)) hs.defers ⟨by rw [← hT, pz_O (T := Q) hzQ, EM.add_O], (hs.bel rfl)⟩
  ·skip
   have hzQ := hc
   refine wp_skip (then_n (wp_seq ?_))
   replace hs := hs.n0 [2, 3, 4] rfl rfl
   obtain ⟨r4, hr4, lr4⟩ : ∃ z0, fsub (py Q) (py P) = z0 ∧ z0 < 2 ^ 256 := ⟨_, rfl, fsub_lt _ _⟩
   obtain ⟨r5, hr5, lr5⟩ : ∃ z0, fsub (px Q) (px P) = z0 ∧ z0 < 2 ^ 256 := ⟨_, rfl, fsub_lt _ _⟩
   refine region_inv [([], [1, 4, 9, 12, 13]), ([0], [4, 9, 12, 13]), ([], [3, 4, 9, 12, 13]), ([2], [4, 9, 12, 13]), (rgn 0 4, [9, 12, 13]), ([], [6, 9, 12, 13]), ([5], [9, 12, 13]), ([], [8, 9, 12, 13]), ([7], [9, 12, 13]), (rgn 0 9, [12, 13]), ([], [12, 13]), ([], [12, 13]), (rgn 0 12, [13]), (rgn 0 13, [])] (fun L ac w => ∃ (g6 : Nat) (g7 : Nat), St 80 w0 [(16, L 0, ptA g2 4), (17, L 1, W (py Q)), (18, L 2, ptA g1 4), (19, L 3, W (py P)), (20, L 4, W r4), (21, L 5, ptA g2 0), (22, L 6, W (px Q)), (23, L 7, ptA g1 0), (24, L 8, W (px P)), (25, L 9, W r5), (5, L 10, ptA g6 0), (6, L 11, ptA g7 0), (2, true, ptA g1 0), (3, true, ptA g2 0), (4, true, ptA g3 0)] [(true, g1, 42, (PVl (px P) (py P) (pz P))), (true, g2, 42, (PVl (px Q) (py Q) (pz Q))), (true, g3, 42, (PVl 0 0 false)), (L 10, g6, 24, (cond (L 12) (Wl r4) [.int .u64 0, .int .u64 0, .int .u64 0, .int .u64 0])), (L 11, g7, 24, (cond (L 13) (Wl r5) [.int .u64 0, .int .u64 0, .int .u64 0, .int .u64 0]))] ac w) (by kernel_rfl) (by kernel_rfl) ?_ ?_ ?_
   ·exact ⟨0, 0, hs.drew.skip.skip.skip.skip.skip.skip.skip.skip.skip.skip.skip.skip.pad.pad⟩
   ·refine ⟨?_, ?_, ?_, ?_, ?_, ?_, ?_, ?_, ?_, ?_, ?_, ?_, ?_, ?_, trivial⟩
    ·exact fun L ac w ⟨g6, g7, hs⟩ => pln (op_fieldA hs (some 0) rfl rfl rfl underlying42 rfl sizeOf24 (by decide) rfl fun ac hs => ⟨g6, g7, hs⟩)
    ·exact fun L ac w ⟨g6, g7, hs⟩ => pln (oldd hs 1 1 (W (py Q)) isAgg24 sizeOf24 rfl rfl rfl rfl rfl fun ac hs => ⟨g6, g7, hs⟩)
    ·exact fun L ac w ⟨g6, g7, hs⟩ => pln (op_fieldA hs (some 2) rfl rfl rfl underlying42 rfl sizeOf24 (by decide) rfl fun ac hs => ⟨g6, g7, hs⟩)
    ·exact fun L ac w ⟨g6, g7, hs⟩ => pln (oldd hs 3 0 (W (py P)) isAgg24 sizeOf24 rfl rfl rfl rfl rfl fun ac hs => ⟨g6, g7, hs⟩)
    ·exact fun L ac w ⟨g6, g7, hs⟩ => pln (op_call (F := 124) hs (some 4) (v := W r4) rfl rfl rfl rfl (call124 _) (rfsub_c (py Q) (py P) r4 (py_lt Q) (py_lt P) hr4) rfl fun ac w hs => ⟨g6, g7, hs⟩)
    ·exact fun L ac w ⟨g6, g7, hs⟩ => pln (op_fieldA hs (some 5) rfl rfl rfl underlying42 rfl sizeOf24 (by decide) rfl fun ac hs => ⟨g6, g7, hs⟩)
    ·exact fun L ac w ⟨g6, g7, hs⟩ => pln (oldd hs 6 1 (W (px Q)) isAgg24 sizeOf24 rfl rfl rfl rfl rfl fun ac hs => ⟨g6, g7, hs⟩)
    ·exact fun L ac w ⟨g6, g7, hs⟩ => pln (op_fieldA hs (some 7) rfl rfl rfl underlying42 rfl sizeOf24 (by decide) rfl fun ac hs => ⟨g6, g7, hs⟩)
    ·exact fun L ac w ⟨g6, g7, hs⟩ => pln (oldd hs 8 0 (W (px P)) isAgg24 sizeOf24 rfl rfl rfl rfl rfl fun ac hs => ⟨g6, g7, hs⟩)
    ·exact fun L ac w ⟨g6, g7, hs⟩ => pln (op_call (F := 124) hs (some 9) (v := W r5) rfl rfl rfl rfl (call124 _) (rfsub_c (px Q) (px P) r5 (px_lt Q) (px_lt P) hr5) rfl fun ac w hs => ⟨g6, g7, hs⟩)
    ·exact fun L ac w ⟨g6, g7, hs⟩ => pln (op_alloc hs (some 10) (some 3) (cs := [.int .u64 0, .int .u64 0, .int .u64 0, .int .u64 0]) rfl rfl zeroValue24 (by kernel_rfl) rfl rfl fun g6 ac w hs => ⟨g6, g7, hs⟩)
    ·exact fun L ac w ⟨g6, g7, hs⟩ => pln (op_alloc hs (some 11) (some 4) (cs := [.int .u64 0, .int .u64 0, .int .u64 0, .int .u64 0]) rfl rfl zeroValue24 (by kernel_rfl) rfl rfl fun g7 ac w hs => ⟨g6, g7, hs⟩)
    ·exact fun L ac w ⟨g6, g7, hs⟩ => pln (stoo hs 3 ((Wl r4)) sizeOf24 rfl rfl rfl rfl rfl rfl rfl rfl rfl rfl fun w hs => ⟨g6, g7, hs⟩)
    ·exact fun L ac w ⟨g6, g7, hs⟩ => pln (stoo hs 4 ((Wl r5)) sizeOf24 rfl rfl rfl rfl rfl rfl rfl rfl rfl rfl fun w hs => ⟨g6, g7, hs⟩)
   intro ac w ⟨g6, g7, hs⟩
   try dsimp only [cond_true] at hs
   refine then_n (wp_seq (wp_seq (wp_region_lit ?_)))
   refine stp (op_fieldA hs none rfl rfl rfl underlying42 rfl sizeOf24 (by decide) rfl fun ac hs => ?_)
   refine ldd hs 0 (W (px P)) isAgg24 sizeOf24 rfl rfl rfl rfl rfl fun ac hs => ?_
   refine stp (op_fieldA hs none rfl rfl rfl underlying42 rfl sizeOf24 (by decide) rfl fun ac hs => ?_)
   refine ldd hs 1 (W (px Q)) isAgg24 sizeOf24 rfl rfl rfl rfl rfl fun ac hs => ?_
   refine stp (op_bin hs none (v := .bool (decide ((px P) = (px Q)))) rfl rfl rfl rfl (fun w => run_eqGuard_agg w .eql 24 _ _ _ _ Tryz.eqGuardType24) (eqlW (px P) (px Q) (px_lt P) (px_lt Q) _ rfl) rfl fun ac hs => ?_)
   refine wpList_nil (then_n ?_)
   refine wp_cond_split (hs.ev rfl) (fun hc => ?_) (fun hc => ?_)
   ·skip
    have hp8 := of_decide_eq_true hc
    refine wp_seq (wp_seq ?_)
    by_cases hq9 : py P = py Q
    ·skip
     by_cases hq10 : py P = 0
     ·skip
      refine wp_region_lit ?_
      refine stp (op_fieldA hs none rfl rfl rfl underlying42 rfl sizeOf24 (by decide) rfl fun ac hs => ?_)
      refine ldd hs 0 (W (py P)) isAgg24 sizeOf24 rfl rfl rfl rfl rfl fun ac hs => ?_
      refine stp (op_fieldA hs none rfl rfl rfl underlying42 rfl sizeOf24 (by decide) rfl fun ac hs => ?_)
      refine ldd hs 1 (W (py Q)) isAgg24 sizeOf24 rfl rfl rfl rfl rfl fun ac hs => ?_
      refine stp (op_bin hs none (v := .bool false) rfl rfl rfl rfl (fun w => run_eqGuard_agg w .neq 24 _ _ _ _ Tryz.eqGuardType24) (neqW (py P) (py Q) (py_lt P) (py_lt Q) false (decide_eq_false (not_not_intro hq9))) rfl fun ac hs => ?_)
      refine mvv hs rfl rfl rfl fun ac hs => ?_
      refine lstep (wpO_in hs rfl rfl rfl (op_fieldA hs none rfl rfl rfl underlying42 rfl sizeOf24 (by decide) rfl fun ac hs => ?_))
      refine lstep (wpO_in hs rfl rfl rfl (op_load hs none 0 (v := W (py P)) rfl rfl rfl rfl isAgg24 sizeOf24 rfl rfl fun ac hs => ?_))
      refine lstep (wpO_in hs rfl rfl rfl (op_build hs none (qs := []) (v := .agg #[.int .u64 0, .int .u64 0, .int .u64 0, .int .u64 0]) rfl rfl rfl rfl (fun _ => by kernel_rfl) rfl fun ac hs => ?_))
      refine lstep (wpO_in hs rfl rfl rfl (op_bin hs none (v := .bool true) rfl rfl rfl rfl (fun w => run_eqGuard_agg w .eql 24 _ _ _ _ Tryz.eqGuardType24) (eqlW (py P) 0 (py_lt P) (by decide) true (decide_eq_true hq10)) rfl fun ac hs => ?_))
      refine stp (op_pickF hs none rfl rfl rfl rfl rfl fun ac hs => ?_)
      refine wpList_nil (then_n ?_)
      refine wp_cond_true (hs.ev rfl) ?_
      refine wp_seq ?_
      replace hs := hs.n0 [2, 3, 4, 5, 6] rfl rfl
      refine wp_region_lit ?_
      refine stp (op_build hs none (qs := [(2, .bool true)]) (v := PV 0 0 true) rfl rfl rfl rfl (fun _ => by kernel_rfl) rfl fun ac hs => ?_)
      refine stp (stoo hs 2 ((PVl 0 0 true)) sizeOf42 rfl rfl rfl rfl rfl rfl rfl rfl rfl rfl fun w hs => ?_)
      refine wpList_nil (then_n (wp_ret (then_r (then_r ?_))))
      exact bodyPost_ret (res1 rfl (rv_c hs 2 (v := PV 0 0 true) rfl rfl isAgg42 sizeOf42 rfl)) hs.defers ⟨by rw [← hT, rsum_O hzP hzQ hp8 (.inr hq10)]; first | done | rfl, (hs.bel rfl)⟩
     ·skip
      refine wp_region_lit ?_
      refine stp (op_fieldA hs none rfl rfl rfl underlying42 rfl sizeOf24 (by decide) rfl fun ac hs => ?_)
      refine ldd hs 0 (W (py P)) isAgg24 sizeOf24 rfl rfl rfl rfl rfl fun ac hs => ?_
      refine stp (op_fieldA hs none rfl rfl rfl underlying42 rfl sizeOf24 (by decide) rfl fun ac hs => ?_)
      refine ldd hs 1 (W (py Q)) isAgg24 sizeOf24 rfl rfl rfl rfl rfl fun ac hs => ?_
      refine stp (op_bin hs none (v := .bool false) rfl rfl rfl rfl (fun w => run_eqGuard_agg w .neq 24 _ _ _ _ Tryz.eqGuardType24) (neqW (py P) (py Q) (py_lt P) (py_lt Q) false (decide_eq_false (not_not_intro hq9))) rfl fun ac hs => ?_)
      refine mvv hs rfl rfl rfl fun ac hs => ?_
      refine lstep (wpO_in hs rfl rfl rfl (op_fieldA hs none rfl rfl rfl underlying42 rfl sizeOf24 (by decide) rfl fun ac hs => ?_))
      refine lstep (wpO_in hs rfl rfl rfl (op_load hs none 0 (v := W (py P)) rfl rfl rfl rfl isAgg24 sizeOf24 rfl rfl fun ac hs => ?_))
      refine lstep (wpO_in hs rfl rfl rfl (op_build hs none (qs := []) (v := .agg #[.int .u64 0, .int .u64 0, .int .u64 0, .int .u64 0]) rfl rfl rfl rfl (fun _ => by kernel_rfl) rfl fun ac hs => ?_))
      refine lstep (wpO_in hs rfl rfl rfl (op_bin hs none (v := .bool false) rfl rfl rfl rfl (fun w => run_eqGuard_agg w .eql 24 _ _ _ _ Tryz.eqGuardType24) (eqlW (py P) 0 (py_lt P) (by decide) false (decide_eq_false hq10)) rfl fun ac hs => ?_))
      refine stp (op_pickF hs none rfl rfl rfl rfl rfl fun ac hs => ?_)
      refine wpList_nil (then_n ?_)
      refine wp_cond_false (hs.ev rfl) ?_
      refine wp_skip (then_n (wp_seq ?_))
      replace hs := hs.n0 [2, 3, 4, 5, 6] rfl rfl
      refine wp_region_lit ?_
      refine stp (op_build hs none (qs := [(0, .int .u64 3)]) (v := .agg #[.int .u64 3, .int .u64 0, .int .u64 0, .int .u64 0]) rfl rfl rfl rfl (fun _ => by kernel_rfl) rfl fun ac hs => ?_)
      refine stp (op_fieldA hs none rfl rfl rfl underlying42 rfl sizeOf24 (by decide) rfl fun ac hs => ?_)
      refine ldd hs 0 (W (px P)) isAgg24 sizeOf24 rfl rfl rfl rfl rfl fun ac hs => ?_
      refine stp (op_fieldA hs none rfl rfl rfl underlying42 rfl sizeOf24 (by decide) rfl fun ac hs => ?_)
      refine ldd hs 0 (W (px P)) isAgg24 sizeOf24 rfl rfl rfl rfl rfl fun ac hs => ?_
      obtain ⟨r11, hr11, lr11⟩ : ∃ z0, (px P) * (px P) % Pf = z0 ∧ z0 < 2 ^ 256 := ⟨_, rfl, modP_lt _⟩
      refine stp (op_call (F := 89) hs none (v := W r11) rfl rfl rfl rfl (call89 _) (rfmul_c (px P) (px P) r11 (px_lt P) (px_lt P) hr11) rfl fun ac w hs => ?_)
      obtain ⟨r12, hr12, lr12⟩ : ∃ z0, 3 * r11 % Pf = z0 ∧ z0 < 2 ^ 256 := ⟨_, rfl, modP_lt _⟩
      refine stp (op_call (F := 89) hs none (v := W r12) rfl rfl rfl rfl (call89 _) (rfmul_c 3 r11 r12 (by decide) lr11 hr12) rfl fun ac w hs => ?_)
      refine stp (stoo hs 3 ((Wl r12)) sizeOf24 rfl rfl rfl rfl rfl rfl rfl rfl rfl rfl fun w hs => ?_)
      refine wpList_nil (then_n ?_)
      replace hs := hs.n0 [2, 3, 4, 5, 6] rfl rfl
      refine wp_region_lit ?_
      refine stp (op_fieldA hs none rfl rfl rfl underlying42 rfl sizeOf24 (by decide) rfl fun ac hs => ?_)
      refine ldd hs 0 (W (py P)) isAgg24 sizeOf24 rfl rfl rfl rfl rfl fun ac hs => ?_
      refine stp (op_fieldA hs none rfl rfl rfl underlying42 rfl sizeOf24 (by decide) rfl fun ac hs => ?_)
      refine ldd hs 0 (W (py P)) isAgg24 sizeOf24 rfl rfl rfl rfl rfl fun ac hs => ?_
      obtain ⟨r13, hr13, lr13⟩ : ∃ z0, ((py P) + (py P)) % Pf = z0 ∧ z0 < 2 ^ 256 := ⟨_, rfl, modP_lt _⟩
      refine stp (op_call (F := 122) hs none (v := W r13) rfl rfl rfl rfl (call122 _) (rfadd_c (py P) (py P) r13 (py_lt P) (py_lt P) hr13) rfl fun ac w hs => ?_)
      refine stp (stoo hs 4 ((Wl r13)) sizeOf24 rfl rfl rfl rfl rfl rfl rfl rfl rfl rfl fun w hs => ?_)
      refine wpList_nil (then_n (wp_seq ?_))
      replace hs := hs.n0 [2, 3, 4, 5, 6] rfl rfl
      obtain ⟨r14, hr14, lr14⟩ : ∃ z0, pinv Pf r13 = z0 ∧ z0 < 2 ^ 256 := ⟨_, rfl, modP_lt _⟩
      obtain ⟨r15, hr15, lr15⟩ : ∃ z0, r12 * r14 % Pf = z0 ∧ z0 < 2 ^ 256 := ⟨_, rfl, modP_lt _⟩
      refine region_inv [([], [3, 5]), ([], [2, 3, 5]), ([1], [3, 5]), ([0, 1, 2], [5]), ([], [5]), (rgn 0 5, [])] (fun L ac w => ∃ (g16 : Nat), St 80 w0 [(55, L 0, W r12), (56, L 1, W r13), (57, L 2, W r14), (58, L 3, W r15), (7, L 4, ptA g16 0), (2, true, ptA g1 0), (3, true, ptA g2 0), (4, true, ptA g3 0), (5, true, ptA g6 0), (6, true, ptA g7 0)] [(true, g1, 42, (PVl (px P) (py P) (pz P))), (true, g2, 42, (PVl (px Q) (py Q) (pz Q))), (true, g3, 42, (PVl 0 0 false)), (true, g6, 24, (Wl r12)), (true, g7, 24, (Wl r13)), (L 4, g16, 24, (cond (L 5) (Wl r15) [.int .u64 0, .int .u64 0, .int .u64 0, .int .u64 0]))] ac w) (by kernel_rfl) (by kernel_rfl) ?_ ?_ ?_
      ·exact ⟨0, hs.drew.skip.skip.skip.skip.skip.pad⟩
      ·refine ⟨?_, ?_, ?_, ?_, ?_, ?_, trivial⟩
       ·exact fun L ac w ⟨g16, hs⟩ => pln (oldd hs 0 3 (W r12) isAgg24 sizeOf24 rfl rfl rfl rfl rfl fun ac hs => ⟨g16, hs⟩)
       ·exact fun L ac w ⟨g16, hs⟩ => pln (oldd hs 1 4 (W r13) isAgg24 sizeOf24 rfl rfl rfl rfl rfl fun ac hs => ⟨g16, hs⟩)
       ·exact fun L ac w ⟨g16, hs⟩ => pln (op_call (F := 88) hs (some 2) (v := W r14) rfl rfl rfl rfl (call88 _) (rfinv_c r13 r14 lr13 hr14) rfl fun ac w hs => ⟨g16, hs⟩)
       ·exact fun L ac w ⟨g16, hs⟩ => pln (op_call (F := 89) hs (some 3) (v := W r15) rfl rfl rfl rfl (call89 _) (rfmul_c r12 r14 r15 lr12 lr14 hr15) rfl fun ac w hs => ⟨g16, hs⟩)
       ·exact fun L ac w ⟨g16, hs⟩ => pln (op_alloc hs (some 4) (some 5) (cs := [.int .u64 0, .int .u64 0, .int .u64 0, .int .u64 0]) rfl rfl zeroValue24 (by kernel_rfl) rfl rfl fun g16 ac w hs => ⟨g16, hs⟩)
       ·exact fun L ac w ⟨g16, hs⟩ => pln (stoo hs 5 ((Wl r15)) sizeOf24 rfl rfl rfl rfl rfl rfl rfl rfl rfl rfl fun w hs => ⟨g16, hs⟩)
      intro ac w ⟨g16, hs⟩
      try dsimp only [cond_true] at hs
      refine then_n (wp_seq ?_)
      replace hs := hs.n0 [2, 3, 4, 7] rfl rfl
      obtain ⟨r17, hr17, lr17⟩ : ∃ z0, r15 * r15 % Pf = z0 ∧ z0 < 2 ^ 256 := ⟨_, rfl, modP_lt _⟩
      obtain ⟨r18, hr18, lr18⟩ : ∃ z0, fsub r17 (px P) = z0 ∧ z0 < 2 ^ 256 := ⟨_, rfl, fsub_lt _ _⟩
      obtain ⟨r19, hr19, lr19⟩ : ∃ z0, fsub r18 (px Q) = z0 ∧ z0 < 2 ^ 256 := ⟨_, rfl, fsub_lt _ _⟩
      refine region_inv [([], [2, 5, 8, 10]), ([], [2, 5, 8, 10]), ([0, 1], [5, 8, 10]), ([], [4, 5, 8, 10]), ([3], [5, 8, 10]), (rgn 0 5, [8, 10]), ([], [7, 8, 10]), ([6], [8, 10]), (rgn 0 8, [10]), ([], [10]), (rgn 0 10, [])] (fun L ac w => ∃ (g20 : Nat), St 80 w0 [(59, L 0, W r15), (60, L 1, W r15), (61, L 2, W r17), (62, L 3, ptA g1 0), (63, L 4, W (px P)), (64, L 5, W r18), (65, L 6, ptA g2 0), (66, L 7, W (px Q)), (67, L 8, W r19), (8, L 9, ptA g20 0), (2, true, ptA g1 0), (3, true, ptA g2 0), (4, true, ptA g3 0), (7, true, ptA g16 0)] [(true, g1, 42, (PVl (px P) (py P) (pz P))), (true, g2, 42, (PVl (px Q) (py Q) (pz Q))), (true, g3, 42, (PVl 0 0 false)), (true, g6, 24, (Wl r12)), (true, g7, 24, (Wl r13)), (true, g16, 24, (Wl r15)), (L 9, g20, 24, (cond (L 10) (Wl r19) [.int .u64 0, .int .u64 0, .int .u64 0, .int .u64 0]))] ac w) (by kernel_rfl) (by kernel_rfl) ?_ ?_ ?_
      ·exact ⟨0, hs.drew.skip.skip.skip.skip.skip.skip.skip.skip.skip.skip.pad⟩
      ·refine ⟨?_, ?_, ?_, ?_, ?_, ?_, ?_, ?_, ?_, ?_, ?_, trivial⟩
       ·exact fun L ac w ⟨g20, hs⟩ => pln (oldd hs 0 5 (W r15) isAgg24 sizeOf24 rfl rfl rfl rfl rfl fun ac hs => ⟨g20, hs⟩)
       ·exact fun L ac w ⟨g20, hs⟩ => pln (oldd hs 1 5 (W r15) isAgg24 sizeOf24 rfl rfl rfl rfl rfl fun ac hs => ⟨g20, hs⟩)
       ·exact fun L ac w ⟨g20, hs⟩ => pln (op_call (F := 89) hs (some 2) (v := W r17) rfl rfl rfl rfl (call89 _) (rfmul_c r15 r15 r17 lr15 lr15 hr17) rfl fun ac w hs => ⟨g20, hs⟩)
       ·exact fun L ac w ⟨g20, hs⟩ => pln (op_fieldA hs (some 3) rfl rfl rfl underlying42 rfl sizeOf24 (by decide) rfl fun ac hs => ⟨g20, hs⟩)
       ·exact fun L ac w ⟨g20, hs⟩ => pln (oldd hs 4 0 (W (px P)) isAgg24 sizeOf24 rfl rfl rfl rfl rfl fun ac hs => ⟨g20, hs⟩)
       ·exact fun L ac w ⟨g20, hs⟩ => pln (op_call (F := 124) hs (some 5) (v := W r18) rfl rfl rfl rfl (call124 _) (rfsub_c r17 (px P) r18 lr17 (px_lt P) hr18) rfl fun ac w hs => ⟨g20, hs⟩)
       ·exact fun L ac w ⟨g20, hs⟩ => pln (op_fieldA hs (some 6) rfl rfl rfl underlying42 rfl sizeOf24 (by decide) rfl fun ac hs => ⟨g20, hs⟩)
       ·exact fun L ac w ⟨g20, hs⟩ => pln (oldd hs 7 1 (W (px Q)) isAgg24 sizeOf24 rfl rfl rfl rfl rfl fun ac hs => ⟨g20, hs⟩)
       ·exact fun L ac w ⟨g20, hs⟩ => pln (op_call (F := 124) hs (some 8) (v := W r19) rfl rfl rfl rfl (call124 _) (rfsub_c r18 (px Q) r19 lr18 (px_lt Q) hr19) rfl fun ac w hs => ⟨g20, hs⟩)
       ·exact fun L ac w ⟨g20, hs⟩ => pln (op_alloc hs (some 9) (some 6) (cs := [.int .u64 0, .int .u64 0, .int .u64 0, .int .u64 0]) rfl rfl zeroValue24 (by kernel_rfl) rfl rfl fun g20 ac w hs => ⟨g20, hs⟩)
       ·exact fun L ac w ⟨g20, hs⟩ => pln (stoo hs 6 ((Wl r19)) sizeOf24 rfl rfl rfl rfl rfl rfl rfl rfl rfl rfl fun w hs => ⟨g20, hs⟩)
      intro ac w ⟨g20, hs⟩
      try dsimp only [cond_true] at hs
      refine then_n (wp_seq ?_)
      replace hs := hs.n0 [2, 4, 7, 8] rfl rfl
      obtain ⟨r21, hr21, lr21⟩ : ∃ z0, fsub (px P) r19 = z0 ∧ z0 < 2 ^ 256 := ⟨_, rfl, fsub_lt _ _⟩
      obtain ⟨r22, hr22, lr22⟩ : ∃ z0, r15 * r21 % Pf = z0 ∧ z0 < 2 ^ 256 := ⟨_, rfl, modP_lt _⟩
      obtain ⟨r23, hr23, lr23⟩ : ∃ z0, fsub r22 (py P) = z0 ∧ z0 < 2 ^ 256 := ⟨_, rfl, fsub_lt _ _⟩
      refine region_inv [([], [5, 8, 10]), ([], [2, 4, 5, 8, 10]), ([1], [4, 5, 8, 10]), ([], [4, 5, 8, 10]), ([1, 2, 3], [5, 8, 10]), (rgn 0 5, [8, 10]), ([], [7, 8, 10]), ([6], [8, 10]), (rgn 0 8, [10]), ([], [10]), (rgn 0 10, [])] (fun L ac w => ∃ (g24 : Nat), St 80 w0 [(68, L 0, W r15), (69, L 1, ptA g1 0), (70, L 2, W (px P)), (71, L 3, W r19), (72, L 4, W r21), (73, L 5, W r22), (74, L 6, ptA g1 4), (75, L 7, W (py P)), (76, L 8, W r23), (9, L 9, ptA g24 0), (2, true, ptA g1 0), (4, true, ptA g3 0), (7, true, ptA g16 0), (8, true, ptA g20 0)] [(true, g1, 42, (PVl (px P) (py P) (pz P))), (true, g2, 42, (PVl (px Q) (py Q) (pz Q))), (true, g3, 42, (PVl 0 0 false)), (true, g6, 24, (Wl r12)), (true, g7, 24, (Wl r13)), (true, g16, 24, (Wl r15)), (true, g20, 24, (Wl r19)), (L 9, g24, 24, (cond (L 10) (Wl r23) [.int .u64 0, .int .u64 0, .int .u64 0, .int .u64 0]))] ac w) (by kernel_rfl) (by kernel_rfl) ?_ ?_ ?_
      ·exact ⟨0, hs.drew.skip.skip.skip.skip.skip.skip.skip.skip.skip.skip.pad⟩
      ·refine ⟨?_, ?_, ?_, ?_, ?_, ?_, ?_, ?_, ?_, ?_, ?_, trivial⟩
       ·exact fun L ac w ⟨g24, hs⟩ => pln (oldd hs 0 5 (W r15) isAgg24 sizeOf24 rfl rfl rfl rfl rfl fun ac hs => ⟨g24, hs⟩)
       ·exact fun L ac w ⟨g24, hs⟩ => pln (op_fieldA hs (some 1) rfl rfl rfl underlying42 rfl sizeOf24 (by decide) rfl fun ac hs => ⟨g24, hs⟩)
       ·exact fun L ac w ⟨g24, hs⟩ => pln (oldd hs 2 0 (W (px P)) isAgg24 sizeOf24 rfl rfl rfl rfl rfl fun ac hs => ⟨g24, hs⟩)
       ·exact fun L ac w ⟨g24, hs⟩ => pln (oldd hs 3 6 (W r19) isAgg24 sizeOf24 rfl rfl rfl rfl rfl fun ac hs => ⟨g24, hs⟩)
       ·exact fun L ac w ⟨g24, hs⟩ => pln (op_call (F := 124) hs (some 4) (v := W r21) rfl rfl rfl rfl (call124 _) (rfsub_c (px P) r19 r21 (px_lt P) lr19 hr21) rfl fun ac w hs => ⟨g24, hs⟩)
       ·exact fun L ac w ⟨g24, hs⟩ => pln (op_call (F := 89) hs (some 5) (v := W r22) rfl rfl rfl rfl (call89 _) (rfmul_c r15 r21 r22 lr15 lr21 hr22) rfl fun ac w hs => ⟨g24, hs⟩)
       ·exact fun L ac w ⟨g24, hs⟩ => pln (op_fieldA hs (some 6) rfl rfl rfl underlying42 rfl sizeOf24 (by decide) rfl fun ac hs => ⟨g24, hs⟩)
       ·exact fun L ac w ⟨g24, hs⟩ => pln (oldd hs 7 0 (W (py P)) isAgg24 sizeOf24 rfl rfl rfl rfl rfl fun ac hs => ⟨g24, hs⟩)
       ·exact fun L ac w ⟨g24, hs⟩ => pln (op_call (F := 124) hs (some 8) (v := W r23) rfl rfl rfl rfl (call124 _) (rfsub_c r22 (py P) r23 lr22 (py_lt P) hr23) rfl fun ac w hs => ⟨g24, hs⟩)
       ·exact fun L ac w ⟨g24, hs⟩ => pln (op_alloc hs (some 9) (some 7) (cs := [.int .u64 0, .int .u64 0, .int .u64 0, .int .u64 0]) rfl rfl zeroValue24 (by kernel_rfl) rfl rfl fun g24 ac w hs => ⟨g24, hs⟩)
       ·exact fun L ac w ⟨g24, hs⟩ => pln (stoo hs 7 ((Wl r23)) sizeOf24 rfl rfl rfl rfl rfl rfl rfl rfl rfl rfl fun w hs => ⟨g24, hs⟩)
      intro ac w ⟨g24, hs⟩
      try dsimp only [cond_true] at hs
      refine then_n (wp_seq (wp_region_lit ?_))
      refine ldd hs 6 (W r19) isAgg24 sizeOf24 rfl rfl rfl rfl rfl fun ac hs => ?_
      refine ldd hs 7 (W r23) isAgg24 sizeOf24 rfl rfl rfl rfl rfl fun ac hs => ?_
      refine stp (op_build hs none (qs := [(0, W r19), (1, W r23)]) (v := PV r19 r23 false) rfl rfl rfl rfl (fun _ => by kernel_rfl) rfl fun ac hs => ?_)
      refine stp (stoo hs 2 ((PVl r19 r23 false)) sizeOf42 rfl rfl rfl rfl rfl rfl rfl rfl rfl rfl fun w hs => ?_)
      refine wpList_nil (then_n (wp_ret ?_))
      exact bodyPost_ret (res1 rfl (rv_c hs 2 (v := PV r19 r23 false) rfl rfl isAgg42 sizeOf42 rfl)) hs.defers ⟨by obtain ⟨e1, e2, e3⟩ := rsum_A hzP hzQ (fun hh => hh.2.elim (fun k => k hq9) (fun k => hq10 k)) (slope_D hp8 hr11 hr12 hr13 hr14 hr15) hr17 hr18 hr19 hr21 hr22 hr23; rw [← hT, e1, e2, e3], (hs.bel rfl)⟩
    ·skip
     refine wp_region_lit ?_
     refine stp (op_fieldA hs none rfl rfl rfl underlying42 rfl sizeOf24 (by decide) rfl fun ac hs => ?_)
     refine ldd hs 0 (W (py P)) isAgg24 sizeOf24 rfl rfl rfl rfl rfl fun ac hs => ?_
     refine stp (op_fieldA hs none rfl rfl rfl underlying42 rfl sizeOf24 (by decide) rfl fun ac hs => ?_)
     refine ldd hs 1 (W (py Q)) isAgg24 sizeOf24 rfl rfl rfl rfl rfl fun ac hs => ?_
     refine stp (op_bin hs none (v := .bool true) rfl rfl rfl rfl (fun w => run_eqGuard_agg w .neq 24 _ _ _ _ Tryz.eqGuardType24) (neqW (py P) (py Q) (py_lt P) (py_lt Q) true (decide_eq_true hq9)) rfl fun ac hs => ?_)
     refine mvv hs rfl rfl rfl fun ac hs => ?_
     refine lstep (wpO_out hs none rfl rfl (.inl rfl) rfl rfl fun ac hs => ?_)
     refine lstep (wpO_out hs none rfl rfl (.inl rfl) rfl rfl fun ac hs => ?_)
     refine lstep (wpO_out hs none rfl rfl (.inl rfl) rfl rfl fun ac hs => ?_)
     refine lstep (wpO_out hs none rfl rfl (.inl rfl) rfl rfl fun ac hs => ?_)
     refine stp (op_pickT hs none rfl rfl rfl rfl rfl fun ac hs => ?_)
     refine wpList_nil (then_n ?_)
     refine wp_cond_true (hs.ev rfl) ?_
     refine wp_seq ?_
     replace hs := hs.n0 [2, 3, 4, 5, 6] rfl rfl
     refine wp_region_lit ?_
     refine stp (op_build hs none (qs := [(2, .bool true)]) (v := PV 0 0 true) rfl rfl rfl rfl (fun _ => by kernel_rfl) rfl fun ac hs => ?_)
     refine stp (stoo hs 2 ((PVl 0 0 true)) sizeOf42 rfl rfl rfl rfl rfl rfl rfl rfl rfl rfl fun w hs => ?_)
     refine wpList_nil (then_n (wp_ret (then_r (then_r ?_))))
     exact bodyPost_ret (res1 rfl (rv_c hs 2 (v := PV 0 0 true) rfl rfl isAgg42 sizeOf42 rfl)) hs.defers ⟨by rw [← hT, rsum_O hzP hzQ hp8 (.inl hq9)]; first | done | rfl, (hs.bel rfl)⟩
   ·skip
    have hp25 := of_decide_eq_false hc
    refine wp_skip (then_n (wp_seq ?_))
    replace hs := hs.n0 [2, 3, 4, 5, 6] rfl rfl
    obtain ⟨r26, hr26, lr26⟩ : ∃ z0, pinv Pf r5 = z0 ∧ z0 < 2 ^ 256 := ⟨_, rfl, modP_lt _⟩
    obtain ⟨r27, hr27, lr27⟩ : ∃ z0, r4 * r26 % Pf = z0 ∧ z0 < 2 ^ 256 := ⟨_, rfl, modP_lt _⟩
    refine region_inv [([], [3, 5]), ([], [2, 3, 5]), ([1], [3, 5]), ([0, 1, 2], [5]), ([], [5]), (rgn 0 5, [])] (fun L ac w => ∃ (g28 : Nat), St 80 w0 [(55, L 0, W r4), (56, L 1, W r5), (57, L 2, W r26), (58, L 3, W r27), (7, L 4, ptA g28 0), (2, true, ptA g1 0), (3, true, ptA g2 0), (4, true, ptA g3 0), (5, true, ptA g6 0), (6, true, ptA g7 0)] [(true, g1, 42, (PVl (px P) (py P) (pz P))), (true, g2, 42, (PVl (px Q) (py Q) (pz Q))), (true, g3, 42, (PVl 0 0 false)), (true, g6, 24, (Wl r4)), (true, g7, 24, (Wl r5)), (L 4, g28, 24, (cond (L 5) (Wl r27) [.int .u64 0, .int .u64 0, .int .u64 0, .int .u64 0]))] ac w) (by kernel_rfl) (by kernel_rfl) ?_ ?_ ?_
    ·exact ⟨0, hs.drew.skip.skip.skip.skip.skip.pad⟩
    ·refine ⟨?_, ?_, ?_, ?_, ?_, ?_, trivial⟩
     ·exact fun L ac w ⟨g28, hs⟩ => pln (oldd hs 0 3 (W r4) isAgg24 sizeOf24 rfl rfl rfl rfl rfl fun ac hs => ⟨g28, hs⟩)
     ·exact fun L ac w ⟨g28, hs⟩ => pln (oldd hs 1 4 (W r5) isAgg24 sizeOf24 rfl rfl rfl rfl rfl fun ac hs => ⟨g28, hs⟩)
     ·exact fun L ac w ⟨g28, hs⟩ => pln (op_call (F := 88) hs (some 2) (v := W r26) rfl rfl rfl rfl (call88 _) (rfinv_c r5 r26 lr5 hr26) rfl fun ac w hs => ⟨g28, hs⟩)
     ·exact fun L ac w ⟨g28, hs⟩ => pln (op_call (F := 89) hs (some 3) (v := W r27) rfl rfl rfl rfl (call89 _) (rfmul_c r4 r26 r27 lr4 lr26 hr27) rfl fun ac w hs => ⟨g28, hs⟩)
     ·exact fun L ac w ⟨g28, hs⟩ => pln (op_alloc hs (some 4) (some 5) (cs := [.int .u64 0, .int .u64 0, .int .u64 0, .int .u64 0]) rfl rfl zeroValue24 (by kernel_rfl) rfl rfl fun g28 ac w hs => ⟨g28, hs⟩)
     ·exact fun L ac w ⟨g28, hs⟩ => pln (stoo hs 5 ((Wl r27)) sizeOf24 rfl rfl rfl rfl rfl rfl rfl rfl rfl rfl fun w hs => ⟨g28, hs⟩)
    intro ac w ⟨g28, hs⟩
    try dsimp only [cond_true] at hs
    refine then_n (wp_seq ?_)
    replace hs := hs.n0 [2, 3, 4, 7] rfl rfl
    obtain ⟨r29, hr29, lr29⟩ : ∃ z0, r27 * r27 % Pf = z0 ∧ z0 < 2 ^ 256 := ⟨_, rfl, modP_lt _⟩
    obtain ⟨r30, hr30, lr30⟩ : ∃ z0, fsub r29 (px P) = z0 ∧ z0 < 2 ^ 256 := ⟨_, rfl, fsub_lt _ _⟩
    obtain ⟨r31, hr31, lr31⟩ : ∃ z0, fsub r30 (px Q) = z0 ∧ z0 < 2 ^ 256 := ⟨_, rfl, fsub_lt _ _⟩
    refine region_inv [([], [2, 5, 8, 10]), ([], [2, 5, 8, 10]), ([0, 1], [5, 8, 10]), ([], [4, 5, 8, 10]), ([3], [5, 8, 10]), (rgn 0 5, [8, 10]), ([], [7, 8, 10]), ([6], [8, 10]), (rgn 0 8, [10]), ([], [10]), (rgn 0 10, [])] (fun L ac w => ∃ (g32 : Nat), St 80 w0 [(59, L 0, W r27), (60, L 1, W r27), (61, L 2, W r29), (62, L 3, ptA g1 0), (63, L 4, W (px P)), (64, L 5, W r30), (65, L 6, ptA g2 0), (66, L 7, W (px Q)), (67, L 8, W r31), (8, L 9, ptA g32 0), (2, true, ptA g1 0), (3, true, ptA g2 0), (4, true, ptA g3 0), (7, true, ptA g28 0)] [(true, g1, 42, (PVl (px P) (py P) (pz P))), (true, g2, 42, (PVl (px Q) (py Q) (pz Q))), (true, g3, 42, (PVl 0 0 false)), (true, g6, 24, (Wl r4)), (true, g7, 24, (Wl r5)), (true, g28, 24, (Wl r27)), (L 9, g32, 24, (cond (L 10) (Wl r31) [.int .u64 0, .int .u64 0, .int .u64 0, .int .u64 0]))] ac w) (by kernel_rfl) (by kernel_rfl) ?_ ?_ ?_
    ·exact ⟨0, hs.drew.skip.skip.skip.skip.skip.skip.skip.skip.skip.skip.pad⟩
    ·refine ⟨?_, ?_, ?_, ?_, ?_, ?_, ?_, ?_, ?_, ?_, ?_, trivial⟩
     ·exact fun L ac w ⟨g32, hs⟩ => pln (oldd hs 0 5 (W r27) isAgg24 sizeOf24 rfl rfl rfl rfl rfl fun ac hs => ⟨g32, hs⟩)
     ·exact fun L ac w ⟨g32, hs⟩ => pln (oldd hs 1 5 (W r27) isAgg24 sizeOf24 rfl rfl rfl rfl rfl fun ac hs => ⟨g32, hs⟩)
     ·exact fun L ac w ⟨g32, hs⟩ => pln (op_call (F := 89) hs (some 2) (v := W r29) rfl rfl rfl rfl (call89 _) (rfmul_c r27 r27 r29 lr27 lr27 hr29) rfl fun ac w hs => ⟨g32, hs⟩)
     ·exact fun L ac w ⟨g32, hs⟩ => pln (op_fieldA hs (some 3) rfl rfl rfl underlying42 rfl sizeOf24 (by decide) rfl fun ac hs => ⟨g32, hs⟩)
     ·exact fun L ac w ⟨g32, hs⟩ => pln (oldd hs 4 0 (W (px P)) isAgg24 sizeOf24 rfl rfl rfl rfl rfl fun ac hs => ⟨g32, hs⟩)
     ·exact fun L ac w ⟨g32, hs⟩ => pln (op_call (F := 124) hs (some 5) (v := W r30) rfl rfl rfl rfl (call124 _) (rfsub_c r29 (px P) r30 lr29 (px_lt P) hr30) rfl fun ac w hs => ⟨g32, hs⟩)
     ·exact fun L ac w ⟨g32, hs⟩ => pln (op_fieldA hs (some 6) rfl rfl rfl underlying42 rfl sizeOf24 (by decide) rfl fun ac hs => ⟨g32, hs⟩)
     ·exact fun L ac w ⟨g32, hs⟩ => pln (oldd hs 7 1 (W (px Q)) isAgg24 sizeOf24 rfl rfl rfl rfl rfl fun ac hs => ⟨g32, hs⟩)
     ·exact fun L ac w ⟨g32, hs⟩ => pln (op_call (F := 124) hs (some 8) (v := W r31) rfl rfl rfl rfl (call124 _) (rfsub_c r30 (px Q) r31 lr30 (px_lt Q) hr31) rfl fun ac w hs => ⟨g32, hs⟩)
     ·exact fun L ac w ⟨g32, hs⟩ => pln (op_alloc hs (some 9) (some 6) (cs := [.int .u64 0, .int .u64 0, .int .u64 0, .int .u64 0]) rfl rfl zeroValue24 (by kernel_rfl) rfl rfl fun g32 ac w hs => ⟨g32, hs⟩)
     ·exact fun L ac w ⟨g32, hs⟩ => pln (stoo hs 6 ((Wl r31)) sizeOf24 rfl rfl rfl rfl rfl rfl rfl rfl rfl rfl fun w hs => ⟨g32, hs⟩)
    intro ac w ⟨g32, hs⟩
    try dsimp only [cond_true] at hs
    refine then_n (wp_seq ?_)
    replace hs := hs.n0 [2, 4, 7, 8] rfl rfl
    obtain ⟨r33, hr33, lr33⟩ : ∃ z0, fsub (px P) r31 = z0 ∧ z0 < 2 ^ 256 := ⟨_, rfl, fsub_lt _ _⟩
    obtain ⟨r34, hr34, lr34⟩ : ∃ z0, r27 * r33 % Pf = z0 ∧ z0 < 2 ^ 256 := ⟨_, rfl, modP_lt _⟩
    obtain ⟨r35, hr35, lr35⟩ : ∃ z0, fsub r34 (py P) = z0 ∧ z0 < 2 ^ 256 := ⟨_, rfl, fsub_lt _ _⟩
    refine region_inv [([], [5, 8, 10]), ([], [2, 4, 5, 8, 10]), ([1], [4, 5, 8, 10]), ([], [4, 5, 8, 10]), ([1, 2, 3], [5, 8, 10]), (rgn 0 5, [8, 10]), ([], [7, 8, 10]), ([6], [8, 10]), (rgn 0 8, [10]), ([], [10]), (rgn 0 10, [])] (fun L ac w => ∃ (g36 : Nat), St 80 w0 [(68, L 0, W r27), (69, L 1, ptA g1 0), (70, L 2, W (px P)), (71, L 3, W r31), (72, L 4, W r33), (73, L 5, W r34), (74, L 6, ptA g1 4), (75, L 7, W (py P)), (76, L 8, W r35), (9, L 9, ptA g36 0), (2, true, ptA g1 0), (4, true, ptA g3 0), (7, true, ptA g28 0), (8, true, ptA g32 0)] [(true, g1, 42, (PVl (px P) (py P) (pz P))), (true, g2, 42, (PVl (px Q) (py Q) (pz Q))), (true, g3, 42, (PVl 0 0 false)), (true, g6, 24, (Wl r4)), (true, g7, 24, (Wl r5)), (true, g28, 24, (Wl r27)), (true, g32, 24, (Wl r31)), (L 9, g36, 24, (cond (L 10) (Wl r35) [.int .u64 0, .int .u64 0, .int .u64 0, .int .u64 0]))] ac w) (by kernel_rfl) (by kernel_rfl) ?_ ?_ ?_
    ·exact ⟨0, hs.drew.skip.skip.skip.skip.skip.skip.skip.skip.skip.skip.pad⟩
    ·refine ⟨?_, ?_, ?_, ?_, ?_, ?_, ?_, ?_, ?_, ?_, ?_, trivial⟩
     ·exact fun L ac w ⟨g36, hs⟩ => pln (oldd hs 0 5 (W r27) isAgg24 sizeOf24 rfl rfl rfl rfl rfl fun ac hs => ⟨g36, hs⟩)
     ·exact fun L ac w ⟨g36, hs⟩ => pln (op_fieldA hs (some 1) rfl rfl rfl underlying42 rfl sizeOf24 (by decide) rfl fun ac hs => ⟨g36, hs⟩)
     ·exact fun L ac w ⟨g36, hs⟩ => pln (oldd hs 2 0 (W (px P)) isAgg24 sizeOf24 rfl rfl rfl rfl rfl fun ac hs => ⟨g36, hs⟩)
     ·exact fun L ac w ⟨g36, hs⟩ => pln (oldd hs 3 6 (W r31) isAgg24 sizeOf24 rfl rfl rfl rfl rfl fun ac hs => ⟨g36, hs⟩)
     ·exact fun L ac w ⟨g36, hs⟩ => pln (op_call (F := 124) hs (some 4) (v := W r33) rfl rfl rfl rfl (call124 _) (rfsub_c (px P) r31 r33 (px_lt P) lr31 hr33) rfl fun ac w hs => ⟨g36, hs⟩)
     ·exact fun L ac w ⟨g36, hs⟩ => pln (op_call (F := 89) hs (some 5) (v := W r34) rfl rfl rfl rfl (call89 _) (rfmul_c r27 r33 r34 lr27 lr33 hr34) rfl fun ac w hs => ⟨g36, hs⟩)
     ·exact fun L ac w ⟨g36, hs⟩ => pln (op_fieldA hs (some 6) rfl rfl rfl underlying42 rfl sizeOf24 (by decide) rfl fun ac hs => ⟨g36, hs⟩)
     ·exact fun L ac w ⟨g36, hs⟩ => pln (oldd hs 7 0 (W (py P)) isAgg24 sizeOf24 rfl rfl rfl rfl rfl fun ac hs => ⟨g36, hs⟩)
     ·exact fun L ac w ⟨g36, hs⟩ => pln (op_call (F := 124) hs (some 8) (v := W r35) rfl rfl rfl rfl (call124 _) (rfsub_c r34 (py P) r35 lr34 (py_lt P) hr35) rfl fun ac w hs => ⟨g36, hs⟩)
     ·exact fun L ac w ⟨g36, hs⟩ => pln (op_alloc hs (some 9) (some 7) (cs := [.int .u64 0, .int .u64 0, .int .u64 0, .int .u64 0]) rfl rfl zeroValue24 (by kernel_rfl) rfl rfl fun g36 ac w hs => ⟨g36, hs⟩)
     ·exact fun L ac w ⟨g36, hs⟩ => pln (stoo hs 7 ((Wl r35)) sizeOf24 rfl rfl rfl rfl rfl rfl rfl rfl rfl rfl fun w hs => ⟨g36, hs⟩)
    intro ac w ⟨g36, hs⟩
    try dsimp only [cond_true] at hs
    refine then_n (wp_seq (wp_region_lit ?_))
    refine ldd hs 6 (W r31) isAgg24 sizeOf24 rfl rfl rfl rfl rfl fun ac hs => ?_
    refine ldd hs 7 (W r35) isAgg24 sizeOf24 rfl rfl rfl rfl rfl fun ac hs => ?_
    refine stp (op_build hs none (qs := [(0, W r31), (1, W r35)]) (v := PV r31 r35 false) rfl rfl rfl rfl (fun _ => by kernel_rfl) rfl fun ac hs => ?_)
    refine stp (stoo hs 2 ((PVl r31 r35 false)) sizeOf42 rfl rfl rfl rfl rfl rfl rfl rfl rfl rfl fun w hs => ?_)
    refine wpList_nil (then_n (wp_ret ?_))
    exact bodyPost_ret (res1 rfl (rv_c hs 2 (v := PV r31 r35 false) rfl rfl isAgg42 sizeOf42 rfl)) hs.defers ⟨by obtain ⟨e1, e2, e3⟩ := rsum_A hzP hzQ (fun hh => hp25 hh.1) (slope_S hp25 hr4 hr5 hr26 hr27) hr29 hr30 hr31 hr33 hr34 hr35; rw [← hT, e1, e2, e3], (hs.bel rfl)⟩
theorem radd14_c (x1 y1 : Nat) (z1 : Bool) (x2 y2 : Nat) (z2 : Bool) (P Q T : EM.Pt Pf) (a1 : x1 < 2 ^ 256) (a2 : y1 < 2 ^ 256) (b1 : x2 < 2 ^ 256) (b2 : y2 < 2 ^ 256) (hP : ptOf x1 y1 z1 = P) (hQ : ptOf x2 y2 z2 = Q) (hT : P.add Q = T) (w0 : World) : Calls prog 41 #[PV x1 y1 z1, PV x2 y2 z2] w0 fun e w' => e = .returned (PV (px T) (py T) (pz T)) ∧ Below w0.heap.size w0 w' := by
 have oP : P.on := by rw [← hP]; exact pt_on x1 y1 z1
 have oQ : Q.on := by rw [← hQ]; exact pt_on x2 y2 z2
 refine enter (n := 10) (args := [PV x1 y1 z1, PV x2 y2 z2]) func41 rfl rfl (Nat.le_of_ble_eq_true rfl) fun ac hs => ?_
 refine wp_seq (wp_region_lit ?_)
 refine stp (op_box hs none none (cs := (PVl x1 y1 z1)) rfl rfl rfl rfl rfl rfl fun g1 ac w hs => ?_)
 refine stp (op_box hs none none (cs := (PVl x2 y2 z2)) rfl rfl rfl rfl rfl rfl fun g2 ac w hs => ?_)
 refine stp (op_alloc hs none none (cs := (PVl 0 0 false)) rfl rfl zeroValue42 (by kernel_rfl) rfl rfl fun g3 ac w hs => ?_)
 refine wpList_nil (then_n (wp_seq ?_))
 replace hs := hs.n0 [2, 3, 4] rfl rfl
 obtain ⟨T4, hT4, oT4⟩ := mkAdd oP oQ
 refine region_inv [([], [1, 3, 4, 5]), ([0], [3, 4, 5]), ([], [3, 4, 5]), ([0, 1, 2], [4, 5]), (rgn 0 4, [5]), (rgn 0 5, [])] (fun L ac w => St 10 w0 [(5, L 0, PV x1 y1 z1), (6, L 1, PV (px P) (py P) (pz P)), (7, L 2, PV x2 y2 z2), (8, L 3, PV (px Q) (py Q) (pz Q)), (9, L 4, PV (px T4) (py T4) (pz T4)), (2, true, ptA g1 0), (3, true, ptA g2 0), (4, true, ptA g3 0)] [(true, g1, 42, (PVl x1 y1 z1)), (true, g2, 42, (PVl x2 y2 z2)), (true, g3, 42, (cond (L 5) (PVl (px T4) (py T4) (pz T4)) (PVl 0 0 false)))] ac w) (by kernel_rfl) (by kernel_rfl) ?_ ?_ ?_
 ·exact hs.drew.skip.skip.skip.skip.skip
 ·refine ⟨?_, ?_, ?_, ?_, ?_, ?_, trivial⟩
  ·exact fun L ac w hs => pln (oldd hs 0 0 (PV x1 y1 z1) isAgg42 sizeOf42 rfl rfl rfl rfl rfl fun ac hs => hs)
  ·exact fun L ac w hs => pln (op_call (F := 83) hs (some 1) (v := PV (px P) (py P) (pz P)) rfl rfl rfl rfl (call83 _) (own_c x1 y1 z1 P a1 a2 hP) rfl fun ac w hs => hs)
  ·exact fun L ac w hs => pln (oldd hs 2 1 (PV x2 y2 z2) isAgg42 sizeOf42 rfl rfl rfl rfl rfl fun ac hs => hs)
  ·exact fun L ac w hs => pln (op_call (F := 83) hs (some 3) (v := PV (px Q) (py Q) (pz Q)) rfl rfl rfl rfl (call83 _) (own_c x2 y2 z2 Q b1 b2 hQ) rfl fun ac w hs => hs)
  ·exact fun L ac w hs => pln (op_call (F := 91) hs (some 4) (v := PV (px T4) (py T4) (pz T4)) rfl rfl rfl rfl (call91 _) (rsum_c P Q T4 oP oQ hT4) rfl fun ac w hs => hs)
  ·exact fun L ac w hs => pln (stoo hs 2 ((PVl (px T4) (py T4) (pz T4))) sizeOf42 rfl rfl rfl rfl rfl rfl rfl rfl rfl rfl fun w hs => hs)
 intro ac w hs
 try dsimp only [cond_true] at hs
 refine then_n (wp_ret ?_)
 exact bodyPost_ret (res1 rfl (rv_c hs 2 (v := PV (px T4) (py T4) (pz T4)) rfl rfl isAgg42 sizeOf42 rfl)) hs.defers ⟨by rw [← hT, ← hT4], (hs.bel rfl)⟩
theorem rtwice14_c (x y z X Y Z : Nat) (hx : x < 2 ^ 256) (hy : y < 2 ^ 256) (hz : z < 2 ^ 256) (hE : tF x y z = (X, Y, Z)) (w0 : World) : Calls prog 85 #[TV x y z] w0 fun e w' => e = .returned (TV X Y Z) ∧ Below w0.heap.size w0 w' := by
 refine enter (n := 70) (args := [TV x y z]) func85 rfl rfl (Nat.le_of_ble_eq_true rfl) fun ac hs => ?_
 refine wp_seq (wp_region_lit ?_)
 refine stp (op_box hs none none (cs := (TVl x y z)) rfl rfl rfl rfl rfl rfl fun g1 ac w hs => ?_)
 refine stp (op_alloc hs none none (cs := (TVl 0 0 0)) rfl rfl zeroValue86 (by kernel_rfl) rfl rfl fun g2 ac w hs => ?_)
 refine wpList_nil (then_n (wp_seq (wp_region_lit ?_)))
 refine stp (op_build hs none (qs := [(0, .int .u64 3)]) (v := .agg #[.int .u64 3, .int .u64 0, .int .u64 0, .int .u64 0]) rfl rfl rfl rfl (fun _ => by kernel_rfl) rfl fun ac hs => ?_)
 refine stp (op_fieldA hs none rfl rfl rfl underlying86 rfl sizeOf24 (by decide) rfl fun ac hs => ?_)
 refine ldd hs 0 (W x) isAgg24 sizeOf24 rfl rfl rfl rfl rfl fun ac hs => ?_
 refine stp (op_fieldA hs none rfl rfl rfl underlying86 rfl sizeOf24 (by decide) rfl fun ac hs => ?_)
 refine ldd hs 0 (W x) isAgg24 sizeOf24 rfl rfl rfl rfl rfl fun ac hs => ?_
 obtain ⟨r3, hr3, lr3⟩ : ∃ z0, x * x % Pf = z0 ∧ z0 < 2 ^ 256 := ⟨_, rfl, modP_lt _⟩
 refine stp (op_call (F := 89) hs none (v := W r3) rfl rfl rfl rfl (call89 _) (rfmul_c x x r3 hx hx hr3) rfl fun ac w hs => ?_)
 obtain ⟨r4, hr4, lr4⟩ : ∃ z0, 3 * r3 % Pf = z0 ∧ z0 < 2 ^ 256 := ⟨_, rfl, modP_lt _⟩
 refine stp (op_call (F := 89) hs none (v := W r4) rfl rfl rfl rfl (call89 _) (rfmul_c 3 r3 r4 (by decide) lr3 hr4) rfl fun ac w hs => ?_)
 refine stp (op_alloc hs none none (cs := [.int .u64 0, .int .u64 0, .int .u64 0, .int .u64 0]) rfl rfl zeroValue24 (by kernel_rfl) rfl rfl fun g5 ac w hs => ?_)
 refine stp (stoo hs 2 ((Wl r4)) sizeOf24 rfl rfl rfl rfl rfl rfl rfl rfl rfl rfl fun w hs => ?_)
 refine wpList_nil (then_n (wp_seq ?_))
 replace hs := hs.n0 [1, 2, 3] rfl rfl
 refine wp_region_lit ?_
 refine stp (op_fieldA hs none rfl rfl rfl underlying86 rfl sizeOf24 (by decide) rfl fun ac hs => ?_)
 refine ldd hs 0 (W y) isAgg24 sizeOf24 rfl rfl rfl rfl rfl fun ac hs => ?_
 refine stp (op_fieldA hs none rfl rfl rfl underlying86 rfl sizeOf24 (by decide) rfl fun ac hs => ?_)
 refine ldd hs 0 (W z) isAgg24 sizeOf24 rfl rfl rfl rfl rfl fun ac hs => ?_
 obtain ⟨r6, hr6, lr6⟩ : ∃ z0, y * z % Pf = z0 ∧ z0 < 2 ^ 256 := ⟨_, rfl, modP_lt _⟩
 refine stp (op_call (F := 89) hs none (v := W r6) rfl rfl rfl rfl (call89 _) (rfmul_c y z r6 hy hz hr6) rfl fun ac w hs => ?_)
 refine stp (op_alloc hs none none (cs := [.int .u64 0, .int .u64 0, .int .u64 0, .int .u64 0]) rfl rfl zeroValue24 (by kernel_rfl) rfl rfl fun g7 ac w hs => ?_)
 refine stp (stoo hs 3 ((Wl r6)) sizeOf24 rfl rfl rfl rfl rfl rfl rfl rfl rfl rfl fun w hs => ?_)
 refine wpList_nil (then_n (wp_seq ?_))
 replace hs := hs.n0 [1, 2, 3, 4] rfl rfl
 obtain ⟨r8, hr8, lr8⟩ : ∃ z0, x * y % Pf = z0 ∧ z0 < 2 ^ 256 := ⟨_, rfl, modP_lt _⟩
 obtain ⟨r9, hr9, lr9⟩ : ∃ z0, r8 * r6 % Pf = z0 ∧ z0 < 2 ^ 256 := ⟨_, rfl, modP_lt _⟩
 refine region_inv [([], [1, 4, 6, 8]), ([0], [4, 6, 8]), ([], [3, 4, 6, 8]), ([2], [4, 6, 8]), (rgn 0 4, [6, 8]), ([], [6, 8]), (rgn 0 6, [8]), ([], [8]), (rgn 0 8, [])] (fun L ac w => ∃ (g10 : Nat), St 70 w0 [(23, L 0, ptA g1 0), (24, L 1, W x), (25, L 2, ptA g1 4), (26, L 3, W y), (27, L 4, W r8), (28, L 5, W r6), (29, L 6, W r9), (5, L 7, ptA g10 0), (1, true, ptA g1 0), (2, true, ptA g2 0), (3, true, ptA g5 0), (4, true, ptA g7 0)] [(true, g1, 86, (TVl x y z)), (true, g2, 86, (TVl 0 0 0)), (true, g5, 24, (Wl r4)), (true, g7, 24, (Wl r6)), (L 7, g10, 24, (cond (L 8) (Wl r9) [.int .u64 0, .int .u64 0, .int .u64 0, .int .u64 0]))] ac w) (by kernel_rfl) (by kernel_rfl) ?_ ?_ ?_
 ·exact ⟨0, hs.drew.skip.skip.skip.skip.skip.skip.skip.skip.pad⟩
 ·refine ⟨?_, ?_, ?_, ?_, ?_, ?_, ?_, ?_, ?_, trivial⟩
  ·exact fun L ac w ⟨g10, hs⟩ => pln (op_fieldA hs (some 0) rfl rfl rfl underlying86 rfl sizeOf24 (by decide) rfl fun ac hs => ⟨g10, hs⟩)
  ·exact fun L ac w ⟨g10, hs⟩ => pln (oldd hs 1 0 (W x) isAgg24 sizeOf24 rfl rfl rfl rfl rfl fun ac hs => ⟨g10, hs⟩)
  ·exact fun L ac w ⟨g10, hs⟩ => pln (op_fieldA hs (some 2) rfl rfl rfl underlying86 rfl sizeOf24 (by decide) rfl fun ac hs => ⟨g10, hs⟩)
  ·exact fun L ac w ⟨g10, hs⟩ => pln (oldd hs 3 0 (W y) isAgg24 sizeOf24 rfl rfl rfl rfl rfl fun ac hs => ⟨g10, hs⟩)
  ·exact fun L ac w ⟨g10, hs⟩ => pln (op_call (F := 89) hs (some 4) (v := W r8) rfl rfl rfl rfl (call89 _) (rfmul_c x y r8 hx hy hr8) rfl fun ac w hs => ⟨g10, hs⟩)
  ·exact fun L ac w ⟨g10, hs⟩ => pln (oldd hs 5 3 (W r6) isAgg24 sizeOf24 rfl rfl rfl rfl rfl fun ac hs => ⟨g10, hs⟩)
  ·exact fun L ac w ⟨g10, hs⟩ => pln (op_call (F := 89) hs (some 6) (v := W r9) rfl rfl rfl rfl (call89 _) (rfmul_c r8 r6 r9 lr8 lr6 hr9) rfl fun ac w hs => ⟨g10, hs⟩)
  ·exact fun L ac w ⟨g10, hs⟩ => pln (op_alloc hs (some 7) (some 4) (cs := [.int .u64 0, .int .u64 0, .int .u64 0, .int .u64 0]) rfl rfl zeroValue24 (by kernel_rfl) rfl rfl fun g10 ac w hs => ⟨g10, hs⟩)
  ·exact fun L ac w ⟨g10, hs⟩ => pln (stoo hs 4 ((Wl r9)) sizeOf24 rfl rfl rfl rfl rfl rfl rfl rfl rfl rfl fun w hs => ⟨g10, hs⟩)
 intro ac w ⟨g10, hs⟩
 try dsimp only [cond_true] at hs
 refine then_n (wp_seq ?_)
 replace hs := hs.n0 [1, 2, 3, 4, 5] rfl rfl
 obtain ⟨r11, hr11, lr11⟩ : ∃ z0, r4 * r4 % Pf = z0 ∧ z0 < 2 ^ 256 := ⟨_, rfl, modP_lt _⟩
 obtain ⟨r12, hr12, lr12⟩ : ∃ z0, 8 * r9 % Pf = z0 ∧ z0 < 2 ^ 256 := ⟨_, rfl, modP_lt _⟩
 obtain ⟨r13, hr13, lr13⟩ : ∃ z0, fsub r11 r12 = z0 ∧ z0 < 2 ^ 256 := ⟨_, rfl, fsub_lt _ _⟩
 refine region_inv [([], [2, 5, 6, 8]), ([], [2, 5, 6, 8]), ([0, 1], [5, 6, 8]), ([], [5, 6, 8]), ([], [5, 6, 8]), (rgn 0 5, [6, 8]), (rgn 0 6, [8]), ([], [8]), (rgn 0 8, [])] (fun L ac w => ∃ (g14 : Nat), St 70 w0 [(30, L 0, W r4), (31, L 1, W r4), (32, L 2, W r11), (33, L 3, .agg #[.int .u64 8, .int .u64 0, .int .u64 0, .int .u64 0]), (34, L 4, W r9), (35, L 5, W r12), (36, L 6, W r13), (6, L 7, ptA g14 0), (1, true, ptA g1 0), (2, true, ptA g2 0), (3, true, ptA g5 0), (4, true, ptA g7 0), (5, true, ptA g10 0)] [(true, g1, 86, (TVl x y z)), (true, g2, 86, (TVl 0 0 0)), (true, g5, 24, (Wl r4)), (true, g7, 24, (Wl r6)), (true, g10, 24, (Wl r9)), (L 7, g14, 24, (cond (L 8) (Wl r13) [.int .u64 0, .int .u64 0, .int .u64 0, .int .u64 0]))] ac w) (by kernel_rfl) (by kernel_rfl) ?_ ?_ ?_
 ·exact ⟨0, hs.drew.skip.skip.skip.skip.skip.skip.skip.skip.pad⟩
 ·refine ⟨?_, ?_, ?_, ?_, ?_, ?_, ?_, ?_, ?_, trivial⟩
  ·exact fun L ac w ⟨g14, hs⟩ => pln (oldd hs 0 2 (W r4) isAgg24 sizeOf24 rfl rfl rfl rfl rfl fun ac hs => ⟨g14, hs⟩)
  ·exact fun L ac w ⟨g14, hs⟩ => pln (oldd hs 1 2 (W r4) isAgg24 sizeOf24 rfl rfl rfl rfl rfl fun ac hs => ⟨g14, hs⟩)
  ·exact fun L ac w ⟨g14, hs⟩ => pln (op_call (F := 89) hs (some 2) (v := W r11) rfl rfl rfl rfl (call89 _) (rfmul_c r4 r4 r11 lr4 lr4 hr11) rfl fun ac w hs => ⟨g14, hs⟩)
  ·exact fun L ac w ⟨g14, hs⟩ => pln (op_build hs (some 3) (qs := [(0, .int .u64 8)]) (v := .agg #[.int .u64 8, .int .u64 0, .int .u64 0, .int .u64 0]) rfl rfl rfl rfl (fun _ => by kernel_rfl) rfl fun ac hs => ⟨g14, hs⟩)
  ·exact fun L ac w ⟨g14, hs⟩ => pln (oldd hs 4 4 (W r9) isAgg24 sizeOf24 rfl rfl rfl rfl rfl fun ac hs => ⟨g14, hs⟩)
  ·exact fun L ac w ⟨g14, hs⟩ => pln (op_call (F := 89) hs (some 5) (v := W r12) rfl rfl rfl rfl (call89 _) (rfmul_c 8 r9 r12 (by decide) lr9 hr12) rfl fun ac w hs => ⟨g14, hs⟩)
  ·exact fun L ac w ⟨g14, hs⟩ => pln (op_call (F := 124) hs (some 6) (v := W r13) rfl rfl rfl rfl (call124 _) (rfsub_c r11 r12 r13 lr11 lr12 hr13) rfl fun ac w hs => ⟨g14, hs⟩)
  ·exact fun L ac w ⟨g14, hs⟩ => pln (op_alloc hs (some 7) (some 5) (cs := [.int .u64 0, .int .u64 0, .int .u64 0, .int .u64 0]) rfl rfl zeroValue24 (by kernel_rfl) rfl rfl fun g14 ac w hs => ⟨g14, hs⟩)
  ·exact fun L ac w ⟨g14, hs⟩ => pln (stoo hs 5 ((Wl r13)) sizeOf24 rfl rfl rfl rfl rfl rfl rfl rfl rfl rfl fun w hs => ⟨g14, hs⟩)
 intro ac w ⟨g14, hs⟩
 try dsimp only [cond_true] at hs
 refine then_n (wp_seq (wp_region_lit ?_))
 refine stp (op_fieldA hs none rfl rfl rfl underlying86 rfl sizeOf24 (by decide) rfl fun ac hs => ?_)
 refine ldd hs 0 (W y) isAgg24 sizeOf24 rfl rfl rfl rfl rfl fun ac hs => ?_
 refine ldd hs 3 (W r6) isAgg24 sizeOf24 rfl rfl rfl rfl rfl fun ac hs => ?_
 obtain ⟨r15, hr15, lr15⟩ : ∃ z0, y * r6 % Pf = z0 ∧ z0 < 2 ^ 256 := ⟨_, rfl, modP_lt _⟩
 refine stp (op_call (F := 89) hs none (v := W r15) rfl rfl rfl rfl (call89 _) (rfmul_c y r6 r15 hy lr6 hr15) rfl fun ac w hs => ?_)
 refine stp (op_alloc hs none none (cs := [.int .u64 0, .int .u64 0, .int .u64 0, .int .u64 0]) rfl rfl zeroValue24 (by kernel_rfl) rfl rfl fun g16 ac w hs => ?_)
 refine stp (stoo hs 6 ((Wl r15)) sizeOf24 rfl rfl rfl rfl rfl rfl rfl rfl rfl rfl fun w hs => ?_)
 refine wpList_nil (then_n (wp_seq ?_))
 replace hs := hs.n0 [2, 3, 4, 5, 6, 7] rfl rfl
 refine wp_region_lit ?_
 refine stp (op_build hs none (qs := [(0, .int .u64 2)]) (v := .agg #[.int .u64 2, .int .u64 0, .int .u64 0, .int .u64 0]) rfl rfl rfl rfl (fun _ => by kernel_rfl) rfl fun ac hs => ?_)
 refine ldd hs 5 (W r13) isAgg24 sizeOf24 rfl rfl rfl rfl rfl fun ac hs => ?_
 refine ldd hs 3 (W r6) isAgg24 sizeOf24 rfl rfl rfl rfl rfl fun ac hs => ?_
 obtain ⟨r17, hr17, lr17⟩ : ∃ z0, r13 * r6 % Pf = z0 ∧ z0 < 2 ^ 256 := ⟨_, rfl, modP_lt _⟩
 refine stp (op_call (F := 89) hs none (v := W r17) rfl rfl rfl rfl (call89 _) (rfmul_c r13 r6 r17 lr13 lr6 hr17) rfl fun ac w hs => ?_)
 obtain ⟨r18, hr18, lr18⟩ : ∃ z0, 2 * r17 % Pf = z0 ∧ z0 < 2 ^ 256 := ⟨_, rfl, modP_lt _⟩
 refine stp (op_call (F := 89) hs none (v := W r18) rfl rfl rfl rfl (call89 _) (rfmul_c 2 r17 r18 (by decide) lr17 hr18) rfl fun ac w hs => ?_)
 refine stp (op_alloc hs none none (cs := [.int .u64 0, .int .u64 0, .int .u64 0, .int .u64 0]) rfl rfl zeroValue24 (by kernel_rfl) rfl rfl fun g19 ac w hs => ?_)
 refine stp (stoo hs 7 ((Wl r18)) sizeOf24 rfl rfl rfl rfl rfl rfl rfl rfl rfl rfl fun w hs => ?_)
 refine wpList_nil (then_n (wp_seq ?_))
 replace hs := hs.n0 [2, 3, 4, 5, 6, 7, 8] rfl rfl
 obtain ⟨r20, hr20, lr20⟩ : ∃ z0, 4 * r9 % Pf = z0 ∧ z0 < 2 ^ 256 := ⟨_, rfl, modP_lt _⟩
 obtain ⟨r21, hr21, lr21⟩ : ∃ z0, fsub r20 r13 = z0 ∧ z0 < 2 ^ 256 := ⟨_, rfl, fsub_lt _ _⟩
 obtain ⟨r22, hr22, lr22⟩ : ∃ z0, r4 * r21 % Pf = z0 ∧ z0 < 2 ^ 256 := ⟨_, rfl, modP_lt _⟩
 obtain ⟨r23, hr23, lr23⟩ : ∃ z0, r15 * r15 % Pf = z0 ∧ z0 < 2 ^ 256 := ⟨_, rfl, modP_lt _⟩
 obtain ⟨r24, hr24, lr24⟩ : ∃ z0, 8 * r23 % Pf = z0 ∧ z0 < 2 ^ 256 := ⟨_, rfl, modP_lt _⟩
 obtain ⟨r25, hr25, lr25⟩ : ∃ z0, fsub r22 r24 = z0 ∧ z0 < 2 ^ 256 := ⟨_, rfl, fsub_lt _ _⟩
 refine region_inv [([], [6, 10, 11, 12, 14]), ([], [3, 5, 6, 10, 11, 12, 14]), ([], [3, 5, 6, 10, 11, 12, 14]), ([1, 2], [5, 6, 10, 11, 12, 14]), ([], [5, 6, 10, 11, 12, 14]), (rgn 1 4, [6, 10, 11, 12, 14]), (rgn 0 6, [10, 11, 12, 14]), ([], [11, 12, 14]), ([], [10, 11, 12, 14]), ([], [10, 11, 12, 14]), ([0, 1, 2, 3, 4, 5, 6, 8, 9], [11, 12, 14]), (rgn 0 11, [12, 14]), (rgn 0 12, [14]), ([], [14]), (rgn 0 14, [])] (fun L ac w => ∃ (g26 : Nat), St 70 w0 [(46, L 0, W r4), (47, L 1, .agg #[.int .u64 4, .int .u64 0, .int .u64 0, .int .u64 0]), (48, L 2, W r9), (49, L 3, W r20), (50, L 4, W r13), (51, L 5, W r21), (52, L 6, W r22), (53, L 7, .agg #[.int .u64 8, .int .u64 0, .int .u64 0, .int .u64 0]), (54, L 8, W r15), (55, L 9, W r15), (56, L 10, W r23), (57, L 11, W r24), (58, L 12, W r25), (9, L 13, ptA g26 0), (2, true, ptA g2 0), (3, true, ptA g5 0), (4, true, ptA g7 0), (5, true, ptA g10 0), (6, true, ptA g14 0), (7, true, ptA g16 0), (8, true, ptA g19 0)] [(true, g1, 86, (TVl x y z)), (true, g2, 86, (TVl 0 0 0)), (true, g5, 24, (Wl r4)), (true, g7, 24, (Wl r6)), (true, g10, 24, (Wl r9)), (true, g14, 24, (Wl r13)), (true, g16, 24, (Wl r15)), (true, g19, 24, (Wl r18)), (L 13, g26, 24, (cond (L 14) (Wl r25) [.int .u64 0, .int .u64 0, .int .u64 0, .int .u64 0]))] ac w) (by kernel_rfl) (by kernel_rfl) ?_ ?_ ?_
 ·exact ⟨0, hs.drew.skip.skip.skip.skip.skip.skip.skip.skip.skip.skip.skip.skip.skip.skip.pad⟩
 ·refine ⟨?_, ?_, ?_, ?_, ?_, ?_, ?_, ?_, ?_, ?_, ?_, ?_, ?_, ?_, ?_, trivial⟩
  ·exact fun L ac w ⟨g26, hs⟩ => pln (oldd hs 0 2 (W r4) isAgg24 sizeOf24 rfl rfl rfl rfl rfl fun ac hs => ⟨g26, hs⟩)
  ·exact fun L ac w ⟨g26, hs⟩ => pln (op_build hs (some 1) (qs := [(0, .int .u64 4)]) (v := .agg #[.int .u64 4, .int .u64 0, .int .u64 0, .int .u64 0]) rfl rfl rfl rfl (fun _ => by kernel_rfl) rfl fun ac hs => ⟨g26, hs⟩)
  ·exact fun L ac w ⟨g26, hs⟩ => pln (oldd hs 2 4 (W r9) isAgg24 sizeOf24 rfl rfl rfl rfl rfl fun ac hs => ⟨g26, hs⟩)
  ·exact fun L ac w ⟨g26, hs⟩ => pln (op_call (F := 89) hs (some 3) (v := W r20) rfl rfl rfl rfl (call89 _) (rfmul_c 4 r9 r20 (by decide) lr9 hr20) rfl fun ac w hs => ⟨g26, hs⟩)
  ·exact fun L ac w ⟨g26, hs⟩ => pln (oldd hs 4 5 (W r13) isAgg24 sizeOf24 rfl rfl rfl rfl rfl fun ac hs => ⟨g26, hs⟩)
  ·exact fun L ac w ⟨g26, hs⟩ => pln (op_call (F := 124) hs (some 5) (v := W r21) rfl rfl rfl rfl (call124 _) (rfsub_c r20 r13 r21 lr20 lr13 hr21) rfl fun ac w hs => ⟨g26, hs⟩)
  ·exact fun L ac w ⟨g26, hs⟩ => pln (op_call (F := 89) hs (some 6) (v := W r22) rfl rfl rfl rfl (call89 _) (rfmul_c r4 r21 r22 lr4 lr21 hr22) rfl fun ac w hs => ⟨g26, hs⟩)
  ·exact fun L ac w ⟨g26, hs⟩ => pln (op_build hs (some 7) (qs := [(0, .int .u64 8)]) (v := .agg #[.int .u64 8, .int .u64 0, .int .u64 0, .int .u64 0]) rfl rfl rfl rfl (fun _ => by kernel_rfl) rfl fun ac hs => ⟨g26, hs⟩)
  ·exact fun L ac w ⟨g26, hs⟩ => pln (oldd hs 8 6 (W r15) isAgg24 sizeOf24 rfl rfl rfl rfl rfl fun ac hs => ⟨g26, hs⟩)
  ·exact fun L ac w ⟨g26, hs⟩ => pln (oldd hs 9 6 (W r15) isAgg24 sizeOf24 rfl rfl rfl rfl rfl fun ac hs => ⟨g26, hs⟩)
  ·exact fun L ac w ⟨g26, hs⟩ => pln (op_call (F := 89) hs (some 10) (v := W r23) rfl rfl rfl rfl (call89 _) (rfmul_c r15 r15 r23 lr15 lr15 hr23) rfl fun ac w hs => ⟨g26, hs⟩)
  ·exact fun L ac w ⟨g26, hs⟩ => pln (op_call (F := 89) hs (some 11) (v := W r24) rfl rfl rfl rfl (call89 _) (rfmul_c 8 r23 r24 (by decide) lr23 hr24) rfl fun ac w hs => ⟨g26, hs⟩)
  ·exact fun L ac w ⟨g26, hs⟩ => pln (op_call (F := 124) hs (some 12) (v := W r25) rfl rfl rfl rfl (call124 _) (rfsub_c r22 r24 r25 lr22 lr24 hr25) rfl fun ac w hs => ⟨g26, hs⟩)
  ·exact fun L ac w ⟨g26, hs⟩ => pln (op_alloc hs (some 13) (some 8) (cs := [.int .u64 0, .int .u64 0, .int .u64 0, .int .u64 0]) rfl rfl zeroValue24 (by kernel_rfl) rfl rfl fun g26 ac w hs => ⟨g26, hs⟩)
  ·exact fun L ac w ⟨g26, hs⟩ => pln (stoo hs 8 ((Wl r25)) sizeOf24 rfl rfl rfl rfl rfl rfl rfl rfl rfl rfl fun w hs => ⟨g26, hs⟩)
 intro ac w ⟨g26, hs⟩
 try dsimp only [cond_true] at hs
 refine then_n (wp_seq ?_)
 replace hs := hs.n0 [2, 4, 8, 9] rfl rfl
 obtain ⟨r27, hr27, lr27⟩ : ∃ z0, r6 * r6 % Pf = z0 ∧ z0 < 2 ^ 256 := ⟨_, rfl, modP_lt _⟩
 obtain ⟨r28, hr28, lr28⟩ : ∃ z0, r6 * r27 % Pf = z0 ∧ z0 < 2 ^ 256 := ⟨_, rfl, modP_lt _⟩
 obtain ⟨r29, hr29, lr29⟩ : ∃ z0, 8 * r28 % Pf = z0 ∧ z0 < 2 ^ 256 := ⟨_, rfl, modP_lt _⟩
 refine region_inv [([], [6, 8]), ([], [5, 6, 8]), ([], [4, 5, 6, 8]), ([], [4, 5, 6, 8]), ([2, 3], [5, 6, 8]), (rgn 1 4, [6, 8]), (rgn 0 6, [8]), ([], [8]), (rgn 0 8, [])] (fun L ac w => ∃ (g30 : Nat), St 70 w0 [(59, L 0, .agg #[.int .u64 8, .int .u64 0, .int .u64 0, .int .u64 0]), (60, L 1, W r6), (61, L 2, W r6), (62, L 3, W r6), (63, L 4, W r27), (64, L 5, W r28), (65, L 6, W r29), (10, L 7, ptA g30 0), (2, true, ptA g2 0), (4, true, ptA g7 0), (8, true, ptA g19 0), (9, true, ptA g26 0)] [(true, g1, 86, (TVl x y z)), (true, g2, 86, (TVl 0 0 0)), (true, g5, 24, (Wl r4)), (true, g7, 24, (Wl r6)), (true, g10, 24, (Wl r9)), (true, g14, 24, (Wl r13)), (true, g16, 24, (Wl r15)), (true, g19, 24, (Wl r18)), (true, g26, 24, (Wl r25)), (L 7, g30, 24, (cond (L 8) (Wl r29) [.int .u64 0, .int .u64 0, .int .u64 0, .int .u64 0]))] ac w) (by kernel_rfl) (by kernel_rfl) ?_ ?_ ?_
 ·exact ⟨0, hs.drew.skip.skip.skip.skip.skip.skip.skip.skip.pad⟩
 ·refine ⟨?_, ?_, ?_, ?_, ?_, ?_, ?_, ?_, ?_, trivial⟩
  ·exact fun L ac w ⟨g30, hs⟩ => pln (op_build hs (some 0) (qs := [(0, .int .u64 8)]) (v := .agg #[.int .u64 8, .int .u64 0, .int .u64 0, .int .u64 0]) rfl rfl rfl rfl (fun _ => by kernel_rfl) rfl fun ac hs => ⟨g30, hs⟩)
  ·exact fun L ac w ⟨g30, hs⟩ => pln (oldd hs 1 3 (W r6) isAgg24 sizeOf24 rfl rfl rfl rfl rfl fun ac hs => ⟨g30, hs⟩)
  ·exact fun L ac w ⟨g30, hs⟩ => pln (oldd hs 2 3 (W r6) isAgg24 sizeOf24 rfl rfl rfl rfl rfl fun ac hs => ⟨g30, hs⟩)
  ·exact fun L ac w ⟨g30, hs⟩ => pln (oldd hs 3 3 (W r6) isAgg24 sizeOf24 rfl rfl rfl rfl rfl fun ac hs => ⟨g30, hs⟩)
  ·exact fun L ac w ⟨g30, hs⟩ => pln (op_call (F := 89) hs (some 4) (v := W r27) rfl rfl rfl rfl (call89 _) (rfmul_c r6 r6 r27 lr6 lr6 hr27) rfl fun ac w hs => ⟨g30, hs⟩)
  ·exact fun L ac w ⟨g30, hs⟩ => pln (op_call (F := 89) hs (some 5) (v := W r28) rfl rfl rfl rfl (call89 _) (rfmul_c r6 r27 r28 lr6 lr27 hr28) rfl fun ac w hs => ⟨g30, hs⟩)
  ·exact fun L ac w ⟨g30, hs⟩ => pln (op_call (F := 89) hs (some 6) (v := W r29) rfl rfl rfl rfl (call89 _) (rfmul_c 8 r28 r29 (by decide) lr28 hr29) rfl fun ac w hs => ⟨g30, hs⟩)
  ·exact fun L ac w ⟨g30, hs⟩ => pln (op_alloc hs (some 7) (some 9) (cs := [.int .u64 0, .int .u64 0, .int .u64 0, .int .u64 0]) rfl rfl zeroValue24 (by kernel_rfl) rfl rfl fun g30 ac w hs => ⟨g30, hs⟩)
  ·exact fun L ac w ⟨g30, hs⟩ => pln (stoo hs 9 ((Wl r29)) sizeOf24 rfl rfl rfl rfl rfl rfl rfl rfl rfl rfl fun w hs => ⟨g30, hs⟩)
 intro ac w ⟨g30, hs⟩
 try dsimp only [cond_true] at hs
 refine then_n (wp_seq (wp_region_lit ?_))
 refine ldd hs 7 (W r18) isAgg24 sizeOf24 rfl rfl rfl rfl rfl fun ac hs => ?_
 refine ldd hs 8 (W r25) isAgg24 sizeOf24 rfl rfl rfl rfl rfl fun ac hs => ?_
 refine ldd hs 9 (W r29) isAgg24 sizeOf24 rfl rfl rfl rfl rfl fun ac hs => ?_
 refine stp (op_build hs none (qs := [(0, W r18), (1, W r25), (2, W r29)]) (v := TV r18 r25 r29) rfl rfl rfl rfl (fun _ => by kernel_rfl) rfl fun ac hs => ?_)
 refine stp (stoo hs 1 ((TVl r18 r25 r29)) sizeOf86 rfl rfl rfl rfl rfl rfl rfl rfl rfl rfl fun w hs => ?_)
 refine wpList_nil (then_n (wp_ret ?_))
 exact bodyPost_ret (res1 rfl (rv_c hs 1 (v := TV r18 r25 r29) rfl rfl isAgg86 sizeOf86 rfl)) hs.defers ⟨by subst hr3 hr4 hr6 hr8 hr9 hr11 hr12 hr13 hr15 hr17 hr18 hr20 hr21 hr22 hr23 hr24 hr25 hr27 hr28 hr29; obtain ⟨rfl, rfl, rfl⟩ := tri3 hE; rfl, (hs.bel rfl)⟩
theorem rplus_c (x1 y1 z1 x2 y2 z2 X Y Z : Nat) (a1 : x1 < 2 ^ 256) (a2 : y1 < 2 ^ 256) (a3 : z1 < 2 ^ 256) (b1 : x2 < 2 ^ 256) (b2 : y2 < 2 ^ 256) (b3 : z2 < 2 ^ 256) (hE : pF x1 y1 z1 x2 y2 z2 = (X, Y, Z)) (w0 : World) : Calls prog 87 #[TV x1 y1 z1, TV x2 y2 z2] w0 fun e w' => e = .returned (TV X Y Z) ∧ Below w0.heap.size w0 w' := by
 refine enter (n := 100) (args := [TV x1 y1 z1, TV x2 y2 z2]) func87 rfl rfl (Nat.le_of_ble_eq_true rfl) fun ac hs => ?_
 refine wp_seq (wp_region_lit ?_)
 refine stp (op_box hs none none (cs := (TVl x1 y1 z1)) rfl rfl rfl rfl rfl rfl fun g1 ac w hs => ?_)
 refine stp (op_box hs none none (cs := (TVl x2 y2 z2)) rfl rfl rfl rfl rfl rfl fun g2 ac w hs => ?_)
 refine stp (op_alloc hs none none (cs := (TVl 0 0 0)) rfl rfl zeroValue86 (by kernel_rfl) rfl rfl fun g3 ac w hs => ?_)
 refine wpList_nil (then_n (wp_seq (wp_seq (wp_region_lit ?_))))
 refine stp (op_fieldA hs none rfl rfl rfl underlying86 rfl sizeOf24 (by decide) rfl fun ac hs => ?_)
 refine ldd hs 0 (W z1) isAgg24 sizeOf24 rfl rfl rfl rfl rfl fun ac hs => ?_
 refine stp (op_build hs none (qs := []) (v := .agg #[.int .u64 0, .int .u64 0, .int .u64 0, .int .u64 0]) rfl rfl rfl rfl (fun _ => by kernel_rfl) rfl fun ac hs => ?_)
 refine stp (op_bin hs none (v := .bool (decide (z1 = 0))) rfl rfl rfl rfl (fun w => run_eqGuard_agg w .eql 24 _ _ _ _ Tryz.eqGuardType24) (eqlW z1 0 a3 (by decide) _ rfl) rfl fun ac hs => ?_)
 refine wpList_nil (then_n ?_)
 refine wp_cond_split (hs.ev rfl) (fun hc => ?_) (fun hc => ?_)
 ·skip
  have hp4 := of_decide_eq_true hc
  refine wp_seq ?_
  replace hs := hs.n0 [2, 3, 4] rfl rfl
  refine wp_region_lit ?_
  refine ldd hs 1 (TV x2 y2 z2) isAgg86 sizeOf86 rfl rfl rfl rfl rfl fun ac hs => ?_
  refine stp (stoo hs 2 ((TVl x2 y2 z2)) sizeOf86 rfl rfl rfl rfl rfl rfl rfl rfl rfl rfl fun w hs => ?_)
  refine wpList_nil (then_n (wp_ret (then_r ?_)))
  exact bodyPost_ret (res1 rfl (rv_c hs 2 (v := TV x2 y2 z2) rfl rfl isAgg86 sizeOf86 rfl)) hs.defers ⟨by obtain ⟨rfl, rfl, rfl⟩ := tri3 ((pF_1 hp4).symm.trans hE); rfl, (hs.bel rfl)⟩
 ·skip
  have hp5 := of_decide_eq_false hc
  refine wp_skip (then_n (wp_seq (wp_seq ?_)))
  replace hs := hs.n0 [2, 3, 4] rfl rfl
  refine wp_region_lit ?_
  refine stp (op_fieldA hs none rfl rfl rfl underlying86 rfl sizeOf24 (by decide) rfl fun ac hs => ?_)
  refine ldd hs 1 (W z2) isAgg24 sizeOf24 rfl rfl rfl rfl rfl fun ac hs => ?_
  refine stp (op_build hs none (qs := []) (v := .agg #[.int .u64 0, .int .u64 0, .int .u64 0, .int .u64 0]) rfl rfl rfl rfl (fun _ => by kernel_rfl) rfl fun ac hs => ?_)
  refine stp (op_bin hs none (v := .bool (decide (z2 = 0))) rfl rfl rfl rfl (fun w => run_eqGuard_agg w .eql 24 _ _ _ _ Tryz.eqGuardType24) (eqlW z2 0 b3 (by decide) _ rfl) rfl fun ac hs => ?_)
  refine wpList_nil (then_n ?_)
  refine wp_cond_split (hs.ev rfl) (fun hc => ?_) (fun hc => ?_)
  ·skip
   have hp6 := of_decide_eq_true hc
   refine wp_seq (wp_region_lit ?_)
   refine ldd hs 0 (TV x1 y1 z1) isAgg86 sizeOf86 rfl rfl rfl rfl rfl fun ac hs => ?_
   refine stp (stoo hs 2 ((TVl x1 y1 z1)) sizeOf86 rfl rfl rfl rfl rfl rfl rfl rfl rfl rfl fun w hs => ?_)
   refine wpList_nil (then_n (wp_ret (then_r ?_)))
   exact bodyPost_ret (res1 rfl (rv_c hs 2 (v := TV x1 y1 z1) rfl rfl isAgg86 sizeOf86 rfl)) hs.defers ⟨by obtain ⟨rfl, rfl, rfl⟩ := tri3 ((pF_2 hp5 hp6).symm.trans hE); rfl, (hs.bel rfl)⟩
  ·skip
   have hp7 := of_decide_eq_false hc
   refine wp_skip (then_n (wp_seq ?_))
   replace hs := hs.n0 [2, 3, 4] rfl rfl
   obtain ⟨r8, hr8, lr8⟩ : ∃ z0, x1 * z2 % Pf = z0 ∧ z0 < 2 ^ 256 := ⟨_, rfl, modP_lt _⟩
   obtain ⟨r9, hr9, lr9⟩ : ∃ z0, y1 * z2 % Pf = z0 ∧ z0 < 2 ^ 256 := ⟨_, rfl, modP_lt _⟩
   refine region_inv [([], [1, 4, 9, 12, 13]), ([0], [4, 9, 12, 13]), ([], [3, 4, 9, 12, 13]), ([2], [4, 9, 12, 13]), (rgn 0 4, [9, 12, 13]), ([], [6, 9, 12, 13]), ([5], [9, 12, 13]), ([], [8, 9, 12, 13]), ([7], [9, 12, 13]), (rgn 0 9, [12, 13]), ([], [12, 13]), ([], [12, 13]), (rgn 0 12, [13]), (rgn 0 13, [])] (fun L ac w => ∃ (g10 : Nat) (g11 : Nat), St 100 w0 [(25, L 0, ptA g1 0), (26, L 1, W x1), (27, L 2, ptA g2 8), (28, L 3, W z2), (29, L 4, W r8), (30, L 5, ptA g1 4), (31, L 6, W y1), (32, L 7, ptA g2 8), (33, L 8, W z2), (34, L 9, W r9), (5, L 10, ptA g10 0), (6, L 11, ptA g11 0), (2, true, ptA g1 0), (3, true, ptA g2 0), (4, true, ptA g3 0)] [(true, g1, 86, (TVl x1 y1 z1)), (true, g2, 86, (TVl x2 y2 z2)), (true, g3, 86, (TVl 0 0 0)), (L 10, g10, 24, (cond (L 12) (Wl r8) [.int .u64 0, .int .u64 0, .int .u64 0, .int .u64 0])), (L 11, g11, 24, (cond (L 13) (Wl r9) [.int .u64 0, .int .u64 0, .int .u64 0, .int .u64 0]))] ac w) (by kernel_rfl) (by kernel_rfl) ?_ ?_ ?_
   ·exact ⟨0, 0, hs.drew.skip.skip.skip.skip.skip.skip.skip.skip.skip.skip.skip.skip.pad.pad⟩
   ·refine ⟨?_, ?_, ?_, ?_, ?_, ?_, ?_, ?_, ?_, ?_, ?_, ?_, ?_, ?_, trivial⟩
    ·exact fun L ac w ⟨g10, g11, hs⟩ => pln (op_fieldA hs (some 0) rfl rfl rfl underlying86 rfl sizeOf24 (by decide) rfl fun ac hs => ⟨g10, g11, hs⟩)
    ·exact fun L ac w ⟨g10, g11, hs⟩ => pln (oldd hs 1 0 (W x1) isAgg24 sizeOf24 rfl rfl rfl rfl rfl fun ac hs => ⟨g10, g11, hs⟩)
    ·exact fun L ac w ⟨g10, g11, hs⟩ => pln (op_fieldA hs (some 2) rfl rfl rfl underlying86 rfl sizeOf24 (by decide) rfl fun ac hs => ⟨g10, g11, hs⟩)
    ·exact fun L ac w ⟨g10, g11, hs⟩ => pln (oldd hs 3 1 (W z2) isAgg24 sizeOf24 rfl rfl rfl rfl rfl fun ac hs => ⟨g10, g11, hs⟩)
    ·exact fun L ac w ⟨g10, g11, hs⟩ => pln (op_call (F := 89) hs (some 4) (v := W r8) rfl rfl rfl rfl (call89 _) (rfmul_c x1 z2 r8 a1 b3 hr8) rfl fun ac w hs => ⟨g10, g11, hs⟩)
    ·exact fun L ac w ⟨g10, g11, hs⟩ => pln (op_fieldA hs (some 5) rfl rfl rfl underlying86 rfl sizeOf24 (by decide) rfl fun ac hs => ⟨g10, g11, hs⟩)
    ·exact fun L ac w ⟨g10, g11, hs⟩ => pln (oldd hs 6 0 (W y1) isAgg24 sizeOf24 rfl rfl rfl rfl rfl fun ac hs => ⟨g10, g11, hs⟩)
    ·exact fun L ac w ⟨g10, g11, hs⟩ => pln (op_fieldA hs (some 7) rfl rfl rfl underlying86 rfl sizeOf24 (by decide) rfl fun ac hs => ⟨g10, g11, hs⟩)
    ·exact fun L ac w ⟨g10, g11, hs⟩ => pln (oldd hs 8 1 (W z2) isAgg24 sizeOf24 rfl rfl rfl rfl rfl fun ac hs => ⟨g10, g11, hs⟩)
    ·exact fun L ac w ⟨g10, g11, hs⟩ => pln (op_call (F := 89) hs (some 9) (v := W r9) rfl rfl rfl rfl (call89 _) (rfmul_c y1 z2 r9 a2 b3 hr9) rfl fun ac w hs => ⟨g10, g11, hs⟩)
    ·exact fun L ac w ⟨g10, g11, hs⟩ => pln (op_alloc hs (some 10) (some 3) (cs := [.int .u64 0, .int .u64 0, .int .u64 0, .int .u64 0]) rfl rfl zeroValue24 (by kernel_rfl) rfl rfl fun g10 ac w hs => ⟨g10, g11, hs⟩)
    ·exact fun L ac w ⟨g10, g11, hs⟩ => pln (op_alloc hs (some 11) (some 4) (cs := [.int .u64 0, .int .u64 0, .int .u64 0, .int .u64 0]) rfl rfl zeroValue24 (by kernel_rfl) rfl rfl fun g11 ac w hs => ⟨g10, g11, hs⟩)
    ·exact fun L ac w ⟨g10, g11, hs⟩ => pln (stoo hs 3 ((Wl r8)) sizeOf24 rfl rfl rfl rfl rfl rfl rfl rfl rfl rfl fun w hs => ⟨g10, g11, hs⟩)
    ·exact fun L ac w ⟨g10, g11, hs⟩ => pln (stoo hs 4 ((Wl r9)) sizeOf24 rfl rfl rfl rfl rfl rfl rfl rfl rfl rfl fun w hs => ⟨g10, g11, hs⟩)
   intro ac w ⟨g10, g11, hs⟩
   try dsimp only [cond_true] at hs
   refine then_n (wp_seq ?_)
   replace hs := hs.n0 [2, 3, 4, 5, 6] rfl rfl
   obtain ⟨r12, hr12, lr12⟩ : ∃ z0, y2 * z1 % Pf = z0 ∧ z0 < 2 ^ 256 := ⟨_, rfl, modP_lt _⟩
   obtain ⟨r13, hr13, lr13⟩ : ∃ z0, fsub r12 r9 = z0 ∧ z0 < 2 ^ 256 := ⟨_, rfl, fsub_lt _ _⟩
   refine region_inv [([], [1, 4, 6, 8]), ([0], [4, 6, 8]), ([], [3, 4, 6, 8]), ([2], [4, 6, 8]), (rgn 0 4, [6, 8]), ([], [6, 8]), (rgn 0 6, [8]), ([], [8]), (rgn 0 8, [])] (fun L ac w => ∃ (g14 : Nat), St 100 w0 [(35, L 0, ptA g2 4), (36, L 1, W y2), (37, L 2, ptA g1 8), (38, L 3, W z1), (39, L 4, W r12), (40, L 5, W r9), (41, L 6, W r13), (7, L 7, ptA g14 0), (2, true, ptA g1 0), (3, true, ptA g2 0), (4, true, ptA g3 0), (5, true, ptA g10 0), (6, true, ptA g11 0)] [(true, g1, 86, (TVl x1 y1 z1)), (true, g2, 86, (TVl x2 y2 z2)), (true, g3, 86, (TVl 0 0 0)), (true, g10, 24, (Wl r8)), (true, g11, 24, (Wl r9)), (L 7, g14, 24, (cond (L 8) (Wl r13) [.int .u64 0, .int .u64 0, .int .u64 0, .int .u64 0]))] ac w) (by kernel_rfl) (by kernel_rfl) ?_ ?_ ?_
   ·exact ⟨0, hs.drew.skip.skip.skip.skip.skip.skip.skip.skip.pad⟩
   ·refine ⟨?_, ?_, ?_, ?_, ?_, ?_, ?_, ?_, ?_, trivial⟩
    ·exact fun L ac w ⟨g14, hs⟩ => pln (op_fieldA hs (some 0) rfl rfl rfl underlying86 rfl sizeOf24 (by decide) rfl fun ac hs => ⟨g14, hs⟩)
    ·exact fun L ac w ⟨g14, hs⟩ => pln (oldd hs 1 1 (W y2) isAgg24 sizeOf24 rfl rfl rfl rfl rfl fun ac hs => ⟨g14, hs⟩)
    ·exact fun L ac w ⟨g14, hs⟩ => pln (op_fieldA hs (some 2) rfl rfl rfl underlying86 rfl sizeOf24 (by decide) rfl fun ac hs => ⟨g14, hs⟩)
    ·exact fun L ac w ⟨g14, hs⟩ => pln (oldd hs 3 0 (W z1) isAgg24 sizeOf24 rfl rfl rfl rfl rfl fun ac hs => ⟨g14, hs⟩)
    ·exact fun L ac w ⟨g14, hs⟩ => pln (op_call (F := 89) hs (some 4) (v := W r12) rfl rfl rfl rfl (call89 _) (rfmul_c y2 z1 r12 b2 a3 hr12) rfl fun ac w hs => ⟨g14, hs⟩)
    ·exact fun L ac w ⟨g14, hs⟩ => pln (oldd hs 5 4 (W r9) isAgg24 sizeOf24 rfl rfl rfl rfl rfl fun ac hs => ⟨g14, hs⟩)
    ·exact fun L ac w ⟨g14, hs⟩ => pln (op_call (F := 124) hs (some 6) (v := W r13) rfl rfl rfl rfl (call124 _) (rfsub_c r12 r9 r13 lr12 lr9 hr13) rfl fun ac w hs => ⟨g14, hs⟩)
    ·exact fun L ac w ⟨g14, hs⟩ => pln (op_alloc hs (some 7) (some 5) (cs := [.int .u64 0, .int .u64 0, .int .u64 0, .int .u64 0]) rfl rfl zeroValue24 (by kernel_rfl) rfl rfl fun g14 ac w hs => ⟨g14, hs⟩)
    ·exact fun L ac w ⟨g14, hs⟩ => pln (stoo hs 5 ((Wl r13)) sizeOf24 rfl rfl rfl rfl rfl rfl rfl rfl rfl rfl fun w hs => ⟨g14, hs⟩)
   intro ac w ⟨g14, hs⟩
   try dsimp only [cond_true] at hs
   refine then_n (wp_seq ?_)
   replace hs := hs.n0 [2, 3, 4, 5, 6, 7] rfl rfl
   obtain ⟨r15, hr15, lr15⟩ : ∃ z0, x2 * z1 % Pf = z0 ∧ z0 < 2 ^ 256 := ⟨_, rfl, modP_lt _⟩
   obtain ⟨r16, hr16, lr16⟩ : ∃ z0, fsub r15 r8 = z0 ∧ z0 < 2 ^ 256 := ⟨_, rfl, fsub_lt _ _⟩
   refine region_inv [([], [1, 4, 6, 8]), ([0], [4, 6, 8]), ([], [3, 4, 6, 8]), ([2], [4, 6, 8]), (rgn 0 4, [6, 8]), ([], [6, 8]), (rgn 0 6, [8]), ([], [8]), (rgn 0 8, [])] (fun L ac w => ∃ (g17 : Nat), St 100 w0 [(42, L 0, ptA g2 0), (43, L 1, W x2), (44, L 2, ptA g1 8), (45, L 3, W z1), (46, L 4, W r15), (47, L 5, W r8), (48, L 6, W r16), (8, L 7, ptA g17 0), (2, true, ptA g1 0), (3, true, ptA g2 0), (4, true, ptA g3 0), (5, true, ptA g10 0), (6, true, ptA g11 0), (7, true, ptA g14 0)] [(true, g1, 86, (TVl x1 y1 z1)), (true, g2, 86, (TVl x2 y2 z2)), (true, g3, 86, (TVl 0 0 0)), (true, g10, 24, (Wl r8)), (true, g11, 24, (Wl r9)), (true, g14, 24, (Wl r13)), (L 7, g17, 24, (cond (L 8) (Wl r16) [.int .u64 0, .int .u64 0, .int .u64 0, .int .u64 0]))] ac w) (by kernel_rfl) (by kernel_rfl) ?_ ?_ ?_
   ·exact ⟨0, hs.drew.skip.skip.skip.skip.skip.skip.skip.skip.pad⟩
   ·refine ⟨?_, ?_, ?_, ?_, ?_, ?_, ?_, ?_, ?_, trivial⟩
    ·exact fun L ac w ⟨g17, hs⟩ => pln (op_fieldA hs (some 0) rfl rfl rfl underlying86 rfl sizeOf24 (by decide) rfl fun ac hs => ⟨g17, hs⟩)
    ·exact fun L ac w ⟨g17, hs⟩ => pln (oldd hs 1 1 (W x2) isAgg24 sizeOf24 rfl rfl rfl rfl rfl fun ac hs => ⟨g17, hs⟩)
    ·exact fun L ac w ⟨g17, hs⟩ => pln (op_fieldA hs (some 2) rfl rfl rfl underlying86 rfl sizeOf24 (by decide) rfl fun ac hs => ⟨g17, hs⟩)
    ·exact fun L ac w ⟨g17, hs⟩ => pln (oldd hs 3 0 (W z1) isAgg24 sizeOf24 rfl rfl rfl rfl rfl fun ac hs => ⟨g17, hs⟩)
    ·exact fun L ac w ⟨g17, hs⟩ => pln (op_call (F := 89) hs (some 4) (v := W r15) rfl rfl rfl rfl (call89 _) (rfmul_c x2 z1 r15 b1 a3 hr15) rfl fun ac w hs => ⟨g17, hs⟩)
    ·exact fun L ac w ⟨g17, hs⟩ => pln (oldd hs 5 3 (W r8) isAgg24 sizeOf24 rfl rfl rfl rfl rfl fun ac hs => ⟨g17, hs⟩)
    ·exact fun L ac w ⟨g17, hs⟩ => pln (op_call (F := 124) hs (some 6) (v := W r16) rfl rfl rfl rfl (call124 _) (rfsub_c r15 r8 r16 lr15 lr8 hr16) rfl fun ac w hs => ⟨g17, hs⟩)
    ·exact fun L ac w ⟨g17, hs⟩ => pln (op_alloc hs (some 7) (some 6) (cs := [.int .u64 0, .int .u64 0, .int .u64 0, .int .u64 0]) rfl rfl zeroValue24 (by kernel_rfl) rfl rfl fun g17 ac w hs => ⟨g17, hs⟩)
    ·exact fun L ac w ⟨g17, hs⟩ => pln (stoo hs 6 ((Wl r16)) sizeOf24 rfl rfl rfl rfl rfl rfl rfl rfl rfl rfl fun w hs => ⟨g17, hs⟩)
   intro ac w ⟨g17, hs⟩
   try dsimp only [cond_true] at hs
   refine then_n (wp_seq (wp_seq (wp_region_lit ?_)))
   refine ldd hs 6 (W r16) isAgg24 sizeOf24 rfl rfl rfl rfl rfl fun ac hs => ?_
   refine stp (op_build hs none (qs := []) (v := .agg #[.int .u64 0, .int .u64 0, .int .u64 0, .int .u64 0]) rfl rfl rfl rfl (fun _ => by kernel_rfl) rfl fun ac hs => ?_)
   refine stp (op_bin hs none (v := .bool (decide (r16 = 0))) rfl rfl rfl rfl (fun w => run_eqGuard_agg w .eql 24 _ _ _ _ Tryz.eqGuardType24) (eqlW r16 0 lr16 (by decide) _ rfl) rfl fun ac hs => ?_)
   refine wpList_nil (then_n ?_)
   refine wp_cond_split (hs.ev rfl) (fun hc => ?_) (fun hc => ?_)
   ·skip
    have hp18 := of_decide_eq_true hc
    refine wp_seq (wp_seq (wp_region_lit ?_))
    refine ldd hs 5 (W r13) isAgg24 sizeOf24 rfl rfl rfl rfl rfl fun ac hs => ?_
    refine stp (op_build hs none (qs := []) (v := .agg #[.int .u64 0, .int .u64 0, .int .u64 0, .int .u64 0]) rfl rfl rfl rfl (fun _ => by kernel_rfl) rfl fun ac hs => ?_)
    refine stp (op_bin hs none (v := .bool (decide (r13 = 0))) rfl rfl rfl rfl (fun w => run_eqGuard_agg w .eql 24 _ _ _ _ Tryz.eqGuardType24) (eqlW r13 0 lr13 (by decide) _ rfl) rfl fun ac hs => ?_)
    refine wpList_nil (then_n ?_)
    refine wp_cond_split (hs.ev rfl) (fun hc => ?_) (fun hc => ?_)
    ·skip
     have hp19 := of_decide_eq_true hc
     refine wp_seq ?_
     replace hs := hs.n0 [2, 3, 4, 5, 6, 7, 8] rfl rfl
     refine wp_region_lit ?_
     refine ldd hs 0 (TV x1 y1 z1) isAgg86 sizeOf86 rfl rfl rfl rfl rfl fun ac hs => ?_
     obtain ⟨X20, Y21, Z22, hX20, lX20, lY21, lZ22⟩ : ∃ zz0 zz1 zz2, tF x1 y1 z1 = (zz0, zz1, zz2) ∧ zz0 < 2 ^ 256 ∧ zz1 < 2 ^ 256 ∧ zz2 < 2 ^ 256 := tF_lt x1 y1 z1
     refine stp (op_call (F := 85) hs none (v := TV X20 Y21 Z22) rfl rfl rfl rfl (call85 _) (rtwice14_c x1 y1 z1 X20 Y21 Z22 a1 a2 a3 hX20) rfl fun ac w hs => ?_)
     refine stp (stoo hs 2 ((TVl X20 Y21 Z22)) sizeOf86 rfl rfl rfl rfl rfl rfl rfl rfl rfl rfl fun w hs => ?_)
     refine wpList_nil (then_n (wp_ret (then_r (then_r ?_))))
     exact bodyPost_ret (res1 rfl (rv_c hs 2 (v := TV X20 Y21 Z22) rfl rfl isAgg86 sizeOf86 rfl)) hs.defers ⟨by subst hr8 hr9 hr12 hr13 hr15 hr16; obtain ⟨rfl, rfl, rfl⟩ := tri3 (hX20.symm.trans ((pF_3 hp5 hp7 hp18 hp19).symm.trans hE)); rfl, (hs.bel rfl)⟩
    ·skip
     have hp23 := of_decide_eq_false hc
     refine wp_skip (then_n (wp_seq ?_))
     replace hs := hs.n0 [2, 3, 4, 5, 6, 7, 8] rfl rfl
     refine wp_region_lit ?_
     refine stp (op_build hs none (qs := []) (v := TV 0 0 0) rfl rfl rfl rfl (fun _ => by kernel_rfl) rfl fun ac hs => ?_)
     refine stp (stoo hs 2 ((TVl 0 0 0)) sizeOf86 rfl rfl rfl rfl rfl rfl rfl rfl rfl rfl fun w hs => ?_)
     refine wpList_nil (then_n (wp_ret (then_r ?_)))
     exact bodyPost_ret (res1 rfl (rv_c hs 2 (v := TV 0 0 0) rfl rfl isAgg86 sizeOf86 rfl)) hs.defers ⟨by subst hr8 hr9 hr12 hr13 hr15 hr16; obtain ⟨rfl, rfl, rfl⟩ := tri3 ((pF_4 hp5 hp7 hp18 hp23).symm.trans hE); rfl, (hs.bel rfl)⟩
   ·skip
    have hp24 := of_decide_eq_false hc
    refine wp_skip (then_n (wp_seq (wp_region_lit ?_)))
    refine stp (op_fieldA hs none rfl rfl rfl underlying86 rfl sizeOf24 (by decide) rfl fun ac hs => ?_)
    refine ldd hs 0 (W z1) isAgg24 sizeOf24 rfl rfl rfl rfl rfl fun ac hs => ?_
    refine stp (op_fieldA hs none rfl rfl rfl underlying86 rfl sizeOf24 (by decide) rfl fun ac hs => ?_)
    refine ldd hs 1 (W z2) isAgg24 sizeOf24 rfl rfl rfl rfl rfl fun ac hs => ?_
    obtain ⟨r25, hr25, lr25⟩ : ∃ z0, z1 * z2 % Pf = z0 ∧ z0 < 2 ^ 256 := ⟨_, rfl, modP_lt _⟩
    refine stp (op_call (F := 89) hs none (v := W r25) rfl rfl rfl rfl (call89 _) (rfmul_c z1 z2 r25 a3 b3 hr25) rfl fun ac w hs => ?_)
    refine stp (op_alloc hs none none (cs := [.int .u64 0, .int .u64 0, .int .u64 0, .int .u64 0]) rfl rfl zeroValue24 (by kernel_rfl) rfl rfl fun g26 ac w hs => ?_)
    refine stp (stoo hs 7 ((Wl r25)) sizeOf24 rfl rfl rfl rfl rfl rfl rfl rfl rfl rfl fun w hs => ?_)
    refine wpList_nil (then_n (wp_seq ?_))
    replace hs := hs.n0 [4, 5, 6, 7, 8, 9] rfl rfl
    refine wp_region_lit ?_
    refine ldd hs 6 (W r16) isAgg24 sizeOf24 rfl rfl rfl rfl rfl fun ac hs => ?_
    refine ldd hs 6 (W r16) isAgg24 sizeOf24 rfl rfl rfl rfl rfl fun ac hs => ?_
    obtain ⟨r27, hr27, lr27⟩ : ∃ z0, r16 * r16 % Pf = z0 ∧ z0 < 2 ^ 256 := ⟨_, rfl, modP_lt _⟩
    refine stp (op_call (F := 89) hs none (v := W r27) rfl rfl rfl rfl (call89 _) (rfmul_c r16 r16 r27 lr16 lr16 hr27) rfl fun ac w hs => ?_)
    refine stp (op_alloc hs none none (cs := [.int .u64 0, .int .u64 0, .int .u64 0, .int .u64 0]) rfl rfl zeroValue24 (by kernel_rfl) rfl rfl fun g28 ac w hs => ?_)
    refine stp (stoo hs 8 ((Wl r27)) sizeOf24 rfl rfl rfl rfl rfl rfl rfl rfl rfl rfl fun w hs => ?_)
    refine wpList_nil (then_n (wp_seq (wp_region_lit ?_)))
    refine ldd hs 8 (W r27) isAgg24 sizeOf24 rfl rfl rfl rfl rfl fun ac hs => ?_
    refine ldd hs 6 (W r16) isAgg24 sizeOf24 rfl rfl rfl rfl rfl fun ac hs => ?_
    obtain ⟨r29, hr29, lr29⟩ : ∃ z0, r27 * r16 % Pf = z0 ∧ z0 < 2 ^ 256 := ⟨_, rfl, modP_lt _⟩
    refine stp (op_call (F := 89) hs none (v := W r29) rfl rfl rfl rfl (call89 _) (rfmul_c r27 r16 r29 lr27 lr16 hr29) rfl fun ac w hs => ?_)
    refine stp (op_alloc hs none none (cs := [.int .u64 0, .int .u64 0, .int .u64 0, .int .u64 0]) rfl rfl zeroValue24 (by kernel_rfl) rfl rfl fun g30 ac w hs => ?_)
    refine stp (stoo hs 9 ((Wl r29)) sizeOf24 rfl rfl rfl rfl rfl rfl rfl rfl rfl rfl fun w hs => ?_)
    refine wpList_nil (then_n (wp_seq ?_))
    replace hs := hs.n0 [4, 5, 6, 7, 8, 9, 10, 11] rfl rfl
    refine wp_region_lit ?_
    refine ldd hs 8 (W r27) isAgg24 sizeOf24 rfl rfl rfl rfl rfl fun ac hs => ?_
    refine ldd hs 3 (W r8) isAgg24 sizeOf24 rfl rfl rfl rfl rfl fun ac hs => ?_
    obtain ⟨r31, hr31, lr31⟩ : ∃ z0, r27 * r8 % Pf = z0 ∧ z0 < 2 ^ 256 := ⟨_, rfl, modP_lt _⟩
    refine stp (op_call (F := 89) hs none (v := W r31) rfl rfl rfl rfl (call89 _) (rfmul_c r27 r8 r31 lr27 lr8 hr31) rfl fun ac w hs => ?_)
    refine stp (op_alloc hs none none (cs := [.int .u64 0, .int .u64 0, .int .u64 0, .int .u64 0]) rfl rfl zeroValue24 (by kernel_rfl) rfl rfl fun g32 ac w hs => ?_)
    refine stp (stoo hs 10 ((Wl r31)) sizeOf24 rfl rfl rfl rfl rfl rfl rfl rfl rfl rfl fun w hs => ?_)
    refine wpList_nil (then_n (wp_seq ?_))
    replace hs := hs.n0 [4, 6, 7, 8, 9, 11, 12] rfl rfl
    obtain ⟨r33, hr33, lr33⟩ : ∃ z0, r13 * r13 % Pf = z0 ∧ z0 < 2 ^ 256 := ⟨_, rfl, modP_lt _⟩
    obtain ⟨r34, hr34, lr34⟩ : ∃ z0, r33 * r25 % Pf = z0 ∧ z0 < 2 ^ 256 := ⟨_, rfl, modP_lt _⟩
    obtain ⟨r35, hr35, lr35⟩ : ∃ z0, fsub r34 r29 = z0 ∧ z0 < 2 ^ 256 := ⟨_, rfl, fsub_lt _ _⟩
    obtain ⟨r36, hr36, lr36⟩ : ∃ z0, (r31 + r31) % Pf = z0 ∧ z0 < 2 ^ 256 := ⟨_, rfl, modP_lt _⟩
    obtain ⟨r37, hr37, lr37⟩ : ∃ z0, fsub r35 r36 = z0 ∧ z0 < 2 ^ 256 := ⟨_, rfl, fsub_lt _ _⟩
    refine region_inv [([], [2, 4, 6, 9, 10, 12]), ([], [2, 4, 6, 9, 10, 12]), ([0, 1], [4, 6, 9, 10, 12]), ([], [4, 6, 9, 10, 12]), (rgn 0 4, [6, 9, 10, 12]), ([], [6, 9, 10, 12]), (rgn 0 6, [9, 10, 12]), ([], [9, 10, 12]), ([], [9, 10, 12]), (rgn 0 9, [10, 12]), (rgn 0 10, [12]), ([], [12]), (rgn 0 12, [])] (fun L ac w => ∃ (g38 : Nat), St 100 w0 [(72, L 0, W r13), (73, L 1, W r13), (74, L 2, W r33), (75, L 3, W r25), (76, L 4, W r34), (77, L 5, W r29), (78, L 6, W r35), (79, L 7, W r31), (80, L 8, W r31), (81, L 9, W r36), (82, L 10, W r37), (13, L 11, ptA g38 0), (4, true, ptA g3 0), (6, true, ptA g11 0), (7, true, ptA g14 0), (8, true, ptA g17 0), (9, true, ptA g26 0), (11, true, ptA g30 0), (12, true, ptA g32 0)] [(true, g1, 86, (TVl x1 y1 z1)), (true, g2, 86, (TVl x2 y2 z2)), (true, g3, 86, (TVl 0 0 0)), (true, g10, 24, (Wl r8)), (true, g11, 24, (Wl r9)), (true, g14, 24, (Wl r13)), (true, g17, 24, (Wl r16)), (true, g26, 24, (Wl r25)), (true, g28, 24, (Wl r27)), (true, g30, 24, (Wl r29)), (true, g32, 24, (Wl r31)), (L 11, g38, 24, (cond (L 12) (Wl r37) [.int .u64 0, .int .u64 0, .int .u64 0, .int .u64 0]))] ac w) (by kernel_rfl) (by kernel_rfl) ?_ ?_ ?_
    ·exact ⟨0, hs.drew.skip.skip.skip.skip.skip.skip.skip.skip.skip.skip.skip.skip.pad⟩
    ·refine ⟨?_, ?_, ?_, ?_, ?_, ?_, ?_, ?_, ?_, ?_, ?_, ?_, ?_, trivial⟩
     ·exact fun L ac w ⟨g38, hs⟩ => pln (oldd hs 0 5 (W r13) isAgg24 sizeOf24 rfl rfl rfl rfl rfl fun ac hs => ⟨g38, hs⟩)
     ·exact fun L ac w ⟨g38, hs⟩ => pln (oldd hs 1 5 (W r13) isAgg24 sizeOf24 rfl rfl rfl rfl rfl fun ac hs => ⟨g38, hs⟩)
     ·exact fun L ac w ⟨g38, hs⟩ => pln (op_call (F := 89) hs (some 2) (v := W r33) rfl rfl rfl rfl (call89 _) (rfmul_c r13 r13 r33 lr13 lr13 hr33) rfl fun ac w hs => ⟨g38, hs⟩)
     ·exact fun L ac w ⟨g38, hs⟩ => pln (oldd hs 3 7 (W r25) isAgg24 sizeOf24 rfl rfl rfl rfl rfl fun ac hs => ⟨g38, hs⟩)
     ·exact fun L ac w ⟨g38, hs⟩ => pln (op_call (F := 89) hs (some 4) (v := W r34) rfl rfl rfl rfl (call89 _) (rfmul_c r33 r25 r34 lr33 lr25 hr34) rfl fun ac w hs => ⟨g38, hs⟩)
     ·exact fun L ac w ⟨g38, hs⟩ => pln (oldd hs 5 9 (W r29) isAgg24 sizeOf24 rfl rfl rfl rfl rfl fun ac hs => ⟨g38, hs⟩)
     ·exact fun L ac w ⟨g38, hs⟩ => pln (op_call (F := 124) hs (some 6) (v := W r35) rfl rfl rfl rfl (call124 _) (rfsub_c r34 r29 r35 lr34 lr29 hr35) rfl fun ac w hs => ⟨g38, hs⟩)
     ·exact fun L ac w ⟨g38, hs⟩ => pln (oldd hs 7 10 (W r31) isAgg24 sizeOf24 rfl rfl rfl rfl rfl fun ac hs => ⟨g38, hs⟩)
     ·exact fun L ac w ⟨g38, hs⟩ => pln (oldd hs 8 10 (W r31) isAgg24 sizeOf24 rfl rfl rfl rfl rfl fun ac hs => ⟨g38, hs⟩)
     ·exact fun L ac w ⟨g38, hs⟩ => pln (op_call (F := 122) hs (some 9) (v := W r36) rfl rfl rfl rfl (call122 _) (rfadd_c r31 r31 r36 lr31 lr31 hr36) rfl fun ac w hs => ⟨g38, hs⟩)
     ·exact fun L ac w ⟨g38, hs⟩ => pln (op_call (F := 124) hs (some 10) (v := W r37) rfl rfl rfl rfl (call124 _) (rfsub_c r35 r36 r37 lr35 lr36 hr37) rfl fun ac w hs => ⟨g38, hs⟩)
     ·exact fun L ac w ⟨g38, hs⟩ => pln (op_alloc hs (some 11) (some 11) (cs := [.int .u64 0, .int .u64 0, .int .u64 0, .int .u64 0]) rfl rfl zeroValue24 (by kernel_rfl) rfl rfl fun g38 ac w hs => ⟨g38, hs⟩)
     ·exact fun L ac w ⟨g38, hs⟩ => pln (stoo hs 11 ((Wl r37)) sizeOf24 rfl rfl rfl rfl rfl rfl rfl rfl rfl rfl fun w hs => ⟨g38, hs⟩)
    intro ac w ⟨g38, hs⟩
    try dsimp only [cond_true] at hs
    refine then_n (wp_seq ?_)
    replace hs := hs.n0 [4, 6, 7, 8, 9, 11, 12, 13] rfl rfl
    obtain ⟨r39, hr39, lr39⟩ : ∃ z0, fsub r31 r37 = z0 ∧ z0 < 2 ^ 256 := ⟨_, rfl, fsub_lt _ _⟩
    obtain ⟨r40, hr40, lr40⟩ : ∃ z0, r13 * r39 % Pf = z0 ∧ z0 < 2 ^ 256 := ⟨_, rfl, modP_lt _⟩
    obtain ⟨r41, hr41, lr41⟩ : ∃ z0, r29 * r9 % Pf = z0 ∧ z0 < 2 ^ 256 := ⟨_, rfl, modP_lt _⟩
    obtain ⟨r42, hr42, lr42⟩ : ∃ z0, fsub r40 r41 = z0 ∧ z0 < 2 ^ 256 := ⟨_, rfl, fsub_lt _ _⟩
    refine region_inv [([], [4, 7, 8, 10]), ([], [3, 4, 7, 8, 10]), ([], [3, 4, 7, 8, 10]), ([1, 2], [4, 7, 8, 10]), (rgn 0 4, [7, 8, 10]), ([], [7, 8, 10]), ([], [7, 8, 10]), (rgn 0 7, [8, 10]), (rgn 0 8, [10]), ([], [10]), (rgn 0 10, [])] (fun L ac w => ∃ (g43 : Nat), St 100 w0 [(83, L 0, W r13), (84, L 1, W r31), (85, L 2, W r37), (86, L 3, W r39), (87, L 4, W r40), (88, L 5, W r29), (89, L 6, W r9), (90, L 7, W r41), (91, L 8, W r42), (14, L 9, ptA g43 0), (4, true, ptA g3 0), (6, true, ptA g11 0), (7, true, ptA g14 0), (8, true, ptA g17 0), (9, true, ptA g26 0), (11, true, ptA g30 0), (12, true, ptA g32 0), (13, true, ptA g38 0)] [(true, g1, 86, (TVl x1 y1 z1)), (true, g2, 86, (TVl x2 y2 z2)), (true, g3, 86, (TVl 0 0 0)), (true, g10, 24, (Wl r8)), (true, g11, 24, (Wl r9)), (true, g14, 24, (Wl r13)), (true, g17, 24, (Wl r16)), (true, g26, 24, (Wl r25)), (true, g28, 24, (Wl r27)), (true, g30, 24, (Wl r29)), (true, g32, 24, (Wl r31)), (true, g38, 24, (Wl r37)), (L 9, g43, 24, (cond (L 10) (Wl r42) [.int .u64 0, .int .u64 0, .int .u64 0, .int .u64 0]))] ac w) (by kernel_rfl) (by kernel_rfl) ?_ ?_ ?_
    ·exact ⟨0, hs.drew.skip.skip.skip.skip.skip.skip.skip.skip.skip.skip.pad⟩
    ·refine ⟨?_, ?_, ?_, ?_, ?_, ?_, ?_, ?_, ?_, ?_, ?_, trivial⟩
     ·exact fun L ac w ⟨g43, hs⟩ => pln (oldd hs 0 5 (W r13) isAgg24 sizeOf24 rfl rfl rfl rfl rfl fun ac hs => ⟨g43, hs⟩)
     ·exact fun L ac w ⟨g43, hs⟩ => pln (oldd hs 1 10 (W r31) isAgg24 sizeOf24 rfl rfl rfl rfl rfl fun ac hs => ⟨g43, hs⟩)
     ·exact fun L ac w ⟨g43, hs⟩ => pln (oldd hs 2 11 (W r37) isAgg24 sizeOf24 rfl rfl rfl rfl rfl fun ac hs => ⟨g43, hs⟩)
     ·exact fun L ac w ⟨g43, hs⟩ => pln (op_call (F := 124) hs (some 3) (v := W r39) rfl rfl rfl rfl (call124 _) (rfsub_c r31 r37 r39 lr31 lr37 hr39) rfl fun ac w hs => ⟨g43, hs⟩)
     ·exact fun L ac w ⟨g43, hs⟩ => pln (op_call (F := 89) hs (some 4) (v := W r40) rfl rfl rfl rfl (call89 _) (rfmul_c r13 r39 r40 lr13 lr39 hr40) rfl fun ac w hs => ⟨g43, hs⟩)
     ·exact fun L ac w ⟨g43, hs⟩ => pln (oldd hs 5 9 (W r29) isAgg24 sizeOf24 rfl rfl rfl rfl rfl fun ac hs => ⟨g43, hs⟩)
     ·exact fun L ac w ⟨g43, hs⟩ => pln (oldd hs 6 4 (W r9) isAgg24 sizeOf24 rfl rfl rfl rfl rfl fun ac hs => ⟨g43, hs⟩)
     ·exact fun L ac w ⟨g43, hs⟩ => pln (op_call (F := 89) hs (some 7) (v := W r41) rfl rfl rfl rfl (call89 _) (rfmul_c r29 r9 r41 lr29 lr9 hr41) rfl fun ac w hs => ⟨g43, hs⟩)
     ·exact fun L ac w ⟨g43, hs⟩ => pln (op_call (F := 124) hs (some 8) (v := W r42) rfl rfl rfl rfl (call124 _) (rfsub_c r40 r41 r42 lr40 lr41 hr42) rfl fun ac w hs => ⟨g43, hs⟩)
     ·exact fun L ac w ⟨g43, hs⟩ => pln (op_alloc hs (some 9) (some 12) (cs := [.int .u64 0, .int .u64 0, .int .u64 0, .int .u64 0]) rfl rfl zeroValue24 (by kernel_rfl) rfl rfl fun g43 ac w hs => ⟨g43, hs⟩)
     ·exact fun L ac w ⟨g43, hs⟩ => pln (stoo hs 12 ((Wl r42)) sizeOf24 rfl rfl rfl rfl rfl rfl rfl rfl rfl rfl fun w hs => ⟨g43, hs⟩)
    intro ac w ⟨g43, hs⟩
    try dsimp only [cond_true] at hs
    refine then_n (wp_seq ?_)
    replace hs := hs.n0 [4, 8, 9, 11, 13, 14] rfl rfl
    obtain ⟨r44, hr44, lr44⟩ : ∃ z0, r16 * r37 % Pf = z0 ∧ z0 < 2 ^ 256 := ⟨_, rfl, modP_lt _⟩
    obtain ⟨r45, hr45, lr45⟩ : ∃ z0, r29 * r25 % Pf = z0 ∧ z0 < 2 ^ 256 := ⟨_, rfl, modP_lt _⟩
    refine region_inv [([], [2, 6, 7, 8]), ([], [2, 6, 7, 8]), ([0, 1], [6, 7, 8]), ([], [7, 8]), ([], [6, 7, 8]), ([], [6, 7, 8]), ([0, 1, 2, 4, 5], [7, 8]), (rgn 0 7, [8]), (rgn 0 8, [])] (fun L ac w => St 100 w0 [(92, L 0, W r16), (93, L 1, W r37), (94, L 2, W r44), (95, L 3, W r42), (96, L 4, W r29), (97, L 5, W r25), (98, L 6, W r45), (99, L 7, TV r44 r42 r45), (4, true, ptA g3 0), (8, true, ptA g17 0), (9, true, ptA g26 0), (11, true, ptA g30 0), (13, true, ptA g38 0), (14, true, ptA g43 0)] [(true, g1, 86, (TVl x1 y1 z1)), (true, g2, 86, (TVl x2 y2 z2)), (true, g3, 86, (cond (L 8) (TVl r44 r42 r45) (TVl 0 0 0))), (true, g10, 24, (Wl r8)), (true, g11, 24, (Wl r9)), (true, g14, 24, (Wl r13)), (true, g17, 24, (Wl r16)), (true, g26, 24, (Wl r25)), (true, g28, 24, (Wl r27)), (true, g30, 24, (Wl r29)), (true, g32, 24, (Wl r31)), (true, g38, 24, (Wl r37)), (true, g43, 24, (Wl r42))] ac w) (by kernel_rfl) (by kernel_rfl) ?_ ?_ ?_
    ·exact hs.drew.skip.skip.skip.skip.skip.skip.skip.skip
    ·refine ⟨?_, ?_, ?_, ?_, ?_, ?_, ?_, ?_, ?_, trivial⟩
     ·exact fun L ac w hs => pln (oldd hs 0 6 (W r16) isAgg24 sizeOf24 rfl rfl rfl rfl rfl fun ac hs => hs)
     ·exact fun L ac w hs => pln (oldd hs 1 11 (W r37) isAgg24 sizeOf24 rfl rfl rfl rfl rfl fun ac hs => hs)
     ·exact fun L ac w hs => pln (op_call (F := 89) hs (some 2) (v := W r44) rfl rfl rfl rfl (call89 _) (rfmul_c r16 r37 r44 lr16 lr37 hr44) rfl fun ac w hs => hs)
     ·exact fun L ac w hs => pln (oldd hs 3 12 (W r42) isAgg24 sizeOf24 rfl rfl rfl rfl rfl fun ac hs => hs)
     ·exact fun L ac w hs => pln (oldd hs 4 9 (W r29) isAgg24 sizeOf24 rfl rfl rfl rfl rfl fun ac hs => hs)
     ·exact fun L ac w hs => pln (oldd hs 5 7 (W r25) isAgg24 sizeOf24 rfl rfl rfl rfl rfl fun ac hs => hs)
     ·exact fun L ac w hs => pln (op_call (F := 89) hs (some 6) (v := W r45) rfl rfl rfl rfl (call89 _) (rfmul_c r29 r25 r45 lr29 lr25 hr45) rfl fun ac w hs => hs)
     ·exact fun L ac w hs => pln (op_build hs (some 7) (qs := [(0, W r44), (1, W r42), (2, W r45)]) (v := TV r44 r42 r45) rfl rfl rfl rfl (fun _ => by kernel_rfl) rfl fun ac hs => hs)
     ·exact fun L ac w hs => pln (stoo hs 2 ((TVl r44 r42 r45)) sizeOf86 rfl rfl rfl rfl rfl rfl rfl rfl rfl rfl fun w hs => hs)
    intro ac w hs
    try dsimp only [cond_true] at hs
    refine then_n (wp_ret ?_)
    exact bodyPost_ret (res1 rfl (rv_c hs 2 (v := TV r44 r42 r45) rfl rfl isAgg86 sizeOf86 rfl)) hs.defers ⟨by subst hr8 hr9 hr12 hr13 hr15 hr16 hr25 hr27 hr29 hr31 hr33 hr34 hr35 hr36 hr37 hr39 hr40 hr41 hr42 hr44 hr45; obtain ⟨rfl, rfl, rfl⟩ := tri3 ((pF_5 hp5 hp7 hp24).symm.trans hE); rfl, (hs.bel rfl)⟩
theorem rmul14_c (a x y : Nat) (z : Bool) (P T : EM.Pt Pf) (ha : a < 2 ^ 256) (hx : x < 2 ^ 256) (hy : y < 2 ^ 256) (hP : ptOf x y z = P) (hT : EM.nmul a P = T) (w0 : World) : Calls prog 38 #[W a, PV x y z] w0 fun e w' => e = .returned (PV (px T) (py T) (pz T)) ∧ Below w0.heap.size w0 w' := by
 have oP : P.on := by rw [← hP]; exact pt_on x y z
 refine enter (n := 54) (args := [W a, PV x y z]) func38 rfl rfl (Nat.le_of_ble_eq_true rfl) fun ac hs => ?_
 refine wp_seq (wp_region_lit ?_)
 refine stp (op_box hs none none (cs := (Wl a)) rfl rfl rfl rfl rfl rfl fun g1 ac w hs => ?_)
 refine stp (op_box hs none none (cs := (PVl x y z)) rfl rfl rfl rfl rfl rfl fun g2 ac w hs => ?_)
 refine stp (op_alloc hs none none (cs := (PVl 0 0 false)) rfl rfl zeroValue42 (by kernel_rfl) rfl rfl fun g3 ac w hs => ?_)
 refine wpList_nil (then_n (wp_seq (wp_region_lit ?_)))
 refine ldd hs 1 (PV x y z) isAgg42 sizeOf42 rfl rfl rfl rfl rfl fun ac hs => ?_
 refine stp (op_call (F := 83) hs none (v := PV (px P) (py P) (pz P)) rfl rfl rfl rfl (call83 _) (own_c x y z P hx hy hP) rfl fun ac w hs => ?_)
 refine stp (stoo hs 1 ((PVl (px P) (py P) (pz P))) sizeOf42 rfl rfl rfl rfl rfl rfl rfl rfl rfl rfl fun w hs => ?_)
 refine wpList_nil (then_n (wp_seq ?_))
 replace hs : St 54 w0 [(2, true, ptA g1 0), (3, true, ptA g2 0), (4, true, ptA g3 0)] [(true, g1, 24, (Wl a)), (true, g2, 42, (PVl (px P) (py P) (pz P))), (true, g3, 42, (PVl 0 0 false))] ac _ := hs.re ⟨rfl, rfl, rfl, trivial⟩
 refine wp_region_lit ?_
 refine stp (op_fieldA hs none rfl rfl rfl underlying42 rfl sizeOf24 (by decide) rfl fun ac hs => ?_)
 refine ldd hs 1 (W (px P)) isAgg24 sizeOf24 rfl rfl rfl rfl rfl fun ac hs => ?_
 refine stp (op_fieldA hs none rfl rfl rfl underlying42 rfl sizeOf24 (by decide) rfl fun ac hs => ?_)
 refine ldd hs 1 (W (py P)) isAgg24 sizeOf24 rfl rfl rfl rfl rfl fun ac hs => ?_
 refine stp (op_build hs none (qs := [(0, .int .u64 1)]) (v := .agg #[.int .u64 1, .int .u64 0, .int .u64 0, .int .u64 0]) rfl rfl rfl rfl (fun _ => by kernel_rfl) rfl fun ac hs => ?_)
 refine stp (op_build hs none (qs := [(0, W (px P)), (1, W (py P)), (2, .agg #[.int .u64 1, .int .u64 0, .int .u64 0, .int .u64 0])]) (v := .agg #[.int .u64 (lim (px P) 0), .int .u64 (lim (px P) 1), .int .u64 (lim (px P) 2), .int .u64 (lim (px P) 3), .int .u64 (lim (py P) 0), .int .u64 (lim (py P) 1), .int .u64 (lim (py P) 2), .int .u64 (lim (py P) 3), .int .u64 1, .int .u64 0, .int .u64 0, .int .u64 0]) rfl rfl rfl rfl (fun _ => by kernel_rfl) rfl fun ac hs => ?_)
 refine stp (op_alloc hs none none (cs := (TVl 0 0 0)) rfl rfl zeroValue86 (by kernel_rfl) rfl rfl fun g4 ac w hs => ?_)
 refine stp (stoo hs 3 ([.int .u64 (lim (px P) 0), .int .u64 (lim (px P) 1), .int .u64 (lim (px P) 2), .int .u64 (lim (px P) 3), .int .u64 (lim (py P) 0), .int .u64 (lim (py P) 1), .int .u64 (lim (py P) 2), .int .u64 (lim (py P) 3), .int .u64 1, .int .u64 0, .int .u64 0, .int .u64 0]) sizeOf86 rfl rfl rfl rfl rfl rfl rfl rfl rfl rfl fun w hs => ?_)
 refine wpList_nil (then_n (wp_seq (wp_seq ?_)))
 replace hs : St 54 w0 [(2, true, ptA g1 0), (3, true, ptA g2 0), (4, true, ptA g3 0), (5, true, ptA g4 0)] [(true, g1, 24, (Wl a)), (true, g2, 42, (PVl (px P) (py P) (pz P))), (true, g3, 42, (PVl 0 0 false)), (true, g4, 86, [.int .u64 (lim (px P) 0), .int .u64 (lim (px P) 1), .int .u64 (lim (px P) 2), .int .u64 (lim (px P) 3), .int .u64 (lim (py P) 0), .int .u64 (lim (py P) 1), .int .u64 (lim (py P) 2), .int .u64 (lim (py P) 3), .int .u64 1, .int .u64 0, .int .u64 0, .int .u64 0])] ac _ := hs.re ⟨rfl, rfl, rfl, rfl, trivial⟩
 refine wp_region_lit ?_
 refine stp (op_fieldA hs none rfl rfl rfl underlying42 rfl sizeOf4 (by decide) rfl fun ac hs => ?_)
 refine ldd hs 1 (.bool (pz P)) isAgg4 sizeOf4 rfl rfl rfl rfl rfl fun ac hs => ?_
 refine wpList_nil (then_n ?_)
 refine wp_cond_split (hs.ev rfl) (fun hc => ?_) (fun hc => ?_)
 ·skip
  have hzP := hc
  refine wp_region_lit ?_
  refine stp (op_build hs none (qs := []) (v := TV 0 0 0) rfl rfl rfl rfl (fun _ => by kernel_rfl) rfl fun ac hs => ?_)
  refine stp (stoo hs 3 ((TVl 0 0 0)) sizeOf86 rfl rfl rfl rfl rfl rfl rfl rfl rfl rfl fun w hs => ?_)
  refine wpList_nil (then_n (wp_seq (wp_region_lit ?_)))
  refine stp (op_build hs none (qs := []) (v := TV 0 0 0) rfl rfl rfl rfl (fun _ => by kernel_rfl) rfl fun ac hs => ?_)
  refine stp (op_alloc hs none none (cs := (TVl 0 0 0)) rfl rfl zeroValue86 (by kernel_rfl) rfl rfl fun g5 ac w hs => ?_)
  refine stp (stoo hs 4 ((TVl 0 0 0)) sizeOf86 rfl rfl rfl rfl rfl rfl rfl rfl rfl rfl fun w hs => ?_)
  refine wpList_nil (then_n (wp_seq (wp_seq ?_)))
  replace hs : St 54 w0 [(2, true, ptA g1 0), (4, true, ptA g3 0), (5, true, ptA g4 0), (6, true, ptA g5 0)] [(true, g1, 24, (Wl a)), (true, g2, 42, (PVl (px P) (py P) (pz P))), (true, g3, 42, (PVl 0 0 false)), (true, g4, 86, (TVl 0 0 0)), (true, g5, 86, (TVl 0 0 0))] ac _ := hs.re ⟨rfl, rfl, rfl, rfl, trivial⟩
  refine wp_region_lit ?_
  refine ldd hs 0 (W a) isAgg24 sizeOf24 rfl rfl rfl rfl rfl fun ac hs => ?_
  have ll6 := ln_le a 256 ha
  refine stp (op_call (F := 84) hs none (v := ni64 (ln a)) rfl rfl rfl rfl (call84 _) (fun w => lenR_any w a ha) rfl fun ac w hs => ?_)
  refine bnn hs (.int .i64 (((ln a : Nat) : Int) - 1)) rfl rfl rfl rfl (bin_subP (by omega)) fun ac hs => ?_
  refine asg hs rfl rfl rfl fun ac hs => ?_
  refine wpList_nil (then_n (wp_block ?_))
  refine wp_loop_m (fun μ ac w => ∃ (k : Nat) (ox : Nat) (oy : Nat) (oz : Nat), (k) = μ ∧ (k ≤ 256) ∧ (FN ox oy oz (EM.nmul (a / 2 ^ k) P)) ∧ (ox < 2 ^ 256) ∧ (oy < 2 ^ 256) ∧ (oz < 2 ^ 256) ∧ St 54 w0 [(2, true, ptA g1 0), (4, true, ptA g3 0), (5, true, ptA g4 0), (6, true, ptA g5 0), (7, true, .int .i64 (((k : Nat) : Int) - 1))] [(true, g1, 24, (Wl a)), (true, g2, 42, (PVl (px P) (py P) (pz P))), (true, g3, 42, (PVl 0 0 false)), (true, g4, 86, (TVl 0 0 0)), (true, g5, 86, (TVl ox oy oz))] ac w) ?_ ?_
  ·exact ⟨_, (ln a), 0, 0, 0, rfl, (ln_le a 256 ha), (fn_start (ln_spec a).1), (by decide), (by decide), (by decide), (hs.re ⟨rfl, rfl, rfl, rfl, rfl, trivial⟩)⟩
  intro μ ac w ⟨k, ox, oy, oz, hμ, hk, hJn, lx, ly, lz, hs⟩
  refine wp_seq (wp_seq (wp_region_lit ?_))
  refine mvv hs rfl rfl rfl fun ac hs => ?_
  refine bnn hs (.bool (decide (1 ≤ k))) rfl rfl rfl rfl bin_geqP fun ac hs => ?_
  refine wpList_nil (then_n ?_)
  refine wp_cond_split (hs.ev rfl) (fun hc => ?_) (fun hc => ?_)
  ·skip
   have hp7 := of_decide_eq_true hc
   replace hs := hs.re (fs' := [(2, true, ptA g1 0), (4, true, ptA g3 0), (5, true, ptA g4 0), (6, true, ptA g5 0), (7, true, ni64 (k - 1)), (24, true, .int .i64 (((k : Nat) : Int) - 1)), (25, true, .bool (decide (1 ≤ k)))]) ⟨rfl, rfl, rfl, rfl, congrArg some (pre_nat hp7), rfl, rfl, trivial⟩
   refine wp_skip (then_n (wp_seq (wp_block (wp_seq (wp_region_lit ?_)))))
   refine ldd hs 4 (TV ox oy oz) isAgg86 sizeOf86 rfl rfl rfl rfl rfl fun ac hs => ?_
   obtain ⟨X8, Y9, Z10, hX8, lX8, lY9, lZ10⟩ : ∃ zz0 zz1 zz2, tF ox oy oz = (zz0, zz1, zz2) ∧ zz0 < 2 ^ 256 ∧ zz1 < 2 ^ 256 ∧ zz2 < 2 ^ 256 := tF_lt ox oy oz
   refine stp (op_call (F := 85) hs none (v := TV X8 Y9 Z10) rfl rfl rfl rfl (call85 _) (rtwice14_c ox oy oz X8 Y9 Z10 lx ly lz hX8) rfl fun ac w hs => ?_)
   refine stp (stoo hs 4 ((TVl X8 Y9 Z10)) sizeOf86 rfl rfl rfl rfl rfl rfl rfl rfl rfl rfl fun w hs => ?_)
   refine wpList_nil (then_n (wp_seq (wp_region_lit ?_)))
   refine ldd hs 0 (W a) isAgg24 sizeOf24 rfl rfl rfl rfl rfl fun ac hs => ?_
   refine mvv hs rfl rfl rfl fun ac hs => ?_
   obtain ⟨b11, hb11⟩ : ∃ z0, a / 2 ^ (k - 1) % 2 = z0 := ⟨_, rfl⟩
   have lb11 := bit_le hb11
   refine stp (op_call (F := 86) hs none (v := nu64 b11) rfl rfl rfl rfl (call86 _) (rbit_c a (k - 1) b11 (show k - 1 < 256 by omega) hb11) rfl fun ac w hs => ?_)
   refine bnn hs (.bool (decide (b11 = 1))) rfl rfl rfl rfl (bin_eqlN (y := 1)) fun ac hs => ?_
   refine wpList_nil (then_n ?_)
   refine wp_cond_split (hs.ev rfl) (fun hc => ?_) (fun hc => ?_)
   ·skip
    have hp12 := of_decide_eq_true hc
    replace hs : St 54 w0 [(2, true, ptA g1 0), (4, true, ptA g3 0), (5, true, ptA g4 0), (6, true, ptA g5 0), (7, true, ni64 (k - 1))] [(true, g1, 24, (Wl a)), (true, g2, 42, (PVl (px P) (py P) (pz P))), (true, g3, 42, (PVl 0 0 false)), (true, g4, 86, (TVl 0 0 0)), (true, g5, 86, (TVl X8 Y9 Z10))] ac _ := hs.re ⟨rfl, rfl, rfl, rfl, rfl, trivial⟩
    refine wp_region_lit ?_
    refine ldd hs 4 (TV X8 Y9 Z10) isAgg86 sizeOf86 rfl rfl rfl rfl rfl fun ac hs => ?_
    refine ldd hs 3 (TV 0 0 0) isAgg86 sizeOf86 rfl rfl rfl rfl rfl fun ac hs => ?_
    obtain ⟨X13, Y14, Z15, hX13, lX13, lY14, lZ15⟩ : ∃ zz0 zz1 zz2, pF X8 Y9 Z10 0 0 0 = (zz0, zz1, zz2) ∧ zz0 < 2 ^ 256 ∧ zz1 < 2 ^ 256 ∧ zz2 < 2 ^ 256 := pF_lt X8 Y9 Z10 0 0 0 lX8 lY9 lZ10 (by decide) (by decide) (by decide)
    refine stp (op_call (F := 87) hs none (v := TV X13 Y14 Z15) rfl rfl rfl rfl (call87 _) (rplus_c X8 Y9 Z10 0 0 0 X13 Y14 Z15 lX8 lY9 lZ10 (by decide) (by decide) (by decide) hX13) rfl fun ac w hs => ?_)
    refine stp (stoo hs 4 ((TVl X13 Y14 Z15)) sizeOf86 rfl rfl rfl rfl rfl rfl rfl rfl rfl rfl fun w hs => ?_)
    refine wpList_nil (blk_n (then_n (wp_region_lit ?_)))
    refine mvv hs rfl rfl rfl fun ac hs => ?_
    refine bnn hs (.int .i64 (((k - 1 : Nat) : Int) - 1)) rfl rfl rfl rfl (bin_subP (by omega)) fun ac hs => ?_
    refine asg hs rfl rfl rfl fun ac hs => ?_
    refine wpList_nil (then_n ?_)
    exact ⟨_, ⟨(k - 1), X13, Y14, Z15, rfl, (by omega), (oneT oP hp7 (hb11.trans hp12) (pF_fn (tF_fn hJn hX8) (frac_zero hzP) hX13)), lX13, lY14, lZ15, (hs.re ⟨rfl, rfl, rfl, rfl, rfl, trivial⟩)⟩, (by omega)⟩
   ·skip
    have hp16 := of_decide_eq_false hc
    refine wp_skip (blk_n (then_n ?_))
    replace hs : St 54 w0 [(2, true, ptA g1 0), (4, true, ptA g3 0), (5, true, ptA g4 0), (6, true, ptA g5 0), (7, true, ni64 (k - 1))] [(true, g1, 24, (Wl a)), (true, g2, 42, (PVl (px P) (py P) (pz P))), (true, g3, 42, (PVl 0 0 false)), (true, g4, 86, (TVl 0 0 0)), (true, g5, 86, (TVl X8 Y9 Z10))] ac _ := hs.re ⟨rfl, rfl, rfl, rfl, rfl, trivial⟩
    refine wp_region_lit ?_
    refine mvv hs rfl rfl rfl fun ac hs => ?_
    refine bnn hs (.int .i64 (((k - 1 : Nat) : Int) - 1)) rfl rfl rfl rfl (bin_subP (by omega)) fun ac hs => ?_
    refine asg hs rfl rfl rfl fun ac hs => ?_
    refine wpList_nil (then_n ?_)
    exact ⟨_, ⟨(k - 1), X8, Y9, Z10, rfl, (by omega), (oneF oP hp7 (fun h => hp16 (hb11.symm.trans h)) (tF_fn hJn hX8)), lX8, lY9, lZ10, (hs.re ⟨rfl, rfl, rfl, rfl, rfl, trivial⟩)⟩, (by omega)⟩
  ·skip
   have hp17 := of_decide_eq_false hc
   obtain rfl : k = 0 := by omega
   have hF : FN ox oy oz T := by rw [← hT]; rw [Nat.pow_zero, Nat.div_one] at hJn; exact hJn
   refine wp_exit (then_e (then_e (blk_e (then_n (wp_seq (wp_seq (wp_region_lit ?_)))))))
   refine stp (op_fieldA hs none rfl rfl rfl underlying86 rfl sizeOf24 (by decide) rfl fun ac hs => ?_)
   refine ldd hs 4 (W oz) isAgg24 sizeOf24 rfl rfl rfl rfl rfl fun ac hs => ?_
   refine stp (op_build hs none (qs := []) (v := .agg #[.int .u64 0, .int .u64 0, .int .u64 0, .int .u64 0]) rfl rfl rfl rfl (fun _ => by kernel_rfl) rfl fun ac hs => ?_)
   refine stp (op_bin hs none (v := .bool (decide (oz = 0))) rfl rfl rfl rfl (fun w => run_eqGuard_agg w .eql 24 _ _ _ _ Tryz.eqGuardType24) (eqlW oz 0 lz (by decide) _ rfl) rfl fun ac hs => ?_)
   refine wpList_nil (then_n ?_)
   refine wp_cond_split (hs.ev rfl) (fun hc => ?_) (fun hc => ?_)
   ·skip
    have hp18 := of_decide_eq_true hc
    refine wp_seq ?_
    replace hs : St 54 w0 [(4, true, ptA g3 0), (6, true, ptA g5 0)] [(true, g1, 24, (Wl a)), (true, g2, 42, (PVl (px P) (py P) (pz P))), (true, g3, 42, (PVl 0 0 false)), (true, g4, 86, (TVl 0 0 0)), (true, g5, 86, (TVl ox oy oz))] ac _ := hs.re ⟨rfl, rfl, trivial⟩
    refine wp_region_lit ?_
    refine stp (op_build hs none (qs := [(2, .bool true)]) (v := PV 0 0 true) rfl rfl rfl rfl (fun _ => by kernel_rfl) rfl fun ac hs => ?_)
    refine stp (stoo hs 2 ((PVl 0 0 true)) sizeOf42 rfl rfl rfl rfl rfl rfl rfl rfl rfl rfl fun w hs => ?_)
    refine wpList_nil (then_n (wp_ret (then_r ?_)))
    exact bodyPost_ret (res1 rfl (rv_c hs 2 (v := PV 0 0 true) rfl rfl isAgg42 sizeOf42 rfl)) hs.defers ⟨by rw [fn_zero hF hp18]; first | done | rfl, (hs.bel rfl)⟩
   ·skip
    have hp19 := of_decide_eq_false hc
    refine wp_skip (then_n (wp_seq ?_))
    replace hs : St 54 w0 [(4, true, ptA g3 0), (6, true, ptA g5 0)] [(true, g1, 24, (Wl a)), (true, g2, 42, (PVl (px P) (py P) (pz P))), (true, g3, 42, (PVl 0 0 false)), (true, g4, 86, (TVl 0 0 0)), (true, g5, 86, (TVl ox oy oz))] ac _ := hs.re ⟨rfl, rfl, trivial⟩
    refine wp_region_lit ?_
    refine stp (op_fieldA hs none rfl rfl rfl underlying86 rfl sizeOf24 (by decide) rfl fun ac hs => ?_)
    refine ldd hs 4 (W oz) isAgg24 sizeOf24 rfl rfl rfl rfl rfl fun ac hs => ?_
    obtain ⟨r20, hr20, lr20⟩ : ∃ z0, pinv Pf oz = z0 ∧ z0 < 2 ^ 256 := ⟨_, rfl, modP_lt _⟩
    refine stp (op_call (F := 88) hs none (v := W r20) rfl rfl rfl rfl (call88 _) (rfinv_c oz r20 lz hr20) rfl fun ac w hs => ?_)
    refine stp (op_alloc hs none none (cs := [.int .u64 0, .int .u64 0, .int .u64 0, .int .u64 0]) rfl rfl zeroValue24 (by kernel_rfl) rfl rfl fun g21 ac w hs => ?_)
    refine stp (stoo hs 5 ((Wl r20)) sizeOf24 rfl rfl rfl rfl rfl rfl rfl rfl rfl rfl fun w hs => ?_)
    refine wpList_nil (then_n (wp_seq ?_))
    replace hs : St 54 w0 [(4, true, ptA g3 0), (6, true, ptA g5 0), (8, true, ptA g21 0)] [(true, g1, 24, (Wl a)), (true, g2, 42, (PVl (px P) (py P) (pz P))), (true, g3, 42, (PVl 0 0 false)), (true, g4, 86, (TVl 0 0 0)), (true, g5, 86, (TVl ox oy oz)), (true, g21, 24, (Wl r20))] ac _ := hs.re ⟨rfl, rfl, rfl, trivial⟩
    obtain ⟨r22, hr22, lr22⟩ : ∃ z0, ox * r20 % Pf = z0 ∧ z0 < 2 ^ 256 := ⟨_, rfl, modP_lt _⟩
    obtain ⟨r23, hr23, lr23⟩ : ∃ z0, oy * r20 % Pf = z0 ∧ z0 < 2 ^ 256 := ⟨_, rfl, modP_lt _⟩
    refine region_inv [([], [1, 3, 7, 8, 9]), ([0], [3, 7, 8, 9]), ([], [3, 7, 8, 9]), ([0, 1, 2], [7, 8, 9]), ([], [5, 7, 8, 9]), ([4], [7, 8, 9]), ([], [7, 8, 9]), (rgn 0 7, [8, 9]), (rgn 0 8, [9]), (rgn 0 9, [])] (fun L ac w => St 54 w0 [(45, L 0, ptA g5 0), (46, L 1, W ox), (47, L 2, W r20), (48, L 3, W r22), (49, L 4, ptA g5 4), (50, L 5, W oy), (51, L 6, W r20), (52, L 7, W r23), (53, L 8, PV r22 r23 false), (4, true, ptA g3 0), (6, true, ptA g5 0), (8, true, ptA g21 0)] [(true, g1, 24, (Wl a)), (true, g2, 42, (PVl (px P) (py P) (pz P))), (true, g3, 42, (cond (L 9) (PVl r22 r23 false) (PVl 0 0 false))), (true, g4, 86, (TVl 0 0 0)), (true, g5, 86, (TVl ox oy oz)), (true, g21, 24, (Wl r20))] ac w) (by kernel_rfl) (by kernel_rfl) ?_ ?_ ?_
    ·exact hs.drew.skip.skip.skip.skip.skip.skip.skip.skip.skip
    ·refine ⟨?_, ?_, ?_, ?_, ?_, ?_, ?_, ?_, ?_, ?_, trivial⟩
     ·exact fun L ac w hs => pln (op_fieldA hs (some 0) rfl rfl rfl underlying86 rfl sizeOf24 (by decide) rfl fun ac hs => hs)
     ·exact fun L ac w hs => pln (oldd hs 1 4 (W ox) isAgg24 sizeOf24 rfl rfl rfl rfl rfl fun ac hs => hs)
     ·exact fun L ac w hs => pln (oldd hs 2 5 (W r20) isAgg24 sizeOf24 rfl rfl rfl rfl rfl fun ac hs => hs)
     ·exact fun L ac w hs => pln (op_call (F := 89) hs (some 3) (v := W r22) rfl rfl rfl rfl (call89 _) (rfmul_c ox r20 r22 lx lr20 hr22) rfl fun ac w hs => hs)
     ·exact fun L ac w hs => pln (op_fieldA hs (some 4) rfl rfl rfl underlying86 rfl sizeOf24 (by decide) rfl fun ac hs => hs)
     ·exact fun L ac w hs => pln (oldd hs 5 4 (W oy) isAgg24 sizeOf24 rfl rfl rfl rfl rfl fun ac hs => hs)
     ·exact fun L ac w hs => pln (oldd hs 6 5 (W r20) isAgg24 sizeOf24 rfl rfl rfl rfl rfl fun ac hs => hs)
     ·exact fun L ac w hs => pln (op_call (F := 89) hs (some 7) (v := W r23) rfl rfl rfl rfl (call89 _) (rfmul_c oy r20 r23 ly lr20 hr23) rfl fun ac w hs => hs)
     ·exact fun L ac w hs => pln (op_build hs (some 8) (qs := [(0, W r22), (1, W r23)]) (v := PV r22 r23 false) rfl rfl rfl rfl (fun _ => by kernel_rfl) rfl fun ac hs => hs)
     ·exact fun L ac w hs => pln (stoo hs 2 ((PVl r22 r23 false)) sizeOf42 rfl rfl rfl rfl rfl rfl rfl rfl rfl rfl fun w hs => hs)
    intro ac w hJ
    replace hs : St 54 w0 [(45, true, ptA g5 0), (46, true, W ox), (47, true, W r20), (48, true, W r22), (49, true, ptA g5 4), (50, true, W oy), (51, true, W r20), (52, true, W r23), (53, true, PV r22 r23 false), (4, true, ptA g3 0), (6, true, ptA g5 0), (8, true, ptA g21 0)] [(true, g1, 24, (Wl a)), (true, g2, 42, (PVl (px P) (py P) (pz P))), (true, g3, 42, (PVl r22 r23 false)), (true, g4, 86, (TVl 0 0 0)), (true, g5, 86, (TVl ox oy oz)), (true, g21, 24, (Wl r20))] ac w := hJ
    refine then_n (wp_ret ?_)
    exact bodyPost_ret (res1 rfl (rv_c hs 2 (v := PV r22 r23 false) rfl rfl isAgg42 sizeOf42 rfl)) hs.defers ⟨by obtain ⟨e1, e2, e3⟩ := fplain_law hF hp19 hr20 hr22 hr23; rw [e1, e2, e3]; first | done | rfl, (hs.bel rfl)⟩
 ·skip
  have hzP := hc
  refine wp_skip (then_n (wp_seq (wp_region_lit ?_)))
  refine stp (op_build hs none (qs := []) (v := TV 0 0 0) rfl rfl rfl rfl (fun _ => by kernel_rfl) rfl fun ac hs => ?_)
  refine stp (op_alloc hs none none (cs := (TVl 0 0 0)) rfl rfl zeroValue86 (by kernel_rfl) rfl rfl fun g24 ac w hs => ?_)
  refine stp (stoo hs 4 ((TVl 0 0 0)) sizeOf86 rfl rfl rfl rfl rfl rfl rfl rfl rfl rfl fun w hs => ?_)
  refine wpList_nil (then_n (wp_seq (wp_seq (wp_region_lit ?_))))
  refine ldd hs 0 (W a) isAgg24 sizeOf24 rfl rfl rfl rfl rfl fun ac hs => ?_
  have ll25 := ln_le a 256 ha
  refine stp (op_call (F := 84) hs none (v := ni64 (ln a)) rfl rfl rfl rfl (call84 _) (fun w => lenR_any w a ha) rfl fun ac w hs => ?_)
  refine bnn hs (.int .i64 (((ln a : Nat) : Int) - 1)) rfl rfl rfl rfl (bin_subP (by omega)) fun ac hs => ?_
  refine asg hs rfl rfl rfl fun ac hs => ?_
  refine wpList_nil (then_n (wp_block ?_))
  refine wp_loop_m (fun μ ac w => ∃ (k : Nat) (ox : Nat) (oy : Nat) (oz : Nat), (k) = μ ∧ (k ≤ 256) ∧ (FN ox oy oz (EM.nmul (a / 2 ^ k) P)) ∧ (ox < 2 ^ 256) ∧ (oy < 2 ^ 256) ∧ (oz < 2 ^ 256) ∧ St 54 w0 [(2, true, ptA g1 0), (4, true, ptA g3 0), (5, true, ptA g4 0), (6, true, ptA g24 0), (7, true, .int .i64 (((k : Nat) : Int) - 1))] [(true, g1, 24, (Wl a)), (true, g2, 42, (PVl (px P) (py P) (pz P))), (true, g3, 42, (PVl 0 0 false)), (true, g4, 86, [.int .u64 (lim (px P) 0), .int .u64 (lim (px P) 1), .int .u64 (lim (px P) 2), .int .u64 (lim (px P) 3), .int .u64 (lim (py P) 0), .int .u64 (lim (py P) 1), .int .u64 (lim (py P) 2), .int .u64 (lim (py P) 3), .int .u64 1, .int .u64 0, .int .u64 0, .int .u64 0]), (true, g24, 86, (TVl ox oy oz))] ac w) ?_ ?_
  ·exact ⟨_, (ln a), 0, 0, 0, rfl, (ln_le a 256 ha), (fn_start (ln_spec a).1), (by decide), (by decide), (by decide), (hs.re ⟨rfl, rfl, rfl, rfl, rfl, trivial⟩)⟩
  intro μ ac w ⟨k, ox, oy, oz, hμ, hk, hJn, lx, ly, lz, hs⟩
  refine wp_seq (wp_seq (wp_region_lit ?_))
  refine mvv hs rfl rfl rfl fun ac hs => ?_
  refine bnn hs (.bool (decide (1 ≤ k))) rfl rfl rfl rfl bin_geqP fun ac hs => ?_
  refine wpList_nil (then_n ?_)
  refine wp_cond_split (hs.ev rfl) (fun hc => ?_) (fun hc => ?_)
  ·skip
   have hp26 := of_decide_eq_true hc
   replace hs := hs.re (fs' := [(2, true, ptA g1 0), (4, true, ptA g3 0), (5, true, ptA g4 0), (6, true, ptA g24 0), (7, true, ni64 (k - 1)), (24, true, .int .i64 (((k : Nat) : Int) - 1)), (25, true, .bool (decide (1 ≤ k)))]) ⟨rfl, rfl, rfl, rfl, congrArg some (pre_nat hp26), rfl, rfl, trivial⟩
   refine wp_skip (then_n (wp_seq (wp_block (wp_seq (wp_region_lit ?_)))))
   refine ldd hs 4 (TV ox oy oz) isAgg86 sizeOf86 rfl rfl rfl rfl rfl fun ac hs => ?_
   obtain ⟨X27, Y28, Z29, hX27, lX27, lY28, lZ29⟩ : ∃ zz0 zz1 zz2, tF ox oy oz = (zz0, zz1, zz2) ∧ zz0 < 2 ^ 256 ∧ zz1 < 2 ^ 256 ∧ zz2 < 2 ^ 256 := tF_lt ox oy oz
   refine stp (op_call (F := 85) hs none (v := TV X27 Y28 Z29) rfl rfl rfl rfl (call85 _) (rtwice14_c ox oy oz X27 Y28 Z29 lx ly lz hX27) rfl fun ac w hs => ?_)
   refine stp (stoo hs 4 ((TVl X27 Y28 Z29)) sizeOf86 rfl rfl rfl rfl rfl rfl rfl rfl rfl rfl fun w hs => ?_)
   refine wpList_nil (then_n (wp_seq (wp_region_lit ?_)))
   refine ldd hs 0 (W a) isAgg24 sizeOf24 rfl rfl rfl rfl rfl fun ac hs => ?_
   refine mvv hs rfl rfl rfl fun ac hs => ?_
   obtain ⟨b30, hb30⟩ : ∃ z0, a / 2 ^ (k - 1) % 2 = z0 := ⟨_, rfl⟩
   have lb30 := bit_le hb30
   refine stp (op_call (F := 86) hs none (v := nu64 b30) rfl rfl rfl rfl (call86 _) (rbit_c a (k - 1) b30 (show k - 1 < 256 by omega) hb30) rfl fun ac w hs => ?_)
   refine bnn hs (.bool (decide (b30 = 1))) rfl rfl rfl rfl (bin_eqlN (y := 1)) fun ac hs => ?_
   refine wpList_nil (then_n ?_)
   refine wp_cond_split (hs.ev rfl) (fun hc => ?_) (fun hc => ?_)
   ·skip
    have hp31 := of_decide_eq_true hc
    replace hs : St 54 w0 [(2, true, ptA g1 0), (4, true, ptA g3 0), (5, true, ptA g4 0), (6, true, ptA g24 0), (7, true, ni64 (k - 1))] [(true, g1, 24, (Wl a)), (true, g2, 42, (PVl (px P) (py P) (pz P))), (true, g3, 42, (PVl 0 0 false)), (true, g4, 86, [.int .u64 (lim (px P) 0), .int .u64 (lim (px P) 1), .int .u64 (lim (px P) 2), .int .u64 (lim (px P) 3), .int .u64 (lim (py P) 0), .int .u64 (lim (py P) 1), .int .u64 (lim (py P) 2), .int .u64 (lim (py P) 3), .int .u64 1, .int .u64 0, .int .u64 0, .int .u64 0]), (true, g24, 86, (TVl X27 Y28 Z29))] ac _ := hs.re ⟨rfl, rfl, rfl, rfl, rfl, trivial⟩
    refine wp_region_lit ?_
    refine ldd hs 4 (TV X27 Y28 Z29) isAgg86 sizeOf86 rfl rfl rfl rfl rfl fun ac hs => ?_
    refine ldd hs 3 (.agg #[.int .u64 (lim (px P) 0), .int .u64 (lim (px P) 1), .int .u64 (lim (px P) 2), .int .u64 (lim (px P) 3), .int .u64 (lim (py P) 0), .int .u64 (lim (py P) 1), .int .u64 (lim (py P) 2), .int .u64 (lim (py P) 3), .int .u64 1, .int .u64 0, .int .u64 0, .int .u64 0]) isAgg86 sizeOf86 rfl rfl rfl rfl rfl fun ac hs => ?_
    obtain ⟨X32, Y33, Z34, hX32, lX32, lY33, lZ34⟩ : ∃ zz0 zz1 zz2, pF X27 Y28 Z29 (px P) (py P) 1 = (zz0, zz1, zz2) ∧ zz0 < 2 ^ 256 ∧ zz1 < 2 ^ 256 ∧ zz2 < 2 ^ 256 := pF_lt X27 Y28 Z29 (px P) (py P) 1 lX27 lY28 lZ29 (px_lt P) (py_lt P) (by decide)
    refine stp (op_call (F := 87) hs none (v := TV X32 Y33 Z34) rfl rfl rfl rfl (call87 _) (rplus_c X27 Y28 Z29 (px P) (py P) 1 X32 Y33 Z34 lX27 lY28 lZ29 (px_lt P) (py_lt P) (by decide) hX32) rfl fun ac w hs => ?_)
    refine stp (stoo hs 4 ((TVl X32 Y33 Z34)) sizeOf86 rfl rfl rfl rfl rfl rfl rfl rfl rfl rfl fun w hs => ?_)
    refine wpList_nil (blk_n (then_n (wp_region_lit ?_)))
    refine mvv hs rfl rfl rfl fun ac hs => ?_
    refine bnn hs (.int .i64 (((k - 1 : Nat) : Int) - 1)) rfl rfl rfl rfl (bin_subP (by omega)) fun ac hs => ?_
    refine asg hs rfl rfl rfl fun ac hs => ?_
    refine wpList_nil (then_n ?_)
    exact ⟨_, ⟨(k - 1), X32, Y33, Z34, rfl, (by omega), (oneT oP hp26 (hb30.trans hp31) (pF_fn (tF_fn hJn hX27) (frac_one oP hzP) hX32)), lX32, lY33, lZ34, (hs.re ⟨rfl, rfl, rfl, rfl, rfl, trivial⟩)⟩, (by omega)⟩
   ·skip
    have hp35 := of_decide_eq_false hc
    refine wp_skip (blk_n (then_n ?_))
    replace hs : St 54 w0 [(2, true, ptA g1 0), (4, true, ptA g3 0), (5, true, ptA g4 0), (6, true, ptA g24 0), (7, true, ni64 (k - 1))] [(true, g1, 24, (Wl a)), (true, g2, 42, (PVl (px P) (py P) (pz P))), (true, g3, 42, (PVl 0 0 false)), (true, g4, 86, [.int .u64 (lim (px P) 0), .int .u64 (lim (px P) 1), .int .u64 (lim (px P) 2), .int .u64 (lim (px P) 3), .int .u64 (lim (py P) 0), .int .u64 (lim (py P) 1), .int .u64 (lim (py P) 2), .int .u64 (lim (py P) 3), .int .u64 1, .int .u64 0, .int .u64 0, .int .u64 0]), (true, g24, 86, (TVl X27 Y28 Z29))] ac _ := hs.re ⟨rfl, rfl, rfl, rfl, rfl, trivial⟩
    refine wp_region_lit ?_
    refine mvv hs rfl rfl rfl fun ac hs => ?_
    refine bnn hs (.int .i64 (((k - 1 : Nat) : Int) - 1)) rfl rfl rfl rfl (bin_subP (by omega)) fun ac hs => ?_
    refine asg hs rfl rfl rfl fun ac hs => ?_
    refine wpList_nil (then_n ?_)
    exact ⟨_, ⟨(k - 1), X27, Y28, Z29, rfl, (by omega), (oneF oP hp26 (fun h => hp35 (hb30.symm.trans h)) (tF_fn hJn hX27)), lX27, lY28, lZ29, (hs.re ⟨rfl, rfl, rfl, rfl, rfl, trivial⟩)⟩, (by omega)⟩
  ·skip
   have hp36 := of_decide_eq_false hc
   obtain rfl : k = 0 := by omega
   have hF : FN ox oy oz T := by rw [← hT]; rw [Nat.pow_zero, Nat.div_one] at hJn; exact hJn
   refine wp_exit (then_e (then_e (blk_e (then_n (wp_seq (wp_seq (wp_region_lit ?_)))))))
   refine stp (op_fieldA hs none rfl rfl rfl underlying86 rfl sizeOf24 (by decide) rfl fun ac hs => ?_)
   refine ldd hs 4 (W oz) isAgg24 sizeOf24 rfl rfl rfl rfl rfl fun ac hs => ?_
   refine stp (op_build hs none (qs := []) (v := .agg #[.int .u64 0, .int .u64 0, .int .u64 0, .int .u64 0]) rfl rfl rfl rfl (fun _ => by kernel_rfl) rfl fun ac hs => ?_)
   refine stp (op_bin hs none (v := .bool (decide (oz = 0))) rfl rfl rfl rfl (fun w => run_eqGuard_agg w .eql 24 _ _ _ _ Tryz.eqGuardType24) (eqlW oz 0 lz (by decide) _ rfl) rfl fun ac hs => ?_)
   refine wpList_nil (then_n ?_)
   refine wp_cond_split (hs.ev rfl) (fun hc => ?_) (fun hc => ?_)
   ·skip
    have hp37 := of_decide_eq_true hc
    refine wp_seq ?_
    replace hs : St 54 w0 [(4, true, ptA g3 0), (6, true, ptA g24 0)] [(true, g1, 24, (Wl a)), (true, g2, 42, (PVl (px P) (py P) (pz P))), (true, g3, 42, (PVl 0 0 false)), (true, g4, 86, [.int .u64 (lim (px P) 0), .int .u64 (lim (px P) 1), .int .u64 (lim (px P) 2), .int .u64 (lim (px P) 3), .int .u64 (lim (py P) 0), .int .u64 (lim (py P) 1), .int .u64 (lim (py P) 2), .int .u64 (lim (py P) 3), .int .u64 1, .int .u64 0, .int .u64 0, .int .u64 0]), (true, g24, 86, (TVl ox oy oz))] ac _ := hs.re ⟨rfl, rfl, trivial⟩
    refine wp_region_lit ?_
    refine stp (op_build hs none (qs := [(2, .bool true)]) (v := PV 0 0 true) rfl rfl rfl rfl (fun _ => by kernel_rfl) rfl fun ac hs => ?_)
    refine stp (stoo hs 2 ((PVl 0 0 true)) sizeOf42 rfl rfl rfl rfl rfl rfl rfl rfl rfl rfl fun w hs => ?_)
    refine wpList_nil (then_n (wp_ret (then_r ?_)))
    exact bodyPost_ret (res1 rfl (rv_c hs 2 (v := PV 0 0 true) rfl rfl isAgg42 sizeOf42 rfl)) hs.defers ⟨by rw [fn_zero hF hp37]; first | done | rfl, (hs.bel rfl)⟩
   ·skip
    have hp38 := of_decide_eq_false hc
    refine wp_skip (then_n (wp_seq ?_))
    replace hs : St 54 w0 [(4, true, ptA g3 0), (6, true, ptA g24 0)] [(true, g1, 24, (Wl a)), (true, g2, 42, (PVl (px P) (py P) (pz P))), (true, g3, 42, (PVl 0 0 false)), (true, g4, 86, [.int .u64 (lim (px P) 0), .int .u64 (lim (px P) 1), .int .u64 (lim (px P) 2), .int .u64 (lim (px P) 3), .int .u64 (lim (py P) 0), .int .u64 (lim (py P) 1), .int .u64 (lim (py P) 2), .int .u64 (lim (py P) 3), .int .u64 1, .int .u64 0, .int .u64 0, .int .u64 0]), (true, g24, 86, (TVl ox oy oz))] ac _ := hs.re ⟨rfl, rfl, trivial⟩
    refine wp_region_lit ?_
    refine stp (op_fieldA hs none rfl rfl rfl underlying86 rfl sizeOf24 (by decide) rfl fun ac hs => ?_)
    refine ldd hs 4 (W oz) isAgg24 sizeOf24 rfl rfl rfl rfl rfl fun ac hs => ?_
    obtain ⟨r39, hr39, lr39⟩ : ∃ z0, pinv Pf oz = z0 ∧ z0 < 2 ^ 256 := ⟨_, rfl, modP_lt _⟩
    refine stp (op_call (F := 88) hs none (v := W r39) rfl rfl rfl rfl (call88 _) (rfinv_c oz r39 lz hr39) rfl fun ac w hs => ?_)
    refine stp (op_alloc hs none none (cs := [.int .u64 0, .int .u64 0, .int .u64 0, .int .u64 0]) rfl rfl zeroValue24 (by kernel_rfl) rfl rfl fun g40 ac w hs => ?_)
    refine stp (stoo hs 5 ((Wl r39)) sizeOf24 rfl rfl rfl rfl rfl rfl rfl rfl rfl rfl fun w hs => ?_)
    refine wpList_nil (then_n (wp_seq ?_))
    replace hs : St 54 w0 [(4, true, ptA g3 0), (6, true, ptA g24 0), (8, true, ptA g40 0)] [(true, g1, 24, (Wl a)), (true, g2, 42, (PVl (px P) (py P) (pz P))), (true, g3, 42, (PVl 0 0 false)), (true, g4, 86, [.int .u64 (lim (px P) 0), .int .u64 (lim (px P) 1), .int .u64 (lim (px P) 2), .int .u64 (lim (px P) 3), .int .u64 (lim (py P) 0), .int .u64 (lim (py P) 1), .int .u64 (lim (py P) 2), .int .u64 (lim (py P) 3), .int .u64 1, .int .u64 0, .int .u64 0, .int .u64 0]), (true, g24, 86, (TVl ox oy oz)), (true, g40, 24, (Wl r39))] ac _ := hs.re ⟨rfl, rfl, rfl, trivial⟩
    obtain ⟨r41, hr41, lr41⟩ : ∃ z0, ox * r39 % Pf = z0 ∧ z0 < 2 ^ 256 := ⟨_, rfl, modP_lt _⟩
    obtain ⟨r42, hr42, lr42⟩ : ∃ z0, oy * r39 % Pf = z0 ∧ z0 < 2 ^ 256 := ⟨_, rfl, modP_lt _⟩
    refine region_inv [([], [1, 3, 7, 8, 9]), ([0], [3, 7, 8, 9]), ([], [3, 7, 8, 9]), ([0, 1, 2], [7, 8, 9]), ([], [5, 7, 8, 9]), ([4], [7, 8, 9]), ([], [7, 8, 9]), (rgn 0 7, [8, 9]), (rgn 0 8, [9]), (rgn 0 9, [])] (fun L ac w => St 54 w0 [(45, L 0, ptA g24 0), (46, L 1, W ox), (47, L 2, W r39), (48, L 3, W r41), (49, L 4, ptA g24 4), (50, L 5, W oy), (51, L 6, W r39), (52, L 7, W r42), (53, L 8, PV r41 r42 false), (4, true, ptA g3 0), (6, true, ptA g24 0), (8, true, ptA g40 0)] [(true, g1, 24, (Wl a)), (true, g2, 42, (PVl (px P) (py P) (pz P))), (true, g3, 42, (cond (L 9) (PVl r41 r42 false) (PVl 0 0 false))), (true, g4, 86, [.int .u64 (lim (px P) 0), .int .u64 (lim (px P) 1), .int .u64 (lim (px P) 2), .int .u64 (lim (px P) 3), .int .u64 (lim (py P) 0), .int .u64 (lim (py P) 1), .int .u64 (lim (py P) 2), .int .u64 (lim (py P) 3), .int .u64 1, .int .u64 0, .int .u64 0, .int .u64 0]), (true, g24, 86, (TVl ox oy oz)), (true, g40, 24, (Wl r39))] ac w) (by kernel_rfl) (by kernel_rfl) ?_ ?_ ?_
    ·exact hs.drew.skip.skip.skip.skip.skip.skip.skip.skip.skip
    ·refine ⟨?_, ?_, ?_, ?_, ?_, ?_, ?_, ?_, ?_, ?_, trivial⟩
     ·exact fun L ac w hs => pln (op_fieldA hs (some 0) rfl rfl rfl underlying86 rfl sizeOf24 (by decide) rfl fun ac hs => hs)
     ·exact fun L ac w hs => pln (oldd hs 1 4 (W ox) isAgg24 sizeOf24 rfl rfl rfl rfl rfl fun ac hs => hs)
     ·exact fun L ac w hs => pln (oldd hs 2 5 (W r39) isAgg24 sizeOf24 rfl rfl rfl rfl rfl fun ac hs => hs)
     ·exact fun L ac w hs => pln (op_call (F := 89) hs (some 3) (v := W r41) rfl rfl rfl rfl (call89 _) (rfmul_c ox r39 r41 lx lr39 hr41) rfl fun ac w hs => hs)
     ·exact fun L ac w hs => pln (op_fieldA hs (some 4) rfl rfl rfl underlying86 rfl sizeOf24 (by decide) rfl fun ac hs => hs)
     ·exact fun L ac w hs => pln (oldd hs 5 4 (W oy) isAgg24 sizeOf24 rfl rfl rfl rfl rfl fun ac hs => hs)
     ·exact fun L ac w hs => pln (oldd hs 6 5 (W r39) isAgg24 sizeOf24 rfl rfl rfl rfl rfl fun ac hs => hs)
     ·exact fun L ac w hs => pln (op_call (F := 89) hs (some 7) (v := W r42) rfl rfl rfl rfl (call89 _) (rfmul_c oy r39 r42 ly lr39 hr42) rfl fun ac w hs => hs)
     ·exact fun L ac w hs => pln (op_build hs (some 8) (qs := [(0, W r41), (1, W r42)]) (v := PV r41 r42 false) rfl rfl rfl rfl (fun _ => by kernel_rfl) rfl fun ac hs => hs)
     ·exact fun L ac w hs => pln (stoo hs 2 ((PVl r41 r42 false)) sizeOf42 rfl rfl rfl rfl rfl rfl rfl rfl rfl rfl fun w hs => hs)
    intro ac w hJ
    replace hs : St 54 w0 [(45, true, ptA g24 0), (46, true, W ox), (47, true, W r39), (48, true, W r41), (49, true, ptA g24 4), (50, true, W oy), (51, true, W r39), (52, true, W r42), (53, true, PV r41 r42 false), (4, true, ptA g3 0), (6, true, ptA g24 0), (8, true, ptA g40 0)] [(true, g1, 24, (Wl a)), (true, g2, 42, (PVl (px P) (py P) (pz P))), (true, g3, 42, (PVl r41 r42 false)), (true, g4, 86, [.int .u64 (lim (px P) 0), .int .u64 (lim (px P) 1), .int .u64 (lim (px P) 2), .int .u64 (lim (px P) 3), .int .u64 (lim (py P) 0), .int .u64 (lim (py P) 1), .int .u64 (lim (py P) 2), .int .u64 (lim (py P) 3), .int .u64 1, .int .u64 0, .int .u64 0, .int .u64 0]), (true, g24, 86, (TVl ox oy oz)), (true, g40, 24, (Wl r39))] ac w := hJ
    refine then_n (wp_ret ?_)
    exact bodyPost_ret (res1 rfl (rv_c hs 2 (v := PV r41 r42 false) rfl rfl isAgg42 sizeOf42 rfl)) hs.defers ⟨by obtain ⟨e1, e2, e3⟩ := fplain_law hF hp38 hr39 hr41 hr42; rw [e1, e2, e3]; first | done | rfl, (hs.bel rfl)⟩
theorem rlift_c (b : Nat → Nat) (T : EM.Pt Pf) (hb : ∀ j, j < 32 → b j < 256) (hT : liftP (pr b 0 32) = T) (w0 : World) : Calls prog 35 #[At .u8 32 b] w0 fun e w' => e = .returned (.tuple #[PV (px T) (py T) (pz T), .bool (!pz T)]) ∧ Below w0.heap.size w0 w' := by
 refine enter (n := 26) (args := [At .u8 32 b]) func35 rfl rfl (Nat.le_of_ble_eq_true rfl) fun ac hs => ?_
 refine wp_seq (wp_region_lit ?_)
 refine stp (op_box hs none none (cs := (tab .u8 32 b)) rfl rfl rfl rfl rfl rfl fun g1 ac w hs => ?_)
 refine stp (op_alloc hs none none (cs := (PVl 0 0 false)) rfl rfl zeroValue42 (by kernel_rfl) rfl rfl fun g2 ac w hs => ?_)
 refine asg hs rfl rfl rfl fun ac hs => ?_
 refine wpList_nil (then_n (wp_seq (wp_region_lit ?_)))
 refine ldd hs 0 (At .u8 32 b) isAgg30 sizeOf30 rfl rfl rfl rfl ldv_tab fun ac hs => ?_
 obtain ⟨a3, ha3, la3⟩ : ∃ z0, pr b 0 32 = z0 ∧ z0 < 2 ^ 256 := ⟨_, rfl, pr_lt32 hb⟩
 refine stp (op_call (F := 78) hs none (v := W a3) rfl rfl rfl rfl (call78 _) (rread_c b a3 hb ha3) rfl fun ac w hs => ?_)
 refine stp (op_alloc hs none none (cs := [.int .u64 0, .int .u64 0, .int .u64 0, .int .u64 0]) rfl rfl zeroValue24 (by kernel_rfl) rfl rfl fun g4 ac w hs => ?_)
 refine stp (stoo hs 2 ((Wl a3)) sizeOf24 rfl rfl rfl rfl rfl rfl rfl rfl rfl rfl fun w hs => ?_)
 refine wpList_nil (then_n (wp_seq ?_))
 replace hs := hs.n0 [2, 3, 4] rfl rfl
 refine wp_region_lit ?_
 refine ldd hs 2 (W a3) isAgg24 sizeOf24 rfl rfl rfl rfl rfl fun ac hs => ?_
 obtain ⟨r5, hr5, lr5⟩ : ∃ z0, rgt a3 = z0 ∧ z0 < 2 ^ 256 := ⟨_, rfl, modP_lt _⟩
 refine stp (op_call (F := 80) hs none (v := W r5) rfl rfl rfl rfl (call80 _) (rright_c a3 r5 la3 hr5) rfl fun ac w hs => ?_)
 obtain ⟨y6, hy6, ly6⟩ : ∃ z0, frV r5 = z0 ∧ z0 < 2 ^ 256 := ⟨_, rfl, frV_lt _⟩
 obtain ⟨q7, hq7⟩ : ∃ z0, frB r5 = z0 := ⟨_, rfl⟩
 refine stp (op_call (F := 79) hs none (v := .tuple #[W y6, .bool q7]) rfl rfl rfl rfl (call79 _) (rfroot_c r5 y6 q7 lr5 hy6 hq7) rfl fun ac w hs => ?_)
 refine mvv hs rfl rfl rfl fun ac hs => ?_
 refine stp (xtr hs none rfl rfl rfl rfl rfl fun ac hs => ?_)
 refine stp (xtr hs none rfl rfl rfl rfl rfl fun ac hs => ?_)
 refine stp (op_alloc hs none none (cs := [.int .u64 0, .int .u64 0, .int .u64 0, .int .u64 0]) rfl rfl zeroValue24 (by kernel_rfl) rfl rfl fun g8 ac w hs => ?_)
 refine stp (stoo hs 3 ((Wl y6)) sizeOf24 rfl rfl rfl rfl rfl rfl rfl rfl rfl rfl fun w hs => ?_)
 refine asg hs rfl rfl rfl fun ac hs => ?_
 refine wpList_nil (then_n (wp_seq (wp_seq ?_)))
 by_cases hq9 : q7 = true
 ·skip
  replace hs := hs.re (fs' := [(2, true, ptA g2 0), (3, true, .bool false), (4, true, ptA g4 0), (10, true, W a3), (11, true, W r5), (12, true, .tuple #[W y6, .bool q7]), (9, true, .tuple #[W y6, .bool q7]), (13, true, W y6), (14, true, .bool q7), (5, true, ptA g8 0), (6, true, .bool true)]) ⟨rfl, rfl, rfl, rfl, rfl, rfl, rfl, rfl, rfl, rfl, congrArg some (congrArg Value.bool hq9), trivial⟩
  by_cases hq10 : a3 < Pf
  ·skip
   replace hs := hs.n0 [2, 3, 4, 5, 6] rfl rfl
   refine wp_region_lit ?_
   refine mvv hs rfl rfl rfl fun ac hs => ?_
   refine stp (op_un hs none (v := .bool false) rfl rfl rfl (fun _ => rfl) rfl fun ac hs => ?_)
   refine mvv hs rfl rfl rfl fun ac hs => ?_
   refine lstep (wpO_in hs rfl rfl rfl (op_load hs none 2 (v := W a3) rfl rfl rfl rfl isAgg24 sizeOf24 rfl rfl fun ac hs => ?_))
   refine lstep (wpO_in hs rfl rfl rfl (op_call (F := 81) hs none (v := .bool true) rfl rfl rfl rfl (call81 _) (rbelow_c a3 true la3 (decide_eq_true hq10)) rfl fun ac w hs => ?_))
   refine lstep (wpO_in hs rfl rfl rfl (op_un hs none (v := .bool false) rfl rfl rfl (fun _ => rfl) rfl fun ac hs => ?_))
   refine stp (op_pickF hs none rfl rfl rfl rfl rfl fun ac hs => ?_)
   refine wpList_nil (then_n ?_)
   refine wp_cond_false (hs.ev rfl) ?_
   refine wp_skip (then_n (wp_seq ?_))
   replace hs := hs.n0 [2, 3, 4, 5] rfl rfl
   refine wp_region_lit ?_
   refine ldd hs 2 (W a3) isAgg24 sizeOf24 rfl rfl rfl rfl rfl fun ac hs => ?_
   refine ldd hs 3 (W y6) isAgg24 sizeOf24 rfl rfl rfl rfl rfl fun ac hs => ?_
   refine stp (op_build hs none (qs := [(0, W a3), (1, W y6)]) (v := PV a3 y6 false) rfl rfl rfl rfl (fun _ => by kernel_rfl) rfl fun ac hs => ?_)
   refine stp (stoo hs 1 ((PVl a3 y6 false)) sizeOf42 rfl rfl rfl rfl rfl rfl rfl rfl rfl rfl fun w hs => ?_)
   refine asg hs rfl rfl rfl fun ac hs => ?_
   refine wpList_nil (then_n (wp_ret ?_))
   exact bodyPost_ret (res2 rfl (rv_c hs 1 (v := PV a3 y6 false) rfl rfl isAgg42 sizeOf42 rfl) (rv_t hs rfl)) hs.defers ⟨by rw [← hT, ha3, (liftP_yes hq10 (show frB (rgt a3) = true by rw [hr5, hq7]; exact hq9)).1, (liftP_yes hq10 (show frB (rgt a3) = true by rw [hr5, hq7]; exact hq9)).2.1, (liftP_yes hq10 (show frB (rgt a3) = true by rw [hr5, hq7]; exact hq9)).2.2, hr5, hy6]; rfl, (hs.bel rfl)⟩
  ·skip
   replace hs := hs.n0 [2, 3, 4, 5, 6] rfl rfl
   refine wp_region_lit ?_
   refine mvv hs rfl rfl rfl fun ac hs => ?_
   refine stp (op_un hs none (v := .bool false) rfl rfl rfl (fun _ => rfl) rfl fun ac hs => ?_)
   refine mvv hs rfl rfl rfl fun ac hs => ?_
   refine lstep (wpO_in hs rfl rfl rfl (op_load hs none 2 (v := W a3) rfl rfl rfl rfl isAgg24 sizeOf24 rfl rfl fun ac hs => ?_))
   refine lstep (wpO_in hs rfl rfl rfl (op_call (F := 81) hs none (v := .bool false) rfl rfl rfl rfl (call81 _) (rbelow_c a3 false la3 (decide_eq_false hq10)) rfl fun ac w hs => ?_))
   refine lstep (wpO_in hs rfl rfl rfl (op_un hs none (v := .bool true) rfl rfl rfl (fun _ => rfl) rfl fun ac hs => ?_))
   refine stp (op_pickF hs none rfl rfl rfl rfl rfl fun ac hs => ?_)
   refine wpList_nil (then_n ?_)
   refine wp_cond_true (hs.ev rfl) ?_
   refine wp_seq ?_
   replace hs := hs.n0 [2, 3, 4, 5] rfl rfl
   refine wp_region_lit ?_
   refine stp (op_build hs none (qs := [(2, .bool true)]) (v := PV 0 0 true) rfl rfl rfl rfl (fun _ => by kernel_rfl) rfl fun ac hs => ?_)
   refine stp (stoo hs 1 ((PVl 0 0 true)) sizeOf42 rfl rfl rfl rfl rfl rfl rfl rfl rfl rfl fun w hs => ?_)
   refine asg hs rfl rfl rfl fun ac hs => ?_
   refine wpList_nil (then_n (wp_ret (then_r ?_)))
   exact bodyPost_ret (res2 rfl (rv_c hs 1 (v := PV 0 0 true) rfl rfl isAgg42 sizeOf42 rfl) (rv_t hs rfl)) hs.defers ⟨by rw [← hT, ha3, liftP_no (.inl hq10)]; rfl, (hs.bel rfl)⟩
 ·skip
  replace hs := hs.re (fs' := [(2, true, ptA g2 0), (3, true, .bool false), (4, true, ptA g4 0), (10, true, W a3), (11, true, W r5), (12, true, .tuple #[W y6, .bool q7]), (9, true, .tuple #[W y6, .bool q7]), (13, true, W y6), (14, true, .bool q7), (5, true, ptA g8 0), (6, true, .bool false)]) ⟨rfl, rfl, rfl, rfl, rfl, rfl, rfl, rfl, rfl, rfl, congrArg some (congrArg Value.bool (Bool.eq_false_iff.2 hq9)), trivial⟩
  replace hs := hs.n0 [2, 3, 4, 5, 6] rfl rfl
  refine wp_region_lit ?_
  refine mvv hs rfl rfl rfl fun ac hs => ?_
  refine stp (op_un hs none (v := .bool true) rfl rfl rfl (fun _ => rfl) rfl fun ac hs => ?_)
  refine mvv hs rfl rfl rfl fun ac hs => ?_
  refine lstep (wpO_out hs none rfl rfl (.inl rfl) rfl rfl fun ac hs => ?_)
  refine lstep (wpO_out hs none rfl rfl (.inl rfl) rfl rfl fun ac hs => ?_)
  refine lstep (wpO_out hs none rfl rfl (.inl rfl) rfl rfl fun ac hs => ?_)
  refine stp (op_pickT hs none rfl rfl rfl rfl rfl fun ac hs => ?_)
  refine wpList_nil (then_n ?_)
  refine wp_cond_true (hs.ev rfl) ?_
  refine wp_seq (wp_region_lit ?_)
  refine stp (op_build hs none (qs := [(2, .bool true)]) (v := PV 0 0 true) rfl rfl rfl rfl (fun _ => by kernel_rfl) rfl fun ac hs => ?_)
  refine stp (stoo hs 1 ((PVl 0 0 true)) sizeOf42 rfl rfl rfl rfl rfl rfl rfl rfl rfl rfl fun w hs => ?_)
  refine asg hs rfl rfl rfl fun ac hs => ?_
  refine wpList_nil (then_n (wp_ret (then_r ?_)))
  exact bodyPost_ret (res2 rfl (rv_c hs 1 (v := PV 0 0 true) rfl rfl isAgg42 sizeOf42 rfl) (rv_t hs rfl)) hs.defers ⟨by rw [← hT, ha3, liftP_no (.inr (by rw [hr5, hq7]; exact hq9))]; rfl, (hs.bel rfl)⟩
theorem rpbytes_c (x y : Nat) (z : Bool) (T : EM.Pt Pf) (hx : x < 2 ^ 256) (hy : y < 2 ^ 256) (hT : ptOf x y z = T) (w0 : World) : Calls prog 43 #[PV x y z] w0 fun e w' => e = .returned (At .u8 32 (by8 (px T))) ∧ Below w0.heap.size w0 w' := by
 have oT : T.on := by rw [← hT]; exact pt_on x y z
 refine enter (n := 8) (args := [PV x y z]) func43 rfl rfl (Nat.le_of_ble_eq_true rfl) fun ac hs => ?_
 refine wp_seq (wp_region_lit ?_)
 refine stp (op_box hs none none (cs := (PVl x y z)) rfl rfl rfl rfl rfl rfl fun g1 ac w hs => ?_)
 refine stp (op_alloc hs none none (cs := (tab .u8 32 (fun _ => 0))) rfl rfl zeroValue30 (by kernel_rfl) rfl rfl fun g2 ac w hs => ?_)
 refine wpList_nil (then_n (wp_seq (wp_region_lit ?_)))
 refine ldd hs 0 (PV x y z) isAgg42 sizeOf42 rfl rfl rfl rfl rfl fun ac hs => ?_
 refine stp (op_call (F := 83) hs none (v := PV (px T) (py T) (pz T)) rfl rfl rfl rfl (call83 _) (own_c x y z T hx hy hT) rfl fun ac w hs => ?_)
 refine stp (stoo hs 0 ((PVl (px T) (py T) (pz T))) sizeOf42 rfl rfl rfl rfl rfl rfl rfl rfl rfl rfl fun w hs => ?_)
 refine wpList_nil (then_n (wp_seq (wp_region_lit ?_)))
 refine stp (op_fieldA hs none rfl rfl rfl underlying42 rfl sizeOf24 (by decide) rfl fun ac hs => ?_)
 refine ldd hs 0 (W (px T)) isAgg24 sizeOf24 rfl rfl rfl rfl rfl fun ac hs => ?_
 refine stp (op_call (F := 27) hs none (v := At .u8 32 (by8 (px T))) rfl rfl rfl rfl (call27 _) (rbytes_c (px T) (px_lt T)) rfl fun ac w hs => ?_)
 refine stp (stoo hs 1 ((tab .u8 32 (by8 (px T)))) sizeOf30 rfl rfl rfl rfl rfl (by kernel_rfl) tab_length' (tab_one _ _ _) tab_leA wr_tab fun w hs => ?_)
 refine wpList_nil (then_n (wp_ret ?_))
 exact bodyPost_ret (res1 rfl (rv_c hs 1 (v := At .u8 32 (by8 (px T))) rfl rfl isAgg30 sizeOf30 ldv_tab)) hs.defers ⟨rfl, (hs.bel rfl)⟩
theorem reven_c (x y : Nat) (z : Bool) (T : EM.Pt Pf) (q : Bool) (hx : x < 2 ^ 256) (hy : y < 2 ^ 256) (hT : ptOf x y z = T) (hq : evB T = q) (w0 : World) : Calls prog 42 #[PV x y z] w0 fun e w' => e = .returned (.bool q) ∧ Below w0.heap.size w0 w' := by
 have oT : T.on := by rw [← hT]; exact pt_on x y z
 refine enter (n := 15) (args := [PV x y z]) func42 rfl rfl (Nat.le_of_ble_eq_true rfl) fun ac hs => ?_
 refine wp_seq (wp_region_lit ?_)
 refine stp (op_box hs none none (cs := (PVl x y z)) rfl rfl rfl rfl rfl rfl fun g1 ac w hs => ?_)
 refine asg hs rfl rfl rfl fun ac hs => ?_
 refine wpList_nil (then_n (wp_seq (wp_region_lit ?_)))
 refine ldd hs 0 (PV x y z) isAgg42 sizeOf42 rfl rfl rfl rfl rfl fun ac hs => ?_
 refine stp (op_call (F := 83) hs none (v := PV (px T) (py T) (pz T)) rfl rfl rfl rfl (call83 _) (own_c x y z T hx hy hT) rfl fun ac w hs => ?_)
 refine stp (stoo hs 0 ((PVl (px T) (py T) (pz T))) sizeOf42 rfl rfl rfl rfl rfl rfl rfl rfl rfl rfl fun w hs => ?_)
 refine wpList_nil (then_n (wp_seq ?_))
 by_cases hq2 : pz T = true
 ·skip
  replace hs := hs.setb 0 (cs' := (PVl (px T) (py T) true)) rfl (by rw [hq2]; rfl)
  refine wp_region_lit ?_
  refine stp (op_fieldA hs none rfl rfl rfl underlying42 rfl sizeOf4 (by decide) rfl fun ac hs => ?_)
  refine ldd hs 0 (.bool true) isAgg4 sizeOf4 rfl rfl rfl rfl rfl fun ac hs => ?_
  refine stp (op_un hs none (v := .bool false) rfl rfl rfl (fun _ => rfl) rfl fun ac hs => ?_)
  refine mvv hs rfl rfl rfl fun ac hs => ?_
  refine lstep (wpO_out hs none rfl rfl (.inl rfl) rfl rfl fun ac hs => ?_)
  refine lstep (wpO_out hs none rfl rfl (.inl rfl) rfl rfl fun ac hs => ?_)
  refine lstep (wpO_out hs none rfl rfl (.inl rfl) rfl rfl fun ac hs => ?_)
  refine lstep (wpO_out hs none rfl rfl (.inl rfl) rfl rfl fun ac hs => ?_)
  refine lstep (wpO_out hs none rfl rfl (.inl rfl) rfl rfl fun ac hs => ?_)
  refine stp (op_pickF hs none rfl rfl rfl rfl rfl fun ac hs => ?_)
  refine asg hs rfl rfl rfl fun ac hs => ?_
  refine wpList_nil (then_n (wp_ret ?_))
  exact bodyPost_ret (res1 rfl (rv_t hs rfl)) hs.defers ⟨by rw [← hq]; exact congrArg (fun b => Ending.returned (.bool b)) (ev_odd hq2), (hs.bel rfl)⟩
 ·skip
  replace hs := hs.setb 0 (cs' := (PVl (px T) (py T) false)) rfl (by rw [(Bool.eq_false_iff.2 hq2)]; rfl)
  refine wp_region_lit ?_
  refine stp (op_fieldA hs none rfl rfl rfl underlying42 rfl sizeOf4 (by decide) rfl fun ac hs => ?_)
  refine ldd hs 0 (.bool false) isAgg4 sizeOf4 rfl rfl rfl rfl rfl fun ac hs => ?_
  refine stp (op_un hs none (v := .bool true) rfl rfl rfl (fun _ => rfl) rfl fun ac hs => ?_)
  refine mvv hs rfl rfl rfl fun ac hs => ?_
  refine lstep (wpO_in hs rfl rfl rfl (op_fieldA hs none rfl rfl rfl underlying42 rfl sizeOf24 (by decide) rfl fun ac hs => ?_))
  refine lstep (wpO_in hs rfl rfl rfl (op_idxA hs none (j := 0) rfl rfl rfl rfl underlying24 sizeOf22 (by decide) (off := 4) rfl rfl fun ac hs => ?_))
  have l3 := limN_lt (py T) 0
  refine lstep (wpO_in hs rfl rfl rfl (op_load hs none 0 (v := .int .u64 (lim (py T) 0)) rfl rfl rfl rfl isAgg22 sizeOf22 rfl rfl fun ac hs => ?_))
  refine lstep (wpO_in hs rfl rfl rfl (op_bin hs none (v := nu64 ((limN (py T) 0) % 2)) rfl rfl rfl rfl (fun _ => rfl) (bin_remN (x := limN (py T) 0) (y := 2) (z := (limN (py T) 0) % 2) rfl (by decide)) rfl fun ac hs => ?_))
  refine lstep (wpO_in hs rfl rfl rfl (op_bin hs none (v := .bool (decide ((limN (py T) 0) % 2 = 0))) rfl rfl rfl rfl (fun _ => rfl) (bin_eqlN (x := (limN (py T) 0) % 2) (y := 0)) rfl fun ac hs => ?_))
  refine stp (op_pickT hs none rfl rfl rfl rfl rfl fun ac hs => ?_)
  refine asg hs rfl rfl rfl fun ac hs => ?_
  refine wpList_nil (then_n (wp_ret ?_))
  exact bodyPost_ret (res1 rfl (rv_t hs rfl)) hs.defers ⟨by rw [← hq]; exact congrArg (fun b => Ending.returned (.bool b)) (ev_val hq2), (hs.bel rfl)⟩
theorem rbase_c  (w0 : World) : Calls prog 39 #[] w0 fun e w' => e = .returned (PV (px Gp) (py Gp) (pz Gp)) ∧ Below w0.heap.size w0 w' := by
 obtain ⟨n, hn⟩ : ∃ n : Nat, n = 55066263022277343669578718895168534326250603453777594175500187360389116729240 := ⟨_, rfl⟩
 have ln : n < 2 ^ 256 := by rw [hn]; decide
 refine enter (n := 12) (args := []) func39 rfl rfl (Nat.le_of_ble_eq_true rfl) fun ac hs => ?_
 refine wp_seq (wp_region_lit ?_)
 refine stp (op_alloc hs none none (cs := (PVl 0 0 false)) rfl rfl zeroValue42 (by kernel_rfl) rfl rfl fun g1 ac w hs => ?_)
 refine wpList_nil (then_n (wp_seq (wp_region_lit ?_)))
 refine stp (op_build hs none (qs := [(0, .int .u64 6481385041966929816), (1, .int .u64 188021827762530521), (2, .int .u64 6170039885052185351), (3, .int .u64 8772561819708210092)]) (v := .agg #[.int .u64 6481385041966929816, .int .u64 188021827762530521, .int .u64 6170039885052185351, .int .u64 8772561819708210092]) rfl rfl rfl rfl (fun _ => by kernel_rfl) rfl fun ac hs => ?_)
 refine stp (op_alloc hs none none (cs := [.int .u64 0, .int .u64 0, .int .u64 0, .int .u64 0]) rfl rfl zeroValue24 (by kernel_rfl) rfl rfl fun g2 ac w hs => ?_)
 refine stp (stoo hs 1 ([.int .u64 6481385041966929816, .int .u64 188021827762530521, .int .u64 6170039885052185351, .int .u64 8772561819708210092]) sizeOf24 rfl rfl rfl rfl rfl rfl rfl rfl rfl rfl fun w hs => ?_)
 refine wpList_nil ?_
 replace hs := hs.setb 1 (cs' := Wl n) rfl (by rw [hn]; rfl)
 refine then_n (wp_seq (wp_region_lit ?_))
 refine ldd hs 1 (W n) isAgg24 sizeOf24 rfl rfl rfl rfl rfl fun ac hs => ?_
 refine stp (op_call (F := 27) hs none (v := At .u8 32 (by8 n)) rfl rfl rfl rfl (call27 _) (rbytes_c n ln) rfl fun ac w hs => ?_)
 obtain ⟨T3, hT3, oT3⟩ := mkLift (pr (by8 n) 0 32)
 refine stp (op_call (F := 35) hs none (v := .tuple #[PV (px T3) (py T3) (pz T3), .bool (!pz T3)]) rfl rfl rfl rfl (call35 _) (rlift_c (by8 n) T3 (fun j _ => by8_lt n j) hT3) rfl fun ac w hs => ?_)
 refine mvv hs rfl rfl rfl fun ac hs => ?_
 refine stp (xtr hs none rfl rfl rfl rfl rfl fun ac hs => ?_)
 refine stp (xtr hs none rfl rfl rfl rfl rfl fun ac hs => ?_)
 refine stp (op_alloc hs none none (cs := (PVl 0 0 false)) rfl rfl zeroValue42 (by kernel_rfl) rfl rfl fun g4 ac w hs => ?_)
 refine stp (stoo hs 2 ((PVl (px T3) (py T3) (pz T3))) sizeOf42 rfl rfl rfl rfl rfl rfl rfl rfl rfl rfl fun w hs => ?_)
 refine asg hs rfl rfl rfl fun ac hs => ?_
 refine wpList_nil (then_n (wp_seq ?_))
 replace hs := hs.n0 [0, 2] rfl rfl
 refine wp_region_lit ?_
 refine ldd hs 2 (PV (px T3) (py T3) (pz T3)) isAgg42 sizeOf42 rfl rfl rfl rfl rfl fun ac hs => ?_
 refine stp (stoo hs 0 ((PVl (px T3) (py T3) (pz T3))) sizeOf42 rfl rfl rfl rfl rfl rfl rfl rfl rfl rfl fun w hs => ?_)
 refine wpList_nil (then_n (wp_ret ?_))
 exact bodyPost_ret (res1 rfl (rv_c hs 0 (v := PV (px T3) (py T3) (pz T3)) rfl rfl isAgg42 sizeOf42 rfl)) hs.defers ⟨by rw [← hT3, pr_by8_all ln, hn, Gp_lift]; first | done | rfl, (hs.bel rfl)⟩
end Go.Proofs.YtejbajgpiecjcaaGreat

/- SHA-256: the program's, the document's. -/
namespace Go.Proofs.YtejbajgpiecjcaaGreat
open Go.RowKit _root_.Go.Proofs.Tryz
set_option maxRecDepth 10000
set_option maxHeartbeats 1000000
theorem rpad_c (ad : Option Addr) (nl c : Nat) (l : List UInt8) (hlen : l.length ≤ 200000) (w0 : World) (Z : Nat → Prop) (hl : ByV w0 Z (.slice ad nl c) l): Calls prog 132 #[.slice ad nl c] w0 fun e w' => Ret w0 Z (ρ := Option Addr × Nat) (fun r => .slice r.1 (l ++ tl64 l.length l.length).length r.2) (fun r => [.cel (.slice r.1 (l ++ tl64 l.length l.length).length r.2) (l ++ tl64 l.length l.length).length (bcs (l ++ tl64 l.length l.length))]) e w' := by
 obtain rfl := byv_len hl
 refine enterS (n := 38) (args := [.slice ad l.length c]) (S := [(true, .cel (.slice ad l.length c) l.length (bcs l))]) (Z := Z) func132 rfl rfl (Nat.le_of_ble_eq_true rfl) (sokC hl sok0) rfl fun ac hs => ?_
 refine wp_seq (wp_region_lit ?_)
 refine asg hs rfl rfl rfl fun ac hs => ?_
 refine wpList_nil (then_n (wp_seq (wp_region_lit ?_)))
 refine stp (op_bsO0 hs none none (size := 1) rfl rfl underlying25 inf_u8_5 rfl rfl fun ad2 ac w hs => ?_)
 refine mvv hs rfl rfl rfl fun ac hs => ?_
 refine stp (op_appR hs none 1 0 (N' := l.length) (ys := bcs l) rfl rfl rfl rfl rfl rfl underlying25 inf_u8_5 rfl (by decide) (bcs_len1 rfl) (bcs_one _) (by decide) (show 0 + l.length ≤ 1000000 by omega) (Nat.zero_add _) rfl rfl rfl fun ad3 cp4 ac w hs => ?_)
 refine asg hs rfl rfl rfl fun ac hs => ?_
 refine wpList_nil (then_n (wp_seq (wp_region_lit ?_)))
 refine mvv hs rfl rfl rfl fun ac hs => ?_
 refine stp (op_bsO hs none none (qs := [(0, .int .u8 128)]) (cs := [.int .u8 128]) (cs' := bcs [UInt8.ofNat 128]) rfl rfl rfl rfl underlying25 inf_u8_5 (by decide) (by decide) (fill_one _ _ rfl ) rfl (bcs_cons (by decide) rfl) rfl rfl fun ad6 ac w hs => ?_)
 refine stp (op_appR hs none 1 2 (N' := (l ++ [UInt8.ofNat 128]).length) (ys := bcs (l ++ [UInt8.ofNat 128])) rfl rfl rfl rfl rfl rfl underlying25 inf_u8_5 rfl (by decide) (bcs_len1 rfl) (bcs_one _) (by decide) (show l.length + 1 ≤ 1000000 by omega) (by simp only [List.length_append, List.length_cons, List.length_nil] <;> omega) (bcs_append _ _) rfl rfl fun ad7 cp8 ac w hs => ?_)
 refine asg hs rfl rfl rfl fun ac hs => ?_
 refine wpList_nil (then_n (wp_seq (wp_block ?_)))
 rw [show l ++ [UInt8.ofNat 128] = l ++ tl0 0 from rfl] at hs
 refine wp_loop_m (fun μ ac w => ∃ (j : Nat) (ao : Option Addr) (co : Nat), (zs64 l.length - j) = μ ∧ (j ≤ zs64 l.length) ∧ St 38 ⟨w0, [], [(true, .cel (.slice ad l.length c) l.length (bcs l)), (true, .own (.slice ao ((l ++ tl0 j).length) co) 5 1 ((l ++ tl0 j).length) (bcs (l ++ tl0 j)))], Z, noX⟩ [(0, true, .slice ad l.length c), (2, true, .slice none 0 0), (3, true, .slice ao ((l ++ tl0 j).length) co)] [] ac w) ?_ ?_
 replace hs := hs.selS [0, 1] rfl (by decide)
 ·exact ⟨_, 0, ad7, cp8, rfl, (Nat.zero_le _), (hs.re (fs' := [(0, true, .slice ad l.length c), (2, true, .slice none 0 0), (3, true, .slice ad7 ((l ++ tl0 0).length) cp8)]) ⟨rfl, rfl, rfl, trivial⟩)⟩
 intro μ ac w ⟨j, ao, co, hμ, hj, hs⟩
 have hll : (l ++ tl0 j).length = l.length + (j + 1) := by rw [List.length_append, tl0_len]
 have hz63 : zs64 l.length < 64 := Nat.mod_lt _ (by decide)
 refine wp_seq (wp_seq (wp_region_lit ?_))
 refine mvv hs rfl rfl rfl fun ac hs => ?_
 refine stp (op_blt hs none (v := ni64 ((l ++ tl0 j).length)) rfl rfl rfl (blt_len underlying25) rfl fun ac hs => ?_)
 refine bnn hs (ni64 (((l ++ tl0 j).length) % 64)) rfl rfl rfl rfl (bin_remN (y := 64) rfl (by decide)) fun ac hs => ?_
 refine bnn hs (.bool (decide (((l ++ tl0 j).length) % 64 ≠ 56))) rfl rfl rfl rfl (bin_neqN (y := 56)) fun ac hs => ?_
 refine wpList_nil (then_n ?_)
 refine wp_cond_split (hs.ev rfl) (fun hc => ?_) (fun hc => ?_)
 ·skip
  have hp9 := of_decide_eq_true hc
  have hz : ¬ (l.length + (j + 1)) % 64 = 56 := by rw [← hll]; exact of_decide_eq_true hc
  refine wp_skip (then_n (wp_block (wp_region_lit ?_)))
  refine mvv hs rfl rfl rfl fun ac hs => ?_
  refine stp (op_bsO hs none none (qs := [(0, .int .u8 0)]) (cs := [.int .u8 0]) (cs' := bcs [UInt8.ofNat 0]) rfl rfl rfl rfl underlying25 inf_u8_5 (by decide) (by decide) (fill_one _ _ rfl ) rfl (bcs_cons (by decide) rfl) rfl rfl fun ad11 ac w hs => ?_)
  refine stp (op_appR hs none 1 2 (N' := (l ++ tl0 j ++ [UInt8.ofNat 0]).length) (ys := bcs (l ++ tl0 j ++ [UInt8.ofNat 0])) rfl rfl rfl rfl rfl rfl underlying25 inf_u8_5 rfl (by decide) (bcs_len1 rfl) (bcs_one _) (by decide) (show (l ++ tl0 j).length + 1 ≤ 1000000 by first | omega | ((try simp only [List.length_drop, List.length_take, List.length_append, List.length_cons, List.length_nil]); omega)) (by simp only [List.length_append, List.length_cons, List.length_nil] <;> omega) (bcs_append _ _) rfl rfl fun ad12 cp13 ac w hs => ?_)
  refine asg hs rfl rfl rfl fun ac hs => ?_
  refine wpList_nil (blk_n (then_n ?_))
  rw [show l ++ tl0 j ++ [UInt8.ofNat 0] = l ++ tl0 (j + 1) from (by rw [List.append_assoc, tl0_succ])] at hs
  replace hs := hs.selS [0, 1] rfl (by decide)
  exact ⟨_, ⟨(j + 1), ad12, cp13, rfl, (zs_go hj hz), (hs.re (fs' := [(0, true, .slice ad l.length c), (2, true, .slice none 0 0), (3, true, .slice ad12 ((l ++ tl0 (j + 1)).length) cp13)]) ⟨rfl, rfl, rfl, trivial⟩)⟩, (by have := zs_go hj hz; omega)⟩
 ·skip
  have hp14 := of_decide_eq_false hc
  obtain rfl : j = zs64 l.length := zs_end hj (by rw [← hll]; exact Classical.not_not.1 (of_decide_eq_false hc))
  refine wp_exit (then_e (then_e (blk_e (then_n (wp_seq (wp_region_lit ?_))))))
  refine mvv hs rfl rfl rfl fun ac hs => ?_
  refine stp (op_blt hs none (v := ni64 (l.length)) rfl rfl rfl (blt_len underlying25) rfl fun ac hs => ?_)
  refine stp (op_convert hs none (v := nu64 (l.length)) rfl rfl rfl (conv_N underlying3 underlying22 (show l.length < 18446744073709551616 by omega)) rfl fun ac hs => ?_)
  refine bnn hs (nu64 (l.length * 8)) rfl rfl rfl rfl (bin_mulN (y := 8) rfl (show l.length * 8 < 18446744073709551616 by omega)) fun ac hs => ?_
  refine asg hs rfl rfl rfl fun ac hs => ?_
  refine wpList_nil (then_n (wp_seq (wp_seq ?_)))
  replace hs := hs.nf w0 Z noX [2, 3, 4] rfl rfl rfl rfl
  refine wp_region_lit ?_
  refine asg hs rfl rfl rfl fun ac hs => ?_
  refine wpList_nil (then_n (wp_block ?_))
  rw [show l ++ tl0 (zs64 l.length) = (l ++ tl0 (zs64 l.length)) ++ be8t (l.length * 8) 0 from (by simp [be8t])] at hs
  refine wp_loop_m (fun μ ac w => ∃ (i : Nat) (ao2 : Option Addr) (co2 : Nat), (8 - i) = μ ∧ (i ≤ 8) ∧ St 38 ⟨w0, [], [(true, .cel (.slice ad l.length c) l.length (bcs l)), (true, .own (.slice ao2 (((l ++ tl0 (zs64 l.length)) ++ be8t (l.length * 8) i).length) co2) 5 1 (((l ++ tl0 (zs64 l.length)) ++ be8t (l.length * 8) i).length) (bcs ((l ++ tl0 (zs64 l.length)) ++ be8t (l.length * 8) i)))], Z, noX⟩ [(2, true, .slice none 0 0), (4, true, nu64 (l.length * 8)), (3, true, .slice ao2 (((l ++ tl0 (zs64 l.length)) ++ be8t (l.length * 8) i).length) co2), (5, true, ni64 i)] [] ac w) ?_ ?_
  ·exact ⟨_, 0, ao, co, rfl, (by omega), (hs.re (fs' := [(2, true, .slice none 0 0), (4, true, nu64 (l.length * 8)), (3, true, .slice ao (((l ++ tl0 (zs64 l.length)) ++ be8t (l.length * 8) 0).length) co), (5, true, ni64 0)]) ⟨rfl, rfl, rfl, rfl, trivial⟩)⟩
  intro μ ac w ⟨i, ao2, co2, hμ, hi, hs⟩
  have hlk : ((l ++ tl0 (zs64 l.length)) ++ be8t (l.length * 8) i).length = l.length + (zs64 l.length + 1) + i := by rw [List.length_append, List.length_append, tl0_len, be8t_len]
  refine wp_seq (wp_seq (wp_region_lit ?_))
  refine mvv hs rfl rfl rfl fun ac hs => ?_
  refine bnn hs (.bool (decide (i < 8))) rfl rfl rfl rfl (bin_lssN (y := 8)) fun ac hs => ?_
  refine wpList_nil (then_n ?_)
  refine wp_cond_split (hs.ev rfl) (fun hc => ?_) (fun hc => ?_)
  ·skip
   have hp15 := of_decide_eq_true hc
   have hi8 := of_decide_eq_true hc
   refine wp_skip (then_n (wp_seq (wp_block (wp_region_lit ?_))))
   refine mvv hs rfl rfl rfl fun ac hs => ?_
   refine mvv hs rfl rfl rfl fun ac hs => ?_
   refine mvv hs rfl rfl rfl fun ac hs => ?_
   refine bnn hs (ni64 (8 * i)) rfl rfl rfl rfl (bin_mulN (x := 8) rfl (show 8 * i < 9223372036854775808 by omega)) fun ac hs => ?_
   refine bnn hs (ni64 (56 - (8 * i))) rfl rfl rfl rfl (bin_subN (x := 56) (by omega) (show 56 - (8 * i) < 9223372036854775808 by omega)) fun ac hs => ?_
   refine stp (op_convert hs none (v := nu64 (56 - (8 * i))) rfl rfl rfl (conv_N underlying3 underlying73 (show 56 - (8 * i) < 18446744073709551616 by omega)) rfl fun ac hs => ?_)
   refine bnn hs (.int .u64 (((l.length * 8) / 2 ^ (56 - (8 * i)) : Nat) : Int)) rfl rfl rfl rfl (bin_shrN (z := (l.length * 8) / 2 ^ (56 - (8 * i))) rfl (show l.length * 8 < 18446744073709551616 by omega)) fun ac hs => ?_
   refine stp (op_convert hs none (v := .int .u8 (((l.length * 8) / 2 ^ (56 - (8 * i)) % 256 : Nat) : Int)) rfl rfl rfl (conv_M (z := (l.length * 8) / 2 ^ (56 - (8 * i)) % 256) rfl underlying22 underlying5 rfl) rfl fun ac hs => ?_)
   refine stp (op_bsO hs none none (qs := [(0, .int .u8 (((l.length * 8) / 2 ^ (56 - (8 * i)) % 256 : Nat) : Int))]) (cs := [.int .u8 (((l.length * 8) / 2 ^ (56 - (8 * i)) % 256 : Nat) : Int)]) (cs' := bcs [UInt8.ofNat ((l.length * 8) / 2 ^ (56 - (8 * i)) % 256)]) rfl rfl rfl rfl underlying25 inf_u8_5 (by decide) (by decide) (fill_one _ _ rfl ) rfl (bcs_cons (show (l.length * 8) / 2 ^ (56 - (8 * i)) % 256 < 256 by omega) rfl) rfl rfl fun ad17 ac w hs => ?_)
   refine stp (op_appR hs none 1 2 (N' := ((l ++ tl0 (zs64 l.length)) ++ be8t (l.length * 8) i ++ [UInt8.ofNat ((l.length * 8) / 2 ^ (56 - (8 * i)) % 256)]).length) (ys := bcs ((l ++ tl0 (zs64 l.length)) ++ be8t (l.length * 8) i ++ [UInt8.ofNat ((l.length * 8) / 2 ^ (56 - (8 * i)) % 256)])) rfl rfl rfl rfl rfl rfl underlying25 inf_u8_5 rfl (by decide) (bcs_len1 rfl) (bcs_one _) (by decide) (show ((l ++ tl0 (zs64 l.length)) ++ be8t (l.length * 8) i).length + 1 ≤ 1000000 by first | omega | ((try simp only [List.length_drop, List.length_take, List.length_append, List.length_cons, List.length_nil]); omega)) (by simp only [List.length_append, List.length_cons, List.length_nil] <;> omega) (bcs_append _ _) rfl rfl fun ad18 cp19 ac w hs => ?_)
   refine asg hs rfl rfl rfl fun ac hs => ?_
   refine wpList_nil (blk_n (then_n ?_))
   replace hs := hs.nf w0 Z noX [2, 4, 3, 5] rfl rfl rfl rfl
   refine wp_region_lit ?_
   refine mvv hs rfl rfl rfl fun ac hs => ?_
   refine bnn hs (ni64 (i + 1)) rfl rfl rfl rfl (bin_addN (y := 1) rfl (show i + 1 < 9223372036854775808 by omega)) fun ac hs => ?_
   refine asg hs rfl rfl rfl fun ac hs => ?_
   refine wpList_nil (then_n ?_)
   rw [show (l ++ tl0 (zs64 l.length)) ++ be8t (l.length * 8) i ++ [UInt8.ofNat ((l.length * 8) / 2 ^ (56 - (8 * i)) % 256)] = (l ++ tl0 (zs64 l.length)) ++ be8t (l.length * 8) (i + 1) from (by rw [be8t_succ, ← List.append_assoc])] at hs
   replace hs := hs.selS [0, 1] rfl (by decide)
   exact ⟨_, ⟨(i + 1), ad18, cp19, rfl, (by omega), (hs.re (fs' := [(2, true, .slice none 0 0), (4, true, nu64 (l.length * 8)), (3, true, .slice ad18 (((l ++ tl0 (zs64 l.length)) ++ be8t (l.length * 8) (i + 1)).length) cp19), (5, true, ni64 ((i + 1)))]) ⟨rfl, rfl, rfl, rfl, trivial⟩)⟩, (by omega)⟩
  ·skip
   have hp20 := of_decide_eq_false hc
   obtain rfl : i = 8 := by have := of_decide_eq_false hc; omega
   refine wp_exit (then_e (then_e (blk_e (then_n (wp_seq (wp_region_lit ?_))))))
   refine mvv hs rfl rfl rfl fun ac hs => ?_
   refine asg hs rfl rfl rfl fun ac hs => ?_
   refine wpList_nil (then_n (wp_ret ?_))
   rw [show (l ++ tl0 (zs64 l.length)) ++ be8t (l.length * 8) 8 = l ++ tl64 l.length l.length from (by unfold tl64; rw [← List.append_assoc]; rfl)] at hs
   replace hs := hs.freeze 1 rfl
   exact bodyPost_ret (res1 rfl (rv_t hs rfl)) hs.defers ⟨⟨ao2, co2⟩, rfl, hs.bel rfl, hs.ret1 1 rfl⟩
theorem rsteps_c  (w0 : World) (Z : Nat → Prop) : Calls prog 131 #[] w0 fun e w' => Ret w0 Z (ρ := Option Addr × Nat) (fun r => .slice r.1 64 r.2) (fun r => [.cel (.slice r.1 64 r.2) 64 (tab .u32 64 KK)]) e w' := by
 refine enterS (n := 2) (args := []) (S := []) (Z := Z) func131 rfl rfl (Nat.le_of_ble_eq_true rfl) sok0 rfl fun ac hs => ?_
 refine wp_seq (wp_region_lit ?_)
 refine asg hs rfl rfl rfl fun ac hs => ?_
 refine wpList_nil (then_n (wp_seq (wp_region_lit ?_)))
 refine stp (op_bsO hs none none (qs := [(0, .int .u32 1116352408), (1, .int .u32 1899447441), (2, .int .u32 3049323471), (3, .int .u32 3921009573), (4, .int .u32 961987163), (5, .int .u32 1508970993), (6, .int .u32 2453635748), (7, .int .u32 2870763221), (8, .int .u32 3624381080), (9, .int .u32 310598401), (10, .int .u32 607225278), (11, .int .u32 1426881987), (12, .int .u32 1925078388), (13, .int .u32 2162078206), (14, .int .u32 2614888103), (15, .int .u32 3248222580), (16, .int .u32 3835390401), (17, .int .u32 4022224774), (18, .int .u32 264347078), (19, .int .u32 604807628), (20, .int .u32 770255983), (21, .int .u32 1249150122), (22, .int .u32 1555081692), (23, .int .u32 1996064986), (24, .int .u32 2554220882), (25, .int .u32 2821834349), (26, .int .u32 2952996808), (27, .int .u32 3210313671), (28, .int .u32 3336571891), (29, .int .u32 3584528711), (30, .int .u32 113926993), (31, .int .u32 338241895), (32, .int .u32 666307205), (33, .int .u32 773529912), (34, .int .u32 1294757372), (35, .int .u32 1396182291), (36, .int .u32 1695183700), (37, .int .u32 1986661051), (38, .int .u32 2177026350), (39, .int .u32 2456956037), (40, .int .u32 2730485921), (41, .int .u32 2820302411), (42, .int .u32 3259730800), (43, .int .u32 3345764771), (44, .int .u32 3516065817), (45, .int .u32 3600352804), (46, .int .u32 4094571909), (47, .int .u32 275423344), (48, .int .u32 430227734), (49, .int .u32 506948616), (50, .int .u32 659060556), (51, .int .u32 883997877), (52, .int .u32 958139571), (53, .int .u32 1322822218), (54, .int .u32 1537002063), (55, .int .u32 1747873779), (56, .int .u32 1955562222), (57, .int .u32 2024104815), (58, .int .u32 2227730452), (59, .int .u32 2361852424), (60, .int .u32 2428436474), (61, .int .u32 2756734187), (62, .int .u32 3204031479), (63, .int .u32 3329325298)]) (cs := tab .u32 64 KK) rfl rfl rfl rfl underlying115 inf_u32_109 (by decide) (by decide) (by kernel_rfl) rfl rfl rfl rfl fun ad2 ac w hs => ?_)
 refine asg hs rfl rfl rfl fun ac hs => ?_
 refine wpList_nil (then_n (wp_ret ?_))
 replace hs := hs.freeze 0 rfl
 exact bodyPost_ret (res1 rfl (rv_t hs rfl)) hs.defers ⟨⟨ad2, 64⟩, rfl, hs.bel rfl, hs.ret1 0 rfl⟩
theorem rblock_c (ah : Option Addr) (ch : Nat) (h : Nat → Nat) (hh : ∀ j, h j < 4294967296) (ak : Option Addr) (ck : Nat) (ad : Option Addr) (nl c : Nat) (l : List UInt8) (h64 : l.length = 64) (w0 : World) (Z : Nat → Prop) (hH : CelV w0 Z (.slice ah 8 ch) 8 (tab .u32 8 h)) (hK : CelV w0 Z (.slice ak 64 ck) 64 (tab .u32 64 KK)) (hl : ByV w0 Z (.slice ad nl c) l): Calls prog 133 #[.slice ah 8 ch, .slice ak 64 ck, .slice ad nl c] w0 fun e w' => Ret w0 Z (ρ := Option Addr × Nat) (fun r => .slice r.1 8 r.2) (fun r => [.cel (.slice r.1 8 r.2) 8 (tab .u32 8 (blk h l))]) e w' := by
 obtain rfl := byv_len hl
 refine enterS (n := 227) (args := [.slice ah 8 ch, .slice ak 64 ck, .slice ad l.length c]) (S := [(true, .cel (.slice ah 8 ch) 8 (tab .u32 8 h)), (true, .cel (.slice ak 64 ck) 64 (tab .u32 64 KK)), (true, .cel (.slice ad l.length c) l.length (bcs l))]) (Z := Z) func133 rfl rfl (Nat.le_of_ble_eq_true rfl) (sokC hH (sokC hK (sokC hl sok0))) rfl fun ac hs => ?_
 refine wp_seq (wp_region_lit ?_)
 refine asg hs rfl rfl rfl fun ac hs => ?_
 refine wpList_nil (then_n (wp_seq (wp_region_lit ?_)))
 refine stp (op_bsO0 hs none none (size := 1) rfl rfl underlying115 inf_u32_109 rfl rfl fun ad2 ac w hs => ?_)
 refine asg hs rfl rfl rfl fun ac hs => ?_
 refine wpList_nil (then_n (wp_seq (wp_seq (wp_region_lit ?_))))
 refine asg hs rfl rfl rfl fun ac hs => ?_
 refine wpList_nil (then_n (wp_block ?_))
 replace hs := hs.ownEq 3 (N' := 0) (xs' := tab .u32 0 (wv l)) rfl rfl rfl
 refine wp_loop_m (fun μ ac w => ∃ (i : Nat) (aw : Option Addr) (cw : Nat), (64 - i) = μ ∧ (i ≤ 64) ∧ St 227 ⟨w0, [], [(true, .cel (.slice ah 8 ch) 8 (tab .u32 8 h)), (true, .cel (.slice ak 64 ck) 64 (tab .u32 64 KK)), (true, .cel (.slice ad l.length c) l.length (bcs l)), (true, .own (.slice aw i cw) 109 1 i (tab .u32 i (wv l)))], Z, noX⟩ [(0, true, .slice ah 8 ch), (1, true, .slice ak 64 ck), (2, true, .slice ad l.length c), (6, true, .slice none 0 0), (7, true, .slice aw i cw), (8, true, ni64 i)] [] ac w) ?_ ?_
 ·exact ⟨_, 0, ad2, 0, rfl, (by omega), (hs.re (fs' := [(0, true, .slice ah 8 ch), (1, true, .slice ak 64 ck), (2, true, .slice ad l.length c), (6, true, .slice none 0 0), (7, true, .slice ad2 0 0), (8, true, ni64 0)]) ⟨rfl, rfl, rfl, rfl, rfl, rfl, trivial⟩)⟩
 intro μ ac w ⟨i, aw, cw, hμ, hi, hs⟩
 refine wp_seq (wp_seq (wp_region_lit ?_))
 refine mvv hs rfl rfl rfl fun ac hs => ?_
 refine bnn hs (.bool (decide (i < 64))) rfl rfl rfl rfl (bin_lssN (y := 64)) fun ac hs => ?_
 refine wpList_nil (then_n ?_)
 refine wp_cond_split (hs.ev rfl) (fun hc => ?_) (fun hc => ?_)
 ·skip
  have hp3 := of_decide_eq_true hc
  have hi64 := of_decide_eq_true hc
  refine wp_skip (then_n (wp_seq (wp_block (wp_seq (wp_seq (wp_region_lit ?_))))))
  refine mvv hs rfl rfl rfl fun ac hs => ?_
  refine bnn hs (.bool (decide (i < 16))) rfl rfl rfl rfl (bin_lssN (y := 16)) fun ac hs => ?_
  refine wpList_nil (then_n ?_)
  refine wp_cond_split (hs.ev rfl) (fun hc => ?_) (fun hc => ?_)
  ·skip
   have hp4 := of_decide_eq_true hc
   have h16 := of_decide_eq_true hc
   refine wp_seq ?_
   replace hs := hs.nf w0 Z noX [0, 1, 2, 6, 7, 8] rfl rfl rfl rfl
   have l5 := byt_lt l (4 * i)
   obtain ⟨x6, hx6, lx6⟩ : ∃ z0, (byt l (4 * i)) * 2 ^ 24 = z0 ∧ z0 < 4294967296 := ⟨_, rfl, by omega⟩
   have l7 := byt_lt l (4 * i + 1)
   obtain ⟨x8, hx8, lx8⟩ : ∃ z0, (byt l (4 * i + 1)) * 2 ^ 16 = z0 ∧ z0 < 4294967296 := ⟨_, rfl, by omega⟩
   obtain ⟨x9, hx9, lx9⟩ : ∃ z0, x6 ||| x8 = z0 ∧ z0 < 4294967296 := ⟨_, rfl, Nat.or_lt_two_pow (n := 32) (show x6 < 4294967296 by omega) (show x8 < 4294967296 by omega)⟩
   have l10 := byt_lt l (4 * i + 2)
   obtain ⟨x11, hx11, lx11⟩ : ∃ z0, (byt l (4 * i + 2)) * 2 ^ 8 = z0 ∧ z0 < 4294967296 := ⟨_, rfl, by omega⟩
   obtain ⟨x12, hx12, lx12⟩ : ∃ z0, x9 ||| x11 = z0 ∧ z0 < 4294967296 := ⟨_, rfl, Nat.or_lt_two_pow (n := 32) (show x9 < 4294967296 by omega) (show x11 < 4294967296 by omega)⟩
   have l13 := byt_lt l (4 * i + 3)
   obtain ⟨x14, hx14, lx14⟩ : ∃ z0, x12 ||| (byt l (4 * i + 3)) = z0 ∧ z0 < 4294967296 := ⟨_, rfl, Nat.or_lt_two_pow (n := 32) (show x12 < 4294967296 by omega) (show byt l (4 * i + 3) < 4294967296 by omega)⟩
   have hz : wv l i = x14 := by rw [wv_lo h16, pre4_4, ← or4 (byt_lt _ _) (byt_lt _ _) (byt_lt _ _)]; simp only [hx6, hx8, hx9, hx11, hx12, hx14]
   refine region_inv [([], [35, 36]), ([], [4, 5, 6, 7, 16, 25, 33, 34, 35, 36]), ([], [3, 4, 5, 6, 7, 16, 25, 33, 34, 35, 36]), ([2], [4, 5, 6, 7, 16, 25, 33, 34, 35, 36]), ([1, 2, 3], [5, 6, 7, 16, 25, 33, 34, 35, 36]), (rgn 1 4, [6, 7, 16, 25, 33, 34, 35, 36]), (rgn 1 5, [7, 16, 25, 33, 34, 35, 36]), (rgn 1 6, [16, 25, 33, 34, 35, 36]), ([], [12, 13, 14, 15, 16, 25, 33, 34, 35, 36]), ([], [10, 11, 12, 13, 14, 15, 16, 25, 33, 34, 35, 36]), ([9], [11, 12, 13, 14, 15, 16, 25, 33, 34, 35, 36]), ([9, 10], [12, 13, 14, 15, 16, 25, 33, 34, 35, 36]), (rgn 8 4, [13, 14, 15, 16, 25, 33, 34, 35, 36]), (rgn 8 5, [14, 15, 16, 25, 33, 34, 35, 36]), (rgn 8 6, [15, 16, 25, 33, 34, 35, 36]), (rgn 8 7, [16, 25, 33, 34, 35, 36]), (rgn 1 15, [25, 33, 34, 35, 36]), ([], [21, 22, 23, 24, 25, 33, 34, 35, 36]), ([], [19, 20, 21, 22, 23, 24, 25, 33, 34, 35, 36]), ([18], [20, 21, 22, 23, 24, 25, 33, 34, 35, 36]), ([18, 19], [21, 22, 23, 24, 25, 33, 34, 35, 36]), (rgn 17 4, [22, 23, 24, 25, 33, 34, 35, 36]), (rgn 17 5, [23, 24, 25, 33, 34, 35, 36]), (rgn 17 6, [24, 25, 33, 34, 35, 36]), (rgn 17 7, [25, 33, 34, 35, 36]), (rgn 1 24, rgn 33 4), ([], rgn 30 7), ([], rgn 28 9), ([27], rgn 29 8), ([27, 28], rgn 30 7), (rgn 26 4, rgn 31 6), (rgn 26 5, rgn 32 5), (rgn 26 6, rgn 33 4), (rgn 1 32, [34, 35, 36]), (rgn 1 33, [35, 36]), (rgn 0 35, [36]), (rgn 0 36, [])] (fun L ac w => ∃ (ad16 : Option Addr) (ad17 : Option Addr) (cp18 : Nat), St 227 ⟨w0, [], [(true, .cel (.slice ah 8 ch) 8 (tab .u32 8 h)), (true, .cel (.slice ak 64 ck) 64 (tab .u32 64 KK)), (true, .cel (.slice ad l.length c) l.length (bcs l)), (true, cond (L 35) (.own (.slice ad17 (i + 1) cp18) 109 1 (i + 1) (tab .u32 (i + 1) (wv l))) (.own (.slice aw i cw) 109 1 i (tab .u32 i (wv l)))), (L 34, .own (.slice ad16 1 1) 109 1 1 ([nu32 x14]))], Z, noX⟩ [(28, L 0, .slice aw i cw), (29, L 1, .slice ad l.length c), (30, L 2, ni64 i), (31, L 3, ni64 (4 * i)), (32, L 4, vidx (.slice ad l.length c) (4 * i)), (33, L 5, nu8 (byt l (4 * i))), (34, L 6, nu32 (byt l (4 * i))), (35, L 7, nu32 x6), (36, L 8, .slice ad l.length c), (37, L 9, ni64 i), (38, L 10, ni64 (4 * i)), (39, L 11, ni64 (4 * i + 1)), (40, L 12, vidx (.slice ad l.length c) (4 * i + 1)), (41, L 13, nu8 (byt l (4 * i + 1))), (42, L 14, nu32 (byt l (4 * i + 1))), (43, L 15, nu32 x8), (44, L 16, nu32 x9), (45, L 17, .slice ad l.length c), (46, L 18, ni64 i), (47, L 19, ni64 (4 * i)), (48, L 20, ni64 (4 * i + 2)), (49, L 21, vidx (.slice ad l.length c) (4 * i + 2)), (50, L 22, nu8 (byt l (4 * i + 2))), (51, L 23, nu32 (byt l (4 * i + 2))), (52, L 24, nu32 x11), (53, L 25, nu32 x12), (54, L 26, .slice ad l.length c), (55, L 27, ni64 i), (56, L 28, ni64 (4 * i)), (57, L 29, ni64 (4 * i + 3)), (58, L 30, vidx (.slice ad l.length c) (4 * i + 3)), (59, L 31, nu8 (byt l (4 * i + 3))), (60, L 32, nu32 (byt l (4 * i + 3))), (61, L 33, nu32 x14), (62, L 34, .slice ad16 1 1), (63, L 35, .slice ad17 (i + 1) cp18), (7, L 36, cond (L 36) (.slice ad17 (i + 1) cp18) undef), (0, true, .slice ah 8 ch), (1, true, .slice ak 64 ck), (2, true, .slice ad l.length c), (6, true, .slice none 0 0), (7, true, .slice aw i cw), (8, true, ni64 i)] [] ac w) (by kernel_rfl) (by kernel_rfl) ?_ ?_ ?_
   ·exact ⟨none, none, 0, hs.drew.skip.skip.skip.skip.skip.skip.skip.skip.skip.skip.skip.skip.skip.skip.skip.skip.skip.skip.skip.skip.skip.skip.skip.skip.skip.skip.skip.skip.skip.skip.skip.skip.skip.skip.skip.skip.skip.padS⟩
   ·refine ⟨?_, ?_, ?_, ?_, ?_, ?_, ?_, ?_, ?_, ?_, ?_, ?_, ?_, ?_, ?_, ?_, ?_, ?_, ?_, ?_, ?_, ?_, ?_, ?_, ?_, ?_, ?_, ?_, ?_, ?_, ?_, ?_, ?_, ?_, ?_, ?_, ?_, trivial⟩
    ·exact fun L ac w ⟨ad16, ad17, cp18, hs⟩ => pln (omv hs 0 rfl rfl rfl fun ac hs => ⟨ad16, ad17, cp18, hs⟩)
    ·exact fun L ac w ⟨ad16, ad17, cp18, hs⟩ => pln (omv hs 1 rfl rfl rfl fun ac hs => ⟨ad16, ad17, cp18, hs⟩)
    ·exact fun L ac w ⟨ad16, ad17, cp18, hs⟩ => pln (omv hs 2 rfl rfl rfl fun ac hs => ⟨ad16, ad17, cp18, hs⟩)
    ·exact fun L ac w ⟨ad16, ad17, cp18, hs⟩ => pln (obn hs 3 (ni64 (4 * i)) rfl rfl rfl rfl (bin_mulN (x := 4) rfl (show 4 * i < 9223372036854775808 by omega)) fun ac hs => ⟨ad16, ad17, cp18, hs⟩)
    ·exact fun L ac w ⟨ad16, ad17, cp18, hs⟩ => pln (op_idxC hs (some 4) 2 (j := 4 * i) rfl rfl rfl rfl rfl underlying25 sizeOf5 (show 4 * i < l.length by omega) (off := 4 * i) (by omega) rfl fun ac hs => ⟨ad16, ad17, cp18, hs⟩)
    ·exact fun L ac w ⟨ad16, ad17, cp18, hs⟩ => pln (op_loadC hs (some 5) 2 (u := nu8 (byt l (4 * i))) rfl rfl rfl rfl isAgg5 sizeOf5 (by decide) (bcs_get (show 4 * i < l.length by omega)) rfl fun ac hs => ⟨ad16, ad17, cp18, hs⟩)
    ·exact fun L ac w ⟨ad16, ad17, cp18, hs⟩ => pln (op_convert hs (some 6) (v := nu32 (byt l (4 * i))) rfl rfl rfl (conv_N underlying5 underlying109 (show byt l (4 * i) < 4294967296 by omega)) rfl fun ac hs => ⟨ad16, ad17, cp18, hs⟩)
    ·exact fun L ac w ⟨ad16, ad17, cp18, hs⟩ => pln (obn hs 7 (nu32 x6) rfl rfl rfl rfl (bin_shlZ (y := 24) hx6 (by decide) lx6) fun ac hs => ⟨ad16, ad17, cp18, hs⟩)
    ·exact fun L ac w ⟨ad16, ad17, cp18, hs⟩ => pln (omv hs 8 rfl rfl rfl fun ac hs => ⟨ad16, ad17, cp18, hs⟩)
    ·exact fun L ac w ⟨ad16, ad17, cp18, hs⟩ => pln (omv hs 9 rfl rfl rfl fun ac hs => ⟨ad16, ad17, cp18, hs⟩)
    ·exact fun L ac w ⟨ad16, ad17, cp18, hs⟩ => pln (obn hs 10 (ni64 (4 * i)) rfl rfl rfl rfl (bin_mulN (x := 4) rfl (show 4 * i < 9223372036854775808 by omega)) fun ac hs => ⟨ad16, ad17, cp18, hs⟩)
    ·exact fun L ac w ⟨ad16, ad17, cp18, hs⟩ => pln (obn hs 11 (ni64 (4 * i + 1)) rfl rfl rfl rfl (bin_addN (y := 1) rfl (show 4 * i + 1 < 9223372036854775808 by omega)) fun ac hs => ⟨ad16, ad17, cp18, hs⟩)
    ·exact fun L ac w ⟨ad16, ad17, cp18, hs⟩ => pln (op_idxC hs (some 12) 2 (j := 4 * i + 1) rfl rfl rfl rfl rfl underlying25 sizeOf5 (show 4 * i + 1 < l.length by omega) (off := 4 * i + 1) (by omega) rfl fun ac hs => ⟨ad16, ad17, cp18, hs⟩)
    ·exact fun L ac w ⟨ad16, ad17, cp18, hs⟩ => pln (op_loadC hs (some 13) 2 (u := nu8 (byt l (4 * i + 1))) rfl rfl rfl rfl isAgg5 sizeOf5 (by decide) (bcs_get (show 4 * i + 1 < l.length by omega)) rfl fun ac hs => ⟨ad16, ad17, cp18, hs⟩)
    ·exact fun L ac w ⟨ad16, ad17, cp18, hs⟩ => pln (op_convert hs (some 14) (v := nu32 (byt l (4 * i + 1))) rfl rfl rfl (conv_N underlying5 underlying109 (show byt l (4 * i + 1) < 4294967296 by omega)) rfl fun ac hs => ⟨ad16, ad17, cp18, hs⟩)
    ·exact fun L ac w ⟨ad16, ad17, cp18, hs⟩ => pln (obn hs 15 (nu32 x8) rfl rfl rfl rfl (bin_shlZ (y := 16) hx8 (by decide) lx8) fun ac hs => ⟨ad16, ad17, cp18, hs⟩)
    ·exact fun L ac w ⟨ad16, ad17, cp18, hs⟩ => pln (obn hs 16 (nu32 x9) rfl rfl rfl rfl (bin_orN hx9 (show x6 < 4294967296 by omega) (show x8 < 4294967296 by omega) lx9) fun ac hs => ⟨ad16, ad17, cp18, hs⟩)
    ·exact fun L ac w ⟨ad16, ad17, cp18, hs⟩ => pln (omv hs 17 rfl rfl rfl fun ac hs => ⟨ad16, ad17, cp18, hs⟩)
    ·exact fun L ac w ⟨ad16, ad17, cp18, hs⟩ => pln (omv hs 18 rfl rfl rfl fun ac hs => ⟨ad16, ad17, cp18, hs⟩)
    ·exact fun L ac w ⟨ad16, ad17, cp18, hs⟩ => pln (obn hs 19 (ni64 (4 * i)) rfl rfl rfl rfl (bin_mulN (x := 4) rfl (show 4 * i < 9223372036854775808 by omega)) fun ac hs => ⟨ad16, ad17, cp18, hs⟩)
    ·exact fun L ac w ⟨ad16, ad17, cp18, hs⟩ => pln (obn hs 20 (ni64 (4 * i + 2)) rfl rfl rfl rfl (bin_addN (y := 2) rfl (show 4 * i + 2 < 9223372036854775808 by omega)) fun ac hs => ⟨ad16, ad17, cp18, hs⟩)
    ·exact fun L ac w ⟨ad16, ad17, cp18, hs⟩ => pln (op_idxC hs (some 21) 2 (j := 4 * i + 2) rfl rfl rfl rfl rfl underlying25 sizeOf5 (show 4 * i + 2 < l.length by omega) (off := 4 * i + 2) (by omega) rfl fun ac hs => ⟨ad16, ad17, cp18, hs⟩)
    ·exact fun L ac w ⟨ad16, ad17, cp18, hs⟩ => pln (op_loadC hs (some 22) 2 (u := nu8 (byt l (4 * i + 2))) rfl rfl rfl rfl isAgg5 sizeOf5 (by decide) (bcs_get (show 4 * i + 2 < l.length by omega)) rfl fun ac hs => ⟨ad16, ad17, cp18, hs⟩)
    ·exact fun L ac w ⟨ad16, ad17, cp18, hs⟩ => pln (op_convert hs (some 23) (v := nu32 (byt l (4 * i + 2))) rfl rfl rfl (conv_N underlying5 underlying109 (show byt l (4 * i + 2) < 4294967296 by omega)) rfl fun ac hs => ⟨ad16, ad17, cp18, hs⟩)
    ·exact fun L ac w ⟨ad16, ad17, cp18, hs⟩ => pln (obn hs 24 (nu32 x11) rfl rfl rfl rfl (bin_shlZ (y := 8) hx11 (by decide) lx11) fun ac hs => ⟨ad16, ad17, cp18, hs⟩)
    ·exact fun L ac w ⟨ad16, ad17, cp18, hs⟩ => pln (obn hs 25 (nu32 x12) rfl rfl rfl rfl (bin_orN hx12 (show x9 < 4294967296 by omega) (show x11 < 4294967296 by omega) lx12) fun ac hs => ⟨ad16, ad17, cp18, hs⟩)
    ·exact fun L ac w ⟨ad16, ad17, cp18, hs⟩ => pln (omv hs 26 rfl rfl rfl fun ac hs => ⟨ad16, ad17, cp18, hs⟩)
    ·exact fun L ac w ⟨ad16, ad17, cp18, hs⟩ => pln (omv hs 27 rfl rfl rfl fun ac hs => ⟨ad16, ad17, cp18, hs⟩)
    ·exact fun L ac w ⟨ad16, ad17, cp18, hs⟩ => pln (obn hs 28 (ni64 (4 * i)) rfl rfl rfl rfl (bin_mulN (x := 4) rfl (show 4 * i < 9223372036854775808 by omega)) fun ac hs => ⟨ad16, ad17, cp18, hs⟩)
    ·exact fun L ac w ⟨ad16, ad17, cp18, hs⟩ => pln (obn hs 29 (ni64 (4 * i + 3)) rfl rfl rfl rfl (bin_addN (y := 3) rfl (show 4 * i + 3 < 9223372036854775808 by omega)) fun ac hs => ⟨ad16, ad17, cp18, hs⟩)
    ·exact fun L ac w ⟨ad16, ad17, cp18, hs⟩ => pln (op_idxC hs (some 30) 2 (j := 4 * i + 3) rfl rfl rfl rfl rfl underlying25 sizeOf5 (show 4 * i + 3 < l.length by omega) (off := 4 * i + 3) (by omega) rfl fun ac hs => ⟨ad16, ad17, cp18, hs⟩)
    ·exact fun L ac w ⟨ad16, ad17, cp18, hs⟩ => pln (op_loadC hs (some 31) 2 (u := nu8 (byt l (4 * i + 3))) rfl rfl rfl rfl isAgg5 sizeOf5 (by decide) (bcs_get (show 4 * i + 3 < l.length by omega)) rfl fun ac hs => ⟨ad16, ad17, cp18, hs⟩)
    ·exact fun L ac w ⟨ad16, ad17, cp18, hs⟩ => pln (op_convert hs (some 32) (v := nu32 (byt l (4 * i + 3))) rfl rfl rfl (conv_N underlying5 underlying109 (show byt l (4 * i + 3) < 4294967296 by omega)) rfl fun ac hs => ⟨ad16, ad17, cp18, hs⟩)
    ·exact fun L ac w ⟨ad16, ad17, cp18, hs⟩ => pln (obn hs 33 (nu32 x14) rfl rfl rfl rfl (bin_orN hx14 (show x12 < 4294967296 by omega) (show byt l (4 * i + 3) < 4294967296 by omega) lx14) fun ac hs => ⟨ad16, ad17, cp18, hs⟩)
    ·exact fun L ac w ⟨ad16, ad17, cp18, hs⟩ => pln (op_bsO hs (some 34) (some 4) (qs := [(0, nu32 x14)]) (cs := [nu32 x14]) rfl rfl rfl rfl underlying115 inf_u32_109 (by decide) (by decide) (fill_one _ _ rfl) rfl rfl rfl rfl fun ad16 ac w hs => ⟨ad16, ad17, cp18, hs⟩)
    ·exact fun L ac w ⟨ad16, ad17, cp18, hs⟩ => pln (op_appR hs (some 35) 3 4 (N' := i + 1) (ys := (tab .u32 (i + 1) (wv l))) rfl rfl rfl rfl rfl rfl underlying115 inf_u32_109 rfl (by decide) rfl (by intro u hu; obtain rfl := List.mem_singleton.1 hu; rfl) (by decide) (show i + 1 ≤ 1000000 by omega) rfl (tab_snoc1 hz) rfl rfl fun ad17 cp18 ac w hs => ⟨ad16, ad17, cp18, hs⟩)
    ·exact fun L ac w ⟨ad16, ad17, cp18, hs⟩ => pln (oas hs 36 rfl rfl rfl fun ac hs => ⟨ad16, ad17, cp18, hs⟩)
   intro ac w ⟨ad16, ad17, cp18, hs⟩
   try dsimp only [cond_true] at hs
   refine then_n (wp_exit (then_e (blk_e (then_n (wp_region_lit ?_)))))
   refine mvv hs rfl rfl rfl fun ac hs => ?_
   refine bnn hs (ni64 (i + 1)) rfl rfl rfl rfl (bin_addN (y := 1) rfl (show i + 1 < 9223372036854775808 by omega)) fun ac hs => ?_
   refine asg hs rfl rfl rfl fun ac hs => ?_
   refine wpList_nil (then_n ?_)
   replace hs := hs.selS [0, 1, 2, 3] rfl (by decide)
   exact ⟨_, ⟨(i + 1), ad17, cp18, rfl, (by omega), (hs.re (fs' := [(0, true, .slice ah 8 ch), (1, true, .slice ak 64 ck), (2, true, .slice ad l.length c), (6, true, .slice none 0 0), (7, true, .slice ad17 (i + 1) cp18), (8, true, ni64 ((i + 1)))]) ⟨rfl, rfl, rfl, rfl, rfl, rfl, trivial⟩)⟩, (by omega)⟩
  ·skip
   have hp19 := of_decide_eq_false hc
   have h16 : ¬ i < 16 := of_decide_eq_false hc
   refine wp_skip (then_n (wp_seq ?_))
   replace hs := hs.nf w0 Z noX [0, 1, 2, 6, 7, 8] rfl rfl rfl rfl
   have l20 := wv_lt l (i - 15)
   have l21 := wv_lt l (i - 2)
   refine region_inv [([], [3, 4, 10, 11]), ([], [2, 3, 4, 10, 11]), ([1], [3, 4, 10, 11]), ([0, 1, 2], [4, 10, 11]), (rgn 0 4, [10, 11]), ([], [8, 9, 11]), ([], [7, 8, 9, 11]), ([6], [8, 9, 11]), ([5, 6, 7], [9, 11]), (rgn 5 4, [11]), (rgn 0 5, [11]), (rgn 0 11, [])] (fun L ac w => St 227 ⟨w0, [], [(true, .cel (.slice ah 8 ch) 8 (tab .u32 8 h)), (true, .cel (.slice ak 64 ck) 64 (tab .u32 64 KK)), (true, .cel (.slice ad l.length c) l.length (bcs l)), (true, .own (.slice aw i cw) 109 1 i (tab .u32 i (wv l)))], Z, noX⟩ [(64, L 0, .slice aw i cw), (65, L 1, ni64 i), (66, L 2, ni64 (i - 15)), (67, L 3, vidx (.slice aw i cw) (i - 15)), (68, L 4, .int .u32 (((wv l) (i - 15) : Nat) : Int)), (69, L 5, .slice aw i cw), (70, L 6, ni64 i), (71, L 7, ni64 (i - 2)), (72, L 8, vidx (.slice aw i cw) (i - 2)), (73, L 9, .int .u32 (((wv l) (i - 2) : Nat) : Int)), (9, L 10, .int .u32 (((wv l) (i - 15) : Nat) : Int)), (10, L 11, .int .u32 (((wv l) (i - 2) : Nat) : Int)), (0, true, .slice ah 8 ch), (1, true, .slice ak 64 ck), (2, true, .slice ad l.length c), (6, true, .slice none 0 0), (7, true, .slice aw i cw), (8, true, ni64 i)] [] ac w) (by kernel_rfl) (by kernel_rfl) ?_ ?_ ?_
   ·exact hs.drew.skip.skip.skip.skip.skip.skip.skip.skip.skip.skip.skip.skip
   ·refine ⟨?_, ?_, ?_, ?_, ?_, ?_, ?_, ?_, ?_, ?_, ?_, ?_, trivial⟩
    ·exact fun L ac w hs => pln (omv hs 0 rfl rfl rfl fun ac hs => hs)
    ·exact fun L ac w hs => pln (omv hs 1 rfl rfl rfl fun ac hs => hs)
    ·exact fun L ac w hs => pln (obn hs 2 (ni64 (i - 15)) rfl rfl rfl rfl (bin_subN (y := 15) (by omega) (show i - 15 < 9223372036854775808 by omega)) fun ac hs => hs)
    ·exact fun L ac w hs => pln (op_idxC hs (some 3) 3 (j := i - 15) rfl rfl rfl rfl rfl underlying115 sizeOf109 (show i - 15 < i by omega) (off := i - 15) (by omega) rfl fun ac hs => hs)
    ·exact fun L ac w hs => pln (op_loadC hs (some 4) 3 (u := .int .u32 (((wv l) (i - 15) : Nat) : Int)) rfl rfl rfl rfl isAgg109 sizeOf109 (by decide) (tab_get (j := i - 15) (show i - 15 < i by omega)) rfl fun ac hs => hs)
    ·exact fun L ac w hs => pln (omv hs 5 rfl rfl rfl fun ac hs => hs)
    ·exact fun L ac w hs => pln (omv hs 6 rfl rfl rfl fun ac hs => hs)
    ·exact fun L ac w hs => pln (obn hs 7 (ni64 (i - 2)) rfl rfl rfl rfl (bin_subN (y := 2) (by omega) (show i - 2 < 9223372036854775808 by omega)) fun ac hs => hs)
    ·exact fun L ac w hs => pln (op_idxC hs (some 8) 3 (j := i - 2) rfl rfl rfl rfl rfl underlying115 sizeOf109 (show i - 2 < i by omega) (off := i - 2) (by omega) rfl fun ac hs => hs)
    ·exact fun L ac w hs => pln (op_loadC hs (some 9) 3 (u := .int .u32 (((wv l) (i - 2) : Nat) : Int)) rfl rfl rfl rfl isAgg109 sizeOf109 (by decide) (tab_get (j := i - 2) (show i - 2 < i by omega)) rfl fun ac hs => hs)
    ·exact fun L ac w hs => pln (oas hs 10 rfl rfl rfl fun ac hs => hs)
    ·exact fun L ac w hs => pln (oas hs 11 rfl rfl rfl fun ac hs => hs)
   intro ac w hs
   try dsimp only [cond_true] at hs
   refine then_n (wp_seq (wp_region_lit ?_))
   refine mvv hs rfl rfl rfl fun ac hs => ?_
   obtain ⟨x22, hx22, lx22⟩ : ∃ z0, rr ((wv l) (i - 15)) 7 = z0 ∧ z0 < 4294967296 := ⟨_, rfl, rr_lt (show (wv l) (i - 15) < 4294967296 by omega)⟩
   refine stp (op_call (F := 142) hs none (v := nu32 x22) rfl rfl rfl rfl (call142 _) (turn_c ((wv l) (i - 15)) 7 x22 (show (wv l) (i - 15) < 4294967296 by omega) (by decide) hx22) rfl fun ac w hs => ?_)
   refine mvv hs rfl rfl rfl fun ac hs => ?_
   obtain ⟨x23, hx23, lx23⟩ : ∃ z0, rr ((wv l) (i - 15)) 18 = z0 ∧ z0 < 4294967296 := ⟨_, rfl, rr_lt (show (wv l) (i - 15) < 4294967296 by omega)⟩
   refine stp (op_call (F := 142) hs none (v := nu32 x23) rfl rfl rfl rfl (call142 _) (turn_c ((wv l) (i - 15)) 18 x23 (show (wv l) (i - 15) < 4294967296 by omega) (by decide) hx23) rfl fun ac w hs => ?_)
   obtain ⟨x24, hx24, lx24⟩ : ∃ z0, x22 ^^^ x23 = z0 ∧ z0 < 4294967296 := ⟨_, rfl, x32 (show x22 < 4294967296 by omega) (show x23 < 4294967296 by omega)⟩
   refine bnn hs (nu32 x24) rfl rfl rfl rfl (bin_xorN hx24 (show x22 < 4294967296 by omega) (show x23 < 4294967296 by omega) lx24) fun ac hs => ?_
   refine mvv hs rfl rfl rfl fun ac hs => ?_
   obtain ⟨x25, hx25, lx25⟩ : ∃ z0, ((wv l) (i - 15)) / 2 ^ 3 = z0 ∧ z0 < 4294967296 := ⟨_, rfl, Nat.lt_of_le_of_lt (Nat.div_le_self _ _) (show (wv l) (i - 15) < 4294967296 by omega)⟩
   refine bnn hs (nu32 x25) rfl rfl rfl rfl (bin_shrN (y := 3) hx25 (show (wv l) (i - 15) < 4294967296 by omega)) fun ac hs => ?_
   obtain ⟨x26, hx26, lx26⟩ : ∃ z0, x24 ^^^ x25 = z0 ∧ z0 < 4294967296 := ⟨_, rfl, x32 (show x24 < 4294967296 by omega) (show x25 < 4294967296 by omega)⟩
   refine bnn hs (nu32 x26) rfl rfl rfl rfl (bin_xorN hx26 (show x24 < 4294967296 by omega) (show x25 < 4294967296 by omega) lx26) fun ac hs => ?_
   refine asg hs rfl rfl rfl fun ac hs => ?_
   refine wpList_nil (then_n (wp_seq ?_))
   replace hs := hs.nf w0 Z noX [0, 1, 2, 6, 7, 8, 10, 11] rfl rfl rfl rfl
   refine wp_region_lit ?_
   refine mvv hs rfl rfl rfl fun ac hs => ?_
   obtain ⟨x27, hx27, lx27⟩ : ∃ z0, rr ((wv l) (i - 2)) 17 = z0 ∧ z0 < 4294967296 := ⟨_, rfl, rr_lt (show (wv l) (i - 2) < 4294967296 by omega)⟩
   refine stp (op_call (F := 142) hs none (v := nu32 x27) rfl rfl rfl rfl (call142 _) (turn_c ((wv l) (i - 2)) 17 x27 (show (wv l) (i - 2) < 4294967296 by omega) (by decide) hx27) rfl fun ac w hs => ?_)
   refine mvv hs rfl rfl rfl fun ac hs => ?_
   obtain ⟨x28, hx28, lx28⟩ : ∃ z0, rr ((wv l) (i - 2)) 19 = z0 ∧ z0 < 4294967296 := ⟨_, rfl, rr_lt (show (wv l) (i - 2) < 4294967296 by omega)⟩
   refine stp (op_call (F := 142) hs none (v := nu32 x28) rfl rfl rfl rfl (call142 _) (turn_c ((wv l) (i - 2)) 19 x28 (show (wv l) (i - 2) < 4294967296 by omega) (by decide) hx28) rfl fun ac w hs => ?_)
   obtain ⟨x29, hx29, lx29⟩ : ∃ z0, x27 ^^^ x28 = z0 ∧ z0 < 4294967296 := ⟨_, rfl, x32 (show x27 < 4294967296 by omega) (show x28 < 4294967296 by omega)⟩
   refine bnn hs (nu32 x29) rfl rfl rfl rfl (bin_xorN hx29 (show x27 < 4294967296 by omega) (show x28 < 4294967296 by omega) lx29) fun ac hs => ?_
   refine mvv hs rfl rfl rfl fun ac hs => ?_
   obtain ⟨x30, hx30, lx30⟩ : ∃ z0, ((wv l) (i - 2)) / 2 ^ 10 = z0 ∧ z0 < 4294967296 := ⟨_, rfl, Nat.lt_of_le_of_lt (Nat.div_le_self _ _) (show (wv l) (i - 2) < 4294967296 by omega)⟩
   refine bnn hs (nu32 x30) rfl rfl rfl rfl (bin_shrN (y := 10) hx30 (show (wv l) (i - 2) < 4294967296 by omega)) fun ac hs => ?_
   obtain ⟨x31, hx31, lx31⟩ : ∃ z0, x29 ^^^ x30 = z0 ∧ z0 < 4294967296 := ⟨_, rfl, x32 (show x29 < 4294967296 by omega) (show x30 < 4294967296 by omega)⟩
   refine bnn hs (nu32 x31) rfl rfl rfl rfl (bin_xorN hx31 (show x29 < 4294967296 by omega) (show x30 < 4294967296 by omega) lx31) fun ac hs => ?_
   refine asg hs rfl rfl rfl fun ac hs => ?_
   refine wpList_nil (then_n ?_)
   replace hs := hs.nf w0 Z noX [0, 1, 2, 6, 7, 8, 11, 12] rfl rfl rfl rfl
   have l32 := wv_lt l (i - 7)
   obtain ⟨x33, hx33, lx33⟩ : ∃ z0, (x31 + ((wv l) (i - 7))) % 4294967296 = z0 ∧ z0 < 4294967296 := ⟨_, rfl, m32 _⟩
   obtain ⟨x34, hx34, lx34⟩ : ∃ z0, (x33 + x26) % 4294967296 = z0 ∧ z0 < 4294967296 := ⟨_, rfl, m32 _⟩
   have l35 := wv_lt l (i - 16)
   obtain ⟨x36, hx36, lx36⟩ : ∃ z0, (x34 + ((wv l) (i - 16))) % 4294967296 = z0 ∧ z0 < 4294967296 := ⟨_, rfl, m32 _⟩
   have hz : wv l i = x36 := by rw [wv_hi h16, wv_comm]; simp only [ss0, ss1, hx22, hx23, hx24, hx25, hx26, hx27, hx28, hx29, hx30, hx31, hx33, hx34, hx36]
   refine region_inv [([], [17, 18]), ([], [7, 9, 15, 16, 17, 18]), ([], [5, 6, 7, 9, 15, 16, 17, 18]), ([], [4, 5, 6, 7, 9, 15, 16, 17, 18]), ([3], [5, 6, 7, 9, 15, 16, 17, 18]), ([2, 3, 4], [6, 7, 9, 15, 16, 17, 18]), (rgn 2 4, [7, 9, 15, 16, 17, 18]), (rgn 1 6, [9, 15, 16, 17, 18]), ([], [9, 15, 16, 17, 18]), (rgn 1 8, rgn 15 4), ([], rgn 13 6), ([], rgn 12 7), ([11], rgn 13 6), ([10, 11, 12], rgn 14 5), (rgn 10 4, rgn 15 4), (rgn 1 14, [16, 17, 18]), (rgn 1 15, [17, 18]), (rgn 0 17, [18]), (rgn 0 18, [])] (fun L ac w => ∃ (ad38 : Option Addr) (ad39 : Option Addr) (cp40 : Nat), St 227 ⟨w0, [], [(true, .cel (.slice ah 8 ch) 8 (tab .u32 8 h)), (true, .cel (.slice ak 64 ck) 64 (tab .u32 64 KK)), (true, .cel (.slice ad l.length c) l.length (bcs l)), (true, cond (L 17) (.own (.slice ad39 (i + 1) cp40) 109 1 (i + 1) (tab .u32 (i + 1) (wv l))) (.own (.slice aw i cw) 109 1 i (tab .u32 i (wv l)))), (L 16, .own (.slice ad38 1 1) 109 1 1 ([nu32 x36]))], Z, noX⟩ [(90, L 0, .slice aw i cw), (91, L 1, nu32 x31), (92, L 2, .slice aw i cw), (93, L 3, ni64 i), (94, L 4, ni64 (i - 7)), (95, L 5, vidx (.slice aw i cw) (i - 7)), (96, L 6, .int .u32 (((wv l) (i - 7) : Nat) : Int)), (97, L 7, nu32 x33), (98, L 8, nu32 x26), (99, L 9, nu32 x34), (100, L 10, .slice aw i cw), (101, L 11, ni64 i), (102, L 12, ni64 (i - 16)), (103, L 13, vidx (.slice aw i cw) (i - 16)), (104, L 14, .int .u32 (((wv l) (i - 16) : Nat) : Int)), (105, L 15, nu32 x36), (106, L 16, .slice ad38 1 1), (107, L 17, .slice ad39 (i + 1) cp40), (7, L 18, cond (L 18) (.slice ad39 (i + 1) cp40) undef), (0, true, .slice ah 8 ch), (1, true, .slice ak 64 ck), (2, true, .slice ad l.length c), (6, true, .slice none 0 0), (7, true, .slice aw i cw), (8, true, ni64 i), (11, true, nu32 x26), (12, true, nu32 x31)] [] ac w) (by kernel_rfl) (by kernel_rfl) ?_ ?_ ?_
   ·exact ⟨none, none, 0, hs.drew.skip.skip.skip.skip.skip.skip.skip.skip.skip.skip.skip.skip.skip.skip.skip.skip.skip.skip.skip.padS⟩
   ·refine ⟨?_, ?_, ?_, ?_, ?_, ?_, ?_, ?_, ?_, ?_, ?_, ?_, ?_, ?_, ?_, ?_, ?_, ?_, ?_, trivial⟩
    ·exact fun L ac w ⟨ad38, ad39, cp40, hs⟩ => pln (omv hs 0 rfl rfl rfl fun ac hs => ⟨ad38, ad39, cp40, hs⟩)
    ·exact fun L ac w ⟨ad38, ad39, cp40, hs⟩ => pln (omv hs 1 rfl rfl rfl fun ac hs => ⟨ad38, ad39, cp40, hs⟩)
    ·exact fun L ac w ⟨ad38, ad39, cp40, hs⟩ => pln (omv hs 2 rfl rfl rfl fun ac hs => ⟨ad38, ad39, cp40, hs⟩)
    ·exact fun L ac w ⟨ad38, ad39, cp40, hs⟩ => pln (omv hs 3 rfl rfl rfl fun ac hs => ⟨ad38, ad39, cp40, hs⟩)
    ·exact fun L ac w ⟨ad38, ad39, cp40, hs⟩ => pln (obn hs 4 (ni64 (i - 7)) rfl rfl rfl rfl (bin_subN (y := 7) (by omega) (show i - 7 < 9223372036854775808 by omega)) fun ac hs => ⟨ad38, ad39, cp40, hs⟩)
    ·exact fun L ac w ⟨ad38, ad39, cp40, hs⟩ => pln (op_idxC hs (some 5) 3 (j := i - 7) rfl rfl rfl rfl rfl underlying115 sizeOf109 (show i - 7 < i by omega) (off := i - 7) (by omega) rfl fun ac hs => ⟨ad38, ad39, cp40, hs⟩)
    ·exact fun L ac w ⟨ad38, ad39, cp40, hs⟩ => pln (op_loadC hs (some 6) 3 (u := .int .u32 (((wv l) (i - 7) : Nat) : Int)) rfl rfl rfl rfl isAgg109 sizeOf109 (by decide) (tab_get (j := i - 7) (show i - 7 < i by omega)) rfl fun ac hs => ⟨ad38, ad39, cp40, hs⟩)
    ·exact fun L ac w ⟨ad38, ad39, cp40, hs⟩ => pln (obn hs 7 (nu32 x33) rfl rfl rfl rfl (bin_addM rfl hx33) fun ac hs => ⟨ad38, ad39, cp40, hs⟩)
    ·exact fun L ac w ⟨ad38, ad39, cp40, hs⟩ => pln (omv hs 8 rfl rfl rfl fun ac hs => ⟨ad38, ad39, cp40, hs⟩)
    ·exact fun L ac w ⟨ad38, ad39, cp40, hs⟩ => pln (obn hs 9 (nu32 x34) rfl rfl rfl rfl (bin_addM rfl hx34) fun ac hs => ⟨ad38, ad39, cp40, hs⟩)
    ·exact fun L ac w ⟨ad38, ad39, cp40, hs⟩ => pln (omv hs 10 rfl rfl rfl fun ac hs => ⟨ad38, ad39, cp40, hs⟩)
    ·exact fun L ac w ⟨ad38, ad39, cp40, hs⟩ => pln (omv hs 11 rfl rfl rfl fun ac hs => ⟨ad38, ad39, cp40, hs⟩)
    ·exact fun L ac w ⟨ad38, ad39, cp40, hs⟩ => pln (obn hs 12 (ni64 (i - 16)) rfl rfl rfl rfl (bin_subN (y := 16) (by omega) (show i - 16 < 9223372036854775808 by omega)) fun ac hs => ⟨ad38, ad39, cp40, hs⟩)
    ·exact fun L ac w ⟨ad38, ad39, cp40, hs⟩ => pln (op_idxC hs (some 13) 3 (j := i - 16) rfl rfl rfl rfl rfl underlying115 sizeOf109 (show i - 16 < i by omega) (off := i - 16) (by omega) rfl fun ac hs => ⟨ad38, ad39, cp40, hs⟩)
    ·exact fun L ac w ⟨ad38, ad39, cp40, hs⟩ => pln (op_loadC hs (some 14) 3 (u := .int .u32 (((wv l) (i - 16) : Nat) : Int)) rfl rfl rfl rfl isAgg109 sizeOf109 (by decide) (tab_get (j := i - 16) (show i - 16 < i by omega)) rfl fun ac hs => ⟨ad38, ad39, cp40, hs⟩)
    ·exact fun L ac w ⟨ad38, ad39, cp40, hs⟩ => pln (obn hs 15 (nu32 x36) rfl rfl rfl rfl (bin_addM rfl hx36) fun ac hs => ⟨ad38, ad39, cp40, hs⟩)
    ·exact fun L ac w ⟨ad38, ad39, cp40, hs⟩ => pln (op_bsO hs (some 16) (some 4) (qs := [(0, nu32 x36)]) (cs := [nu32 x36]) rfl rfl rfl rfl underlying115 inf_u32_109 (by decide) (by decide) (fill_one _ _ rfl) rfl rfl rfl rfl fun ad38 ac w hs => ⟨ad38, ad39, cp40, hs⟩)
    ·exact fun L ac w ⟨ad38, ad39, cp40, hs⟩ => pln (op_appR hs (some 17) 3 4 (N' := i + 1) (ys := (tab .u32 (i + 1) (wv l))) rfl rfl rfl rfl rfl rfl underlying115 inf_u32_109 rfl (by decide) rfl (by intro u hu; obtain rfl := List.mem_singleton.1 hu; rfl) (by decide) (show i + 1 ≤ 1000000 by omega) rfl (tab_snoc1 hz) rfl rfl fun ad39 cp40 ac w hs => ⟨ad38, ad39, cp40, hs⟩)
    ·exact fun L ac w ⟨ad38, ad39, cp40, hs⟩ => pln (oas hs 18 rfl rfl rfl fun ac hs => ⟨ad38, ad39, cp40, hs⟩)
   intro ac w ⟨ad38, ad39, cp40, hs⟩
   try dsimp only [cond_true] at hs
   refine blk_n (then_n (wp_region_lit ?_))
   refine mvv hs rfl rfl rfl fun ac hs => ?_
   refine bnn hs (ni64 (i + 1)) rfl rfl rfl rfl (bin_addN (y := 1) rfl (show i + 1 < 9223372036854775808 by omega)) fun ac hs => ?_
   refine asg hs rfl rfl rfl fun ac hs => ?_
   refine wpList_nil (then_n ?_)
   replace hs := hs.selS [0, 1, 2, 3] rfl (by decide)
   exact ⟨_, ⟨(i + 1), ad39, cp40, rfl, (by omega), (hs.re (fs' := [(0, true, .slice ah 8 ch), (1, true, .slice ak 64 ck), (2, true, .slice ad l.length c), (6, true, .slice none 0 0), (7, true, .slice ad39 (i + 1) cp40), (8, true, ni64 ((i + 1)))]) ⟨rfl, rfl, rfl, rfl, rfl, rfl, trivial⟩)⟩, (by omega)⟩
 ·skip
  have hp41 := of_decide_eq_false hc
  obtain rfl : i = 64 := by have := of_decide_eq_false hc; omega
  refine wp_exit (then_e (then_e (blk_e (then_n (wp_seq (wp_region_lit ?_))))))
  refine stp (op_bsO0 hs none none (size := 1) rfl rfl underlying115 inf_u32_109 rfl rfl fun ad43 ac w hs => ?_)
  refine mvv hs rfl rfl rfl fun ac hs => ?_
  refine stp (op_appR hs none 4 0 (N' := 8) (ys := (tab .u32 8 h)) rfl rfl rfl rfl rfl rfl underlying115 inf_u32_109 rfl (by decide) (by rw [tab_length]) tab_oneC (by decide) (show 0 + 8 ≤ 1000000 by omega) (Nat.zero_add _) rfl rfl rfl fun ad44 cp45 ac w hs => ?_)
  refine asg hs rfl rfl rfl fun ac hs => ?_
  refine wpList_nil (then_n (wp_seq (wp_seq ?_)))
  replace hs := hs.nf w0 Z noX [0, 1, 6, 7, 13] rfl rfl rfl rfl
  refine wp_region_lit ?_
  refine asg hs rfl rfl rfl fun ac hs => ?_
  refine wpList_nil (then_n (wp_block ?_))
  replace hs := hs.ownEq 4 (N' := 8) (xs' := tab .u32 8 (rnds (wv l) h 0)) rfl rfl rfl
  refine wp_loop_m (fun μ ac w => ∃ (i : Nat) (av : Option Addr) (cv : Nat), (64 - i) = μ ∧ (i ≤ 64) ∧ St 227 ⟨w0, [], [(true, .cel (.slice ah 8 ch) 8 (tab .u32 8 h)), (true, .cel (.slice ak 64 ck) 64 (tab .u32 64 KK)), (true, .own (.slice aw 64 cw) 109 1 64 (tab .u32 64 (wv l))), (true, .own (.slice av 8 cv) 109 1 8 (tab .u32 8 (rnds (wv l) h i)))], Z, noX⟩ [(0, true, .slice ah 8 ch), (1, true, .slice ak 64 ck), (7, true, .slice aw 64 cw), (13, true, .slice av 8 cv), (14, true, ni64 i)] [] ac w) ?_ ?_
  replace hs := hs.selS [0, 1, 3, 4] rfl (by decide)
  ·exact ⟨_, 0, ad44, cp45, rfl, (by omega), (hs.re (fs' := [(0, true, .slice ah 8 ch), (1, true, .slice ak 64 ck), (7, true, .slice aw 64 cw), (13, true, .slice ad44 8 cp45), (14, true, ni64 0)]) ⟨rfl, rfl, rfl, rfl, rfl, trivial⟩)⟩
  intro μ ac w ⟨i, av, cv, hμ, hi, hs⟩
  refine wp_seq (wp_seq (wp_region_lit ?_))
  refine mvv hs rfl rfl rfl fun ac hs => ?_
  refine bnn hs (.bool (decide (i < 64))) rfl rfl rfl rfl (bin_lssN (y := 64)) fun ac hs => ?_
  refine wpList_nil (then_n ?_)
  refine wp_cond_split (hs.ev rfl) (fun hc => ?_) (fun hc => ?_)
  ·skip
   have hp46 := of_decide_eq_true hc
   have hi64 := of_decide_eq_true hc
   refine wp_skip (then_n (wp_seq (wp_block (wp_seq ?_))))
   replace hs := hs.nf w0 Z noX [0, 1, 7, 13, 14] rfl rfl rfl rfl
   have l47 := rnds_lt (w := wv l) (h := h) hh i 0
   have l48 := rnds_lt (w := wv l) (h := h) hh i 2
   have l49 := rnds_lt (w := wv l) (h := h) hh i 4
   refine region_inv [([], [1, 2, 9, 10, 11]), ([0], [2, 9, 10, 11]), ([0, 1], [9, 10, 11]), ([], [4, 5, 10, 11]), ([3], [5, 10, 11]), ([3, 4], [10, 11]), ([], [7, 8, 11]), ([6], [8, 11]), ([6, 7], [11]), ([0, 1, 2], [10, 11]), ([0, 1, 2, 3, 4, 5, 9], [11]), (rgn 0 11, [])] (fun L ac w => St 227 ⟨w0, [], [(true, .cel (.slice ah 8 ch) 8 (tab .u32 8 h)), (true, .cel (.slice ak 64 ck) 64 (tab .u32 64 KK)), (true, .own (.slice aw 64 cw) 109 1 64 (tab .u32 64 (wv l))), (true, .own (.slice av 8 cv) 109 1 8 (tab .u32 8 (rnds (wv l) h i)))], Z, noX⟩ [(115, L 0, .slice av 8 cv), (116, L 1, vidx (.slice av 8 cv) 0), (117, L 2, nu32 ((rnds (wv l) h i) 0)), (118, L 3, .slice av 8 cv), (119, L 4, vidx (.slice av 8 cv) 2), (120, L 5, nu32 ((rnds (wv l) h i) 2)), (121, L 6, .slice av 8 cv), (122, L 7, vidx (.slice av 8 cv) 4), (123, L 8, nu32 ((rnds (wv l) h i) 4)), (15, L 9, nu32 ((rnds (wv l) h i) 0)), (16, L 10, nu32 ((rnds (wv l) h i) 2)), (17, L 11, nu32 ((rnds (wv l) h i) 4)), (0, true, .slice ah 8 ch), (1, true, .slice ak 64 ck), (7, true, .slice aw 64 cw), (13, true, .slice av 8 cv), (14, true, ni64 i)] [] ac w) (by kernel_rfl) (by kernel_rfl) ?_ ?_ ?_
   ·exact hs.drew.skip.skip.skip.skip.skip.skip.skip.skip.skip.skip.skip.skip
   ·refine ⟨?_, ?_, ?_, ?_, ?_, ?_, ?_, ?_, ?_, ?_, ?_, ?_, trivial⟩
    ·exact fun L ac w hs => pln (omv hs 0 rfl rfl rfl fun ac hs => hs)
    ·exact fun L ac w hs => pln (op_idxC hs (some 1) 3 (j := 0) rfl rfl rfl rfl rfl underlying115 sizeOf109 (by decide) (off := 0) (by omega) rfl fun ac hs => hs)
    ·exact fun L ac w hs => pln (op_loadC hs (some 2) 3 (u := nu32 ((rnds (wv l) h i) 0)) rfl rfl rfl rfl isAgg109 sizeOf109 (by decide) (tab_get (j := 0) (by decide)) rfl fun ac hs => hs)
    ·exact fun L ac w hs => pln (omv hs 3 rfl rfl rfl fun ac hs => hs)
    ·exact fun L ac w hs => pln (op_idxC hs (some 4) 3 (j := 2) rfl rfl rfl rfl rfl underlying115 sizeOf109 (by decide) (off := 2) (by omega) rfl fun ac hs => hs)
    ·exact fun L ac w hs => pln (op_loadC hs (some 5) 3 (u := nu32 ((rnds (wv l) h i) 2)) rfl rfl rfl rfl isAgg109 sizeOf109 (by decide) (tab_get (j := 2) (by decide)) rfl fun ac hs => hs)
    ·exact fun L ac w hs => pln (omv hs 6 rfl rfl rfl fun ac hs => hs)
    ·exact fun L ac w hs => pln (op_idxC hs (some 7) 3 (j := 4) rfl rfl rfl rfl rfl underlying115 sizeOf109 (by decide) (off := 4) (by omega) rfl fun ac hs => hs)
    ·exact fun L ac w hs => pln (op_loadC hs (some 8) 3 (u := nu32 ((rnds (wv l) h i) 4)) rfl rfl rfl rfl isAgg109 sizeOf109 (by decide) (tab_get (j := 4) (by decide)) rfl fun ac hs => hs)
    ·exact fun L ac w hs => pln (oas hs 9 rfl rfl rfl fun ac hs => hs)
    ·exact fun L ac w hs => pln (oas hs 10 rfl rfl rfl fun ac hs => hs)
    ·exact fun L ac w hs => pln (oas hs 11 rfl rfl rfl fun ac hs => hs)
   intro ac w hs
   try dsimp only [cond_true] at hs
   refine then_n (wp_seq ?_)
   replace hs := hs.nf w0 Z noX [0, 1, 7, 13, 14, 15, 16, 17] rfl rfl rfl rfl
   have l50 := rnds_lt (w := wv l) (h := h) hh i 7
   obtain ⟨x51, hx51, lx51⟩ : ∃ z0, rr ((rnds (wv l) h i) 4) 6 = z0 ∧ z0 < 4294967296 := ⟨_, rfl, rr_lt (show (rnds (wv l) h i) 4 < 4294967296 by omega)⟩
   obtain ⟨x52, hx52, lx52⟩ : ∃ z0, rr ((rnds (wv l) h i) 4) 11 = z0 ∧ z0 < 4294967296 := ⟨_, rfl, rr_lt (show (rnds (wv l) h i) 4 < 4294967296 by omega)⟩
   obtain ⟨x53, hx53, lx53⟩ : ∃ z0, x51 ^^^ x52 = z0 ∧ z0 < 4294967296 := ⟨_, rfl, x32 (show x51 < 4294967296 by omega) (show x52 < 4294967296 by omega)⟩
   obtain ⟨x54, hx54, lx54⟩ : ∃ z0, rr ((rnds (wv l) h i) 4) 25 = z0 ∧ z0 < 4294967296 := ⟨_, rfl, rr_lt (show (rnds (wv l) h i) 4 < 4294967296 by omega)⟩
   obtain ⟨x55, hx55, lx55⟩ : ∃ z0, x53 ^^^ x54 = z0 ∧ z0 < 4294967296 := ⟨_, rfl, x32 (show x53 < 4294967296 by omega) (show x54 < 4294967296 by omega)⟩
   obtain ⟨x56, hx56, lx56⟩ : ∃ z0, ((rnds (wv l) h i) 7 + x55) % 4294967296 = z0 ∧ z0 < 4294967296 := ⟨_, rfl, m32 _⟩
   have l57 := rnds_lt (w := wv l) (h := h) hh i 5
   obtain ⟨x58, hx58, lx58⟩ : ∃ z0, ((rnds (wv l) h i) 4) &&& ((rnds (wv l) h i) 5) = z0 ∧ z0 < 4294967296 := ⟨_, rfl, a32 (show (rnds (wv l) h i) 5 < 4294967296 by omega)⟩
   obtain ⟨x59, hx59, lx59⟩ : ∃ z0, 4294967295 - ((rnds (wv l) h i) 4) = z0 ∧ z0 < 4294967296 := ⟨_, rfl, by omega⟩
   have l60 := rnds_lt (w := wv l) (h := h) hh i 6
   obtain ⟨x61, hx61, lx61⟩ : ∃ z0, x59 &&& ((rnds (wv l) h i) 6) = z0 ∧ z0 < 4294967296 := ⟨_, rfl, a32 (show (rnds (wv l) h i) 6 < 4294967296 by omega)⟩
   obtain ⟨x62, hx62, lx62⟩ : ∃ z0, x58 ^^^ x61 = z0 ∧ z0 < 4294967296 := ⟨_, rfl, x32 (show x58 < 4294967296 by omega) (show x61 < 4294967296 by omega)⟩
   obtain ⟨x63, hx63, lx63⟩ : ∃ z0, (x56 + x62) % 4294967296 = z0 ∧ z0 < 4294967296 := ⟨_, rfl, m32 _⟩
   have l64 := KK_lt i
   obtain ⟨x65, hx65, lx65⟩ : ∃ z0, (x63 + (KK i)) % 4294967296 = z0 ∧ z0 < 4294967296 := ⟨_, rfl, m32 _⟩
   have l66 := wv_lt l i
   obtain ⟨x67, hx67, lx67⟩ : ∃ z0, (x65 + ((wv l) i)) % 4294967296 = z0 ∧ z0 < 4294967296 := ⟨_, rfl, m32 _⟩
   refine region_inv [([], [1, 2, 11, 24, 29, 34, 35]), ([0], [2, 11, 24, 29, 34, 35]), ([0, 1], [11, 24, 29, 34, 35]), ([], [4, 6, 7, 9, 10, 11, 24, 29, 34, 35]), ([3], [6, 7, 9, 10, 11, 24, 29, 34, 35]), ([], [6, 7, 9, 10, 11, 24, 29, 34, 35]), ([3, 4, 5], [7, 9, 10, 11, 24, 29, 34, 35]), (rgn 3 4, [10, 11, 24, 29, 34, 35]), ([], [9, 10, 11, 24, 29, 34, 35]), ([3, 4, 5, 6, 8], [10, 11, 24, 29, 34, 35]), (rgn 3 7, [11, 24, 29, 34, 35]), (rgn 0 11, [24, 29, 34, 35]), ([], [16, 23, 24, 29, 34, 35]), ([], [14, 15, 16, 23, 24, 29, 34, 35]), ([13], [15, 16, 23, 24, 29, 34, 35]), ([13, 14], [16, 23, 24, 29, 34, 35]), (rgn 12 4, [23, 24, 29, 34, 35]), ([], [18, 22, 23, 24, 29, 34, 35]), ([17], [22, 23, 24, 29, 34, 35]), ([], [20, 21, 22, 23, 24, 29, 34, 35]), ([19], [21, 22, 23, 24, 29, 34, 35]), ([19, 20], [22, 23, 24, 29, 34, 35]), (rgn 17 5, [23, 24, 29, 34, 35]), (rgn 12 11, [24, 29, 34, 35]), (rgn 0 24, [29, 34, 35]), ([], [27, 28, 29, 34, 35]), ([], [27, 28, 29, 34, 35]), ([25, 26], [28, 29, 34, 35]), ([25, 26, 27], [29, 34, 35]), (rgn 0 29, [34, 35]), ([], rgn 32 4), ([], rgn 32 4), ([30, 31], [33, 34, 35]), ([30, 31, 32], [34, 35]), (rgn 0 34, [35]), (rgn 0 35, [])] (fun L ac w => St 227 ⟨w0, [], [(true, .cel (.slice ah 8 ch) 8 (tab .u32 8 h)), (true, .cel (.slice ak 64 ck) 64 (tab .u32 64 KK)), (true, .own (.slice aw 64 cw) 109 1 64 (tab .u32 64 (wv l))), (true, .own (.slice av 8 cv) 109 1 8 (tab .u32 8 (rnds (wv l) h i)))], Z, noX⟩ [(124, L 0, .slice av 8 cv), (125, L 1, vidx (.slice av 8 cv) 7), (126, L 2, nu32 ((rnds (wv l) h i) 7)), (127, L 3, nu32 ((rnds (wv l) h i) 4)), (128, L 4, nu32 x51), (129, L 5, nu32 ((rnds (wv l) h i) 4)), (130, L 6, nu32 x52), (131, L 7, nu32 x53), (132, L 8, nu32 ((rnds (wv l) h i) 4)), (133, L 9, nu32 x54), (134, L 10, nu32 x55), (135, L 11, nu32 x56), (136, L 12, nu32 ((rnds (wv l) h i) 4)), (137, L 13, .slice av 8 cv), (138, L 14, vidx (.slice av 8 cv) 5), (139, L 15, nu32 ((rnds (wv l) h i) 5)), (140, L 16, nu32 x58), (141, L 17, nu32 ((rnds (wv l) h i) 4)), (142, L 18, nu32 x59), (143, L 19, .slice av 8 cv), (144, L 20, vidx (.slice av 8 cv) 6), (145, L 21, nu32 ((rnds (wv l) h i) 6)), (146, L 22, nu32 x61), (147, L 23, nu32 x62), (148, L 24, nu32 x63), (149, L 25, .slice ak 64 ck), (150, L 26, ni64 i), (151, L 27, vidx (.slice ak 64 ck) i), (152, L 28, nu32 (KK i)), (153, L 29, nu32 x65), (154, L 30, .slice aw 64 cw), (155, L 31, ni64 i), (156, L 32, vidx (.slice aw 64 cw) i), (157, L 33, nu32 ((wv l) i)), (158, L 34, nu32 x67), (18, L 35, nu32 x67), (0, true, .slice ah 8 ch), (1, true, .slice ak 64 ck), (7, true, .slice aw 64 cw), (13, true, .slice av 8 cv), (14, true, ni64 i), (15, true, nu32 ((rnds (wv l) h i) 0)), (16, true, nu32 ((rnds (wv l) h i) 2)), (17, true, nu32 ((rnds (wv l) h i) 4))] [] ac w) (by kernel_rfl) (by kernel_rfl) ?_ ?_ ?_
   ·exact hs.drew.skip.skip.skip.skip.skip.skip.skip.skip.skip.skip.skip.skip.skip.skip.skip.skip.skip.skip.skip.skip.skip.skip.skip.skip.skip.skip.skip.skip.skip.skip.skip.skip.skip.skip.skip.skip
   ·refine ⟨?_, ?_, ?_, ?_, ?_, ?_, ?_, ?_, ?_, ?_, ?_, ?_, ?_, ?_, ?_, ?_, ?_, ?_, ?_, ?_, ?_, ?_, ?_, ?_, ?_, ?_, ?_, ?_, ?_, ?_, ?_, ?_, ?_, ?_, ?_, ?_, trivial⟩
    ·exact fun L ac w hs => pln (omv hs 0 rfl rfl rfl fun ac hs => hs)
    ·exact fun L ac w hs => pln (op_idxC hs (some 1) 3 (j := 7) rfl rfl rfl rfl rfl underlying115 sizeOf109 (by decide) (off := 7) (by omega) rfl fun ac hs => hs)
    ·exact fun L ac w hs => pln (op_loadC hs (some 2) 3 (u := nu32 ((rnds (wv l) h i) 7)) rfl rfl rfl rfl isAgg109 sizeOf109 (by decide) (tab_get (j := 7) (by decide)) rfl fun ac hs => hs)
    ·exact fun L ac w hs => pln (omv hs 3 rfl rfl rfl fun ac hs => hs)
    ·exact fun L ac w hs => pln (op_call (F := 142) hs (some 4) (v := nu32 x51) rfl rfl rfl rfl (call142 _) (turn_c ((rnds (wv l) h i) 4) 6 x51 (show (rnds (wv l) h i) 4 < 4294967296 by omega) (by decide) hx51) rfl fun ac w hs => hs)
    ·exact fun L ac w hs => pln (omv hs 5 rfl rfl rfl fun ac hs => hs)
    ·exact fun L ac w hs => pln (op_call (F := 142) hs (some 6) (v := nu32 x52) rfl rfl rfl rfl (call142 _) (turn_c ((rnds (wv l) h i) 4) 11 x52 (show (rnds (wv l) h i) 4 < 4294967296 by omega) (by decide) hx52) rfl fun ac w hs => hs)
    ·exact fun L ac w hs => pln (obn hs 7 (nu32 x53) rfl rfl rfl rfl (bin_xorN hx53 (show x51 < 4294967296 by omega) (show x52 < 4294967296 by omega) lx53) fun ac hs => hs)
    ·exact fun L ac w hs => pln (omv hs 8 rfl rfl rfl fun ac hs => hs)
    ·exact fun L ac w hs => pln (op_call (F := 142) hs (some 9) (v := nu32 x54) rfl rfl rfl rfl (call142 _) (turn_c ((rnds (wv l) h i) 4) 25 x54 (show (rnds (wv l) h i) 4 < 4294967296 by omega) (by decide) hx54) rfl fun ac w hs => hs)
    ·exact fun L ac w hs => pln (obn hs 10 (nu32 x55) rfl rfl rfl rfl (bin_xorN hx55 (show x53 < 4294967296 by omega) (show x54 < 4294967296 by omega) lx55) fun ac hs => hs)
    ·exact fun L ac w hs => pln (obn hs 11 (nu32 x56) rfl rfl rfl rfl (bin_addM rfl hx56) fun ac hs => hs)
    ·exact fun L ac w hs => pln (omv hs 12 rfl rfl rfl fun ac hs => hs)
    ·exact fun L ac w hs => pln (omv hs 13 rfl rfl rfl fun ac hs => hs)
    ·exact fun L ac w hs => pln (op_idxC hs (some 14) 3 (j := 5) rfl rfl rfl rfl rfl underlying115 sizeOf109 (by decide) (off := 5) (by omega) rfl fun ac hs => hs)
    ·exact fun L ac w hs => pln (op_loadC hs (some 15) 3 (u := nu32 ((rnds (wv l) h i) 5)) rfl rfl rfl rfl isAgg109 sizeOf109 (by decide) (tab_get (j := 5) (by decide)) rfl fun ac hs => hs)
    ·exact fun L ac w hs => pln (obn hs 16 (nu32 x58) rfl rfl rfl rfl (bin_andN hx58 (show (rnds (wv l) h i) 4 < 4294967296 by omega) (show (rnds (wv l) h i) 5 < 4294967296 by omega) lx58) fun ac hs => hs)
    ·exact fun L ac w hs => pln (omv hs 17 rfl rfl rfl fun ac hs => hs)
    ·exact fun L ac w hs => pln (obn hs 18 (nu32 x59) rfl rfl rfl rfl (bin_xorN (y := 4294967295) ((not32 (show (rnds (wv l) h i) 4 < 4294967296 by omega)).trans hx59) (show (rnds (wv l) h i) 4 < 4294967296 by omega) (by decide) lx59) fun ac hs => hs)
    ·exact fun L ac w hs => pln (omv hs 19 rfl rfl rfl fun ac hs => hs)
    ·exact fun L ac w hs => pln (op_idxC hs (some 20) 3 (j := 6) rfl rfl rfl rfl rfl underlying115 sizeOf109 (by decide) (off := 6) (by omega) rfl fun ac hs => hs)
    ·exact fun L ac w hs => pln (op_loadC hs (some 21) 3 (u := nu32 ((rnds (wv l) h i) 6)) rfl rfl rfl rfl isAgg109 sizeOf109 (by decide) (tab_get (j := 6) (by decide)) rfl fun ac hs => hs)
    ·exact fun L ac w hs => pln (obn hs 22 (nu32 x61) rfl rfl rfl rfl (bin_andN hx61 (show x59 < 4294967296 by omega) (show (rnds (wv l) h i) 6 < 4294967296 by omega) lx61) fun ac hs => hs)
    ·exact fun L ac w hs => pln (obn hs 23 (nu32 x62) rfl rfl rfl rfl (bin_xorN hx62 (show x58 < 4294967296 by omega) (show x61 < 4294967296 by omega) lx62) fun ac hs => hs)
    ·exact fun L ac w hs => pln (obn hs 24 (nu32 x63) rfl rfl rfl rfl (bin_addM rfl hx63) fun ac hs => hs)
    ·exact fun L ac w hs => pln (omv hs 25 rfl rfl rfl fun ac hs => hs)
    ·exact fun L ac w hs => pln (omv hs 26 rfl rfl rfl fun ac hs => hs)
    ·exact fun L ac w hs => pln (op_idxC hs (some 27) 1 (j := i) rfl rfl rfl rfl rfl underlying115 sizeOf109 (show i < 64 by omega) (off := i) (by omega) rfl fun ac hs => hs)
    ·exact fun L ac w hs => pln (op_loadC hs (some 28) 1 (u := nu32 (KK i)) rfl rfl rfl rfl isAgg109 sizeOf109 (by decide) (tab_get (j := i) (show i < 64 by omega)) rfl fun ac hs => hs)
    ·exact fun L ac w hs => pln (obn hs 29 (nu32 x65) rfl rfl rfl rfl (bin_addM rfl hx65) fun ac hs => hs)
    ·exact fun L ac w hs => pln (omv hs 30 rfl rfl rfl fun ac hs => hs)
    ·exact fun L ac w hs => pln (omv hs 31 rfl rfl rfl fun ac hs => hs)
    ·exact fun L ac w hs => pln (op_idxC hs (some 32) 2 (j := i) rfl rfl rfl rfl rfl underlying115 sizeOf109 (show i < 64 by omega) (off := i) (by omega) rfl fun ac hs => hs)
    ·exact fun L ac w hs => pln (op_loadC hs (some 33) 2 (u := nu32 ((wv l) i)) rfl rfl rfl rfl isAgg109 sizeOf109 (by decide) (tab_get (j := i) (show i < 64 by omega)) rfl fun ac hs => hs)
    ·exact fun L ac w hs => pln (obn hs 34 (nu32 x67) rfl rfl rfl rfl (bin_addM rfl hx67) fun ac hs => hs)
    ·exact fun L ac w hs => pln (oas hs 35 rfl rfl rfl fun ac hs => hs)
   intro ac w hs
   try dsimp only [cond_true] at hs
   refine then_n (wp_seq ?_)
   replace hs := hs.nf w0 Z noX [0, 1, 7, 13, 14, 15, 16, 18] rfl rfl rfl rfl
   obtain ⟨x68, hx68, lx68⟩ : ∃ z0, rr ((rnds (wv l) h i) 0) 2 = z0 ∧ z0 < 4294967296 := ⟨_, rfl, rr_lt (show (rnds (wv l) h i) 0 < 4294967296 by omega)⟩
   obtain ⟨x69, hx69, lx69⟩ : ∃ z0, rr ((rnds (wv l) h i) 0) 13 = z0 ∧ z0 < 4294967296 := ⟨_, rfl, rr_lt (show (rnds (wv l) h i) 0 < 4294967296 by omega)⟩
   obtain ⟨x70, hx70, lx70⟩ : ∃ z0, x68 ^^^ x69 = z0 ∧ z0 < 4294967296 := ⟨_, rfl, x32 (show x68 < 4294967296 by omega) (show x69 < 4294967296 by omega)⟩
   obtain ⟨x71, hx71, lx71⟩ : ∃ z0, rr ((rnds (wv l) h i) 0) 22 = z0 ∧ z0 < 4294967296 := ⟨_, rfl, rr_lt (show (rnds (wv l) h i) 0 < 4294967296 by omega)⟩
   obtain ⟨x72, hx72, lx72⟩ : ∃ z0, x70 ^^^ x71 = z0 ∧ z0 < 4294967296 := ⟨_, rfl, x32 (show x70 < 4294967296 by omega) (show x71 < 4294967296 by omega)⟩
   have l73 := rnds_lt (w := wv l) (h := h) hh i 1
   obtain ⟨x74, hx74, lx74⟩ : ∃ z0, ((rnds (wv l) h i) 0) &&& ((rnds (wv l) h i) 1) = z0 ∧ z0 < 4294967296 := ⟨_, rfl, a32 (show (rnds (wv l) h i) 1 < 4294967296 by omega)⟩
   obtain ⟨x75, hx75, lx75⟩ : ∃ z0, ((rnds (wv l) h i) 0) &&& ((rnds (wv l) h i) 2) = z0 ∧ z0 < 4294967296 := ⟨_, rfl, a32 (show (rnds (wv l) h i) 2 < 4294967296 by omega)⟩
   obtain ⟨x76, hx76, lx76⟩ : ∃ z0, x74 ^^^ x75 = z0 ∧ z0 < 4294967296 := ⟨_, rfl, x32 (show x74 < 4294967296 by omega) (show x75 < 4294967296 by omega)⟩
   have l77 := rnds_lt (w := wv l) (h := h) hh i 1
   obtain ⟨x78, hx78, lx78⟩ : ∃ z0, ((rnds (wv l) h i) 1) &&& ((rnds (wv l) h i) 2) = z0 ∧ z0 < 4294967296 := ⟨_, rfl, a32 (show (rnds (wv l) h i) 2 < 4294967296 by omega)⟩
   obtain ⟨x79, hx79, lx79⟩ : ∃ z0, x76 ^^^ x78 = z0 ∧ z0 < 4294967296 := ⟨_, rfl, x32 (show x76 < 4294967296 by omega) (show x78 < 4294967296 by omega)⟩
   obtain ⟨x80, hx80, lx80⟩ : ∃ z0, (x72 + x79) % 4294967296 = z0 ∧ z0 < 4294967296 := ⟨_, rfl, m32 _⟩
   refine region_inv [([], [1, 3, 4, 6, 7, 23, 24]), ([0], [3, 4, 6, 7, 23, 24]), ([], [3, 4, 6, 7, 23, 24]), ([0, 1, 2], [4, 6, 7, 23, 24]), (rgn 0 4, [7, 23, 24]), ([], [6, 7, 23, 24]), ([0, 1, 2, 3, 5], [7, 23, 24]), (rgn 0 7, [23, 24]), ([], [12, 16, 22, 23, 24]), ([], [10, 11, 12, 16, 22, 23, 24]), ([9], [11, 12, 16, 22, 23, 24]), ([9, 10], [12, 16, 22, 23, 24]), (rgn 8 4, [16, 22, 23, 24]), ([], [15, 16, 22, 23, 24]), ([], [15, 16, 22, 23, 24]), ([13, 14], [16, 22, 23, 24]), (rgn 8 8, [22, 23, 24]), ([], [18, 19, 21, 22, 23, 24]), ([17], [19, 21, 22, 23, 24]), ([17, 18], rgn 21 4), ([], rgn 21 4), (rgn 17 4, [22, 23, 24]), (rgn 8 14, [23, 24]), (rgn 0 23, [24]), (rgn 0 24, [])] (fun L ac w => St 227 ⟨w0, [], [(true, .cel (.slice ah 8 ch) 8 (tab .u32 8 h)), (true, .cel (.slice ak 64 ck) 64 (tab .u32 64 KK)), (true, .own (.slice aw 64 cw) 109 1 64 (tab .u32 64 (wv l))), (true, .own (.slice av 8 cv) 109 1 8 (tab .u32 8 (rnds (wv l) h i)))], Z, noX⟩ [(159, L 0, nu32 ((rnds (wv l) h i) 0)), (160, L 1, nu32 x68), (161, L 2, nu32 ((rnds (wv l) h i) 0)), (162, L 3, nu32 x69), (163, L 4, nu32 x70), (164, L 5, nu32 ((rnds (wv l) h i) 0)), (165, L 6, nu32 x71), (166, L 7, nu32 x72), (167, L 8, nu32 ((rnds (wv l) h i) 0)), (168, L 9, .slice av 8 cv), (169, L 10, vidx (.slice av 8 cv) 1), (170, L 11, nu32 ((rnds (wv l) h i) 1)), (171, L 12, nu32 x74), (172, L 13, nu32 ((rnds (wv l) h i) 0)), (173, L 14, nu32 ((rnds (wv l) h i) 2)), (174, L 15, nu32 x75), (175, L 16, nu32 x76), (176, L 17, .slice av 8 cv), (177, L 18, vidx (.slice av 8 cv) 1), (178, L 19, nu32 ((rnds (wv l) h i) 1)), (179, L 20, nu32 ((rnds (wv l) h i) 2)), (180, L 21, nu32 x78), (181, L 22, nu32 x79), (182, L 23, nu32 x80), (19, L 24, nu32 x80), (0, true, .slice ah 8 ch), (1, true, .slice ak 64 ck), (7, true, .slice aw 64 cw), (13, true, .slice av 8 cv), (14, true, ni64 i), (15, true, nu32 ((rnds (wv l) h i) 0)), (16, true, nu32 ((rnds (wv l) h i) 2)), (18, true, nu32 x67)] [] ac w) (by kernel_rfl) (by kernel_rfl) ?_ ?_ ?_
   ·exact hs.drew.skip.skip.skip.skip.skip.skip.skip.skip.skip.skip.skip.skip.skip.skip.skip.skip.skip.skip.skip.skip.skip.skip.skip.skip.skip
   ·refine ⟨?_, ?_, ?_, ?_, ?_, ?_, ?_, ?_, ?_, ?_, ?_, ?_, ?_, ?_, ?_, ?_, ?_, ?_, ?_, ?_, ?_, ?_, ?_, ?_, ?_, trivial⟩
    ·exact fun L ac w hs => pln (omv hs 0 rfl rfl rfl fun ac hs => hs)
    ·exact fun L ac w hs => pln (op_call (F := 142) hs (some 1) (v := nu32 x68) rfl rfl rfl rfl (call142 _) (turn_c ((rnds (wv l) h i) 0) 2 x68 (show (rnds (wv l) h i) 0 < 4294967296 by omega) (by decide) hx68) rfl fun ac w hs => hs)
    ·exact fun L ac w hs => pln (omv hs 2 rfl rfl rfl fun ac hs => hs)
    ·exact fun L ac w hs => pln (op_call (F := 142) hs (some 3) (v := nu32 x69) rfl rfl rfl rfl (call142 _) (turn_c ((rnds (wv l) h i) 0) 13 x69 (show (rnds (wv l) h i) 0 < 4294967296 by omega) (by decide) hx69) rfl fun ac w hs => hs)
    ·exact fun L ac w hs => pln (obn hs 4 (nu32 x70) rfl rfl rfl rfl (bin_xorN hx70 (show x68 < 4294967296 by omega) (show x69 < 4294967296 by omega) lx70) fun ac hs => hs)
    ·exact fun L ac w hs => pln (omv hs 5 rfl rfl rfl fun ac hs => hs)
    ·exact fun L ac w hs => pln (op_call (F := 142) hs (some 6) (v := nu32 x71) rfl rfl rfl rfl (call142 _) (turn_c ((rnds (wv l) h i) 0) 22 x71 (show (rnds (wv l) h i) 0 < 4294967296 by omega) (by decide) hx71) rfl fun ac w hs => hs)
    ·exact fun L ac w hs => pln (obn hs 7 (nu32 x72) rfl rfl rfl rfl (bin_xorN hx72 (show x70 < 4294967296 by omega) (show x71 < 4294967296 by omega) lx72) fun ac hs => hs)
    ·exact fun L ac w hs => pln (omv hs 8 rfl rfl rfl fun ac hs => hs)
    ·exact fun L ac w hs => pln (omv hs 9 rfl rfl rfl fun ac hs => hs)
    ·exact fun L ac w hs => pln (op_idxC hs (some 10) 3 (j := 1) rfl rfl rfl rfl rfl underlying115 sizeOf109 (by decide) (off := 1) (by omega) rfl fun ac hs => hs)
    ·exact fun L ac w hs => pln (op_loadC hs (some 11) 3 (u := nu32 ((rnds (wv l) h i) 1)) rfl rfl rfl rfl isAgg109 sizeOf109 (by decide) (tab_get (j := 1) (by decide)) rfl fun ac hs => hs)
    ·exact fun L ac w hs => pln (obn hs 12 (nu32 x74) rfl rfl rfl rfl (bin_andN hx74 (show (rnds (wv l) h i) 0 < 4294967296 by omega) (show (rnds (wv l) h i) 1 < 4294967296 by omega) lx74) fun ac hs => hs)
    ·exact fun L ac w hs => pln (omv hs 13 rfl rfl rfl fun ac hs => hs)
    ·exact fun L ac w hs => pln (omv hs 14 rfl rfl rfl fun ac hs => hs)
    ·exact fun L ac w hs => pln (obn hs 15 (nu32 x75) rfl rfl rfl rfl (bin_andN hx75 (show (rnds (wv l) h i) 0 < 4294967296 by omega) (show (rnds (wv l) h i) 2 < 4294967296 by omega) lx75) fun ac hs => hs)
    ·exact fun L ac w hs => pln (obn hs 16 (nu32 x76) rfl rfl rfl rfl (bin_xorN hx76 (show x74 < 4294967296 by omega) (show x75 < 4294967296 by omega) lx76) fun ac hs => hs)
    ·exact fun L ac w hs => pln (omv hs 17 rfl rfl rfl fun ac hs => hs)
    ·exact fun L ac w hs => pln (op_idxC hs (some 18) 3 (j := 1) rfl rfl rfl rfl rfl underlying115 sizeOf109 (by decide) (off := 1) (by omega) rfl fun ac hs => hs)
    ·exact fun L ac w hs => pln (op_loadC hs (some 19) 3 (u := nu32 ((rnds (wv l) h i) 1)) rfl rfl rfl rfl isAgg109 sizeOf109 (by decide) (tab_get (j := 1) (by decide)) rfl fun ac hs => hs)
    ·exact fun L ac w hs => pln (omv hs 20 rfl rfl rfl fun ac hs => hs)
    ·exact fun L ac w hs => pln (obn hs 21 (nu32 x78) rfl rfl rfl rfl (bin_andN hx78 (show (rnds (wv l) h i) 1 < 4294967296 by omega) (show (rnds (wv l) h i) 2 < 4294967296 by omega) lx78) fun ac hs => hs)
    ·exact fun L ac w hs => pln (obn hs 22 (nu32 x79) rfl rfl rfl rfl (bin_xorN hx79 (show x76 < 4294967296 by omega) (show x78 < 4294967296 by omega) lx79) fun ac hs => hs)
    ·exact fun L ac w hs => pln (obn hs 23 (nu32 x80) rfl rfl rfl rfl (bin_addM rfl hx80) fun ac hs => hs)
    ·exact fun L ac w hs => pln (oas hs 24 rfl rfl rfl fun ac hs => hs)
   intro ac w hs
   try dsimp only [cond_true] at hs
   refine then_n ?_
   replace hs := hs.nf w0 Z noX [0, 1, 7, 13, 14, 18, 19] rfl rfl rfl rfl
   obtain ⟨x81, hx81, lx81⟩ : ∃ z0, (x67 + x80) % 4294967296 = z0 ∧ z0 < 4294967296 := ⟨_, rfl, m32 _⟩
   have l82 := rnds_lt (w := wv l) (h := h) hh i 0
   have l83 := rnds_lt (w := wv l) (h := h) hh i 1
   have l84 := rnds_lt (w := wv l) (h := h) hh i 2
   have l85 := rnds_lt (w := wv l) (h := h) hh i 3
   obtain ⟨x86, hx86, lx86⟩ : ∃ z0, ((rnds (wv l) h i) 3 + x67) % 4294967296 = z0 ∧ z0 < 4294967296 := ⟨_, rfl, m32 _⟩
   have l87 := rnds_lt (w := wv l) (h := h) hh i 4
   have l88 := rnds_lt (w := wv l) (h := h) hh i 5
   have l89 := rnds_lt (w := wv l) (h := h) hh i 6
   refine region_inv [([], [2, 26, 27]), ([], [2, 26, 27]), ([0, 1], [26, 27]), ([], [4, 5, 26, 27]), ([3], [5, 26, 27]), ([3, 4], [26, 27]), ([], [7, 8, 26, 27]), ([6], [8, 26, 27]), ([6, 7], [26, 27]), ([], [10, 11, 26, 27]), ([9], [11, 26, 27]), ([9, 10], [26, 27]), ([], [13, 14, 16, 26, 27]), ([12], [14, 16, 26, 27]), ([12, 13], [16, 26, 27]), ([], [16, 26, 27]), (rgn 12 4, [26, 27]), ([], [18, 19, 26, 27]), ([17], [19, 26, 27]), ([17, 18], [26, 27]), ([], [21, 22, 26, 27]), ([20], [22, 26, 27]), ([20, 21], [26, 27]), ([], rgn 24 4), ([23], [25, 26, 27]), ([23, 24], [26, 27]), (rgn 0 26, [27]), (rgn 0 27, [])] (fun L ac w => ∃ (ad91 : Option Addr), St 227 ⟨w0, [], [(true, .cel (.slice ah 8 ch) 8 (tab .u32 8 h)), (true, .cel (.slice ak 64 ck) 64 (tab .u32 64 KK)), (true, .own (.slice aw 64 cw) 109 1 64 (tab .u32 64 (wv l))), (true, .own (.slice av 8 cv) 109 1 8 (tab .u32 8 (rnds (wv l) h i))), (L 26, .own (.slice ad91 8 8) 109 1 8 (tab .u32 8 (ft8 x81 ((rnds (wv l) h i) 0) ((rnds (wv l) h i) 1) ((rnds (wv l) h i) 2) x86 ((rnds (wv l) h i) 4) ((rnds (wv l) h i) 5) ((rnds (wv l) h i) 6))))], Z, noX⟩ [(183, L 0, nu32 x67), (184, L 1, nu32 x80), (185, L 2, nu32 x81), (186, L 3, .slice av 8 cv), (187, L 4, vidx (.slice av 8 cv) 0), (188, L 5, nu32 ((rnds (wv l) h i) 0)), (189, L 6, .slice av 8 cv), (190, L 7, vidx (.slice av 8 cv) 1), (191, L 8, nu32 ((rnds (wv l) h i) 1)), (192, L 9, .slice av 8 cv), (193, L 10, vidx (.slice av 8 cv) 2), (194, L 11, nu32 ((rnds (wv l) h i) 2)), (195, L 12, .slice av 8 cv), (196, L 13, vidx (.slice av 8 cv) 3), (197, L 14, nu32 ((rnds (wv l) h i) 3)), (198, L 15, nu32 x67), (199, L 16, nu32 x86), (200, L 17, .slice av 8 cv), (201, L 18, vidx (.slice av 8 cv) 4), (202, L 19, nu32 ((rnds (wv l) h i) 4)), (203, L 20, .slice av 8 cv), (204, L 21, vidx (.slice av 8 cv) 5), (205, L 22, nu32 ((rnds (wv l) h i) 5)), (206, L 23, .slice av 8 cv), (207, L 24, vidx (.slice av 8 cv) 6), (208, L 25, nu32 ((rnds (wv l) h i) 6)), (209, L 26, .slice ad91 8 8), (13, L 27, cond (L 27) (.slice ad91 8 8) undef), (0, true, .slice ah 8 ch), (1, true, .slice ak 64 ck), (7, true, .slice aw 64 cw), (13, true, .slice av 8 cv), (14, true, ni64 i), (18, true, nu32 x67), (19, true, nu32 x80)] [] ac w) (by kernel_rfl) (by kernel_rfl) ?_ ?_ ?_
   ·exact ⟨none, hs.drew.skip.skip.skip.skip.skip.skip.skip.skip.skip.skip.skip.skip.skip.skip.skip.skip.skip.skip.skip.skip.skip.skip.skip.skip.skip.skip.skip.skip.padS⟩
   ·refine ⟨?_, ?_, ?_, ?_, ?_, ?_, ?_, ?_, ?_, ?_, ?_, ?_, ?_, ?_, ?_, ?_, ?_, ?_, ?_, ?_, ?_, ?_, ?_, ?_, ?_, ?_, ?_, ?_, trivial⟩
    ·exact fun L ac w ⟨ad91, hs⟩ => pln (omv hs 0 rfl rfl rfl fun ac hs => ⟨ad91, hs⟩)
    ·exact fun L ac w ⟨ad91, hs⟩ => pln (omv hs 1 rfl rfl rfl fun ac hs => ⟨ad91, hs⟩)
    ·exact fun L ac w ⟨ad91, hs⟩ => pln (obn hs 2 (nu32 x81) rfl rfl rfl rfl (bin_addM rfl hx81) fun ac hs => ⟨ad91, hs⟩)
    ·exact fun L ac w ⟨ad91, hs⟩ => pln (omv hs 3 rfl rfl rfl fun ac hs => ⟨ad91, hs⟩)
    ·exact fun L ac w ⟨ad91, hs⟩ => pln (op_idxC hs (some 4) 3 (j := 0) rfl rfl rfl rfl rfl underlying115 sizeOf109 (by decide) (off := 0) (by omega) rfl fun ac hs => ⟨ad91, hs⟩)
    ·exact fun L ac w ⟨ad91, hs⟩ => pln (op_loadC hs (some 5) 3 (u := nu32 ((rnds (wv l) h i) 0)) rfl rfl rfl rfl isAgg109 sizeOf109 (by decide) (tab_get (j := 0) (by decide)) rfl fun ac hs => ⟨ad91, hs⟩)
    ·exact fun L ac w ⟨ad91, hs⟩ => pln (omv hs 6 rfl rfl rfl fun ac hs => ⟨ad91, hs⟩)
    ·exact fun L ac w ⟨ad91, hs⟩ => pln (op_idxC hs (some 7) 3 (j := 1) rfl rfl rfl rfl rfl underlying115 sizeOf109 (by decide) (off := 1) (by omega) rfl fun ac hs => ⟨ad91, hs⟩)
    ·exact fun L ac w ⟨ad91, hs⟩ => pln (op_loadC hs (some 8) 3 (u := nu32 ((rnds (wv l) h i) 1)) rfl rfl rfl rfl isAgg109 sizeOf109 (by decide) (tab_get (j := 1) (by decide)) rfl fun ac hs => ⟨ad91, hs⟩)
    ·exact fun L ac w ⟨ad91, hs⟩ => pln (omv hs 9 rfl rfl rfl fun ac hs => ⟨ad91, hs⟩)
    ·exact fun L ac w ⟨ad91, hs⟩ => pln (op_idxC hs (some 10) 3 (j := 2) rfl rfl rfl rfl rfl underlying115 sizeOf109 (by decide) (off := 2) (by omega) rfl fun ac hs => ⟨ad91, hs⟩)
    ·exact fun L ac w ⟨ad91, hs⟩ => pln (op_loadC hs (some 11) 3 (u := nu32 ((rnds (wv l) h i) 2)) rfl rfl rfl rfl isAgg109 sizeOf109 (by decide) (tab_get (j := 2) (by decide)) rfl fun ac hs => ⟨ad91, hs⟩)
    ·exact fun L ac w ⟨ad91, hs⟩ => pln (omv hs 12 rfl rfl rfl fun ac hs => ⟨ad91, hs⟩)
    ·exact fun L ac w ⟨ad91, hs⟩ => pln (op_idxC hs (some 13) 3 (j := 3) rfl rfl rfl rfl rfl underlying115 sizeOf109 (by decide) (off := 3) (by omega) rfl fun ac hs => ⟨ad91, hs⟩)
    ·exact fun L ac w ⟨ad91, hs⟩ => pln (op_loadC hs (some 14) 3 (u := nu32 ((rnds (wv l) h i) 3)) rfl rfl rfl rfl isAgg109 sizeOf109 (by decide) (tab_get (j := 3) (by decide)) rfl fun ac hs => ⟨ad91, hs⟩)
    ·exact fun L ac w ⟨ad91, hs⟩ => pln (omv hs 15 rfl rfl rfl fun ac hs => ⟨ad91, hs⟩)
    ·exact fun L ac w ⟨ad91, hs⟩ => pln (obn hs 16 (nu32 x86) rfl rfl rfl rfl (bin_addM rfl hx86) fun ac hs => ⟨ad91, hs⟩)
    ·exact fun L ac w ⟨ad91, hs⟩ => pln (omv hs 17 rfl rfl rfl fun ac hs => ⟨ad91, hs⟩)
    ·exact fun L ac w ⟨ad91, hs⟩ => pln (op_idxC hs (some 18) 3 (j := 4) rfl rfl rfl rfl rfl underlying115 sizeOf109 (by decide) (off := 4) (by omega) rfl fun ac hs => ⟨ad91, hs⟩)
    ·exact fun L ac w ⟨ad91, hs⟩ => pln (op_loadC hs (some 19) 3 (u := nu32 ((rnds (wv l) h i) 4)) rfl rfl rfl rfl isAgg109 sizeOf109 (by decide) (tab_get (j := 4) (by decide)) rfl fun ac hs => ⟨ad91, hs⟩)
    ·exact fun L ac w ⟨ad91, hs⟩ => pln (omv hs 20 rfl rfl rfl fun ac hs => ⟨ad91, hs⟩)
    ·exact fun L ac w ⟨ad91, hs⟩ => pln (op_idxC hs (some 21) 3 (j := 5) rfl rfl rfl rfl rfl underlying115 sizeOf109 (by decide) (off := 5) (by omega) rfl fun ac hs => ⟨ad91, hs⟩)
    ·exact fun L ac w ⟨ad91, hs⟩ => pln (op_loadC hs (some 22) 3 (u := nu32 ((rnds (wv l) h i) 5)) rfl rfl rfl rfl isAgg109 sizeOf109 (by decide) (tab_get (j := 5) (by decide)) rfl fun ac hs => ⟨ad91, hs⟩)
    ·exact fun L ac w ⟨ad91, hs⟩ => pln (omv hs 23 rfl rfl rfl fun ac hs => ⟨ad91, hs⟩)
    ·exact fun L ac w ⟨ad91, hs⟩ => pln (op_idxC hs (some 24) 3 (j := 6) rfl rfl rfl rfl rfl underlying115 sizeOf109 (by decide) (off := 6) (by omega) rfl fun ac hs => ⟨ad91, hs⟩)
    ·exact fun L ac w ⟨ad91, hs⟩ => pln (op_loadC hs (some 25) 3 (u := nu32 ((rnds (wv l) h i) 6)) rfl rfl rfl rfl isAgg109 sizeOf109 (by decide) (tab_get (j := 6) (by decide)) rfl fun ac hs => ⟨ad91, hs⟩)
    ·exact fun L ac w ⟨ad91, hs⟩ => pln (op_bsO hs (some 26) (some 4) (qs := [(0, nu32 x81), (1, nu32 ((rnds (wv l) h i) 0)), (2, nu32 ((rnds (wv l) h i) 1)), (3, nu32 ((rnds (wv l) h i) 2)), (4, nu32 x86), (5, nu32 ((rnds (wv l) h i) 4)), (6, nu32 ((rnds (wv l) h i) 5)), (7, nu32 ((rnds (wv l) h i) 6))]) (cs := tab .u32 8 (ft8 x81 ((rnds (wv l) h i) 0) ((rnds (wv l) h i) 1) ((rnds (wv l) h i) 2) x86 ((rnds (wv l) h i) 4) ((rnds (wv l) h i) 5) ((rnds (wv l) h i) 6))) rfl rfl rfl rfl underlying115 inf_u32_109 (by decide) (by decide) (by kernel_rfl) rfl rfl rfl rfl fun ad91 ac w hs => ⟨ad91, hs⟩)
    ·exact fun L ac w ⟨ad91, hs⟩ => pln (oas hs 27 rfl rfl rfl fun ac hs => ⟨ad91, hs⟩)
   intro ac w ⟨ad91, hs⟩
   try dsimp only [cond_true] at hs
   refine blk_n (then_n (wp_region_lit ?_))
   refine mvv hs rfl rfl rfl fun ac hs => ?_
   refine bnn hs (ni64 (i + 1)) rfl rfl rfl rfl (bin_addN (y := 1) rfl (show i + 1 < 9223372036854775808 by omega)) fun ac hs => ?_
   refine asg hs rfl rfl rfl fun ac hs => ?_
   refine wpList_nil (then_n ?_)
   replace hs := hs.ownEq 4 (N' := 8) (xs' := tab .u32 8 (rnds (wv l) h (i + 1))) rfl rfl (congrArg (tab .u32 8) (show ft8 x81 ((rnds (wv l) h i) 0) ((rnds (wv l) h i) 1) ((rnds (wv l) h i) 2) x86 ((rnds (wv l) h i) 4) ((rnds (wv l) h i) 5) ((rnds (wv l) h i) 6) = rnd (KK i) (wv l i) (rnds (wv l) h i) by simp only [rnd, t1v, t2v, hx51, hx52, hx53, hx54, hx55, hx56, hx58, hx59, hx61, hx62, hx63, hx65, hx67, hx68, hx69, hx70, hx71, hx72, hx74, hx75, hx76, hx78, hx79, hx80, hx81, hx86]))
   replace hs := hs.selS [0, 1, 2, 4] rfl (by decide)
   exact ⟨_, ⟨(i + 1), ad91, 8, rfl, (by omega), (hs.re (fs' := [(0, true, .slice ah 8 ch), (1, true, .slice ak 64 ck), (7, true, .slice aw 64 cw), (13, true, .slice ad91 8 8), (14, true, ni64 ((i + 1)))]) ⟨rfl, rfl, rfl, rfl, rfl, trivial⟩)⟩, (by omega)⟩
  ·skip
   have hp92 := of_decide_eq_false hc
   obtain rfl : i = 64 := by have := of_decide_eq_false hc; omega
   refine wp_exit (then_e (then_e (blk_e (then_n (wp_seq (wp_seq (wp_region_lit ?_)))))))
   refine asg hs rfl rfl rfl fun ac hs => ?_
   refine wpList_nil (then_n (wp_block ?_))
   replace hs := hs.ownEq 3 (N' := 8) (xs' := tab .u32 8 (addV h (rnds (wv l) h 64) 0)) rfl rfl (tab_ext fun j hj => addV_zero _ _ j)
   refine wp_loop_m (fun μ ac w => ∃ (i : Nat), (8 - i) = μ ∧ (i ≤ 8) ∧ St 227 ⟨w0, [], [(true, .cel (.slice ah 8 ch) 8 (tab .u32 8 h)), (true, .own (.slice av 8 cv) 109 1 8 (tab .u32 8 (addV h (rnds (wv l) h 64) i)))], Z, noX⟩ [(0, true, .slice ah 8 ch), (13, true, .slice av 8 cv), (20, true, ni64 i)] [] ac w) ?_ ?_
   replace hs := hs.selS [0, 3] rfl (by decide)
   ·exact ⟨_, 0, rfl, (by omega), (hs.re (fs' := [(0, true, .slice ah 8 ch), (13, true, .slice av 8 cv), (20, true, ni64 0)]) ⟨rfl, rfl, rfl, trivial⟩)⟩
   intro μ ac w ⟨i, hμ, hi, hs⟩
   refine wp_seq (wp_seq (wp_region_lit ?_))
   refine mvv hs rfl rfl rfl fun ac hs => ?_
   refine bnn hs (.bool (decide (i < 8))) rfl rfl rfl rfl (bin_lssN (y := 8)) fun ac hs => ?_
   refine wpList_nil (then_n ?_)
   refine wp_cond_split (hs.ev rfl) (fun hc => ?_) (fun hc => ?_)
   ·skip
    have hp93 := of_decide_eq_true hc
    have hi8 := of_decide_eq_true hc
    refine wp_skip (then_n (wp_seq (wp_block ?_)))
    replace hs := hs.nf w0 Z noX [0, 13, 20] rfl rfl rfl rfl
    have l94 := addV_lt (h := h) (rnds_lt (w := wv l) (h := h) hh 64) i i
    have l95 := hh i
    obtain ⟨x96, hx96, lx96⟩ : ∃ z0, ((addV h (rnds (wv l) h 64) i) i + (h i)) % 4294967296 = z0 ∧ z0 < 4294967296 := ⟨_, rfl, m32 _⟩
    refine region_inv [([], [11, 12]), ([], [11, 12]), ([], [4, 5, 10, 11, 12]), ([], [4, 5, 10, 11, 12]), ([2, 3], [5, 10, 11, 12]), ([2, 3, 4], [10, 11, 12]), ([], rgn 8 5), ([], rgn 8 5), ([6, 7], rgn 9 4), ([6, 7, 8], [10, 11, 12]), (rgn 2 8, [11, 12]), (rgn 0 11, [12]), (rgn 0 12, [])] (fun L ac w => St 227 ⟨w0, [], [(true, .cel (.slice ah 8 ch) 8 (tab .u32 8 h)), (true, cond (L 12) (.own (.slice av 8 cv) 109 1 8 (tab .u32 8 (upn (addV h (rnds (wv l) h 64) i) i x96))) (.own (.slice av 8 cv) 109 1 8 (tab .u32 8 (addV h (rnds (wv l) h 64) i))))], Z, noX⟩ [(214, L 0, .slice av 8 cv), (215, L 1, ni64 i), (216, L 2, .slice av 8 cv), (217, L 3, ni64 i), (218, L 4, vidx (.slice av 8 cv) i), (219, L 5, .int .u32 (((addV h (rnds (wv l) h 64) i) i : Nat) : Int)), (220, L 6, .slice ah 8 ch), (221, L 7, ni64 i), (222, L 8, vidx (.slice ah 8 ch) i), (223, L 9, nu32 (h i)), (224, L 10, nu32 x96), (225, L 11, vidx (.slice av 8 cv) i), (0, true, .slice ah 8 ch), (13, true, .slice av 8 cv), (20, true, ni64 i)] [] ac w) (by kernel_rfl) (by kernel_rfl) ?_ ?_ ?_
    ·exact hs.drew.skip.skip.skip.skip.skip.skip.skip.skip.skip.skip.skip.skip
    ·refine ⟨?_, ?_, ?_, ?_, ?_, ?_, ?_, ?_, ?_, ?_, ?_, ?_, ?_, trivial⟩
     ·exact fun L ac w hs => pln (omv hs 0 rfl rfl rfl fun ac hs => hs)
     ·exact fun L ac w hs => pln (omv hs 1 rfl rfl rfl fun ac hs => hs)
     ·exact fun L ac w hs => pln (omv hs 2 rfl rfl rfl fun ac hs => hs)
     ·exact fun L ac w hs => pln (omv hs 3 rfl rfl rfl fun ac hs => hs)
     ·exact fun L ac w hs => pln (op_idxC hs (some 4) 1 (j := i) rfl rfl rfl rfl rfl underlying115 sizeOf109 (show i < 8 by omega) (off := i) (by omega) rfl fun ac hs => hs)
     ·exact fun L ac w hs => pln (op_loadC hs (some 5) 1 (u := .int .u32 (((addV h (rnds (wv l) h 64) i) i : Nat) : Int)) rfl rfl rfl rfl isAgg109 sizeOf109 (by decide) (tab_get (j := i) (show i < 8 by omega)) rfl fun ac hs => hs)
     ·exact fun L ac w hs => pln (omv hs 6 rfl rfl rfl fun ac hs => hs)
     ·exact fun L ac w hs => pln (omv hs 7 rfl rfl rfl fun ac hs => hs)
     ·exact fun L ac w hs => pln (op_idxC hs (some 8) 0 (j := i) rfl rfl rfl rfl rfl underlying115 sizeOf109 (show i < 8 by omega) (off := i) (by omega) rfl fun ac hs => hs)
     ·exact fun L ac w hs => pln (op_loadC hs (some 9) 0 (u := nu32 (h i)) rfl rfl rfl rfl isAgg109 sizeOf109 (by decide) (tab_get (j := i) (show i < 8 by omega)) rfl fun ac hs => hs)
     ·exact fun L ac w hs => pln (obn hs 10 (nu32 x96) rfl rfl rfl rfl (bin_addM rfl hx96) fun ac hs => hs)
     ·exact fun L ac w hs => pln (op_idxC hs (some 11) 1 (j := i) rfl rfl rfl rfl rfl underlying115 sizeOf109 (show i < 8 by omega) (off := i) (by omega) rfl fun ac hs => hs)
     ·exact fun L ac w hs => pln (op_storeO hs 1 (u := nu32 x96) (xs' := (tab .u32 8 (upn (addV h (rnds (wv l) h 64) i) i x96))) rfl rfl rfl rfl rfl rfl (show i < 8 by omega) sizeOf109 rfl rfl tab_set fun w hs => hs)
    intro ac w hs
    try dsimp only [cond_true] at hs
    refine blk_n (then_n (wp_region_lit ?_))
    refine mvv hs rfl rfl rfl fun ac hs => ?_
    refine bnn hs (ni64 (i + 1)) rfl rfl rfl rfl (bin_addN (y := 1) rfl (show i + 1 < 9223372036854775808 by omega)) fun ac hs => ?_
    refine asg hs rfl rfl rfl fun ac hs => ?_
    refine wpList_nil (then_n ?_)
    replace hs := hs.ownEq 1 (N' := 8) (xs' := tab .u32 8 (addV h (rnds (wv l) h 64) (i + 1))) rfl rfl (tab_ext fun j hj => addV_step (by rw [← hx96, addV_at]) j)
    exact ⟨_, ⟨(i + 1), rfl, (by omega), (hs.re (fs' := [(0, true, .slice ah 8 ch), (13, true, .slice av 8 cv), (20, true, ni64 ((i + 1)))]) ⟨rfl, rfl, rfl, trivial⟩)⟩, (by omega)⟩
   ·skip
    have hp97 := of_decide_eq_false hc
    obtain rfl : i = 8 := by have := of_decide_eq_false hc; omega
    refine wp_exit (then_e (then_e (blk_e (then_n (wp_seq (wp_region_lit ?_))))))
    refine mvv hs rfl rfl rfl fun ac hs => ?_
    refine asg hs rfl rfl rfl fun ac hs => ?_
    refine wpList_nil (then_n (wp_ret ?_))
    replace hs := hs.freeze 1 rfl
    replace hs := hs.celEq 1 (N' := 8) (cs' := tab .u32 8 (blk h l)) rfl rfl (tab_ext fun j hj => addV_end hj)
    exact bodyPost_ret (res1 rfl (rv_t hs rfl)) hs.defers ⟨⟨av, cv⟩, rfl, hs.bel rfl, hs.ret1 1 rfl⟩
theorem rshasum_c (ad : Option Addr) (nl c : Nat) (l : List UInt8) (hlen : l.length ≤ 200000) (w0 : World) (Z : Nat → Prop) (hl : ByV w0 Z (.slice ad nl c) l): Calls prog 99 #[.slice ad nl c] w0 fun e w' => Ret w0 Z (ρ := Unit) (fun r => At .u8 32 (sha l)) (fun r => []) e w' := by
 obtain rfl := byv_len hl
 refine enterS (n := 47) (args := [.slice ad l.length c]) (S := [(true, .cel (.slice ad l.length c) l.length (bcs l))]) (Z := Z) func99 rfl rfl (Nat.le_of_ble_eq_true rfl) (sokC hl sok0) rfl fun ac hs => ?_
 refine wp_seq (wp_region_lit ?_)
 refine stp (op_alloc hs none none (cs := (tab .u8 32 (fun _ => 0))) rfl rfl zeroValue30 (by kernel_rfl) rfl rfl fun g1 ac w hs => ?_)
 refine wpList_nil (then_n (wp_seq (wp_region_lit ?_)))
 refine stp (op_bsO hs none none (qs := [(0, .int .u32 1779033703), (1, .int .u32 3144134277), (2, .int .u32 1013904242), (3, .int .u32 2773480762), (4, .int .u32 1359893119), (5, .int .u32 2600822924), (6, .int .u32 528734635), (7, .int .u32 1541459225)]) (cs := tab .u32 8 (ft8 1779033703 3144134277 1013904242 2773480762 1359893119 2600822924 528734635 1541459225)) rfl rfl rfl rfl underlying115 inf_u32_109 (by decide) (by decide) (by kernel_rfl) rfl rfl rfl rfl fun ad3 ac w hs => ?_)
 refine asg hs rfl rfl rfl fun ac hs => ?_
 refine wpList_nil (then_n (wp_seq (wp_region_lit ?_)))
 refine stp (op_callS (F := 131) (ρ := Option Addr × Nat) hs none none (v := fun r => .slice r.1 64 r.2) (E := fun r => [.cel (.slice r.1 64 r.2) 64 (tab .u32 64 KK)]) (j := 1) rfl rfl rfl rfl (call131 _) (fun hs => rsteps_c _ _) (fun _ => rfl) rfl rfl fun ⟨ad4, cp5⟩ ac w hs => ?_)
 refine asg hs rfl rfl rfl fun ac hs => ?_
 refine wpList_nil (then_n (wp_seq (wp_region_lit ?_)))
 refine mvv hs rfl rfl rfl fun ac hs => ?_
 refine stp (op_callS (F := 132) (ρ := Option Addr × Nat) hs none none (v := fun r => .slice r.1 ((l ++ tl64 l.length l.length).length) r.2) (E := fun r => [.cel (.slice r.1 ((l ++ tl64 l.length l.length).length) r.2) ((l ++ tl64 l.length l.length).length) (bcs (l ++ tl64 l.length l.length))]) (j := 1) rfl rfl rfl rfl (call132 _) (fun hs => rpad_c ad l.length c l (show l.length ≤ 200000 by omega) _ _ (hs.all (k := 0) rfl rfl)) (fun _ => rfl) rfl rfl fun ⟨ad6, cp7⟩ ac w hs => ?_)
 refine asg hs rfl rfl rfl fun ac hs => ?_
 refine wpList_nil (then_n (wp_seq (wp_seq ?_)))
 replace hs := hs.nf w0 Z noX [2, 3, 4, 5] rfl rfl rfl rfl
 refine wp_region_lit ?_
 refine asg hs rfl rfl rfl fun ac hs => ?_
 refine wpList_nil (then_n (wp_block ?_))
 replace hs := hs.freeze 1 rfl
 replace hs := hs.celEq 1 (N' := 8) (cs' := tab .u32 8 HH0) rfl rfl rfl
 refine wp_loop_m (fun μ ac w => ∃ (i : Nat) (h1 : Nat → Nat) (a1 : Option Addr) (c1 : Nat), ((l ++ tl64 l.length l.length).length - i) = μ ∧ (i ≤ (l ++ tl64 l.length l.length).length) ∧ (i % 64 = 0) ∧ (∀ j, h1 j < 4294967296) ∧ (blks HH0 (l ++ tl64 l.length l.length) = blks h1 ((l ++ tl64 l.length l.length).drop i)) ∧ St 47 ⟨w0, [], [(true, .cel (.slice a1 8 c1) 8 (tab .u32 8 h1)), (true, .cel (.slice ad4 64 cp5) 64 (tab .u32 64 KK)), (true, .cel (.slice ad6 ((l ++ tl64 l.length l.length).length) cp7) ((l ++ tl64 l.length l.length).length) (bcs (l ++ tl64 l.length l.length)))], Z, noX⟩ [(2, true, ptA g1 0), (4, true, .slice ad4 64 cp5), (5, true, .slice ad6 ((l ++ tl64 l.length l.length).length) cp7), (3, true, .slice a1 8 c1), (6, true, ni64 i)] [(true, g1, 30, (tab .u8 32 (fun _ => 0)))] ac w) ?_ ?_
 replace hs := hs.selS [1, 2, 3] rfl (by decide)
 ·exact ⟨_, 0, HH0, ad3, 8, rfl, (Nat.zero_le _), rfl, HH0_lt, rfl, (hs.re (fs' := [(2, true, ptA g1 0), (4, true, .slice ad4 64 cp5), (5, true, .slice ad6 ((l ++ tl64 l.length l.length).length) cp7), (3, true, .slice ad3 8 8), (6, true, ni64 0)]) ⟨rfl, rfl, rfl, rfl, rfl, trivial⟩)⟩
 intro μ ac w ⟨i, h1, a1, c1, hμ, hi, hi64, hh1, hb1, hs⟩
 have hp64 : (l ++ tl64 l.length l.length).length % 64 = 0 := by rw [List.length_append]; exact tl64_len _ _
 have hpl : (l ++ tl64 l.length l.length).length ≤ 300000 := by have := tl64_le l.length l.length; rw [List.length_append]; omega
 refine wp_seq (wp_seq (wp_region_lit ?_))
 refine mvv hs rfl rfl rfl fun ac hs => ?_
 refine mvv hs rfl rfl rfl fun ac hs => ?_
 refine stp (op_blt hs none (v := ni64 ((l ++ tl64 l.length l.length).length)) rfl rfl rfl (blt_len underlying25) rfl fun ac hs => ?_)
 refine bnn hs (.bool (decide (i < (l ++ tl64 l.length l.length).length))) rfl rfl rfl rfl bin_lssN fun ac hs => ?_
 refine wpList_nil (then_n ?_)
 refine wp_cond_split (hs.ev rfl) (fun hc => ?_) (fun hc => ?_)
 ·skip
  have hp8 := of_decide_eq_true hc
  have hlt := of_decide_eq_true hc
  have hi2 : i + 64 ≤ (l ++ tl64 l.length l.length).length := by omega
  have hpl2 : l.length + (tl64 l.length l.length).length = (l ++ tl64 l.length l.length).length := List.length_append.symm
  refine wp_skip (then_n (wp_seq (wp_block (wp_region_lit ?_))))
  refine mvv hs rfl rfl rfl fun ac hs => ?_
  refine mvv hs rfl rfl rfl fun ac hs => ?_
  refine mvv hs rfl rfl rfl fun ac hs => ?_
  refine mvv hs rfl rfl rfl fun ac hs => ?_
  refine mvv hs rfl rfl rfl fun ac hs => ?_
  refine bnn hs (ni64 (i + 64)) rfl rfl rfl rfl (bin_addN (y := 64) rfl (show i + 64 < 9223372036854775808 by omega)) fun ac hs => ?_
  refine stp (op_sliceR hs none none 2 i (i + 64) (N' := (((l ++ tl64 l.length l.length).drop i).take (i + 64 - i)).length) (cs' := bcs (((l ++ tl64 l.length l.length).drop i).take (i + 64 - i))) rfl rfl rfl rfl (.inr ⟨_, _, rfl, rfl⟩) (.inr ⟨_, _, rfl, rfl⟩) underlying25 sizeOf5 (show i ≤ i + 64 by omega) (show i + 64 ≤ (l ++ tl64 l.length l.length).length by first | omega | ((try simp only [List.length_drop, List.length_take, List.length_append, List.length_cons, List.length_nil]); omega)) (len_both (show i ≤ i + 64 by omega) (show i + 64 ≤ (l ++ tl64 l.length l.length).length by first | omega | ((try simp only [List.length_drop, List.length_take, List.length_append, List.length_cons, List.length_nil]); omega))) (bcs_part _ _ _) rfl rfl fun ac hs => ?_)
  refine stp (op_callS (F := 133) (ρ := Option Addr × Nat) hs none none (v := fun r => .slice r.1 8 r.2) (E := fun r => [.cel (.slice r.1 8 r.2) 8 (tab .u32 8 (blk h1 (((l ++ tl64 l.length l.length).drop i).take (i + 64 - i))))]) (j := 1) rfl rfl rfl rfl (call133 _) (fun hs => rblock_c a1 c1 h1 (fun j => hh1 j) ad4 cp5 (vsa ad6 cp7 1 i) ((((l ++ tl64 l.length l.length).drop i).take (i + 64 - i)).length) (cp7 - i) (((l ++ tl64 l.length l.length).drop i).take (i + 64 - i)) (show (((l ++ tl64 l.length l.length).drop i).take (i + 64 - i)).length = 64 by first | omega | ((try simp only [List.length_drop, List.length_take, List.length_append, List.length_cons, List.length_nil]); omega)) _ _ (hs.all (k := 0) rfl rfl) (hs.all (k := 1) rfl rfl) (hs.all (k := 3) rfl rfl)) (fun _ => rfl) rfl rfl fun ⟨ad9, cp10⟩ ac w hs => ?_)
  refine asg hs rfl rfl rfl fun ac hs => ?_
  refine wpList_nil (blk_n (then_n ?_))
  replace hs := hs.nf w0 Z noX [2, 4, 5, 3, 6] rfl rfl rfl rfl
  refine wp_region_lit ?_
  refine mvv hs rfl rfl rfl fun ac hs => ?_
  refine bnn hs (ni64 (i + 64)) rfl rfl rfl rfl (bin_addN (y := 64) rfl (show i + 64 < 9223372036854775808 by omega)) fun ac hs => ?_
  refine asg hs rfl rfl rfl fun ac hs => ?_
  refine wpList_nil (then_n ?_)
  replace hs := hs.selS [4, 1, 2] rfl (by decide)
  exact ⟨_, ⟨(i + 64), (blk h1 (((l ++ tl64 l.length l.length).drop i).take (i + 64 - i))), ad9, cp10, rfl, (by omega), (by omega), (fun j => blk_lt h1 (((l ++ tl64 l.length l.length).drop i).take (i + 64 - i)) j), (by rw [show i + 64 - i = 64 by omega, ← List.drop_drop]; exact hb1.trans (blks_step (by rw [List.length_drop]; omega))), (hs.re (fs' := [(2, true, ptA g1 0), (4, true, .slice ad4 64 cp5), (5, true, .slice ad6 ((l ++ tl64 l.length l.length).length) cp7), (3, true, .slice ad9 8 cp10), (6, true, ni64 ((i + 64)))]) ⟨rfl, rfl, rfl, rfl, rfl, trivial⟩)⟩, (by omega)⟩
 ·skip
  have hp11 := of_decide_eq_false hc
  have hge := of_decide_eq_false hc
  have hH : shaH l = h1 := by unfold shaH; rw [hb1, blks_end (by rw [List.length_drop]; omega)]
  refine wp_exit (then_e (then_e (blk_e (then_n (wp_seq (wp_region_lit ?_))))))
  refine stp (op_build hs none (qs := []) (v := At .u8 32 (fun _ => 0)) rfl rfl rfl rfl (fun _ => by kernel_rfl) rfl fun ac hs => ?_)
  refine stp (op_alloc hs none none (cs := (tab .u8 32 (fun _ => 0))) rfl rfl zeroValue30 (by kernel_rfl) rfl rfl fun g12 ac w hs => ?_)
  refine stp (stoo hs 1 ((tab .u8 32 (fun _ => 0))) sizeOf30 rfl rfl rfl rfl rfl (by kernel_rfl) tab_length' (tab_one _ _ _) tab_leA wr_tab fun w hs => ?_)
  refine wpList_nil (then_n (wp_seq (wp_seq ?_)))
  replace hs := hs.nf w0 Z noX [2, 3, 7] rfl rfl rfl rfl
  refine wp_region_lit ?_
  refine asg hs rfl rfl rfl fun ac hs => ?_
  refine wpList_nil (then_n (wp_block ?_))
  replace hs := hs.setb 1 (cs' := (tab .u8 32 (outT h1 0))) rfl (tab_ext fun j hj => outT_zero h1 j)
  refine wp_loop_m (fun μ ac w => ∃ (i : Nat), (32 - i) = μ ∧ (i ≤ 32) ∧ St 47 ⟨w0, [], [(true, .cel (.slice a1 8 c1) 8 (tab .u32 8 h1))], Z, noX⟩ [(2, true, ptA g1 0), (3, true, .slice a1 8 c1), (7, true, ptA g12 0), (8, true, ni64 i)] [(true, g1, 30, (tab .u8 32 (fun _ => 0))), (true, g12, 30, (tab .u8 32 (outT h1 i)))] ac w) ?_ ?_
  replace hs := hs.selS [0] rfl (by decide)
  ·exact ⟨_, 0, rfl, (by omega), (hs.re (fs' := [(2, true, ptA g1 0), (3, true, .slice a1 8 c1), (7, true, ptA g12 0), (8, true, ni64 0)]) ⟨rfl, rfl, rfl, rfl, trivial⟩)⟩
  intro μ ac w ⟨i, hμ, hi, hs⟩
  refine wp_seq (wp_seq (wp_region_lit ?_))
  refine mvv hs rfl rfl rfl fun ac hs => ?_
  refine bnn hs (.bool (decide (i < 32))) rfl rfl rfl rfl (bin_lssN (y := 32)) fun ac hs => ?_
  refine wpList_nil (then_n ?_)
  refine wp_cond_split (hs.ev rfl) (fun hc => ?_) (fun hc => ?_)
  ·skip
   have hp13 := of_decide_eq_true hc
   have hi32 := of_decide_eq_true hc
   refine wp_skip (then_n (wp_seq (wp_block (wp_region_lit ?_))))
   refine mvv hs rfl rfl rfl fun ac hs => ?_
   refine mvv hs rfl rfl rfl fun ac hs => ?_
   refine mvv hs rfl rfl rfl fun ac hs => ?_
   refine bnn hs (ni64 (i / 4)) rfl rfl rfl rfl (bin_quoN (y := 4) rfl (by decide) (show i < 9223372036854775808 by omega)) fun ac hs => ?_
   refine stp (op_idxC hs none 0 (j := i / 4) rfl rfl rfl rfl rfl underlying115 sizeOf109 (show i / 4 < 8 by omega) (off := i / 4) (by omega) rfl fun ac hs => ?_)
   have l14 := hh1 (i / 4)
   refine stp (op_loadC hs none 0 (u := nu32 (h1 (i / 4))) rfl rfl rfl rfl isAgg109 sizeOf109 (by decide) (tab_get (j := i / 4) (show i / 4 < 8 by omega)) rfl fun ac hs => ?_)
   refine mvv hs rfl rfl rfl fun ac hs => ?_
   refine bnn hs (ni64 (i % 4)) rfl rfl rfl rfl (bin_remN (y := 4) rfl (by decide)) fun ac hs => ?_
   refine bnn hs (ni64 (8 * (i % 4))) rfl rfl rfl rfl (bin_mulN (x := 8) rfl (show 8 * (i % 4) < 9223372036854775808 by omega)) fun ac hs => ?_
   refine bnn hs (ni64 (24 - (8 * (i % 4)))) rfl rfl rfl rfl (bin_subN (x := 24) (by omega) (show 24 - (8 * (i % 4)) < 9223372036854775808 by omega)) fun ac hs => ?_
   refine stp (op_convert hs none (v := nu64 (24 - (8 * (i % 4)))) rfl rfl rfl (conv_N underlying3 underlying73 (show 24 - (8 * (i % 4)) < 18446744073709551616 by omega)) rfl fun ac hs => ?_)
   refine bnn hs (.int .u32 (((h1 (i / 4)) / 2 ^ (24 - (8 * (i % 4))) : Nat) : Int)) rfl rfl rfl rfl (bin_shrN (z := (h1 (i / 4)) / 2 ^ (24 - (8 * (i % 4)))) rfl (show h1 (i / 4) < 4294967296 from hh1 _)) fun ac hs => ?_
   refine stp (op_convert hs none (v := .int .u8 (((h1 (i / 4)) / 2 ^ (24 - (8 * (i % 4))) % 256 : Nat) : Int)) rfl rfl rfl (conv_M (z := (h1 (i / 4)) / 2 ^ (24 - (8 * (i % 4))) % 256) rfl underlying109 underlying5 rfl) rfl fun ac hs => ?_)
   refine stp (op_idxA hs none (j := i) rfl rfl rfl rfl underlying30 sizeOf5 (show i < 32 by omega) (off := i) (by omega) rfl fun ac hs => ?_)
   refine stp (stoo hs 1 ([.int .u8 (((h1 (i / 4)) / 2 ^ (24 - (8 * (i % 4))) % 256 : Nat) : Int)]) sizeOf5 rfl rfl rfl rfl rfl rfl rfl rfl (tab_le (j := i) (show i < 32 by omega)) (tab_set) fun w hs => ?_)
   refine wpList_nil (blk_n (then_n ?_))
   replace hs := hs.nf w0 Z noX [2, 3, 7, 8] rfl rfl rfl rfl
   refine wp_region_lit ?_
   refine mvv hs rfl rfl rfl fun ac hs => ?_
   refine bnn hs (ni64 (i + 1)) rfl rfl rfl rfl (bin_addN (y := 1) rfl (show i + 1 < 9223372036854775808 by omega)) fun ac hs => ?_
   refine asg hs rfl rfl rfl fun ac hs => ?_
   refine wpList_nil (then_n ?_)
   replace hs := hs.setb 1 (cs' := (tab .u8 32 (outT h1 (i + 1)))) rfl (tab_ext fun j hj => outT_step rfl j)
   exact ⟨_, ⟨(i + 1), rfl, (by omega), (hs.re (fs' := [(2, true, ptA g1 0), (3, true, .slice a1 8 c1), (7, true, ptA g12 0), (8, true, ni64 ((i + 1)))]) ⟨rfl, rfl, rfl, rfl, trivial⟩)⟩, (by omega)⟩
  ·skip
   have hp15 := of_decide_eq_false hc
   obtain rfl : i = 32 := by have := of_decide_eq_false hc; omega
   replace hs := hs.setb 1 (cs' := (tab .u8 32 (shaB h1))) rfl (tab_ext fun j hj => outT_end hj)
   refine wp_exit (then_e (then_e (blk_e (then_n (wp_seq (wp_region_lit ?_))))))
   refine ldd hs 1 (At .u8 32 (shaB h1)) isAgg30 sizeOf30 rfl rfl rfl rfl ldv_tab fun ac hs => ?_
   refine stp (stoo hs 0 ((tab .u8 32 (shaB h1))) sizeOf30 rfl rfl rfl rfl rfl (by kernel_rfl) tab_length' (tab_one _ _ _) tab_leA wr_tab fun w hs => ?_)
   refine wpList_nil (then_n (wp_ret ?_))
   exact bodyPost_ret (res1 rfl (rv_c hs 0 (v := At .u8 32 (shaB h1)) rfl rfl isAgg30 sizeOf30 ldv_tab)) hs.defers ⟨(), by rw [show sha l = shaB h1 from by funext j; unfold sha; rw [hH]], hs.bel rfl, okl0⟩
theorem rtagged_c (t : List UInt8) (ad : Option Addr) (nl c : Nat) (l : List UInt8) (htl : t.length ≤ 1000) (hlen : l.length ≤ 100000) (w0 : World) (Z : Nat → Prop) (hl : ByV w0 Z (.slice ad nl c) l): Calls prog 58 #[.string (txt t), .slice ad nl c] w0 fun e w' => Ret w0 Z (ρ := Unit) (fun r => At .u8 32 (tagH t l)) (fun r => []) e w' := by
 obtain rfl := byv_len hl
 have hb32 := btl_len 32 (sha t)
 refine enterS (n := 21) (args := [.string (txt t), .slice ad l.length c]) (S := [(true, .cel (.slice ad l.length c) l.length (bcs l))]) (Z := Z) func58 rfl rfl (Nat.le_of_ble_eq_true rfl) (sokC hl sok0) rfl fun ac hs => ?_
 refine wp_seq (wp_region_lit ?_)
 refine stp (op_alloc hs none none (cs := (tab .u8 32 (fun _ => 0))) rfl rfl zeroValue30 (by kernel_rfl) rfl rfl fun g1 ac w hs => ?_)
 refine wpList_nil (then_n (wp_seq (wp_region_lit ?_)))
 refine mvv hs rfl rfl rfl fun ac hs => ?_
 refine stp (op_convSB' hs none none (l := t) rfl rfl rfl underlying9 underlying25 underlying5 (show t.length ≤ 1000000 by omega) rfl rfl (run_convSB _ underlying9 underlying25 underlying5 (show t.length ≤ 1000000 by omega)) fun ad2 cp3 ac w hs => ?_)
 refine stp (op_callS (F := 99) (ρ := Unit) hs none none (v := fun r => At .u8 32 (sha t)) (E := fun r => []) (j := 0) rfl rfl rfl rfl (call99 _) (fun hs => rshasum_c ad2 t.length cp3 t (show t.length ≤ 200000 by omega) _ _ (hs.all (k := 1) rfl rfl)) (fun _ => rfl) rfl rfl fun _ ac w hs => ?_)
 refine stp (op_alloc hs none none (cs := (tab .u8 32 (fun _ => 0))) rfl rfl zeroValue30 (by kernel_rfl) rfl rfl fun g4 ac w hs => ?_)
 refine stp (stoo hs 1 ((tab .u8 32 (sha t))) sizeOf30 rfl rfl rfl rfl rfl (by kernel_rfl) tab_length' (tab_one _ _ _) tab_leA wr_tab fun w hs => ?_)
 refine wpList_nil (then_n (wp_seq ?_))
 replace hs := hs.nf w0 Z noX [1, 4, 5] rfl rfl rfl rfl
 refine wp_region_lit ?_
 refine stp (op_bsO0 hs none none (size := 1) rfl rfl underlying25 inf_u8_5 rfl rfl fun ad6 ac w hs => ?_)
 replace hs := hs.arrCel none 1 (n0 := 32) (f := sha t) rfl (fun j hj => sha_lt t j) (by decide) rfl
 replace hs := hs.selB [0] rfl (by decide)
 refine stp (op_val hs none (v := .slice (some ⟨g4, 0, none⟩) 32 32) rfl rfl (run_slA rfl (hs.ev rfl) underlying30 sizeOf5) fun ac hs => ?_)
 refine stp (op_appR hs none 2 3 (N' := (btl 32 (sha t)).length) (ys := bcs (btl 32 (sha t))) rfl rfl rfl rfl rfl rfl underlying25 inf_u8_5 rfl (by decide) (bcs_len1 rfl) (bcs_one _) (by decide) (show 0 + 32 ≤ 1000000 by omega) (Nat.zero_add _) rfl rfl rfl fun ad7 cp8 ac w hs => ?_)
 refine asg hs rfl rfl rfl fun ac hs => ?_
 refine wpList_nil (then_n (wp_seq (wp_region_lit ?_)))
 refine mvv hs rfl rfl rfl fun ac hs => ?_
 refine stp (op_val hs none (v := .slice (some ⟨g4, 0, none⟩) 32 32) rfl rfl (run_slA rfl (hs.ev rfl) underlying30 sizeOf5) fun ac hs => ?_)
 refine stp (op_appR hs none 2 3 (N' := (btl 32 (sha t) ++ btl 32 (sha t)).length) (ys := bcs (btl 32 (sha t) ++ btl 32 (sha t))) rfl rfl rfl rfl rfl rfl underlying25 inf_u8_5 rfl (by decide) (bcs_len1 rfl) (bcs_one _) (by decide) (show (btl 32 (sha t)).length + 32 ≤ 1000000 by omega) (by simp only [List.length_append, List.length_cons, List.length_nil] <;> omega) (bcs_append _ _) rfl rfl fun ad9 cp10 ac w hs => ?_)
 refine asg hs rfl rfl rfl fun ac hs => ?_
 refine wpList_nil (then_n (wp_seq ?_))
 replace hs := hs.nf w0 Z noX [1, 4, 6] rfl rfl rfl rfl
 refine wp_region_lit ?_
 refine mvv hs rfl rfl rfl fun ac hs => ?_
 refine mvv hs rfl rfl rfl fun ac hs => ?_
 refine stp (op_appR hs none 2 0 (N' := (btl 32 (sha t) ++ btl 32 (sha t) ++ l).length) (ys := bcs (btl 32 (sha t) ++ btl 32 (sha t) ++ l)) rfl rfl rfl rfl rfl rfl underlying25 inf_u8_5 rfl (by decide) (bcs_len1 rfl) (bcs_one _) (by decide) (show (btl 32 (sha t) ++ btl 32 (sha t)).length + l.length ≤ 1000000 by first | omega | ((try simp only [List.length_drop, List.length_take, List.length_append, List.length_cons, List.length_nil]); omega)) (by simp only [List.length_append, List.length_cons, List.length_nil] <;> omega) (bcs_append _ _) rfl rfl fun ad11 cp12 ac w hs => ?_)
 refine asg hs rfl rfl rfl fun ac hs => ?_
 refine wpList_nil (then_n (wp_seq (wp_region_lit ?_)))
 refine mvv hs rfl rfl rfl fun ac hs => ?_
 replace hs := hs.freeze 2 rfl
 refine stp (op_callS (F := 99) (ρ := Unit) hs none none (v := fun r => At .u8 32 (sha (btl 32 (sha t) ++ btl 32 (sha t) ++ l))) (E := fun r => []) (j := 0) rfl rfl rfl rfl (call99 _) (fun hs => rshasum_c ad11 ((btl 32 (sha t) ++ btl 32 (sha t) ++ l).length) cp12 (btl 32 (sha t) ++ btl 32 (sha t) ++ l) (show (btl 32 (sha t) ++ btl 32 (sha t) ++ l).length ≤ 200000 by first | omega | ((try simp only [List.length_drop, List.length_take, List.length_append, List.length_cons, List.length_nil]); omega)) _ _ (hs.all (k := 2) rfl rfl)) (fun _ => rfl) rfl rfl fun _ ac w hs => ?_)
 refine stp (stoo hs 0 ((tab .u8 32 (sha (btl 32 (sha t) ++ btl 32 (sha t) ++ l)))) sizeOf30 rfl rfl rfl rfl rfl (by kernel_rfl) tab_length' (tab_one _ _ _) tab_leA wr_tab fun w hs => ?_)
 refine wpList_nil (then_n (wp_ret ?_))
 exact bodyPost_ret (res1 rfl (rv_c hs 0 (v := At .u8 32 (sha (btl 32 (sha t) ++ btl 32 (sha t) ++ l))) rfl rfl isAgg30 sizeOf30 ldv_tab)) hs.defers ⟨(), rfl, hs.bel rfl, okl0⟩
end Go.Proofs.YtejbajgpiecjcaaGreat
