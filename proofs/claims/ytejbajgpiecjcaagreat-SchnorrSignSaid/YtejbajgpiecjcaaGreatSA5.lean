/- Several texts in one, what this law needs of them: RField, WLenR, RPoint. -/
import Derived.Test.YtejbajgpiecjcaaGreatSA4

/- The contracts of the reference's field. -/
namespace Go.Proofs.YtejbajgpiecjcaaGreat
open Go.RowKit _root_.Go.Proofs.Tryz
set_option maxRecDepth 10000
set_option maxHeartbeats 1000000
theorem inv_prime {r v : Nat} (hr : r < Pf) (hv : pinv Pf r = v) (w : World) : Calls prog 125 #[W r, W Pf] w fun e w' => e = .returned (W v) ∧ Below w.heap.size w w' := by
 refine inv_c r Pf v hr Pf_lt (by decide) (by decide) (fun h => gcd_one EM.pr_field hr h) (fun y hy h1 h0 => ?_) (fun h => ?_) w
 ·rw [← hv]
  exact inv_uniq EM.pr_field (by rw [Nat.mod_eq_of_lt hr]; exact h0) hy h1
 ·rw [← hv, h, pinv_zero (by decide)]
theorem mul_512 {a b : Nat} (ha : a < 2 ^ 256) (hb : b < 2 ^ 256) : a * b / 2 ^ 256 < 2 ^ 256 := mul_hi ha hb
theorem rshr_c (a : Nat) (n : Int) (nn x : Nat) (ha : a < 2 ^ 256) (hn : min (max n 0) 256 = (nn : Int)) (hx : a / 2 ^ nn = x) (w0 : World) : Calls prog 120 #[W a, .int .i64 n] w0 fun e w' => e = .returned (W x) ∧ Below w0.heap.size w0 w' := by
 refine enter (n := 38) (args := [W a, .int .i64 n]) func120 rfl rfl (Nat.le_of_ble_eq_true rfl) fun ac hs => ?_
 refine wp_seq (wp_region_lit ?_)
 refine stp (op_box hs none none (cs := (Wl a)) rfl rfl rfl rfl rfl rfl fun g1 ac w hs => ?_)
 refine stp (op_alloc hs none none (cs := [.int .u64 0, .int .u64 0, .int .u64 0, .int .u64 0]) rfl rfl zeroValue24 (by kernel_rfl) rfl rfl fun g2 ac w hs => ?_)
 refine wpList_nil (then_n (wp_seq (wp_region_lit ?_)))
 refine stp (op_build hs none (qs := []) (v := .agg #[.int .u64 0, .int .u64 0, .int .u64 0, .int .u64 0]) rfl rfl rfl rfl (fun _ => by kernel_rfl) rfl fun ac hs => ?_)
 refine stp (op_alloc hs none none (cs := [.int .u64 0, .int .u64 0, .int .u64 0, .int .u64 0]) rfl rfl zeroValue24 (by kernel_rfl) rfl rfl fun g3 ac w hs => ?_)
 refine stp (stoo hs 2 ([.int .u64 0, .int .u64 0, .int .u64 0, .int .u64 0]) sizeOf24 rfl rfl rfl rfl rfl rfl rfl rfl rfl rfl fun w hs => ?_)
 refine wpList_nil (then_n (wp_seq (wp_seq (wp_region_lit ?_))))
 refine asg hs rfl rfl rfl fun ac hs => ?_
 refine wpList_nil (then_n (wp_block ?_))
 refine wp_loop_m (fun μ ac w => ∃ (k : Nat) (o : Nat), (k) = μ ∧ (k ≤ 256) ∧ (o < 2 ^ 256) ∧ (a / 2 ^ nn / 2 ^ k = o) ∧ St 38 w0 [(1, true, .int .i64 n), (2, true, ptA g1 0), (4, true, ptA g2 0), (5, true, ptA g3 0), (6, true, .int .i64 (((k : Nat) : Int) - 1))] [(true, g1, 24, (Wl a)), (true, g2, 24, [.int .u64 0, .int .u64 0, .int .u64 0, .int .u64 0]), (true, g3, 24, (Wl o))] ac w) ?_ ?_
 ·exact ⟨_, 256, 0, rfl, (by omega), (by decide), (Nat.div_eq_of_lt (div_lt256 ha)), (hs.re ⟨rfl, rfl, rfl, rfl, rfl, trivial⟩)⟩
 intro μ ac w ⟨k, o, hμ, hk, lo, ho, hs⟩
 refine wp_seq (wp_seq (wp_region_lit ?_))
 refine mvv hs rfl rfl rfl fun ac hs => ?_
 refine bnn hs (.bool (decide (1 ≤ k))) rfl rfl rfl rfl bin_geqP fun ac hs => ?_
 refine wpList_nil (then_n ?_)
 refine wp_cond_split (hs.ev rfl) (fun hc => ?_) (fun hc => ?_)
 ·skip
  have hp4 := of_decide_eq_true hc
  replace hs := hs.re (fs' := [(1, true, .int .i64 n), (2, true, ptA g1 0), (4, true, ptA g2 0), (5, true, ptA g3 0), (6, true, ni64 (k - 1)), (9, true, .int .i64 (((k : Nat) : Int) - 1)), (10, true, .bool (decide (1 ≤ k)))]) ⟨rfl, rfl, rfl, rfl, congrArg some (pre_nat hp4), rfl, rfl, trivial⟩
  refine wp_skip (then_n (wp_seq (wp_block (wp_seq (wp_region_lit ?_)))))
  refine asg hs rfl rfl rfl fun ac hs => ?_
  refine wpList_nil (then_n (wp_seq (wp_seq (wp_region_lit ?_))))
  refine mvv hs rfl rfl rfl fun ac hs => ?_
  refine bnn hs (.bool (decide (n ≤ 0))) rfl rfl rfl rfl (bin_leqI (y := 0)) fun ac hs => ?_
  refine wpList_nil (then_n ?_)
  refine wp_cond_split (hs.ev rfl) (fun hc => ?_) (fun hc => ?_)
  ·skip
   have hp5 := of_decide_eq_true hc
   have hn0 : nn = 0 := by omega
   refine wp_region_lit ?_
   refine ldd hs 0 (W a) isAgg24 sizeOf24 rfl rfl rfl rfl rfl fun ac hs => ?_
   refine mvv hs rfl rfl rfl fun ac hs => ?_
   obtain ⟨b6, hb6⟩ : ∃ z0, a / 2 ^ (k - 1) % 2 = z0 := ⟨_, rfl⟩
   have lb6 := bit_le hb6
   refine stp (op_call (F := 86) hs none (v := nu64 b6) rfl rfl rfl rfl (call86 _) (rbit_c a (k - 1) b6 (show k - 1 < 256 by omega) hb6) rfl fun ac w hs => ?_)
   refine asg hs rfl rfl rfl fun ac hs => ?_
   refine wpList_nil (then_n ?_)
   replace hs := hs.n0 [1, 2, 4, 5, 6, 7] rfl rfl
   refine wp_region_lit ?_
   refine ldd hs 2 (W o) isAgg24 sizeOf24 rfl rfl rfl rfl rfl fun ac hs => ?_
   refine mvv hs rfl rfl rfl fun ac hs => ?_
   obtain ⟨t7, ht7, lt7⟩ : ∃ z0, (2 * o + b6) % 2 ^ 256 = z0 ∧ z0 < 2 ^ 256 := ⟨_, rfl, Nat.mod_lt _ (Nat.two_pow_pos 256)⟩
   obtain ⟨c8, hc8⟩ : ∃ z0, (2 * o + b6) / 2 ^ 256 = z0 := ⟨_, rfl⟩
   refine stp (op_call (F := 102) hs none (v := .tuple #[W t7, nu64 c8]) rfl rfl rfl rfl (call102 _) (rtwice_c o b6 t7 c8 lo (show b6 ≤ 1 by omega) ht7 hc8) rfl fun ac w hs => ?_)
   refine mvv hs rfl rfl rfl fun ac hs => ?_
   refine stp (xtr hs none rfl rfl rfl rfl rfl fun ac hs => ?_)
   refine stp (xtr hs none rfl rfl rfl rfl rfl fun ac hs => ?_)
   refine stp (stoo hs 2 ((Wl t7)) sizeOf24 rfl rfl rfl rfl rfl rfl rfl rfl rfl rfl fun w hs => ?_)
   refine wpList_nil (blk_n (then_n ?_))
   replace hs := hs.n0 [1, 2, 4, 5, 6, 7] rfl rfl
   refine wp_region_lit ?_
   refine mvv hs rfl rfl rfl fun ac hs => ?_
   refine bnn hs (.int .i64 (((k - 1 : Nat) : Int) - 1)) rfl rfl rfl rfl (bin_subP (by omega)) fun ac hs => ?_
   refine asg hs rfl rfl rfl fun ac hs => ?_
   refine wpList_nil (then_n ?_)
   exact ⟨_, ⟨(k - 1), t7, rfl, (by omega), lt7, (rshr_step (div_lt256 ha) hp4 ho (by rw [hn0, Nat.pow_zero, Nat.div_one]; exact hb6) ht7), (hs.re ⟨rfl, rfl, rfl, rfl, rfl, trivial⟩)⟩, (by omega)⟩
  ·skip
   have hp9 := of_decide_eq_false hc
   obtain ⟨m, hm⟩ : ∃ m : Nat, n = (m : Int) := ⟨n.toNat, by omega⟩
   replace hs := hs.re (fs' := [(1, true, ni64 m), (2, true, ptA g1 0), (4, true, ptA g2 0), (5, true, ptA g3 0), (6, true, ni64 (k - 1)), (9, true, .int .i64 (((k : Nat) : Int) - 1)), (10, true, .bool (decide (1 ≤ k))), (7, true, .int .u64 0), (13, true, .int .i64 n), (14, true, .bool (decide (n ≤ 0)))]) ⟨congrArg some (show Value.int .i64 n = .int .i64 (m : Int) by rw [hm]), rfl, rfl, rfl, rfl, rfl, rfl, rfl, rfl, rfl, trivial⟩
   refine wp_seq ?_
   by_cases hq10 : m < 256
   ·skip
    refine wp_region_lit ?_
    refine mvv hs rfl rfl rfl fun ac hs => ?_
    refine bnn hs (.bool true) rfl rfl rfl rfl (fun w => dT hq10 (bin_lssN (y := 256) w)) fun ac hs => ?_
    refine mvv hs rfl rfl rfl fun ac hs => ?_
    refine lstep (wpO_in hs rfl rfl rfl (op_move hs none rfl rfl rfl rfl fun ac hs => ?_))
    refine lstep (wpO_in hs rfl rfl rfl (op_move hs none rfl rfl rfl rfl fun ac hs => ?_))
    refine lstep (wpO_in hs rfl rfl rfl (op_bin hs none (v := ni64 (k - 1 + m)) rfl rfl rfl rfl (fun _ => rfl) (bin_addN (x := k - 1) (y := m) (z := k - 1 + m) rfl (show k - 1 + m < 9223372036854775808 by omega)) rfl fun ac hs => ?_))
    refine lstep (wpO_in hs rfl rfl rfl (op_bin hs none (v := .bool (decide (k - 1 + m < 256))) rfl rfl rfl rfl (fun _ => rfl) (bin_lssN (x := k - 1 + m) (y := 256)) rfl fun ac hs => ?_))
    refine stp (op_pickT hs none rfl rfl rfl rfl rfl fun ac hs => ?_)
    refine wpList_nil (then_n ?_)
    refine wp_cond_split (hs.ev rfl) (fun hc => ?_) (fun hc => ?_)
    ·skip
     have hp11 := of_decide_eq_true hc
     replace hs := hs.n0 [1, 2, 4, 5, 6, 7] rfl rfl
     refine wp_region_lit ?_
     refine ldd hs 0 (W a) isAgg24 sizeOf24 rfl rfl rfl rfl rfl fun ac hs => ?_
     refine mvv hs rfl rfl rfl fun ac hs => ?_
     refine mvv hs rfl rfl rfl fun ac hs => ?_
     refine bnn hs (ni64 (k - 1 + m)) rfl rfl rfl rfl (bin_addN rfl (show k - 1 + m < 9223372036854775808 by omega)) fun ac hs => ?_
     obtain ⟨b12, hb12⟩ : ∃ z0, a / 2 ^ (k - 1 + m) % 2 = z0 := ⟨_, rfl⟩
     have lb12 := bit_le hb12
     refine stp (op_call (F := 86) hs none (v := nu64 b12) rfl rfl rfl rfl (call86 _) (rbit_c a (k - 1 + m) b12 (show k - 1 + m < 256 by omega) hb12) rfl fun ac w hs => ?_)
     refine asg hs rfl rfl rfl fun ac hs => ?_
     refine wpList_nil (then_n ?_)
     replace hs := hs.n0 [1, 2, 4, 5, 6, 7] rfl rfl
     refine wp_region_lit ?_
     refine ldd hs 2 (W o) isAgg24 sizeOf24 rfl rfl rfl rfl rfl fun ac hs => ?_
     refine mvv hs rfl rfl rfl fun ac hs => ?_
     obtain ⟨t13, ht13, lt13⟩ : ∃ z0, (2 * o + b12) % 2 ^ 256 = z0 ∧ z0 < 2 ^ 256 := ⟨_, rfl, Nat.mod_lt _ (Nat.two_pow_pos 256)⟩
     obtain ⟨c14, hc14⟩ : ∃ z0, (2 * o + b12) / 2 ^ 256 = z0 := ⟨_, rfl⟩
     refine stp (op_call (F := 102) hs none (v := .tuple #[W t13, nu64 c14]) rfl rfl rfl rfl (call102 _) (rtwice_c o b12 t13 c14 lo (show b12 ≤ 1 by omega) ht13 hc14) rfl fun ac w hs => ?_)
     refine mvv hs rfl rfl rfl fun ac hs => ?_
     refine stp (xtr hs none rfl rfl rfl rfl rfl fun ac hs => ?_)
     refine stp (xtr hs none rfl rfl rfl rfl rfl fun ac hs => ?_)
     refine stp (stoo hs 2 ((Wl t13)) sizeOf24 rfl rfl rfl rfl rfl rfl rfl rfl rfl rfl fun w hs => ?_)
     refine wpList_nil (blk_n (then_n ?_))
     replace hs := hs.n0 [1, 2, 4, 5, 6, 7] rfl rfl
     refine wp_region_lit ?_
     refine mvv hs rfl rfl rfl fun ac hs => ?_
     refine bnn hs (.int .i64 (((k - 1 : Nat) : Int) - 1)) rfl rfl rfl rfl (bin_subP (by omega)) fun ac hs => ?_
     refine asg hs rfl rfl rfl fun ac hs => ?_
     refine wpList_nil (then_n ?_)
     exact ⟨_, ⟨(k - 1), t13, rfl, (by omega), lt13, (rshr_step (div_lt256 ha) hp4 ho (by rw [← rshr_bit, show nn = m by omega]; exact hb12) ht13), (hs.re ⟨(congrArg some (show Value.int .i64 (m : Int) = .int .i64 n by rw [hm])), rfl, rfl, rfl, rfl, trivial⟩)⟩, (by omega)⟩
    ·skip
     have hp15 := of_decide_eq_false hc
     refine wp_skip (then_n ?_)
     replace hs := hs.n0 [1, 2, 4, 5, 6, 7] rfl rfl
     refine wp_region_lit ?_
     refine ldd hs 2 (W o) isAgg24 sizeOf24 rfl rfl rfl rfl rfl fun ac hs => ?_
     refine mvv hs rfl rfl rfl fun ac hs => ?_
     obtain ⟨t16, ht16, lt16⟩ : ∃ z0, (2 * o + 0) % 2 ^ 256 = z0 ∧ z0 < 2 ^ 256 := ⟨_, rfl, Nat.mod_lt _ (Nat.two_pow_pos 256)⟩
     obtain ⟨c17, hc17⟩ : ∃ z0, (2 * o + 0) / 2 ^ 256 = z0 := ⟨_, rfl⟩
     refine stp (op_call (F := 102) hs none (v := .tuple #[W t16, nu64 c17]) rfl rfl rfl rfl (call102 _) (rtwice_c o 0 t16 c17 lo (show 0 ≤ 1 by omega) ht16 hc17) rfl fun ac w hs => ?_)
     refine mvv hs rfl rfl rfl fun ac hs => ?_
     refine stp (xtr hs none rfl rfl rfl rfl rfl fun ac hs => ?_)
     refine stp (xtr hs none rfl rfl rfl rfl rfl fun ac hs => ?_)
     refine stp (stoo hs 2 ((Wl t16)) sizeOf24 rfl rfl rfl rfl rfl rfl rfl rfl rfl rfl fun w hs => ?_)
     refine wpList_nil (blk_n (then_n ?_))
     replace hs := hs.n0 [1, 2, 4, 5, 6, 7] rfl rfl
     refine wp_region_lit ?_
     refine mvv hs rfl rfl rfl fun ac hs => ?_
     refine bnn hs (.int .i64 (((k - 1 : Nat) : Int) - 1)) rfl rfl rfl rfl (bin_subP (by omega)) fun ac hs => ?_
     refine asg hs rfl rfl rfl fun ac hs => ?_
     refine wpList_nil (then_n ?_)
     exact ⟨_, ⟨(k - 1), t16, rfl, (by omega), lt16, (rshr_step (div_lt256 ha) hp4 ho (rshr_bit0 ha (by omega)) ht16), (hs.re ⟨(congrArg some (show Value.int .i64 (m : Int) = .int .i64 n by rw [hm])), rfl, rfl, rfl, rfl, trivial⟩)⟩, (by omega)⟩
   ·skip
    refine wp_region_lit ?_
    refine mvv hs rfl rfl rfl fun ac hs => ?_
    refine bnn hs (.bool false) rfl rfl rfl rfl (fun w => dF hq10 (bin_lssN (y := 256) w)) fun ac hs => ?_
    refine mvv hs rfl rfl rfl fun ac hs => ?_
    refine lstep (wpO_out hs none rfl rfl (.inl rfl) rfl rfl fun ac hs => ?_)
    refine lstep (wpO_out hs none rfl rfl (.inl rfl) rfl rfl fun ac hs => ?_)
    refine lstep (wpO_out hs none rfl rfl (.inl rfl) rfl rfl fun ac hs => ?_)
    refine lstep (wpO_out hs none rfl rfl (.inl rfl) rfl rfl fun ac hs => ?_)
    refine stp (op_pickF hs none rfl rfl rfl rfl rfl fun ac hs => ?_)
    refine wpList_nil (then_n ?_)
    refine wp_cond_false (hs.ev rfl) ?_
    refine wp_skip (then_n ?_)
    replace hs := hs.n0 [1, 2, 4, 5, 6, 7] rfl rfl
    refine wp_region_lit ?_
    refine ldd hs 2 (W o) isAgg24 sizeOf24 rfl rfl rfl rfl rfl fun ac hs => ?_
    refine mvv hs rfl rfl rfl fun ac hs => ?_
    obtain ⟨t18, ht18, lt18⟩ : ∃ z0, (2 * o + 0) % 2 ^ 256 = z0 ∧ z0 < 2 ^ 256 := ⟨_, rfl, Nat.mod_lt _ (Nat.two_pow_pos 256)⟩
    obtain ⟨c19, hc19⟩ : ∃ z0, (2 * o + 0) / 2 ^ 256 = z0 := ⟨_, rfl⟩
    refine stp (op_call (F := 102) hs none (v := .tuple #[W t18, nu64 c19]) rfl rfl rfl rfl (call102 _) (rtwice_c o 0 t18 c19 lo (show 0 ≤ 1 by omega) ht18 hc19) rfl fun ac w hs => ?_)
    refine mvv hs rfl rfl rfl fun ac hs => ?_
    refine stp (xtr hs none rfl rfl rfl rfl rfl fun ac hs => ?_)
    refine stp (xtr hs none rfl rfl rfl rfl rfl fun ac hs => ?_)
    refine stp (stoo hs 2 ((Wl t18)) sizeOf24 rfl rfl rfl rfl rfl rfl rfl rfl rfl rfl fun w hs => ?_)
    refine wpList_nil (blk_n (then_n ?_))
    replace hs := hs.n0 [1, 2, 4, 5, 6, 7] rfl rfl
    refine wp_region_lit ?_
    refine mvv hs rfl rfl rfl fun ac hs => ?_
    refine bnn hs (.int .i64 (((k - 1 : Nat) : Int) - 1)) rfl rfl rfl rfl (bin_subP (by omega)) fun ac hs => ?_
    refine asg hs rfl rfl rfl fun ac hs => ?_
    refine wpList_nil (then_n ?_)
    exact ⟨_, ⟨(k - 1), t18, rfl, (by omega), lt18, (rshr_step (div_lt256 ha) hp4 ho (rshr_bit0 ha (by omega)) ht18), (hs.re ⟨(congrArg some (show Value.int .i64 (m : Int) = .int .i64 n by rw [hm])), rfl, rfl, rfl, rfl, trivial⟩)⟩, (by omega)⟩
 ·skip
  have hp20 := of_decide_eq_false hc
  obtain rfl : k = 0 := by omega
  refine wp_exit (then_e (then_e (blk_e (then_n (wp_seq (wp_region_lit ?_))))))
  refine ldd hs 2 (W o) isAgg24 sizeOf24 rfl rfl rfl rfl rfl fun ac hs => ?_
  refine stp (stoo hs 1 ((Wl o)) sizeOf24 rfl rfl rfl rfl rfl rfl rfl rfl rfl rfl fun w hs => ?_)
  refine wpList_nil (then_n (wp_ret ?_))
  exact bodyPost_ret (res1 rfl (rv_c hs 1 (v := W o) rfl rfl isAgg24 sizeOf24 rfl)) hs.defers ⟨by rw [← hx, ← ho, Nat.pow_zero, Nat.div_one], (hs.bel rfl)⟩
theorem rprime_c  (w0 : World) : Calls prog 118 #[] w0 fun e w' => e = .returned (W Pf) ∧ Below w0.heap.size w0 w' := by
 refine enter (n := 2) (args := []) func118 rfl rfl (Nat.le_of_ble_eq_true rfl) fun ac hs => ?_
 refine wp_seq (wp_region_lit ?_)
 refine stp (op_alloc hs none none (cs := [.int .u64 0, .int .u64 0, .int .u64 0, .int .u64 0]) rfl rfl zeroValue24 (by kernel_rfl) rfl rfl fun g1 ac w hs => ?_)
 refine wpList_nil (then_n (wp_seq (wp_region_lit ?_)))
 refine stp (op_build hs none (qs := [(0, .int .u64 18446744069414583343), (1, .int .u64 18446744073709551615), (2, .int .u64 18446744073709551615), (3, .int .u64 18446744073709551615)]) (v := .agg #[.int .u64 18446744069414583343, .int .u64 18446744073709551615, .int .u64 18446744073709551615, .int .u64 18446744073709551615]) rfl rfl rfl rfl (fun _ => by kernel_rfl) rfl fun ac hs => ?_)
 refine stp (stoo hs 0 ([.int .u64 18446744069414583343, .int .u64 18446744073709551615, .int .u64 18446744073709551615, .int .u64 18446744073709551615]) sizeOf24 rfl rfl rfl rfl rfl rfl rfl rfl rfl rfl fun w hs => ?_)
 refine wpList_nil (then_n (wp_ret ?_))
 exact bodyPost_ret (res1 rfl (rv_c hs 0 (v := .agg #[.int .u64 18446744069414583343, .int .u64 18446744073709551615, .int .u64 18446744073709551615, .int .u64 18446744073709551615]) rfl rfl isAgg24 sizeOf24 rfl)) hs.defers ⟨by kernel_rfl, (hs.bel rfl)⟩
theorem rfred_c (a x : Nat) (ha : a < 2 ^ 256) (hx : a % Pf = x) (w0 : World) : Calls prog 121 #[W a] w0 fun e w' => e = .returned (W x) ∧ Below w0.heap.size w0 w' := by
 refine enter (n := 15) (args := [W a]) func121 rfl rfl (Nat.le_of_ble_eq_true rfl) fun ac hs => ?_
 refine wp_seq (wp_region_lit ?_)
 refine stp (op_box hs none none (cs := (Wl a)) rfl rfl rfl rfl rfl rfl fun g1 ac w hs => ?_)
 refine stp (op_alloc hs none none (cs := [.int .u64 0, .int .u64 0, .int .u64 0, .int .u64 0]) rfl rfl zeroValue24 (by kernel_rfl) rfl rfl fun g2 ac w hs => ?_)
 refine wpList_nil (then_n (wp_seq ?_))
 replace hs := hs.n0 [1, 2] rfl rfl
 obtain ⟨d3, hd3, ld3⟩ : ∃ z0, (a + 2 ^ 256 - Pf) % 2 ^ 256 = z0 ∧ z0 < 2 ^ 256 := ⟨_, rfl, Nat.mod_lt _ (Nat.two_pow_pos 256)⟩
 obtain ⟨c4, hc4⟩ : ∃ z0, bor a Pf = z0 := ⟨_, rfl⟩
 refine region_inv [([], [2, 3, 4, 5, 7, 8]), ([], [2, 3, 4, 5, 7, 8]), ([0, 1], [3, 4, 5, 7, 8]), ([0, 1, 2], [4, 5, 7, 8]), (rgn 0 4, [7, 8]), (rgn 0 4, [8]), ([], [7, 8]), ([0, 1, 2, 3, 4, 6], [8]), (rgn 0 8, [])] (fun L ac w => ∃ (g5 : Nat), St 15 w0 [(6, L 0, W a), (7, L 1, W Pf), (8, L 2, .tuple #[W d3, nu64 c4]), (5, L 3, .tuple #[W d3, nu64 c4]), (9, L 4, W d3), (10, L 5, nu64 c4), (3, L 6, ptA g5 0), (4, L 8, nu64 c4), (1, true, ptA g1 0), (2, true, ptA g2 0)] [(true, g1, 24, (Wl a)), (true, g2, 24, [.int .u64 0, .int .u64 0, .int .u64 0, .int .u64 0]), (L 6, g5, 24, (cond (L 7) (Wl d3) [.int .u64 0, .int .u64 0, .int .u64 0, .int .u64 0]))] ac w) (by kernel_rfl) (by kernel_rfl) ?_ ?_ ?_
 ·exact ⟨0, hs.drew.skip.skip.skip.skip.skip.skip.skip.skip.pad⟩
 ·refine ⟨?_, ?_, ?_, ?_, ?_, ?_, ?_, ?_, ?_, trivial⟩
  ·exact fun L ac w ⟨g5, hs⟩ => pln (oldd hs 0 0 (W a) isAgg24 sizeOf24 rfl rfl rfl rfl rfl fun ac hs => ⟨g5, hs⟩)
  ·exact fun L ac w ⟨g5, hs⟩ => pln (op_call (F := 118) hs (some 1) (v := W Pf) rfl rfl rfl rfl (call118 _) rprime_c rfl fun ac w hs => ⟨g5, hs⟩)
  ·exact fun L ac w ⟨g5, hs⟩ => pln (op_call (F := 60) hs (some 2) (v := .tuple #[W d3, nu64 c4]) rfl rfl rfl rfl (call60 _) (less_at a Pf d3 c4 ha Pf_lt hd3 hc4) rfl fun ac w hs => ⟨g5, hs⟩)
  ·exact fun L ac w ⟨g5, hs⟩ => pln (omv hs 3 rfl rfl rfl fun ac hs => ⟨g5, hs⟩)
  ·exact fun L ac w ⟨g5, hs⟩ => pln (xtr hs (some 4) rfl rfl rfl rfl rfl fun ac hs => ⟨g5, hs⟩)
  ·exact fun L ac w ⟨g5, hs⟩ => pln (xtr hs (some 5) rfl rfl rfl rfl rfl fun ac hs => ⟨g5, hs⟩)
  ·exact fun L ac w ⟨g5, hs⟩ => pln (op_alloc hs (some 6) (some 2) (cs := [.int .u64 0, .int .u64 0, .int .u64 0, .int .u64 0]) rfl rfl zeroValue24 (by kernel_rfl) rfl rfl fun g5 ac w hs => ⟨g5, hs⟩)
  ·exact fun L ac w ⟨g5, hs⟩ => pln (stoo hs 2 ((Wl d3)) sizeOf24 rfl rfl rfl rfl rfl rfl rfl rfl rfl rfl fun w hs => ⟨g5, hs⟩)
  ·exact fun L ac w ⟨g5, hs⟩ => pln (oas hs 7 rfl rfl rfl fun ac hs => ⟨g5, hs⟩)
 intro ac w ⟨g5, hs⟩
 try dsimp only [cond_true] at hs
 refine then_n (wp_seq (wp_seq (wp_region_lit ?_)))
 refine mvv hs rfl rfl rfl fun ac hs => ?_
 refine bnn hs (.bool (decide (c4 = 1))) rfl rfl rfl rfl (bin_eqlN (y := 1)) fun ac hs => ?_
 refine wpList_nil (then_n ?_)
 refine wp_cond_split (hs.ev rfl) (fun hc => ?_) (fun hc => ?_)
 ·skip
  have hp6 := of_decide_eq_true hc
  refine wp_seq (wp_region_lit ?_)
  refine ldd hs 0 (W a) isAgg24 sizeOf24 rfl rfl rfl rfl rfl fun ac hs => ?_
  refine stp (stoo hs 1 ((Wl a)) sizeOf24 rfl rfl rfl rfl rfl rfl rfl rfl rfl rfl fun w hs => ?_)
  refine wpList_nil (then_n (wp_ret (then_r ?_)))
  exact bodyPost_ret (res1 rfl (rv_c hs 1 (v := W a) rfl rfl isAgg24 sizeOf24 rfl)) hs.defers ⟨by rw [← hx, ← rred_lo Pf_big Pf_lt ha hc4 hp6], (hs.bel rfl)⟩
 ·skip
  have hp7 := of_decide_eq_false hc
  refine wp_skip (then_n (wp_seq (wp_region_lit ?_)))
  refine ldd hs 2 (W d3) isAgg24 sizeOf24 rfl rfl rfl rfl rfl fun ac hs => ?_
  refine stp (stoo hs 1 ((Wl d3)) sizeOf24 rfl rfl rfl rfl rfl rfl rfl rfl rfl rfl fun w hs => ?_)
  refine wpList_nil (then_n (wp_ret ?_))
  exact bodyPost_ret (res1 rfl (rv_c hs 1 (v := W d3) rfl rfl isAgg24 sizeOf24 rfl)) hs.defers ⟨by rw [← hx, ← rred_hi Pf_big Pf_lt ha hd3 hc4 hp7], (hs.bel rfl)⟩
theorem rfadd_c (a b x : Nat) (ha : a < 2 ^ 256) (hb : b < 2 ^ 256) (hx : (a + b) % Pf = x) (w0 : World) : Calls prog 122 #[W a, W b] w0 fun e w' => e = .returned (W x) ∧ Below w0.heap.size w0 w' := by
 refine enter (n := 25) (args := [W a, W b]) func122 rfl rfl (Nat.le_of_ble_eq_true rfl) fun ac hs => ?_
 refine wp_seq (wp_region_lit ?_)
 refine stp (op_box hs none none (cs := (Wl a)) rfl rfl rfl rfl rfl rfl fun g1 ac w hs => ?_)
 refine stp (op_box hs none none (cs := (Wl b)) rfl rfl rfl rfl rfl rfl fun g2 ac w hs => ?_)
 refine stp (op_alloc hs none none (cs := [.int .u64 0, .int .u64 0, .int .u64 0, .int .u64 0]) rfl rfl zeroValue24 (by kernel_rfl) rfl rfl fun g3 ac w hs => ?_)
 refine wpList_nil (then_n (wp_seq ?_))
 replace hs := hs.n0 [2, 3, 4] rfl rfl
 obtain ⟨r4, hr4, lr4⟩ : ∃ z0, a % Pf = z0 ∧ z0 < 2 ^ 256 := ⟨_, rfl, modP_lt _⟩
 obtain ⟨r5, hr5, lr5⟩ : ∃ z0, b % Pf = z0 ∧ z0 < 2 ^ 256 := ⟨_, rfl, modP_lt _⟩
 obtain ⟨s6, hs6, ls6⟩ : ∃ z0, (r4 + r5) % 2 ^ 256 = z0 ∧ z0 < 2 ^ 256 := ⟨_, rfl, Nat.mod_lt _ (Nat.two_pow_pos 256)⟩
 obtain ⟨c7, hc7⟩ : ∃ z0, (r4 + r5) / 2 ^ 256 = z0 := ⟨_, rfl⟩
 refine region_inv [([], [1, 3, 4, 5, 6, 7, 9, 10]), ([0], [3, 4, 5, 6, 7, 9, 10]), ([], [3, 4, 5, 6, 7, 9, 10]), ([0, 1, 2], [4, 5, 6, 7, 9, 10]), (rgn 0 4, [5, 6, 7, 9, 10]), (rgn 0 5, [6, 7, 9, 10]), (rgn 0 6, [9, 10]), (rgn 0 6, [10]), ([], [9, 10]), ([0, 1, 2, 3, 4, 5, 6, 8], [10]), (rgn 0 10, [])] (fun L ac w => ∃ (g8 : Nat), St 25 w0 [(8, L 0, W a), (9, L 1, W r4), (10, L 2, W b), (11, L 3, W r5), (12, L 4, .tuple #[W s6, nu64 c7]), (7, L 5, .tuple #[W s6, nu64 c7]), (13, L 6, W s6), (14, L 7, nu64 c7), (5, L 8, ptA g8 0), (6, L 10, nu64 c7), (2, true, ptA g1 0), (3, true, ptA g2 0), (4, true, ptA g3 0)] [(true, g1, 24, (Wl a)), (true, g2, 24, (Wl b)), (true, g3, 24, [.int .u64 0, .int .u64 0, .int .u64 0, .int .u64 0]), (L 8, g8, 24, (cond (L 9) (Wl s6) [.int .u64 0, .int .u64 0, .int .u64 0, .int .u64 0]))] ac w) (by kernel_rfl) (by kernel_rfl) ?_ ?_ ?_
 ·exact ⟨0, hs.drew.skip.skip.skip.skip.skip.skip.skip.skip.skip.skip.pad⟩
 ·refine ⟨?_, ?_, ?_, ?_, ?_, ?_, ?_, ?_, ?_, ?_, ?_, trivial⟩
  ·exact fun L ac w ⟨g8, hs⟩ => pln (oldd hs 0 0 (W a) isAgg24 sizeOf24 rfl rfl rfl rfl rfl fun ac hs => ⟨g8, hs⟩)
  ·exact fun L ac w ⟨g8, hs⟩ => pln (op_call (F := 121) hs (some 1) (v := W r4) rfl rfl rfl rfl (call121 _) (rfred_c a r4 ha hr4) rfl fun ac w hs => ⟨g8, hs⟩)
  ·exact fun L ac w ⟨g8, hs⟩ => pln (oldd hs 2 1 (W b) isAgg24 sizeOf24 rfl rfl rfl rfl rfl fun ac hs => ⟨g8, hs⟩)
  ·exact fun L ac w ⟨g8, hs⟩ => pln (op_call (F := 121) hs (some 3) (v := W r5) rfl rfl rfl rfl (call121 _) (rfred_c b r5 hb hr5) rfl fun ac w hs => ⟨g8, hs⟩)
  ·exact fun L ac w ⟨g8, hs⟩ => pln (op_call (F := 59) hs (some 4) (v := .tuple #[W s6, nu64 c7]) rfl rfl rfl rfl (call59 _) (more_at r4 r5 s6 c7 lr4 lr5 hs6 hc7) rfl fun ac w hs => ⟨g8, hs⟩)
  ·exact fun L ac w ⟨g8, hs⟩ => pln (omv hs 5 rfl rfl rfl fun ac hs => ⟨g8, hs⟩)
  ·exact fun L ac w ⟨g8, hs⟩ => pln (xtr hs (some 6) rfl rfl rfl rfl rfl fun ac hs => ⟨g8, hs⟩)
  ·exact fun L ac w ⟨g8, hs⟩ => pln (xtr hs (some 7) rfl rfl rfl rfl rfl fun ac hs => ⟨g8, hs⟩)
  ·exact fun L ac w ⟨g8, hs⟩ => pln (op_alloc hs (some 8) (some 3) (cs := [.int .u64 0, .int .u64 0, .int .u64 0, .int .u64 0]) rfl rfl zeroValue24 (by kernel_rfl) rfl rfl fun g8 ac w hs => ⟨g8, hs⟩)
  ·exact fun L ac w ⟨g8, hs⟩ => pln (stoo hs 3 ((Wl s6)) sizeOf24 rfl rfl rfl rfl rfl rfl rfl rfl rfl rfl fun w hs => ⟨g8, hs⟩)
  ·exact fun L ac w ⟨g8, hs⟩ => pln (oas hs 9 rfl rfl rfl fun ac hs => ⟨g8, hs⟩)
 intro ac w ⟨g8, hs⟩
 try dsimp only [cond_true] at hs
 refine then_n (wp_seq (wp_seq (wp_region_lit ?_)))
 refine mvv hs rfl rfl rfl fun ac hs => ?_
 refine bnn hs (.bool (decide (c7 = 1))) rfl rfl rfl rfl (bin_eqlN (y := 1)) fun ac hs => ?_
 refine wpList_nil (then_n ?_)
 refine wp_cond_split (hs.ev rfl) (fun hc => ?_) (fun hc => ?_)
 ·skip
  have hp9 := of_decide_eq_true hc
  refine wp_region_lit ?_
  refine ldd hs 3 (W s6) isAgg24 sizeOf24 rfl rfl rfl rfl rfl fun ac hs => ?_
  refine stp (op_build hs none (qs := [(0, .int .u64 4294968273)]) (v := .agg #[.int .u64 4294968273, .int .u64 0, .int .u64 0, .int .u64 0]) rfl rfl rfl rfl (fun _ => by kernel_rfl) rfl fun ac hs => ?_)
  obtain ⟨s10, hs10, ls10⟩ : ∃ z0, (s6 + Pov) % 2 ^ 256 = z0 ∧ z0 < 2 ^ 256 := ⟨_, rfl, Nat.mod_lt _ (Nat.two_pow_pos 256)⟩
  obtain ⟨c11, hc11⟩ : ∃ z0, (s6 + Pov) / 2 ^ 256 = z0 := ⟨_, rfl⟩
  refine stp (op_call (F := 59) hs none (v := .tuple #[W s10, nu64 c11]) rfl rfl rfl rfl (call59 _) (more_at s6 Pov s10 c11 ls6 Pov_lt hs10 hc11) rfl fun ac w hs => ?_)
  refine mvv hs rfl rfl rfl fun ac hs => ?_
  refine stp (xtr hs none rfl rfl rfl rfl rfl fun ac hs => ?_)
  refine stp (xtr hs none rfl rfl rfl rfl rfl fun ac hs => ?_)
  refine stp (stoo hs 3 ((Wl s10)) sizeOf24 rfl rfl rfl rfl rfl rfl rfl rfl rfl rfl fun w hs => ?_)
  refine wpList_nil (then_n (wp_seq ?_))
  replace hs := hs.n0 [4, 5] rfl rfl
  refine wp_region_lit ?_
  refine ldd hs 3 (W s10) isAgg24 sizeOf24 rfl rfl rfl rfl rfl fun ac hs => ?_
  obtain ⟨r12, hr12, lr12⟩ : ∃ z0, s10 % Pf = z0 ∧ z0 < 2 ^ 256 := ⟨_, rfl, modP_lt _⟩
  refine stp (op_call (F := 121) hs none (v := W r12) rfl rfl rfl rfl (call121 _) (rfred_c s10 r12 ls10 hr12) rfl fun ac w hs => ?_)
  refine stp (stoo hs 2 ((Wl r12)) sizeOf24 rfl rfl rfl rfl rfl rfl rfl rfl rfl rfl fun w hs => ?_)
  refine wpList_nil (then_n (wp_ret ?_))
  exact bodyPost_ret (res1 rfl (rv_c hs 2 (v := W r12) rfl rfl isAgg24 sizeOf24 rfl)) hs.defers ⟨by subst hr4 hr5; rw [← hx, ← hr12, rfadd_yes hs6 hc7 hp9 hs10], (hs.bel rfl)⟩
 ·skip
  have hp13 := of_decide_eq_false hc
  refine wp_skip (then_n (wp_seq (wp_region_lit ?_)))
  refine ldd hs 3 (W s6) isAgg24 sizeOf24 rfl rfl rfl rfl rfl fun ac hs => ?_
  obtain ⟨r14, hr14, lr14⟩ : ∃ z0, s6 % Pf = z0 ∧ z0 < 2 ^ 256 := ⟨_, rfl, modP_lt _⟩
  refine stp (op_call (F := 121) hs none (v := W r14) rfl rfl rfl rfl (call121 _) (rfred_c s6 r14 ls6 hr14) rfl fun ac w hs => ?_)
  refine stp (stoo hs 2 ((Wl r14)) sizeOf24 rfl rfl rfl rfl rfl rfl rfl rfl rfl rfl fun w hs => ?_)
  refine wpList_nil (then_n (wp_ret ?_))
  exact bodyPost_ret (res1 rfl (rv_c hs 2 (v := W r14) rfl rfl isAgg24 sizeOf24 rfl)) hs.defers ⟨by subst hr4 hr5; rw [← hx, ← hr14, rfadd_no hs6 hc7 hp13], (hs.bel rfl)⟩
theorem rfsub_c (a b x : Nat) (ha : a < 2 ^ 256) (hb : b < 2 ^ 256) (hx : fsub a b = x) (w0 : World) : Calls prog 124 #[W a, W b] w0 fun e w' => e = .returned (W x) ∧ Below w0.heap.size w0 w' := by
 refine enter (n := 24) (args := [W a, W b]) func124 rfl rfl (Nat.le_of_ble_eq_true rfl) fun ac hs => ?_
 refine wp_seq (wp_region_lit ?_)
 refine stp (op_box hs none none (cs := (Wl a)) rfl rfl rfl rfl rfl rfl fun g1 ac w hs => ?_)
 refine stp (op_box hs none none (cs := (Wl b)) rfl rfl rfl rfl rfl rfl fun g2 ac w hs => ?_)
 refine stp (op_alloc hs none none (cs := [.int .u64 0, .int .u64 0, .int .u64 0, .int .u64 0]) rfl rfl zeroValue24 (by kernel_rfl) rfl rfl fun g3 ac w hs => ?_)
 refine wpList_nil (then_n (wp_seq ?_))
 replace hs := hs.n0 [2, 3, 4] rfl rfl
 obtain ⟨r4, hr4, lr4⟩ : ∃ z0, a % Pf = z0 ∧ z0 < 2 ^ 256 := ⟨_, rfl, modP_lt _⟩
 obtain ⟨r5, hr5, lr5⟩ : ∃ z0, b % Pf = z0 ∧ z0 < 2 ^ 256 := ⟨_, rfl, modP_lt _⟩
 obtain ⟨d6, hd6, ld6⟩ : ∃ z0, (r4 + 2 ^ 256 - r5) % 2 ^ 256 = z0 ∧ z0 < 2 ^ 256 := ⟨_, rfl, Nat.mod_lt _ (Nat.two_pow_pos 256)⟩
 obtain ⟨c7, hc7⟩ : ∃ z0, bor r4 r5 = z0 := ⟨_, rfl⟩
 refine region_inv [([], [1, 3, 4, 5, 6, 7, 9, 10]), ([0], [3, 4, 5, 6, 7, 9, 10]), ([], [3, 4, 5, 6, 7, 9, 10]), ([0, 1, 2], [4, 5, 6, 7, 9, 10]), (rgn 0 4, [5, 6, 7, 9, 10]), (rgn 0 5, [6, 7, 9, 10]), (rgn 0 6, [9, 10]), (rgn 0 6, [10]), ([], [9, 10]), ([0, 1, 2, 3, 4, 5, 6, 8], [10]), (rgn 0 10, [])] (fun L ac w => ∃ (g8 : Nat), St 24 w0 [(8, L 0, W a), (9, L 1, W r4), (10, L 2, W b), (11, L 3, W r5), (12, L 4, .tuple #[W d6, nu64 c7]), (7, L 5, .tuple #[W d6, nu64 c7]), (13, L 6, W d6), (14, L 7, nu64 c7), (5, L 8, ptA g8 0), (6, L 10, nu64 c7), (2, true, ptA g1 0), (3, true, ptA g2 0), (4, true, ptA g3 0)] [(true, g1, 24, (Wl a)), (true, g2, 24, (Wl b)), (true, g3, 24, [.int .u64 0, .int .u64 0, .int .u64 0, .int .u64 0]), (L 8, g8, 24, (cond (L 9) (Wl d6) [.int .u64 0, .int .u64 0, .int .u64 0, .int .u64 0]))] ac w) (by kernel_rfl) (by kernel_rfl) ?_ ?_ ?_
 ·exact ⟨0, hs.drew.skip.skip.skip.skip.skip.skip.skip.skip.skip.skip.pad⟩
 ·refine ⟨?_, ?_, ?_, ?_, ?_, ?_, ?_, ?_, ?_, ?_, ?_, trivial⟩
  ·exact fun L ac w ⟨g8, hs⟩ => pln (oldd hs 0 0 (W a) isAgg24 sizeOf24 rfl rfl rfl rfl rfl fun ac hs => ⟨g8, hs⟩)
  ·exact fun L ac w ⟨g8, hs⟩ => pln (op_call (F := 121) hs (some 1) (v := W r4) rfl rfl rfl rfl (call121 _) (rfred_c a r4 ha hr4) rfl fun ac w hs => ⟨g8, hs⟩)
  ·exact fun L ac w ⟨g8, hs⟩ => pln (oldd hs 2 1 (W b) isAgg24 sizeOf24 rfl rfl rfl rfl rfl fun ac hs => ⟨g8, hs⟩)
  ·exact fun L ac w ⟨g8, hs⟩ => pln (op_call (F := 121) hs (some 3) (v := W r5) rfl rfl rfl rfl (call121 _) (rfred_c b r5 hb hr5) rfl fun ac w hs => ⟨g8, hs⟩)
  ·exact fun L ac w ⟨g8, hs⟩ => pln (op_call (F := 60) hs (some 4) (v := .tuple #[W d6, nu64 c7]) rfl rfl rfl rfl (call60 _) (less_at r4 r5 d6 c7 lr4 lr5 hd6 hc7) rfl fun ac w hs => ⟨g8, hs⟩)
  ·exact fun L ac w ⟨g8, hs⟩ => pln (omv hs 5 rfl rfl rfl fun ac hs => ⟨g8, hs⟩)
  ·exact fun L ac w ⟨g8, hs⟩ => pln (xtr hs (some 6) rfl rfl rfl rfl rfl fun ac hs => ⟨g8, hs⟩)
  ·exact fun L ac w ⟨g8, hs⟩ => pln (xtr hs (some 7) rfl rfl rfl rfl rfl fun ac hs => ⟨g8, hs⟩)
  ·exact fun L ac w ⟨g8, hs⟩ => pln (op_alloc hs (some 8) (some 3) (cs := [.int .u64 0, .int .u64 0, .int .u64 0, .int .u64 0]) rfl rfl zeroValue24 (by kernel_rfl) rfl rfl fun g8 ac w hs => ⟨g8, hs⟩)
  ·exact fun L ac w ⟨g8, hs⟩ => pln (stoo hs 3 ((Wl d6)) sizeOf24 rfl rfl rfl rfl rfl rfl rfl rfl rfl rfl fun w hs => ⟨g8, hs⟩)
  ·exact fun L ac w ⟨g8, hs⟩ => pln (oas hs 9 rfl rfl rfl fun ac hs => ⟨g8, hs⟩)
 intro ac w ⟨g8, hs⟩
 try dsimp only [cond_true] at hs
 refine then_n (wp_seq (wp_seq (wp_region_lit ?_)))
 refine mvv hs rfl rfl rfl fun ac hs => ?_
 refine bnn hs (.bool (decide (c7 = 1))) rfl rfl rfl rfl (bin_eqlN (y := 1)) fun ac hs => ?_
 refine wpList_nil (then_n ?_)
 refine wp_cond_split (hs.ev rfl) (fun hc => ?_) (fun hc => ?_)
 ·skip
  have hp9 := of_decide_eq_true hc
  replace hs := hs.n0 [4, 5] rfl rfl
  obtain ⟨s10, hs10, ls10⟩ : ∃ z0, (d6 + Pf) % 2 ^ 256 = z0 ∧ z0 < 2 ^ 256 := ⟨_, rfl, Nat.mod_lt _ (Nat.two_pow_pos 256)⟩
  obtain ⟨c11, hc11⟩ : ∃ z0, (d6 + Pf) / 2 ^ 256 = z0 := ⟨_, rfl⟩
  refine region_inv [([], rgn 2 5), ([], rgn 2 5), ([0, 1], rgn 3 4), ([0, 1, 2], [4, 5, 6]), (rgn 0 4, [6]), (rgn 0 4, []), (rgn 0 5, [])] (fun L ac w => St 24 w0 [(18, L 0, W d6), (19, L 1, W Pf), (20, L 2, .tuple #[W s10, nu64 c11]), (17, L 3, .tuple #[W s10, nu64 c11]), (21, L 4, W s10), (22, L 5, nu64 c11), (4, true, ptA g3 0), (5, true, ptA g8 0)] [(true, g1, 24, (Wl a)), (true, g2, 24, (Wl b)), (true, g3, 24, [.int .u64 0, .int .u64 0, .int .u64 0, .int .u64 0]), (true, g8, 24, (cond (L 6) (Wl s10) (Wl d6)))] ac w) (by kernel_rfl) (by kernel_rfl) ?_ ?_ ?_
  ·exact hs.drew.skip.skip.skip.skip.skip.skip
  ·refine ⟨?_, ?_, ?_, ?_, ?_, ?_, ?_, trivial⟩
   ·exact fun L ac w hs => pln (oldd hs 0 3 (W d6) isAgg24 sizeOf24 rfl rfl rfl rfl rfl fun ac hs => hs)
   ·exact fun L ac w hs => pln (op_call (F := 118) hs (some 1) (v := W Pf) rfl rfl rfl rfl (call118 _) rprime_c rfl fun ac w hs => hs)
   ·exact fun L ac w hs => pln (op_call (F := 59) hs (some 2) (v := .tuple #[W s10, nu64 c11]) rfl rfl rfl rfl (call59 _) (more_at d6 Pf s10 c11 ld6 Pf_lt hs10 hc11) rfl fun ac w hs => hs)
   ·exact fun L ac w hs => pln (omv hs 3 rfl rfl rfl fun ac hs => hs)
   ·exact fun L ac w hs => pln (xtr hs (some 4) rfl rfl rfl rfl rfl fun ac hs => hs)
   ·exact fun L ac w hs => pln (xtr hs (some 5) rfl rfl rfl rfl rfl fun ac hs => hs)
   ·exact fun L ac w hs => pln (stoo hs 3 ((Wl s10)) sizeOf24 rfl rfl rfl rfl rfl rfl rfl rfl rfl rfl fun w hs => hs)
  intro ac w hs
  try dsimp only [cond_true] at hs
  refine then_n (wp_seq (wp_region_lit ?_))
  refine ldd hs 3 (W s10) isAgg24 sizeOf24 rfl rfl rfl rfl rfl fun ac hs => ?_
  refine stp (stoo hs 2 ((Wl s10)) sizeOf24 rfl rfl rfl rfl rfl rfl rfl rfl rfl rfl fun w hs => ?_)
  refine wpList_nil (then_n (wp_ret ?_))
  exact bodyPost_ret (res1 rfl (rv_c hs 2 (v := W s10) rfl rfl isAgg24 sizeOf24 rfl)) hs.defers ⟨by subst hr4 hr5; rw [← hx, ← fsub_yes hd6 hc7 hp9 hs10], (hs.bel rfl)⟩
 ·skip
  have hp12 := of_decide_eq_false hc
  refine wp_skip (then_n (wp_seq (wp_region_lit ?_)))
  refine ldd hs 3 (W d6) isAgg24 sizeOf24 rfl rfl rfl rfl rfl fun ac hs => ?_
  refine stp (stoo hs 2 ((Wl d6)) sizeOf24 rfl rfl rfl rfl rfl rfl rfl rfl rfl rfl fun w hs => ?_)
  refine wpList_nil (then_n (wp_ret ?_))
  exact bodyPost_ret (res1 rfl (rv_c hs 2 (v := W d6) rfl rfl isAgg24 sizeOf24 rfl)) hs.defers ⟨by subst hr4 hr5; rw [← hx, ← fsub_no hd6 hc7 hp12], (hs.bel rfl)⟩
theorem rfneg_c (a x : Nat) (ha : a < 2 ^ 256) (hx : fsub 0 a = x) (w0 : World) : Calls prog 90 #[W a] w0 fun e w' => e = .returned (W x) ∧ Below w0.heap.size w0 w' := by
 refine enter (n := 6) (args := [W a]) func90 rfl rfl (Nat.le_of_ble_eq_true rfl) fun ac hs => ?_
 refine wp_seq (wp_region_lit ?_)
 refine stp (op_box hs none none (cs := (Wl a)) rfl rfl rfl rfl rfl rfl fun g1 ac w hs => ?_)
 refine stp (op_alloc hs none none (cs := [.int .u64 0, .int .u64 0, .int .u64 0, .int .u64 0]) rfl rfl zeroValue24 (by kernel_rfl) rfl rfl fun g2 ac w hs => ?_)
 refine wpList_nil (then_n (wp_seq (wp_region_lit ?_)))
 refine stp (op_build hs none (qs := []) (v := .agg #[.int .u64 0, .int .u64 0, .int .u64 0, .int .u64 0]) rfl rfl rfl rfl (fun _ => by kernel_rfl) rfl fun ac hs => ?_)
 refine ldd hs 0 (W a) isAgg24 sizeOf24 rfl rfl rfl rfl rfl fun ac hs => ?_
 obtain ⟨r3, hr3, lr3⟩ : ∃ z0, fsub 0 a = z0 ∧ z0 < 2 ^ 256 := ⟨_, rfl, fsub_lt _ _⟩
 refine stp (op_call (F := 124) hs none (v := W r3) rfl rfl rfl rfl (call124 _) (rfsub_c 0 a r3 (by decide) ha hr3) rfl fun ac w hs => ?_)
 refine stp (stoo hs 1 ((Wl r3)) sizeOf24 rfl rfl rfl rfl rfl rfl rfl rfl rfl rfl fun w hs => ?_)
 refine wpList_nil (then_n (wp_ret ?_))
 exact bodyPost_ret (res1 rfl (rv_c hs 1 (v := W r3) rfl rfl isAgg24 sizeOf24 rfl)) hs.defers ⟨by rw [← hx, ← hr3], (hs.bel rfl)⟩
theorem halves_c (a : Nat) (ha : a < 2 ^ 256) (w0 : World) : Calls prog 126 #[W a] w0 fun e w' => e = .returned (At .u64 8 (h3 a)) ∧ Below w0.heap.size w0 w' := by
 refine enter (n := 23) (args := [W a]) func126 rfl rfl (Nat.le_of_ble_eq_true rfl) fun ac hs => ?_
 refine wp_seq (wp_region_lit ?_)
 refine stp (op_box hs none none (cs := (Wl a)) rfl rfl rfl rfl rfl rfl fun g1 ac w hs => ?_)
 refine stp (op_alloc hs none none (cs := (tab .u64 8 (fun _ => 0))) rfl rfl zeroValue92 (by kernel_rfl) rfl rfl fun g2 ac w hs => ?_)
 refine wpList_nil (then_n (wp_seq (wp_region_lit ?_)))
 refine stp (op_build hs none (qs := []) (v := At .u64 8 (fun _ => 0)) rfl rfl rfl rfl (fun _ => by kernel_rfl) rfl fun ac hs => ?_)
 refine stp (op_alloc hs none none (cs := (tab .u64 8 (fun _ => 0))) rfl rfl zeroValue92 (by kernel_rfl) rfl rfl fun g3 ac w hs => ?_)
 refine stp (stoo hs 2 ((tab .u64 8 (fun _ => 0))) sizeOf92 rfl rfl rfl rfl rfl (by kernel_rfl) tab_length' (tab_one _ _ _) tab_leA wr_tab fun w hs => ?_)
 refine wpList_nil (then_n (wp_seq (wp_seq (wp_region_lit ?_))))
 refine asg hs rfl rfl rfl fun ac hs => ?_
 refine wpList_nil (then_n (wp_block ?_))
 refine wp_loop_m (fun μ ac w => ∃ (k : Nat) (f : Nat → Nat), (8 - k) = μ ∧ (k ≤ 8) ∧ (∀ j, j < k → f j = h3 a j) ∧ St 23 w0 [(1, true, ptA g1 0), (2, true, ptA g2 0), (3, true, ptA g3 0), (4, true, ni64 k)] [(true, g1, 24, (Wl a)), (true, g2, 92, (tab .u64 8 (fun _ => 0))), (true, g3, 92, (tab .u64 8 f))] ac w) ?_ ?_
 ·exact ⟨_, 0, (fun _ => 0), rfl, (by omega), (fun j hj => by omega), (hs.re ⟨rfl, rfl, rfl, rfl, trivial⟩)⟩
 intro μ ac w ⟨k, f, hμ, hk, hf, hs⟩
 refine wp_seq (wp_seq (wp_region_lit ?_))
 refine mvv hs rfl rfl rfl fun ac hs => ?_
 refine bnn hs (.bool (decide (k < 8))) rfl rfl rfl rfl (bin_lssN (y := 8)) fun ac hs => ?_
 refine wpList_nil (then_n ?_)
 refine wp_cond_split (hs.ev rfl) (fun hc => ?_) (fun hc => ?_)
 ·skip
  have hp4 := of_decide_eq_true hc
  have hlt : k < 8 := of_decide_eq_true hc
  refine wp_skip (then_n (wp_seq (wp_block (wp_region_lit ?_))))
  refine mvv hs rfl rfl rfl fun ac hs => ?_
  refine mvv hs rfl rfl rfl fun ac hs => ?_
  refine bnn hs (ni64 (k / 2)) rfl rfl rfl rfl (bin_quoN (y := 2) rfl (by decide) (show k < 9223372036854775808 by omega)) fun ac hs => ?_
  refine stp (op_idxA hs none (j := k / 2) rfl rfl rfl rfl underlying24 sizeOf22 (show k / 2 < 4 by omega) (off := k / 2) (by omega) rfl fun ac hs => ?_)
  have l5 := limN_lt a (k / 2)
  refine ldd hs 0 (nu64 (limN a (k / 2))) isAgg22 sizeOf22 rfl rfl rfl rfl (Wl_get (j := k / 2) (show k / 2 < 4 by omega)) fun ac hs => ?_
  refine mvv hs rfl rfl rfl fun ac hs => ?_
  refine bnn hs (ni64 (k % 2)) rfl rfl rfl rfl (bin_remN (y := 2) rfl (by decide)) fun ac hs => ?_
  refine bnn hs (ni64 (32 * (k % 2))) rfl rfl rfl rfl (bin_mulN (x := 32) rfl (show 32 * (k % 2) < 9223372036854775808 by omega)) fun ac hs => ?_
  refine stp (op_convert hs none (v := nu64 (32 * (k % 2))) rfl rfl rfl (conv_N underlying3 underlying73 (show 32 * (k % 2) < 18446744073709551616 by omega)) rfl fun ac hs => ?_)
  refine bnn hs (.int .u64 (((limN a (k / 2)) / 2 ^ (32 * (k % 2)) : Nat) : Int)) rfl rfl rfl rfl (bin_shrN (z := (limN a (k / 2)) / 2 ^ (32 * (k % 2))) rfl (limN_lt _ _)) fun ac hs => ?_
  refine bnn hs (.int .u64 ((((limN a (k / 2)) / 2 ^ (32 * (k % 2))) % 2 ^ 32 : Nat) : Int)) rfl rfl rfl rfl (bin_andN (y := 4294967295) (z := ((limN a (k / 2)) / 2 ^ (32 * (k % 2))) % 2 ^ 32) (Nat.and_two_pow_sub_one_eq_mod ((limN a (k / 2)) / 2 ^ (32 * (k % 2))) 32) (shr_lt (limN_lt _ _)) (by decide) (show ((limN a (k / 2)) / 2 ^ (32 * (k % 2))) % 2 ^ 32 < 18446744073709551616 by omega)) fun ac hs => ?_
  refine stp (op_idxA hs none (j := k) rfl rfl rfl rfl underlying92 sizeOf22 (show k < 8 by omega) (off := k) (by omega) rfl fun ac hs => ?_)
  refine stp (stoo hs 2 ([.int .u64 ((((limN a (k / 2)) / 2 ^ (32 * (k % 2))) % 2 ^ 32 : Nat) : Int)]) sizeOf22 rfl rfl rfl rfl rfl rfl rfl rfl (tab_le (j := k) (show k < 8 by omega)) (tab_set) fun w hs => ?_)
  refine wpList_nil (blk_n (then_n ?_))
  replace hs := hs.n0 [1, 2, 3, 4] rfl rfl
  refine wp_region_lit ?_
  refine mvv hs rfl rfl rfl fun ac hs => ?_
  refine bnn hs (ni64 (k + 1)) rfl rfl rfl rfl (bin_addN (y := 1) rfl (show k + 1 < 9223372036854775808 by omega)) fun ac hs => ?_
  refine asg hs rfl rfl rfl fun ac hs => ?_
  refine wpList_nil (then_n ?_)
  exact ⟨_, ⟨(k + 1), (upn f k (((limN a (k / 2)) / 2 ^ (32 * (k % 2))) % 2 ^ 32)), rfl, hlt, (h3_step hf), (hs.re ⟨rfl, rfl, rfl, rfl, trivial⟩)⟩, (by omega)⟩
 ·skip
  have hp6 := of_decide_eq_false hc
  obtain rfl : k = 8 := by omega
  replace hs := hs.setb 2 (cs' := tab .u64 8 (h3 a)) rfl (tab_congr hf)
  refine wp_exit (then_e (then_e (blk_e (then_n (wp_seq (wp_region_lit ?_))))))
  refine ldd hs 2 (At .u64 8 (h3 a)) isAgg92 sizeOf92 rfl rfl rfl rfl ldv_tab fun ac hs => ?_
  refine stp (stoo hs 1 ((tab .u64 8 (h3 a))) sizeOf92 rfl rfl rfl rfl rfl (by kernel_rfl) tab_length' (tab_one _ _ _) tab_leA wr_tab fun w hs => ?_)
  refine wpList_nil (then_n (wp_ret ?_))
  exact bodyPost_ret (res1 rfl (rv_c hs 1 (v := At .u64 8 (h3 a)) rfl rfl isAgg92 sizeOf92 ldv_tab)) hs.defers ⟨rfl, (hs.bel rfl)⟩
theorem tw12_c (t x : Nat) (ht : t < 1099511627776) (hx : t * Pov = x) (w0 : World) : Calls prog 138 #[nu64 t] w0 fun e w' => e = .returned (W x) ∧ Below w0.heap.size w0 w' := by
 refine enter (n := 23) (args := [nu64 t]) func138 rfl rfl (Nat.le_of_ble_eq_true rfl) fun ac hs => ?_
 refine wp_seq (wp_region_lit ?_)
 refine stp (op_alloc hs none none (cs := [.int .u64 0, .int .u64 0, .int .u64 0, .int .u64 0]) rfl rfl zeroValue24 (by kernel_rfl) rfl rfl fun g1 ac w hs => ?_)
 refine wpList_nil (then_n (wp_seq (wp_region_lit ?_)))
 refine mvv hs rfl rfl rfl fun ac hs => ?_
 refine bnn hs (nu64 (t * 977)) rfl rfl rfl rfl (bin_mulN (y := 977) rfl (show t * 977 < 18446744073709551616 by omega)) fun ac hs => ?_
 refine asg hs rfl rfl rfl fun ac hs => ?_
 refine wpList_nil (then_n (wp_seq (wp_region_lit ?_)))
 refine mvv hs rfl rfl rfl fun ac hs => ?_
 refine bnn hs (nu64 (t * 2 ^ 32 % 18446744073709551616)) rfl rfl rfl rfl (bin_shlM (y := 32) rfl rfl) fun ac hs => ?_
 refine asg hs rfl rfl rfl fun ac hs => ?_
 refine wpList_nil (then_n (wp_seq ?_))
 replace hs := hs.n0 [0, 2, 3, 4] rfl rfl
 refine wp_region_lit ?_
 refine mvv hs rfl rfl rfl fun ac hs => ?_
 refine mvv hs rfl rfl rfl fun ac hs => ?_
 refine bnn hs (nu64 ((t * 977 + t * 2 ^ 32 % 18446744073709551616) % 18446744073709551616)) rfl rfl rfl rfl (bin_addM rfl rfl) fun ac hs => ?_
 refine asg hs rfl rfl rfl fun ac hs => ?_
 refine wpList_nil (then_n (wp_seq (wp_region_lit ?_)))
 refine asg hs rfl rfl rfl fun ac hs => ?_
 refine wpList_nil (then_n (wp_seq (wp_seq (wp_region_lit ?_))))
 refine mvv hs rfl rfl rfl fun ac hs => ?_
 refine mvv hs rfl rfl rfl fun ac hs => ?_
 refine bnn hs (.bool (decide ((t * 977 + t * 2 ^ 32 % 18446744073709551616) % 18446744073709551616 < t * 977))) rfl rfl rfl rfl bin_lssN fun ac hs => ?_
 refine wpList_nil (then_n ?_)
 refine wp_cond_split (hs.ev rfl) (fun hc => ?_) (fun hc => ?_)
 ·skip
  have hp2 := of_decide_eq_true hc
  replace hs := hs.n0 [0, 2, 5, 6] rfl rfl
  refine wp_region_lit ?_
  refine asg hs rfl rfl rfl fun ac hs => ?_
  refine wpList_nil (then_n (wp_seq (wp_region_lit ?_)))
  refine mvv hs rfl rfl rfl fun ac hs => ?_
  refine mvv hs rfl rfl rfl fun ac hs => ?_
  refine bnn hs (nu64 (t / 2 ^ 32)) rfl rfl rfl rfl (bin_shrN (y := 32) rfl (show t < 2 ^ 64 by omega)) fun ac hs => ?_
  refine mvv hs rfl rfl rfl fun ac hs => ?_
  refine bnn hs (nu64 (t / 2 ^ 32 + 1)) rfl rfl rfl rfl (bin_addN (y := 1) rfl (show t / 2 ^ 32 + 1 < 18446744073709551616 by omega)) fun ac hs => ?_
  refine stp (op_build hs none (qs := [(0, nu64 ((t * 977 + t * 2 ^ 32 % 18446744073709551616) % 18446744073709551616)), (1, nu64 (t / 2 ^ 32 + 1))]) (v := .agg #[nu64 ((t * 977 + t * 2 ^ 32 % 18446744073709551616) % 18446744073709551616), nu64 (t / 2 ^ 32 + 1), .int .u64 0, .int .u64 0]) rfl rfl rfl rfl (fun _ => by kernel_rfl) rfl fun ac hs => ?_)
  refine stp (stoo hs 0 ([nu64 ((t * 977 + t * 2 ^ 32 % 18446744073709551616) % 18446744073709551616), nu64 (t / 2 ^ 32 + 1), .int .u64 0, .int .u64 0]) sizeOf24 rfl rfl rfl rfl rfl rfl rfl rfl rfl rfl fun w hs => ?_)
  refine wpList_nil (then_n (wp_ret ?_))
  exact bodyPost_ret (res1 rfl (rv_c hs 0 (v := .agg #[nu64 ((t * 977 + t * 2 ^ 32 % 18446744073709551616) % 18446744073709551616), nu64 (t / 2 ^ 32 + 1), .int .u64 0, .int .u64 0]) rfl rfl isAgg24 sizeOf24 rfl)) hs.defers ⟨by rw [← hx]; exact congrArg (fun l => Ending.returned (.agg (List.toArray l))) (tw12_limbs (c := 1) ht (by rw [if_pos hp2])), (hs.bel rfl)⟩
 ·skip
  have hp3 := of_decide_eq_false hc
  refine wp_skip (then_n (wp_seq ?_))
  replace hs := hs.n0 [0, 2, 5, 6] rfl rfl
  refine wp_region_lit ?_
  refine mvv hs rfl rfl rfl fun ac hs => ?_
  refine mvv hs rfl rfl rfl fun ac hs => ?_
  refine bnn hs (nu64 (t / 2 ^ 32)) rfl rfl rfl rfl (bin_shrN (y := 32) rfl (show t < 2 ^ 64 by omega)) fun ac hs => ?_
  refine mvv hs rfl rfl rfl fun ac hs => ?_
  refine bnn hs (nu64 (t / 2 ^ 32 + 0)) rfl rfl rfl rfl (bin_addN (y := 0) rfl (show t / 2 ^ 32 + 0 < 18446744073709551616 by omega)) fun ac hs => ?_
  refine stp (op_build hs none (qs := [(0, nu64 ((t * 977 + t * 2 ^ 32 % 18446744073709551616) % 18446744073709551616)), (1, nu64 (t / 2 ^ 32 + 0))]) (v := .agg #[nu64 ((t * 977 + t * 2 ^ 32 % 18446744073709551616) % 18446744073709551616), nu64 (t / 2 ^ 32 + 0), .int .u64 0, .int .u64 0]) rfl rfl rfl rfl (fun _ => by kernel_rfl) rfl fun ac hs => ?_)
  refine stp (stoo hs 0 ([nu64 ((t * 977 + t * 2 ^ 32 % 18446744073709551616) % 18446744073709551616), nu64 (t / 2 ^ 32 + 0), .int .u64 0, .int .u64 0]) sizeOf24 rfl rfl rfl rfl rfl rfl rfl rfl rfl rfl fun w hs => ?_)
  refine wpList_nil (then_n (wp_ret ?_))
  exact bodyPost_ret (res1 rfl (rv_c hs 0 (v := .agg #[nu64 ((t * 977 + t * 2 ^ 32 % 18446744073709551616) % 18446744073709551616), nu64 (t / 2 ^ 32 + 0), .int .u64 0, .int .u64 0]) rfl rfl isAgg24 sizeOf24 rfl)) hs.defers ⟨by rw [← hx]; exact congrArg (fun l => Ending.returned (.agg (List.toArray l))) (tw12_limbs (c := 0) ht (by rw [if_neg hp3])), (hs.bel rfl)⟩
theorem folded_c (M x : Nat) (hM : M / 2 ^ 256 < 2 ^ 256) (hx : M % Pf = x) (w0 : World) : Calls prog 127 #[At .u64 16 (h3 M)] w0 fun e w' => e = .returned (W x) ∧ Below w0.heap.size w0 w' := by
 refine enter (n := 88) (args := [At .u64 16 (h3 M)]) func127 rfl rfl (Nat.le_of_ble_eq_true rfl) fun ac hs => ?_
 refine wp_seq (wp_region_lit ?_)
 refine stp (op_box hs none none (cs := (tab .u64 16 (h3 M))) rfl rfl rfl rfl rfl rfl fun g1 ac w hs => ?_)
 refine stp (op_alloc hs none none (cs := [.int .u64 0, .int .u64 0, .int .u64 0, .int .u64 0]) rfl rfl zeroValue24 (by kernel_rfl) rfl rfl fun g2 ac w hs => ?_)
 refine wpList_nil (then_n (wp_seq (wp_region_lit ?_)))
 refine stp (op_build hs none (qs := []) (v := At .u64 10 (fun _ => 0)) rfl rfl rfl rfl (fun _ => by kernel_rfl) rfl fun ac hs => ?_)
 refine stp (op_alloc hs none none (cs := (tab .u64 10 (fun _ => 0))) rfl rfl zeroValue122 (by kernel_rfl) rfl rfl fun g3 ac w hs => ?_)
 refine stp (stoo hs 2 ((tab .u64 10 (fun _ => 0))) sizeOf122 rfl rfl rfl rfl rfl (by kernel_rfl) tab_length' (tab_one _ _ _) tab_leA wr_tab fun w hs => ?_)
 refine wpList_nil (then_n (wp_seq (wp_region_lit ?_)))
 refine asg hs rfl rfl rfl fun ac hs => ?_
 refine wpList_nil (then_n (wp_seq (wp_seq ?_)))
 replace hs := hs.n0 [1, 2, 3, 4] rfl rfl
 refine wp_region_lit ?_
 refine asg hs rfl rfl rfl fun ac hs => ?_
 refine wpList_nil (then_n (wp_block ?_))
 refine wp_loop_m (fun μ ac w => ∃ (i : Nat) (c : Nat) (f : Nat → Nat), (10 - i) = μ ∧ (i ≤ 10) ∧ (c = fT M i / p3 i) ∧ (∀ j, j < i → f j = h3 (fT M i) j) ∧ St 88 w0 [(1, true, ptA g1 0), (2, true, ptA g2 0), (3, true, ptA g3 0), (4, true, nu64 c), (5, true, ni64 i)] [(true, g1, 106, (tab .u64 16 (h3 M))), (true, g2, 24, [.int .u64 0, .int .u64 0, .int .u64 0, .int .u64 0]), (true, g3, 122, (tab .u64 10 f))] ac w) ?_ ?_
 ·exact ⟨_, 0, 0, (fun _ => 0), rfl, (by omega), (by rw [fT_zero]; simp), (fun j hj => by omega), (hs.re ⟨rfl, rfl, rfl, rfl, rfl, trivial⟩)⟩
 intro μ ac w ⟨i, c, f, hμ, hi, hcv, hf, hs⟩
 have hcl : c < 979 := by rw [hcv]; exact fT_lt
 refine wp_seq (wp_seq (wp_region_lit ?_))
 refine mvv hs rfl rfl rfl fun ac hs => ?_
 refine bnn hs (.bool (decide (i < 10))) rfl rfl rfl rfl (bin_lssN (y := 10)) fun ac hs => ?_
 refine wpList_nil (then_n ?_)
 refine wp_cond_split (hs.ev rfl) (fun hc => ?_) (fun hc => ?_)
 ·skip
  have hp4 := of_decide_eq_true hc
  have hlt : i < 10 := of_decide_eq_true hc
  refine wp_skip (then_n (wp_seq (wp_block (wp_seq (wp_seq (wp_region_lit ?_))))))
  refine mvv hs rfl rfl rfl fun ac hs => ?_
  refine bnn hs (.bool (decide (i < 8))) rfl rfl rfl rfl (bin_lssN (y := 8)) fun ac hs => ?_
  refine wpList_nil (then_n ?_)
  refine wp_cond_split (hs.ev rfl) (fun hc => ?_) (fun hc => ?_)
  ·skip
   have hp5 := of_decide_eq_true hc
   replace hs := hs.n0 [1, 2, 3, 4, 5] rfl rfl
   have l6 := h3_lt M i
   have l7 := h3_lt M (8 + i)
   refine region_inv [([], [4, 10, 11]), ([], [2, 3, 4, 10, 11]), ([1], [3, 4, 10, 11]), ([1, 2], [4, 10, 11]), (rgn 0 4, [10, 11]), ([], rgn 6 6), ([5], rgn 7 5), ([5, 6], rgn 8 4), ([5, 6, 7], [9, 10, 11]), (rgn 5 4, [10, 11]), (rgn 0 10, [11]), (rgn 0 11, [])] (fun L ac w => St 88 w0 [(18, L 0, nu64 c), (19, L 1, ni64 i), (20, L 2, .pointer (some ⟨g1, i, none⟩)), (21, L 3, nu64 ((h3 M) i)), (22, L 4, nu64 (c + ((h3 M) i))), (23, L 5, ni64 i), (24, L 6, ni64 (8 + i)), (25, L 7, .pointer (some ⟨g1, 8 + i, none⟩)), (26, L 8, .int .u64 (((h3 M) (8 + i) : Nat) : Int)), (27, L 9, .int .u64 ((((h3 M) (8 + i)) * 977 : Nat) : Int)), (28, L 10, .int .u64 ((c + ((h3 M) i) + (((h3 M) (8 + i)) * 977) : Nat) : Int)), (4, L 11, .int .u64 ((c + ((h3 M) i) + (((h3 M) (8 + i)) * 977) : Nat) : Int)), (1, true, ptA g1 0), (2, true, ptA g2 0), (3, true, ptA g3 0), (4, true, nu64 c), (5, true, ni64 i)] [(true, g1, 106, (tab .u64 16 (h3 M))), (true, g2, 24, [.int .u64 0, .int .u64 0, .int .u64 0, .int .u64 0]), (true, g3, 122, (tab .u64 10 f))] ac w) (by kernel_rfl) (by kernel_rfl) ?_ ?_ ?_
   ·exact hs.drew.skip.skip.skip.skip.skip.skip.skip.skip.skip.skip.skip.skip
   ·refine ⟨?_, ?_, ?_, ?_, ?_, ?_, ?_, ?_, ?_, ?_, ?_, ?_, trivial⟩
    ·exact fun L ac w hs => pln (omv hs 0 rfl rfl rfl fun ac hs => hs)
    ·exact fun L ac w hs => pln (omv hs 1 rfl rfl rfl fun ac hs => hs)
    ·exact fun L ac w hs => pln (op_idxA hs (some 2) (j := i) rfl rfl rfl rfl underlying106 sizeOf22 (show i < 16 by omega) (off := i) (by omega) rfl fun ac hs => hs)
    ·exact fun L ac w hs => pln (oldd hs 3 0 (nu64 ((h3 M) i)) isAgg22 sizeOf22 rfl rfl rfl rfl (tab_get (j := i) (show i < 16 by omega)) fun ac hs => hs)
    ·exact fun L ac w hs => pln (obn hs 4 (nu64 (c + ((h3 M) i))) rfl rfl rfl rfl (bin_addN rfl (show c + ((h3 M) i) < 18446744073709551616 by omega)) fun ac hs => hs)
    ·exact fun L ac w hs => pln (omv hs 5 rfl rfl rfl fun ac hs => hs)
    ·exact fun L ac w hs => pln (obn hs 6 (ni64 (8 + i)) rfl rfl rfl rfl (bin_addN (x := 8) rfl (show 8 + i < 9223372036854775808 by omega)) fun ac hs => hs)
    ·exact fun L ac w hs => pln (op_idxA hs (some 7) (j := 8 + i) rfl rfl rfl rfl underlying106 sizeOf22 (show 8 + i < 16 by omega) (off := 8 + i) (by omega) rfl fun ac hs => hs)
    ·exact fun L ac w hs => pln (oldd hs 8 0 (.int .u64 (((h3 M) (8 + i) : Nat) : Int)) isAgg22 sizeOf22 rfl rfl rfl rfl (tab_get (j := 8 + i) (show 8 + i < 16 by omega)) fun ac hs => hs)
    ·exact fun L ac w hs => pln (obn hs 9 (.int .u64 ((((h3 M) (8 + i)) * 977 : Nat) : Int)) rfl rfl rfl rfl (bin_mulN (y := 977) (z := ((h3 M) (8 + i)) * 977) rfl (show ((h3 M) (8 + i)) * 977 < 18446744073709551616 by omega)) fun ac hs => hs)
    ·exact fun L ac w hs => pln (obn hs 10 (.int .u64 ((c + ((h3 M) i) + (((h3 M) (8 + i)) * 977) : Nat) : Int)) rfl rfl rfl rfl (bin_addN (z := c + ((h3 M) i) + (((h3 M) (8 + i)) * 977)) rfl (show c + ((h3 M) i) + (((h3 M) (8 + i)) * 977) < 18446744073709551616 by omega)) fun ac hs => hs)
    ·exact fun L ac w hs => pln (oas hs 11 rfl rfl rfl fun ac hs => hs)
   intro ac w hs
   try dsimp only [cond_true] at hs
   refine then_n (wp_seq (wp_seq ?_))
   by_cases hq8 : 1 ≤ i
   ·skip
    refine wp_region_lit ?_
    refine mvv hs rfl rfl rfl fun ac hs => ?_
    refine bnn hs (.bool true) rfl rfl rfl rfl (fun w => dT hq8 (bin_geqN (y := 1) w)) fun ac hs => ?_
    refine mvv hs rfl rfl rfl fun ac hs => ?_
    refine lstep (wpO_in hs rfl rfl rfl (op_move hs none rfl rfl rfl rfl fun ac hs => ?_))
    refine lstep (wpO_in hs rfl rfl rfl (op_bin hs none (v := .bool (decide (i < 9))) rfl rfl rfl rfl (fun _ => rfl) (bin_lssN (x := i) (y := 9)) rfl fun ac hs => ?_))
    refine stp (op_pickT hs none rfl rfl rfl rfl rfl fun ac hs => ?_)
    refine wpList_nil (then_n ?_)
    refine wp_cond_split (hs.ev rfl) (fun hc => ?_) (fun hc => ?_)
    ·skip
     have hp9 := of_decide_eq_true hc
     replace hs := hs.n0 [1, 2, 3, 4, 5] rfl rfl
     refine wp_region_lit ?_
     refine mvv hs rfl rfl rfl fun ac hs => ?_
     refine mvv hs rfl rfl rfl fun ac hs => ?_
     refine bnn hs (ni64 (7 + i)) rfl rfl rfl rfl (bin_addN (x := 7) rfl (show 7 + i < 9223372036854775808 by omega)) fun ac hs => ?_
     refine stp (op_idxA hs none (j := 7 + i) rfl rfl rfl rfl underlying106 sizeOf22 (show 7 + i < 16 by omega) (off := 7 + i) (by omega) rfl fun ac hs => ?_)
     have l10 := h3_lt M (7 + i)
     refine ldd hs 0 (.int .u64 (((h3 M) (7 + i) : Nat) : Int)) isAgg22 sizeOf22 rfl rfl rfl rfl (tab_get (j := 7 + i) (show 7 + i < 16 by omega)) fun ac hs => ?_
     refine bnn hs (.int .u64 ((c + ((h3 M) i) + (((h3 M) (8 + i)) * 977) + ((h3 M) (7 + i)) : Nat) : Int)) rfl rfl rfl rfl (bin_addN (z := c + ((h3 M) i) + (((h3 M) (8 + i)) * 977) + ((h3 M) (7 + i))) rfl (show c + ((h3 M) i) + (((h3 M) (8 + i)) * 977) + ((h3 M) (7 + i)) < 18446744073709551616 by omega)) fun ac hs => ?_
     refine asg hs rfl rfl rfl fun ac hs => ?_
     refine wpList_nil (then_n (wp_seq ?_))
     replace hs := hs.n0 [1, 2, 3, 4, 5] rfl rfl
     refine wp_region_lit ?_
     refine mvv hs rfl rfl rfl fun ac hs => ?_
     refine mvv hs rfl rfl rfl fun ac hs => ?_
     refine bnn hs (.int .u64 (((c + ((h3 M) i) + (((h3 M) (8 + i)) * 977) + ((h3 M) (7 + i))) % 2 ^ 32 : Nat) : Int)) rfl rfl rfl rfl (bin_andN (y := 4294967295) (z := (c + ((h3 M) i) + (((h3 M) (8 + i)) * 977) + ((h3 M) (7 + i))) % 2 ^ 32) (Nat.and_two_pow_sub_one_eq_mod (c + ((h3 M) i) + (((h3 M) (8 + i)) * 977) + ((h3 M) (7 + i))) 32) (show c + ((h3 M) i) + (((h3 M) (8 + i)) * 977) + ((h3 M) (7 + i)) < 18446744073709551616 by omega) (by decide) (show (c + ((h3 M) i) + (((h3 M) (8 + i)) * 977) + ((h3 M) (7 + i))) % 2 ^ 32 < 18446744073709551616 by omega)) fun ac hs => ?_
     refine stp (op_idxA hs none (j := i) rfl rfl rfl rfl underlying122 sizeOf22 (show i < 10 by omega) (off := i) (by omega) rfl fun ac hs => ?_)
     refine stp (stoo hs 2 ([.int .u64 (((c + ((h3 M) i) + (((h3 M) (8 + i)) * 977) + ((h3 M) (7 + i))) % 2 ^ 32 : Nat) : Int)]) sizeOf22 rfl rfl rfl rfl rfl rfl rfl rfl (tab_le (j := i) (show i < 10 by omega)) (tab_set) fun w hs => ?_)
     refine wpList_nil (then_n (wp_region_lit ?_))
     refine mvv hs rfl rfl rfl fun ac hs => ?_
     refine bnn hs (.int .u64 (((c + ((h3 M) i) + (((h3 M) (8 + i)) * 977) + ((h3 M) (7 + i))) / 2 ^ 32 : Nat) : Int)) rfl rfl rfl rfl (bin_shrN (y := 32) (z := (c + ((h3 M) i) + (((h3 M) (8 + i)) * 977) + ((h3 M) (7 + i))) / 2 ^ 32) rfl (show c + ((h3 M) i) + (((h3 M) (8 + i)) * 977) + ((h3 M) (7 + i)) < 2 ^ 64 by omega)) fun ac hs => ?_
     refine asg hs rfl rfl rfl fun ac hs => ?_
     refine wpList_nil (blk_n (then_n ?_))
     replace hs := hs.n0 [1, 2, 3, 4, 5] rfl rfl
     refine wp_region_lit ?_
     refine mvv hs rfl rfl rfl fun ac hs => ?_
     refine bnn hs (ni64 (i + 1)) rfl rfl rfl rfl (bin_addN (y := 1) rfl (show i + 1 < 9223372036854775808 by omega)) fun ac hs => ?_
     refine asg hs rfl rfl rfl fun ac hs => ?_
     refine wpList_nil (then_n ?_)
     exact ⟨_, ⟨(i + 1), ((c + ((h3 M) i) + (((h3 M) (8 + i)) * 977) + ((h3 M) (7 + i))) / 2 ^ 32), (upn f i ((c + ((h3 M) i) + (((h3 M) (8 + i)) * 977) + ((h3 M) (7 + i))) % 2 ^ 32)), rfl, hlt, (fold_c hM hcv (by unfold tI; (repeat' split) <;> omega)), (fold_f hM hcv (by unfold tI; (repeat' split) <;> omega) hf), (hs.re ⟨rfl, rfl, rfl, rfl, rfl, trivial⟩)⟩, (by omega)⟩
    ·skip
     have hp11 := of_decide_eq_false hc
     refine wp_skip (then_n (wp_seq ?_))
     replace hs := hs.n0 [1, 2, 3, 4, 5] rfl rfl
     refine wp_region_lit ?_
     refine mvv hs rfl rfl rfl fun ac hs => ?_
     refine mvv hs rfl rfl rfl fun ac hs => ?_
     refine bnn hs (.int .u64 (((c + ((h3 M) i) + (((h3 M) (8 + i)) * 977)) % 2 ^ 32 : Nat) : Int)) rfl rfl rfl rfl (bin_andN (y := 4294967295) (z := (c + ((h3 M) i) + (((h3 M) (8 + i)) * 977)) % 2 ^ 32) (Nat.and_two_pow_sub_one_eq_mod (c + ((h3 M) i) + (((h3 M) (8 + i)) * 977)) 32) (show c + ((h3 M) i) + (((h3 M) (8 + i)) * 977) < 18446744073709551616 by omega) (by decide) (show (c + ((h3 M) i) + (((h3 M) (8 + i)) * 977)) % 2 ^ 32 < 18446744073709551616 by omega)) fun ac hs => ?_
     refine stp (op_idxA hs none (j := i) rfl rfl rfl rfl underlying122 sizeOf22 (show i < 10 by omega) (off := i) (by omega) rfl fun ac hs => ?_)
     refine stp (stoo hs 2 ([.int .u64 (((c + ((h3 M) i) + (((h3 M) (8 + i)) * 977)) % 2 ^ 32 : Nat) : Int)]) sizeOf22 rfl rfl rfl rfl rfl rfl rfl rfl (tab_le (j := i) (show i < 10 by omega)) (tab_set) fun w hs => ?_)
     refine wpList_nil (then_n (wp_region_lit ?_))
     refine mvv hs rfl rfl rfl fun ac hs => ?_
     refine bnn hs (.int .u64 (((c + ((h3 M) i) + (((h3 M) (8 + i)) * 977)) / 2 ^ 32 : Nat) : Int)) rfl rfl rfl rfl (bin_shrN (y := 32) (z := (c + ((h3 M) i) + (((h3 M) (8 + i)) * 977)) / 2 ^ 32) rfl (show c + ((h3 M) i) + (((h3 M) (8 + i)) * 977) < 2 ^ 64 by omega)) fun ac hs => ?_
     refine asg hs rfl rfl rfl fun ac hs => ?_
     refine wpList_nil (blk_n (then_n ?_))
     replace hs := hs.n0 [1, 2, 3, 4, 5] rfl rfl
     refine wp_region_lit ?_
     refine mvv hs rfl rfl rfl fun ac hs => ?_
     refine bnn hs (ni64 (i + 1)) rfl rfl rfl rfl (bin_addN (y := 1) rfl (show i + 1 < 9223372036854775808 by omega)) fun ac hs => ?_
     refine asg hs rfl rfl rfl fun ac hs => ?_
     refine wpList_nil (then_n ?_)
     exact ⟨_, ⟨(i + 1), ((c + ((h3 M) i) + (((h3 M) (8 + i)) * 977)) / 2 ^ 32), (upn f i ((c + ((h3 M) i) + (((h3 M) (8 + i)) * 977)) % 2 ^ 32)), rfl, hlt, (fold_c hM hcv (by unfold tI; (repeat' split) <;> omega)), (fold_f hM hcv (by unfold tI; (repeat' split) <;> omega) hf), (hs.re ⟨rfl, rfl, rfl, rfl, rfl, trivial⟩)⟩, (by omega)⟩
   ·skip
    refine wp_region_lit ?_
    refine mvv hs rfl rfl rfl fun ac hs => ?_
    refine bnn hs (.bool false) rfl rfl rfl rfl (fun w => dF hq8 (bin_geqN (y := 1) w)) fun ac hs => ?_
    refine mvv hs rfl rfl rfl fun ac hs => ?_
    refine lstep (wpO_out hs none rfl rfl (.inl rfl) rfl rfl fun ac hs => ?_)
    refine lstep (wpO_out hs none rfl rfl (.inl rfl) rfl rfl fun ac hs => ?_)
    refine stp (op_pickF hs none rfl rfl rfl rfl rfl fun ac hs => ?_)
    refine wpList_nil (then_n ?_)
    refine wp_cond_false (hs.ev rfl) ?_
    refine wp_skip (then_n (wp_seq (wp_region_lit ?_)))
    refine mvv hs rfl rfl rfl fun ac hs => ?_
    refine mvv hs rfl rfl rfl fun ac hs => ?_
    refine bnn hs (.int .u64 (((c + ((h3 M) i) + (((h3 M) (8 + i)) * 977)) % 2 ^ 32 : Nat) : Int)) rfl rfl rfl rfl (bin_andN (y := 4294967295) (z := (c + ((h3 M) i) + (((h3 M) (8 + i)) * 977)) % 2 ^ 32) (Nat.and_two_pow_sub_one_eq_mod (c + ((h3 M) i) + (((h3 M) (8 + i)) * 977)) 32) (show c + ((h3 M) i) + (((h3 M) (8 + i)) * 977) < 18446744073709551616 by omega) (by decide) (show (c + ((h3 M) i) + (((h3 M) (8 + i)) * 977)) % 2 ^ 32 < 18446744073709551616 by omega)) fun ac hs => ?_
    refine stp (op_idxA hs none (j := i) rfl rfl rfl rfl underlying122 sizeOf22 (show i < 10 by omega) (off := i) (by omega) rfl fun ac hs => ?_)
    refine stp (stoo hs 2 ([.int .u64 (((c + ((h3 M) i) + (((h3 M) (8 + i)) * 977)) % 2 ^ 32 : Nat) : Int)]) sizeOf22 rfl rfl rfl rfl rfl rfl rfl rfl (tab_le (j := i) (show i < 10 by omega)) (tab_set) fun w hs => ?_)
    refine wpList_nil (then_n ?_)
    replace hs := hs.n0 [1, 2, 3, 4, 5] rfl rfl
    refine wp_region_lit ?_
    refine mvv hs rfl rfl rfl fun ac hs => ?_
    refine bnn hs (.int .u64 (((c + ((h3 M) i) + (((h3 M) (8 + i)) * 977)) / 2 ^ 32 : Nat) : Int)) rfl rfl rfl rfl (bin_shrN (y := 32) (z := (c + ((h3 M) i) + (((h3 M) (8 + i)) * 977)) / 2 ^ 32) rfl (show c + ((h3 M) i) + (((h3 M) (8 + i)) * 977) < 2 ^ 64 by omega)) fun ac hs => ?_
    refine asg hs rfl rfl rfl fun ac hs => ?_
    refine wpList_nil (blk_n (then_n (wp_region_lit ?_)))
    refine mvv hs rfl rfl rfl fun ac hs => ?_
    refine bnn hs (ni64 (i + 1)) rfl rfl rfl rfl (bin_addN (y := 1) rfl (show i + 1 < 9223372036854775808 by omega)) fun ac hs => ?_
    refine asg hs rfl rfl rfl fun ac hs => ?_
    refine wpList_nil (then_n ?_)
    exact ⟨_, ⟨(i + 1), ((c + ((h3 M) i) + (((h3 M) (8 + i)) * 977)) / 2 ^ 32), (upn f i ((c + ((h3 M) i) + (((h3 M) (8 + i)) * 977)) % 2 ^ 32)), rfl, hlt, (fold_c hM hcv (by unfold tI; (repeat' split) <;> omega)), (fold_f hM hcv (by unfold tI; (repeat' split) <;> omega) hf), (hs.re ⟨rfl, rfl, rfl, rfl, rfl, trivial⟩)⟩, (by omega)⟩
  ·skip
   have hp12 := of_decide_eq_false hc
   refine wp_skip (then_n (wp_seq (wp_seq ?_)))
   by_cases hq13 : 1 ≤ i
   ·skip
    refine wp_region_lit ?_
    refine mvv hs rfl rfl rfl fun ac hs => ?_
    refine bnn hs (.bool true) rfl rfl rfl rfl (fun w => dT hq13 (bin_geqN (y := 1) w)) fun ac hs => ?_
    refine mvv hs rfl rfl rfl fun ac hs => ?_
    refine lstep (wpO_in hs rfl rfl rfl (op_move hs none rfl rfl rfl rfl fun ac hs => ?_))
    refine lstep (wpO_in hs rfl rfl rfl (op_bin hs none (v := .bool (decide (i < 9))) rfl rfl rfl rfl (fun _ => rfl) (bin_lssN (x := i) (y := 9)) rfl fun ac hs => ?_))
    refine stp (op_pickT hs none rfl rfl rfl rfl rfl fun ac hs => ?_)
    refine wpList_nil (then_n ?_)
    refine wp_cond_split (hs.ev rfl) (fun hc => ?_) (fun hc => ?_)
    ·skip
     have hp14 := of_decide_eq_true hc
     replace hs := hs.n0 [1, 2, 3, 4, 5] rfl rfl
     refine wp_region_lit ?_
     refine mvv hs rfl rfl rfl fun ac hs => ?_
     refine mvv hs rfl rfl rfl fun ac hs => ?_
     refine bnn hs (ni64 (7 + i)) rfl rfl rfl rfl (bin_addN (x := 7) rfl (show 7 + i < 9223372036854775808 by omega)) fun ac hs => ?_
     refine stp (op_idxA hs none (j := 7 + i) rfl rfl rfl rfl underlying106 sizeOf22 (show 7 + i < 16 by omega) (off := 7 + i) (by omega) rfl fun ac hs => ?_)
     have l15 := h3_lt M (7 + i)
     refine ldd hs 0 (.int .u64 (((h3 M) (7 + i) : Nat) : Int)) isAgg22 sizeOf22 rfl rfl rfl rfl (tab_get (j := 7 + i) (show 7 + i < 16 by omega)) fun ac hs => ?_
     refine bnn hs (.int .u64 ((c + ((h3 M) (7 + i)) : Nat) : Int)) rfl rfl rfl rfl (bin_addN (z := c + ((h3 M) (7 + i))) rfl (show c + ((h3 M) (7 + i)) < 18446744073709551616 by omega)) fun ac hs => ?_
     refine asg hs rfl rfl rfl fun ac hs => ?_
     refine wpList_nil (then_n (wp_seq ?_))
     replace hs := hs.n0 [1, 2, 3, 4, 5] rfl rfl
     refine wp_region_lit ?_
     refine mvv hs rfl rfl rfl fun ac hs => ?_
     refine mvv hs rfl rfl rfl fun ac hs => ?_
     refine bnn hs (.int .u64 (((c + ((h3 M) (7 + i))) % 2 ^ 32 : Nat) : Int)) rfl rfl rfl rfl (bin_andN (y := 4294967295) (z := (c + ((h3 M) (7 + i))) % 2 ^ 32) (Nat.and_two_pow_sub_one_eq_mod (c + ((h3 M) (7 + i))) 32) (show c + ((h3 M) (7 + i)) < 18446744073709551616 by omega) (by decide) (show (c + ((h3 M) (7 + i))) % 2 ^ 32 < 18446744073709551616 by omega)) fun ac hs => ?_
     refine stp (op_idxA hs none (j := i) rfl rfl rfl rfl underlying122 sizeOf22 (show i < 10 by omega) (off := i) (by omega) rfl fun ac hs => ?_)
     refine stp (stoo hs 2 ([.int .u64 (((c + ((h3 M) (7 + i))) % 2 ^ 32 : Nat) : Int)]) sizeOf22 rfl rfl rfl rfl rfl rfl rfl rfl (tab_le (j := i) (show i < 10 by omega)) (tab_set) fun w hs => ?_)
     refine wpList_nil (then_n (wp_region_lit ?_))
     refine mvv hs rfl rfl rfl fun ac hs => ?_
     refine bnn hs (.int .u64 (((c + ((h3 M) (7 + i))) / 2 ^ 32 : Nat) : Int)) rfl rfl rfl rfl (bin_shrN (y := 32) (z := (c + ((h3 M) (7 + i))) / 2 ^ 32) rfl (show c + ((h3 M) (7 + i)) < 2 ^ 64 by omega)) fun ac hs => ?_
     refine asg hs rfl rfl rfl fun ac hs => ?_
     refine wpList_nil (blk_n (then_n ?_))
     replace hs := hs.n0 [1, 2, 3, 4, 5] rfl rfl
     refine wp_region_lit ?_
     refine mvv hs rfl rfl rfl fun ac hs => ?_
     refine bnn hs (ni64 (i + 1)) rfl rfl rfl rfl (bin_addN (y := 1) rfl (show i + 1 < 9223372036854775808 by omega)) fun ac hs => ?_
     refine asg hs rfl rfl rfl fun ac hs => ?_
     refine wpList_nil (then_n ?_)
     exact ⟨_, ⟨(i + 1), ((c + ((h3 M) (7 + i))) / 2 ^ 32), (upn f i ((c + ((h3 M) (7 + i))) % 2 ^ 32)), rfl, hlt, (fold_c hM hcv (by unfold tI; (repeat' split) <;> omega)), (fold_f hM hcv (by unfold tI; (repeat' split) <;> omega) hf), (hs.re ⟨rfl, rfl, rfl, rfl, rfl, trivial⟩)⟩, (by omega)⟩
    ·skip
     have hp16 := of_decide_eq_false hc
     refine wp_skip (then_n (wp_seq ?_))
     replace hs := hs.n0 [1, 2, 3, 4, 5] rfl rfl
     refine wp_region_lit ?_
     refine mvv hs rfl rfl rfl fun ac hs => ?_
     refine mvv hs rfl rfl rfl fun ac hs => ?_
     refine bnn hs (nu64 (c % 2 ^ 32)) rfl rfl rfl rfl (bin_andN (y := 4294967295) (Nat.and_two_pow_sub_one_eq_mod c 32) (show c < 18446744073709551616 by omega) (by decide) (show c % 2 ^ 32 < 18446744073709551616 by omega)) fun ac hs => ?_
     refine stp (op_idxA hs none (j := i) rfl rfl rfl rfl underlying122 sizeOf22 (show i < 10 by omega) (off := i) (by omega) rfl fun ac hs => ?_)
     refine stp (stoo hs 2 ([nu64 (c % 2 ^ 32)]) sizeOf22 rfl rfl rfl rfl rfl rfl rfl rfl (tab_le (j := i) (show i < 10 by omega)) (tab_set) fun w hs => ?_)
     refine wpList_nil (then_n (wp_region_lit ?_))
     refine mvv hs rfl rfl rfl fun ac hs => ?_
     refine bnn hs (nu64 (c / 2 ^ 32)) rfl rfl rfl rfl (bin_shrN (y := 32) rfl (show c < 2 ^ 64 by omega)) fun ac hs => ?_
     refine asg hs rfl rfl rfl fun ac hs => ?_
     refine wpList_nil (blk_n (then_n ?_))
     replace hs := hs.n0 [1, 2, 3, 4, 5] rfl rfl
     refine wp_region_lit ?_
     refine mvv hs rfl rfl rfl fun ac hs => ?_
     refine bnn hs (ni64 (i + 1)) rfl rfl rfl rfl (bin_addN (y := 1) rfl (show i + 1 < 9223372036854775808 by omega)) fun ac hs => ?_
     refine asg hs rfl rfl rfl fun ac hs => ?_
     refine wpList_nil (then_n ?_)
     exact ⟨_, ⟨(i + 1), (c / 2 ^ 32), (upn f i (c % 2 ^ 32)), rfl, hlt, (fold_c hM hcv (by unfold tI; (repeat' split) <;> omega)), (fold_f hM hcv (by unfold tI; (repeat' split) <;> omega) hf), (hs.re ⟨rfl, rfl, rfl, rfl, rfl, trivial⟩)⟩, (by omega)⟩
   ·skip
    refine wp_region_lit ?_
    refine mvv hs rfl rfl rfl fun ac hs => ?_
    refine bnn hs (.bool false) rfl rfl rfl rfl (fun w => dF hq13 (bin_geqN (y := 1) w)) fun ac hs => ?_
    refine mvv hs rfl rfl rfl fun ac hs => ?_
    refine lstep (wpO_out hs none rfl rfl (.inl rfl) rfl rfl fun ac hs => ?_)
    refine lstep (wpO_out hs none rfl rfl (.inl rfl) rfl rfl fun ac hs => ?_)
    refine stp (op_pickF hs none rfl rfl rfl rfl rfl fun ac hs => ?_)
    refine wpList_nil (then_n ?_)
    refine wp_cond_false (hs.ev rfl) ?_
    refine wp_skip (then_n (wp_seq ?_))
    replace hs := hs.n0 [1, 2, 3, 4, 5] rfl rfl
    refine wp_region_lit ?_
    refine mvv hs rfl rfl rfl fun ac hs => ?_
    refine mvv hs rfl rfl rfl fun ac hs => ?_
    refine bnn hs (nu64 (c % 2 ^ 32)) rfl rfl rfl rfl (bin_andN (y := 4294967295) (Nat.and_two_pow_sub_one_eq_mod c 32) (show c < 18446744073709551616 by omega) (by decide) (show c % 2 ^ 32 < 18446744073709551616 by omega)) fun ac hs => ?_
    refine stp (op_idxA hs none (j := i) rfl rfl rfl rfl underlying122 sizeOf22 (show i < 10 by omega) (off := i) (by omega) rfl fun ac hs => ?_)
    refine stp (stoo hs 2 ([nu64 (c % 2 ^ 32)]) sizeOf22 rfl rfl rfl rfl rfl rfl rfl rfl (tab_le (j := i) (show i < 10 by omega)) (tab_set) fun w hs => ?_)
    refine wpList_nil (then_n (wp_region_lit ?_))
    refine mvv hs rfl rfl rfl fun ac hs => ?_
    refine bnn hs (nu64 (c / 2 ^ 32)) rfl rfl rfl rfl (bin_shrN (y := 32) rfl (show c < 2 ^ 64 by omega)) fun ac hs => ?_
    refine asg hs rfl rfl rfl fun ac hs => ?_
    refine wpList_nil (blk_n (then_n ?_))
    replace hs := hs.n0 [1, 2, 3, 4, 5] rfl rfl
    refine wp_region_lit ?_
    refine mvv hs rfl rfl rfl fun ac hs => ?_
    refine bnn hs (ni64 (i + 1)) rfl rfl rfl rfl (bin_addN (y := 1) rfl (show i + 1 < 9223372036854775808 by omega)) fun ac hs => ?_
    refine asg hs rfl rfl rfl fun ac hs => ?_
    refine wpList_nil (then_n ?_)
    exact ⟨_, ⟨(i + 1), (c / 2 ^ 32), (upn f i (c % 2 ^ 32)), rfl, hlt, (fold_c hM hcv (by unfold tI; (repeat' split) <;> omega)), (fold_f hM hcv (by unfold tI; (repeat' split) <;> omega) hf), (hs.re ⟨rfl, rfl, rfl, rfl, rfl, trivial⟩)⟩, (by omega)⟩
 ·skip
  have hp17 := of_decide_eq_false hc
  obtain rfl : i = 10 := by omega
  obtain ⟨E, hE⟩ : ∃ E, fT M 10 = E := ⟨_, rfl⟩
  obtain ⟨hE1, hE2⟩ := fT_ten hM hE
  obtain ⟨e0, he0, le0⟩ : ∃ e0, E % 2 ^ 256 = e0 ∧ e0 < 2 ^ 256 := ⟨_, rfl, Nat.mod_lt _ (Nat.two_pow_pos 256)⟩
  replace hs := hs.setb 2 (cs' := tab .u64 10 (h3 E)) rfl (tab_congr fun j hj => by rw [hf j hj, hE])
  refine wp_exit (then_e (then_e (blk_e (then_n (wp_seq (wp_region_lit ?_))))))
  refine stp (op_idxA hs none (j := 8) rfl rfl rfl rfl underlying122 sizeOf22 (by decide) (off := 8) rfl rfl fun ac hs => ?_)
  have l18 := h3_lt E 8
  refine ldd hs 2 (nu64 ((h3 E) 8)) isAgg22 sizeOf22 rfl rfl rfl rfl (tab_get (j := 8) (by decide)) fun ac hs => ?_
  refine stp (op_idxA hs none (j := 9) rfl rfl rfl rfl underlying122 sizeOf22 (by decide) (off := 9) rfl rfl fun ac hs => ?_)
  have l19 := h3_lt E 9
  refine ldd hs 2 (nu64 ((h3 E) 9)) isAgg22 sizeOf22 rfl rfl rfl rfl (tab_get (j := 9) (by decide)) fun ac hs => ?_
  refine bnn hs (nu64 (((h3 E) 9) * 2 ^ 32 % 18446744073709551616)) rfl rfl rfl rfl (bin_shlM (y := 32) rfl rfl) fun ac hs => ?_
  refine bnn hs (.int .u64 (((h3 E) 8 + (((h3 E) 9) * 2 ^ 32 % 18446744073709551616) : Nat) : Int)) rfl rfl rfl rfl (bin_addN (z := (h3 E) 8 + (((h3 E) 9) * 2 ^ 32 % 18446744073709551616)) rfl (show (h3 E) 8 + (((h3 E) 9) * 2 ^ 32 % 18446744073709551616) < 18446744073709551616 by omega)) fun ac hs => ?_
  refine asg hs rfl rfl rfl fun ac hs => ?_
  refine wpList_nil ?_
  replace hs := hs.re (fs' := [(2, true, ptA g2 0), (3, true, ptA g3 0), (47, true, ptA g3 8), (48, true, nu64 ((h3 E) 8)), (49, true, ptA g3 9), (50, true, nu64 ((h3 E) 9)), (51, true, nu64 (((h3 E) 9) * 2 ^ 32 % 18446744073709551616)), (52, true, .int .u64 (((h3 E) 8 + (((h3 E) 9) * 2 ^ 32 % 18446744073709551616) : Nat) : Int)), (6, true, nu64 ((E / 2 ^ 256)))]) ⟨rfl, rfl, rfl, rfl, rfl, rfl, rfl, rfl, congrArg some (by rw [top_val hE2]), trivial⟩
  refine then_n (wp_seq ?_)
  replace hs := hs.n0 [2, 3, 6] rfl rfl
  refine wp_region_lit ?_
  refine stp (op_build hs none (qs := []) (v := .agg #[.int .u64 0, .int .u64 0, .int .u64 0, .int .u64 0]) rfl rfl rfl rfl (fun _ => by kernel_rfl) rfl fun ac hs => ?_)
  refine stp (op_alloc hs none none (cs := [.int .u64 0, .int .u64 0, .int .u64 0, .int .u64 0]) rfl rfl zeroValue24 (by kernel_rfl) rfl rfl fun g20 ac w hs => ?_)
  refine stp (stoo hs 3 ([.int .u64 0, .int .u64 0, .int .u64 0, .int .u64 0]) sizeOf24 rfl rfl rfl rfl rfl rfl rfl rfl rfl rfl fun w hs => ?_)
  refine wpList_nil (then_n (wp_seq (wp_seq (wp_region_lit ?_))))
  refine asg hs rfl rfl rfl fun ac hs => ?_
  refine wpList_nil (then_n (wp_block ?_))
  refine wp_loop_m (fun μ ac w => ∃ (i : Nat) (f : Nat → Nat), (4 - i) = μ ∧ (i ≤ 4) ∧ (∀ j, j < i → f j = limN E j) ∧ St 88 w0 [(2, true, ptA g2 0), (3, true, ptA g3 0), (6, true, nu64 ((E / 2 ^ 256))), (7, true, ptA g20 0), (8, true, ni64 i)] [(true, g1, 106, (tab .u64 16 (h3 M))), (true, g2, 24, [.int .u64 0, .int .u64 0, .int .u64 0, .int .u64 0]), (true, g3, 122, (tab .u64 10 (h3 E))), (true, g20, 24, (tab .u64 4 f))] ac w) ?_ ?_
  ·exact ⟨_, 0, (fun _ => 0), rfl, (by omega), (fun j hj => by omega), (hs.re ⟨rfl, rfl, rfl, rfl, rfl, trivial⟩)⟩
  intro μ ac w ⟨i, f, hμ, hi2, hf2, hs⟩
  refine wp_seq (wp_seq (wp_region_lit ?_))
  refine mvv hs rfl rfl rfl fun ac hs => ?_
  refine bnn hs (.bool (decide (i < 4))) rfl rfl rfl rfl (bin_lssN (y := 4)) fun ac hs => ?_
  refine wpList_nil (then_n ?_)
  refine wp_cond_split (hs.ev rfl) (fun hc => ?_) (fun hc => ?_)
  ·skip
   have hp21 := of_decide_eq_true hc
   have hlt2 : i < 4 := of_decide_eq_true hc
   refine wp_skip (then_n (wp_seq (wp_block ?_)))
   replace hs := hs.n0 [2, 3, 6, 7, 8] rfl rfl
   have l22 := h3_lt E (2 * i)
   have l23 := h3_lt E (2 * i + 1)
   refine region_inv [([], [12, 13]), ([], [2, 3, 4, 11, 12, 13]), ([1], [3, 4, 11, 12, 13]), ([1, 2], [4, 11, 12, 13]), ([1, 2, 3], [11, 12, 13]), ([], rgn 6 8), ([5], rgn 7 7), ([5, 6], rgn 8 6), ([5, 6, 7], rgn 9 5), (rgn 5 4, rgn 10 4), (rgn 5 5, [11, 12, 13]), (rgn 1 10, [12, 13]), (rgn 0 12, [13]), (rgn 0 13, [])] (fun L ac w => St 88 w0 [(58, L 0, ni64 i), (59, L 1, ni64 i), (60, L 2, ni64 (2 * i)), (61, L 3, .pointer (some ⟨g3, 2 * i, none⟩)), (62, L 4, .int .u64 (((h3 E) (2 * i) : Nat) : Int)), (63, L 5, ni64 i), (64, L 6, ni64 (2 * i)), (65, L 7, ni64 (2 * i + 1)), (66, L 8, .pointer (some ⟨g3, 2 * i + 1, none⟩)), (67, L 9, .int .u64 (((h3 E) (2 * i + 1) : Nat) : Int)), (68, L 10, .int .u64 ((((h3 E) (2 * i + 1)) * 2 ^ 32 % 18446744073709551616 : Nat) : Int)), (69, L 11, .int .u64 (((h3 E) (2 * i) + (((h3 E) (2 * i + 1)) * 2 ^ 32 % 18446744073709551616) : Nat) : Int)), (70, L 12, .pointer (some ⟨g20, i, none⟩)), (2, true, ptA g2 0), (3, true, ptA g3 0), (6, true, nu64 ((E / 2 ^ 256))), (7, true, ptA g20 0), (8, true, ni64 i)] [(true, g1, 106, (tab .u64 16 (h3 M))), (true, g2, 24, [.int .u64 0, .int .u64 0, .int .u64 0, .int .u64 0]), (true, g3, 122, (tab .u64 10 (h3 E))), (true, g20, 24, (cond (L 13) (tab .u64 4 (upn f i ((h3 E) (2 * i) + (((h3 E) (2 * i + 1)) * 2 ^ 32 % 18446744073709551616)))) (tab .u64 4 f)))] ac w) (by kernel_rfl) (by kernel_rfl) ?_ ?_ ?_
   ·exact hs.drew.skip.skip.skip.skip.skip.skip.skip.skip.skip.skip.skip.skip.skip
   ·refine ⟨?_, ?_, ?_, ?_, ?_, ?_, ?_, ?_, ?_, ?_, ?_, ?_, ?_, ?_, trivial⟩
    ·exact fun L ac w hs => pln (omv hs 0 rfl rfl rfl fun ac hs => hs)
    ·exact fun L ac w hs => pln (omv hs 1 rfl rfl rfl fun ac hs => hs)
    ·exact fun L ac w hs => pln (obn hs 2 (ni64 (2 * i)) rfl rfl rfl rfl (bin_mulN (x := 2) rfl (show 2 * i < 9223372036854775808 by omega)) fun ac hs => hs)
    ·exact fun L ac w hs => pln (op_idxA hs (some 3) (j := 2 * i) rfl rfl rfl rfl underlying122 sizeOf22 (show 2 * i < 10 by omega) (off := 2 * i) (by omega) rfl fun ac hs => hs)
    ·exact fun L ac w hs => pln (oldd hs 4 2 (.int .u64 (((h3 E) (2 * i) : Nat) : Int)) isAgg22 sizeOf22 rfl rfl rfl rfl (tab_get (j := 2 * i) (show 2 * i < 10 by omega)) fun ac hs => hs)
    ·exact fun L ac w hs => pln (omv hs 5 rfl rfl rfl fun ac hs => hs)
    ·exact fun L ac w hs => pln (obn hs 6 (ni64 (2 * i)) rfl rfl rfl rfl (bin_mulN (x := 2) rfl (show 2 * i < 9223372036854775808 by omega)) fun ac hs => hs)
    ·exact fun L ac w hs => pln (obn hs 7 (ni64 (2 * i + 1)) rfl rfl rfl rfl (bin_addN (y := 1) rfl (show 2 * i + 1 < 9223372036854775808 by omega)) fun ac hs => hs)
    ·exact fun L ac w hs => pln (op_idxA hs (some 8) (j := 2 * i + 1) rfl rfl rfl rfl underlying122 sizeOf22 (show 2 * i + 1 < 10 by omega) (off := 2 * i + 1) (by omega) rfl fun ac hs => hs)
    ·exact fun L ac w hs => pln (oldd hs 9 2 (.int .u64 (((h3 E) (2 * i + 1) : Nat) : Int)) isAgg22 sizeOf22 rfl rfl rfl rfl (tab_get (j := 2 * i + 1) (show 2 * i + 1 < 10 by omega)) fun ac hs => hs)
    ·exact fun L ac w hs => pln (obn hs 10 (.int .u64 ((((h3 E) (2 * i + 1)) * 2 ^ 32 % 18446744073709551616 : Nat) : Int)) rfl rfl rfl rfl (bin_shlM (y := 32) (z := ((h3 E) (2 * i + 1)) * 2 ^ 32 % 18446744073709551616) rfl rfl) fun ac hs => hs)
    ·exact fun L ac w hs => pln (obn hs 11 (.int .u64 (((h3 E) (2 * i) + (((h3 E) (2 * i + 1)) * 2 ^ 32 % 18446744073709551616) : Nat) : Int)) rfl rfl rfl rfl (bin_addN (z := (h3 E) (2 * i) + (((h3 E) (2 * i + 1)) * 2 ^ 32 % 18446744073709551616)) rfl (show (h3 E) (2 * i) + (((h3 E) (2 * i + 1)) * 2 ^ 32 % 18446744073709551616) < 18446744073709551616 by omega)) fun ac hs => hs)
    ·exact fun L ac w hs => pln (op_idxA hs (some 12) (j := i) rfl rfl rfl rfl underlying24 sizeOf22 (show i < 4 by omega) (off := i) (by omega) rfl fun ac hs => hs)
    ·exact fun L ac w hs => pln (stoo hs 3 ([.int .u64 (((h3 E) (2 * i) + (((h3 E) (2 * i + 1)) * 2 ^ 32 % 18446744073709551616) : Nat) : Int)]) sizeOf22 rfl rfl rfl rfl rfl rfl rfl rfl (tab_le (j := i) (show i < 4 by omega)) (tab_set) fun w hs => hs)
   intro ac w hs
   try dsimp only [cond_true] at hs
   refine blk_n (then_n (wp_region_lit ?_))
   refine mvv hs rfl rfl rfl fun ac hs => ?_
   refine bnn hs (ni64 (i + 1)) rfl rfl rfl rfl (bin_addN (y := 1) rfl (show i + 1 < 9223372036854775808 by omega)) fun ac hs => ?_
   refine asg hs rfl rfl rfl fun ac hs => ?_
   refine wpList_nil (then_n ?_)
   exact ⟨_, ⟨(i + 1), (upn f i ((h3 E) (2 * i) + (((h3 E) (2 * i + 1)) * 2 ^ 32 % 18446744073709551616))), rfl, hlt2, (lim_f hf2), (hs.re ⟨rfl, rfl, rfl, rfl, rfl, trivial⟩)⟩, (by omega)⟩
  ·skip
   have hp24 := of_decide_eq_false hc
   obtain rfl : i = 4 := by omega
   replace hs := hs.setb 3 (cs' := Wl e0) rfl (by rw [tab_Wl hf2]; exact (Wl_mod he0).symm)
   refine wp_exit (then_e (then_e (blk_e (then_n (wp_seq ?_)))))
   replace hs := hs.n0 [2, 6, 7] rfl rfl
   obtain ⟨x25, hx25, lx25⟩ : ∃ z0, (E / 2 ^ 256) * Pov = z0 ∧ z0 < 2 ^ 256 := ⟨_, rfl, tw12_lt (show (E / 2 ^ 256) < 1099511627776 by omega)⟩
   obtain ⟨s26, hs26, ls26⟩ : ∃ z0, (e0 + x25) % 2 ^ 256 = z0 ∧ z0 < 2 ^ 256 := ⟨_, rfl, Nat.mod_lt _ (Nat.two_pow_pos 256)⟩
   obtain ⟨c27, hc27⟩ : ∃ z0, (e0 + x25) / 2 ^ 256 = z0 := ⟨_, rfl⟩
   refine region_inv [([], [3, 4, 5, 6, 8, 9]), ([], [2, 3, 4, 5, 6, 8, 9]), ([1], [3, 4, 5, 6, 8, 9]), ([0, 1, 2], [4, 5, 6, 8, 9]), (rgn 0 4, [5, 6, 8, 9]), (rgn 0 5, [8, 9]), (rgn 0 5, [9]), ([], [8, 9]), ([0, 1, 2, 3, 4, 5, 7], [9]), (rgn 0 9, [])] (fun L ac w => ∃ (g28 : Nat), St 88 w0 [(72, L 0, W e0), (73, L 1, nu64 ((E / 2 ^ 256))), (74, L 2, W x25), (75, L 3, .tuple #[W s26, nu64 c27]), (71, L 4, .tuple #[W s26, nu64 c27]), (76, L 5, W s26), (77, L 6, nu64 c27), (9, L 7, ptA g28 0), (10, L 9, nu64 c27), (2, true, ptA g2 0), (6, true, nu64 ((E / 2 ^ 256))), (7, true, ptA g20 0)] [(true, g1, 106, (tab .u64 16 (h3 M))), (true, g2, 24, [.int .u64 0, .int .u64 0, .int .u64 0, .int .u64 0]), (true, g3, 122, (tab .u64 10 (h3 E))), (true, g20, 24, (Wl e0)), (L 7, g28, 24, (cond (L 8) (Wl s26) [.int .u64 0, .int .u64 0, .int .u64 0, .int .u64 0]))] ac w) (by kernel_rfl) (by kernel_rfl) ?_ ?_ ?_
   ·exact ⟨0, hs.drew.skip.skip.skip.skip.skip.skip.skip.skip.skip.pad⟩
   ·refine ⟨?_, ?_, ?_, ?_, ?_, ?_, ?_, ?_, ?_, ?_, trivial⟩
    ·exact fun L ac w ⟨g28, hs⟩ => pln (oldd hs 0 3 (W e0) isAgg24 sizeOf24 rfl rfl rfl rfl rfl fun ac hs => ⟨g28, hs⟩)
    ·exact fun L ac w ⟨g28, hs⟩ => pln (omv hs 1 rfl rfl rfl fun ac hs => ⟨g28, hs⟩)
    ·exact fun L ac w ⟨g28, hs⟩ => pln (op_call (F := 138) hs (some 2) (v := W x25) rfl rfl rfl rfl (call138 _) (tw12_c (E / 2 ^ 256) x25 (show (E / 2 ^ 256) < 1099511627776 by omega) hx25) rfl fun ac w hs => ⟨g28, hs⟩)
    ·exact fun L ac w ⟨g28, hs⟩ => pln (op_call (F := 59) hs (some 3) (v := .tuple #[W s26, nu64 c27]) rfl rfl rfl rfl (call59 _) (more_at e0 x25 s26 c27 le0 lx25 hs26 hc27) rfl fun ac w hs => ⟨g28, hs⟩)
    ·exact fun L ac w ⟨g28, hs⟩ => pln (omv hs 4 rfl rfl rfl fun ac hs => ⟨g28, hs⟩)
    ·exact fun L ac w ⟨g28, hs⟩ => pln (xtr hs (some 5) rfl rfl rfl rfl rfl fun ac hs => ⟨g28, hs⟩)
    ·exact fun L ac w ⟨g28, hs⟩ => pln (xtr hs (some 6) rfl rfl rfl rfl rfl fun ac hs => ⟨g28, hs⟩)
    ·exact fun L ac w ⟨g28, hs⟩ => pln (op_alloc hs (some 7) (some 4) (cs := [.int .u64 0, .int .u64 0, .int .u64 0, .int .u64 0]) rfl rfl zeroValue24 (by kernel_rfl) rfl rfl fun g28 ac w hs => ⟨g28, hs⟩)
    ·exact fun L ac w ⟨g28, hs⟩ => pln (stoo hs 4 ((Wl s26)) sizeOf24 rfl rfl rfl rfl rfl rfl rfl rfl rfl rfl fun w hs => ⟨g28, hs⟩)
    ·exact fun L ac w ⟨g28, hs⟩ => pln (oas hs 8 rfl rfl rfl fun ac hs => ⟨g28, hs⟩)
   intro ac w ⟨g28, hs⟩
   try dsimp only [cond_true] at hs
   refine then_n (wp_seq (wp_seq (wp_region_lit ?_)))
   refine mvv hs rfl rfl rfl fun ac hs => ?_
   refine bnn hs (.bool (decide (c27 = 1))) rfl rfl rfl rfl (bin_eqlN (y := 1)) fun ac hs => ?_
   refine wpList_nil (then_n ?_)
   refine wp_cond_split (hs.ev rfl) (fun hc => ?_) (fun hc => ?_)
   ·skip
    have hp29 := of_decide_eq_true hc
    refine wp_region_lit ?_
    refine ldd hs 4 (W s26) isAgg24 sizeOf24 rfl rfl rfl rfl rfl fun ac hs => ?_
    refine stp (op_build hs none (qs := [(0, .int .u64 4294968273)]) (v := .agg #[.int .u64 4294968273, .int .u64 0, .int .u64 0, .int .u64 0]) rfl rfl rfl rfl (fun _ => by kernel_rfl) rfl fun ac hs => ?_)
    obtain ⟨s30, hs30, ls30⟩ : ∃ z0, (s26 + Pov) % 2 ^ 256 = z0 ∧ z0 < 2 ^ 256 := ⟨_, rfl, Nat.mod_lt _ (Nat.two_pow_pos 256)⟩
    obtain ⟨c31, hc31⟩ : ∃ z0, (s26 + Pov) / 2 ^ 256 = z0 := ⟨_, rfl⟩
    refine stp (op_call (F := 59) hs none (v := .tuple #[W s30, nu64 c31]) rfl rfl rfl rfl (call59 _) (more_at s26 Pov s30 c31 ls26 Pov_lt hs30 hc31) rfl fun ac w hs => ?_)
    refine mvv hs rfl rfl rfl fun ac hs => ?_
    refine stp (xtr hs none rfl rfl rfl rfl rfl fun ac hs => ?_)
    refine stp (xtr hs none rfl rfl rfl rfl rfl fun ac hs => ?_)
    refine stp (stoo hs 4 ((Wl s30)) sizeOf24 rfl rfl rfl rfl rfl rfl rfl rfl rfl rfl fun w hs => ?_)
    refine wpList_nil (then_n (wp_seq ?_))
    replace hs := hs.n0 [2, 9] rfl rfl
    refine wp_region_lit ?_
    refine ldd hs 4 (W s30) isAgg24 sizeOf24 rfl rfl rfl rfl rfl fun ac hs => ?_
    obtain ⟨r32, hr32, lr32⟩ : ∃ z0, s30 % Pf = z0 ∧ z0 < 2 ^ 256 := ⟨_, rfl, modP_lt _⟩
    refine stp (op_call (F := 121) hs none (v := W r32) rfl rfl rfl rfl (call121 _) (rfred_c s30 r32 ls30 hr32) rfl fun ac w hs => ?_)
    refine stp (stoo hs 1 ((Wl r32)) sizeOf24 rfl rfl rfl rfl rfl rfl rfl rfl rfl rfl fun w hs => ?_)
    refine wpList_nil (then_n (wp_ret ?_))
    exact bodyPost_ret (res1 rfl (rv_c hs 1 (v := W r32) rfl rfl isAgg24 sizeOf24 rfl)) hs.defers ⟨by rw [← hx, ← hr32, fold_yes hs26 hc27 (by rw [← hx25]; exact tw12_lt128 hE2) le0 hp29 hs30, ← hx25, fold_pmod hE1 he0], (hs.bel rfl)⟩
   ·skip
    have hp33 := of_decide_eq_false hc
    refine wp_skip (then_n (wp_seq (wp_region_lit ?_)))
    refine ldd hs 4 (W s26) isAgg24 sizeOf24 rfl rfl rfl rfl rfl fun ac hs => ?_
    obtain ⟨r34, hr34, lr34⟩ : ∃ z0, s26 % Pf = z0 ∧ z0 < 2 ^ 256 := ⟨_, rfl, modP_lt _⟩
    refine stp (op_call (F := 121) hs none (v := W r34) rfl rfl rfl rfl (call121 _) (rfred_c s26 r34 ls26 hr34) rfl fun ac w hs => ?_)
    refine stp (stoo hs 1 ((Wl r34)) sizeOf24 rfl rfl rfl rfl rfl rfl rfl rfl rfl rfl fun w hs => ?_)
    refine wpList_nil (then_n (wp_ret ?_))
    exact bodyPost_ret (res1 rfl (rv_c hs 1 (v := W r34) rfl rfl isAgg24 sizeOf24 rfl)) hs.defers ⟨by rw [← hx, ← hr34, fold_no hs26 hc27 (by rw [← hx25]; exact tw12_lt128 hE2) le0 hp33, ← hx25, fold_pmod hE1 he0], (hs.bel rfl)⟩
theorem rfmul_c (a b x : Nat) (ha : a < 2 ^ 256) (hb : b < 2 ^ 256) (hx : a * b % Pf = x) (w0 : World) : Calls prog 89 #[W a, W b] w0 fun e w' => e = .returned (W x) ∧ Below w0.heap.size w0 w' := by
 refine enter (n := 53) (args := [W a, W b]) func89 rfl rfl (Nat.le_of_ble_eq_true rfl) fun ac hs => ?_
 refine wp_seq (wp_region_lit ?_)
 refine stp (op_box hs none none (cs := (Wl a)) rfl rfl rfl rfl rfl rfl fun g1 ac w hs => ?_)
 refine stp (op_box hs none none (cs := (Wl b)) rfl rfl rfl rfl rfl rfl fun g2 ac w hs => ?_)
 refine stp (op_alloc hs none none (cs := [.int .u64 0, .int .u64 0, .int .u64 0, .int .u64 0]) rfl rfl zeroValue24 (by kernel_rfl) rfl rfl fun g3 ac w hs => ?_)
 refine wpList_nil (then_n (wp_seq ?_))
 replace hs := hs.n0 [2, 3, 4] rfl rfl
 refine region_inv [([], [1, 3, 6, 7]), ([0], [3, 6, 7]), ([], [3, 6, 7]), ([0, 1, 2], [6, 7]), ([], [6, 7]), ([], [6, 7]), (rgn 0 6, [7]), (rgn 0 7, [])] (fun L ac w => ∃ (g4 : Nat) (g5 : Nat), St 53 w0 [(11, L 0, W a), (12, L 1, At .u64 8 (h3 a)), (13, L 2, W b), (14, L 3, At .u64 8 (h3 b)), (5, L 4, ptA g4 0), (6, L 5, ptA g5 0), (2, true, ptA g1 0), (3, true, ptA g2 0), (4, true, ptA g3 0)] [(true, g1, 24, (Wl a)), (true, g2, 24, (Wl b)), (true, g3, 24, [.int .u64 0, .int .u64 0, .int .u64 0, .int .u64 0]), (L 4, g4, 92, (cond (L 6) (tab .u64 8 (h3 a)) (tab .u64 8 (fun _ => 0)))), (L 5, g5, 92, (cond (L 7) (tab .u64 8 (h3 b)) (tab .u64 8 (fun _ => 0))))] ac w) (by kernel_rfl) (by kernel_rfl) ?_ ?_ ?_
 ·exact ⟨0, 0, hs.drew.skip.skip.skip.skip.skip.skip.pad.pad⟩
 ·refine ⟨?_, ?_, ?_, ?_, ?_, ?_, ?_, ?_, trivial⟩
  ·exact fun L ac w ⟨g4, g5, hs⟩ => pln (oldd hs 0 0 (W a) isAgg24 sizeOf24 rfl rfl rfl rfl rfl fun ac hs => ⟨g4, g5, hs⟩)
  ·exact fun L ac w ⟨g4, g5, hs⟩ => pln (op_call (F := 126) hs (some 1) (v := At .u64 8 (h3 a)) rfl rfl rfl rfl (call126 _) (halves_c a ha) rfl fun ac w hs => ⟨g4, g5, hs⟩)
  ·exact fun L ac w ⟨g4, g5, hs⟩ => pln (oldd hs 2 1 (W b) isAgg24 sizeOf24 rfl rfl rfl rfl rfl fun ac hs => ⟨g4, g5, hs⟩)
  ·exact fun L ac w ⟨g4, g5, hs⟩ => pln (op_call (F := 126) hs (some 3) (v := At .u64 8 (h3 b)) rfl rfl rfl rfl (call126 _) (halves_c b hb) rfl fun ac w hs => ⟨g4, g5, hs⟩)
  ·exact fun L ac w ⟨g4, g5, hs⟩ => pln (op_alloc hs (some 4) (some 3) (cs := (tab .u64 8 (fun _ => 0))) rfl rfl zeroValue92 (by kernel_rfl) rfl rfl fun g4 ac w hs => ⟨g4, g5, hs⟩)
  ·exact fun L ac w ⟨g4, g5, hs⟩ => pln (op_alloc hs (some 5) (some 4) (cs := (tab .u64 8 (fun _ => 0))) rfl rfl zeroValue92 (by kernel_rfl) rfl rfl fun g5 ac w hs => ⟨g4, g5, hs⟩)
  ·exact fun L ac w ⟨g4, g5, hs⟩ => pln (stoo hs 3 ((tab .u64 8 (h3 a))) sizeOf92 rfl rfl rfl rfl rfl (by kernel_rfl) tab_length' (tab_one _ _ _) tab_leA wr_tab fun w hs => ⟨g4, g5, hs⟩)
  ·exact fun L ac w ⟨g4, g5, hs⟩ => pln (stoo hs 4 ((tab .u64 8 (h3 b))) sizeOf92 rfl rfl rfl rfl rfl (by kernel_rfl) tab_length' (tab_one _ _ _) tab_leA wr_tab fun w hs => ⟨g4, g5, hs⟩)
 intro ac w ⟨g4, g5, hs⟩
 try dsimp only [cond_true] at hs
 refine then_n (wp_seq (wp_region_lit ?_))
 refine stp (op_build hs none (qs := []) (v := At .u64 16 (fun _ => 0)) rfl rfl rfl rfl (fun _ => by kernel_rfl) rfl fun ac hs => ?_)
 refine stp (op_alloc hs none none (cs := (tab .u64 16 (fun _ => 0))) rfl rfl zeroValue106 (by kernel_rfl) rfl rfl fun g6 ac w hs => ?_)
 refine stp (stoo hs 5 ((tab .u64 16 (fun _ => 0))) sizeOf106 rfl rfl rfl rfl rfl (by kernel_rfl) tab_length' (tab_one _ _ _) tab_leA wr_tab fun w hs => ?_)
 refine wpList_nil (then_n (wp_seq (wp_seq (wp_region_lit ?_))))
 refine asg hs rfl rfl rfl fun ac hs => ?_
 refine wpList_nil (then_n (wp_block ?_))
 refine wp_loop_m (fun μ ac w => ∃ (i : Nat) (f : Nat → Nat), (8 - i) = μ ∧ (i ≤ 8) ∧ (∀ j, j < 16 → f j = h3 (V3 a b i) j) ∧ St 53 w0 [(4, true, ptA g3 0), (5, true, ptA g4 0), (6, true, ptA g5 0), (7, true, ptA g6 0), (8, true, ni64 i)] [(true, g1, 24, (Wl a)), (true, g2, 24, (Wl b)), (true, g3, 24, [.int .u64 0, .int .u64 0, .int .u64 0, .int .u64 0]), (true, g4, 92, (tab .u64 8 (h3 a))), (true, g5, 92, (tab .u64 8 (h3 b))), (true, g6, 106, (tab .u64 16 f))] ac w) ?_ ?_
 ·exact ⟨_, 0, (fun _ => 0), rfl, (by omega), prd3_0, (hs.re ⟨rfl, rfl, rfl, rfl, rfl, trivial⟩)⟩
 intro μ ac w ⟨i, f, hμ, hi, hf, hs⟩
 refine wp_seq (wp_seq (wp_region_lit ?_))
 refine mvv hs rfl rfl rfl fun ac hs => ?_
 refine bnn hs (.bool (decide (i < 8))) rfl rfl rfl rfl (bin_lssN (y := 8)) fun ac hs => ?_
 refine wpList_nil (then_n ?_)
 refine wp_cond_split (hs.ev rfl) (fun hc => ?_) (fun hc => ?_)
 ·skip
  have hp7 := of_decide_eq_true hc
  have hli : i < 8 := of_decide_eq_true hc
  have hxl := h3_lt a i
  refine wp_skip (then_n (wp_seq (wp_block (wp_seq (wp_region_lit ?_)))))
  refine asg hs rfl rfl rfl fun ac hs => ?_
  refine wpList_nil (then_n (wp_seq (wp_seq (wp_region_lit ?_))))
  refine asg hs rfl rfl rfl fun ac hs => ?_
  refine wpList_nil (then_n (wp_block ?_))
  refine wp_loop_m (fun μ ac w => ∃ (k : Nat) (c : Nat) (F : Nat → Nat), (8 - k) = μ ∧ (k ≤ 8) ∧ (In3 (V3 a b i) (h3 a i) b i k c) ∧ (∀ j, j < 16 → F j = mix3 (V3 a b i) (h3 a i) b i k j) ∧ St 53 w0 [(4, true, ptA g3 0), (5, true, ptA g4 0), (6, true, ptA g5 0), (7, true, ptA g6 0), (8, true, ni64 i), (9, true, nu64 c), (10, true, ni64 k)] [(true, g1, 24, (Wl a)), (true, g2, 24, (Wl b)), (true, g3, 24, [.int .u64 0, .int .u64 0, .int .u64 0, .int .u64 0]), (true, g4, 92, (tab .u64 8 (h3 a))), (true, g5, 92, (tab .u64 8 (h3 b))), (true, g6, 106, (tab .u64 16 F))] ac w) ?_ ?_
  ·exact ⟨_, 0, 0, f, rfl, (by omega), (in3_zero _ _ _ _), (prd3_f0 hf), (hs.re ⟨rfl, rfl, rfl, rfl, rfl, rfl, rfl, trivial⟩)⟩
  intro μ ac w ⟨k, c, F, hμ, hk, hI, hF, hs⟩
  have hc0 := hI.2
  refine wp_seq (wp_seq (wp_region_lit ?_))
  refine mvv hs rfl rfl rfl fun ac hs => ?_
  refine bnn hs (.bool (decide (k < 8))) rfl rfl rfl rfl (bin_lssN (y := 8)) fun ac hs => ?_
  refine wpList_nil (then_n ?_)
  refine wp_cond_split (hs.ev rfl) (fun hc => ?_) (fun hc => ?_)
  ·skip
   have hp8 := of_decide_eq_true hc
   have hlt : k < 8 := of_decide_eq_true hc
   have hfk : F (i + k) = h3 (V3 a b i) (i + k) := (hF _ (by omega)).trans mix3_at
   have hfl := h3_lt (V3 a b i) (i + k)
   have hfb := h3_lt b k
   have hmm := mul_lt32 hxl hfb
   have hfm : F (i + k) < 4294967296 := by omega
   refine wp_skip (then_n (wp_seq (wp_block (wp_seq ?_))))
   replace hs := hs.n0 [4, 5, 6, 7, 8, 9, 10] rfl rfl
   have l9 := h3_lt a i
   have l10 := h3_lt b k
   refine region_inv [([], [6, 14, 15]), ([], [3, 4, 5, 6, 14, 15]), ([], [3, 4, 5, 6, 14, 15]), ([1, 2], [4, 5, 6, 14, 15]), ([1, 2, 3], [5, 6, 14, 15]), (rgn 1 4, [6, 14, 15]), (rgn 0 6, [14, 15]), ([], [8, 9, 13, 14, 15]), ([7], [9, 13, 14, 15]), ([7, 8], [13, 14, 15]), ([], rgn 11 5), ([10], rgn 12 4), ([10, 11], [13, 14, 15]), (rgn 7 6, [14, 15]), (rgn 0 14, [15]), (rgn 0 15, [])] (fun L ac w => St 53 w0 [(24, L 0, nu64 c), (25, L 1, ni64 i), (26, L 2, ni64 k), (27, L 3, ni64 (i + k)), (28, L 4, .pointer (some ⟨g6, i + k, none⟩)), (29, L 5, nu64 (F (i + k))), (30, L 6, nu64 (c + (F (i + k)))), (31, L 7, ni64 i), (32, L 8, .pointer (some ⟨g4, i, none⟩)), (33, L 9, nu64 ((h3 a) i)), (34, L 10, ni64 k), (35, L 11, .pointer (some ⟨g5, k, none⟩)), (36, L 12, nu64 ((h3 b) k)), (37, L 13, .int .u64 ((((h3 a) i) * ((h3 b) k) : Nat) : Int)), (38, L 14, .int .u64 ((c + (F (i + k)) + (((h3 a) i) * ((h3 b) k)) : Nat) : Int)), (9, L 15, .int .u64 ((c + (F (i + k)) + (((h3 a) i) * ((h3 b) k)) : Nat) : Int)), (4, true, ptA g3 0), (5, true, ptA g4 0), (6, true, ptA g5 0), (7, true, ptA g6 0), (8, true, ni64 i), (9, true, nu64 c), (10, true, ni64 k)] [(true, g1, 24, (Wl a)), (true, g2, 24, (Wl b)), (true, g3, 24, [.int .u64 0, .int .u64 0, .int .u64 0, .int .u64 0]), (true, g4, 92, (tab .u64 8 (h3 a))), (true, g5, 92, (tab .u64 8 (h3 b))), (true, g6, 106, (tab .u64 16 F))] ac w) (by kernel_rfl) (by kernel_rfl) ?_ ?_ ?_
   ·exact hs.drew.skip.skip.skip.skip.skip.skip.skip.skip.skip.skip.skip.skip.skip.skip.skip.skip
   ·refine ⟨?_, ?_, ?_, ?_, ?_, ?_, ?_, ?_, ?_, ?_, ?_, ?_, ?_, ?_, ?_, ?_, trivial⟩
    ·exact fun L ac w hs => pln (omv hs 0 rfl rfl rfl fun ac hs => hs)
    ·exact fun L ac w hs => pln (omv hs 1 rfl rfl rfl fun ac hs => hs)
    ·exact fun L ac w hs => pln (omv hs 2 rfl rfl rfl fun ac hs => hs)
    ·exact fun L ac w hs => pln (obn hs 3 (ni64 (i + k)) rfl rfl rfl rfl (bin_addN rfl (show i + k < 9223372036854775808 by omega)) fun ac hs => hs)
    ·exact fun L ac w hs => pln (op_idxA hs (some 4) (j := i + k) rfl rfl rfl rfl underlying106 sizeOf22 (show i + k < 16 by omega) (off := i + k) (by omega) rfl fun ac hs => hs)
    ·exact fun L ac w hs => pln (oldd hs 5 5 (nu64 (F (i + k))) isAgg22 sizeOf22 rfl rfl rfl rfl (tab_get (j := i + k) (show i + k < 16 by omega)) fun ac hs => hs)
    ·exact fun L ac w hs => pln (obn hs 6 (nu64 (c + (F (i + k)))) rfl rfl rfl rfl (bin_addN rfl (show c + (F (i + k)) < 18446744073709551616 by omega)) fun ac hs => hs)
    ·exact fun L ac w hs => pln (omv hs 7 rfl rfl rfl fun ac hs => hs)
    ·exact fun L ac w hs => pln (op_idxA hs (some 8) (j := i) rfl rfl rfl rfl underlying92 sizeOf22 (show i < 8 by omega) (off := i) (by omega) rfl fun ac hs => hs)
    ·exact fun L ac w hs => pln (oldd hs 9 3 (nu64 ((h3 a) i)) isAgg22 sizeOf22 rfl rfl rfl rfl (tab_get (j := i) (show i < 8 by omega)) fun ac hs => hs)
    ·exact fun L ac w hs => pln (omv hs 10 rfl rfl rfl fun ac hs => hs)
    ·exact fun L ac w hs => pln (op_idxA hs (some 11) (j := k) rfl rfl rfl rfl underlying92 sizeOf22 (show k < 8 by omega) (off := k) (by omega) rfl fun ac hs => hs)
    ·exact fun L ac w hs => pln (oldd hs 12 4 (nu64 ((h3 b) k)) isAgg22 sizeOf22 rfl rfl rfl rfl (tab_get (j := k) (show k < 8 by omega)) fun ac hs => hs)
    ·exact fun L ac w hs => pln (obn hs 13 (.int .u64 ((((h3 a) i) * ((h3 b) k) : Nat) : Int)) rfl rfl rfl rfl (bin_mulN (z := ((h3 a) i) * ((h3 b) k)) rfl (show ((h3 a) i) * ((h3 b) k) < 18446744073709551616 by omega)) fun ac hs => hs)
    ·exact fun L ac w hs => pln (obn hs 14 (.int .u64 ((c + (F (i + k)) + (((h3 a) i) * ((h3 b) k)) : Nat) : Int)) rfl rfl rfl rfl (bin_addN (z := c + (F (i + k)) + (((h3 a) i) * ((h3 b) k))) rfl (show c + (F (i + k)) + (((h3 a) i) * ((h3 b) k)) < 18446744073709551616 by omega)) fun ac hs => hs)
    ·exact fun L ac w hs => pln (oas hs 15 rfl rfl rfl fun ac hs => hs)
   intro ac w hs
   try dsimp only [cond_true] at hs
   refine then_n (wp_seq (wp_region_lit ?_))
   refine mvv hs rfl rfl rfl fun ac hs => ?_
   refine mvv hs rfl rfl rfl fun ac hs => ?_
   refine bnn hs (ni64 (i + k)) rfl rfl rfl rfl (bin_addN rfl (show i + k < 9223372036854775808 by omega)) fun ac hs => ?_
   refine mvv hs rfl rfl rfl fun ac hs => ?_
   refine bnn hs (.int .u64 (((c + (F (i + k)) + (((h3 a) i) * ((h3 b) k))) % 2 ^ 32 : Nat) : Int)) rfl rfl rfl rfl (bin_andN (y := 4294967295) (z := (c + (F (i + k)) + (((h3 a) i) * ((h3 b) k))) % 2 ^ 32) (Nat.and_two_pow_sub_one_eq_mod (c + (F (i + k)) + (((h3 a) i) * ((h3 b) k))) 32) (show c + (F (i + k)) + (((h3 a) i) * ((h3 b) k)) < 18446744073709551616 by omega) (by decide) (show (c + (F (i + k)) + (((h3 a) i) * ((h3 b) k))) % 2 ^ 32 < 18446744073709551616 by omega)) fun ac hs => ?_
   refine stp (op_idxA hs none (j := i + k) rfl rfl rfl rfl underlying106 sizeOf22 (show i + k < 16 by omega) (off := i + k) (by omega) rfl fun ac hs => ?_)
   refine stp (stoo hs 5 ([.int .u64 (((c + (F (i + k)) + (((h3 a) i) * ((h3 b) k))) % 2 ^ 32 : Nat) : Int)]) sizeOf22 rfl rfl rfl rfl rfl rfl rfl rfl (tab_le (j := i + k) (show i + k < 16 by omega)) (tab_set) fun w hs => ?_)
   refine wpList_nil (then_n ?_)
   replace hs := hs.n0 [4, 5, 6, 7, 8, 9, 10] rfl rfl
   refine wp_region_lit ?_
   refine mvv hs rfl rfl rfl fun ac hs => ?_
   refine bnn hs (.int .u64 (((c + (F (i + k)) + (((h3 a) i) * ((h3 b) k))) / 2 ^ 32 : Nat) : Int)) rfl rfl rfl rfl (bin_shrN (y := 32) (z := (c + (F (i + k)) + (((h3 a) i) * ((h3 b) k))) / 2 ^ 32) rfl (show c + (F (i + k)) + (((h3 a) i) * ((h3 b) k)) < 2 ^ 64 by omega)) fun ac hs => ?_
   refine asg hs rfl rfl rfl fun ac hs => ?_
   refine wpList_nil (blk_n (then_n (wp_region_lit ?_)))
   refine mvv hs rfl rfl rfl fun ac hs => ?_
   refine bnn hs (ni64 (k + 1)) rfl rfl rfl rfl (bin_addN (y := 1) rfl (show k + 1 < 9223372036854775808 by omega)) fun ac hs => ?_
   refine asg hs rfl rfl rfl fun ac hs => ?_
   refine wpList_nil (then_n ?_)
   exact ⟨_, ⟨(k + 1), ((c + (F (i + k)) + (((h3 a) i) * ((h3 b) k))) / 2 ^ 32), (upn F (i + k) ((c + (F (i + k)) + (((h3 a) i) * ((h3 b) k))) % 2 ^ 32)), rfl, hlt, (prd3_c' hxl hfk hI), (prd3_f' hxl (by omega) hI hF), (hs.re ⟨rfl, rfl, rfl, rfl, rfl, rfl, rfl, trivial⟩)⟩, (by omega)⟩
  ·skip
   have hp11 := of_decide_eq_false hc
   obtain rfl : k = 8 := by omega
   refine wp_exit (then_e (then_e (blk_e (then_n (wp_region_lit ?_)))))
   refine mvv hs rfl rfl rfl fun ac hs => ?_
   refine bnn hs (ni64 (i + 8)) rfl rfl rfl rfl (bin_addN (y := 8) rfl (show i + 8 < 9223372036854775808 by omega)) fun ac hs => ?_
   refine mvv hs rfl rfl rfl fun ac hs => ?_
   refine stp (op_idxA hs none (j := i + 8) rfl rfl rfl rfl underlying106 sizeOf22 (show i + 8 < 16 by omega) (off := i + 8) (by omega) rfl fun ac hs => ?_)
   refine stp (stoo hs 5 ([nu64 c]) sizeOf22 rfl rfl rfl rfl rfl rfl rfl rfl (tab_le (j := i + 8) (show i + 8 < 16 by omega)) (tab_set) fun w hs => ?_)
   refine wpList_nil (blk_n (then_n ?_))
   replace hs := hs.n0 [4, 5, 6, 7, 8] rfl rfl
   refine wp_region_lit ?_
   refine mvv hs rfl rfl rfl fun ac hs => ?_
   refine bnn hs (ni64 (i + 1)) rfl rfl rfl rfl (bin_addN (y := 1) rfl (show i + 1 < 9223372036854775808 by omega)) fun ac hs => ?_
   refine asg hs rfl rfl rfl fun ac hs => ?_
   refine wpList_nil (then_n ?_)
   exact ⟨_, ⟨(i + 1), (upn F (i + 8) c), rfl, hli, (prd3_last hb hI hF), (hs.re ⟨rfl, rfl, rfl, rfl, rfl, trivial⟩)⟩, (by omega)⟩
 ·skip
  have hp12 := of_decide_eq_false hc
  obtain rfl : i = 8 := by omega
  replace hs := hs.setb 5 (cs' := tab .u64 16 (h3 (a * b))) rfl (tab_congr (prd3_fin ha hf))
  refine wp_exit (then_e (then_e (blk_e (then_n (wp_seq (wp_region_lit ?_))))))
  refine ldd hs 5 (At .u64 16 (h3 (a * b))) isAgg106 sizeOf106 rfl rfl rfl rfl ldv_tab fun ac hs => ?_
  obtain ⟨r13, hr13, lr13⟩ : ∃ z0, (a * b) % Pf = z0 ∧ z0 < 2 ^ 256 := ⟨_, rfl, modP_lt _⟩
  refine stp (op_call (F := 127) hs none (v := W r13) rfl rfl rfl rfl (call127 _) (folded_c (a * b) r13 (mul_512 ha hb) hr13) rfl fun ac w hs => ?_)
  refine stp (stoo hs 2 ((Wl r13)) sizeOf24 rfl rfl rfl rfl rfl rfl rfl rfl rfl rfl fun w hs => ?_)
  refine wpList_nil (then_n (wp_ret ?_))
  exact bodyPost_ret (res1 rfl (rv_c hs 2 (v := W r13) rfl rfl isAgg24 sizeOf24 rfl)) hs.defers ⟨by rw [← hx, ← hr13], (hs.bel rfl)⟩
theorem rfpow_c (a n x : Nat) (ha : a < 2 ^ 256) (hn : n < 2 ^ 256) (hx : a ^ n % Pf = x) (w0 : World) : Calls prog 119 #[W a, W n] w0 fun e w' => e = .returned (W x) ∧ Below w0.heap.size w0 w' := by
 refine enter (n := 23) (args := [W a, W n]) func119 rfl rfl (Nat.le_of_ble_eq_true rfl) fun ac hs => ?_
 refine wp_seq (wp_region_lit ?_)
 refine stp (op_box hs none none (cs := (Wl a)) rfl rfl rfl rfl rfl rfl fun g1 ac w hs => ?_)
 refine stp (op_box hs none none (cs := (Wl n)) rfl rfl rfl rfl rfl rfl fun g2 ac w hs => ?_)
 refine stp (op_alloc hs none none (cs := [.int .u64 0, .int .u64 0, .int .u64 0, .int .u64 0]) rfl rfl zeroValue24 (by kernel_rfl) rfl rfl fun g3 ac w hs => ?_)
 refine wpList_nil (then_n (wp_seq (wp_region_lit ?_)))
 refine stp (op_build hs none (qs := [(0, .int .u64 1)]) (v := .agg #[.int .u64 1, .int .u64 0, .int .u64 0, .int .u64 0]) rfl rfl rfl rfl (fun _ => by kernel_rfl) rfl fun ac hs => ?_)
 refine stp (op_alloc hs none none (cs := [.int .u64 0, .int .u64 0, .int .u64 0, .int .u64 0]) rfl rfl zeroValue24 (by kernel_rfl) rfl rfl fun g4 ac w hs => ?_)
 refine stp (stoo hs 3 ([.int .u64 1, .int .u64 0, .int .u64 0, .int .u64 0]) sizeOf24 rfl rfl rfl rfl rfl rfl rfl rfl rfl rfl fun w hs => ?_)
 refine wpList_nil (then_n (wp_seq (wp_seq ?_)))
 replace hs := hs.n0 [2, 3, 4, 5] rfl rfl
 refine wp_region_lit ?_
 refine asg hs rfl rfl rfl fun ac hs => ?_
 refine wpList_nil (then_n (wp_block ?_))
 refine wp_loop_m (fun μ ac w => ∃ (k : Nat) (o : Nat), (k) = μ ∧ (k ≤ 256) ∧ (o < 2 ^ 256) ∧ (a ^ (n / 2 ^ k) % Pf = o) ∧ St 23 w0 [(2, true, ptA g1 0), (3, true, ptA g2 0), (4, true, ptA g3 0), (5, true, ptA g4 0), (6, true, .int .i64 (((k : Nat) : Int) - 1))] [(true, g1, 24, (Wl a)), (true, g2, 24, (Wl n)), (true, g3, 24, [.int .u64 0, .int .u64 0, .int .u64 0, .int .u64 0]), (true, g4, 24, (Wl o))] ac w) ?_ ?_
 ·exact ⟨_, 256, 1, rfl, (by omega), (by decide), (pow_hi_start hn), (hs.re ⟨rfl, rfl, rfl, rfl, rfl, trivial⟩)⟩
 intro μ ac w ⟨k, o, hμ, hk, lo, ho, hs⟩
 refine wp_seq (wp_seq (wp_region_lit ?_))
 refine mvv hs rfl rfl rfl fun ac hs => ?_
 refine bnn hs (.bool (decide (1 ≤ k))) rfl rfl rfl rfl bin_geqP fun ac hs => ?_
 refine wpList_nil (then_n ?_)
 refine wp_cond_split (hs.ev rfl) (fun hc => ?_) (fun hc => ?_)
 ·skip
  have hp5 := of_decide_eq_true hc
  replace hs := hs.re (fs' := [(2, true, ptA g1 0), (3, true, ptA g2 0), (4, true, ptA g3 0), (5, true, ptA g4 0), (6, true, ni64 (k - 1)), (8, true, .int .i64 (((k : Nat) : Int) - 1)), (9, true, .bool (decide (1 ≤ k)))]) ⟨rfl, rfl, rfl, rfl, congrArg some (pre_nat hp5), rfl, rfl, trivial⟩
  refine wp_skip (then_n (wp_seq (wp_block (wp_seq (wp_region_lit ?_)))))
  refine ldd hs 3 (W o) isAgg24 sizeOf24 rfl rfl rfl rfl rfl fun ac hs => ?_
  refine ldd hs 3 (W o) isAgg24 sizeOf24 rfl rfl rfl rfl rfl fun ac hs => ?_
  obtain ⟨r6, hr6, lr6⟩ : ∃ z0, o * o % Pf = z0 ∧ z0 < 2 ^ 256 := ⟨_, rfl, modP_lt _⟩
  refine stp (op_call (F := 89) hs none (v := W r6) rfl rfl rfl rfl (call89 _) (rfmul_c o o r6 lo lo hr6) rfl fun ac w hs => ?_)
  refine stp (stoo hs 3 ((Wl r6)) sizeOf24 rfl rfl rfl rfl rfl rfl rfl rfl rfl rfl fun w hs => ?_)
  refine wpList_nil (then_n (wp_seq ?_))
  replace hs := hs.n0 [2, 3, 4, 5, 6] rfl rfl
  refine wp_region_lit ?_
  refine ldd hs 1 (W n) isAgg24 sizeOf24 rfl rfl rfl rfl rfl fun ac hs => ?_
  refine mvv hs rfl rfl rfl fun ac hs => ?_
  obtain ⟨b7, hb7⟩ : ∃ z0, n / 2 ^ (k - 1) % 2 = z0 := ⟨_, rfl⟩
  have lb7 := bit_le hb7
  refine stp (op_call (F := 86) hs none (v := nu64 b7) rfl rfl rfl rfl (call86 _) (rbit_c n (k - 1) b7 (show k - 1 < 256 by omega) hb7) rfl fun ac w hs => ?_)
  refine bnn hs (.bool (decide (b7 = 1))) rfl rfl rfl rfl (bin_eqlN (y := 1)) fun ac hs => ?_
  refine wpList_nil (then_n ?_)
  refine wp_cond_split (hs.ev rfl) (fun hc => ?_) (fun hc => ?_)
  ·skip
   have hp8 := of_decide_eq_true hc
   refine wp_region_lit ?_
   refine ldd hs 3 (W r6) isAgg24 sizeOf24 rfl rfl rfl rfl rfl fun ac hs => ?_
   refine ldd hs 0 (W a) isAgg24 sizeOf24 rfl rfl rfl rfl rfl fun ac hs => ?_
   obtain ⟨r9, hr9, lr9⟩ : ∃ z0, r6 * a % Pf = z0 ∧ z0 < 2 ^ 256 := ⟨_, rfl, modP_lt _⟩
   refine stp (op_call (F := 89) hs none (v := W r9) rfl rfl rfl rfl (call89 _) (rfmul_c r6 a r9 lr6 ha hr9) rfl fun ac w hs => ?_)
   refine stp (stoo hs 3 ((Wl r9)) sizeOf24 rfl rfl rfl rfl rfl rfl rfl rfl rfl rfl fun w hs => ?_)
   refine wpList_nil (blk_n (then_n ?_))
   replace hs := hs.n0 [2, 3, 4, 5, 6] rfl rfl
   refine wp_region_lit ?_
   refine mvv hs rfl rfl rfl fun ac hs => ?_
   refine bnn hs (.int .i64 (((k - 1 : Nat) : Int) - 1)) rfl rfl rfl rfl (bin_subP (by omega)) fun ac hs => ?_
   refine asg hs rfl rfl rfl fun ac hs => ?_
   refine wpList_nil (then_n ?_)
   exact ⟨_, ⟨(k - 1), r9, rfl, (by omega), lr9, (pow_hi1 hp5 ho hr6 hb7 hp8 hr9), (hs.re ⟨rfl, rfl, rfl, rfl, rfl, trivial⟩)⟩, (by omega)⟩
  ·skip
   have hp10 := of_decide_eq_false hc
   refine wp_skip (blk_n (then_n (wp_region_lit ?_)))
   refine mvv hs rfl rfl rfl fun ac hs => ?_
   refine bnn hs (.int .i64 (((k - 1 : Nat) : Int) - 1)) rfl rfl rfl rfl (bin_subP (by omega)) fun ac hs => ?_
   refine asg hs rfl rfl rfl fun ac hs => ?_
   refine wpList_nil (then_n ?_)
   exact ⟨_, ⟨(k - 1), r6, rfl, (by omega), lr6, (pow_hi0 hp5 ho hr6 hb7 hp10), (hs.re ⟨rfl, rfl, rfl, rfl, rfl, trivial⟩)⟩, (by omega)⟩
 ·skip
  have hp11 := of_decide_eq_false hc
  obtain rfl : k = 0 := by omega
  refine wp_exit (then_e (then_e (blk_e (then_n (wp_seq (wp_region_lit ?_))))))
  refine ldd hs 3 (W o) isAgg24 sizeOf24 rfl rfl rfl rfl rfl fun ac hs => ?_
  refine stp (stoo hs 2 ((Wl o)) sizeOf24 rfl rfl rfl rfl rfl rfl rfl rfl rfl rfl fun w hs => ?_)
  refine wpList_nil (then_n (wp_ret ?_))
  exact bodyPost_ret (res1 rfl (rv_c hs 2 (v := W o) rfl rfl isAgg24 sizeOf24 rfl)) hs.defers ⟨by rw [← hx, ← ho, Nat.pow_zero, Nat.div_one], (hs.bel rfl)⟩
theorem rfinv_c (a x : Nat) (ha : a < 2 ^ 256) (hx : pinv Pf a = x) (w0 : World) : Calls prog 88 #[W a] w0 fun e w' => e = .returned (W x) ∧ Below w0.heap.size w0 w' := by
 refine enter (n := 7) (args := [W a]) func88 rfl rfl (Nat.le_of_ble_eq_true rfl) fun ac hs => ?_
 refine wp_seq (wp_region_lit ?_)
 refine stp (op_box hs none none (cs := (Wl a)) rfl rfl rfl rfl rfl rfl fun g1 ac w hs => ?_)
 refine stp (op_alloc hs none none (cs := [.int .u64 0, .int .u64 0, .int .u64 0, .int .u64 0]) rfl rfl zeroValue24 (by kernel_rfl) rfl rfl fun g2 ac w hs => ?_)
 refine wpList_nil (then_n (wp_seq (wp_region_lit ?_)))
 refine ldd hs 0 (W a) isAgg24 sizeOf24 rfl rfl rfl rfl rfl fun ac hs => ?_
 obtain ⟨r3, hr3, lr3⟩ : ∃ z0, a % Pf = z0 ∧ z0 < 2 ^ 256 := ⟨_, rfl, modP_lt _⟩
 refine stp (op_call (F := 121) hs none (v := W r3) rfl rfl rfl rfl (call121 _) (rfred_c a r3 ha hr3) rfl fun ac w hs => ?_)
 refine stp (op_call (F := 118) hs none (v := W Pf) rfl rfl rfl rfl (call118 _) rprime_c rfl fun ac w hs => ?_)
 obtain ⟨v4, hv4, lv4⟩ : ∃ z0, pinv Pf r3 = z0 ∧ z0 < 2 ^ 256 := ⟨_, rfl, modP_lt _⟩
 refine stp (op_call (F := 125) hs none (v := W v4) rfl rfl rfl rfl (call125 _) (inv_prime (hr3 ▸ Nat.mod_lt _ Pf_pos) hv4) rfl fun ac w hs => ?_)
 refine stp (stoo hs 1 ((Wl v4)) sizeOf24 rfl rfl rfl rfl rfl rfl rfl rfl rfl rfl fun w hs => ?_)
 refine wpList_nil (then_n (wp_ret ?_))
 exact bodyPost_ret (res1 rfl (rv_c hs 1 (v := W v4) rfl rfl isAgg24 sizeOf24 rfl)) hs.defers ⟨by rw [← hx, ← hv4, ← hr3, pinv_mod], (hs.bel rfl)⟩
theorem rfroot_c (a x : Nat) (q : Bool) (ha : a < 2 ^ 256) (hx : frV a = x) (hq : frB a = q) (w0 : World) : Calls prog 79 #[W a] w0 fun e w' => e = .returned (.tuple #[W x, .bool q]) ∧ Below w0.heap.size w0 w' := by
 refine enter (n := 31) (args := [W a]) func79 rfl rfl (Nat.le_of_ble_eq_true rfl) fun ac hs => ?_
 refine wp_seq (wp_region_lit ?_)
 refine stp (op_box hs none none (cs := (Wl a)) rfl rfl rfl rfl rfl rfl fun g1 ac w hs => ?_)
 refine stp (op_alloc hs none none (cs := [.int .u64 0, .int .u64 0, .int .u64 0, .int .u64 0]) rfl rfl zeroValue24 (by kernel_rfl) rfl rfl fun g2 ac w hs => ?_)
 refine asg hs rfl rfl rfl fun ac hs => ?_
 refine wpList_nil (then_n (wp_seq (wp_region_lit ?_)))
 refine stp (op_call (F := 118) hs none (v := W Pf) rfl rfl rfl rfl (call118 _) rprime_c rfl fun ac w hs => ?_)
 refine stp (op_build hs none (qs := [(0, .int .u64 1)]) (v := .agg #[.int .u64 1, .int .u64 0, .int .u64 0, .int .u64 0]) rfl rfl rfl rfl (fun _ => by kernel_rfl) rfl fun ac hs => ?_)
 obtain ⟨s3, hs3, ls3⟩ : ∃ z0, (Pf + 1) % 2 ^ 256 = z0 ∧ z0 < 2 ^ 256 := ⟨_, rfl, Nat.mod_lt _ (Nat.two_pow_pos 256)⟩
 obtain ⟨c4, hc4⟩ : ∃ z0, (Pf + 1) / 2 ^ 256 = z0 := ⟨_, rfl⟩
 refine stp (op_call (F := 59) hs none (v := .tuple #[W s3, nu64 c4]) rfl rfl rfl rfl (call59 _) (more_at Pf 1 s3 c4 Pf_lt (by decide) hs3 hc4) rfl fun ac w hs => ?_)
 refine mvv hs rfl rfl rfl fun ac hs => ?_
 refine stp (xtr hs none rfl rfl rfl rfl rfl fun ac hs => ?_)
 refine stp (xtr hs none rfl rfl rfl rfl rfl fun ac hs => ?_)
 refine stp (op_alloc hs none none (cs := [.int .u64 0, .int .u64 0, .int .u64 0, .int .u64 0]) rfl rfl zeroValue24 (by kernel_rfl) rfl rfl fun g5 ac w hs => ?_)
 refine stp (stoo hs 2 ((Wl s3)) sizeOf24 rfl rfl rfl rfl rfl rfl rfl rfl rfl rfl fun w hs => ?_)
 refine asg hs rfl rfl rfl fun ac hs => ?_
 refine wpList_nil (then_n (wp_seq ?_))
 replace hs := hs.n0 [1, 2, 3, 4] rfl rfl
 obtain ⟨sh6, hsh6, lsh6⟩ : ∃ z0, s3 / 2 ^ 2 = z0 ∧ z0 < 2 ^ 256 := ⟨_, rfl, div_lt256 ls3⟩
 obtain ⟨r7, hr7, lr7⟩ : ∃ z0, a ^ sh6 % Pf = z0 ∧ z0 < 2 ^ 256 := ⟨_, rfl, modP_lt _⟩
 refine region_inv [([], [3, 5]), ([], [2, 3, 5]), ([1], [3, 5]), ([0, 1, 2], [5]), ([], [5]), (rgn 0 5, [])] (fun L ac w => ∃ (g8 : Nat), St 31 w0 [(13, L 0, W a), (14, L 1, W s3), (15, L 2, W sh6), (16, L 3, W r7), (6, L 4, ptA g8 0), (1, true, ptA g1 0), (2, true, ptA g2 0), (3, true, .bool false), (4, true, ptA g5 0)] [(true, g1, 24, (Wl a)), (true, g2, 24, [.int .u64 0, .int .u64 0, .int .u64 0, .int .u64 0]), (true, g5, 24, (Wl s3)), (L 4, g8, 24, (cond (L 5) (Wl r7) [.int .u64 0, .int .u64 0, .int .u64 0, .int .u64 0]))] ac w) (by kernel_rfl) (by kernel_rfl) ?_ ?_ ?_
 ·exact ⟨0, hs.drew.skip.skip.skip.skip.skip.pad⟩
 ·refine ⟨?_, ?_, ?_, ?_, ?_, ?_, trivial⟩
  ·exact fun L ac w ⟨g8, hs⟩ => pln (oldd hs 0 0 (W a) isAgg24 sizeOf24 rfl rfl rfl rfl rfl fun ac hs => ⟨g8, hs⟩)
  ·exact fun L ac w ⟨g8, hs⟩ => pln (oldd hs 1 2 (W s3) isAgg24 sizeOf24 rfl rfl rfl rfl rfl fun ac hs => ⟨g8, hs⟩)
  ·exact fun L ac w ⟨g8, hs⟩ => pln (op_call (F := 120) hs (some 2) (v := W sh6) rfl rfl rfl rfl (call120 _) (rshr_c s3 2 2 sh6 ls3 (by decide) hsh6) rfl fun ac w hs => ⟨g8, hs⟩)
  ·exact fun L ac w ⟨g8, hs⟩ => pln (op_call (F := 119) hs (some 3) (v := W r7) rfl rfl rfl rfl (call119 _) (rfpow_c a sh6 r7 ha lsh6 hr7) rfl fun ac w hs => ⟨g8, hs⟩)
  ·exact fun L ac w ⟨g8, hs⟩ => pln (op_alloc hs (some 4) (some 3) (cs := [.int .u64 0, .int .u64 0, .int .u64 0, .int .u64 0]) rfl rfl zeroValue24 (by kernel_rfl) rfl rfl fun g8 ac w hs => ⟨g8, hs⟩)
  ·exact fun L ac w ⟨g8, hs⟩ => pln (stoo hs 3 ((Wl r7)) sizeOf24 rfl rfl rfl rfl rfl rfl rfl rfl rfl rfl fun w hs => ⟨g8, hs⟩)
 intro ac w ⟨g8, hs⟩
 try dsimp only [cond_true] at hs
 refine then_n (wp_seq (wp_seq ?_))
 replace hs := hs.n0 [1, 2, 3, 6] rfl rfl
 obtain ⟨r9, hr9, lr9⟩ : ∃ z0, r7 * r7 % Pf = z0 ∧ z0 < 2 ^ 256 := ⟨_, rfl, modP_lt _⟩
 obtain ⟨r10, hr10, lr10⟩ : ∃ z0, a % Pf = z0 ∧ z0 < 2 ^ 256 := ⟨_, rfl, modP_lt _⟩
 refine region_inv [([], [2, 4, 5]), ([], [2, 4, 5]), ([0, 1], [4, 5]), ([], [4, 5]), (rgn 0 4, [5]), (rgn 0 5, [])] (fun L ac w => St 31 w0 [(17, L 0, W r7), (18, L 1, W r7), (19, L 2, W r9), (20, L 3, W a), (21, L 4, W r10), (22, L 5, .bool (decide (r9 ≠ r10))), (1, true, ptA g1 0), (2, true, ptA g2 0), (3, true, .bool false), (6, true, ptA g8 0)] [(true, g1, 24, (Wl a)), (true, g2, 24, [.int .u64 0, .int .u64 0, .int .u64 0, .int .u64 0]), (true, g5, 24, (Wl s3)), (true, g8, 24, (Wl r7))] ac w) (by kernel_rfl) (by kernel_rfl) ?_ ?_ ?_
 ·exact hs.drew.skip.skip.skip.skip.skip.skip
 ·refine ⟨?_, ?_, ?_, ?_, ?_, ?_, trivial⟩
  ·exact fun L ac w hs => pln (oldd hs 0 3 (W r7) isAgg24 sizeOf24 rfl rfl rfl rfl rfl fun ac hs => hs)
  ·exact fun L ac w hs => pln (oldd hs 1 3 (W r7) isAgg24 sizeOf24 rfl rfl rfl rfl rfl fun ac hs => hs)
  ·exact fun L ac w hs => pln (op_call (F := 89) hs (some 2) (v := W r9) rfl rfl rfl rfl (call89 _) (rfmul_c r7 r7 r9 lr7 lr7 hr9) rfl fun ac w hs => hs)
  ·exact fun L ac w hs => pln (oldd hs 3 0 (W a) isAgg24 sizeOf24 rfl rfl rfl rfl rfl fun ac hs => hs)
  ·exact fun L ac w hs => pln (op_call (F := 121) hs (some 4) (v := W r10) rfl rfl rfl rfl (call121 _) (rfred_c a r10 ha hr10) rfl fun ac w hs => hs)
  ·exact fun L ac w hs => pln (op_bin hs (some 5) (v := .bool (decide (r9 ≠ r10))) rfl rfl rfl rfl (fun w => run_eqGuard_agg w .neq 24 _ _ _ _ Tryz.eqGuardType24) (neqW r9 r10 lr9 lr10 _ rfl) rfl fun ac hs => hs)
 intro ac w hs
 try dsimp only [cond_true] at hs
 refine then_n ?_
 refine wp_cond_split (hs.ev rfl) (fun hc => ?_) (fun hc => ?_)
 ·skip
  have hp11 := of_decide_eq_true hc
  refine wp_seq (wp_region_lit ?_)
  refine stp (op_build hs none (qs := []) (v := .agg #[.int .u64 0, .int .u64 0, .int .u64 0, .int .u64 0]) rfl rfl rfl rfl (fun _ => by kernel_rfl) rfl fun ac hs => ?_)
  refine stp (stoo hs 1 ([.int .u64 0, .int .u64 0, .int .u64 0, .int .u64 0]) sizeOf24 rfl rfl rfl rfl rfl rfl rfl rfl rfl rfl fun w hs => ?_)
  refine asg hs rfl rfl rfl fun ac hs => ?_
  refine wpList_nil (then_n (wp_ret (then_r ?_)))
  exact bodyPost_ret (res2 rfl (rv_c hs 1 (v := .agg #[.int .u64 0, .int .u64 0, .int .u64 0, .int .u64 0]) rfl rfl isAgg24 sizeOf24 rfl) (rv_t hs rfl)) hs.defers ⟨by rw [← hx, ← hq, (frV_no (frt_of hr7 (hsh6.symm.trans (hs3 ▸ by decide))) hr9 hr10 hp11).1, (frV_no (frt_of hr7 (hsh6.symm.trans (hs3 ▸ by decide))) hr9 hr10 hp11).2]; first | done | rfl, (hs.bel rfl)⟩
 ·skip
  have hp12 := of_decide_eq_false hc
  refine wp_skip (then_n (wp_seq (wp_seq (wp_region_lit ?_))))
  refine stp (op_idxA hs none (j := 0) rfl rfl rfl rfl underlying24 sizeOf22 (by decide) (off := 0) rfl rfl fun ac hs => ?_)
  have l13 := limN_lt r7 0
  refine ldd hs 3 (.int .u64 (lim r7 0)) isAgg22 sizeOf22 rfl rfl rfl rfl rfl fun ac hs => ?_
  refine bnn hs (nu64 ((limN r7 0) % 2)) rfl rfl rfl rfl (bin_remN (y := 2) rfl (by decide)) fun ac hs => ?_
  refine bnn hs (.bool (decide ((limN r7 0) % 2 = 1))) rfl rfl rfl rfl (bin_eqlN (y := 1)) fun ac hs => ?_
  refine wpList_nil (then_n ?_)
  refine wp_cond_split (hs.ev rfl) (fun hc => ?_) (fun hc => ?_)
  ·skip
   have hp14 := of_decide_eq_true hc
   refine wp_region_lit ?_
   refine ldd hs 3 (W r7) isAgg24 sizeOf24 rfl rfl rfl rfl rfl fun ac hs => ?_
   obtain ⟨r15, hr15, lr15⟩ : ∃ z0, fsub 0 r7 = z0 ∧ z0 < 2 ^ 256 := ⟨_, rfl, fsub_lt _ _⟩
   refine stp (op_call (F := 90) hs none (v := W r15) rfl rfl rfl rfl (call90 _) (rfneg_c r7 r15 lr7 hr15) rfl fun ac w hs => ?_)
   refine stp (stoo hs 3 ((Wl r15)) sizeOf24 rfl rfl rfl rfl rfl rfl rfl rfl rfl rfl fun w hs => ?_)
   refine wpList_nil (then_n (wp_seq ?_))
   replace hs := hs.n0 [2, 3, 6] rfl rfl
   refine wp_region_lit ?_
   refine ldd hs 3 (W r15) isAgg24 sizeOf24 rfl rfl rfl rfl rfl fun ac hs => ?_
   refine stp (stoo hs 1 ((Wl r15)) sizeOf24 rfl rfl rfl rfl rfl rfl rfl rfl rfl rfl fun w hs => ?_)
   refine asg hs rfl rfl rfl fun ac hs => ?_
   refine wpList_nil (then_n (wp_ret ?_))
   exact bodyPost_ret (res2 rfl (rv_c hs 1 (v := W r15) rfl rfl isAgg24 sizeOf24 rfl) (rv_t hs rfl)) hs.defers ⟨by rw [← hx, ← hq, (frV_odd (frt_of hr7 (hsh6.symm.trans (hs3 ▸ by decide))) hr9 hr10 hp12 (by rw [← lim_odd]; exact hp14) hr15).1, (frV_odd (frt_of hr7 (hsh6.symm.trans (hs3 ▸ by decide))) hr9 hr10 hp12 (by rw [← lim_odd]; exact hp14) hr15).2]; first | done | rfl, (hs.bel rfl)⟩
  ·skip
   have hp16 := of_decide_eq_false hc
   refine wp_skip (then_n (wp_seq (wp_region_lit ?_)))
   refine ldd hs 3 (W r7) isAgg24 sizeOf24 rfl rfl rfl rfl rfl fun ac hs => ?_
   refine stp (stoo hs 1 ((Wl r7)) sizeOf24 rfl rfl rfl rfl rfl rfl rfl rfl rfl rfl fun w hs => ?_)
   refine asg hs rfl rfl rfl fun ac hs => ?_
   refine wpList_nil (then_n (wp_ret ?_))
   exact bodyPost_ret (res2 rfl (rv_c hs 1 (v := W r7) rfl rfl isAgg24 sizeOf24 rfl) (rv_t hs rfl)) hs.defers ⟨by rw [← hx, ← hq, (frV_even (frt_of hr7 (hsh6.symm.trans (hs3 ▸ by decide))) hr9 hr10 hp12 (by rw [← lim_odd]; exact hp16)).1, (frV_even (frt_of hr7 (hsh6.symm.trans (hs3 ▸ by decide))) hr9 hr10 hp12 (by rw [← lim_odd]; exact hp16)).2]; first | done | rfl, (hs.bel rfl)⟩
end Go.Proofs.YtejbajgpiecjcaaGreat

/- The contract of the reference's Len. -/
namespace Go.Proofs.YtejbajgpiecjcaaGreat
open Go.RowKit
theorem bitR_at (w : World) (a i b : Nat) (hi : i < 256) (hb : bitN a i = b) :
    Calls Tryz.prog 86 #[W a, .int .i64 (i : Int)] w fun e w' => e = .returned (.int .u64 (b : Int)) ∧ Below w.heap.size w w' :=
  (bitR_any w a i hi).mono fun e w' ⟨h1, h2⟩ => ⟨by rw [h1, hb], h2⟩
def LenRInv (N : Nat) (w : World) (a : Nat) (i : Value) (wr : World) : Prop :=
  ∃ k : Nat, k ≤ 256 ∧ i = .int .i64 (k : Int) ∧ Blk wr N 24 (Wc a) ∧ Below N w wr ∧ a < 2 ^ k
set_option maxHeartbeats 1000000 in
theorem lenR_any (w : World) (a : Nat) (ha : a < 2 ^ 256) :
    Calls Tryz.prog 84 #[W a] w fun e w' => e = .returned (.int .i64 (ln a : Int)) ∧ Below w.heap.size w w' := by
  have H0 : Hid (a < 2 ^ 256) := ha
  clear ha
  go_enter Tryz.func84, Tryz.ntmps84
  go_wp2
  go_loopw [3] (fun i wr => LenRInv w.heap.size w a i wr) (fun i _ => (intOf i).toNat)
  case atStart => exact ⟨256, by omega, rfl, Blk.new w _ _ _ rfl, bl_al (Below.refl _ _) _, H0.out⟩
  case round =>
    obtain ⟨k, hk, rfl, b0, hbl, hq⟩ := hrel
    have HQ := Lib.hid hq
    clear hq
    rcases k with _ | k
    · go_wp2
      go_ret
      have : a = 0 := by have := HQ.out; simpa using this
      exact ⟨ret_int (by rw [this]; rfl), hbl⟩
    · obtain ⟨⟨c0, c1, c2, c3⟩, _⟩ := b0.facts
      have hdiv : a / 2 ^ k < 2 := by
        rw [Nat.div_lt_iff_lt_mul (Nat.two_pow_pos k)]
        have := HQ.out
        rw [Nat.pow_succ] at this
        omega
      rcases Nat.eq_zero_or_pos (a / 2 ^ k) with h0 | h0
      · have HB : Hid (bitN a k = 0) := by unfold bitN; rw [h0]; exact rfl
        have HL : Hid (a < 2 ^ k) := by
          have := (Nat.div_eq_zero_iff_lt (Nat.two_pow_pos k)).1 h0
          exact this
        clear h0 hdiv
        go_wp2_with (go_at_call 86; refine (bitR_at _ a k 0 (by omega) HB.out).mono ?_; rintro e w2 ⟨rfl, hb2⟩; have B2 := Lib.hid (b0.keep hb2); have HB2 := Lib.hid (bl_tr hbl hb2); clear hb2)
        go_roundw
        case rel => exact ⟨k, by omega, by go_num, B2.out, HB2.out, HL.out⟩
        case measure => simp [intOf] <;> omega
      · have h1 : a / 2 ^ k = 1 := by omega
        have HB : Hid (bitN a k = 1) := by unfold bitN; rw [h1]; exact rfl
        have HL : Hid (ln a = k + 1) := ln_unique HQ.out fun _ => by
          have := (Nat.le_div_iff_mul_le (Nat.two_pow_pos k)).1 (Nat.le_of_eq h1.symm)
          simpa using this
        clear h0 hdiv h1
        go_wp2_with (go_at_call 86; refine (bitR_at _ a k 1 (by omega) HB.out).mono ?_; rintro e w2 ⟨rfl, hb2⟩; have HB2 := Lib.hid (bl_tr hbl hb2); clear hb2)
        go_ret
        exact ⟨ret_int (by rw [HL.out]; simp), HB2.out⟩
end Go.Proofs.YtejbajgpiecjcaaGreat

/- The contracts of the reference's points. -/
namespace Go.Proofs.YtejbajgpiecjcaaGreat
open Go.RowKit _root_.Go.Proofs.Tryz
set_option maxRecDepth 10000
set_option maxHeartbeats 1000000
theorem rbytes_c (a : Nat) (ha : a < 2 ^ 256) (w0 : World) : Calls prog 27 #[W a] w0 fun e w' => e = .returned (At .u8 32 (by8 a)) ∧ Below w0.heap.size w0 w' := by
 refine enter (n := 25) (args := [W a]) func27 rfl rfl (Nat.le_of_ble_eq_true rfl) fun ac hs => ?_
 refine wp_seq (wp_region_lit ?_)
 refine stp (op_box hs none none (cs := (Wl a)) rfl rfl rfl rfl rfl rfl fun g1 ac w hs => ?_)
 refine stp (op_alloc hs none none (cs := (tab .u8 32 (fun _ => 0))) rfl rfl zeroValue30 (by kernel_rfl) rfl rfl fun g2 ac w hs => ?_)
 refine wpList_nil (then_n (wp_seq (wp_region_lit ?_)))
 refine stp (op_build hs none (qs := []) (v := At .u8 32 (fun _ => 0)) rfl rfl rfl rfl (fun _ => by kernel_rfl) rfl fun ac hs => ?_)
 refine stp (op_alloc hs none none (cs := (tab .u8 32 (fun _ => 0))) rfl rfl zeroValue30 (by kernel_rfl) rfl rfl fun g3 ac w hs => ?_)
 refine stp (stoo hs 2 ((tab .u8 32 (fun _ => 0))) sizeOf30 rfl rfl rfl rfl rfl (by kernel_rfl) tab_length' (tab_one _ _ _) tab_leA wr_tab fun w hs => ?_)
 refine wpList_nil (then_n (wp_seq (wp_seq (wp_region_lit ?_))))
 refine asg hs rfl rfl rfl fun ac hs => ?_
 refine wpList_nil (then_n (wp_block ?_))
 refine wp_loop_m (fun μ ac w => ∃ (i : Nat) (f : Nat → Nat), (32 - i) = μ ∧ (i ≤ 32) ∧ (∀ j, j < 32 → f j = byf a i j) ∧ St 25 w0 [(1, true, ptA g1 0), (2, true, ptA g2 0), (3, true, ptA g3 0), (4, true, ni64 i)] [(true, g1, 24, (Wl a)), (true, g2, 30, (tab .u8 32 (fun _ => 0))), (true, g3, 30, (tab .u8 32 f))] ac w) ?_ ?_
 ·exact ⟨_, 0, (fun _ => 0), rfl, (by omega), byte_start, (hs.re ⟨rfl, rfl, rfl, rfl, trivial⟩)⟩
 intro μ ac w ⟨i, f, hμ, hi, hf, hs⟩
 refine wp_seq (wp_seq (wp_region_lit ?_))
 refine mvv hs rfl rfl rfl fun ac hs => ?_
 refine bnn hs (.bool (decide (i < 32))) rfl rfl rfl rfl (bin_lssN (y := 32)) fun ac hs => ?_
 refine wpList_nil (then_n ?_)
 refine wp_cond_split (hs.ev rfl) (fun hc => ?_) (fun hc => ?_)
 ·skip
  have hp4 := of_decide_eq_true hc
  have hlt : i < 32 := of_decide_eq_true hc
  refine wp_skip (then_n (wp_seq (wp_block (wp_region_lit ?_))))
  refine mvv hs rfl rfl rfl fun ac hs => ?_
  refine bnn hs (ni64 (31 - i)) rfl rfl rfl rfl (bin_subN (x := 31) (by omega) (show 31 - i < 9223372036854775808 by omega)) fun ac hs => ?_
  refine mvv hs rfl rfl rfl fun ac hs => ?_
  refine bnn hs (ni64 (i / 8)) rfl rfl rfl rfl (bin_quoN (y := 8) rfl (by decide) (show i < 9223372036854775808 by omega)) fun ac hs => ?_
  refine stp (op_idxA hs none (j := i / 8) rfl rfl rfl rfl underlying24 sizeOf22 (show i / 8 < 4 by omega) (off := i / 8) (by omega) rfl fun ac hs => ?_)
  have l5 := limN_lt a (i / 8)
  refine ldd hs 0 (nu64 (limN a (i / 8))) isAgg22 sizeOf22 rfl rfl rfl rfl (Wl_get (j := i / 8) (show i / 8 < 4 by omega)) fun ac hs => ?_
  refine mvv hs rfl rfl rfl fun ac hs => ?_
  refine bnn hs (ni64 (i % 8)) rfl rfl rfl rfl (bin_remN (y := 8) rfl (by decide)) fun ac hs => ?_
  refine bnn hs (ni64 (8 * (i % 8))) rfl rfl rfl rfl (bin_mulN (x := 8) rfl (show 8 * (i % 8) < 9223372036854775808 by omega)) fun ac hs => ?_
  refine stp (op_convert hs none (v := nu64 (8 * (i % 8))) rfl rfl rfl (conv_N underlying3 underlying73 (show 8 * (i % 8) < 18446744073709551616 by omega)) rfl fun ac hs => ?_)
  refine bnn hs (nu64 (2 ^ (8 * (i % 8)))) rfl rfl rfl rfl (bin_shlM (x := 1) rfl (pow_mod64 (show 8 * (i % 8) < 64 by omega))) fun ac hs => ?_
  refine bnn hs (.int .u64 (((limN a (i / 8)) / (2 ^ (8 * (i % 8))) : Nat) : Int)) rfl rfl rfl rfl (bin_quoN (z := (limN a (i / 8)) / (2 ^ (8 * (i % 8)))) rfl (Nat.ne_of_gt (Nat.two_pow_pos _)) (limN_lt _ _)) fun ac hs => ?_
  refine stp (op_convert hs none (v := .int .u8 ((((limN a (i / 8)) / (2 ^ (8 * (i % 8)))) % 256 : Nat) : Int)) rfl rfl rfl (conv_M (z := ((limN a (i / 8)) / (2 ^ (8 * (i % 8)))) % 256) rfl underlying22 underlying5 rfl) rfl fun ac hs => ?_)
  refine stp (op_idxA hs none (j := 31 - i) rfl rfl rfl rfl underlying30 sizeOf5 (show 31 - i < 32 by omega) (off := 31 - i) (by omega) rfl fun ac hs => ?_)
  refine stp (stoo hs 2 ([.int .u8 ((((limN a (i / 8)) / (2 ^ (8 * (i % 8)))) % 256 : Nat) : Int)]) sizeOf5 rfl rfl rfl rfl rfl rfl rfl rfl (tab_le (j := 31 - i) (show 31 - i < 32 by omega)) (tab_set) fun w hs => ?_)
  refine wpList_nil (blk_n (then_n ?_))
  replace hs := hs.n0 [1, 2, 3, 4] rfl rfl
  refine wp_region_lit ?_
  refine mvv hs rfl rfl rfl fun ac hs => ?_
  refine bnn hs (ni64 (i + 1)) rfl rfl rfl rfl (bin_addN (y := 1) rfl (show i + 1 < 9223372036854775808 by omega)) fun ac hs => ?_
  refine asg hs rfl rfl rfl fun ac hs => ?_
  refine wpList_nil (then_n ?_)
  exact ⟨_, ⟨(i + 1), (upn f (31 - i) (((limN a (i / 8)) / (2 ^ (8 * (i % 8)))) % 256)), rfl, hlt, (byte_step hlt hf), (hs.re ⟨rfl, rfl, rfl, rfl, trivial⟩)⟩, (by omega)⟩
 ·skip
  have hp6 := of_decide_eq_false hc
  obtain rfl : i = 32 := by omega
  replace hs := hs.setb 2 (cs' := tab .u8 32 (by8 a)) rfl (tab_congr (byte_fin hf))
  refine wp_exit (then_e (then_e (blk_e (then_n (wp_seq (wp_region_lit ?_))))))
  refine ldd hs 2 (At .u8 32 (by8 a)) isAgg30 sizeOf30 rfl rfl rfl rfl ldv_tab fun ac hs => ?_
  refine stp (stoo hs 1 ((tab .u8 32 (by8 a))) sizeOf30 rfl rfl rfl rfl rfl (by kernel_rfl) tab_length' (tab_one _ _ _) tab_leA wr_tab fun w hs => ?_)
  refine wpList_nil (then_n (wp_ret ?_))
  exact bodyPost_ret (res1 rfl (rv_c hs 1 (v := At .u8 32 (by8 a)) rfl rfl isAgg30 sizeOf30 ldv_tab)) hs.defers ⟨rfl, (hs.bel rfl)⟩
theorem rright_c (a x : Nat) (ha : a < 2 ^ 256) (hx : rgt a = x) (w0 : World) : Calls prog 80 #[W a] w0 fun e w' => e = .returned (W x) ∧ Below w0.heap.size w0 w' := by
 refine enter (n := 10) (args := [W a]) func80 rfl rfl (Nat.le_of_ble_eq_true rfl) fun ac hs => ?_
 refine wp_seq (wp_region_lit ?_)
 refine stp (op_box hs none none (cs := (Wl a)) rfl rfl rfl rfl rfl rfl fun g1 ac w hs => ?_)
 refine stp (op_alloc hs none none (cs := [.int .u64 0, .int .u64 0, .int .u64 0, .int .u64 0]) rfl rfl zeroValue24 (by kernel_rfl) rfl rfl fun g2 ac w hs => ?_)
 refine wpList_nil (then_n (wp_seq ?_))
 replace hs := hs.n0 [1, 2] rfl rfl
 obtain ⟨r3, hr3, lr3⟩ : ∃ z0, a * a % Pf = z0 ∧ z0 < 2 ^ 256 := ⟨_, rfl, modP_lt _⟩
 obtain ⟨r4, hr4, lr4⟩ : ∃ z0, a * r3 % Pf = z0 ∧ z0 < 2 ^ 256 := ⟨_, rfl, modP_lt _⟩
 obtain ⟨r5, hr5, lr5⟩ : ∃ z0, (r4 + 7) % Pf = z0 ∧ z0 < 2 ^ 256 := ⟨_, rfl, modP_lt _⟩
 refine region_inv [([], [4, 6, 7]), ([], [3, 4, 6, 7]), ([], [3, 4, 6, 7]), ([1, 2], [4, 6, 7]), (rgn 0 4, [6, 7]), ([], [6, 7]), (rgn 0 6, [7]), (rgn 0 7, [])] (fun L ac w => St 10 w0 [(3, L 0, W a), (4, L 1, W a), (5, L 2, W a), (6, L 3, W r3), (7, L 4, W r4), (8, L 5, .agg #[.int .u64 7, .int .u64 0, .int .u64 0, .int .u64 0]), (9, L 6, W r5), (1, true, ptA g1 0), (2, true, ptA g2 0)] [(true, g1, 24, (Wl a)), (true, g2, 24, (cond (L 7) (Wl r5) [.int .u64 0, .int .u64 0, .int .u64 0, .int .u64 0]))] ac w) (by kernel_rfl) (by kernel_rfl) ?_ ?_ ?_
 ·exact hs.drew.skip.skip.skip.skip.skip.skip.skip
 ·refine ⟨?_, ?_, ?_, ?_, ?_, ?_, ?_, ?_, trivial⟩
  ·exact fun L ac w hs => pln (oldd hs 0 0 (W a) isAgg24 sizeOf24 rfl rfl rfl rfl rfl fun ac hs => hs)
  ·exact fun L ac w hs => pln (oldd hs 1 0 (W a) isAgg24 sizeOf24 rfl rfl rfl rfl rfl fun ac hs => hs)
  ·exact fun L ac w hs => pln (oldd hs 2 0 (W a) isAgg24 sizeOf24 rfl rfl rfl rfl rfl fun ac hs => hs)
  ·exact fun L ac w hs => pln (op_call (F := 89) hs (some 3) (v := W r3) rfl rfl rfl rfl (call89 _) (rfmul_c a a r3 ha ha hr3) rfl fun ac w hs => hs)
  ·exact fun L ac w hs => pln (op_call (F := 89) hs (some 4) (v := W r4) rfl rfl rfl rfl (call89 _) (rfmul_c a r3 r4 ha lr3 hr4) rfl fun ac w hs => hs)
  ·exact fun L ac w hs => pln (op_build hs (some 5) (qs := [(0, .int .u64 7)]) (v := .agg #[.int .u64 7, .int .u64 0, .int .u64 0, .int .u64 0]) rfl rfl rfl rfl (fun _ => by kernel_rfl) rfl fun ac hs => hs)
  ·exact fun L ac w hs => pln (op_call (F := 122) hs (some 6) (v := W r5) rfl rfl rfl rfl (call122 _) (rfadd_c r4 7 r5 lr4 (by decide) hr5) rfl fun ac w hs => hs)
  ·exact fun L ac w hs => pln (stoo hs 1 ((Wl r5)) sizeOf24 rfl rfl rfl rfl rfl rfl rfl rfl rfl rfl fun w hs => hs)
 intro ac w hs
 try dsimp only [cond_true] at hs
 refine then_n (wp_ret ?_)
 exact bodyPost_ret (res1 rfl (rv_c hs 1 (v := W r5) rfl rfl isAgg24 sizeOf24 rfl)) hs.defers ⟨by rw [← hx, rgt_of2 hr3 hr4 hr5], (hs.bel rfl)⟩
theorem rbelow_c (a : Nat) (q : Bool) (ha : a < 2 ^ 256) (hq : decide (a < Pf) = q) (w0 : World) : Calls prog 81 #[W a] w0 fun e w' => e = .returned (.bool q) ∧ Below w0.heap.size w0 w' := by
 refine enter (n := 7) (args := [W a]) func81 rfl rfl (Nat.le_of_ble_eq_true rfl) fun ac hs => ?_
 refine wp_seq (wp_region_lit ?_)
 refine stp (op_box hs none none (cs := (Wl a)) rfl rfl rfl rfl rfl rfl fun g1 ac w hs => ?_)
 refine asg hs rfl rfl rfl fun ac hs => ?_
 refine wpList_nil (then_n (wp_seq ?_))
 replace hs := hs.n0 [1, 2] rfl rfl
 refine region_inv [([], [2, 3, 4]), ([], [2, 3, 4]), ([0, 1], [3, 4]), ([0, 1, 2], [4]), (rgn 0 4, [])] (fun L ac w => St 7 w0 [(3, L 0, W a), (4, L 1, W Pf), (5, L 2, .int .i64 (cmpZ a Pf)), (6, L 3, .bool (decide (a < Pf))), (2, L 4, .bool (decide (a < Pf))), (1, true, ptA g1 0), (2, true, .bool false)] [(true, g1, 24, (Wl a))] ac w) (by kernel_rfl) (by kernel_rfl) ?_ ?_ ?_
 ·exact hs.drew.skip.skip.skip.skip.skip
 ·refine ⟨?_, ?_, ?_, ?_, ?_, trivial⟩
  ·exact fun L ac w hs => pln (oldd hs 0 0 (W a) isAgg24 sizeOf24 rfl rfl rfl rfl rfl fun ac hs => hs)
  ·exact fun L ac w hs => pln (op_call (F := 118) hs (some 1) (v := W Pf) rfl rfl rfl rfl (call118 _) rprime_c rfl fun ac w hs => hs)
  ·exact fun L ac w hs => pln (op_call (F := 82) hs (some 2) (v := .int .i64 (cmpZ a Pf)) rfl rfl rfl rfl (call82 _) (rcmp_c a Pf ha Pf_lt) rfl fun ac w hs => hs)
  ·exact fun L ac w hs => pln (obn hs 3 (.bool (decide (a < Pf))) rfl rfl rfl rfl (bin_cmp_lss a Pf) fun ac hs => hs)
  ·exact fun L ac w hs => pln (oas hs 4 rfl rfl rfl fun ac hs => hs)
 intro ac w hs
 try dsimp only [cond_true] at hs
 refine then_n (wp_ret ?_)
 exact bodyPost_ret (res1 rfl (rv_t hs rfl)) hs.defers ⟨by rw [← hq], (hs.bel rfl)⟩
theorem ron_c_t (x y : Nat) (hx : x < 2 ^ 256) (hy : y < 2 ^ 256) (w0 : World) : Calls prog 123 #[PV x y true] w0 fun e w' => e = .returned (.bool (onB x y true)) ∧ Below w0.heap.size w0 w' := by
 refine enter (n := 27) (args := [PV x y true]) func123 rfl rfl (Nat.le_of_ble_eq_true rfl) fun ac hs => ?_
 refine wp_seq (wp_region_lit ?_)
 refine stp (op_box hs none none (cs := (PVl x y true)) rfl rfl rfl rfl rfl rfl fun g1 ac w hs => ?_)
 refine asg hs rfl rfl rfl fun ac hs => ?_
 refine wpList_nil (then_n (wp_seq (wp_seq (wp_region_lit ?_))))
 refine stp (op_fieldA hs none rfl rfl rfl underlying42 rfl sizeOf4 (by decide) rfl fun ac hs => ?_)
 refine ldd hs 0 (.bool true) isAgg4 sizeOf4 rfl rfl rfl rfl rfl fun ac hs => ?_
 refine wpList_nil (then_n ?_)
 refine wp_cond_true (hs.ev rfl) ?_
 refine wp_seq (wp_region_lit ?_)
 refine ldd hs 0 (PV x y true) isAgg42 sizeOf42 rfl rfl rfl rfl rfl fun ac hs => ?_
 refine stp (op_build hs none (qs := [(2, .bool true)]) (v := PV 0 0 true) rfl rfl rfl rfl (fun _ => by kernel_rfl) rfl fun ac hs => ?_)
 refine stp (op_bin hs none (v := .bool (decide (x = 0 ∧ y = 0 ∧ true = true))) rfl rfl rfl rfl (fun w => run_eqGuard_agg w .eql 42 _ _ _ _ Tryz.eqGuardType42) (eqlP x y 0 0 true true hx hy (by decide) (by decide) _ rfl) rfl fun ac hs => ?_)
 refine asg hs rfl rfl rfl fun ac hs => ?_
 refine wpList_nil (then_n (wp_ret (then_r ?_)))
 exact bodyPost_ret (res1 rfl (rv_t hs rfl)) hs.defers ⟨congrArg (fun b => Ending.returned (.bool b)) ont, (hs.bel rfl)⟩
theorem ron_c_f (x y : Nat) (hx : x < 2 ^ 256) (hy : y < 2 ^ 256) (w0 : World) : Calls prog 123 #[PV x y false] w0 fun e w' => e = .returned (.bool (onB x y false)) ∧ Below w0.heap.size w0 w' := by
 refine enter (n := 27) (args := [PV x y false]) func123 rfl rfl (Nat.le_of_ble_eq_true rfl) fun ac hs => ?_
 refine wp_seq (wp_region_lit ?_)
 refine stp (op_box hs none none (cs := (PVl x y false)) rfl rfl rfl rfl rfl rfl fun g1 ac w hs => ?_)
 refine asg hs rfl rfl rfl fun ac hs => ?_
 refine wpList_nil (then_n (wp_seq (wp_seq (wp_region_lit ?_))))
 refine stp (op_fieldA hs none rfl rfl rfl underlying42 rfl sizeOf4 (by decide) rfl fun ac hs => ?_)
 refine ldd hs 0 (.bool false) isAgg4 sizeOf4 rfl rfl rfl rfl rfl fun ac hs => ?_
 refine wpList_nil (then_n ?_)
 refine wp_cond_false (hs.ev rfl) ?_
 refine wp_skip (then_n (wp_seq ?_))
 by_cases hq2 : x < Pf
 ·skip
  by_cases hq3 : y < Pf
  ·skip
   replace hs := hs.n0 [1, 2] rfl rfl
   obtain ⟨r4, hr4, lr4⟩ : ∃ z0, y * y % Pf = z0 ∧ z0 < 2 ^ 256 := ⟨_, rfl, modP_lt _⟩
   obtain ⟨r5, hr5, lr5⟩ : ∃ z0, rgt x = z0 ∧ z0 < 2 ^ 256 := ⟨_, rfl, modP_lt _⟩
   refine region_inv [([], rgn 1 19), ([0], rgn 2 18), ([0, 1], rgn 3 17), ([0, 1, 2], rgn 4 16), (rgn 0 4, rgn 5 15), (rgn 0 5, rgn 6 14), (rgn 0 6, rgn 7 13), (rgn 0 7, rgn 8 12), (rgn 0 8, rgn 9 11), (rgn 0 9, [10, 13, 16, 17, 18, 19]), (rgn 0 10, [13, 16, 17, 18, 19]), (rgn 0 9, [12, 13, 16, 17, 18, 19]), ([0, 1, 2, 3, 4, 5, 6, 7, 8, 11], [13, 16, 17, 18, 19]), (rgn 0 13, rgn 16 4), (rgn 0 9, rgn 15 5), ([0, 1, 2, 3, 4, 5, 6, 7, 8, 14], rgn 16 4), (rgn 0 16, [17, 18, 19]), (rgn 0 17, [18, 19]), (rgn 0 18, [19]), (rgn 0 19, [])] (fun L ac w => St 27 w0 [(8, L 0, ptA g1 0), (9, L 1, W x), (10, L 2, .bool true), (11, L 3, .bool true), (12, L 4, ptA g1 4), (13, L 5, W y), (14, L 6, .bool true), (15, L 7, .bool true), (16, L 8, .bool true), (17, L 9, ptA g1 4), (18, L 10, W y), (19, L 11, ptA g1 4), (20, L 12, W y), (21, L 13, W r4), (22, L 14, ptA g1 0), (23, L 15, W x), (24, L 16, W r5), (25, L 17, .bool (decide (r4 = r5))), (26, L 18, .bool (decide (r4 = r5))), (2, L 19, .bool (decide (r4 = r5))), (1, true, ptA g1 0), (2, true, .bool false)] [(true, g1, 42, (PVl x y false))] ac w) (by kernel_rfl) (by kernel_rfl) ?_ ?_ ?_
   ·exact hs.drew.skip.skip.skip.skip.skip.skip.skip.skip.skip.skip.skip.skip.skip.skip.skip.skip.skip.skip.skip.skip
   ·refine ⟨?_, ?_, ?_, ?_, ?_, ?_, ?_, ?_, ?_, ?_, ?_, ?_, ?_, ?_, ?_, ?_, ?_, ?_, ?_, ?_, trivial⟩
    ·exact fun L ac w hs => pln (op_fieldA hs (some 0) rfl rfl rfl underlying42 rfl sizeOf24 (by decide) rfl fun ac hs => hs)
    ·exact fun L ac w hs => pln (oldd hs 1 0 (W x) isAgg24 sizeOf24 rfl rfl rfl rfl rfl fun ac hs => hs)
    ·exact fun L ac w hs => pln (op_call (F := 81) hs (some 2) (v := .bool true) rfl rfl rfl rfl (call81 _) (rbelow_c x true hx (decide_eq_true hq2)) rfl fun ac w hs => hs)
    ·exact fun L ac w hs => pln (omv hs 3 rfl rfl rfl fun ac hs => hs)
    ·exact fun L ac w hs => wpO_in hs rfl rfl rfl (op_fieldA hs (some 4) rfl rfl rfl underlying42 rfl sizeOf24 (by decide) rfl fun ac hs => hs)
    ·exact fun L ac w hs => wpO_in hs rfl rfl rfl (oldd hs 5 0 (W y) isAgg24 sizeOf24 rfl rfl rfl rfl rfl fun ac hs => hs)
    ·exact fun L ac w hs => wpO_in hs rfl rfl rfl (op_call (F := 81) hs (some 6) (v := .bool true) rfl rfl rfl rfl (call81 _) (rbelow_c y true hy (decide_eq_true hq3)) rfl fun ac w hs => hs)
    ·exact fun L ac w hs => pln (op_pickT hs (some 7) rfl rfl rfl rfl rfl fun ac hs => hs)
    ·exact fun L ac w hs => pln (omv hs 8 rfl rfl rfl fun ac hs => hs)
    ·exact fun L ac w hs => wpO_in hs rfl rfl rfl (op_fieldA hs (some 9) rfl rfl rfl underlying42 rfl sizeOf24 (by decide) rfl fun ac hs => hs)
    ·exact fun L ac w hs => wpO_in hs rfl rfl rfl (oldd hs 10 0 (W y) isAgg24 sizeOf24 rfl rfl rfl rfl rfl fun ac hs => hs)
    ·exact fun L ac w hs => wpO_in hs rfl rfl rfl (op_fieldA hs (some 11) rfl rfl rfl underlying42 rfl sizeOf24 (by decide) rfl fun ac hs => hs)
    ·exact fun L ac w hs => wpO_in hs rfl rfl rfl (oldd hs 12 0 (W y) isAgg24 sizeOf24 rfl rfl rfl rfl rfl fun ac hs => hs)
    ·exact fun L ac w hs => wpO_in hs rfl rfl rfl (op_call (F := 89) hs (some 13) (v := W r4) rfl rfl rfl rfl (call89 _) (rfmul_c y y r4 hy hy hr4) rfl fun ac w hs => hs)
    ·exact fun L ac w hs => wpO_in hs rfl rfl rfl (op_fieldA hs (some 14) rfl rfl rfl underlying42 rfl sizeOf24 (by decide) rfl fun ac hs => hs)
    ·exact fun L ac w hs => wpO_in hs rfl rfl rfl (oldd hs 15 0 (W x) isAgg24 sizeOf24 rfl rfl rfl rfl rfl fun ac hs => hs)
    ·exact fun L ac w hs => wpO_in hs rfl rfl rfl (op_call (F := 80) hs (some 16) (v := W r5) rfl rfl rfl rfl (call80 _) (rright_c x r5 hx hr5) rfl fun ac w hs => hs)
    ·exact fun L ac w hs => wpO_in hs rfl rfl rfl (op_bin hs (some 17) (v := .bool (decide (r4 = r5))) rfl rfl rfl rfl (fun w => run_eqGuard_agg w .eql 24 _ _ _ _ Tryz.eqGuardType24) (eqlW r4 r5 lr4 lr5 _ rfl) rfl fun ac hs => hs)
    ·exact fun L ac w hs => pln (op_pickT hs (some 18) rfl rfl rfl rfl rfl fun ac hs => hs)
    ·exact fun L ac w hs => pln (oas hs 19 rfl rfl rfl fun ac hs => hs)
   intro ac w hs
   try dsimp only [cond_true] at hs
   refine then_n (wp_ret ?_)
   exact bodyPost_ret (res1 rfl (rv_t hs rfl)) hs.defers ⟨congrArg (fun b => Ending.returned (.bool b)) (onf3 hq2 hq3 hr4 hr5), (hs.bel rfl)⟩
  ·skip
   replace hs := hs.n0 [1, 2] rfl rfl
   refine region_inv [([], rgn 1 19), ([0], rgn 2 18), ([0, 1], rgn 3 17), ([0, 1, 2], rgn 4 16), (rgn 0 4, rgn 5 15), (rgn 0 5, rgn 6 14), (rgn 0 6, rgn 7 13), (rgn 0 7, rgn 8 12), (rgn 0 8, rgn 9 11), (rgn 0 9, [10, 13, 16, 17, 18, 19]), (rgn 0 10, [13, 16, 17, 18, 19]), (rgn 0 9, [12, 13, 16, 17, 18, 19]), ([0, 1, 2, 3, 4, 5, 6, 7, 8, 11], [13, 16, 17, 18, 19]), (rgn 0 13, rgn 16 4), (rgn 0 9, rgn 15 5), ([0, 1, 2, 3, 4, 5, 6, 7, 8, 14], rgn 16 4), (rgn 0 16, [17, 18, 19]), (rgn 0 17, [18, 19]), (rgn 0 18, [19]), (rgn 0 19, [])] (fun L ac w => St 27 w0 [(8, L 0, ptA g1 0), (9, L 1, W x), (10, L 2, .bool true), (11, L 3, .bool true), (12, L 4, ptA g1 4), (13, L 5, W y), (14, L 6, .bool false), (15, L 7, .bool false), (16, L 8, .bool false), (17, L 9, undef), (18, L 10, undef), (19, L 11, undef), (20, L 12, undef), (21, L 13, undef), (22, L 14, undef), (23, L 15, undef), (24, L 16, undef), (25, L 17, undef), (26, L 18, .bool false), (2, L 19, .bool false), (1, true, ptA g1 0), (2, true, .bool false)] [(true, g1, 42, (PVl x y false))] ac w) (by kernel_rfl) (by kernel_rfl) ?_ ?_ ?_
   ·exact hs.drew.skip.skip.skip.skip.skip.skip.skip.skip.skip.skip.skip.skip.skip.skip.skip.skip.skip.skip.skip.skip
   ·refine ⟨?_, ?_, ?_, ?_, ?_, ?_, ?_, ?_, ?_, ?_, ?_, ?_, ?_, ?_, ?_, ?_, ?_, ?_, ?_, ?_, trivial⟩
    ·exact fun L ac w hs => pln (op_fieldA hs (some 0) rfl rfl rfl underlying42 rfl sizeOf24 (by decide) rfl fun ac hs => hs)
    ·exact fun L ac w hs => pln (oldd hs 1 0 (W x) isAgg24 sizeOf24 rfl rfl rfl rfl rfl fun ac hs => hs)
    ·exact fun L ac w hs => pln (op_call (F := 81) hs (some 2) (v := .bool true) rfl rfl rfl rfl (call81 _) (rbelow_c x true hx (decide_eq_true hq2)) rfl fun ac w hs => hs)
    ·exact fun L ac w hs => pln (omv hs 3 rfl rfl rfl fun ac hs => hs)
    ·exact fun L ac w hs => wpO_in hs rfl rfl rfl (op_fieldA hs (some 4) rfl rfl rfl underlying42 rfl sizeOf24 (by decide) rfl fun ac hs => hs)
    ·exact fun L ac w hs => wpO_in hs rfl rfl rfl (oldd hs 5 0 (W y) isAgg24 sizeOf24 rfl rfl rfl rfl rfl fun ac hs => hs)
    ·exact fun L ac w hs => wpO_in hs rfl rfl rfl (op_call (F := 81) hs (some 6) (v := .bool false) rfl rfl rfl rfl (call81 _) (rbelow_c y false hy (decide_eq_false hq3)) rfl fun ac w hs => hs)
    ·exact fun L ac w hs => pln (op_pickT hs (some 7) rfl rfl rfl rfl rfl fun ac hs => hs)
    ·exact fun L ac w hs => pln (omv hs 8 rfl rfl rfl fun ac hs => hs)
    ·intro L ac w hs
     refine wpO_out hs (some 9) rfl rfl (.inl rfl) rfl rfl fun ac hs => ?_
     exact hs
    ·intro L ac w hs
     refine wpO_out hs (some 10) rfl rfl (.inl rfl) rfl rfl fun ac hs => ?_
     exact hs
    ·intro L ac w hs
     refine wpO_out hs (some 11) rfl rfl (.inl rfl) rfl rfl fun ac hs => ?_
     exact hs
    ·intro L ac w hs
     refine wpO_out hs (some 12) rfl rfl (.inl rfl) rfl rfl fun ac hs => ?_
     exact hs
    ·intro L ac w hs
     refine wpO_out hs (some 13) rfl rfl (.inl rfl) rfl rfl fun ac hs => ?_
     exact hs
    ·intro L ac w hs
     refine wpO_out hs (some 14) rfl rfl (.inl rfl) rfl rfl fun ac hs => ?_
     exact hs
    ·intro L ac w hs
     refine wpO_out hs (some 15) rfl rfl (.inl rfl) rfl rfl fun ac hs => ?_
     exact hs
    ·intro L ac w hs
     refine wpO_out hs (some 16) rfl rfl (.inl rfl) rfl rfl fun ac hs => ?_
     exact hs
    ·intro L ac w hs
     refine wpO_out hs (some 17) rfl rfl (.inl rfl) rfl rfl fun ac hs => ?_
     exact hs
    ·exact fun L ac w hs => pln (op_pickF hs (some 18) rfl rfl rfl rfl rfl fun ac hs => hs)
    ·exact fun L ac w hs => pln (oas hs 19 rfl rfl rfl fun ac hs => hs)
   intro ac w hs
   try dsimp only [cond_true] at hs
   refine then_n (wp_ret ?_)
   exact bodyPost_ret (res1 rfl (rv_t hs rfl)) hs.defers ⟨congrArg (fun b => Ending.returned (.bool b)) (onf2 hq3), (hs.bel rfl)⟩
 ·skip
  replace hs := hs.n0 [1, 2] rfl rfl
  refine region_inv [([], rgn 1 19), ([0], rgn 2 18), ([0, 1], rgn 3 17), ([0, 1, 2], rgn 4 16), (rgn 0 4, rgn 5 15), (rgn 0 5, rgn 6 14), (rgn 0 6, rgn 7 13), (rgn 0 7, rgn 8 12), (rgn 0 8, rgn 9 11), (rgn 0 9, [10, 13, 16, 17, 18, 19]), (rgn 0 10, [13, 16, 17, 18, 19]), (rgn 0 9, [12, 13, 16, 17, 18, 19]), ([0, 1, 2, 3, 4, 5, 6, 7, 8, 11], [13, 16, 17, 18, 19]), (rgn 0 13, rgn 16 4), (rgn 0 9, rgn 15 5), ([0, 1, 2, 3, 4, 5, 6, 7, 8, 14], rgn 16 4), (rgn 0 16, [17, 18, 19]), (rgn 0 17, [18, 19]), (rgn 0 18, [19]), (rgn 0 19, [])] (fun L ac w => St 27 w0 [(8, L 0, ptA g1 0), (9, L 1, W x), (10, L 2, .bool false), (11, L 3, .bool false), (12, L 4, undef), (13, L 5, undef), (14, L 6, undef), (15, L 7, .bool false), (16, L 8, .bool false), (17, L 9, undef), (18, L 10, undef), (19, L 11, undef), (20, L 12, undef), (21, L 13, undef), (22, L 14, undef), (23, L 15, undef), (24, L 16, undef), (25, L 17, undef), (26, L 18, .bool false), (2, L 19, .bool false), (1, true, ptA g1 0), (2, true, .bool false)] [(true, g1, 42, (PVl x y false))] ac w) (by kernel_rfl) (by kernel_rfl) ?_ ?_ ?_
  ·exact hs.drew.skip.skip.skip.skip.skip.skip.skip.skip.skip.skip.skip.skip.skip.skip.skip.skip.skip.skip.skip.skip
  ·refine ⟨?_, ?_, ?_, ?_, ?_, ?_, ?_, ?_, ?_, ?_, ?_, ?_, ?_, ?_, ?_, ?_, ?_, ?_, ?_, ?_, trivial⟩
   ·exact fun L ac w hs => pln (op_fieldA hs (some 0) rfl rfl rfl underlying42 rfl sizeOf24 (by decide) rfl fun ac hs => hs)
   ·exact fun L ac w hs => pln (oldd hs 1 0 (W x) isAgg24 sizeOf24 rfl rfl rfl rfl rfl fun ac hs => hs)
   ·exact fun L ac w hs => pln (op_call (F := 81) hs (some 2) (v := .bool false) rfl rfl rfl rfl (call81 _) (rbelow_c x false hx (decide_eq_false hq2)) rfl fun ac w hs => hs)
   ·exact fun L ac w hs => pln (omv hs 3 rfl rfl rfl fun ac hs => hs)
   ·intro L ac w hs
    refine wpO_out hs (some 4) rfl rfl (.inl rfl) rfl rfl fun ac hs => ?_
    exact hs
   ·intro L ac w hs
    refine wpO_out hs (some 5) rfl rfl (.inl rfl) rfl rfl fun ac hs => ?_
    exact hs
   ·intro L ac w hs
    refine wpO_out hs (some 6) rfl rfl (.inl rfl) rfl rfl fun ac hs => ?_
    exact hs
   ·exact fun L ac w hs => pln (op_pickF hs (some 7) rfl rfl rfl rfl rfl fun ac hs => hs)
   ·exact fun L ac w hs => pln (omv hs 8 rfl rfl rfl fun ac hs => hs)
   ·intro L ac w hs
    refine wpO_out hs (some 9) rfl rfl (.inl rfl) rfl rfl fun ac hs => ?_
    exact hs
   ·intro L ac w hs
    refine wpO_out hs (some 10) rfl rfl (.inl rfl) rfl rfl fun ac hs => ?_
    exact hs
   ·intro L ac w hs
    refine wpO_out hs (some 11) rfl rfl (.inl rfl) rfl rfl fun ac hs => ?_
    exact hs
   ·intro L ac w hs
    refine wpO_out hs (some 12) rfl rfl (.inl rfl) rfl rfl fun ac hs => ?_
    exact hs
   ·intro L ac w hs
    refine wpO_out hs (some 13) rfl rfl (.inl rfl) rfl rfl fun ac hs => ?_
    exact hs
   ·intro L ac w hs
    refine wpO_out hs (some 14) rfl rfl (.inl rfl) rfl rfl fun ac hs => ?_
    exact hs
   ·intro L ac w hs
    refine wpO_out hs (some 15) rfl rfl (.inl rfl) rfl rfl fun ac hs => ?_
    exact hs
   ·intro L ac w hs
    refine wpO_out hs (some 16) rfl rfl (.inl rfl) rfl rfl fun ac hs => ?_
    exact hs
   ·intro L ac w hs
    refine wpO_out hs (some 17) rfl rfl (.inl rfl) rfl rfl fun ac hs => ?_
    exact hs
   ·exact fun L ac w hs => pln (op_pickF hs (some 18) rfl rfl rfl rfl rfl fun ac hs => hs)
   ·exact fun L ac w hs => pln (oas hs 19 rfl rfl rfl fun ac hs => hs)
  intro ac w hs
  try dsimp only [cond_true] at hs
  refine then_n (wp_ret ?_)
  exact bodyPost_ret (res1 rfl (rv_t hs rfl)) hs.defers ⟨congrArg (fun b => Ending.returned (.bool b)) (onf1 hq2), (hs.bel rfl)⟩
theorem ron_c (x y : Nat) (z q : Bool) (hx : x < 2 ^ 256) (hy : y < 2 ^ 256) (hq : onB x y z = q) (w : World) : Calls prog 123 #[PV x y z] w fun e w' => e = .returned (.bool q) ∧ Below w.heap.size w w' := by
 subst hq
 cases z with
 | true => exact ron_c_t x y hx hy w
 | false => exact ron_c_f x y hx hy w
theorem own_c (x y : Nat) (z : Bool) (T : EM.Pt Pf) (hx : x < 2 ^ 256) (hy : y < 2 ^ 256) (hT : ptOf x y z = T) (w0 : World) : Calls prog 83 #[PV x y z] w0 fun e w' => e = .returned (PV (px T) (py T) (pz T)) ∧ Below w0.heap.size w0 w' := by
 refine enter (n := 7) (args := [PV x y z]) func83 rfl rfl (Nat.le_of_ble_eq_true rfl) fun ac hs => ?_
 refine wp_seq (wp_region_lit ?_)
 refine stp (op_box hs none none (cs := (PVl x y z)) rfl rfl rfl rfl rfl rfl fun g1 ac w hs => ?_)
 refine stp (op_alloc hs none none (cs := (PVl 0 0 false)) rfl rfl zeroValue42 (by kernel_rfl) rfl rfl fun g2 ac w hs => ?_)
 refine wpList_nil (then_n (wp_seq (wp_seq (wp_region_lit ?_))))
 refine ldd hs 0 (PV x y z) isAgg42 sizeOf42 rfl rfl rfl rfl rfl fun ac hs => ?_
 refine stp (op_call (F := 123) hs none (v := .bool (onB x y z)) rfl rfl rfl rfl (call123 _) (ron_c x y z _ hx hy rfl) rfl fun ac w hs => ?_)
 refine wpList_nil (then_n ?_)
 refine wp_cond_split (hs.ev rfl) (fun hc => ?_) (fun hc => ?_)
 ·skip
  refine wp_seq (wp_region_lit ?_)
  refine ldd hs 0 (PV x y z) isAgg42 sizeOf42 rfl rfl rfl rfl rfl fun ac hs => ?_
  refine stp (stoo hs 1 ((PVl x y z)) sizeOf42 rfl rfl rfl rfl rfl rfl rfl rfl rfl rfl fun w hs => ?_)
  refine wpList_nil (then_n (wp_ret (then_r ?_)))
  exact bodyPost_ret (res1 rfl (rv_c hs 1 (v := PV x y z) rfl rfl isAgg42 sizeOf42 rfl)) hs.defers ⟨by subst hT; rw [(on_yes hc).1, (on_yes hc).2.1, (on_yes hc).2.2], (hs.bel rfl)⟩
 ·skip
  refine wp_skip (then_n (wp_seq (wp_region_lit ?_)))
  refine stp (op_build hs none (qs := [(2, .bool true)]) (v := PV 0 0 true) rfl rfl rfl rfl (fun _ => by kernel_rfl) rfl fun ac hs => ?_)
  refine stp (stoo hs 1 ((PVl 0 0 true)) sizeOf42 rfl rfl rfl rfl rfl rfl rfl rfl rfl rfl fun w hs => ?_)
  refine wpList_nil (then_n (wp_ret ?_))
  exact bodyPost_ret (res1 rfl (rv_c hs 1 (v := PV 0 0 true) rfl rfl isAgg42 sizeOf42 rfl)) hs.defers ⟨by rw [← hT, on_no (Bool.eq_false_iff.1 hc)]; rfl, (hs.bel rfl)⟩
theorem rtwice14_c (x y z X Y Z : Nat) (hx : x < 2 ^ 256) (hy : y < 2 ^ 256) (hz : z < 2 ^ 256) (hE : tF x y z = (X, Y, Z)) (w0 : World) : Calls prog 85 #[TV x y z] w0 fun e w' => e = .returned (TV X Y Z) ∧ Below w0.heap.size w0 w' := by
 refine enter (n := 70) (args := [TV x y z]) func85 rfl rfl (Nat.le_of_ble_eq_true rfl) fun ac hs => ?_
 refine wp_seq (wp_region_lit ?_)
 refine stp (op_box hs none none (cs := (TVl x y z)) rfl rfl rfl rfl rfl rfl fun g1 ac w hs => ?_)
 refine stp (op_alloc hs none none (cs := (TVl 0 0 0)) rfl rfl zeroValue86 (by kernel_rfl) rfl rfl fun g2 ac w hs => ?_)
 refine wpList_nil (then_n (wp_seq (wp_region_lit ?_)))
 refine stp (op_build hs none (qs := [(0, .int .u64 3)]) (v := .agg #[.int .u64 3, .int .u64 0, .int .u64 0, .int .u64 0]) rfl rfl rfl rfl (fun _ => by kernel_rfl) rfl fun ac hs => ?_)
 refine stp (op_fieldA hs none rfl rfl rfl underlying86 rfl sizeOf24 (by decide) rfl fun ac hs => ?_)
 refine ldd hs 0 (W x) isAgg24 sizeOf24 rfl rfl rfl rfl rfl fun ac hs => ?_
 refine stp (op_fieldA hs none rfl rfl rfl underlying86 rfl sizeOf24 (by decide) rfl fun ac hs => ?_)
 refine ldd hs 0 (W x) isAgg24 sizeOf24 rfl rfl rfl rfl rfl fun ac hs => ?_
 obtain ⟨r3, hr3, lr3⟩ : ∃ z0, x * x % Pf = z0 ∧ z0 < 2 ^ 256 := ⟨_, rfl, modP_lt _⟩
 refine stp (op_call (F := 89) hs none (v := W r3) rfl rfl rfl rfl (call89 _) (rfmul_c x x r3 hx hx hr3) rfl fun ac w hs => ?_)
 obtain ⟨r4, hr4, lr4⟩ : ∃ z0, 3 * r3 % Pf = z0 ∧ z0 < 2 ^ 256 := ⟨_, rfl, modP_lt _⟩
 refine stp (op_call (F := 89) hs none (v := W r4) rfl rfl rfl rfl (call89 _) (rfmul_c 3 r3 r4 (by decide) lr3 hr4) rfl fun ac w hs => ?_)
 refine stp (op_alloc hs none none (cs := [.int .u64 0, .int .u64 0, .int .u64 0, .int .u64 0]) rfl rfl zeroValue24 (by kernel_rfl) rfl rfl fun g5 ac w hs => ?_)
 refine stp (stoo hs 2 ((Wl r4)) sizeOf24 rfl rfl rfl rfl rfl rfl rfl rfl rfl rfl fun w hs => ?_)
 refine wpList_nil (then_n (wp_seq ?_))
 replace hs := hs.n0 [1, 2, 3] rfl rfl
 refine wp_region_lit ?_
 refine stp (op_fieldA hs none rfl rfl rfl underlying86 rfl sizeOf24 (by decide) rfl fun ac hs => ?_)
 refine ldd hs 0 (W y) isAgg24 sizeOf24 rfl rfl rfl rfl rfl fun ac hs => ?_
 refine stp (op_fieldA hs none rfl rfl rfl underlying86 rfl sizeOf24 (by decide) rfl fun ac hs => ?_)
 refine ldd hs 0 (W z) isAgg24 sizeOf24 rfl rfl rfl rfl rfl fun ac hs => ?_
 obtain ⟨r6, hr6, lr6⟩ : ∃ z0, y * z % Pf = z0 ∧ z0 < 2 ^ 256 := ⟨_, rfl, modP_lt _⟩
 refine stp (op_call (F := 89) hs none (v := W r6) rfl rfl rfl rfl (call89 _) (rfmul_c y z r6 hy hz hr6) rfl fun ac w hs => ?_)
 refine stp (op_alloc hs none none (cs := [.int .u64 0, .int .u64 0, .int .u64 0, .int .u64 0]) rfl rfl zeroValue24 (by kernel_rfl) rfl rfl fun g7 ac w hs => ?_)
 refine stp (stoo hs 3 ((Wl r6)) sizeOf24 rfl rfl rfl rfl rfl rfl rfl rfl rfl rfl fun w hs => ?_)
 refine wpList_nil (then_n (wp_seq ?_))
 replace hs := hs.n0 [1, 2, 3, 4] rfl rfl
 obtain ⟨r8, hr8, lr8⟩ : ∃ z0, x * y % Pf = z0 ∧ z0 < 2 ^ 256 := ⟨_, rfl, modP_lt _⟩
 obtain ⟨r9, hr9, lr9⟩ : ∃ z0, r8 * r6 % Pf = z0 ∧ z0 < 2 ^ 256 := ⟨_, rfl, modP_lt _⟩
 refine region_inv [([], [1, 4, 6, 8]), ([0], [4, 6, 8]), ([], [3, 4, 6, 8]), ([2], [4, 6, 8]), (rgn 0 4, [6, 8]), ([], [6, 8]), (rgn 0 6, [8]), ([], [8]), (rgn 0 8, [])] (fun L ac w => ∃ (g10 : Nat), St 70 w0 [(23, L 0, ptA g1 0), (24, L 1, W x), (25, L 2, ptA g1 4), (26, L 3, W y), (27, L 4, W r8), (28, L 5, W r6), (29, L 6, W r9), (5, L 7, ptA g10 0), (1, true, ptA g1 0), (2, true, ptA g2 0), (3, true, ptA g5 0), (4, true, ptA g7 0)] [(true, g1, 86, (TVl x y z)), (true, g2, 86, (TVl 0 0 0)), (true, g5, 24, (Wl r4)), (true, g7, 24, (Wl r6)), (L 7, g10, 24, (cond (L 8) (Wl r9) [.int .u64 0, .int .u64 0, .int .u64 0, .int .u64 0]))] ac w) (by kernel_rfl) (by kernel_rfl) ?_ ?_ ?_
 ·exact ⟨0, hs.drew.skip.skip.skip.skip.skip.skip.skip.skip.pad⟩
 ·refine ⟨?_, ?_, ?_, ?_, ?_, ?_, ?_, ?_, ?_, trivial⟩
  ·exact fun L ac w ⟨g10, hs⟩ => pln (op_fieldA hs (some 0) rfl rfl rfl underlying86 rfl sizeOf24 (by decide) rfl fun ac hs => ⟨g10, hs⟩)
  ·exact fun L ac w ⟨g10, hs⟩ => pln (oldd hs 1 0 (W x) isAgg24 sizeOf24 rfl rfl rfl rfl rfl fun ac hs => ⟨g10, hs⟩)
  ·exact fun L ac w ⟨g10, hs⟩ => pln (op_fieldA hs (some 2) rfl rfl rfl underlying86 rfl sizeOf24 (by decide) rfl fun ac hs => ⟨g10, hs⟩)
  ·exact fun L ac w ⟨g10, hs⟩ => pln (oldd hs 3 0 (W y) isAgg24 sizeOf24 rfl rfl rfl rfl rfl fun ac hs => ⟨g10, hs⟩)
  ·exact fun L ac w ⟨g10, hs⟩ => pln (op_call (F := 89) hs (some 4) (v := W r8) rfl rfl rfl rfl (call89 _) (rfmul_c x y r8 hx hy hr8) rfl fun ac w hs => ⟨g10, hs⟩)
  ·exact fun L ac w ⟨g10, hs⟩ => pln (oldd hs 5 3 (W r6) isAgg24 sizeOf24 rfl rfl rfl rfl rfl fun ac hs => ⟨g10, hs⟩)
  ·exact fun L ac w ⟨g10, hs⟩ => pln (op_call (F := 89) hs (some 6) (v := W r9) rfl rfl rfl rfl (call89 _) (rfmul_c r8 r6 r9 lr8 lr6 hr9) rfl fun ac w hs => ⟨g10, hs⟩)
  ·exact fun L ac w ⟨g10, hs⟩ => pln (op_alloc hs (some 7) (some 4) (cs := [.int .u64 0, .int .u64 0, .int .u64 0, .int .u64 0]) rfl rfl zeroValue24 (by kernel_rfl) rfl rfl fun g10 ac w hs => ⟨g10, hs⟩)
  ·exact fun L ac w ⟨g10, hs⟩ => pln (stoo hs 4 ((Wl r9)) sizeOf24 rfl rfl rfl rfl rfl rfl rfl rfl rfl rfl fun w hs => ⟨g10, hs⟩)
 intro ac w ⟨g10, hs⟩
 try dsimp only [cond_true] at hs
 refine then_n (wp_seq ?_)
 replace hs := hs.n0 [1, 2, 3, 4, 5] rfl rfl
 obtain ⟨r11, hr11, lr11⟩ : ∃ z0, r4 * r4 % Pf = z0 ∧ z0 < 2 ^ 256 := ⟨_, rfl, modP_lt _⟩
 obtain ⟨r12, hr12, lr12⟩ : ∃ z0, 8 * r9 % Pf = z0 ∧ z0 < 2 ^ 256 := ⟨_, rfl, modP_lt _⟩
 obtain ⟨r13, hr13, lr13⟩ : ∃ z0, fsub r11 r12 = z0 ∧ z0 < 2 ^ 256 := ⟨_, rfl, fsub_lt _ _⟩
 refine region_inv [([], [2, 5, 6, 8]), ([], [2, 5, 6, 8]), ([0, 1], [5, 6, 8]), ([], [5, 6, 8]), ([], [5, 6, 8]), (rgn 0 5, [6, 8]), (rgn 0 6, [8]), ([], [8]), (rgn 0 8, [])] (fun L ac w => ∃ (g14 : Nat), St 70 w0 [(30, L 0, W r4), (31, L 1, W r4), (32, L 2, W r11), (33, L 3, .agg #[.int .u64 8, .int .u64 0, .int .u64 0, .int .u64 0]), (34, L 4, W r9), (35, L 5, W r12), (36, L 6, W r13), (6, L 7, ptA g14 0), (1, true, ptA g1 0), (2, true, ptA g2 0), (3, true, ptA g5 0), (4, true, ptA g7 0), (5, true, ptA g10 0)] [(true, g1, 86, (TVl x y z)), (true, g2, 86, (TVl 0 0 0)), (true, g5, 24, (Wl r4)), (true, g7, 24, (Wl r6)), (true, g10, 24, (Wl r9)), (L 7, g14, 24, (cond (L 8) (Wl r13) [.int .u64 0, .int .u64 0, .int .u64 0, .int .u64 0]))] ac w) (by kernel_rfl) (by kernel_rfl) ?_ ?_ ?_
 ·exact ⟨0, hs.drew.skip.skip.skip.skip.skip.skip.skip.skip.pad⟩
 ·refine ⟨?_, ?_, ?_, ?_, ?_, ?_, ?_, ?_, ?_, trivial⟩
  ·exact fun L ac w ⟨g14, hs⟩ => pln (oldd hs 0 2 (W r4) isAgg24 sizeOf24 rfl rfl rfl rfl rfl fun ac hs => ⟨g14, hs⟩)
  ·exact fun L ac w ⟨g14, hs⟩ => pln (oldd hs 1 2 (W r4) isAgg24 sizeOf24 rfl rfl rfl rfl rfl fun ac hs => ⟨g14, hs⟩)
  ·exact fun L ac w ⟨g14, hs⟩ => pln (op_call (F := 89) hs (some 2) (v := W r11) rfl rfl rfl rfl (call89 _) (rfmul_c r4 r4 r11 lr4 lr4 hr11) rfl fun ac w hs => ⟨g14, hs⟩)
  ·exact fun L ac w ⟨g14, hs⟩ => pln (op_build hs (some 3) (qs := [(0, .int .u64 8)]) (v := .agg #[.int .u64 8, .int .u64 0, .int .u64 0, .int .u64 0]) rfl rfl rfl rfl (fun _ => by kernel_rfl) rfl fun ac hs => ⟨g14, hs⟩)
  ·exact fun L ac w ⟨g14, hs⟩ => pln (oldd hs 4 4 (W r9) isAgg24 sizeOf24 rfl rfl rfl rfl rfl fun ac hs => ⟨g14, hs⟩)
  ·exact fun L ac w ⟨g14, hs⟩ => pln (op_call (F := 89) hs (some 5) (v := W r12) rfl rfl rfl rfl (call89 _) (rfmul_c 8 r9 r12 (by decide) lr9 hr12) rfl fun ac w hs => ⟨g14, hs⟩)
  ·exact fun L ac w ⟨g14, hs⟩ => pln (op_call (F := 124) hs (some 6) (v := W r13) rfl rfl rfl rfl (call124 _) (rfsub_c r11 r12 r13 lr11 lr12 hr13) rfl fun ac w hs => ⟨g14, hs⟩)
  ·exact fun L ac w ⟨g14, hs⟩ => pln (op_alloc hs (some 7) (some 5) (cs := [.int .u64 0, .int .u64 0, .int .u64 0, .int .u64 0]) rfl rfl zeroValue24 (by kernel_rfl) rfl rfl fun g14 ac w hs => ⟨g14, hs⟩)
  ·exact fun L ac w ⟨g14, hs⟩ => pln (stoo hs 5 ((Wl r13)) sizeOf24 rfl rfl rfl rfl rfl rfl rfl rfl rfl rfl fun w hs => ⟨g14, hs⟩)
 intro ac w ⟨g14, hs⟩
 try dsimp only [cond_true] at hs
 refine then_n (wp_seq (wp_region_lit ?_))
 refine stp (op_fieldA hs none rfl rfl rfl underlying86 rfl sizeOf24 (by decide) rfl fun ac hs => ?_)
 refine ldd hs 0 (W y) isAgg24 sizeOf24 rfl rfl rfl rfl rfl fun ac hs => ?_
 refine ldd hs 3 (W r6) isAgg24 sizeOf24 rfl rfl rfl rfl rfl fun ac hs => ?_
 obtain ⟨r15, hr15, lr15⟩ : ∃ z0, y * r6 % Pf = z0 ∧ z0 < 2 ^ 256 := ⟨_, rfl, modP_lt _⟩
 refine stp (op_call (F := 89) hs none (v := W r15) rfl rfl rfl rfl (call89 _) (rfmul_c y r6 r15 hy lr6 hr15) rfl fun ac w hs => ?_)
 refine stp (op_alloc hs none none (cs := [.int .u64 0, .int .u64 0, .int .u64 0, .int .u64 0]) rfl rfl zeroValue24 (by kernel_rfl) rfl rfl fun g16 ac w hs => ?_)
 refine stp (stoo hs 6 ((Wl r15)) sizeOf24 rfl rfl rfl rfl rfl rfl rfl rfl rfl rfl fun w hs => ?_)
 refine wpList_nil (then_n (wp_seq ?_))
 replace hs := hs.n0 [2, 3, 4, 5, 6, 7] rfl rfl
 refine wp_region_lit ?_
 refine stp (op_build hs none (qs := [(0, .int .u64 2)]) (v := .agg #[.int .u64 2, .int .u64 0, .int .u64 0, .int .u64 0]) rfl rfl rfl rfl (fun _ => by kernel_rfl) rfl fun ac hs => ?_)
 refine ldd hs 5 (W r13) isAgg24 sizeOf24 rfl rfl rfl rfl rfl fun ac hs => ?_
 refine ldd hs 3 (W r6) isAgg24 sizeOf24 rfl rfl rfl rfl rfl fun ac hs => ?_
 obtain ⟨r17, hr17, lr17⟩ : ∃ z0, r13 * r6 % Pf = z0 ∧ z0 < 2 ^ 256 := ⟨_, rfl, modP_lt _⟩
 refine stp (op_call (F := 89) hs none (v := W r17) rfl rfl rfl rfl (call89 _) (rfmul_c r13 r6 r17 lr13 lr6 hr17) rfl fun ac w hs => ?_)
 obtain ⟨r18, hr18, lr18⟩ : ∃ z0, 2 * r17 % Pf = z0 ∧ z0 < 2 ^ 256 := ⟨_, rfl, modP_lt _⟩
 refine stp (op_call (F := 89) hs none (v := W r18) rfl rfl rfl rfl (call89 _) (rfmul_c 2 r17 r18 (by decide) lr17 hr18) rfl fun ac w hs => ?_)
 refine stp (op_alloc hs none none (cs := [.int .u64 0, .int .u64 0, .int .u64 0, .int .u64 0]) rfl rfl zeroValue24 (by kernel_rfl) rfl rfl fun g19 ac w hs => ?_)
 refine stp (stoo hs 7 ((Wl r18)) sizeOf24 rfl rfl rfl rfl rfl rfl rfl rfl rfl rfl fun w hs => ?_)
 refine wpList_nil (then_n (wp_seq ?_))
 replace hs := hs.n0 [2, 3, 4, 5, 6, 7, 8] rfl rfl
 obtain ⟨r20, hr20, lr20⟩ : ∃ z0, 4 * r9 % Pf = z0 ∧ z0 < 2 ^ 256 := ⟨_, rfl, modP_lt _⟩
 obtain ⟨r21, hr21, lr21⟩ : ∃ z0, fsub r20 r13 = z0 ∧ z0 < 2 ^ 256 := ⟨_, rfl, fsub_lt _ _⟩
 obtain ⟨r22, hr22, lr22⟩ : ∃ z0, r4 * r21 % Pf = z0 ∧ z0 < 2 ^ 256 := ⟨_, rfl, modP_lt _⟩
 obtain ⟨r23, hr23, lr23⟩ : ∃ z0, r15 * r15 % Pf = z0 ∧ z0 < 2 ^ 256 := ⟨_, rfl, modP_lt _⟩
 obtain ⟨r24, hr24, lr24⟩ : ∃ z0, 8 * r23 % Pf = z0 ∧ z0 < 2 ^ 256 := ⟨_, rfl, modP_lt _⟩
 obtain ⟨r25, hr25, lr25⟩ : ∃ z0, fsub r22 r24 = z0 ∧ z0 < 2 ^ 256 := ⟨_, rfl, fsub_lt _ _⟩
 refine region_inv [([], [6, 10, 11, 12, 14]), ([], [3, 5, 6, 10, 11, 12, 14]), ([], [3, 5, 6, 10, 11, 12, 14]), ([1, 2], [5, 6, 10, 11, 12, 14]), ([], [5, 6, 10, 11, 12, 14]), (rgn 1 4, [6, 10, 11, 12, 14]), (rgn 0 6, [10, 11, 12, 14]), ([], [11, 12, 14]), ([], [10, 11, 12, 14]), ([], [10, 11, 12, 14]), ([0, 1, 2, 3, 4, 5, 6, 8, 9], [11, 12, 14]), (rgn 0 11, [12, 14]), (rgn 0 12, [14]), ([], [14]), (rgn 0 14, [])] (fun L ac w => ∃ (g26 : Nat), St 70 w0 [(46, L 0, W r4), (47, L 1, .agg #[.int .u64 4, .int .u64 0, .int .u64 0, .int .u64 0]), (48, L 2, W r9), (49, L 3, W r20), (50, L 4, W r13), (51, L 5, W r21), (52, L 6, W r22), (53, L 7, .agg #[.int .u64 8, .int .u64 0, .int .u64 0, .int .u64 0]), (54, L 8, W r15), (55, L 9, W r15), (56, L 10, W r23), (57, L 11, W r24), (58, L 12, W r25), (9, L 13, ptA g26 0), (2, true, ptA g2 0), (3, true, ptA g5 0), (4, true, ptA g7 0), (5, true, ptA g10 0), (6, true, ptA g14 0), (7, true, ptA g16 0), (8, true, ptA g19 0)] [(true, g1, 86, (TVl x y z)), (true, g2, 86, (TVl 0 0 0)), (true, g5, 24, (Wl r4)), (true, g7, 24, (Wl r6)), (true, g10, 24, (Wl r9)), (true, g14, 24, (Wl r13)), (true, g16, 24, (Wl r15)), (true, g19, 24, (Wl r18)), (L 13, g26, 24, (cond (L 14) (Wl r25) [.int .u64 0, .int .u64 0, .int .u64 0, .int .u64 0]))] ac w) (by kernel_rfl) (by kernel_rfl) ?_ ?_ ?_
 ·exact ⟨0, hs.drew.skip.skip.skip.skip.skip.skip.skip.skip.skip.skip.skip.skip.skip.skip.pad⟩
 ·refine ⟨?_, ?_, ?_, ?_, ?_, ?_, ?_, ?_, ?_, ?_, ?_, ?_, ?_, ?_, ?_, trivial⟩
  ·exact fun L ac w ⟨g26, hs⟩ => pln (oldd hs 0 2 (W r4) isAgg24 sizeOf24 rfl rfl rfl rfl rfl fun ac hs => ⟨g26, hs⟩)
  ·exact fun L ac w ⟨g26, hs⟩ => pln (op_build hs (some 1) (qs := [(0, .int .u64 4)]) (v := .agg #[.int .u64 4, .int .u64 0, .int .u64 0, .int .u64 0]) rfl rfl rfl rfl (fun _ => by kernel_rfl) rfl fun ac hs => ⟨g26, hs⟩)
  ·exact fun L ac w ⟨g26, hs⟩ => pln (oldd hs 2 4 (W r9) isAgg24 sizeOf24 rfl rfl rfl rfl rfl fun ac hs => ⟨g26, hs⟩)
  ·exact fun L ac w ⟨g26, hs⟩ => pln (op_call (F := 89) hs (some 3) (v := W r20) rfl rfl rfl rfl (call89 _) (rfmul_c 4 r9 r20 (by decide) lr9 hr20) rfl fun ac w hs => ⟨g26, hs⟩)
  ·exact fun L ac w ⟨g26, hs⟩ => pln (oldd hs 4 5 (W r13) isAgg24 sizeOf24 rfl rfl rfl rfl rfl fun ac hs => ⟨g26, hs⟩)
  ·exact fun L ac w ⟨g26, hs⟩ => pln (op_call (F := 124) hs (some 5) (v := W r21) rfl rfl rfl rfl (call124 _) (rfsub_c r20 r13 r21 lr20 lr13 hr21) rfl fun ac w hs => ⟨g26, hs⟩)
  ·exact fun L ac w ⟨g26, hs⟩ => pln (op_call (F := 89) hs (some 6) (v := W r22) rfl rfl rfl rfl (call89 _) (rfmul_c r4 r21 r22 lr4 lr21 hr22) rfl fun ac w hs => ⟨g26, hs⟩)
  ·exact fun L ac w ⟨g26, hs⟩ => pln (op_build hs (some 7) (qs := [(0, .int .u64 8)]) (v := .agg #[.int .u64 8, .int .u64 0, .int .u64 0, .int .u64 0]) rfl rfl rfl rfl (fun _ => by kernel_rfl) rfl fun ac hs => ⟨g26, hs⟩)
  ·exact fun L ac w ⟨g26, hs⟩ => pln (oldd hs 8 6 (W r15) isAgg24 sizeOf24 rfl rfl rfl rfl rfl fun ac hs => ⟨g26, hs⟩)
  ·exact fun L ac w ⟨g26, hs⟩ => pln (oldd hs 9 6 (W r15) isAgg24 sizeOf24 rfl rfl rfl rfl rfl fun ac hs => ⟨g26, hs⟩)
  ·exact fun L ac w ⟨g26, hs⟩ => pln (op_call (F := 89) hs (some 10) (v := W r23) rfl rfl rfl rfl (call89 _) (rfmul_c r15 r15 r23 lr15 lr15 hr23) rfl fun ac w hs => ⟨g26, hs⟩)
  ·exact fun L ac w ⟨g26, hs⟩ => pln (op_call (F := 89) hs (some 11) (v := W r24) rfl rfl rfl rfl (call89 _) (rfmul_c 8 r23 r24 (by decide) lr23 hr24) rfl fun ac w hs => ⟨g26, hs⟩)
  ·exact fun L ac w ⟨g26, hs⟩ => pln (op_call (F := 124) hs (some 12) (v := W r25) rfl rfl rfl rfl (call124 _) (rfsub_c r22 r24 r25 lr22 lr24 hr25) rfl fun ac w hs => ⟨g26, hs⟩)
  ·exact fun L ac w ⟨g26, hs⟩ => pln (op_alloc hs (some 13) (some 8) (cs := [.int .u64 0, .int .u64 0, .int .u64 0, .int .u64 0]) rfl rfl zeroValue24 (by kernel_rfl) rfl rfl fun g26 ac w hs => ⟨g26, hs⟩)
  ·exact fun L ac w ⟨g26, hs⟩ => pln (stoo hs 8 ((Wl r25)) sizeOf24 rfl rfl rfl rfl rfl rfl rfl rfl rfl rfl fun w hs => ⟨g26, hs⟩)
 intro ac w ⟨g26, hs⟩
 try dsimp only [cond_true] at hs
 refine then_n (wp_seq ?_)
 replace hs := hs.n0 [2, 4, 8, 9] rfl rfl
 obtain ⟨r27, hr27, lr27⟩ : ∃ z0, r6 * r6 % Pf = z0 ∧ z0 < 2 ^ 256 := ⟨_, rfl, modP_lt _⟩
 obtain ⟨r28, hr28, lr28⟩ : ∃ z0, r6 * r27 % Pf = z0 ∧ z0 < 2 ^ 256 := ⟨_, rfl, modP_lt _⟩
 obtain ⟨r29, hr29, lr29⟩ : ∃ z0, 8 * r28 % Pf = z0 ∧ z0 < 2 ^ 256 := ⟨_, rfl, modP_lt _⟩
 refine region_inv [([], [6, 8]), ([], [5, 6, 8]), ([], [4, 5, 6, 8]), ([], [4, 5, 6, 8]), ([2, 3], [5, 6, 8]), (rgn 1 4, [6, 8]), (rgn 0 6, [8]), ([], [8]), (rgn 0 8, [])] (fun L ac w => ∃ (g30 : Nat), St 70 w0 [(59, L 0, .agg #[.int .u64 8, .int .u64 0, .int .u64 0, .int .u64 0]), (60, L 1, W r6), (61, L 2, W r6), (62, L 3, W r6), (63, L 4, W r27), (64, L 5, W r28), (65, L 6, W r29), (10, L 7, ptA g30 0), (2, true, ptA g2 0), (4, true, ptA g7 0), (8, true, ptA g19 0), (9, true, ptA g26 0)] [(true, g1, 86, (TVl x y z)), (true, g2, 86, (TVl 0 0 0)), (true, g5, 24, (Wl r4)), (true, g7, 24, (Wl r6)), (true, g10, 24, (Wl r9)), (true, g14, 24, (Wl r13)), (true, g16, 24, (Wl r15)), (true, g19, 24, (Wl r18)), (true, g26, 24, (Wl r25)), (L 7, g30, 24, (cond (L 8) (Wl r29) [.int .u64 0, .int .u64 0, .int .u64 0, .int .u64 0]))] ac w) (by kernel_rfl) (by kernel_rfl) ?_ ?_ ?_
 ·exact ⟨0, hs.drew.skip.skip.skip.skip.skip.skip.skip.skip.pad⟩
 ·refine ⟨?_, ?_, ?_, ?_, ?_, ?_, ?_, ?_, ?_, trivial⟩
  ·exact fun L ac w ⟨g30, hs⟩ => pln (op_build hs (some 0) (qs := [(0, .int .u64 8)]) (v := .agg #[.int .u64 8, .int .u64 0, .int .u64 0, .int .u64 0]) rfl rfl rfl rfl (fun _ => by kernel_rfl) rfl fun ac hs => ⟨g30, hs⟩)
  ·exact fun L ac w ⟨g30, hs⟩ => pln (oldd hs 1 3 (W r6) isAgg24 sizeOf24 rfl rfl rfl rfl rfl fun ac hs => ⟨g30, hs⟩)
  ·exact fun L ac w ⟨g30, hs⟩ => pln (oldd hs 2 3 (W r6) isAgg24 sizeOf24 rfl rfl rfl rfl rfl fun ac hs => ⟨g30, hs⟩)
  ·exact fun L ac w ⟨g30, hs⟩ => pln (oldd hs 3 3 (W r6) isAgg24 sizeOf24 rfl rfl rfl rfl rfl fun ac hs => ⟨g30, hs⟩)
  ·exact fun L ac w ⟨g30, hs⟩ => pln (op_call (F := 89) hs (some 4) (v := W r27) rfl rfl rfl rfl (call89 _) (rfmul_c r6 r6 r27 lr6 lr6 hr27) rfl fun ac w hs => ⟨g30, hs⟩)
  ·exact fun L ac w ⟨g30, hs⟩ => pln (op_call (F := 89) hs (some 5) (v := W r28) rfl rfl rfl rfl (call89 _) (rfmul_c r6 r27 r28 lr6 lr27 hr28) rfl fun ac w hs => ⟨g30, hs⟩)
  ·exact fun L ac w ⟨g30, hs⟩ => pln (op_call (F := 89) hs (some 6) (v := W r29) rfl rfl rfl rfl (call89 _) (rfmul_c 8 r28 r29 (by decide) lr28 hr29) rfl fun ac w hs => ⟨g30, hs⟩)
  ·exact fun L ac w ⟨g30, hs⟩ => pln (op_alloc hs (some 7) (some 9) (cs := [.int .u64 0, .int .u64 0, .int .u64 0, .int .u64 0]) rfl rfl zeroValue24 (by kernel_rfl) rfl rfl fun g30 ac w hs => ⟨g30, hs⟩)
  ·exact fun L ac w ⟨g30, hs⟩ => pln (stoo hs 9 ((Wl r29)) sizeOf24 rfl rfl rfl rfl rfl rfl rfl rfl rfl rfl fun w hs => ⟨g30, hs⟩)
 intro ac w ⟨g30, hs⟩
 try dsimp only [cond_true] at hs
 refine then_n (wp_seq (wp_region_lit ?_))
 refine ldd hs 7 (W r18) isAgg24 sizeOf24 rfl rfl rfl rfl rfl fun ac hs => ?_
 refine ldd hs 8 (W r25) isAgg24 sizeOf24 rfl rfl rfl rfl rfl fun ac hs => ?_
 refine ldd hs 9 (W r29) isAgg24 sizeOf24 rfl rfl rfl rfl rfl fun ac hs => ?_
 refine stp (op_build hs none (qs := [(0, W r18), (1, W r25), (2, W r29)]) (v := TV r18 r25 r29) rfl rfl rfl rfl (fun _ => by kernel_rfl) rfl fun ac hs => ?_)
 refine stp (stoo hs 1 ((TVl r18 r25 r29)) sizeOf86 rfl rfl rfl rfl rfl rfl rfl rfl rfl rfl fun w hs => ?_)
 refine wpList_nil (then_n (wp_ret ?_))
 exact bodyPost_ret (res1 rfl (rv_c hs 1 (v := TV r18 r25 r29) rfl rfl isAgg86 sizeOf86 rfl)) hs.defers ⟨by subst hr3 hr4 hr6 hr8 hr9 hr11 hr12 hr13 hr15 hr17 hr18 hr20 hr21 hr22 hr23 hr24 hr25 hr27 hr28 hr29; obtain ⟨rfl, rfl, rfl⟩ := tri3 hE; rfl, (hs.bel rfl)⟩
theorem rplus_c (x1 y1 z1 x2 y2 z2 X Y Z : Nat) (a1 : x1 < 2 ^ 256) (a2 : y1 < 2 ^ 256) (a3 : z1 < 2 ^ 256) (b1 : x2 < 2 ^ 256) (b2 : y2 < 2 ^ 256) (b3 : z2 < 2 ^ 256) (hE : pF x1 y1 z1 x2 y2 z2 = (X, Y, Z)) (w0 : World) : Calls prog 87 #[TV x1 y1 z1, TV x2 y2 z2] w0 fun e w' => e = .returned (TV X Y Z) ∧ Below w0.heap.size w0 w' := by
 refine enter (n := 100) (args := [TV x1 y1 z1, TV x2 y2 z2]) func87 rfl rfl (Nat.le_of_ble_eq_true rfl) fun ac hs => ?_
 refine wp_seq (wp_region_lit ?_)
 refine stp (op_box hs none none (cs := (TVl x1 y1 z1)) rfl rfl rfl rfl rfl rfl fun g1 ac w hs => ?_)
 refine stp (op_box hs none none (cs := (TVl x2 y2 z2)) rfl rfl rfl rfl rfl rfl fun g2 ac w hs => ?_)
 refine stp (op_alloc hs none none (cs := (TVl 0 0 0)) rfl rfl zeroValue86 (by kernel_rfl) rfl rfl fun g3 ac w hs => ?_)
 refine wpList_nil (then_n (wp_seq (wp_seq (wp_region_lit ?_))))
 refine stp (op_fieldA hs none rfl rfl rfl underlying86 rfl sizeOf24 (by decide) rfl fun ac hs => ?_)
 refine ldd hs 0 (W z1) isAgg24 sizeOf24 rfl rfl rfl rfl rfl fun ac hs => ?_
 refine stp (op_build hs none (qs := []) (v := .agg #[.int .u64 0, .int .u64 0, .int .u64 0, .int .u64 0]) rfl rfl rfl rfl (fun _ => by kernel_rfl) rfl fun ac hs => ?_)
 refine stp (op_bin hs none (v := .bool (decide (z1 = 0))) rfl rfl rfl rfl (fun w => run_eqGuard_agg w .eql 24 _ _ _ _ Tryz.eqGuardType24) (eqlW z1 0 a3 (by decide) _ rfl) rfl fun ac hs => ?_)
 refine wpList_nil (then_n ?_)
 refine wp_cond_split (hs.ev rfl) (fun hc => ?_) (fun hc => ?_)
 ·skip
  have hp4 := of_decide_eq_true hc
  refine wp_seq ?_
  replace hs := hs.n0 [2, 3, 4] rfl rfl
  refine wp_region_lit ?_
  refine ldd hs 1 (TV x2 y2 z2) isAgg86 sizeOf86 rfl rfl rfl rfl rfl fun ac hs => ?_
  refine stp (stoo hs 2 ((TVl x2 y2 z2)) sizeOf86 rfl rfl rfl rfl rfl rfl rfl rfl rfl rfl fun w hs => ?_)
  refine wpList_nil (then_n (wp_ret (then_r ?_)))
  exact bodyPost_ret (res1 rfl (rv_c hs 2 (v := TV x2 y2 z2) rfl rfl isAgg86 sizeOf86 rfl)) hs.defers ⟨by obtain ⟨rfl, rfl, rfl⟩ := tri3 ((pF_1 hp4).symm.trans hE); rfl, (hs.bel rfl)⟩
 ·skip
  have hp5 := of_decide_eq_false hc
  refine wp_skip (then_n (wp_seq (wp_seq ?_)))
  replace hs := hs.n0 [2, 3, 4] rfl rfl
  refine wp_region_lit ?_
  refine stp (op_fieldA hs none rfl rfl rfl underlying86 rfl sizeOf24 (by decide) rfl fun ac hs => ?_)
  refine ldd hs 1 (W z2) isAgg24 sizeOf24 rfl rfl rfl rfl rfl fun ac hs => ?_
  refine stp (op_build hs none (qs := []) (v := .agg #[.int .u64 0, .int .u64 0, .int .u64 0, .int .u64 0]) rfl rfl rfl rfl (fun _ => by kernel_rfl) rfl fun ac hs => ?_)
  refine stp (op_bin hs none (v := .bool (decide (z2 = 0))) rfl rfl rfl rfl (fun w => run_eqGuard_agg w .eql 24 _ _ _ _ Tryz.eqGuardType24) (eqlW z2 0 b3 (by decide) _ rfl) rfl fun ac hs => ?_)
  refine wpList_nil (then_n ?_)
  refine wp_cond_split (hs.ev rfl) (fun hc => ?_) (fun hc => ?_)
  ·skip
   have hp6 := of_decide_eq_true hc
   refine wp_seq (wp_region_lit ?_)
   refine ldd hs 0 (TV x1 y1 z1) isAgg86 sizeOf86 rfl rfl rfl rfl rfl fun ac hs => ?_
   refine stp (stoo hs 2 ((TVl x1 y1 z1)) sizeOf86 rfl rfl rfl rfl rfl rfl rfl rfl rfl rfl fun w hs => ?_)
   refine wpList_nil (then_n (wp_ret (then_r ?_)))
   exact bodyPost_ret (res1 rfl (rv_c hs 2 (v := TV x1 y1 z1) rfl rfl isAgg86 sizeOf86 rfl)) hs.defers ⟨by obtain ⟨rfl, rfl, rfl⟩ := tri3 ((pF_2 hp5 hp6).symm.trans hE); rfl, (hs.bel rfl)⟩
  ·skip
   have hp7 := of_decide_eq_false hc
   refine wp_skip (then_n (wp_seq ?_))
   replace hs := hs.n0 [2, 3, 4] rfl rfl
   obtain ⟨r8, hr8, lr8⟩ : ∃ z0, x1 * z2 % Pf = z0 ∧ z0 < 2 ^ 256 := ⟨_, rfl, modP_lt _⟩
   obtain ⟨r9, hr9, lr9⟩ : ∃ z0, y1 * z2 % Pf = z0 ∧ z0 < 2 ^ 256 := ⟨_, rfl, modP_lt _⟩
   refine region_inv [([], [1, 4, 9, 12, 13]), ([0], [4, 9, 12, 13]), ([], [3, 4, 9, 12, 13]), ([2], [4, 9, 12, 13]), (rgn 0 4, [9, 12, 13]), ([], [6, 9, 12, 13]), ([5], [9, 12, 13]), ([], [8, 9, 12, 13]), ([7], [9, 12, 13]), (rgn 0 9, [12, 13]), ([], [12, 13]), ([], [12, 13]), (rgn 0 12, [13]), (rgn 0 13, [])] (fun L ac w => ∃ (g10 : Nat) (g11 : Nat), St 100 w0 [(25, L 0, ptA g1 0), (26, L 1, W x1), (27, L 2, ptA g2 8), (28, L 3, W z2), (29, L 4, W r8), (30, L 5, ptA g1 4), (31, L 6, W y1), (32, L 7, ptA g2 8), (33, L 8, W z2), (34, L 9, W r9), (5, L 10, ptA g10 0), (6, L 11, ptA g11 0), (2, true, ptA g1 0), (3, true, ptA g2 0), (4, true, ptA g3 0)] [(true, g1, 86, (TVl x1 y1 z1)), (true, g2, 86, (TVl x2 y2 z2)), (true, g3, 86, (TVl 0 0 0)), (L 10, g10, 24, (cond (L 12) (Wl r8) [.int .u64 0, .int .u64 0, .int .u64 0, .int .u64 0])), (L 11, g11, 24, (cond (L 13) (Wl r9) [.int .u64 0, .int .u64 0, .int .u64 0, .int .u64 0]))] ac w) (by kernel_rfl) (by kernel_rfl) ?_ ?_ ?_
   ·exact ⟨0, 0, hs.drew.skip.skip.skip.skip.skip.skip.skip.skip.skip.skip.skip.skip.pad.pad⟩
   ·refine ⟨?_, ?_, ?_, ?_, ?_, ?_, ?_, ?_, ?_, ?_, ?_, ?_, ?_, ?_, trivial⟩
    ·exact fun L ac w ⟨g10, g11, hs⟩ => pln (op_fieldA hs (some 0) rfl rfl rfl underlying86 rfl sizeOf24 (by decide) rfl fun ac hs => ⟨g10, g11, hs⟩)
    ·exact fun L ac w ⟨g10, g11, hs⟩ => pln (oldd hs 1 0 (W x1) isAgg24 sizeOf24 rfl rfl rfl rfl rfl fun ac hs => ⟨g10, g11, hs⟩)
    ·exact fun L ac w ⟨g10, g11, hs⟩ => pln (op_fieldA hs (some 2) rfl rfl rfl underlying86 rfl sizeOf24 (by decide) rfl fun ac hs => ⟨g10, g11, hs⟩)
    ·exact fun L ac w ⟨g10, g11, hs⟩ => pln (oldd hs 3 1 (W z2) isAgg24 sizeOf24 rfl rfl rfl rfl rfl fun ac hs => ⟨g10, g11, hs⟩)
    ·exact fun L ac w ⟨g10, g11, hs⟩ => pln (op_call (F := 89) hs (some 4) (v := W r8) rfl rfl rfl rfl (call89 _) (rfmul_c x1 z2 r8 a1 b3 hr8) rfl fun ac w hs => ⟨g10, g11, hs⟩)
    ·exact fun L ac w ⟨g10, g11, hs⟩ => pln (op_fieldA hs (some 5) rfl rfl rfl underlying86 rfl sizeOf24 (by decide) rfl fun ac hs => ⟨g10, g11, hs⟩)
    ·exact fun L ac w ⟨g10, g11, hs⟩ => pln (oldd hs 6 0 (W y1) isAgg24 sizeOf24 rfl rfl rfl rfl rfl fun ac hs => ⟨g10, g11, hs⟩)
    ·exact fun L ac w ⟨g10, g11, hs⟩ => pln (op_fieldA hs (some 7) rfl rfl rfl underlying86 rfl sizeOf24 (by decide) rfl fun ac hs => ⟨g10, g11, hs⟩)
    ·exact fun L ac w ⟨g10, g11, hs⟩ => pln (oldd hs 8 1 (W z2) isAgg24 sizeOf24 rfl rfl rfl rfl rfl fun ac hs => ⟨g10, g11, hs⟩)
    ·exact fun L ac w ⟨g10, g11, hs⟩ => pln (op_call (F := 89) hs (some 9) (v := W r9) rfl rfl rfl rfl (call89 _) (rfmul_c y1 z2 r9 a2 b3 hr9) rfl fun ac w hs => ⟨g10, g11, hs⟩)
    ·exact fun L ac w ⟨g10, g11, hs⟩ => pln (op_alloc hs (some 10) (some 3) (cs := [.int .u64 0, .int .u64 0, .int .u64 0, .int .u64 0]) rfl rfl zeroValue24 (by kernel_rfl) rfl rfl fun g10 ac w hs => ⟨g10, g11, hs⟩)
    ·exact fun L ac w ⟨g10, g11, hs⟩ => pln (op_alloc hs (some 11) (some 4) (cs := [.int .u64 0, .int .u64 0, .int .u64 0, .int .u64 0]) rfl rfl zeroValue24 (by kernel_rfl) rfl rfl fun g11 ac w hs => ⟨g10, g11, hs⟩)
    ·exact fun L ac w ⟨g10, g11, hs⟩ => pln (stoo hs 3 ((Wl r8)) sizeOf24 rfl rfl rfl rfl rfl rfl rfl rfl rfl rfl fun w hs => ⟨g10, g11, hs⟩)
    ·exact fun L ac w ⟨g10, g11, hs⟩ => pln (stoo hs 4 ((Wl r9)) sizeOf24 rfl rfl rfl rfl rfl rfl rfl rfl rfl rfl fun w hs => ⟨g10, g11, hs⟩)
   intro ac w ⟨g10, g11, hs⟩
   try dsimp only [cond_true] at hs
   refine then_n (wp_seq ?_)
   replace hs := hs.n0 [2, 3, 4, 5, 6] rfl rfl
   obtain ⟨r12, hr12, lr12⟩ : ∃ z0, y2 * z1 % Pf = z0 ∧ z0 < 2 ^ 256 := ⟨_, rfl, modP_lt _⟩
   obtain ⟨r13, hr13, lr13⟩ : ∃ z0, fsub r12 r9 = z0 ∧ z0 < 2 ^ 256 := ⟨_, rfl, fsub_lt _ _⟩
   refine region_inv [([], [1, 4, 6, 8]), ([0], [4, 6, 8]), ([], [3, 4, 6, 8]), ([2], [4, 6, 8]), (rgn 0 4, [6, 8]), ([], [6, 8]), (rgn 0 6, [8]), ([], [8]), (rgn 0 8, [])] (fun L ac w => ∃ (g14 : Nat), St 100 w0 [(35, L 0, ptA g2 4), (36, L 1, W y2), (37, L 2, ptA g1 8), (38, L 3, W z1), (39, L 4, W r12), (40, L 5, W r9), (41, L 6, W r13), (7, L 7, ptA g14 0), (2, true, ptA g1 0), (3, true, ptA g2 0), (4, true, ptA g3 0), (5, true, ptA g10 0), (6, true, ptA g11 0)] [(true, g1, 86, (TVl x1 y1 z1)), (true, g2, 86, (TVl x2 y2 z2)), (true, g3, 86, (TVl 0 0 0)), (true, g10, 24, (Wl r8)), (true, g11, 24, (Wl r9)), (L 7, g14, 24, (cond (L 8) (Wl r13) [.int .u64 0, .int .u64 0, .int .u64 0, .int .u64 0]))] ac w) (by kernel_rfl) (by kernel_rfl) ?_ ?_ ?_
   ·exact ⟨0, hs.drew.skip.skip.skip.skip.skip.skip.skip.skip.pad⟩
   ·refine ⟨?_, ?_, ?_, ?_, ?_, ?_, ?_, ?_, ?_, trivial⟩
    ·exact fun L ac w ⟨g14, hs⟩ => pln (op_fieldA hs (some 0) rfl rfl rfl underlying86 rfl sizeOf24 (by decide) rfl fun ac hs => ⟨g14, hs⟩)
    ·exact fun L ac w ⟨g14, hs⟩ => pln (oldd hs 1 1 (W y2) isAgg24 sizeOf24 rfl rfl rfl rfl rfl fun ac hs => ⟨g14, hs⟩)
    ·exact fun L ac w ⟨g14, hs⟩ => pln (op_fieldA hs (some 2) rfl rfl rfl underlying86 rfl sizeOf24 (by decide) rfl fun ac hs => ⟨g14, hs⟩)
    ·exact fun L ac w ⟨g14, hs⟩ => pln (oldd hs 3 0 (W z1) isAgg24 sizeOf24 rfl rfl rfl rfl rfl fun ac hs => ⟨g14, hs⟩)
    ·exact fun L ac w ⟨g14, hs⟩ => pln (op_call (F := 89) hs (some 4) (v := W r12) rfl rfl rfl rfl (call89 _) (rfmul_c y2 z1 r12 b2 a3 hr12) rfl fun ac w hs => ⟨g14, hs⟩)
    ·exact fun L ac w ⟨g14, hs⟩ => pln (oldd hs 5 4 (W r9) isAgg24 sizeOf24 rfl rfl rfl rfl rfl fun ac hs => ⟨g14, hs⟩)
    ·exact fun L ac w ⟨g14, hs⟩ => pln (op_call (F := 124) hs (some 6) (v := W r13) rfl rfl rfl rfl (call124 _) (rfsub_c r12 r9 r13 lr12 lr9 hr13) rfl fun ac w hs => ⟨g14, hs⟩)
    ·exact fun L ac w ⟨g14, hs⟩ => pln (op_alloc hs (some 7) (some 5) (cs := [.int .u64 0, .int .u64 0, .int .u64 0, .int .u64 0]) rfl rfl zeroValue24 (by kernel_rfl) rfl rfl fun g14 ac w hs => ⟨g14, hs⟩)
    ·exact fun L ac w ⟨g14, hs⟩ => pln (stoo hs 5 ((Wl r13)) sizeOf24 rfl rfl rfl rfl rfl rfl rfl rfl rfl rfl fun w hs => ⟨g14, hs⟩)
   intro ac w ⟨g14, hs⟩
   try dsimp only [cond_true] at hs
   refine then_n (wp_seq ?_)
   replace hs := hs.n0 [2, 3, 4, 5, 6, 7] rfl rfl
   obtain ⟨r15, hr15, lr15⟩ : ∃ z0, x2 * z1 % Pf = z0 ∧ z0 < 2 ^ 256 := ⟨_, rfl, modP_lt _⟩
   obtain ⟨r16, hr16, lr16⟩ : ∃ z0, fsub r15 r8 = z0 ∧ z0 < 2 ^ 256 := ⟨_, rfl, fsub_lt _ _⟩
   refine region_inv [([], [1, 4, 6, 8]), ([0], [4, 6, 8]), ([], [3, 4, 6, 8]), ([2], [4, 6, 8]), (rgn 0 4, [6, 8]), ([], [6, 8]), (rgn 0 6, [8]), ([], [8]), (rgn 0 8, [])] (fun L ac w => ∃ (g17 : Nat), St 100 w0 [(42, L 0, ptA g2 0), (43, L 1, W x2), (44, L 2, ptA g1 8), (45, L 3, W z1), (46, L 4, W r15), (47, L 5, W r8), (48, L 6, W r16), (8, L 7, ptA g17 0), (2, true, ptA g1 0), (3, true, ptA g2 0), (4, true, ptA g3 0), (5, true, ptA g10 0), (6, true, ptA g11 0), (7, true, ptA g14 0)] [(true, g1, 86, (TVl x1 y1 z1)), (true, g2, 86, (TVl x2 y2 z2)), (true, g3, 86, (TVl 0 0 0)), (true, g10, 24, (Wl r8)), (true, g11, 24, (Wl r9)), (true, g14, 24, (Wl r13)), (L 7, g17, 24, (cond (L 8) (Wl r16) [.int .u64 0, .int .u64 0, .int .u64 0, .int .u64 0]))] ac w) (by kernel_rfl) (by kernel_rfl) ?_ ?_ ?_
   ·exact ⟨0, hs.drew.skip.skip.skip.skip.skip.skip.skip.skip.pad⟩
   ·refine ⟨?_, ?_, ?_, ?_, ?_, ?_, ?_, ?_, ?_, trivial⟩
    ·exact fun L ac w ⟨g17, hs⟩ => pln (op_fieldA hs (some 0) rfl rfl rfl underlying86 rfl sizeOf24 (by decide) rfl fun ac hs => ⟨g17, hs⟩)
    ·exact fun L ac w ⟨g17, hs⟩ => pln (oldd hs 1 1 (W x2) isAgg24 sizeOf24 rfl rfl rfl rfl rfl fun ac hs => ⟨g17, hs⟩)
    ·exact fun L ac w ⟨g17, hs⟩ => pln (op_fieldA hs (some 2) rfl rfl rfl underlying86 rfl sizeOf24 (by decide) rfl fun ac hs => ⟨g17, hs⟩)
    ·exact fun L ac w ⟨g17, hs⟩ => pln (oldd hs 3 0 (W z1) isAgg24 sizeOf24 rfl rfl rfl rfl rfl fun ac hs => ⟨g17, hs⟩)
    ·exact fun L ac w ⟨g17, hs⟩ => pln (op_call (F := 89) hs (some 4) (v := W r15) rfl rfl rfl rfl (call89 _) (rfmul_c x2 z1 r15 b1 a3 hr15) rfl fun ac w hs => ⟨g17, hs⟩)
    ·exact fun L ac w ⟨g17, hs⟩ => pln (oldd hs 5 3 (W r8) isAgg24 sizeOf24 rfl rfl rfl rfl rfl fun ac hs => ⟨g17, hs⟩)
    ·exact fun L ac w ⟨g17, hs⟩ => pln (op_call (F := 124) hs (some 6) (v := W r16) rfl rfl rfl rfl (call124 _) (rfsub_c r15 r8 r16 lr15 lr8 hr16) rfl fun ac w hs => ⟨g17, hs⟩)
    ·exact fun L ac w ⟨g17, hs⟩ => pln (op_alloc hs (some 7) (some 6) (cs := [.int .u64 0, .int .u64 0, .int .u64 0, .int .u64 0]) rfl rfl zeroValue24 (by kernel_rfl) rfl rfl fun g17 ac w hs => ⟨g17, hs⟩)
    ·exact fun L ac w ⟨g17, hs⟩ => pln (stoo hs 6 ((Wl r16)) sizeOf24 rfl rfl rfl rfl rfl rfl rfl rfl rfl rfl fun w hs => ⟨g17, hs⟩)
   intro ac w ⟨g17, hs⟩
   try dsimp only [cond_true] at hs
   refine then_n (wp_seq (wp_seq (wp_region_lit ?_)))
   refine ldd hs 6 (W r16) isAgg24 sizeOf24 rfl rfl rfl rfl rfl fun ac hs => ?_
   refine stp (op_build hs none (qs := []) (v := .agg #[.int .u64 0, .int .u64 0, .int .u64 0, .int .u64 0]) rfl rfl rfl rfl (fun _ => by kernel_rfl) rfl fun ac hs => ?_)
   refine stp (op_bin hs none (v := .bool (decide (r16 = 0))) rfl rfl rfl rfl (fun w => run_eqGuard_agg w .eql 24 _ _ _ _ Tryz.eqGuardType24) (eqlW r16 0 lr16 (by decide) _ rfl) rfl fun ac hs => ?_)
   refine wpList_nil (then_n ?_)
   refine wp_cond_split (hs.ev rfl) (fun hc => ?_) (fun hc => ?_)
   ·skip
    have hp18 := of_decide_eq_true hc
    refine wp_seq (wp_seq (wp_region_lit ?_))
    refine ldd hs 5 (W r13) isAgg24 sizeOf24 rfl rfl rfl rfl rfl fun ac hs => ?_
    refine stp (op_build hs none (qs := []) (v := .agg #[.int .u64 0, .int .u64 0, .int .u64 0, .int .u64 0]) rfl rfl rfl rfl (fun _ => by kernel_rfl) rfl fun ac hs => ?_)
    refine stp (op_bin hs none (v := .bool (decide (r13 = 0))) rfl rfl rfl rfl (fun w => run_eqGuard_agg w .eql 24 _ _ _ _ Tryz.eqGuardType24) (eqlW r13 0 lr13 (by decide) _ rfl) rfl fun ac hs => ?_)
    refine wpList_nil (then_n ?_)
    refine wp_cond_split (hs.ev rfl) (fun hc => ?_) (fun hc => ?_)
    ·skip
     have hp19 := of_decide_eq_true hc
     refine wp_seq ?_
     replace hs := hs.n0 [2, 3, 4, 5, 6, 7, 8] rfl rfl
     refine wp_region_lit ?_
     refine ldd hs 0 (TV x1 y1 z1) isAgg86 sizeOf86 rfl rfl rfl rfl rfl fun ac hs => ?_
     obtain ⟨X20, Y21, Z22, hX20, lX20, lY21, lZ22⟩ : ∃ zz0 zz1 zz2, tF x1 y1 z1 = (zz0, zz1, zz2) ∧ zz0 < 2 ^ 256 ∧ zz1 < 2 ^ 256 ∧ zz2 < 2 ^ 256 := tF_lt x1 y1 z1
     refine stp (op_call (F := 85) hs none (v := TV X20 Y21 Z22) rfl rfl rfl rfl (call85 _) (rtwice14_c x1 y1 z1 X20 Y21 Z22 a1 a2 a3 hX20) rfl fun ac w hs => ?_)
     refine stp (stoo hs 2 ((TVl X20 Y21 Z22)) sizeOf86 rfl rfl rfl rfl rfl rfl rfl rfl rfl rfl fun w hs => ?_)
     refine wpList_nil (then_n (wp_ret (then_r (then_r ?_))))
     exact bodyPost_ret (res1 rfl (rv_c hs 2 (v := TV X20 Y21 Z22) rfl rfl isAgg86 sizeOf86 rfl)) hs.defers ⟨by subst hr8 hr9 hr12 hr13 hr15 hr16; obtain ⟨rfl, rfl, rfl⟩ := tri3 (hX20.symm.trans ((pF_3 hp5 hp7 hp18 hp19).symm.trans hE)); rfl, (hs.bel rfl)⟩
    ·skip
     have hp23 := of_decide_eq_false hc
     refine wp_skip (then_n (wp_seq ?_))
     replace hs := hs.n0 [2, 3, 4, 5, 6, 7, 8] rfl rfl
     refine wp_region_lit ?_
     refine stp (op_build hs none (qs := []) (v := TV 0 0 0) rfl rfl rfl rfl (fun _ => by kernel_rfl) rfl fun ac hs => ?_)
     refine stp (stoo hs 2 ((TVl 0 0 0)) sizeOf86 rfl rfl rfl rfl rfl rfl rfl rfl rfl rfl fun w hs => ?_)
     refine wpList_nil (then_n (wp_ret (then_r ?_)))
     exact bodyPost_ret (res1 rfl (rv_c hs 2 (v := TV 0 0 0) rfl rfl isAgg86 sizeOf86 rfl)) hs.defers ⟨by subst hr8 hr9 hr12 hr13 hr15 hr16; obtain ⟨rfl, rfl, rfl⟩ := tri3 ((pF_4 hp5 hp7 hp18 hp23).symm.trans hE); rfl, (hs.bel rfl)⟩
   ·skip
    have hp24 := of_decide_eq_false hc
    refine wp_skip (then_n (wp_seq (wp_region_lit ?_)))
    refine stp (op_fieldA hs none rfl rfl rfl underlying86 rfl sizeOf24 (by decide) rfl fun ac hs => ?_)
    refine ldd hs 0 (W z1) isAgg24 sizeOf24 rfl rfl rfl rfl rfl fun ac hs => ?_
    refine stp (op_fieldA hs none rfl rfl rfl underlying86 rfl sizeOf24 (by decide) rfl fun ac hs => ?_)
    refine ldd hs 1 (W z2) isAgg24 sizeOf24 rfl rfl rfl rfl rfl fun ac hs => ?_
    obtain ⟨r25, hr25, lr25⟩ : ∃ z0, z1 * z2 % Pf = z0 ∧ z0 < 2 ^ 256 := ⟨_, rfl, modP_lt _⟩
    refine stp (op_call (F := 89) hs none (v := W r25) rfl rfl rfl rfl (call89 _) (rfmul_c z1 z2 r25 a3 b3 hr25) rfl fun ac w hs => ?_)
    refine stp (op_alloc hs none none (cs := [.int .u64 0, .int .u64 0, .int .u64 0, .int .u64 0]) rfl rfl zeroValue24 (by kernel_rfl) rfl rfl fun g26 ac w hs => ?_)
    refine stp (stoo hs 7 ((Wl r25)) sizeOf24 rfl rfl rfl rfl rfl rfl rfl rfl rfl rfl fun w hs => ?_)
    refine wpList_nil (then_n (wp_seq ?_))
    replace hs := hs.n0 [4, 5, 6, 7, 8, 9] rfl rfl
    refine wp_region_lit ?_
    refine ldd hs 6 (W r16) isAgg24 sizeOf24 rfl rfl rfl rfl rfl fun ac hs => ?_
    refine ldd hs 6 (W r16) isAgg24 sizeOf24 rfl rfl rfl rfl rfl fun ac hs => ?_
    obtain ⟨r27, hr27, lr27⟩ : ∃ z0, r16 * r16 % Pf = z0 ∧ z0 < 2 ^ 256 := ⟨_, rfl, modP_lt _⟩
    refine stp (op_call (F := 89) hs none (v := W r27) rfl rfl rfl rfl (call89 _) (rfmul_c r16 r16 r27 lr16 lr16 hr27) rfl fun ac w hs => ?_)
    refine stp (op_alloc hs none none (cs := [.int .u64 0, .int .u64 0, .int .u64 0, .int .u64 0]) rfl rfl zeroValue24 (by kernel_rfl) rfl rfl fun g28 ac w hs => ?_)
    refine stp (stoo hs 8 ((Wl r27)) sizeOf24 rfl rfl rfl rfl rfl rfl rfl rfl rfl rfl fun w hs => ?_)
    refine wpList_nil (then_n (wp_seq (wp_region_lit ?_)))
    refine ldd hs 8 (W r27) isAgg24 sizeOf24 rfl rfl rfl rfl rfl fun ac hs => ?_
    refine ldd hs 6 (W r16) isAgg24 sizeOf24 rfl rfl rfl rfl rfl fun ac hs => ?_
    obtain ⟨r29, hr29, lr29⟩ : ∃ z0, r27 * r16 % Pf = z0 ∧ z0 < 2 ^ 256 := ⟨_, rfl, modP_lt _⟩
    refine stp (op_call (F := 89) hs none (v := W r29) rfl rfl rfl rfl (call89 _) (rfmul_c r27 r16 r29 lr27 lr16 hr29) rfl fun ac w hs => ?_)
    refine stp (op_alloc hs none none (cs := [.int .u64 0, .int .u64 0, .int .u64 0, .int .u64 0]) rfl rfl zeroValue24 (by kernel_rfl) rfl rfl fun g30 ac w hs => ?_)
    refine stp (stoo hs 9 ((Wl r29)) sizeOf24 rfl rfl rfl rfl rfl rfl rfl rfl rfl rfl fun w hs => ?_)
    refine wpList_nil (then_n (wp_seq ?_))
    replace hs := hs.n0 [4, 5, 6, 7, 8, 9, 10, 11] rfl rfl
    refine wp_region_lit ?_
    refine ldd hs 8 (W r27) isAgg24 sizeOf24 rfl rfl rfl rfl rfl fun ac hs => ?_
    refine ldd hs 3 (W r8) isAgg24 sizeOf24 rfl rfl rfl rfl rfl fun ac hs => ?_
    obtain ⟨r31, hr31, lr31⟩ : ∃ z0, r27 * r8 % Pf = z0 ∧ z0 < 2 ^ 256 := ⟨_, rfl, modP_lt _⟩
    refine stp (op_call (F := 89) hs none (v := W r31) rfl rfl rfl rfl (call89 _) (rfmul_c r27 r8 r31 lr27 lr8 hr31) rfl fun ac w hs => ?_)
    refine stp (op_alloc hs none none (cs := [.int .u64 0, .int .u64 0, .int .u64 0, .int .u64 0]) rfl rfl zeroValue24 (by kernel_rfl) rfl rfl fun g32 ac w hs => ?_)
    refine stp (stoo hs 10 ((Wl r31)) sizeOf24 rfl rfl rfl rfl rfl rfl rfl rfl rfl rfl fun w hs => ?_)
    refine wpList_nil (then_n (wp_seq ?_))
    replace hs := hs.n0 [4, 6, 7, 8, 9, 11, 12] rfl rfl
    obtain ⟨r33, hr33, lr33⟩ : ∃ z0, r13 * r13 % Pf = z0 ∧ z0 < 2 ^ 256 := ⟨_, rfl, modP_lt _⟩
    obtain ⟨r34, hr34, lr34⟩ : ∃ z0, r33 * r25 % Pf = z0 ∧ z0 < 2 ^ 256 := ⟨_, rfl, modP_lt _⟩
    obtain ⟨r35, hr35, lr35⟩ : ∃ z0, fsub r34 r29 = z0 ∧ z0 < 2 ^ 256 := ⟨_, rfl, fsub_lt _ _⟩
    obtain ⟨r36, hr36, lr36⟩ : ∃ z0, (r31 + r31) % Pf = z0 ∧ z0 < 2 ^ 256 := ⟨_, rfl, modP_lt _⟩
    obtain ⟨r37, hr37, lr37⟩ : ∃ z0, fsub r35 r36 = z0 ∧ z0 < 2 ^ 256 := ⟨_, rfl, fsub_lt _ _⟩
    refine region_inv [([], [2, 4, 6, 9, 10, 12]), ([], [2, 4, 6, 9, 10, 12]), ([0, 1], [4, 6, 9, 10, 12]), ([], [4, 6, 9, 10, 12]), (rgn 0 4, [6, 9, 10, 12]), ([], [6, 9, 10, 12]), (rgn 0 6, [9, 10, 12]), ([], [9, 10, 12]), ([], [9, 10, 12]), (rgn 0 9, [10, 12]), (rgn 0 10, [12]), ([], [12]), (rgn 0 12, [])] (fun L ac w => ∃ (g38 : Nat), St 100 w0 [(72, L 0, W r13), (73, L 1, W r13), (74, L 2, W r33), (75, L 3, W r25), (76, L 4, W r34), (77, L 5, W r29), (78, L 6, W r35), (79, L 7, W r31), (80, L 8, W r31), (81, L 9, W r36), (82, L 10, W r37), (13, L 11, ptA g38 0), (4, true, ptA g3 0), (6, true, ptA g11 0), (7, true, ptA g14 0), (8, true, ptA g17 0), (9, true, ptA g26 0), (11, true, ptA g30 0), (12, true, ptA g32 0)] [(true, g1, 86, (TVl x1 y1 z1)), (true, g2, 86, (TVl x2 y2 z2)), (true, g3, 86, (TVl 0 0 0)), (true, g10, 24, (Wl r8)), (true, g11, 24, (Wl r9)), (true, g14, 24, (Wl r13)), (true, g17, 24, (Wl r16)), (true, g26, 24, (Wl r25)), (true, g28, 24, (Wl r27)), (true, g30, 24, (Wl r29)), (true, g32, 24, (Wl r31)), (L 11, g38, 24, (cond (L 12) (Wl r37) [.int .u64 0, .int .u64 0, .int .u64 0, .int .u64 0]))] ac w) (by kernel_rfl) (by kernel_rfl) ?_ ?_ ?_
    ·exact ⟨0, hs.drew.skip.skip.skip.skip.skip.skip.skip.skip.skip.skip.skip.skip.pad⟩
    ·refine ⟨?_, ?_, ?_, ?_, ?_, ?_, ?_, ?_, ?_, ?_, ?_, ?_, ?_, trivial⟩
     ·exact fun L ac w ⟨g38, hs⟩ => pln (oldd hs 0 5 (W r13) isAgg24 sizeOf24 rfl rfl rfl rfl rfl fun ac hs => ⟨g38, hs⟩)
     ·exact fun L ac w ⟨g38, hs⟩ => pln (oldd hs 1 5 (W r13) isAgg24 sizeOf24 rfl rfl rfl rfl rfl fun ac hs => ⟨g38, hs⟩)
     ·exact fun L ac w ⟨g38, hs⟩ => pln (op_call (F := 89) hs (some 2) (v := W r33) rfl rfl rfl rfl (call89 _) (rfmul_c r13 r13 r33 lr13 lr13 hr33) rfl fun ac w hs => ⟨g38, hs⟩)
     ·exact fun L ac w ⟨g38, hs⟩ => pln (oldd hs 3 7 (W r25) isAgg24 sizeOf24 rfl rfl rfl rfl rfl fun ac hs => ⟨g38, hs⟩)
     ·exact fun L ac w ⟨g38, hs⟩ => pln (op_call (F := 89) hs (some 4) (v := W r34) rfl rfl rfl rfl (call89 _) (rfmul_c r33 r25 r34 lr33 lr25 hr34) rfl fun ac w hs => ⟨g38, hs⟩)
     ·exact fun L ac w ⟨g38, hs⟩ => pln (oldd hs 5 9 (W r29) isAgg24 sizeOf24 rfl rfl rfl rfl rfl fun ac hs => ⟨g38, hs⟩)
     ·exact fun L ac w ⟨g38, hs⟩ => pln (op_call (F := 124) hs (some 6) (v := W r35) rfl rfl rfl rfl (call124 _) (rfsub_c r34 r29 r35 lr34 lr29 hr35) rfl fun ac w hs => ⟨g38, hs⟩)
     ·exact fun L ac w ⟨g38, hs⟩ => pln (oldd hs 7 10 (W r31) isAgg24 sizeOf24 rfl rfl rfl rfl rfl fun ac hs => ⟨g38, hs⟩)
     ·exact fun L ac w ⟨g38, hs⟩ => pln (oldd hs 8 10 (W r31) isAgg24 sizeOf24 rfl rfl rfl rfl rfl fun ac hs => ⟨g38, hs⟩)
     ·exact fun L ac w ⟨g38, hs⟩ => pln (op_call (F := 122) hs (some 9) (v := W r36) rfl rfl rfl rfl (call122 _) (rfadd_c r31 r31 r36 lr31 lr31 hr36) rfl fun ac w hs => ⟨g38, hs⟩)
     ·exact fun L ac w ⟨g38, hs⟩ => pln (op_call (F := 124) hs (some 10) (v := W r37) rfl rfl rfl rfl (call124 _) (rfsub_c r35 r36 r37 lr35 lr36 hr37) rfl fun ac w hs => ⟨g38, hs⟩)
     ·exact fun L ac w ⟨g38, hs⟩ => pln (op_alloc hs (some 11) (some 11) (cs := [.int .u64 0, .int .u64 0, .int .u64 0, .int .u64 0]) rfl rfl zeroValue24 (by kernel_rfl) rfl rfl fun g38 ac w hs => ⟨g38, hs⟩)
     ·exact fun L ac w ⟨g38, hs⟩ => pln (stoo hs 11 ((Wl r37)) sizeOf24 rfl rfl rfl rfl rfl rfl rfl rfl rfl rfl fun w hs => ⟨g38, hs⟩)
    intro ac w ⟨g38, hs⟩
    try dsimp only [cond_true] at hs
    refine then_n (wp_seq ?_)
    replace hs := hs.n0 [4, 6, 7, 8, 9, 11, 12, 13] rfl rfl
    obtain ⟨r39, hr39, lr39⟩ : ∃ z0, fsub r31 r37 = z0 ∧ z0 < 2 ^ 256 := ⟨_, rfl, fsub_lt _ _⟩
    obtain ⟨r40, hr40, lr40⟩ : ∃ z0, r13 * r39 % Pf = z0 ∧ z0 < 2 ^ 256 := ⟨_, rfl, modP_lt _⟩
    obtain ⟨r41, hr41, lr41⟩ : ∃ z0, r29 * r9 % Pf = z0 ∧ z0 < 2 ^ 256 := ⟨_, rfl, modP_lt _⟩
    obtain ⟨r42, hr42, lr42⟩ : ∃ z0, fsub r40 r41 = z0 ∧ z0 < 2 ^ 256 := ⟨_, rfl, fsub_lt _ _⟩
    refine region_inv [([], [4, 7, 8, 10]), ([], [3, 4, 7, 8, 10]), ([], [3, 4, 7, 8, 10]), ([1, 2], [4, 7, 8, 10]), (rgn 0 4, [7, 8, 10]), ([], [7, 8, 10]), ([], [7, 8, 10]), (rgn 0 7, [8, 10]), (rgn 0 8, [10]), ([], [10]), (rgn 0 10, [])] (fun L ac w => ∃ (g43 : Nat), St 100 w0 [(83, L 0, W r13), (84, L 1, W r31), (85, L 2, W r37), (86, L 3, W r39), (87, L 4, W r40), (88, L 5, W r29), (89, L 6, W r9), (90, L 7, W r41), (91, L 8, W r42), (14, L 9, ptA g43 0), (4, true, ptA g3 0), (6, true, ptA g11 0), (7, true, ptA g14 0), (8, true, ptA g17 0), (9, true, ptA g26 0), (11, true, ptA g30 0), (12, true, ptA g32 0), (13, true, ptA g38 0)] [(true, g1, 86, (TVl x1 y1 z1)), (true, g2, 86, (TVl x2 y2 z2)), (true, g3, 86, (TVl 0 0 0)), (true, g10, 24, (Wl r8)), (true, g11, 24, (Wl r9)), (true, g14, 24, (Wl r13)), (true, g17, 24, (Wl r16)), (true, g26, 24, (Wl r25)), (true, g28, 24, (Wl r27)), (true, g30, 24, (Wl r29)), (true, g32, 24, (Wl r31)), (true, g38, 24, (Wl r37)), (L 9, g43, 24, (cond (L 10) (Wl r42) [.int .u64 0, .int .u64 0, .int .u64 0, .int .u64 0]))] ac w) (by kernel_rfl) (by kernel_rfl) ?_ ?_ ?_
    ·exact ⟨0, hs.drew.skip.skip.skip.skip.skip.skip.skip.skip.skip.skip.pad⟩
    ·refine ⟨?_, ?_, ?_, ?_, ?_, ?_, ?_, ?_, ?_, ?_, ?_, trivial⟩
     ·exact fun L ac w ⟨g43, hs⟩ => pln (oldd hs 0 5 (W r13) isAgg24 sizeOf24 rfl rfl rfl rfl rfl fun ac hs => ⟨g43, hs⟩)
     ·exact fun L ac w ⟨g43, hs⟩ => pln (oldd hs 1 10 (W r31) isAgg24 sizeOf24 rfl rfl rfl rfl rfl fun ac hs => ⟨g43, hs⟩)
     ·exact fun L ac w ⟨g43, hs⟩ => pln (oldd hs 2 11 (W r37) isAgg24 sizeOf24 rfl rfl rfl rfl rfl fun ac hs => ⟨g43, hs⟩)
     ·exact fun L ac w ⟨g43, hs⟩ => pln (op_call (F := 124) hs (some 3) (v := W r39) rfl rfl rfl rfl (call124 _) (rfsub_c r31 r37 r39 lr31 lr37 hr39) rfl fun ac w hs => ⟨g43, hs⟩)
     ·exact fun L ac w ⟨g43, hs⟩ => pln (op_call (F := 89) hs (some 4) (v := W r40) rfl rfl rfl rfl (call89 _) (rfmul_c r13 r39 r40 lr13 lr39 hr40) rfl fun ac w hs => ⟨g43, hs⟩)
     ·exact fun L ac w ⟨g43, hs⟩ => pln (oldd hs 5 9 (W r29) isAgg24 sizeOf24 rfl rfl rfl rfl rfl fun ac hs => ⟨g43, hs⟩)
     ·exact fun L ac w ⟨g43, hs⟩ => pln (oldd hs 6 4 (W r9) isAgg24 sizeOf24 rfl rfl rfl rfl rfl fun ac hs => ⟨g43, hs⟩)
     ·exact fun L ac w ⟨g43, hs⟩ => pln (op_call (F := 89) hs (some 7) (v := W r41) rfl rfl rfl rfl (call89 _) (rfmul_c r29 r9 r41 lr29 lr9 hr41) rfl fun ac w hs => ⟨g43, hs⟩)
     ·exact fun L ac w ⟨g43, hs⟩ => pln (op_call (F := 124) hs (some 8) (v := W r42) rfl rfl rfl rfl (call124 _) (rfsub_c r40 r41 r42 lr40 lr41 hr42) rfl fun ac w hs => ⟨g43, hs⟩)
     ·exact fun L ac w ⟨g43, hs⟩ => pln (op_alloc hs (some 9) (some 12) (cs := [.int .u64 0, .int .u64 0, .int .u64 0, .int .u64 0]) rfl rfl zeroValue24 (by kernel_rfl) rfl rfl fun g43 ac w hs => ⟨g43, hs⟩)
     ·exact fun L ac w ⟨g43, hs⟩ => pln (stoo hs 12 ((Wl r42)) sizeOf24 rfl rfl rfl rfl rfl rfl rfl rfl rfl rfl fun w hs => ⟨g43, hs⟩)
    intro ac w ⟨g43, hs⟩
    try dsimp only [cond_true] at hs
    refine then_n (wp_seq ?_)
    replace hs := hs.n0 [4, 8, 9, 11, 13, 14] rfl rfl
    obtain ⟨r44, hr44, lr44⟩ : ∃ z0, r16 * r37 % Pf = z0 ∧ z0 < 2 ^ 256 := ⟨_, rfl, modP_lt _⟩
    obtain ⟨r45, hr45, lr45⟩ : ∃ z0, r29 * r25 % Pf = z0 ∧ z0 < 2 ^ 256 := ⟨_, rfl, modP_lt _⟩
    refine region_inv [([], [2, 6, 7, 8]), ([], [2, 6, 7, 8]), ([0, 1], [6, 7, 8]), ([], [7, 8]), ([], [6, 7, 8]), ([], [6, 7, 8]), ([0, 1, 2, 4, 5], [7, 8]), (rgn 0 7, [8]), (rgn 0 8, [])] (fun L ac w => St 100 w0 [(92, L 0, W r16), (93, L 1, W r37), (94, L 2, W r44), (95, L 3, W r42), (96, L 4, W r29), (97, L 5, W r25), (98, L 6, W r45), (99, L 7, TV r44 r42 r45), (4, true, ptA g3 0), (8, true, ptA g17 0), (9, true, ptA g26 0), (11, true, ptA g30 0), (13, true, ptA g38 0), (14, true, ptA g43 0)] [(true, g1, 86, (TVl x1 y1 z1)), (true, g2, 86, (TVl x2 y2 z2)), (true, g3, 86, (cond (L 8) (TVl r44 r42 r45) (TVl 0 0 0))), (true, g10, 24, (Wl r8)), (true, g11, 24, (Wl r9)), (true, g14, 24, (Wl r13)), (true, g17, 24, (Wl r16)), (true, g26, 24, (Wl r25)), (true, g28, 24, (Wl r27)), (true, g30, 24, (Wl r29)), (true, g32, 24, (Wl r31)), (true, g38, 24, (Wl r37)), (true, g43, 24, (Wl r42))] ac w) (by kernel_rfl) (by kernel_rfl) ?_ ?_ ?_
    ·exact hs.drew.skip.skip.skip.skip.skip.skip.skip.skip
    ·refine ⟨?_, ?_, ?_, ?_, ?_, ?_, ?_, ?_, ?_, trivial⟩
     ·exact fun L ac w hs => pln (oldd hs 0 6 (W r16) isAgg24 sizeOf24 rfl rfl rfl rfl rfl fun ac hs => hs)
     ·exact fun L ac w hs => pln (oldd hs 1 11 (W r37) isAgg24 sizeOf24 rfl rfl rfl rfl rfl fun ac hs => hs)
     ·exact fun L ac w hs => pln (op_call (F := 89) hs (some 2) (v := W r44) rfl rfl rfl rfl (call89 _) (rfmul_c r16 r37 r44 lr16 lr37 hr44) rfl fun ac w hs => hs)
     ·exact fun L ac w hs => pln (oldd hs 3 12 (W r42) isAgg24 sizeOf24 rfl rfl rfl rfl rfl fun ac hs => hs)
     ·exact fun L ac w hs => pln (oldd hs 4 9 (W r29) isAgg24 sizeOf24 rfl rfl rfl rfl rfl fun ac hs => hs)
     ·exact fun L ac w hs => pln (oldd hs 5 7 (W r25) isAgg24 sizeOf24 rfl rfl rfl rfl rfl fun ac hs => hs)
     ·exact fun L ac w hs => pln (op_call (F := 89) hs (some 6) (v := W r45) rfl rfl rfl rfl (call89 _) (rfmul_c r29 r25 r45 lr29 lr25 hr45) rfl fun ac w hs => hs)
     ·exact fun L ac w hs => pln (op_build hs (some 7) (qs := [(0, W r44), (1, W r42), (2, W r45)]) (v := TV r44 r42 r45) rfl rfl rfl rfl (fun _ => by kernel_rfl) rfl fun ac hs => hs)
     ·exact fun L ac w hs => pln (stoo hs 2 ((TVl r44 r42 r45)) sizeOf86 rfl rfl rfl rfl rfl rfl rfl rfl rfl rfl fun w hs => hs)
    intro ac w hs
    try dsimp only [cond_true] at hs
    refine then_n (wp_ret ?_)
    exact bodyPost_ret (res1 rfl (rv_c hs 2 (v := TV r44 r42 r45) rfl rfl isAgg86 sizeOf86 rfl)) hs.defers ⟨by subst hr8 hr9 hr12 hr13 hr15 hr16 hr25 hr27 hr29 hr31 hr33 hr34 hr35 hr36 hr37 hr39 hr40 hr41 hr42 hr44 hr45; obtain ⟨rfl, rfl, rfl⟩ := tri3 ((pF_5 hp5 hp7 hp24).symm.trans hE); rfl, (hs.bel rfl)⟩
theorem rmul14_c (a x y : Nat) (z : Bool) (P T : EM.Pt Pf) (ha : a < 2 ^ 256) (hx : x < 2 ^ 256) (hy : y < 2 ^ 256) (hP : ptOf x y z = P) (hT : EM.nmul a P = T) (w0 : World) : Calls prog 38 #[W a, PV x y z] w0 fun e w' => e = .returned (PV (px T) (py T) (pz T)) ∧ Below w0.heap.size w0 w' := by
 have oP : P.on := by rw [← hP]; exact pt_on x y z
 refine enter (n := 54) (args := [W a, PV x y z]) func38 rfl rfl (Nat.le_of_ble_eq_true rfl) fun ac hs => ?_
 refine wp_seq (wp_region_lit ?_)
 refine stp (op_box hs none none (cs := (Wl a)) rfl rfl rfl rfl rfl rfl fun g1 ac w hs => ?_)
 refine stp (op_box hs none none (cs := (PVl x y z)) rfl rfl rfl rfl rfl rfl fun g2 ac w hs => ?_)
 refine stp (op_alloc hs none none (cs := (PVl 0 0 false)) rfl rfl zeroValue42 (by kernel_rfl) rfl rfl fun g3 ac w hs => ?_)
 refine wpList_nil (then_n (wp_seq (wp_region_lit ?_)))
 refine ldd hs 1 (PV x y z) isAgg42 sizeOf42 rfl rfl rfl rfl rfl fun ac hs => ?_
 refine stp (op_call (F := 83) hs none (v := PV (px P) (py P) (pz P)) rfl rfl rfl rfl (call83 _) (own_c x y z P hx hy hP) rfl fun ac w hs => ?_)
 refine stp (stoo hs 1 ((PVl (px P) (py P) (pz P))) sizeOf42 rfl rfl rfl rfl rfl rfl rfl rfl rfl rfl fun w hs => ?_)
 refine wpList_nil (then_n (wp_seq ?_))
 replace hs : St 54 w0 [(2, true, ptA g1 0), (3, true, ptA g2 0), (4, true, ptA g3 0)] [(true, g1, 24, (Wl a)), (true, g2, 42, (PVl (px P) (py P) (pz P))), (true, g3, 42, (PVl 0 0 false))] ac _ := hs.re ⟨rfl, rfl, rfl, trivial⟩
 refine wp_region_lit ?_
 refine stp (op_fieldA hs none rfl rfl rfl underlying42 rfl sizeOf24 (by decide) rfl fun ac hs => ?_)
 refine ldd hs 1 (W (px P)) isAgg24 sizeOf24 rfl rfl rfl rfl rfl fun ac hs => ?_
 refine stp (op_fieldA hs none rfl rfl rfl underlying42 rfl sizeOf24 (by decide) rfl fun ac hs => ?_)
 refine ldd hs 1 (W (py P)) isAgg24 sizeOf24 rfl rfl rfl rfl rfl fun ac hs => ?_
 refine stp (op_build hs none (qs := [(0, .int .u64 1)]) (v := .agg #[.int .u64 1, .int .u64 0, .int .u64 0, .int .u64 0]) rfl rfl rfl rfl (fun _ => by kernel_rfl) rfl fun ac hs => ?_)
 refine stp (op_build hs none (qs := [(0, W (px P)), (1, W (py P)), (2, .agg #[.int .u64 1, .int .u64 0, .int .u64 0, .int .u64 0])]) (v := .agg #[.int .u64 (lim (px P) 0), .int .u64 (lim (px P) 1), .int .u64 (lim (px P) 2), .int .u64 (lim (px P) 3), .int .u64 (lim (py P) 0), .int .u64 (lim (py P) 1), .int .u64 (lim (py P) 2), .int .u64 (lim (py P) 3), .int .u64 1, .int .u64 0, .int .u64 0, .int .u64 0]) rfl rfl rfl rfl (fun _ => by kernel_rfl) rfl fun ac hs => ?_)
 refine stp (op_alloc hs none none (cs := (TVl 0 0 0)) rfl rfl zeroValue86 (by kernel_rfl) rfl rfl fun g4 ac w hs => ?_)
 refine stp (stoo hs 3 ([.int .u64 (lim (px P) 0), .int .u64 (lim (px P) 1), .int .u64 (lim (px P) 2), .int .u64 (lim (px P) 3), .int .u64 (lim (py P) 0), .int .u64 (lim (py P) 1), .int .u64 (lim (py P) 2), .int .u64 (lim (py P) 3), .int .u64 1, .int .u64 0, .int .u64 0, .int .u64 0]) sizeOf86 rfl rfl rfl rfl rfl rfl rfl rfl rfl rfl fun w hs => ?_)
 refine wpList_nil (then_n (wp_seq (wp_seq ?_)))
 replace hs : St 54 w0 [(2, true, ptA g1 0), (3, true, ptA g2 0), (4, true, ptA g3 0), (5, true, ptA g4 0)] [(true, g1, 24, (Wl a)), (true, g2, 42, (PVl (px P) (py P) (pz P))), (true, g3, 42, (PVl 0 0 false)), (true, g4, 86, [.int .u64 (lim (px P) 0), .int .u64 (lim (px P) 1), .int .u64 (lim (px P) 2), .int .u64 (lim (px P) 3), .int .u64 (lim (py P) 0), .int .u64 (lim (py P) 1), .int .u64 (lim (py P) 2), .int .u64 (lim (py P) 3), .int .u64 1, .int .u64 0, .int .u64 0, .int .u64 0])] ac _ := hs.re ⟨rfl, rfl, rfl, rfl, trivial⟩
 refine wp_region_lit ?_
 refine stp (op_fieldA hs none rfl rfl rfl underlying42 rfl sizeOf4 (by decide) rfl fun ac hs => ?_)
 refine ldd hs 1 (.bool (pz P)) isAgg4 sizeOf4 rfl rfl rfl rfl rfl fun ac hs => ?_
 refine wpList_nil (then_n ?_)
 refine wp_cond_split (hs.ev rfl) (fun hc => ?_) (fun hc => ?_)
 ·skip
  have hzP := hc
  refine wp_region_lit ?_
  refine stp (op_build hs none (qs := []) (v := TV 0 0 0) rfl rfl rfl rfl (fun _ => by kernel_rfl) rfl fun ac hs => ?_)
  refine stp (stoo hs 3 ((TVl 0 0 0)) sizeOf86 rfl rfl rfl rfl rfl rfl rfl rfl rfl rfl fun w hs => ?_)
  refine wpList_nil (then_n (wp_seq (wp_region_lit ?_)))
  refine stp (op_build hs none (qs := []) (v := TV 0 0 0) rfl rfl rfl rfl (fun _ => by kernel_rfl) rfl fun ac hs => ?_)
  refine stp (op_alloc hs none none (cs := (TVl 0 0 0)) rfl rfl zeroValue86 (by kernel_rfl) rfl rfl fun g5 ac w hs => ?_)
  refine stp (stoo hs 4 ((TVl 0 0 0)) sizeOf86 rfl rfl rfl rfl rfl rfl rfl rfl rfl rfl fun w hs => ?_)
  refine wpList_nil (then_n (wp_seq (wp_seq ?_)))
  replace hs : St 54 w0 [(2, true, ptA g1 0), (4, true, ptA g3 0), (5, true, ptA g4 0), (6, true, ptA g5 0)] [(true, g1, 24, (Wl a)), (true, g2, 42, (PVl (px P) (py P) (pz P))), (true, g3, 42, (PVl 0 0 false)), (true, g4, 86, (TVl 0 0 0)), (true, g5, 86, (TVl 0 0 0))] ac _ := hs.re ⟨rfl, rfl, rfl, rfl, trivial⟩
  refine wp_region_lit ?_
  refine ldd hs 0 (W a) isAgg24 sizeOf24 rfl rfl rfl rfl rfl fun ac hs => ?_
  have ll6 := ln_le a 256 ha
  refine stp (op_call (F := 84) hs none (v := ni64 (ln a)) rfl rfl rfl rfl (call84 _) (fun w => lenR_any w a ha) rfl fun ac w hs => ?_)
  refine bnn hs (.int .i64 (((ln a : Nat) : Int) - 1)) rfl rfl rfl rfl (bin_subP (by omega)) fun ac hs => ?_
  refine asg hs rfl rfl rfl fun ac hs => ?_
  refine wpList_nil (then_n (wp_block ?_))
  refine wp_loop_m (fun μ ac w => ∃ (k : Nat) (ox : Nat) (oy : Nat) (oz : Nat), (k) = μ ∧ (k ≤ 256) ∧ (FN ox oy oz (EM.nmul (a / 2 ^ k) P)) ∧ (ox < 2 ^ 256) ∧ (oy < 2 ^ 256) ∧ (oz < 2 ^ 256) ∧ St 54 w0 [(2, true, ptA g1 0), (4, true, ptA g3 0), (5, true, ptA g4 0), (6, true, ptA g5 0), (7, true, .int .i64 (((k : Nat) : Int) - 1))] [(true, g1, 24, (Wl a)), (true, g2, 42, (PVl (px P) (py P) (pz P))), (true, g3, 42, (PVl 0 0 false)), (true, g4, 86, (TVl 0 0 0)), (true, g5, 86, (TVl ox oy oz))] ac w) ?_ ?_
  ·exact ⟨_, (ln a), 0, 0, 0, rfl, (ln_le a 256 ha), (fn_start (ln_spec a).1), (by decide), (by decide), (by decide), (hs.re ⟨rfl, rfl, rfl, rfl, rfl, trivial⟩)⟩
  intro μ ac w ⟨k, ox, oy, oz, hμ, hk, hJn, lx, ly, lz, hs⟩
  refine wp_seq (wp_seq (wp_region_lit ?_))
  refine mvv hs rfl rfl rfl fun ac hs => ?_
  refine bnn hs (.bool (decide (1 ≤ k))) rfl rfl rfl rfl bin_geqP fun ac hs => ?_
  refine wpList_nil (then_n ?_)
  refine wp_cond_split (hs.ev rfl) (fun hc => ?_) (fun hc => ?_)
  ·skip
   have hp7 := of_decide_eq_true hc
   replace hs := hs.re (fs' := [(2, true, ptA g1 0), (4, true, ptA g3 0), (5, true, ptA g4 0), (6, true, ptA g5 0), (7, true, ni64 (k - 1)), (24, true, .int .i64 (((k : Nat) : Int) - 1)), (25, true, .bool (decide (1 ≤ k)))]) ⟨rfl, rfl, rfl, rfl, congrArg some (pre_nat hp7), rfl, rfl, trivial⟩
   refine wp_skip (then_n (wp_seq (wp_block (wp_seq (wp_region_lit ?_)))))
   refine ldd hs 4 (TV ox oy oz) isAgg86 sizeOf86 rfl rfl rfl rfl rfl fun ac hs => ?_
   obtain ⟨X8, Y9, Z10, hX8, lX8, lY9, lZ10⟩ : ∃ zz0 zz1 zz2, tF ox oy oz = (zz0, zz1, zz2) ∧ zz0 < 2 ^ 256 ∧ zz1 < 2 ^ 256 ∧ zz2 < 2 ^ 256 := tF_lt ox oy oz
   refine stp (op_call (F := 85) hs none (v := TV X8 Y9 Z10) rfl rfl rfl rfl (call85 _) (rtwice14_c ox oy oz X8 Y9 Z10 lx ly lz hX8) rfl fun ac w hs => ?_)
   refine stp (stoo hs 4 ((TVl X8 Y9 Z10)) sizeOf86 rfl rfl rfl rfl rfl rfl rfl rfl rfl rfl fun w hs => ?_)
   refine wpList_nil (then_n (wp_seq (wp_region_lit ?_)))
   refine ldd hs 0 (W a) isAgg24 sizeOf24 rfl rfl rfl rfl rfl fun ac hs => ?_
   refine mvv hs rfl rfl rfl fun ac hs => ?_
   obtain ⟨b11, hb11⟩ : ∃ z0, a / 2 ^ (k - 1) % 2 = z0 := ⟨_, rfl⟩
   have lb11 := bit_le hb11
   refine stp (op_call (F := 86) hs none (v := nu64 b11) rfl rfl rfl rfl (call86 _) (rbit_c a (k - 1) b11 (show k - 1 < 256 by omega) hb11) rfl fun ac w hs => ?_)
   refine bnn hs (.bool (decide (b11 = 1))) rfl rfl rfl rfl (bin_eqlN (y := 1)) fun ac hs => ?_
   refine wpList_nil (then_n ?_)
   refine wp_cond_split (hs.ev rfl) (fun hc => ?_) (fun hc => ?_)
   ·skip
    have hp12 := of_decide_eq_true hc
    replace hs : St 54 w0 [(2, true, ptA g1 0), (4, true, ptA g3 0), (5, true, ptA g4 0), (6, true, ptA g5 0), (7, true, ni64 (k - 1))] [(true, g1, 24, (Wl a)), (true, g2, 42, (PVl (px P) (py P) (pz P))), (true, g3, 42, (PVl 0 0 false)), (true, g4, 86, (TVl 0 0 0)), (true, g5, 86, (TVl X8 Y9 Z10))] ac _ := hs.re ⟨rfl, rfl, rfl, rfl, rfl, trivial⟩
    refine wp_region_lit ?_
    refine ldd hs 4 (TV X8 Y9 Z10) isAgg86 sizeOf86 rfl rfl rfl rfl rfl fun ac hs => ?_
    refine ldd hs 3 (TV 0 0 0) isAgg86 sizeOf86 rfl rfl rfl rfl rfl fun ac hs => ?_
    obtain ⟨X13, Y14, Z15, hX13, lX13, lY14, lZ15⟩ : ∃ zz0 zz1 zz2, pF X8 Y9 Z10 0 0 0 = (zz0, zz1, zz2) ∧ zz0 < 2 ^ 256 ∧ zz1 < 2 ^ 256 ∧ zz2 < 2 ^ 256 := pF_lt X8 Y9 Z10 0 0 0 lX8 lY9 lZ10 (by decide) (by decide) (by decide)
    refine stp (op_call (F := 87) hs none (v := TV X13 Y14 Z15) rfl rfl rfl rfl (call87 _) (rplus_c X8 Y9 Z10 0 0 0 X13 Y14 Z15 lX8 lY9 lZ10 (by decide) (by decide) (by decide) hX13) rfl fun ac w hs => ?_)
    refine stp (stoo hs 4 ((TVl X13 Y14 Z15)) sizeOf86 rfl rfl rfl rfl rfl rfl rfl rfl rfl rfl fun w hs => ?_)
    refine wpList_nil (blk_n (then_n (wp_region_lit ?_)))
    refine mvv hs rfl rfl rfl fun ac hs => ?_
    refine bnn hs (.int .i64 (((k - 1 : Nat) : Int) - 1)) rfl rfl rfl rfl (bin_subP (by omega)) fun ac hs => ?_
    refine asg hs rfl rfl rfl fun ac hs => ?_
    refine wpList_nil (then_n ?_)
    exact ⟨_, ⟨(k - 1), X13, Y14, Z15, rfl, (by omega), (oneT oP hp7 (hb11.trans hp12) (pF_fn (tF_fn hJn hX8) (frac_zero hzP) hX13)), lX13, lY14, lZ15, (hs.re ⟨rfl, rfl, rfl, rfl, rfl, trivial⟩)⟩, (by omega)⟩
   ·skip
    have hp16 := of_decide_eq_false hc
    refine wp_skip (blk_n (then_n ?_))
    replace hs : St 54 w0 [(2, true, ptA g1 0), (4, true, ptA g3 0), (5, true, ptA g4 0), (6, true, ptA g5 0), (7, true, ni64 (k - 1))] [(true, g1, 24, (Wl a)), (true, g2, 42, (PVl (px P) (py P) (pz P))), (true, g3, 42, (PVl 0 0 false)), (true, g4, 86, (TVl 0 0 0)), (true, g5, 86, (TVl X8 Y9 Z10))] ac _ := hs.re ⟨rfl, rfl, rfl, rfl, rfl, trivial⟩
    refine wp_region_lit ?_
    refine mvv hs rfl rfl rfl fun ac hs => ?_
    refine bnn hs (.int .i64 (((k - 1 : Nat) : Int) - 1)) rfl rfl rfl rfl (bin_subP (by omega)) fun ac hs => ?_
    refine asg hs rfl rfl rfl fun ac hs => ?_
    refine wpList_nil (then_n ?_)
    exact ⟨_, ⟨(k - 1), X8, Y9, Z10, rfl, (by omega), (oneF oP hp7 (fun h => hp16 (hb11.symm.trans h)) (tF_fn hJn hX8)), lX8, lY9, lZ10, (hs.re ⟨rfl, rfl, rfl, rfl, rfl, trivial⟩)⟩, (by omega)⟩
  ·skip
   have hp17 := of_decide_eq_false hc
   obtain rfl : k = 0 := by omega
   have hF : FN ox oy oz T := by rw [← hT]; rw [Nat.pow_zero, Nat.div_one] at hJn; exact hJn
   refine wp_exit (then_e (then_e (blk_e (then_n (wp_seq (wp_seq (wp_region_lit ?_)))))))
   refine stp (op_fieldA hs none rfl rfl rfl underlying86 rfl sizeOf24 (by decide) rfl fun ac hs => ?_)
   refine ldd hs 4 (W oz) isAgg24 sizeOf24 rfl rfl rfl rfl rfl fun ac hs => ?_
   refine stp (op_build hs none (qs := []) (v := .agg #[.int .u64 0, .int .u64 0, .int .u64 0, .int .u64 0]) rfl rfl rfl rfl (fun _ => by kernel_rfl) rfl fun ac hs => ?_)
   refine stp (op_bin hs none (v := .bool (decide (oz = 0))) rfl rfl rfl rfl (fun w => run_eqGuard_agg w .eql 24 _ _ _ _ Tryz.eqGuardType24) (eqlW oz 0 lz (by decide) _ rfl) rfl fun ac hs => ?_)
   refine wpList_nil (then_n ?_)
   refine wp_cond_split (hs.ev rfl) (fun hc => ?_) (fun hc => ?_)
   ·skip
    have hp18 := of_decide_eq_true hc
    refine wp_seq ?_
    replace hs : St 54 w0 [(4, true, ptA g3 0), (6, true, ptA g5 0)] [(true, g1, 24, (Wl a)), (true, g2, 42, (PVl (px P) (py P) (pz P))), (true, g3, 42, (PVl 0 0 false)), (true, g4, 86, (TVl 0 0 0)), (true, g5, 86, (TVl ox oy oz))] ac _ := hs.re ⟨rfl, rfl, trivial⟩
    refine wp_region_lit ?_
    refine stp (op_build hs none (qs := [(2, .bool true)]) (v := PV 0 0 true) rfl rfl rfl rfl (fun _ => by kernel_rfl) rfl fun ac hs => ?_)
    refine stp (stoo hs 2 ((PVl 0 0 true)) sizeOf42 rfl rfl rfl rfl rfl rfl rfl rfl rfl rfl fun w hs => ?_)
    refine wpList_nil (then_n (wp_ret (then_r ?_)))
    exact bodyPost_ret (res1 rfl (rv_c hs 2 (v := PV 0 0 true) rfl rfl isAgg42 sizeOf42 rfl)) hs.defers ⟨by rw [fn_zero hF hp18]; first | done | rfl, (hs.bel rfl)⟩
   ·skip
    have hp19 := of_decide_eq_false hc
    refine wp_skip (then_n (wp_seq ?_))
    replace hs : St 54 w0 [(4, true, ptA g3 0), (6, true, ptA g5 0)] [(true, g1, 24, (Wl a)), (true, g2, 42, (PVl (px P) (py P) (pz P))), (true, g3, 42, (PVl 0 0 false)), (true, g4, 86, (TVl 0 0 0)), (true, g5, 86, (TVl ox oy oz))] ac _ := hs.re ⟨rfl, rfl, trivial⟩
    refine wp_region_lit ?_
    refine stp (op_fieldA hs none rfl rfl rfl underlying86 rfl sizeOf24 (by decide) rfl fun ac hs => ?_)
    refine ldd hs 4 (W oz) isAgg24 sizeOf24 rfl rfl rfl rfl rfl fun ac hs => ?_
    obtain ⟨r20, hr20, lr20⟩ : ∃ z0, pinv Pf oz = z0 ∧ z0 < 2 ^ 256 := ⟨_, rfl, modP_lt _⟩
    refine stp (op_call (F := 88) hs none (v := W r20) rfl rfl rfl rfl (call88 _) (rfinv_c oz r20 lz hr20) rfl fun ac w hs => ?_)
    refine stp (op_alloc hs none none (cs := [.int .u64 0, .int .u64 0, .int .u64 0, .int .u64 0]) rfl rfl zeroValue24 (by kernel_rfl) rfl rfl fun g21 ac w hs => ?_)
    refine stp (stoo hs 5 ((Wl r20)) sizeOf24 rfl rfl rfl rfl rfl rfl rfl rfl rfl rfl fun w hs => ?_)
    refine wpList_nil (then_n (wp_seq ?_))
    replace hs : St 54 w0 [(4, true, ptA g3 0), (6, true, ptA g5 0), (8, true, ptA g21 0)] [(true, g1, 24, (Wl a)), (true, g2, 42, (PVl (px P) (py P) (pz P))), (true, g3, 42, (PVl 0 0 false)), (true, g4, 86, (TVl 0 0 0)), (true, g5, 86, (TVl ox oy oz)), (true, g21, 24, (Wl r20))] ac _ := hs.re ⟨rfl, rfl, rfl, trivial⟩
    obtain ⟨r22, hr22, lr22⟩ : ∃ z0, ox * r20 % Pf = z0 ∧ z0 < 2 ^ 256 := ⟨_, rfl, modP_lt _⟩
    obtain ⟨r23, hr23, lr23⟩ : ∃ z0, oy * r20 % Pf = z0 ∧ z0 < 2 ^ 256 := ⟨_, rfl, modP_lt _⟩
    refine region_inv [([], [1, 3, 7, 8, 9]), ([0], [3, 7, 8, 9]), ([], [3, 7, 8, 9]), ([0, 1, 2], [7, 8, 9]), ([], [5, 7, 8, 9]), ([4], [7, 8, 9]), ([], [7, 8, 9]), (rgn 0 7, [8, 9]), (rgn 0 8, [9]), (rgn 0 9, [])] (fun L ac w => St 54 w0 [(45, L 0, ptA g5 0), (46, L 1, W ox), (47, L 2, W r20), (48, L 3, W r22), (49, L 4, ptA g5 4), (50, L 5, W oy), (51, L 6, W r20), (52, L 7, W r23), (53, L 8, PV r22 r23 false), (4, true, ptA g3 0), (6, true, ptA g5 0), (8, true, ptA g21 0)] [(true, g1, 24, (Wl a)), (true, g2, 42, (PVl (px P) (py P) (pz P))), (true, g3, 42, (cond (L 9) (PVl r22 r23 false) (PVl 0 0 false))), (true, g4, 86, (TVl 0 0 0)), (true, g5, 86, (TVl ox oy oz)), (true, g21, 24, (Wl r20))] ac w) (by kernel_rfl) (by kernel_rfl) ?_ ?_ ?_
    ·exact hs.drew.skip.skip.skip.skip.skip.skip.skip.skip.skip
    ·refine ⟨?_, ?_, ?_, ?_, ?_, ?_, ?_, ?_, ?_, ?_, trivial⟩
     ·exact fun L ac w hs => pln (op_fieldA hs (some 0) rfl rfl rfl underlying86 rfl sizeOf24 (by decide) rfl fun ac hs => hs)
     ·exact fun L ac w hs => pln (oldd hs 1 4 (W ox) isAgg24 sizeOf24 rfl rfl rfl rfl rfl fun ac hs => hs)
     ·exact fun L ac w hs => pln (oldd hs 2 5 (W r20) isAgg24 sizeOf24 rfl rfl rfl rfl rfl fun ac hs => hs)
     ·exact fun L ac w hs => pln (op_call (F := 89) hs (some 3) (v := W r22) rfl rfl rfl rfl (call89 _) (rfmul_c ox r20 r22 lx lr20 hr22) rfl fun ac w hs => hs)
     ·exact fun L ac w hs => pln (op_fieldA hs (some 4) rfl rfl rfl underlying86 rfl sizeOf24 (by decide) rfl fun ac hs => hs)
     ·exact fun L ac w hs => pln (oldd hs 5 4 (W oy) isAgg24 sizeOf24 rfl rfl rfl rfl rfl fun ac hs => hs)
     ·exact fun L ac w hs => pln (oldd hs 6 5 (W r20) isAgg24 sizeOf24 rfl rfl rfl rfl rfl fun ac hs => hs)
     ·exact fun L ac w hs => pln (op_call (F := 89) hs (some 7) (v := W r23) rfl rfl rfl rfl (call89 _) (rfmul_c oy r20 r23 ly lr20 hr23) rfl fun ac w hs => hs)
     ·exact fun L ac w hs => pln (op_build hs (some 8) (qs := [(0, W r22), (1, W r23)]) (v := PV r22 r23 false) rfl rfl rfl rfl (fun _ => by kernel_rfl) rfl fun ac hs => hs)
     ·exact fun L ac w hs => pln (stoo hs 2 ((PVl r22 r23 false)) sizeOf42 rfl rfl rfl rfl rfl rfl rfl rfl rfl rfl fun w hs => hs)
    intro ac w hJ
    replace hs : St 54 w0 [(45, true, ptA g5 0), (46, true, W ox), (47, true, W r20), (48, true, W r22), (49, true, ptA g5 4), (50, true, W oy), (51, true, W r20), (52, true, W r23), (53, true, PV r22 r23 false), (4, true, ptA g3 0), (6, true, ptA g5 0), (8, true, ptA g21 0)] [(true, g1, 24, (Wl a)), (true, g2, 42, (PVl (px P) (py P) (pz P))), (true, g3, 42, (PVl r22 r23 false)), (true, g4, 86, (TVl 0 0 0)), (true, g5, 86, (TVl ox oy oz)), (true, g21, 24, (Wl r20))] ac w := hJ
    refine then_n (wp_ret ?_)
    exact bodyPost_ret (res1 rfl (rv_c hs 2 (v := PV r22 r23 false) rfl rfl isAgg42 sizeOf42 rfl)) hs.defers ⟨by obtain ⟨e1, e2, e3⟩ := fplain_law hF hp19 hr20 hr22 hr23; rw [e1, e2, e3]; first | done | rfl, (hs.bel rfl)⟩
 ·skip
  have hzP := hc
  refine wp_skip (then_n (wp_seq (wp_region_lit ?_)))
  refine stp (op_build hs none (qs := []) (v := TV 0 0 0) rfl rfl rfl rfl (fun _ => by kernel_rfl) rfl fun ac hs => ?_)
  refine stp (op_alloc hs none none (cs := (TVl 0 0 0)) rfl rfl zeroValue86 (by kernel_rfl) rfl rfl fun g24 ac w hs => ?_)
  refine stp (stoo hs 4 ((TVl 0 0 0)) sizeOf86 rfl rfl rfl rfl rfl rfl rfl rfl rfl rfl fun w hs => ?_)
  refine wpList_nil (then_n (wp_seq (wp_seq (wp_region_lit ?_))))
  refine ldd hs 0 (W a) isAgg24 sizeOf24 rfl rfl rfl rfl rfl fun ac hs => ?_
  have ll25 := ln_le a 256 ha
  refine stp (op_call (F := 84) hs none (v := ni64 (ln a)) rfl rfl rfl rfl (call84 _) (fun w => lenR_any w a ha) rfl fun ac w hs => ?_)
  refine bnn hs (.int .i64 (((ln a : Nat) : Int) - 1)) rfl rfl rfl rfl (bin_subP (by omega)) fun ac hs => ?_
  refine asg hs rfl rfl rfl fun ac hs => ?_
  refine wpList_nil (then_n (wp_block ?_))
  refine wp_loop_m (fun μ ac w => ∃ (k : Nat) (ox : Nat) (oy : Nat) (oz : Nat), (k) = μ ∧ (k ≤ 256) ∧ (FN ox oy oz (EM.nmul (a / 2 ^ k) P)) ∧ (ox < 2 ^ 256) ∧ (oy < 2 ^ 256) ∧ (oz < 2 ^ 256) ∧ St 54 w0 [(2, true, ptA g1 0), (4, true, ptA g3 0), (5, true, ptA g4 0), (6, true, ptA g24 0), (7, true, .int .i64 (((k : Nat) : Int) - 1))] [(true, g1, 24, (Wl a)), (true, g2, 42, (PVl (px P) (py P) (pz P))), (true, g3, 42, (PVl 0 0 false)), (true, g4, 86, [.int .u64 (lim (px P) 0), .int .u64 (lim (px P) 1), .int .u64 (lim (px P) 2), .int .u64 (lim (px P) 3), .int .u64 (lim (py P) 0), .int .u64 (lim (py P) 1), .int .u64 (lim (py P) 2), .int .u64 (lim (py P) 3), .int .u64 1, .int .u64 0, .int .u64 0, .int .u64 0]), (true, g24, 86, (TVl ox oy oz))] ac w) ?_ ?_
  ·exact ⟨_, (ln a), 0, 0, 0, rfl, (ln_le a 256 ha), (fn_start (ln_spec a).1), (by decide), (by decide), (by decide), (hs.re ⟨rfl, rfl, rfl, rfl, rfl, trivial⟩)⟩
  intro μ ac w ⟨k, ox, oy, oz, hμ, hk, hJn, lx, ly, lz, hs⟩
  refine wp_seq (wp_seq (wp_region_lit ?_))
  refine mvv hs rfl rfl rfl fun ac hs => ?_
  refine bnn hs (.bool (decide (1 ≤ k))) rfl rfl rfl rfl bin_geqP fun ac hs => ?_
  refine wpList_nil (then_n ?_)
  refine wp_cond_split (hs.ev rfl) (fun hc => ?_) (fun hc => ?_)
  ·skip
   have hp26 := of_decide_eq_true hc
   replace hs := hs.re (fs' := [(2, true, ptA g1 0), (4, true, ptA g3 0), (5, true, ptA g4 0), (6, true, ptA g24 0), (7, true, ni64 (k - 1)), (24, true, .int .i64 (((k : Nat) : Int) - 1)), (25, true, .bool (decide (1 ≤ k)))]) ⟨rfl, rfl, rfl, rfl, congrArg some (pre_nat hp26), rfl, rfl, trivial⟩
   refine wp_skip (then_n (wp_seq (wp_block (wp_seq (wp_region_lit ?_)))))
   refine ldd hs 4 (TV ox oy oz) isAgg86 sizeOf86 rfl rfl rfl rfl rfl fun ac hs => ?_
   obtain ⟨X27, Y28, Z29, hX27, lX27, lY28, lZ29⟩ : ∃ zz0 zz1 zz2, tF ox oy oz = (zz0, zz1, zz2) ∧ zz0 < 2 ^ 256 ∧ zz1 < 2 ^ 256 ∧ zz2 < 2 ^ 256 := tF_lt ox oy oz
   refine stp (op_call (F := 85) hs none (v := TV X27 Y28 Z29) rfl rfl rfl rfl (call85 _) (rtwice14_c ox oy oz X27 Y28 Z29 lx ly lz hX27) rfl fun ac w hs => ?_)
   refine stp (stoo hs 4 ((TVl X27 Y28 Z29)) sizeOf86 rfl rfl rfl rfl rfl rfl rfl rfl rfl rfl fun w hs => ?_)
   refine wpList_nil (then_n (wp_seq (wp_region_lit ?_)))
   refine ldd hs 0 (W a) isAgg24 sizeOf24 rfl rfl rfl rfl rfl fun ac hs => ?_
   refine mvv hs rfl rfl rfl fun ac hs => ?_
   obtain ⟨b30, hb30⟩ : ∃ z0, a / 2 ^ (k - 1) % 2 = z0 := ⟨_, rfl⟩
   have lb30 := bit_le hb30
   refine stp (op_call (F := 86) hs none (v := nu64 b30) rfl rfl rfl rfl (call86 _) (rbit_c a (k - 1) b30 (show k - 1 < 256 by omega) hb30) rfl fun ac w hs => ?_)
   refine bnn hs (.bool (decide (b30 = 1))) rfl rfl rfl rfl (bin_eqlN (y := 1)) fun ac hs => ?_
   refine wpList_nil (then_n ?_)
   refine wp_cond_split (hs.ev rfl) (fun hc => ?_) (fun hc => ?_)
   ·skip
    have hp31 := of_decide_eq_true hc
    replace hs : St 54 w0 [(2, true, ptA g1 0), (4, true, ptA g3 0), (5, true, ptA g4 0), (6, true, ptA g24 0), (7, true, ni64 (k - 1))] [(true, g1, 24, (Wl a)), (true, g2, 42, (PVl (px P) (py P) (pz P))), (true, g3, 42, (PVl 0 0 false)), (true, g4, 86, [.int .u64 (lim (px P) 0), .int .u64 (lim (px P) 1), .int .u64 (lim (px P) 2), .int .u64 (lim (px P) 3), .int .u64 (lim (py P) 0), .int .u64 (lim (py P) 1), .int .u64 (lim (py P) 2), .int .u64 (lim (py P) 3), .int .u64 1, .int .u64 0, .int .u64 0, .int .u64 0]), (true, g24, 86, (TVl X27 Y28 Z29))] ac _ := hs.re ⟨rfl, rfl, rfl, rfl, rfl, trivial⟩
    refine wp_region_lit ?_
    refine ldd hs 4 (TV X27 Y28 Z29) isAgg86 sizeOf86 rfl rfl rfl rfl rfl fun ac hs => ?_
    refine ldd hs 3 (.agg #[.int .u64 (lim (px P) 0), .int .u64 (lim (px P) 1), .int .u64 (lim (px P) 2), .int .u64 (lim (px P) 3), .int .u64 (lim (py P) 0), .int .u64 (lim (py P) 1), .int .u64 (lim (py P) 2), .int .u64 (lim (py P) 3), .int .u64 1, .int .u64 0, .int .u64 0, .int .u64 0]) isAgg86 sizeOf86 rfl rfl rfl rfl rfl fun ac hs => ?_
    obtain ⟨X32, Y33, Z34, hX32, lX32, lY33, lZ34⟩ : ∃ zz0 zz1 zz2, pF X27 Y28 Z29 (px P) (py P) 1 = (zz0, zz1, zz2) ∧ zz0 < 2 ^ 256 ∧ zz1 < 2 ^ 256 ∧ zz2 < 2 ^ 256 := pF_lt X27 Y28 Z29 (px P) (py P) 1 lX27 lY28 lZ29 (px_lt P) (py_lt P) (by decide)
    refine stp (op_call (F := 87) hs none (v := TV X32 Y33 Z34) rfl rfl rfl rfl (call87 _) (rplus_c X27 Y28 Z29 (px P) (py P) 1 X32 Y33 Z34 lX27 lY28 lZ29 (px_lt P) (py_lt P) (by decide) hX32) rfl fun ac w hs => ?_)
    refine stp (stoo hs 4 ((TVl X32 Y33 Z34)) sizeOf86 rfl rfl rfl rfl rfl rfl rfl rfl rfl rfl fun w hs => ?_)
    refine wpList_nil (blk_n (then_n (wp_region_lit ?_)))
    refine mvv hs rfl rfl rfl fun ac hs => ?_
    refine bnn hs (.int .i64 (((k - 1 : Nat) : Int) - 1)) rfl rfl rfl rfl (bin_subP (by omega)) fun ac hs => ?_
    refine asg hs rfl rfl rfl fun ac hs => ?_
    refine wpList_nil (then_n ?_)
    exact ⟨_, ⟨(k - 1), X32, Y33, Z34, rfl, (by omega), (oneT oP hp26 (hb30.trans hp31) (pF_fn (tF_fn hJn hX27) (frac_one oP hzP) hX32)), lX32, lY33, lZ34, (hs.re ⟨rfl, rfl, rfl, rfl, rfl, trivial⟩)⟩, (by omega)⟩
   ·skip
    have hp35 := of_decide_eq_false hc
    refine wp_skip (blk_n (then_n ?_))
    replace hs : St 54 w0 [(2, true, ptA g1 0), (4, true, ptA g3 0), (5, true, ptA g4 0), (6, true, ptA g24 0), (7, true, ni64 (k - 1))] [(true, g1, 24, (Wl a)), (true, g2, 42, (PVl (px P) (py P) (pz P))), (true, g3, 42, (PVl 0 0 false)), (true, g4, 86, [.int .u64 (lim (px P) 0), .int .u64 (lim (px P) 1), .int .u64 (lim (px P) 2), .int .u64 (lim (px P) 3), .int .u64 (lim (py P) 0), .int .u64 (lim (py P) 1), .int .u64 (lim (py P) 2), .int .u64 (lim (py P) 3), .int .u64 1, .int .u64 0, .int .u64 0, .int .u64 0]), (true, g24, 86, (TVl X27 Y28 Z29))] ac _ := hs.re ⟨rfl, rfl, rfl, rfl, rfl, trivial⟩
    refine wp_region_lit ?_
    refine mvv hs rfl rfl rfl fun ac hs => ?_
    refine bnn hs (.int .i64 (((k - 1 : Nat) : Int) - 1)) rfl rfl rfl rfl (bin_subP (by omega)) fun ac hs => ?_
    refine asg hs rfl rfl rfl fun ac hs => ?_
    refine wpList_nil (then_n ?_)
    exact ⟨_, ⟨(k - 1), X27, Y28, Z29, rfl, (by omega), (oneF oP hp26 (fun h => hp35 (hb30.symm.trans h)) (tF_fn hJn hX27)), lX27, lY28, lZ29, (hs.re ⟨rfl, rfl, rfl, rfl, rfl, trivial⟩)⟩, (by omega)⟩
  ·skip
   have hp36 := of_decide_eq_false hc
   obtain rfl : k = 0 := by omega
   have hF : FN ox oy oz T := by rw [← hT]; rw [Nat.pow_zero, Nat.div_one] at hJn; exact hJn
   refine wp_exit (then_e (then_e (blk_e (then_n (wp_seq (wp_seq (wp_region_lit ?_)))))))
   refine stp (op_fieldA hs none rfl rfl rfl underlying86 rfl sizeOf24 (by decide) rfl fun ac hs => ?_)
   refine ldd hs 4 (W oz) isAgg24 sizeOf24 rfl rfl rfl rfl rfl fun ac hs => ?_
   refine stp (op_build hs none (qs := []) (v := .agg #[.int .u64 0, .int .u64 0, .int .u64 0, .int .u64 0]) rfl rfl rfl rfl (fun _ => by kernel_rfl) rfl fun ac hs => ?_)
   refine stp (op_bin hs none (v := .bool (decide (oz = 0))) rfl rfl rfl rfl (fun w => run_eqGuard_agg w .eql 24 _ _ _ _ Tryz.eqGuardType24) (eqlW oz 0 lz (by decide) _ rfl) rfl fun ac hs => ?_)
   refine wpList_nil (then_n ?_)
   refine wp_cond_split (hs.ev rfl) (fun hc => ?_) (fun hc => ?_)
   ·skip
    have hp37 := of_decide_eq_true hc
    refine wp_seq ?_
    replace hs : St 54 w0 [(4, true, ptA g3 0), (6, true, ptA g24 0)] [(true, g1, 24, (Wl a)), (true, g2, 42, (PVl (px P) (py P) (pz P))), (true, g3, 42, (PVl 0 0 false)), (true, g4, 86, [.int .u64 (lim (px P) 0), .int .u64 (lim (px P) 1), .int .u64 (lim (px P) 2), .int .u64 (lim (px P) 3), .int .u64 (lim (py P) 0), .int .u64 (lim (py P) 1), .int .u64 (lim (py P) 2), .int .u64 (lim (py P) 3), .int .u64 1, .int .u64 0, .int .u64 0, .int .u64 0]), (true, g24, 86, (TVl ox oy oz))] ac _ := hs.re ⟨rfl, rfl, trivial⟩
    refine wp_region_lit ?_
    refine stp (op_build hs none (qs := [(2, .bool true)]) (v := PV 0 0 true) rfl rfl rfl rfl (fun _ => by kernel_rfl) rfl fun ac hs => ?_)
    refine stp (stoo hs 2 ((PVl 0 0 true)) sizeOf42 rfl rfl rfl rfl rfl rfl rfl rfl rfl rfl fun w hs => ?_)
    refine wpList_nil (then_n (wp_ret (then_r ?_)))
    exact bodyPost_ret (res1 rfl (rv_c hs 2 (v := PV 0 0 true) rfl rfl isAgg42 sizeOf42 rfl)) hs.defers ⟨by rw [fn_zero hF hp37]; first | done | rfl, (hs.bel rfl)⟩
   ·skip
    have hp38 := of_decide_eq_false hc
    refine wp_skip (then_n (wp_seq ?_))
    replace hs : St 54 w0 [(4, true, ptA g3 0), (6, true, ptA g24 0)] [(true, g1, 24, (Wl a)), (true, g2, 42, (PVl (px P) (py P) (pz P))), (true, g3, 42, (PVl 0 0 false)), (true, g4, 86, [.int .u64 (lim (px P) 0), .int .u64 (lim (px P) 1), .int .u64 (lim (px P) 2), .int .u64 (lim (px P) 3), .int .u64 (lim (py P) 0), .int .u64 (lim (py P) 1), .int .u64 (lim (py P) 2), .int .u64 (lim (py P) 3), .int .u64 1, .int .u64 0, .int .u64 0, .int .u64 0]), (true, g24, 86, (TVl ox oy oz))] ac _ := hs.re ⟨rfl, rfl, trivial⟩
    refine wp_region_lit ?_
    refine stp (op_fieldA hs none rfl rfl rfl underlying86 rfl sizeOf24 (by decide) rfl fun ac hs => ?_)
    refine ldd hs 4 (W oz) isAgg24 sizeOf24 rfl rfl rfl rfl rfl fun ac hs => ?_
    obtain ⟨r39, hr39, lr39⟩ : ∃ z0, pinv Pf oz = z0 ∧ z0 < 2 ^ 256 := ⟨_, rfl, modP_lt _⟩
    refine stp (op_call (F := 88) hs none (v := W r39) rfl rfl rfl rfl (call88 _) (rfinv_c oz r39 lz hr39) rfl fun ac w hs => ?_)
    refine stp (op_alloc hs none none (cs := [.int .u64 0, .int .u64 0, .int .u64 0, .int .u64 0]) rfl rfl zeroValue24 (by kernel_rfl) rfl rfl fun g40 ac w hs => ?_)
    refine stp (stoo hs 5 ((Wl r39)) sizeOf24 rfl rfl rfl rfl rfl rfl rfl rfl rfl rfl fun w hs => ?_)
    refine wpList_nil (then_n (wp_seq ?_))
    replace hs : St 54 w0 [(4, true, ptA g3 0), (6, true, ptA g24 0), (8, true, ptA g40 0)] [(true, g1, 24, (Wl a)), (true, g2, 42, (PVl (px P) (py P) (pz P))), (true, g3, 42, (PVl 0 0 false)), (true, g4, 86, [.int .u64 (lim (px P) 0), .int .u64 (lim (px P) 1), .int .u64 (lim (px P) 2), .int .u64 (lim (px P) 3), .int .u64 (lim (py P) 0), .int .u64 (lim (py P) 1), .int .u64 (lim (py P) 2), .int .u64 (lim (py P) 3), .int .u64 1, .int .u64 0, .int .u64 0, .int .u64 0]), (true, g24, 86, (TVl ox oy oz)), (true, g40, 24, (Wl r39))] ac _ := hs.re ⟨rfl, rfl, rfl, trivial⟩
    obtain ⟨r41, hr41, lr41⟩ : ∃ z0, ox * r39 % Pf = z0 ∧ z0 < 2 ^ 256 := ⟨_, rfl, modP_lt _⟩
    obtain ⟨r42, hr42, lr42⟩ : ∃ z0, oy * r39 % Pf = z0 ∧ z0 < 2 ^ 256 := ⟨_, rfl, modP_lt _⟩
    refine region_inv [([], [1, 3, 7, 8, 9]), ([0], [3, 7, 8, 9]), ([], [3, 7, 8, 9]), ([0, 1, 2], [7, 8, 9]), ([], [5, 7, 8, 9]), ([4], [7, 8, 9]), ([], [7, 8, 9]), (rgn 0 7, [8, 9]), (rgn 0 8, [9]), (rgn 0 9, [])] (fun L ac w => St 54 w0 [(45, L 0, ptA g24 0), (46, L 1, W ox), (47, L 2, W r39), (48, L 3, W r41), (49, L 4, ptA g24 4), (50, L 5, W oy), (51, L 6, W r39), (52, L 7, W r42), (53, L 8, PV r41 r42 false), (4, true, ptA g3 0), (6, true, ptA g24 0), (8, true, ptA g40 0)] [(true, g1, 24, (Wl a)), (true, g2, 42, (PVl (px P) (py P) (pz P))), (true, g3, 42, (cond (L 9) (PVl r41 r42 false) (PVl 0 0 false))), (true, g4, 86, [.int .u64 (lim (px P) 0), .int .u64 (lim (px P) 1), .int .u64 (lim (px P) 2), .int .u64 (lim (px P) 3), .int .u64 (lim (py P) 0), .int .u64 (lim (py P) 1), .int .u64 (lim (py P) 2), .int .u64 (lim (py P) 3), .int .u64 1, .int .u64 0, .int .u64 0, .int .u64 0]), (true, g24, 86, (TVl ox oy oz)), (true, g40, 24, (Wl r39))] ac w) (by kernel_rfl) (by kernel_rfl) ?_ ?_ ?_
    ·exact hs.drew.skip.skip.skip.skip.skip.skip.skip.skip.skip
    ·refine ⟨?_, ?_, ?_, ?_, ?_, ?_, ?_, ?_, ?_, ?_, trivial⟩
     ·exact fun L ac w hs => pln (op_fieldA hs (some 0) rfl rfl rfl underlying86 rfl sizeOf24 (by decide) rfl fun ac hs => hs)
     ·exact fun L ac w hs => pln (oldd hs 1 4 (W ox) isAgg24 sizeOf24 rfl rfl rfl rfl rfl fun ac hs => hs)
     ·exact fun L ac w hs => pln (oldd hs 2 5 (W r39) isAgg24 sizeOf24 rfl rfl rfl rfl rfl fun ac hs => hs)
     ·exact fun L ac w hs => pln (op_call (F := 89) hs (some 3) (v := W r41) rfl rfl rfl rfl (call89 _) (rfmul_c ox r39 r41 lx lr39 hr41) rfl fun ac w hs => hs)
     ·exact fun L ac w hs => pln (op_fieldA hs (some 4) rfl rfl rfl underlying86 rfl sizeOf24 (by decide) rfl fun ac hs => hs)
     ·exact fun L ac w hs => pln (oldd hs 5 4 (W oy) isAgg24 sizeOf24 rfl rfl rfl rfl rfl fun ac hs => hs)
     ·exact fun L ac w hs => pln (oldd hs 6 5 (W r39) isAgg24 sizeOf24 rfl rfl rfl rfl rfl fun ac hs => hs)
     ·exact fun L ac w hs => pln (op_call (F := 89) hs (some 7) (v := W r42) rfl rfl rfl rfl (call89 _) (rfmul_c oy r39 r42 ly lr39 hr42) rfl fun ac w hs => hs)
     ·exact fun L ac w hs => pln (op_build hs (some 8) (qs := [(0, W r41), (1, W r42)]) (v := PV r41 r42 false) rfl rfl rfl rfl (fun _ => by kernel_rfl) rfl fun ac hs => hs)
     ·exact fun L ac w hs => pln (stoo hs 2 ((PVl r41 r42 false)) sizeOf42 rfl rfl rfl rfl rfl rfl rfl rfl rfl rfl fun w hs => hs)
    intro ac w hJ
    replace hs : St 54 w0 [(45, true, ptA g24 0), (46, true, W ox), (47, true, W r39), (48, true, W r41), (49, true, ptA g24 4), (50, true, W oy), (51, true, W r39), (52, true, W r42), (53, true, PV r41 r42 false), (4, true, ptA g3 0), (6, true, ptA g24 0), (8, true, ptA g40 0)] [(true, g1, 24, (Wl a)), (true, g2, 42, (PVl (px P) (py P) (pz P))), (true, g3, 42, (PVl r41 r42 false)), (true, g4, 86, [.int .u64 (lim (px P) 0), .int .u64 (lim (px P) 1), .int .u64 (lim (px P) 2), .int .u64 (lim (px P) 3), .int .u64 (lim (py P) 0), .int .u64 (lim (py P) 1), .int .u64 (lim (py P) 2), .int .u64 (lim (py P) 3), .int .u64 1, .int .u64 0, .int .u64 0, .int .u64 0]), (true, g24, 86, (TVl ox oy oz)), (true, g40, 24, (Wl r39))] ac w := hJ
    refine then_n (wp_ret ?_)
    exact bodyPost_ret (res1 rfl (rv_c hs 2 (v := PV r41 r42 false) rfl rfl isAgg42 sizeOf42 rfl)) hs.defers ⟨by obtain ⟨e1, e2, e3⟩ := fplain_law hF hp38 hr39 hr41 hr42; rw [e1, e2, e3]; first | done | rfl, (hs.bel rfl)⟩
theorem rlift_c (b : Nat → Nat) (T : EM.Pt Pf) (hb : ∀ j, j < 32 → b j < 256) (hT : liftP (pr b 0 32) = T) (w0 : World) : Calls prog 35 #[At .u8 32 b] w0 fun e w' => e = .returned (.tuple #[PV (px T) (py T) (pz T), .bool (!pz T)]) ∧ Below w0.heap.size w0 w' := by
 refine enter (n := 26) (args := [At .u8 32 b]) func35 rfl rfl (Nat.le_of_ble_eq_true rfl) fun ac hs => ?_
 refine wp_seq (wp_region_lit ?_)
 refine stp (op_box hs none none (cs := (tab .u8 32 b)) rfl rfl rfl rfl rfl rfl fun g1 ac w hs => ?_)
 refine stp (op_alloc hs none none (cs := (PVl 0 0 false)) rfl rfl zeroValue42 (by kernel_rfl) rfl rfl fun g2 ac w hs => ?_)
 refine asg hs rfl rfl rfl fun ac hs => ?_
 refine wpList_nil (then_n (wp_seq (wp_region_lit ?_)))
 refine ldd hs 0 (At .u8 32 b) isAgg30 sizeOf30 rfl rfl rfl rfl ldv_tab fun ac hs => ?_
 obtain ⟨a3, ha3, la3⟩ : ∃ z0, pr b 0 32 = z0 ∧ z0 < 2 ^ 256 := ⟨_, rfl, pr_lt32 hb⟩
 refine stp (op_call (F := 78) hs none (v := W a3) rfl rfl rfl rfl (call78 _) (rread_c b a3 hb ha3) rfl fun ac w hs => ?_)
 refine stp (op_alloc hs none none (cs := [.int .u64 0, .int .u64 0, .int .u64 0, .int .u64 0]) rfl rfl zeroValue24 (by kernel_rfl) rfl rfl fun g4 ac w hs => ?_)
 refine stp (stoo hs 2 ((Wl a3)) sizeOf24 rfl rfl rfl rfl rfl rfl rfl rfl rfl rfl fun w hs => ?_)
 refine wpList_nil (then_n (wp_seq ?_))
 replace hs := hs.n0 [2, 3, 4] rfl rfl
 refine wp_region_lit ?_
 refine ldd hs 2 (W a3) isAgg24 sizeOf24 rfl rfl rfl rfl rfl fun ac hs => ?_
 obtain ⟨r5, hr5, lr5⟩ : ∃ z0, rgt a3 = z0 ∧ z0 < 2 ^ 256 := ⟨_, rfl, modP_lt _⟩
 refine stp (op_call (F := 80) hs none (v := W r5) rfl rfl rfl rfl (call80 _) (rright_c a3 r5 la3 hr5) rfl fun ac w hs => ?_)
 obtain ⟨y6, hy6, ly6⟩ : ∃ z0, frV r5 = z0 ∧ z0 < 2 ^ 256 := ⟨_, rfl, frV_lt _⟩
 obtain ⟨q7, hq7⟩ : ∃ z0, frB r5 = z0 := ⟨_, rfl⟩
 refine stp (op_call (F := 79) hs none (v := .tuple #[W y6, .bool q7]) rfl rfl rfl rfl (call79 _) (rfroot_c r5 y6 q7 lr5 hy6 hq7) rfl fun ac w hs => ?_)
 refine mvv hs rfl rfl rfl fun ac hs => ?_
 refine stp (xtr hs none rfl rfl rfl rfl rfl fun ac hs => ?_)
 refine stp (xtr hs none rfl rfl rfl rfl rfl fun ac hs => ?_)
 refine stp (op_alloc hs none none (cs := [.int .u64 0, .int .u64 0, .int .u64 0, .int .u64 0]) rfl rfl zeroValue24 (by kernel_rfl) rfl rfl fun g8 ac w hs => ?_)
 refine stp (stoo hs 3 ((Wl y6)) sizeOf24 rfl rfl rfl rfl rfl rfl rfl rfl rfl rfl fun w hs => ?_)
 refine asg hs rfl rfl rfl fun ac hs => ?_
 refine wpList_nil (then_n (wp_seq (wp_seq ?_)))
 by_cases hq9 : q7 = true
 ·skip
  replace hs := hs.re (fs' := [(2, true, ptA g2 0), (3, true, .bool false), (4, true, ptA g4 0), (10, true, W a3), (11, true, W r5), (12, true, .tuple #[W y6, .bool q7]), (9, true, .tuple #[W y6, .bool q7]), (13, true, W y6), (14, true, .bool q7), (5, true, ptA g8 0), (6, true, .bool true)]) ⟨rfl, rfl, rfl, rfl, rfl, rfl, rfl, rfl, rfl, rfl, congrArg some (congrArg Value.bool hq9), trivial⟩
  by_cases hq10 : a3 < Pf
  ·skip
   replace hs := hs.n0 [2, 3, 4, 5, 6] rfl rfl
   refine wp_region_lit ?_
   refine mvv hs rfl rfl rfl fun ac hs => ?_
   refine stp (op_un hs none (v := .bool false) rfl rfl rfl (fun _ => rfl) rfl fun ac hs => ?_)
   refine mvv hs rfl rfl rfl fun ac hs => ?_
   refine lstep (wpO_in hs rfl rfl rfl (op_load hs none 2 (v := W a3) rfl rfl rfl rfl isAgg24 sizeOf24 rfl rfl fun ac hs => ?_))
   refine lstep (wpO_in hs rfl rfl rfl (op_call (F := 81) hs none (v := .bool true) rfl rfl rfl rfl (call81 _) (rbelow_c a3 true la3 (decide_eq_true hq10)) rfl fun ac w hs => ?_))
   refine lstep (wpO_in hs rfl rfl rfl (op_un hs none (v := .bool false) rfl rfl rfl (fun _ => rfl) rfl fun ac hs => ?_))
   refine stp (op_pickF hs none rfl rfl rfl rfl rfl fun ac hs => ?_)
   refine wpList_nil (then_n ?_)
   refine wp_cond_false (hs.ev rfl) ?_
   refine wp_skip (then_n (wp_seq ?_))
   replace hs := hs.n0 [2, 3, 4, 5] rfl rfl
   refine wp_region_lit ?_
   refine ldd hs 2 (W a3) isAgg24 sizeOf24 rfl rfl rfl rfl rfl fun ac hs => ?_
   refine ldd hs 3 (W y6) isAgg24 sizeOf24 rfl rfl rfl rfl rfl fun ac hs => ?_
   refine stp (op_build hs none (qs := [(0, W a3), (1, W y6)]) (v := PV a3 y6 false) rfl rfl rfl rfl (fun _ => by kernel_rfl) rfl fun ac hs => ?_)
   refine stp (stoo hs 1 ((PVl a3 y6 false)) sizeOf42 rfl rfl rfl rfl rfl rfl rfl rfl rfl rfl fun w hs => ?_)
   refine asg hs rfl rfl rfl fun ac hs => ?_
   refine wpList_nil (then_n (wp_ret ?_))
   exact bodyPost_ret (res2 rfl (rv_c hs 1 (v := PV a3 y6 false) rfl rfl isAgg42 sizeOf42 rfl) (rv_t hs rfl)) hs.defers ⟨by rw [← hT, ha3, (liftP_yes hq10 (show frB (rgt a3) = true by rw [hr5, hq7]; exact hq9)).1, (liftP_yes hq10 (show frB (rgt a3) = true by rw [hr5, hq7]; exact hq9)).2.1, (liftP_yes hq10 (show frB (rgt a3) = true by rw [hr5, hq7]; exact hq9)).2.2, hr5, hy6]; rfl, (hs.bel rfl)⟩
  ·skip
   replace hs := hs.n0 [2, 3, 4, 5, 6] rfl rfl
   refine wp_region_lit ?_
   refine mvv hs rfl rfl rfl fun ac hs => ?_
   refine stp (op_un hs none (v := .bool false) rfl rfl rfl (fun _ => rfl) rfl fun ac hs => ?_)
   refine mvv hs rfl rfl rfl fun ac hs => ?_
   refine lstep (wpO_in hs rfl rfl rfl (op_load hs none 2 (v := W a3) rfl rfl rfl rfl isAgg24 sizeOf24 rfl rfl fun ac hs => ?_))
   refine lstep (wpO_in hs rfl rfl rfl (op_call (F := 81) hs none (v := .bool false) rfl rfl rfl rfl (call81 _) (rbelow_c a3 false la3 (decide_eq_false hq10)) rfl fun ac w hs => ?_))
   refine lstep (wpO_in hs rfl rfl rfl (op_un hs none (v := .bool true) rfl rfl rfl (fun _ => rfl) rfl fun ac hs => ?_))
   refine stp (op_pickF hs none rfl rfl rfl rfl rfl fun ac hs => ?_)
   refine wpList_nil (then_n ?_)
   refine wp_cond_true (hs.ev rfl) ?_
   refine wp_seq ?_
   replace hs := hs.n0 [2, 3, 4, 5] rfl rfl
   refine wp_region_lit ?_
   refine stp (op_build hs none (qs := [(2, .bool true)]) (v := PV 0 0 true) rfl rfl rfl rfl (fun _ => by kernel_rfl) rfl fun ac hs => ?_)
   refine stp (stoo hs 1 ((PVl 0 0 true)) sizeOf42 rfl rfl rfl rfl rfl rfl rfl rfl rfl rfl fun w hs => ?_)
   refine asg hs rfl rfl rfl fun ac hs => ?_
   refine wpList_nil (then_n (wp_ret (then_r ?_)))
   exact bodyPost_ret (res2 rfl (rv_c hs 1 (v := PV 0 0 true) rfl rfl isAgg42 sizeOf42 rfl) (rv_t hs rfl)) hs.defers ⟨by rw [← hT, ha3, liftP_no (.inl hq10)]; rfl, (hs.bel rfl)⟩
 ·skip
  replace hs := hs.re (fs' := [(2, true, ptA g2 0), (3, true, .bool false), (4, true, ptA g4 0), (10, true, W a3), (11, true, W r5), (12, true, .tuple #[W y6, .bool q7]), (9, true, .tuple #[W y6, .bool q7]), (13, true, W y6), (14, true, .bool q7), (5, true, ptA g8 0), (6, true, .bool false)]) ⟨rfl, rfl, rfl, rfl, rfl, rfl, rfl, rfl, rfl, rfl, congrArg some (congrArg Value.bool (Bool.eq_false_iff.2 hq9)), trivial⟩
  replace hs := hs.n0 [2, 3, 4, 5, 6] rfl rfl
  refine wp_region_lit ?_
  refine mvv hs rfl rfl rfl fun ac hs => ?_
  refine stp (op_un hs none (v := .bool true) rfl rfl rfl (fun _ => rfl) rfl fun ac hs => ?_)
  refine mvv hs rfl rfl rfl fun ac hs => ?_
  refine lstep (wpO_out hs none rfl rfl (.inl rfl) rfl rfl fun ac hs => ?_)
  refine lstep (wpO_out hs none rfl rfl (.inl rfl) rfl rfl fun ac hs => ?_)
  refine lstep (wpO_out hs none rfl rfl (.inl rfl) rfl rfl fun ac hs => ?_)
  refine stp (op_pickT hs none rfl rfl rfl rfl rfl fun ac hs => ?_)
  refine wpList_nil (then_n ?_)
  refine wp_cond_true (hs.ev rfl) ?_
  refine wp_seq (wp_region_lit ?_)
  refine stp (op_build hs none (qs := [(2, .bool true)]) (v := PV 0 0 true) rfl rfl rfl rfl (fun _ => by kernel_rfl) rfl fun ac hs => ?_)
  refine stp (stoo hs 1 ((PVl 0 0 true)) sizeOf42 rfl rfl rfl rfl rfl rfl rfl rfl rfl rfl fun w hs => ?_)
  refine asg hs rfl rfl rfl fun ac hs => ?_
  refine wpList_nil (then_n (wp_ret (then_r ?_)))
  exact bodyPost_ret (res2 rfl (rv_c hs 1 (v := PV 0 0 true) rfl rfl isAgg42 sizeOf42 rfl) (rv_t hs rfl)) hs.defers ⟨by rw [← hT, ha3, liftP_no (.inr (by rw [hr5, hq7]; exact hq9))]; rfl, (hs.bel rfl)⟩
theorem rpbytes_c (x y : Nat) (z : Bool) (T : EM.Pt Pf) (hx : x < 2 ^ 256) (hy : y < 2 ^ 256) (hT : ptOf x y z = T) (w0 : World) : Calls prog 43 #[PV x y z] w0 fun e w' => e = .returned (At .u8 32 (by8 (px T))) ∧ Below w0.heap.size w0 w' := by
 have oT : T.on := by rw [← hT]; exact pt_on x y z
 refine enter (n := 8) (args := [PV x y z]) func43 rfl rfl (Nat.le_of_ble_eq_true rfl) fun ac hs => ?_
 refine wp_seq (wp_region_lit ?_)
 refine stp (op_box hs none none (cs := (PVl x y z)) rfl rfl rfl rfl rfl rfl fun g1 ac w hs => ?_)
 refine stp (op_alloc hs none none (cs := (tab .u8 32 (fun _ => 0))) rfl rfl zeroValue30 (by kernel_rfl) rfl rfl fun g2 ac w hs => ?_)
 refine wpList_nil (then_n (wp_seq (wp_region_lit ?_)))
 refine ldd hs 0 (PV x y z) isAgg42 sizeOf42 rfl rfl rfl rfl rfl fun ac hs => ?_
 refine stp (op_call (F := 83) hs none (v := PV (px T) (py T) (pz T)) rfl rfl rfl rfl (call83 _) (own_c x y z T hx hy hT) rfl fun ac w hs => ?_)
 refine stp (stoo hs 0 ((PVl (px T) (py T) (pz T))) sizeOf42 rfl rfl rfl rfl rfl rfl rfl rfl rfl rfl fun w hs => ?_)
 refine wpList_nil (then_n (wp_seq (wp_region_lit ?_)))
 refine stp (op_fieldA hs none rfl rfl rfl underlying42 rfl sizeOf24 (by decide) rfl fun ac hs => ?_)
 refine ldd hs 0 (W (px T)) isAgg24 sizeOf24 rfl rfl rfl rfl rfl fun ac hs => ?_
 refine stp (op_call (F := 27) hs none (v := At .u8 32 (by8 (px T))) rfl rfl rfl rfl (call27 _) (rbytes_c (px T) (px_lt T)) rfl fun ac w hs => ?_)
 refine stp (stoo hs 1 ((tab .u8 32 (by8 (px T)))) sizeOf30 rfl rfl rfl rfl rfl (by kernel_rfl) tab_length' (tab_one _ _ _) tab_leA wr_tab fun w hs => ?_)
 refine wpList_nil (then_n (wp_ret ?_))
 exact bodyPost_ret (res1 rfl (rv_c hs 1 (v := At .u8 32 (by8 (px T))) rfl rfl isAgg30 sizeOf30 ldv_tab)) hs.defers ⟨rfl, (hs.bel rfl)⟩
theorem reven_c (x y : Nat) (z : Bool) (T : EM.Pt Pf) (q : Bool) (hx : x < 2 ^ 256) (hy : y < 2 ^ 256) (hT : ptOf x y z = T) (hq : evB T = q) (w0 : World) : Calls prog 42 #[PV x y z] w0 fun e w' => e = .returned (.bool q) ∧ Below w0.heap.size w0 w' := by
 have oT : T.on := by rw [← hT]; exact pt_on x y z
 refine enter (n := 15) (args := [PV x y z]) func42 rfl rfl (Nat.le_of_ble_eq_true rfl) fun ac hs => ?_
 refine wp_seq (wp_region_lit ?_)
 refine stp (op_box hs none none (cs := (PVl x y z)) rfl rfl rfl rfl rfl rfl fun g1 ac w hs => ?_)
 refine asg hs rfl rfl rfl fun ac hs => ?_
 refine wpList_nil (then_n (wp_seq (wp_region_lit ?_)))
 refine ldd hs 0 (PV x y z) isAgg42 sizeOf42 rfl rfl rfl rfl rfl fun ac hs => ?_
 refine stp (op_call (F := 83) hs none (v := PV (px T) (py T) (pz T)) rfl rfl rfl rfl (call83 _) (own_c x y z T hx hy hT) rfl fun ac w hs => ?_)
 refine stp (stoo hs 0 ((PVl (px T) (py T) (pz T))) sizeOf42 rfl rfl rfl rfl rfl rfl rfl rfl rfl rfl fun w hs => ?_)
 refine wpList_nil (then_n (wp_seq ?_))
 by_cases hq2 : pz T = true
 ·skip
  replace hs := hs.setb 0 (cs' := (PVl (px T) (py T) true)) rfl (by rw [hq2]; rfl)
  refine wp_region_lit ?_
  refine stp (op_fieldA hs none rfl rfl rfl underlying42 rfl sizeOf4 (by decide) rfl fun ac hs => ?_)
  refine ldd hs 0 (.bool true) isAgg4 sizeOf4 rfl rfl rfl rfl rfl fun ac hs => ?_
  refine stp (op_un hs none (v := .bool false) rfl rfl rfl (fun _ => rfl) rfl fun ac hs => ?_)
  refine mvv hs rfl rfl rfl fun ac hs => ?_
  refine lstep (wpO_out hs none rfl rfl (.inl rfl) rfl rfl fun ac hs => ?_)
  refine lstep (wpO_out hs none rfl rfl (.inl rfl) rfl rfl fun ac hs => ?_)
  refine lstep (wpO_out hs none rfl rfl (.inl rfl) rfl rfl fun ac hs => ?_)
  refine lstep (wpO_out hs none rfl rfl (.inl rfl) rfl rfl fun ac hs => ?_)
  refine lstep (wpO_out hs none rfl rfl (.inl rfl) rfl rfl fun ac hs => ?_)
  refine stp (op_pickF hs none rfl rfl rfl rfl rfl fun ac hs => ?_)
  refine asg hs rfl rfl rfl fun ac hs => ?_
  refine wpList_nil (then_n (wp_ret ?_))
  exact bodyPost_ret (res1 rfl (rv_t hs rfl)) hs.defers ⟨by rw [← hq]; exact congrArg (fun b => Ending.returned (.bool b)) (ev_odd hq2), (hs.bel rfl)⟩
 ·skip
  replace hs := hs.setb 0 (cs' := (PVl (px T) (py T) false)) rfl (by rw [(Bool.eq_false_iff.2 hq2)]; rfl)
  refine wp_region_lit ?_
  refine stp (op_fieldA hs none rfl rfl rfl underlying42 rfl sizeOf4 (by decide) rfl fun ac hs => ?_)
  refine ldd hs 0 (.bool false) isAgg4 sizeOf4 rfl rfl rfl rfl rfl fun ac hs => ?_
  refine stp (op_un hs none (v := .bool true) rfl rfl rfl (fun _ => rfl) rfl fun ac hs => ?_)
  refine mvv hs rfl rfl rfl fun ac hs => ?_
  refine lstep (wpO_in hs rfl rfl rfl (op_fieldA hs none rfl rfl rfl underlying42 rfl sizeOf24 (by decide) rfl fun ac hs => ?_))
  refine lstep (wpO_in hs rfl rfl rfl (op_idxA hs none (j := 0) rfl rfl rfl rfl underlying24 sizeOf22 (by decide) (off := 4) rfl rfl fun ac hs => ?_))
  have l3 := limN_lt (py T) 0
  refine lstep (wpO_in hs rfl rfl rfl (op_load hs none 0 (v := .int .u64 (lim (py T) 0)) rfl rfl rfl rfl isAgg22 sizeOf22 rfl rfl fun ac hs => ?_))
  refine lstep (wpO_in hs rfl rfl rfl (op_bin hs none (v := nu64 ((limN (py T) 0) % 2)) rfl rfl rfl rfl (fun _ => rfl) (bin_remN (x := limN (py T) 0) (y := 2) (z := (limN (py T) 0) % 2) rfl (by decide)) rfl fun ac hs => ?_))
  refine lstep (wpO_in hs rfl rfl rfl (op_bin hs none (v := .bool (decide ((limN (py T) 0) % 2 = 0))) rfl rfl rfl rfl (fun _ => rfl) (bin_eqlN (x := (limN (py T) 0) % 2) (y := 0)) rfl fun ac hs => ?_))
  refine stp (op_pickT hs none rfl rfl rfl rfl rfl fun ac hs => ?_)
  refine asg hs rfl rfl rfl fun ac hs => ?_
  refine wpList_nil (then_n (wp_ret ?_))
  exact bodyPost_ret (res1 rfl (rv_t hs rfl)) hs.defers ⟨by rw [← hq]; exact congrArg (fun b => Ending.returned (.bool b)) (ev_val hq2), (hs.bel rfl)⟩
theorem rbase_c  (w0 : World) : Calls prog 39 #[] w0 fun e w' => e = .returned (PV (px Gp) (py Gp) (pz Gp)) ∧ Below w0.heap.size w0 w' := by
 obtain ⟨n, hn⟩ : ∃ n : Nat, n = 55066263022277343669578718895168534326250603453777594175500187360389116729240 := ⟨_, rfl⟩
 have ln : n < 2 ^ 256 := by rw [hn]; decide
 refine enter (n := 12) (args := []) func39 rfl rfl (Nat.le_of_ble_eq_true rfl) fun ac hs => ?_
 refine wp_seq (wp_region_lit ?_)
 refine stp (op_alloc hs none none (cs := (PVl 0 0 false)) rfl rfl zeroValue42 (by kernel_rfl) rfl rfl fun g1 ac w hs => ?_)
 refine wpList_nil (then_n (wp_seq (wp_region_lit ?_)))
 refine stp (op_build hs none (qs := [(0, .int .u64 6481385041966929816), (1, .int .u64 188021827762530521), (2, .int .u64 6170039885052185351), (3, .int .u64 8772561819708210092)]) (v := .agg #[.int .u64 6481385041966929816, .int .u64 188021827762530521, .int .u64 6170039885052185351, .int .u64 8772561819708210092]) rfl rfl rfl rfl (fun _ => by kernel_rfl) rfl fun ac hs => ?_)
 refine stp (op_alloc hs none none (cs := [.int .u64 0, .int .u64 0, .int .u64 0, .int .u64 0]) rfl rfl zeroValue24 (by kernel_rfl) rfl rfl fun g2 ac w hs => ?_)
 refine stp (stoo hs 1 ([.int .u64 6481385041966929816, .int .u64 188021827762530521, .int .u64 6170039885052185351, .int .u64 8772561819708210092]) sizeOf24 rfl rfl rfl rfl rfl rfl rfl rfl rfl rfl fun w hs => ?_)
 refine wpList_nil ?_
 replace hs := hs.setb 1 (cs' := Wl n) rfl (by rw [hn]; rfl)
 refine then_n (wp_seq (wp_region_lit ?_))
 refine ldd hs 1 (W n) isAgg24 sizeOf24 rfl rfl rfl rfl rfl fun ac hs => ?_
 refine stp (op_call (F := 27) hs none (v := At .u8 32 (by8 n)) rfl rfl rfl rfl (call27 _) (rbytes_c n ln) rfl fun ac w hs => ?_)
 obtain ⟨T3, hT3, oT3⟩ := mkLift (pr (by8 n) 0 32)
 refine stp (op_call (F := 35) hs none (v := .tuple #[PV (px T3) (py T3) (pz T3), .bool (!pz T3)]) rfl rfl rfl rfl (call35 _) (rlift_c (by8 n) T3 (fun j _ => by8_lt n j) hT3) rfl fun ac w hs => ?_)
 refine mvv hs rfl rfl rfl fun ac hs => ?_
 refine stp (xtr hs none rfl rfl rfl rfl rfl fun ac hs => ?_)
 refine stp (xtr hs none rfl rfl rfl rfl rfl fun ac hs => ?_)
 refine stp (op_alloc hs none none (cs := (PVl 0 0 false)) rfl rfl zeroValue42 (by kernel_rfl) rfl rfl fun g4 ac w hs => ?_)
 refine stp (stoo hs 2 ((PVl (px T3) (py T3) (pz T3))) sizeOf42 rfl rfl rfl rfl rfl rfl rfl rfl rfl rfl fun w hs => ?_)
 refine asg hs rfl rfl rfl fun ac hs => ?_
 refine wpList_nil (then_n (wp_seq ?_))
 replace hs := hs.n0 [0, 2] rfl rfl
 refine wp_region_lit ?_
 refine ldd hs 2 (PV (px T3) (py T3) (pz T3)) isAgg42 sizeOf42 rfl rfl rfl rfl rfl fun ac hs => ?_
 refine stp (stoo hs 0 ((PVl (px T3) (py T3) (pz T3))) sizeOf42 rfl rfl rfl rfl rfl rfl rfl rfl rfl rfl fun w hs => ?_)
 refine wpList_nil (then_n (wp_ret ?_))
 exact bodyPost_ret (res1 rfl (rv_c hs 0 (v := PV (px T3) (py T3) (pz T3)) rfl rfl isAgg42 sizeOf42 rfl)) hs.defers ⟨by rw [← hT3, pr_by8_all ln, hn, Gp_lift]; first | done | rfl, (hs.bel rfl)⟩
end Go.Proofs.YtejbajgpiecjcaaGreat
