/- Several texts in one, what this law needs of them: RField, WLenR. -/
import Derived.Test.YtejbajgpiecjcaaGreatSB4

/- The contracts of the reference's field. -/
namespace Go.Proofs.YtejbajgpiecjcaaGreat
open Go.RowKit _root_.Go.Proofs.Tryz
set_option maxRecDepth 10000
set_option maxHeartbeats 1000000
theorem inv_prime {r v : Nat} (hr : r < Pf) (hv : pinv Pf r = v) (w : World) : Calls prog 125 #[W r, W Pf] w fun e w' => e = .returned (W v) ∧ Below w.heap.size w w' := by
 refine inv_c r Pf v hr Pf_lt (by decide) (by decide) (fun h => gcd_one EM.pr_field hr h) (fun y hy h1 h0 => ?_) (fun h => ?_) w
 ·rw [← hv]
  exact inv_uniq EM.pr_field (by rw [Nat.mod_eq_of_lt hr]; exact h0) hy h1
 ·rw [← hv, h, pinv_zero (by decide)]
theorem mul_512 {a b : Nat} (ha : a < 2 ^ 256) (hb : b < 2 ^ 256) : a * b / 2 ^ 256 < 2 ^ 256 := mul_hi ha hb
theorem rshr_c (a : Nat) (n : Int) (nn x : Nat) (ha : a < 2 ^ 256) (hn : min (max n 0) 256 = (nn : Int)) (hx : a / 2 ^ nn = x) (w0 : World) : Calls prog 120 #[W a, .int .i64 n] w0 fun e w' => e = .returned (W x) ∧ Below w0.heap.size w0 w' := by
 refine enter (n := 38) (args := [W a, .int .i64 n]) func120 rfl rfl (Nat.le_of_ble_eq_true rfl) fun ac hs => ?_
 refine wp_seq (wp_region_lit ?_)
 refine stp (op_box hs none none (cs := (Wl a)) rfl rfl rfl rfl rfl rfl fun g1 ac w hs => ?_)
 refine stp (op_alloc hs none none (cs := [.int .u64 0, .int .u64 0, .int .u64 0, .int .u64 0]) rfl rfl zeroValue24 (by kernel_rfl) rfl rfl fun g2 ac w hs => ?_)
 refine wpList_nil (then_n (wp_seq (wp_region_lit ?_)))
 refine stp (op_build hs none (qs := []) (v := .agg #[.int .u64 0, .int .u64 0, .int .u64 0, .int .u64 0]) rfl rfl rfl rfl (fun _ => by kernel_rfl) rfl fun ac hs => ?_)
 refine stp (op_alloc hs none none (cs := [.int .u64 0, .int .u64 0, .int .u64 0, .int .u64 0]) rfl rfl zeroValue24 (by kernel_rfl) rfl rfl fun g3 ac w hs => ?_)
 refine stp (stoo hs 2 ([.int .u64 0, .int .u64 0, .int .u64 0, .int .u64 0]) sizeOf24 rfl rfl rfl rfl rfl rfl rfl rfl rfl rfl fun w hs => ?_)
 refine wpList_nil (then_n (wp_seq (wp_seq (wp_region_lit ?_))))
 refine asg hs rfl rfl rfl fun ac hs => ?_
 refine wpList_nil (then_n (wp_block ?_))
 refine wp_loop_m (fun μ ac w => ∃ (k : Nat) (o : Nat), (k) = μ ∧ (k ≤ 256) ∧ (o < 2 ^ 256) ∧ (a / 2 ^ nn / 2 ^ k = o) ∧ St 38 w0 [(1, true, .int .i64 n), (2, true, ptA g1 0), (4, true, ptA g2 0), (5, true, ptA g3 0), (6, true, .int .i64 (((k : Nat) : Int) - 1))] [(true, g1, 24, (Wl a)), (true, g2, 24, [.int .u64 0, .int .u64 0, .int .u64 0, .int .u64 0]), (true, g3, 24, (Wl o))] ac w) ?_ ?_
 ·exact ⟨_, 256, 0, rfl, (by omega), (by decide), (Nat.div_eq_of_lt (div_lt256 ha)), (hs.re ⟨rfl, rfl, rfl, rfl, rfl, trivial⟩)⟩
 intro μ ac w ⟨k, o, hμ, hk, lo, ho, hs⟩
 refine wp_seq (wp_seq (wp_region_lit ?_))
 refine mvv hs rfl rfl rfl fun ac hs => ?_
 refine bnn hs (.bool (decide (1 ≤ k))) rfl rfl rfl rfl bin_geqP fun ac hs => ?_
 refine wpList_nil (then_n ?_)
 refine wp_cond_split (hs.ev rfl) (fun hc => ?_) (fun hc => ?_)
 ·skip
  have hp4 := of_decide_eq_true hc
  replace hs := hs.re (fs' := [(1, true, .int .i64 n), (2, true, ptA g1 0), (4, true, ptA g2 0), (5, true, ptA g3 0), (6, true, ni64 (k - 1)), (9, true, .int .i64 (((k : Nat) : Int) - 1)), (10, true, .bool (decide (1 ≤ k)))]) ⟨rfl, rfl, rfl, rfl, congrArg some (pre_nat hp4), rfl, rfl, trivial⟩
  refine wp_skip (then_n (wp_seq (wp_block (wp_seq (wp_region_lit ?_)))))
  refine asg hs rfl rfl rfl fun ac hs => ?_
  refine wpList_nil (then_n (wp_seq (wp_seq (wp_region_lit ?_))))
  refine mvv hs rfl rfl rfl fun ac hs => ?_
  refine bnn hs (.bool (decide (n ≤ 0))) rfl rfl rfl rfl (bin_leqI (y := 0)) fun ac hs => ?_
  refine wpList_nil (then_n ?_)
  refine wp_cond_split (hs.ev rfl) (fun hc => ?_) (fun hc => ?_)
  ·skip
   have hp5 := of_decide_eq_true hc
   have hn0 : nn = 0 := by omega
   refine wp_region_lit ?_
   refine ldd hs 0 (W a) isAgg24 sizeOf24 rfl rfl rfl rfl rfl fun ac hs => ?_
   refine mvv hs rfl rfl rfl fun ac hs => ?_
   obtain ⟨b6, hb6⟩ : ∃ z0, a / 2 ^ (k - 1) % 2 = z0 := ⟨_, rfl⟩
   have lb6 := bit_le hb6
   refine stp (op_call (F := 86) hs none (v := nu64 b6) rfl rfl rfl rfl (call86 _) (rbit_c a (k - 1) b6 (show k - 1 < 256 by omega) hb6) rfl fun ac w hs => ?_)
   refine asg hs rfl rfl rfl fun ac hs => ?_
   refine wpList_nil (then_n ?_)
   replace hs := hs.n0 [1, 2, 4, 5, 6, 7] rfl rfl
   refine wp_region_lit ?_
   refine ldd hs 2 (W o) isAgg24 sizeOf24 rfl rfl rfl rfl rfl fun ac hs => ?_
   refine mvv hs rfl rfl rfl fun ac hs => ?_
   obtain ⟨t7, ht7, lt7⟩ : ∃ z0, (2 * o + b6) % 2 ^ 256 = z0 ∧ z0 < 2 ^ 256 := ⟨_, rfl, Nat.mod_lt _ (Nat.two_pow_pos 256)⟩
   obtain ⟨c8, hc8⟩ : ∃ z0, (2 * o + b6) / 2 ^ 256 = z0 := ⟨_, rfl⟩
   refine stp (op_call (F := 102) hs none (v := .tuple #[W t7, nu64 c8]) rfl rfl rfl rfl (call102 _) (rtwice_c o b6 t7 c8 lo (show b6 ≤ 1 by omega) ht7 hc8) rfl fun ac w hs => ?_)
   refine mvv hs rfl rfl rfl fun ac hs => ?_
   refine stp (xtr hs none rfl rfl rfl rfl rfl fun ac hs => ?_)
   refine stp (xtr hs none rfl rfl rfl rfl rfl fun ac hs => ?_)
   refine stp (stoo hs 2 ((Wl t7)) sizeOf24 rfl rfl rfl rfl rfl rfl rfl rfl rfl rfl fun w hs => ?_)
   refine wpList_nil (blk_n (then_n ?_))
   replace hs := hs.n0 [1, 2, 4, 5, 6, 7] rfl rfl
   refine wp_region_lit ?_
   refine mvv hs rfl rfl rfl fun ac hs => ?_
   refine bnn hs (.int .i64 (((k - 1 : Nat) : Int) - 1)) rfl rfl rfl rfl (bin_subP (by omega)) fun ac hs => ?_
   refine asg hs rfl rfl rfl fun ac hs => ?_
   refine wpList_nil (then_n ?_)
   exact ⟨_, ⟨(k - 1), t7, rfl, (by omega), lt7, (rshr_step (div_lt256 ha) hp4 ho (by rw [hn0, Nat.pow_zero, Nat.div_one]; exact hb6) ht7), (hs.re ⟨rfl, rfl, rfl, rfl, rfl, trivial⟩)⟩, (by omega)⟩
  ·skip
   have hp9 := of_decide_eq_false hc
   obtain ⟨m, hm⟩ : ∃ m : Nat, n = (m : Int) := ⟨n.toNat, by omega⟩
   replace hs := hs.re (fs' := [(1, true, ni64 m), (2, true, ptA g1 0), (4, true, ptA g2 0), (5, true, ptA g3 0), (6, true, ni64 (k - 1)), (9, true, .int .i64 (((k : Nat) : Int) - 1)), (10, true, .bool (decide (1 ≤ k))), (7, true, .int .u64 0), (13, true, .int .i64 n), (14, true, .bool (decide (n ≤ 0)))]) ⟨congrArg some (show Value.int .i64 n = .int .i64 (m : Int) by rw [hm]), rfl, rfl, rfl, rfl, rfl, rfl, rfl, rfl, rfl, trivial⟩
   refine wp_seq ?_
   by_cases hq10 : m < 256
   ·skip
    refine wp_region_lit ?_
    refine mvv hs rfl rfl rfl fun ac hs => ?_
    refine bnn hs (.bool true) rfl rfl rfl rfl (fun w => dT hq10 (bin_lssN (y := 256) w)) fun ac hs => ?_
    refine mvv hs rfl rfl rfl fun ac hs => ?_
    refine lstep (wpO_in hs rfl rfl rfl (op_move hs none rfl rfl rfl rfl fun ac hs => ?_))
    refine lstep (wpO_in hs rfl rfl rfl (op_move hs none rfl rfl rfl rfl fun ac hs => ?_))
    refine lstep (wpO_in hs rfl rfl rfl (op_bin hs none (v := ni64 (k - 1 + m)) rfl rfl rfl rfl (fun _ => rfl) (bin_addN (x := k - 1) (y := m) (z := k - 1 + m) rfl (show k - 1 + m < 9223372036854775808 by omega)) rfl fun ac hs => ?_))
    refine lstep (wpO_in hs rfl rfl rfl (op_bin hs none (v := .bool (decide (k - 1 + m < 256))) rfl rfl rfl rfl (fun _ => rfl) (bin_lssN (x := k - 1 + m) (y := 256)) rfl fun ac hs => ?_))
    refine stp (op_pickT hs none rfl rfl rfl rfl rfl fun ac hs => ?_)
    refine wpList_nil (then_n ?_)
    refine wp_cond_split (hs.ev rfl) (fun hc => ?_) (fun hc => ?_)
    ·skip
     have hp11 := of_decide_eq_true hc
     replace hs := hs.n0 [1, 2, 4, 5, 6, 7] rfl rfl
     refine wp_region_lit ?_
     refine ldd hs 0 (W a) isAgg24 sizeOf24 rfl rfl rfl rfl rfl fun ac hs => ?_
     refine mvv hs rfl rfl rfl fun ac hs => ?_
     refine mvv hs rfl rfl rfl fun ac hs => ?_
     refine bnn hs (ni64 (k - 1 + m)) rfl rfl rfl rfl (bin_addN rfl (show k - 1 + m < 9223372036854775808 by omega)) fun ac hs => ?_
     obtain ⟨b12, hb12⟩ : ∃ z0, a / 2 ^ (k - 1 + m) % 2 = z0 := ⟨_, rfl⟩
     have lb12 := bit_le hb12
     refine stp (op_call (F := 86) hs none (v := nu64 b12) rfl rfl rfl rfl (call86 _) (rbit_c a (k - 1 + m) b12 (show k - 1 + m < 256 by omega) hb12) rfl fun ac w hs => ?_)
     refine asg hs rfl rfl rfl fun ac hs => ?_
     refine wpList_nil (then_n ?_)
     replace hs := hs.n0 [1, 2, 4, 5, 6, 7] rfl rfl
     refine wp_region_lit ?_
     refine ldd hs 2 (W o) isAgg24 sizeOf24 rfl rfl rfl rfl rfl fun ac hs => ?_
     refine mvv hs rfl rfl rfl fun ac hs => ?_
     obtain ⟨t13, ht13, lt13⟩ : ∃ z0, (2 * o + b12) % 2 ^ 256 = z0 ∧ z0 < 2 ^ 256 := ⟨_, rfl, Nat.mod_lt _ (Nat.two_pow_pos 256)⟩
     obtain ⟨c14, hc14⟩ : ∃ z0, (2 * o + b12) / 2 ^ 256 = z0 := ⟨_, rfl⟩
     refine stp (op_call (F := 102) hs none (v := .tuple #[W t13, nu64 c14]) rfl rfl rfl rfl (call102 _) (rtwice_c o b12 t13 c14 lo (show b12 ≤ 1 by omega) ht13 hc14) rfl fun ac w hs => ?_)
     refine mvv hs rfl rfl rfl fun ac hs => ?_
     refine stp (xtr hs none rfl rfl rfl rfl rfl fun ac hs => ?_)
     refine stp (xtr hs none rfl rfl rfl rfl rfl fun ac hs => ?_)
     refine stp (stoo hs 2 ((Wl t13)) sizeOf24 rfl rfl rfl rfl rfl rfl rfl rfl rfl rfl fun w hs => ?_)
     refine wpList_nil (blk_n (then_n ?_))
     replace hs := hs.n0 [1, 2, 4, 5, 6, 7] rfl rfl
     refine wp_region_lit ?_
     refine mvv hs rfl rfl rfl fun ac hs => ?_
     refine bnn hs (.int .i64 (((k - 1 : Nat) : Int) - 1)) rfl rfl rfl rfl (bin_subP (by omega)) fun ac hs => ?_
     refine asg hs rfl rfl rfl fun ac hs => ?_
     refine wpList_nil (then_n ?_)
     exact ⟨_, ⟨(k - 1), t13, rfl, (by omega), lt13, (rshr_step (div_lt256 ha) hp4 ho (by rw [← rshr_bit, show nn = m by omega]; exact hb12) ht13), (hs.re ⟨(congrArg some (show Value.int .i64 (m : Int) = .int .i64 n by rw [hm])), rfl, rfl, rfl, rfl, trivial⟩)⟩, (by omega)⟩
    ·skip
     have hp15 := of_decide_eq_false hc
     refine wp_skip (then_n ?_)
     replace hs := hs.n0 [1, 2, 4, 5, 6, 7] rfl rfl
     refine wp_region_lit ?_
     refine ldd hs 2 (W o) isAgg24 sizeOf24 rfl rfl rfl rfl rfl fun ac hs => ?_
     refine mvv hs rfl rfl rfl fun ac hs => ?_
     obtain ⟨t16, ht16, lt16⟩ : ∃ z0, (2 * o + 0) % 2 ^ 256 = z0 ∧ z0 < 2 ^ 256 := ⟨_, rfl, Nat.mod_lt _ (Nat.two_pow_pos 256)⟩
     obtain ⟨c17, hc17⟩ : ∃ z0, (2 * o + 0) / 2 ^ 256 = z0 := ⟨_, rfl⟩
     refine stp (op_call (F := 102) hs none (v := .tuple #[W t16, nu64 c17]) rfl rfl rfl rfl (call102 _) (rtwice_c o 0 t16 c17 lo (show 0 ≤ 1 by omega) ht16 hc17) rfl fun ac w hs => ?_)
     refine mvv hs rfl rfl rfl fun ac hs => ?_
     refine stp (xtr hs none rfl rfl rfl rfl rfl fun ac hs => ?_)
     refine stp (xtr hs none rfl rfl rfl rfl rfl fun ac hs => ?_)
     refine stp (stoo hs 2 ((Wl t16)) sizeOf24 rfl rfl rfl rfl rfl rfl rfl rfl rfl rfl fun w hs => ?_)
     refine wpList_nil (blk_n (then_n ?_))
     replace hs := hs.n0 [1, 2, 4, 5, 6, 7] rfl rfl
     refine wp_region_lit ?_
     refine mvv hs rfl rfl rfl fun ac hs => ?_
     refine bnn hs (.int .i64 (((k - 1 : Nat) : Int) - 1)) rfl rfl rfl rfl (bin_subP (by omega)) fun ac hs => ?_
     refine asg hs rfl rfl rfl fun ac hs => ?_
     refine wpList_nil (then_n ?_)
     exact ⟨_, ⟨(k - 1), t16, rfl, (by omega), lt16, (rshr_step (div_lt256 ha) hp4 ho (rshr_bit0 ha (by omega)) ht16), (hs.re ⟨(congrArg some (show Value.int .i64 (m : Int) = .int .i64 n by rw [hm])), rfl, rfl, rfl, rfl, trivial⟩)⟩, (by omega)⟩
   ·skip
    refine wp_region_lit ?_
    refine mvv hs rfl rfl rfl fun ac hs => ?_
    refine bnn hs (.bool false) rfl rfl rfl rfl (fun w => dF hq10 (bin_lssN (y := 256) w)) fun ac hs => ?_
    refine mvv hs rfl rfl rfl fun ac hs => ?_
    refine lstep (wpO_out hs none rfl rfl (.inl rfl) rfl rfl fun ac hs => ?_)
    refine lstep (wpO_out hs none rfl rfl (.inl rfl) rfl rfl fun ac hs => ?_)
    refine lstep (wpO_out hs none rfl rfl (.inl rfl) rfl rfl fun ac hs => ?_)
    refine lstep (wpO_out hs none rfl rfl (.inl rfl) rfl rfl fun ac hs => ?_)
    refine stp (op_pickF hs none rfl rfl rfl rfl rfl fun ac hs => ?_)
    refine wpList_nil (then_n ?_)
    refine wp_cond_false (hs.ev rfl) ?_
    refine wp_skip (then_n ?_)
    replace hs := hs.n0 [1, 2, 4, 5, 6, 7] rfl rfl
    refine wp_region_lit ?_
    refine ldd hs 2 (W o) isAgg24 sizeOf24 rfl rfl rfl rfl rfl fun ac hs => ?_
    refine mvv hs rfl rfl rfl fun ac hs => ?_
    obtain ⟨t18, ht18, lt18⟩ : ∃ z0, (2 * o + 0) % 2 ^ 256 = z0 ∧ z0 < 2 ^ 256 := ⟨_, rfl, Nat.mod_lt _ (Nat.two_pow_pos 256)⟩
    obtain ⟨c19, hc19⟩ : ∃ z0, (2 * o + 0) / 2 ^ 256 = z0 := ⟨_, rfl⟩
    refine stp (op_call (F := 102) hs none (v := .tuple #[W t18, nu64 c19]) rfl rfl rfl rfl (call102 _) (rtwice_c o 0 t18 c19 lo (show 0 ≤ 1 by omega) ht18 hc19) rfl fun ac w hs => ?_)
    refine mvv hs rfl rfl rfl fun ac hs => ?_
    refine stp (xtr hs none rfl rfl rfl rfl rfl fun ac hs => ?_)
    refine stp (xtr hs none rfl rfl rfl rfl rfl fun ac hs => ?_)
    refine stp (stoo hs 2 ((Wl t18)) sizeOf24 rfl rfl rfl rfl rfl rfl rfl rfl rfl rfl fun w hs => ?_)
    refine wpList_nil (blk_n (then_n ?_))
    replace hs := hs.n0 [1, 2, 4, 5, 6, 7] rfl rfl
    refine wp_region_lit ?_
    refine mvv hs rfl rfl rfl fun ac hs => ?_
    refine bnn hs (.int .i64 (((k - 1 : Nat) : Int) - 1)) rfl rfl rfl rfl (bin_subP (by omega)) fun ac hs => ?_
    refine asg hs rfl rfl rfl fun ac hs => ?_
    refine wpList_nil (then_n ?_)
    exact ⟨_, ⟨(k - 1), t18, rfl, (by omega), lt18, (rshr_step (div_lt256 ha) hp4 ho (rshr_bit0 ha (by omega)) ht18), (hs.re ⟨(congrArg some (show Value.int .i64 (m : Int) = .int .i64 n by rw [hm])), rfl, rfl, rfl, rfl, trivial⟩)⟩, (by omega)⟩
 ·skip
  have hp20 := of_decide_eq_false hc
  obtain rfl : k = 0 := by omega
  refine wp_exit (then_e (then_e (blk_e (then_n (wp_seq (wp_region_lit ?_))))))
  refine ldd hs 2 (W o) isAgg24 sizeOf24 rfl rfl rfl rfl rfl fun ac hs => ?_
  refine stp (stoo hs 1 ((Wl o)) sizeOf24 rfl rfl rfl rfl rfl rfl rfl rfl rfl rfl fun w hs => ?_)
  refine wpList_nil (then_n (wp_ret ?_))
  exact bodyPost_ret (res1 rfl (rv_c hs 1 (v := W o) rfl rfl isAgg24 sizeOf24 rfl)) hs.defers ⟨by rw [← hx, ← ho, Nat.pow_zero, Nat.div_one], (hs.bel rfl)⟩
theorem rprime_c  (w0 : World) : Calls prog 118 #[] w0 fun e w' => e = .returned (W Pf) ∧ Below w0.heap.size w0 w' := by
 refine enter (n := 2) (args := []) func118 rfl rfl (Nat.le_of_ble_eq_true rfl) fun ac hs => ?_
 refine wp_seq (wp_region_lit ?_)
 refine stp (op_alloc hs none none (cs := [.int .u64 0, .int .u64 0, .int .u64 0, .int .u64 0]) rfl rfl zeroValue24 (by kernel_rfl) rfl rfl fun g1 ac w hs => ?_)
 refine wpList_nil (then_n (wp_seq (wp_region_lit ?_)))
 refine stp (op_build hs none (qs := [(0, .int .u64 18446744069414583343), (1, .int .u64 18446744073709551615), (2, .int .u64 18446744073709551615), (3, .int .u64 18446744073709551615)]) (v := .agg #[.int .u64 18446744069414583343, .int .u64 18446744073709551615, .int .u64 18446744073709551615, .int .u64 18446744073709551615]) rfl rfl rfl rfl (fun _ => by kernel_rfl) rfl fun ac hs => ?_)
 refine stp (stoo hs 0 ([.int .u64 18446744069414583343, .int .u64 18446744073709551615, .int .u64 18446744073709551615, .int .u64 18446744073709551615]) sizeOf24 rfl rfl rfl rfl rfl rfl rfl rfl rfl rfl fun w hs => ?_)
 refine wpList_nil (then_n (wp_ret ?_))
 exact bodyPost_ret (res1 rfl (rv_c hs 0 (v := .agg #[.int .u64 18446744069414583343, .int .u64 18446744073709551615, .int .u64 18446744073709551615, .int .u64 18446744073709551615]) rfl rfl isAgg24 sizeOf24 rfl)) hs.defers ⟨by kernel_rfl, (hs.bel rfl)⟩
theorem rfred_c (a x : Nat) (ha : a < 2 ^ 256) (hx : a % Pf = x) (w0 : World) : Calls prog 121 #[W a] w0 fun e w' => e = .returned (W x) ∧ Below w0.heap.size w0 w' := by
 refine enter (n := 15) (args := [W a]) func121 rfl rfl (Nat.le_of_ble_eq_true rfl) fun ac hs => ?_
 refine wp_seq (wp_region_lit ?_)
 refine stp (op_box hs none none (cs := (Wl a)) rfl rfl rfl rfl rfl rfl fun g1 ac w hs => ?_)
 refine stp (op_alloc hs none none (cs := [.int .u64 0, .int .u64 0, .int .u64 0, .int .u64 0]) rfl rfl zeroValue24 (by kernel_rfl) rfl rfl fun g2 ac w hs => ?_)
 refine wpList_nil (then_n (wp_seq ?_))
 replace hs := hs.n0 [1, 2] rfl rfl
 obtain ⟨d3, hd3, ld3⟩ : ∃ z0, (a + 2 ^ 256 - Pf) % 2 ^ 256 = z0 ∧ z0 < 2 ^ 256 := ⟨_, rfl, Nat.mod_lt _ (Nat.two_pow_pos 256)⟩
 obtain ⟨c4, hc4⟩ : ∃ z0, bor a Pf = z0 := ⟨_, rfl⟩
 refine region_inv [([], [2, 3, 4, 5, 7, 8]), ([], [2, 3, 4, 5, 7, 8]), ([0, 1], [3, 4, 5, 7, 8]), ([0, 1, 2], [4, 5, 7, 8]), (rgn 0 4, [7, 8]), (rgn 0 4, [8]), ([], [7, 8]), ([0, 1, 2, 3, 4, 6], [8]), (rgn 0 8, [])] (fun L ac w => ∃ (g5 : Nat), St 15 w0 [(6, L 0, W a), (7, L 1, W Pf), (8, L 2, .tuple #[W d3, nu64 c4]), (5, L 3, .tuple #[W d3, nu64 c4]), (9, L 4, W d3), (10, L 5, nu64 c4), (3, L 6, ptA g5 0), (4, L 8, nu64 c4), (1, true, ptA g1 0), (2, true, ptA g2 0)] [(true, g1, 24, (Wl a)), (true, g2, 24, [.int .u64 0, .int .u64 0, .int .u64 0, .int .u64 0]), (L 6, g5, 24, (cond (L 7) (Wl d3) [.int .u64 0, .int .u64 0, .int .u64 0, .int .u64 0]))] ac w) (by kernel_rfl) (by kernel_rfl) ?_ ?_ ?_
 ·exact ⟨0, hs.drew.skip.skip.skip.skip.skip.skip.skip.skip.pad⟩
 ·refine ⟨?_, ?_, ?_, ?_, ?_, ?_, ?_, ?_, ?_, trivial⟩
  ·exact fun L ac w ⟨g5, hs⟩ => pln (oldd hs 0 0 (W a) isAgg24 sizeOf24 rfl rfl rfl rfl rfl fun ac hs => ⟨g5, hs⟩)
  ·exact fun L ac w ⟨g5, hs⟩ => pln (op_call (F := 118) hs (some 1) (v := W Pf) rfl rfl rfl rfl (call118 _) rprime_c rfl fun ac w hs => ⟨g5, hs⟩)
  ·exact fun L ac w ⟨g5, hs⟩ => pln (op_call (F := 60) hs (some 2) (v := .tuple #[W d3, nu64 c4]) rfl rfl rfl rfl (call60 _) (less_at a Pf d3 c4 ha Pf_lt hd3 hc4) rfl fun ac w hs => ⟨g5, hs⟩)
  ·exact fun L ac w ⟨g5, hs⟩ => pln (omv hs 3 rfl rfl rfl fun ac hs => ⟨g5, hs⟩)
  ·exact fun L ac w ⟨g5, hs⟩ => pln (xtr hs (some 4) rfl rfl rfl rfl rfl fun ac hs => ⟨g5, hs⟩)
  ·exact fun L ac w ⟨g5, hs⟩ => pln (xtr hs (some 5) rfl rfl rfl rfl rfl fun ac hs => ⟨g5, hs⟩)
  ·exact fun L ac w ⟨g5, hs⟩ => pln (op_alloc hs (some 6) (some 2) (cs := [.int .u64 0, .int .u64 0, .int .u64 0, .int .u64 0]) rfl rfl zeroValue24 (by kernel_rfl) rfl rfl fun g5 ac w hs => ⟨g5, hs⟩)
  ·exact fun L ac w ⟨g5, hs⟩ => pln (stoo hs 2 ((Wl d3)) sizeOf24 rfl rfl rfl rfl rfl rfl rfl rfl rfl rfl fun w hs => ⟨g5, hs⟩)
  ·exact fun L ac w ⟨g5, hs⟩ => pln (oas hs 7 rfl rfl rfl fun ac hs => ⟨g5, hs⟩)
 intro ac w ⟨g5, hs⟩
 try dsimp only [cond_true] at hs
 refine then_n (wp_seq (wp_seq (wp_region_lit ?_)))
 refine mvv hs rfl rfl rfl fun ac hs => ?_
 refine bnn hs (.bool (decide (c4 = 1))) rfl rfl rfl rfl (bin_eqlN (y := 1)) fun ac hs => ?_
 refine wpList_nil (then_n ?_)
 refine wp_cond_split (hs.ev rfl) (fun hc => ?_) (fun hc => ?_)
 ·skip
  have hp6 := of_decide_eq_true hc
  refine wp_seq (wp_region_lit ?_)
  refine ldd hs 0 (W a) isAgg24 sizeOf24 rfl rfl rfl rfl rfl fun ac hs => ?_
  refine stp (stoo hs 1 ((Wl a)) sizeOf24 rfl rfl rfl rfl rfl rfl rfl rfl rfl rfl fun w hs => ?_)
  refine wpList_nil (then_n (wp_ret (then_r ?_)))
  exact bodyPost_ret (res1 rfl (rv_c hs 1 (v := W a) rfl rfl isAgg24 sizeOf24 rfl)) hs.defers ⟨by rw [← hx, ← rred_lo Pf_big Pf_lt ha hc4 hp6], (hs.bel rfl)⟩
 ·skip
  have hp7 := of_decide_eq_false hc
  refine wp_skip (then_n (wp_seq (wp_region_lit ?_)))
  refine ldd hs 2 (W d3) isAgg24 sizeOf24 rfl rfl rfl rfl rfl fun ac hs => ?_
  refine stp (stoo hs 1 ((Wl d3)) sizeOf24 rfl rfl rfl rfl rfl rfl rfl rfl rfl rfl fun w hs => ?_)
  refine wpList_nil (then_n (wp_ret ?_))
  exact bodyPost_ret (res1 rfl (rv_c hs 1 (v := W d3) rfl rfl isAgg24 sizeOf24 rfl)) hs.defers ⟨by rw [← hx, ← rred_hi Pf_big Pf_lt ha hd3 hc4 hp7], (hs.bel rfl)⟩
theorem rfadd_c (a b x : Nat) (ha : a < 2 ^ 256) (hb : b < 2 ^ 256) (hx : (a + b) % Pf = x) (w0 : World) : Calls prog 122 #[W a, W b] w0 fun e w' => e = .returned (W x) ∧ Below w0.heap.size w0 w' := by
 refine enter (n := 25) (args := [W a, W b]) func122 rfl rfl (Nat.le_of_ble_eq_true rfl) fun ac hs => ?_
 refine wp_seq (wp_region_lit ?_)
 refine stp (op_box hs none none (cs := (Wl a)) rfl rfl rfl rfl rfl rfl fun g1 ac w hs => ?_)
 refine stp (op_box hs none none (cs := (Wl b)) rfl rfl rfl rfl rfl rfl fun g2 ac w hs => ?_)
 refine stp (op_alloc hs none none (cs := [.int .u64 0, .int .u64 0, .int .u64 0, .int .u64 0]) rfl rfl zeroValue24 (by kernel_rfl) rfl rfl fun g3 ac w hs => ?_)
 refine wpList_nil (then_n (wp_seq ?_))
 replace hs := hs.n0 [2, 3, 4] rfl rfl
 obtain ⟨r4, hr4, lr4⟩ : ∃ z0, a % Pf = z0 ∧ z0 < 2 ^ 256 := ⟨_, rfl, modP_lt _⟩
 obtain ⟨r5, hr5, lr5⟩ : ∃ z0, b % Pf = z0 ∧ z0 < 2 ^ 256 := ⟨_, rfl, modP_lt _⟩
 obtain ⟨s6, hs6, ls6⟩ : ∃ z0, (r4 + r5) % 2 ^ 256 = z0 ∧ z0 < 2 ^ 256 := ⟨_, rfl, Nat.mod_lt _ (Nat.two_pow_pos 256)⟩
 obtain ⟨c7, hc7⟩ : ∃ z0, (r4 + r5) / 2 ^ 256 = z0 := ⟨_, rfl⟩
 refine region_inv [([], [1, 3, 4, 5, 6, 7, 9, 10]), ([0], [3, 4, 5, 6, 7, 9, 10]), ([], [3, 4, 5, 6, 7, 9, 10]), ([0, 1, 2], [4, 5, 6, 7, 9, 10]), (rgn 0 4, [5, 6, 7, 9, 10]), (rgn 0 5, [6, 7, 9, 10]), (rgn 0 6, [9, 10]), (rgn 0 6, [10]), ([], [9, 10]), ([0, 1, 2, 3, 4, 5, 6, 8], [10]), (rgn 0 10, [])] (fun L ac w => ∃ (g8 : Nat), St 25 w0 [(8, L 0, W a), (9, L 1, W r4), (10, L 2, W b), (11, L 3, W r5), (12, L 4, .tuple #[W s6, nu64 c7]), (7, L 5, .tuple #[W s6, nu64 c7]), (13, L 6, W s6), (14, L 7, nu64 c7), (5, L 8, ptA g8 0), (6, L 10, nu64 c7), (2, true, ptA g1 0), (3, true, ptA g2 0), (4, true, ptA g3 0)] [(true, g1, 24, (Wl a)), (true, g2, 24, (Wl b)), (true, g3, 24, [.int .u64 0, .int .u64 0, .int .u64 0, .int .u64 0]), (L 8, g8, 24, (cond (L 9) (Wl s6) [.int .u64 0, .int .u64 0, .int .u64 0, .int .u64 0]))] ac w) (by kernel_rfl) (by kernel_rfl) ?_ ?_ ?_
 ·exact ⟨0, hs.drew.skip.skip.skip.skip.skip.skip.skip.skip.skip.skip.pad⟩
 ·refine ⟨?_, ?_, ?_, ?_, ?_, ?_, ?_, ?_, ?_, ?_, ?_, trivial⟩
  ·exact fun L ac w ⟨g8, hs⟩ => pln (oldd hs 0 0 (W a) isAgg24 sizeOf24 rfl rfl rfl rfl rfl fun ac hs => ⟨g8, hs⟩)
  ·exact fun L ac w ⟨g8, hs⟩ => pln (op_call (F := 121) hs (some 1) (v := W r4) rfl rfl rfl rfl (call121 _) (rfred_c a r4 ha hr4) rfl fun ac w hs => ⟨g8, hs⟩)
  ·exact fun L ac w ⟨g8, hs⟩ => pln (oldd hs 2 1 (W b) isAgg24 sizeOf24 rfl rfl rfl rfl rfl fun ac hs => ⟨g8, hs⟩)
  ·exact fun L ac w ⟨g8, hs⟩ => pln (op_call (F := 121) hs (some 3) (v := W r5) rfl rfl rfl rfl (call121 _) (rfred_c b r5 hb hr5) rfl fun ac w hs => ⟨g8, hs⟩)
  ·exact fun L ac w ⟨g8, hs⟩ => pln (op_call (F := 59) hs (some 4) (v := .tuple #[W s6, nu64 c7]) rfl rfl rfl rfl (call59 _) (more_at r4 r5 s6 c7 lr4 lr5 hs6 hc7) rfl fun ac w hs => ⟨g8, hs⟩)
  ·exact fun L ac w ⟨g8, hs⟩ => pln (omv hs 5 rfl rfl rfl fun ac hs => ⟨g8, hs⟩)
  ·exact fun L ac w ⟨g8, hs⟩ => pln (xtr hs (some 6) rfl rfl rfl rfl rfl fun ac hs => ⟨g8, hs⟩)
  ·exact fun L ac w ⟨g8, hs⟩ => pln (xtr hs (some 7) rfl rfl rfl rfl rfl fun ac hs => ⟨g8, hs⟩)
  ·exact fun L ac w ⟨g8, hs⟩ => pln (op_alloc hs (some 8) (some 3) (cs := [.int .u64 0, .int .u64 0, .int .u64 0, .int .u64 0]) rfl rfl zeroValue24 (by kernel_rfl) rfl rfl fun g8 ac w hs => ⟨g8, hs⟩)
  ·exact fun L ac w ⟨g8, hs⟩ => pln (stoo hs 3 ((Wl s6)) sizeOf24 rfl rfl rfl rfl rfl rfl rfl rfl rfl rfl fun w hs => ⟨g8, hs⟩)
  ·exact fun L ac w ⟨g8, hs⟩ => pln (oas hs 9 rfl rfl rfl fun ac hs => ⟨g8, hs⟩)
 intro ac w ⟨g8, hs⟩
 try dsimp only [cond_true] at hs
 refine then_n (wp_seq (wp_seq (wp_region_lit ?_)))
 refine mvv hs rfl rfl rfl fun ac hs => ?_
 refine bnn hs (.bool (decide (c7 = 1))) rfl rfl rfl rfl (bin_eqlN (y := 1)) fun ac hs => ?_
 refine wpList_nil (then_n ?_)
 refine wp_cond_split (hs.ev rfl) (fun hc => ?_) (fun hc => ?_)
 ·skip
  have hp9 := of_decide_eq_true hc
  refine wp_region_lit ?_
  refine ldd hs 3 (W s6) isAgg24 sizeOf24 rfl rfl rfl rfl rfl fun ac hs => ?_
  refine stp (op_build hs none (qs := [(0, .int .u64 4294968273)]) (v := .agg #[.int .u64 4294968273, .int .u64 0, .int .u64 0, .int .u64 0]) rfl rfl rfl rfl (fun _ => by kernel_rfl) rfl fun ac hs => ?_)
  obtain ⟨s10, hs10, ls10⟩ : ∃ z0, (s6 + Pov) % 2 ^ 256 = z0 ∧ z0 < 2 ^ 256 := ⟨_, rfl, Nat.mod_lt _ (Nat.two_pow_pos 256)⟩
  obtain ⟨c11, hc11⟩ : ∃ z0, (s6 + Pov) / 2 ^ 256 = z0 := ⟨_, rfl⟩
  refine stp (op_call (F := 59) hs none (v := .tuple #[W s10, nu64 c11]) rfl rfl rfl rfl (call59 _) (more_at s6 Pov s10 c11 ls6 Pov_lt hs10 hc11) rfl fun ac w hs => ?_)
  refine mvv hs rfl rfl rfl fun ac hs => ?_
  refine stp (xtr hs none rfl rfl rfl rfl rfl fun ac hs => ?_)
  refine stp (xtr hs none rfl rfl rfl rfl rfl fun ac hs => ?_)
  refine stp (stoo hs 3 ((Wl s10)) sizeOf24 rfl rfl rfl rfl rfl rfl rfl rfl rfl rfl fun w hs => ?_)
  refine wpList_nil (then_n (wp_seq ?_))
  replace hs := hs.n0 [4, 5] rfl rfl
  refine wp_region_lit ?_
  refine ldd hs 3 (W s10) isAgg24 sizeOf24 rfl rfl rfl rfl rfl fun ac hs => ?_
  obtain ⟨r12, hr12, lr12⟩ : ∃ z0, s10 % Pf = z0 ∧ z0 < 2 ^ 256 := ⟨_, rfl, modP_lt _⟩
  refine stp (op_call (F := 121) hs none (v := W r12) rfl rfl rfl rfl (call121 _) (rfred_c s10 r12 ls10 hr12) rfl fun ac w hs => ?_)
  refine stp (stoo hs 2 ((Wl r12)) sizeOf24 rfl rfl rfl rfl rfl rfl rfl rfl rfl rfl fun w hs => ?_)
  refine wpList_nil (then_n (wp_ret ?_))
  exact bodyPost_ret (res1 rfl (rv_c hs 2 (v := W r12) rfl rfl isAgg24 sizeOf24 rfl)) hs.defers ⟨by subst hr4 hr5; rw [← hx, ← hr12, rfadd_yes hs6 hc7 hp9 hs10], (hs.bel rfl)⟩
 ·skip
  have hp13 := of_decide_eq_false hc
  refine wp_skip (then_n (wp_seq (wp_region_lit ?_)))
  refine ldd hs 3 (W s6) isAgg24 sizeOf24 rfl rfl rfl rfl rfl fun ac hs => ?_
  obtain ⟨r14, hr14, lr14⟩ : ∃ z0, s6 % Pf = z0 ∧ z0 < 2 ^ 256 := ⟨_, rfl, modP_lt _⟩
  refine stp (op_call (F := 121) hs none (v := W r14) rfl rfl rfl rfl (call121 _) (rfred_c s6 r14 ls6 hr14) rfl fun ac w hs => ?_)
  refine stp (stoo hs 2 ((Wl r14)) sizeOf24 rfl rfl rfl rfl rfl rfl rfl rfl rfl rfl fun w hs => ?_)
  refine wpList_nil (then_n (wp_ret ?_))
  exact bodyPost_ret (res1 rfl (rv_c hs 2 (v := W r14) rfl rfl isAgg24 sizeOf24 rfl)) hs.defers ⟨by subst hr4 hr5; rw [← hx, ← hr14, rfadd_no hs6 hc7 hp13], (hs.bel rfl)⟩
theorem rfsub_c (a b x : Nat) (ha : a < 2 ^ 256) (hb : b < 2 ^ 256) (hx : fsub a b = x) (w0 : World) : Calls prog 124 #[W a, W b] w0 fun e w' => e = .returned (W x) ∧ Below w0.heap.size w0 w' := by
 refine enter (n := 24) (args := [W a, W b]) func124 rfl rfl (Nat.le_of_ble_eq_true rfl) fun ac hs => ?_
 refine wp_seq (wp_region_lit ?_)
 refine stp (op_box hs none none (cs := (Wl a)) rfl rfl rfl rfl rfl rfl fun g1 ac w hs => ?_)
 refine stp (op_box hs none none (cs := (Wl b)) rfl rfl rfl rfl rfl rfl fun g2 ac w hs => ?_)
 refine stp (op_alloc hs none none (cs := [.int .u64 0, .int .u64 0, .int .u64 0, .int .u64 0]) rfl rfl zeroValue24 (by kernel_rfl) rfl rfl fun g3 ac w hs => ?_)
 refine wpList_nil (then_n (wp_seq ?_))
 replace hs := hs.n0 [2, 3, 4] rfl rfl
 obtain ⟨r4, hr4, lr4⟩ : ∃ z0, a % Pf = z0 ∧ z0 < 2 ^ 256 := ⟨_, rfl, modP_lt _⟩
 obtain ⟨r5, hr5, lr5⟩ : ∃ z0, b % Pf = z0 ∧ z0 < 2 ^ 256 := ⟨_, rfl, modP_lt _⟩
 obtain ⟨d6, hd6, ld6⟩ : ∃ z0, (r4 + 2 ^ 256 - r5) % 2 ^ 256 = z0 ∧ z0 < 2 ^ 256 := ⟨_, rfl, Nat.mod_lt _ (Nat.two_pow_pos 256)⟩
 obtain ⟨c7, hc7⟩ : ∃ z0, bor r4 r5 = z0 := ⟨_, rfl⟩
 refine region_inv [([], [1, 3, 4, 5, 6, 7, 9, 10]), ([0], [3, 4, 5, 6, 7, 9, 10]), ([], [3, 4, 5, 6, 7, 9, 10]), ([0, 1, 2], [4, 5, 6, 7, 9, 10]), (rgn 0 4, [5, 6, 7, 9, 10]), (rgn 0 5, [6, 7, 9, 10]), (rgn 0 6, [9, 10]), (rgn 0 6, [10]), ([], [9, 10]), ([0, 1, 2, 3, 4, 5, 6, 8], [10]), (rgn 0 10, [])] (fun L ac w => ∃ (g8 : Nat), St 24 w0 [(8, L 0, W a), (9, L 1, W r4), (10, L 2, W b), (11, L 3, W r5), (12, L 4, .tuple #[W d6, nu64 c7]), (7, L 5, .tuple #[W d6, nu64 c7]), (13, L 6, W d6), (14, L 7, nu64 c7), (5, L 8, ptA g8 0), (6, L 10, nu64 c7), (2, true, ptA g1 0), (3, true, ptA g2 0), (4, true, ptA g3 0)] [(true, g1, 24, (Wl a)), (true, g2, 24, (Wl b)), (true, g3, 24, [.int .u64 0, .int .u64 0, .int .u64 0, .int .u64 0]), (L 8, g8, 24, (cond (L 9) (Wl d6) [.int .u64 0, .int .u64 0, .int .u64 0, .int .u64 0]))] ac w) (by kernel_rfl) (by kernel_rfl) ?_ ?_ ?_
 ·exact ⟨0, hs.drew.skip.skip.skip.skip.skip.skip.skip.skip.skip.skip.pad⟩
 ·refine ⟨?_, ?_, ?_, ?_, ?_, ?_, ?_, ?_, ?_, ?_, ?_, trivial⟩
  ·exact fun L ac w ⟨g8, hs⟩ => pln (oldd hs 0 0 (W a) isAgg24 sizeOf24 rfl rfl rfl rfl rfl fun ac hs => ⟨g8, hs⟩)
  ·exact fun L ac w ⟨g8, hs⟩ => pln (op_call (F := 121) hs (some 1) (v := W r4) rfl rfl rfl rfl (call121 _) (rfred_c a r4 ha hr4) rfl fun ac w hs => ⟨g8, hs⟩)
  ·exact fun L ac w ⟨g8, hs⟩ => pln (oldd hs 2 1 (W b) isAgg24 sizeOf24 rfl rfl rfl rfl rfl fun ac hs => ⟨g8, hs⟩)
  ·exact fun L ac w ⟨g8, hs⟩ => pln (op_call (F := 121) hs (some 3) (v := W r5) rfl rfl rfl rfl (call121 _) (rfred_c b r5 hb hr5) rfl fun ac w hs => ⟨g8, hs⟩)
  ·exact fun L ac w ⟨g8, hs⟩ => pln (op_call (F := 60) hs (some 4) (v := .tuple #[W d6, nu64 c7]) rfl rfl rfl rfl (call60 _) (less_at r4 r5 d6 c7 lr4 lr5 hd6 hc7) rfl fun ac w hs => ⟨g8, hs⟩)
  ·exact fun L ac w ⟨g8, hs⟩ => pln (omv hs 5 rfl rfl rfl fun ac hs => ⟨g8, hs⟩)
  ·exact fun L ac w ⟨g8, hs⟩ => pln (xtr hs (some 6) rfl rfl rfl rfl rfl fun ac hs => ⟨g8, hs⟩)
  ·exact fun L ac w ⟨g8, hs⟩ => pln (xtr hs (some 7) rfl rfl rfl rfl rfl fun ac hs => ⟨g8, hs⟩)
  ·exact fun L ac w ⟨g8, hs⟩ => pln (op_alloc hs (some 8) (some 3) (cs := [.int .u64 0, .int .u64 0, .int .u64 0, .int .u64 0]) rfl rfl zeroValue24 (by kernel_rfl) rfl rfl fun g8 ac w hs => ⟨g8, hs⟩)
  ·exact fun L ac w ⟨g8, hs⟩ => pln (stoo hs 3 ((Wl d6)) sizeOf24 rfl rfl rfl rfl rfl rfl rfl rfl rfl rfl fun w hs => ⟨g8, hs⟩)
  ·exact fun L ac w ⟨g8, hs⟩ => pln (oas hs 9 rfl rfl rfl fun ac hs => ⟨g8, hs⟩)
 intro ac w ⟨g8, hs⟩
 try dsimp only [cond_true] at hs
 refine then_n (wp_seq (wp_seq (wp_region_lit ?_)))
 refine mvv hs rfl rfl rfl fun ac hs => ?_
 refine bnn hs (.bool (decide (c7 = 1))) rfl rfl rfl rfl (bin_eqlN (y := 1)) fun ac hs => ?_
 refine wpList_nil (then_n ?_)
 refine wp_cond_split (hs.ev rfl) (fun hc => ?_) (fun hc => ?_)
 ·skip
  have hp9 := of_decide_eq_true hc
  replace hs := hs.n0 [4, 5] rfl rfl
  obtain ⟨s10, hs10, ls10⟩ : ∃ z0, (d6 + Pf) % 2 ^ 256 = z0 ∧ z0 < 2 ^ 256 := ⟨_, rfl, Nat.mod_lt _ (Nat.two_pow_pos 256)⟩
  obtain ⟨c11, hc11⟩ : ∃ z0, (d6 + Pf) / 2 ^ 256 = z0 := ⟨_, rfl⟩
  refine region_inv [([], rgn 2 5), ([], rgn 2 5), ([0, 1], rgn 3 4), ([0, 1, 2], [4, 5, 6]), (rgn 0 4, [6]), (rgn 0 4, []), (rgn 0 5, [])] (fun L ac w => St 24 w0 [(18, L 0, W d6), (19, L 1, W Pf), (20, L 2, .tuple #[W s10, nu64 c11]), (17, L 3, .tuple #[W s10, nu64 c11]), (21, L 4, W s10), (22, L 5, nu64 c11), (4, true, ptA g3 0), (5, true, ptA g8 0)] [(true, g1, 24, (Wl a)), (true, g2, 24, (Wl b)), (true, g3, 24, [.int .u64 0, .int .u64 0, .int .u64 0, .int .u64 0]), (true, g8, 24, (cond (L 6) (Wl s10) (Wl d6)))] ac w) (by kernel_rfl) (by kernel_rfl) ?_ ?_ ?_
  ·exact hs.drew.skip.skip.skip.skip.skip.skip
  ·refine ⟨?_, ?_, ?_, ?_, ?_, ?_, ?_, trivial⟩
   ·exact fun L ac w hs => pln (oldd hs 0 3 (W d6) isAgg24 sizeOf24 rfl rfl rfl rfl rfl fun ac hs => hs)
   ·exact fun L ac w hs => pln (op_call (F := 118) hs (some 1) (v := W Pf) rfl rfl rfl rfl (call118 _) rprime_c rfl fun ac w hs => hs)
   ·exact fun L ac w hs => pln (op_call (F := 59) hs (some 2) (v := .tuple #[W s10, nu64 c11]) rfl rfl rfl rfl (call59 _) (more_at d6 Pf s10 c11 ld6 Pf_lt hs10 hc11) rfl fun ac w hs => hs)
   ·exact fun L ac w hs => pln (omv hs 3 rfl rfl rfl fun ac hs => hs)
   ·exact fun L ac w hs => pln (xtr hs (some 4) rfl rfl rfl rfl rfl fun ac hs => hs)
   ·exact fun L ac w hs => pln (xtr hs (some 5) rfl rfl rfl rfl rfl fun ac hs => hs)
   ·exact fun L ac w hs => pln (stoo hs 3 ((Wl s10)) sizeOf24 rfl rfl rfl rfl rfl rfl rfl rfl rfl rfl fun w hs => hs)
  intro ac w hs
  try dsimp only [cond_true] at hs
  refine then_n (wp_seq (wp_region_lit ?_))
  refine ldd hs 3 (W s10) isAgg24 sizeOf24 rfl rfl rfl rfl rfl fun ac hs => ?_
  refine stp (stoo hs 2 ((Wl s10)) sizeOf24 rfl rfl rfl rfl rfl rfl rfl rfl rfl rfl fun w hs => ?_)
  refine wpList_nil (then_n (wp_ret ?_))
  exact bodyPost_ret (res1 rfl (rv_c hs 2 (v := W s10) rfl rfl isAgg24 sizeOf24 rfl)) hs.defers ⟨by subst hr4 hr5; rw [← hx, ← fsub_yes hd6 hc7 hp9 hs10], (hs.bel rfl)⟩
 ·skip
  have hp12 := of_decide_eq_false hc
  refine wp_skip (then_n (wp_seq (wp_region_lit ?_)))
  refine ldd hs 3 (W d6) isAgg24 sizeOf24 rfl rfl rfl rfl rfl fun ac hs => ?_
  refine stp (stoo hs 2 ((Wl d6)) sizeOf24 rfl rfl rfl rfl rfl rfl rfl rfl rfl rfl fun w hs => ?_)
  refine wpList_nil (then_n (wp_ret ?_))
  exact bodyPost_ret (res1 rfl (rv_c hs 2 (v := W d6) rfl rfl isAgg24 sizeOf24 rfl)) hs.defers ⟨by subst hr4 hr5; rw [← hx, ← fsub_no hd6 hc7 hp12], (hs.bel rfl)⟩
theorem rfneg_c (a x : Nat) (ha : a < 2 ^ 256) (hx : fsub 0 a = x) (w0 : World) : Calls prog 90 #[W a] w0 fun e w' => e = .returned (W x) ∧ Below w0.heap.size w0 w' := by
 refine enter (n := 6) (args := [W a]) func90 rfl rfl (Nat.le_of_ble_eq_true rfl) fun ac hs => ?_
 refine wp_seq (wp_region_lit ?_)
 refine stp (op_box hs none none (cs := (Wl a)) rfl rfl rfl rfl rfl rfl fun g1 ac w hs => ?_)
 refine stp (op_alloc hs none none (cs := [.int .u64 0, .int .u64 0, .int .u64 0, .int .u64 0]) rfl rfl zeroValue24 (by kernel_rfl) rfl rfl fun g2 ac w hs => ?_)
 refine wpList_nil (then_n (wp_seq (wp_region_lit ?_)))
 refine stp (op_build hs none (qs := []) (v := .agg #[.int .u64 0, .int .u64 0, .int .u64 0, .int .u64 0]) rfl rfl rfl rfl (fun _ => by kernel_rfl) rfl fun ac hs => ?_)
 refine ldd hs 0 (W a) isAgg24 sizeOf24 rfl rfl rfl rfl rfl fun ac hs => ?_
 obtain ⟨r3, hr3, lr3⟩ : ∃ z0, fsub 0 a = z0 ∧ z0 < 2 ^ 256 := ⟨_, rfl, fsub_lt _ _⟩
 refine stp (op_call (F := 124) hs none (v := W r3) rfl rfl rfl rfl (call124 _) (rfsub_c 0 a r3 (by decide) ha hr3) rfl fun ac w hs => ?_)
 refine stp (stoo hs 1 ((Wl r3)) sizeOf24 rfl rfl rfl rfl rfl rfl rfl rfl rfl rfl fun w hs => ?_)
 refine wpList_nil (then_n (wp_ret ?_))
 exact bodyPost_ret (res1 rfl (rv_c hs 1 (v := W r3) rfl rfl isAgg24 sizeOf24 rfl)) hs.defers ⟨by rw [← hx, ← hr3], (hs.bel rfl)⟩
theorem halves_c (a : Nat) (ha : a < 2 ^ 256) (w0 : World) : Calls prog 126 #[W a] w0 fun e w' => e = .returned (At .u64 8 (h3 a)) ∧ Below w0.heap.size w0 w' := by
 refine enter (n := 23) (args := [W a]) func126 rfl rfl (Nat.le_of_ble_eq_true rfl) fun ac hs => ?_
 refine wp_seq (wp_region_lit ?_)
 refine stp (op_box hs none none (cs := (Wl a)) rfl rfl rfl rfl rfl rfl fun g1 ac w hs => ?_)
 refine stp (op_alloc hs none none (cs := (tab .u64 8 (fun _ => 0))) rfl rfl zeroValue92 (by kernel_rfl) rfl rfl fun g2 ac w hs => ?_)
 refine wpList_nil (then_n (wp_seq (wp_region_lit ?_)))
 refine stp (op_build hs none (qs := []) (v := At .u64 8 (fun _ => 0)) rfl rfl rfl rfl (fun _ => by kernel_rfl) rfl fun ac hs => ?_)
 refine stp (op_alloc hs none none (cs := (tab .u64 8 (fun _ => 0))) rfl rfl zeroValue92 (by kernel_rfl) rfl rfl fun g3 ac w hs => ?_)
 refine stp (stoo hs 2 ((tab .u64 8 (fun _ => 0))) sizeOf92 rfl rfl rfl rfl rfl (by kernel_rfl) tab_length' (tab_one _ _ _) tab_leA wr_tab fun w hs => ?_)
 refine wpList_nil (then_n (wp_seq (wp_seq (wp_region_lit ?_))))
 refine asg hs rfl rfl rfl fun ac hs => ?_
 refine wpList_nil (then_n (wp_block ?_))
 refine wp_loop_m (fun μ ac w => ∃ (k : Nat) (f : Nat → Nat), (8 - k) = μ ∧ (k ≤ 8) ∧ (∀ j, j < k → f j = h3 a j) ∧ St 23 w0 [(1, true, ptA g1 0), (2, true, ptA g2 0), (3, true, ptA g3 0), (4, true, ni64 k)] [(true, g1, 24, (Wl a)), (true, g2, 92, (tab .u64 8 (fun _ => 0))), (true, g3, 92, (tab .u64 8 f))] ac w) ?_ ?_
 ·exact ⟨_, 0, (fun _ => 0), rfl, (by omega), (fun j hj => by omega), (hs.re ⟨rfl, rfl, rfl, rfl, trivial⟩)⟩
 intro μ ac w ⟨k, f, hμ, hk, hf, hs⟩
 refine wp_seq (wp_seq (wp_region_lit ?_))
 refine mvv hs rfl rfl rfl fun ac hs => ?_
 refine bnn hs (.bool (decide (k < 8))) rfl rfl rfl rfl (bin_lssN (y := 8)) fun ac hs => ?_
 refine wpList_nil (then_n ?_)
 refine wp_cond_split (hs.ev rfl) (fun hc => ?_) (fun hc => ?_)
 ·skip
  have hp4 := of_decide_eq_true hc
  have hlt : k < 8 := of_decide_eq_true hc
  refine wp_skip (then_n (wp_seq (wp_block (wp_region_lit ?_))))
  refine mvv hs rfl rfl rfl fun ac hs => ?_
  refine mvv hs rfl rfl rfl fun ac hs => ?_
  refine bnn hs (ni64 (k / 2)) rfl rfl rfl rfl (bin_quoN (y := 2) rfl (by decide) (show k < 9223372036854775808 by omega)) fun ac hs => ?_
  refine stp (op_idxA hs none (j := k / 2) rfl rfl rfl rfl underlying24 sizeOf22 (show k / 2 < 4 by omega) (off := k / 2) (by omega) rfl fun ac hs => ?_)
  have l5 := limN_lt a (k / 2)
  refine ldd hs 0 (nu64 (limN a (k / 2))) isAgg22 sizeOf22 rfl rfl rfl rfl (Wl_get (j := k / 2) (show k / 2 < 4 by omega)) fun ac hs => ?_
  refine mvv hs rfl rfl rfl fun ac hs => ?_
  refine bnn hs (ni64 (k % 2)) rfl rfl rfl rfl (bin_remN (y := 2) rfl (by decide)) fun ac hs => ?_
  refine bnn hs (ni64 (32 * (k % 2))) rfl rfl rfl rfl (bin_mulN (x := 32) rfl (show 32 * (k % 2) < 9223372036854775808 by omega)) fun ac hs => ?_
  refine stp (op_convert hs none (v := nu64 (32 * (k % 2))) rfl rfl rfl (conv_N underlying3 underlying73 (show 32 * (k % 2) < 18446744073709551616 by omega)) rfl fun ac hs => ?_)
  refine bnn hs (.int .u64 (((limN a (k / 2)) / 2 ^ (32 * (k % 2)) : Nat) : Int)) rfl rfl rfl rfl (bin_shrN (z := (limN a (k / 2)) / 2 ^ (32 * (k % 2))) rfl (limN_lt _ _)) fun ac hs => ?_
  refine bnn hs (.int .u64 ((((limN a (k / 2)) / 2 ^ (32 * (k % 2))) % 2 ^ 32 : Nat) : Int)) rfl rfl rfl rfl (bin_andN (y := 4294967295) (z := ((limN a (k / 2)) / 2 ^ (32 * (k % 2))) % 2 ^ 32) (Nat.and_two_pow_sub_one_eq_mod ((limN a (k / 2)) / 2 ^ (32 * (k % 2))) 32) (shr_lt (limN_lt _ _)) (by decide) (show ((limN a (k / 2)) / 2 ^ (32 * (k % 2))) % 2 ^ 32 < 18446744073709551616 by omega)) fun ac hs => ?_
  refine stp (op_idxA hs none (j := k) rfl rfl rfl rfl underlying92 sizeOf22 (show k < 8 by omega) (off := k) (by omega) rfl fun ac hs => ?_)
  refine stp (stoo hs 2 ([.int .u64 ((((limN a (k / 2)) / 2 ^ (32 * (k % 2))) % 2 ^ 32 : Nat) : Int)]) sizeOf22 rfl rfl rfl rfl rfl rfl rfl rfl (tab_le (j := k) (show k < 8 by omega)) (tab_set) fun w hs => ?_)
  refine wpList_nil (blk_n (then_n ?_))
  replace hs := hs.n0 [1, 2, 3, 4] rfl rfl
  refine wp_region_lit ?_
  refine mvv hs rfl rfl rfl fun ac hs => ?_
  refine bnn hs (ni64 (k + 1)) rfl rfl rfl rfl (bin_addN (y := 1) rfl (show k + 1 < 9223372036854775808 by omega)) fun ac hs => ?_
  refine asg hs rfl rfl rfl fun ac hs => ?_
  refine wpList_nil (then_n ?_)
  exact ⟨_, ⟨(k + 1), (upn f k (((limN a (k / 2)) / 2 ^ (32 * (k % 2))) % 2 ^ 32)), rfl, hlt, (h3_step hf), (hs.re ⟨rfl, rfl, rfl, rfl, trivial⟩)⟩, (by omega)⟩
 ·skip
  have hp6 := of_decide_eq_false hc
  obtain rfl : k = 8 := by omega
  replace hs := hs.setb 2 (cs' := tab .u64 8 (h3 a)) rfl (tab_congr hf)
  refine wp_exit (then_e (then_e (blk_e (then_n (wp_seq (wp_region_lit ?_))))))
  refine ldd hs 2 (At .u64 8 (h3 a)) isAgg92 sizeOf92 rfl rfl rfl rfl ldv_tab fun ac hs => ?_
  refine stp (stoo hs 1 ((tab .u64 8 (h3 a))) sizeOf92 rfl rfl rfl rfl rfl (by kernel_rfl) tab_length' (tab_one _ _ _) tab_leA wr_tab fun w hs => ?_)
  refine wpList_nil (then_n (wp_ret ?_))
  exact bodyPost_ret (res1 rfl (rv_c hs 1 (v := At .u64 8 (h3 a)) rfl rfl isAgg92 sizeOf92 ldv_tab)) hs.defers ⟨rfl, (hs.bel rfl)⟩
theorem tw12_c (t x : Nat) (ht : t < 1099511627776) (hx : t * Pov = x) (w0 : World) : Calls prog 138 #[nu64 t] w0 fun e w' => e = .returned (W x) ∧ Below w0.heap.size w0 w' := by
 refine enter (n := 23) (args := [nu64 t]) func138 rfl rfl (Nat.le_of_ble_eq_true rfl) fun ac hs => ?_
 refine wp_seq (wp_region_lit ?_)
 refine stp (op_alloc hs none none (cs := [.int .u64 0, .int .u64 0, .int .u64 0, .int .u64 0]) rfl rfl zeroValue24 (by kernel_rfl) rfl rfl fun g1 ac w hs => ?_)
 refine wpList_nil (then_n (wp_seq (wp_region_lit ?_)))
 refine mvv hs rfl rfl rfl fun ac hs => ?_
 refine bnn hs (nu64 (t * 977)) rfl rfl rfl rfl (bin_mulN (y := 977) rfl (show t * 977 < 18446744073709551616 by omega)) fun ac hs => ?_
 refine asg hs rfl rfl rfl fun ac hs => ?_
 refine wpList_nil (then_n (wp_seq (wp_region_lit ?_)))
 refine mvv hs rfl rfl rfl fun ac hs => ?_
 refine bnn hs (nu64 (t * 2 ^ 32 % 18446744073709551616)) rfl rfl rfl rfl (bin_shlM (y := 32) rfl rfl) fun ac hs => ?_
 refine asg hs rfl rfl rfl fun ac hs => ?_
 refine wpList_nil (then_n (wp_seq ?_))
 replace hs := hs.n0 [0, 2, 3, 4] rfl rfl
 refine wp_region_lit ?_
 refine mvv hs rfl rfl rfl fun ac hs => ?_
 refine mvv hs rfl rfl rfl fun ac hs => ?_
 refine bnn hs (nu64 ((t * 977 + t * 2 ^ 32 % 18446744073709551616) % 18446744073709551616)) rfl rfl rfl rfl (bin_addM rfl rfl) fun ac hs => ?_
 refine asg hs rfl rfl rfl fun ac hs => ?_
 refine wpList_nil (then_n (wp_seq (wp_region_lit ?_)))
 refine asg hs rfl rfl rfl fun ac hs => ?_
 refine wpList_nil (then_n (wp_seq (wp_seq (wp_region_lit ?_))))
 refine mvv hs rfl rfl rfl fun ac hs => ?_
 refine mvv hs rfl rfl rfl fun ac hs => ?_
 refine bnn hs (.bool (decide ((t * 977 + t * 2 ^ 32 % 18446744073709551616) % 18446744073709551616 < t * 977))) rfl rfl rfl rfl bin_lssN fun ac hs => ?_
 refine wpList_nil (then_n ?_)
 refine wp_cond_split (hs.ev rfl) (fun hc => ?_) (fun hc => ?_)
 ·skip
  have hp2 := of_decide_eq_true hc
  replace hs := hs.n0 [0, 2, 5, 6] rfl rfl
  refine wp_region_lit ?_
  refine asg hs rfl rfl rfl fun ac hs => ?_
  refine wpList_nil (then_n (wp_seq (wp_region_lit ?_)))
  refine mvv hs rfl rfl rfl fun ac hs => ?_
  refine mvv hs rfl rfl rfl fun ac hs => ?_
  refine bnn hs (nu64 (t / 2 ^ 32)) rfl rfl rfl rfl (bin_shrN (y := 32) rfl (show t < 2 ^ 64 by omega)) fun ac hs => ?_
  refine mvv hs rfl rfl rfl fun ac hs => ?_
  refine bnn hs (nu64 (t / 2 ^ 32 + 1)) rfl rfl rfl rfl (bin_addN (y := 1) rfl (show t / 2 ^ 32 + 1 < 18446744073709551616 by omega)) fun ac hs => ?_
  refine stp (op_build hs none (qs := [(0, nu64 ((t * 977 + t * 2 ^ 32 % 18446744073709551616) % 18446744073709551616)), (1, nu64 (t / 2 ^ 32 + 1))]) (v := .agg #[nu64 ((t * 977 + t * 2 ^ 32 % 18446744073709551616) % 18446744073709551616), nu64 (t / 2 ^ 32 + 1), .int .u64 0, .int .u64 0]) rfl rfl rfl rfl (fun _ => by kernel_rfl) rfl fun ac hs => ?_)
  refine stp (stoo hs 0 ([nu64 ((t * 977 + t * 2 ^ 32 % 18446744073709551616) % 18446744073709551616), nu64 (t / 2 ^ 32 + 1), .int .u64 0, .int .u64 0]) sizeOf24 rfl rfl rfl rfl rfl rfl rfl rfl rfl rfl fun w hs => ?_)
  refine wpList_nil (then_n (wp_ret ?_))
  exact bodyPost_ret (res1 rfl (rv_c hs 0 (v := .agg #[nu64 ((t * 977 + t * 2 ^ 32 % 18446744073709551616) % 18446744073709551616), nu64 (t / 2 ^ 32 + 1), .int .u64 0, .int .u64 0]) rfl rfl isAgg24 sizeOf24 rfl)) hs.defers ⟨by rw [← hx]; exact congrArg (fun l => Ending.returned (.agg (List.toArray l))) (tw12_limbs (c := 1) ht (by rw [if_pos hp2])), (hs.bel rfl)⟩
 ·skip
  have hp3 := of_decide_eq_false hc
  refine wp_skip (then_n (wp_seq ?_))
  replace hs := hs.n0 [0, 2, 5, 6] rfl rfl
  refine wp_region_lit ?_
  refine mvv hs rfl rfl rfl fun ac hs => ?_
  refine mvv hs rfl rfl rfl fun ac hs => ?_
  refine bnn hs (nu64 (t / 2 ^ 32)) rfl rfl rfl rfl (bin_shrN (y := 32) rfl (show t < 2 ^ 64 by omega)) fun ac hs => ?_
  refine mvv hs rfl rfl rfl fun ac hs => ?_
  refine bnn hs (nu64 (t / 2 ^ 32 + 0)) rfl rfl rfl rfl (bin_addN (y := 0) rfl (show t / 2 ^ 32 + 0 < 18446744073709551616 by omega)) fun ac hs => ?_
  refine stp (op_build hs none (qs := [(0, nu64 ((t * 977 + t * 2 ^ 32 % 18446744073709551616) % 18446744073709551616)), (1, nu64 (t / 2 ^ 32 + 0))]) (v := .agg #[nu64 ((t * 977 + t * 2 ^ 32 % 18446744073709551616) % 18446744073709551616), nu64 (t / 2 ^ 32 + 0), .int .u64 0, .int .u64 0]) rfl rfl rfl rfl (fun _ => by kernel_rfl) rfl fun ac hs => ?_)
  refine stp (stoo hs 0 ([nu64 ((t * 977 + t * 2 ^ 32 % 18446744073709551616) % 18446744073709551616), nu64 (t / 2 ^ 32 + 0), .int .u64 0, .int .u64 0]) sizeOf24 rfl rfl rfl rfl rfl rfl rfl rfl rfl rfl fun w hs => ?_)
  refine wpList_nil (then_n (wp_ret ?_))
  exact bodyPost_ret (res1 rfl (rv_c hs 0 (v := .agg #[nu64 ((t * 977 + t * 2 ^ 32 % 18446744073709551616) % 18446744073709551616), nu64 (t / 2 ^ 32 + 0), .int .u64 0, .int .u64 0]) rfl rfl isAgg24 sizeOf24 rfl)) hs.defers ⟨by rw [← hx]; exact congrArg (fun l => Ending.returned (.agg (List.toArray l))) (tw12_limbs (c := 0) ht (by rw [if_neg hp3])), (hs.bel rfl)⟩
theorem folded_c (M x : Nat) (hM : M / 2 ^ 256 < 2 ^ 256) (hx : M % Pf = x) (w0 : World) : Calls prog 127 #[At .u64 16 (h3 M)] w0 fun e w' => e = .returned (W x) ∧ Below w0.heap.size w0 w' := by
 refine enter (n := 88) (args := [At .u64 16 (h3 M)]) func127 rfl rfl (Nat.le_of_ble_eq_true rfl) fun ac hs => ?_
 refine wp_seq (wp_region_lit ?_)
 refine stp (op_box hs none none (cs := (tab .u64 16 (h3 M))) rfl rfl rfl rfl rfl rfl fun g1 ac w hs => ?_)
 refine stp (op_alloc hs none none (cs := [.int .u64 0, .int .u64 0, .int .u64 0, .int .u64 0]) rfl rfl zeroValue24 (by kernel_rfl) rfl rfl fun g2 ac w hs => ?_)
 refine wpList_nil (then_n (wp_seq (wp_region_lit ?_)))
 refine stp (op_build hs none (qs := []) (v := At .u64 10 (fun _ => 0)) rfl rfl rfl rfl (fun _ => by kernel_rfl) rfl fun ac hs => ?_)
 refine stp (op_alloc hs none none (cs := (tab .u64 10 (fun _ => 0))) rfl rfl zeroValue122 (by kernel_rfl) rfl rfl fun g3 ac w hs => ?_)
 refine stp (stoo hs 2 ((tab .u64 10 (fun _ => 0))) sizeOf122 rfl rfl rfl rfl rfl (by kernel_rfl) tab_length' (tab_one _ _ _) tab_leA wr_tab fun w hs => ?_)
 refine wpList_nil (then_n (wp_seq (wp_region_lit ?_)))
 refine asg hs rfl rfl rfl fun ac hs => ?_
 refine wpList_nil (then_n (wp_seq (wp_seq ?_)))
 replace hs := hs.n0 [1, 2, 3, 4] rfl rfl
 refine wp_region_lit ?_
 refine asg hs rfl rfl rfl fun ac hs => ?_
 refine wpList_nil (then_n (wp_block ?_))
 refine wp_loop_m (fun μ ac w => ∃ (i : Nat) (c : Nat) (f : Nat → Nat), (10 - i) = μ ∧ (i ≤ 10) ∧ (c = fT M i / p3 i) ∧ (∀ j, j < i → f j = h3 (fT M i) j) ∧ St 88 w0 [(1, true, ptA g1 0), (2, true, ptA g2 0), (3, true, ptA g3 0), (4, true, nu64 c), (5, true, ni64 i)] [(true, g1, 106, (tab .u64 16 (h3 M))), (true, g2, 24, [.int .u64 0, .int .u64 0, .int .u64 0, .int .u64 0]), (true, g3, 122, (tab .u64 10 f))] ac w) ?_ ?_
 ·exact ⟨_, 0, 0, (fun _ => 0), rfl, (by omega), (by rw [fT_zero]; simp), (fun j hj => by omega), (hs.re ⟨rfl, rfl, rfl, rfl, rfl, trivial⟩)⟩
 intro μ ac w ⟨i, c, f, hμ, hi, hcv, hf, hs⟩
 have hcl : c < 979 := by rw [hcv]; exact fT_lt
 refine wp_seq (wp_seq (wp_region_lit ?_))
 refine mvv hs rfl rfl rfl fun ac hs => ?_
 refine bnn hs (.bool (decide (i < 10))) rfl rfl rfl rfl (bin_lssN (y := 10)) fun ac hs => ?_
 refine wpList_nil (then_n ?_)
 refine wp_cond_split (hs.ev rfl) (fun hc => ?_) (fun hc => ?_)
 ·skip
  have hp4 := of_decide_eq_true hc
  have hlt : i < 10 := of_decide_eq_true hc
  refine wp_skip (then_n (wp_seq (wp_block (wp_seq (wp_seq (wp_region_lit ?_))))))
  refine mvv hs rfl rfl rfl fun ac hs => ?_
  refine bnn hs (.bool (decide (i < 8))) rfl rfl rfl rfl (bin_lssN (y := 8)) fun ac hs => ?_
  refine wpList_nil (then_n ?_)
  refine wp_cond_split (hs.ev rfl) (fun hc => ?_) (fun hc => ?_)
  ·skip
   have hp5 := of_decide_eq_true hc
   replace hs := hs.n0 [1, 2, 3, 4, 5] rfl rfl
   have l6 := h3_lt M i
   have l7 := h3_lt M (8 + i)
   refine region_inv [([], [4, 10, 11]), ([], [2, 3, 4, 10, 11]), ([1], [3, 4, 10, 11]), ([1, 2], [4, 10, 11]), (rgn 0 4, [10, 11]), ([], rgn 6 6), ([5], rgn 7 5), ([5, 6], rgn 8 4), ([5, 6, 7], [9, 10, 11]), (rgn 5 4, [10, 11]), (rgn 0 10, [11]), (rgn 0 11, [])] (fun L ac w => St 88 w0 [(18, L 0, nu64 c), (19, L 1, ni64 i), (20, L 2, .pointer (some ⟨g1, i, none⟩)), (21, L 3, nu64 ((h3 M) i)), (22, L 4, nu64 (c + ((h3 M) i))), (23, L 5, ni64 i), (24, L 6, ni64 (8 + i)), (25, L 7, .pointer (some ⟨g1, 8 + i, none⟩)), (26, L 8, .int .u64 (((h3 M) (8 + i) : Nat) : Int)), (27, L 9, .int .u64 ((((h3 M) (8 + i)) * 977 : Nat) : Int)), (28, L 10, .int .u64 ((c + ((h3 M) i) + (((h3 M) (8 + i)) * 977) : Nat) : Int)), (4, L 11, .int .u64 ((c + ((h3 M) i) + (((h3 M) (8 + i)) * 977) : Nat) : Int)), (1, true, ptA g1 0), (2, true, ptA g2 0), (3, true, ptA g3 0), (4, true, nu64 c), (5, true, ni64 i)] [(true, g1, 106, (tab .u64 16 (h3 M))), (true, g2, 24, [.int .u64 0, .int .u64 0, .int .u64 0, .int .u64 0]), (true, g3, 122, (tab .u64 10 f))] ac w) (by kernel_rfl) (by kernel_rfl) ?_ ?_ ?_
   ·exact hs.drew.skip.skip.skip.skip.skip.skip.skip.skip.skip.skip.skip.skip
   ·refine ⟨?_, ?_, ?_, ?_, ?_, ?_, ?_, ?_, ?_, ?_, ?_, ?_, trivial⟩
    ·exact fun L ac w hs => pln (omv hs 0 rfl rfl rfl fun ac hs => hs)
    ·exact fun L ac w hs => pln (omv hs 1 rfl rfl rfl fun ac hs => hs)
    ·exact fun L ac w hs => pln (op_idxA hs (some 2) (j := i) rfl rfl rfl rfl underlying106 sizeOf22 (show i < 16 by omega) (off := i) (by omega) rfl fun ac hs => hs)
    ·exact fun L ac w hs => pln (oldd hs 3 0 (nu64 ((h3 M) i)) isAgg22 sizeOf22 rfl rfl rfl rfl (tab_get (j := i) (show i < 16 by omega)) fun ac hs => hs)
    ·exact fun L ac w hs => pln (obn hs 4 (nu64 (c + ((h3 M) i))) rfl rfl rfl rfl (bin_addN rfl (show c + ((h3 M) i) < 18446744073709551616 by omega)) fun ac hs => hs)
    ·exact fun L ac w hs => pln (omv hs 5 rfl rfl rfl fun ac hs => hs)
    ·exact fun L ac w hs => pln (obn hs 6 (ni64 (8 + i)) rfl rfl rfl rfl (bin_addN (x := 8) rfl (show 8 + i < 9223372036854775808 by omega)) fun ac hs => hs)
    ·exact fun L ac w hs => pln (op_idxA hs (some 7) (j := 8 + i) rfl rfl rfl rfl underlying106 sizeOf22 (show 8 + i < 16 by omega) (off := 8 + i) (by omega) rfl fun ac hs => hs)
    ·exact fun L ac w hs => pln (oldd hs 8 0 (.int .u64 (((h3 M) (8 + i) : Nat) : Int)) isAgg22 sizeOf22 rfl rfl rfl rfl (tab_get (j := 8 + i) (show 8 + i < 16 by omega)) fun ac hs => hs)
    ·exact fun L ac w hs => pln (obn hs 9 (.int .u64 ((((h3 M) (8 + i)) * 977 : Nat) : Int)) rfl rfl rfl rfl (bin_mulN (y := 977) (z := ((h3 M) (8 + i)) * 977) rfl (show ((h3 M) (8 + i)) * 977 < 18446744073709551616 by omega)) fun ac hs => hs)
    ·exact fun L ac w hs => pln (obn hs 10 (.int .u64 ((c + ((h3 M) i) + (((h3 M) (8 + i)) * 977) : Nat) : Int)) rfl rfl rfl rfl (bin_addN (z := c + ((h3 M) i) + (((h3 M) (8 + i)) * 977)) rfl (show c + ((h3 M) i) + (((h3 M) (8 + i)) * 977) < 18446744073709551616 by omega)) fun ac hs => hs)
    ·exact fun L ac w hs => pln (oas hs 11 rfl rfl rfl fun ac hs => hs)
   intro ac w hs
   try dsimp only [cond_true] at hs
   refine then_n (wp_seq (wp_seq ?_))
   by_cases hq8 : 1 ≤ i
   ·skip
    refine wp_region_lit ?_
    refine mvv hs rfl rfl rfl fun ac hs => ?_
    refine bnn hs (.bool true) rfl rfl rfl rfl (fun w => dT hq8 (bin_geqN (y := 1) w)) fun ac hs => ?_
    refine mvv hs rfl rfl rfl fun ac hs => ?_
    refine lstep (wpO_in hs rfl rfl rfl (op_move hs none rfl rfl rfl rfl fun ac hs => ?_))
    refine lstep (wpO_in hs rfl rfl rfl (op_bin hs none (v := .bool (decide (i < 9))) rfl rfl rfl rfl (fun _ => rfl) (bin_lssN (x := i) (y := 9)) rfl fun ac hs => ?_))
    refine stp (op_pickT hs none rfl rfl rfl rfl rfl fun ac hs => ?_)
    refine wpList_nil (then_n ?_)
    refine wp_cond_split (hs.ev rfl) (fun hc => ?_) (fun hc => ?_)
    ·skip
     have hp9 := of_decide_eq_true hc
     replace hs := hs.n0 [1, 2, 3, 4, 5] rfl rfl
     refine wp_region_lit ?_
     refine mvv hs rfl rfl rfl fun ac hs => ?_
     refine mvv hs rfl rfl rfl fun ac hs => ?_
     refine bnn hs (ni64 (7 + i)) rfl rfl rfl rfl (bin_addN (x := 7) rfl (show 7 + i < 9223372036854775808 by omega)) fun ac hs => ?_
     refine stp (op_idxA hs none (j := 7 + i) rfl rfl rfl rfl underlying106 sizeOf22 (show 7 + i < 16 by omega) (off := 7 + i) (by omega) rfl fun ac hs => ?_)
     have l10 := h3_lt M (7 + i)
     refine ldd hs 0 (.int .u64 (((h3 M) (7 + i) : Nat) : Int)) isAgg22 sizeOf22 rfl rfl rfl rfl (tab_get (j := 7 + i) (show 7 + i < 16 by omega)) fun ac hs => ?_
     refine bnn hs (.int .u64 ((c + ((h3 M) i) + (((h3 M) (8 + i)) * 977) + ((h3 M) (7 + i)) : Nat) : Int)) rfl rfl rfl rfl (bin_addN (z := c + ((h3 M) i) + (((h3 M) (8 + i)) * 977) + ((h3 M) (7 + i))) rfl (show c + ((h3 M) i) + (((h3 M) (8 + i)) * 977) + ((h3 M) (7 + i)) < 18446744073709551616 by omega)) fun ac hs => ?_
     refine asg hs rfl rfl rfl fun ac hs => ?_
     refine wpList_nil (then_n (wp_seq ?_))
     replace hs := hs.n0 [1, 2, 3, 4, 5] rfl rfl
     refine wp_region_lit ?_
     refine mvv hs rfl rfl rfl fun ac hs => ?_
     refine mvv hs rfl rfl rfl fun ac hs => ?_
     refine bnn hs (.int .u64 (((c + ((h3 M) i) + (((h3 M) (8 + i)) * 977) + ((h3 M) (7 + i))) % 2 ^ 32 : Nat) : Int)) rfl rfl rfl rfl (bin_andN (y := 4294967295) (z := (c + ((h3 M) i) + (((h3 M) (8 + i)) * 977) + ((h3 M) (7 + i))) % 2 ^ 32) (Nat.and_two_pow_sub_one_eq_mod (c + ((h3 M) i) + (((h3 M) (8 + i)) * 977) + ((h3 M) (7 + i))) 32) (show c + ((h3 M) i) + (((h3 M) (8 + i)) * 977) + ((h3 M) (7 + i)) < 18446744073709551616 by omega) (by decide) (show (c + ((h3 M) i) + (((h3 M) (8 + i)) * 977) + ((h3 M) (7 + i))) % 2 ^ 32 < 18446744073709551616 by omega)) fun ac hs => ?_
     refine stp (op_idxA hs none (j := i) rfl rfl rfl rfl underlying122 sizeOf22 (show i < 10 by omega) (off := i) (by omega) rfl fun ac hs => ?_)
     refine stp (stoo hs 2 ([.int .u64 (((c + ((h3 M) i) + (((h3 M) (8 + i)) * 977) + ((h3 M) (7 + i))) % 2 ^ 32 : Nat) : Int)]) sizeOf22 rfl rfl rfl rfl rfl rfl rfl rfl (tab_le (j := i) (show i < 10 by omega)) (tab_set) fun w hs => ?_)
     refine wpList_nil (then_n (wp_region_lit ?_))
     refine mvv hs rfl rfl rfl fun ac hs => ?_
     refine bnn hs (.int .u64 (((c + ((h3 M) i) + (((h3 M) (8 + i)) * 977) + ((h3 M) (7 + i))) / 2 ^ 32 : Nat) : Int)) rfl rfl rfl rfl (bin_shrN (y := 32) (z := (c + ((h3 M) i) + (((h3 M) (8 + i)) * 977) + ((h3 M) (7 + i))) / 2 ^ 32) rfl (show c + ((h3 M) i) + (((h3 M) (8 + i)) * 977) + ((h3 M) (7 + i)) < 2 ^ 64 by omega)) fun ac hs => ?_
     refine asg hs rfl rfl rfl fun ac hs => ?_
     refine wpList_nil (blk_n (then_n ?_))
     replace hs := hs.n0 [1, 2, 3, 4, 5] rfl rfl
     refine wp_region_lit ?_
     refine mvv hs rfl rfl rfl fun ac hs => ?_
     refine bnn hs (ni64 (i + 1)) rfl rfl rfl rfl (bin_addN (y := 1) rfl (show i + 1 < 9223372036854775808 by omega)) fun ac hs => ?_
     refine asg hs rfl rfl rfl fun ac hs => ?_
     refine wpList_nil (then_n ?_)
     exact ⟨_, ⟨(i + 1), ((c + ((h3 M) i) + (((h3 M) (8 + i)) * 977) + ((h3 M) (7 + i))) / 2 ^ 32), (upn f i ((c + ((h3 M) i) + (((h3 M) (8 + i)) * 977) + ((h3 M) (7 + i))) % 2 ^ 32)), rfl, hlt, (fold_c hM hcv (by unfold tI; (repeat' split) <;> omega)), (fold_f hM hcv (by unfold tI; (repeat' split) <;> omega) hf), (hs.re ⟨rfl, rfl, rfl, rfl, rfl, trivial⟩)⟩, (by omega)⟩
    ·skip
     have hp11 := of_decide_eq_false hc
     refine wp_skip (then_n (wp_seq ?_))
     replace hs := hs.n0 [1, 2, 3, 4, 5] rfl rfl
     refine wp_region_lit ?_
     refine mvv hs rfl rfl rfl fun ac hs => ?_
     refine mvv hs rfl rfl rfl fun ac hs => ?_
     refine bnn hs (.int .u64 (((c + ((h3 M) i) + (((h3 M) (8 + i)) * 977)) % 2 ^ 32 : Nat) : Int)) rfl rfl rfl rfl (bin_andN (y := 4294967295) (z := (c + ((h3 M) i) + (((h3 M) (8 + i)) * 977)) % 2 ^ 32) (Nat.and_two_pow_sub_one_eq_mod (c + ((h3 M) i) + (((h3 M) (8 + i)) * 977)) 32) (show c + ((h3 M) i) + (((h3 M) (8 + i)) * 977) < 18446744073709551616 by omega) (by decide) (show (c + ((h3 M) i) + (((h3 M) (8 + i)) * 977)) % 2 ^ 32 < 18446744073709551616 by omega)) fun ac hs => ?_
     refine stp (op_idxA hs none (j := i) rfl rfl rfl rfl underlying122 sizeOf22 (show i < 10 by omega) (off := i) (by omega) rfl fun ac hs => ?_)
     refine stp (stoo hs 2 ([.int .u64 (((c + ((h3 M) i) + (((h3 M) (8 + i)) * 977)) % 2 ^ 32 : Nat) : Int)]) sizeOf22 rfl rfl rfl rfl rfl rfl rfl rfl (tab_le (j := i) (show i < 10 by omega)) (tab_set) fun w hs => ?_)
     refine wpList_nil (then_n (wp_region_lit ?_))
     refine mvv hs rfl rfl rfl fun ac hs => ?_
     refine bnn hs (.int .u64 (((c + ((h3 M) i) + (((h3 M) (8 + i)) * 977)) / 2 ^ 32 : Nat) : Int)) rfl rfl rfl rfl (bin_shrN (y := 32) (z := (c + ((h3 M) i) + (((h3 M) (8 + i)) * 977)) / 2 ^ 32) rfl (show c + ((h3 M) i) + (((h3 M) (8 + i)) * 977) < 2 ^ 64 by omega)) fun ac hs => ?_
     refine asg hs rfl rfl rfl fun ac hs => ?_
     refine wpList_nil (blk_n (then_n ?_))
     replace hs := hs.n0 [1, 2, 3, 4, 5] rfl rfl
     refine wp_region_lit ?_
     refine mvv hs rfl rfl rfl fun ac hs => ?_
     refine bnn hs (ni64 (i + 1)) rfl rfl rfl rfl (bin_addN (y := 1) rfl (show i + 1 < 9223372036854775808 by omega)) fun ac hs => ?_
     refine asg hs rfl rfl rfl fun ac hs => ?_
     refine wpList_nil (then_n ?_)
     exact ⟨_, ⟨(i + 1), ((c + ((h3 M) i) + (((h3 M) (8 + i)) * 977)) / 2 ^ 32), (upn f i ((c + ((h3 M) i) + (((h3 M) (8 + i)) * 977)) % 2 ^ 32)), rfl, hlt, (fold_c hM hcv (by unfold tI; (repeat' split) <;> omega)), (fold_f hM hcv (by unfold tI; (repeat' split) <;> omega) hf), (hs.re ⟨rfl, rfl, rfl, rfl, rfl, trivial⟩)⟩, (by omega)⟩
   ·skip
    refine wp_region_lit ?_
    refine mvv hs rfl rfl rfl fun ac hs => ?_
    refine bnn hs (.bool false) rfl rfl rfl rfl (fun w => dF hq8 (bin_geqN (y := 1) w)) fun ac hs => ?_
    refine mvv hs rfl rfl rfl fun ac hs => ?_
    refine lstep (wpO_out hs none rfl rfl (.inl rfl) rfl rfl fun ac hs => ?_)
    refine lstep (wpO_out hs none rfl rfl (.inl rfl) rfl rfl fun ac hs => ?_)
    refine stp (op_pickF hs none rfl rfl rfl rfl rfl fun ac hs => ?_)
    refine wpList_nil (then_n ?_)
    refine wp_cond_false (hs.ev rfl) ?_
    refine wp_skip (then_n (wp_seq (wp_region_lit ?_)))
    refine mvv hs rfl rfl rfl fun ac hs => ?_
    refine mvv hs rfl rfl rfl fun ac hs => ?_
    refine bnn hs (.int .u64 (((c + ((h3 M) i) + (((h3 M) (8 + i)) * 977)) % 2 ^ 32 : Nat) : Int)) rfl rfl rfl rfl (bin_andN (y := 4294967295) (z := (c + ((h3 M) i) + (((h3 M) (8 + i)) * 977)) % 2 ^ 32) (Nat.and_two_pow_sub_one_eq_mod (c + ((h3 M) i) + (((h3 M) (8 + i)) * 977)) 32) (show c + ((h3 M) i) + (((h3 M) (8 + i)) * 977) < 18446744073709551616 by omega) (by decide) (show (c + ((h3 M) i) + (((h3 M) (8 + i)) * 977)) % 2 ^ 32 < 18446744073709551616 by omega)) fun ac hs => ?_
    refine stp (op_idxA hs none (j := i) rfl rfl rfl rfl underlying122 sizeOf22 (show i < 10 by omega) (off := i) (by omega) rfl fun ac hs => ?_)
    refine stp (stoo hs 2 ([.int .u64 (((c + ((h3 M) i) + (((h3 M) (8 + i)) * 977)) % 2 ^ 32 : Nat) : Int)]) sizeOf22 rfl rfl rfl rfl rfl rfl rfl rfl (tab_le (j := i) (show i < 10 by omega)) (tab_set) fun w hs => ?_)
    refine wpList_nil (then_n ?_)
    replace hs := hs.n0 [1, 2, 3, 4, 5] rfl rfl
    refine wp_region_lit ?_
    refine mvv hs rfl rfl rfl fun ac hs => ?_
    refine bnn hs (.int .u64 (((c + ((h3 M) i) + (((h3 M) (8 + i)) * 977)) / 2 ^ 32 : Nat) : Int)) rfl rfl rfl rfl (bin_shrN (y := 32) (z := (c + ((h3 M) i) + (((h3 M) (8 + i)) * 977)) / 2 ^ 32) rfl (show c + ((h3 M) i) + (((h3 M) (8 + i)) * 977) < 2 ^ 64 by omega)) fun ac hs => ?_
    refine asg hs rfl rfl rfl fun ac hs => ?_
    refine wpList_nil (blk_n (then_n (wp_region_lit ?_)))
    refine mvv hs rfl rfl rfl fun ac hs => ?_
    refine bnn hs (ni64 (i + 1)) rfl rfl rfl rfl (bin_addN (y := 1) rfl (show i + 1 < 9223372036854775808 by omega)) fun ac hs => ?_
    refine asg hs rfl rfl rfl fun ac hs => ?_
    refine wpList_nil (then_n ?_)
    exact ⟨_, ⟨(i + 1), ((c + ((h3 M) i) + (((h3 M) (8 + i)) * 977)) / 2 ^ 32), (upn f i ((c + ((h3 M) i) + (((h3 M) (8 + i)) * 977)) % 2 ^ 32)), rfl, hlt, (fold_c hM hcv (by unfold tI; (repeat' split) <;> omega)), (fold_f hM hcv (by unfold tI; (repeat' split) <;> omega) hf), (hs.re ⟨rfl, rfl, rfl, rfl, rfl, trivial⟩)⟩, (by omega)⟩
  ·skip
   have hp12 := of_decide_eq_false hc
   refine wp_skip (then_n (wp_seq (wp_seq ?_)))
   by_cases hq13 : 1 ≤ i
   ·skip
    refine wp_region_lit ?_
    refine mvv hs rfl rfl rfl fun ac hs => ?_
    refine bnn hs (.bool true) rfl rfl rfl rfl (fun w => dT hq13 (bin_geqN (y := 1) w)) fun ac hs => ?_
    refine mvv hs rfl rfl rfl fun ac hs => ?_
    refine lstep (wpO_in hs rfl rfl rfl (op_move hs none rfl rfl rfl rfl fun ac hs => ?_))
    refine lstep (wpO_in hs rfl rfl rfl (op_bin hs none (v := .bool (decide (i < 9))) rfl rfl rfl rfl (fun _ => rfl) (bin_lssN (x := i) (y := 9)) rfl fun ac hs => ?_))
    refine stp (op_pickT hs none rfl rfl rfl rfl rfl fun ac hs => ?_)
    refine wpList_nil (then_n ?_)
    refine wp_cond_split (hs.ev rfl) (fun hc => ?_) (fun hc => ?_)
    ·skip
     have hp14 := of_decide_eq_true hc
     replace hs := hs.n0 [1, 2, 3, 4, 5] rfl rfl
     refine wp_region_lit ?_
     refine mvv hs rfl rfl rfl fun ac hs => ?_
     refine mvv hs rfl rfl rfl fun ac hs => ?_
     refine bnn hs (ni64 (7 + i)) rfl rfl rfl rfl (bin_addN (x := 7) rfl (show 7 + i < 9223372036854775808 by omega)) fun ac hs => ?_
     refine stp (op_idxA hs none (j := 7 + i) rfl rfl rfl rfl underlying106 sizeOf22 (show 7 + i < 16 by omega) (off := 7 + i) (by omega) rfl fun ac hs => ?_)
     have l15 := h3_lt M (7 + i)
     refine ldd hs 0 (.int .u64 (((h3 M) (7 + i) : Nat) : Int)) isAgg22 sizeOf22 rfl rfl rfl rfl (tab_get (j := 7 + i) (show 7 + i < 16 by omega)) fun ac hs => ?_
     refine bnn hs (.int .u64 ((c + ((h3 M) (7 + i)) : Nat) : Int)) rfl rfl rfl rfl (bin_addN (z := c + ((h3 M) (7 + i))) rfl (show c + ((h3 M) (7 + i)) < 18446744073709551616 by omega)) fun ac hs => ?_
     refine asg hs rfl rfl rfl fun ac hs => ?_
     refine wpList_nil (then_n (wp_seq ?_))
     replace hs := hs.n0 [1, 2, 3, 4, 5] rfl rfl
     refine wp_region_lit ?_
     refine mvv hs rfl rfl rfl fun ac hs => ?_
     refine mvv hs rfl rfl rfl fun ac hs => ?_
     refine bnn hs (.int .u64 (((c + ((h3 M) (7 + i))) % 2 ^ 32 : Nat) : Int)) rfl rfl rfl rfl (bin_andN (y := 4294967295) (z := (c + ((h3 M) (7 + i))) % 2 ^ 32) (Nat.and_two_pow_sub_one_eq_mod (c + ((h3 M) (7 + i))) 32) (show c + ((h3 M) (7 + i)) < 18446744073709551616 by omega) (by decide) (show (c + ((h3 M) (7 + i))) % 2 ^ 32 < 18446744073709551616 by omega)) fun ac hs => ?_
     refine stp (op_idxA hs none (j := i) rfl rfl rfl rfl underlying122 sizeOf22 (show i < 10 by omega) (off := i) (by omega) rfl fun ac hs => ?_)
     refine stp (stoo hs 2 ([.int .u64 (((c + ((h3 M) (7 + i))) % 2 ^ 32 : Nat) : Int)]) sizeOf22 rfl rfl rfl rfl rfl rfl rfl rfl (tab_le (j := i) (show i < 10 by omega)) (tab_set) fun w hs => ?_)
     refine wpList_nil (then_n (wp_region_lit ?_))
     refine mvv hs rfl rfl rfl fun ac hs => ?_
     refine bnn hs (.int .u64 (((c + ((h3 M) (7 + i))) / 2 ^ 32 : Nat) : Int)) rfl rfl rfl rfl (bin_shrN (y := 32) (z := (c + ((h3 M) (7 + i))) / 2 ^ 32) rfl (show c + ((h3 M) (7 + i)) < 2 ^ 64 by omega)) fun ac hs => ?_
     refine asg hs rfl rfl rfl fun ac hs => ?_
     refine wpList_nil (blk_n (then_n ?_))
     replace hs := hs.n0 [1, 2, 3, 4, 5] rfl rfl
     refine wp_region_lit ?_
     refine mvv hs rfl rfl rfl fun ac hs => ?_
     refine bnn hs (ni64 (i + 1)) rfl rfl rfl rfl (bin_addN (y := 1) rfl (show i + 1 < 9223372036854775808 by omega)) fun ac hs => ?_
     refine asg hs rfl rfl rfl fun ac hs => ?_
     refine wpList_nil (then_n ?_)
     exact ⟨_, ⟨(i + 1), ((c + ((h3 M) (7 + i))) / 2 ^ 32), (upn f i ((c + ((h3 M) (7 + i))) % 2 ^ 32)), rfl, hlt, (fold_c hM hcv (by unfold tI; (repeat' split) <;> omega)), (fold_f hM hcv (by unfold tI; (repeat' split) <;> omega) hf), (hs.re ⟨rfl, rfl, rfl, rfl, rfl, trivial⟩)⟩, (by omega)⟩
    ·skip
     have hp16 := of_decide_eq_false hc
     refine wp_skip (then_n (wp_seq ?_))
     replace hs := hs.n0 [1, 2, 3, 4, 5] rfl rfl
     refine wp_region_lit ?_
     refine mvv hs rfl rfl rfl fun ac hs => ?_
     refine mvv hs rfl rfl rfl fun ac hs => ?_
     refine bnn hs (nu64 (c % 2 ^ 32)) rfl rfl rfl rfl (bin_andN (y := 4294967295) (Nat.and_two_pow_sub_one_eq_mod c 32) (show c < 18446744073709551616 by omega) (by decide) (show c % 2 ^ 32 < 18446744073709551616 by omega)) fun ac hs => ?_
     refine stp (op_idxA hs none (j := i) rfl rfl rfl rfl underlying122 sizeOf22 (show i < 10 by omega) (off := i) (by omega) rfl fun ac hs => ?_)
     refine stp (stoo hs 2 ([nu64 (c % 2 ^ 32)]) sizeOf22 rfl rfl rfl rfl rfl rfl rfl rfl (tab_le (j := i) (show i < 10 by omega)) (tab_set) fun w hs => ?_)
     refine wpList_nil (then_n (wp_region_lit ?_))
     refine mvv hs rfl rfl rfl fun ac hs => ?_
     refine bnn hs (nu64 (c / 2 ^ 32)) rfl rfl rfl rfl (bin_shrN (y := 32) rfl (show c < 2 ^ 64 by omega)) fun ac hs => ?_
     refine asg hs rfl rfl rfl fun ac hs => ?_
     refine wpList_nil (blk_n (then_n ?_))
     replace hs := hs.n0 [1, 2, 3, 4, 5] rfl rfl
     refine wp_region_lit ?_
     refine mvv hs rfl rfl rfl fun ac hs => ?_
     refine bnn hs (ni64 (i + 1)) rfl rfl rfl rfl (bin_addN (y := 1) rfl (show i + 1 < 9223372036854775808 by omega)) fun ac hs => ?_
     refine asg hs rfl rfl rfl fun ac hs => ?_
     refine wpList_nil (then_n ?_)
     exact ⟨_, ⟨(i + 1), (c / 2 ^ 32), (upn f i (c % 2 ^ 32)), rfl, hlt, (fold_c hM hcv (by unfold tI; (repeat' split) <;> omega)), (fold_f hM hcv (by unfold tI; (repeat' split) <;> omega) hf), (hs.re ⟨rfl, rfl, rfl, rfl, rfl, trivial⟩)⟩, (by omega)⟩
   ·skip
    refine wp_region_lit ?_
    refine mvv hs rfl rfl rfl fun ac hs => ?_
    refine bnn hs (.bool false) rfl rfl rfl rfl (fun w => dF hq13 (bin_geqN (y := 1) w)) fun ac hs => ?_
    refine mvv hs rfl rfl rfl fun ac hs => ?_
    refine lstep (wpO_out hs none rfl rfl (.inl rfl) rfl rfl fun ac hs => ?_)
    refine lstep (wpO_out hs none rfl rfl (.inl rfl) rfl rfl fun ac hs => ?_)
    refine stp (op_pickF hs none rfl rfl rfl rfl rfl fun ac hs => ?_)
    refine wpList_nil (then_n ?_)
    refine wp_cond_false (hs.ev rfl) ?_
    refine wp_skip (then_n (wp_seq ?_))
    replace hs := hs.n0 [1, 2, 3, 4, 5] rfl rfl
    refine wp_region_lit ?_
    refine mvv hs rfl rfl rfl fun ac hs => ?_
    refine mvv hs rfl rfl rfl fun ac hs => ?_
    refine bnn hs (nu64 (c % 2 ^ 32)) rfl rfl rfl rfl (bin_andN (y := 4294967295) (Nat.and_two_pow_sub_one_eq_mod c 32) (show c < 18446744073709551616 by omega) (by decide) (show c % 2 ^ 32 < 18446744073709551616 by omega)) fun ac hs => ?_
    refine stp (op_idxA hs none (j := i) rfl rfl rfl rfl underlying122 sizeOf22 (show i < 10 by omega) (off := i) (by omega) rfl fun ac hs => ?_)
    refine stp (stoo hs 2 ([nu64 (c % 2 ^ 32)]) sizeOf22 rfl rfl rfl rfl rfl rfl rfl rfl (tab_le (j := i) (show i < 10 by omega)) (tab_set) fun w hs => ?_)
    refine wpList_nil (then_n (wp_region_lit ?_))
    refine mvv hs rfl rfl rfl fun ac hs => ?_
    refine bnn hs (nu64 (c / 2 ^ 32)) rfl rfl rfl rfl (bin_shrN (y := 32) rfl (show c < 2 ^ 64 by omega)) fun ac hs => ?_
    refine asg hs rfl rfl rfl fun ac hs => ?_
    refine wpList_nil (blk_n (then_n ?_))
    replace hs := hs.n0 [1, 2, 3, 4, 5] rfl rfl
    refine wp_region_lit ?_
    refine mvv hs rfl rfl rfl fun ac hs => ?_
    refine bnn hs (ni64 (i + 1)) rfl rfl rfl rfl (bin_addN (y := 1) rfl (show i + 1 < 9223372036854775808 by omega)) fun ac hs => ?_
    refine asg hs rfl rfl rfl fun ac hs => ?_
    refine wpList_nil (then_n ?_)
    exact ⟨_, ⟨(i + 1), (c / 2 ^ 32), (upn f i (c % 2 ^ 32)), rfl, hlt, (fold_c hM hcv (by unfold tI; (repeat' split) <;> omega)), (fold_f hM hcv (by unfold tI; (repeat' split) <;> omega) hf), (hs.re ⟨rfl, rfl, rfl, rfl, rfl, trivial⟩)⟩, (by omega)⟩
 ·skip
  have hp17 := of_decide_eq_false hc
  obtain rfl : i = 10 := by omega
  obtain ⟨E, hE⟩ : ∃ E, fT M 10 = E := ⟨_, rfl⟩
  obtain ⟨hE1, hE2⟩ := fT_ten hM hE
  obtain ⟨e0, he0, le0⟩ : ∃ e0, E % 2 ^ 256 = e0 ∧ e0 < 2 ^ 256 := ⟨_, rfl, Nat.mod_lt _ (Nat.two_pow_pos 256)⟩
  replace hs := hs.setb 2 (cs' := tab .u64 10 (h3 E)) rfl (tab_congr fun j hj => by rw [hf j hj, hE])
  refine wp_exit (then_e (then_e (blk_e (then_n (wp_seq (wp_region_lit ?_))))))
  refine stp (op_idxA hs none (j := 8) rfl rfl rfl rfl underlying122 sizeOf22 (by decide) (off := 8) rfl rfl fun ac hs => ?_)
  have l18 := h3_lt E 8
  refine ldd hs 2 (nu64 ((h3 E) 8)) isAgg22 sizeOf22 rfl rfl rfl rfl (tab_get (j := 8) (by decide)) fun ac hs => ?_
  refine stp (op_idxA hs none (j := 9) rfl rfl rfl rfl underlying122 sizeOf22 (by decide) (off := 9) rfl rfl fun ac hs => ?_)
  have l19 := h3_lt E 9
  refine ldd hs 2 (nu64 ((h3 E) 9)) isAgg22 sizeOf22 rfl rfl rfl rfl (tab_get (j := 9) (by decide)) fun ac hs => ?_
  refine bnn hs (nu64 (((h3 E) 9) * 2 ^ 32 % 18446744073709551616)) rfl rfl rfl rfl (bin_shlM (y := 32) rfl rfl) fun ac hs => ?_
  refine bnn hs (.int .u64 (((h3 E) 8 + (((h3 E) 9) * 2 ^ 32 % 18446744073709551616) : Nat) : Int)) rfl rfl rfl rfl (bin_addN (z := (h3 E) 8 + (((h3 E) 9) * 2 ^ 32 % 18446744073709551616)) rfl (show (h3 E) 8 + (((h3 E) 9) * 2 ^ 32 % 18446744073709551616) < 18446744073709551616 by omega)) fun ac hs => ?_
  refine asg hs rfl rfl rfl fun ac hs => ?_
  refine wpList_nil ?_
  replace hs := hs.re (fs' := [(2, true, ptA g2 0), (3, true, ptA g3 0), (47, true, ptA g3 8), (48, true, nu64 ((h3 E) 8)), (49, true, ptA g3 9), (50, true, nu64 ((h3 E) 9)), (51, true, nu64 (((h3 E) 9) * 2 ^ 32 % 18446744073709551616)), (52, true, .int .u64 (((h3 E) 8 + (((h3 E) 9) * 2 ^ 32 % 18446744073709551616) : Nat) : Int)), (6, true, nu64 ((E / 2 ^ 256)))]) ⟨rfl, rfl, rfl, rfl, rfl, rfl, rfl, rfl, congrArg some (by rw [top_val hE2]), trivial⟩
  refine then_n (wp_seq ?_)
  replace hs := hs.n0 [2, 3, 6] rfl rfl
  refine wp_region_lit ?_
  refine stp (op_build hs none (qs := []) (v := .agg #[.int .u64 0, .int .u64 0, .int .u64 0, .int .u64 0]) rfl rfl rfl rfl (fun _ => by kernel_rfl) rfl fun ac hs => ?_)
  refine stp (op_alloc hs none none (cs := [.int .u64 0, .int .u64 0, .int .u64 0, .int .u64 0]) rfl rfl zeroValue24 (by kernel_rfl) rfl rfl fun g20 ac w hs => ?_)
  refine stp (stoo hs 3 ([.int .u64 0, .int .u64 0, .int .u64 0, .int .u64 0]) sizeOf24 rfl rfl rfl rfl rfl rfl rfl rfl rfl rfl fun w hs => ?_)
  refine wpList_nil (then_n (wp_seq (wp_seq (wp_region_lit ?_))))
  refine asg hs rfl rfl rfl fun ac hs => ?_
  refine wpList_nil (then_n (wp_block ?_))
  refine wp_loop_m (fun μ ac w => ∃ (i : Nat) (f : Nat → Nat), (4 - i) = μ ∧ (i ≤ 4) ∧ (∀ j, j < i → f j = limN E j) ∧ St 88 w0 [(2, true, ptA g2 0), (3, true, ptA g3 0), (6, true, nu64 ((E / 2 ^ 256))), (7, true, ptA g20 0), (8, true, ni64 i)] [(true, g1, 106, (tab .u64 16 (h3 M))), (true, g2, 24, [.int .u64 0, .int .u64 0, .int .u64 0, .int .u64 0]), (true, g3, 122, (tab .u64 10 (h3 E))), (true, g20, 24, (tab .u64 4 f))] ac w) ?_ ?_
  ·exact ⟨_, 0, (fun _ => 0), rfl, (by omega), (fun j hj => by omega), (hs.re ⟨rfl, rfl, rfl, rfl, rfl, trivial⟩)⟩
  intro μ ac w ⟨i, f, hμ, hi2, hf2, hs⟩
  refine wp_seq (wp_seq (wp_region_lit ?_))
  refine mvv hs rfl rfl rfl fun ac hs => ?_
  refine bnn hs (.bool (decide (i < 4))) rfl rfl rfl rfl (bin_lssN (y := 4)) fun ac hs => ?_
  refine wpList_nil (then_n ?_)
  refine wp_cond_split (hs.ev rfl) (fun hc => ?_) (fun hc => ?_)
  ·skip
   have hp21 := of_decide_eq_true hc
   have hlt2 : i < 4 := of_decide_eq_true hc
   refine wp_skip (then_n (wp_seq (wp_block ?_)))
   replace hs := hs.n0 [2, 3, 6, 7, 8] rfl rfl
   have l22 := h3_lt E (2 * i)
   have l23 := h3_lt E (2 * i + 1)
   refine region_inv [([], [12, 13]), ([], [2, 3, 4, 11, 12, 13]), ([1], [3, 4, 11, 12, 13]), ([1, 2], [4, 11, 12, 13]), ([1, 2, 3], [11, 12, 13]), ([], rgn 6 8), ([5], rgn 7 7), ([5, 6], rgn 8 6), ([5, 6, 7], rgn 9 5), (rgn 5 4, rgn 10 4), (rgn 5 5, [11, 12, 13]), (rgn 1 10, [12, 13]), (rgn 0 12, [13]), (rgn 0 13, [])] (fun L ac w => St 88 w0 [(58, L 0, ni64 i), (59, L 1, ni64 i), (60, L 2, ni64 (2 * i)), (61, L 3, .pointer (some ⟨g3, 2 * i, none⟩)), (62, L 4, .int .u64 (((h3 E) (2 * i) : Nat) : Int)), (63, L 5, ni64 i), (64, L 6, ni64 (2 * i)), (65, L 7, ni64 (2 * i + 1)), (66, L 8, .pointer (some ⟨g3, 2 * i + 1, none⟩)), (67, L 9, .int .u64 (((h3 E) (2 * i + 1) : Nat) : Int)), (68, L 10, .int .u64 ((((h3 E) (2 * i + 1)) * 2 ^ 32 % 18446744073709551616 : Nat) : Int)), (69, L 11, .int .u64 (((h3 E) (2 * i) + (((h3 E) (2 * i + 1)) * 2 ^ 32 % 18446744073709551616) : Nat) : Int)), (70, L 12, .pointer (some ⟨g20, i, none⟩)), (2, true, ptA g2 0), (3, true, ptA g3 0), (6, true, nu64 ((E / 2 ^ 256))), (7, true, ptA g20 0), (8, true, ni64 i)] [(true, g1, 106, (tab .u64 16 (h3 M))), (true, g2, 24, [.int .u64 0, .int .u64 0, .int .u64 0, .int .u64 0]), (true, g3, 122, (tab .u64 10 (h3 E))), (true, g20, 24, (cond (L 13) (tab .u64 4 (upn f i ((h3 E) (2 * i) + (((h3 E) (2 * i + 1)) * 2 ^ 32 % 18446744073709551616)))) (tab .u64 4 f)))] ac w) (by kernel_rfl) (by kernel_rfl) ?_ ?_ ?_
   ·exact hs.drew.skip.skip.skip.skip.skip.skip.skip.skip.skip.skip.skip.skip.skip
   ·refine ⟨?_, ?_, ?_, ?_, ?_, ?_, ?_, ?_, ?_, ?_, ?_, ?_, ?_, ?_, trivial⟩
    ·exact fun L ac w hs => pln (omv hs 0 rfl rfl rfl fun ac hs => hs)
    ·exact fun L ac w hs => pln (omv hs 1 rfl rfl rfl fun ac hs => hs)
    ·exact fun L ac w hs => pln (obn hs 2 (ni64 (2 * i)) rfl rfl rfl rfl (bin_mulN (x := 2) rfl (show 2 * i < 9223372036854775808 by omega)) fun ac hs => hs)
    ·exact fun L ac w hs => pln (op_idxA hs (some 3) (j := 2 * i) rfl rfl rfl rfl underlying122 sizeOf22 (show 2 * i < 10 by omega) (off := 2 * i) (by omega) rfl fun ac hs => hs)
    ·exact fun L ac w hs => pln (oldd hs 4 2 (.int .u64 (((h3 E) (2 * i) : Nat) : Int)) isAgg22 sizeOf22 rfl rfl rfl rfl (tab_get (j := 2 * i) (show 2 * i < 10 by omega)) fun ac hs => hs)
    ·exact fun L ac w hs => pln (omv hs 5 rfl rfl rfl fun ac hs => hs)
    ·exact fun L ac w hs => pln (obn hs 6 (ni64 (2 * i)) rfl rfl rfl rfl (bin_mulN (x := 2) rfl (show 2 * i < 9223372036854775808 by omega)) fun ac hs => hs)
    ·exact fun L ac w hs => pln (obn hs 7 (ni64 (2 * i + 1)) rfl rfl rfl rfl (bin_addN (y := 1) rfl (show 2 * i + 1 < 9223372036854775808 by omega)) fun ac hs => hs)
    ·exact fun L ac w hs => pln (op_idxA hs (some 8) (j := 2 * i + 1) rfl rfl rfl rfl underlying122 sizeOf22 (show 2 * i + 1 < 10 by omega) (off := 2 * i + 1) (by omega) rfl fun ac hs => hs)
    ·exact fun L ac w hs => pln (oldd hs 9 2 (.int .u64 (((h3 E) (2 * i + 1) : Nat) : Int)) isAgg22 sizeOf22 rfl rfl rfl rfl (tab_get (j := 2 * i + 1) (show 2 * i + 1 < 10 by omega)) fun ac hs => hs)
    ·exact fun L ac w hs => pln (obn hs 10 (.int .u64 ((((h3 E) (2 * i + 1)) * 2 ^ 32 % 18446744073709551616 : Nat) : Int)) rfl rfl rfl rfl (bin_shlM (y := 32) (z := ((h3 E) (2 * i + 1)) * 2 ^ 32 % 18446744073709551616) rfl rfl) fun ac hs => hs)
    ·exact fun L ac w hs => pln (obn hs 11 (.int .u64 (((h3 E) (2 * i) + (((h3 E) (2 * i + 1)) * 2 ^ 32 % 18446744073709551616) : Nat) : Int)) rfl rfl rfl rfl (bin_addN (z := (h3 E) (2 * i) + (((h3 E) (2 * i + 1)) * 2 ^ 32 % 18446744073709551616)) rfl (show (h3 E) (2 * i) + (((h3 E) (2 * i + 1)) * 2 ^ 32 % 18446744073709551616) < 18446744073709551616 by omega)) fun ac hs => hs)
    ·exact fun L ac w hs => pln (op_idxA hs (some 12) (j := i) rfl rfl rfl rfl underlying24 sizeOf22 (show i < 4 by omega) (off := i) (by omega) rfl fun ac hs => hs)
    ·exact fun L ac w hs => pln (stoo hs 3 ([.int .u64 (((h3 E) (2 * i) + (((h3 E) (2 * i + 1)) * 2 ^ 32 % 18446744073709551616) : Nat) : Int)]) sizeOf22 rfl rfl rfl rfl rfl rfl rfl rfl (tab_le (j := i) (show i < 4 by omega)) (tab_set) fun w hs => hs)
   intro ac w hs
   try dsimp only [cond_true] at hs
   refine blk_n (then_n (wp_region_lit ?_))
   refine mvv hs rfl rfl rfl fun ac hs => ?_
   refine bnn hs (ni64 (i + 1)) rfl rfl rfl rfl (bin_addN (y := 1) rfl (show i + 1 < 9223372036854775808 by omega)) fun ac hs => ?_
   refine asg hs rfl rfl rfl fun ac hs => ?_
   refine wpList_nil (then_n ?_)
   exact ⟨_, ⟨(i + 1), (upn f i ((h3 E) (2 * i) + (((h3 E) (2 * i + 1)) * 2 ^ 32 % 18446744073709551616))), rfl, hlt2, (lim_f hf2), (hs.re ⟨rfl, rfl, rfl, rfl, rfl, trivial⟩)⟩, (by omega)⟩
  ·skip
   have hp24 := of_decide_eq_false hc
   obtain rfl : i = 4 := by omega
   replace hs := hs.setb 3 (cs' := Wl e0) rfl (by rw [tab_Wl hf2]; exact (Wl_mod he0).symm)
   refine wp_exit (then_e (then_e (blk_e (then_n (wp_seq ?_)))))
   replace hs := hs.n0 [2, 6, 7] rfl rfl
   obtain ⟨x25, hx25, lx25⟩ : ∃ z0, (E / 2 ^ 256) * Pov = z0 ∧ z0 < 2 ^ 256 := ⟨_, rfl, tw12_lt (show (E / 2 ^ 256) < 1099511627776 by omega)⟩
   obtain ⟨s26, hs26, ls26⟩ : ∃ z0, (e0 + x25) % 2 ^ 256 = z0 ∧ z0 < 2 ^ 256 := ⟨_, rfl, Nat.mod_lt _ (Nat.two_pow_pos 256)⟩
   obtain ⟨c27, hc27⟩ : ∃ z0, (e0 + x25) / 2 ^ 256 = z0 := ⟨_, rfl⟩
   refine region_inv [([], [3, 4, 5, 6, 8, 9]), ([], [2, 3, 4, 5, 6, 8, 9]), ([1], [3, 4, 5, 6, 8, 9]), ([0, 1, 2], [4, 5, 6, 8, 9]), (rgn 0 4, [5, 6, 8, 9]), (rgn 0 5, [8, 9]), (rgn 0 5, [9]), ([], [8, 9]), ([0, 1, 2, 3, 4, 5, 7], [9]), (rgn 0 9, [])] (fun L ac w => ∃ (g28 : Nat), St 88 w0 [(72, L 0, W e0), (73, L 1, nu64 ((E / 2 ^ 256))), (74, L 2, W x25), (75, L 3, .tuple #[W s26, nu64 c27]), (71, L 4, .tuple #[W s26, nu64 c27]), (76, L 5, W s26), (77, L 6, nu64 c27), (9, L 7, ptA g28 0), (10, L 9, nu64 c27), (2, true, ptA g2 0), (6, true, nu64 ((E / 2 ^ 256))), (7, true, ptA g20 0)] [(true, g1, 106, (tab .u64 16 (h3 M))), (true, g2, 24, [.int .u64 0, .int .u64 0, .int .u64 0, .int .u64 0]), (true, g3, 122, (tab .u64 10 (h3 E))), (true, g20, 24, (Wl e0)), (L 7, g28, 24, (cond (L 8) (Wl s26) [.int .u64 0, .int .u64 0, .int .u64 0, .int .u64 0]))] ac w) (by kernel_rfl) (by kernel_rfl) ?_ ?_ ?_
   ·exact ⟨0, hs.drew.skip.skip.skip.skip.skip.skip.skip.skip.skip.pad⟩
   ·refine ⟨?_, ?_, ?_, ?_, ?_, ?_, ?_, ?_, ?_, ?_, trivial⟩
    ·exact fun L ac w ⟨g28, hs⟩ => pln (oldd hs 0 3 (W e0) isAgg24 sizeOf24 rfl rfl rfl rfl rfl fun ac hs => ⟨g28, hs⟩)
    ·exact fun L ac w ⟨g28, hs⟩ => pln (omv hs 1 rfl rfl rfl fun ac hs => ⟨g28, hs⟩)
    ·exact fun L ac w ⟨g28, hs⟩ => pln (op_call (F := 138) hs (some 2) (v := W x25) rfl rfl rfl rfl (call138 _) (tw12_c (E / 2 ^ 256) x25 (show (E / 2 ^ 256) < 1099511627776 by omega) hx25) rfl fun ac w hs => ⟨g28, hs⟩)
    ·exact fun L ac w ⟨g28, hs⟩ => pln (op_call (F := 59) hs (some 3) (v := .tuple #[W s26, nu64 c27]) rfl rfl rfl rfl (call59 _) (more_at e0 x25 s26 c27 le0 lx25 hs26 hc27) rfl fun ac w hs => ⟨g28, hs⟩)
    ·exact fun L ac w ⟨g28, hs⟩ => pln (omv hs 4 rfl rfl rfl fun ac hs => ⟨g28, hs⟩)
    ·exact fun L ac w ⟨g28, hs⟩ => pln (xtr hs (some 5) rfl rfl rfl rfl rfl fun ac hs => ⟨g28, hs⟩)
    ·exact fun L ac w ⟨g28, hs⟩ => pln (xtr hs (some 6) rfl rfl rfl rfl rfl fun ac hs => ⟨g28, hs⟩)
    ·exact fun L ac w ⟨g28, hs⟩ => pln (op_alloc hs (some 7) (some 4) (cs := [.int .u64 0, .int .u64 0, .int .u64 0, .int .u64 0]) rfl rfl zeroValue24 (by kernel_rfl) rfl rfl fun g28 ac w hs => ⟨g28, hs⟩)
    ·exact fun L ac w ⟨g28, hs⟩ => pln (stoo hs 4 ((Wl s26)) sizeOf24 rfl rfl rfl rfl rfl rfl rfl rfl rfl rfl fun w hs => ⟨g28, hs⟩)
    ·exact fun L ac w ⟨g28, hs⟩ => pln (oas hs 8 rfl rfl rfl fun ac hs => ⟨g28, hs⟩)
   intro ac w ⟨g28, hs⟩
   try dsimp only [cond_true] at hs
   refine then_n (wp_seq (wp_seq (wp_region_lit ?_)))
   refine mvv hs rfl rfl rfl fun ac hs => ?_
   refine bnn hs (.bool (decide (c27 = 1))) rfl rfl rfl rfl (bin_eqlN (y := 1)) fun ac hs => ?_
   refine wpList_nil (then_n ?_)
   refine wp_cond_split (hs.ev rfl) (fun hc => ?_) (fun hc => ?_)
   ·skip
    have hp29 := of_decide_eq_true hc
    refine wp_region_lit ?_
    refine ldd hs 4 (W s26) isAgg24 sizeOf24 rfl rfl rfl rfl rfl fun ac hs => ?_
    refine stp (op_build hs none (qs := [(0, .int .u64 4294968273)]) (v := .agg #[.int .u64 4294968273, .int .u64 0, .int .u64 0, .int .u64 0]) rfl rfl rfl rfl (fun _ => by kernel_rfl) rfl fun ac hs => ?_)
    obtain ⟨s30, hs30, ls30⟩ : ∃ z0, (s26 + Pov) % 2 ^ 256 = z0 ∧ z0 < 2 ^ 256 := ⟨_, rfl, Nat.mod_lt _ (Nat.two_pow_pos 256)⟩
    obtain ⟨c31, hc31⟩ : ∃ z0, (s26 + Pov) / 2 ^ 256 = z0 := ⟨_, rfl⟩
    refine stp (op_call (F := 59) hs none (v := .tuple #[W s30, nu64 c31]) rfl rfl rfl rfl (call59 _) (more_at s26 Pov s30 c31 ls26 Pov_lt hs30 hc31) rfl fun ac w hs => ?_)
    refine mvv hs rfl rfl rfl fun ac hs => ?_
    refine stp (xtr hs none rfl rfl rfl rfl rfl fun ac hs => ?_)
    refine stp (xtr hs none rfl rfl rfl rfl rfl fun ac hs => ?_)
    refine stp (stoo hs 4 ((Wl s30)) sizeOf24 rfl rfl rfl rfl rfl rfl rfl rfl rfl rfl fun w hs => ?_)
    refine wpList_nil (then_n (wp_seq ?_))
    replace hs := hs.n0 [2, 9] rfl rfl
    refine wp_region_lit ?_
    refine ldd hs 4 (W s30) isAgg24 sizeOf24 rfl rfl rfl rfl rfl fun ac hs => ?_
    obtain ⟨r32, hr32, lr32⟩ : ∃ z0, s30 % Pf = z0 ∧ z0 < 2 ^ 256 := ⟨_, rfl, modP_lt _⟩
    refine stp (op_call (F := 121) hs none (v := W r32) rfl rfl rfl rfl (call121 _) (rfred_c s30 r32 ls30 hr32) rfl fun ac w hs => ?_)
    refine stp (stoo hs 1 ((Wl r32)) sizeOf24 rfl rfl rfl rfl rfl rfl rfl rfl rfl rfl fun w hs => ?_)
    refine wpList_nil (then_n (wp_ret ?_))
    exact bodyPost_ret (res1 rfl (rv_c hs 1 (v := W r32) rfl rfl isAgg24 sizeOf24 rfl)) hs.defers ⟨by rw [← hx, ← hr32, fold_yes hs26 hc27 (by rw [← hx25]; exact tw12_lt128 hE2) le0 hp29 hs30, ← hx25, fold_pmod hE1 he0], (hs.bel rfl)⟩
   ·skip
    have hp33 := of_decide_eq_false hc
    refine wp_skip (then_n (wp_seq (wp_region_lit ?_)))
    refine ldd hs 4 (W s26) isAgg24 sizeOf24 rfl rfl rfl rfl rfl fun ac hs => ?_
    obtain ⟨r34, hr34, lr34⟩ : ∃ z0, s26 % Pf = z0 ∧ z0 < 2 ^ 256 := ⟨_, rfl, modP_lt _⟩
    refine stp (op_call (F := 121) hs none (v := W r34) rfl rfl rfl rfl (call121 _) (rfred_c s26 r34 ls26 hr34) rfl fun ac w hs => ?_)
    refine stp (stoo hs 1 ((Wl r34)) sizeOf24 rfl rfl rfl rfl rfl rfl rfl rfl rfl rfl fun w hs => ?_)
    refine wpList_nil (then_n (wp_ret ?_))
    exact bodyPost_ret (res1 rfl (rv_c hs 1 (v := W r34) rfl rfl isAgg24 sizeOf24 rfl)) hs.defers ⟨by rw [← hx, ← hr34, fold_no hs26 hc27 (by rw [← hx25]; exact tw12_lt128 hE2) le0 hp33, ← hx25, fold_pmod hE1 he0], (hs.bel rfl)⟩
theorem rfmul_c (a b x : Nat) (ha : a < 2 ^ 256) (hb : b < 2 ^ 256) (hx : a * b % Pf = x) (w0 : World) : Calls prog 89 #[W a, W b] w0 fun e w' => e = .returned (W x) ∧ Below w0.heap.size w0 w' := by
 refine enter (n := 53) (args := [W a, W b]) func89 rfl rfl (Nat.le_of_ble_eq_true rfl) fun ac hs => ?_
 refine wp_seq (wp_region_lit ?_)
 refine stp (op_box hs none none (cs := (Wl a)) rfl rfl rfl rfl rfl rfl fun g1 ac w hs => ?_)
 refine stp (op_box hs none none (cs := (Wl b)) rfl rfl rfl rfl rfl rfl fun g2 ac w hs => ?_)
 refine stp (op_alloc hs none none (cs := [.int .u64 0, .int .u64 0, .int .u64 0, .int .u64 0]) rfl rfl zeroValue24 (by kernel_rfl) rfl rfl fun g3 ac w hs => ?_)
 refine wpList_nil (then_n (wp_seq ?_))
 replace hs := hs.n0 [2, 3, 4] rfl rfl
 refine region_inv [([], [1, 3, 6, 7]), ([0], [3, 6, 7]), ([], [3, 6, 7]), ([0, 1, 2], [6, 7]), ([], [6, 7]), ([], [6, 7]), (rgn 0 6, [7]), (rgn 0 7, [])] (fun L ac w => ∃ (g4 : Nat) (g5 : Nat), St 53 w0 [(11, L 0, W a), (12, L 1, At .u64 8 (h3 a)), (13, L 2, W b), (14, L 3, At .u64 8 (h3 b)), (5, L 4, ptA g4 0), (6, L 5, ptA g5 0), (2, true, ptA g1 0), (3, true, ptA g2 0), (4, true, ptA g3 0)] [(true, g1, 24, (Wl a)), (true, g2, 24, (Wl b)), (true, g3, 24, [.int .u64 0, .int .u64 0, .int .u64 0, .int .u64 0]), (L 4, g4, 92, (cond (L 6) (tab .u64 8 (h3 a)) (tab .u64 8 (fun _ => 0)))), (L 5, g5, 92, (cond (L 7) (tab .u64 8 (h3 b)) (tab .u64 8 (fun _ => 0))))] ac w) (by kernel_rfl) (by kernel_rfl) ?_ ?_ ?_
 ·exact ⟨0, 0, hs.drew.skip.skip.skip.skip.skip.skip.pad.pad⟩
 ·refine ⟨?_, ?_, ?_, ?_, ?_, ?_, ?_, ?_, trivial⟩
  ·exact fun L ac w ⟨g4, g5, hs⟩ => pln (oldd hs 0 0 (W a) isAgg24 sizeOf24 rfl rfl rfl rfl rfl fun ac hs => ⟨g4, g5, hs⟩)
  ·exact fun L ac w ⟨g4, g5, hs⟩ => pln (op_call (F := 126) hs (some 1) (v := At .u64 8 (h3 a)) rfl rfl rfl rfl (call126 _) (halves_c a ha) rfl fun ac w hs => ⟨g4, g5, hs⟩)
  ·exact fun L ac w ⟨g4, g5, hs⟩ => pln (oldd hs 2 1 (W b) isAgg24 sizeOf24 rfl rfl rfl rfl rfl fun ac hs => ⟨g4, g5, hs⟩)
  ·exact fun L ac w ⟨g4, g5, hs⟩ => pln (op_call (F := 126) hs (some 3) (v := At .u64 8 (h3 b)) rfl rfl rfl rfl (call126 _) (halves_c b hb) rfl fun ac w hs => ⟨g4, g5, hs⟩)
  ·exact fun L ac w ⟨g4, g5, hs⟩ => pln (op_alloc hs (some 4) (some 3) (cs := (tab .u64 8 (fun _ => 0))) rfl rfl zeroValue92 (by kernel_rfl) rfl rfl fun g4 ac w hs => ⟨g4, g5, hs⟩)
  ·exact fun L ac w ⟨g4, g5, hs⟩ => pln (op_alloc hs (some 5) (some 4) (cs := (tab .u64 8 (fun _ => 0))) rfl rfl zeroValue92 (by kernel_rfl) rfl rfl fun g5 ac w hs => ⟨g4, g5, hs⟩)
  ·exact fun L ac w ⟨g4, g5, hs⟩ => pln (stoo hs 3 ((tab .u64 8 (h3 a))) sizeOf92 rfl rfl rfl rfl rfl (by kernel_rfl) tab_length' (tab_one _ _ _) tab_leA wr_tab fun w hs => ⟨g4, g5, hs⟩)
  ·exact fun L ac w ⟨g4, g5, hs⟩ => pln (stoo hs 4 ((tab .u64 8 (h3 b))) sizeOf92 rfl rfl rfl rfl rfl (by kernel_rfl) tab_length' (tab_one _ _ _) tab_leA wr_tab fun w hs => ⟨g4, g5, hs⟩)
 intro ac w ⟨g4, g5, hs⟩
 try dsimp only [cond_true] at hs
 refine then_n (wp_seq (wp_region_lit ?_))
 refine stp (op_build hs none (qs := []) (v := At .u64 16 (fun _ => 0)) rfl rfl rfl rfl (fun _ => by kernel_rfl) rfl fun ac hs => ?_)
 refine stp (op_alloc hs none none (cs := (tab .u64 16 (fun _ => 0))) rfl rfl zeroValue106 (by kernel_rfl) rfl rfl fun g6 ac w hs => ?_)
 refine stp (stoo hs 5 ((tab .u64 16 (fun _ => 0))) sizeOf106 rfl rfl rfl rfl rfl (by kernel_rfl) tab_length' (tab_one _ _ _) tab_leA wr_tab fun w hs => ?_)
 refine wpList_nil (then_n (wp_seq (wp_seq (wp_region_lit ?_))))
 refine asg hs rfl rfl rfl fun ac hs => ?_
 refine wpList_nil (then_n (wp_block ?_))
 refine wp_loop_m (fun μ ac w => ∃ (i : Nat) (f : Nat → Nat), (8 - i) = μ ∧ (i ≤ 8) ∧ (∀ j, j < 16 → f j = h3 (V3 a b i) j) ∧ St 53 w0 [(4, true, ptA g3 0), (5, true, ptA g4 0), (6, true, ptA g5 0), (7, true, ptA g6 0), (8, true, ni64 i)] [(true, g1, 24, (Wl a)), (true, g2, 24, (Wl b)), (true, g3, 24, [.int .u64 0, .int .u64 0, .int .u64 0, .int .u64 0]), (true, g4, 92, (tab .u64 8 (h3 a))), (true, g5, 92, (tab .u64 8 (h3 b))), (true, g6, 106, (tab .u64 16 f))] ac w) ?_ ?_
 ·exact ⟨_, 0, (fun _ => 0), rfl, (by omega), prd3_0, (hs.re ⟨rfl, rfl, rfl, rfl, rfl, trivial⟩)⟩
 intro μ ac w ⟨i, f, hμ, hi, hf, hs⟩
 refine wp_seq (wp_seq (wp_region_lit ?_))
 refine mvv hs rfl rfl rfl fun ac hs => ?_
 refine bnn hs (.bool (decide (i < 8))) rfl rfl rfl rfl (bin_lssN (y := 8)) fun ac hs => ?_
 refine wpList_nil (then_n ?_)
 refine wp_cond_split (hs.ev rfl) (fun hc => ?_) (fun hc => ?_)
 ·skip
  have hp7 := of_decide_eq_true hc
  have hli : i < 8 := of_decide_eq_true hc
  have hxl := h3_lt a i
  refine wp_skip (then_n (wp_seq (wp_block (wp_seq (wp_region_lit ?_)))))
  refine asg hs rfl rfl rfl fun ac hs => ?_
  refine wpList_nil (then_n (wp_seq (wp_seq (wp_region_lit ?_))))
  refine asg hs rfl rfl rfl fun ac hs => ?_
  refine wpList_nil (then_n (wp_block ?_))
  refine wp_loop_m (fun μ ac w => ∃ (k : Nat) (c : Nat) (F : Nat → Nat), (8 - k) = μ ∧ (k ≤ 8) ∧ (In3 (V3 a b i) (h3 a i) b i k c) ∧ (∀ j, j < 16 → F j = mix3 (V3 a b i) (h3 a i) b i k j) ∧ St 53 w0 [(4, true, ptA g3 0), (5, true, ptA g4 0), (6, true, ptA g5 0), (7, true, ptA g6 0), (8, true, ni64 i), (9, true, nu64 c), (10, true, ni64 k)] [(true, g1, 24, (Wl a)), (true, g2, 24, (Wl b)), (true, g3, 24, [.int .u64 0, .int .u64 0, .int .u64 0, .int .u64 0]), (true, g4, 92, (tab .u64 8 (h3 a))), (true, g5, 92, (tab .u64 8 (h3 b))), (true, g6, 106, (tab .u64 16 F))] ac w) ?_ ?_
  ·exact ⟨_, 0, 0, f, rfl, (by omega), (in3_zero _ _ _ _), (prd3_f0 hf), (hs.re ⟨rfl, rfl, rfl, rfl, rfl, rfl, rfl, trivial⟩)⟩
  intro μ ac w ⟨k, c, F, hμ, hk, hI, hF, hs⟩
  have hc0 := hI.2
  refine wp_seq (wp_seq (wp_region_lit ?_))
  refine mvv hs rfl rfl rfl fun ac hs => ?_
  refine bnn hs (.bool (decide (k < 8))) rfl rfl rfl rfl (bin_lssN (y := 8)) fun ac hs => ?_
  refine wpList_nil (then_n ?_)
  refine wp_cond_split (hs.ev rfl) (fun hc => ?_) (fun hc => ?_)
  ·skip
   have hp8 := of_decide_eq_true hc
   have hlt : k < 8 := of_decide_eq_true hc
   have hfk : F (i + k) = h3 (V3 a b i) (i + k) := (hF _ (by omega)).trans mix3_at
   have hfl := h3_lt (V3 a b i) (i + k)
   have hfb := h3_lt b k
   have hmm := mul_lt32 hxl hfb
   have hfm : F (i + k) < 4294967296 := by omega
   refine wp_skip (then_n (wp_seq (wp_block (wp_seq ?_))))
   replace hs := hs.n0 [4, 5, 6, 7, 8, 9, 10] rfl rfl
   have l9 := h3_lt a i
   have l10 := h3_lt b k
   refine region_inv [([], [6, 14, 15]), ([], [3, 4, 5, 6, 14, 15]), ([], [3, 4, 5, 6, 14, 15]), ([1, 2], [4, 5, 6, 14, 15]), ([1, 2, 3], [5, 6, 14, 15]), (rgn 1 4, [6, 14, 15]), (rgn 0 6, [14, 15]), ([], [8, 9, 13, 14, 15]), ([7], [9, 13, 14, 15]), ([7, 8], [13, 14, 15]), ([], rgn 11 5), ([10], rgn 12 4), ([10, 11], [13, 14, 15]), (rgn 7 6, [14, 15]), (rgn 0 14, [15]), (rgn 0 15, [])] (fun L ac w => St 53 w0 [(24, L 0, nu64 c), (25, L 1, ni64 i), (26, L 2, ni64 k), (27, L 3, ni64 (i + k)), (28, L 4, .pointer (some ⟨g6, i + k, none⟩)), (29, L 5, nu64 (F (i + k))), (30, L 6, nu64 (c + (F (i + k)))), (31, L 7, ni64 i), (32, L 8, .pointer (some ⟨g4, i, none⟩)), (33, L 9, nu64 ((h3 a) i)), (34, L 10, ni64 k), (35, L 11, .pointer (some ⟨g5, k, none⟩)), (36, L 12, nu64 ((h3 b) k)), (37, L 13, .int .u64 ((((h3 a) i) * ((h3 b) k) : Nat) : Int)), (38, L 14, .int .u64 ((c + (F (i + k)) + (((h3 a) i) * ((h3 b) k)) : Nat) : Int)), (9, L 15, .int .u64 ((c + (F (i + k)) + (((h3 a) i) * ((h3 b) k)) : Nat) : Int)), (4, true, ptA g3 0), (5, true, ptA g4 0), (6, true, ptA g5 0), (7, true, ptA g6 0), (8, true, ni64 i), (9, true, nu64 c), (10, true, ni64 k)] [(true, g1, 24, (Wl a)), (true, g2, 24, (Wl b)), (true, g3, 24, [.int .u64 0, .int .u64 0, .int .u64 0, .int .u64 0]), (true, g4, 92, (tab .u64 8 (h3 a))), (true, g5, 92, (tab .u64 8 (h3 b))), (true, g6, 106, (tab .u64 16 F))] ac w) (by kernel_rfl) (by kernel_rfl) ?_ ?_ ?_
   ·exact hs.drew.skip.skip.skip.skip.skip.skip.skip.skip.skip.skip.skip.skip.skip.skip.skip.skip
   ·refine ⟨?_, ?_, ?_, ?_, ?_, ?_, ?_, ?_, ?_, ?_, ?_, ?_, ?_, ?_, ?_, ?_, trivial⟩
    ·exact fun L ac w hs => pln (omv hs 0 rfl rfl rfl fun ac hs => hs)
    ·exact fun L ac w hs => pln (omv hs 1 rfl rfl rfl fun ac hs => hs)
    ·exact fun L ac w hs => pln (omv hs 2 rfl rfl rfl fun ac hs => hs)
    ·exact fun L ac w hs => pln (obn hs 3 (ni64 (i + k)) rfl rfl rfl rfl (bin_addN rfl (show i + k < 9223372036854775808 by omega)) fun ac hs => hs)
    ·exact fun L ac w hs => pln (op_idxA hs (some 4) (j := i + k) rfl rfl rfl rfl underlying106 sizeOf22 (show i + k < 16 by omega) (off := i + k) (by omega) rfl fun ac hs => hs)
    ·exact fun L ac w hs => pln (oldd hs 5 5 (nu64 (F (i + k))) isAgg22 sizeOf22 rfl rfl rfl rfl (tab_get (j := i + k) (show i + k < 16 by omega)) fun ac hs => hs)
    ·exact fun L ac w hs => pln (obn hs 6 (nu64 (c + (F (i + k)))) rfl rfl rfl rfl (bin_addN rfl (show c + (F (i + k)) < 18446744073709551616 by omega)) fun ac hs => hs)
    ·exact fun L ac w hs => pln (omv hs 7 rfl rfl rfl fun ac hs => hs)
    ·exact fun L ac w hs => pln (op_idxA hs (some 8) (j := i) rfl rfl rfl rfl underlying92 sizeOf22 (show i < 8 by omega) (off := i) (by omega) rfl fun ac hs => hs)
    ·exact fun L ac w hs => pln (oldd hs 9 3 (nu64 ((h3 a) i)) isAgg22 sizeOf22 rfl rfl rfl rfl (tab_get (j := i) (show i < 8 by omega)) fun ac hs => hs)
    ·exact fun L ac w hs => pln (omv hs 10 rfl rfl rfl fun ac hs => hs)
    ·exact fun L ac w hs => pln (op_idxA hs (some 11) (j := k) rfl rfl rfl rfl underlying92 sizeOf22 (show k < 8 by omega) (off := k) (by omega) rfl fun ac hs => hs)
    ·exact fun L ac w hs => pln (oldd hs 12 4 (nu64 ((h3 b) k)) isAgg22 sizeOf22 rfl rfl rfl rfl (tab_get (j := k) (show k < 8 by omega)) fun ac hs => hs)
    ·exact fun L ac w hs => pln (obn hs 13 (.int .u64 ((((h3 a) i) * ((h3 b) k) : Nat) : Int)) rfl rfl rfl rfl (bin_mulN (z := ((h3 a) i) * ((h3 b) k)) rfl (show ((h3 a) i) * ((h3 b) k) < 18446744073709551616 by omega)) fun ac hs => hs)
    ·exact fun L ac w hs => pln (obn hs 14 (.int .u64 ((c + (F (i + k)) + (((h3 a) i) * ((h3 b) k)) : Nat) : Int)) rfl rfl rfl rfl (bin_addN (z := c + (F (i + k)) + (((h3 a) i) * ((h3 b) k))) rfl (show c + (F (i + k)) + (((h3 a) i) * ((h3 b) k)) < 18446744073709551616 by omega)) fun ac hs => hs)
    ·exact fun L ac w hs => pln (oas hs 15 rfl rfl rfl fun ac hs => hs)
   intro ac w hs
   try dsimp only [cond_true] at hs
   refine then_n (wp_seq (wp_region_lit ?_))
   refine mvv hs rfl rfl rfl fun ac hs => ?_
   refine mvv hs rfl rfl rfl fun ac hs => ?_
   refine bnn hs (ni64 (i + k)) rfl rfl rfl rfl (bin_addN rfl (show i + k < 9223372036854775808 by omega)) fun ac hs => ?_
   refine mvv hs rfl rfl rfl fun ac hs => ?_
   refine bnn hs (.int .u64 (((c + (F (i + k)) + (((h3 a) i) * ((h3 b) k))) % 2 ^ 32 : Nat) : Int)) rfl rfl rfl rfl (bin_andN (y := 4294967295) (z := (c + (F (i + k)) + (((h3 a) i) * ((h3 b) k))) % 2 ^ 32) (Nat.and_two_pow_sub_one_eq_mod (c + (F (i + k)) + (((h3 a) i) * ((h3 b) k))) 32) (show c + (F (i + k)) + (((h3 a) i) * ((h3 b) k)) < 18446744073709551616 by omega) (by decide) (show (c + (F (i + k)) + (((h3 a) i) * ((h3 b) k))) % 2 ^ 32 < 18446744073709551616 by omega)) fun ac hs => ?_
   refine stp (op_idxA hs none (j := i + k) rfl rfl rfl rfl underlying106 sizeOf22 (show i + k < 16 by omega) (off := i + k) (by omega) rfl fun ac hs => ?_)
   refine stp (stoo hs 5 ([.int .u64 (((c + (F (i + k)) + (((h3 a) i) * ((h3 b) k))) % 2 ^ 32 : Nat) : Int)]) sizeOf22 rfl rfl rfl rfl rfl rfl rfl rfl (tab_le (j := i + k) (show i + k < 16 by omega)) (tab_set) fun w hs => ?_)
   refine wpList_nil (then_n ?_)
   replace hs := hs.n0 [4, 5, 6, 7, 8, 9, 10] rfl rfl
   refine wp_region_lit ?_
   refine mvv hs rfl rfl rfl fun ac hs => ?_
   refine bnn hs (.int .u64 (((c + (F (i + k)) + (((h3 a) i) * ((h3 b) k))) / 2 ^ 32 : Nat) : Int)) rfl rfl rfl rfl (bin_shrN (y := 32) (z := (c + (F (i + k)) + (((h3 a) i) * ((h3 b) k))) / 2 ^ 32) rfl (show c + (F (i + k)) + (((h3 a) i) * ((h3 b) k)) < 2 ^ 64 by omega)) fun ac hs => ?_
   refine asg hs rfl rfl rfl fun ac hs => ?_
   refine wpList_nil (blk_n (then_n (wp_region_lit ?_)))
   refine mvv hs rfl rfl rfl fun ac hs => ?_
   refine bnn hs (ni64 (k + 1)) rfl rfl rfl rfl (bin_addN (y := 1) rfl (show k + 1 < 9223372036854775808 by omega)) fun ac hs => ?_
   refine asg hs rfl rfl rfl fun ac hs => ?_
   refine wpList_nil (then_n ?_)
   exact ⟨_, ⟨(k + 1), ((c + (F (i + k)) + (((h3 a) i) * ((h3 b) k))) / 2 ^ 32), (upn F (i + k) ((c + (F (i + k)) + (((h3 a) i) * ((h3 b) k))) % 2 ^ 32)), rfl, hlt, (prd3_c' hxl hfk hI), (prd3_f' hxl (by omega) hI hF), (hs.re ⟨rfl, rfl, rfl, rfl, rfl, rfl, rfl, trivial⟩)⟩, (by omega)⟩
  ·skip
   have hp11 := of_decide_eq_false hc
   obtain rfl : k = 8 := by omega
   refine wp_exit (then_e (then_e (blk_e (then_n (wp_region_lit ?_)))))
   refine mvv hs rfl rfl rfl fun ac hs => ?_
   refine bnn hs (ni64 (i + 8)) rfl rfl rfl rfl (bin_addN (y := 8) rfl (show i + 8 < 9223372036854775808 by omega)) fun ac hs => ?_
   refine mvv hs rfl rfl rfl fun ac hs => ?_
   refine stp (op_idxA hs none (j := i + 8) rfl rfl rfl rfl underlying106 sizeOf22 (show i + 8 < 16 by omega) (off := i + 8) (by omega) rfl fun ac hs => ?_)
   refine stp (stoo hs 5 ([nu64 c]) sizeOf22 rfl rfl rfl rfl rfl rfl rfl rfl (tab_le (j := i + 8) (show i + 8 < 16 by omega)) (tab_set) fun w hs => ?_)
   refine wpList_nil (blk_n (then_n ?_))
   replace hs := hs.n0 [4, 5, 6, 7, 8] rfl rfl
   refine wp_region_lit ?_
   refine mvv hs rfl rfl rfl fun ac hs => ?_
   refine bnn hs (ni64 (i + 1)) rfl rfl rfl rfl (bin_addN (y := 1) rfl (show i + 1 < 9223372036854775808 by omega)) fun ac hs => ?_
   refine asg hs rfl rfl rfl fun ac hs => ?_
   refine wpList_nil (then_n ?_)
   exact ⟨_, ⟨(i + 1), (upn F (i + 8) c), rfl, hli, (prd3_last hb hI hF), (hs.re ⟨rfl, rfl, rfl, rfl, rfl, trivial⟩)⟩, (by omega)⟩
 ·skip
  have hp12 := of_decide_eq_false hc
  obtain rfl : i = 8 := by omega
  replace hs := hs.setb 5 (cs' := tab .u64 16 (h3 (a * b))) rfl (tab_congr (prd3_fin ha hf))
  refine wp_exit (then_e (then_e (blk_e (then_n (wp_seq (wp_region_lit ?_))))))
  refine ldd hs 5 (At .u64 16 (h3 (a * b))) isAgg106 sizeOf106 rfl rfl rfl rfl ldv_tab fun ac hs => ?_
  obtain ⟨r13, hr13, lr13⟩ : ∃ z0, (a * b) % Pf = z0 ∧ z0 < 2 ^ 256 := ⟨_, rfl, modP_lt _⟩
  refine stp (op_call (F := 127) hs none (v := W r13) rfl rfl rfl rfl (call127 _) (folded_c (a * b) r13 (mul_512 ha hb) hr13) rfl fun ac w hs => ?_)
  refine stp (stoo hs 2 ((Wl r13)) sizeOf24 rfl rfl rfl rfl rfl rfl rfl rfl rfl rfl fun w hs => ?_)
  refine wpList_nil (then_n (wp_ret ?_))
  exact bodyPost_ret (res1 rfl (rv_c hs 2 (v := W r13) rfl rfl isAgg24 sizeOf24 rfl)) hs.defers ⟨by rw [← hx, ← hr13], (hs.bel rfl)⟩
theorem rfpow_c (a n x : Nat) (ha : a < 2 ^ 256) (hn : n < 2 ^ 256) (hx : a ^ n % Pf = x) (w0 : World) : Calls prog 119 #[W a, W n] w0 fun e w' => e = .returned (W x) ∧ Below w0.heap.size w0 w' := by
 refine enter (n := 23) (args := [W a, W n]) func119 rfl rfl (Nat.le_of_ble_eq_true rfl) fun ac hs => ?_
 refine wp_seq (wp_region_lit ?_)
 refine stp (op_box hs none none (cs := (Wl a)) rfl rfl rfl rfl rfl rfl fun g1 ac w hs => ?_)
 refine stp (op_box hs none none (cs := (Wl n)) rfl rfl rfl rfl rfl rfl fun g2 ac w hs => ?_)
 refine stp (op_alloc hs none none (cs := [.int .u64 0, .int .u64 0, .int .u64 0, .int .u64 0]) rfl rfl zeroValue24 (by kernel_rfl) rfl rfl fun g3 ac w hs => ?_)
 refine wpList_nil (then_n (wp_seq (wp_region_lit ?_)))
 refine stp (op_build hs none (qs := [(0, .int .u64 1)]) (v := .agg #[.int .u64 1, .int .u64 0, .int .u64 0, .int .u64 0]) rfl rfl rfl rfl (fun _ => by kernel_rfl) rfl fun ac hs => ?_)
 refine stp (op_alloc hs none none (cs := [.int .u64 0, .int .u64 0, .int .u64 0, .int .u64 0]) rfl rfl zeroValue24 (by kernel_rfl) rfl rfl fun g4 ac w hs => ?_)
 refine stp (stoo hs 3 ([.int .u64 1, .int .u64 0, .int .u64 0, .int .u64 0]) sizeOf24 rfl rfl rfl rfl rfl rfl rfl rfl rfl rfl fun w hs => ?_)
 refine wpList_nil (then_n (wp_seq (wp_seq ?_)))
 replace hs := hs.n0 [2, 3, 4, 5] rfl rfl
 refine wp_region_lit ?_
 refine asg hs rfl rfl rfl fun ac hs => ?_
 refine wpList_nil (then_n (wp_block ?_))
 refine wp_loop_m (fun μ ac w => ∃ (k : Nat) (o : Nat), (k) = μ ∧ (k ≤ 256) ∧ (o < 2 ^ 256) ∧ (a ^ (n / 2 ^ k) % Pf = o) ∧ St 23 w0 [(2, true, ptA g1 0), (3, true, ptA g2 0), (4, true, ptA g3 0), (5, true, ptA g4 0), (6, true, .int .i64 (((k : Nat) : Int) - 1))] [(true, g1, 24, (Wl a)), (true, g2, 24, (Wl n)), (true, g3, 24, [.int .u64 0, .int .u64 0, .int .u64 0, .int .u64 0]), (true, g4, 24, (Wl o))] ac w) ?_ ?_
 ·exact ⟨_, 256, 1, rfl, (by omega), (by decide), (pow_hi_start hn), (hs.re ⟨rfl, rfl, rfl, rfl, rfl, trivial⟩)⟩
 intro μ ac w ⟨k, o, hμ, hk, lo, ho, hs⟩
 refine wp_seq (wp_seq (wp_region_lit ?_))
 refine mvv hs rfl rfl rfl fun ac hs => ?_
 refine bnn hs (.bool (decide (1 ≤ k))) rfl rfl rfl rfl bin_geqP fun ac hs => ?_
 refine wpList_nil (then_n ?_)
 refine wp_cond_split (hs.ev rfl) (fun hc => ?_) (fun hc => ?_)
 ·skip
  have hp5 := of_decide_eq_true hc
  replace hs := hs.re (fs' := [(2, true, ptA g1 0), (3, true, ptA g2 0), (4, true, ptA g3 0), (5, true, ptA g4 0), (6, true, ni64 (k - 1)), (8, true, .int .i64 (((k : Nat) : Int) - 1)), (9, true, .bool (decide (1 ≤ k)))]) ⟨rfl, rfl, rfl, rfl, congrArg some (pre_nat hp5), rfl, rfl, trivial⟩
  refine wp_skip (then_n (wp_seq (wp_block (wp_seq (wp_region_lit ?_)))))
  refine ldd hs 3 (W o) isAgg24 sizeOf24 rfl rfl rfl rfl rfl fun ac hs => ?_
  refine ldd hs 3 (W o) isAgg24 sizeOf24 rfl rfl rfl rfl rfl fun ac hs => ?_
  obtain ⟨r6, hr6, lr6⟩ : ∃ z0, o * o % Pf = z0 ∧ z0 < 2 ^ 256 := ⟨_, rfl, modP_lt _⟩
  refine stp (op_call (F := 89) hs none (v := W r6) rfl rfl rfl rfl (call89 _) (rfmul_c o o r6 lo lo hr6) rfl fun ac w hs => ?_)
  refine stp (stoo hs 3 ((Wl r6)) sizeOf24 rfl rfl rfl rfl rfl rfl rfl rfl rfl rfl fun w hs => ?_)
  refine wpList_nil (then_n (wp_seq ?_))
  replace hs := hs.n0 [2, 3, 4, 5, 6] rfl rfl
  refine wp_region_lit ?_
  refine ldd hs 1 (W n) isAgg24 sizeOf24 rfl rfl rfl rfl rfl fun ac hs => ?_
  refine mvv hs rfl rfl rfl fun ac hs => ?_
  obtain ⟨b7, hb7⟩ : ∃ z0, n / 2 ^ (k - 1) % 2 = z0 := ⟨_, rfl⟩
  have lb7 := bit_le hb7
  refine stp (op_call (F := 86) hs none (v := nu64 b7) rfl rfl rfl rfl (call86 _) (rbit_c n (k - 1) b7 (show k - 1 < 256 by omega) hb7) rfl fun ac w hs => ?_)
  refine bnn hs (.bool (decide (b7 = 1))) rfl rfl rfl rfl (bin_eqlN (y := 1)) fun ac hs => ?_
  refine wpList_nil (then_n ?_)
  refine wp_cond_split (hs.ev rfl) (fun hc => ?_) (fun hc => ?_)
  ·skip
   have hp8 := of_decide_eq_true hc
   refine wp_region_lit ?_
   refine ldd hs 3 (W r6) isAgg24 sizeOf24 rfl rfl rfl rfl rfl fun ac hs => ?_
   refine ldd hs 0 (W a) isAgg24 sizeOf24 rfl rfl rfl rfl rfl fun ac hs => ?_
   obtain ⟨r9, hr9, lr9⟩ : ∃ z0, r6 * a % Pf = z0 ∧ z0 < 2 ^ 256 := ⟨_, rfl, modP_lt _⟩
   refine stp (op_call (F := 89) hs none (v := W r9) rfl rfl rfl rfl (call89 _) (rfmul_c r6 a r9 lr6 ha hr9) rfl fun ac w hs => ?_)
   refine stp (stoo hs 3 ((Wl r9)) sizeOf24 rfl rfl rfl rfl rfl rfl rfl rfl rfl rfl fun w hs => ?_)
   refine wpList_nil (blk_n (then_n ?_))
   replace hs := hs.n0 [2, 3, 4, 5, 6] rfl rfl
   refine wp_region_lit ?_
   refine mvv hs rfl rfl rfl fun ac hs => ?_
   refine bnn hs (.int .i64 (((k - 1 : Nat) : Int) - 1)) rfl rfl rfl rfl (bin_subP (by omega)) fun ac hs => ?_
   refine asg hs rfl rfl rfl fun ac hs => ?_
   refine wpList_nil (then_n ?_)
   exact ⟨_, ⟨(k - 1), r9, rfl, (by omega), lr9, (pow_hi1 hp5 ho hr6 hb7 hp8 hr9), (hs.re ⟨rfl, rfl, rfl, rfl, rfl, trivial⟩)⟩, (by omega)⟩
  ·skip
   have hp10 := of_decide_eq_false hc
   refine wp_skip (blk_n (then_n (wp_region_lit ?_)))
   refine mvv hs rfl rfl rfl fun ac hs => ?_
   refine bnn hs (.int .i64 (((k - 1 : Nat) : Int) - 1)) rfl rfl rfl rfl (bin_subP (by omega)) fun ac hs => ?_
   refine asg hs rfl rfl rfl fun ac hs => ?_
   refine wpList_nil (then_n ?_)
   exact ⟨_, ⟨(k - 1), r6, rfl, (by omega), lr6, (pow_hi0 hp5 ho hr6 hb7 hp10), (hs.re ⟨rfl, rfl, rfl, rfl, rfl, trivial⟩)⟩, (by omega)⟩
 ·skip
  have hp11 := of_decide_eq_false hc
  obtain rfl : k = 0 := by omega
  refine wp_exit (then_e (then_e (blk_e (then_n (wp_seq (wp_region_lit ?_))))))
  refine ldd hs 3 (W o) isAgg24 sizeOf24 rfl rfl rfl rfl rfl fun ac hs => ?_
  refine stp (stoo hs 2 ((Wl o)) sizeOf24 rfl rfl rfl rfl rfl rfl rfl rfl rfl rfl fun w hs => ?_)
  refine wpList_nil (then_n (wp_ret ?_))
  exact bodyPost_ret (res1 rfl (rv_c hs 2 (v := W o) rfl rfl isAgg24 sizeOf24 rfl)) hs.defers ⟨by rw [← hx, ← ho, Nat.pow_zero, Nat.div_one], (hs.bel rfl)⟩
theorem rfinv_c (a x : Nat) (ha : a < 2 ^ 256) (hx : pinv Pf a = x) (w0 : World) : Calls prog 88 #[W a] w0 fun e w' => e = .returned (W x) ∧ Below w0.heap.size w0 w' := by
 refine enter (n := 7) (args := [W a]) func88 rfl rfl (Nat.le_of_ble_eq_true rfl) fun ac hs => ?_
 refine wp_seq (wp_region_lit ?_)
 refine stp (op_box hs none none (cs := (Wl a)) rfl rfl rfl rfl rfl rfl fun g1 ac w hs => ?_)
 refine stp (op_alloc hs none none (cs := [.int .u64 0, .int .u64 0, .int .u64 0, .int .u64 0]) rfl rfl zeroValue24 (by kernel_rfl) rfl rfl fun g2 ac w hs => ?_)
 refine wpList_nil (then_n (wp_seq (wp_region_lit ?_)))
 refine ldd hs 0 (W a) isAgg24 sizeOf24 rfl rfl rfl rfl rfl fun ac hs => ?_
 obtain ⟨r3, hr3, lr3⟩ : ∃ z0, a % Pf = z0 ∧ z0 < 2 ^ 256 := ⟨_, rfl, modP_lt _⟩
 refine stp (op_call (F := 121) hs none (v := W r3) rfl rfl rfl rfl (call121 _) (rfred_c a r3 ha hr3) rfl fun ac w hs => ?_)
 refine stp (op_call (F := 118) hs none (v := W Pf) rfl rfl rfl rfl (call118 _) rprime_c rfl fun ac w hs => ?_)
 obtain ⟨v4, hv4, lv4⟩ : ∃ z0, pinv Pf r3 = z0 ∧ z0 < 2 ^ 256 := ⟨_, rfl, modP_lt _⟩
 refine stp (op_call (F := 125) hs none (v := W v4) rfl rfl rfl rfl (call125 _) (inv_prime (hr3 ▸ Nat.mod_lt _ Pf_pos) hv4) rfl fun ac w hs => ?_)
 refine stp (stoo hs 1 ((Wl v4)) sizeOf24 rfl rfl rfl rfl rfl rfl rfl rfl rfl rfl fun w hs => ?_)
 refine wpList_nil (then_n (wp_ret ?_))
 exact bodyPost_ret (res1 rfl (rv_c hs 1 (v := W v4) rfl rfl isAgg24 sizeOf24 rfl)) hs.defers ⟨by rw [← hx, ← hv4, ← hr3, pinv_mod], (hs.bel rfl)⟩
theorem rfroot_c (a x : Nat) (q : Bool) (ha : a < 2 ^ 256) (hx : frV a = x) (hq : frB a = q) (w0 : World) : Calls prog 79 #[W a] w0 fun e w' => e = .returned (.tuple #[W x, .bool q]) ∧ Below w0.heap.size w0 w' := by
 refine enter (n := 31) (args := [W a]) func79 rfl rfl (Nat.le_of_ble_eq_true rfl) fun ac hs => ?_
 refine wp_seq (wp_region_lit ?_)
 refine stp (op_box hs none none (cs := (Wl a)) rfl rfl rfl rfl rfl rfl fun g1 ac w hs => ?_)
 refine stp (op_alloc hs none none (cs := [.int .u64 0, .int .u64 0, .int .u64 0, .int .u64 0]) rfl rfl zeroValue24 (by kernel_rfl) rfl rfl fun g2 ac w hs => ?_)
 refine asg hs rfl rfl rfl fun ac hs => ?_
 refine wpList_nil (then_n (wp_seq (wp_region_lit ?_)))
 refine stp (op_call (F := 118) hs none (v := W Pf) rfl rfl rfl rfl (call118 _) rprime_c rfl fun ac w hs => ?_)
 refine stp (op_build hs none (qs := [(0, .int .u64 1)]) (v := .agg #[.int .u64 1, .int .u64 0, .int .u64 0, .int .u64 0]) rfl rfl rfl rfl (fun _ => by kernel_rfl) rfl fun ac hs => ?_)
 obtain ⟨s3, hs3, ls3⟩ : ∃ z0, (Pf + 1) % 2 ^ 256 = z0 ∧ z0 < 2 ^ 256 := ⟨_, rfl, Nat.mod_lt _ (Nat.two_pow_pos 256)⟩
 obtain ⟨c4, hc4⟩ : ∃ z0, (Pf + 1) / 2 ^ 256 = z0 := ⟨_, rfl⟩
 refine stp (op_call (F := 59) hs none (v := .tuple #[W s3, nu64 c4]) rfl rfl rfl rfl (call59 _) (more_at Pf 1 s3 c4 Pf_lt (by decide) hs3 hc4) rfl fun ac w hs => ?_)
 refine mvv hs rfl rfl rfl fun ac hs => ?_
 refine stp (xtr hs none rfl rfl rfl rfl rfl fun ac hs => ?_)
 refine stp (xtr hs none rfl rfl rfl rfl rfl fun ac hs => ?_)
 refine stp (op_alloc hs none none (cs := [.int .u64 0, .int .u64 0, .int .u64 0, .int .u64 0]) rfl rfl zeroValue24 (by kernel_rfl) rfl rfl fun g5 ac w hs => ?_)
 refine stp (stoo hs 2 ((Wl s3)) sizeOf24 rfl rfl rfl rfl rfl rfl rfl rfl rfl rfl fun w hs => ?_)
 refine asg hs rfl rfl rfl fun ac hs => ?_
 refine wpList_nil (then_n (wp_seq ?_))
 replace hs := hs.n0 [1, 2, 3, 4] rfl rfl
 obtain ⟨sh6, hsh6, lsh6⟩ : ∃ z0, s3 / 2 ^ 2 = z0 ∧ z0 < 2 ^ 256 := ⟨_, rfl, div_lt256 ls3⟩
 obtain ⟨r7, hr7, lr7⟩ : ∃ z0, a ^ sh6 % Pf = z0 ∧ z0 < 2 ^ 256 := ⟨_, rfl, modP_lt _⟩
 refine region_inv [([], [3, 5]), ([], [2, 3, 5]), ([1], [3, 5]), ([0, 1, 2], [5]), ([], [5]), (rgn 0 5, [])] (fun L ac w => ∃ (g8 : Nat), St 31 w0 [(13, L 0, W a), (14, L 1, W s3), (15, L 2, W sh6), (16, L 3, W r7), (6, L 4, ptA g8 0), (1, true, ptA g1 0), (2, true, ptA g2 0), (3, true, .bool false), (4, true, ptA g5 0)] [(true, g1, 24, (Wl a)), (true, g2, 24, [.int .u64 0, .int .u64 0, .int .u64 0, .int .u64 0]), (true, g5, 24, (Wl s3)), (L 4, g8, 24, (cond (L 5) (Wl r7) [.int .u64 0, .int .u64 0, .int .u64 0, .int .u64 0]))] ac w) (by kernel_rfl) (by kernel_rfl) ?_ ?_ ?_
 ·exact ⟨0, hs.drew.skip.skip.skip.skip.skip.pad⟩
 ·refine ⟨?_, ?_, ?_, ?_, ?_, ?_, trivial⟩
  ·exact fun L ac w ⟨g8, hs⟩ => pln (oldd hs 0 0 (W a) isAgg24 sizeOf24 rfl rfl rfl rfl rfl fun ac hs => ⟨g8, hs⟩)
  ·exact fun L ac w ⟨g8, hs⟩ => pln (oldd hs 1 2 (W s3) isAgg24 sizeOf24 rfl rfl rfl rfl rfl fun ac hs => ⟨g8, hs⟩)
  ·exact fun L ac w ⟨g8, hs⟩ => pln (op_call (F := 120) hs (some 2) (v := W sh6) rfl rfl rfl rfl (call120 _) (rshr_c s3 2 2 sh6 ls3 (by decide) hsh6) rfl fun ac w hs => ⟨g8, hs⟩)
  ·exact fun L ac w ⟨g8, hs⟩ => pln (op_call (F := 119) hs (some 3) (v := W r7) rfl rfl rfl rfl (call119 _) (rfpow_c a sh6 r7 ha lsh6 hr7) rfl fun ac w hs => ⟨g8, hs⟩)
  ·exact fun L ac w ⟨g8, hs⟩ => pln (op_alloc hs (some 4) (some 3) (cs := [.int .u64 0, .int .u64 0, .int .u64 0, .int .u64 0]) rfl rfl zeroValue24 (by kernel_rfl) rfl rfl fun g8 ac w hs => ⟨g8, hs⟩)
  ·exact fun L ac w ⟨g8, hs⟩ => pln (stoo hs 3 ((Wl r7)) sizeOf24 rfl rfl rfl rfl rfl rfl rfl rfl rfl rfl fun w hs => ⟨g8, hs⟩)
 intro ac w ⟨g8, hs⟩
 try dsimp only [cond_true] at hs
 refine then_n (wp_seq (wp_seq ?_))
 replace hs := hs.n0 [1, 2, 3, 6] rfl rfl
 obtain ⟨r9, hr9, lr9⟩ : ∃ z0, r7 * r7 % Pf = z0 ∧ z0 < 2 ^ 256 := ⟨_, rfl, modP_lt _⟩
 obtain ⟨r10, hr10, lr10⟩ : ∃ z0, a % Pf = z0 ∧ z0 < 2 ^ 256 := ⟨_, rfl, modP_lt _⟩
 refine region_inv [([], [2, 4, 5]), ([], [2, 4, 5]), ([0, 1], [4, 5]), ([], [4, 5]), (rgn 0 4, [5]), (rgn 0 5, [])] (fun L ac w => St 31 w0 [(17, L 0, W r7), (18, L 1, W r7), (19, L 2, W r9), (20, L 3, W a), (21, L 4, W r10), (22, L 5, .bool (decide (r9 ≠ r10))), (1, true, ptA g1 0), (2, true, ptA g2 0), (3, true, .bool false), (6, true, ptA g8 0)] [(true, g1, 24, (Wl a)), (true, g2, 24, [.int .u64 0, .int .u64 0, .int .u64 0, .int .u64 0]), (true, g5, 24, (Wl s3)), (true, g8, 24, (Wl r7))] ac w) (by kernel_rfl) (by kernel_rfl) ?_ ?_ ?_
 ·exact hs.drew.skip.skip.skip.skip.skip.skip
 ·refine ⟨?_, ?_, ?_, ?_, ?_, ?_, trivial⟩
  ·exact fun L ac w hs => pln (oldd hs 0 3 (W r7) isAgg24 sizeOf24 rfl rfl rfl rfl rfl fun ac hs => hs)
  ·exact fun L ac w hs => pln (oldd hs 1 3 (W r7) isAgg24 sizeOf24 rfl rfl rfl rfl rfl fun ac hs => hs)
  ·exact fun L ac w hs => pln (op_call (F := 89) hs (some 2) (v := W r9) rfl rfl rfl rfl (call89 _) (rfmul_c r7 r7 r9 lr7 lr7 hr9) rfl fun ac w hs => hs)
  ·exact fun L ac w hs => pln (oldd hs 3 0 (W a) isAgg24 sizeOf24 rfl rfl rfl rfl rfl fun ac hs => hs)
  ·exact fun L ac w hs => pln (op_call (F := 121) hs (some 4) (v := W r10) rfl rfl rfl rfl (call121 _) (rfred_c a r10 ha hr10) rfl fun ac w hs => hs)
  ·exact fun L ac w hs => pln (op_bin hs (some 5) (v := .bool (decide (r9 ≠ r10))) rfl rfl rfl rfl (fun w => run_eqGuard_agg w .neq 24 _ _ _ _ Tryz.eqGuardType24) (neqW r9 r10 lr9 lr10 _ rfl) rfl fun ac hs => hs)
 intro ac w hs
 try dsimp only [cond_true] at hs
 refine then_n ?_
 refine wp_cond_split (hs.ev rfl) (fun hc => ?_) (fun hc => ?_)
 ·skip
  have hp11 := of_decide_eq_true hc
  refine wp_seq (wp_region_lit ?_)
  refine stp (op_build hs none (qs := []) (v := .agg #[.int .u64 0, .int .u64 0, .int .u64 0, .int .u64 0]) rfl rfl rfl rfl (fun _ => by kernel_rfl) rfl fun ac hs => ?_)
  refine stp (stoo hs 1 ([.int .u64 0, .int .u64 0, .int .u64 0, .int .u64 0]) sizeOf24 rfl rfl rfl rfl rfl rfl rfl rfl rfl rfl fun w hs => ?_)
  refine asg hs rfl rfl rfl fun ac hs => ?_
  refine wpList_nil (then_n (wp_ret (then_r ?_)))
  exact bodyPost_ret (res2 rfl (rv_c hs 1 (v := .agg #[.int .u64 0, .int .u64 0, .int .u64 0, .int .u64 0]) rfl rfl isAgg24 sizeOf24 rfl) (rv_t hs rfl)) hs.defers ⟨by rw [← hx, ← hq, (frV_no (frt_of hr7 (hsh6.symm.trans (hs3 ▸ by decide))) hr9 hr10 hp11).1, (frV_no (frt_of hr7 (hsh6.symm.trans (hs3 ▸ by decide))) hr9 hr10 hp11).2]; first | done | rfl, (hs.bel rfl)⟩
 ·skip
  have hp12 := of_decide_eq_false hc
  refine wp_skip (then_n (wp_seq (wp_seq (wp_region_lit ?_))))
  refine stp (op_idxA hs none (j := 0) rfl rfl rfl rfl underlying24 sizeOf22 (by decide) (off := 0) rfl rfl fun ac hs => ?_)
  have l13 := limN_lt r7 0
  refine ldd hs 3 (.int .u64 (lim r7 0)) isAgg22 sizeOf22 rfl rfl rfl rfl rfl fun ac hs => ?_
  refine bnn hs (nu64 ((limN r7 0) % 2)) rfl rfl rfl rfl (bin_remN (y := 2) rfl (by decide)) fun ac hs => ?_
  refine bnn hs (.bool (decide ((limN r7 0) % 2 = 1))) rfl rfl rfl rfl (bin_eqlN (y := 1)) fun ac hs => ?_
  refine wpList_nil (then_n ?_)
  refine wp_cond_split (hs.ev rfl) (fun hc => ?_) (fun hc => ?_)
  ·skip
   have hp14 := of_decide_eq_true hc
   refine wp_region_lit ?_
   refine ldd hs 3 (W r7) isAgg24 sizeOf24 rfl rfl rfl rfl rfl fun ac hs => ?_
   obtain ⟨r15, hr15, lr15⟩ : ∃ z0, fsub 0 r7 = z0 ∧ z0 < 2 ^ 256 := ⟨_, rfl, fsub_lt _ _⟩
   refine stp (op_call (F := 90) hs none (v := W r15) rfl rfl rfl rfl (call90 _) (rfneg_c r7 r15 lr7 hr15) rfl fun ac w hs => ?_)
   refine stp (stoo hs 3 ((Wl r15)) sizeOf24 rfl rfl rfl rfl rfl rfl rfl rfl rfl rfl fun w hs => ?_)
   refine wpList_nil (then_n (wp_seq ?_))
   replace hs := hs.n0 [2, 3, 6] rfl rfl
   refine wp_region_lit ?_
   refine ldd hs 3 (W r15) isAgg24 sizeOf24 rfl rfl rfl rfl rfl fun ac hs => ?_
   refine stp (stoo hs 1 ((Wl r15)) sizeOf24 rfl rfl rfl rfl rfl rfl rfl rfl rfl rfl fun w hs => ?_)
   refine asg hs rfl rfl rfl fun ac hs => ?_
   refine wpList_nil (then_n (wp_ret ?_))
   exact bodyPost_ret (res2 rfl (rv_c hs 1 (v := W r15) rfl rfl isAgg24 sizeOf24 rfl) (rv_t hs rfl)) hs.defers ⟨by rw [← hx, ← hq, (frV_odd (frt_of hr7 (hsh6.symm.trans (hs3 ▸ by decide))) hr9 hr10 hp12 (by rw [← lim_odd]; exact hp14) hr15).1, (frV_odd (frt_of hr7 (hsh6.symm.trans (hs3 ▸ by decide))) hr9 hr10 hp12 (by rw [← lim_odd]; exact hp14) hr15).2]; first | done | rfl, (hs.bel rfl)⟩
  ·skip
   have hp16 := of_decide_eq_false hc
   refine wp_skip (then_n (wp_seq (wp_region_lit ?_)))
   refine ldd hs 3 (W r7) isAgg24 sizeOf24 rfl rfl rfl rfl rfl fun ac hs => ?_
   refine stp (stoo hs 1 ((Wl r7)) sizeOf24 rfl rfl rfl rfl rfl rfl rfl rfl rfl rfl fun w hs => ?_)
   refine asg hs rfl rfl rfl fun ac hs => ?_
   refine wpList_nil (then_n (wp_ret ?_))
   exact bodyPost_ret (res2 rfl (rv_c hs 1 (v := W r7) rfl rfl isAgg24 sizeOf24 rfl) (rv_t hs rfl)) hs.defers ⟨by rw [← hx, ← hq, (frV_even (frt_of hr7 (hsh6.symm.trans (hs3 ▸ by decide))) hr9 hr10 hp12 (by rw [← lim_odd]; exact hp16)).1, (frV_even (frt_of hr7 (hsh6.symm.trans (hs3 ▸ by decide))) hr9 hr10 hp12 (by rw [← lim_odd]; exact hp16)).2]; first | done | rfl, (hs.bel rfl)⟩
end Go.Proofs.YtejbajgpiecjcaaGreat

/- The contract of the reference's Len. -/
namespace Go.Proofs.YtejbajgpiecjcaaGreat
open Go.RowKit
theorem bitR_at (w : World) (a i b : Nat) (hi : i < 256) (hb : bitN a i = b) :
    Calls Tryz.prog 86 #[W a, .int .i64 (i : Int)] w fun e w' => e = .returned (.int .u64 (b : Int)) ∧ Below w.heap.size w w' :=
  (bitR_any w a i hi).mono fun e w' ⟨h1, h2⟩ => ⟨by rw [h1, hb], h2⟩
def LenRInv (N : Nat) (w : World) (a : Nat) (i : Value) (wr : World) : Prop :=
  ∃ k : Nat, k ≤ 256 ∧ i = .int .i64 (k : Int) ∧ Blk wr N 24 (Wc a) ∧ Below N w wr ∧ a < 2 ^ k
set_option maxHeartbeats 1000000 in
theorem lenR_any (w : World) (a : Nat) (ha : a < 2 ^ 256) :
    Calls Tryz.prog 84 #[W a] w fun e w' => e = .returned (.int .i64 (ln a : Int)) ∧ Below w.heap.size w w' := by
  have H0 : Hid (a < 2 ^ 256) := ha
  clear ha
  go_enter Tryz.func84, Tryz.ntmps84
  go_wp2
  go_loopw [3] (fun i wr => LenRInv w.heap.size w a i wr) (fun i _ => (intOf i).toNat)
  case atStart => exact ⟨256, by omega, rfl, Blk.new w _ _ _ rfl, bl_al (Below.refl _ _) _, H0.out⟩
  case round =>
    obtain ⟨k, hk, rfl, b0, hbl, hq⟩ := hrel
    have HQ := Lib.hid hq
    clear hq
    rcases k with _ | k
    · go_wp2
      go_ret
      have : a = 0 := by have := HQ.out; simpa using this
      exact ⟨ret_int (by rw [this]; rfl), hbl⟩
    · obtain ⟨⟨c0, c1, c2, c3⟩, _⟩ := b0.facts
      have hdiv : a / 2 ^ k < 2 := by
        rw [Nat.div_lt_iff_lt_mul (Nat.two_pow_pos k)]
        have := HQ.out
        rw [Nat.pow_succ] at this
        omega
      rcases Nat.eq_zero_or_pos (a / 2 ^ k) with h0 | h0
      · have HB : Hid (bitN a k = 0) := by unfold bitN; rw [h0]; exact rfl
        have HL : Hid (a < 2 ^ k) := by
          have := (Nat.div_eq_zero_iff_lt (Nat.two_pow_pos k)).1 h0
          exact this
        clear h0 hdiv
        go_wp2_with (go_at_call 86; refine (bitR_at _ a k 0 (by omega) HB.out).mono ?_; rintro e w2 ⟨rfl, hb2⟩; have B2 := Lib.hid (b0.keep hb2); have HB2 := Lib.hid (bl_tr hbl hb2); clear hb2)
        go_roundw
        case rel => exact ⟨k, by omega, by go_num, B2.out, HB2.out, HL.out⟩
        case measure => simp [intOf] <;> omega
      · have h1 : a / 2 ^ k = 1 := by omega
        have HB : Hid (bitN a k = 1) := by unfold bitN; rw [h1]; exact rfl
        have HL : Hid (ln a = k + 1) := ln_unique HQ.out fun _ => by
          have := (Nat.le_div_iff_mul_le (Nat.two_pow_pos k)).1 (Nat.le_of_eq h1.symm)
          simpa using this
        clear h0 hdiv h1
        go_wp2_with (go_at_call 86; refine (bitR_at _ a k 1 (by omega) HB.out).mono ?_; rintro e w2 ⟨rfl, hb2⟩; have HB2 := Lib.hid (bl_tr hbl hb2); clear hb2)
        go_ret
        exact ⟨ret_int (by rw [HL.out]; simp), HB2.out⟩
end Go.Proofs.YtejbajgpiecjcaaGreat
