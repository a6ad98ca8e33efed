/- Several texts in one, what this law needs of them: Inv, WBit, WTwice, WLess, WideW, Field, EqP, Point. -/
import Derived.Test.YtejbajgpiecjcaaGreatSA2
import Derived.Laws.BitsAllLaws

/- The contracts of half, Inverse, of what bytes tell. -/
namespace Go.Proofs.YtejbajgpiecjcaaGreat
open Go.RowKit _root_.Go.Proofs.Tryz
set_option maxRecDepth 10000
theorem half_c (a m h : Nat) (ha : a < 2 ^ 256) (hm : m < 2 ^ 256) (hh : hfm a m = h) (w0 : World) : Calls prog 137 #[W a, W m] w0 fun e w' => e = .returned (W h) ∧ Below w0.heap.size w0 w' := by
 refine enter (n := 44) (args := [W a, W m]) func137 rfl rfl (Nat.le_of_ble_eq_true rfl) fun ac hs => ?_
 refine wp_seq (wp_region_lit ?_)
 refine stp (op_box hs none none (cs := (Wl a)) rfl rfl rfl rfl rfl rfl fun g1 ac w hs => ?_)
 refine stp (op_box hs none none (cs := (Wl m)) rfl rfl rfl rfl rfl rfl fun g2 ac w hs => ?_)
 refine stp (op_alloc hs none none (cs := [.int .u64 0, .int .u64 0, .int .u64 0, .int .u64 0]) rfl rfl zeroValue24 (by kernel_rfl) rfl rfl fun g3 ac w hs => ?_)
 refine wpList_nil (then_n (wp_seq (wp_region_lit ?_)))
 refine asg hs rfl rfl rfl fun ac hs => ?_
 refine wpList_nil (then_n (wp_seq (wp_seq (wp_region_lit ?_))))
 refine stp (op_idxA hs none (j := 0) rfl rfl rfl rfl underlying24 sizeOf22 (by decide) (off := 0) rfl rfl fun ac hs => ?_)
 have l4 := limN_lt a 0
 refine ldd hs 0 (.int .u64 (lim a 0)) isAgg22 sizeOf22 rfl rfl rfl rfl rfl fun ac hs => ?_
 refine bnn hs (nu64 ((limN a 0) % 2)) rfl rfl rfl rfl (bin_remN (y := 2) rfl (by decide)) fun ac hs => ?_
 refine bnn hs (.bool (decide ((limN a 0) % 2 = 1))) rfl rfl rfl rfl (bin_eqlN (y := 1)) fun ac hs => ?_
 refine wpList_nil (then_n ?_)
 refine wp_cond_split (hs.ev rfl) (fun hc => ?_) (fun hc => ?_)
 ·skip
  have hp5 := of_decide_eq_true hc
  replace hs := hs.n0 [2, 3, 4, 5] rfl rfl
  refine wp_region_lit ?_
  refine ldd hs 0 (W a) isAgg24 sizeOf24 rfl rfl rfl rfl rfl fun ac hs => ?_
  refine ldd hs 1 (W m) isAgg24 sizeOf24 rfl rfl rfl rfl rfl fun ac hs => ?_
  obtain ⟨s6, hs6, ls6⟩ : ∃ z0, (a + m) % 2 ^ 256 = z0 ∧ z0 < 2 ^ 256 := ⟨_, rfl, Nat.mod_lt _ (Nat.two_pow_pos 256)⟩
  obtain ⟨c7, hc7⟩ : ∃ z0, (a + m) / 2 ^ 256 = z0 := ⟨_, rfl⟩
  refine stp (op_call (F := 59) hs none (v := .tuple #[W s6, nu64 c7]) rfl rfl rfl rfl (call59 _) (more_at a m s6 c7 ha hm hs6 hc7) rfl fun ac w hs => ?_)
  refine mvv hs rfl rfl rfl fun ac hs => ?_
  refine stp (xtr hs none rfl rfl rfl rfl rfl fun ac hs => ?_)
  refine stp (xtr hs none rfl rfl rfl rfl rfl fun ac hs => ?_)
  refine stp (stoo hs 0 ((Wl s6)) sizeOf24 rfl rfl rfl rfl rfl rfl rfl rfl rfl rfl fun w hs => ?_)
  refine asg hs rfl rfl rfl fun ac hs => ?_
  refine wpList_nil (then_n (wp_seq ?_))
  replace hs := hs.n0 [2, 4, 5] rfl rfl
  refine wp_region_lit ?_
  refine stp (op_idxA hs none (j := 0) rfl rfl rfl rfl underlying24 sizeOf22 (by decide) (off := 0) rfl rfl fun ac hs => ?_)
  have l8 := limN_lt s6 0
  refine ldd hs 0 (.int .u64 (lim s6 0)) isAgg22 sizeOf22 rfl rfl rfl rfl rfl fun ac hs => ?_
  refine bnn hs (nu64 ((limN s6 0) / 2 ^ 1)) rfl rfl rfl rfl (bin_shrN (y := 1) rfl (show limN s6 0 < 2 ^ 64 by omega)) fun ac hs => ?_
  refine stp (op_idxA hs none (j := 1) rfl rfl rfl rfl underlying24 sizeOf22 (by decide) (off := 1) rfl rfl fun ac hs => ?_)
  have l9 := limN_lt s6 1
  refine ldd hs 0 (.int .u64 (lim s6 1)) isAgg22 sizeOf22 rfl rfl rfl rfl rfl fun ac hs => ?_
  refine bnn hs (nu64 ((limN s6 1) * 2 ^ 63 % 18446744073709551616)) rfl rfl rfl rfl (bin_shlM (y := 63) rfl rfl) fun ac hs => ?_
  refine bnn hs (.int .u64 ((((limN s6 0) / 2 ^ 1) ||| ((limN s6 1) * 2 ^ 63 % 18446744073709551616) : Nat) : Int)) rfl rfl rfl rfl (bin_orN (z := ((limN s6 0) / 2 ^ 1) ||| ((limN s6 1) * 2 ^ 63 % 18446744073709551616)) rfl (show (limN s6 0) / 2 ^ 1 < 18446744073709551616 by omega) (show (limN s6 1) * 2 ^ 63 % 18446744073709551616 < 18446744073709551616 by omega) (or_lt64 (show (limN s6 0) / 2 ^ 1 < 18446744073709551616 by omega) (show (limN s6 1) * 2 ^ 63 % 18446744073709551616 < 18446744073709551616 by omega))) fun ac hs => ?_
  refine stp (op_idxA hs none (j := 1) rfl rfl rfl rfl underlying24 sizeOf22 (by decide) (off := 1) rfl rfl fun ac hs => ?_)
  have l10 := limN_lt s6 1
  refine ldd hs 0 (.int .u64 (lim s6 1)) isAgg22 sizeOf22 rfl rfl rfl rfl rfl fun ac hs => ?_
  refine bnn hs (nu64 ((limN s6 1) / 2 ^ 1)) rfl rfl rfl rfl (bin_shrN (y := 1) rfl (show limN s6 1 < 2 ^ 64 by omega)) fun ac hs => ?_
  refine stp (op_idxA hs none (j := 2) rfl rfl rfl rfl underlying24 sizeOf22 (by decide) (off := 2) rfl rfl fun ac hs => ?_)
  have l11 := limN_lt s6 2
  refine ldd hs 0 (.int .u64 (lim s6 2)) isAgg22 sizeOf22 rfl rfl rfl rfl rfl fun ac hs => ?_
  refine bnn hs (nu64 ((limN s6 2) * 2 ^ 63 % 18446744073709551616)) rfl rfl rfl rfl (bin_shlM (y := 63) rfl rfl) fun ac hs => ?_
  refine bnn hs (.int .u64 ((((limN s6 1) / 2 ^ 1) ||| ((limN s6 2) * 2 ^ 63 % 18446744073709551616) : Nat) : Int)) rfl rfl rfl rfl (bin_orN (z := ((limN s6 1) / 2 ^ 1) ||| ((limN s6 2) * 2 ^ 63 % 18446744073709551616)) rfl (show (limN s6 1) / 2 ^ 1 < 18446744073709551616 by omega) (show (limN s6 2) * 2 ^ 63 % 18446744073709551616 < 18446744073709551616 by omega) (or_lt64 (show (limN s6 1) / 2 ^ 1 < 18446744073709551616 by omega) (show (limN s6 2) * 2 ^ 63 % 18446744073709551616 < 18446744073709551616 by omega))) fun ac hs => ?_
  refine stp (op_idxA hs none (j := 2) rfl rfl rfl rfl underlying24 sizeOf22 (by decide) (off := 2) rfl rfl fun ac hs => ?_)
  have l12 := limN_lt s6 2
  refine ldd hs 0 (.int .u64 (lim s6 2)) isAgg22 sizeOf22 rfl rfl rfl rfl rfl fun ac hs => ?_
  refine bnn hs (nu64 ((limN s6 2) / 2 ^ 1)) rfl rfl rfl rfl (bin_shrN (y := 1) rfl (show limN s6 2 < 2 ^ 64 by omega)) fun ac hs => ?_
  refine stp (op_idxA hs none (j := 3) rfl rfl rfl rfl underlying24 sizeOf22 (by decide) (off := 3) rfl rfl fun ac hs => ?_)
  have l13 := limN_lt s6 3
  refine ldd hs 0 (.int .u64 (lim s6 3)) isAgg22 sizeOf22 rfl rfl rfl rfl rfl fun ac hs => ?_
  refine bnn hs (nu64 ((limN s6 3) * 2 ^ 63 % 18446744073709551616)) rfl rfl rfl rfl (bin_shlM (y := 63) rfl rfl) fun ac hs => ?_
  refine bnn hs (.int .u64 ((((limN s6 2) / 2 ^ 1) ||| ((limN s6 3) * 2 ^ 63 % 18446744073709551616) : Nat) : Int)) rfl rfl rfl rfl (bin_orN (z := ((limN s6 2) / 2 ^ 1) ||| ((limN s6 3) * 2 ^ 63 % 18446744073709551616)) rfl (show (limN s6 2) / 2 ^ 1 < 18446744073709551616 by omega) (show (limN s6 3) * 2 ^ 63 % 18446744073709551616 < 18446744073709551616 by omega) (or_lt64 (show (limN s6 2) / 2 ^ 1 < 18446744073709551616 by omega) (show (limN s6 3) * 2 ^ 63 % 18446744073709551616 < 18446744073709551616 by omega))) fun ac hs => ?_
  refine stp (op_idxA hs none (j := 3) rfl rfl rfl rfl underlying24 sizeOf22 (by decide) (off := 3) rfl rfl fun ac hs => ?_)
  have l14 := limN_lt s6 3
  refine ldd hs 0 (.int .u64 (lim s6 3)) isAgg22 sizeOf22 rfl rfl rfl rfl rfl fun ac hs => ?_
  refine bnn hs (nu64 ((limN s6 3) / 2 ^ 1)) rfl rfl rfl rfl (bin_shrN (y := 1) rfl (show limN s6 3 < 2 ^ 64 by omega)) fun ac hs => ?_
  refine mvv hs rfl rfl rfl fun ac hs => ?_
  refine bnn hs (nu64 (c7 * 2 ^ 63 % 18446744073709551616)) rfl rfl rfl rfl (bin_shlM (y := 63) rfl rfl) fun ac hs => ?_
  refine bnn hs (.int .u64 ((((limN s6 3) / 2 ^ 1) ||| (c7 * 2 ^ 63 % 18446744073709551616) : Nat) : Int)) rfl rfl rfl rfl (bin_orN (z := ((limN s6 3) / 2 ^ 1) ||| (c7 * 2 ^ 63 % 18446744073709551616)) rfl (show (limN s6 3) / 2 ^ 1 < 18446744073709551616 by omega) (show c7 * 2 ^ 63 % 18446744073709551616 < 18446744073709551616 by omega) (or_lt64 (show (limN s6 3) / 2 ^ 1 < 18446744073709551616 by omega) (show c7 * 2 ^ 63 % 18446744073709551616 < 18446744073709551616 by omega))) fun ac hs => ?_
  refine stp (op_build hs none (qs := [(0, .int .u64 ((((limN s6 0) / 2 ^ 1) ||| ((limN s6 1) * 2 ^ 63 % 18446744073709551616) : Nat) : Int)), (1, .int .u64 ((((limN s6 1) / 2 ^ 1) ||| ((limN s6 2) * 2 ^ 63 % 18446744073709551616) : Nat) : Int)), (2, .int .u64 ((((limN s6 2) / 2 ^ 1) ||| ((limN s6 3) * 2 ^ 63 % 18446744073709551616) : Nat) : Int)), (3, .int .u64 ((((limN s6 3) / 2 ^ 1) ||| (c7 * 2 ^ 63 % 18446744073709551616) : Nat) : Int))]) (v := .agg #[.int .u64 ((((limN s6 0) / 2 ^ 1) ||| ((limN s6 1) * 2 ^ 63 % 18446744073709551616) : Nat) : Int), .int .u64 ((((limN s6 1) / 2 ^ 1) ||| ((limN s6 2) * 2 ^ 63 % 18446744073709551616) : Nat) : Int), .int .u64 ((((limN s6 2) / 2 ^ 1) ||| ((limN s6 3) * 2 ^ 63 % 18446744073709551616) : Nat) : Int), .int .u64 ((((limN s6 3) / 2 ^ 1) ||| (c7 * 2 ^ 63 % 18446744073709551616) : Nat) : Int)]) rfl rfl rfl rfl (fun _ => by kernel_rfl) rfl fun ac hs => ?_)
  refine stp (stoo hs 2 ([.int .u64 ((((limN s6 0) / 2 ^ 1) ||| ((limN s6 1) * 2 ^ 63 % 18446744073709551616) : Nat) : Int), .int .u64 ((((limN s6 1) / 2 ^ 1) ||| ((limN s6 2) * 2 ^ 63 % 18446744073709551616) : Nat) : Int), .int .u64 ((((limN s6 2) / 2 ^ 1) ||| ((limN s6 3) * 2 ^ 63 % 18446744073709551616) : Nat) : Int), .int .u64 ((((limN s6 3) / 2 ^ 1) ||| (c7 * 2 ^ 63 % 18446744073709551616) : Nat) : Int)]) sizeOf24 rfl rfl rfl rfl rfl rfl rfl rfl rfl rfl fun w hs => ?_)
  refine wpList_nil (then_n (wp_ret ?_))
  exact bodyPost_ret (res1 rfl (rv_c hs 2 (v := .agg #[.int .u64 ((((limN s6 0) / 2 ^ 1) ||| ((limN s6 1) * 2 ^ 63 % 18446744073709551616) : Nat) : Int), .int .u64 ((((limN s6 1) / 2 ^ 1) ||| ((limN s6 2) * 2 ^ 63 % 18446744073709551616) : Nat) : Int), .int .u64 ((((limN s6 2) / 2 ^ 1) ||| ((limN s6 3) * 2 ^ 63 % 18446744073709551616) : Nat) : Int), .int .u64 ((((limN s6 3) / 2 ^ 1) ||| (c7 * 2 ^ 63 % 18446744073709551616) : Nat) : Int)]) rfl rfl isAgg24 sizeOf24 rfl)) hs.defers ⟨by rw [← hf_yes hh hs6 hc7 hp5]; exact congrArg (fun l => Ending.returned (.agg (List.toArray l))) (half_limbs ls6 (by have := hc7; omega)), (hs.bel rfl)⟩
 ·skip
  have hp15 := of_decide_eq_false hc
  refine wp_skip (then_n (wp_seq ?_))
  replace hs := hs.n0 [2, 4, 5] rfl rfl
  refine wp_region_lit ?_
  refine stp (op_idxA hs none (j := 0) rfl rfl rfl rfl underlying24 sizeOf22 (by decide) (off := 0) rfl rfl fun ac hs => ?_)
  have l16 := limN_lt a 0
  refine ldd hs 0 (.int .u64 (lim a 0)) isAgg22 sizeOf22 rfl rfl rfl rfl rfl fun ac hs => ?_
  refine bnn hs (nu64 ((limN a 0) / 2 ^ 1)) rfl rfl rfl rfl (bin_shrN (y := 1) rfl (show limN a 0 < 2 ^ 64 by omega)) fun ac hs => ?_
  refine stp (op_idxA hs none (j := 1) rfl rfl rfl rfl underlying24 sizeOf22 (by decide) (off := 1) rfl rfl fun ac hs => ?_)
  have l17 := limN_lt a 1
  refine ldd hs 0 (.int .u64 (lim a 1)) isAgg22 sizeOf22 rfl rfl rfl rfl rfl fun ac hs => ?_
  refine bnn hs (nu64 ((limN a 1) * 2 ^ 63 % 18446744073709551616)) rfl rfl rfl rfl (bin_shlM (y := 63) rfl rfl) fun ac hs => ?_
  refine bnn hs (.int .u64 ((((limN a 0) / 2 ^ 1) ||| ((limN a 1) * 2 ^ 63 % 18446744073709551616) : Nat) : Int)) rfl rfl rfl rfl (bin_orN (z := ((limN a 0) / 2 ^ 1) ||| ((limN a 1) * 2 ^ 63 % 18446744073709551616)) rfl (show (limN a 0) / 2 ^ 1 < 18446744073709551616 by omega) (show (limN a 1) * 2 ^ 63 % 18446744073709551616 < 18446744073709551616 by omega) (or_lt64 (show (limN a 0) / 2 ^ 1 < 18446744073709551616 by omega) (show (limN a 1) * 2 ^ 63 % 18446744073709551616 < 18446744073709551616 by omega))) fun ac hs => ?_
  refine stp (op_idxA hs none (j := 1) rfl rfl rfl rfl underlying24 sizeOf22 (by decide) (off := 1) rfl rfl fun ac hs => ?_)
  have l18 := limN_lt a 1
  refine ldd hs 0 (.int .u64 (lim a 1)) isAgg22 sizeOf22 rfl rfl rfl rfl rfl fun ac hs => ?_
  refine bnn hs (nu64 ((limN a 1) / 2 ^ 1)) rfl rfl rfl rfl (bin_shrN (y := 1) rfl (show limN a 1 < 2 ^ 64 by omega)) fun ac hs => ?_
  refine stp (op_idxA hs none (j := 2) rfl rfl rfl rfl underlying24 sizeOf22 (by decide) (off := 2) rfl rfl fun ac hs => ?_)
  have l19 := limN_lt a 2
  refine ldd hs 0 (.int .u64 (lim a 2)) isAgg22 sizeOf22 rfl rfl rfl rfl rfl fun ac hs => ?_
  refine bnn hs (nu64 ((limN a 2) * 2 ^ 63 % 18446744073709551616)) rfl rfl rfl rfl (bin_shlM (y := 63) rfl rfl) fun ac hs => ?_
  refine bnn hs (.int .u64 ((((limN a 1) / 2 ^ 1) ||| ((limN a 2) * 2 ^ 63 % 18446744073709551616) : Nat) : Int)) rfl rfl rfl rfl (bin_orN (z := ((limN a 1) / 2 ^ 1) ||| ((limN a 2) * 2 ^ 63 % 18446744073709551616)) rfl (show (limN a 1) / 2 ^ 1 < 18446744073709551616 by omega) (show (limN a 2) * 2 ^ 63 % 18446744073709551616 < 18446744073709551616 by omega) (or_lt64 (show (limN a 1) / 2 ^ 1 < 18446744073709551616 by omega) (show (limN a 2) * 2 ^ 63 % 18446744073709551616 < 18446744073709551616 by omega))) fun ac hs => ?_
  refine stp (op_idxA hs none (j := 2) rfl rfl rfl rfl underlying24 sizeOf22 (by decide) (off := 2) rfl rfl fun ac hs => ?_)
  have l20 := limN_lt a 2
  refine ldd hs 0 (.int .u64 (lim a 2)) isAgg22 sizeOf22 rfl rfl rfl rfl rfl fun ac hs => ?_
  refine bnn hs (nu64 ((limN a 2) / 2 ^ 1)) rfl rfl rfl rfl (bin_shrN (y := 1) rfl (show limN a 2 < 2 ^ 64 by omega)) fun ac hs => ?_
  refine stp (op_idxA hs none (j := 3) rfl rfl rfl rfl underlying24 sizeOf22 (by decide) (off := 3) rfl rfl fun ac hs => ?_)
  have l21 := limN_lt a 3
  refine ldd hs 0 (.int .u64 (lim a 3)) isAgg22 sizeOf22 rfl rfl rfl rfl rfl fun ac hs => ?_
  refine bnn hs (nu64 ((limN a 3) * 2 ^ 63 % 18446744073709551616)) rfl rfl rfl rfl (bin_shlM (y := 63) rfl rfl) fun ac hs => ?_
  refine bnn hs (.int .u64 ((((limN a 2) / 2 ^ 1) ||| ((limN a 3) * 2 ^ 63 % 18446744073709551616) : Nat) : Int)) rfl rfl rfl rfl (bin_orN (z := ((limN a 2) / 2 ^ 1) ||| ((limN a 3) * 2 ^ 63 % 18446744073709551616)) rfl (show (limN a 2) / 2 ^ 1 < 18446744073709551616 by omega) (show (limN a 3) * 2 ^ 63 % 18446744073709551616 < 18446744073709551616 by omega) (or_lt64 (show (limN a 2) / 2 ^ 1 < 18446744073709551616 by omega) (show (limN a 3) * 2 ^ 63 % 18446744073709551616 < 18446744073709551616 by omega))) fun ac hs => ?_
  refine stp (op_idxA hs none (j := 3) rfl rfl rfl rfl underlying24 sizeOf22 (by decide) (off := 3) rfl rfl fun ac hs => ?_)
  have l22 := limN_lt a 3
  refine ldd hs 0 (.int .u64 (lim a 3)) isAgg22 sizeOf22 rfl rfl rfl rfl rfl fun ac hs => ?_
  refine bnn hs (nu64 ((limN a 3) / 2 ^ 1)) rfl rfl rfl rfl (bin_shrN (y := 1) rfl (show limN a 3 < 2 ^ 64 by omega)) fun ac hs => ?_
  refine mvv hs rfl rfl rfl fun ac hs => ?_
  refine bnn hs (nu64 (0 * 2 ^ 63 % 18446744073709551616)) rfl rfl rfl rfl (bin_shlM (x := 0) (y := 63) rfl rfl) fun ac hs => ?_
  refine bnn hs (.int .u64 ((((limN a 3) / 2 ^ 1) ||| (0 * 2 ^ 63 % 18446744073709551616) : Nat) : Int)) rfl rfl rfl rfl (bin_orN (z := ((limN a 3) / 2 ^ 1) ||| (0 * 2 ^ 63 % 18446744073709551616)) rfl (show (limN a 3) / 2 ^ 1 < 18446744073709551616 by omega) (show 0 * 2 ^ 63 % 18446744073709551616 < 18446744073709551616 by omega) (or_lt64 (show (limN a 3) / 2 ^ 1 < 18446744073709551616 by omega) (show 0 * 2 ^ 63 % 18446744073709551616 < 18446744073709551616 by omega))) fun ac hs => ?_
  refine stp (op_build hs none (qs := [(0, .int .u64 ((((limN a 0) / 2 ^ 1) ||| ((limN a 1) * 2 ^ 63 % 18446744073709551616) : Nat) : Int)), (1, .int .u64 ((((limN a 1) / 2 ^ 1) ||| ((limN a 2) * 2 ^ 63 % 18446744073709551616) : Nat) : Int)), (2, .int .u64 ((((limN a 2) / 2 ^ 1) ||| ((limN a 3) * 2 ^ 63 % 18446744073709551616) : Nat) : Int)), (3, .int .u64 ((((limN a 3) / 2 ^ 1) ||| (0 * 2 ^ 63 % 18446744073709551616) : Nat) : Int))]) (v := .agg #[.int .u64 ((((limN a 0) / 2 ^ 1) ||| ((limN a 1) * 2 ^ 63 % 18446744073709551616) : Nat) : Int), .int .u64 ((((limN a 1) / 2 ^ 1) ||| ((limN a 2) * 2 ^ 63 % 18446744073709551616) : Nat) : Int), .int .u64 ((((limN a 2) / 2 ^ 1) ||| ((limN a 3) * 2 ^ 63 % 18446744073709551616) : Nat) : Int), .int .u64 ((((limN a 3) / 2 ^ 1) ||| (0 * 2 ^ 63 % 18446744073709551616) : Nat) : Int)]) rfl rfl rfl rfl (fun _ => by kernel_rfl) rfl fun ac hs => ?_)
  refine stp (stoo hs 2 ([.int .u64 ((((limN a 0) / 2 ^ 1) ||| ((limN a 1) * 2 ^ 63 % 18446744073709551616) : Nat) : Int), .int .u64 ((((limN a 1) / 2 ^ 1) ||| ((limN a 2) * 2 ^ 63 % 18446744073709551616) : Nat) : Int), .int .u64 ((((limN a 2) / 2 ^ 1) ||| ((limN a 3) * 2 ^ 63 % 18446744073709551616) : Nat) : Int), .int .u64 ((((limN a 3) / 2 ^ 1) ||| (0 * 2 ^ 63 % 18446744073709551616) : Nat) : Int)]) sizeOf24 rfl rfl rfl rfl rfl rfl rfl rfl rfl rfl fun w hs => ?_)
  refine wpList_nil (then_n (wp_ret ?_))
  exact bodyPost_ret (res1 rfl (rv_c hs 2 (v := .agg #[.int .u64 ((((limN a 0) / 2 ^ 1) ||| ((limN a 1) * 2 ^ 63 % 18446744073709551616) : Nat) : Int), .int .u64 ((((limN a 1) / 2 ^ 1) ||| ((limN a 2) * 2 ^ 63 % 18446744073709551616) : Nat) : Int), .int .u64 ((((limN a 2) / 2 ^ 1) ||| ((limN a 3) * 2 ^ 63 % 18446744073709551616) : Nat) : Int), .int .u64 ((((limN a 3) / 2 ^ 1) ||| (0 * 2 ^ 63 % 18446744073709551616) : Nat) : Int)]) rfl rfl isAgg24 sizeOf24 rfl)) hs.defers ⟨by rw [← hf_no hh hp15]; exact congrArg (fun l => Ending.returned (.agg (List.toArray l))) (half_limbs ha (by omega)), (hs.bel rfl)⟩
theorem inv_c (a m r : Nat) (ha : a < m) (hm : m < 2 ^ 256) (ho : m % 2 = 1) (h1 : 1 < m) (hg : a ≠ 0 → Nat.gcd a m = 1) (hr : ∀ y, y < m → y * a % m = 1 → a ≠ 0 → y = r) (hz : a = 0 → r = 0) (w0 : World) : Calls prog 125 #[W a, W m] w0 fun e w' => e = .returned (W r) ∧ Below w0.heap.size w0 w' := by
 have la := Nat.lt_trans ha hm
 refine enter (n := 75) (args := [W a, W m]) func125 rfl rfl (Nat.le_of_ble_eq_true rfl) fun ac hs => ?_
 refine wp_seq (wp_region_lit ?_)
 refine stp (op_box hs none none (cs := (Wl a)) rfl rfl rfl rfl rfl rfl fun g1 ac w hs => ?_)
 refine stp (op_box hs none none (cs := (Wl m)) rfl rfl rfl rfl rfl rfl fun g2 ac w hs => ?_)
 refine stp (op_alloc hs none none (cs := [.int .u64 0, .int .u64 0, .int .u64 0, .int .u64 0]) rfl rfl zeroValue24 (by kernel_rfl) rfl rfl fun g3 ac w hs => ?_)
 refine wpList_nil (then_n (wp_seq (wp_seq (wp_region_lit ?_))))
 refine ldd hs 0 (W a) isAgg24 sizeOf24 rfl rfl rfl rfl rfl fun ac hs => ?_
 refine stp (op_build hs none (qs := []) (v := .agg #[.int .u64 0, .int .u64 0, .int .u64 0, .int .u64 0]) rfl rfl rfl rfl (fun _ => by kernel_rfl) rfl fun ac hs => ?_)
 refine stp (op_bin hs none (v := .bool (decide (a = 0))) rfl rfl rfl rfl (fun w => run_eqGuard_agg w .eql 24 _ _ _ _ Tryz.eqGuardType24) (eqlW a 0 la (by decide) _ rfl) rfl fun ac hs => ?_)
 refine wpList_nil (then_n ?_)
 refine wp_cond_split (hs.ev rfl) (fun hc => ?_) (fun hc => ?_)
 ·skip
  have hp4 := of_decide_eq_true hc
  refine wp_seq ?_
  replace hs := hs.n0 [2, 3, 4] rfl rfl
  refine wp_region_lit ?_
  refine ldd hs 0 (W a) isAgg24 sizeOf24 rfl rfl rfl rfl rfl fun ac hs => ?_
  refine stp (stoo hs 2 ((Wl a)) sizeOf24 rfl rfl rfl rfl rfl rfl rfl rfl rfl rfl fun w hs => ?_)
  refine wpList_nil (then_n (wp_ret (then_r ?_)))
  exact bodyPost_ret (res1 rfl (rv_c hs 2 (v := W a) rfl rfl isAgg24 sizeOf24 rfl)) hs.defers ⟨by rw [hz hp4, hp4], (hs.bel rfl)⟩
 ·skip
  have hp5 := of_decide_eq_false hc
  refine wp_skip (then_n (wp_seq ?_))
  replace hs := hs.n0 [2, 3, 4] rfl rfl
  refine region_inv [([], [4, 5]), ([], [5]), ([], [4, 5]), ([], [4, 5]), ([0, 2, 3], [5]), (rgn 0 5, [])] (fun L ac w => ∃ (g6 : Nat) (g7 : Nat), St 75 w0 [(18, L 0, W a), (19, L 1, W m), (5, L 2, ptA g6 0), (6, L 3, ptA g7 0), (2, true, ptA g1 0), (3, true, ptA g2 0), (4, true, ptA g3 0)] [(true, g1, 24, (Wl a)), (true, g2, 24, (Wl m)), (true, g3, 24, [.int .u64 0, .int .u64 0, .int .u64 0, .int .u64 0]), (L 2, g6, 24, (cond (L 4) (Wl a) [.int .u64 0, .int .u64 0, .int .u64 0, .int .u64 0])), (L 3, g7, 24, (cond (L 5) (Wl m) [.int .u64 0, .int .u64 0, .int .u64 0, .int .u64 0]))] ac w) (by kernel_rfl) (by kernel_rfl) ?_ ?_ ?_
  ·exact ⟨0, 0, hs.drew.skip.skip.skip.skip.pad.pad⟩
  ·refine ⟨?_, ?_, ?_, ?_, ?_, ?_, trivial⟩
   ·exact fun L ac w ⟨g6, g7, hs⟩ => pln (oldd hs 0 0 (W a) isAgg24 sizeOf24 rfl rfl rfl rfl rfl fun ac hs => ⟨g6, g7, hs⟩)
   ·exact fun L ac w ⟨g6, g7, hs⟩ => pln (oldd hs 1 1 (W m) isAgg24 sizeOf24 rfl rfl rfl rfl rfl fun ac hs => ⟨g6, g7, hs⟩)
   ·exact fun L ac w ⟨g6, g7, hs⟩ => pln (op_alloc hs (some 2) (some 3) (cs := [.int .u64 0, .int .u64 0, .int .u64 0, .int .u64 0]) rfl rfl zeroValue24 (by kernel_rfl) rfl rfl fun g6 ac w hs => ⟨g6, g7, hs⟩)
   ·exact fun L ac w ⟨g6, g7, hs⟩ => pln (op_alloc hs (some 3) (some 4) (cs := [.int .u64 0, .int .u64 0, .int .u64 0, .int .u64 0]) rfl rfl zeroValue24 (by kernel_rfl) rfl rfl fun g7 ac w hs => ⟨g6, g7, hs⟩)
   ·exact fun L ac w ⟨g6, g7, hs⟩ => pln (stoo hs 3 ((Wl a)) sizeOf24 rfl rfl rfl rfl rfl rfl rfl rfl rfl rfl fun w hs => ⟨g6, g7, hs⟩)
   ·exact fun L ac w ⟨g6, g7, hs⟩ => pln (stoo hs 4 ((Wl m)) sizeOf24 rfl rfl rfl rfl rfl rfl rfl rfl rfl rfl fun w hs => ⟨g6, g7, hs⟩)
  intro ac w ⟨g6, g7, hs⟩
  try dsimp only [cond_true] at hs
  refine then_n (wp_seq (wp_region_lit ?_))
  refine stp (op_build hs none (qs := [(0, .int .u64 1)]) (v := .agg #[.int .u64 1, .int .u64 0, .int .u64 0, .int .u64 0]) rfl rfl rfl rfl (fun _ => by kernel_rfl) rfl fun ac hs => ?_)
  refine stp (op_build hs none (qs := []) (v := .agg #[.int .u64 0, .int .u64 0, .int .u64 0, .int .u64 0]) rfl rfl rfl rfl (fun _ => by kernel_rfl) rfl fun ac hs => ?_)
  refine stp (op_alloc hs none none (cs := [.int .u64 0, .int .u64 0, .int .u64 0, .int .u64 0]) rfl rfl zeroValue24 (by kernel_rfl) rfl rfl fun g8 ac w hs => ?_)
  refine stp (op_alloc hs none none (cs := [.int .u64 0, .int .u64 0, .int .u64 0, .int .u64 0]) rfl rfl zeroValue24 (by kernel_rfl) rfl rfl fun g9 ac w hs => ?_)
  refine stp (stoo hs 5 ([.int .u64 1, .int .u64 0, .int .u64 0, .int .u64 0]) sizeOf24 rfl rfl rfl rfl rfl rfl rfl rfl rfl rfl fun w hs => ?_)
  refine stp (stoo hs 6 ([.int .u64 0, .int .u64 0, .int .u64 0, .int .u64 0]) sizeOf24 rfl rfl rfl rfl rfl rfl rfl rfl rfl rfl fun w hs => ?_)
  refine wpList_nil (then_n (wp_seq (wp_seq ?_)))
  replace hs := hs.n0 [3, 4, 5, 6, 7, 8] rfl rfl
  refine wp_region_lit ?_
  refine asg hs rfl rfl rfl fun ac hs => ?_
  refine wpList_nil (then_n (wp_block ?_))
  refine wp_loop_m (fun μ ac w => ∃ (k : Nat) (u : Nat) (v : Nat) (x : Nat) (y : Nat), (1100 - k) = μ ∧ (Bg a m k u v x y) ∧ St 75 w0 [(3, true, ptA g2 0), (4, true, ptA g3 0), (5, true, ptA g6 0), (6, true, ptA g7 0), (7, true, ptA g8 0), (8, true, ptA g9 0), (9, true, ni64 k)] [(true, g1, 24, (Wl a)), (true, g2, 24, (Wl m)), (true, g3, 24, [.int .u64 0, .int .u64 0, .int .u64 0, .int .u64 0]), (true, g6, 24, (Wl u)), (true, g7, 24, (Wl v)), (true, g8, 24, (Wl x)), (true, g9, 24, (Wl y))] ac w) ?_ ?_
  ·exact ⟨_, 0, a, m, 1, 0, rfl, (bg_start h1 hm ho ha (hg hp5)), (hs.re ⟨rfl, rfl, rfl, rfl, rfl, rfl, rfl, trivial⟩)⟩
  intro μ ac w ⟨k, u, v, x, y, hμ, hB, hs⟩
  have hkk := hB.le
  have lu := Nat.lt_of_le_of_lt hB.hu hm
  have lv := Nat.lt_of_le_of_lt hB.hv hm
  have lx := Nat.lt_trans hB.hx hm
  have ly := Nat.lt_trans hB.hy hm
  refine wp_seq (wp_seq (wp_region_lit ?_))
  refine mvv hs rfl rfl rfl fun ac hs => ?_
  refine bnn hs (.bool true) rfl rfl rfl rfl (fun w => dT (show k < 1100 by omega) (bin_lssN (y := 1100) w)) fun ac hs => ?_
  refine mvv hs rfl rfl rfl fun ac hs => ?_
  refine lstep (wpO_in hs rfl rfl rfl (op_load hs none 3 (v := W u) rfl rfl rfl rfl isAgg24 sizeOf24 rfl rfl fun ac hs => ?_))
  refine lstep (wpO_in hs rfl rfl rfl (op_build hs none (qs := []) (v := .agg #[.int .u64 0, .int .u64 0, .int .u64 0, .int .u64 0]) rfl rfl rfl rfl (fun _ => by kernel_rfl) rfl fun ac hs => ?_))
  refine lstep (wpO_in hs rfl rfl rfl (op_bin hs none (v := .bool (decide (u ≠ 0))) rfl rfl rfl rfl (fun w => run_eqGuard_agg w .neq 24 _ _ _ _ Tryz.eqGuardType24) (neqW u 0 lu (by decide) _ rfl) rfl fun ac hs => ?_))
  refine stp (op_pickT hs none rfl rfl rfl rfl rfl fun ac hs => ?_)
  refine wpList_nil (then_n ?_)
  refine wp_cond_split (hs.ev rfl) (fun hc => ?_) (fun hc => ?_)
  ·skip
   have hp10 := of_decide_eq_true hc
   have hu0 := hp10
   refine wp_skip (then_n (wp_seq (wp_block (wp_seq (wp_seq ?_)))))
   replace hs := hs.n0 [3, 4, 5, 6, 7, 8, 9] rfl rfl
   refine wp_region_lit ?_
   refine stp (op_idxA hs none (j := 0) rfl rfl rfl rfl underlying24 sizeOf22 (by decide) (off := 0) rfl rfl fun ac hs => ?_)
   have l11 := limN_lt u 0
   refine ldd hs 3 (.int .u64 (lim u 0)) isAgg22 sizeOf22 rfl rfl rfl rfl rfl fun ac hs => ?_
   refine bnn hs (nu64 ((limN u 0) % 2)) rfl rfl rfl rfl (bin_remN (y := 2) rfl (by decide)) fun ac hs => ?_
   refine bnn hs (.bool (decide ((limN u 0) % 2 = 0))) rfl rfl rfl rfl (bin_eqlN (y := 0)) fun ac hs => ?_
   refine wpList_nil (then_n ?_)
   refine wp_cond_split (hs.ev rfl) (fun hc => ?_) (fun hc => ?_)
   ·skip
    have hp12 := of_decide_eq_true hc
    refine wp_seq (wp_region_lit ?_)
    refine ldd hs 3 (W u) isAgg24 sizeOf24 rfl rfl rfl rfl rfl fun ac hs => ?_
    refine ldd hs 1 (W m) isAgg24 sizeOf24 rfl rfl rfl rfl rfl fun ac hs => ?_
    obtain ⟨h13, hh13, lh13⟩ : ∃ z0, hfm u m = z0 ∧ z0 < 2 ^ 256 := ⟨_, rfl, hfm_lt256 lu hm⟩
    refine stp (op_call (F := 137) hs none (v := W h13) rfl rfl rfl rfl (call137 _) (half_c u m h13 lu hm hh13) rfl fun ac w hs => ?_)
    refine stp (stoo hs 3 ((Wl h13)) sizeOf24 rfl rfl rfl rfl rfl rfl rfl rfl rfl rfl fun w hs => ?_)
    refine wpList_nil (then_n (wp_seq ?_))
    replace hs := hs.n0 [3, 4, 5, 6, 7, 8, 9] rfl rfl
    refine wp_region_lit ?_
    refine ldd hs 5 (W x) isAgg24 sizeOf24 rfl rfl rfl rfl rfl fun ac hs => ?_
    refine ldd hs 1 (W m) isAgg24 sizeOf24 rfl rfl rfl rfl rfl fun ac hs => ?_
    obtain ⟨h14, hh14, lh14⟩ : ∃ z0, hfm x m = z0 ∧ z0 < 2 ^ 256 := ⟨_, rfl, hfm_lt256 lx hm⟩
    refine stp (op_call (F := 137) hs none (v := W h14) rfl rfl rfl rfl (call137 _) (half_c x m h14 lx hm hh14) rfl fun ac w hs => ?_)
    refine stp (stoo hs 5 ((Wl h14)) sizeOf24 rfl rfl rfl rfl rfl rfl rfl rfl rfl rfl fun w hs => ?_)
    refine wpList_nil (then_n (wp_exit (then_e (blk_e (then_n (wp_region_lit ?_))))))
    refine mvv hs rfl rfl rfl fun ac hs => ?_
    refine bnn hs (ni64 (k + 1)) rfl rfl rfl rfl (bin_addN (y := 1) rfl (show k + 1 < 9223372036854775808 by omega)) fun ac hs => ?_
    refine asg hs rfl rfl rfl fun ac hs => ?_
    refine wpList_nil (then_n ?_)
    exact ⟨_, ⟨(k + 1), h13, v, h14, y, rfl, (by rw [← hh13, ← hh14]; exact bg_even ho hB hu0 (by rw [← lim_odd]; exact hp12)), (hs.re ⟨rfl, rfl, rfl, rfl, rfl, rfl, rfl, trivial⟩)⟩, (by omega)⟩
   ·skip
    have hp15 := of_decide_eq_false hc
    have hodd : u % 2 = 1 := by rw [← lim_odd]; omega
    refine wp_skip (then_n (wp_seq (wp_region_lit ?_)))
    refine ldd hs 3 (W u) isAgg24 sizeOf24 rfl rfl rfl rfl rfl fun ac hs => ?_
    refine ldd hs 4 (W v) isAgg24 sizeOf24 rfl rfl rfl rfl rfl fun ac hs => ?_
    obtain ⟨d16, hd16, ld16⟩ : ∃ z0, (u + 2 ^ 256 - v) % 2 ^ 256 = z0 ∧ z0 < 2 ^ 256 := ⟨_, rfl, Nat.mod_lt _ (Nat.two_pow_pos 256)⟩
    obtain ⟨c17, hc17⟩ : ∃ z0, bor u v = z0 := ⟨_, rfl⟩
    refine stp (op_call (F := 60) hs none (v := .tuple #[W d16, nu64 c17]) rfl rfl rfl rfl (call60 _) (less_at u v d16 c17 lu lv hd16 hc17) rfl fun ac w hs => ?_)
    refine mvv hs rfl rfl rfl fun ac hs => ?_
    refine stp (xtr hs none rfl rfl rfl rfl rfl fun ac hs => ?_)
    refine stp (xtr hs none rfl rfl rfl rfl rfl fun ac hs => ?_)
    refine stp (op_alloc hs none none (cs := [.int .u64 0, .int .u64 0, .int .u64 0, .int .u64 0]) rfl rfl zeroValue24 (by kernel_rfl) rfl rfl fun g18 ac w hs => ?_)
    refine stp (stoo hs 7 ((Wl d16)) sizeOf24 rfl rfl rfl rfl rfl rfl rfl rfl rfl rfl fun w hs => ?_)
    refine asg hs rfl rfl rfl fun ac hs => ?_
    refine wpList_nil (then_n (wp_seq (wp_seq ?_)))
    replace hs := hs.n0 [3, 4, 5, 6, 7, 8, 9, 10, 11] rfl rfl
    refine wp_region_lit ?_
    refine mvv hs rfl rfl rfl fun ac hs => ?_
    refine bnn hs (.bool (decide (c17 = 1))) rfl rfl rfl rfl (bin_eqlN (y := 1)) fun ac hs => ?_
    refine wpList_nil (then_n ?_)
    refine wp_cond_split (hs.ev rfl) (fun hc => ?_) (fun hc => ?_)
    ·skip
     have hp19 := of_decide_eq_true hc
     have hlt := (bor_one hc17).1 hp19
     refine wp_seq (wp_region_lit ?_)
     refine ldd hs 4 (W v) isAgg24 sizeOf24 rfl rfl rfl rfl rfl fun ac hs => ?_
     refine ldd hs 3 (W u) isAgg24 sizeOf24 rfl rfl rfl rfl rfl fun ac hs => ?_
     obtain ⟨d20, hd20, ld20⟩ : ∃ z0, (v + 2 ^ 256 - u) % 2 ^ 256 = z0 ∧ z0 < 2 ^ 256 := ⟨_, rfl, Nat.mod_lt _ (Nat.two_pow_pos 256)⟩
     obtain ⟨c21, hc21⟩ : ∃ z0, bor v u = z0 := ⟨_, rfl⟩
     refine stp (op_call (F := 60) hs none (v := .tuple #[W d20, nu64 c21]) rfl rfl rfl rfl (call60 _) (less_at v u d20 c21 lv lu hd20 hc21) rfl fun ac w hs => ?_)
     refine mvv hs rfl rfl rfl fun ac hs => ?_
     refine stp (xtr hs none rfl rfl rfl rfl rfl fun ac hs => ?_)
     refine stp (xtr hs none rfl rfl rfl rfl rfl fun ac hs => ?_)
     refine stp (stoo hs 7 ((Wl d20)) sizeOf24 rfl rfl rfl rfl rfl rfl rfl rfl rfl rfl fun w hs => ?_)
     refine wpList_nil (then_n (wp_seq ?_))
     replace hs := hs.n0 [3, 4, 5, 6, 7, 8, 9, 10] rfl rfl
     refine wp_region_lit ?_
     refine ldd hs 3 (W u) isAgg24 sizeOf24 rfl rfl rfl rfl rfl fun ac hs => ?_
     refine stp (stoo hs 4 ((Wl u)) sizeOf24 rfl rfl rfl rfl rfl rfl rfl rfl rfl rfl fun w hs => ?_)
     refine wpList_nil (then_n (wp_region_lit ?_))
     refine ldd hs 6 (W y) isAgg24 sizeOf24 rfl rfl rfl rfl rfl fun ac hs => ?_
     refine ldd hs 5 (W x) isAgg24 sizeOf24 rfl rfl rfl rfl rfl fun ac hs => ?_
     refine stp (stoo hs 5 ((Wl y)) sizeOf24 rfl rfl rfl rfl rfl rfl rfl rfl rfl rfl fun w hs => ?_)
     refine stp (stoo hs 6 ((Wl x)) sizeOf24 rfl rfl rfl rfl rfl rfl rfl rfl rfl rfl fun w hs => ?_)
     refine wpList_nil (then_n (wp_seq ?_))
     replace hs := hs.n0 [3, 4, 5, 6, 7, 8, 9, 10] rfl rfl
     refine wp_region_lit ?_
     refine ldd hs 7 (W d20) isAgg24 sizeOf24 rfl rfl rfl rfl rfl fun ac hs => ?_
     refine stp (stoo hs 3 ((Wl d20)) sizeOf24 rfl rfl rfl rfl rfl rfl rfl rfl rfl rfl fun w hs => ?_)
     refine wpList_nil (then_n (wp_seq (wp_region_lit ?_)))
     refine ldd hs 5 (W y) isAgg24 sizeOf24 rfl rfl rfl rfl rfl fun ac hs => ?_
     refine ldd hs 6 (W x) isAgg24 sizeOf24 rfl rfl rfl rfl rfl fun ac hs => ?_
     obtain ⟨d22, hd22, ld22⟩ : ∃ z0, (y + 2 ^ 256 - x) % 2 ^ 256 = z0 ∧ z0 < 2 ^ 256 := ⟨_, rfl, Nat.mod_lt _ (Nat.two_pow_pos 256)⟩
     obtain ⟨c23, hc23⟩ : ∃ z0, bor y x = z0 := ⟨_, rfl⟩
     refine stp (op_call (F := 60) hs none (v := .tuple #[W d22, nu64 c23]) rfl rfl rfl rfl (call60 _) (less_at y x d22 c23 ly lx hd22 hc23) rfl fun ac w hs => ?_)
     refine mvv hs rfl rfl rfl fun ac hs => ?_
     refine stp (xtr hs none rfl rfl rfl rfl rfl fun ac hs => ?_)
     refine stp (xtr hs none rfl rfl rfl rfl rfl fun ac hs => ?_)
     refine stp (op_alloc hs none none (cs := [.int .u64 0, .int .u64 0, .int .u64 0, .int .u64 0]) rfl rfl zeroValue24 (by kernel_rfl) rfl rfl fun g24 ac w hs => ?_)
     refine stp (stoo hs 8 ((Wl d22)) sizeOf24 rfl rfl rfl rfl rfl rfl rfl rfl rfl rfl fun w hs => ?_)
     refine asg hs rfl rfl rfl fun ac hs => ?_
     refine wpList_nil (then_n (wp_seq (wp_seq ?_)))
     replace hs := hs.n0 [3, 4, 5, 6, 7, 8, 9, 12, 13] rfl rfl
     refine wp_region_lit ?_
     refine mvv hs rfl rfl rfl fun ac hs => ?_
     refine bnn hs (.bool (decide (c23 = 1))) rfl rfl rfl rfl (bin_eqlN (y := 1)) fun ac hs => ?_
     refine wpList_nil (then_n ?_)
     refine wp_cond_split (hs.ev rfl) (fun hc => ?_) (fun hc => ?_)
     ·skip
      have hp25 := of_decide_eq_true hc
      refine wp_region_lit ?_
      refine ldd hs 8 (W d22) isAgg24 sizeOf24 rfl rfl rfl rfl rfl fun ac hs => ?_
      refine ldd hs 1 (W m) isAgg24 sizeOf24 rfl rfl rfl rfl rfl fun ac hs => ?_
      obtain ⟨s26, hs26, ls26⟩ : ∃ z0, (d22 + m) % 2 ^ 256 = z0 ∧ z0 < 2 ^ 256 := ⟨_, rfl, Nat.mod_lt _ (Nat.two_pow_pos 256)⟩
      obtain ⟨c27, hc27⟩ : ∃ z0, (d22 + m) / 2 ^ 256 = z0 := ⟨_, rfl⟩
      refine stp (op_call (F := 59) hs none (v := .tuple #[W s26, nu64 c27]) rfl rfl rfl rfl (call59 _) (more_at d22 m s26 c27 ld22 hm hs26 hc27) rfl fun ac w hs => ?_)
      refine mvv hs rfl rfl rfl fun ac hs => ?_
      refine stp (xtr hs none rfl rfl rfl rfl rfl fun ac hs => ?_)
      refine stp (xtr hs none rfl rfl rfl rfl rfl fun ac hs => ?_)
      refine stp (stoo hs 8 ((Wl s26)) sizeOf24 rfl rfl rfl rfl rfl rfl rfl rfl rfl rfl fun w hs => ?_)
      refine wpList_nil (then_n ?_)
      replace hs := hs.n0 [3, 4, 5, 6, 7, 8, 9, 12] rfl rfl
      refine wp_region_lit ?_
      refine ldd hs 8 (W s26) isAgg24 sizeOf24 rfl rfl rfl rfl rfl fun ac hs => ?_
      refine stp (stoo hs 5 ((Wl s26)) sizeOf24 rfl rfl rfl rfl rfl rfl rfl rfl rfl rfl fun w hs => ?_)
      refine wpList_nil (blk_n (then_n (wp_region_lit ?_)))
      refine mvv hs rfl rfl rfl fun ac hs => ?_
      refine bnn hs (ni64 (k + 1)) rfl rfl rfl rfl (bin_addN (y := 1) rfl (show k + 1 < 9223372036854775808 by omega)) fun ac hs => ?_
      refine asg hs rfl rfl rfl fun ac hs => ?_
      refine wpList_nil (then_n ?_)
      exact ⟨_, ⟨(k + 1), d20, u, s26, x, rfl, (by rw [less_val lv hd20 (by omega), less_mod2 hB.hy hB.hx hm hd22 hc23 hp25 hs26]; exact bg_lt hB hodd hlt), ((hs.takeb 7).re ⟨rfl, rfl, rfl, rfl, rfl, rfl, rfl, trivial⟩)⟩, (by omega)⟩
     ·skip
      have hp28 := of_decide_eq_false hc
      refine wp_skip (then_n (wp_region_lit ?_))
      refine ldd hs 8 (W d22) isAgg24 sizeOf24 rfl rfl rfl rfl rfl fun ac hs => ?_
      refine stp (stoo hs 5 ((Wl d22)) sizeOf24 rfl rfl rfl rfl rfl rfl rfl rfl rfl rfl fun w hs => ?_)
      refine wpList_nil (blk_n (then_n (wp_region_lit ?_)))
      refine mvv hs rfl rfl rfl fun ac hs => ?_
      refine bnn hs (ni64 (k + 1)) rfl rfl rfl rfl (bin_addN (y := 1) rfl (show k + 1 < 9223372036854775808 by omega)) fun ac hs => ?_
      refine asg hs rfl rfl rfl fun ac hs => ?_
      refine wpList_nil (then_n ?_)
      exact ⟨_, ⟨(k + 1), d20, u, d22, x, rfl, (by rw [less_val lv hd20 (by omega), less_mod hB.hy hB.hx hm hd22 hc23 hp28]; exact bg_lt hB hodd hlt), ((hs.takeb 7).re ⟨rfl, rfl, rfl, rfl, rfl, rfl, rfl, trivial⟩)⟩, (by omega)⟩
    ·skip
     have hp29 := of_decide_eq_false hc
     have hge : ¬ u < v := fun h => hp29 ((bor_one hc17).2 h)
     refine wp_skip (then_n (wp_seq (wp_region_lit ?_)))
     refine ldd hs 7 (W d16) isAgg24 sizeOf24 rfl rfl rfl rfl rfl fun ac hs => ?_
     refine stp (stoo hs 3 ((Wl d16)) sizeOf24 rfl rfl rfl rfl rfl rfl rfl rfl rfl rfl fun w hs => ?_)
     refine wpList_nil (then_n (wp_seq (wp_region_lit ?_)))
     refine ldd hs 5 (W x) isAgg24 sizeOf24 rfl rfl rfl rfl rfl fun ac hs => ?_
     refine ldd hs 6 (W y) isAgg24 sizeOf24 rfl rfl rfl rfl rfl fun ac hs => ?_
     obtain ⟨d30, hd30, ld30⟩ : ∃ z0, (x + 2 ^ 256 - y) % 2 ^ 256 = z0 ∧ z0 < 2 ^ 256 := ⟨_, rfl, Nat.mod_lt _ (Nat.two_pow_pos 256)⟩
     obtain ⟨c31, hc31⟩ : ∃ z0, bor x y = z0 := ⟨_, rfl⟩
     refine stp (op_call (F := 60) hs none (v := .tuple #[W d30, nu64 c31]) rfl rfl rfl rfl (call60 _) (less_at x y d30 c31 lx ly hd30 hc31) rfl fun ac w hs => ?_)
     refine mvv hs rfl rfl rfl fun ac hs => ?_
     refine stp (xtr hs none rfl rfl rfl rfl rfl fun ac hs => ?_)
     refine stp (xtr hs none rfl rfl rfl rfl rfl fun ac hs => ?_)
     refine stp (op_alloc hs none none (cs := [.int .u64 0, .int .u64 0, .int .u64 0, .int .u64 0]) rfl rfl zeroValue24 (by kernel_rfl) rfl rfl fun g32 ac w hs => ?_)
     refine stp (stoo hs 8 ((Wl d30)) sizeOf24 rfl rfl rfl rfl rfl rfl rfl rfl rfl rfl fun w hs => ?_)
     refine asg hs rfl rfl rfl fun ac hs => ?_
     refine wpList_nil (then_n (wp_seq (wp_seq ?_)))
     replace hs := hs.n0 [3, 4, 5, 6, 7, 8, 9, 12, 13] rfl rfl
     refine wp_region_lit ?_
     refine mvv hs rfl rfl rfl fun ac hs => ?_
     refine bnn hs (.bool (decide (c31 = 1))) rfl rfl rfl rfl (bin_eqlN (y := 1)) fun ac hs => ?_
     refine wpList_nil (then_n ?_)
     refine wp_cond_split (hs.ev rfl) (fun hc => ?_) (fun hc => ?_)
     ·skip
      have hp33 := of_decide_eq_true hc
      refine wp_region_lit ?_
      refine ldd hs 8 (W d30) isAgg24 sizeOf24 rfl rfl rfl rfl rfl fun ac hs => ?_
      refine ldd hs 1 (W m) isAgg24 sizeOf24 rfl rfl rfl rfl rfl fun ac hs => ?_
      obtain ⟨s34, hs34, ls34⟩ : ∃ z0, (d30 + m) % 2 ^ 256 = z0 ∧ z0 < 2 ^ 256 := ⟨_, rfl, Nat.mod_lt _ (Nat.two_pow_pos 256)⟩
      obtain ⟨c35, hc35⟩ : ∃ z0, (d30 + m) / 2 ^ 256 = z0 := ⟨_, rfl⟩
      refine stp (op_call (F := 59) hs none (v := .tuple #[W s34, nu64 c35]) rfl rfl rfl rfl (call59 _) (more_at d30 m s34 c35 ld30 hm hs34 hc35) rfl fun ac w hs => ?_)
      refine mvv hs rfl rfl rfl fun ac hs => ?_
      refine stp (xtr hs none rfl rfl rfl rfl rfl fun ac hs => ?_)
      refine stp (xtr hs none rfl rfl rfl rfl rfl fun ac hs => ?_)
      refine stp (stoo hs 8 ((Wl s34)) sizeOf24 rfl rfl rfl rfl rfl rfl rfl rfl rfl rfl fun w hs => ?_)
      refine wpList_nil (then_n ?_)
      replace hs := hs.n0 [3, 4, 5, 6, 7, 8, 9, 12] rfl rfl
      refine wp_region_lit ?_
      refine ldd hs 8 (W s34) isAgg24 sizeOf24 rfl rfl rfl rfl rfl fun ac hs => ?_
      refine stp (stoo hs 5 ((Wl s34)) sizeOf24 rfl rfl rfl rfl rfl rfl rfl rfl rfl rfl fun w hs => ?_)
      refine wpList_nil (blk_n (then_n (wp_region_lit ?_)))
      refine mvv hs rfl rfl rfl fun ac hs => ?_
      refine bnn hs (ni64 (k + 1)) rfl rfl rfl rfl (bin_addN (y := 1) rfl (show k + 1 < 9223372036854775808 by omega)) fun ac hs => ?_
      refine asg hs rfl rfl rfl fun ac hs => ?_
      refine wpList_nil (then_n ?_)
      exact ⟨_, ⟨(k + 1), d16, v, s34, y, rfl, (by rw [less_val lu hd16 hge, less_mod2 hB.hx hB.hy hm hd30 hc31 hp33 hs34]; exact bg_ge hB hodd hge), ((hs.takeb 7).re ⟨rfl, rfl, rfl, rfl, rfl, rfl, rfl, trivial⟩)⟩, (by omega)⟩
     ·skip
      have hp36 := of_decide_eq_false hc
      refine wp_skip (then_n (wp_region_lit ?_))
      refine ldd hs 8 (W d30) isAgg24 sizeOf24 rfl rfl rfl rfl rfl fun ac hs => ?_
      refine stp (stoo hs 5 ((Wl d30)) sizeOf24 rfl rfl rfl rfl rfl rfl rfl rfl rfl rfl fun w hs => ?_)
      refine wpList_nil (blk_n (then_n (wp_region_lit ?_)))
      refine mvv hs rfl rfl rfl fun ac hs => ?_
      refine bnn hs (ni64 (k + 1)) rfl rfl rfl rfl (bin_addN (y := 1) rfl (show k + 1 < 9223372036854775808 by omega)) fun ac hs => ?_
      refine asg hs rfl rfl rfl fun ac hs => ?_
      refine wpList_nil (then_n ?_)
      exact ⟨_, ⟨(k + 1), d16, v, d30, y, rfl, (by rw [less_val lu hd16 hge, less_mod hB.hx hB.hy hm hd30 hc31 hp36]; exact bg_ge hB hodd hge), ((hs.takeb 7).re ⟨rfl, rfl, rfl, rfl, rfl, rfl, rfl, trivial⟩)⟩, (by omega)⟩
  ·skip
   have hp37 := of_decide_eq_false hc
   obtain rfl : u = 0 := by omega
   refine wp_exit (then_e (then_e (blk_e (then_n (wp_seq ?_)))))
   replace hs := hs.n0 [4, 8] rfl rfl
   refine wp_region_lit ?_
   refine ldd hs 6 (W y) isAgg24 sizeOf24 rfl rfl rfl rfl rfl fun ac hs => ?_
   refine stp (stoo hs 2 ((Wl y)) sizeOf24 rfl rfl rfl rfl rfl rfl rfl rfl rfl rfl fun w hs => ?_)
   refine wpList_nil (then_n (wp_ret ?_))
   exact bodyPost_ret (res1 rfl (rv_c hs 2 (v := W y) rfl rfl isAgg24 sizeOf24 rfl)) hs.defers ⟨by rw [hr y (bg_end h1 hB).1 (bg_end h1 hB).2 hp5], (hs.bel rfl)⟩
theorem wread_c (b : Nat → Nat) (a : Nat) (hb : ∀ j, j < 32 → b j < 256) (hx : pr b 0 32 = a) (w0 : World) : Calls prog 64 #[At .u8 32 b] w0 fun e w' => e = .returned (W a) ∧ Below w0.heap.size w0 w' := by
 refine enter (n := 28) (args := [At .u8 32 b]) func64 rfl rfl (Nat.le_of_ble_eq_true rfl) fun ac hs => ?_
 refine wp_seq (wp_region_lit ?_)
 refine stp (op_box hs none none (cs := (tab .u8 32 b)) rfl rfl rfl rfl rfl rfl fun g1 ac w hs => ?_)
 refine stp (op_alloc hs none none (cs := [.int .u64 0, .int .u64 0, .int .u64 0, .int .u64 0]) rfl rfl zeroValue24 (by kernel_rfl) rfl rfl fun g2 ac w hs => ?_)
 refine wpList_nil (then_n (wp_seq (wp_region_lit ?_)))
 refine stp (op_alloc hs none none (cs := [.int .u64 0, .int .u64 0, .int .u64 0, .int .u64 0]) rfl rfl zeroValue24 (by kernel_rfl) rfl rfl fun g3 ac w hs => ?_)
 refine wpList_nil (then_n (wp_seq (wp_seq (wp_region_lit ?_))))
 refine ldd hs 0 (At .u8 32 b) isAgg30 sizeOf30 rfl rfl rfl rfl ldv_tab fun ac hs => ?_
 refine mvv hs rfl rfl rfl fun ac hs => ?_
 refine wpList_nil (then_n (wp_block ?_))
 refine wp_loop_m (fun μ ac w => ∃ (i : Nat) (f : Nat → Nat), (32 - i) = μ ∧ (i ≤ 32) ∧ (∀ j, j < 4 → f j = limN (pr b 0 i * 256 ^ (32 - i)) j) ∧ St 28 w0 [(1, true, ptA g1 0), (2, true, ptA g2 0), (3, true, ptA g3 0), (7, true, At .u8 32 b), (8, true, ni64 i)] [(true, g1, 30, (tab .u8 32 b)), (true, g2, 24, [.int .u64 0, .int .u64 0, .int .u64 0, .int .u64 0]), (true, g3, 24, (tab .u64 4 f))] ac w) ?_ ?_
 ·exact ⟨_, 0, (fun _ => 0), rfl, (by omega), read_start, (hs.re ⟨rfl, rfl, rfl, rfl, rfl, trivial⟩)⟩
 intro μ ac w ⟨i, f, hμ, hi, hf, hs⟩
 refine wp_seq (wp_region_lit ?_)
 refine bnn hs (.bool (decide (i < 32))) rfl rfl rfl rfl (bin_lssN (y := 32)) fun ac hs => ?_
 refine wpList_nil (then_n (wp_seq ?_))
 refine wp_cond_split (hs.ev rfl) (fun hc => ?_) (fun hc => ?_)
 ·skip
  have hp4 := of_decide_eq_true hc
  have hlt : i < 32 := of_decide_eq_true hc
  have hbi := hb i hlt
  refine wp_skip (then_n (wp_seq (wp_block (wp_seq (wp_region_lit ?_)))))
  refine mvv hs rfl rfl rfl fun ac hs => ?_
  have l5 := hb i (by omega)
  refine stp (op_index hs none (v := nu8 (b i)) rfl rfl rfl rfl (idx_at (j := i) underlying30 isAgg5 sizeOf5 (show i < 32 by omega)) rfl fun ac hs => ?_)
  refine asg hs rfl rfl rfl fun ac hs => ?_
  refine asg hs rfl rfl rfl fun ac hs => ?_
  refine wpList_nil (then_n (wp_seq (wp_region_lit ?_)))
  refine mvv hs rfl rfl rfl fun ac hs => ?_
  refine bnn hs (ni64 (31 - i)) rfl rfl rfl rfl (bin_subN (x := 31) (by omega) (show 31 - i < 9223372036854775808 by omega)) fun ac hs => ?_
  refine asg hs rfl rfl rfl fun ac hs => ?_
  refine wpList_nil (then_n ?_)
  replace hs := hs.n0 [1, 2, 3, 7, 8, 5, 6] rfl rfl
  have l6 := read_lt hf ((31 - i) / 8) (by omega)
  refine region_inv [([], [1, 2, 3, 10, 11, 12]), ([0], [2, 3, 10, 11, 12]), ([0, 1], [3, 10, 11, 12]), ([0, 1, 2], [10, 11, 12]), ([], [5, 9, 10, 11, 12]), ([4], rgn 9 4), ([], rgn 7 6), ([6], rgn 8 5), ([6, 7], rgn 9 4), (rgn 4 5, [10, 11, 12]), (rgn 0 10, [11, 12]), (rgn 0 11, [12]), (rgn 0 12, [])] (fun L ac w => St 28 w0 [(14, L 0, ni64 (31 - i)), (15, L 1, ni64 ((31 - i) / 8)), (16, L 2, .pointer (some ⟨g3, (31 - i) / 8, none⟩)), (17, L 3, nu64 (f ((31 - i) / 8))), (18, L 4, nu8 (b i)), (19, L 5, nu64 (b i)), (20, L 6, ni64 (31 - i)), (21, L 7, ni64 ((31 - i) % 8)), (22, L 8, ni64 (8 * ((31 - i) % 8))), (23, L 9, .int .u64 (((b i) * 2 ^ (8 * ((31 - i) % 8)) % 18446744073709551616 : Nat) : Int)), (24, L 10, .int .u64 (((f ((31 - i) / 8)) ||| ((b i) * 2 ^ (8 * ((31 - i) % 8)) % 18446744073709551616) : Nat) : Int)), (25, L 11, .pointer (some ⟨g3, (31 - i) / 8, none⟩)), (1, true, ptA g1 0), (2, true, ptA g2 0), (3, true, ptA g3 0), (7, true, At .u8 32 b), (8, true, ni64 i), (5, true, nu8 (b i)), (6, true, ni64 (31 - i))] [(true, g1, 30, (tab .u8 32 b)), (true, g2, 24, [.int .u64 0, .int .u64 0, .int .u64 0, .int .u64 0]), (true, g3, 24, (cond (L 12) (tab .u64 4 (upn f ((31 - i) / 8) ((f ((31 - i) / 8)) ||| ((b i) * 2 ^ (8 * ((31 - i) % 8)) % 18446744073709551616)))) (tab .u64 4 f)))] ac w) (by kernel_rfl) (by kernel_rfl) ?_ ?_ ?_
  ·exact hs.drew.skip.skip.skip.skip.skip.skip.skip.skip.skip.skip.skip.skip
  ·refine ⟨?_, ?_, ?_, ?_, ?_, ?_, ?_, ?_, ?_, ?_, ?_, ?_, ?_, trivial⟩
   ·exact fun L ac w hs => pln (omv hs 0 rfl rfl rfl fun ac hs => hs)
   ·exact fun L ac w hs => pln (obn hs 1 (ni64 ((31 - i) / 8)) rfl rfl rfl rfl (bin_quoN (y := 8) rfl (by decide) (show 31 - i < 9223372036854775808 by omega)) fun ac hs => hs)
   ·exact fun L ac w hs => pln (op_idxA hs (some 2) (j := (31 - i) / 8) rfl rfl rfl rfl underlying24 sizeOf22 (show (31 - i) / 8 < 4 by omega) (off := (31 - i) / 8) (by omega) rfl fun ac hs => hs)
   ·exact fun L ac w hs => pln (oldd hs 3 2 (nu64 (f ((31 - i) / 8))) isAgg22 sizeOf22 rfl rfl rfl rfl (tab_get (j := (31 - i) / 8) (show (31 - i) / 8 < 4 by omega)) fun ac hs => hs)
   ·exact fun L ac w hs => pln (omv hs 4 rfl rfl rfl fun ac hs => hs)
   ·exact fun L ac w hs => pln (op_convert hs (some 5) (v := nu64 (b i)) rfl rfl rfl (conv_N underlying5 underlying22 (show b i < 18446744073709551616 by omega)) rfl fun ac hs => hs)
   ·exact fun L ac w hs => pln (omv hs 6 rfl rfl rfl fun ac hs => hs)
   ·exact fun L ac w hs => pln (obn hs 7 (ni64 ((31 - i) % 8)) rfl rfl rfl rfl (bin_remN (y := 8) rfl (by decide)) fun ac hs => hs)
   ·exact fun L ac w hs => pln (obn hs 8 (ni64 (8 * ((31 - i) % 8))) rfl rfl rfl rfl (bin_mulN (x := 8) rfl (show 8 * ((31 - i) % 8) < 9223372036854775808 by omega)) fun ac hs => hs)
   ·exact fun L ac w hs => pln (obn hs 9 (.int .u64 (((b i) * 2 ^ (8 * ((31 - i) % 8)) % 18446744073709551616 : Nat) : Int)) rfl rfl rfl rfl (bin_shlM (z := (b i) * 2 ^ (8 * ((31 - i) % 8)) % 18446744073709551616) rfl rfl) fun ac hs => hs)
   ·exact fun L ac w hs => pln (obn hs 10 (.int .u64 (((f ((31 - i) / 8)) ||| ((b i) * 2 ^ (8 * ((31 - i) % 8)) % 18446744073709551616) : Nat) : Int)) rfl rfl rfl rfl (bin_orN (z := (f ((31 - i) / 8)) ||| ((b i) * 2 ^ (8 * ((31 - i) % 8)) % 18446744073709551616)) rfl (show f ((31 - i) / 8) < 18446744073709551616 by omega) (show (b i) * 2 ^ (8 * ((31 - i) % 8)) % 18446744073709551616 < 18446744073709551616 by omega) (or_lt64 (show f ((31 - i) / 8) < 18446744073709551616 by omega) (show (b i) * 2 ^ (8 * ((31 - i) % 8)) % 18446744073709551616 < 18446744073709551616 by omega))) fun ac hs => hs)
   ·exact fun L ac w hs => pln (op_idxA hs (some 11) (j := (31 - i) / 8) rfl rfl rfl rfl underlying24 sizeOf22 (show (31 - i) / 8 < 4 by omega) (off := (31 - i) / 8) (by omega) rfl fun ac hs => hs)
   ·exact fun L ac w hs => pln (stoo hs 2 ([.int .u64 (((f ((31 - i) / 8)) ||| ((b i) * 2 ^ (8 * ((31 - i) % 8)) % 18446744073709551616) : Nat) : Int)]) sizeOf22 rfl rfl rfl rfl rfl rfl rfl rfl (tab_le (j := (31 - i) / 8) (show (31 - i) / 8 < 4 by omega)) (tab_set) fun w hs => hs)
  intro ac w hs
  try dsimp only [cond_true] at hs
  refine blk_n (then_n (wp_region_lit ?_))
  refine bnn hs (ni64 (i + 1)) rfl rfl rfl rfl (bin_addN (y := 1) rfl (show i + 1 < 9223372036854775808 by omega)) fun ac hs => ?_
  refine mvv hs rfl rfl rfl fun ac hs => ?_
  refine wpList_nil (then_n ?_)
  exact ⟨_, ⟨(i + 1), (upn f ((31 - i) / 8) ((f ((31 - i) / 8)) ||| ((b i) * 2 ^ (8 * ((31 - i) % 8)) % 18446744073709551616))), rfl, hlt, (read_step hlt hbi hf), (hs.re ⟨rfl, rfl, rfl, rfl, rfl, trivial⟩)⟩, (by omega)⟩
 ·skip
  have hp7 := of_decide_eq_false hc
  obtain rfl : i = 32 := by omega
  replace hs := hs.setb 2 (cs' := Wl a) rfl (tab_Wl fun j hj => (hf j hj).trans (by rw [← hx, Nat.sub_self, Nat.pow_zero, Nat.mul_one]))
  refine wp_exit (then_e (then_e (blk_e (then_n (wp_seq (wp_region_lit ?_))))))
  refine ldd hs 2 (W a) isAgg24 sizeOf24 rfl rfl rfl rfl rfl fun ac hs => ?_
  refine stp (stoo hs 1 ((Wl a)) sizeOf24 rfl rfl rfl rfl rfl rfl rfl rfl rfl rfl fun w hs => ?_)
  refine wpList_nil (then_n (wp_ret ?_))
  exact bodyPost_ret (res1 rfl (rv_c hs 1 (v := W a) rfl rfl isAgg24 sizeOf24 rfl)) hs.defers ⟨rfl, (hs.bel rfl)⟩
theorem rread_c (b : Nat → Nat) (a : Nat) (hb : ∀ j, j < 32 → b j < 256) (hx : pr b 0 32 = a) (w0 : World) : Calls prog 78 #[At .u8 32 b] w0 fun e w' => e = .returned (W a) ∧ Below w0.heap.size w0 w' := by
 refine enter (n := 26) (args := [At .u8 32 b]) func78 rfl rfl (Nat.le_of_ble_eq_true rfl) fun ac hs => ?_
 refine wp_seq (wp_region_lit ?_)
 refine stp (op_box hs none none (cs := (tab .u8 32 b)) rfl rfl rfl rfl rfl rfl fun g1 ac w hs => ?_)
 refine stp (op_alloc hs none none (cs := [.int .u64 0, .int .u64 0, .int .u64 0, .int .u64 0]) rfl rfl zeroValue24 (by kernel_rfl) rfl rfl fun g2 ac w hs => ?_)
 refine wpList_nil (then_n (wp_seq (wp_region_lit ?_)))
 refine stp (op_build hs none (qs := []) (v := .agg #[.int .u64 0, .int .u64 0, .int .u64 0, .int .u64 0]) rfl rfl rfl rfl (fun _ => by kernel_rfl) rfl fun ac hs => ?_)
 refine stp (op_alloc hs none none (cs := [.int .u64 0, .int .u64 0, .int .u64 0, .int .u64 0]) rfl rfl zeroValue24 (by kernel_rfl) rfl rfl fun g3 ac w hs => ?_)
 refine stp (stoo hs 2 ([.int .u64 0, .int .u64 0, .int .u64 0, .int .u64 0]) sizeOf24 rfl rfl rfl rfl rfl rfl rfl rfl rfl rfl fun w hs => ?_)
 refine wpList_nil (then_n (wp_seq (wp_seq (wp_region_lit ?_))))
 refine asg hs rfl rfl rfl fun ac hs => ?_
 refine wpList_nil (then_n (wp_block ?_))
 refine wp_loop_m (fun μ ac w => ∃ (i : Nat) (f : Nat → Nat), (32 - i) = μ ∧ (i ≤ 32) ∧ (∀ j, j < 4 → f j = pr b (8 * (3 - j)) (min 8 (i - 8 * (3 - j)))) ∧ St 26 w0 [(1, true, ptA g1 0), (2, true, ptA g2 0), (3, true, ptA g3 0), (4, true, ni64 i)] [(true, g1, 30, (tab .u8 32 b)), (true, g2, 24, [.int .u64 0, .int .u64 0, .int .u64 0, .int .u64 0]), (true, g3, 24, (tab .u64 4 f))] ac w) ?_ ?_
 ·exact ⟨_, 0, (fun _ => 0), rfl, (by omega), rread_start, (hs.re ⟨rfl, rfl, rfl, rfl, trivial⟩)⟩
 intro μ ac w ⟨i, f, hμ, hi, hf, hs⟩
 refine wp_seq (wp_seq (wp_region_lit ?_))
 refine mvv hs rfl rfl rfl fun ac hs => ?_
 refine bnn hs (.bool (decide (i < 32))) rfl rfl rfl rfl (bin_lssN (y := 32)) fun ac hs => ?_
 refine wpList_nil (then_n ?_)
 refine wp_cond_split (hs.ev rfl) (fun hc => ?_) (fun hc => ?_)
 ·skip
  have hp4 := of_decide_eq_true hc
  have hlt : i < 32 := of_decide_eq_true hc
  have hbi := hb i hlt
  have hroom := rread_room hb hlt hf
  refine wp_skip (then_n (wp_seq (wp_block ?_)))
  replace hs := hs.n0 [1, 2, 3, 4] rfl rfl
  have l5 := hb i (by omega)
  refine region_inv [([], [1, 2, 14, 15]), ([0], [2, 14, 15]), ([0, 1], [14, 15]), ([], [4, 5, 6, 7, 8, 13, 14, 15]), ([3], [5, 6, 7, 8, 13, 14, 15]), ([3, 4], [6, 7, 8, 13, 14, 15]), ([3, 4, 5], [7, 8, 13, 14, 15]), (rgn 3 4, [8, 13, 14, 15]), (rgn 3 5, [13, 14, 15]), ([], rgn 10 6), ([9], rgn 11 5), ([9, 10], rgn 12 4), ([9, 10, 11], [13, 14, 15]), (rgn 3 10, [14, 15]), (rgn 0 14, [15]), (rgn 0 15, [])] (fun L ac w => St 26 w0 [(10, L 0, ni64 i), (11, L 1, ni64 (i / 8)), (12, L 2, ni64 (3 - (i / 8))), (13, L 3, ni64 i), (14, L 4, ni64 (i / 8)), (15, L 5, ni64 (3 - (i / 8))), (16, L 6, .pointer (some ⟨g3, 3 - (i / 8), none⟩)), (17, L 7, nu64 (f (3 - (i / 8)))), (18, L 8, .int .u64 (((f (3 - (i / 8))) * 256 : Nat) : Int)), (19, L 9, ni64 i), (20, L 10, .pointer (some ⟨g1, i, none⟩)), (21, L 11, nu8 (b i)), (22, L 12, nu64 (b i)), (23, L 13, .int .u64 (((f (3 - (i / 8))) * 256 + (b i) : Nat) : Int)), (24, L 14, .pointer (some ⟨g3, 3 - (i / 8), none⟩)), (1, true, ptA g1 0), (2, true, ptA g2 0), (3, true, ptA g3 0), (4, true, ni64 i)] [(true, g1, 30, (tab .u8 32 b)), (true, g2, 24, [.int .u64 0, .int .u64 0, .int .u64 0, .int .u64 0]), (true, g3, 24, (cond (L 15) (tab .u64 4 (upn f (3 - (i / 8)) ((f (3 - (i / 8))) * 256 + (b i)))) (tab .u64 4 f)))] ac w) (by kernel_rfl) (by kernel_rfl) ?_ ?_ ?_
  ·exact hs.drew.skip.skip.skip.skip.skip.skip.skip.skip.skip.skip.skip.skip.skip.skip.skip
  ·refine ⟨?_, ?_, ?_, ?_, ?_, ?_, ?_, ?_, ?_, ?_, ?_, ?_, ?_, ?_, ?_, ?_, trivial⟩
   ·exact fun L ac w hs => pln (omv hs 0 rfl rfl rfl fun ac hs => hs)
   ·exact fun L ac w hs => pln (obn hs 1 (ni64 (i / 8)) rfl rfl rfl rfl (bin_quoN (y := 8) rfl (by decide) (show i < 9223372036854775808 by omega)) fun ac hs => hs)
   ·exact fun L ac w hs => pln (obn hs 2 (ni64 (3 - (i / 8))) rfl rfl rfl rfl (bin_subN (x := 3) (by omega) (show 3 - (i / 8) < 9223372036854775808 by omega)) fun ac hs => hs)
   ·exact fun L ac w hs => pln (omv hs 3 rfl rfl rfl fun ac hs => hs)
   ·exact fun L ac w hs => pln (obn hs 4 (ni64 (i / 8)) rfl rfl rfl rfl (bin_quoN (y := 8) rfl (by decide) (show i < 9223372036854775808 by omega)) fun ac hs => hs)
   ·exact fun L ac w hs => pln (obn hs 5 (ni64 (3 - (i / 8))) rfl rfl rfl rfl (bin_subN (x := 3) (by omega) (show 3 - (i / 8) < 9223372036854775808 by omega)) fun ac hs => hs)
   ·exact fun L ac w hs => pln (op_idxA hs (some 6) (j := 3 - (i / 8)) rfl rfl rfl rfl underlying24 sizeOf22 (show 3 - (i / 8) < 4 by omega) (off := 3 - (i / 8)) (by omega) rfl fun ac hs => hs)
   ·exact fun L ac w hs => pln (oldd hs 7 2 (nu64 (f (3 - (i / 8)))) isAgg22 sizeOf22 rfl rfl rfl rfl (tab_get (j := 3 - (i / 8)) (show 3 - (i / 8) < 4 by omega)) fun ac hs => hs)
   ·exact fun L ac w hs => pln (obn hs 8 (.int .u64 (((f (3 - (i / 8))) * 256 : Nat) : Int)) rfl rfl rfl rfl (bin_mulN (y := 256) (z := (f (3 - (i / 8))) * 256) rfl (show (f (3 - (i / 8))) * 256 < 18446744073709551616 by omega)) fun ac hs => hs)
   ·exact fun L ac w hs => pln (omv hs 9 rfl rfl rfl fun ac hs => hs)
   ·exact fun L ac w hs => pln (op_idxA hs (some 10) (j := i) rfl rfl rfl rfl underlying30 sizeOf5 (show i < 32 by omega) (off := i) (by omega) rfl fun ac hs => hs)
   ·exact fun L ac w hs => pln (oldd hs 11 0 (nu8 (b i)) isAgg5 sizeOf5 rfl rfl rfl rfl (tab_get (j := i) (show i < 32 by omega)) fun ac hs => hs)
   ·exact fun L ac w hs => pln (op_convert hs (some 12) (v := nu64 (b i)) rfl rfl rfl (conv_N underlying5 underlying22 (show b i < 18446744073709551616 by omega)) rfl fun ac hs => hs)
   ·exact fun L ac w hs => pln (obn hs 13 (.int .u64 (((f (3 - (i / 8))) * 256 + (b i) : Nat) : Int)) rfl rfl rfl rfl (bin_addN (z := (f (3 - (i / 8))) * 256 + (b i)) rfl (show (f (3 - (i / 8))) * 256 + (b i) < 18446744073709551616 by omega)) fun ac hs => hs)
   ·exact fun L ac w hs => pln (op_idxA hs (some 14) (j := 3 - (i / 8)) rfl rfl rfl rfl underlying24 sizeOf22 (show 3 - (i / 8) < 4 by omega) (off := 3 - (i / 8)) (by omega) rfl fun ac hs => hs)
   ·exact fun L ac w hs => pln (stoo hs 2 ([.int .u64 (((f (3 - (i / 8))) * 256 + (b i) : Nat) : Int)]) sizeOf22 rfl rfl rfl rfl rfl rfl rfl rfl (tab_le (j := 3 - (i / 8)) (show 3 - (i / 8) < 4 by omega)) (tab_set) fun w hs => hs)
  intro ac w hs
  try dsimp only [cond_true] at hs
  refine blk_n (then_n (wp_region_lit ?_))
  refine mvv hs rfl rfl rfl fun ac hs => ?_
  refine bnn hs (ni64 (i + 1)) rfl rfl rfl rfl (bin_addN (y := 1) rfl (show i + 1 < 9223372036854775808 by omega)) fun ac hs => ?_
  refine asg hs rfl rfl rfl fun ac hs => ?_
  refine wpList_nil (then_n ?_)
  exact ⟨_, ⟨(i + 1), (upn f (3 - (i / 8)) ((f (3 - (i / 8))) * 256 + (b i))), rfl, hlt, (rread_step hlt hf), (hs.re ⟨rfl, rfl, rfl, rfl, trivial⟩)⟩, (by omega)⟩
 ·skip
  have hp6 := of_decide_eq_false hc
  obtain rfl : i = 32 := by omega
  replace hs := hs.setb 2 (cs' := Wl a) rfl (tab_Wl fun j hj => (hf j hj).trans (rread_fin hb hx hj))
  refine wp_exit (then_e (then_e (blk_e (then_n (wp_seq (wp_region_lit ?_))))))
  refine ldd hs 2 (W a) isAgg24 sizeOf24 rfl rfl rfl rfl rfl fun ac hs => ?_
  refine stp (stoo hs 1 ((Wl a)) sizeOf24 rfl rfl rfl rfl rfl rfl rfl rfl rfl rfl fun w hs => ?_)
  refine wpList_nil (then_n (wp_ret ?_))
  exact bodyPost_ret (res1 rfl (rv_c hs 1 (v := W a) rfl rfl isAgg24 sizeOf24 rfl)) hs.defers ⟨rfl, (hs.bel rfl)⟩
end Go.Proofs.YtejbajgpiecjcaaGreat

/- The contracts of wide.From, bit, twice, and the reference's Bit, twice. -/
namespace Go.Proofs.YtejbajgpiecjcaaGreat
open Go.RowKit
def bitN (a i : Nat) : Nat := a / 2 ^ i % 2
theorem bit_word (a i : Nat) : a / 2 ^ (64 * (i / 64)) % 2 ^ 64 / 2 ^ (i % 64) % 2 = bitN a i := by
  unfold bitN
  have hr : i % 64 < 64 := Nat.mod_lt _ (by omega)
  have e : (2 : Nat) ^ 64 = 2 ^ (i % 64) * (2 * 2 ^ (63 - i % 64)) := by
    rw [← Nat.pow_succ', ← Nat.pow_add]; congr 1; omega
  rw [e, Nat.mod_mul_right_div_self, Nat.mod_mod_of_dvd _ ⟨_, rfl⟩, Nat.div_div_eq_div_mul, ← Nat.pow_add, Nat.div_add_mod]
theorem bitR_any (w : World) (a i : Nat) (hi : i < 256) :
    Calls Tryz.prog 86 #[W a, .int .i64 (i : Int)] w fun e w' => e = .returned (.int .u64 (bitN a i : Int)) ∧ Below w.heap.size w w' := by
  have hb := bit_word a i
  obtain ⟨x, hx⟩ : ∃ x : Nat, a / 2 ^ (64 * (i / 64)) % 2 ^ 64 = x := ⟨_, rfl⟩
  have hx2 : x < 18446744073709551616 := by rw [← hx]; exact Nat.mod_lt _ (by decide)
  have c0 : (w.alloc (.cells (Wc a) 24)).cell? ⟨w.heap.size, i / 64, none⟩ = some (.int .u64 (x : Int)) := by
    rw [(Blk.new w _ _ _ rfl).cell, arr_get (lim a) (i / 64) (by omega), ← hx]; rfl
  rw [hx] at hb
  obtain ⟨p, hp⟩ : ∃ p : Nat, 2 ^ (i % 64) = p := ⟨_, rfl⟩
  have hp0 : 1 ≤ p := by rw [← hp]; exact Nat.two_pow_pos _
  have hp1 : p < 18446744073709551616 := by
    rw [← hp]; exact Nat.pow_lt_pow_right (n := 64) (by omega) (Nat.mod_lt _ (by omega))
  rw [hp] at hb
  have hw : IntKind.u64.wrap (2 ^ (i % 64)) = (p : Int) := by
    rw [← hp]; rw [← hp] at hp1; simp [IntKind.wrap, IntKind.bits, IntKind.signed]
    have : ((2 ^ (i % 64) : Nat) : Int) = (2 : Int) ^ (i % 64) := by simp
    rw [← this]; omega
  obtain ⟨q, hq⟩ : ∃ q : Nat, x / p = q := ⟨_, rfl⟩
  have hq1 : (x : Int) / (p : Int) = (q : Int) := by rw [← hq]; simp
  have hq2 : q ≤ 18446744073709551615 := by rw [← hq]; have := Nat.div_le_self x p; omega
  rw [hq] at hb
  have HB := Lib.hid hb
  clear hx hb hx2 hp hp1 hq
  go_enter Tryz.func86, Tryz.ntmps86
  go_wp2
  go_ret
  exact ⟨by rw [← HB.out]; rfl, bl_al (Below.refl _ _) _⟩
end Go.Proofs.YtejbajgpiecjcaaGreat

/- The contracts of twice. -/
namespace Go.Proofs.YtejbajgpiecjcaaGreat
open Go.RowKit
def twV (n b : Nat) : Value := .tuple #[W ((2 * n + b) % 2 ^ 256), .int .u64 (((2 * n + b) / 2 ^ 256 : Nat) : Int)]
end Go.Proofs.YtejbajgpiecjcaaGreat

/- The contract of wide.lessen. -/
namespace Go.Proofs.YtejbajgpiecjcaaGreat
open Go.RowKit
def lessV (r b m : Nat) : Value := .tuple #[W ((2 * r + b) % m), .bool (decide (m ≤ 2 * r + b))]
end Go.Proofs.YtejbajgpiecjcaaGreat

/- The contracts of wide.bit, lessen, Len in the generator's form. -/
namespace Go.Proofs.YtejbajgpiecjcaaGreat
open Go.RowKit
end Go.Proofs.YtejbajgpiecjcaaGreat

/- The contracts of field, of Shr and Rem. -/
namespace Go.Proofs.YtejbajgpiecjcaaGreat
open Go.RowKit _root_.Go.Proofs.Tryz
set_option maxRecDepth 10000
set_option maxHeartbeats 1000000
theorem Pov_lt : Pov < 2 ^ 256 := by decide
theorem mul64_c (x y h l : Nat) (hx : x < 18446744073709551616) (hy : y < 18446744073709551616) (hh : x * y / 18446744073709551616 = h) (hl : x * y % 18446744073709551616 = l) (w : World) :
  Calls prog 128 #[nu64 x, nu64 y] w fun e w' => e = .returned (.tuple #[nu64 h, nu64 l]) ∧ Below w.heap.size w w' :=
 (mul64_any x y hx hy w).mono fun e w' ⟨h1, h2⟩ => ⟨by rw [h1, hh, hl], by rw [h2]; exact Below.refl _ _⟩
theorem top_lt {lo f c t : Nat} (hlo : lo < 2 ^ 256) (hf : f < 2 ^ 256) (hc : (lo + f) / 2 ^ 256 = c) (ht : t < 4294968273) : t + c < 2 ^ 64 := by omega
theorem Wl_mod {n x : Nat} (h : n % 2 ^ 256 = x) : Wl x = Wl n := by
 have := W_mod n
 rw [h] at this
 have h2 := congrArg Value.cells this
 exact Array.toList_inj.2 h2 |>.trans rfl
theorem frt_of {a r e : Nat} (h : a ^ e % Pf = r) (he : e = (Pf + 1) / 4) : frt a = r := by rw [← h, he]; rfl
theorem prime_c  (w0 : World) : Calls prog 104 #[] w0 fun e w' => e = .returned (W Pf) ∧ Below w0.heap.size w0 w' := by
 refine enter (n := 2) (args := []) func104 rfl rfl (Nat.le_of_ble_eq_true rfl) fun ac hs => ?_
 refine wp_seq (wp_region_lit ?_)
 refine stp (op_alloc hs none none (cs := [.int .u64 0, .int .u64 0, .int .u64 0, .int .u64 0]) rfl rfl zeroValue24 (by kernel_rfl) rfl rfl fun g1 ac w hs => ?_)
 refine wpList_nil (then_n (wp_seq (wp_region_lit ?_)))
 refine stp (op_build hs none (qs := [(0, .int .u64 18446744069414583343), (1, .int .u64 18446744073709551615), (2, .int .u64 18446744073709551615), (3, .int .u64 18446744073709551615)]) (v := .agg #[.int .u64 18446744069414583343, .int .u64 18446744073709551615, .int .u64 18446744073709551615, .int .u64 18446744073709551615]) rfl rfl rfl rfl (fun _ => by kernel_rfl) rfl fun ac hs => ?_)
 refine stp (stoo hs 0 ([.int .u64 18446744069414583343, .int .u64 18446744073709551615, .int .u64 18446744073709551615, .int .u64 18446744073709551615]) sizeOf24 rfl rfl rfl rfl rfl rfl rfl rfl rfl rfl fun w hs => ?_)
 refine wpList_nil (then_n (wp_ret ?_))
 exact bodyPost_ret (res1 rfl (rv_c hs 0 (v := .agg #[.int .u64 18446744069414583343, .int .u64 18446744073709551615, .int .u64 18446744073709551615, .int .u64 18446744073709551615]) rfl rfl isAgg24 sizeOf24 rfl)) hs.defers ⟨by kernel_rfl, (hs.bel rfl)⟩
theorem fred_c (a x : Nat) (ha : a < 2 ^ 256) (hx : a % Pf = x) (w0 : World) : Calls prog 108 #[W a] w0 fun e w' => e = .returned (W x) ∧ Below w0.heap.size w0 w' := by
 refine enter (n := 15) (args := [W a]) func108 rfl rfl (Nat.le_of_ble_eq_true rfl) fun ac hs => ?_
 refine wp_seq (wp_region_lit ?_)
 refine stp (op_box hs none none (cs := (Wl a)) rfl rfl rfl rfl rfl rfl fun g1 ac w hs => ?_)
 refine stp (op_alloc hs none none (cs := [.int .u64 0, .int .u64 0, .int .u64 0, .int .u64 0]) rfl rfl zeroValue24 (by kernel_rfl) rfl rfl fun g2 ac w hs => ?_)
 refine wpList_nil (then_n (wp_seq (wp_seq ?_)))
 replace hs := hs.n0 [1, 2] rfl rfl
 obtain ⟨d3, hd3, ld3⟩ : ∃ z0, (a + 2 ^ 256 - Pf) % 2 ^ 256 = z0 ∧ z0 < 2 ^ 256 := ⟨_, rfl, Nat.mod_lt _ (Nat.two_pow_pos 256)⟩
 obtain ⟨c4, hc4⟩ : ∃ z0, bor a Pf = z0 := ⟨_, rfl⟩
 refine region_inv [([], [2, 3, 4, 5, 7, 8]), ([], [2, 3, 4, 5, 7, 8]), ([0, 1], [3, 4, 5, 7, 8]), ([0, 1, 2], [4, 5, 7, 8]), (rgn 0 4, [7, 8]), (rgn 0 4, [8]), ([], [7, 8]), ([0, 1, 2, 3, 4, 6], [8]), (rgn 0 8, [])] (fun L ac w => ∃ (g5 : Nat), St 15 w0 [(6, L 0, W a), (7, L 1, W Pf), (8, L 2, .tuple #[W d3, nu64 c4]), (5, L 3, .tuple #[W d3, nu64 c4]), (9, L 4, W d3), (10, L 5, nu64 c4), (3, L 6, ptA g5 0), (4, L 8, nu64 c4), (1, true, ptA g1 0), (2, true, ptA g2 0)] [(true, g1, 24, (Wl a)), (true, g2, 24, [.int .u64 0, .int .u64 0, .int .u64 0, .int .u64 0]), (L 6, g5, 24, (cond (L 7) (Wl d3) [.int .u64 0, .int .u64 0, .int .u64 0, .int .u64 0]))] ac w) (by kernel_rfl) (by kernel_rfl) ?_ ?_ ?_
 ·exact ⟨0, hs.drew.skip.skip.skip.skip.skip.skip.skip.skip.pad⟩
 ·refine ⟨?_, ?_, ?_, ?_, ?_, ?_, ?_, ?_, ?_, trivial⟩
  ·exact fun L ac w ⟨g5, hs⟩ => pln (oldd hs 0 0 (W a) isAgg24 sizeOf24 rfl rfl rfl rfl rfl fun ac hs => ⟨g5, hs⟩)
  ·exact fun L ac w ⟨g5, hs⟩ => pln (op_call (F := 104) hs (some 1) (v := W Pf) rfl rfl rfl rfl (call104 _) prime_c rfl fun ac w hs => ⟨g5, hs⟩)
  ·exact fun L ac w ⟨g5, hs⟩ => pln (op_call (F := 71) hs (some 2) (v := .tuple #[W d3, nu64 c4]) rfl rfl rfl rfl (call71 _) (fun w => sub_at w a Pf d3 c4 ha Pf_lt hd3 hc4) rfl fun ac w hs => ⟨g5, hs⟩)
  ·exact fun L ac w ⟨g5, hs⟩ => pln (omv hs 3 rfl rfl rfl fun ac hs => ⟨g5, hs⟩)
  ·exact fun L ac w ⟨g5, hs⟩ => pln (xtr hs (some 4) rfl rfl rfl rfl rfl fun ac hs => ⟨g5, hs⟩)
  ·exact fun L ac w ⟨g5, hs⟩ => pln (xtr hs (some 5) rfl rfl rfl rfl rfl fun ac hs => ⟨g5, hs⟩)
  ·exact fun L ac w ⟨g5, hs⟩ => pln (op_alloc hs (some 6) (some 2) (cs := [.int .u64 0, .int .u64 0, .int .u64 0, .int .u64 0]) rfl rfl zeroValue24 (by kernel_rfl) rfl rfl fun g5 ac w hs => ⟨g5, hs⟩)
  ·exact fun L ac w ⟨g5, hs⟩ => pln (stoo hs 2 ((Wl d3)) sizeOf24 rfl rfl rfl rfl rfl rfl rfl rfl rfl rfl fun w hs => ⟨g5, hs⟩)
  ·exact fun L ac w ⟨g5, hs⟩ => pln (oas hs 7 rfl rfl rfl fun ac hs => ⟨g5, hs⟩)
 intro ac w ⟨g5, hs⟩
 try dsimp only [cond_true] at hs
 refine then_n (wp_seq (wp_region_lit ?_))
 refine mvv hs rfl rfl rfl fun ac hs => ?_
 refine bnn hs (.bool (decide (c4 = 0))) rfl rfl rfl rfl (bin_eqlN (y := 0)) fun ac hs => ?_
 refine wpList_nil (then_n ?_)
 refine wp_cond_split (hs.ev rfl) (fun hc => ?_) (fun hc => ?_)
 ·skip
  have hp6 := of_decide_eq_true hc
  refine wp_seq (wp_region_lit ?_)
  refine ldd hs 2 (W d3) isAgg24 sizeOf24 rfl rfl rfl rfl rfl fun ac hs => ?_
  refine stp (stoo hs 1 ((Wl d3)) sizeOf24 rfl rfl rfl rfl rfl rfl rfl rfl rfl rfl fun w hs => ?_)
  refine wpList_nil (then_n (wp_ret (then_r ?_)))
  exact bodyPost_ret (res1 rfl (rv_c hs 1 (v := W d3) rfl rfl isAgg24 sizeOf24 rfl)) hs.defers ⟨by rw [← hx, ← gred_yes Pf_big Pf_lt ha hd3 hc4 hp6], (hs.bel rfl)⟩
 ·skip
  have hp7 := of_decide_eq_false hc
  refine wp_skip (then_n (wp_seq (wp_region_lit ?_)))
  refine ldd hs 0 (W a) isAgg24 sizeOf24 rfl rfl rfl rfl rfl fun ac hs => ?_
  refine stp (stoo hs 1 ((Wl a)) sizeOf24 rfl rfl rfl rfl rfl rfl rfl rfl rfl rfl fun w hs => ?_)
  refine wpList_nil (then_n (wp_ret ?_))
  exact bodyPost_ret (res1 rfl (rv_c hs 1 (v := W a) rfl rfl isAgg24 sizeOf24 rfl)) hs.defers ⟨by rw [← hx, ← gred_no hc4 hp7], (hs.bel rfl)⟩
theorem lift_c (a q x : Nat) (ha : a < 2 ^ 256) (hcc : q = 0 ∨ q = 1 ∧ a + Pov < 2 ^ 256) (hx : (a + 2 ^ 256 * q) % Pf = x) (w0 : World) : Calls prog 136 #[W a, nu64 q] w0 fun e w' => e = .returned (W x) ∧ Below w0.heap.size w0 w' := by
 refine enter (n := 19) (args := [W a, nu64 q]) func136 rfl rfl (Nat.le_of_ble_eq_true rfl) fun ac hs => ?_
 refine wp_seq (wp_region_lit ?_)
 refine stp (op_box hs none none (cs := (Wl a)) rfl rfl rfl rfl rfl rfl fun g1 ac w hs => ?_)
 refine stp (op_alloc hs none none (cs := [.int .u64 0, .int .u64 0, .int .u64 0, .int .u64 0]) rfl rfl zeroValue24 (by kernel_rfl) rfl rfl fun g2 ac w hs => ?_)
 refine wpList_nil (then_n (wp_seq (wp_seq (wp_region_lit ?_))))
 refine mvv hs rfl rfl rfl fun ac hs => ?_
 refine bnn hs (.bool (decide (q = 0))) rfl rfl rfl rfl (bin_eqlN (y := 0)) fun ac hs => ?_
 refine wpList_nil (then_n ?_)
 refine wp_cond_split (hs.ev rfl) (fun hc => ?_) (fun hc => ?_)
 ·skip
  have hp3 := of_decide_eq_true hc
  refine wp_seq (wp_region_lit ?_)
  refine ldd hs 0 (W a) isAgg24 sizeOf24 rfl rfl rfl rfl rfl fun ac hs => ?_
  obtain ⟨r4, hr4, lr4⟩ : ∃ z0, a % Pf = z0 ∧ z0 < 2 ^ 256 := ⟨_, rfl, modP_lt _⟩
  refine stp (op_call (F := 108) hs none (v := W r4) rfl rfl rfl rfl (call108 _) (fred_c a r4 ha hr4) rfl fun ac w hs => ?_)
  refine stp (stoo hs 1 ((Wl r4)) sizeOf24 rfl rfl rfl rfl rfl rfl rfl rfl rfl rfl fun w hs => ?_)
  refine wpList_nil (then_n (wp_ret (then_r ?_)))
  exact bodyPost_ret (res1 rfl (rv_c hs 1 (v := W r4) rfl rfl isAgg24 sizeOf24 rfl)) hs.defers ⟨by rw [← hx, lift_no hp3, hr4], (hs.bel rfl)⟩
 ·skip
  have hp5 := of_decide_eq_false hc
  refine wp_skip (then_n (wp_seq ?_))
  replace hs := hs.n0 [2, 4] rfl rfl
  obtain ⟨s6, hs6, ls6⟩ : ∃ z0, (a + 4294968273) % 2 ^ 256 = z0 ∧ z0 < 2 ^ 256 := ⟨_, rfl, Nat.mod_lt _ (Nat.two_pow_pos 256)⟩
  obtain ⟨c7, hc7⟩ : ∃ z0, (a + 4294968273) / 2 ^ 256 = z0 := ⟨_, rfl⟩
  refine region_inv [([], [2, 3, 4, 5, 7, 8]), ([], [2, 3, 4, 5, 7, 8]), ([0, 1], [3, 4, 5, 7, 8]), ([0, 1, 2], [4, 5, 7, 8]), (rgn 0 4, [7, 8]), (rgn 0 4, [8]), ([], [7, 8]), ([0, 1, 2, 3, 4, 6], [8]), (rgn 0 8, [])] (fun L ac w => ∃ (g8 : Nat), St 19 w0 [(12, L 0, W a), (13, L 1, W 4294968273), (14, L 2, .tuple #[W s6, nu64 c7]), (11, L 3, .tuple #[W s6, nu64 c7]), (15, L 4, W s6), (16, L 5, nu64 c7), (5, L 6, ptA g8 0), (6, L 8, nu64 c7), (2, true, ptA g1 0), (4, true, ptA g2 0)] [(true, g1, 24, (Wl a)), (true, g2, 24, [.int .u64 0, .int .u64 0, .int .u64 0, .int .u64 0]), (L 6, g8, 24, (cond (L 7) (Wl s6) [.int .u64 0, .int .u64 0, .int .u64 0, .int .u64 0]))] ac w) (by kernel_rfl) (by kernel_rfl) ?_ ?_ ?_
  ·exact ⟨0, hs.drew.skip.skip.skip.skip.skip.skip.skip.skip.pad⟩
  ·refine ⟨?_, ?_, ?_, ?_, ?_, ?_, ?_, ?_, ?_, trivial⟩
   ·exact fun L ac w ⟨g8, hs⟩ => pln (oldd hs 0 0 (W a) isAgg24 sizeOf24 rfl rfl rfl rfl rfl fun ac hs => ⟨g8, hs⟩)
   ·exact fun L ac w ⟨g8, hs⟩ => pln (op_call (F := 45) hs (some 1) (v := W 4294968273) rfl rfl rfl rfl (call45 _) (fun w => from_any w 4294968273 (by decide)) rfl fun ac w hs => ⟨g8, hs⟩)
   ·exact fun L ac w ⟨g8, hs⟩ => pln (op_call (F := 50) hs (some 2) (v := .tuple #[W s6, nu64 c7]) rfl rfl rfl rfl (call50 _) (fun w => add_at w a 4294968273 s6 c7 ha (by decide) hs6 hc7) rfl fun ac w hs => ⟨g8, hs⟩)
   ·exact fun L ac w ⟨g8, hs⟩ => pln (omv hs 3 rfl rfl rfl fun ac hs => ⟨g8, hs⟩)
   ·exact fun L ac w ⟨g8, hs⟩ => pln (xtr hs (some 4) rfl rfl rfl rfl rfl fun ac hs => ⟨g8, hs⟩)
   ·exact fun L ac w ⟨g8, hs⟩ => pln (xtr hs (some 5) rfl rfl rfl rfl rfl fun ac hs => ⟨g8, hs⟩)
   ·exact fun L ac w ⟨g8, hs⟩ => pln (op_alloc hs (some 6) (some 2) (cs := [.int .u64 0, .int .u64 0, .int .u64 0, .int .u64 0]) rfl rfl zeroValue24 (by kernel_rfl) rfl rfl fun g8 ac w hs => ⟨g8, hs⟩)
   ·exact fun L ac w ⟨g8, hs⟩ => pln (stoo hs 2 ((Wl s6)) sizeOf24 rfl rfl rfl rfl rfl rfl rfl rfl rfl rfl fun w hs => ⟨g8, hs⟩)
   ·exact fun L ac w ⟨g8, hs⟩ => pln (oas hs 7 rfl rfl rfl fun ac hs => ⟨g8, hs⟩)
  intro ac w ⟨g8, hs⟩
  try dsimp only [cond_true] at hs
  refine then_n (wp_seq (wp_region_lit ?_))
  refine ldd hs 2 (W s6) isAgg24 sizeOf24 rfl rfl rfl rfl rfl fun ac hs => ?_
  obtain ⟨r9, hr9, lr9⟩ : ∃ z0, s6 % Pf = z0 ∧ z0 < 2 ^ 256 := ⟨_, rfl, modP_lt _⟩
  refine stp (op_call (F := 108) hs none (v := W r9) rfl rfl rfl rfl (call108 _) (fred_c s6 r9 ls6 hr9) rfl fun ac w hs => ?_)
  refine stp (stoo hs 1 ((Wl r9)) sizeOf24 rfl rfl rfl rfl rfl rfl rfl rfl rfl rfl fun w hs => ?_)
  refine wpList_nil (then_n (wp_ret ?_))
  exact bodyPost_ret (res1 rfl (rv_c hs 1 (v := W r9) rfl rfl isAgg24 sizeOf24 rfl)) hs.defers ⟨by rw [← hx, lift_yes hcc hp5 hs6, hr9], (hs.bel rfl)⟩
theorem fadd_c (a b x : Nat) (ha : a < 2 ^ 256) (hb : b < 2 ^ 256) (hx : (a + b) % Pf = x) (w0 : World) : Calls prog 110 #[W a, W b] w0 fun e w' => e = .returned (W x) ∧ Below w0.heap.size w0 w' := by
 refine enter (n := 13) (args := [W a, W b]) func110 rfl rfl (Nat.le_of_ble_eq_true rfl) fun ac hs => ?_
 refine wp_seq (wp_region_lit ?_)
 refine stp (op_box hs none none (cs := (Wl a)) rfl rfl rfl rfl rfl rfl fun g1 ac w hs => ?_)
 refine stp (op_box hs none none (cs := (Wl b)) rfl rfl rfl rfl rfl rfl fun g2 ac w hs => ?_)
 refine stp (op_alloc hs none none (cs := [.int .u64 0, .int .u64 0, .int .u64 0, .int .u64 0]) rfl rfl zeroValue24 (by kernel_rfl) rfl rfl fun g3 ac w hs => ?_)
 refine wpList_nil (then_n (wp_seq ?_))
 replace hs := hs.n0 [2, 3, 4] rfl rfl
 obtain ⟨r4, hr4, lr4⟩ : ∃ z0, a % Pf = z0 ∧ z0 < 2 ^ 256 := ⟨_, rfl, modP_lt _⟩
 obtain ⟨r5, hr5, lr5⟩ : ∃ z0, b % Pf = z0 ∧ z0 < 2 ^ 256 := ⟨_, rfl, modP_lt _⟩
 obtain ⟨s6, hs6, ls6⟩ : ∃ z0, (r4 + r5) % 2 ^ 256 = z0 ∧ z0 < 2 ^ 256 := ⟨_, rfl, Nat.mod_lt _ (Nat.two_pow_pos 256)⟩
 obtain ⟨c7, hc7⟩ : ∃ z0, (r4 + r5) / 2 ^ 256 = z0 := ⟨_, rfl⟩
 obtain ⟨r8, hr8, lr8⟩ : ∃ z0, (s6 + 2 ^ 256 * c7) % Pf = z0 ∧ z0 < 2 ^ 256 := ⟨_, rfl, modP_lt _⟩
 refine region_inv [([], [1, 3, 4, 5, 6, 7, 8]), ([0], rgn 3 6), ([], rgn 3 6), ([0, 1, 2], rgn 4 5), (rgn 0 4, rgn 5 4), (rgn 0 5, [7, 8]), (rgn 0 5, [7, 8]), (rgn 0 7, [8]), (rgn 0 8, [])] (fun L ac w => St 13 w0 [(5, L 0, W a), (6, L 1, W r4), (7, L 2, W b), (8, L 3, W r5), (9, L 4, .tuple #[W s6, nu64 c7]), (10, L 5, W s6), (11, L 6, nu64 c7), (12, L 7, W r8), (2, true, ptA g1 0), (3, true, ptA g2 0), (4, true, ptA g3 0)] [(true, g1, 24, (Wl a)), (true, g2, 24, (Wl b)), (true, g3, 24, (cond (L 8) (Wl r8) [.int .u64 0, .int .u64 0, .int .u64 0, .int .u64 0]))] ac w) (by kernel_rfl) (by kernel_rfl) ?_ ?_ ?_
 ·exact hs.drew.skip.skip.skip.skip.skip.skip.skip.skip
 ·refine ⟨?_, ?_, ?_, ?_, ?_, ?_, ?_, ?_, ?_, trivial⟩
  ·exact fun L ac w hs => pln (oldd hs 0 0 (W a) isAgg24 sizeOf24 rfl rfl rfl rfl rfl fun ac hs => hs)
  ·exact fun L ac w hs => pln (op_call (F := 108) hs (some 1) (v := W r4) rfl rfl rfl rfl (call108 _) (fred_c a r4 ha hr4) rfl fun ac w hs => hs)
  ·exact fun L ac w hs => pln (oldd hs 2 1 (W b) isAgg24 sizeOf24 rfl rfl rfl rfl rfl fun ac hs => hs)
  ·exact fun L ac w hs => pln (op_call (F := 108) hs (some 3) (v := W r5) rfl rfl rfl rfl (call108 _) (fred_c b r5 hb hr5) rfl fun ac w hs => hs)
  ·exact fun L ac w hs => pln (op_call (F := 50) hs (some 4) (v := .tuple #[W s6, nu64 c7]) rfl rfl rfl rfl (call50 _) (fun w => add_at w r4 r5 s6 c7 lr4 lr5 hs6 hc7) rfl fun ac w hs => hs)
  ·exact fun L ac w hs => pln (xtr hs (some 5) rfl rfl rfl rfl rfl fun ac hs => hs)
  ·exact fun L ac w hs => pln (xtr hs (some 6) rfl rfl rfl rfl rfl fun ac hs => hs)
  ·exact fun L ac w hs => pln (op_call (F := 136) hs (some 7) (v := W r8) rfl rfl rfl rfl (call136 _) (lift_c s6 c7 r8 ls6 (by subst hr4 hr5; exact fadd_pre hs6 hc7) hr8) rfl fun ac w hs => hs)
  ·exact fun L ac w hs => pln (stoo hs 2 ((Wl r8)) sizeOf24 rfl rfl rfl rfl rfl rfl rfl rfl rfl rfl fun w hs => hs)
 intro ac w hs
 try dsimp only [cond_true] at hs
 refine then_n (wp_ret ?_)
 exact bodyPost_ret (res1 rfl (rv_c hs 2 (v := W r8) rfl rfl isAgg24 sizeOf24 rfl)) hs.defers ⟨by rw [← hx, ← hr8]; subst hr4 hr5; rw [fadd_fin hs6 hc7], (hs.bel rfl)⟩
theorem fsub_c (a b x : Nat) (ha : a < 2 ^ 256) (hb : b < 2 ^ 256) (hx : fsub a b = x) (w0 : World) : Calls prog 114 #[W a, W b] w0 fun e w' => e = .returned (W x) ∧ Below w0.heap.size w0 w' := by
 refine enter (n := 24) (args := [W a, W b]) func114 rfl rfl (Nat.le_of_ble_eq_true rfl) fun ac hs => ?_
 refine wp_seq (wp_region_lit ?_)
 refine stp (op_box hs none none (cs := (Wl a)) rfl rfl rfl rfl rfl rfl fun g1 ac w hs => ?_)
 refine stp (op_box hs none none (cs := (Wl b)) rfl rfl rfl rfl rfl rfl fun g2 ac w hs => ?_)
 refine stp (op_alloc hs none none (cs := [.int .u64 0, .int .u64 0, .int .u64 0, .int .u64 0]) rfl rfl zeroValue24 (by kernel_rfl) rfl rfl fun g3 ac w hs => ?_)
 refine wpList_nil (then_n (wp_seq ?_))
 replace hs := hs.n0 [2, 3, 4] rfl rfl
 obtain ⟨r4, hr4, lr4⟩ : ∃ z0, a % Pf = z0 ∧ z0 < 2 ^ 256 := ⟨_, rfl, modP_lt _⟩
 obtain ⟨r5, hr5, lr5⟩ : ∃ z0, b % Pf = z0 ∧ z0 < 2 ^ 256 := ⟨_, rfl, modP_lt _⟩
 obtain ⟨d6, hd6, ld6⟩ : ∃ z0, (r4 + 2 ^ 256 - r5) % 2 ^ 256 = z0 ∧ z0 < 2 ^ 256 := ⟨_, rfl, Nat.mod_lt _ (Nat.two_pow_pos 256)⟩
 obtain ⟨c7, hc7⟩ : ∃ z0, bor r4 r5 = z0 := ⟨_, rfl⟩
 refine region_inv [([], [1, 3, 4, 5, 6, 7, 9, 10]), ([0], [3, 4, 5, 6, 7, 9, 10]), ([], [3, 4, 5, 6, 7, 9, 10]), ([0, 1, 2], [4, 5, 6, 7, 9, 10]), (rgn 0 4, [5, 6, 7, 9, 10]), (rgn 0 5, [6, 7, 9, 10]), (rgn 0 6, [9, 10]), (rgn 0 6, [10]), ([], [9, 10]), ([0, 1, 2, 3, 4, 5, 6, 8], [10]), (rgn 0 10, [])] (fun L ac w => ∃ (g8 : Nat), St 24 w0 [(8, L 0, W a), (9, L 1, W r4), (10, L 2, W b), (11, L 3, W r5), (12, L 4, .tuple #[W d6, nu64 c7]), (7, L 5, .tuple #[W d6, nu64 c7]), (13, L 6, W d6), (14, L 7, nu64 c7), (5, L 8, ptA g8 0), (6, L 10, nu64 c7), (2, true, ptA g1 0), (3, true, ptA g2 0), (4, true, ptA g3 0)] [(true, g1, 24, (Wl a)), (true, g2, 24, (Wl b)), (true, g3, 24, [.int .u64 0, .int .u64 0, .int .u64 0, .int .u64 0]), (L 8, g8, 24, (cond (L 9) (Wl d6) [.int .u64 0, .int .u64 0, .int .u64 0, .int .u64 0]))] ac w) (by kernel_rfl) (by kernel_rfl) ?_ ?_ ?_
 ·exact ⟨0, hs.drew.skip.skip.skip.skip.skip.skip.skip.skip.skip.skip.pad⟩
 ·refine ⟨?_, ?_, ?_, ?_, ?_, ?_, ?_, ?_, ?_, ?_, ?_, trivial⟩
  ·exact fun L ac w ⟨g8, hs⟩ => pln (oldd hs 0 0 (W a) isAgg24 sizeOf24 rfl rfl rfl rfl rfl fun ac hs => ⟨g8, hs⟩)
  ·exact fun L ac w ⟨g8, hs⟩ => pln (op_call (F := 108) hs (some 1) (v := W r4) rfl rfl rfl rfl (call108 _) (fred_c a r4 ha hr4) rfl fun ac w hs => ⟨g8, hs⟩)
  ·exact fun L ac w ⟨g8, hs⟩ => pln (oldd hs 2 1 (W b) isAgg24 sizeOf24 rfl rfl rfl rfl rfl fun ac hs => ⟨g8, hs⟩)
  ·exact fun L ac w ⟨g8, hs⟩ => pln (op_call (F := 108) hs (some 3) (v := W r5) rfl rfl rfl rfl (call108 _) (fred_c b r5 hb hr5) rfl fun ac w hs => ⟨g8, hs⟩)
  ·exact fun L ac w ⟨g8, hs⟩ => pln (op_call (F := 71) hs (some 4) (v := .tuple #[W d6, nu64 c7]) rfl rfl rfl rfl (call71 _) (fun w => sub_at w r4 r5 d6 c7 lr4 lr5 hd6 hc7) rfl fun ac w hs => ⟨g8, hs⟩)
  ·exact fun L ac w ⟨g8, hs⟩ => pln (omv hs 5 rfl rfl rfl fun ac hs => ⟨g8, hs⟩)
  ·exact fun L ac w ⟨g8, hs⟩ => pln (xtr hs (some 6) rfl rfl rfl rfl rfl fun ac hs => ⟨g8, hs⟩)
  ·exact fun L ac w ⟨g8, hs⟩ => pln (xtr hs (some 7) rfl rfl rfl rfl rfl fun ac hs => ⟨g8, hs⟩)
  ·exact fun L ac w ⟨g8, hs⟩ => pln (op_alloc hs (some 8) (some 3) (cs := [.int .u64 0, .int .u64 0, .int .u64 0, .int .u64 0]) rfl rfl zeroValue24 (by kernel_rfl) rfl rfl fun g8 ac w hs => ⟨g8, hs⟩)
  ·exact fun L ac w ⟨g8, hs⟩ => pln (stoo hs 3 ((Wl d6)) sizeOf24 rfl rfl rfl rfl rfl rfl rfl rfl rfl rfl fun w hs => ⟨g8, hs⟩)
  ·exact fun L ac w ⟨g8, hs⟩ => pln (oas hs 9 rfl rfl rfl fun ac hs => ⟨g8, hs⟩)
 intro ac w ⟨g8, hs⟩
 try dsimp only [cond_true] at hs
 refine then_n (wp_seq (wp_seq (wp_region_lit ?_)))
 refine mvv hs rfl rfl rfl fun ac hs => ?_
 refine bnn hs (.bool (decide (c7 ≠ 0))) rfl rfl rfl rfl (bin_neqN (y := 0)) fun ac hs => ?_
 refine wpList_nil (then_n ?_)
 refine wp_cond_split (hs.ev rfl) (fun hc => ?_) (fun hc => ?_)
 ·skip
  have hp9 := of_decide_eq_true hc
  replace hs := hs.n0 [4, 5] rfl rfl
  obtain ⟨s10, hs10, ls10⟩ : ∃ z0, (d6 + Pf) % 2 ^ 256 = z0 ∧ z0 < 2 ^ 256 := ⟨_, rfl, Nat.mod_lt _ (Nat.two_pow_pos 256)⟩
  obtain ⟨c11, hc11⟩ : ∃ z0, (d6 + Pf) / 2 ^ 256 = z0 := ⟨_, rfl⟩
  refine region_inv [([], rgn 2 5), ([], rgn 2 5), ([0, 1], rgn 3 4), ([0, 1, 2], [4, 5, 6]), (rgn 0 4, [6]), (rgn 0 4, []), (rgn 0 5, [])] (fun L ac w => St 24 w0 [(18, L 0, W d6), (19, L 1, W Pf), (20, L 2, .tuple #[W s10, nu64 c11]), (17, L 3, .tuple #[W s10, nu64 c11]), (21, L 4, W s10), (22, L 5, nu64 c11), (4, true, ptA g3 0), (5, true, ptA g8 0)] [(true, g1, 24, (Wl a)), (true, g2, 24, (Wl b)), (true, g3, 24, [.int .u64 0, .int .u64 0, .int .u64 0, .int .u64 0]), (true, g8, 24, (cond (L 6) (Wl s10) (Wl d6)))] ac w) (by kernel_rfl) (by kernel_rfl) ?_ ?_ ?_
  ·exact hs.drew.skip.skip.skip.skip.skip.skip
  ·refine ⟨?_, ?_, ?_, ?_, ?_, ?_, ?_, trivial⟩
   ·exact fun L ac w hs => pln (oldd hs 0 3 (W d6) isAgg24 sizeOf24 rfl rfl rfl rfl rfl fun ac hs => hs)
   ·exact fun L ac w hs => pln (op_call (F := 104) hs (some 1) (v := W Pf) rfl rfl rfl rfl (call104 _) prime_c rfl fun ac w hs => hs)
   ·exact fun L ac w hs => pln (op_call (F := 50) hs (some 2) (v := .tuple #[W s10, nu64 c11]) rfl rfl rfl rfl (call50 _) (fun w => add_at w d6 Pf s10 c11 ld6 Pf_lt hs10 hc11) rfl fun ac w hs => hs)
   ·exact fun L ac w hs => pln (omv hs 3 rfl rfl rfl fun ac hs => hs)
   ·exact fun L ac w hs => pln (xtr hs (some 4) rfl rfl rfl rfl rfl fun ac hs => hs)
   ·exact fun L ac w hs => pln (xtr hs (some 5) rfl rfl rfl rfl rfl fun ac hs => hs)
   ·exact fun L ac w hs => pln (stoo hs 3 ((Wl s10)) sizeOf24 rfl rfl rfl rfl rfl rfl rfl rfl rfl rfl fun w hs => hs)
  intro ac w hs
  try dsimp only [cond_true] at hs
  refine then_n (wp_seq (wp_region_lit ?_))
  refine ldd hs 3 (W s10) isAgg24 sizeOf24 rfl rfl rfl rfl rfl fun ac hs => ?_
  refine stp (stoo hs 2 ((Wl s10)) sizeOf24 rfl rfl rfl rfl rfl rfl rfl rfl rfl rfl fun w hs => ?_)
  refine wpList_nil (then_n (wp_ret ?_))
  exact bodyPost_ret (res1 rfl (rv_c hs 2 (v := W s10) rfl rfl isAgg24 sizeOf24 rfl)) hs.defers ⟨by subst hr4 hr5; rw [← hx, ← fsub_yes hd6 hc7 ((bor01 hc7).1 hp9) hs10], (hs.bel rfl)⟩
 ·skip
  have hp12 := of_decide_eq_false hc
  refine wp_skip (then_n (wp_seq (wp_region_lit ?_)))
  refine ldd hs 3 (W d6) isAgg24 sizeOf24 rfl rfl rfl rfl rfl fun ac hs => ?_
  refine stp (stoo hs 2 ((Wl d6)) sizeOf24 rfl rfl rfl rfl rfl rfl rfl rfl rfl rfl fun w hs => ?_)
  refine wpList_nil (then_n (wp_ret ?_))
  exact bodyPost_ret (res1 rfl (rv_c hs 2 (v := W d6) rfl rfl isAgg24 sizeOf24 rfl)) hs.defers ⟨by subst hr4 hr5; rw [← hx, ← fsub_no hd6 hc7 (fun h => hp12 ((bor01 hc7).2 h))], (hs.bel rfl)⟩
theorem scaled_c (a x q : Nat) (ha : a < 2 ^ 256) (hx' : a * Pov % 2 ^ 256 = x) (hq : a * Pov / 2 ^ 256 = q) (w0 : World) : Calls prog 135 #[W a] w0 fun e w' => e = .returned (.tuple #[W x, nu64 q]) ∧ Below w0.heap.size w0 w' := by
 refine enter (n := 34) (args := [W a]) func135 rfl rfl (Nat.le_of_ble_eq_true rfl) fun ac hs => ?_
 refine wp_seq (wp_region_lit ?_)
 refine stp (op_box hs none none (cs := (Wl a)) rfl rfl rfl rfl rfl rfl fun g1 ac w hs => ?_)
 refine stp (op_alloc hs none none (cs := [.int .u64 0, .int .u64 0, .int .u64 0, .int .u64 0]) rfl rfl zeroValue24 (by kernel_rfl) rfl rfl fun g2 ac w hs => ?_)
 refine asg hs rfl rfl rfl fun ac hs => ?_
 refine wpList_nil (then_n (wp_seq (wp_region_lit ?_)))
 refine stp (op_alloc hs none none (cs := [.int .u64 0, .int .u64 0, .int .u64 0, .int .u64 0]) rfl rfl zeroValue24 (by kernel_rfl) rfl rfl fun g3 ac w hs => ?_)
 refine wpList_nil (then_n (wp_seq (wp_region_lit ?_)))
 refine asg hs rfl rfl rfl fun ac hs => ?_
 refine wpList_nil (then_n (wp_seq (wp_seq (wp_region_lit ?_))))
 refine mvv hs rfl rfl rfl fun ac hs => ?_
 refine wpList_nil (then_n (wp_block ?_))
 refine wp_loop_m (fun μ ac w => ∃ (k : Nat) (v : Nat) (f : Nat → Nat), (4 - k) = μ ∧ (k ≤ 4) ∧ (v = scC a k) ∧ (∀ j, j < k → f j = limN (a * Pov) j) ∧ St 34 w0 [(1, true, ptA g1 0), (2, true, ptA g2 0), (4, true, ptA g3 0), (5, true, nu64 v), (10, true, ni64 k)] [(true, g1, 24, (Wl a)), (true, g2, 24, [.int .u64 0, .int .u64 0, .int .u64 0, .int .u64 0]), (true, g3, 24, (tab .u64 4 f))] ac w) ?_ ?_
 ·exact ⟨_, 0, 0, (fun _ => 0), rfl, (by omega), (scC_zero a).symm, (fun j hj => by omega), (hs.re ⟨rfl, rfl, rfl, rfl, rfl, trivial⟩)⟩
 intro μ ac w ⟨k, v, f, hμ, hk, hv, hf, hs⟩
 have hvl : v < 4294968273 := by rw [hv]; exact scC_lt a k
 refine wp_seq (wp_region_lit ?_)
 refine bnn hs (.bool (decide (k < 4))) rfl rfl rfl rfl (bin_lssN (y := 4)) fun ac hs => ?_
 refine wpList_nil (then_n (wp_seq ?_))
 refine wp_cond_split (hs.ev rfl) (fun hc => ?_) (fun hc => ?_)
 ·skip
  have hp4 := of_decide_eq_true hc
  have hlt : k < 4 := of_decide_eq_true hc
  have hml := Nat.mul_lt_mul_of_pos_right (limN_lt a k) (show 0 < 4294968273 by decide)
  refine wp_skip (then_n (wp_seq (wp_block (wp_seq (wp_region_lit ?_)))))
  refine mvv hs rfl rfl rfl fun ac hs => ?_
  refine asg hs rfl rfl rfl fun ac hs => ?_
  refine wpList_nil (then_n (wp_seq (wp_region_lit ?_)))
  refine mvv hs rfl rfl rfl fun ac hs => ?_
  refine stp (op_idxA hs none (j := k) rfl rfl rfl rfl underlying24 sizeOf22 (show k < 4 by omega) (off := k) (by omega) rfl fun ac hs => ?_)
  have l5 := limN_lt a k
  refine ldd hs 0 (nu64 (limN a k)) isAgg22 sizeOf22 rfl rfl rfl rfl (Wl_get (j := k) (show k < 4 by omega)) fun ac hs => ?_
  obtain ⟨mh6, hmh6⟩ : ∃ z0, (limN a k) * 4294968273 / 18446744073709551616 = z0 := ⟨_, rfl⟩
  obtain ⟨ml7, hml7⟩ : ∃ z0, (limN a k) * 4294968273 % 18446744073709551616 = z0 := ⟨_, rfl⟩
  have lml7 : ml7 < 18446744073709551616 := by rw [← hml7]; exact Nat.mod_lt _ (by decide)
  refine stp (op_call (F := 128) hs none (v := .tuple #[nu64 mh6, nu64 ml7]) rfl rfl rfl rfl (call128 _) (mul64_c (limN a k) 4294968273 mh6 ml7 (show limN a k < 18446744073709551616 by omega) (by decide) hmh6 hml7) rfl fun ac w hs => ?_)
  refine mvv hs rfl rfl rfl fun ac hs => ?_
  refine stp (xtr hs none rfl rfl rfl rfl rfl fun ac hs => ?_)
  refine stp (xtr hs none rfl rfl rfl rfl rfl fun ac hs => ?_)
  refine asg hs rfl rfl rfl fun ac hs => ?_
  refine asg hs rfl rfl rfl fun ac hs => ?_
  refine wpList_nil (then_n (wp_seq ?_))
  replace hs := hs.n0 [1, 2, 4, 5, 10, 6, 7, 8] rfl rfl
  refine wp_region_lit ?_
  refine asg hs rfl rfl rfl fun ac hs => ?_
  refine wpList_nil (then_n (wp_seq (wp_region_lit ?_)))
  refine mvv hs rfl rfl rfl fun ac hs => ?_
  refine mvv hs rfl rfl rfl fun ac hs => ?_
  refine mvv hs rfl rfl rfl fun ac hs => ?_
  obtain ⟨as8, has8⟩ : ∃ z0, (ml7 + v) % 18446744073709551616 = z0 := ⟨_, rfl⟩
  obtain ⟨ac9, hac9⟩ : ∃ z0, (ml7 + v) / 18446744073709551616 = z0 := ⟨_, rfl⟩
  refine stp (op_ext (F := 93) hs none rfl rfl rfl rfl (addc_at ml7 v as8 ac9 has8 hac9) rfl fun ac hs => ?_)
  refine mvv hs rfl rfl rfl fun ac hs => ?_
  refine stp (xtr hs none rfl rfl rfl rfl rfl fun ac hs => ?_)
  refine stp (xtr hs none rfl rfl rfl rfl rfl fun ac hs => ?_)
  refine stp (op_idxA hs none (j := k) rfl rfl rfl rfl underlying24 sizeOf22 (show k < 4 by omega) (off := k) (by omega) rfl fun ac hs => ?_)
  refine stp (stoo hs 2 ([nu64 as8]) sizeOf22 rfl rfl rfl rfl rfl rfl rfl rfl (tab_le (j := k) (show k < 4 by omega)) (tab_set) fun w hs => ?_)
  refine asg hs rfl rfl rfl fun ac hs => ?_
  refine wpList_nil (then_n ?_)
  replace hs := hs.n0 [1, 2, 4, 5, 10, 7, 9] rfl rfl
  refine wp_region_lit ?_
  refine mvv hs rfl rfl rfl fun ac hs => ?_
  refine mvv hs rfl rfl rfl fun ac hs => ?_
  refine bnn hs (nu64 (mh6 + ac9)) rfl rfl rfl rfl (bin_addN rfl (show mh6 + ac9 < 18446744073709551616 by omega)) fun ac hs => ?_
  refine asg hs rfl rfl rfl fun ac hs => ?_
  refine wpList_nil (blk_n (then_n (wp_region_lit ?_)))
  refine bnn hs (ni64 (k + 1)) rfl rfl rfl rfl (bin_addN (y := 1) rfl (show k + 1 < 9223372036854775808 by omega)) fun ac hs => ?_
  refine mvv hs rfl rfl rfl fun ac hs => ?_
  refine wpList_nil (then_n ?_)
  exact ⟨_, ⟨(k + 1), (mh6 + ac9), (upn f k as8), rfl, hlt, (scC_step hmh6 hml7 hv has8 hac9), (sc_f hlt (scC_dig hml7 hv has8) hf), (hs.re ⟨rfl, rfl, rfl, rfl, rfl, trivial⟩)⟩, (by omega)⟩
 ·skip
  have hp10 := of_decide_eq_false hc
  obtain rfl : k = 4 := by omega
  replace hs := hs.setb 2 (cs' := Wl x) rfl (by rw [tab_Wl hf]; exact (Wl_mod hx').symm)
  refine wp_exit (then_e (then_e (blk_e (then_n (wp_seq (wp_region_lit ?_))))))
  refine ldd hs 2 (W x) isAgg24 sizeOf24 rfl rfl rfl rfl rfl fun ac hs => ?_
  refine mvv hs rfl rfl rfl fun ac hs => ?_
  refine stp (stoo hs 1 ((Wl x)) sizeOf24 rfl rfl rfl rfl rfl rfl rfl rfl rfl rfl fun w hs => ?_)
  refine asg hs rfl rfl rfl fun ac hs => ?_
  refine wpList_nil (then_n (wp_ret ?_))
  exact bodyPost_ret (res2 rfl (rv_c hs 1 (v := W x) rfl rfl isAgg24 sizeOf24 rfl) (rv_t hs rfl)) hs.defers ⟨by rw [hv, scC_fin ha hq], (hs.bel rfl)⟩
theorem fmul_c (a b x : Nat) (ha : a < 2 ^ 256) (hb : b < 2 ^ 256) (hx : a * b % Pf = x) (w0 : World) : Calls prog 107 #[W a, W b] w0 fun e w' => e = .returned (W x) ∧ Below w0.heap.size w0 w' := by
 refine enter (n := 44) (args := [W a, W b]) func107 rfl rfl (Nat.le_of_ble_eq_true rfl) fun ac hs => ?_
 refine wp_seq (wp_region_lit ?_)
 refine stp (op_box hs none none (cs := (Wl a)) rfl rfl rfl rfl rfl rfl fun g1 ac w hs => ?_)
 refine stp (op_box hs none none (cs := (Wl b)) rfl rfl rfl rfl rfl rfl fun g2 ac w hs => ?_)
 refine stp (op_alloc hs none none (cs := [.int .u64 0, .int .u64 0, .int .u64 0, .int .u64 0]) rfl rfl zeroValue24 (by kernel_rfl) rfl rfl fun g3 ac w hs => ?_)
 refine wpList_nil (then_n (wp_seq (wp_region_lit ?_)))
 refine ldd hs 0 (W a) isAgg24 sizeOf24 rfl rfl rfl rfl rfl fun ac hs => ?_
 refine ldd hs 1 (W b) isAgg24 sizeOf24 rfl rfl rfl rfl rfl fun ac hs => ?_
 obtain ⟨lo4, hlo4, llo4⟩ : ∃ z0, a * b % 2 ^ 256 = z0 ∧ z0 < 2 ^ 256 := ⟨_, rfl, Nat.mod_lt _ (Nat.two_pow_pos 256)⟩
 obtain ⟨hi5, hhi5, lhi5⟩ : ∃ z0, a * b / 2 ^ 256 = z0 ∧ z0 < 2 ^ 256 := ⟨_, rfl, mul_hi ha hb⟩
 refine stp (op_call (F := 52) hs none (v := .tuple #[W lo4, W hi5]) rfl rfl rfl rfl (call52 _) (fun w => wmul_at w a b lo4 hi5 ha hb hlo4 hhi5) rfl fun ac w hs => ?_)
 refine mvv hs rfl rfl rfl fun ac hs => ?_
 refine stp (xtr hs none rfl rfl rfl rfl rfl fun ac hs => ?_)
 refine stp (xtr hs none rfl rfl rfl rfl rfl fun ac hs => ?_)
 refine stp (op_alloc hs none none (cs := [.int .u64 0, .int .u64 0, .int .u64 0, .int .u64 0]) rfl rfl zeroValue24 (by kernel_rfl) rfl rfl fun g6 ac w hs => ?_)
 refine stp (op_alloc hs none none (cs := [.int .u64 0, .int .u64 0, .int .u64 0, .int .u64 0]) rfl rfl zeroValue24 (by kernel_rfl) rfl rfl fun g7 ac w hs => ?_)
 refine stp (stoo hs 3 ((Wl lo4)) sizeOf24 rfl rfl rfl rfl rfl rfl rfl rfl rfl rfl fun w hs => ?_)
 refine stp (stoo hs 4 ((Wl hi5)) sizeOf24 rfl rfl rfl rfl rfl rfl rfl rfl rfl rfl fun w hs => ?_)
 refine wpList_nil (then_n (wp_seq ?_))
 replace hs := hs.n0 [4, 5, 6] rfl rfl
 refine wp_region_lit ?_
 refine ldd hs 4 (W hi5) isAgg24 sizeOf24 rfl rfl rfl rfl rfl fun ac hs => ?_
 obtain ⟨f8, hf8, lf8⟩ : ∃ z0, hi5 * Pov % 2 ^ 256 = z0 ∧ z0 < 2 ^ 256 := ⟨_, rfl, Nat.mod_lt _ (Nat.two_pow_pos 256)⟩
 obtain ⟨t9, ht9⟩ : ∃ z0, hi5 * Pov / 2 ^ 256 = z0 := ⟨_, rfl⟩
 have lt9 := fold_top lhi5 ht9
 refine stp (op_call (F := 135) hs none (v := .tuple #[W f8, nu64 t9]) rfl rfl rfl rfl (call135 _) (scaled_c hi5 f8 t9 lhi5 hf8 ht9) rfl fun ac w hs => ?_)
 refine mvv hs rfl rfl rfl fun ac hs => ?_
 refine stp (xtr hs none rfl rfl rfl rfl rfl fun ac hs => ?_)
 refine stp (xtr hs none rfl rfl rfl rfl rfl fun ac hs => ?_)
 refine stp (op_alloc hs none none (cs := [.int .u64 0, .int .u64 0, .int .u64 0, .int .u64 0]) rfl rfl zeroValue24 (by kernel_rfl) rfl rfl fun g10 ac w hs => ?_)
 refine stp (stoo hs 5 ((Wl f8)) sizeOf24 rfl rfl rfl rfl rfl rfl rfl rfl rfl rfl fun w hs => ?_)
 refine asg hs rfl rfl rfl fun ac hs => ?_
 refine wpList_nil (then_n (wp_seq ?_))
 replace hs := hs.n0 [4, 5, 7, 8] rfl rfl
 refine wp_region_lit ?_
 refine ldd hs 3 (W lo4) isAgg24 sizeOf24 rfl rfl rfl rfl rfl fun ac hs => ?_
 refine ldd hs 5 (W f8) isAgg24 sizeOf24 rfl rfl rfl rfl rfl fun ac hs => ?_
 obtain ⟨s11, hs11, ls11⟩ : ∃ z0, (lo4 + f8) % 2 ^ 256 = z0 ∧ z0 < 2 ^ 256 := ⟨_, rfl, Nat.mod_lt _ (Nat.two_pow_pos 256)⟩
 obtain ⟨c12, hc12⟩ : ∃ z0, (lo4 + f8) / 2 ^ 256 = z0 := ⟨_, rfl⟩
 refine stp (op_call (F := 50) hs none (v := .tuple #[W s11, nu64 c12]) rfl rfl rfl rfl (call50 _) (fun w => add_at w lo4 f8 s11 c12 llo4 lf8 hs11 hc12) rfl fun ac w hs => ?_)
 refine mvv hs rfl rfl rfl fun ac hs => ?_
 refine stp (xtr hs none rfl rfl rfl rfl rfl fun ac hs => ?_)
 refine stp (xtr hs none rfl rfl rfl rfl rfl fun ac hs => ?_)
 refine stp (op_alloc hs none none (cs := [.int .u64 0, .int .u64 0, .int .u64 0, .int .u64 0]) rfl rfl zeroValue24 (by kernel_rfl) rfl rfl fun g13 ac w hs => ?_)
 refine stp (stoo hs 6 ((Wl s11)) sizeOf24 rfl rfl rfl rfl rfl rfl rfl rfl rfl rfl fun w hs => ?_)
 refine asg hs rfl rfl rfl fun ac hs => ?_
 refine wpList_nil (then_n (wp_seq ?_))
 replace hs := hs.n0 [4, 8, 9, 10] rfl rfl
 refine wp_region_lit ?_
 refine mvv hs rfl rfl rfl fun ac hs => ?_
 refine mvv hs rfl rfl rfl fun ac hs => ?_
 refine bnn hs (nu64 (t9 + c12)) rfl rfl rfl rfl (bin_addN rfl (top_lt llo4 lf8 hc12 lt9)) fun ac hs => ?_
 refine stp (op_call (F := 45) hs none (v := W (t9 + c12)) rfl rfl rfl rfl (call45 _) (fun w => from_any w (t9 + c12) (top_lt llo4 lf8 hc12 lt9)) rfl fun ac w hs => ?_)
 obtain ⟨f14, hf14, lf14⟩ : ∃ z0, (t9 + c12) * Pov % 2 ^ 256 = z0 ∧ z0 < 2 ^ 256 := ⟨_, rfl, Nat.mod_lt _ (Nat.two_pow_pos 256)⟩
 obtain ⟨t15, ht15⟩ : ∃ z0, (t9 + c12) * Pov / 2 ^ 256 = z0 := ⟨_, rfl⟩
 have lt15 := fold_top (Nat.lt_trans (top_lt llo4 lf8 hc12 lt9) (by decide)) ht15
 refine stp (op_call (F := 135) hs none (v := .tuple #[W f14, nu64 t15]) rfl rfl rfl rfl (call135 _) (scaled_c (t9 + c12) f14 t15 (Nat.lt_trans (top_lt llo4 lf8 hc12 lt9) (by decide)) hf14 ht15) rfl fun ac w hs => ?_)
 refine mvv hs rfl rfl rfl fun ac hs => ?_
 refine stp (xtr hs none rfl rfl rfl rfl rfl fun ac hs => ?_)
 refine stp (xtr hs none rfl rfl rfl rfl rfl fun ac hs => ?_)
 refine stp (op_alloc hs none none (cs := [.int .u64 0, .int .u64 0, .int .u64 0, .int .u64 0]) rfl rfl zeroValue24 (by kernel_rfl) rfl rfl fun g16 ac w hs => ?_)
 refine stp (stoo hs 7 ((Wl f14)) sizeOf24 rfl rfl rfl rfl rfl rfl rfl rfl rfl rfl fun w hs => ?_)
 refine asg hs rfl rfl rfl fun ac hs => ?_
 refine wpList_nil (then_n (wp_seq ?_))
 replace hs := hs.n0 [4, 9, 11] rfl rfl
 refine wp_region_lit ?_
 refine ldd hs 6 (W s11) isAgg24 sizeOf24 rfl rfl rfl rfl rfl fun ac hs => ?_
 refine ldd hs 7 (W f14) isAgg24 sizeOf24 rfl rfl rfl rfl rfl fun ac hs => ?_
 obtain ⟨s17, hs17, ls17⟩ : ∃ z0, (s11 + f14) % 2 ^ 256 = z0 ∧ z0 < 2 ^ 256 := ⟨_, rfl, Nat.mod_lt _ (Nat.two_pow_pos 256)⟩
 obtain ⟨c18, hc18⟩ : ∃ z0, (s11 + f14) / 2 ^ 256 = z0 := ⟨_, rfl⟩
 refine stp (op_call (F := 50) hs none (v := .tuple #[W s17, nu64 c18]) rfl rfl rfl rfl (call50 _) (fun w => add_at w s11 f14 s17 c18 ls11 lf14 hs17 hc18) rfl fun ac w hs => ?_)
 refine stp (xtr hs none rfl rfl rfl rfl rfl fun ac hs => ?_)
 refine stp (xtr hs none rfl rfl rfl rfl rfl fun ac hs => ?_)
 obtain ⟨r19, hr19, lr19⟩ : ∃ z0, (s17 + 2 ^ 256 * c18) % Pf = z0 ∧ z0 < 2 ^ 256 := ⟨_, rfl, modP_lt _⟩
 refine stp (op_call (F := 136) hs none (v := W r19) rfl rfl rfl rfl (call136 _) (lift_c s17 c18 r19 ls17 (fmul_pre llo4 lf8 hc12 lt9 hf14 ls11 hs17 hc18) hr19) rfl fun ac w hs => ?_)
 refine stp (stoo hs 2 ((Wl r19)) sizeOf24 rfl rfl rfl rfl rfl rfl rfl rfl rfl rfl fun w hs => ?_)
 refine wpList_nil (then_n (wp_ret ?_))
 exact bodyPost_ret (res1 rfl (rv_c hs 2 (v := W r19) rfl rfl isAgg24 sizeOf24 rfl)) hs.defers ⟨by rw [← hx, ← hr19, fmul_fin hlo4 hhi5 llo4 lf8 lt9 hf8 ht9 hs11 hc12 hf14 hs17 hc18], (hs.bel rfl)⟩
theorem fpow_c (a n x : Nat) (ha : a < 2 ^ 256) (hn : n < 2 ^ 256) (hx : a ^ n % Pf = x) (w0 : World) : Calls prog 105 #[W a, W n] w0 fun e w' => e = .returned (W x) ∧ Below w0.heap.size w0 w' := by
 refine enter (n := 33) (args := [W a, W n]) func105 rfl rfl (Nat.le_of_ble_eq_true rfl) fun ac hs => ?_
 refine wp_seq (wp_region_lit ?_)
 refine stp (op_box hs none none (cs := (Wl a)) rfl rfl rfl rfl rfl rfl fun g1 ac w hs => ?_)
 refine stp (op_box hs none none (cs := (Wl n)) rfl rfl rfl rfl rfl rfl fun g2 ac w hs => ?_)
 refine stp (op_alloc hs none none (cs := [.int .u64 0, .int .u64 0, .int .u64 0, .int .u64 0]) rfl rfl zeroValue24 (by kernel_rfl) rfl rfl fun g3 ac w hs => ?_)
 refine wpList_nil (then_n (wp_seq ?_))
 replace hs := hs.n0 [2, 3, 4] rfl rfl
 obtain ⟨r4, hr4, lr4⟩ : ∃ z0, a % Pf = z0 ∧ z0 < 2 ^ 256 := ⟨_, rfl, modP_lt _⟩
 refine region_inv [([], [2, 5, 6]), ([], [2, 5, 6]), ([0, 1], [5, 6]), ([], [5, 6]), ([], [5, 6]), (rgn 0 5, [6]), (rgn 0 6, [])] (fun L ac w => ∃ (g5 : Nat) (g6 : Nat), St 33 w0 [(8, L 0, W 1), (9, L 1, W a), (10, L 2, W r4), (5, L 3, ptA g5 0), (6, L 4, ptA g6 0), (2, true, ptA g1 0), (3, true, ptA g2 0), (4, true, ptA g3 0)] [(true, g1, 24, (Wl a)), (true, g2, 24, (Wl n)), (true, g3, 24, [.int .u64 0, .int .u64 0, .int .u64 0, .int .u64 0]), (L 3, g5, 24, (cond (L 5) (Wl 1) [.int .u64 0, .int .u64 0, .int .u64 0, .int .u64 0])), (L 4, g6, 24, (cond (L 6) (Wl r4) [.int .u64 0, .int .u64 0, .int .u64 0, .int .u64 0]))] ac w) (by kernel_rfl) (by kernel_rfl) ?_ ?_ ?_
 ·exact ⟨0, 0, hs.drew.skip.skip.skip.skip.skip.pad.pad⟩
 ·refine ⟨?_, ?_, ?_, ?_, ?_, ?_, ?_, trivial⟩
  ·exact fun L ac w ⟨g5, g6, hs⟩ => pln (op_call (F := 45) hs (some 0) (v := W 1) rfl rfl rfl rfl (call45 _) (fun w => from_any w 1 (by decide)) rfl fun ac w hs => ⟨g5, g6, hs⟩)
  ·exact fun L ac w ⟨g5, g6, hs⟩ => pln (oldd hs 1 0 (W a) isAgg24 sizeOf24 rfl rfl rfl rfl rfl fun ac hs => ⟨g5, g6, hs⟩)
  ·exact fun L ac w ⟨g5, g6, hs⟩ => pln (op_call (F := 108) hs (some 2) (v := W r4) rfl rfl rfl rfl (call108 _) (fred_c a r4 ha hr4) rfl fun ac w hs => ⟨g5, g6, hs⟩)
  ·exact fun L ac w ⟨g5, g6, hs⟩ => pln (op_alloc hs (some 3) (some 3) (cs := [.int .u64 0, .int .u64 0, .int .u64 0, .int .u64 0]) rfl rfl zeroValue24 (by kernel_rfl) rfl rfl fun g5 ac w hs => ⟨g5, g6, hs⟩)
  ·exact fun L ac w ⟨g5, g6, hs⟩ => pln (op_alloc hs (some 4) (some 4) (cs := [.int .u64 0, .int .u64 0, .int .u64 0, .int .u64 0]) rfl rfl zeroValue24 (by kernel_rfl) rfl rfl fun g6 ac w hs => ⟨g5, g6, hs⟩)
  ·exact fun L ac w ⟨g5, g6, hs⟩ => pln (stoo hs 3 ((Wl 1)) sizeOf24 rfl rfl rfl rfl rfl rfl rfl rfl rfl rfl fun w hs => ⟨g5, g6, hs⟩)
  ·exact fun L ac w ⟨g5, g6, hs⟩ => pln (stoo hs 4 ((Wl r4)) sizeOf24 rfl rfl rfl rfl rfl rfl rfl rfl rfl rfl fun w hs => ⟨g5, g6, hs⟩)
 intro ac w ⟨g5, g6, hs⟩
 try dsimp only [cond_true] at hs
 refine then_n (wp_seq (wp_seq (wp_region_lit ?_)))
 refine ldd hs 1 (W n) isAgg24 sizeOf24 rfl rfl rfl rfl rfl fun ac hs => ?_
 have ll7 := ln_le n 256 hn
 refine stp (op_call (F := 74) hs none (v := ni64 (ln n)) rfl rfl rfl rfl (call74 _) (fun w => len_any w n hn) rfl fun ac w hs => ?_)
 refine mvv hs rfl rfl rfl fun ac hs => ?_
 refine wpList_nil (then_n (wp_block ?_))
 refine wp_loop_m (fun μ ac w => ∃ (i : Nat) (o : Nat) (p : Nat), (ln n - i) = μ ∧ (i ≤ ln n) ∧ (o < 2 ^ 256) ∧ (p < 2 ^ 256) ∧ (r4 ^ (n % 2 ^ i) % Pf = o) ∧ (r4 ^ (2 ^ i) % Pf = p) ∧ St 33 w0 [(2, true, ptA g1 0), (3, true, ptA g2 0), (4, true, ptA g3 0), (5, true, ptA g5 0), (6, true, ptA g6 0), (12, true, ni64 (ln n)), (13, true, ni64 i)] [(true, g1, 24, (Wl a)), (true, g2, 24, (Wl n)), (true, g3, 24, [.int .u64 0, .int .u64 0, .int .u64 0, .int .u64 0]), (true, g5, 24, (Wl o)), (true, g6, 24, (Wl p))] ac w) ?_ ?_
 ·exact ⟨_, 0, 1, r4, rfl, (Nat.zero_le _), (by decide), lr4, (pow_start (by decide)), (pow_start2 (hr4 ▸ Nat.mod_lt _ Pf_pos)), (hs.re ⟨rfl, rfl, rfl, rfl, rfl, rfl, rfl, trivial⟩)⟩
 intro μ ac w ⟨i, o, p, hμ, hi, lo, lp, ho, hp, hs⟩
 refine wp_seq (wp_region_lit ?_)
 refine bnn hs (.bool (decide (i < ln n))) rfl rfl rfl rfl bin_lssN fun ac hs => ?_
 refine wpList_nil (then_n (wp_seq ?_))
 refine wp_cond_split (hs.ev rfl) (fun hc => ?_) (fun hc => ?_)
 ·skip
  have hp8 := of_decide_eq_true hc
  have hlt : i < ln n := of_decide_eq_true hc
  refine wp_skip (then_n (wp_seq (wp_block (wp_seq (wp_region_lit ?_)))))
  refine mvv hs rfl rfl rfl fun ac hs => ?_
  refine asg hs rfl rfl rfl fun ac hs => ?_
  refine wpList_nil (then_n (wp_seq (wp_seq (wp_region_lit ?_))))
  refine mvv hs rfl rfl rfl fun ac hs => ?_
  refine bnn hs (ni64 (i / 64)) rfl rfl rfl rfl (bin_quoN (y := 64) rfl (by decide) (show i < 9223372036854775808 by omega)) fun ac hs => ?_
  refine stp (op_idxA hs none (j := i / 64) rfl rfl rfl rfl underlying24 sizeOf22 (show i / 64 < 4 by omega) (off := i / 64) (by omega) rfl fun ac hs => ?_)
  have l9 := limN_lt n (i / 64)
  refine ldd hs 1 (nu64 (limN n (i / 64))) isAgg22 sizeOf22 rfl rfl rfl rfl (Wl_get (j := i / 64) (show i / 64 < 4 by omega)) fun ac hs => ?_
  refine mvv hs rfl rfl rfl fun ac hs => ?_
  refine bnn hs (ni64 (i % 64)) rfl rfl rfl rfl (bin_remN (y := 64) rfl (by decide)) fun ac hs => ?_
  refine bnn hs (.int .u64 (((limN n (i / 64)) / 2 ^ (i % 64) : Nat) : Int)) rfl rfl rfl rfl (bin_shrN (z := (limN n (i / 64)) / 2 ^ (i % 64)) rfl (limN_lt _ _)) fun ac hs => ?_
  refine bnn hs (.int .u64 ((((limN n (i / 64)) / 2 ^ (i % 64)) % 2 : Nat) : Int)) rfl rfl rfl rfl (bin_andN (y := 1) (z := ((limN n (i / 64)) / 2 ^ (i % 64)) % 2) (Nat.and_two_pow_sub_one_eq_mod ((limN n (i / 64)) / 2 ^ (i % 64)) 1) (shr_lt (limN_lt _ _)) (by decide) (show ((limN n (i / 64)) / 2 ^ (i % 64)) % 2 < 18446744073709551616 by omega)) fun ac hs => ?_
  refine bnn hs (.bool (decide (((limN n (i / 64)) / 2 ^ (i % 64)) % 2 ≠ 0))) rfl rfl rfl rfl (bin_neqN (y := 0)) fun ac hs => ?_
  refine wpList_nil (then_n ?_)
  refine wp_cond_split (hs.ev rfl) (fun hc => ?_) (fun hc => ?_)
  ·skip
   have hp10 := of_decide_eq_true hc
   replace hs := hs.n0 [2, 3, 4, 5, 6, 12, 13] rfl rfl
   refine wp_region_lit ?_
   refine ldd hs 3 (W o) isAgg24 sizeOf24 rfl rfl rfl rfl rfl fun ac hs => ?_
   refine ldd hs 4 (W p) isAgg24 sizeOf24 rfl rfl rfl rfl rfl fun ac hs => ?_
   obtain ⟨r11, hr11, lr11⟩ : ∃ z0, o * p % Pf = z0 ∧ z0 < 2 ^ 256 := ⟨_, rfl, modP_lt _⟩
   refine stp (op_call (F := 107) hs none (v := W r11) rfl rfl rfl rfl (call107 _) (fmul_c o p r11 lo lp hr11) rfl fun ac w hs => ?_)
   refine stp (stoo hs 3 ((Wl r11)) sizeOf24 rfl rfl rfl rfl rfl rfl rfl rfl rfl rfl fun w hs => ?_)
   refine wpList_nil (then_n (wp_region_lit ?_))
   refine ldd hs 4 (W p) isAgg24 sizeOf24 rfl rfl rfl rfl rfl fun ac hs => ?_
   refine ldd hs 4 (W p) isAgg24 sizeOf24 rfl rfl rfl rfl rfl fun ac hs => ?_
   obtain ⟨r12, hr12, lr12⟩ : ∃ z0, p * p % Pf = z0 ∧ z0 < 2 ^ 256 := ⟨_, rfl, modP_lt _⟩
   refine stp (op_call (F := 107) hs none (v := W r12) rfl rfl rfl rfl (call107 _) (fmul_c p p r12 lp lp hr12) rfl fun ac w hs => ?_)
   refine stp (stoo hs 4 ((Wl r12)) sizeOf24 rfl rfl rfl rfl rfl rfl rfl rfl rfl rfl fun w hs => ?_)
   refine wpList_nil (blk_n (then_n ?_))
   replace hs := hs.n0 [2, 3, 4, 5, 6, 12, 13] rfl rfl
   refine wp_region_lit ?_
   refine bnn hs (ni64 (i + 1)) rfl rfl rfl rfl (bin_addN (y := 1) rfl (show i + 1 < 9223372036854775808 by omega)) fun ac hs => ?_
   refine mvv hs rfl rfl rfl fun ac hs => ?_
   refine wpList_nil (then_n ?_)
   exact ⟨_, ⟨(i + 1), r11, r12, rfl, hlt, lr11, lr12, (pow_yes ho hp hr11 (by rw [← bit_lim]; exact hp10)), (pow_sq hp hr12), (hs.re ⟨rfl, rfl, rfl, rfl, rfl, rfl, rfl, trivial⟩)⟩, (by omega)⟩
  ·skip
   have hp13 := of_decide_eq_false hc
   refine wp_skip (then_n ?_)
   replace hs := hs.n0 [2, 3, 4, 5, 6, 12, 13] rfl rfl
   refine wp_region_lit ?_
   refine ldd hs 4 (W p) isAgg24 sizeOf24 rfl rfl rfl rfl rfl fun ac hs => ?_
   refine ldd hs 4 (W p) isAgg24 sizeOf24 rfl rfl rfl rfl rfl fun ac hs => ?_
   obtain ⟨r14, hr14, lr14⟩ : ∃ z0, p * p % Pf = z0 ∧ z0 < 2 ^ 256 := ⟨_, rfl, modP_lt _⟩
   refine stp (op_call (F := 107) hs none (v := W r14) rfl rfl rfl rfl (call107 _) (fmul_c p p r14 lp lp hr14) rfl fun ac w hs => ?_)
   refine stp (stoo hs 4 ((Wl r14)) sizeOf24 rfl rfl rfl rfl rfl rfl rfl rfl rfl rfl fun w hs => ?_)
   refine wpList_nil (blk_n (then_n (wp_region_lit ?_)))
   refine bnn hs (ni64 (i + 1)) rfl rfl rfl rfl (bin_addN (y := 1) rfl (show i + 1 < 9223372036854775808 by omega)) fun ac hs => ?_
   refine mvv hs rfl rfl rfl fun ac hs => ?_
   refine wpList_nil (then_n ?_)
   exact ⟨_, ⟨(i + 1), o, r14, rfl, hlt, lo, lr14, (pow_no ho (by rw [← bit_lim]; exact hp13)), (pow_sq hp hr14), (hs.re ⟨rfl, rfl, rfl, rfl, rfl, rfl, rfl, trivial⟩)⟩, (by omega)⟩
 ·skip
  have hp15 := of_decide_eq_false hc
  obtain rfl : i = ln n := by omega
  refine wp_exit (then_e (then_e (blk_e (then_n (wp_seq (wp_region_lit ?_))))))
  refine ldd hs 3 (W o) isAgg24 sizeOf24 rfl rfl rfl rfl rfl fun ac hs => ?_
  refine stp (stoo hs 2 ((Wl o)) sizeOf24 rfl rfl rfl rfl rfl rfl rfl rfl rfl rfl fun w hs => ?_)
  refine wpList_nil (then_n (wp_ret ?_))
  exact bodyPost_ret (res1 rfl (rv_c hs 2 (v := W o) rfl rfl isAgg24 sizeOf24 rfl)) hs.defers ⟨by rw [← hx, Nat.pow_mod, hr4]; exact congrArg (fun z => Ending.returned (W z)) (pow_end ho).symm, (hs.bel rfl)⟩
theorem finv_c (a x : Nat) (ha : a < 2 ^ 256) (hx : pinv Pf a = x) (w0 : World) : Calls prog 117 #[W a] w0 fun e w' => e = .returned (W x) ∧ Below w0.heap.size w0 w' := by
 refine enter (n := 14) (args := [W a]) func117 rfl rfl (Nat.le_of_ble_eq_true rfl) fun ac hs => ?_
 refine wp_seq (wp_region_lit ?_)
 refine stp (op_box hs none none (cs := (Wl a)) rfl rfl rfl rfl rfl rfl fun g1 ac w hs => ?_)
 refine stp (op_alloc hs none none (cs := [.int .u64 0, .int .u64 0, .int .u64 0, .int .u64 0]) rfl rfl zeroValue24 (by kernel_rfl) rfl rfl fun g2 ac w hs => ?_)
 refine wpList_nil (then_n (wp_seq (wp_region_lit ?_)))
 refine stp (op_call (F := 104) hs none (v := W Pf) rfl rfl rfl rfl (call104 _) prime_c rfl fun ac w hs => ?_)
 refine stp (op_call (F := 45) hs none (v := W 2) rfl rfl rfl rfl (call45 _) (fun w => from_any w 2 (by decide)) rfl fun ac w hs => ?_)
 obtain ⟨d3, hd3, ld3⟩ : ∃ z0, (Pf + 2 ^ 256 - 2) % 2 ^ 256 = z0 ∧ z0 < 2 ^ 256 := ⟨_, rfl, Nat.mod_lt _ (Nat.two_pow_pos 256)⟩
 obtain ⟨c4, hc4⟩ : ∃ z0, bor Pf 2 = z0 := ⟨_, rfl⟩
 refine stp (op_call (F := 71) hs none (v := .tuple #[W d3, nu64 c4]) rfl rfl rfl rfl (call71 _) (fun w => sub_at w Pf 2 d3 c4 Pf_lt (by decide) hd3 hc4) rfl fun ac w hs => ?_)
 refine mvv hs rfl rfl rfl fun ac hs => ?_
 refine stp (xtr hs none rfl rfl rfl rfl rfl fun ac hs => ?_)
 refine stp (xtr hs none rfl rfl rfl rfl rfl fun ac hs => ?_)
 refine stp (op_alloc hs none none (cs := [.int .u64 0, .int .u64 0, .int .u64 0, .int .u64 0]) rfl rfl zeroValue24 (by kernel_rfl) rfl rfl fun g5 ac w hs => ?_)
 refine stp (stoo hs 2 ((Wl d3)) sizeOf24 rfl rfl rfl rfl rfl rfl rfl rfl rfl rfl fun w hs => ?_)
 refine asg hs rfl rfl rfl fun ac hs => ?_
 refine wpList_nil (then_n (wp_seq ?_))
 replace hs := hs.n0 [1, 2, 3] rfl rfl
 refine wp_region_lit ?_
 refine ldd hs 0 (W a) isAgg24 sizeOf24 rfl rfl rfl rfl rfl fun ac hs => ?_
 refine ldd hs 2 (W d3) isAgg24 sizeOf24 rfl rfl rfl rfl rfl fun ac hs => ?_
 obtain ⟨r6, hr6, lr6⟩ : ∃ z0, a ^ d3 % Pf = z0 ∧ z0 < 2 ^ 256 := ⟨_, rfl, modP_lt _⟩
 refine stp (op_call (F := 105) hs none (v := W r6) rfl rfl rfl rfl (call105 _) (fpow_c a d3 r6 ha ld3 hr6) rfl fun ac w hs => ?_)
 refine stp (stoo hs 1 ((Wl r6)) sizeOf24 rfl rfl rfl rfl rfl rfl rfl rfl rfl rfl fun w hs => ?_)
 refine wpList_nil (then_n (wp_ret ?_))
 exact bodyPost_ret (res1 rfl (rv_c hs 1 (v := W r6) rfl rfl isAgg24 sizeOf24 rfl)) hs.defers ⟨by rw [← hx, ← hr6, show d3 = Pf - 2 from hd3.symm.trans (by decide)]; rfl, (hs.bel rfl)⟩
end Go.Proofs.YtejbajgpiecjcaaGreat

/- '==' on points. -/
namespace Go.Proofs.YtejbajgpiecjcaaGreat
open Go.RowKit
abbrev PV (x y : Nat) (z : Bool) : Value := .agg #[.int .u64 (lim x 0), .int .u64 (lim x 1), .int .u64 (lim x 2), .int .u64 (lim x 3), .int .u64 (lim y 0), .int .u64 (lim y 1), .int .u64 (lim y 2), .int .u64 (lim y 3), .bool z]
abbrev PVl (x y : Nat) (z : Bool) : List Value := [.int .u64 (lim x 0), .int .u64 (lim x 1), .int .u64 (lim x 2), .int .u64 (lim x 3), .int .u64 (lim y 0), .int .u64 (lim y 1), .int .u64 (lim y 2), .int .u64 (lim y 3), .bool z]
abbrev TV (x y z : Nat) : Value := .agg #[.int .u64 (lim x 0), .int .u64 (lim x 1), .int .u64 (lim x 2), .int .u64 (lim x 3), .int .u64 (lim y 0), .int .u64 (lim y 1), .int .u64 (lim y 2), .int .u64 (lim y 3), .int .u64 (lim z 0), .int .u64 (lim z 1), .int .u64 (lim z 2), .int .u64 (lim z 3)]
abbrev TVl (x y z : Nat) : List Value := [.int .u64 (lim x 0), .int .u64 (lim x 1), .int .u64 (lim x 2), .int .u64 (lim x 3), .int .u64 (lim y 0), .int .u64 (lim y 1), .int .u64 (lim y 2), .int .u64 (lim y 3), .int .u64 (lim z 0), .int .u64 (lim z 1), .int .u64 (lim z 2), .int .u64 (lim z 3)]
theorem eqWin (d : Nat) (a b : Nat) (ha : a < 2 ^ 256) (hb : b < 2 ^ 256) (w : World) : (Op.equalIn (d + 2) 24 (W a) (W b)).run Tryz.prog w = .ok (decide (a = b)) w := by
  have := run_equalIn4' (d + 1) (fun a b w => run_equalIn_int w d 22 .u64 .u64 a b Tryz.underlying22) (lim a 0) (lim a 1) (lim a 2) (lim a 3) (lim b 0) (lim b 1) (lim b 2) (lim b 3) w
  rw [this, eqb a b ha hb]
theorem run_eqP (x y x' y' : Nat) (z z' : Bool) (hx : x < 2 ^ 256) (hy : y < 2 ^ 256) (hx' : x' < 2 ^ 256) (hy' : y' < 2 ^ 256) (w : World) :
    (Op.equalIn 10000 42 (PV x y z) (PV x' y' z')).run Tryz.prog w = .ok (decide (x = x' ∧ y = y' ∧ z = z')) w := by
  rw [run_equalIn_struct w 9999 42 _ _ (by kernel_rfl) (by kernel_rfl)]
  have e : ∀ xs ys, Op.eqFields 9999 xs ys (Tryz.prog.fieldsOf 42).toList = (do
      let a ← part 24 xs 0
      let b ← part 24 ys 0
      let r ← Op.equalIn 9999 24 a b
      if (!r) = true then pure false else do
        let a ← part 24 xs 4
        let b ← part 24 ys 4
        let r ← Op.equalIn 9999 24 a b
        if (!r) = true then pure false else do
          let a ← part 4 xs 8
          let b ← part 4 ys 8
          let r ← Op.equalIn 9999 4 a b
          if (!r) = true then pure false else pure true) := fun xs ys => by kernel_rfl
  rw [e]
  have p0 : ∀ x y z w, (part 24 #[.int .u64 (lim x 0), .int .u64 (lim x 1), .int .u64 (lim x 2), .int .u64 (lim x 3), .int .u64 (lim y 0), .int .u64 (lim y 1), .int .u64 (lim y 2), .int .u64 (lim y 3), .bool z] 0).run Tryz.prog w = .ok (W x) w := fun x y z w => by kernel_rfl
  have p1 : ∀ x y z w, (part 24 #[.int .u64 (lim x 0), .int .u64 (lim x 1), .int .u64 (lim x 2), .int .u64 (lim x 3), .int .u64 (lim y 0), .int .u64 (lim y 1), .int .u64 (lim y 2), .int .u64 (lim y 3), .bool z] 4).run Tryz.prog w = .ok (W y) w := fun x y z w => by kernel_rfl
  have p2 : ∀ x y z w, (part 4 #[.int .u64 (lim x 0), .int .u64 (lim x 1), .int .u64 (lim x 2), .int .u64 (lim x 3), .int .u64 (lim y 0), .int .u64 (lim y 1), .int .u64 (lim y 2), .int .u64 (lim y 3), .bool z] 8).run Tryz.prog w = .ok (.bool z) w := fun x y z w => by kernel_rfl
  simp only [Sem.run_bind, p0, Result.andThen_ok, eqWin 9997 _ _ hx hx']
  by_cases h1 : x = x'
  · simp only [h1, decide_true, Bool.not_true, Bool.false_eq_true, if_false, Sem.run_bind, p1, Result.andThen_ok, eqWin 9997 _ _ hy hy', true_and]
    by_cases h2 : y = y'
    · simp only [h2, decide_true, Bool.not_true, Bool.false_eq_true, if_false, Sem.run_bind, p2, Result.andThen_ok, run_equalIn_bool' w 9998 4 z z' Tryz.underlying4, true_and]
      by_cases h3 : z = z'
      · simp [h3]
      · have : (z == z') = false := by simpa using h3
        simp [this, h3]
    · simp [h2]
  · simp [h1]
theorem eqlP (x y x' y' : Nat) (z z' : Bool) (hx : x < 2 ^ 256) (hy : y < 2 ^ 256) (hx' : x' < 2 ^ 256) (hy' : y' < 2 ^ 256) (c : Bool) (hc : decide (x = x' ∧ y = y' ∧ z = z') = c) (w : World) :
    (binOp .eql 42 (PV x y z) (PV x' y' z')).run Tryz.prog w = .ok (.bool c) w := by
  simp only [binOp, Sem.run_bind, Op.equal, Op.maxDepth]
  rw [run_eqP x y x' y' z z' hx hy hx' hy', hc]
  rfl
end Go.Proofs.YtejbajgpiecjcaaGreat

/- The contracts of point. -/
namespace Go.Proofs.YtejbajgpiecjcaaGreat
open Go.RowKit _root_.Go.Proofs.Tryz
set_option maxRecDepth 10000
set_option maxHeartbeats 1000000
theorem onf1 {x y : Nat} (h : ¬ x < Pf) : false = onB x y false := by unfold onB affB; simp [h]
theorem onf2 {x y : Nat} (h : ¬ y < Pf) : false = onB x y false := by unfold onB affB; simp [h]
theorem onf3 {x y r1 r2 : Nat} (hx : x < Pf) (hy : y < Pf) (h1 : y * y % Pf = r1) (h2 : rgt x = r2) : decide (r1 = r2) = onB x y false := by unfold onB affB; simp [hx, hy, h1, h2]
theorem ont {x y : Nat} : decide (x = 0 ∧ y = 0 ∧ true = true) = onB x y true := by unfold onB; simp
theorem rgt_of {x a b c : Nat} (h1 : x * x % Pf = a) (h2 : a * x % Pf = b) (h3 : (b + 7) % Pf = c) : rgt x = c := by rw [← h3, ← h2, ← h1]; rfl
theorem rgt_of2 {x a b c : Nat} (h1 : x * x % Pf = a) (h2 : x * a % Pf = b) (h3 : (b + 7) % Pf = c) : rgt x = c := by
 rw [← h3, ← h2, ← h1, Nat.mul_comm x (x * x % Pf)]; rfl
theorem ev_odd {T : EM.Pt Pf} (h : pz T = true) : false = evB T := by unfold evB; rw [h]; rfl
theorem ev_val {T : EM.Pt Pf} (h : ¬ pz T = true) : decide (limN (py T) 0 % 2 = 0) = evB T := by
 unfold evB
 rw [lim_odd, Bool.eq_false_iff.2 h]; rfl
theorem lenmax {a b : Nat} (ha : a < 2 ^ 256) (hb : b < 2 ^ 256) : max (ln a) (ln b) ≤ 256 ∧ a < 2 ^ max (ln a) (ln b) ∧ b < 2 ^ max (ln a) (ln b) := by
 have h1 := ln_le a 256 ha
 have h2 := ln_le b 256 hb
 refine ⟨by omega, Nat.lt_of_lt_of_le (ln_spec a).1 (Nat.pow_le_pow_right (by decide) (by omega)), Nat.lt_of_lt_of_le (ln_spec b).1 (Nat.pow_le_pow_right (by decide) (by omega))⟩
theorem bit_ne {a i : Nat} : (limN a (i / 64) / 2 ^ (i % 64) % 2 ≠ 0) ↔ (a / 2 ^ i % 2 = 1) := by
 rw [bit_lim]
 generalize a / 2 ^ i = x
 omega
theorem bytes_c (a : Nat) (ha : a < 2 ^ 256) (w0 : World) : Calls prog 20 #[W a] w0 fun e w' => e = .returned (At .u8 32 (by8 a)) ∧ Below w0.heap.size w0 w' := by
 refine enter (n := 22) (args := [W a]) func20 rfl rfl (Nat.le_of_ble_eq_true rfl) fun ac hs => ?_
 refine wp_seq (wp_region_lit ?_)
 refine stp (op_box hs none none (cs := (Wl a)) rfl rfl rfl rfl rfl rfl fun g1 ac w hs => ?_)
 refine stp (op_alloc hs none none (cs := (tab .u8 32 (fun _ => 0))) rfl rfl zeroValue30 (by kernel_rfl) rfl rfl fun g2 ac w hs => ?_)
 refine wpList_nil (then_n (wp_seq (wp_region_lit ?_)))
 refine stp (op_alloc hs none none (cs := (tab .u8 32 (fun _ => 0))) rfl rfl zeroValue30 (by kernel_rfl) rfl rfl fun g3 ac w hs => ?_)
 refine wpList_nil (then_n (wp_seq (wp_seq (wp_region_lit ?_))))
 refine mvv hs rfl rfl rfl fun ac hs => ?_
 refine wpList_nil (then_n (wp_block ?_))
 refine wp_loop_m (fun μ ac w => ∃ (i : Nat) (f : Nat → Nat), (32 - i) = μ ∧ (i ≤ 32) ∧ (∀ j, j < 32 → f j = byf a i j) ∧ St 22 w0 [(1, true, ptA g1 0), (2, true, ptA g2 0), (3, true, ptA g3 0), (5, true, ni64 i)] [(true, g1, 24, (Wl a)), (true, g2, 30, (tab .u8 32 (fun _ => 0))), (true, g3, 30, (tab .u8 32 f))] ac w) ?_ ?_
 ·exact ⟨_, 0, (fun _ => 0), rfl, (by omega), byte_start, (hs.re ⟨rfl, rfl, rfl, rfl, trivial⟩)⟩
 intro μ ac w ⟨i, f, hμ, hi, hf, hs⟩
 refine wp_seq (wp_region_lit ?_)
 refine bnn hs (.bool (decide (i < 32))) rfl rfl rfl rfl (bin_lssN (y := 32)) fun ac hs => ?_
 refine wpList_nil (then_n (wp_seq ?_))
 refine wp_cond_split (hs.ev rfl) (fun hc => ?_) (fun hc => ?_)
 ·skip
  have hp4 := of_decide_eq_true hc
  have hlt : i < 32 := of_decide_eq_true hc
  refine wp_skip (then_n (wp_seq (wp_block (wp_seq (wp_region_lit ?_)))))
  refine mvv hs rfl rfl rfl fun ac hs => ?_
  refine asg hs rfl rfl rfl fun ac hs => ?_
  refine wpList_nil (then_n (wp_region_lit ?_))
  refine mvv hs rfl rfl rfl fun ac hs => ?_
  refine bnn hs (ni64 (31 - i)) rfl rfl rfl rfl (bin_subN (x := 31) (by omega) (show 31 - i < 9223372036854775808 by omega)) fun ac hs => ?_
  refine mvv hs rfl rfl rfl fun ac hs => ?_
  refine bnn hs (ni64 (i / 8)) rfl rfl rfl rfl (bin_quoN (y := 8) rfl (by decide) (show i < 9223372036854775808 by omega)) fun ac hs => ?_
  refine stp (op_idxA hs none (j := i / 8) rfl rfl rfl rfl underlying24 sizeOf22 (show i / 8 < 4 by omega) (off := i / 8) (by omega) rfl fun ac hs => ?_)
  have l5 := limN_lt a (i / 8)
  refine ldd hs 0 (nu64 (limN a (i / 8))) isAgg22 sizeOf22 rfl rfl rfl rfl (Wl_get (j := i / 8) (show i / 8 < 4 by omega)) fun ac hs => ?_
  refine mvv hs rfl rfl rfl fun ac hs => ?_
  refine bnn hs (ni64 (i % 8)) rfl rfl rfl rfl (bin_remN (y := 8) rfl (by decide)) fun ac hs => ?_
  refine bnn hs (ni64 (8 * (i % 8))) rfl rfl rfl rfl (bin_mulN (x := 8) rfl (show 8 * (i % 8) < 9223372036854775808 by omega)) fun ac hs => ?_
  refine bnn hs (.int .u64 (((limN a (i / 8)) / 2 ^ (8 * (i % 8)) : Nat) : Int)) rfl rfl rfl rfl (bin_shrN (z := (limN a (i / 8)) / 2 ^ (8 * (i % 8))) rfl (limN_lt _ _)) fun ac hs => ?_
  refine stp (op_convert hs none (v := .int .u8 ((((limN a (i / 8)) / 2 ^ (8 * (i % 8))) % 256 : Nat) : Int)) rfl rfl rfl (conv_M (z := ((limN a (i / 8)) / 2 ^ (8 * (i % 8))) % 256) rfl underlying22 underlying5 rfl) rfl fun ac hs => ?_)
  refine stp (op_idxA hs none (j := 31 - i) rfl rfl rfl rfl underlying30 sizeOf5 (show 31 - i < 32 by omega) (off := 31 - i) (by omega) rfl fun ac hs => ?_)
  refine stp (stoo hs 2 ([.int .u8 ((((limN a (i / 8)) / 2 ^ (8 * (i % 8))) % 256 : Nat) : Int)]) sizeOf5 rfl rfl rfl rfl rfl rfl rfl rfl (tab_le (j := 31 - i) (show 31 - i < 32 by omega)) (tab_set) fun w hs => ?_)
  refine wpList_nil (blk_n (then_n ?_))
  replace hs := hs.n0 [1, 2, 3, 5] rfl rfl
  refine wp_region_lit ?_
  refine bnn hs (ni64 (i + 1)) rfl rfl rfl rfl (bin_addN (y := 1) rfl (show i + 1 < 9223372036854775808 by omega)) fun ac hs => ?_
  refine mvv hs rfl rfl rfl fun ac hs => ?_
  refine wpList_nil (then_n ?_)
  exact ⟨_, ⟨(i + 1), (upn f (31 - i) (((limN a (i / 8)) / 2 ^ (8 * (i % 8))) % 256)), rfl, hlt, (byte_step hlt hf), (hs.re ⟨rfl, rfl, rfl, rfl, trivial⟩)⟩, (by omega)⟩
 ·skip
  have hp6 := of_decide_eq_false hc
  obtain rfl : i = 32 := by omega
  replace hs := hs.setb 2 (cs' := tab .u8 32 (by8 a)) rfl (tab_congr (byte_fin hf))
  refine wp_exit (then_e (then_e (blk_e (then_n (wp_seq (wp_region_lit ?_))))))
  refine ldd hs 2 (At .u8 32 (by8 a)) isAgg30 sizeOf30 rfl rfl rfl rfl ldv_tab fun ac hs => ?_
  refine stp (stoo hs 1 ((tab .u8 32 (by8 a))) sizeOf30 rfl rfl rfl rfl rfl (by kernel_rfl) tab_length' (tab_one _ _ _) tab_leA wr_tab fun w hs => ?_)
  refine wpList_nil (then_n (wp_ret ?_))
  exact bodyPost_ret (res1 rfl (rv_c hs 1 (v := At .u8 32 (by8 a)) rfl rfl isAgg30 sizeOf30 ldv_tab)) hs.defers ⟨rfl, (hs.bel rfl)⟩
theorem zero_c  (w0 : World) : Calls prog 66 #[] w0 fun e w' => e = .returned (PV 0 0 true) ∧ Below w0.heap.size w0 w' := by
 refine enter (n := 2) (args := []) func66 rfl rfl (Nat.le_of_ble_eq_true rfl) fun ac hs => ?_
 refine wp_seq (wp_region_lit ?_)
 refine stp (op_alloc hs none none (cs := (PVl 0 0 false)) rfl rfl zeroValue42 (by kernel_rfl) rfl rfl fun g1 ac w hs => ?_)
 refine wpList_nil (then_n (wp_seq (wp_region_lit ?_)))
 refine stp (op_build hs none (qs := [(2, .bool true)]) (v := PV 0 0 true) rfl rfl rfl rfl (fun _ => by kernel_rfl) rfl fun ac hs => ?_)
 refine stp (stoo hs 0 ((PVl 0 0 true)) sizeOf42 rfl rfl rfl rfl rfl rfl rfl rfl rfl rfl fun w hs => ?_)
 refine wpList_nil (then_n (wp_ret ?_))
 exact bodyPost_ret (res1 rfl (rv_c hs 0 (v := PV 0 0 true) rfl rfl isAgg42 sizeOf42 rfl)) hs.defers ⟨rfl, (hs.bel rfl)⟩
theorem sq_c (a x : Nat) (ha : a < 2 ^ 256) (hx : a * a % Pf = x) (w0 : World) : Calls prog 111 #[W a] w0 fun e w' => e = .returned (W x) ∧ Below w0.heap.size w0 w' := by
 refine enter (n := 6) (args := [W a]) func111 rfl rfl (Nat.le_of_ble_eq_true rfl) fun ac hs => ?_
 refine wp_seq (wp_region_lit ?_)
 refine stp (op_box hs none none (cs := (Wl a)) rfl rfl rfl rfl rfl rfl fun g1 ac w hs => ?_)
 refine stp (op_alloc hs none none (cs := [.int .u64 0, .int .u64 0, .int .u64 0, .int .u64 0]) rfl rfl zeroValue24 (by kernel_rfl) rfl rfl fun g2 ac w hs => ?_)
 refine wpList_nil (then_n (wp_seq (wp_region_lit ?_)))
 refine ldd hs 0 (W a) isAgg24 sizeOf24 rfl rfl rfl rfl rfl fun ac hs => ?_
 refine ldd hs 0 (W a) isAgg24 sizeOf24 rfl rfl rfl rfl rfl fun ac hs => ?_
 obtain ⟨r3, hr3, lr3⟩ : ∃ z0, a * a % Pf = z0 ∧ z0 < 2 ^ 256 := ⟨_, rfl, modP_lt _⟩
 refine stp (op_call (F := 107) hs none (v := W r3) rfl rfl rfl rfl (call107 _) (fmul_c a a r3 ha ha hr3) rfl fun ac w hs => ?_)
 refine stp (stoo hs 1 ((Wl r3)) sizeOf24 rfl rfl rfl rfl rfl rfl rfl rfl rfl rfl fun w hs => ?_)
 refine wpList_nil (then_n (wp_ret ?_))
 exact bodyPost_ret (res1 rfl (rv_c hs 1 (v := W r3) rfl rfl isAgg24 sizeOf24 rfl)) hs.defers ⟨by rw [← hx, ← hr3], (hs.bel rfl)⟩
theorem right_c (a x : Nat) (ha : a < 2 ^ 256) (hx : rgt a = x) (w0 : World) : Calls prog 68 #[W a] w0 fun e w' => e = .returned (W x) ∧ Below w0.heap.size w0 w' := by
 refine enter (n := 9) (args := [W a]) func68 rfl rfl (Nat.le_of_ble_eq_true rfl) fun ac hs => ?_
 refine wp_seq (wp_region_lit ?_)
 refine stp (op_box hs none none (cs := (Wl a)) rfl rfl rfl rfl rfl rfl fun g1 ac w hs => ?_)
 refine stp (op_alloc hs none none (cs := [.int .u64 0, .int .u64 0, .int .u64 0, .int .u64 0]) rfl rfl zeroValue24 (by kernel_rfl) rfl rfl fun g2 ac w hs => ?_)
 refine wpList_nil (then_n (wp_seq ?_))
 replace hs := hs.n0 [1, 2] rfl rfl
 obtain ⟨r3, hr3, lr3⟩ : ∃ z0, a * a % Pf = z0 ∧ z0 < 2 ^ 256 := ⟨_, rfl, modP_lt _⟩
 obtain ⟨r4, hr4, lr4⟩ : ∃ z0, r3 * a % Pf = z0 ∧ z0 < 2 ^ 256 := ⟨_, rfl, modP_lt _⟩
 obtain ⟨r5, hr5, lr5⟩ : ∃ z0, (r4 + 7) % Pf = z0 ∧ z0 < 2 ^ 256 := ⟨_, rfl, modP_lt _⟩
 refine region_inv [([], [1, 3, 4, 5, 6]), ([0], rgn 3 4), ([], rgn 3 4), ([0, 1, 2], [4, 5, 6]), (rgn 0 4, [5, 6]), (rgn 0 5, [6]), (rgn 0 6, [])] (fun L ac w => St 9 w0 [(3, L 0, W a), (4, L 1, W r3), (5, L 2, W a), (6, L 3, W r4), (7, L 4, W 7), (8, L 5, W r5), (1, true, ptA g1 0), (2, true, ptA g2 0)] [(true, g1, 24, (Wl a)), (true, g2, 24, (cond (L 6) (Wl r5) [.int .u64 0, .int .u64 0, .int .u64 0, .int .u64 0]))] ac w) (by kernel_rfl) (by kernel_rfl) ?_ ?_ ?_
 ·exact hs.drew.skip.skip.skip.skip.skip.skip
 ·refine ⟨?_, ?_, ?_, ?_, ?_, ?_, ?_, trivial⟩
  ·exact fun L ac w hs => pln (oldd hs 0 0 (W a) isAgg24 sizeOf24 rfl rfl rfl rfl rfl fun ac hs => hs)
  ·exact fun L ac w hs => pln (op_call (F := 111) hs (some 1) (v := W r3) rfl rfl rfl rfl (call111 _) (sq_c a r3 ha hr3) rfl fun ac w hs => hs)
  ·exact fun L ac w hs => pln (oldd hs 2 0 (W a) isAgg24 sizeOf24 rfl rfl rfl rfl rfl fun ac hs => hs)
  ·exact fun L ac w hs => pln (op_call (F := 107) hs (some 3) (v := W r4) rfl rfl rfl rfl (call107 _) (fmul_c r3 a r4 lr3 ha hr4) rfl fun ac w hs => hs)
  ·exact fun L ac w hs => pln (op_call (F := 45) hs (some 4) (v := W 7) rfl rfl rfl rfl (call45 _) (fun w => from_any w 7 (by decide)) rfl fun ac w hs => hs)
  ·exact fun L ac w hs => pln (op_call (F := 110) hs (some 5) (v := W r5) rfl rfl rfl rfl (call110 _) (fadd_c r4 7 r5 lr4 (by decide) hr5) rfl fun ac w hs => hs)
  ·exact fun L ac w hs => pln (stoo hs 1 ((Wl r5)) sizeOf24 rfl rfl rfl rfl rfl rfl rfl rfl rfl rfl fun w hs => hs)
 intro ac w hs
 try dsimp only [cond_true] at hs
 refine then_n (wp_ret ?_)
 exact bodyPost_ret (res1 rfl (rv_c hs 1 (v := W r5) rfl rfl isAgg24 sizeOf24 rfl)) hs.defers ⟨by rw [← hx, rgt_of hr3 hr4 hr5], (hs.bel rfl)⟩
theorem below_c (a : Nat) (q : Bool) (ha : a < 2 ^ 256) (hq : decide (a < Pf) = q) (w0 : World) : Calls prog 65 #[W a] w0 fun e w' => e = .returned (.bool q) ∧ Below w0.heap.size w0 w' := by
 refine enter (n := 7) (args := [W a]) func65 rfl rfl (Nat.le_of_ble_eq_true rfl) fun ac hs => ?_
 refine wp_seq (wp_region_lit ?_)
 refine stp (op_box hs none none (cs := (Wl a)) rfl rfl rfl rfl rfl rfl fun g1 ac w hs => ?_)
 refine asg hs rfl rfl rfl fun ac hs => ?_
 refine wpList_nil (then_n (wp_seq ?_))
 replace hs := hs.n0 [1, 2] rfl rfl
 refine region_inv [([], [2, 3, 4]), ([], [2, 3, 4]), ([0, 1], [3, 4]), ([0, 1, 2], [4]), (rgn 0 4, [])] (fun L ac w => St 7 w0 [(3, L 0, W a), (4, L 1, W Pf), (5, L 2, .int .i64 (cmpZ a Pf)), (6, L 3, .bool (decide (a < Pf))), (2, L 4, .bool (decide (a < Pf))), (1, true, ptA g1 0), (2, true, .bool false)] [(true, g1, 24, (Wl a))] ac w) (by kernel_rfl) (by kernel_rfl) ?_ ?_ ?_
 ·exact hs.drew.skip.skip.skip.skip.skip
 ·refine ⟨?_, ?_, ?_, ?_, ?_, trivial⟩
  ·exact fun L ac w hs => pln (oldd hs 0 0 (W a) isAgg24 sizeOf24 rfl rfl rfl rfl rfl fun ac hs => hs)
  ·exact fun L ac w hs => pln (op_call (F := 104) hs (some 1) (v := W Pf) rfl rfl rfl rfl (call104 _) prime_c rfl fun ac w hs => hs)
  ·exact fun L ac w hs => pln (op_call (F := 69) hs (some 2) (v := .int .i64 (cmpZ a Pf)) rfl rfl rfl rfl (call69 _) (fun w => cmp_any w a Pf ha Pf_lt) rfl fun ac w hs => hs)
  ·exact fun L ac w hs => pln (obn hs 3 (.bool (decide (a < Pf))) rfl rfl rfl rfl (bin_cmp_lss a Pf) fun ac hs => hs)
  ·exact fun L ac w hs => pln (oas hs 4 rfl rfl rfl fun ac hs => hs)
 intro ac w hs
 try dsimp only [cond_true] at hs
 refine then_n (wp_ret ?_)
 exact bodyPost_ret (res1 rfl (rv_t hs rfl)) hs.defers ⟨by rw [← hq], (hs.bel rfl)⟩
theorem on_c_t (x y : Nat) (hx : x < 2 ^ 256) (hy : y < 2 ^ 256) (w0 : World) : Calls prog 92 #[PV x y true] w0 fun e w' => e = .returned (.bool (onB x y true)) ∧ Below w0.heap.size w0 w' := by
 refine enter (n := 25) (args := [PV x y true]) func92 rfl rfl (Nat.le_of_ble_eq_true rfl) fun ac hs => ?_
 refine wp_seq (wp_region_lit ?_)
 refine stp (op_box hs none none (cs := (PVl x y true)) rfl rfl rfl rfl rfl rfl fun g1 ac w hs => ?_)
 refine asg hs rfl rfl rfl fun ac hs => ?_
 refine wpList_nil (then_n (wp_seq (wp_seq (wp_region_lit ?_))))
 refine stp (op_fieldA hs none rfl rfl rfl underlying42 rfl sizeOf4 (by decide) rfl fun ac hs => ?_)
 refine ldd hs 0 (.bool true) isAgg4 sizeOf4 rfl rfl rfl rfl rfl fun ac hs => ?_
 refine wpList_nil (then_n ?_)
 refine wp_cond_true (hs.ev rfl) ?_
 refine wp_seq ?_
 replace hs := hs.n0 [1, 2] rfl rfl
 refine region_inv [([], [2, 3]), ([], [2, 3]), ([0, 1], [3]), ([0, 1, 2], [])] (fun L ac w => St 25 w0 [(5, L 0, PV x y true), (6, L 1, PV 0 0 true), (7, L 2, .bool (decide (x = 0 ∧ y = 0 ∧ true = true))), (2, L 3, .bool (decide (x = 0 ∧ y = 0 ∧ true = true))), (1, true, ptA g1 0), (2, true, .bool false)] [(true, g1, 42, (PVl x y true))] ac w) (by kernel_rfl) (by kernel_rfl) ?_ ?_ ?_
 ·exact hs.drew.skip.skip.skip.skip
 ·refine ⟨?_, ?_, ?_, ?_, trivial⟩
  ·exact fun L ac w hs => pln (oldd hs 0 0 (PV x y true) isAgg42 sizeOf42 rfl rfl rfl rfl rfl fun ac hs => hs)
  ·exact fun L ac w hs => pln (op_call (F := 66) hs (some 1) (v := PV 0 0 true) rfl rfl rfl rfl (call66 _) zero_c rfl fun ac w hs => hs)
  ·exact fun L ac w hs => pln (op_bin hs (some 2) (v := .bool (decide (x = 0 ∧ y = 0 ∧ true = true))) rfl rfl rfl rfl (fun w => run_eqGuard_agg w .eql 42 _ _ _ _ Tryz.eqGuardType42) (eqlP x y 0 0 true true hx hy (by decide) (by decide) _ rfl) rfl fun ac hs => hs)
  ·exact fun L ac w hs => pln (oas hs 3 rfl rfl rfl fun ac hs => hs)
 intro ac w hs
 try dsimp only [cond_true] at hs
 refine then_n (wp_ret (then_r ?_))
 exact bodyPost_ret (res1 rfl (rv_t hs rfl)) hs.defers ⟨congrArg (fun b => Ending.returned (.bool b)) ont, (hs.bel rfl)⟩
theorem on_c_f (x y : Nat) (hx : x < 2 ^ 256) (hy : y < 2 ^ 256) (w0 : World) : Calls prog 92 #[PV x y false] w0 fun e w' => e = .returned (.bool (onB x y false)) ∧ Below w0.heap.size w0 w' := by
 refine enter (n := 25) (args := [PV x y false]) func92 rfl rfl (Nat.le_of_ble_eq_true rfl) fun ac hs => ?_
 refine wp_seq (wp_region_lit ?_)
 refine stp (op_box hs none none (cs := (PVl x y false)) rfl rfl rfl rfl rfl rfl fun g1 ac w hs => ?_)
 refine asg hs rfl rfl rfl fun ac hs => ?_
 refine wpList_nil (then_n (wp_seq (wp_seq (wp_region_lit ?_))))
 refine stp (op_fieldA hs none rfl rfl rfl underlying42 rfl sizeOf4 (by decide) rfl fun ac hs => ?_)
 refine ldd hs 0 (.bool false) isAgg4 sizeOf4 rfl rfl rfl rfl rfl fun ac hs => ?_
 refine wpList_nil (then_n ?_)
 refine wp_cond_false (hs.ev rfl) ?_
 refine wp_skip (then_n (wp_seq ?_))
 by_cases hq2 : x < Pf
 ·skip
  by_cases hq3 : y < Pf
  ·skip
   replace hs := hs.n0 [1, 2] rfl rfl
   obtain ⟨r4, hr4, lr4⟩ : ∃ z0, y * y % Pf = z0 ∧ z0 < 2 ^ 256 := ⟨_, rfl, modP_lt _⟩
   obtain ⟨r5, hr5, lr5⟩ : ∃ z0, rgt x = z0 ∧ z0 < 2 ^ 256 := ⟨_, rfl, modP_lt _⟩
   refine region_inv [([], rgn 1 17), ([0], rgn 2 16), ([0, 1], rgn 3 15), ([0, 1, 2], rgn 4 14), (rgn 0 4, rgn 5 13), (rgn 0 5, rgn 6 12), (rgn 0 6, rgn 7 11), (rgn 0 7, rgn 8 10), (rgn 0 8, rgn 9 9), (rgn 0 9, [10, 11, 14, 15, 16, 17]), (rgn 0 10, [11, 14, 15, 16, 17]), (rgn 0 11, rgn 14 4), (rgn 0 9, rgn 13 5), ([0, 1, 2, 3, 4, 5, 6, 7, 8, 12], rgn 14 4), (rgn 0 14, [15, 16, 17]), (rgn 0 15, [16, 17]), (rgn 0 16, [17]), (rgn 0 17, [])] (fun L ac w => St 25 w0 [(8, L 0, ptA g1 0), (9, L 1, W x), (10, L 2, .bool true), (11, L 3, .bool true), (12, L 4, ptA g1 4), (13, L 5, W y), (14, L 6, .bool true), (15, L 7, .bool true), (16, L 8, .bool true), (17, L 9, ptA g1 4), (18, L 10, W y), (19, L 11, W r4), (20, L 12, ptA g1 0), (21, L 13, W x), (22, L 14, W r5), (23, L 15, .bool (decide (r4 = r5))), (24, L 16, .bool (decide (r4 = r5))), (2, L 17, .bool (decide (r4 = r5))), (1, true, ptA g1 0), (2, true, .bool false)] [(true, g1, 42, (PVl x y false))] ac w) (by kernel_rfl) (by kernel_rfl) ?_ ?_ ?_
   ·exact hs.drew.skip.skip.skip.skip.skip.skip.skip.skip.skip.skip.skip.skip.skip.skip.skip.skip.skip.skip
   ·refine ⟨?_, ?_, ?_, ?_, ?_, ?_, ?_, ?_, ?_, ?_, ?_, ?_, ?_, ?_, ?_, ?_, ?_, ?_, trivial⟩
    ·exact fun L ac w hs => pln (op_fieldA hs (some 0) rfl rfl rfl underlying42 rfl sizeOf24 (by decide) rfl fun ac hs => hs)
    ·exact fun L ac w hs => pln (oldd hs 1 0 (W x) isAgg24 sizeOf24 rfl rfl rfl rfl rfl fun ac hs => hs)
    ·exact fun L ac w hs => pln (op_call (F := 65) hs (some 2) (v := .bool true) rfl rfl rfl rfl (call65 _) (below_c x true hx (decide_eq_true hq2)) rfl fun ac w hs => hs)
    ·exact fun L ac w hs => pln (omv hs 3 rfl rfl rfl fun ac hs => hs)
    ·exact fun L ac w hs => wpO_in hs rfl rfl rfl (op_fieldA hs (some 4) rfl rfl rfl underlying42 rfl sizeOf24 (by decide) rfl fun ac hs => hs)
    ·exact fun L ac w hs => wpO_in hs rfl rfl rfl (oldd hs 5 0 (W y) isAgg24 sizeOf24 rfl rfl rfl rfl rfl fun ac hs => hs)
    ·exact fun L ac w hs => wpO_in hs rfl rfl rfl (op_call (F := 65) hs (some 6) (v := .bool true) rfl rfl rfl rfl (call65 _) (below_c y true hy (decide_eq_true hq3)) rfl fun ac w hs => hs)
    ·exact fun L ac w hs => pln (op_pickT hs (some 7) rfl rfl rfl rfl rfl fun ac hs => hs)
    ·exact fun L ac w hs => pln (omv hs 8 rfl rfl rfl fun ac hs => hs)
    ·exact fun L ac w hs => wpO_in hs rfl rfl rfl (op_fieldA hs (some 9) rfl rfl rfl underlying42 rfl sizeOf24 (by decide) rfl fun ac hs => hs)
    ·exact fun L ac w hs => wpO_in hs rfl rfl rfl (oldd hs 10 0 (W y) isAgg24 sizeOf24 rfl rfl rfl rfl rfl fun ac hs => hs)
    ·exact fun L ac w hs => wpO_in hs rfl rfl rfl (op_call (F := 111) hs (some 11) (v := W r4) rfl rfl rfl rfl (call111 _) (sq_c y r4 hy hr4) rfl fun ac w hs => hs)
    ·exact fun L ac w hs => wpO_in hs rfl rfl rfl (op_fieldA hs (some 12) rfl rfl rfl underlying42 rfl sizeOf24 (by decide) rfl fun ac hs => hs)
    ·exact fun L ac w hs => wpO_in hs rfl rfl rfl (oldd hs 13 0 (W x) isAgg24 sizeOf24 rfl rfl rfl rfl rfl fun ac hs => hs)
    ·exact fun L ac w hs => wpO_in hs rfl rfl rfl (op_call (F := 68) hs (some 14) (v := W r5) rfl rfl rfl rfl (call68 _) (right_c x r5 hx hr5) rfl fun ac w hs => hs)
    ·exact fun L ac w hs => wpO_in hs rfl rfl rfl (op_bin hs (some 15) (v := .bool (decide (r4 = r5))) rfl rfl rfl rfl (fun w => run_eqGuard_agg w .eql 24 _ _ _ _ Tryz.eqGuardType24) (eqlW r4 r5 lr4 lr5 _ rfl) rfl fun ac hs => hs)
    ·exact fun L ac w hs => pln (op_pickT hs (some 16) rfl rfl rfl rfl rfl fun ac hs => hs)
    ·exact fun L ac w hs => pln (oas hs 17 rfl rfl rfl fun ac hs => hs)
   intro ac w hs
   try dsimp only [cond_true] at hs
   refine then_n (wp_ret ?_)
   exact bodyPost_ret (res1 rfl (rv_t hs rfl)) hs.defers ⟨congrArg (fun b => Ending.returned (.bool b)) (onf3 hq2 hq3 hr4 hr5), (hs.bel rfl)⟩
  ·skip
   replace hs := hs.n0 [1, 2] rfl rfl
   refine region_inv [([], rgn 1 17), ([0], rgn 2 16), ([0, 1], rgn 3 15), ([0, 1, 2], rgn 4 14), (rgn 0 4, rgn 5 13), (rgn 0 5, rgn 6 12), (rgn 0 6, rgn 7 11), (rgn 0 7, rgn 8 10), (rgn 0 8, rgn 9 9), (rgn 0 9, [10, 11, 14, 15, 16, 17]), (rgn 0 10, [11, 14, 15, 16, 17]), (rgn 0 11, rgn 14 4), (rgn 0 9, rgn 13 5), ([0, 1, 2, 3, 4, 5, 6, 7, 8, 12], rgn 14 4), (rgn 0 14, [15, 16, 17]), (rgn 0 15, [16, 17]), (rgn 0 16, [17]), (rgn 0 17, [])] (fun L ac w => St 25 w0 [(8, L 0, ptA g1 0), (9, L 1, W x), (10, L 2, .bool true), (11, L 3, .bool true), (12, L 4, ptA g1 4), (13, L 5, W y), (14, L 6, .bool false), (15, L 7, .bool false), (16, L 8, .bool false), (17, L 9, undef), (18, L 10, undef), (19, L 11, undef), (20, L 12, undef), (21, L 13, undef), (22, L 14, undef), (23, L 15, undef), (24, L 16, .bool false), (2, L 17, .bool false), (1, true, ptA g1 0), (2, true, .bool false)] [(true, g1, 42, (PVl x y false))] ac w) (by kernel_rfl) (by kernel_rfl) ?_ ?_ ?_
   ·exact hs.drew.skip.skip.skip.skip.skip.skip.skip.skip.skip.skip.skip.skip.skip.skip.skip.skip.skip.skip
   ·refine ⟨?_, ?_, ?_, ?_, ?_, ?_, ?_, ?_, ?_, ?_, ?_, ?_, ?_, ?_, ?_, ?_, ?_, ?_, trivial⟩
    ·exact fun L ac w hs => pln (op_fieldA hs (some 0) rfl rfl rfl underlying42 rfl sizeOf24 (by decide) rfl fun ac hs => hs)
    ·exact fun L ac w hs => pln (oldd hs 1 0 (W x) isAgg24 sizeOf24 rfl rfl rfl rfl rfl fun ac hs => hs)
    ·exact fun L ac w hs => pln (op_call (F := 65) hs (some 2) (v := .bool true) rfl rfl rfl rfl (call65 _) (below_c x true hx (decide_eq_true hq2)) rfl fun ac w hs => hs)
    ·exact fun L ac w hs => pln (omv hs 3 rfl rfl rfl fun ac hs => hs)
    ·exact fun L ac w hs => wpO_in hs rfl rfl rfl (op_fieldA hs (some 4) rfl rfl rfl underlying42 rfl sizeOf24 (by decide) rfl fun ac hs => hs)
    ·exact fun L ac w hs => wpO_in hs rfl rfl rfl (oldd hs 5 0 (W y) isAgg24 sizeOf24 rfl rfl rfl rfl rfl fun ac hs => hs)
    ·exact fun L ac w hs => wpO_in hs rfl rfl rfl (op_call (F := 65) hs (some 6) (v := .bool false) rfl rfl rfl rfl (call65 _) (below_c y false hy (decide_eq_false hq3)) rfl fun ac w hs => hs)
    ·exact fun L ac w hs => pln (op_pickT hs (some 7) rfl rfl rfl rfl rfl fun ac hs => hs)
    ·exact fun L ac w hs => pln (omv hs 8 rfl rfl rfl fun ac hs => hs)
    ·intro L ac w hs
     refine wpO_out hs (some 9) rfl rfl (.inl rfl) rfl rfl fun ac hs => ?_
     exact hs
    ·intro L ac w hs
     refine wpO_out hs (some 10) rfl rfl (.inl rfl) rfl rfl fun ac hs => ?_
     exact hs
    ·intro L ac w hs
     refine wpO_out hs (some 11) rfl rfl (.inl rfl) rfl rfl fun ac hs => ?_
     exact hs
    ·intro L ac w hs
     refine wpO_out hs (some 12) rfl rfl (.inl rfl) rfl rfl fun ac hs => ?_
     exact hs
    ·intro L ac w hs
     refine wpO_out hs (some 13) rfl rfl (.inl rfl) rfl rfl fun ac hs => ?_
     exact hs
    ·intro L ac w hs
     refine wpO_out hs (some 14) rfl rfl (.inl rfl) rfl rfl fun ac hs => ?_
     exact hs
    ·intro L ac w hs
     refine wpO_out hs (some 15) rfl rfl (.inl rfl) rfl rfl fun ac hs => ?_
     exact hs
    ·exact fun L ac w hs => pln (op_pickF hs (some 16) rfl rfl rfl rfl rfl fun ac hs => hs)
    ·exact fun L ac w hs => pln (oas hs 17 rfl rfl rfl fun ac hs => hs)
   intro ac w hs
   try dsimp only [cond_true] at hs
   refine then_n (wp_ret ?_)
   exact bodyPost_ret (res1 rfl (rv_t hs rfl)) hs.defers ⟨congrArg (fun b => Ending.returned (.bool b)) (onf2 hq3), (hs.bel rfl)⟩
 ·skip
  replace hs := hs.n0 [1, 2] rfl rfl
  refine region_inv [([], rgn 1 17), ([0], rgn 2 16), ([0, 1], rgn 3 15), ([0, 1, 2], rgn 4 14), (rgn 0 4, rgn 5 13), (rgn 0 5, rgn 6 12), (rgn 0 6, rgn 7 11), (rgn 0 7, rgn 8 10), (rgn 0 8, rgn 9 9), (rgn 0 9, [10, 11, 14, 15, 16, 17]), (rgn 0 10, [11, 14, 15, 16, 17]), (rgn 0 11, rgn 14 4), (rgn 0 9, rgn 13 5), ([0, 1, 2, 3, 4, 5, 6, 7, 8, 12], rgn 14 4), (rgn 0 14, [15, 16, 17]), (rgn 0 15, [16, 17]), (rgn 0 16, [17]), (rgn 0 17, [])] (fun L ac w => St 25 w0 [(8, L 0, ptA g1 0), (9, L 1, W x), (10, L 2, .bool false), (11, L 3, .bool false), (12, L 4, undef), (13, L 5, undef), (14, L 6, undef), (15, L 7, .bool false), (16, L 8, .bool false), (17, L 9, undef), (18, L 10, undef), (19, L 11, undef), (20, L 12, undef), (21, L 13, undef), (22, L 14, undef), (23, L 15, undef), (24, L 16, .bool false), (2, L 17, .bool false), (1, true, ptA g1 0), (2, true, .bool false)] [(true, g1, 42, (PVl x y false))] ac w) (by kernel_rfl) (by kernel_rfl) ?_ ?_ ?_
  ·exact hs.drew.skip.skip.skip.skip.skip.skip.skip.skip.skip.skip.skip.skip.skip.skip.skip.skip.skip.skip
  ·refine ⟨?_, ?_, ?_, ?_, ?_, ?_, ?_, ?_, ?_, ?_, ?_, ?_, ?_, ?_, ?_, ?_, ?_, ?_, trivial⟩
   ·exact fun L ac w hs => pln (op_fieldA hs (some 0) rfl rfl rfl underlying42 rfl sizeOf24 (by decide) rfl fun ac hs => hs)
   ·exact fun L ac w hs => pln (oldd hs 1 0 (W x) isAgg24 sizeOf24 rfl rfl rfl rfl rfl fun ac hs => hs)
   ·exact fun L ac w hs => pln (op_call (F := 65) hs (some 2) (v := .bool false) rfl rfl rfl rfl (call65 _) (below_c x false hx (decide_eq_false hq2)) rfl fun ac w hs => hs)
   ·exact fun L ac w hs => pln (omv hs 3 rfl rfl rfl fun ac hs => hs)
   ·intro L ac w hs
    refine wpO_out hs (some 4) rfl rfl (.inl rfl) rfl rfl fun ac hs => ?_
    exact hs
   ·intro L ac w hs
    refine wpO_out hs (some 5) rfl rfl (.inl rfl) rfl rfl fun ac hs => ?_
    exact hs
   ·intro L ac w hs
    refine wpO_out hs (some 6) rfl rfl (.inl rfl) rfl rfl fun ac hs => ?_
    exact hs
   ·exact fun L ac w hs => pln (op_pickF hs (some 7) rfl rfl rfl rfl rfl fun ac hs => hs)
   ·exact fun L ac w hs => pln (omv hs 8 rfl rfl rfl fun ac hs => hs)
   ·intro L ac w hs
    refine wpO_out hs (some 9) rfl rfl (.inl rfl) rfl rfl fun ac hs => ?_
    exact hs
   ·intro L ac w hs
    refine wpO_out hs (some 10) rfl rfl (.inl rfl) rfl rfl fun ac hs => ?_
    exact hs
   ·intro L ac w hs
    refine wpO_out hs (some 11) rfl rfl (.inl rfl) rfl rfl fun ac hs => ?_
    exact hs
   ·intro L ac w hs
    refine wpO_out hs (some 12) rfl rfl (.inl rfl) rfl rfl fun ac hs => ?_
    exact hs
   ·intro L ac w hs
    refine wpO_out hs (some 13) rfl rfl (.inl rfl) rfl rfl fun ac hs => ?_
    exact hs
   ·intro L ac w hs
    refine wpO_out hs (some 14) rfl rfl (.inl rfl) rfl rfl fun ac hs => ?_
    exact hs
   ·intro L ac w hs
    refine wpO_out hs (some 15) rfl rfl (.inl rfl) rfl rfl fun ac hs => ?_
    exact hs
   ·exact fun L ac w hs => pln (op_pickF hs (some 16) rfl rfl rfl rfl rfl fun ac hs => hs)
   ·exact fun L ac w hs => pln (oas hs 17 rfl rfl rfl fun ac hs => hs)
  intro ac w hs
  try dsimp only [cond_true] at hs
  refine then_n (wp_ret ?_)
  exact bodyPost_ret (res1 rfl (rv_t hs rfl)) hs.defers ⟨congrArg (fun b => Ending.returned (.bool b)) (onf1 hq2), (hs.bel rfl)⟩
theorem on_c (x y : Nat) (z q : Bool) (hx : x < 2 ^ 256) (hy : y < 2 ^ 256) (hq : onB x y z = q) (w : World) : Calls prog 92 #[PV x y z] w fun e w' => e = .returned (.bool q) ∧ Below w.heap.size w w' := by
 subst hq
 cases z with
 | true => exact on_c_t x y hx hy w
 | false => exact on_c_f x y hx hy w
theorem taken_c (x y : Nat) (z : Bool) (T : EM.Pt Pf) (hx : x < 2 ^ 256) (hy : y < 2 ^ 256) (hT : ptOf x y z = T) (w0 : World) : Calls prog 47 #[PV x y z] w0 fun e w' => e = .returned (PV (px T) (py T) (pz T)) ∧ Below w0.heap.size w0 w' := by
 refine enter (n := 7) (args := [PV x y z]) func47 rfl rfl (Nat.le_of_ble_eq_true rfl) fun ac hs => ?_
 refine wp_seq (wp_region_lit ?_)
 refine stp (op_box hs none none (cs := (PVl x y z)) rfl rfl rfl rfl rfl rfl fun g1 ac w hs => ?_)
 refine stp (op_alloc hs none none (cs := (PVl 0 0 false)) rfl rfl zeroValue42 (by kernel_rfl) rfl rfl fun g2 ac w hs => ?_)
 refine wpList_nil (then_n (wp_seq (wp_seq (wp_region_lit ?_))))
 refine ldd hs 0 (PV x y z) isAgg42 sizeOf42 rfl rfl rfl rfl rfl fun ac hs => ?_
 refine stp (op_call (F := 92) hs none (v := .bool (onB x y z)) rfl rfl rfl rfl (call92 _) (on_c x y z _ hx hy rfl) rfl fun ac w hs => ?_)
 refine wpList_nil (then_n ?_)
 refine wp_cond_split (hs.ev rfl) (fun hc => ?_) (fun hc => ?_)
 ·skip
  refine wp_seq (wp_region_lit ?_)
  refine ldd hs 0 (PV x y z) isAgg42 sizeOf42 rfl rfl rfl rfl rfl fun ac hs => ?_
  refine stp (stoo hs 1 ((PVl x y z)) sizeOf42 rfl rfl rfl rfl rfl rfl rfl rfl rfl rfl fun w hs => ?_)
  refine wpList_nil (then_n (wp_ret (then_r ?_)))
  exact bodyPost_ret (res1 rfl (rv_c hs 1 (v := PV x y z) rfl rfl isAgg42 sizeOf42 rfl)) hs.defers ⟨by subst hT; rw [(on_yes hc).1, (on_yes hc).2.1, (on_yes hc).2.2], (hs.bel rfl)⟩
 ·skip
  refine wp_skip (then_n (wp_seq (wp_region_lit ?_)))
  refine stp (op_call (F := 66) hs none (v := PV 0 0 true) rfl rfl rfl rfl (call66 _) zero_c rfl fun ac w hs => ?_)
  refine stp (stoo hs 1 ((PVl 0 0 true)) sizeOf42 rfl rfl rfl rfl rfl rfl rfl rfl rfl rfl fun w hs => ?_)
  refine wpList_nil (then_n (wp_ret ?_))
  exact bodyPost_ret (res1 rfl (rv_c hs 1 (v := PV 0 0 true) rfl rfl isAgg42 sizeOf42 rfl)) hs.defers ⟨by rw [← hT, on_no (Bool.eq_false_iff.1 hc)]; rfl, (hs.bel rfl)⟩
theorem weigh_c (x y : Nat) (z : Bool) (u v s : Nat) (hx : x < 2 ^ 256) (hy : y < 2 ^ 256) (hu : (if z = true then 1 else x) = u) (hv : (if z = true then 1 else y) = v) (hs' : (if z = true then 0 else 1) = s) (w0 : World) : Calls prog 72 #[PV x y z] w0 fun e w' => e = .returned (TV u v s) ∧ Below w0.heap.size w0 w' := by
 refine enter (n := 14) (args := [PV x y z]) func72 rfl rfl (Nat.le_of_ble_eq_true rfl) fun ac hs => ?_
 refine wp_seq (wp_region_lit ?_)
 refine stp (op_box hs none none (cs := (PVl x y z)) rfl rfl rfl rfl rfl rfl fun g1 ac w hs => ?_)
 refine stp (op_alloc hs none none (cs := (TVl 0 0 0)) rfl rfl zeroValue79 (by kernel_rfl) rfl rfl fun g2 ac w hs => ?_)
 refine wpList_nil (then_n (wp_seq (wp_seq (wp_region_lit ?_))))
 refine stp (op_fieldA hs none rfl rfl rfl underlying42 rfl sizeOf4 (by decide) rfl fun ac hs => ?_)
 refine ldd hs 0 (.bool z) isAgg4 sizeOf4 rfl rfl rfl rfl rfl fun ac hs => ?_
 refine wpList_nil (then_n ?_)
 refine wp_cond_split (hs.ev rfl) (fun hc => ?_) (fun hc => ?_)
 ·skip
  refine wp_seq (wp_region_lit ?_)
  refine stp (op_call (F := 45) hs none (v := W 1) rfl rfl rfl rfl (call45 _) (fun w => from_any w 1 (by decide)) rfl fun ac w hs => ?_)
  refine stp (op_call (F := 45) hs none (v := W 1) rfl rfl rfl rfl (call45 _) (fun w => from_any w 1 (by decide)) rfl fun ac w hs => ?_)
  refine stp (op_build hs none (qs := [(0, W 1), (1, W 1)]) (v := TV 1 1 0) rfl rfl rfl rfl (fun _ => by kernel_rfl) rfl fun ac hs => ?_)
  refine stp (stoo hs 1 ((TVl 1 1 0)) sizeOf79 rfl rfl rfl rfl rfl rfl rfl rfl rfl rfl fun w hs => ?_)
  refine wpList_nil (then_n (wp_ret (then_r ?_)))
  exact bodyPost_ret (res1 rfl (rv_c hs 1 (v := TV 1 1 0) rfl rfl isAgg79 sizeOf79 rfl)) hs.defers ⟨by rw [← hu, ← hv, ← hs', if_pos hc, if_pos hc, if_pos hc]; first | done | rfl, (hs.bel rfl)⟩
 ·skip
  refine wp_skip (then_n (wp_seq ?_))
  replace hs := hs.n0 [1, 2] rfl rfl
  refine region_inv [([], [1, 5, 6]), ([0], [5, 6]), ([], [3, 5, 6]), ([2], [5, 6]), ([], [5, 6]), (rgn 0 5, [6]), (rgn 0 6, [])] (fun L ac w => St 14 w0 [(8, L 0, ptA g1 0), (9, L 1, W x), (10, L 2, ptA g1 4), (11, L 3, W y), (12, L 4, W 1), (13, L 5, TV x y 1), (1, true, ptA g1 0), (2, true, ptA g2 0)] [(true, g1, 42, (PVl x y z)), (true, g2, 79, (cond (L 6) (TVl x y 1) (TVl 0 0 0)))] ac w) (by kernel_rfl) (by kernel_rfl) ?_ ?_ ?_
  ·exact hs.drew.skip.skip.skip.skip.skip.skip
  ·refine ⟨?_, ?_, ?_, ?_, ?_, ?_, ?_, trivial⟩
   ·exact fun L ac w hs => pln (op_fieldA hs (some 0) rfl rfl rfl underlying42 rfl sizeOf24 (by decide) rfl fun ac hs => hs)
   ·exact fun L ac w hs => pln (oldd hs 1 0 (W x) isAgg24 sizeOf24 rfl rfl rfl rfl rfl fun ac hs => hs)
   ·exact fun L ac w hs => pln (op_fieldA hs (some 2) rfl rfl rfl underlying42 rfl sizeOf24 (by decide) rfl fun ac hs => hs)
   ·exact fun L ac w hs => pln (oldd hs 3 0 (W y) isAgg24 sizeOf24 rfl rfl rfl rfl rfl fun ac hs => hs)
   ·exact fun L ac w hs => pln (op_call (F := 45) hs (some 4) (v := W 1) rfl rfl rfl rfl (call45 _) (fun w => from_any w 1 (by decide)) rfl fun ac w hs => hs)
   ·exact fun L ac w hs => pln (op_build hs (some 5) (qs := [(0, W x), (1, W y), (2, W 1)]) (v := TV x y 1) rfl rfl rfl rfl (fun _ => by kernel_rfl) rfl fun ac hs => hs)
   ·exact fun L ac w hs => pln (stoo hs 1 ((TVl x y 1)) sizeOf79 rfl rfl rfl rfl rfl rfl rfl rfl rfl rfl fun w hs => hs)
  intro ac w hs
  try dsimp only [cond_true] at hs
  refine then_n (wp_ret ?_)
  exact bodyPost_ret (res1 rfl (rv_c hs 1 (v := TV x y 1) rfl rfl isAgg79 sizeOf79 rfl)) hs.defers ⟨by rw [← hu, ← hv, ← hs', if_neg (Bool.eq_false_iff.1 hc), if_neg (Bool.eq_false_iff.1 hc), if_neg (Bool.eq_false_iff.1 hc)]; first | done | rfl, (hs.bel rfl)⟩
theorem isz_c (x y z : Nat) (q : Bool) (hx : x < 2 ^ 256) (hy : y < 2 ^ 256) (hz : z < 2 ^ 256) (hq : decide (z = 0) = q) (w0 : World) : Calls prog 113 #[TV x y z] w0 fun e w' => e = .returned (.bool q) ∧ Below w0.heap.size w0 w' := by
 refine enter (n := 7) (args := [TV x y z]) func113 rfl rfl (Nat.le_of_ble_eq_true rfl) fun ac hs => ?_
 refine wp_seq (wp_region_lit ?_)
 refine stp (op_box hs none none (cs := (TVl x y z)) rfl rfl rfl rfl rfl rfl fun g1 ac w hs => ?_)
 refine asg hs rfl rfl rfl fun ac hs => ?_
 refine wpList_nil (then_n (wp_seq (wp_region_lit ?_)))
 refine stp (op_fieldA hs none rfl rfl rfl underlying79 rfl sizeOf24 (by decide) rfl fun ac hs => ?_)
 refine ldd hs 0 (W z) isAgg24 sizeOf24 rfl rfl rfl rfl rfl fun ac hs => ?_
 refine stp (op_build hs none (qs := []) (v := .agg #[.int .u64 0, .int .u64 0, .int .u64 0, .int .u64 0]) rfl rfl rfl rfl (fun _ => by kernel_rfl) rfl fun ac hs => ?_)
 refine stp (op_bin hs none (v := .bool (decide (z = 0))) rfl rfl rfl rfl (fun w => run_eqGuard_agg w .eql 24 _ _ _ _ Tryz.eqGuardType24) (eqlW z 0 hz (by decide) _ rfl) rfl fun ac hs => ?_)
 refine asg hs rfl rfl rfl fun ac hs => ?_
 refine wpList_nil (then_n (wp_ret ?_))
 exact bodyPost_ret (res1 rfl (rv_t hs rfl)) hs.defers ⟨by rw [← hq], (hs.bel rfl)⟩
theorem plain_c (x y z : Nat) (T : EM.Pt Pf) (hx : x < 2 ^ 256) (hy : y < 2 ^ 256) (hz : z < 2 ^ 256) (hE : JN x y z T) (w0 : World) : Calls prog 77 #[TV x y z] w0 fun e w' => e = .returned (PV (px T) (py T) (pz T)) ∧ Below w0.heap.size w0 w' := by
 refine enter (n := 24) (args := [TV x y z]) func77 rfl rfl (Nat.le_of_ble_eq_true rfl) fun ac hs => ?_
 refine wp_seq (wp_region_lit ?_)
 refine stp (op_box hs none none (cs := (TVl x y z)) rfl rfl rfl rfl rfl rfl fun g1 ac w hs => ?_)
 refine stp (op_alloc hs none none (cs := (PVl 0 0 false)) rfl rfl zeroValue42 (by kernel_rfl) rfl rfl fun g2 ac w hs => ?_)
 refine wpList_nil (then_n (wp_seq (wp_seq (wp_region_lit ?_))))
 refine ldd hs 0 (TV x y z) isAgg79 sizeOf79 rfl rfl rfl rfl rfl fun ac hs => ?_
 refine stp (op_call (F := 113) hs none (v := .bool (decide (z = 0))) rfl rfl rfl rfl (call113 _) (isz_c x y z _ hx hy hz rfl) rfl fun ac w hs => ?_)
 refine wpList_nil (then_n ?_)
 refine wp_cond_split (hs.ev rfl) (fun hc => ?_) (fun hc => ?_)
 ·skip
  have hp3 := of_decide_eq_true hc
  refine wp_seq (wp_region_lit ?_)
  refine stp (op_call (F := 66) hs none (v := PV 0 0 true) rfl rfl rfl rfl (call66 _) zero_c rfl fun ac w hs => ?_)
  refine stp (stoo hs 1 ((PVl 0 0 true)) sizeOf42 rfl rfl rfl rfl rfl rfl rfl rfl rfl rfl fun w hs => ?_)
  refine wpList_nil (then_n (wp_ret (then_r ?_)))
  exact bodyPost_ret (res1 rfl (rv_c hs 1 (v := PV 0 0 true) rfl rfl isAgg42 sizeOf42 rfl)) hs.defers ⟨by rw [jn_zero hE hp3]; rfl, (hs.bel rfl)⟩
 ·skip
  have hp4 := of_decide_eq_false hc
  refine wp_skip (then_n (wp_seq (wp_region_lit ?_)))
  refine stp (op_fieldA hs none rfl rfl rfl underlying79 rfl sizeOf24 (by decide) rfl fun ac hs => ?_)
  refine ldd hs 0 (W z) isAgg24 sizeOf24 rfl rfl rfl rfl rfl fun ac hs => ?_
  obtain ⟨r5, hr5, lr5⟩ : ∃ z0, pinv Pf z = z0 ∧ z0 < 2 ^ 256 := ⟨_, rfl, modP_lt _⟩
  refine stp (op_call (F := 117) hs none (v := W r5) rfl rfl rfl rfl (call117 _) (finv_c z r5 hz hr5) rfl fun ac w hs => ?_)
  refine stp (op_alloc hs none none (cs := [.int .u64 0, .int .u64 0, .int .u64 0, .int .u64 0]) rfl rfl zeroValue24 (by kernel_rfl) rfl rfl fun g6 ac w hs => ?_)
  refine stp (stoo hs 2 ((Wl r5)) sizeOf24 rfl rfl rfl rfl rfl rfl rfl rfl rfl rfl fun w hs => ?_)
  refine wpList_nil (then_n (wp_seq ?_))
  replace hs := hs.n0 [1, 2, 3] rfl rfl
  refine wp_region_lit ?_
  refine ldd hs 2 (W r5) isAgg24 sizeOf24 rfl rfl rfl rfl rfl fun ac hs => ?_
  obtain ⟨r7, hr7, lr7⟩ : ∃ z0, r5 * r5 % Pf = z0 ∧ z0 < 2 ^ 256 := ⟨_, rfl, modP_lt _⟩
  refine stp (op_call (F := 111) hs none (v := W r7) rfl rfl rfl rfl (call111 _) (sq_c r5 r7 lr5 hr7) rfl fun ac w hs => ?_)
  refine stp (op_alloc hs none none (cs := [.int .u64 0, .int .u64 0, .int .u64 0, .int .u64 0]) rfl rfl zeroValue24 (by kernel_rfl) rfl rfl fun g8 ac w hs => ?_)
  refine stp (stoo hs 3 ((Wl r7)) sizeOf24 rfl rfl rfl rfl rfl rfl rfl rfl rfl rfl fun w hs => ?_)
  refine wpList_nil (then_n (wp_seq ?_))
  replace hs := hs.n0 [1, 2, 3, 4] rfl rfl
  obtain ⟨r9, hr9, lr9⟩ : ∃ z0, x * r7 % Pf = z0 ∧ z0 < 2 ^ 256 := ⟨_, rfl, modP_lt _⟩
  obtain ⟨r10, hr10, lr10⟩ : ∃ z0, r7 * r5 % Pf = z0 ∧ z0 < 2 ^ 256 := ⟨_, rfl, modP_lt _⟩
  obtain ⟨r11, hr11, lr11⟩ : ∃ z0, y * r10 % Pf = z0 ∧ z0 < 2 ^ 256 := ⟨_, rfl, modP_lt _⟩
  refine region_inv [([], [1, 3, 8, 9, 10, 11]), ([0], [3, 8, 9, 10, 11]), ([], [3, 8, 9, 10, 11]), ([0, 1, 2], rgn 8 4), ([], [5, 9, 10, 11]), ([4], [9, 10, 11]), ([], rgn 8 4), ([], rgn 8 4), ([0, 1, 2, 3, 6, 7], [9, 10, 11]), (rgn 0 9, [10, 11]), (rgn 0 10, [11]), (rgn 0 11, [])] (fun L ac w => St 24 w0 [(13, L 0, ptA g1 0), (14, L 1, W x), (15, L 2, W r7), (16, L 3, W r9), (17, L 4, ptA g1 4), (18, L 5, W y), (19, L 6, W r7), (20, L 7, W r5), (21, L 8, W r10), (22, L 9, W r11), (23, L 10, PV r9 r11 false), (1, true, ptA g1 0), (2, true, ptA g2 0), (3, true, ptA g6 0), (4, true, ptA g8 0)] [(true, g1, 79, (TVl x y z)), (true, g2, 42, (cond (L 11) (PVl r9 r11 false) (PVl 0 0 false))), (true, g6, 24, (Wl r5)), (true, g8, 24, (Wl r7))] ac w) (by kernel_rfl) (by kernel_rfl) ?_ ?_ ?_
  ·exact hs.drew.skip.skip.skip.skip.skip.skip.skip.skip.skip.skip.skip
  ·refine ⟨?_, ?_, ?_, ?_, ?_, ?_, ?_, ?_, ?_, ?_, ?_, ?_, trivial⟩
   ·exact fun L ac w hs => pln (op_fieldA hs (some 0) rfl rfl rfl underlying79 rfl sizeOf24 (by decide) rfl fun ac hs => hs)
   ·exact fun L ac w hs => pln (oldd hs 1 0 (W x) isAgg24 sizeOf24 rfl rfl rfl rfl rfl fun ac hs => hs)
   ·exact fun L ac w hs => pln (oldd hs 2 3 (W r7) isAgg24 sizeOf24 rfl rfl rfl rfl rfl fun ac hs => hs)
   ·exact fun L ac w hs => pln (op_call (F := 107) hs (some 3) (v := W r9) rfl rfl rfl rfl (call107 _) (fmul_c x r7 r9 hx lr7 hr9) rfl fun ac w hs => hs)
   ·exact fun L ac w hs => pln (op_fieldA hs (some 4) rfl rfl rfl underlying79 rfl sizeOf24 (by decide) rfl fun ac hs => hs)
   ·exact fun L ac w hs => pln (oldd hs 5 0 (W y) isAgg24 sizeOf24 rfl rfl rfl rfl rfl fun ac hs => hs)
   ·exact fun L ac w hs => pln (oldd hs 6 3 (W r7) isAgg24 sizeOf24 rfl rfl rfl rfl rfl fun ac hs => hs)
   ·exact fun L ac w hs => pln (oldd hs 7 2 (W r5) isAgg24 sizeOf24 rfl rfl rfl rfl rfl fun ac hs => hs)
   ·exact fun L ac w hs => pln (op_call (F := 107) hs (some 8) (v := W r10) rfl rfl rfl rfl (call107 _) (fmul_c r7 r5 r10 lr7 lr5 hr10) rfl fun ac w hs => hs)
   ·exact fun L ac w hs => pln (op_call (F := 107) hs (some 9) (v := W r11) rfl rfl rfl rfl (call107 _) (fmul_c y r10 r11 hy lr10 hr11) rfl fun ac w hs => hs)
   ·exact fun L ac w hs => pln (op_build hs (some 10) (qs := [(0, W r9), (1, W r11)]) (v := PV r9 r11 false) rfl rfl rfl rfl (fun _ => by kernel_rfl) rfl fun ac hs => hs)
   ·exact fun L ac w hs => pln (stoo hs 1 ((PVl r9 r11 false)) sizeOf42 rfl rfl rfl rfl rfl rfl rfl rfl rfl rfl fun w hs => hs)
  intro ac w hs
  try dsimp only [cond_true] at hs
  refine then_n (wp_ret ?_)
  exact bodyPost_ret (res1 rfl (rv_c hs 1 (v := PV r9 r11 false) rfl rfl isAgg42 sizeOf42 rfl)) hs.defers ⟨by obtain ⟨e1, e2, e3⟩ := plain_law hE hp4 hr5 hr7 hr10 hr9 hr11; rw [e1, e2, e3], (hs.bel rfl)⟩
theorem times_c (n a x : Nat) (hn : n < 2 ^ 64) (ha : a < 2 ^ 256) (hx : n * a % Pf = x) (w0 : World) : Calls prog 115 #[nu64 n, W a] w0 fun e w' => e = .returned (W x) ∧ Below w0.heap.size w0 w' := by
 refine enter (n := 9) (args := [nu64 n, W a]) func115 rfl rfl (Nat.le_of_ble_eq_true rfl) fun ac hs => ?_
 refine wp_seq (wp_region_lit ?_)
 refine stp (op_box hs none none (cs := (Wl a)) rfl rfl rfl rfl rfl rfl fun g1 ac w hs => ?_)
 refine stp (op_alloc hs none none (cs := [.int .u64 0, .int .u64 0, .int .u64 0, .int .u64 0]) rfl rfl zeroValue24 (by kernel_rfl) rfl rfl fun g2 ac w hs => ?_)
 refine wpList_nil (then_n (wp_seq ?_))
 replace hs := hs.n0 [0, 3, 4] rfl rfl
 obtain ⟨r3, hr3, lr3⟩ : ∃ z0, n * a % Pf = z0 ∧ z0 < 2 ^ 256 := ⟨_, rfl, modP_lt _⟩
 refine region_inv [([], [1, 3, 4]), ([0], [3, 4]), ([], [3, 4]), ([0, 1, 2], [4]), (rgn 0 4, [])] (fun L ac w => St 9 w0 [(5, L 0, nu64 n), (6, L 1, W n), (7, L 2, W a), (8, L 3, W r3), (0, true, nu64 n), (3, true, ptA g1 0), (4, true, ptA g2 0)] [(true, g1, 24, (Wl a)), (true, g2, 24, (cond (L 4) (Wl r3) [.int .u64 0, .int .u64 0, .int .u64 0, .int .u64 0]))] ac w) (by kernel_rfl) (by kernel_rfl) ?_ ?_ ?_
 ·exact hs.drew.skip.skip.skip.skip
 ·refine ⟨?_, ?_, ?_, ?_, ?_, trivial⟩
  ·exact fun L ac w hs => pln (omv hs 0 rfl rfl rfl fun ac hs => hs)
  ·exact fun L ac w hs => pln (op_call (F := 45) hs (some 1) (v := W n) rfl rfl rfl rfl (call45 _) (fun w => from_any w n (show n < 2 ^ 64 by omega)) rfl fun ac w hs => hs)
  ·exact fun L ac w hs => pln (oldd hs 2 0 (W a) isAgg24 sizeOf24 rfl rfl rfl rfl rfl fun ac hs => hs)
  ·exact fun L ac w hs => pln (op_call (F := 107) hs (some 3) (v := W r3) rfl rfl rfl rfl (call107 _) (fmul_c n a r3 (show n < 2 ^ 256 by omega) ha hr3) rfl fun ac w hs => hs)
  ·exact fun L ac w hs => pln (stoo hs 1 ((Wl r3)) sizeOf24 rfl rfl rfl rfl rfl rfl rfl rfl rfl rfl fun w hs => hs)
 intro ac w hs
 try dsimp only [cond_true] at hs
 refine then_n (wp_ret ?_)
 exact bodyPost_ret (res1 rfl (rv_c hs 1 (v := W r3) rfl rfl isAgg24 sizeOf24 rfl)) hs.defers ⟨by rw [← hx, ← hr3], (hs.bel rfl)⟩
theorem doubled_c (x y z X Y Z : Nat) (hx : x < 2 ^ 256) (hy : y < 2 ^ 256) (hz : z < 2 ^ 256) (hE : dJ x y z = (X, Y, Z)) (w0 : World) : Calls prog 75 #[TV x y z] w0 fun e w' => e = .returned (TV X Y Z) ∧ Below w0.heap.size w0 w' := by
 refine enter (n := 53) (args := [TV x y z]) func75 rfl rfl (Nat.le_of_ble_eq_true rfl) fun ac hs => ?_
 refine wp_seq (wp_region_lit ?_)
 refine stp (op_box hs none none (cs := (TVl x y z)) rfl rfl rfl rfl rfl rfl fun g1 ac w hs => ?_)
 refine stp (op_alloc hs none none (cs := (TVl 0 0 0)) rfl rfl zeroValue79 (by kernel_rfl) rfl rfl fun g2 ac w hs => ?_)
 refine wpList_nil (then_n (wp_seq (wp_seq ?_)))
 by_cases hq3 : z = 0
 ·skip
  refine wp_region_lit ?_
  refine ldd hs 0 (TV x y z) isAgg79 sizeOf79 rfl rfl rfl rfl rfl fun ac hs => ?_
  refine stp (op_call (F := 113) hs none (v := .bool true) rfl rfl rfl rfl (call113 _) (isz_c x y z true hx hy hz (decide_eq_true hq3)) rfl fun ac w hs => ?_)
  refine mvv hs rfl rfl rfl fun ac hs => ?_
  refine lstep (wpO_out hs none rfl rfl (.inl rfl) rfl rfl fun ac hs => ?_)
  refine lstep (wpO_out hs none rfl rfl (.inl rfl) rfl rfl fun ac hs => ?_)
  refine lstep (wpO_out hs none rfl rfl (.inl rfl) rfl rfl fun ac hs => ?_)
  refine lstep (wpO_out hs none rfl rfl (.inl rfl) rfl rfl fun ac hs => ?_)
  refine stp (op_pickT hs none rfl rfl rfl rfl rfl fun ac hs => ?_)
  refine wpList_nil (then_n ?_)
  refine wp_cond_true (hs.ev rfl) ?_
  refine wp_seq ?_
  replace hs := hs.n0 [1, 2] rfl rfl
  refine wp_region_lit ?_
  refine stp (op_call (F := 66) hs none (v := PV 0 0 true) rfl rfl rfl rfl (call66 _) zero_c rfl fun ac w hs => ?_)
  refine stp (op_call (F := 72) hs none (v := TV 1 1 0) rfl rfl rfl rfl (call72 _) (weigh_c 0 0 true 1 1 0 (by decide) (by decide) rfl rfl rfl) rfl fun ac w hs => ?_)
  refine stp (stoo hs 1 ((TVl 1 1 0)) sizeOf79 rfl rfl rfl rfl rfl rfl rfl rfl rfl rfl fun w hs => ?_)
  refine wpList_nil (then_n (wp_ret (then_r ?_)))
  exact bodyPost_ret (res1 rfl (rv_c hs 1 (v := TV 1 1 0) rfl rfl isAgg79 sizeOf79 rfl)) hs.defers ⟨by obtain ⟨rfl, rfl, rfl⟩ := tri3 ((dJ_yes (.inl hq3)).symm.trans hE); rfl, (hs.bel rfl)⟩
 ·skip
  by_cases hq4 : y = 0
  ·skip
   refine wp_region_lit ?_
   refine ldd hs 0 (TV x y z) isAgg79 sizeOf79 rfl rfl rfl rfl rfl fun ac hs => ?_
   refine stp (op_call (F := 113) hs none (v := .bool false) rfl rfl rfl rfl (call113 _) (isz_c x y z false hx hy hz (decide_eq_false hq3)) rfl fun ac w hs => ?_)
   refine mvv hs rfl rfl rfl fun ac hs => ?_
   refine lstep (wpO_in hs rfl rfl rfl (op_fieldA hs none rfl rfl rfl underlying79 rfl sizeOf24 (by decide) rfl fun ac hs => ?_))
   refine lstep (wpO_in hs rfl rfl rfl (op_load hs none 0 (v := W y) rfl rfl rfl rfl isAgg24 sizeOf24 rfl rfl fun ac hs => ?_))
   refine lstep (wpO_in hs rfl rfl rfl (op_build hs none (qs := []) (v := .agg #[.int .u64 0, .int .u64 0, .int .u64 0, .int .u64 0]) rfl rfl rfl rfl (fun _ => by kernel_rfl) rfl fun ac hs => ?_))
   refine lstep (wpO_in hs rfl rfl rfl (op_bin hs none (v := .bool true) rfl rfl rfl rfl (fun w => run_eqGuard_agg w .eql 24 _ _ _ _ Tryz.eqGuardType24) (eqlW y 0 hy (by decide) true (decide_eq_true hq4)) rfl fun ac hs => ?_))
   refine stp (op_pickF hs none rfl rfl rfl rfl rfl fun ac hs => ?_)
   refine wpList_nil (then_n ?_)
   refine wp_cond_true (hs.ev rfl) ?_
   refine wp_seq ?_
   replace hs := hs.n0 [1, 2] rfl rfl
   refine wp_region_lit ?_
   refine stp (op_call (F := 66) hs none (v := PV 0 0 true) rfl rfl rfl rfl (call66 _) zero_c rfl fun ac w hs => ?_)
   refine stp (op_call (F := 72) hs none (v := TV 1 1 0) rfl rfl rfl rfl (call72 _) (weigh_c 0 0 true 1 1 0 (by decide) (by decide) rfl rfl rfl) rfl fun ac w hs => ?_)
   refine stp (stoo hs 1 ((TVl 1 1 0)) sizeOf79 rfl rfl rfl rfl rfl rfl rfl rfl rfl rfl fun w hs => ?_)
   refine wpList_nil (then_n (wp_ret (then_r ?_)))
   exact bodyPost_ret (res1 rfl (rv_c hs 1 (v := TV 1 1 0) rfl rfl isAgg79 sizeOf79 rfl)) hs.defers ⟨by obtain ⟨rfl, rfl, rfl⟩ := tri3 ((dJ_yes (.inr hq4)).symm.trans hE); rfl, (hs.bel rfl)⟩
  ·skip
   refine wp_region_lit ?_
   refine ldd hs 0 (TV x y z) isAgg79 sizeOf79 rfl rfl rfl rfl rfl fun ac hs => ?_
   refine stp (op_call (F := 113) hs none (v := .bool false) rfl rfl rfl rfl (call113 _) (isz_c x y z false hx hy hz (decide_eq_false hq3)) rfl fun ac w hs => ?_)
   refine mvv hs rfl rfl rfl fun ac hs => ?_
   refine lstep (wpO_in hs rfl rfl rfl (op_fieldA hs none rfl rfl rfl underlying79 rfl sizeOf24 (by decide) rfl fun ac hs => ?_))
   refine lstep (wpO_in hs rfl rfl rfl (op_load hs none 0 (v := W y) rfl rfl rfl rfl isAgg24 sizeOf24 rfl rfl fun ac hs => ?_))
   refine lstep (wpO_in hs rfl rfl rfl (op_build hs none (qs := []) (v := .agg #[.int .u64 0, .int .u64 0, .int .u64 0, .int .u64 0]) rfl rfl rfl rfl (fun _ => by kernel_rfl) rfl fun ac hs => ?_))
   refine lstep (wpO_in hs rfl rfl rfl (op_bin hs none (v := .bool false) rfl rfl rfl rfl (fun w => run_eqGuard_agg w .eql 24 _ _ _ _ Tryz.eqGuardType24) (eqlW y 0 hy (by decide) false (decide_eq_false hq4)) rfl fun ac hs => ?_))
   refine stp (op_pickF hs none rfl rfl rfl rfl rfl fun ac hs => ?_)
   refine wpList_nil (then_n ?_)
   refine wp_cond_false (hs.ev rfl) ?_
   refine wp_skip (then_n (wp_seq ?_))
   replace hs := hs.n0 [1, 2] rfl rfl
   refine wp_region_lit ?_
   refine stp (op_fieldA hs none rfl rfl rfl underlying79 rfl sizeOf24 (by decide) rfl fun ac hs => ?_)
   refine ldd hs 0 (W y) isAgg24 sizeOf24 rfl rfl rfl rfl rfl fun ac hs => ?_
   obtain ⟨r5, hr5, lr5⟩ : ∃ z0, y * y % Pf = z0 ∧ z0 < 2 ^ 256 := ⟨_, rfl, modP_lt _⟩
   refine stp (op_call (F := 111) hs none (v := W r5) rfl rfl rfl rfl (call111 _) (sq_c y r5 hy hr5) rfl fun ac w hs => ?_)
   refine stp (op_alloc hs none none (cs := [.int .u64 0, .int .u64 0, .int .u64 0, .int .u64 0]) rfl rfl zeroValue24 (by kernel_rfl) rfl rfl fun g6 ac w hs => ?_)
   refine stp (stoo hs 2 ((Wl r5)) sizeOf24 rfl rfl rfl rfl rfl rfl rfl rfl rfl rfl fun w hs => ?_)
   refine wpList_nil (then_n (wp_seq (wp_region_lit ?_)))
   refine stp (op_fieldA hs none rfl rfl rfl underlying79 rfl sizeOf24 (by decide) rfl fun ac hs => ?_)
   refine ldd hs 0 (W x) isAgg24 sizeOf24 rfl rfl rfl rfl rfl fun ac hs => ?_
   refine ldd hs 2 (W r5) isAgg24 sizeOf24 rfl rfl rfl rfl rfl fun ac hs => ?_
   obtain ⟨r7, hr7, lr7⟩ : ∃ z0, x * r5 % Pf = z0 ∧ z0 < 2 ^ 256 := ⟨_, rfl, modP_lt _⟩
   refine stp (op_call (F := 107) hs none (v := W r7) rfl rfl rfl rfl (call107 _) (fmul_c x r5 r7 hx lr5 hr7) rfl fun ac w hs => ?_)
   obtain ⟨r8, hr8, lr8⟩ : ∃ z0, 4 * r7 % Pf = z0 ∧ z0 < 2 ^ 256 := ⟨_, rfl, modP_lt _⟩
   refine stp (op_call (F := 115) hs none (v := W r8) rfl rfl rfl rfl (call115 _) (times_c 4 r7 r8 (by decide) lr7 hr8) rfl fun ac w hs => ?_)
   refine stp (op_alloc hs none none (cs := [.int .u64 0, .int .u64 0, .int .u64 0, .int .u64 0]) rfl rfl zeroValue24 (by kernel_rfl) rfl rfl fun g9 ac w hs => ?_)
   refine stp (stoo hs 3 ((Wl r8)) sizeOf24 rfl rfl rfl rfl rfl rfl rfl rfl rfl rfl fun w hs => ?_)
   refine wpList_nil (then_n (wp_seq ?_))
   replace hs := hs.n0 [1, 2, 3, 4] rfl rfl
   refine wp_region_lit ?_
   refine stp (op_fieldA hs none rfl rfl rfl underlying79 rfl sizeOf24 (by decide) rfl fun ac hs => ?_)
   refine ldd hs 0 (W x) isAgg24 sizeOf24 rfl rfl rfl rfl rfl fun ac hs => ?_
   obtain ⟨r10, hr10, lr10⟩ : ∃ z0, x * x % Pf = z0 ∧ z0 < 2 ^ 256 := ⟨_, rfl, modP_lt _⟩
   refine stp (op_call (F := 111) hs none (v := W r10) rfl rfl rfl rfl (call111 _) (sq_c x r10 hx hr10) rfl fun ac w hs => ?_)
   obtain ⟨r11, hr11, lr11⟩ : ∃ z0, 3 * r10 % Pf = z0 ∧ z0 < 2 ^ 256 := ⟨_, rfl, modP_lt _⟩
   refine stp (op_call (F := 115) hs none (v := W r11) rfl rfl rfl rfl (call115 _) (times_c 3 r10 r11 (by decide) lr10 hr11) rfl fun ac w hs => ?_)
   refine stp (op_alloc hs none none (cs := [.int .u64 0, .int .u64 0, .int .u64 0, .int .u64 0]) rfl rfl zeroValue24 (by kernel_rfl) rfl rfl fun g12 ac w hs => ?_)
   refine stp (stoo hs 4 ((Wl r11)) sizeOf24 rfl rfl rfl rfl rfl rfl rfl rfl rfl rfl fun w hs => ?_)
   refine wpList_nil (then_n (wp_seq ?_))
   replace hs := hs.n0 [1, 2, 3, 4, 5] rfl rfl
   obtain ⟨r13, hr13, lr13⟩ : ∃ z0, r11 * r11 % Pf = z0 ∧ z0 < 2 ^ 256 := ⟨_, rfl, modP_lt _⟩
   obtain ⟨r14, hr14, lr14⟩ : ∃ z0, 2 * r8 % Pf = z0 ∧ z0 < 2 ^ 256 := ⟨_, rfl, modP_lt _⟩
   obtain ⟨r15, hr15, lr15⟩ : ∃ z0, fsub r13 r14 = z0 ∧ z0 < 2 ^ 256 := ⟨_, rfl, fsub_lt _ _⟩
   refine region_inv [([], [1, 3, 4, 6]), ([0], [3, 4, 6]), ([], [3, 4, 6]), ([0, 1, 2], [4, 6]), (rgn 0 4, [6]), ([], [6]), (rgn 0 6, [])] (fun L ac w => ∃ (g16 : Nat), St 53 w0 [(30, L 0, W r11), (31, L 1, W r13), (32, L 2, W r8), (33, L 3, W r14), (34, L 4, W r15), (6, L 5, ptA g16 0), (1, true, ptA g1 0), (2, true, ptA g2 0), (3, true, ptA g6 0), (4, true, ptA g9 0), (5, true, ptA g12 0)] [(true, g1, 79, (TVl x y z)), (true, g2, 79, (TVl 0 0 0)), (true, g6, 24, (Wl r5)), (true, g9, 24, (Wl r8)), (true, g12, 24, (Wl r11)), (L 5, g16, 24, (cond (L 6) (Wl r15) [.int .u64 0, .int .u64 0, .int .u64 0, .int .u64 0]))] ac w) (by kernel_rfl) (by kernel_rfl) ?_ ?_ ?_
   ·exact ⟨0, hs.drew.skip.skip.skip.skip.skip.skip.pad⟩
   ·refine ⟨?_, ?_, ?_, ?_, ?_, ?_, ?_, trivial⟩
    ·exact fun L ac w ⟨g16, hs⟩ => pln (oldd hs 0 4 (W r11) isAgg24 sizeOf24 rfl rfl rfl rfl rfl fun ac hs => ⟨g16, hs⟩)
    ·exact fun L ac w ⟨g16, hs⟩ => pln (op_call (F := 111) hs (some 1) (v := W r13) rfl rfl rfl rfl (call111 _) (sq_c r11 r13 lr11 hr13) rfl fun ac w hs => ⟨g16, hs⟩)
    ·exact fun L ac w ⟨g16, hs⟩ => pln (oldd hs 2 3 (W r8) isAgg24 sizeOf24 rfl rfl rfl rfl rfl fun ac hs => ⟨g16, hs⟩)
    ·exact fun L ac w ⟨g16, hs⟩ => pln (op_call (F := 115) hs (some 3) (v := W r14) rfl rfl rfl rfl (call115 _) (times_c 2 r8 r14 (by decide) lr8 hr14) rfl fun ac w hs => ⟨g16, hs⟩)
    ·exact fun L ac w ⟨g16, hs⟩ => pln (op_call (F := 114) hs (some 4) (v := W r15) rfl rfl rfl rfl (call114 _) (fsub_c r13 r14 r15 lr13 lr14 hr15) rfl fun ac w hs => ⟨g16, hs⟩)
    ·exact fun L ac w ⟨g16, hs⟩ => pln (op_alloc hs (some 5) (some 5) (cs := [.int .u64 0, .int .u64 0, .int .u64 0, .int .u64 0]) rfl rfl zeroValue24 (by kernel_rfl) rfl rfl fun g16 ac w hs => ⟨g16, hs⟩)
    ·exact fun L ac w ⟨g16, hs⟩ => pln (stoo hs 5 ((Wl r15)) sizeOf24 rfl rfl rfl rfl rfl rfl rfl rfl rfl rfl fun w hs => ⟨g16, hs⟩)
   intro ac w ⟨g16, hs⟩
   try dsimp only [cond_true] at hs
   refine then_n (wp_seq ?_)
   replace hs := hs.n0 [1, 2, 3, 4, 5, 6] rfl rfl
   obtain ⟨r17, hr17, lr17⟩ : ∃ z0, fsub r8 r15 = z0 ∧ z0 < 2 ^ 256 := ⟨_, rfl, fsub_lt _ _⟩
   obtain ⟨r18, hr18, lr18⟩ : ∃ z0, r11 * r17 % Pf = z0 ∧ z0 < 2 ^ 256 := ⟨_, rfl, modP_lt _⟩
   obtain ⟨r19, hr19, lr19⟩ : ∃ z0, r5 * r5 % Pf = z0 ∧ z0 < 2 ^ 256 := ⟨_, rfl, modP_lt _⟩
   obtain ⟨r20, hr20, lr20⟩ : ∃ z0, 8 * r19 % Pf = z0 ∧ z0 < 2 ^ 256 := ⟨_, rfl, modP_lt _⟩
   obtain ⟨r21, hr21, lr21⟩ : ∃ z0, fsub r18 r20 = z0 ∧ z0 < 2 ^ 256 := ⟨_, rfl, fsub_lt _ _⟩
   refine region_inv [([], [4, 6, 7, 8, 10]), ([], [3, 4, 6, 7, 8, 10]), ([], [3, 4, 6, 7, 8, 10]), ([1, 2], [4, 6, 7, 8, 10]), (rgn 0 4, [6, 7, 8, 10]), ([], [6, 7, 8, 10]), (rgn 0 6, [7, 8, 10]), (rgn 0 7, [8, 10]), (rgn 0 8, [10]), ([], [10]), (rgn 0 10, [])] (fun L ac w => ∃ (g22 : Nat), St 53 w0 [(35, L 0, W r11), (36, L 1, W r8), (37, L 2, W r15), (38, L 3, W r17), (39, L 4, W r18), (40, L 5, W r5), (41, L 6, W r19), (42, L 7, W r20), (43, L 8, W r21), (7, L 9, ptA g22 0), (1, true, ptA g1 0), (2, true, ptA g2 0), (3, true, ptA g6 0), (4, true, ptA g9 0), (5, true, ptA g12 0), (6, true, ptA g16 0)] [(true, g1, 79, (TVl x y z)), (true, g2, 79, (TVl 0 0 0)), (true, g6, 24, (Wl r5)), (true, g9, 24, (Wl r8)), (true, g12, 24, (Wl r11)), (true, g16, 24, (Wl r15)), (L 9, g22, 24, (cond (L 10) (Wl r21) [.int .u64 0, .int .u64 0, .int .u64 0, .int .u64 0]))] ac w) (by kernel_rfl) (by kernel_rfl) ?_ ?_ ?_
   ·exact ⟨0, hs.drew.skip.skip.skip.skip.skip.skip.skip.skip.skip.skip.pad⟩
   ·refine ⟨?_, ?_, ?_, ?_, ?_, ?_, ?_, ?_, ?_, ?_, ?_, trivial⟩
    ·exact fun L ac w ⟨g22, hs⟩ => pln (oldd hs 0 4 (W r11) isAgg24 sizeOf24 rfl rfl rfl rfl rfl fun ac hs => ⟨g22, hs⟩)
    ·exact fun L ac w ⟨g22, hs⟩ => pln (oldd hs 1 3 (W r8) isAgg24 sizeOf24 rfl rfl rfl rfl rfl fun ac hs => ⟨g22, hs⟩)
    ·exact fun L ac w ⟨g22, hs⟩ => pln (oldd hs 2 5 (W r15) isAgg24 sizeOf24 rfl rfl rfl rfl rfl fun ac hs => ⟨g22, hs⟩)
    ·exact fun L ac w ⟨g22, hs⟩ => pln (op_call (F := 114) hs (some 3) (v := W r17) rfl rfl rfl rfl (call114 _) (fsub_c r8 r15 r17 lr8 lr15 hr17) rfl fun ac w hs => ⟨g22, hs⟩)
    ·exact fun L ac w ⟨g22, hs⟩ => pln (op_call (F := 107) hs (some 4) (v := W r18) rfl rfl rfl rfl (call107 _) (fmul_c r11 r17 r18 lr11 lr17 hr18) rfl fun ac w hs => ⟨g22, hs⟩)
    ·exact fun L ac w ⟨g22, hs⟩ => pln (oldd hs 5 2 (W r5) isAgg24 sizeOf24 rfl rfl rfl rfl rfl fun ac hs => ⟨g22, hs⟩)
    ·exact fun L ac w ⟨g22, hs⟩ => pln (op_call (F := 111) hs (some 6) (v := W r19) rfl rfl rfl rfl (call111 _) (sq_c r5 r19 lr5 hr19) rfl fun ac w hs => ⟨g22, hs⟩)
    ·exact fun L ac w ⟨g22, hs⟩ => pln (op_call (F := 115) hs (some 7) (v := W r20) rfl rfl rfl rfl (call115 _) (times_c 8 r19 r20 (by decide) lr19 hr20) rfl fun ac w hs => ⟨g22, hs⟩)
    ·exact fun L ac w ⟨g22, hs⟩ => pln (op_call (F := 114) hs (some 8) (v := W r21) rfl rfl rfl rfl (call114 _) (fsub_c r18 r20 r21 lr18 lr20 hr21) rfl fun ac w hs => ⟨g22, hs⟩)
    ·exact fun L ac w ⟨g22, hs⟩ => pln (op_alloc hs (some 9) (some 6) (cs := [.int .u64 0, .int .u64 0, .int .u64 0, .int .u64 0]) rfl rfl zeroValue24 (by kernel_rfl) rfl rfl fun g22 ac w hs => ⟨g22, hs⟩)
    ·exact fun L ac w ⟨g22, hs⟩ => pln (stoo hs 6 ((Wl r21)) sizeOf24 rfl rfl rfl rfl rfl rfl rfl rfl rfl rfl fun w hs => ⟨g22, hs⟩)
   intro ac w ⟨g22, hs⟩
   try dsimp only [cond_true] at hs
   refine then_n (wp_seq ?_)
   replace hs := hs.n0 [1, 2, 6, 7] rfl rfl
   obtain ⟨r23, hr23, lr23⟩ : ∃ z0, y * z % Pf = z0 ∧ z0 < 2 ^ 256 := ⟨_, rfl, modP_lt _⟩
   obtain ⟨r24, hr24, lr24⟩ : ∃ z0, 2 * r23 % Pf = z0 ∧ z0 < 2 ^ 256 := ⟨_, rfl, modP_lt _⟩
   refine region_inv [([], [8, 9]), ([], [8, 9]), ([], [3, 6, 7, 8, 9]), ([2], rgn 6 4), ([], rgn 5 5), ([4], rgn 6 4), (rgn 2 4, [7, 8, 9]), (rgn 2 5, [8, 9]), (rgn 0 8, [9]), (rgn 0 9, [])] (fun L ac w => St 53 w0 [(44, L 0, W r15), (45, L 1, W r21), (46, L 2, ptA g1 4), (47, L 3, W y), (48, L 4, ptA g1 8), (49, L 5, W z), (50, L 6, W r23), (51, L 7, W r24), (52, L 8, TV r15 r21 r24), (1, true, ptA g1 0), (2, true, ptA g2 0), (6, true, ptA g16 0), (7, true, ptA g22 0)] [(true, g1, 79, (TVl x y z)), (true, g2, 79, (cond (L 9) (TVl r15 r21 r24) (TVl 0 0 0))), (true, g6, 24, (Wl r5)), (true, g9, 24, (Wl r8)), (true, g12, 24, (Wl r11)), (true, g16, 24, (Wl r15)), (true, g22, 24, (Wl r21))] ac w) (by kernel_rfl) (by kernel_rfl) ?_ ?_ ?_
   ·exact hs.drew.skip.skip.skip.skip.skip.skip.skip.skip.skip
   ·refine ⟨?_, ?_, ?_, ?_, ?_, ?_, ?_, ?_, ?_, ?_, trivial⟩
    ·exact fun L ac w hs => pln (oldd hs 0 5 (W r15) isAgg24 sizeOf24 rfl rfl rfl rfl rfl fun ac hs => hs)
    ·exact fun L ac w hs => pln (oldd hs 1 6 (W r21) isAgg24 sizeOf24 rfl rfl rfl rfl rfl fun ac hs => hs)
    ·exact fun L ac w hs => pln (op_fieldA hs (some 2) rfl rfl rfl underlying79 rfl sizeOf24 (by decide) rfl fun ac hs => hs)
    ·exact fun L ac w hs => pln (oldd hs 3 0 (W y) isAgg24 sizeOf24 rfl rfl rfl rfl rfl fun ac hs => hs)
    ·exact fun L ac w hs => pln (op_fieldA hs (some 4) rfl rfl rfl underlying79 rfl sizeOf24 (by decide) rfl fun ac hs => hs)
    ·exact fun L ac w hs => pln (oldd hs 5 0 (W z) isAgg24 sizeOf24 rfl rfl rfl rfl rfl fun ac hs => hs)
    ·exact fun L ac w hs => pln (op_call (F := 107) hs (some 6) (v := W r23) rfl rfl rfl rfl (call107 _) (fmul_c y z r23 hy hz hr23) rfl fun ac w hs => hs)
    ·exact fun L ac w hs => pln (op_call (F := 115) hs (some 7) (v := W r24) rfl rfl rfl rfl (call115 _) (times_c 2 r23 r24 (by decide) lr23 hr24) rfl fun ac w hs => hs)
    ·exact fun L ac w hs => pln (op_build hs (some 8) (qs := [(0, W r15), (1, W r21), (2, W r24)]) (v := TV r15 r21 r24) rfl rfl rfl rfl (fun _ => by kernel_rfl) rfl fun ac hs => hs)
    ·exact fun L ac w hs => pln (stoo hs 1 ((TVl r15 r21 r24)) sizeOf79 rfl rfl rfl rfl rfl rfl rfl rfl rfl rfl fun w hs => hs)
   intro ac w hs
   try dsimp only [cond_true] at hs
   refine then_n (wp_ret ?_)
   exact bodyPost_ret (res1 rfl (rv_c hs 1 (v := TV r15 r21 r24) rfl rfl isAgg79 sizeOf79 rfl)) hs.defers ⟨by obtain ⟨rfl, rfl, rfl⟩ := tri3 ((dJ_no hq3 hq4).symm.trans hE); subst hr5 hr7 hr8 hr10 hr11 hr13 hr14 hr15 hr17 hr18 hr19 hr20 hr21 hr23 hr24; rfl, (hs.bel rfl)⟩
theorem wplus_c (x1 y1 z1 x2 y2 z2 X Y Z : Nat) (a1 : x1 < 2 ^ 256) (a2 : y1 < 2 ^ 256) (a3 : z1 < 2 ^ 256) (b1 : x2 < 2 ^ 256) (b2 : y2 < 2 ^ 256) (b3 : z2 < 2 ^ 256) (hE : sJ x1 y1 z1 x2 y2 z2 = (X, Y, Z)) (w0 : World) : Calls prog 73 #[TV x1 y1 z1, TV x2 y2 z2] w0 fun e w' => e = .returned (TV X Y Z) ∧ Below w0.heap.size w0 w' := by
 refine enter (n := 104) (args := [TV x1 y1 z1, TV x2 y2 z2]) func73 rfl rfl (Nat.le_of_ble_eq_true rfl) fun ac hs => ?_
 refine wp_seq (wp_region_lit ?_)
 refine stp (op_box hs none none (cs := (TVl x1 y1 z1)) rfl rfl rfl rfl rfl rfl fun g1 ac w hs => ?_)
 refine stp (op_box hs none none (cs := (TVl x2 y2 z2)) rfl rfl rfl rfl rfl rfl fun g2 ac w hs => ?_)
 refine stp (op_alloc hs none none (cs := (TVl 0 0 0)) rfl rfl zeroValue79 (by kernel_rfl) rfl rfl fun g3 ac w hs => ?_)
 refine wpList_nil (then_n (wp_seq (wp_block (wp_seq (wp_region_lit ?_)))))
 refine ldd hs 0 (TV x1 y1 z1) isAgg79 sizeOf79 rfl rfl rfl rfl rfl fun ac hs => ?_
 refine stp (op_call (F := 113) hs none (v := .bool (decide (z1 = 0))) rfl rfl rfl rfl (call113 _) (isz_c x1 y1 z1 _ a1 a2 a3 rfl) rfl fun ac w hs => ?_)
 refine asg hs rfl rfl rfl fun ac hs => ?_
 refine wpList_nil (then_n ?_)
 refine wp_cond_split (hs.ev rfl) (fun hc => ?_) (fun hc => ?_)
 ·skip
  have hp4 := of_decide_eq_true hc
  refine wp_seq ?_
  replace hs := hs.n0 [2, 3, 4] rfl rfl
  refine wp_region_lit ?_
  refine ldd hs 1 (TV x2 y2 z2) isAgg79 sizeOf79 rfl rfl rfl rfl rfl fun ac hs => ?_
  refine stp (stoo hs 2 ((TVl x2 y2 z2)) sizeOf79 rfl rfl rfl rfl rfl rfl rfl rfl rfl rfl fun w hs => ?_)
  refine wpList_nil (then_n (wp_ret (blk_r (then_r ?_))))
  exact bodyPost_ret (res1 rfl (rv_c hs 2 (v := TV x2 y2 z2) rfl rfl isAgg79 sizeOf79 rfl)) hs.defers ⟨by obtain ⟨rfl, rfl, rfl⟩ := tri3 ((sJ_1 hp4).symm.trans hE); rfl, (hs.bel rfl)⟩
 ·skip
  have hp5 := of_decide_eq_false hc
  refine wp_seq ?_
  replace hs := hs.n0 [2, 3, 4] rfl rfl
  refine wp_region_lit ?_
  refine ldd hs 1 (TV x2 y2 z2) isAgg79 sizeOf79 rfl rfl rfl rfl rfl fun ac hs => ?_
  refine stp (op_call (F := 113) hs none (v := .bool (decide (z2 = 0))) rfl rfl rfl rfl (call113 _) (isz_c x2 y2 z2 _ b1 b2 b3 rfl) rfl fun ac w hs => ?_)
  refine asg hs rfl rfl rfl fun ac hs => ?_
  refine wpList_nil (then_n ?_)
  refine wp_cond_split (hs.ev rfl) (fun hc => ?_) (fun hc => ?_)
  ·skip
   have hp6 := of_decide_eq_true hc
   refine wp_seq (wp_region_lit ?_)
   refine ldd hs 0 (TV x1 y1 z1) isAgg79 sizeOf79 rfl rfl rfl rfl rfl fun ac hs => ?_
   refine stp (stoo hs 2 ((TVl x1 y1 z1)) sizeOf79 rfl rfl rfl rfl rfl rfl rfl rfl rfl rfl fun w hs => ?_)
   refine wpList_nil (then_n (wp_ret (blk_r (then_r ?_))))
   exact bodyPost_ret (res1 rfl (rv_c hs 2 (v := TV x1 y1 z1) rfl rfl isAgg79 sizeOf79 rfl)) hs.defers ⟨by obtain ⟨rfl, rfl, rfl⟩ := tri3 ((sJ_2 hp5 hp6).symm.trans hE); rfl, (hs.bel rfl)⟩
  ·skip
   have hp7 := of_decide_eq_false hc
   refine wp_skip (blk_n (then_n (wp_seq ?_)))
   replace hs := hs.n0 [2, 3, 4] rfl rfl
   obtain ⟨r8, hr8, lr8⟩ : ∃ z0, z1 * z1 % Pf = z0 ∧ z0 < 2 ^ 256 := ⟨_, rfl, modP_lt _⟩
   obtain ⟨r9, hr9, lr9⟩ : ∃ z0, z2 * z2 % Pf = z0 ∧ z0 < 2 ^ 256 := ⟨_, rfl, modP_lt _⟩
   refine region_inv [([], [1, 2, 5, 8, 9]), ([0], [2, 5, 8, 9]), ([0, 1], [5, 8, 9]), ([], [4, 5, 8, 9]), ([3], [5, 8, 9]), (rgn 0 5, [8, 9]), ([], [8, 9]), ([], [8, 9]), (rgn 0 8, [9]), (rgn 0 9, [])] (fun L ac w => ∃ (g10 : Nat) (g11 : Nat), St 104 w0 [(26, L 0, ptA g1 8), (27, L 1, W z1), (28, L 2, W r8), (29, L 3, ptA g2 8), (30, L 4, W z2), (31, L 5, W r9), (5, L 6, ptA g10 0), (6, L 7, ptA g11 0), (2, true, ptA g1 0), (3, true, ptA g2 0), (4, true, ptA g3 0)] [(true, g1, 79, (TVl x1 y1 z1)), (true, g2, 79, (TVl x2 y2 z2)), (true, g3, 79, (TVl 0 0 0)), (L 6, g10, 24, (cond (L 8) (Wl r8) [.int .u64 0, .int .u64 0, .int .u64 0, .int .u64 0])), (L 7, g11, 24, (cond (L 9) (Wl r9) [.int .u64 0, .int .u64 0, .int .u64 0, .int .u64 0]))] ac w) (by kernel_rfl) (by kernel_rfl) ?_ ?_ ?_
   ·exact ⟨0, 0, hs.drew.skip.skip.skip.skip.skip.skip.skip.skip.pad.pad⟩
   ·refine ⟨?_, ?_, ?_, ?_, ?_, ?_, ?_, ?_, ?_, ?_, trivial⟩
    ·exact fun L ac w ⟨g10, g11, hs⟩ => pln (op_fieldA hs (some 0) rfl rfl rfl underlying79 rfl sizeOf24 (by decide) rfl fun ac hs => ⟨g10, g11, hs⟩)
    ·exact fun L ac w ⟨g10, g11, hs⟩ => pln (oldd hs 1 0 (W z1) isAgg24 sizeOf24 rfl rfl rfl rfl rfl fun ac hs => ⟨g10, g11, hs⟩)
    ·exact fun L ac w ⟨g10, g11, hs⟩ => pln (op_call (F := 111) hs (some 2) (v := W r8) rfl rfl rfl rfl (call111 _) (sq_c z1 r8 a3 hr8) rfl fun ac w hs => ⟨g10, g11, hs⟩)
    ·exact fun L ac w ⟨g10, g11, hs⟩ => pln (op_fieldA hs (some 3) rfl rfl rfl underlying79 rfl sizeOf24 (by decide) rfl fun ac hs => ⟨g10, g11, hs⟩)
    ·exact fun L ac w ⟨g10, g11, hs⟩ => pln (oldd hs 4 1 (W z2) isAgg24 sizeOf24 rfl rfl rfl rfl rfl fun ac hs => ⟨g10, g11, hs⟩)
    ·exact fun L ac w ⟨g10, g11, hs⟩ => pln (op_call (F := 111) hs (some 5) (v := W r9) rfl rfl rfl rfl (call111 _) (sq_c z2 r9 b3 hr9) rfl fun ac w hs => ⟨g10, g11, hs⟩)
    ·exact fun L ac w ⟨g10, g11, hs⟩ => pln (op_alloc hs (some 6) (some 3) (cs := [.int .u64 0, .int .u64 0, .int .u64 0, .int .u64 0]) rfl rfl zeroValue24 (by kernel_rfl) rfl rfl fun g10 ac w hs => ⟨g10, g11, hs⟩)
    ·exact fun L ac w ⟨g10, g11, hs⟩ => pln (op_alloc hs (some 7) (some 4) (cs := [.int .u64 0, .int .u64 0, .int .u64 0, .int .u64 0]) rfl rfl zeroValue24 (by kernel_rfl) rfl rfl fun g11 ac w hs => ⟨g10, g11, hs⟩)
    ·exact fun L ac w ⟨g10, g11, hs⟩ => pln (stoo hs 3 ((Wl r8)) sizeOf24 rfl rfl rfl rfl rfl rfl rfl rfl rfl rfl fun w hs => ⟨g10, g11, hs⟩)
    ·exact fun L ac w ⟨g10, g11, hs⟩ => pln (stoo hs 4 ((Wl r9)) sizeOf24 rfl rfl rfl rfl rfl rfl rfl rfl rfl rfl fun w hs => ⟨g10, g11, hs⟩)
   intro ac w ⟨g10, g11, hs⟩
   try dsimp only [cond_true] at hs
   refine then_n (wp_seq ?_)
   replace hs := hs.n0 [2, 3, 4, 5, 6] rfl rfl
   obtain ⟨r12, hr12, lr12⟩ : ∃ z0, x1 * r9 % Pf = z0 ∧ z0 < 2 ^ 256 := ⟨_, rfl, modP_lt _⟩
   obtain ⟨r13, hr13, lr13⟩ : ∃ z0, x2 * r8 % Pf = z0 ∧ z0 < 2 ^ 256 := ⟨_, rfl, modP_lt _⟩
   refine region_inv [([], [1, 3, 7, 10, 11]), ([0], [3, 7, 10, 11]), ([], [3, 7, 10, 11]), ([0, 1, 2], [7, 10, 11]), ([], [5, 7, 10, 11]), ([4], [7, 10, 11]), ([], [7, 10, 11]), (rgn 0 7, [10, 11]), ([], [10, 11]), ([], [10, 11]), (rgn 0 10, [11]), (rgn 0 11, [])] (fun L ac w => ∃ (g14 : Nat) (g15 : Nat), St 104 w0 [(32, L 0, ptA g1 0), (33, L 1, W x1), (34, L 2, W r9), (35, L 3, W r12), (36, L 4, ptA g2 0), (37, L 5, W x2), (38, L 6, W r8), (39, L 7, W r13), (7, L 8, ptA g14 0), (8, L 9, ptA g15 0), (2, true, ptA g1 0), (3, true, ptA g2 0), (4, true, ptA g3 0), (5, true, ptA g10 0), (6, true, ptA g11 0)] [(true, g1, 79, (TVl x1 y1 z1)), (true, g2, 79, (TVl x2 y2 z2)), (true, g3, 79, (TVl 0 0 0)), (true, g10, 24, (Wl r8)), (true, g11, 24, (Wl r9)), (L 8, g14, 24, (cond (L 10) (Wl r12) [.int .u64 0, .int .u64 0, .int .u64 0, .int .u64 0])), (L 9, g15, 24, (cond (L 11) (Wl r13) [.int .u64 0, .int .u64 0, .int .u64 0, .int .u64 0]))] ac w) (by kernel_rfl) (by kernel_rfl) ?_ ?_ ?_
   ·exact ⟨0, 0, hs.drew.skip.skip.skip.skip.skip.skip.skip.skip.skip.skip.pad.pad⟩
   ·refine ⟨?_, ?_, ?_, ?_, ?_, ?_, ?_, ?_, ?_, ?_, ?_, ?_, trivial⟩
    ·exact fun L ac w ⟨g14, g15, hs⟩ => pln (op_fieldA hs (some 0) rfl rfl rfl underlying79 rfl sizeOf24 (by decide) rfl fun ac hs => ⟨g14, g15, hs⟩)
    ·exact fun L ac w ⟨g14, g15, hs⟩ => pln (oldd hs 1 0 (W x1) isAgg24 sizeOf24 rfl rfl rfl rfl rfl fun ac hs => ⟨g14, g15, hs⟩)
    ·exact fun L ac w ⟨g14, g15, hs⟩ => pln (oldd hs 2 4 (W r9) isAgg24 sizeOf24 rfl rfl rfl rfl rfl fun ac hs => ⟨g14, g15, hs⟩)
    ·exact fun L ac w ⟨g14, g15, hs⟩ => pln (op_call (F := 107) hs (some 3) (v := W r12) rfl rfl rfl rfl (call107 _) (fmul_c x1 r9 r12 a1 lr9 hr12) rfl fun ac w hs => ⟨g14, g15, hs⟩)
    ·exact fun L ac w ⟨g14, g15, hs⟩ => pln (op_fieldA hs (some 4) rfl rfl rfl underlying79 rfl sizeOf24 (by decide) rfl fun ac hs => ⟨g14, g15, hs⟩)
    ·exact fun L ac w ⟨g14, g15, hs⟩ => pln (oldd hs 5 1 (W x2) isAgg24 sizeOf24 rfl rfl rfl rfl rfl fun ac hs => ⟨g14, g15, hs⟩)
    ·exact fun L ac w ⟨g14, g15, hs⟩ => pln (oldd hs 6 3 (W r8) isAgg24 sizeOf24 rfl rfl rfl rfl rfl fun ac hs => ⟨g14, g15, hs⟩)
    ·exact fun L ac w ⟨g14, g15, hs⟩ => pln (op_call (F := 107) hs (some 7) (v := W r13) rfl rfl rfl rfl (call107 _) (fmul_c x2 r8 r13 b1 lr8 hr13) rfl fun ac w hs => ⟨g14, g15, hs⟩)
    ·exact fun L ac w ⟨g14, g15, hs⟩ => pln (op_alloc hs (some 8) (some 5) (cs := [.int .u64 0, .int .u64 0, .int .u64 0, .int .u64 0]) rfl rfl zeroValue24 (by kernel_rfl) rfl rfl fun g14 ac w hs => ⟨g14, g15, hs⟩)
    ·exact fun L ac w ⟨g14, g15, hs⟩ => pln (op_alloc hs (some 9) (some 6) (cs := [.int .u64 0, .int .u64 0, .int .u64 0, .int .u64 0]) rfl rfl zeroValue24 (by kernel_rfl) rfl rfl fun g15 ac w hs => ⟨g14, g15, hs⟩)
    ·exact fun L ac w ⟨g14, g15, hs⟩ => pln (stoo hs 5 ((Wl r12)) sizeOf24 rfl rfl rfl rfl rfl rfl rfl rfl rfl rfl fun w hs => ⟨g14, g15, hs⟩)
    ·exact fun L ac w ⟨g14, g15, hs⟩ => pln (stoo hs 6 ((Wl r13)) sizeOf24 rfl rfl rfl rfl rfl rfl rfl rfl rfl rfl fun w hs => ⟨g14, g15, hs⟩)
   intro ac w ⟨g14, g15, hs⟩
   try dsimp only [cond_true] at hs
   refine then_n (wp_seq ?_)
   replace hs := hs.n0 [2, 3, 4, 5, 6, 7, 8] rfl rfl
   obtain ⟨r16, hr16, lr16⟩ : ∃ z0, r9 * z2 % Pf = z0 ∧ z0 < 2 ^ 256 := ⟨_, rfl, modP_lt _⟩
   obtain ⟨r17, hr17, lr17⟩ : ∃ z0, y1 * r16 % Pf = z0 ∧ z0 < 2 ^ 256 := ⟨_, rfl, modP_lt _⟩
   obtain ⟨r18, hr18, lr18⟩ : ∃ z0, r8 * z1 % Pf = z0 ∧ z0 < 2 ^ 256 := ⟨_, rfl, modP_lt _⟩
   obtain ⟨r19, hr19, lr19⟩ : ∃ z0, y2 * r18 % Pf = z0 ∧ z0 < 2 ^ 256 := ⟨_, rfl, modP_lt _⟩
   refine region_inv [([], [1, 6, 12, 13, 16, 17]), ([0], [6, 12, 13, 16, 17]), ([], [5, 6, 12, 13, 16, 17]), ([], [4, 5, 6, 12, 13, 16, 17]), ([3], [5, 6, 12, 13, 16, 17]), ([2, 3, 4], [6, 12, 13, 16, 17]), (rgn 0 6, [12, 13, 16, 17]), ([], [8, 13, 16, 17]), ([7], [13, 16, 17]), ([], [12, 13, 16, 17]), ([], [11, 12, 13, 16, 17]), ([10], [12, 13, 16, 17]), ([0, 1, 2, 3, 4, 5, 6, 9, 10, 11], [13, 16, 17]), (rgn 0 13, [16, 17]), ([], [16, 17]), ([], [16, 17]), (rgn 0 16, [17]), (rgn 0 17, [])] (fun L ac w => ∃ (g20 : Nat) (g21 : Nat), St 104 w0 [(40, L 0, ptA g1 4), (41, L 1, W y1), (42, L 2, W r9), (43, L 3, ptA g2 8), (44, L 4, W z2), (45, L 5, W r16), (46, L 6, W r17), (47, L 7, ptA g2 4), (48, L 8, W y2), (49, L 9, W r8), (50, L 10, ptA g1 8), (51, L 11, W z1), (52, L 12, W r18), (53, L 13, W r19), (9, L 14, ptA g20 0), (10, L 15, ptA g21 0), (2, true, ptA g1 0), (3, true, ptA g2 0), (4, true, ptA g3 0), (5, true, ptA g10 0), (6, true, ptA g11 0), (7, true, ptA g14 0), (8, true, ptA g15 0)] [(true, g1, 79, (TVl x1 y1 z1)), (true, g2, 79, (TVl x2 y2 z2)), (true, g3, 79, (TVl 0 0 0)), (true, g10, 24, (Wl r8)), (true, g11, 24, (Wl r9)), (true, g14, 24, (Wl r12)), (true, g15, 24, (Wl r13)), (L 14, g20, 24, (cond (L 16) (Wl r17) [.int .u64 0, .int .u64 0, .int .u64 0, .int .u64 0])), (L 15, g21, 24, (cond (L 17) (Wl r19) [.int .u64 0, .int .u64 0, .int .u64 0, .int .u64 0]))] ac w) (by kernel_rfl) (by kernel_rfl) ?_ ?_ ?_
   ·exact ⟨0, 0, hs.drew.skip.skip.skip.skip.skip.skip.skip.skip.skip.skip.skip.skip.skip.skip.skip.skip.pad.pad⟩
   ·refine ⟨?_, ?_, ?_, ?_, ?_, ?_, ?_, ?_, ?_, ?_, ?_, ?_, ?_, ?_, ?_, ?_, ?_, ?_, trivial⟩
    ·exact fun L ac w ⟨g20, g21, hs⟩ => pln (op_fieldA hs (some 0) rfl rfl rfl underlying79 rfl sizeOf24 (by decide) rfl fun ac hs => ⟨g20, g21, hs⟩)
    ·exact fun L ac w ⟨g20, g21, hs⟩ => pln (oldd hs 1 0 (W y1) isAgg24 sizeOf24 rfl rfl rfl rfl rfl fun ac hs => ⟨g20, g21, hs⟩)
    ·exact fun L ac w ⟨g20, g21, hs⟩ => pln (oldd hs 2 4 (W r9) isAgg24 sizeOf24 rfl rfl rfl rfl rfl fun ac hs => ⟨g20, g21, hs⟩)
    ·exact fun L ac w ⟨g20, g21, hs⟩ => pln (op_fieldA hs (some 3) rfl rfl rfl underlying79 rfl sizeOf24 (by decide) rfl fun ac hs => ⟨g20, g21, hs⟩)
    ·exact fun L ac w ⟨g20, g21, hs⟩ => pln (oldd hs 4 1 (W z2) isAgg24 sizeOf24 rfl rfl rfl rfl rfl fun ac hs => ⟨g20, g21, hs⟩)
    ·exact fun L ac w ⟨g20, g21, hs⟩ => pln (op_call (F := 107) hs (some 5) (v := W r16) rfl rfl rfl rfl (call107 _) (fmul_c r9 z2 r16 lr9 b3 hr16) rfl fun ac w hs => ⟨g20, g21, hs⟩)
    ·exact fun L ac w ⟨g20, g21, hs⟩ => pln (op_call (F := 107) hs (some 6) (v := W r17) rfl rfl rfl rfl (call107 _) (fmul_c y1 r16 r17 a2 lr16 hr17) rfl fun ac w hs => ⟨g20, g21, hs⟩)
    ·exact fun L ac w ⟨g20, g21, hs⟩ => pln (op_fieldA hs (some 7) rfl rfl rfl underlying79 rfl sizeOf24 (by decide) rfl fun ac hs => ⟨g20, g21, hs⟩)
    ·exact fun L ac w ⟨g20, g21, hs⟩ => pln (oldd hs 8 1 (W y2) isAgg24 sizeOf24 rfl rfl rfl rfl rfl fun ac hs => ⟨g20, g21, hs⟩)
    ·exact fun L ac w ⟨g20, g21, hs⟩ => pln (oldd hs 9 3 (W r8) isAgg24 sizeOf24 rfl rfl rfl rfl rfl fun ac hs => ⟨g20, g21, hs⟩)
    ·exact fun L ac w ⟨g20, g21, hs⟩ => pln (op_fieldA hs (some 10) rfl rfl rfl underlying79 rfl sizeOf24 (by decide) rfl fun ac hs => ⟨g20, g21, hs⟩)
    ·exact fun L ac w ⟨g20, g21, hs⟩ => pln (oldd hs 11 0 (W z1) isAgg24 sizeOf24 rfl rfl rfl rfl rfl fun ac hs => ⟨g20, g21, hs⟩)
    ·exact fun L ac w ⟨g20, g21, hs⟩ => pln (op_call (F := 107) hs (some 12) (v := W r18) rfl rfl rfl rfl (call107 _) (fmul_c r8 z1 r18 lr8 a3 hr18) rfl fun ac w hs => ⟨g20, g21, hs⟩)
    ·exact fun L ac w ⟨g20, g21, hs⟩ => pln (op_call (F := 107) hs (some 13) (v := W r19) rfl rfl rfl rfl (call107 _) (fmul_c y2 r18 r19 b2 lr18 hr19) rfl fun ac w hs => ⟨g20, g21, hs⟩)
    ·exact fun L ac w ⟨g20, g21, hs⟩ => pln (op_alloc hs (some 14) (some 7) (cs := [.int .u64 0, .int .u64 0, .int .u64 0, .int .u64 0]) rfl rfl zeroValue24 (by kernel_rfl) rfl rfl fun g20 ac w hs => ⟨g20, g21, hs⟩)
    ·exact fun L ac w ⟨g20, g21, hs⟩ => pln (op_alloc hs (some 15) (some 8) (cs := [.int .u64 0, .int .u64 0, .int .u64 0, .int .u64 0]) rfl rfl zeroValue24 (by kernel_rfl) rfl rfl fun g21 ac w hs => ⟨g20, g21, hs⟩)
    ·exact fun L ac w ⟨g20, g21, hs⟩ => pln (stoo hs 7 ((Wl r17)) sizeOf24 rfl rfl rfl rfl rfl rfl rfl rfl rfl rfl fun w hs => ⟨g20, g21, hs⟩)
    ·exact fun L ac w ⟨g20, g21, hs⟩ => pln (stoo hs 8 ((Wl r19)) sizeOf24 rfl rfl rfl rfl rfl rfl rfl rfl rfl rfl fun w hs => ⟨g20, g21, hs⟩)
   intro ac w ⟨g20, g21, hs⟩
   try dsimp only [cond_true] at hs
   refine then_n (wp_seq ?_)
   replace hs := hs.n0 [2, 3, 4, 7, 8, 9, 10] rfl rfl
   obtain ⟨r22, hr22, lr22⟩ : ∃ z0, fsub r13 r12 = z0 ∧ z0 < 2 ^ 256 := ⟨_, rfl, fsub_lt _ _⟩
   obtain ⟨r23, hr23, lr23⟩ : ∃ z0, fsub r19 r17 = z0 ∧ z0 < 2 ^ 256 := ⟨_, rfl, fsub_lt _ _⟩
   refine region_inv [([], [2, 5, 8, 9]), ([], [2, 5, 8, 9]), ([0, 1], [5, 8, 9]), ([], [5, 8, 9]), ([], [5, 8, 9]), (rgn 0 5, [8, 9]), ([], [8, 9]), ([], [8, 9]), (rgn 0 8, [9]), (rgn 0 9, [])] (fun L ac w => ∃ (g24 : Nat) (g25 : Nat), St 104 w0 [(54, L 0, W r13), (55, L 1, W r12), (56, L 2, W r22), (57, L 3, W r19), (58, L 4, W r17), (59, L 5, W r23), (11, L 6, ptA g24 0), (12, L 7, ptA g25 0), (2, true, ptA g1 0), (3, true, ptA g2 0), (4, true, ptA g3 0), (7, true, ptA g14 0), (8, true, ptA g15 0), (9, true, ptA g20 0), (10, true, ptA g21 0)] [(true, g1, 79, (TVl x1 y1 z1)), (true, g2, 79, (TVl x2 y2 z2)), (true, g3, 79, (TVl 0 0 0)), (true, g10, 24, (Wl r8)), (true, g11, 24, (Wl r9)), (true, g14, 24, (Wl r12)), (true, g15, 24, (Wl r13)), (true, g20, 24, (Wl r17)), (true, g21, 24, (Wl r19)), (L 6, g24, 24, (cond (L 8) (Wl r22) [.int .u64 0, .int .u64 0, .int .u64 0, .int .u64 0])), (L 7, g25, 24, (cond (L 9) (Wl r23) [.int .u64 0, .int .u64 0, .int .u64 0, .int .u64 0]))] ac w) (by kernel_rfl) (by kernel_rfl) ?_ ?_ ?_
   ·exact ⟨0, 0, hs.drew.skip.skip.skip.skip.skip.skip.skip.skip.pad.pad⟩
   ·refine ⟨?_, ?_, ?_, ?_, ?_, ?_, ?_, ?_, ?_, ?_, trivial⟩
    ·exact fun L ac w ⟨g24, g25, hs⟩ => pln (oldd hs 0 6 (W r13) isAgg24 sizeOf24 rfl rfl rfl rfl rfl fun ac hs => ⟨g24, g25, hs⟩)
    ·exact fun L ac w ⟨g24, g25, hs⟩ => pln (oldd hs 1 5 (W r12) isAgg24 sizeOf24 rfl rfl rfl rfl rfl fun ac hs => ⟨g24, g25, hs⟩)
    ·exact fun L ac w ⟨g24, g25, hs⟩ => pln (op_call (F := 114) hs (some 2) (v := W r22) rfl rfl rfl rfl (call114 _) (fsub_c r13 r12 r22 lr13 lr12 hr22) rfl fun ac w hs => ⟨g24, g25, hs⟩)
    ·exact fun L ac w ⟨g24, g25, hs⟩ => pln (oldd hs 3 8 (W r19) isAgg24 sizeOf24 rfl rfl rfl rfl rfl fun ac hs => ⟨g24, g25, hs⟩)
    ·exact fun L ac w ⟨g24, g25, hs⟩ => pln (oldd hs 4 7 (W r17) isAgg24 sizeOf24 rfl rfl rfl rfl rfl fun ac hs => ⟨g24, g25, hs⟩)
    ·exact fun L ac w ⟨g24, g25, hs⟩ => pln (op_call (F := 114) hs (some 5) (v := W r23) rfl rfl rfl rfl (call114 _) (fsub_c r19 r17 r23 lr19 lr17 hr23) rfl fun ac w hs => ⟨g24, g25, hs⟩)
    ·exact fun L ac w ⟨g24, g25, hs⟩ => pln (op_alloc hs (some 6) (some 9) (cs := [.int .u64 0, .int .u64 0, .int .u64 0, .int .u64 0]) rfl rfl zeroValue24 (by kernel_rfl) rfl rfl fun g24 ac w hs => ⟨g24, g25, hs⟩)
    ·exact fun L ac w ⟨g24, g25, hs⟩ => pln (op_alloc hs (some 7) (some 10) (cs := [.int .u64 0, .int .u64 0, .int .u64 0, .int .u64 0]) rfl rfl zeroValue24 (by kernel_rfl) rfl rfl fun g25 ac w hs => ⟨g24, g25, hs⟩)
    ·exact fun L ac w ⟨g24, g25, hs⟩ => pln (stoo hs 9 ((Wl r22)) sizeOf24 rfl rfl rfl rfl rfl rfl rfl rfl rfl rfl fun w hs => ⟨g24, g25, hs⟩)
    ·exact fun L ac w ⟨g24, g25, hs⟩ => pln (stoo hs 10 ((Wl r23)) sizeOf24 rfl rfl rfl rfl rfl rfl rfl rfl rfl rfl fun w hs => ⟨g24, g25, hs⟩)
   intro ac w ⟨g24, g25, hs⟩
   try dsimp only [cond_true] at hs
   refine then_n (wp_seq (wp_seq (wp_region_lit ?_)))
   refine ldd hs 9 (W r22) isAgg24 sizeOf24 rfl rfl rfl rfl rfl fun ac hs => ?_
   refine stp (op_build hs none (qs := []) (v := .agg #[.int .u64 0, .int .u64 0, .int .u64 0, .int .u64 0]) rfl rfl rfl rfl (fun _ => by kernel_rfl) rfl fun ac hs => ?_)
   refine stp (op_bin hs none (v := .bool (decide (r22 = 0))) rfl rfl rfl rfl (fun w => run_eqGuard_agg w .eql 24 _ _ _ _ Tryz.eqGuardType24) (eqlW r22 0 lr22 (by decide) _ rfl) rfl fun ac hs => ?_)
   refine wpList_nil (then_n ?_)
   refine wp_cond_split (hs.ev rfl) (fun hc => ?_) (fun hc => ?_)
   ·skip
    have hp26 := of_decide_eq_true hc
    refine wp_seq (wp_seq (wp_region_lit ?_))
    refine ldd hs 10 (W r23) isAgg24 sizeOf24 rfl rfl rfl rfl rfl fun ac hs => ?_
    refine stp (op_build hs none (qs := []) (v := .agg #[.int .u64 0, .int .u64 0, .int .u64 0, .int .u64 0]) rfl rfl rfl rfl (fun _ => by kernel_rfl) rfl fun ac hs => ?_)
    refine stp (op_bin hs none (v := .bool (decide (r23 = 0))) rfl rfl rfl rfl (fun w => run_eqGuard_agg w .eql 24 _ _ _ _ Tryz.eqGuardType24) (eqlW r23 0 lr23 (by decide) _ rfl) rfl fun ac hs => ?_)
    refine wpList_nil (then_n ?_)
    refine wp_cond_split (hs.ev rfl) (fun hc => ?_) (fun hc => ?_)
    ·skip
     have hp27 := of_decide_eq_true hc
     refine wp_seq ?_
     replace hs := hs.n0 [2, 3, 4, 7, 9, 11, 12] rfl rfl
     refine wp_region_lit ?_
     refine ldd hs 0 (TV x1 y1 z1) isAgg79 sizeOf79 rfl rfl rfl rfl rfl fun ac hs => ?_
     obtain ⟨X28, Y29, Z30, hX28, lX28, lY29, lZ30⟩ : ∃ zz0 zz1 zz2, dJ x1 y1 z1 = (zz0, zz1, zz2) ∧ zz0 < 2 ^ 256 ∧ zz1 < 2 ^ 256 ∧ zz2 < 2 ^ 256 := dJ_lt x1 y1 z1
     refine stp (op_call (F := 75) hs none (v := TV X28 Y29 Z30) rfl rfl rfl rfl (call75 _) (doubled_c x1 y1 z1 X28 Y29 Z30 a1 a2 a3 hX28) rfl fun ac w hs => ?_)
     refine stp (stoo hs 2 ((TVl X28 Y29 Z30)) sizeOf79 rfl rfl rfl rfl rfl rfl rfl rfl rfl rfl fun w hs => ?_)
     refine wpList_nil (then_n (wp_ret (then_r (then_r ?_))))
     exact bodyPost_ret (res1 rfl (rv_c hs 2 (v := TV X28 Y29 Z30) rfl rfl isAgg79 sizeOf79 rfl)) hs.defers ⟨by subst hr8 hr9 hr12 hr13 hr16 hr17 hr18 hr19 hr22 hr23; obtain ⟨rfl, rfl, rfl⟩ := tri3 (hX28.symm.trans ((sJ_3 hp5 hp7 hp26 hp27).symm.trans hE)); rfl, (hs.bel rfl)⟩
    ·skip
     have hp31 := of_decide_eq_false hc
     refine wp_skip (then_n (wp_seq ?_))
     replace hs := hs.n0 [2, 3, 4, 7, 9, 11, 12] rfl rfl
     refine wp_region_lit ?_
     refine stp (op_call (F := 66) hs none (v := PV 0 0 true) rfl rfl rfl rfl (call66 _) zero_c rfl fun ac w hs => ?_)
     refine stp (op_call (F := 72) hs none (v := TV 1 1 0) rfl rfl rfl rfl (call72 _) (weigh_c 0 0 true 1 1 0 (by decide) (by decide) rfl rfl rfl) rfl fun ac w hs => ?_)
     refine stp (stoo hs 2 ((TVl 1 1 0)) sizeOf79 rfl rfl rfl rfl rfl rfl rfl rfl rfl rfl fun w hs => ?_)
     refine wpList_nil (then_n (wp_ret (then_r ?_)))
     exact bodyPost_ret (res1 rfl (rv_c hs 2 (v := TV 1 1 0) rfl rfl isAgg79 sizeOf79 rfl)) hs.defers ⟨by subst hr8 hr9 hr12 hr13 hr16 hr17 hr18 hr19 hr22 hr23; obtain ⟨rfl, rfl, rfl⟩ := tri3 ((sJ_4 hp5 hp7 hp26 hp31).symm.trans hE); rfl, (hs.bel rfl)⟩
   ·skip
    have hp32 := of_decide_eq_false hc
    refine wp_skip (then_n (wp_seq (wp_region_lit ?_)))
    refine ldd hs 9 (W r22) isAgg24 sizeOf24 rfl rfl rfl rfl rfl fun ac hs => ?_
    obtain ⟨r33, hr33, lr33⟩ : ∃ z0, r22 * r22 % Pf = z0 ∧ z0 < 2 ^ 256 := ⟨_, rfl, modP_lt _⟩
    refine stp (op_call (F := 111) hs none (v := W r33) rfl rfl rfl rfl (call111 _) (sq_c r22 r33 lr22 hr33) rfl fun ac w hs => ?_)
    refine stp (op_alloc hs none none (cs := [.int .u64 0, .int .u64 0, .int .u64 0, .int .u64 0]) rfl rfl zeroValue24 (by kernel_rfl) rfl rfl fun g34 ac w hs => ?_)
    refine stp (stoo hs 11 ((Wl r33)) sizeOf24 rfl rfl rfl rfl rfl rfl rfl rfl rfl rfl fun w hs => ?_)
    refine wpList_nil (then_n (wp_seq ?_))
    replace hs := hs.n0 [2, 3, 4, 7, 9, 11, 12, 13] rfl rfl
    refine wp_region_lit ?_
    refine ldd hs 11 (W r33) isAgg24 sizeOf24 rfl rfl rfl rfl rfl fun ac hs => ?_
    refine ldd hs 9 (W r22) isAgg24 sizeOf24 rfl rfl rfl rfl rfl fun ac hs => ?_
    obtain ⟨r35, hr35, lr35⟩ : ∃ z0, r33 * r22 % Pf = z0 ∧ z0 < 2 ^ 256 := ⟨_, rfl, modP_lt _⟩
    refine stp (op_call (F := 107) hs none (v := W r35) rfl rfl rfl rfl (call107 _) (fmul_c r33 r22 r35 lr33 lr22 hr35) rfl fun ac w hs => ?_)
    refine stp (op_alloc hs none none (cs := [.int .u64 0, .int .u64 0, .int .u64 0, .int .u64 0]) rfl rfl zeroValue24 (by kernel_rfl) rfl rfl fun g36 ac w hs => ?_)
    refine stp (stoo hs 12 ((Wl r35)) sizeOf24 rfl rfl rfl rfl rfl rfl rfl rfl rfl rfl fun w hs => ?_)
    refine wpList_nil (then_n (wp_seq (wp_region_lit ?_)))
    refine ldd hs 5 (W r12) isAgg24 sizeOf24 rfl rfl rfl rfl rfl fun ac hs => ?_
    refine ldd hs 11 (W r33) isAgg24 sizeOf24 rfl rfl rfl rfl rfl fun ac hs => ?_
    obtain ⟨r37, hr37, lr37⟩ : ∃ z0, r12 * r33 % Pf = z0 ∧ z0 < 2 ^ 256 := ⟨_, rfl, modP_lt _⟩
    refine stp (op_call (F := 107) hs none (v := W r37) rfl rfl rfl rfl (call107 _) (fmul_c r12 r33 r37 lr12 lr33 hr37) rfl fun ac w hs => ?_)
    refine stp (op_alloc hs none none (cs := [.int .u64 0, .int .u64 0, .int .u64 0, .int .u64 0]) rfl rfl zeroValue24 (by kernel_rfl) rfl rfl fun g38 ac w hs => ?_)
    refine stp (stoo hs 13 ((Wl r37)) sizeOf24 rfl rfl rfl rfl rfl rfl rfl rfl rfl rfl fun w hs => ?_)
    refine wpList_nil (then_n (wp_seq ?_))
    replace hs := hs.n0 [2, 3, 4, 9, 11, 12, 14, 15] rfl rfl
    obtain ⟨r39, hr39, lr39⟩ : ∃ z0, r23 * r23 % Pf = z0 ∧ z0 < 2 ^ 256 := ⟨_, rfl, modP_lt _⟩
    obtain ⟨r40, hr40, lr40⟩ : ∃ z0, fsub r39 r35 = z0 ∧ z0 < 2 ^ 256 := ⟨_, rfl, fsub_lt _ _⟩
    obtain ⟨r41, hr41, lr41⟩ : ∃ z0, 2 * r37 % Pf = z0 ∧ z0 < 2 ^ 256 := ⟨_, rfl, modP_lt _⟩
    obtain ⟨r42, hr42, lr42⟩ : ∃ z0, fsub r40 r41 = z0 ∧ z0 < 2 ^ 256 := ⟨_, rfl, fsub_lt _ _⟩
    refine region_inv [([], [1, 3, 5, 6, 8]), ([0], [3, 5, 6, 8]), ([], [3, 5, 6, 8]), ([0, 1, 2], [5, 6, 8]), ([], [5, 6, 8]), (rgn 0 5, [6, 8]), (rgn 0 6, [8]), ([], [8]), (rgn 0 8, [])] (fun L ac w => ∃ (g43 : Nat), St 104 w0 [(78, L 0, W r23), (79, L 1, W r39), (80, L 2, W r35), (81, L 3, W r40), (82, L 4, W r37), (83, L 5, W r41), (84, L 6, W r42), (16, L 7, ptA g43 0), (2, true, ptA g1 0), (3, true, ptA g2 0), (4, true, ptA g3 0), (9, true, ptA g20 0), (11, true, ptA g24 0), (12, true, ptA g25 0), (14, true, ptA g36 0), (15, true, ptA g38 0)] [(true, g1, 79, (TVl x1 y1 z1)), (true, g2, 79, (TVl x2 y2 z2)), (true, g3, 79, (TVl 0 0 0)), (true, g10, 24, (Wl r8)), (true, g11, 24, (Wl r9)), (true, g14, 24, (Wl r12)), (true, g15, 24, (Wl r13)), (true, g20, 24, (Wl r17)), (true, g21, 24, (Wl r19)), (true, g24, 24, (Wl r22)), (true, g25, 24, (Wl r23)), (true, g34, 24, (Wl r33)), (true, g36, 24, (Wl r35)), (true, g38, 24, (Wl r37)), (L 7, g43, 24, (cond (L 8) (Wl r42) [.int .u64 0, .int .u64 0, .int .u64 0, .int .u64 0]))] ac w) (by kernel_rfl) (by kernel_rfl) ?_ ?_ ?_
    ·exact ⟨0, hs.drew.skip.skip.skip.skip.skip.skip.skip.skip.pad⟩
    ·refine ⟨?_, ?_, ?_, ?_, ?_, ?_, ?_, ?_, ?_, trivial⟩
     ·exact fun L ac w ⟨g43, hs⟩ => pln (oldd hs 0 10 (W r23) isAgg24 sizeOf24 rfl rfl rfl rfl rfl fun ac hs => ⟨g43, hs⟩)
     ·exact fun L ac w ⟨g43, hs⟩ => pln (op_call (F := 111) hs (some 1) (v := W r39) rfl rfl rfl rfl (call111 _) (sq_c r23 r39 lr23 hr39) rfl fun ac w hs => ⟨g43, hs⟩)
     ·exact fun L ac w ⟨g43, hs⟩ => pln (oldd hs 2 12 (W r35) isAgg24 sizeOf24 rfl rfl rfl rfl rfl fun ac hs => ⟨g43, hs⟩)
     ·exact fun L ac w ⟨g43, hs⟩ => pln (op_call (F := 114) hs (some 3) (v := W r40) rfl rfl rfl rfl (call114 _) (fsub_c r39 r35 r40 lr39 lr35 hr40) rfl fun ac w hs => ⟨g43, hs⟩)
     ·exact fun L ac w ⟨g43, hs⟩ => pln (oldd hs 4 13 (W r37) isAgg24 sizeOf24 rfl rfl rfl rfl rfl fun ac hs => ⟨g43, hs⟩)
     ·exact fun L ac w ⟨g43, hs⟩ => pln (op_call (F := 115) hs (some 5) (v := W r41) rfl rfl rfl rfl (call115 _) (times_c 2 r37 r41 (by decide) lr37 hr41) rfl fun ac w hs => ⟨g43, hs⟩)
     ·exact fun L ac w ⟨g43, hs⟩ => pln (op_call (F := 114) hs (some 6) (v := W r42) rfl rfl rfl rfl (call114 _) (fsub_c r40 r41 r42 lr40 lr41 hr42) rfl fun ac w hs => ⟨g43, hs⟩)
     ·exact fun L ac w ⟨g43, hs⟩ => pln (op_alloc hs (some 7) (some 14) (cs := [.int .u64 0, .int .u64 0, .int .u64 0, .int .u64 0]) rfl rfl zeroValue24 (by kernel_rfl) rfl rfl fun g43 ac w hs => ⟨g43, hs⟩)
     ·exact fun L ac w ⟨g43, hs⟩ => pln (stoo hs 14 ((Wl r42)) sizeOf24 rfl rfl rfl rfl rfl rfl rfl rfl rfl rfl fun w hs => ⟨g43, hs⟩)
    intro ac w ⟨g43, hs⟩
    try dsimp only [cond_true] at hs
    refine then_n (wp_seq ?_)
    replace hs := hs.n0 [2, 3, 4, 9, 11, 12, 14, 15, 16] rfl rfl
    obtain ⟨r44, hr44, lr44⟩ : ∃ z0, fsub r37 r42 = z0 ∧ z0 < 2 ^ 256 := ⟨_, rfl, fsub_lt _ _⟩
    obtain ⟨r45, hr45, lr45⟩ : ∃ z0, r23 * r44 % Pf = z0 ∧ z0 < 2 ^ 256 := ⟨_, rfl, modP_lt _⟩
    obtain ⟨r46, hr46, lr46⟩ : ∃ z0, r17 * r35 % Pf = z0 ∧ z0 < 2 ^ 256 := ⟨_, rfl, modP_lt _⟩
    obtain ⟨r47, hr47, lr47⟩ : ∃ z0, fsub r45 r46 = z0 ∧ z0 < 2 ^ 256 := ⟨_, rfl, fsub_lt _ _⟩
    refine region_inv [([], [4, 7, 8, 10]), ([], [3, 4, 7, 8, 10]), ([], [3, 4, 7, 8, 10]), ([1, 2], [4, 7, 8, 10]), (rgn 0 4, [7, 8, 10]), ([], [7, 8, 10]), ([], [7, 8, 10]), (rgn 0 7, [8, 10]), (rgn 0 8, [10]), ([], [10]), (rgn 0 10, [])] (fun L ac w => ∃ (g48 : Nat), St 104 w0 [(85, L 0, W r23), (86, L 1, W r37), (87, L 2, W r42), (88, L 3, W r44), (89, L 4, W r45), (90, L 5, W r17), (91, L 6, W r35), (92, L 7, W r46), (93, L 8, W r47), (17, L 9, ptA g48 0), (2, true, ptA g1 0), (3, true, ptA g2 0), (4, true, ptA g3 0), (9, true, ptA g20 0), (11, true, ptA g24 0), (12, true, ptA g25 0), (14, true, ptA g36 0), (15, true, ptA g38 0), (16, true, ptA g43 0)] [(true, g1, 79, (TVl x1 y1 z1)), (true, g2, 79, (TVl x2 y2 z2)), (true, g3, 79, (TVl 0 0 0)), (true, g10, 24, (Wl r8)), (true, g11, 24, (Wl r9)), (true, g14, 24, (Wl r12)), (true, g15, 24, (Wl r13)), (true, g20, 24, (Wl r17)), (true, g21, 24, (Wl r19)), (true, g24, 24, (Wl r22)), (true, g25, 24, (Wl r23)), (true, g34, 24, (Wl r33)), (true, g36, 24, (Wl r35)), (true, g38, 24, (Wl r37)), (true, g43, 24, (Wl r42)), (L 9, g48, 24, (cond (L 10) (Wl r47) [.int .u64 0, .int .u64 0, .int .u64 0, .int .u64 0]))] ac w) (by kernel_rfl) (by kernel_rfl) ?_ ?_ ?_
    ·exact ⟨0, hs.drew.skip.skip.skip.skip.skip.skip.skip.skip.skip.skip.pad⟩
    ·refine ⟨?_, ?_, ?_, ?_, ?_, ?_, ?_, ?_, ?_, ?_, ?_, trivial⟩
     ·exact fun L ac w ⟨g48, hs⟩ => pln (oldd hs 0 10 (W r23) isAgg24 sizeOf24 rfl rfl rfl rfl rfl fun ac hs => ⟨g48, hs⟩)
     ·exact fun L ac w ⟨g48, hs⟩ => pln (oldd hs 1 13 (W r37) isAgg24 sizeOf24 rfl rfl rfl rfl rfl fun ac hs => ⟨g48, hs⟩)
     ·exact fun L ac w ⟨g48, hs⟩ => pln (oldd hs 2 14 (W r42) isAgg24 sizeOf24 rfl rfl rfl rfl rfl fun ac hs => ⟨g48, hs⟩)
     ·exact fun L ac w ⟨g48, hs⟩ => pln (op_call (F := 114) hs (some 3) (v := W r44) rfl rfl rfl rfl (call114 _) (fsub_c r37 r42 r44 lr37 lr42 hr44) rfl fun ac w hs => ⟨g48, hs⟩)
     ·exact fun L ac w ⟨g48, hs⟩ => pln (op_call (F := 107) hs (some 4) (v := W r45) rfl rfl rfl rfl (call107 _) (fmul_c r23 r44 r45 lr23 lr44 hr45) rfl fun ac w hs => ⟨g48, hs⟩)
     ·exact fun L ac w ⟨g48, hs⟩ => pln (oldd hs 5 7 (W r17) isAgg24 sizeOf24 rfl rfl rfl rfl rfl fun ac hs => ⟨g48, hs⟩)
     ·exact fun L ac w ⟨g48, hs⟩ => pln (oldd hs 6 12 (W r35) isAgg24 sizeOf24 rfl rfl rfl rfl rfl fun ac hs => ⟨g48, hs⟩)
     ·exact fun L ac w ⟨g48, hs⟩ => pln (op_call (F := 107) hs (some 7) (v := W r46) rfl rfl rfl rfl (call107 _) (fmul_c r17 r35 r46 lr17 lr35 hr46) rfl fun ac w hs => ⟨g48, hs⟩)
     ·exact fun L ac w ⟨g48, hs⟩ => pln (op_call (F := 114) hs (some 8) (v := W r47) rfl rfl rfl rfl (call114 _) (fsub_c r45 r46 r47 lr45 lr46 hr47) rfl fun ac w hs => ⟨g48, hs⟩)
     ·exact fun L ac w ⟨g48, hs⟩ => pln (op_alloc hs (some 9) (some 15) (cs := [.int .u64 0, .int .u64 0, .int .u64 0, .int .u64 0]) rfl rfl zeroValue24 (by kernel_rfl) rfl rfl fun g48 ac w hs => ⟨g48, hs⟩)
     ·exact fun L ac w ⟨g48, hs⟩ => pln (stoo hs 15 ((Wl r47)) sizeOf24 rfl rfl rfl rfl rfl rfl rfl rfl rfl rfl fun w hs => ⟨g48, hs⟩)
    intro ac w ⟨g48, hs⟩
    try dsimp only [cond_true] at hs
    refine then_n (wp_seq ?_)
    replace hs := hs.n0 [2, 3, 4, 11, 16, 17] rfl rfl
    obtain ⟨r49, hr49, lr49⟩ : ∃ z0, z1 * z2 % Pf = z0 ∧ z0 < 2 ^ 256 := ⟨_, rfl, modP_lt _⟩
    obtain ⟨r50, hr50, lr50⟩ : ∃ z0, r22 * r49 % Pf = z0 ∧ z0 < 2 ^ 256 := ⟨_, rfl, modP_lt _⟩
    refine region_inv [([], [9, 10]), ([], [9, 10]), ([], [8, 9, 10]), ([], [4, 7, 8, 9, 10]), ([3], rgn 7 4), ([], rgn 6 5), ([5], rgn 7 4), (rgn 3 4, [8, 9, 10]), (rgn 2 6, [9, 10]), (rgn 0 9, [10]), (rgn 0 10, [])] (fun L ac w => St 104 w0 [(94, L 0, W r42), (95, L 1, W r47), (96, L 2, W r22), (97, L 3, ptA g1 8), (98, L 4, W z1), (99, L 5, ptA g2 8), (100, L 6, W z2), (101, L 7, W r49), (102, L 8, W r50), (103, L 9, TV r42 r47 r50), (2, true, ptA g1 0), (3, true, ptA g2 0), (4, true, ptA g3 0), (11, true, ptA g24 0), (16, true, ptA g43 0), (17, true, ptA g48 0)] [(true, g1, 79, (TVl x1 y1 z1)), (true, g2, 79, (TVl x2 y2 z2)), (true, g3, 79, (cond (L 10) (TVl r42 r47 r50) (TVl 0 0 0))), (true, g10, 24, (Wl r8)), (true, g11, 24, (Wl r9)), (true, g14, 24, (Wl r12)), (true, g15, 24, (Wl r13)), (true, g20, 24, (Wl r17)), (true, g21, 24, (Wl r19)), (true, g24, 24, (Wl r22)), (true, g25, 24, (Wl r23)), (true, g34, 24, (Wl r33)), (true, g36, 24, (Wl r35)), (true, g38, 24, (Wl r37)), (true, g43, 24, (Wl r42)), (true, g48, 24, (Wl r47))] ac w) (by kernel_rfl) (by kernel_rfl) ?_ ?_ ?_
    ·exact hs.drew.skip.skip.skip.skip.skip.skip.skip.skip.skip.skip
    ·refine ⟨?_, ?_, ?_, ?_, ?_, ?_, ?_, ?_, ?_, ?_, ?_, trivial⟩
     ·exact fun L ac w hs => pln (oldd hs 0 14 (W r42) isAgg24 sizeOf24 rfl rfl rfl rfl rfl fun ac hs => hs)
     ·exact fun L ac w hs => pln (oldd hs 1 15 (W r47) isAgg24 sizeOf24 rfl rfl rfl rfl rfl fun ac hs => hs)
     ·exact fun L ac w hs => pln (oldd hs 2 9 (W r22) isAgg24 sizeOf24 rfl rfl rfl rfl rfl fun ac hs => hs)
     ·exact fun L ac w hs => pln (op_fieldA hs (some 3) rfl rfl rfl underlying79 rfl sizeOf24 (by decide) rfl fun ac hs => hs)
     ·exact fun L ac w hs => pln (oldd hs 4 0 (W z1) isAgg24 sizeOf24 rfl rfl rfl rfl rfl fun ac hs => hs)
     ·exact fun L ac w hs => pln (op_fieldA hs (some 5) rfl rfl rfl underlying79 rfl sizeOf24 (by decide) rfl fun ac hs => hs)
     ·exact fun L ac w hs => pln (oldd hs 6 1 (W z2) isAgg24 sizeOf24 rfl rfl rfl rfl rfl fun ac hs => hs)
     ·exact fun L ac w hs => pln (op_call (F := 107) hs (some 7) (v := W r49) rfl rfl rfl rfl (call107 _) (fmul_c z1 z2 r49 a3 b3 hr49) rfl fun ac w hs => hs)
     ·exact fun L ac w hs => pln (op_call (F := 107) hs (some 8) (v := W r50) rfl rfl rfl rfl (call107 _) (fmul_c r22 r49 r50 lr22 lr49 hr50) rfl fun ac w hs => hs)
     ·exact fun L ac w hs => pln (op_build hs (some 9) (qs := [(0, W r42), (1, W r47), (2, W r50)]) (v := TV r42 r47 r50) rfl rfl rfl rfl (fun _ => by kernel_rfl) rfl fun ac hs => hs)
     ·exact fun L ac w hs => pln (stoo hs 2 ((TVl r42 r47 r50)) sizeOf79 rfl rfl rfl rfl rfl rfl rfl rfl rfl rfl fun w hs => hs)
    intro ac w hs
    try dsimp only [cond_true] at hs
    refine then_n (wp_ret ?_)
    exact bodyPost_ret (res1 rfl (rv_c hs 2 (v := TV r42 r47 r50) rfl rfl isAgg79 sizeOf79 rfl)) hs.defers ⟨by subst hr8 hr9 hr12 hr13 hr16 hr17 hr18 hr19 hr22 hr23 hr33 hr35 hr37 hr39 hr40 hr41 hr42 hr44 hr45 hr46 hr47 hr49 hr50; obtain ⟨rfl, rfl, rfl⟩ := tri3 ((sJ_5 hp5 hp7 hp32).symm.trans hE); rfl, (hs.bel rfl)⟩
theorem pbit_c (a i : Nat) (q : Bool) (ha : a < 2 ^ 256) (hi : i < 256) (hq : decide (a / 2 ^ i % 2 = 1) = q) (w0 : World) : Calls prog 76 #[W a, ni64 i] w0 fun e w' => e = .returned (.bool q) ∧ Below w0.heap.size w0 w' := by
 refine enter (n := 14) (args := [W a, ni64 i]) func76 rfl rfl (Nat.le_of_ble_eq_true rfl) fun ac hs => ?_
 refine wp_seq (wp_region_lit ?_)
 refine stp (op_box hs none none (cs := (Wl a)) rfl rfl rfl rfl rfl rfl fun g1 ac w hs => ?_)
 refine asg hs rfl rfl rfl fun ac hs => ?_
 refine wpList_nil (then_n (wp_seq (wp_region_lit ?_)))
 refine mvv hs rfl rfl rfl fun ac hs => ?_
 refine bnn hs (ni64 (i / 64)) rfl rfl rfl rfl (bin_quoN (y := 64) rfl (by decide) (show i < 9223372036854775808 by omega)) fun ac hs => ?_
 refine stp (op_idxA hs none (j := i / 64) rfl rfl rfl rfl underlying24 sizeOf22 (show i / 64 < 4 by omega) (off := i / 64) (by omega) rfl fun ac hs => ?_)
 have l2 := limN_lt a (i / 64)
 refine ldd hs 0 (nu64 (limN a (i / 64))) isAgg22 sizeOf22 rfl rfl rfl rfl (Wl_get (j := i / 64) (show i / 64 < 4 by omega)) fun ac hs => ?_
 refine mvv hs rfl rfl rfl fun ac hs => ?_
 refine bnn hs (ni64 (i % 64)) rfl rfl rfl rfl (bin_remN (y := 64) rfl (by decide)) fun ac hs => ?_
 refine bnn hs (.int .u64 (((limN a (i / 64)) / 2 ^ (i % 64) : Nat) : Int)) rfl rfl rfl rfl (bin_shrN (z := (limN a (i / 64)) / 2 ^ (i % 64)) rfl (limN_lt _ _)) fun ac hs => ?_
 refine bnn hs (.int .u64 ((((limN a (i / 64)) / 2 ^ (i % 64)) % 2 : Nat) : Int)) rfl rfl rfl rfl (bin_andN (y := 1) (z := ((limN a (i / 64)) / 2 ^ (i % 64)) % 2) (Nat.and_two_pow_sub_one_eq_mod ((limN a (i / 64)) / 2 ^ (i % 64)) 1) (shr_lt (limN_lt _ _)) (by decide) (show ((limN a (i / 64)) / 2 ^ (i % 64)) % 2 < 18446744073709551616 by omega)) fun ac hs => ?_
 refine bnn hs (.bool (decide (((limN a (i / 64)) / 2 ^ (i % 64)) % 2 ≠ 0))) rfl rfl rfl rfl (bin_neqN (y := 0)) fun ac hs => ?_
 refine asg hs rfl rfl rfl fun ac hs => ?_
 refine wpList_nil (then_n (wp_ret ?_))
 exact bodyPost_ret (res1 rfl (rv_t hs rfl)) hs.defers ⟨by rw [← hq]; exact congrArg (fun b => Ending.returned (.bool b)) (decide_eq_decide.2 bit_ne), (hs.bel rfl)⟩
theorem both_c (a x1 y1 : Nat) (z1 : Bool) (b x2 y2 : Nat) (z2 : Bool) (P Q T : EM.Pt Pf) (ha : a < 2 ^ 256) (a1 : x1 < 2 ^ 256) (a2 : y1 < 2 ^ 256) (hb : b < 2 ^ 256) (b1 : x2 < 2 ^ 256) (b2 : y2 < 2 ^ 256) (hP : ptOf x1 y1 z1 = P) (hQ : ptOf x2 y2 z2 = Q) (hT : (EM.nmul a P).add (EM.nmul b Q) = T) (w0 : World) : Calls prog 33 #[W a, PV x1 y1 z1, W b, PV x2 y2 z2] w0 fun e w' => e = .returned (PV (px T) (py T) (pz T)) ∧ Below w0.heap.size w0 w' := by
 have oP : P.on := by rw [← hP]; exact pt_on x1 y1 z1
 have oQ : Q.on := by rw [← hQ]; exact pt_on x2 y2 z2
 refine enter (n := 65) (args := [W a, PV x1 y1 z1, W b, PV x2 y2 z2]) func33 rfl rfl (Nat.le_of_ble_eq_true rfl) fun ac hs => ?_
 refine wp_seq (wp_region_lit ?_)
 refine stp (op_box hs none none (cs := (Wl a)) rfl rfl rfl rfl rfl rfl fun g1 ac w hs => ?_)
 refine stp (op_box hs none none (cs := (PVl x1 y1 z1)) rfl rfl rfl rfl rfl rfl fun g2 ac w hs => ?_)
 refine stp (op_box hs none none (cs := (Wl b)) rfl rfl rfl rfl rfl rfl fun g3 ac w hs => ?_)
 refine stp (op_box hs none none (cs := (PVl x2 y2 z2)) rfl rfl rfl rfl rfl rfl fun g4 ac w hs => ?_)
 refine stp (op_alloc hs none none (cs := (PVl 0 0 false)) rfl rfl zeroValue42 (by kernel_rfl) rfl rfl fun g5 ac w hs => ?_)
 refine wpList_nil (then_n (wp_seq ?_))
 replace hs := hs.n0 [4, 5, 6, 7, 8] rfl rfl
 obtain ⟨u6, hu6, lu6⟩ : ∃ z0, wx P = z0 ∧ z0 < 2 ^ 256 := ⟨_, rfl, wx_lt P⟩
 obtain ⟨v7, hv7, lv7⟩ : ∃ z0, wy P = z0 ∧ z0 < 2 ^ 256 := ⟨_, rfl, wy_lt P⟩
 obtain ⟨s8, hs8, ls8⟩ : ∃ z0, wz P = z0 ∧ z0 < 2 ^ 256 := ⟨_, rfl, wz_lt P⟩
 obtain ⟨u9, hu9, lu9⟩ : ∃ z0, wx Q = z0 ∧ z0 < 2 ^ 256 := ⟨_, rfl, wx_lt Q⟩
 obtain ⟨v10, hv10, lv10⟩ : ∃ z0, wy Q = z0 ∧ z0 < 2 ^ 256 := ⟨_, rfl, wy_lt Q⟩
 obtain ⟨s11, hs11, ls11⟩ : ∃ z0, wz Q = z0 ∧ z0 < 2 ^ 256 := ⟨_, rfl, wz_lt Q⟩
 refine region_inv [([], [1, 2, 4, 5, 8, 9]), ([0], [2, 4, 5, 8, 9]), ([0, 1], [4, 5, 8, 9]), ([], [4, 5, 8, 9]), (rgn 0 4, [5, 8, 9]), (rgn 0 5, [8, 9]), ([], [8, 9]), ([], [8, 9]), (rgn 0 8, [9]), (rgn 0 9, [])] (fun L ac w => ∃ (g12 : Nat) (g13 : Nat), St 65 w0 [(16, L 0, PV x1 y1 z1), (17, L 1, PV (px P) (py P) (pz P)), (18, L 2, TV u6 v7 s8), (19, L 3, PV x2 y2 z2), (20, L 4, PV (px Q) (py Q) (pz Q)), (21, L 5, TV u9 v10 s11), (9, L 6, ptA g12 0), (10, L 7, ptA g13 0), (4, true, ptA g1 0), (5, true, ptA g2 0), (6, true, ptA g3 0), (7, true, ptA g4 0), (8, true, ptA g5 0)] [(true, g1, 24, (Wl a)), (true, g2, 42, (PVl x1 y1 z1)), (true, g3, 24, (Wl b)), (true, g4, 42, (PVl x2 y2 z2)), (true, g5, 42, (PVl 0 0 false)), (L 6, g12, 79, (cond (L 8) (TVl u6 v7 s8) (TVl 0 0 0))), (L 7, g13, 79, (cond (L 9) (TVl u9 v10 s11) (TVl 0 0 0)))] ac w) (by kernel_rfl) (by kernel_rfl) ?_ ?_ ?_
 ·exact ⟨0, 0, hs.drew.skip.skip.skip.skip.skip.skip.skip.skip.pad.pad⟩
 ·refine ⟨?_, ?_, ?_, ?_, ?_, ?_, ?_, ?_, ?_, ?_, trivial⟩
  ·exact fun L ac w ⟨g12, g13, hs⟩ => pln (oldd hs 0 1 (PV x1 y1 z1) isAgg42 sizeOf42 rfl rfl rfl rfl rfl fun ac hs => ⟨g12, g13, hs⟩)
  ·exact fun L ac w ⟨g12, g13, hs⟩ => pln (op_call (F := 47) hs (some 1) (v := PV (px P) (py P) (pz P)) rfl rfl rfl rfl (call47 _) (taken_c x1 y1 z1 P a1 a2 hP) rfl fun ac w hs => ⟨g12, g13, hs⟩)
  ·exact fun L ac w ⟨g12, g13, hs⟩ => pln (op_call (F := 72) hs (some 2) (v := TV u6 v7 s8) rfl rfl rfl rfl (call72 _) (weigh_c (px P) (py P) (pz P) u6 v7 s8 (px_lt P) (py_lt P) hu6 hv7 hs8) rfl fun ac w hs => ⟨g12, g13, hs⟩)
  ·exact fun L ac w ⟨g12, g13, hs⟩ => pln (oldd hs 3 3 (PV x2 y2 z2) isAgg42 sizeOf42 rfl rfl rfl rfl rfl fun ac hs => ⟨g12, g13, hs⟩)
  ·exact fun L ac w ⟨g12, g13, hs⟩ => pln (op_call (F := 47) hs (some 4) (v := PV (px Q) (py Q) (pz Q)) rfl rfl rfl rfl (call47 _) (taken_c x2 y2 z2 Q b1 b2 hQ) rfl fun ac w hs => ⟨g12, g13, hs⟩)
  ·exact fun L ac w ⟨g12, g13, hs⟩ => pln (op_call (F := 72) hs (some 5) (v := TV u9 v10 s11) rfl rfl rfl rfl (call72 _) (weigh_c (px Q) (py Q) (pz Q) u9 v10 s11 (px_lt Q) (py_lt Q) hu9 hv10 hs11) rfl fun ac w hs => ⟨g12, g13, hs⟩)
  ·exact fun L ac w ⟨g12, g13, hs⟩ => pln (op_alloc hs (some 6) (some 5) (cs := (TVl 0 0 0)) rfl rfl zeroValue79 (by kernel_rfl) rfl rfl fun g12 ac w hs => ⟨g12, g13, hs⟩)
  ·exact fun L ac w ⟨g12, g13, hs⟩ => pln (op_alloc hs (some 7) (some 6) (cs := (TVl 0 0 0)) rfl rfl zeroValue79 (by kernel_rfl) rfl rfl fun g13 ac w hs => ⟨g12, g13, hs⟩)
  ·exact fun L ac w ⟨g12, g13, hs⟩ => pln (stoo hs 5 ((TVl u6 v7 s8)) sizeOf79 rfl rfl rfl rfl rfl rfl rfl rfl rfl rfl fun w hs => ⟨g12, g13, hs⟩)
  ·exact fun L ac w ⟨g12, g13, hs⟩ => pln (stoo hs 6 ((TVl u9 v10 s11)) sizeOf79 rfl rfl rfl rfl rfl rfl rfl rfl rfl rfl fun w hs => ⟨g12, g13, hs⟩)
 intro ac w ⟨g12, g13, hs⟩
 try dsimp only [cond_true] at hs
 refine then_n (wp_seq (wp_region_lit ?_))
 refine ldd hs 5 (TV u6 v7 s8) isAgg79 sizeOf79 rfl rfl rfl rfl rfl fun ac hs => ?_
 refine ldd hs 6 (TV u9 v10 s11) isAgg79 sizeOf79 rfl rfl rfl rfl rfl fun ac hs => ?_
 obtain ⟨X14, Y15, Z16, hX14, lX14, lY15, lZ16⟩ : ∃ zz0 zz1 zz2, sJ u6 v7 s8 u9 v10 s11 = (zz0, zz1, zz2) ∧ zz0 < 2 ^ 256 ∧ zz1 < 2 ^ 256 ∧ zz2 < 2 ^ 256 := sJ_lt u6 v7 s8 u9 v10 s11 lu6 lv7 ls8 lu9 lv10 ls11
 refine stp (op_call (F := 73) hs none (v := TV X14 Y15 Z16) rfl rfl rfl rfl (call73 _) (wplus_c u6 v7 s8 u9 v10 s11 X14 Y15 Z16 lu6 lv7 ls8 lu9 lv10 ls11 hX14) rfl fun ac w hs => ?_)
 refine stp (op_alloc hs none none (cs := (TVl 0 0 0)) rfl rfl zeroValue79 (by kernel_rfl) rfl rfl fun g17 ac w hs => ?_)
 refine stp (stoo hs 7 ((TVl X14 Y15 Z16)) sizeOf79 rfl rfl rfl rfl rfl rfl rfl rfl rfl rfl fun w hs => ?_)
 refine wpList_nil (then_n (wp_seq (wp_region_lit ?_)))
 refine stp (op_call (F := 66) hs none (v := PV 0 0 true) rfl rfl rfl rfl (call66 _) zero_c rfl fun ac w hs => ?_)
 refine stp (op_call (F := 72) hs none (v := TV 1 1 0) rfl rfl rfl rfl (call72 _) (weigh_c 0 0 true 1 1 0 (by decide) (by decide) rfl rfl rfl) rfl fun ac w hs => ?_)
 refine stp (op_alloc hs none none (cs := (TVl 0 0 0)) rfl rfl zeroValue79 (by kernel_rfl) rfl rfl fun g18 ac w hs => ?_)
 refine stp (stoo hs 8 ((TVl 1 1 0)) sizeOf79 rfl rfl rfl rfl rfl rfl rfl rfl rfl rfl fun w hs => ?_)
 refine wpList_nil (then_n (wp_seq (wp_seq ?_)))
 replace hs := hs.n0 [4, 6, 8, 9, 10, 11, 12] rfl rfl
 have ll19 := ln_le a 256 ha
 have ll20 := ln_le b 256 hb
 refine region_inv [([], [1, 3, 4, 5, 6]), ([0], rgn 3 4), ([], rgn 3 4), ([0, 1, 2], [4, 5, 6]), (rgn 0 4, [5, 6]), (rgn 0 5, [6]), (rgn 0 6, [])] (fun L ac w => St 65 w0 [(27, L 0, W a), (28, L 1, ni64 (ln a)), (29, L 2, W b), (30, L 3, ni64 (ln b)), (31, L 4, .int .i64 ((max (ln a) (ln b) : Nat) : Int)), (32, L 5, .int .i64 (((max (ln a) (ln b) : Nat) : Int) - 1)), (13, L 6, .int .i64 (((max (ln a) (ln b) : Nat) : Int) - 1)), (4, true, ptA g1 0), (6, true, ptA g3 0), (8, true, ptA g5 0), (9, true, ptA g12 0), (10, true, ptA g13 0), (11, true, ptA g17 0), (12, true, ptA g18 0)] [(true, g1, 24, (Wl a)), (true, g2, 42, (PVl x1 y1 z1)), (true, g3, 24, (Wl b)), (true, g4, 42, (PVl x2 y2 z2)), (true, g5, 42, (PVl 0 0 false)), (true, g12, 79, (TVl u6 v7 s8)), (true, g13, 79, (TVl u9 v10 s11)), (true, g17, 79, (TVl X14 Y15 Z16)), (true, g18, 79, (TVl 1 1 0))] ac w) (by kernel_rfl) (by kernel_rfl) ?_ ?_ ?_
 ·exact hs.drew.skip.skip.skip.skip.skip.skip.skip
 ·refine ⟨?_, ?_, ?_, ?_, ?_, ?_, ?_, trivial⟩
  ·exact fun L ac w hs => pln (oldd hs 0 0 (W a) isAgg24 sizeOf24 rfl rfl rfl rfl rfl fun ac hs => hs)
  ·exact fun L ac w hs => pln (op_call (F := 74) hs (some 1) (v := ni64 (ln a)) rfl rfl rfl rfl (call74 _) (fun w => len_any w a ha) rfl fun ac w hs => hs)
  ·exact fun L ac w hs => pln (oldd hs 2 2 (W b) isAgg24 sizeOf24 rfl rfl rfl rfl rfl fun ac hs => hs)
  ·exact fun L ac w hs => pln (op_call (F := 74) hs (some 3) (v := ni64 (ln b)) rfl rfl rfl rfl (call74 _) (fun w => len_any w b hb) rfl fun ac w hs => hs)
  ·exact fun L ac w hs => pln (op_blt hs (some 4) (v := .int .i64 ((max (ln a) (ln b) : Nat) : Int)) rfl rfl rfl blt_maxN rfl fun ac hs => hs)
  ·exact fun L ac w hs => pln (obn hs 5 (.int .i64 (((max (ln a) (ln b) : Nat) : Int) - 1)) rfl rfl rfl rfl (bin_subP (by omega)) fun ac hs => hs)
  ·exact fun L ac w hs => pln (oas hs 6 rfl rfl rfl fun ac hs => hs)
 intro ac w hs
 try dsimp only [cond_true] at hs
 refine then_n (wp_block ?_)
 refine wp_loop_m (fun μ ac w => ∃ (k : Nat) (ox : Nat) (oy : Nat) (oz : Nat), (k) = μ ∧ (k ≤ 256) ∧ (JN ox oy oz (EM.Pt.add (EM.nmul (a / 2 ^ k) P) (EM.nmul (b / 2 ^ k) Q))) ∧ (ox < 2 ^ 256) ∧ (oy < 2 ^ 256) ∧ (oz < 2 ^ 256) ∧ St 65 w0 [(4, true, ptA g1 0), (6, true, ptA g3 0), (8, true, ptA g5 0), (9, true, ptA g12 0), (10, true, ptA g13 0), (11, true, ptA g17 0), (12, true, ptA g18 0), (13, true, .int .i64 (((k : Nat) : Int) - 1))] [(true, g1, 24, (Wl a)), (true, g2, 42, (PVl x1 y1 z1)), (true, g3, 24, (Wl b)), (true, g4, 42, (PVl x2 y2 z2)), (true, g5, 42, (PVl 0 0 false)), (true, g12, 79, (TVl u6 v7 s8)), (true, g13, 79, (TVl u9 v10 s11)), (true, g17, 79, (TVl X14 Y15 Z16)), (true, g18, 79, (TVl ox oy oz))] ac w) ?_ ?_
 ·exact ⟨_, (max (ln a) (ln b)), 1, 1, 0, rfl, (lenmax ha hb).1, (jn_start (lenmax ha hb).2.1 (lenmax ha hb).2.2), (by decide), (by decide), (by decide), (hs.re ⟨rfl, rfl, rfl, rfl, rfl, rfl, rfl, rfl, trivial⟩)⟩
 intro μ ac w ⟨k, ox, oy, oz, hμ, hk, hE, lx, ly, lz, hs⟩
 refine wp_seq (wp_seq (wp_region_lit ?_))
 refine mvv hs rfl rfl rfl fun ac hs => ?_
 refine bnn hs (.bool (decide (1 ≤ k))) rfl rfl rfl rfl bin_geqP fun ac hs => ?_
 refine wpList_nil (then_n ?_)
 refine wp_cond_split (hs.ev rfl) (fun hc => ?_) (fun hc => ?_)
 ·skip
  have hp21 := of_decide_eq_true hc
  replace hs := hs.re (fs' := [(4, true, ptA g1 0), (6, true, ptA g3 0), (8, true, ptA g5 0), (9, true, ptA g12 0), (10, true, ptA g13 0), (11, true, ptA g17 0), (12, true, ptA g18 0), (13, true, ni64 (k - 1)), (33, true, .int .i64 (((k : Nat) : Int) - 1)), (34, true, .bool (decide (1 ≤ k)))]) ⟨rfl, rfl, rfl, rfl, rfl, rfl, rfl, congrArg some (pre_nat hp21), rfl, rfl, trivial⟩
  refine wp_skip (then_n (wp_seq (wp_block (wp_seq (wp_region_lit ?_)))))
  refine ldd hs 8 (TV ox oy oz) isAgg79 sizeOf79 rfl rfl rfl rfl rfl fun ac hs => ?_
  obtain ⟨X22, Y23, Z24, hX22, lX22, lY23, lZ24⟩ : ∃ zz0 zz1 zz2, dJ ox oy oz = (zz0, zz1, zz2) ∧ zz0 < 2 ^ 256 ∧ zz1 < 2 ^ 256 ∧ zz2 < 2 ^ 256 := dJ_lt ox oy oz
  refine stp (op_call (F := 75) hs none (v := TV X22 Y23 Z24) rfl rfl rfl rfl (call75 _) (doubled_c ox oy oz X22 Y23 Z24 lx ly lz hX22) rfl fun ac w hs => ?_)
  refine stp (stoo hs 8 ((TVl X22 Y23 Z24)) sizeOf79 rfl rfl rfl rfl rfl rfl rfl rfl rfl rfl fun w hs => ?_)
  refine wpList_nil (then_n (wp_seq ?_))
  by_cases hq25 : a / 2 ^ (k - 1) % 2 = 1
  ·skip
   by_cases hq26 : b / 2 ^ (k - 1) % 2 = 1
   ·skip
    replace hs := hs.n0 [4, 6, 8, 9, 10, 11, 12, 13] rfl rfl
    refine region_inv [([], [2, 5, 6, 7]), ([], [2, 5, 6, 7]), ([0, 1], [5, 6, 7]), ([], [5, 6, 7]), ([], [5, 6, 7]), (rgn 0 5, [6, 7]), (rgn 0 6, [7]), (rgn 0 7, [])] (fun L ac w => St 65 w0 [(39, L 0, W a), (40, L 1, ni64 (k - 1)), (41, L 2, .bool true), (42, L 3, W b), (43, L 4, ni64 (k - 1)), (44, L 5, .bool true), (14, L 6, .bool true), (15, L 7, .bool true), (4, true, ptA g1 0), (6, true, ptA g3 0), (8, true, ptA g5 0), (9, true, ptA g12 0), (10, true, ptA g13 0), (11, true, ptA g17 0), (12, true, ptA g18 0), (13, true, ni64 (k - 1))] [(true, g1, 24, (Wl a)), (true, g2, 42, (PVl x1 y1 z1)), (true, g3, 24, (Wl b)), (true, g4, 42, (PVl x2 y2 z2)), (true, g5, 42, (PVl 0 0 false)), (true, g12, 79, (TVl u6 v7 s8)), (true, g13, 79, (TVl u9 v10 s11)), (true, g17, 79, (TVl X14 Y15 Z16)), (true, g18, 79, (TVl X22 Y23 Z24))] ac w) (by kernel_rfl) (by kernel_rfl) ?_ ?_ ?_
    ·exact hs.drew.skip.skip.skip.skip.skip.skip.skip.skip
    ·refine ⟨?_, ?_, ?_, ?_, ?_, ?_, ?_, ?_, trivial⟩
     ·exact fun L ac w hs => pln (oldd hs 0 0 (W a) isAgg24 sizeOf24 rfl rfl rfl rfl rfl fun ac hs => hs)
     ·exact fun L ac w hs => pln (omv hs 1 rfl rfl rfl fun ac hs => hs)
     ·exact fun L ac w hs => pln (op_call (F := 76) hs (some 2) (v := .bool true) rfl rfl rfl rfl (call76 _) (pbit_c a (k - 1) true ha (show k - 1 < 256 by omega) (decide_eq_true hq25)) rfl fun ac w hs => hs)
     ·exact fun L ac w hs => pln (oldd hs 3 2 (W b) isAgg24 sizeOf24 rfl rfl rfl rfl rfl fun ac hs => hs)
     ·exact fun L ac w hs => pln (omv hs 4 rfl rfl rfl fun ac hs => hs)
     ·exact fun L ac w hs => pln (op_call (F := 76) hs (some 5) (v := .bool true) rfl rfl rfl rfl (call76 _) (pbit_c b (k - 1) true hb (show k - 1 < 256 by omega) (decide_eq_true hq26)) rfl fun ac w hs => hs)
     ·exact fun L ac w hs => pln (oas hs 6 rfl rfl rfl fun ac hs => hs)
     ·exact fun L ac w hs => pln (oas hs 7 rfl rfl rfl fun ac hs => hs)
    intro ac w hs
    try dsimp only [cond_true] at hs
    refine then_n (wp_block (wp_seq (wp_region_lit ?_)))
    refine mvv hs rfl rfl rfl fun ac hs => ?_
    refine mvv hs rfl rfl rfl fun ac hs => ?_
    refine lstep (wpO_in hs rfl rfl rfl (op_move hs none rfl rfl rfl rfl fun ac hs => ?_))
    refine stp (op_pickT hs none rfl rfl rfl rfl rfl fun ac hs => ?_)
    refine asg hs rfl rfl rfl fun ac hs => ?_
    refine wpList_nil (then_n ?_)
    refine wp_cond_true (hs.ev rfl) ?_
    refine wp_region_lit ?_
    refine ldd hs 8 (TV X22 Y23 Z24) isAgg79 sizeOf79 rfl rfl rfl rfl rfl fun ac hs => ?_
    refine ldd hs 7 (TV X14 Y15 Z16) isAgg79 sizeOf79 rfl rfl rfl rfl rfl fun ac hs => ?_
    obtain ⟨X27, Y28, Z29, hX27, lX27, lY28, lZ29⟩ : ∃ zz0 zz1 zz2, sJ X22 Y23 Z24 X14 Y15 Z16 = (zz0, zz1, zz2) ∧ zz0 < 2 ^ 256 ∧ zz1 < 2 ^ 256 ∧ zz2 < 2 ^ 256 := sJ_lt X22 Y23 Z24 X14 Y15 Z16 lX22 lY23 lZ24 lX14 lY15 lZ16
    refine stp (op_call (F := 73) hs none (v := TV X27 Y28 Z29) rfl rfl rfl rfl (call73 _) (wplus_c X22 Y23 Z24 X14 Y15 Z16 X27 Y28 Z29 lX22 lY23 lZ24 lX14 lY15 lZ16 hX27) rfl fun ac w hs => ?_)
    refine stp (stoo hs 8 ((TVl X27 Y28 Z29)) sizeOf79 rfl rfl rfl rfl rfl rfl rfl rfl rfl rfl fun w hs => ?_)
    refine wpList_nil (blk_n (blk_n (then_n ?_)))
    replace hs := hs.n0 [4, 6, 8, 9, 10, 11, 12, 13] rfl rfl
    refine wp_region_lit ?_
    refine mvv hs rfl rfl rfl fun ac hs => ?_
    refine bnn hs (.int .i64 (((k - 1 : Nat) : Int) - 1)) rfl rfl rfl rfl (bin_subP (by omega)) fun ac hs => ?_
    refine asg hs rfl rfl rfl fun ac hs => ?_
    refine wpList_nil (then_n ?_)
    exact ⟨_, ⟨(k - 1), X27, Y28, Z29, rfl, (by omega), (bothTT oP oQ hp21 hq25 hq26 (sJ_jn (dJ_jn hE hX22) (sJ_jn (weigh_jn oP hu6 hv7 hs8) (weigh_jn oQ hu9 hv10 hs11) hX14) hX27)), lX27, lY28, lZ29, (hs.re ⟨rfl, rfl, rfl, rfl, rfl, rfl, rfl, rfl, trivial⟩)⟩, (by omega)⟩
   ·skip
    replace hs := hs.n0 [4, 6, 8, 9, 10, 11, 12, 13] rfl rfl
    refine region_inv [([], [2, 5, 6, 7]), ([], [2, 5, 6, 7]), ([0, 1], [5, 6, 7]), ([], [5, 6, 7]), ([], [5, 6, 7]), (rgn 0 5, [6, 7]), (rgn 0 6, [7]), (rgn 0 7, [])] (fun L ac w => St 65 w0 [(39, L 0, W a), (40, L 1, ni64 (k - 1)), (41, L 2, .bool true), (42, L 3, W b), (43, L 4, ni64 (k - 1)), (44, L 5, .bool false), (14, L 6, .bool true), (15, L 7, .bool false), (4, true, ptA g1 0), (6, true, ptA g3 0), (8, true, ptA g5 0), (9, true, ptA g12 0), (10, true, ptA g13 0), (11, true, ptA g17 0), (12, true, ptA g18 0), (13, true, ni64 (k - 1))] [(true, g1, 24, (Wl a)), (true, g2, 42, (PVl x1 y1 z1)), (true, g3, 24, (Wl b)), (true, g4, 42, (PVl x2 y2 z2)), (true, g5, 42, (PVl 0 0 false)), (true, g12, 79, (TVl u6 v7 s8)), (true, g13, 79, (TVl u9 v10 s11)), (true, g17, 79, (TVl X14 Y15 Z16)), (true, g18, 79, (TVl X22 Y23 Z24))] ac w) (by kernel_rfl) (by kernel_rfl) ?_ ?_ ?_
    ·exact hs.drew.skip.skip.skip.skip.skip.skip.skip.skip
    ·refine ⟨?_, ?_, ?_, ?_, ?_, ?_, ?_, ?_, trivial⟩
     ·exact fun L ac w hs => pln (oldd hs 0 0 (W a) isAgg24 sizeOf24 rfl rfl rfl rfl rfl fun ac hs => hs)
     ·exact fun L ac w hs => pln (omv hs 1 rfl rfl rfl fun ac hs => hs)
     ·exact fun L ac w hs => pln (op_call (F := 76) hs (some 2) (v := .bool true) rfl rfl rfl rfl (call76 _) (pbit_c a (k - 1) true ha (show k - 1 < 256 by omega) (decide_eq_true hq25)) rfl fun ac w hs => hs)
     ·exact fun L ac w hs => pln (oldd hs 3 2 (W b) isAgg24 sizeOf24 rfl rfl rfl rfl rfl fun ac hs => hs)
     ·exact fun L ac w hs => pln (omv hs 4 rfl rfl rfl fun ac hs => hs)
     ·exact fun L ac w hs => pln (op_call (F := 76) hs (some 5) (v := .bool false) rfl rfl rfl rfl (call76 _) (pbit_c b (k - 1) false hb (show k - 1 < 256 by omega) (decide_eq_false hq26)) rfl fun ac w hs => hs)
     ·exact fun L ac w hs => pln (oas hs 6 rfl rfl rfl fun ac hs => hs)
     ·exact fun L ac w hs => pln (oas hs 7 rfl rfl rfl fun ac hs => hs)
    intro ac w hs
    try dsimp only [cond_true] at hs
    refine then_n (wp_block (wp_seq (wp_region_lit ?_)))
    refine mvv hs rfl rfl rfl fun ac hs => ?_
    refine mvv hs rfl rfl rfl fun ac hs => ?_
    refine lstep (wpO_in hs rfl rfl rfl (op_move hs none rfl rfl rfl rfl fun ac hs => ?_))
    refine stp (op_pickT hs none rfl rfl rfl rfl rfl fun ac hs => ?_)
    refine asg hs rfl rfl rfl fun ac hs => ?_
    refine wpList_nil (then_n ?_)
    refine wp_cond_false (hs.ev rfl) ?_
    refine wp_seq (wp_region_lit ?_)
    refine mvv hs rfl rfl rfl fun ac hs => ?_
    refine asg hs rfl rfl rfl fun ac hs => ?_
    refine wpList_nil (then_n ?_)
    refine wp_cond_true (hs.ev rfl) ?_
    replace hs := hs.n0 [4, 6, 8, 9, 10, 11, 12, 13] rfl rfl
    refine wp_region_lit ?_
    refine ldd hs 8 (TV X22 Y23 Z24) isAgg79 sizeOf79 rfl rfl rfl rfl rfl fun ac hs => ?_
    refine ldd hs 5 (TV u6 v7 s8) isAgg79 sizeOf79 rfl rfl rfl rfl rfl fun ac hs => ?_
    obtain ⟨X30, Y31, Z32, hX30, lX30, lY31, lZ32⟩ : ∃ zz0 zz1 zz2, sJ X22 Y23 Z24 u6 v7 s8 = (zz0, zz1, zz2) ∧ zz0 < 2 ^ 256 ∧ zz1 < 2 ^ 256 ∧ zz2 < 2 ^ 256 := sJ_lt X22 Y23 Z24 u6 v7 s8 lX22 lY23 lZ24 lu6 lv7 ls8
    refine stp (op_call (F := 73) hs none (v := TV X30 Y31 Z32) rfl rfl rfl rfl (call73 _) (wplus_c X22 Y23 Z24 u6 v7 s8 X30 Y31 Z32 lX22 lY23 lZ24 lu6 lv7 ls8 hX30) rfl fun ac w hs => ?_)
    refine stp (stoo hs 8 ((TVl X30 Y31 Z32)) sizeOf79 rfl rfl rfl rfl rfl rfl rfl rfl rfl rfl fun w hs => ?_)
    refine wpList_nil (blk_n (blk_n (then_n (wp_region_lit ?_))))
    refine mvv hs rfl rfl rfl fun ac hs => ?_
    refine bnn hs (.int .i64 (((k - 1 : Nat) : Int) - 1)) rfl rfl rfl rfl (bin_subP (by omega)) fun ac hs => ?_
    refine asg hs rfl rfl rfl fun ac hs => ?_
    refine wpList_nil (then_n ?_)
    exact ⟨_, ⟨(k - 1), X30, Y31, Z32, rfl, (by omega), (bothTF oP oQ hp21 hq25 hq26 (sJ_jn (dJ_jn hE hX22) (weigh_jn oP hu6 hv7 hs8) hX30)), lX30, lY31, lZ32, (hs.re ⟨rfl, rfl, rfl, rfl, rfl, rfl, rfl, rfl, trivial⟩)⟩, (by omega)⟩
  ·skip
   by_cases hq33 : b / 2 ^ (k - 1) % 2 = 1
   ·skip
    replace hs := hs.n0 [4, 6, 8, 9, 10, 11, 12, 13] rfl rfl
    refine region_inv [([], [2, 5, 6, 7]), ([], [2, 5, 6, 7]), ([0, 1], [5, 6, 7]), ([], [5, 6, 7]), ([], [5, 6, 7]), (rgn 0 5, [6, 7]), (rgn 0 6, [7]), (rgn 0 7, [])] (fun L ac w => St 65 w0 [(39, L 0, W a), (40, L 1, ni64 (k - 1)), (41, L 2, .bool false), (42, L 3, W b), (43, L 4, ni64 (k - 1)), (44, L 5, .bool true), (14, L 6, .bool false), (15, L 7, .bool true), (4, true, ptA g1 0), (6, true, ptA g3 0), (8, true, ptA g5 0), (9, true, ptA g12 0), (10, true, ptA g13 0), (11, true, ptA g17 0), (12, true, ptA g18 0), (13, true, ni64 (k - 1))] [(true, g1, 24, (Wl a)), (true, g2, 42, (PVl x1 y1 z1)), (true, g3, 24, (Wl b)), (true, g4, 42, (PVl x2 y2 z2)), (true, g5, 42, (PVl 0 0 false)), (true, g12, 79, (TVl u6 v7 s8)), (true, g13, 79, (TVl u9 v10 s11)), (true, g17, 79, (TVl X14 Y15 Z16)), (true, g18, 79, (TVl X22 Y23 Z24))] ac w) (by kernel_rfl) (by kernel_rfl) ?_ ?_ ?_
    ·exact hs.drew.skip.skip.skip.skip.skip.skip.skip.skip
    ·refine ⟨?_, ?_, ?_, ?_, ?_, ?_, ?_, ?_, trivial⟩
     ·exact fun L ac w hs => pln (oldd hs 0 0 (W a) isAgg24 sizeOf24 rfl rfl rfl rfl rfl fun ac hs => hs)
     ·exact fun L ac w hs => pln (omv hs 1 rfl rfl rfl fun ac hs => hs)
     ·exact fun L ac w hs => pln (op_call (F := 76) hs (some 2) (v := .bool false) rfl rfl rfl rfl (call76 _) (pbit_c a (k - 1) false ha (show k - 1 < 256 by omega) (decide_eq_false hq25)) rfl fun ac w hs => hs)
     ·exact fun L ac w hs => pln (oldd hs 3 2 (W b) isAgg24 sizeOf24 rfl rfl rfl rfl rfl fun ac hs => hs)
     ·exact fun L ac w hs => pln (omv hs 4 rfl rfl rfl fun ac hs => hs)
     ·exact fun L ac w hs => pln (op_call (F := 76) hs (some 5) (v := .bool true) rfl rfl rfl rfl (call76 _) (pbit_c b (k - 1) true hb (show k - 1 < 256 by omega) (decide_eq_true hq33)) rfl fun ac w hs => hs)
     ·exact fun L ac w hs => pln (oas hs 6 rfl rfl rfl fun ac hs => hs)
     ·exact fun L ac w hs => pln (oas hs 7 rfl rfl rfl fun ac hs => hs)
    intro ac w hs
    try dsimp only [cond_true] at hs
    refine then_n (wp_block (wp_seq (wp_region_lit ?_)))
    refine mvv hs rfl rfl rfl fun ac hs => ?_
    refine mvv hs rfl rfl rfl fun ac hs => ?_
    refine lstep (wpO_out hs none rfl rfl (.inl rfl) rfl rfl fun ac hs => ?_)
    refine stp (op_pickF hs none rfl rfl rfl rfl rfl fun ac hs => ?_)
    refine asg hs rfl rfl rfl fun ac hs => ?_
    refine wpList_nil (then_n ?_)
    refine wp_cond_false (hs.ev rfl) ?_
    refine wp_seq (wp_region_lit ?_)
    refine mvv hs rfl rfl rfl fun ac hs => ?_
    refine asg hs rfl rfl rfl fun ac hs => ?_
    refine wpList_nil (then_n ?_)
    refine wp_cond_false (hs.ev rfl) ?_
    refine wp_seq ?_
    replace hs := hs.n0 [4, 6, 8, 9, 10, 11, 12, 13, 15] rfl rfl
    refine wp_region_lit ?_
    refine mvv hs rfl rfl rfl fun ac hs => ?_
    refine asg hs rfl rfl rfl fun ac hs => ?_
    refine wpList_nil (then_n ?_)
    refine wp_cond_true (hs.ev rfl) ?_
    refine wp_region_lit ?_
    refine ldd hs 8 (TV X22 Y23 Z24) isAgg79 sizeOf79 rfl rfl rfl rfl rfl fun ac hs => ?_
    refine ldd hs 6 (TV u9 v10 s11) isAgg79 sizeOf79 rfl rfl rfl rfl rfl fun ac hs => ?_
    obtain ⟨X34, Y35, Z36, hX34, lX34, lY35, lZ36⟩ : ∃ zz0 zz1 zz2, sJ X22 Y23 Z24 u9 v10 s11 = (zz0, zz1, zz2) ∧ zz0 < 2 ^ 256 ∧ zz1 < 2 ^ 256 ∧ zz2 < 2 ^ 256 := sJ_lt X22 Y23 Z24 u9 v10 s11 lX22 lY23 lZ24 lu9 lv10 ls11
    refine stp (op_call (F := 73) hs none (v := TV X34 Y35 Z36) rfl rfl rfl rfl (call73 _) (wplus_c X22 Y23 Z24 u9 v10 s11 X34 Y35 Z36 lX22 lY23 lZ24 lu9 lv10 ls11 hX34) rfl fun ac w hs => ?_)
    refine stp (stoo hs 8 ((TVl X34 Y35 Z36)) sizeOf79 rfl rfl rfl rfl rfl rfl rfl rfl rfl rfl fun w hs => ?_)
    refine wpList_nil (blk_n (blk_n (then_n ?_)))
    replace hs := hs.n0 [4, 6, 8, 9, 10, 11, 12, 13] rfl rfl
    refine wp_region_lit ?_
    refine mvv hs rfl rfl rfl fun ac hs => ?_
    refine bnn hs (.int .i64 (((k - 1 : Nat) : Int) - 1)) rfl rfl rfl rfl (bin_subP (by omega)) fun ac hs => ?_
    refine asg hs rfl rfl rfl fun ac hs => ?_
    refine wpList_nil (then_n ?_)
    exact ⟨_, ⟨(k - 1), X34, Y35, Z36, rfl, (by omega), (bothFT oP oQ hp21 hq25 hq33 (sJ_jn (dJ_jn hE hX22) (weigh_jn oQ hu9 hv10 hs11) hX34)), lX34, lY35, lZ36, (hs.re ⟨rfl, rfl, rfl, rfl, rfl, rfl, rfl, rfl, trivial⟩)⟩, (by omega)⟩
   ·skip
    replace hs := hs.n0 [4, 6, 8, 9, 10, 11, 12, 13] rfl rfl
    refine region_inv [([], [2, 5, 6, 7]), ([], [2, 5, 6, 7]), ([0, 1], [5, 6, 7]), ([], [5, 6, 7]), ([], [5, 6, 7]), (rgn 0 5, [6, 7]), (rgn 0 6, [7]), (rgn 0 7, [])] (fun L ac w => St 65 w0 [(39, L 0, W a), (40, L 1, ni64 (k - 1)), (41, L 2, .bool false), (42, L 3, W b), (43, L 4, ni64 (k - 1)), (44, L 5, .bool false), (14, L 6, .bool false), (15, L 7, .bool false), (4, true, ptA g1 0), (6, true, ptA g3 0), (8, true, ptA g5 0), (9, true, ptA g12 0), (10, true, ptA g13 0), (11, true, ptA g17 0), (12, true, ptA g18 0), (13, true, ni64 (k - 1))] [(true, g1, 24, (Wl a)), (true, g2, 42, (PVl x1 y1 z1)), (true, g3, 24, (Wl b)), (true, g4, 42, (PVl x2 y2 z2)), (true, g5, 42, (PVl 0 0 false)), (true, g12, 79, (TVl u6 v7 s8)), (true, g13, 79, (TVl u9 v10 s11)), (true, g17, 79, (TVl X14 Y15 Z16)), (true, g18, 79, (TVl X22 Y23 Z24))] ac w) (by kernel_rfl) (by kernel_rfl) ?_ ?_ ?_
    ·exact hs.drew.skip.skip.skip.skip.skip.skip.skip.skip
    ·refine ⟨?_, ?_, ?_, ?_, ?_, ?_, ?_, ?_, trivial⟩
     ·exact fun L ac w hs => pln (oldd hs 0 0 (W a) isAgg24 sizeOf24 rfl rfl rfl rfl rfl fun ac hs => hs)
     ·exact fun L ac w hs => pln (omv hs 1 rfl rfl rfl fun ac hs => hs)
     ·exact fun L ac w hs => pln (op_call (F := 76) hs (some 2) (v := .bool false) rfl rfl rfl rfl (call76 _) (pbit_c a (k - 1) false ha (show k - 1 < 256 by omega) (decide_eq_false hq25)) rfl fun ac w hs => hs)
     ·exact fun L ac w hs => pln (oldd hs 3 2 (W b) isAgg24 sizeOf24 rfl rfl rfl rfl rfl fun ac hs => hs)
     ·exact fun L ac w hs => pln (omv hs 4 rfl rfl rfl fun ac hs => hs)
     ·exact fun L ac w hs => pln (op_call (F := 76) hs (some 5) (v := .bool false) rfl rfl rfl rfl (call76 _) (pbit_c b (k - 1) false hb (show k - 1 < 256 by omega) (decide_eq_false hq33)) rfl fun ac w hs => hs)
     ·exact fun L ac w hs => pln (oas hs 6 rfl rfl rfl fun ac hs => hs)
     ·exact fun L ac w hs => pln (oas hs 7 rfl rfl rfl fun ac hs => hs)
    intro ac w hs
    try dsimp only [cond_true] at hs
    refine then_n (wp_block (wp_seq (wp_region_lit ?_)))
    refine mvv hs rfl rfl rfl fun ac hs => ?_
    refine mvv hs rfl rfl rfl fun ac hs => ?_
    refine lstep (wpO_out hs none rfl rfl (.inl rfl) rfl rfl fun ac hs => ?_)
    refine stp (op_pickF hs none rfl rfl rfl rfl rfl fun ac hs => ?_)
    refine asg hs rfl rfl rfl fun ac hs => ?_
    refine wpList_nil (then_n ?_)
    refine wp_cond_false (hs.ev rfl) ?_
    refine wp_seq (wp_region_lit ?_)
    refine mvv hs rfl rfl rfl fun ac hs => ?_
    refine asg hs rfl rfl rfl fun ac hs => ?_
    refine wpList_nil (then_n ?_)
    refine wp_cond_false (hs.ev rfl) ?_
    refine wp_seq ?_
    replace hs := hs.n0 [4, 6, 8, 9, 10, 11, 12, 13, 15] rfl rfl
    refine wp_region_lit ?_
    refine mvv hs rfl rfl rfl fun ac hs => ?_
    refine asg hs rfl rfl rfl fun ac hs => ?_
    refine wpList_nil (then_n ?_)
    refine wp_cond_false (hs.ev rfl) ?_
    refine wp_skip (blk_n (blk_n (then_n (wp_region_lit ?_))))
    refine mvv hs rfl rfl rfl fun ac hs => ?_
    refine bnn hs (.int .i64 (((k - 1 : Nat) : Int) - 1)) rfl rfl rfl rfl (bin_subP (by omega)) fun ac hs => ?_
    refine asg hs rfl rfl rfl fun ac hs => ?_
    refine wpList_nil (then_n ?_)
    exact ⟨_, ⟨(k - 1), X22, Y23, Z24, rfl, (by omega), (bothFF oP oQ hp21 hq25 hq33 (dJ_jn hE hX22)), lX22, lY23, lZ24, (hs.re ⟨rfl, rfl, rfl, rfl, rfl, rfl, rfl, rfl, trivial⟩)⟩, (by omega)⟩
 ·skip
  have hp37 := of_decide_eq_false hc
  obtain rfl : k = 0 := by omega
  refine wp_exit (then_e (then_e (blk_e (then_n (wp_seq (wp_region_lit ?_))))))
  refine ldd hs 8 (TV ox oy oz) isAgg79 sizeOf79 rfl rfl rfl rfl rfl fun ac hs => ?_
  refine stp (op_call (F := 77) hs none (v := PV (px (EM.Pt.add (EM.nmul (a / 2 ^ 0) P) (EM.nmul (b / 2 ^ 0) Q))) (py (EM.Pt.add (EM.nmul (a / 2 ^ 0) P) (EM.nmul (b / 2 ^ 0) Q))) (pz (EM.Pt.add (EM.nmul (a / 2 ^ 0) P) (EM.nmul (b / 2 ^ 0) Q)))) rfl rfl rfl rfl (call77 _) (plain_c ox oy oz (EM.Pt.add (EM.nmul (a / 2 ^ 0) P) (EM.nmul (b / 2 ^ 0) Q)) lx ly lz hE) rfl fun ac w hs => ?_)
  refine stp (stoo hs 4 ((PVl (px (EM.Pt.add (EM.nmul (a / 2 ^ 0) P) (EM.nmul (b / 2 ^ 0) Q))) (py (EM.Pt.add (EM.nmul (a / 2 ^ 0) P) (EM.nmul (b / 2 ^ 0) Q))) (pz (EM.Pt.add (EM.nmul (a / 2 ^ 0) P) (EM.nmul (b / 2 ^ 0) Q))))) sizeOf42 rfl rfl rfl rfl rfl rfl rfl rfl rfl rfl fun w hs => ?_)
  refine wpList_nil (then_n (wp_ret ?_))
  exact bodyPost_ret (res1 rfl (rv_c hs 4 (v := PV (px (EM.Pt.add (EM.nmul (a / 2 ^ 0) P) (EM.nmul (b / 2 ^ 0) Q))) (py (EM.Pt.add (EM.nmul (a / 2 ^ 0) P) (EM.nmul (b / 2 ^ 0) Q))) (pz (EM.Pt.add (EM.nmul (a / 2 ^ 0) P) (EM.nmul (b / 2 ^ 0) Q)))) rfl rfl isAgg42 sizeOf42 rfl)) hs.defers ⟨by rw [← hT, Nat.pow_zero, Nat.div_one, Nat.div_one], (hs.bel rfl)⟩
theorem mul14_c (a x y : Nat) (z : Bool) (P T : EM.Pt Pf) (ha : a < 2 ^ 256) (hx : x < 2 ^ 256) (hy : y < 2 ^ 256) (hP : ptOf x y z = P) (hT : EM.nmul a P = T) (w0 : World) : Calls prog 49 #[W a, PV x y z] w0 fun e w' => e = .returned (PV (px T) (py T) (pz T)) ∧ Below w0.heap.size w0 w' := by
 have oP : P.on := by rw [← hP]; exact pt_on x y z
 refine enter (n := 10) (args := [W a, PV x y z]) func49 rfl rfl (Nat.le_of_ble_eq_true rfl) fun ac hs => ?_
 refine wp_seq (wp_region_lit ?_)
 refine stp (op_box hs none none (cs := (Wl a)) rfl rfl rfl rfl rfl rfl fun g1 ac w hs => ?_)
 refine stp (op_box hs none none (cs := (PVl x y z)) rfl rfl rfl rfl rfl rfl fun g2 ac w hs => ?_)
 refine stp (op_alloc hs none none (cs := (PVl 0 0 false)) rfl rfl zeroValue42 (by kernel_rfl) rfl rfl fun g3 ac w hs => ?_)
 refine wpList_nil (then_n (wp_seq ?_))
 replace hs := hs.n0 [2, 3, 4] rfl rfl
 obtain ⟨T4, hT4, oT4⟩ := mkBoth a 0 oP O_on
 refine region_inv [([], [4, 5]), ([], [4, 5]), ([], [4, 5]), ([], [4, 5]), (rgn 0 4, [5]), (rgn 0 5, [])] (fun L ac w => St 10 w0 [(5, L 0, W a), (6, L 1, PV x y z), (7, L 2, .agg #[.int .u64 0, .int .u64 0, .int .u64 0, .int .u64 0]), (8, L 3, PV 0 0 true), (9, L 4, PV (px T4) (py T4) (pz T4)), (2, true, ptA g1 0), (3, true, ptA g2 0), (4, true, ptA g3 0)] [(true, g1, 24, (Wl a)), (true, g2, 42, (PVl x y z)), (true, g3, 42, (cond (L 5) (PVl (px T4) (py T4) (pz T4)) (PVl 0 0 false)))] ac w) (by kernel_rfl) (by kernel_rfl) ?_ ?_ ?_
 ·exact hs.drew.skip.skip.skip.skip.skip
 ·refine ⟨?_, ?_, ?_, ?_, ?_, ?_, trivial⟩
  ·exact fun L ac w hs => pln (oldd hs 0 0 (W a) isAgg24 sizeOf24 rfl rfl rfl rfl rfl fun ac hs => hs)
  ·exact fun L ac w hs => pln (oldd hs 1 1 (PV x y z) isAgg42 sizeOf42 rfl rfl rfl rfl rfl fun ac hs => hs)
  ·exact fun L ac w hs => pln (op_build hs (some 2) (qs := []) (v := .agg #[.int .u64 0, .int .u64 0, .int .u64 0, .int .u64 0]) rfl rfl rfl rfl (fun _ => by kernel_rfl) rfl fun ac hs => hs)
  ·exact fun L ac w hs => pln (op_call (F := 66) hs (some 3) (v := PV 0 0 true) rfl rfl rfl rfl (call66 _) zero_c rfl fun ac w hs => hs)
  ·exact fun L ac w hs => pln (op_call (F := 33) hs (some 4) (v := PV (px T4) (py T4) (pz T4)) rfl rfl rfl rfl (call33 _) (both_c a x y z 0 0 0 true P EM.Pt.O T4 ha hx hy (by decide) (by decide) (by decide) hP rfl hT4) rfl fun ac w hs => hs)
  ·exact fun L ac w hs => pln (stoo hs 2 ((PVl (px T4) (py T4) (pz T4))) sizeOf42 rfl rfl rfl rfl rfl rfl rfl rfl rfl rfl fun w hs => hs)
 intro ac w hs
 try dsimp only [cond_true] at hs
 refine then_n (wp_ret ?_)
 exact bodyPost_ret (res1 rfl (rv_c hs 2 (v := PV (px T4) (py T4) (pz T4)) rfl rfl isAgg42 sizeOf42 rfl)) hs.defers ⟨by rw [← hT4, EM.nmul_O Pf_good, EM.add_O, hT], (hs.bel rfl)⟩
theorem pbytes_c (x y : Nat) (z : Bool) (T : EM.Pt Pf) (hx : x < 2 ^ 256) (hy : y < 2 ^ 256) (hT : ptOf x y z = T) (w0 : World) : Calls prog 17 #[PV x y z] w0 fun e w' => e = .returned (At .u8 32 (by8 (px T))) ∧ Below w0.heap.size w0 w' := by
 have oT : T.on := by rw [← hT]; exact pt_on x y z
 refine enter (n := 7) (args := [PV x y z]) func17 rfl rfl (Nat.le_of_ble_eq_true rfl) fun ac hs => ?_
 refine wp_seq (wp_region_lit ?_)
 refine stp (op_box hs none none (cs := (PVl x y z)) rfl rfl rfl rfl rfl rfl fun g1 ac w hs => ?_)
 refine stp (op_alloc hs none none (cs := (tab .u8 32 (fun _ => 0))) rfl rfl zeroValue30 (by kernel_rfl) rfl rfl fun g2 ac w hs => ?_)
 refine wpList_nil (then_n (wp_seq (wp_region_lit ?_)))
 refine ldd hs 0 (PV x y z) isAgg42 sizeOf42 rfl rfl rfl rfl rfl fun ac hs => ?_
 refine stp (op_call (F := 47) hs none (v := PV (px T) (py T) (pz T)) rfl rfl rfl rfl (call47 _) (taken_c x y z T hx hy hT) rfl fun ac w hs => ?_)
 refine stp (op_field hs none (v := W (px T)) rfl rfl rfl (fun _ => by kernel_rfl) rfl fun ac hs => ?_)
 refine stp (op_call (F := 20) hs none (v := At .u8 32 (by8 (px T))) rfl rfl rfl rfl (call20 _) (bytes_c (px T) (px_lt T)) rfl fun ac w hs => ?_)
 refine stp (stoo hs 1 ((tab .u8 32 (by8 (px T)))) sizeOf30 rfl rfl rfl rfl rfl (by kernel_rfl) tab_length' (tab_one _ _ _) tab_leA wr_tab fun w hs => ?_)
 refine wpList_nil (then_n (wp_ret ?_))
 exact bodyPost_ret (res1 rfl (rv_c hs 1 (v := At .u8 32 (by8 (px T))) rfl rfl isAgg30 sizeOf30 ldv_tab)) hs.defers ⟨rfl, (hs.bel rfl)⟩
theorem even_c (x y : Nat) (z : Bool) (T : EM.Pt Pf) (q : Bool) (hx : x < 2 ^ 256) (hy : y < 2 ^ 256) (hT : ptOf x y z = T) (hq : evB T = q) (w0 : World) : Calls prog 34 #[PV x y z] w0 fun e w' => e = .returned (.bool q) ∧ Below w0.heap.size w0 w' := by
 have oT : T.on := by rw [← hT]; exact pt_on x y z
 refine enter (n := 15) (args := [PV x y z]) func34 rfl rfl (Nat.le_of_ble_eq_true rfl) fun ac hs => ?_
 refine wp_seq (wp_region_lit ?_)
 refine stp (op_box hs none none (cs := (PVl x y z)) rfl rfl rfl rfl rfl rfl fun g1 ac w hs => ?_)
 refine asg hs rfl rfl rfl fun ac hs => ?_
 refine wpList_nil (then_n (wp_seq (wp_region_lit ?_)))
 refine ldd hs 0 (PV x y z) isAgg42 sizeOf42 rfl rfl rfl rfl rfl fun ac hs => ?_
 refine stp (op_call (F := 47) hs none (v := PV (px T) (py T) (pz T)) rfl rfl rfl rfl (call47 _) (taken_c x y z T hx hy hT) rfl fun ac w hs => ?_)
 refine stp (stoo hs 0 ((PVl (px T) (py T) (pz T))) sizeOf42 rfl rfl rfl rfl rfl rfl rfl rfl rfl rfl fun w hs => ?_)
 refine wpList_nil (then_n (wp_seq ?_))
 by_cases hq2 : pz T = true
 ·skip
  replace hs := hs.setb 0 (cs' := (PVl (px T) (py T) true)) rfl (by rw [hq2]; rfl)
  refine wp_region_lit ?_
  refine stp (op_fieldA hs none rfl rfl rfl underlying42 rfl sizeOf4 (by decide) rfl fun ac hs => ?_)
  refine ldd hs 0 (.bool true) isAgg4 sizeOf4 rfl rfl rfl rfl rfl fun ac hs => ?_
  refine stp (op_un hs none (v := .bool false) rfl rfl rfl (fun _ => rfl) rfl fun ac hs => ?_)
  refine mvv hs rfl rfl rfl fun ac hs => ?_
  refine lstep (wpO_out hs none rfl rfl (.inl rfl) rfl rfl fun ac hs => ?_)
  refine lstep (wpO_out hs none rfl rfl (.inl rfl) rfl rfl fun ac hs => ?_)
  refine lstep (wpO_out hs none rfl rfl (.inl rfl) rfl rfl fun ac hs => ?_)
  refine lstep (wpO_out hs none rfl rfl (.inl rfl) rfl rfl fun ac hs => ?_)
  refine lstep (wpO_out hs none rfl rfl (.inl rfl) rfl rfl fun ac hs => ?_)
  refine stp (op_pickF hs none rfl rfl rfl rfl rfl fun ac hs => ?_)
  refine asg hs rfl rfl rfl fun ac hs => ?_
  refine wpList_nil (then_n (wp_ret ?_))
  exact bodyPost_ret (res1 rfl (rv_t hs rfl)) hs.defers ⟨by rw [← hq]; exact congrArg (fun b => Ending.returned (.bool b)) (ev_odd hq2), (hs.bel rfl)⟩
 ·skip
  replace hs := hs.setb 0 (cs' := (PVl (px T) (py T) false)) rfl (by rw [(Bool.eq_false_iff.2 hq2)]; rfl)
  refine wp_region_lit ?_
  refine stp (op_fieldA hs none rfl rfl rfl underlying42 rfl sizeOf4 (by decide) rfl fun ac hs => ?_)
  refine ldd hs 0 (.bool false) isAgg4 sizeOf4 rfl rfl rfl rfl rfl fun ac hs => ?_
  refine stp (op_un hs none (v := .bool true) rfl rfl rfl (fun _ => rfl) rfl fun ac hs => ?_)
  refine mvv hs rfl rfl rfl fun ac hs => ?_
  refine lstep (wpO_in hs rfl rfl rfl (op_fieldA hs none rfl rfl rfl underlying42 rfl sizeOf24 (by decide) rfl fun ac hs => ?_))
  refine lstep (wpO_in hs rfl rfl rfl (op_idxA hs none (j := 0) rfl rfl rfl rfl underlying24 sizeOf22 (by decide) (off := 4) rfl rfl fun ac hs => ?_))
  have l3 := limN_lt (py T) 0
  refine lstep (wpO_in hs rfl rfl rfl (op_load hs none 0 (v := .int .u64 (lim (py T) 0)) rfl rfl rfl rfl isAgg22 sizeOf22 rfl rfl fun ac hs => ?_))
  refine lstep (wpO_in hs rfl rfl rfl (op_bin hs none (v := nu64 ((limN (py T) 0) % 2)) rfl rfl rfl rfl (fun _ => rfl) (bin_andN (x := limN (py T) 0) (y := 1) (z := (limN (py T) 0) % 2) (Nat.and_two_pow_sub_one_eq_mod (limN (py T) 0) 1) (limN_lt _ _) (by decide) (show (limN (py T) 0) % 2 < 18446744073709551616 by omega)) rfl fun ac hs => ?_))
  refine lstep (wpO_in hs rfl rfl rfl (op_bin hs none (v := .bool (decide ((limN (py T) 0) % 2 = 0))) rfl rfl rfl rfl (fun _ => rfl) (bin_eqlN (x := (limN (py T) 0) % 2) (y := 0)) rfl fun ac hs => ?_))
  refine stp (op_pickT hs none rfl rfl rfl rfl rfl fun ac hs => ?_)
  refine asg hs rfl rfl rfl fun ac hs => ?_
  refine wpList_nil (then_n (wp_ret ?_))
  exact bodyPost_ret (res1 rfl (rv_t hs rfl)) hs.defers ⟨by rw [← hq]; exact congrArg (fun b => Ending.returned (.bool b)) (ev_val hq2), (hs.bel rfl)⟩
theorem base_c  (w0 : World) : Calls prog 18 #[] w0 fun e w' => e = .returned (PV (px Gp) (py Gp) (pz Gp)) ∧ Below w0.heap.size w0 w' := by
 refine enter (n := 4) (args := []) func18 rfl rfl (Nat.le_of_ble_eq_true rfl) fun ac hs => ?_
 refine wp_seq (wp_region_lit ?_)
 refine stp (op_alloc hs none none (cs := (PVl 0 0 false)) rfl rfl zeroValue42 (by kernel_rfl) rfl rfl fun g1 ac w hs => ?_)
 refine wpList_nil (then_n (wp_seq (wp_region_lit ?_)))
 refine stp (op_build hs none (qs := [(0, .int .u64 6481385041966929816), (1, .int .u64 188021827762530521), (2, .int .u64 6170039885052185351), (3, .int .u64 8772561819708210092)]) (v := .agg #[.int .u64 6481385041966929816, .int .u64 188021827762530521, .int .u64 6170039885052185351, .int .u64 8772561819708210092]) rfl rfl rfl rfl (fun _ => by kernel_rfl) rfl fun ac hs => ?_)
 refine stp (op_build hs none (qs := [(0, .int .u64 11261198710074299576), (1, .int .u64 18237243440184513561), (2, .int .u64 6747795201694173352), (3, .int .u64 5204712524664259685)]) (v := .agg #[.int .u64 11261198710074299576, .int .u64 18237243440184513561, .int .u64 6747795201694173352, .int .u64 5204712524664259685]) rfl rfl rfl rfl (fun _ => by kernel_rfl) rfl fun ac hs => ?_)
 refine stp (op_build hs none (qs := [(0, .agg #[.int .u64 6481385041966929816, .int .u64 188021827762530521, .int .u64 6170039885052185351, .int .u64 8772561819708210092]), (1, .agg #[.int .u64 11261198710074299576, .int .u64 18237243440184513561, .int .u64 6747795201694173352, .int .u64 5204712524664259685])]) (v := .agg #[.int .u64 6481385041966929816, .int .u64 188021827762530521, .int .u64 6170039885052185351, .int .u64 8772561819708210092, .int .u64 11261198710074299576, .int .u64 18237243440184513561, .int .u64 6747795201694173352, .int .u64 5204712524664259685, .bool false]) rfl rfl rfl rfl (fun _ => by kernel_rfl) rfl fun ac hs => ?_)
 refine stp (stoo hs 0 ([.int .u64 6481385041966929816, .int .u64 188021827762530521, .int .u64 6170039885052185351, .int .u64 8772561819708210092, .int .u64 11261198710074299576, .int .u64 18237243440184513561, .int .u64 6747795201694173352, .int .u64 5204712524664259685, .bool false]) sizeOf42 rfl rfl rfl rfl rfl rfl rfl rfl rfl rfl fun w hs => ?_)
 refine wpList_nil (then_n (wp_ret ?_))
 exact bodyPost_ret (res1 rfl (rv_c hs 0 (v := .agg #[.int .u64 6481385041966929816, .int .u64 188021827762530521, .int .u64 6170039885052185351, .int .u64 8772561819708210092, .int .u64 11261198710074299576, .int .u64 18237243440184513561, .int .u64 6747795201694173352, .int .u64 5204712524664259685, .bool false]) rfl rfl isAgg42 sizeOf42 rfl)) hs.defers ⟨by kernel_rfl, (hs.bel rfl)⟩
end Go.Proofs.YtejbajgpiecjcaaGreat
