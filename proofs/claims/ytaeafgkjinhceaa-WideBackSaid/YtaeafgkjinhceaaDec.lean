/- Division by ten, figures. -/
import Derived.Test.YtaeafgkjinhceaaDecP
import Derived.Test.YtaeafgkjinhceaaWide2
namespace Go.Proofs.Ytaeafgkjinhceaa
open Go.RowKit
set_option maxRecDepth 10000

theorem len10_c (w : World) : Calls Try.prog 43 #[.int .u64 10] w fun e w' => e = .returned (.int .i64 4) ∧ Below w.heap.size w w' :=
  (len64I 10 w (by decide) (by decide)).mono fun e w' ⟨h1, h2⟩ => ⟨h1.trans rfl, h2 ▸ Below.refl _ _⟩
theorem div10_lt {hi lo : Nat} (h : hi < 10) (hl : lo < 18446744073709551616) : (hi * 18446744073709551616 + lo) / 10 < 18446744073709551616 := by omega

theorem lz10_c  (w0 : World) : Calls Try.prog 54 #[.int .u64 10] w0 fun e w' => e = .returned (.int .i64 60) ∧ Below w0.heap.size w0 w' := by
  refine enter (n := 6) (args := [.int .u64 10]) Try.func54 rfl rfl (Nat.le_of_ble_eq_true rfl) fun ac hs => ?_
  refine wp_seq ?_
  refine wp_region_lit ?_
  refine lstep (wpO_plain rfl (op_assign hs none rfl rfl rfl rfl fun ac hs => ?_))
  refine wpList_nil ?_
  refine then_n ?_
  refine wp_seq ?_
  refine wp_region_lit ?_
  refine lstep (wpO_plain rfl (op_move hs none rfl rfl rfl rfl fun ac hs => ?_))
  refine lstep (wpO_plain rfl (op_call (F := 43) hs none (v := .int .i64 4) rfl rfl rfl rfl (Try.call43 _) len10_c rfl fun ac w hs => ?_))
  refine lstep (wpO_plain rfl (op_bin hs none (v := .int .i64 60) rfl rfl rfl rfl (fun _ => rfl) (fun _ => by kernel_rfl) rfl fun ac hs => ?_))
  refine lstep (wpO_plain rfl (op_assign hs none rfl rfl rfl rfl fun ac hs => ?_))
  refine wpList_nil ?_
  refine then_n ?_
  refine wp_ret ?_
  exact bodyPost_ret (res1 rfl (rv_t hs rfl)) hs.defers ⟨rfl, hs.below⟩
theorem div10_c (hi lo q' r' : Nat) (hhi : hi < 10) (hlo : lo < 18446744073709551616) (hq : (hi * 18446744073709551616 + lo) / 10 = q') (hr : (hi * 18446744073709551616 + lo) % 10 = r') (w0 : World) : Calls Try.prog 53 #[.int .u64 ((hi : Nat) : Int), .int .u64 ((lo : Nat) : Int), .int .u64 10] w0 fun e w' => e = .returned (.tuple #[.int .u64 ((q' : Nat) : Int), .int .u64 ((r' : Nat) : Int)]) ∧ Below w0.heap.size w0 w' := by
  obtain ⟨U, u, q, R, V, p, S, hD⟩ := d10 hhi hlo
  have lU := hD.lU
  have lu := hD.lu
  have lq := hD.lq
  have lR := hD.lR
  have lV := hD.lV
  have lp := hD.lp
  have lS := hD.lS
  refine enter (n := 135) (args := [.int .u64 ((hi : Nat) : Int), .int .u64 ((lo : Nat) : Int), .int .u64 10]) Try.func53 rfl rfl (Nat.le_of_ble_eq_true rfl) fun ac hs => ?_
  refine wp_seq ?_
  refine wp_region_lit ?_
  refine lstep (wpO_plain rfl (op_assign hs none rfl rfl rfl rfl fun ac hs => ?_))
  refine lstep (wpO_plain rfl (op_assign hs none rfl rfl rfl rfl fun ac hs => ?_))
  refine wpList_nil ?_
  refine then_n ?_
  refine wp_seq ?_
  refine wp_seq ?_
  refine wp_region_lit ?_
  refine lstep (wpO_plain rfl (op_move hs none rfl rfl rfl rfl fun ac hs => ?_))
  refine lstep (wpO_plain rfl (op_bin hs none (v := .bool false) rfl rfl rfl rfl (fun _ => rfl) (fun _ => by kernel_rfl) rfl fun ac hs => ?_))
  refine wpList_nil ?_
  refine then_n ?_
  refine wp_cond_false (hs.ev rfl) ?_
  refine wp_skip ?_
  refine then_n ?_
  refine wp_seq ?_
  refine wp_seq ?_
  refine wp_region_lit ?_
  refine lstep (wpO_plain rfl (op_move hs none rfl rfl rfl rfl fun ac hs => ?_))
  refine lstep (wpO_plain rfl (op_move hs none rfl rfl rfl rfl fun ac hs => ?_))
  refine lstep (wpO_plain rfl (op_bin hs none (v := .bool false) rfl rfl rfl rfl (fun _ => rfl) (fun w => dF (show ¬ (10 ≤ hi) by omega) (bin_leqN (x := 10) (y := hi) w)) rfl fun ac hs => ?_))
  refine wpList_nil ?_
  refine then_n ?_
  refine wp_cond_false (hs.ev rfl) ?_
  refine wp_skip ?_
  refine then_n ?_
  refine wp_seq ?_
  refine wp_seq ?_
  refine wp_region_lit ?_
  refine lstep (wpO_plain rfl (op_move hs none rfl rfl rfl rfl fun ac hs => ?_))
  refine lstep (wpO_plain rfl (op_bin hs none (v := .bool (decide (hi = 0))) rfl rfl rfl rfl (fun _ => rfl) (bin_eqlN (x := hi) (y := 0)) rfl fun ac hs => ?_))
  refine wpList_nil ?_
  refine then_n ?_
  refine wp_cond_split (hs.ev rfl) (fun hc => ?_) (fun hc => ?_)
  · skip
    have hp1 := of_decide_eq_true hc
    refine wp_seq ?_
    replace hs : St 135 w0 [(0, true, .int .u64 ((hi : Nat) : Int)), (1, true, .int .u64 ((lo : Nat) : Int)), (2, true, .int .u64 10), (6, true, .int .u64 0), (7, true, .int .u64 0)] [] ac _ := hs.re ⟨rfl, rfl, rfl, rfl, rfl, trivial⟩
    refine region_inv [([], [2, 6, 7]), ([], [2, 6, 7]), ([0, 1], [6, 7]), ([], [5, 7]), ([], [5, 7]), ([3, 4], [7]), ([0, 1, 2], [7]), ([0, 1, 2, 3, 4, 5, 6], [])] (fun L ac w => St 135 w0 [(28, L 0, .int .u64 ((lo : Nat) : Int)), (29, L 1, .int .u64 10), (30, L 2, .int .u64 ((lo / 10 : Nat) : Int)), (31, L 3, .int .u64 ((lo : Nat) : Int)), (32, L 4, .int .u64 10), (33, L 5, .int .u64 ((lo % 10 : Nat) : Int)), (6, L 6, .int .u64 ((lo / 10 : Nat) : Int)), (7, L 7, .int .u64 ((lo % 10 : Nat) : Int)), (0, true, .int .u64 ((hi : Nat) : Int)), (1, true, .int .u64 ((lo : Nat) : Int)), (2, true, .int .u64 10), (6, true, .int .u64 0), (7, true, .int .u64 0)] [] ac w) (by kernel_rfl) (by kernel_rfl) ?_ ?_ ?_
    · exact hs.drew.skip.skip.skip.skip.skip.skip.skip.skip
    · refine ⟨?_, ?_, ?_, ?_, ?_, ?_, ?_, ?_, trivial⟩
      · intro L ac w hJ
        have hs := hJ
        refine wpO_plain rfl (op_move hs (some 0) rfl rfl rfl rfl fun ac hs => ?_)
        exact hs
      · intro L ac w hJ
        have hs := hJ
        refine wpO_plain rfl (op_move hs (some 1) rfl rfl rfl rfl fun ac hs => ?_)
        exact hs
      · intro L ac w hJ
        have hs := hJ
        refine wpO_plain rfl (op_bin hs (some 2) (v := .int .u64 ((lo / 10 : Nat) : Int)) rfl rfl rfl rfl (fun _ => rfl) (bin_quoN (x := lo) (y := 10) (z := lo / 10) rfl (by decide) (show lo < 18446744073709551616 by omega)) rfl fun ac hs => ?_)
        exact hs
      · intro L ac w hJ
        have hs := hJ
        refine wpO_plain rfl (op_move hs (some 3) rfl rfl rfl rfl fun ac hs => ?_)
        exact hs
      · intro L ac w hJ
        have hs := hJ
        refine wpO_plain rfl (op_move hs (some 4) rfl rfl rfl rfl fun ac hs => ?_)
        exact hs
      · intro L ac w hJ
        have hs := hJ
        refine wpO_plain rfl (op_bin hs (some 5) (v := .int .u64 ((lo % 10 : Nat) : Int)) rfl rfl rfl rfl (fun _ => rfl) (bin_remN (x := lo) (y := 10) (z := lo % 10) rfl (by decide)) rfl fun ac hs => ?_)
        exact hs
      · intro L ac w hJ
        have hs := hJ
        refine wpO_plain rfl (op_assign hs (some 6) rfl rfl rfl rfl fun ac hs => ?_)
        exact hs
      · intro L ac w hJ
        have hs := hJ
        refine wpO_plain rfl (op_assign hs (some 7) rfl rfl rfl rfl fun ac hs => ?_)
        exact hs
    intro ac w hJ
    replace hs : St 135 w0 [(28, true, .int .u64 ((lo : Nat) : Int)), (29, true, .int .u64 10), (30, true, .int .u64 ((lo / 10 : Nat) : Int)), (31, true, .int .u64 ((lo : Nat) : Int)), (32, true, .int .u64 10), (33, true, .int .u64 ((lo % 10 : Nat) : Int)), (6, true, .int .u64 ((lo / 10 : Nat) : Int)), (7, true, .int .u64 ((lo % 10 : Nat) : Int)), (0, true, .int .u64 ((hi : Nat) : Int)), (1, true, .int .u64 ((lo : Nat) : Int)), (2, true, .int .u64 10), (6, true, .int .u64 0), (7, true, .int .u64 0)] [] ac w := hJ
    refine then_n ?_
    refine wp_ret ?_
    refine then_r ?_
    exact bodyPost_ret (res2 rfl (rv_t hs rfl) (rv_t hs rfl)) hs.defers ⟨by subst hp1; rw [← hq, ← hr, Nat.zero_mul, Nat.zero_add], hs.below⟩
  · skip
    have hp2 := of_decide_eq_false hc
    refine wp_skip ?_
    refine then_n ?_
    refine wp_seq ?_
    refine wp_region_lit ?_
    refine lstep (wpO_plain rfl (op_move hs none rfl rfl rfl rfl fun ac hs => ?_))
    refine lstep (wpO_plain rfl (op_call (F := 54) hs none (v := .int .i64 60) rfl rfl rfl rfl (Try.call54 _) lz10_c rfl fun ac w hs => ?_))
    refine lstep (wpO_plain rfl (op_convert hs none (v := .int .u64 60) rfl rfl rfl (conv_N Try.underlying3 Try.underlying64 (by decide)) rfl fun ac hs => ?_))
    refine lstep (wpO_plain rfl (op_assign hs none rfl rfl rfl rfl fun ac hs => ?_))
    refine wpList_nil ?_
    refine then_n ?_
    refine wp_seq ?_
    refine wp_region_lit ?_
    refine lstep (wpO_plain rfl (op_move hs none rfl rfl rfl rfl fun ac hs => ?_))
    refine lstep (wpO_plain rfl (op_move hs none rfl rfl rfl rfl fun ac hs => ?_))
    refine lstep (wpO_plain rfl (op_bin hs none (v := .int .u64 11529215046068469760) rfl rfl rfl rfl (fun _ => rfl) (fun _ => by kernel_rfl) rfl fun ac hs => ?_))
    refine lstep (wpO_plain rfl (op_assign hs none rfl rfl rfl rfl fun ac hs => ?_))
    refine wpList_nil ?_
    refine then_n ?_
    refine wp_seq ?_
    refine wp_region_lit ?_
    refine lstep (wpO_plain rfl (op_move hs none rfl rfl rfl rfl fun ac hs => ?_))
    refine lstep (wpO_plain rfl (op_bin hs none (v := .int .u64 2684354560) rfl rfl rfl rfl (fun _ => rfl) (fun _ => by kernel_rfl) rfl fun ac hs => ?_))
    refine lstep (wpO_plain rfl (op_assign hs none rfl rfl rfl rfl fun ac hs => ?_))
    refine wpList_nil ?_
    refine then_n ?_
    refine wp_seq ?_
    refine wp_region_lit ?_
    refine lstep (wpO_plain rfl (op_move hs none rfl rfl rfl rfl fun ac hs => ?_))
    refine lstep (wpO_plain rfl (op_bin hs none (v := .int .u64 0) rfl rfl rfl rfl (fun _ => rfl) (fun _ => by kernel_rfl) rfl fun ac hs => ?_))
    refine lstep (wpO_plain rfl (op_assign hs none rfl rfl rfl rfl fun ac hs => ?_))
    refine wpList_nil ?_
    refine then_n ?_
    refine wp_seq ?_
    refine wp_region_lit ?_
    refine lstep (wpO_plain rfl (op_move hs none rfl rfl rfl rfl fun ac hs => ?_))
    refine lstep (wpO_plain rfl (op_move hs none rfl rfl rfl rfl fun ac hs => ?_))
    refine lstep (wpO_plain rfl (op_bin hs none (v := .int .u64 ((hi * 2 ^ 60 % 18446744073709551616 : Nat) : Int)) rfl rfl rfl rfl (fun _ => rfl) (bin_shlM (x := hi) (y := 60) (z := hi * 2 ^ 60 % 18446744073709551616) rfl rfl) rfl fun ac hs => ?_))
    refine lstep (wpO_plain rfl (op_move hs none rfl rfl rfl rfl fun ac hs => ?_))
    refine lstep (wpO_plain rfl (op_move hs none rfl rfl rfl rfl fun ac hs => ?_))
    refine lstep (wpO_plain rfl (op_bin hs none (v := .int .u64 4) rfl rfl rfl rfl (fun _ => rfl) (fun _ => by kernel_rfl) rfl fun ac hs => ?_))
    refine lstep (wpO_plain rfl (op_bin hs none (v := .int .u64 ((lo / 2 ^ 4 : Nat) : Int)) rfl rfl rfl rfl (fun _ => rfl) (bin_shrN (x := lo) (y := 4) (z := lo / 2 ^ 4) rfl (show lo < 18446744073709551616 by omega)) rfl fun ac hs => ?_))
    refine lstep (wpO_plain rfl (op_bin hs none (v := .int .u64 (((hi * 2 ^ 60 % 18446744073709551616) ||| (lo / 2 ^ 4) : Nat) : Int)) rfl rfl rfl rfl (fun _ => rfl) (bin_orN (x := hi * 2 ^ 60 % 18446744073709551616) (y := lo / 2 ^ 4) (z := (hi * 2 ^ 60 % 18446744073709551616) ||| (lo / 2 ^ 4)) rfl (show hi * 2 ^ 60 % 18446744073709551616 < 18446744073709551616 by omega) (show lo / 2 ^ 4 < 18446744073709551616 by omega) (or_lt64 (show hi * 2 ^ 60 % 18446744073709551616 < 18446744073709551616 by omega) (show lo / 2 ^ 4 < 18446744073709551616 by omega))) rfl fun ac hs => ?_))
    refine lstep (wpO_plain rfl (op_assign hs none rfl rfl rfl rfl fun ac hs => ?_))
    refine wpList_nil ?_
    replace hs := hs.re (fs' := [(0, true, .int .u64 ((hi : Nat) : Int)), (1, true, .int .u64 ((lo : Nat) : Int)), (2, true, .int .u64 11529215046068469760), (6, true, .int .u64 0), (7, true, .int .u64 0), (8, true, .int .u64 60), (9, true, .int .u64 2684354560), (10, true, .int .u64 0), (44, true, .int .u64 ((hi : Nat) : Int)), (45, true, .int .u64 60), (46, true, .int .u64 ((hi * 2 ^ 60 % 18446744073709551616 : Nat) : Int)), (47, true, .int .u64 ((lo : Nat) : Int)), (48, true, .int .u64 60), (49, true, .int .u64 4), (50, true, .int .u64 ((lo / 2 ^ 4 : Nat) : Int)), (51, true, .int .u64 (((hi * 2 ^ 60 % 18446744073709551616) ||| (lo / 2 ^ 4) : Nat) : Int)), (11, true, .int .u64 ((U : Nat) : Int))]) ⟨rfl, rfl, rfl, rfl, rfl, rfl, rfl, rfl, rfl, rfl, rfl, rfl, rfl, rfl, rfl, rfl, congrArg some (congrArg (fun z : Nat => Value.int .u64 (z : Int)) hD.hU), trivial⟩
    refine then_n ?_
    refine wp_seq ?_
    refine wp_region_lit ?_
    refine lstep (wpO_plain rfl (op_move hs none rfl rfl rfl rfl fun ac hs => ?_))
    refine lstep (wpO_plain rfl (op_move hs none rfl rfl rfl rfl fun ac hs => ?_))
    refine lstep (wpO_plain rfl (op_bin hs none (v := .int .u64 ((lo * 2 ^ 60 % 18446744073709551616 : Nat) : Int)) rfl rfl rfl rfl (fun _ => rfl) (bin_shlM (x := lo) (y := 60) (z := lo * 2 ^ 60 % 18446744073709551616) rfl rfl) rfl fun ac hs => ?_))
    refine lstep (wpO_plain rfl (op_assign hs none rfl rfl rfl rfl fun ac hs => ?_))
    refine wpList_nil ?_
    refine then_n ?_
    refine wp_seq ?_
    refine wp_region_lit ?_
    refine lstep (wpO_plain rfl (op_move hs none rfl rfl rfl rfl fun ac hs => ?_))
    refine lstep (wpO_plain rfl (op_bin hs none (v := .int .u64 (((lo * 2 ^ 60 % 18446744073709551616) / 2 ^ 32 : Nat) : Int)) rfl rfl rfl rfl (fun _ => rfl) (bin_shrN (x := lo * 2 ^ 60 % 18446744073709551616) (y := 32) (z := (lo * 2 ^ 60 % 18446744073709551616) / 2 ^ 32) rfl (show lo * 2 ^ 60 % 18446744073709551616 < 18446744073709551616 by omega)) rfl fun ac hs => ?_))
    refine lstep (wpO_plain rfl (op_assign hs none rfl rfl rfl rfl fun ac hs => ?_))
    refine wpList_nil ?_
    replace hs := hs.re (fs' := [(2, true, .int .u64 11529215046068469760), (6, true, .int .u64 0), (7, true, .int .u64 0), (8, true, .int .u64 60), (9, true, .int .u64 2684354560), (10, true, .int .u64 0), (11, true, .int .u64 ((U : Nat) : Int)), (12, true, .int .u64 ((lo * 2 ^ 60 % 18446744073709551616 : Nat) : Int)), (55, true, .int .u64 ((lo * 2 ^ 60 % 18446744073709551616 : Nat) : Int)), (56, true, .int .u64 (((lo * 2 ^ 60 % 18446744073709551616) / 2 ^ 32 : Nat) : Int)), (13, true, .int .u64 ((u : Nat) : Int))]) ⟨rfl, rfl, rfl, rfl, rfl, rfl, rfl, rfl, rfl, rfl, congrArg some (congrArg (fun z : Nat => Value.int .u64 (z : Int)) hD.hu), trivial⟩
    refine then_n ?_
    refine wp_seq ?_
    refine wp_region_lit ?_
    refine lstep (wpO_plain rfl (op_move hs none rfl rfl rfl rfl fun ac hs => ?_))
    refine lstep (wpO_plain rfl (op_bin hs none (v := .int .u64 (((lo * 2 ^ 60 % 18446744073709551616) % 2 ^ 32 : Nat) : Int)) rfl rfl rfl rfl (fun _ => rfl) (bin_andN (x := lo * 2 ^ 60 % 18446744073709551616) (y := 4294967295) (z := (lo * 2 ^ 60 % 18446744073709551616) % 2 ^ 32) (Nat.and_two_pow_sub_one_eq_mod (lo * 2 ^ 60 % 18446744073709551616) 32) (show lo * 2 ^ 60 % 18446744073709551616 < 2 ^ 64 by omega) (by decide) (show (lo * 2 ^ 60 % 18446744073709551616) % 2 ^ 32 < 18446744073709551616 by omega)) rfl fun ac hs => ?_))
    refine lstep (wpO_plain rfl (op_assign hs none rfl rfl rfl rfl fun ac hs => ?_))
    refine wpList_nil ?_
    replace hs := hs.re (fs' := [(2, true, .int .u64 11529215046068469760), (6, true, .int .u64 0), (7, true, .int .u64 0), (8, true, .int .u64 60), (9, true, .int .u64 2684354560), (10, true, .int .u64 0), (11, true, .int .u64 ((U : Nat) : Int)), (12, true, .int .u64 ((lo * 2 ^ 60 % 18446744073709551616 : Nat) : Int)), (13, true, .int .u64 ((u : Nat) : Int)), (57, true, .int .u64 ((lo * 2 ^ 60 % 18446744073709551616 : Nat) : Int)), (58, true, .int .u64 (((lo * 2 ^ 60 % 18446744073709551616) % 2 ^ 32 : Nat) : Int)), (14, true, .int .u64 0)]) ⟨rfl, rfl, rfl, rfl, rfl, rfl, rfl, rfl, rfl, rfl, rfl, congrArg some (congrArg (fun z : Nat => Value.int .u64 (z : Int)) hD.h0), trivial⟩
    refine then_n ?_
    refine wp_seq ?_
    refine wp_region_lit ?_
    refine lstep (wpO_plain rfl (op_move hs none rfl rfl rfl rfl fun ac hs => ?_))
    refine lstep (wpO_plain rfl (op_move hs none rfl rfl rfl rfl fun ac hs => ?_))
    refine lstep (wpO_plain rfl (op_bin hs none (v := .int .u64 ((U / 2684354560 : Nat) : Int)) rfl rfl rfl rfl (fun _ => rfl) (bin_quoN (x := U) (y := 2684354560) (z := U / 2684354560) rfl (by decide) (show U < 18446744073709551616 by omega)) rfl fun ac hs => ?_))
    refine lstep (wpO_plain rfl (op_assign hs none rfl rfl rfl rfl fun ac hs => ?_))
    refine wpList_nil ?_
    replace hs := hs.re (fs' := [(2, true, .int .u64 11529215046068469760), (6, true, .int .u64 0), (7, true, .int .u64 0), (8, true, .int .u64 60), (9, true, .int .u64 2684354560), (10, true, .int .u64 0), (11, true, .int .u64 ((U : Nat) : Int)), (13, true, .int .u64 ((u : Nat) : Int)), (14, true, .int .u64 0), (59, true, .int .u64 ((U : Nat) : Int)), (60, true, .int .u64 2684354560), (61, true, .int .u64 ((U / 2684354560 : Nat) : Int)), (15, true, .int .u64 ((q : Nat) : Int))]) ⟨rfl, rfl, rfl, rfl, rfl, rfl, rfl, rfl, rfl, rfl, rfl, rfl, congrArg some (congrArg (fun z : Nat => Value.int .u64 (z : Int)) hD.hq), trivial⟩
    refine then_n ?_
    refine wp_seq ?_
    refine wp_region_lit ?_
    refine lstep (wpO_plain rfl (op_move hs none rfl rfl rfl rfl fun ac hs => ?_))
    refine lstep (wpO_plain rfl (op_move hs none rfl rfl rfl rfl fun ac hs => ?_))
    refine lstep (wpO_plain rfl (op_move hs none rfl rfl rfl rfl fun ac hs => ?_))
    refine lstep (wpO_plain rfl (op_bin hs none (v := .int .u64 ((q * 2684354560 : Nat) : Int)) rfl rfl rfl rfl (fun _ => rfl) (bin_mulN (x := q) (y := 2684354560) (z := q * 2684354560) rfl (show q * 2684354560 < 18446744073709551616 by omega)) rfl fun ac hs => ?_))
    refine lstep (wpO_plain rfl (op_bin hs none (v := .int .u64 ((U - q * 2684354560 : Nat) : Int)) rfl rfl rfl rfl (fun _ => rfl) (bin_subN (x := U) (y := q * 2684354560) (z := U - q * 2684354560) (by have := hD.mq; omega) (show U - q * 2684354560 < 18446744073709551616 by omega)) rfl fun ac hs => ?_))
    refine lstep (wpO_plain rfl (op_assign hs none rfl rfl rfl rfl fun ac hs => ?_))
    refine wpList_nil ?_
    replace hs := hs.re (fs' := [(2, true, .int .u64 11529215046068469760), (6, true, .int .u64 0), (7, true, .int .u64 0), (8, true, .int .u64 60), (9, true, .int .u64 2684354560), (10, true, .int .u64 0), (11, true, .int .u64 ((U : Nat) : Int)), (13, true, .int .u64 ((u : Nat) : Int)), (14, true, .int .u64 0), (15, true, .int .u64 ((q : Nat) : Int)), (62, true, .int .u64 ((U : Nat) : Int)), (63, true, .int .u64 ((q : Nat) : Int)), (64, true, .int .u64 2684354560), (65, true, .int .u64 ((q * 2684354560 : Nat) : Int)), (66, true, .int .u64 ((U - q * 2684354560 : Nat) : Int)), (16, true, .int .u64 ((R : Nat) : Int))]) ⟨rfl, rfl, rfl, rfl, rfl, rfl, rfl, rfl, rfl, rfl, rfl, rfl, rfl, rfl, rfl, congrArg some (congrArg (fun z : Nat => Value.int .u64 (z : Int)) hD.hR), trivial⟩
    refine then_n ?_
    refine wp_seq ?_
    refine wp_block ?_
    refine wp_loop_m (fun μ ac w => (0 = μ ∧ St 135 w0 [(2, true, .int .u64 11529215046068469760), (6, true, .int .u64 0), (7, true, .int .u64 0), (8, true, .int .u64 60), (9, true, .int .u64 2684354560), (10, true, .int .u64 0), (11, true, .int .u64 ((U : Nat) : Int)), (13, true, .int .u64 ((u : Nat) : Int)), (14, true, .int .u64 0), (15, true, .int .u64 ((q : Nat) : Int)), (62, true, .int .u64 ((U : Nat) : Int)), (63, true, .int .u64 ((q : Nat) : Int)), (64, true, .int .u64 2684354560), (65, true, .int .u64 ((q * 2684354560 : Nat) : Int)), (66, true, .int .u64 ((U - q * 2684354560 : Nat) : Int)), (16, true, .int .u64 ((R : Nat) : Int))] [] ac w)) ?_ ?_
    · exact ⟨_, ⟨rfl, (hs.re ⟨rfl, rfl, rfl, rfl, rfl, rfl, rfl, rfl, rfl, rfl, rfl, rfl, rfl, rfl, rfl, rfl, trivial⟩)⟩⟩
    intro μ ac w hJ
    rcases hJ with hJ
    · obtain ⟨rfl, hs⟩ := hJ
      refine wp_seq ?_
      refine wp_seq ?_
      refine wp_region_lit ?_
      refine lstep (wpO_plain rfl (op_move hs none rfl rfl rfl rfl fun ac hs => ?_))
      refine lstep (wpO_plain rfl (op_bin hs none (v := .bool false) rfl rfl rfl rfl (fun _ => rfl) (fun w => dF (show ¬ (4294967296 ≤ q) by omega) (bin_geqN (x := q) (y := 4294967296) w)) rfl fun ac hs => ?_))
      refine lstep (wpO_plain rfl (op_move hs none rfl rfl rfl rfl fun ac hs => ?_))
      refine lstep (wpO_in hs rfl rfl rfl (op_move hs none rfl rfl rfl rfl fun ac hs => ?_))
      refine lstep (wpO_in hs rfl rfl rfl (op_move hs none rfl rfl rfl rfl fun ac hs => ?_))
      refine lstep (wpO_in hs rfl rfl rfl (op_bin hs none (v := .int .u64 0) rfl rfl rfl rfl (fun _ => rfl) (bin_mulN (x := q) (y := 0) (z := 0) (Nat.mul_zero _) (by decide)) rfl fun ac hs => ?_))
      refine lstep (wpO_in hs rfl rfl rfl (op_move hs none rfl rfl rfl rfl fun ac hs => ?_))
      refine lstep (wpO_in hs rfl rfl rfl (op_bin hs none (v := .int .u64 ((4294967296 * R : Nat) : Int)) rfl rfl rfl rfl (fun _ => rfl) (bin_mulN (x := 4294967296) (y := R) (z := 4294967296 * R) rfl (show 4294967296 * R < 18446744073709551616 by omega)) rfl fun ac hs => ?_))
      refine lstep (wpO_in hs rfl rfl rfl (op_move hs none rfl rfl rfl rfl fun ac hs => ?_))
      refine lstep (wpO_in hs rfl rfl rfl (op_bin hs none (v := .int .u64 ((4294967296 * R + u : Nat) : Int)) rfl rfl rfl rfl (fun _ => rfl) (bin_addN (x := 4294967296 * R) (y := u) (z := 4294967296 * R + u) rfl (show 4294967296 * R + u < 18446744073709551616 by omega)) rfl fun ac hs => ?_))
      refine lstep (wpO_in hs rfl rfl rfl (op_bin hs none (v := .bool false) rfl rfl rfl rfl (fun _ => rfl) (fun w => dF (show ¬ (4294967296 * R + u < 0) by omega) (bin_gtrN (x := 0) (y := 4294967296 * R + u) w)) rfl fun ac hs => ?_))
      refine lstep (wpO_plain rfl (op_pickF hs none rfl rfl rfl rfl rfl fun ac hs => ?_))
      refine wpList_nil ?_
      refine then_n ?_
      refine wp_cond_false (hs.ev rfl) ?_
      refine wp_exit ?_
      refine then_e ?_
      refine then_e ?_
      refine blk_e ?_
      refine then_n ?_
      refine wp_seq ?_
      refine wp_region_lit ?_
      refine lstep (wpO_plain rfl (op_move hs none rfl rfl rfl rfl fun ac hs => ?_))
      refine lstep (wpO_plain rfl (op_bin hs none (v := .int .u64 ((U * 4294967296 % 18446744073709551616 : Nat) : Int)) rfl rfl rfl rfl (fun _ => rfl) (bin_mulM (x := U) (y := 4294967296) (z := U * 4294967296 % 18446744073709551616) rfl rfl) rfl fun ac hs => ?_))
      refine lstep (wpO_plain rfl (op_move hs none rfl rfl rfl rfl fun ac hs => ?_))
      refine lstep (wpO_plain rfl (op_bin hs none (v := .int .u64 (((U * 4294967296 % 18446744073709551616 + u) % 18446744073709551616 : Nat) : Int)) rfl rfl rfl rfl (fun _ => rfl) (bin_addM (x := U * 4294967296 % 18446744073709551616) (y := u) (z := (U * 4294967296 % 18446744073709551616 + u) % 18446744073709551616) rfl rfl) rfl fun ac hs => ?_))
      refine lstep (wpO_plain rfl (op_move hs none rfl rfl rfl rfl fun ac hs => ?_))
      refine lstep (wpO_plain rfl (op_move hs none rfl rfl rfl rfl fun ac hs => ?_))
      refine lstep (wpO_plain rfl (op_bin hs none (v := .int .u64 ((q * 11529215046068469760 % 18446744073709551616 : Nat) : Int)) rfl rfl rfl rfl (fun _ => rfl) (bin_mulM (x := q) (y := 11529215046068469760) (z := q * 11529215046068469760 % 18446744073709551616) rfl rfl) rfl fun ac hs => ?_))
      refine lstep (wpO_plain rfl (op_bin hs none (v := .int .u64 ((((U * 4294967296 % 18446744073709551616 + u) % 18446744073709551616 + 18446744073709551616 - q * 11529215046068469760 % 18446744073709551616) % 18446744073709551616 : Nat) : Int)) rfl rfl rfl rfl (fun _ => rfl) (bin_subM (x := (U * 4294967296 % 18446744073709551616 + u) % 18446744073709551616) (y := q * 11529215046068469760 % 18446744073709551616) (z := ((U * 4294967296 % 18446744073709551616 + u) % 18446744073709551616 + 18446744073709551616 - q * 11529215046068469760 % 18446744073709551616) % 18446744073709551616) rfl rfl (Nat.le_of_lt (Nat.mod_lt _ (by decide)))) rfl fun ac hs => ?_))
      refine lstep (wpO_plain rfl (op_assign hs none rfl rfl rfl rfl fun ac hs => ?_))
      refine wpList_nil ?_
      replace hs := hs.re (fs' := [(2, true, .int .u64 11529215046068469760), (6, true, .int .u64 0), (7, true, .int .u64 0), (8, true, .int .u64 60), (9, true, .int .u64 2684354560), (10, true, .int .u64 0), (11, true, .int .u64 ((U : Nat) : Int)), (13, true, .int .u64 ((u : Nat) : Int)), (14, true, .int .u64 0), (15, true, .int .u64 ((q : Nat) : Int)), (16, true, .int .u64 ((R : Nat) : Int)), (86, true, .int .u64 ((U : Nat) : Int)), (87, true, .int .u64 ((U * 4294967296 % 18446744073709551616 : Nat) : Int)), (88, true, .int .u64 ((u : Nat) : Int)), (89, true, .int .u64 (((U * 4294967296 % 18446744073709551616 + u) % 18446744073709551616 : Nat) : Int)), (90, true, .int .u64 ((q : Nat) : Int)), (91, true, .int .u64 11529215046068469760), (92, true, .int .u64 ((q * 11529215046068469760 % 18446744073709551616 : Nat) : Int)), (93, true, .int .u64 ((((U * 4294967296 % 18446744073709551616 + u) % 18446744073709551616 + 18446744073709551616 - q * 11529215046068469760 % 18446744073709551616) % 18446744073709551616 : Nat) : Int)), (17, true, .int .u64 ((V : Nat) : Int))]) ⟨rfl, rfl, rfl, rfl, rfl, rfl, rfl, rfl, rfl, rfl, rfl, rfl, rfl, rfl, rfl, rfl, rfl, rfl, rfl, congrArg some (congrArg (fun z : Nat => Value.int .u64 (z : Int)) hD.hV), trivial⟩
      refine then_n ?_
      refine wp_seq ?_
      refine wp_region_lit ?_
      refine lstep (wpO_plain rfl (op_move hs none rfl rfl rfl rfl fun ac hs => ?_))
      refine lstep (wpO_plain rfl (op_move hs none rfl rfl rfl rfl fun ac hs => ?_))
      refine lstep (wpO_plain rfl (op_bin hs none (v := .int .u64 ((V / 2684354560 : Nat) : Int)) rfl rfl rfl rfl (fun _ => rfl) (bin_quoN (x := V) (y := 2684354560) (z := V / 2684354560) rfl (by decide) (show V < 18446744073709551616 by omega)) rfl fun ac hs => ?_))
      refine lstep (wpO_plain rfl (op_assign hs none rfl rfl rfl rfl fun ac hs => ?_))
      refine wpList_nil ?_
      replace hs := hs.re (fs' := [(2, true, .int .u64 11529215046068469760), (6, true, .int .u64 0), (7, true, .int .u64 0), (8, true, .int .u64 60), (9, true, .int .u64 2684354560), (10, true, .int .u64 0), (14, true, .int .u64 0), (15, true, .int .u64 ((q : Nat) : Int)), (16, true, .int .u64 ((R : Nat) : Int)), (17, true, .int .u64 ((V : Nat) : Int)), (94, true, .int .u64 ((V : Nat) : Int)), (95, true, .int .u64 2684354560), (96, true, .int .u64 ((V / 2684354560 : Nat) : Int)), (18, true, .int .u64 ((p : Nat) : Int))]) ⟨rfl, rfl, rfl, rfl, rfl, rfl, rfl, rfl, rfl, rfl, rfl, rfl, rfl, congrArg some (congrArg (fun z : Nat => Value.int .u64 (z : Int)) hD.hp), trivial⟩
      refine then_n ?_
      refine wp_seq ?_
      refine wp_region_lit ?_
      refine lstep (wpO_plain rfl (op_move hs none rfl rfl rfl rfl fun ac hs => ?_))
      refine lstep (wpO_plain rfl (op_move hs none rfl rfl rfl rfl fun ac hs => ?_))
      refine lstep (wpO_plain rfl (op_move hs none rfl rfl rfl rfl fun ac hs => ?_))
      refine lstep (wpO_plain rfl (op_bin hs none (v := .int .u64 ((p * 2684354560 : Nat) : Int)) rfl rfl rfl rfl (fun _ => rfl) (bin_mulN (x := p) (y := 2684354560) (z := p * 2684354560) rfl (show p * 2684354560 < 18446744073709551616 by omega)) rfl fun ac hs => ?_))
      refine lstep (wpO_plain rfl (op_bin hs none (v := .int .u64 ((V - p * 2684354560 : Nat) : Int)) rfl rfl rfl rfl (fun _ => rfl) (bin_subN (x := V) (y := p * 2684354560) (z := V - p * 2684354560) (by have := hD.mp; omega) (show V - p * 2684354560 < 18446744073709551616 by omega)) rfl fun ac hs => ?_))
      refine lstep (wpO_plain rfl (op_assign hs none rfl rfl rfl rfl fun ac hs => ?_))
      refine wpList_nil ?_
      replace hs := hs.re (fs' := [(2, true, .int .u64 11529215046068469760), (6, true, .int .u64 0), (7, true, .int .u64 0), (8, true, .int .u64 60), (9, true, .int .u64 2684354560), (10, true, .int .u64 0), (14, true, .int .u64 0), (15, true, .int .u64 ((q : Nat) : Int)), (16, true, .int .u64 ((S : Nat) : Int)), (17, true, .int .u64 ((V : Nat) : Int)), (18, true, .int .u64 ((p : Nat) : Int)), (97, true, .int .u64 ((V : Nat) : Int)), (98, true, .int .u64 ((p : Nat) : Int)), (99, true, .int .u64 2684354560), (100, true, .int .u64 ((p * 2684354560 : Nat) : Int)), (101, true, .int .u64 ((V - p * 2684354560 : Nat) : Int))]) ⟨rfl, rfl, rfl, rfl, rfl, rfl, rfl, rfl, congrArg some (congrArg (fun z : Nat => Value.int .u64 (z : Int)) hD.hS), rfl, rfl, rfl, rfl, rfl, rfl, rfl, trivial⟩
      refine then_n ?_
      refine wp_seq ?_
      refine wp_block ?_
      refine wp_loop_m (fun μ ac w => (0 = μ ∧ St 135 w0 [(2, true, .int .u64 11529215046068469760), (6, true, .int .u64 0), (7, true, .int .u64 0), (8, true, .int .u64 60), (9, true, .int .u64 2684354560), (10, true, .int .u64 0), (14, true, .int .u64 0), (15, true, .int .u64 ((q : Nat) : Int)), (16, true, .int .u64 ((S : Nat) : Int)), (17, true, .int .u64 ((V : Nat) : Int)), (18, true, .int .u64 ((p : Nat) : Int)), (97, true, .int .u64 ((V : Nat) : Int)), (98, true, .int .u64 ((p : Nat) : Int)), (99, true, .int .u64 2684354560), (100, true, .int .u64 ((p * 2684354560 : Nat) : Int)), (101, true, .int .u64 ((V - p * 2684354560 : Nat) : Int))] [] ac w)) ?_ ?_
      · exact ⟨_, ⟨rfl, (hs.re ⟨rfl, rfl, rfl, rfl, rfl, rfl, rfl, rfl, rfl, rfl, rfl, rfl, rfl, rfl, rfl, rfl, trivial⟩)⟩⟩
      intro μ ac w hJ
      rcases hJ with hJ
      · obtain ⟨rfl, hs⟩ := hJ
        refine wp_seq ?_
        refine wp_seq ?_
        refine wp_region_lit ?_
        refine lstep (wpO_plain rfl (op_move hs none rfl rfl rfl rfl fun ac hs => ?_))
        refine lstep (wpO_plain rfl (op_bin hs none (v := .bool false) rfl rfl rfl rfl (fun _ => rfl) (fun w => dF (show ¬ (4294967296 ≤ p) by omega) (bin_geqN (x := p) (y := 4294967296) w)) rfl fun ac hs => ?_))
        refine lstep (wpO_plain rfl (op_move hs none rfl rfl rfl rfl fun ac hs => ?_))
        refine lstep (wpO_in hs rfl rfl rfl (op_move hs none rfl rfl rfl rfl fun ac hs => ?_))
        refine lstep (wpO_in hs rfl rfl rfl (op_move hs none rfl rfl rfl rfl fun ac hs => ?_))
        refine lstep (wpO_in hs rfl rfl rfl (op_bin hs none (v := .int .u64 0) rfl rfl rfl rfl (fun _ => rfl) (bin_mulN (x := p) (y := 0) (z := 0) (Nat.mul_zero _) (by decide)) rfl fun ac hs => ?_))
        refine lstep (wpO_in hs rfl rfl rfl (op_move hs none rfl rfl rfl rfl fun ac hs => ?_))
        refine lstep (wpO_in hs rfl rfl rfl (op_bin hs none (v := .int .u64 ((4294967296 * S : Nat) : Int)) rfl rfl rfl rfl (fun _ => rfl) (bin_mulN (x := 4294967296) (y := S) (z := 4294967296 * S) rfl (show 4294967296 * S < 18446744073709551616 by omega)) rfl fun ac hs => ?_))
        refine lstep (wpO_in hs rfl rfl rfl (op_move hs none rfl rfl rfl rfl fun ac hs => ?_))
        refine lstep (wpO_in hs rfl rfl rfl (op_bin hs none (v := .int .u64 ((4294967296 * S + 0 : Nat) : Int)) rfl rfl rfl rfl (fun _ => rfl) (bin_addN (x := 4294967296 * S) (y := 0) (z := 4294967296 * S + 0) rfl (show 4294967296 * S + 0 < 18446744073709551616 by omega)) rfl fun ac hs => ?_))
        refine lstep (wpO_in hs rfl rfl rfl (op_bin hs none (v := .bool false) rfl rfl rfl rfl (fun _ => rfl) (fun w => dF (show ¬ (4294967296 * S + 0 < 0) by omega) (bin_gtrN (x := 0) (y := 4294967296 * S + 0) w)) rfl fun ac hs => ?_))
        refine lstep (wpO_plain rfl (op_pickF hs none rfl rfl rfl rfl rfl fun ac hs => ?_))
        refine wpList_nil ?_
        refine then_n ?_
        refine wp_cond_false (hs.ev rfl) ?_
        refine wp_exit ?_
        refine then_e ?_
        refine then_e ?_
        refine blk_e ?_
        refine then_n ?_
        refine wp_seq ?_
        refine wp_region_lit ?_
        refine lstep (wpO_plain rfl (op_move hs none rfl rfl rfl rfl fun ac hs => ?_))
        refine lstep (wpO_plain rfl (op_bin hs none (v := .int .u64 ((q * 4294967296 : Nat) : Int)) rfl rfl rfl rfl (fun _ => rfl) (bin_mulN (x := q) (y := 4294967296) (z := q * 4294967296) rfl (show q * 4294967296 < 18446744073709551616 by omega)) rfl fun ac hs => ?_))
        refine lstep (wpO_plain rfl (op_move hs none rfl rfl rfl rfl fun ac hs => ?_))
        refine lstep (wpO_plain rfl (op_bin hs none (v := .int .u64 ((q * 4294967296 + p : Nat) : Int)) rfl rfl rfl rfl (fun _ => rfl) (bin_addN (x := q * 4294967296) (y := p) (z := q * 4294967296 + p) rfl (show q * 4294967296 + p < 18446744073709551616 by omega)) rfl fun ac hs => ?_))
        refine lstep (wpO_plain rfl (op_move hs none rfl rfl rfl rfl fun ac hs => ?_))
        refine lstep (wpO_plain rfl (op_bin hs none (v := .int .u64 ((V * 4294967296 % 18446744073709551616 : Nat) : Int)) rfl rfl rfl rfl (fun _ => rfl) (bin_mulM (x := V) (y := 4294967296) (z := V * 4294967296 % 18446744073709551616) rfl rfl) rfl fun ac hs => ?_))
        refine lstep (wpO_plain rfl (op_move hs none rfl rfl rfl rfl fun ac hs => ?_))
        refine lstep (wpO_plain rfl (op_bin hs none (v := .int .u64 (((V * 4294967296 % 18446744073709551616 + 0) % 18446744073709551616 : Nat) : Int)) rfl rfl rfl rfl (fun _ => rfl) (bin_addM (x := V * 4294967296 % 18446744073709551616) (y := 0) (z := (V * 4294967296 % 18446744073709551616 + 0) % 18446744073709551616) rfl rfl) rfl fun ac hs => ?_))
        refine lstep (wpO_plain rfl (op_move hs none rfl rfl rfl rfl fun ac hs => ?_))
        refine lstep (wpO_plain rfl (op_move hs none rfl rfl rfl rfl fun ac hs => ?_))
        refine lstep (wpO_plain rfl (op_bin hs none (v := .int .u64 ((p * 11529215046068469760 % 18446744073709551616 : Nat) : Int)) rfl rfl rfl rfl (fun _ => rfl) (bin_mulM (x := p) (y := 11529215046068469760) (z := p * 11529215046068469760 % 18446744073709551616) rfl rfl) rfl fun ac hs => ?_))
        refine lstep (wpO_plain rfl (op_bin hs none (v := .int .u64 ((((V * 4294967296 % 18446744073709551616 + 0) % 18446744073709551616 + 18446744073709551616 - p * 11529215046068469760 % 18446744073709551616) % 18446744073709551616 : Nat) : Int)) rfl rfl rfl rfl (fun _ => rfl) (bin_subM (x := (V * 4294967296 % 18446744073709551616 + 0) % 18446744073709551616) (y := p * 11529215046068469760 % 18446744073709551616) (z := ((V * 4294967296 % 18446744073709551616 + 0) % 18446744073709551616 + 18446744073709551616 - p * 11529215046068469760 % 18446744073709551616) % 18446744073709551616) rfl rfl (Nat.le_of_lt (Nat.mod_lt _ (by decide)))) rfl fun ac hs => ?_))
        refine lstep (wpO_plain rfl (op_move hs none rfl rfl rfl rfl fun ac hs => ?_))
        refine lstep (wpO_plain rfl (op_bin hs none (v := .int .u64 (((((V * 4294967296 % 18446744073709551616 + 0) % 18446744073709551616 + 18446744073709551616 - p * 11529215046068469760 % 18446744073709551616) % 18446744073709551616) / 2 ^ 60 : Nat) : Int)) rfl rfl rfl rfl (fun _ => rfl) (bin_shrN (x := ((V * 4294967296 % 18446744073709551616 + 0) % 18446744073709551616 + 18446744073709551616 - p * 11529215046068469760 % 18446744073709551616) % 18446744073709551616) (y := 60) (z := (((V * 4294967296 % 18446744073709551616 + 0) % 18446744073709551616 + 18446744073709551616 - p * 11529215046068469760 % 18446744073709551616) % 18446744073709551616) / 2 ^ 60) rfl (show ((V * 4294967296 % 18446744073709551616 + 0) % 18446744073709551616 + 18446744073709551616 - p * 11529215046068469760 % 18446744073709551616) % 18446744073709551616 < 18446744073709551616 by omega)) rfl fun ac hs => ?_))
        refine lstep (wpO_plain rfl (op_assign hs none rfl rfl rfl rfl fun ac hs => ?_))
        refine lstep (wpO_plain rfl (op_assign hs none rfl rfl rfl rfl fun ac hs => ?_))
        refine wpList_nil ?_
        refine then_n ?_
        refine wp_ret ?_
        exact bodyPost_ret (res2 rfl (rv_t hs rfl) (rv_t hs rfl)) hs.defers ⟨by rw [← hq, ← hr, hD.fq, hD.fr], hs.below⟩
theorem small_c (a x y : Nat) (ha : a < 2 ^ 256) (hx : a / 10 = x) (hy : a % 10 = y) (w0 : World) : Calls Try.prog 50 #[W a, .int .u64 10] w0 fun e w' => e = .returned (.tuple #[W x, .int .u64 ((y : Nat) : Int)]) ∧ Below w0.heap.size w0 w' := by
  refine enter (n := 25) (args := [W a, .int .u64 10]) Try.func50 rfl rfl (Nat.le_of_ble_eq_true rfl) fun ac hs => ?_
  refine wp_seq ?_
  refine wp_region_lit ?_
  refine lstep (wpO_plain rfl (op_box hs none none (cs := (Wl a)) rfl rfl rfl rfl rfl rfl fun g1 ac w hs => ?_))
  refine lstep (wpO_plain rfl (op_alloc hs none none (cs := [.int .u64 0, .int .u64 0, .int .u64 0, .int .u64 0]) rfl rfl Try.zeroValue24 (by kernel_rfl) rfl rfl fun g2 ac w hs => ?_))
  refine lstep (wpO_plain rfl (op_assign hs none rfl rfl rfl rfl fun ac hs => ?_))
  refine wpList_nil ?_
  refine then_n ?_
  refine wp_seq ?_
  refine wp_region_lit ?_
  refine lstep (wpO_plain rfl (op_assign hs none rfl rfl rfl rfl fun ac hs => ?_))
  refine wpList_nil ?_
  refine then_n ?_
  refine wp_seq ?_
  refine wp_seq ?_
  refine wp_region_lit ?_
  refine lstep (wpO_plain rfl (op_assign hs none rfl rfl rfl rfl fun ac hs => ?_))
  refine wpList_nil ?_
  refine then_n ?_
  refine wp_block ?_
  refine wp_loop_m (fun μ ac w => ∃ (k : Nat) (r : Nat) (f : Nat → Nat), (k) = μ ∧ (k ≤ 4) ∧ (r < 10) ∧ (r = a / 2 ^ (64 * k) % 10) ∧ (∀ j, j < 4 → f j = d10f a k j) ∧ St 25 w0 [(1, true, .int .u64 10), (2, true, .pointer (some ⟨g1, 0, none⟩)), (4, true, .pointer (some ⟨g2, 0, none⟩)), (6, true, .int .u64 ((r : Nat) : Int)), (7, true, .int .i64 (((k : Nat) : Int) - 1))] [(true, g1, 24, (tab .u64 4 f)), (true, g2, 24, [.int .u64 0, .int .u64 0, .int .u64 0, .int .u64 0])] ac w) ?_ ?_
  · exact ⟨_, 4, 0, (limN a), rfl, (by omega), (by decide), (small_top ha), (fun j hj => by unfold d10f; rw [if_neg (by omega)]), (hs.re ⟨rfl, rfl, rfl, rfl, rfl, trivial⟩)⟩
  intro μ ac w ⟨k, r, f, hμ, hk, lr, hr, hf, hs⟩
  refine wp_seq ?_
  refine wp_seq ?_
  refine wp_region_lit ?_
  refine lstep (wpO_plain rfl (op_move hs none rfl rfl rfl rfl fun ac hs => ?_))
  refine lstep (wpO_plain rfl (op_bin hs none (v := .bool (decide (1 ≤ k))) rfl rfl rfl rfl (fun _ => rfl) bin_geqP rfl fun ac hs => ?_))
  refine wpList_nil ?_
  refine then_n ?_
  refine wp_cond_split (hs.ev rfl) (fun hc => ?_) (fun hc => ?_)
  · skip
    have hp3 := of_decide_eq_true hc
    have hfk := small_at hp3 hk hf
    replace hs := hs.re (fs' := [(1, true, .int .u64 10), (2, true, .pointer (some ⟨g1, 0, none⟩)), (4, true, .pointer (some ⟨g2, 0, none⟩)), (6, true, .int .u64 ((r : Nat) : Int)), (7, true, .int .i64 ((k - 1 : Nat) : Int)), (8, true, .int .i64 (((k : Nat) : Int) - 1)), (9, true, .bool (decide (1 ≤ k)))]) ⟨rfl, rfl, rfl, rfl, congrArg some (pre_nat hp3), rfl, rfl, trivial⟩
    refine wp_skip ?_
    refine then_n ?_
    refine wp_seq ?_
    refine wp_block ?_
    refine wp_region_lit ?_
    refine lstep (wpO_plain rfl (op_move hs none rfl rfl rfl rfl fun ac hs => ?_))
    refine lstep (wpO_plain rfl (op_move hs none rfl rfl rfl rfl fun ac hs => ?_))
    refine lstep (wpO_plain rfl (op_move hs none rfl rfl rfl rfl fun ac hs => ?_))
    refine lstep (wpO_plain rfl (op_idxA hs none (j := k - 1) rfl rfl rfl rfl Try.underlying24 Try.sizeOf22 (show k - 1 < 4 by omega) (off := k - 1) (by omega) rfl fun ac hs => ?_))
    refine lstep (wpO_plain rfl (op_load hs none 0 (v := .int .u64 ((f (k - 1) : Nat) : Int)) rfl rfl rfl rfl Try.isAgg22 Try.sizeOf22 (tab_get (j := k - 1) (show k - 1 < 4 by omega)) rfl fun ac hs => ?_))
    refine lstep (wpO_plain rfl (op_move hs none rfl rfl rfl rfl fun ac hs => ?_))
    obtain ⟨q4, hq4, lq4⟩ : ∃ z0, (r * 18446744073709551616 + (f (k - 1))) / 10 = z0 ∧ z0 < 18446744073709551616 := ⟨_, rfl, div10_lt lr (by rw [hfk]; exact limN_lt _ _)⟩
    obtain ⟨r5, hr5, lr5⟩ : ∃ z0, (r * 18446744073709551616 + (f (k - 1))) % 10 = z0 ∧ z0 < 10 := ⟨_, rfl, Nat.mod_lt _ (by decide)⟩
    refine lstep (wpO_plain rfl (op_call (F := 53) hs none (v := .tuple #[.int .u64 ((q4 : Nat) : Int), .int .u64 ((r5 : Nat) : Int)]) rfl rfl rfl rfl (Try.call53 _) (div10_c r (f (k - 1)) q4 r5 lr (by rw [hfk]; exact limN_lt _ _) hq4 hr5) rfl fun ac w hs => ?_))
    refine lstep (wpO_plain rfl (op_move hs none rfl rfl rfl rfl fun ac hs => ?_))
    refine lstep (wpO_plain rfl (op_extract hs none rfl rfl rfl rfl rfl fun ac hs => ?_))
    refine lstep (wpO_plain rfl (op_extract hs none rfl rfl rfl rfl rfl fun ac hs => ?_))
    refine lstep (wpO_plain rfl (op_idxA hs none (j := k - 1) rfl rfl rfl rfl Try.underlying24 Try.sizeOf22 (show k - 1 < 4 by omega) (off := k - 1) (by omega) rfl fun ac hs => ?_))
    refine lstep (wpO_plain rfl (op_store hs 0 (vs := [.int .u64 ((q4 : Nat) : Int)]) rfl rfl rfl rfl rfl Try.sizeOf22 rfl rfl rfl (tab_le (j := k - 1) (show k - 1 < 4 by omega)) (tab_set) fun w hs => ?_))
    refine lstep (wpO_plain rfl (op_assign hs none rfl rfl rfl rfl fun ac hs => ?_))
    refine wpList_nil ?_
    refine blk_n ?_
    refine then_n ?_
    refine wp_region_lit ?_
    refine lstep (wpO_plain rfl (op_move hs none rfl rfl rfl rfl fun ac hs => ?_))
    refine lstep (wpO_plain rfl (op_bin hs none (v := .int .i64 (((k - 1 : Nat) : Int) - 1)) rfl rfl rfl rfl (fun _ => rfl) (bin_subP (x := k - 1) (by omega)) rfl fun ac hs => ?_))
    refine lstep (wpO_plain rfl (op_assign hs none rfl rfl rfl rfl fun ac hs => ?_))
    refine wpList_nil ?_
    refine then_n ?_
    exact ⟨_, ⟨(k - 1), r5, (upn f (k - 1) q4), rfl, (by omega), lr5, (small_rem hp3 hr (by rw [← hfk]; exact hr5)), (small_step hp3 hk hr (by rw [← hfk]; exact hq4) hf), (hs.re ⟨rfl, rfl, rfl, rfl, rfl, trivial⟩)⟩, (by omega)⟩
  · skip
    have hp6 := of_decide_eq_false hc
    obtain rfl : k = 0 := by omega
    replace hs := hs.setb 0 (cs' := Wl x) rfl (tab_Wl fun j hj => (hf j hj).trans (by unfold d10f; rw [if_pos (Nat.zero_le _), hx]))
    obtain rfl : r = y := hr.trans (by rw [← hy, Nat.mul_zero, Nat.pow_zero, Nat.div_one])
    refine wp_exit ?_
    refine then_e ?_
    refine then_e ?_
    refine blk_e ?_
    refine then_n ?_
    refine wp_seq ?_
    refine wp_region_lit ?_
    refine lstep (wpO_plain rfl (op_load hs none 0 (v := W x) rfl rfl rfl rfl Try.isAgg24 Try.sizeOf24 rfl rfl fun ac hs => ?_))
    refine lstep (wpO_plain rfl (op_move hs none rfl rfl rfl rfl fun ac hs => ?_))
    refine lstep (wpO_plain rfl (op_store hs 1 (vs := (Wl x)) rfl rfl rfl rfl rfl Try.sizeOf24 rfl rfl rfl rfl rfl fun w hs => ?_))
    refine lstep (wpO_plain rfl (op_assign hs none rfl rfl rfl rfl fun ac hs => ?_))
    refine wpList_nil ?_
    refine then_n ?_
    refine wp_ret ?_
    exact bodyPost_ret (res2 rfl (rv_c hs 1 (v := W x) rfl rfl Try.isAgg24 Try.sizeOf24 rfl) (rv_t hs rfl)) hs.defers ⟨rfl, hs.below⟩
end Go.Proofs.Ytaeafgkjinhceaa
