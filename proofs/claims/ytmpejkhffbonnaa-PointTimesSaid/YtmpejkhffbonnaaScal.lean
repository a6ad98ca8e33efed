/- The contracts of scalar.Order, over, Reduce, Add, Neg. -/
import Derived.Test.YtmpejkhffbonnaaScalP
namespace Go.Proofs.Ytmpejkhffbonnaa
open Go.RowKit

theorem modN_lt (a : Nat) : a % Nord < 2 ^ 256 := Nat.lt_trans (Nat.mod_lt _ (by decide)) Nord_lt
set_option maxRecDepth 10000

theorem order_c  (w0 : World) : Calls Try.prog 27 #[] w0 fun e w' => e = .returned (W Nord) ∧ Below w0.heap.size w0 w' := by
  refine enter (n := 2) (args := []) Try.func27 rfl rfl (Nat.le_of_ble_eq_true rfl) fun ac hs => ?_
  refine wp_seq ?_
  refine wp_region_lit ?_
  refine lstep (wpO_plain rfl (op_alloc hs none none (cs := [.int .u64 0, .int .u64 0, .int .u64 0, .int .u64 0]) rfl rfl Try.zeroValue24 (by kernel_rfl) rfl rfl fun g1 ac w hs => ?_))
  refine wpList_nil ?_
  refine then_n ?_
  refine wp_seq ?_
  refine wp_region_lit ?_
  refine lstep (wpO_plain rfl (op_build hs none (qs := [(0, .int .u64 13822214165235122497), (1, .int .u64 13451932020343611451), (2, .int .u64 18446744073709551614), (3, .int .u64 18446744073709551615)]) (v := .agg #[.int .u64 13822214165235122497, .int .u64 13451932020343611451, .int .u64 18446744073709551614, .int .u64 18446744073709551615]) rfl rfl rfl rfl (fun _ => by kernel_rfl) rfl fun ac hs => ?_))
  refine lstep (wpO_plain rfl (op_store hs 0 (vs := [.int .u64 13822214165235122497, .int .u64 13451932020343611451, .int .u64 18446744073709551614, .int .u64 18446744073709551615]) rfl rfl rfl rfl rfl Try.sizeOf24 rfl rfl rfl rfl rfl fun w hs => ?_))
  refine wpList_nil ?_
  refine then_n ?_
  refine wp_ret ?_
  exact bodyPost_ret (res1 rfl (rv_c hs 0 (v := .agg #[.int .u64 13822214165235122497, .int .u64 13451932020343611451, .int .u64 18446744073709551614, .int .u64 18446744073709551615]) rfl rfl Try.isAgg24 Try.sizeOf24 rfl)) hs.defers ⟨by kernel_rfl, hs.below⟩
theorem over_c  (w0 : World) : Calls Try.prog 55 #[] w0 fun e w' => e = .returned (W Nov) ∧ Below w0.heap.size w0 w' := by
  refine enter (n := 10) (args := []) Try.func55 rfl rfl (Nat.le_of_ble_eq_true rfl) fun ac hs => ?_
  refine wp_seq ?_
  refine wp_region_lit ?_
  refine lstep (wpO_plain rfl (op_alloc hs none none (cs := [.int .u64 0, .int .u64 0, .int .u64 0, .int .u64 0]) rfl rfl Try.zeroValue24 (by kernel_rfl) rfl rfl fun g1 ac w hs => ?_))
  refine wpList_nil ?_
  refine then_n ?_
  refine wp_seq ?_
  refine wp_region_lit ?_
  refine lstep (wpO_plain rfl (op_build hs none (qs := []) (v := .agg #[.int .u64 0, .int .u64 0, .int .u64 0, .int .u64 0]) rfl rfl rfl rfl (fun _ => by kernel_rfl) rfl fun ac hs => ?_))
  refine lstep (wpO_plain rfl (op_call (F := 27) hs none (v := W Nord) rfl rfl rfl rfl (Try.call27 _) order_c rfl fun ac w hs => ?_))
  obtain ⟨d2, hd2, ld2⟩ : ∃ z0, (0 + 2 ^ 256 - Nord) % 2 ^ 256 = z0 ∧ z0 < 2 ^ 256 := ⟨_, rfl, Nat.mod_lt _ (Nat.two_pow_pos 256)⟩
  obtain ⟨c3, hc3⟩ : ∃ z0, bor 0 Nord = z0 := ⟨_, rfl⟩
  refine lstep (wpO_plain rfl (op_call (F := 82) hs none (v := .tuple #[W d2, .int .u64 ((c3 : Nat) : Int)]) rfl rfl rfl rfl (Try.call82 _) (fun w => sub_at w 0 Nord d2 c3 (by decide) Nord_lt hd2 hc3) rfl fun ac w hs => ?_))
  refine lstep (wpO_plain rfl (op_move hs none rfl rfl rfl rfl fun ac hs => ?_))
  refine lstep (wpO_plain rfl (op_extract hs none rfl rfl rfl rfl rfl fun ac hs => ?_))
  refine lstep (wpO_plain rfl (op_extract hs none rfl rfl rfl rfl rfl fun ac hs => ?_))
  refine lstep (wpO_plain rfl (op_alloc hs none none (cs := [.int .u64 0, .int .u64 0, .int .u64 0, .int .u64 0]) rfl rfl Try.zeroValue24 (by kernel_rfl) rfl rfl fun g4 ac w hs => ?_))
  refine lstep (wpO_plain rfl (op_store hs 1 (vs := (Wl d2)) rfl rfl rfl rfl rfl Try.sizeOf24 rfl rfl rfl rfl rfl fun w hs => ?_))
  refine lstep (wpO_plain rfl (op_assign hs none rfl rfl rfl rfl fun ac hs => ?_))
  refine wpList_nil ?_
  refine then_n ?_
  refine wp_seq ?_
  refine wp_region_lit ?_
  refine lstep (wpO_plain rfl (op_load hs none 1 (v := W d2) rfl rfl rfl rfl Try.isAgg24 Try.sizeOf24 rfl rfl fun ac hs => ?_))
  refine lstep (wpO_plain rfl (op_store hs 0 (vs := (Wl d2)) rfl rfl rfl rfl rfl Try.sizeOf24 rfl rfl rfl rfl rfl fun w hs => ?_))
  refine wpList_nil ?_
  refine then_n ?_
  refine wp_ret ?_
  exact bodyPost_ret (res1 rfl (rv_c hs 0 (v := W d2) rfl rfl Try.isAgg24 Try.sizeOf24 rfl)) hs.defers ⟨by rw [show d2 = Nov from hd2.symm.trans (by decide)], hs.below⟩
theorem red_c (a x : Nat) (ha : a < 2 ^ 256) (hx : a % Nord = x) (w0 : World) : Calls Try.prog 54 #[W a] w0 fun e w' => e = .returned (W x) ∧ Below w0.heap.size w0 w' := by
  refine enter (n := 15) (args := [W a]) Try.func54 rfl rfl (Nat.le_of_ble_eq_true rfl) fun ac hs => ?_
  refine wp_seq ?_
  refine wp_region_lit ?_
  refine lstep (wpO_plain rfl (op_box hs none none (cs := (Wl a)) rfl rfl rfl rfl rfl rfl fun g1 ac w hs => ?_))
  refine lstep (wpO_plain rfl (op_alloc hs none none (cs := [.int .u64 0, .int .u64 0, .int .u64 0, .int .u64 0]) rfl rfl Try.zeroValue24 (by kernel_rfl) rfl rfl fun g2 ac w hs => ?_))
  refine wpList_nil ?_
  refine then_n ?_
  refine wp_seq ?_
  refine wp_seq ?_
  replace hs : St 15 w0 [(1, true, .pointer (some ⟨g1, 0, none⟩)), (2, true, .pointer (some ⟨g2, 0, none⟩))] [(true, g1, 24, (Wl a)), (true, g2, 24, [.int .u64 0, .int .u64 0, .int .u64 0, .int .u64 0])] ac _ := hs.re ⟨rfl, rfl, trivial⟩
  obtain ⟨d3, hd3, ld3⟩ : ∃ z0, (a + 2 ^ 256 - Nord) % 2 ^ 256 = z0 ∧ z0 < 2 ^ 256 := ⟨_, rfl, Nat.mod_lt _ (Nat.two_pow_pos 256)⟩
  obtain ⟨c4, hc4⟩ : ∃ z0, bor a Nord = z0 := ⟨_, rfl⟩
  refine region_inv [([], [2, 3, 4, 5, 7, 8]), ([], [2, 3, 4, 5, 7, 8]), ([0, 1], [3, 4, 5, 7, 8]), ([0, 1, 2], [4, 5, 7, 8]), ([0, 1, 2, 3], [7, 8]), ([0, 1, 2, 3], [8]), ([], [7, 8]), ([0, 1, 2, 3, 4, 6], [8]), ([0, 1, 2, 3, 4, 5, 6, 7], [])] (fun L ac w => ∃ (g5 : Nat), St 15 w0 [(6, L 0, W a), (7, L 1, W Nord), (8, L 2, .tuple #[W d3, .int .u64 ((c4 : Nat) : Int)]), (5, L 3, .tuple #[W d3, .int .u64 ((c4 : Nat) : Int)]), (9, L 4, W d3), (10, L 5, .int .u64 ((c4 : Nat) : Int)), (3, L 6, .pointer (some ⟨g5, 0, none⟩)), (4, L 8, .int .u64 ((c4 : Nat) : Int)), (1, true, .pointer (some ⟨g1, 0, none⟩)), (2, true, .pointer (some ⟨g2, 0, none⟩))] [(true, g1, 24, (Wl a)), (true, g2, 24, [.int .u64 0, .int .u64 0, .int .u64 0, .int .u64 0]), (L 6, g5, 24, (cond (L 7) (Wl d3) [.int .u64 0, .int .u64 0, .int .u64 0, .int .u64 0]))] ac w) (by kernel_rfl) (by kernel_rfl) ?_ ?_ ?_
  · exact ⟨0, hs.drew.skip.skip.skip.skip.skip.skip.skip.skip.pad⟩
  · refine ⟨?_, ?_, ?_, ?_, ?_, ?_, ?_, ?_, ?_, trivial⟩
    · intro L ac w hJ
      obtain ⟨g5, hs⟩ := hJ
      refine wpO_plain rfl (op_load hs (some 0) 0 (v := W a) rfl rfl rfl rfl Try.isAgg24 Try.sizeOf24 rfl rfl fun ac hs => ?_)
      exact ⟨g5, hs⟩
    · intro L ac w hJ
      obtain ⟨g5, hs⟩ := hJ
      refine wpO_plain rfl (op_call (F := 27) hs (some 1) (v := W Nord) rfl rfl rfl rfl (Try.call27 _) order_c rfl fun ac w hs => ?_)
      exact ⟨g5, hs⟩
    · intro L ac w hJ
      obtain ⟨g5, hs⟩ := hJ
      refine wpO_plain rfl (op_call (F := 82) hs (some 2) (v := .tuple #[W d3, .int .u64 ((c4 : Nat) : Int)]) rfl rfl rfl rfl (Try.call82 _) (fun w => sub_at w a Nord d3 c4 ha Nord_lt hd3 hc4) rfl fun ac w hs => ?_)
      exact ⟨g5, hs⟩
    · intro L ac w hJ
      obtain ⟨g5, hs⟩ := hJ
      refine wpO_plain rfl (op_move hs (some 3) rfl rfl rfl rfl fun ac hs => ?_)
      exact ⟨g5, hs⟩
    · intro L ac w hJ
      obtain ⟨g5, hs⟩ := hJ
      refine wpO_plain rfl (op_extract hs (some 4) rfl rfl rfl rfl rfl fun ac hs => ?_)
      exact ⟨g5, hs⟩
    · intro L ac w hJ
      obtain ⟨g5, hs⟩ := hJ
      refine wpO_plain rfl (op_extract hs (some 5) rfl rfl rfl rfl rfl fun ac hs => ?_)
      exact ⟨g5, hs⟩
    · intro L ac w hJ
      obtain ⟨g5, hs⟩ := hJ
      refine wpO_plain rfl (op_alloc hs (some 6) (some 2) (cs := [.int .u64 0, .int .u64 0, .int .u64 0, .int .u64 0]) rfl rfl Try.zeroValue24 (by kernel_rfl) rfl rfl fun g5 ac w hs => ?_)
      exact ⟨g5, hs⟩
    · intro L ac w hJ
      obtain ⟨g5, hs⟩ := hJ
      refine wpO_plain rfl (op_store hs 2 (vs := (Wl d3)) rfl rfl rfl rfl rfl Try.sizeOf24 rfl rfl rfl rfl rfl fun w hs => ?_)
      exact ⟨g5, hs⟩
    · intro L ac w hJ
      obtain ⟨g5, hs⟩ := hJ
      refine wpO_plain rfl (op_assign hs (some 7) rfl rfl rfl rfl fun ac hs => ?_)
      exact ⟨g5, hs⟩
  intro ac w hJ
  obtain ⟨g5, hs⟩ := hJ
  replace hs : St 15 w0 [(6, true, W a), (7, true, W Nord), (8, true, .tuple #[W d3, .int .u64 ((c4 : Nat) : Int)]), (5, true, .tuple #[W d3, .int .u64 ((c4 : Nat) : Int)]), (9, true, W d3), (10, true, .int .u64 ((c4 : Nat) : Int)), (3, true, .pointer (some ⟨g5, 0, none⟩)), (4, true, .int .u64 ((c4 : Nat) : Int)), (1, true, .pointer (some ⟨g1, 0, none⟩)), (2, true, .pointer (some ⟨g2, 0, none⟩))] [(true, g1, 24, (Wl a)), (true, g2, 24, [.int .u64 0, .int .u64 0, .int .u64 0, .int .u64 0]), (true, g5, 24, (Wl d3))] ac w := hs
  refine then_n ?_
  refine wp_seq ?_
  refine wp_region_lit ?_
  refine lstep (wpO_plain rfl (op_move hs none rfl rfl rfl rfl fun ac hs => ?_))
  refine lstep (wpO_plain rfl (op_bin hs none (v := .bool (decide (c4 = 0))) rfl rfl rfl rfl (fun _ => rfl) (bin_eqlN (x := c4) (y := 0)) rfl fun ac hs => ?_))
  refine wpList_nil ?_
  refine then_n ?_
  refine wp_cond_split (hs.ev rfl) (fun hc => ?_) (fun hc => ?_)
  · skip
    have hp6 := of_decide_eq_true hc
    refine wp_seq ?_
    refine wp_region_lit ?_
    refine lstep (wpO_plain rfl (op_load hs none 2 (v := W d3) rfl rfl rfl rfl Try.isAgg24 Try.sizeOf24 rfl rfl fun ac hs => ?_))
    refine lstep (wpO_plain rfl (op_store hs 1 (vs := (Wl d3)) rfl rfl rfl rfl rfl Try.sizeOf24 rfl rfl rfl rfl rfl fun w hs => ?_))
    refine wpList_nil ?_
    refine then_n ?_
    refine wp_ret ?_
    refine then_r ?_
    exact bodyPost_ret (res1 rfl (rv_c hs 1 (v := W d3) rfl rfl Try.isAgg24 Try.sizeOf24 rfl)) hs.defers ⟨by rw [← hx, ← red_yes ha hd3 hc4 hc], hs.below⟩
  · skip
    have hp7 := of_decide_eq_false hc
    refine wp_skip ?_
    refine then_n ?_
    refine wp_seq ?_
    refine wp_region_lit ?_
    refine lstep (wpO_plain rfl (op_load hs none 0 (v := W a) rfl rfl rfl rfl Try.isAgg24 Try.sizeOf24 rfl rfl fun ac hs => ?_))
    refine lstep (wpO_plain rfl (op_store hs 1 (vs := (Wl a)) rfl rfl rfl rfl rfl Try.sizeOf24 rfl rfl rfl rfl rfl fun w hs => ?_))
    refine wpList_nil ?_
    refine then_n ?_
    refine wp_ret ?_
    exact bodyPost_ret (res1 rfl (rv_c hs 1 (v := W a) rfl rfl Try.isAgg24 Try.sizeOf24 rfl)) hs.defers ⟨by rw [← hx, ← red_no hc4 hc], hs.below⟩
theorem sadd_c (a b x : Nat) (ha : a < 2 ^ 256) (hb : b < 2 ^ 256) (hx : (a + b) % Nord = x) (w0 : World) : Calls Try.prog 25 #[W a, W b] w0 fun e w' => e = .returned (W x) ∧ Below w0.heap.size w0 w' := by
  refine enter (n := 25) (args := [W a, W b]) Try.func25 rfl rfl (Nat.le_of_ble_eq_true rfl) fun ac hs => ?_
  refine wp_seq ?_
  refine wp_region_lit ?_
  refine lstep (wpO_plain rfl (op_box hs none none (cs := (Wl a)) rfl rfl rfl rfl rfl rfl fun g1 ac w hs => ?_))
  refine lstep (wpO_plain rfl (op_box hs none none (cs := (Wl b)) rfl rfl rfl rfl rfl rfl fun g2 ac w hs => ?_))
  refine lstep (wpO_plain rfl (op_alloc hs none none (cs := [.int .u64 0, .int .u64 0, .int .u64 0, .int .u64 0]) rfl rfl Try.zeroValue24 (by kernel_rfl) rfl rfl fun g3 ac w hs => ?_))
  refine wpList_nil ?_
  refine then_n ?_
  refine wp_seq ?_
  replace hs : St 25 w0 [(2, true, .pointer (some ⟨g1, 0, none⟩)), (3, true, .pointer (some ⟨g2, 0, none⟩)), (4, true, .pointer (some ⟨g3, 0, none⟩))] [(true, g1, 24, (Wl a)), (true, g2, 24, (Wl b)), (true, g3, 24, [.int .u64 0, .int .u64 0, .int .u64 0, .int .u64 0])] ac _ := hs.re ⟨rfl, rfl, rfl, trivial⟩
  obtain ⟨r4, hr4, lr4⟩ : ∃ z0, a % Nord = z0 ∧ z0 < 2 ^ 256 := ⟨_, rfl, modN_lt _⟩
  obtain ⟨r5, hr5, lr5⟩ : ∃ z0, b % Nord = z0 ∧ z0 < 2 ^ 256 := ⟨_, rfl, modN_lt _⟩
  obtain ⟨s6, hs6, ls6⟩ : ∃ z0, (r4 + r5) % 2 ^ 256 = z0 ∧ z0 < 2 ^ 256 := ⟨_, rfl, Nat.mod_lt _ (Nat.two_pow_pos 256)⟩
  obtain ⟨c7, hc7⟩ : ∃ z0, (r4 + r5) / 2 ^ 256 = z0 := ⟨_, rfl⟩
  refine region_inv [([], [1, 3, 4, 5, 6, 7, 9, 10]), ([0], [3, 4, 5, 6, 7, 9, 10]), ([], [3, 4, 5, 6, 7, 9, 10]), ([0, 1, 2], [4, 5, 6, 7, 9, 10]), ([0, 1, 2, 3], [5, 6, 7, 9, 10]), ([0, 1, 2, 3, 4], [6, 7, 9, 10]), ([0, 1, 2, 3, 4, 5], [9, 10]), ([0, 1, 2, 3, 4, 5], [10]), ([], [9, 10]), ([0, 1, 2, 3, 4, 5, 6, 8], [10]), ([0, 1, 2, 3, 4, 5, 6, 7, 8, 9], [])] (fun L ac w => ∃ (g8 : Nat), St 25 w0 [(8, L 0, W a), (9, L 1, W r4), (10, L 2, W b), (11, L 3, W r5), (12, L 4, .tuple #[W s6, .int .u64 ((c7 : Nat) : Int)]), (7, L 5, .tuple #[W s6, .int .u64 ((c7 : Nat) : Int)]), (13, L 6, W s6), (14, L 7, .int .u64 ((c7 : Nat) : Int)), (5, L 8, .pointer (some ⟨g8, 0, none⟩)), (6, L 10, .int .u64 ((c7 : Nat) : Int)), (2, true, .pointer (some ⟨g1, 0, none⟩)), (3, true, .pointer (some ⟨g2, 0, none⟩)), (4, true, .pointer (some ⟨g3, 0, none⟩))] [(true, g1, 24, (Wl a)), (true, g2, 24, (Wl b)), (true, g3, 24, [.int .u64 0, .int .u64 0, .int .u64 0, .int .u64 0]), (L 8, g8, 24, (cond (L 9) (Wl s6) [.int .u64 0, .int .u64 0, .int .u64 0, .int .u64 0]))] ac w) (by kernel_rfl) (by kernel_rfl) ?_ ?_ ?_
  · exact ⟨0, hs.drew.skip.skip.skip.skip.skip.skip.skip.skip.skip.skip.pad⟩
  · refine ⟨?_, ?_, ?_, ?_, ?_, ?_, ?_, ?_, ?_, ?_, ?_, trivial⟩
    · intro L ac w hJ
      obtain ⟨g8, hs⟩ := hJ
      refine wpO_plain rfl (op_load hs (some 0) 0 (v := W a) rfl rfl rfl rfl Try.isAgg24 Try.sizeOf24 rfl rfl fun ac hs => ?_)
      exact ⟨g8, hs⟩
    · intro L ac w hJ
      obtain ⟨g8, hs⟩ := hJ
      refine wpO_plain rfl (op_call (F := 54) hs (some 1) (v := W r4) rfl rfl rfl rfl (Try.call54 _) (red_c a r4 ha hr4) rfl fun ac w hs => ?_)
      exact ⟨g8, hs⟩
    · intro L ac w hJ
      obtain ⟨g8, hs⟩ := hJ
      refine wpO_plain rfl (op_load hs (some 2) 1 (v := W b) rfl rfl rfl rfl Try.isAgg24 Try.sizeOf24 rfl rfl fun ac hs => ?_)
      exact ⟨g8, hs⟩
    · intro L ac w hJ
      obtain ⟨g8, hs⟩ := hJ
      refine wpO_plain rfl (op_call (F := 54) hs (some 3) (v := W r5) rfl rfl rfl rfl (Try.call54 _) (red_c b r5 hb hr5) rfl fun ac w hs => ?_)
      exact ⟨g8, hs⟩
    · intro L ac w hJ
      obtain ⟨g8, hs⟩ := hJ
      refine wpO_plain rfl (op_call (F := 53) hs (some 4) (v := .tuple #[W s6, .int .u64 ((c7 : Nat) : Int)]) rfl rfl rfl rfl (Try.call53 _) (fun w => add_at w r4 r5 s6 c7 lr4 lr5 hs6 hc7) rfl fun ac w hs => ?_)
      exact ⟨g8, hs⟩
    · intro L ac w hJ
      obtain ⟨g8, hs⟩ := hJ
      refine wpO_plain rfl (op_move hs (some 5) rfl rfl rfl rfl fun ac hs => ?_)
      exact ⟨g8, hs⟩
    · intro L ac w hJ
      obtain ⟨g8, hs⟩ := hJ
      refine wpO_plain rfl (op_extract hs (some 6) rfl rfl rfl rfl rfl fun ac hs => ?_)
      exact ⟨g8, hs⟩
    · intro L ac w hJ
      obtain ⟨g8, hs⟩ := hJ
      refine wpO_plain rfl (op_extract hs (some 7) rfl rfl rfl rfl rfl fun ac hs => ?_)
      exact ⟨g8, hs⟩
    · intro L ac w hJ
      obtain ⟨g8, hs⟩ := hJ
      refine wpO_plain rfl (op_alloc hs (some 8) (some 3) (cs := [.int .u64 0, .int .u64 0, .int .u64 0, .int .u64 0]) rfl rfl Try.zeroValue24 (by kernel_rfl) rfl rfl fun g8 ac w hs => ?_)
      exact ⟨g8, hs⟩
    · intro L ac w hJ
      obtain ⟨g8, hs⟩ := hJ
      refine wpO_plain rfl (op_store hs 3 (vs := (Wl s6)) rfl rfl rfl rfl rfl Try.sizeOf24 rfl rfl rfl rfl rfl fun w hs => ?_)
      exact ⟨g8, hs⟩
    · intro L ac w hJ
      obtain ⟨g8, hs⟩ := hJ
      refine wpO_plain rfl (op_assign hs (some 9) rfl rfl rfl rfl fun ac hs => ?_)
      exact ⟨g8, hs⟩
  intro ac w hJ
  obtain ⟨g8, hs⟩ := hJ
  replace hs : St 25 w0 [(8, true, W a), (9, true, W r4), (10, true, W b), (11, true, W r5), (12, true, .tuple #[W s6, .int .u64 ((c7 : Nat) : Int)]), (7, true, .tuple #[W s6, .int .u64 ((c7 : Nat) : Int)]), (13, true, W s6), (14, true, .int .u64 ((c7 : Nat) : Int)), (5, true, .pointer (some ⟨g8, 0, none⟩)), (6, true, .int .u64 ((c7 : Nat) : Int)), (2, true, .pointer (some ⟨g1, 0, none⟩)), (3, true, .pointer (some ⟨g2, 0, none⟩)), (4, true, .pointer (some ⟨g3, 0, none⟩))] [(true, g1, 24, (Wl a)), (true, g2, 24, (Wl b)), (true, g3, 24, [.int .u64 0, .int .u64 0, .int .u64 0, .int .u64 0]), (true, g8, 24, (Wl s6))] ac w := hs
  refine then_n ?_
  refine wp_seq ?_
  refine wp_seq ?_
  refine wp_region_lit ?_
  refine lstep (wpO_plain rfl (op_move hs none rfl rfl rfl rfl fun ac hs => ?_))
  refine lstep (wpO_plain rfl (op_bin hs none (v := .bool (decide (c7 ≠ 0))) rfl rfl rfl rfl (fun _ => rfl) (bin_neqN (x := c7) (y := 0)) rfl fun ac hs => ?_))
  refine wpList_nil ?_
  refine then_n ?_
  refine wp_cond_split (hs.ev rfl) (fun hc => ?_) (fun hc => ?_)
  · skip
    have hp9 := of_decide_eq_true hc
    replace hs : St 25 w0 [(4, true, .pointer (some ⟨g3, 0, none⟩)), (5, true, .pointer (some ⟨g8, 0, none⟩))] [(true, g1, 24, (Wl a)), (true, g2, 24, (Wl b)), (true, g3, 24, [.int .u64 0, .int .u64 0, .int .u64 0, .int .u64 0]), (true, g8, 24, (Wl s6))] ac _ := hs.re ⟨rfl, rfl, trivial⟩
    obtain ⟨s10, hs10, ls10⟩ : ∃ z0, (s6 + Nov) % 2 ^ 256 = z0 ∧ z0 < 2 ^ 256 := ⟨_, rfl, Nat.mod_lt _ (Nat.two_pow_pos 256)⟩
    obtain ⟨c11, hc11⟩ : ∃ z0, (s6 + Nov) / 2 ^ 256 = z0 := ⟨_, rfl⟩
    refine region_inv [([], [2, 3, 4, 5, 6]), ([], [2, 3, 4, 5, 6]), ([0, 1], [3, 4, 5, 6]), ([0, 1, 2], [4, 5, 6]), ([0, 1, 2, 3], [6]), ([0, 1, 2, 3], []), ([0, 1, 2, 3, 4], [])] (fun L ac w => St 25 w0 [(18, L 0, W s6), (19, L 1, W Nov), (20, L 2, .tuple #[W s10, .int .u64 ((c11 : Nat) : Int)]), (17, L 3, .tuple #[W s10, .int .u64 ((c11 : Nat) : Int)]), (21, L 4, W s10), (22, L 5, .int .u64 ((c11 : Nat) : Int)), (4, true, .pointer (some ⟨g3, 0, none⟩)), (5, true, .pointer (some ⟨g8, 0, none⟩))] [(true, g1, 24, (Wl a)), (true, g2, 24, (Wl b)), (true, g3, 24, [.int .u64 0, .int .u64 0, .int .u64 0, .int .u64 0]), (true, g8, 24, (cond (L 6) (Wl s10) (Wl s6)))] ac w) (by kernel_rfl) (by kernel_rfl) ?_ ?_ ?_
    · exact hs.drew.skip.skip.skip.skip.skip.skip
    · refine ⟨?_, ?_, ?_, ?_, ?_, ?_, ?_, trivial⟩
      · intro L ac w hJ
        have hs := hJ
        refine wpO_plain rfl (op_load hs (some 0) 3 (v := W s6) rfl rfl rfl rfl Try.isAgg24 Try.sizeOf24 rfl rfl fun ac hs => ?_)
        exact hs
      · intro L ac w hJ
        have hs := hJ
        refine wpO_plain rfl (op_call (F := 55) hs (some 1) (v := W Nov) rfl rfl rfl rfl (Try.call55 _) over_c rfl fun ac w hs => ?_)
        exact hs
      · intro L ac w hJ
        have hs := hJ
        refine wpO_plain rfl (op_call (F := 53) hs (some 2) (v := .tuple #[W s10, .int .u64 ((c11 : Nat) : Int)]) rfl rfl rfl rfl (Try.call53 _) (fun w => add_at w s6 Nov s10 c11 ls6 Nov_lt hs10 hc11) rfl fun ac w hs => ?_)
        exact hs
      · intro L ac w hJ
        have hs := hJ
        refine wpO_plain rfl (op_move hs (some 3) rfl rfl rfl rfl fun ac hs => ?_)
        exact hs
      · intro L ac w hJ
        have hs := hJ
        refine wpO_plain rfl (op_extract hs (some 4) rfl rfl rfl rfl rfl fun ac hs => ?_)
        exact hs
      · intro L ac w hJ
        have hs := hJ
        refine wpO_plain rfl (op_extract hs (some 5) rfl rfl rfl rfl rfl fun ac hs => ?_)
        exact hs
      · intro L ac w hJ
        have hs := hJ
        refine wpO_plain rfl (op_store hs 3 (vs := (Wl s10)) rfl rfl rfl rfl rfl Try.sizeOf24 rfl rfl rfl rfl rfl fun w hs => ?_)
        exact hs
    intro ac w hJ
    replace hs : St 25 w0 [(18, true, W s6), (19, true, W Nov), (20, true, .tuple #[W s10, .int .u64 ((c11 : Nat) : Int)]), (17, true, .tuple #[W s10, .int .u64 ((c11 : Nat) : Int)]), (21, true, W s10), (22, true, .int .u64 ((c11 : Nat) : Int)), (4, true, .pointer (some ⟨g3, 0, none⟩)), (5, true, .pointer (some ⟨g8, 0, none⟩))] [(true, g1, 24, (Wl a)), (true, g2, 24, (Wl b)), (true, g3, 24, [.int .u64 0, .int .u64 0, .int .u64 0, .int .u64 0]), (true, g8, 24, (Wl s10))] ac w := hJ
    refine then_n ?_
    refine wp_seq ?_
    refine wp_region_lit ?_
    refine lstep (wpO_plain rfl (op_load hs none 3 (v := W s10) rfl rfl rfl rfl Try.isAgg24 Try.sizeOf24 rfl rfl fun ac hs => ?_))
    obtain ⟨r12, hr12, lr12⟩ : ∃ z0, s10 % Nord = z0 ∧ z0 < 2 ^ 256 := ⟨_, rfl, modN_lt _⟩
    refine lstep (wpO_plain rfl (op_call (F := 54) hs none (v := W r12) rfl rfl rfl rfl (Try.call54 _) (red_c s10 r12 ls10 hr12) rfl fun ac w hs => ?_))
    refine lstep (wpO_plain rfl (op_store hs 2 (vs := (Wl r12)) rfl rfl rfl rfl rfl Try.sizeOf24 rfl rfl rfl rfl rfl fun w hs => ?_))
    refine wpList_nil ?_
    refine then_n ?_
    refine wp_ret ?_
    exact bodyPost_ret (res1 rfl (rv_c hs 2 (v := W r12) rfl rfl Try.isAgg24 Try.sizeOf24 rfl)) hs.defers ⟨by subst hr4 hr5; rw [← hx, ← hr12]; rw [add_yes hs6 hc7 hs10 hc], hs.below⟩
  · skip
    have hp13 := of_decide_eq_false hc
    refine wp_skip ?_
    refine then_n ?_
    refine wp_seq ?_
    refine wp_region_lit ?_
    refine lstep (wpO_plain rfl (op_load hs none 3 (v := W s6) rfl rfl rfl rfl Try.isAgg24 Try.sizeOf24 rfl rfl fun ac hs => ?_))
    obtain ⟨r14, hr14, lr14⟩ : ∃ z0, s6 % Nord = z0 ∧ z0 < 2 ^ 256 := ⟨_, rfl, modN_lt _⟩
    refine lstep (wpO_plain rfl (op_call (F := 54) hs none (v := W r14) rfl rfl rfl rfl (Try.call54 _) (red_c s6 r14 ls6 hr14) rfl fun ac w hs => ?_))
    refine lstep (wpO_plain rfl (op_store hs 2 (vs := (Wl r14)) rfl rfl rfl rfl rfl Try.sizeOf24 rfl rfl rfl rfl rfl fun w hs => ?_))
    refine wpList_nil ?_
    refine then_n ?_
    refine wp_ret ?_
    exact bodyPost_ret (res1 rfl (rv_c hs 2 (v := W r14) rfl rfl Try.isAgg24 Try.sizeOf24 rfl)) hs.defers ⟨by subst hr4 hr5; rw [← hx, ← hr14]; rw [add_no hs6 hc7 hc], hs.below⟩
theorem smul_c (a b x : Nat) (ha : a < 2 ^ 256) (hb : b < 2 ^ 256) (hx : a * b % Nord = x) (w0 : World) : Calls Try.prog 26 #[W a, W b] w0 fun e w' => e = .returned (W x) ∧ Below w0.heap.size w0 w' := by
  refine enter (n := 42) (args := [W a, W b]) Try.func26 rfl rfl (Nat.le_of_ble_eq_true rfl) fun ac hs => ?_
  refine wp_seq ?_
  refine wp_region_lit ?_
  refine lstep (wpO_plain rfl (op_box hs none none (cs := (Wl a)) rfl rfl rfl rfl rfl rfl fun g1 ac w hs => ?_))
  refine lstep (wpO_plain rfl (op_box hs none none (cs := (Wl b)) rfl rfl rfl rfl rfl rfl fun g2 ac w hs => ?_))
  refine lstep (wpO_plain rfl (op_alloc hs none none (cs := [.int .u64 0, .int .u64 0, .int .u64 0, .int .u64 0]) rfl rfl Try.zeroValue24 (by kernel_rfl) rfl rfl fun g3 ac w hs => ?_))
  refine wpList_nil ?_
  refine then_n ?_
  refine wp_seq ?_
  refine wp_region_lit ?_
  refine lstep (wpO_plain rfl (op_load hs none 0 (v := W a) rfl rfl rfl rfl Try.isAgg24 Try.sizeOf24 rfl rfl fun ac hs => ?_))
  refine lstep (wpO_plain rfl (op_load hs none 1 (v := W b) rfl rfl rfl rfl Try.isAgg24 Try.sizeOf24 rfl rfl fun ac hs => ?_))
  obtain ⟨lo4, hlo4, llo4⟩ : ∃ z0, a * b % 2 ^ 256 = z0 ∧ z0 < 2 ^ 256 := ⟨_, rfl, Nat.mod_lt _ (Nat.two_pow_pos 256)⟩
  obtain ⟨hi5, hhi5, lhi5⟩ : ∃ z0, a * b / 2 ^ 256 = z0 ∧ z0 < 2 ^ 256 := ⟨_, rfl, mul_hi ha hb⟩
  refine lstep (wpO_plain rfl (op_call (F := 56) hs none (v := .tuple #[W lo4, W hi5]) rfl rfl rfl rfl (Try.call56 _) (fun w => wmul_at w a b lo4 hi5 ha hb hlo4 hhi5) rfl fun ac w hs => ?_))
  refine lstep (wpO_plain rfl (op_move hs none rfl rfl rfl rfl fun ac hs => ?_))
  refine lstep (wpO_plain rfl (op_extract hs none rfl rfl rfl rfl rfl fun ac hs => ?_))
  refine lstep (wpO_plain rfl (op_extract hs none rfl rfl rfl rfl rfl fun ac hs => ?_))
  refine lstep (wpO_plain rfl (op_alloc hs none none (cs := [.int .u64 0, .int .u64 0, .int .u64 0, .int .u64 0]) rfl rfl Try.zeroValue24 (by kernel_rfl) rfl rfl fun g6 ac w hs => ?_))
  refine lstep (wpO_plain rfl (op_alloc hs none none (cs := [.int .u64 0, .int .u64 0, .int .u64 0, .int .u64 0]) rfl rfl Try.zeroValue24 (by kernel_rfl) rfl rfl fun g7 ac w hs => ?_))
  refine lstep (wpO_plain rfl (op_store hs 3 (vs := (Wl lo4)) rfl rfl rfl rfl rfl Try.sizeOf24 rfl rfl rfl rfl rfl fun w hs => ?_))
  refine lstep (wpO_plain rfl (op_store hs 4 (vs := (Wl hi5)) rfl rfl rfl rfl rfl Try.sizeOf24 rfl rfl rfl rfl rfl fun w hs => ?_))
  refine wpList_nil ?_
  refine then_n ?_
  refine wp_seq ?_
  refine wp_block ?_
  refine wp_loop_m (fun μ ac w => ∃ (y : Nat) (z : Nat), (y + 2 ^ 256 * z) = μ ∧ (y < 2 ^ 256) ∧ (z < 2 ^ 256) ∧ ((y + 2 ^ 256 * z) % Nord = a * b % Nord) ∧ St 42 w0 [(2, true, .pointer (some ⟨g1, 0, none⟩)), (3, true, .pointer (some ⟨g2, 0, none⟩)), (4, true, .pointer (some ⟨g3, 0, none⟩)), (5, true, .pointer (some ⟨g6, 0, none⟩)), (6, true, .pointer (some ⟨g7, 0, none⟩))] [(true, g1, 24, (Wl a)), (true, g2, 24, (Wl b)), (true, g3, 24, [.int .u64 0, .int .u64 0, .int .u64 0, .int .u64 0]), (true, g6, 24, (Wl y)), (true, g7, 24, (Wl z))] ac w) ?_ ?_
  · exact ⟨_, lo4, hi5, rfl, llo4, lhi5, (by rw [← hlo4, ← hhi5, Nat.mod_add_div]), (hs.re ⟨rfl, rfl, rfl, rfl, rfl, trivial⟩)⟩
  intro μ ac w ⟨y, z, hμ, ly, lz, hq, hs⟩
  refine wp_seq ?_
  refine wp_seq ?_
  refine wp_region_lit ?_
  refine lstep (wpO_plain rfl (op_load hs none 4 (v := W z) rfl rfl rfl rfl Try.isAgg24 Try.sizeOf24 rfl rfl fun ac hs => ?_))
  refine lstep (wpO_plain rfl (op_build hs none (qs := []) (v := .agg #[.int .u64 0, .int .u64 0, .int .u64 0, .int .u64 0]) rfl rfl rfl rfl (fun _ => by kernel_rfl) rfl fun ac hs => ?_))
  refine lstep (wpO_plain rfl (op_bin hs none (v := .bool (decide (z ≠ 0))) rfl rfl rfl rfl (fun w => run_eqGuard_agg w .neq 24 _ _ _ _ Try.eqGuardType24) (neqW z 0 lz (by decide) _ rfl) rfl fun ac hs => ?_))
  refine wpList_nil ?_
  refine then_n ?_
  refine wp_cond_split (hs.ev rfl) (fun hc => ?_) (fun hc => ?_)
  · skip
    have hp8 := of_decide_eq_true hc
    refine wp_skip ?_
    refine then_n ?_
    refine wp_block ?_
    refine wp_seq ?_
    replace hs : St 42 w0 [(2, true, .pointer (some ⟨g1, 0, none⟩)), (3, true, .pointer (some ⟨g2, 0, none⟩)), (4, true, .pointer (some ⟨g3, 0, none⟩)), (5, true, .pointer (some ⟨g6, 0, none⟩)), (6, true, .pointer (some ⟨g7, 0, none⟩))] [(true, g1, 24, (Wl a)), (true, g2, 24, (Wl b)), (true, g3, 24, [.int .u64 0, .int .u64 0, .int .u64 0, .int .u64 0]), (true, g6, 24, (Wl y)), (true, g7, 24, (Wl z))] ac _ := hs.re ⟨rfl, rfl, rfl, rfl, rfl, trivial⟩
    obtain ⟨lo9, hlo9, llo9⟩ : ∃ z0, z * Nov % 2 ^ 256 = z0 ∧ z0 < 2 ^ 256 := ⟨_, rfl, Nat.mod_lt _ (Nat.two_pow_pos 256)⟩
    obtain ⟨hi10, hhi10, lhi10⟩ : ∃ z0, z * Nov / 2 ^ 256 = z0 ∧ z0 < 2 ^ 256 := ⟨_, rfl, mul_hi lz Nov_lt⟩
    refine region_inv [([], [2, 3, 4, 5, 8, 9]), ([], [2, 3, 4, 5, 8, 9]), ([0, 1], [3, 4, 5, 8, 9]), ([0, 1, 2], [4, 5, 8, 9]), ([0, 1, 2, 3], [8, 9]), ([0, 1, 2, 3], [9]), ([], [8, 9]), ([], [8, 9]), ([0, 1, 2, 3, 4, 6, 7], [9]), ([0, 1, 2, 3, 4, 5, 6, 7, 8], [])] (fun L ac w => ∃ (g11 : Nat) (g12 : Nat), St 42 w0 [(21, L 0, W z), (22, L 1, W Nov), (23, L 2, .tuple #[W lo9, W hi10]), (20, L 3, .tuple #[W lo9, W hi10]), (24, L 4, W lo9), (25, L 5, W hi10), (7, L 6, .pointer (some ⟨g11, 0, none⟩)), (8, L 7, .pointer (some ⟨g12, 0, none⟩)), (2, true, .pointer (some ⟨g1, 0, none⟩)), (3, true, .pointer (some ⟨g2, 0, none⟩)), (4, true, .pointer (some ⟨g3, 0, none⟩)), (5, true, .pointer (some ⟨g6, 0, none⟩)), (6, true, .pointer (some ⟨g7, 0, none⟩))] [(true, g1, 24, (Wl a)), (true, g2, 24, (Wl b)), (true, g3, 24, [.int .u64 0, .int .u64 0, .int .u64 0, .int .u64 0]), (true, g6, 24, (Wl y)), (true, g7, 24, (Wl z)), (L 6, g11, 24, (cond (L 8) (Wl lo9) [.int .u64 0, .int .u64 0, .int .u64 0, .int .u64 0])), (L 7, g12, 24, (cond (L 9) (Wl hi10) [.int .u64 0, .int .u64 0, .int .u64 0, .int .u64 0]))] ac w) (by kernel_rfl) (by kernel_rfl) ?_ ?_ ?_
    · exact ⟨0, 0, hs.drew.skip.skip.skip.skip.skip.skip.skip.skip.pad.pad⟩
    · refine ⟨?_, ?_, ?_, ?_, ?_, ?_, ?_, ?_, ?_, ?_, trivial⟩
      · intro L ac w hJ
        obtain ⟨g11, g12, hs⟩ := hJ
        refine wpO_plain rfl (op_load hs (some 0) 4 (v := W z) rfl rfl rfl rfl Try.isAgg24 Try.sizeOf24 rfl rfl fun ac hs => ?_)
        exact ⟨g11, g12, hs⟩
      · intro L ac w hJ
        obtain ⟨g11, g12, hs⟩ := hJ
        refine wpO_plain rfl (op_call (F := 55) hs (some 1) (v := W Nov) rfl rfl rfl rfl (Try.call55 _) over_c rfl fun ac w hs => ?_)
        exact ⟨g11, g12, hs⟩
      · intro L ac w hJ
        obtain ⟨g11, g12, hs⟩ := hJ
        refine wpO_plain rfl (op_call (F := 56) hs (some 2) (v := .tuple #[W lo9, W hi10]) rfl rfl rfl rfl (Try.call56 _) (fun w => wmul_at w z Nov lo9 hi10 lz Nov_lt hlo9 hhi10) rfl fun ac w hs => ?_)
        exact ⟨g11, g12, hs⟩
      · intro L ac w hJ
        obtain ⟨g11, g12, hs⟩ := hJ
        refine wpO_plain rfl (op_move hs (some 3) rfl rfl rfl rfl fun ac hs => ?_)
        exact ⟨g11, g12, hs⟩
      · intro L ac w hJ
        obtain ⟨g11, g12, hs⟩ := hJ
        refine wpO_plain rfl (op_extract hs (some 4) rfl rfl rfl rfl rfl fun ac hs => ?_)
        exact ⟨g11, g12, hs⟩
      · intro L ac w hJ
        obtain ⟨g11, g12, hs⟩ := hJ
        refine wpO_plain rfl (op_extract hs (some 5) rfl rfl rfl rfl rfl fun ac hs => ?_)
        exact ⟨g11, g12, hs⟩
      · intro L ac w hJ
        obtain ⟨g11, g12, hs⟩ := hJ
        refine wpO_plain rfl (op_alloc hs (some 6) (some 5) (cs := [.int .u64 0, .int .u64 0, .int .u64 0, .int .u64 0]) rfl rfl Try.zeroValue24 (by kernel_rfl) rfl rfl fun g11 ac w hs => ?_)
        exact ⟨g11, g12, hs⟩
      · intro L ac w hJ
        obtain ⟨g11, g12, hs⟩ := hJ
        refine wpO_plain rfl (op_alloc hs (some 7) (some 6) (cs := [.int .u64 0, .int .u64 0, .int .u64 0, .int .u64 0]) rfl rfl Try.zeroValue24 (by kernel_rfl) rfl rfl fun g12 ac w hs => ?_)
        exact ⟨g11, g12, hs⟩
      · intro L ac w hJ
        obtain ⟨g11, g12, hs⟩ := hJ
        refine wpO_plain rfl (op_store hs 5 (vs := (Wl lo9)) rfl rfl rfl rfl rfl Try.sizeOf24 rfl rfl rfl rfl rfl fun w hs => ?_)
        exact ⟨g11, g12, hs⟩
      · intro L ac w hJ
        obtain ⟨g11, g12, hs⟩ := hJ
        refine wpO_plain rfl (op_store hs 6 (vs := (Wl hi10)) rfl rfl rfl rfl rfl Try.sizeOf24 rfl rfl rfl rfl rfl fun w hs => ?_)
        exact ⟨g11, g12, hs⟩
    intro ac w hJ
    obtain ⟨g11, g12, hs⟩ := hJ
    replace hs : St 42 w0 [(21, true, W z), (22, true, W Nov), (23, true, .tuple #[W lo9, W hi10]), (20, true, .tuple #[W lo9, W hi10]), (24, true, W lo9), (25, true, W hi10), (7, true, .pointer (some ⟨g11, 0, none⟩)), (8, true, .pointer (some ⟨g12, 0, none⟩)), (2, true, .pointer (some ⟨g1, 0, none⟩)), (3, true, .pointer (some ⟨g2, 0, none⟩)), (4, true, .pointer (some ⟨g3, 0, none⟩)), (5, true, .pointer (some ⟨g6, 0, none⟩)), (6, true, .pointer (some ⟨g7, 0, none⟩))] [(true, g1, 24, (Wl a)), (true, g2, 24, (Wl b)), (true, g3, 24, [.int .u64 0, .int .u64 0, .int .u64 0, .int .u64 0]), (true, g6, 24, (Wl y)), (true, g7, 24, (Wl z)), (true, g11, 24, (Wl lo9)), (true, g12, 24, (Wl hi10))] ac w := hs
    refine then_n ?_
    refine wp_seq ?_
    refine wp_region_lit ?_
    refine lstep (wpO_plain rfl (op_load hs none 3 (v := W y) rfl rfl rfl rfl Try.isAgg24 Try.sizeOf24 rfl rfl fun ac hs => ?_))
    refine lstep (wpO_plain rfl (op_load hs none 5 (v := W lo9) rfl rfl rfl rfl Try.isAgg24 Try.sizeOf24 rfl rfl fun ac hs => ?_))
    obtain ⟨s13, hs13, ls13⟩ : ∃ z0, (y + lo9) % 2 ^ 256 = z0 ∧ z0 < 2 ^ 256 := ⟨_, rfl, Nat.mod_lt _ (Nat.two_pow_pos 256)⟩
    obtain ⟨c14, hc14⟩ : ∃ z0, (y + lo9) / 2 ^ 256 = z0 := ⟨_, rfl⟩
    refine lstep (wpO_plain rfl (op_call (F := 53) hs none (v := .tuple #[W s13, .int .u64 ((c14 : Nat) : Int)]) rfl rfl rfl rfl (Try.call53 _) (fun w => add_at w y lo9 s13 c14 ly llo9 hs13 hc14) rfl fun ac w hs => ?_))
    refine lstep (wpO_plain rfl (op_move hs none rfl rfl rfl rfl fun ac hs => ?_))
    refine lstep (wpO_plain rfl (op_extract hs none rfl rfl rfl rfl rfl fun ac hs => ?_))
    refine lstep (wpO_plain rfl (op_extract hs none rfl rfl rfl rfl rfl fun ac hs => ?_))
    refine lstep (wpO_plain rfl (op_alloc hs none none (cs := [.int .u64 0, .int .u64 0, .int .u64 0, .int .u64 0]) rfl rfl Try.zeroValue24 (by kernel_rfl) rfl rfl fun g15 ac w hs => ?_))
    refine lstep (wpO_plain rfl (op_store hs 7 (vs := (Wl s13)) rfl rfl rfl rfl rfl Try.sizeOf24 rfl rfl rfl rfl rfl fun w hs => ?_))
    refine lstep (wpO_plain rfl (op_assign hs none rfl rfl rfl rfl fun ac hs => ?_))
    refine wpList_nil ?_
    refine then_n ?_
    refine wp_seq ?_
    refine wp_region_lit ?_
    refine lstep (wpO_plain rfl (op_load hs none 7 (v := W s13) rfl rfl rfl rfl Try.isAgg24 Try.sizeOf24 rfl rfl fun ac hs => ?_))
    refine lstep (wpO_plain rfl (op_store hs 3 (vs := (Wl s13)) rfl rfl rfl rfl rfl Try.sizeOf24 rfl rfl rfl rfl rfl fun w hs => ?_))
    refine wpList_nil ?_
    refine then_n ?_
    replace hs : St 42 w0 [(2, true, .pointer (some ⟨g1, 0, none⟩)), (3, true, .pointer (some ⟨g2, 0, none⟩)), (4, true, .pointer (some ⟨g3, 0, none⟩)), (5, true, .pointer (some ⟨g6, 0, none⟩)), (6, true, .pointer (some ⟨g7, 0, none⟩)), (8, true, .pointer (some ⟨g12, 0, none⟩)), (10, true, .int .u64 ((c14 : Nat) : Int))] [(true, g1, 24, (Wl a)), (true, g2, 24, (Wl b)), (true, g3, 24, [.int .u64 0, .int .u64 0, .int .u64 0, .int .u64 0]), (true, g6, 24, (Wl s13)), (true, g7, 24, (Wl z)), (true, g11, 24, (Wl lo9)), (true, g12, 24, (Wl hi10)), (true, g15, 24, (Wl s13))] ac _ := hs.re ⟨rfl, rfl, rfl, rfl, rfl, rfl, rfl, trivial⟩
    obtain ⟨s16, hs16, ls16⟩ : ∃ z0, (hi10 + c14) % 2 ^ 256 = z0 ∧ z0 < 2 ^ 256 := ⟨_, rfl, Nat.mod_lt _ (Nat.two_pow_pos 256)⟩
    obtain ⟨c17, hc17⟩ : ∃ z0, (hi10 + c14) / 2 ^ 256 = z0 := ⟨_, rfl⟩
    refine region_inv [([], [3, 4, 5, 6, 7]), ([], [2, 3, 4, 5, 6, 7]), ([1], [3, 4, 5, 6, 7]), ([0, 1, 2], [4, 5, 6, 7]), ([0, 1, 2, 3], [5, 6, 7]), ([0, 1, 2, 3, 4], [7]), ([0, 1, 2, 3, 4], []), ([0, 1, 2, 3, 4, 5], [])] (fun L ac w => St 42 w0 [(34, L 0, W hi10), (35, L 1, .int .u64 ((c14 : Nat) : Int)), (36, L 2, W c14), (37, L 3, .tuple #[W s16, .int .u64 ((c17 : Nat) : Int)]), (33, L 4, .tuple #[W s16, .int .u64 ((c17 : Nat) : Int)]), (38, L 5, W s16), (39, L 6, .int .u64 ((c17 : Nat) : Int)), (2, true, .pointer (some ⟨g1, 0, none⟩)), (3, true, .pointer (some ⟨g2, 0, none⟩)), (4, true, .pointer (some ⟨g3, 0, none⟩)), (5, true, .pointer (some ⟨g6, 0, none⟩)), (6, true, .pointer (some ⟨g7, 0, none⟩)), (8, true, .pointer (some ⟨g12, 0, none⟩)), (10, true, .int .u64 ((c14 : Nat) : Int))] [(true, g1, 24, (Wl a)), (true, g2, 24, (Wl b)), (true, g3, 24, [.int .u64 0, .int .u64 0, .int .u64 0, .int .u64 0]), (true, g6, 24, (Wl s13)), (true, g7, 24, (cond (L 7) (Wl s16) (Wl z))), (true, g11, 24, (Wl lo9)), (true, g12, 24, (Wl hi10)), (true, g15, 24, (Wl s13))] ac w) (by kernel_rfl) (by kernel_rfl) ?_ ?_ ?_
    · exact hs.drew.skip.skip.skip.skip.skip.skip.skip
    · refine ⟨?_, ?_, ?_, ?_, ?_, ?_, ?_, ?_, trivial⟩
      · intro L ac w hJ
        have hs := hJ
        refine wpO_plain rfl (op_load hs (some 0) 6 (v := W hi10) rfl rfl rfl rfl Try.isAgg24 Try.sizeOf24 rfl rfl fun ac hs => ?_)
        exact hs
      · intro L ac w hJ
        have hs := hJ
        refine wpO_plain rfl (op_move hs (some 1) rfl rfl rfl rfl fun ac hs => ?_)
        exact hs
      · intro L ac w hJ
        have hs := hJ
        refine wpO_plain rfl (op_call (F := 57) hs (some 2) (v := W c14) rfl rfl rfl rfl (Try.call57 _) (fun w => from_any w c14 (c_lt64 hc14 ly llo9)) rfl fun ac w hs => ?_)
        exact hs
      · intro L ac w hJ
        have hs := hJ
        refine wpO_plain rfl (op_call (F := 53) hs (some 3) (v := .tuple #[W s16, .int .u64 ((c17 : Nat) : Int)]) rfl rfl rfl rfl (Try.call53 _) (fun w => add_at w hi10 c14 s16 c17 lhi10 (c_lt256 hc14 ly llo9) hs16 hc17) rfl fun ac w hs => ?_)
        exact hs
      · intro L ac w hJ
        have hs := hJ
        refine wpO_plain rfl (op_move hs (some 4) rfl rfl rfl rfl fun ac hs => ?_)
        exact hs
      · intro L ac w hJ
        have hs := hJ
        refine wpO_plain rfl (op_extract hs (some 5) rfl rfl rfl rfl rfl fun ac hs => ?_)
        exact hs
      · intro L ac w hJ
        have hs := hJ
        refine wpO_plain rfl (op_extract hs (some 6) rfl rfl rfl rfl rfl fun ac hs => ?_)
        exact hs
      · intro L ac w hJ
        have hs := hJ
        refine wpO_plain rfl (op_store hs 4 (vs := (Wl s16)) rfl rfl rfl rfl rfl Try.sizeOf24 rfl rfl rfl rfl rfl fun w hs => ?_)
        exact hs
    intro ac w hJ
    replace hs : St 42 w0 [(34, true, W hi10), (35, true, .int .u64 ((c14 : Nat) : Int)), (36, true, W c14), (37, true, .tuple #[W s16, .int .u64 ((c17 : Nat) : Int)]), (33, true, .tuple #[W s16, .int .u64 ((c17 : Nat) : Int)]), (38, true, W s16), (39, true, .int .u64 ((c17 : Nat) : Int)), (2, true, .pointer (some ⟨g1, 0, none⟩)), (3, true, .pointer (some ⟨g2, 0, none⟩)), (4, true, .pointer (some ⟨g3, 0, none⟩)), (5, true, .pointer (some ⟨g6, 0, none⟩)), (6, true, .pointer (some ⟨g7, 0, none⟩)), (8, true, .pointer (some ⟨g12, 0, none⟩)), (10, true, .int .u64 ((c14 : Nat) : Int))] [(true, g1, 24, (Wl a)), (true, g2, 24, (Wl b)), (true, g3, 24, [.int .u64 0, .int .u64 0, .int .u64 0, .int .u64 0]), (true, g6, 24, (Wl s13)), (true, g7, 24, (Wl s16)), (true, g11, 24, (Wl lo9)), (true, g12, 24, (Wl hi10)), (true, g15, 24, (Wl s13))] ac w := hJ
    refine blk_n ?_
    refine then_n ?_
    have hF := fold_eq lz hlo9 hhi10 hs13 hc14 hs16 ly
    exact ⟨_, ⟨s13, s16, rfl, ls13, ls16, ((fold_mod hF).trans hq), ((hs.takeb 5).re ⟨rfl, rfl, rfl, rfl, rfl, trivial⟩)⟩, (by have := fold_less hF (of_decide_eq_true hc); omega)⟩
  · skip
    have hp18 := of_decide_eq_false hc
    refine wp_exit ?_
    refine then_e ?_
    refine then_e ?_
    refine blk_e ?_
    refine then_n ?_
    refine wp_seq ?_
    refine wp_region_lit ?_
    refine lstep (wpO_plain rfl (op_load hs none 3 (v := W y) rfl rfl rfl rfl Try.isAgg24 Try.sizeOf24 rfl rfl fun ac hs => ?_))
    obtain ⟨r19, hr19, lr19⟩ : ∃ z0, y % Nord = z0 ∧ z0 < 2 ^ 256 := ⟨_, rfl, modN_lt _⟩
    refine lstep (wpO_plain rfl (op_call (F := 54) hs none (v := W r19) rfl rfl rfl rfl (Try.call54 _) (red_c y r19 ly hr19) rfl fun ac w hs => ?_))
    refine lstep (wpO_plain rfl (op_store hs 2 (vs := (Wl r19)) rfl rfl rfl rfl rfl Try.sizeOf24 rfl rfl rfl rfl rfl fun w hs => ?_))
    refine wpList_nil ?_
    refine then_n ?_
    refine wp_ret ?_
    exact bodyPost_ret (res1 rfl (rv_c hs 2 (v := W r19) rfl rfl Try.isAgg24 Try.sizeOf24 rfl)) hs.defers ⟨by have hz := of_decide_eq_false hc; have hz : z = 0 := Classical.not_not.1 hz; subst hz; rw [← hx, ← hr19, ← hq]; rfl, hs.below⟩
end Go.Proofs.Ytmpejkhffbonnaa
