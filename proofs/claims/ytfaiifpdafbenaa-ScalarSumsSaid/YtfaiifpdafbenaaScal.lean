/- The contracts of scalar.Order, over, Reduce, Add, Neg. -/
import Derived.Test.YtfaiifpdafbenaaScalP
namespace Go.Proofs.Ytfaiifpdafbenaa
open Go.RowKit

theorem modN_lt (a : Nat) : a % Nord < 2 ^ 256 := Nat.lt_trans (Nat.mod_lt _ (by decide)) Nord_lt
set_option maxRecDepth 10000

theorem order_c  (w0 : World) : Calls Try.prog 9 #[] w0 fun e w' => e = .returned (W Nord) ∧ Below w0.heap.size w0 w' := by
  refine enter (n := 2) (args := []) Try.func9 rfl rfl (Nat.le_of_ble_eq_true rfl) fun ac hs => ?_
  refine wp_seq ?_
  refine wp_region_lit ?_
  refine lstep (wpO_plain rfl (op_alloc hs none none (cs := [.int .u64 0, .int .u64 0, .int .u64 0, .int .u64 0]) rfl rfl Try.zeroValue24 (by kernel_rfl) rfl rfl fun g1 ac w hs => ?_))
  refine wpList_nil ?_
  refine then_n ?_
  refine wp_seq ?_
  refine wp_region_lit ?_
  refine lstep (wpO_plain rfl (op_build hs none (qs := [(0, .int .u64 13822214165235122497), (1, .int .u64 13451932020343611451), (2, .int .u64 18446744073709551614), (3, .int .u64 18446744073709551615)]) (v := .agg #[.int .u64 13822214165235122497, .int .u64 13451932020343611451, .int .u64 18446744073709551614, .int .u64 18446744073709551615]) rfl rfl rfl rfl (fun _ => by kernel_rfl) rfl fun ac hs => ?_))
  refine lstep (wpO_plain rfl (op_store hs 0 (vs := [.int .u64 13822214165235122497, .int .u64 13451932020343611451, .int .u64 18446744073709551614, .int .u64 18446744073709551615]) rfl rfl rfl rfl rfl Try.sizeOf24 rfl rfl rfl rfl rfl fun w hs => ?_))
  refine wpList_nil ?_
  refine then_n ?_
  refine wp_ret ?_
  exact bodyPost_ret (res1 rfl (rv_c hs 0 (v := .agg #[.int .u64 13822214165235122497, .int .u64 13451932020343611451, .int .u64 18446744073709551614, .int .u64 18446744073709551615]) rfl rfl Try.isAgg24 Try.sizeOf24 rfl)) hs.defers ⟨by kernel_rfl, hs.below⟩
theorem over_c  (w0 : World) : Calls Try.prog 29 #[] w0 fun e w' => e = .returned (W Nov) ∧ Below w0.heap.size w0 w' := by
  refine enter (n := 10) (args := []) Try.func29 rfl rfl (Nat.le_of_ble_eq_true rfl) fun ac hs => ?_
  refine wp_seq ?_
  refine wp_region_lit ?_
  refine lstep (wpO_plain rfl (op_alloc hs none none (cs := [.int .u64 0, .int .u64 0, .int .u64 0, .int .u64 0]) rfl rfl Try.zeroValue24 (by kernel_rfl) rfl rfl fun g1 ac w hs => ?_))
  refine wpList_nil ?_
  refine then_n ?_
  refine wp_seq ?_
  refine wp_region_lit ?_
  refine lstep (wpO_plain rfl (op_build hs none (qs := []) (v := .agg #[.int .u64 0, .int .u64 0, .int .u64 0, .int .u64 0]) rfl rfl rfl rfl (fun _ => by kernel_rfl) rfl fun ac hs => ?_))
  refine lstep (wpO_plain rfl (op_call (F := 9) hs none (v := W Nord) rfl rfl rfl rfl (Try.call9 _) order_c rfl fun ac w hs => ?_))
  obtain ⟨d2, hd2, ld2⟩ : ∃ d, (0 + 2 ^ 256 - Nord) % 2 ^ 256 = d ∧ d < 2 ^ 256 := ⟨_, rfl, Nat.mod_lt _ (Nat.two_pow_pos 256)⟩
  obtain ⟨c3, hc3⟩ : ∃ c, bor 0 Nord = c := ⟨_, rfl⟩
  refine lstep (wpO_plain rfl (op_call (F := 26) hs none (v := .tuple #[W d2, .int .u64 ((c3 : Nat) : Int)]) rfl rfl rfl rfl (Try.call26 _) (fun w => sub_at w 0 Nord d2 c3 (by decide) Nord_lt hd2 hc3) rfl fun ac w hs => ?_))
  refine lstep (wpO_plain rfl (op_move hs none rfl rfl rfl rfl fun ac hs => ?_))
  refine lstep (wpO_plain rfl (op_extract hs none rfl rfl rfl rfl rfl fun ac hs => ?_))
  refine lstep (wpO_plain rfl (op_extract hs none rfl rfl rfl rfl rfl fun ac hs => ?_))
  refine lstep (wpO_plain rfl (op_alloc hs none none (cs := [.int .u64 0, .int .u64 0, .int .u64 0, .int .u64 0]) rfl rfl Try.zeroValue24 (by kernel_rfl) rfl rfl fun g4 ac w hs => ?_))
  refine lstep (wpO_plain rfl (op_store hs 1 (vs := (Wl d2)) rfl rfl rfl rfl rfl Try.sizeOf24 rfl rfl rfl rfl rfl fun w hs => ?_))
  refine lstep (wpO_plain rfl (op_assign hs none rfl rfl rfl rfl fun ac hs => ?_))
  refine wpList_nil ?_
  refine then_n ?_
  refine wp_seq ?_
  refine wp_region_lit ?_
  refine lstep (wpO_plain rfl (op_load hs none 1 (v := W d2) rfl rfl rfl rfl Try.isAgg24 Try.sizeOf24 rfl rfl fun ac hs => ?_))
  refine lstep (wpO_plain rfl (op_store hs 0 (vs := (Wl d2)) rfl rfl rfl rfl rfl Try.sizeOf24 rfl rfl rfl rfl rfl fun w hs => ?_))
  refine wpList_nil ?_
  refine then_n ?_
  refine wp_ret ?_
  exact bodyPost_ret (res1 rfl (rv_c hs 0 (v := W d2) rfl rfl Try.isAgg24 Try.sizeOf24 rfl)) hs.defers ⟨by rw [show d2 = Nov from hd2.symm.trans (by decide)], hs.below⟩
theorem red_c (a x : Nat) (ha : a < 2 ^ 256) (hx : a % Nord = x) (w0 : World) : Calls Try.prog 11 #[W a] w0 fun e w' => e = .returned (W x) ∧ Below w0.heap.size w0 w' := by
  refine enter (n := 15) (args := [W a]) Try.func11 rfl rfl (Nat.le_of_ble_eq_true rfl) fun ac hs => ?_
  refine wp_seq ?_
  refine wp_region_lit ?_
  refine lstep (wpO_plain rfl (op_box hs none none (cs := (Wl a)) rfl rfl rfl rfl rfl rfl fun g1 ac w hs => ?_))
  refine lstep (wpO_plain rfl (op_alloc hs none none (cs := [.int .u64 0, .int .u64 0, .int .u64 0, .int .u64 0]) rfl rfl Try.zeroValue24 (by kernel_rfl) rfl rfl fun g2 ac w hs => ?_))
  refine wpList_nil ?_
  refine then_n ?_
  refine wp_seq ?_
  refine wp_seq ?_
  replace hs : St 15 w0 [(1, true, .pointer (some ⟨g1, 0, none⟩)), (2, true, .pointer (some ⟨g2, 0, none⟩))] [(true, g1, 24, (Wl a)), (true, g2, 24, [.int .u64 0, .int .u64 0, .int .u64 0, .int .u64 0])] ac w := hs.re ⟨rfl, rfl, trivial⟩
  obtain ⟨d3, hd3, ld3⟩ : ∃ d, (a + 2 ^ 256 - Nord) % 2 ^ 256 = d ∧ d < 2 ^ 256 := ⟨_, rfl, Nat.mod_lt _ (Nat.two_pow_pos 256)⟩
  obtain ⟨c4, hc4⟩ : ∃ c, bor a Nord = c := ⟨_, rfl⟩
  refine region_inv [([], [2, 3, 4, 5, 7, 8]), ([], [2, 3, 4, 5, 7, 8]), ([0, 1], [3, 4, 5, 7, 8]), ([0, 1, 2], [4, 5, 7, 8]), ([0, 1, 2, 3], [7, 8]), ([0, 1, 2, 3], [8]), ([], [7, 8]), ([0, 1, 2, 3, 4, 6], [8]), ([0, 1, 2, 3, 4, 5, 6, 7], [])] (fun L ac w => ∃ (g5 : Nat), St 15 w0 [(6, L 0, W a), (7, L 1, W Nord), (8, L 2, .tuple #[W d3, .int .u64 ((c4 : Nat) : Int)]), (5, L 3, .tuple #[W d3, .int .u64 ((c4 : Nat) : Int)]), (9, L 4, W d3), (10, L 5, .int .u64 ((c4 : Nat) : Int)), (3, L 6, .pointer (some ⟨g5, 0, none⟩)), (4, L 8, .int .u64 ((c4 : Nat) : Int)), (1, true, .pointer (some ⟨g1, 0, none⟩)), (2, true, .pointer (some ⟨g2, 0, none⟩))] [(true, g1, 24, (Wl a)), (true, g2, 24, [.int .u64 0, .int .u64 0, .int .u64 0, .int .u64 0]), (L 6, g5, 24, (cond (L 7) (Wl d3) [.int .u64 0, .int .u64 0, .int .u64 0, .int .u64 0]))] ac w) (by kernel_rfl) (by kernel_rfl) ?_ ?_ ?_
  · exact ⟨0, hs.drew.skip.skip.skip.skip.skip.skip.skip.skip.pad⟩
  · refine ⟨?_, ?_, ?_, ?_, ?_, ?_, ?_, ?_, ?_, trivial⟩
    · intro L ac w hJ
      obtain ⟨g5, hs⟩ := hJ
      refine wpO_plain rfl (op_load hs (some 0) 0 (v := W a) rfl rfl rfl rfl Try.isAgg24 Try.sizeOf24 rfl rfl fun ac hs => ?_)
      exact ⟨g5, hs⟩
    · intro L ac w hJ
      obtain ⟨g5, hs⟩ := hJ
      refine wpO_plain rfl (op_call (F := 9) hs (some 1) (v := W Nord) rfl rfl rfl rfl (Try.call9 _) order_c rfl fun ac w hs => ?_)
      exact ⟨g5, hs⟩
    · intro L ac w hJ
      obtain ⟨g5, hs⟩ := hJ
      refine wpO_plain rfl (op_call (F := 26) hs (some 2) (v := .tuple #[W d3, .int .u64 ((c4 : Nat) : Int)]) rfl rfl rfl rfl (Try.call26 _) (fun w => sub_at w a Nord d3 c4 ha Nord_lt hd3 hc4) rfl fun ac w hs => ?_)
      exact ⟨g5, hs⟩
    · intro L ac w hJ
      obtain ⟨g5, hs⟩ := hJ
      refine wpO_plain rfl (op_move hs (some 3) rfl rfl rfl rfl fun ac hs => ?_)
      exact ⟨g5, hs⟩
    · intro L ac w hJ
      obtain ⟨g5, hs⟩ := hJ
      refine wpO_plain rfl (op_extract hs (some 4) rfl rfl rfl rfl rfl fun ac hs => ?_)
      exact ⟨g5, hs⟩
    · intro L ac w hJ
      obtain ⟨g5, hs⟩ := hJ
      refine wpO_plain rfl (op_extract hs (some 5) rfl rfl rfl rfl rfl fun ac hs => ?_)
      exact ⟨g5, hs⟩
    · intro L ac w hJ
      obtain ⟨g5, hs⟩ := hJ
      refine wpO_plain rfl (op_alloc hs (some 6) (some 2) (cs := [.int .u64 0, .int .u64 0, .int .u64 0, .int .u64 0]) rfl rfl Try.zeroValue24 (by kernel_rfl) rfl rfl fun g5 ac w hs => ?_)
      exact ⟨g5, hs⟩
    · intro L ac w hJ
      obtain ⟨g5, hs⟩ := hJ
      refine wpO_plain rfl (op_store hs 2 (vs := (Wl d3)) rfl rfl rfl rfl rfl Try.sizeOf24 rfl rfl rfl rfl rfl fun w hs => ?_)
      exact ⟨g5, hs⟩
    · intro L ac w hJ
      obtain ⟨g5, hs⟩ := hJ
      refine wpO_plain rfl (op_assign hs (some 7) rfl rfl rfl rfl fun ac hs => ?_)
      exact ⟨g5, hs⟩
  intro ac w hJ
  obtain ⟨g5, hs⟩ := hJ
  replace hs : St 15 w0 [(6, true, W a), (7, true, W Nord), (8, true, .tuple #[W d3, .int .u64 ((c4 : Nat) : Int)]), (5, true, .tuple #[W d3, .int .u64 ((c4 : Nat) : Int)]), (9, true, W d3), (10, true, .int .u64 ((c4 : Nat) : Int)), (3, true, .pointer (some ⟨g5, 0, none⟩)), (4, true, .int .u64 ((c4 : Nat) : Int)), (1, true, .pointer (some ⟨g1, 0, none⟩)), (2, true, .pointer (some ⟨g2, 0, none⟩))] [(true, g1, 24, (Wl a)), (true, g2, 24, [.int .u64 0, .int .u64 0, .int .u64 0, .int .u64 0]), (true, g5, 24, (Wl d3))] ac w := hs
  refine then_n ?_
  refine wp_seq ?_
  refine wp_region_lit ?_
  refine lstep (wpO_plain rfl (op_move hs none rfl rfl rfl rfl fun ac hs => ?_))
  refine lstep (wpO_plain rfl (op_bin hs none (v := .bool (decide (c4 = 0))) rfl rfl rfl rfl (fun _ => rfl) (bin_eqlN (x := c4) (y := 0)) rfl fun ac hs => ?_))
  refine wpList_nil ?_
  refine then_n ?_
  refine wp_cond_split (hs.ev rfl) (fun hc => ?_) (fun hc => ?_)
  · skip
    have hp6 := of_decide_eq_true hc
    refine wp_seq ?_
    refine wp_region_lit ?_
    refine lstep (wpO_plain rfl (op_load hs none 2 (v := W d3) rfl rfl rfl rfl Try.isAgg24 Try.sizeOf24 rfl rfl fun ac hs => ?_))
    refine lstep (wpO_plain rfl (op_store hs 1 (vs := (Wl d3)) rfl rfl rfl rfl rfl Try.sizeOf24 rfl rfl rfl rfl rfl fun w hs => ?_))
    refine wpList_nil ?_
    refine then_n ?_
    refine wp_ret ?_
    refine then_r ?_
    exact bodyPost_ret (res1 rfl (rv_c hs 1 (v := W d3) rfl rfl Try.isAgg24 Try.sizeOf24 rfl)) hs.defers ⟨by rw [← hx, ← red_yes ha hd3 hc4 hc], hs.below⟩
  · skip
    have hp7 := of_decide_eq_false hc
    refine wp_skip ?_
    refine then_n ?_
    refine wp_seq ?_
    refine wp_region_lit ?_
    refine lstep (wpO_plain rfl (op_load hs none 0 (v := W a) rfl rfl rfl rfl Try.isAgg24 Try.sizeOf24 rfl rfl fun ac hs => ?_))
    refine lstep (wpO_plain rfl (op_store hs 1 (vs := (Wl a)) rfl rfl rfl rfl rfl Try.sizeOf24 rfl rfl rfl rfl rfl fun w hs => ?_))
    refine wpList_nil ?_
    refine then_n ?_
    refine wp_ret ?_
    exact bodyPost_ret (res1 rfl (rv_c hs 1 (v := W a) rfl rfl Try.isAgg24 Try.sizeOf24 rfl)) hs.defers ⟨by rw [← hx, ← red_no hc4 hc], hs.below⟩
theorem sadd_c (a b x : Nat) (ha : a < 2 ^ 256) (hb : b < 2 ^ 256) (hx : (a + b) % Nord = x) (w0 : World) : Calls Try.prog 13 #[W a, W b] w0 fun e w' => e = .returned (W x) ∧ Below w0.heap.size w0 w' := by
  refine enter (n := 25) (args := [W a, W b]) Try.func13 rfl rfl (Nat.le_of_ble_eq_true rfl) fun ac hs => ?_
  refine wp_seq ?_
  refine wp_region_lit ?_
  refine lstep (wpO_plain rfl (op_box hs none none (cs := (Wl a)) rfl rfl rfl rfl rfl rfl fun g1 ac w hs => ?_))
  refine lstep (wpO_plain rfl (op_box hs none none (cs := (Wl b)) rfl rfl rfl rfl rfl rfl fun g2 ac w hs => ?_))
  refine lstep (wpO_plain rfl (op_alloc hs none none (cs := [.int .u64 0, .int .u64 0, .int .u64 0, .int .u64 0]) rfl rfl Try.zeroValue24 (by kernel_rfl) rfl rfl fun g3 ac w hs => ?_))
  refine wpList_nil ?_
  refine then_n ?_
  refine wp_seq ?_
  replace hs : St 25 w0 [(2, true, .pointer (some ⟨g1, 0, none⟩)), (3, true, .pointer (some ⟨g2, 0, none⟩)), (4, true, .pointer (some ⟨g3, 0, none⟩))] [(true, g1, 24, (Wl a)), (true, g2, 24, (Wl b)), (true, g3, 24, [.int .u64 0, .int .u64 0, .int .u64 0, .int .u64 0])] ac w := hs.re ⟨rfl, rfl, rfl, trivial⟩
  obtain ⟨r4, hr4, lr4⟩ : ∃ r, a % Nord = r ∧ r < 2 ^ 256 := ⟨_, rfl, modN_lt _⟩
  obtain ⟨r5, hr5, lr5⟩ : ∃ r, b % Nord = r ∧ r < 2 ^ 256 := ⟨_, rfl, modN_lt _⟩
  obtain ⟨s6, hs6, ls6⟩ : ∃ d, (r4 + r5) % 2 ^ 256 = d ∧ d < 2 ^ 256 := ⟨_, rfl, Nat.mod_lt _ (Nat.two_pow_pos 256)⟩
  obtain ⟨c7, hc7⟩ : ∃ c, (r4 + r5) / 2 ^ 256 = c := ⟨_, rfl⟩
  refine region_inv [([], [1, 3, 4, 5, 6, 7, 9, 10]), ([0], [3, 4, 5, 6, 7, 9, 10]), ([], [3, 4, 5, 6, 7, 9, 10]), ([0, 1, 2], [4, 5, 6, 7, 9, 10]), ([0, 1, 2, 3], [5, 6, 7, 9, 10]), ([0, 1, 2, 3, 4], [6, 7, 9, 10]), ([0, 1, 2, 3, 4, 5], [9, 10]), ([0, 1, 2, 3, 4, 5], [10]), ([], [9, 10]), ([0, 1, 2, 3, 4, 5, 6, 8], [10]), ([0, 1, 2, 3, 4, 5, 6, 7, 8, 9], [])] (fun L ac w => ∃ (g8 : Nat), St 25 w0 [(8, L 0, W a), (9, L 1, W r4), (10, L 2, W b), (11, L 3, W r5), (12, L 4, .tuple #[W s6, .int .u64 ((c7 : Nat) : Int)]), (7, L 5, .tuple #[W s6, .int .u64 ((c7 : Nat) : Int)]), (13, L 6, W s6), (14, L 7, .int .u64 ((c7 : Nat) : Int)), (5, L 8, .pointer (some ⟨g8, 0, none⟩)), (6, L 10, .int .u64 ((c7 : Nat) : Int)), (2, true, .pointer (some ⟨g1, 0, none⟩)), (3, true, .pointer (some ⟨g2, 0, none⟩)), (4, true, .pointer (some ⟨g3, 0, none⟩))] [(true, g1, 24, (Wl a)), (true, g2, 24, (Wl b)), (true, g3, 24, [.int .u64 0, .int .u64 0, .int .u64 0, .int .u64 0]), (L 8, g8, 24, (cond (L 9) (Wl s6) [.int .u64 0, .int .u64 0, .int .u64 0, .int .u64 0]))] ac w) (by kernel_rfl) (by kernel_rfl) ?_ ?_ ?_
  · exact ⟨0, hs.drew.skip.skip.skip.skip.skip.skip.skip.skip.skip.skip.pad⟩
  · refine ⟨?_, ?_, ?_, ?_, ?_, ?_, ?_, ?_, ?_, ?_, ?_, trivial⟩
    · intro L ac w hJ
      obtain ⟨g8, hs⟩ := hJ
      refine wpO_plain rfl (op_load hs (some 0) 0 (v := W a) rfl rfl rfl rfl Try.isAgg24 Try.sizeOf24 rfl rfl fun ac hs => ?_)
      exact ⟨g8, hs⟩
    · intro L ac w hJ
      obtain ⟨g8, hs⟩ := hJ
      refine wpO_plain rfl (op_call (F := 11) hs (some 1) (v := W r4) rfl rfl rfl rfl (Try.call11 _) (red_c a r4 ha hr4) rfl fun ac w hs => ?_)
      exact ⟨g8, hs⟩
    · intro L ac w hJ
      obtain ⟨g8, hs⟩ := hJ
      refine wpO_plain rfl (op_load hs (some 2) 1 (v := W b) rfl rfl rfl rfl Try.isAgg24 Try.sizeOf24 rfl rfl fun ac hs => ?_)
      exact ⟨g8, hs⟩
    · intro L ac w hJ
      obtain ⟨g8, hs⟩ := hJ
      refine wpO_plain rfl (op_call (F := 11) hs (some 3) (v := W r5) rfl rfl rfl rfl (Try.call11 _) (red_c b r5 hb hr5) rfl fun ac w hs => ?_)
      exact ⟨g8, hs⟩
    · intro L ac w hJ
      obtain ⟨g8, hs⟩ := hJ
      refine wpO_plain rfl (op_call (F := 28) hs (some 4) (v := .tuple #[W s6, .int .u64 ((c7 : Nat) : Int)]) rfl rfl rfl rfl (Try.call28 _) (fun w => add_at w r4 r5 s6 c7 lr4 lr5 hs6 hc7) rfl fun ac w hs => ?_)
      exact ⟨g8, hs⟩
    · intro L ac w hJ
      obtain ⟨g8, hs⟩ := hJ
      refine wpO_plain rfl (op_move hs (some 5) rfl rfl rfl rfl fun ac hs => ?_)
      exact ⟨g8, hs⟩
    · intro L ac w hJ
      obtain ⟨g8, hs⟩ := hJ
      refine wpO_plain rfl (op_extract hs (some 6) rfl rfl rfl rfl rfl fun ac hs => ?_)
      exact ⟨g8, hs⟩
    · intro L ac w hJ
      obtain ⟨g8, hs⟩ := hJ
      refine wpO_plain rfl (op_extract hs (some 7) rfl rfl rfl rfl rfl fun ac hs => ?_)
      exact ⟨g8, hs⟩
    · intro L ac w hJ
      obtain ⟨g8, hs⟩ := hJ
      refine wpO_plain rfl (op_alloc hs (some 8) (some 3) (cs := [.int .u64 0, .int .u64 0, .int .u64 0, .int .u64 0]) rfl rfl Try.zeroValue24 (by kernel_rfl) rfl rfl fun g8 ac w hs => ?_)
      exact ⟨g8, hs⟩
    · intro L ac w hJ
      obtain ⟨g8, hs⟩ := hJ
      refine wpO_plain rfl (op_store hs 3 (vs := (Wl s6)) rfl rfl rfl rfl rfl Try.sizeOf24 rfl rfl rfl rfl rfl fun w hs => ?_)
      exact ⟨g8, hs⟩
    · intro L ac w hJ
      obtain ⟨g8, hs⟩ := hJ
      refine wpO_plain rfl (op_assign hs (some 9) rfl rfl rfl rfl fun ac hs => ?_)
      exact ⟨g8, hs⟩
  intro ac w hJ
  obtain ⟨g8, hs⟩ := hJ
  replace hs : St 25 w0 [(8, true, W a), (9, true, W r4), (10, true, W b), (11, true, W r5), (12, true, .tuple #[W s6, .int .u64 ((c7 : Nat) : Int)]), (7, true, .tuple #[W s6, .int .u64 ((c7 : Nat) : Int)]), (13, true, W s6), (14, true, .int .u64 ((c7 : Nat) : Int)), (5, true, .pointer (some ⟨g8, 0, none⟩)), (6, true, .int .u64 ((c7 : Nat) : Int)), (2, true, .pointer (some ⟨g1, 0, none⟩)), (3, true, .pointer (some ⟨g2, 0, none⟩)), (4, true, .pointer (some ⟨g3, 0, none⟩))] [(true, g1, 24, (Wl a)), (true, g2, 24, (Wl b)), (true, g3, 24, [.int .u64 0, .int .u64 0, .int .u64 0, .int .u64 0]), (true, g8, 24, (Wl s6))] ac w := hs
  refine then_n ?_
  refine wp_seq ?_
  refine wp_seq ?_
  refine wp_region_lit ?_
  refine lstep (wpO_plain rfl (op_move hs none rfl rfl rfl rfl fun ac hs => ?_))
  refine lstep (wpO_plain rfl (op_bin hs none (v := .bool (decide (c7 ≠ 0))) rfl rfl rfl rfl (fun _ => rfl) (bin_neqN (x := c7) (y := 0)) rfl fun ac hs => ?_))
  refine wpList_nil ?_
  refine then_n ?_
  refine wp_cond_split (hs.ev rfl) (fun hc => ?_) (fun hc => ?_)
  · skip
    have hp9 := of_decide_eq_true hc
    replace hs : St 25 w0 [(4, true, .pointer (some ⟨g3, 0, none⟩)), (5, true, .pointer (some ⟨g8, 0, none⟩))] [(true, g1, 24, (Wl a)), (true, g2, 24, (Wl b)), (true, g3, 24, [.int .u64 0, .int .u64 0, .int .u64 0, .int .u64 0]), (true, g8, 24, (Wl s6))] ac w := hs.re ⟨rfl, rfl, trivial⟩
    obtain ⟨s10, hs10, ls10⟩ : ∃ d, (s6 + Nov) % 2 ^ 256 = d ∧ d < 2 ^ 256 := ⟨_, rfl, Nat.mod_lt _ (Nat.two_pow_pos 256)⟩
    obtain ⟨c11, hc11⟩ : ∃ c, (s6 + Nov) / 2 ^ 256 = c := ⟨_, rfl⟩
    refine region_inv [([], [2, 3, 4, 5, 6]), ([], [2, 3, 4, 5, 6]), ([0, 1], [3, 4, 5, 6]), ([0, 1, 2], [4, 5, 6]), ([0, 1, 2, 3], [6]), ([0, 1, 2, 3], []), ([0, 1, 2, 3, 4], [])] (fun L ac w => St 25 w0 [(18, L 0, W s6), (19, L 1, W Nov), (20, L 2, .tuple #[W s10, .int .u64 ((c11 : Nat) : Int)]), (17, L 3, .tuple #[W s10, .int .u64 ((c11 : Nat) : Int)]), (21, L 4, W s10), (22, L 5, .int .u64 ((c11 : Nat) : Int)), (4, true, .pointer (some ⟨g3, 0, none⟩)), (5, true, .pointer (some ⟨g8, 0, none⟩))] [(true, g1, 24, (Wl a)), (true, g2, 24, (Wl b)), (true, g3, 24, [.int .u64 0, .int .u64 0, .int .u64 0, .int .u64 0]), (true, g8, 24, (cond (L 6) (Wl s10) (Wl s6)))] ac w) (by kernel_rfl) (by kernel_rfl) ?_ ?_ ?_
    · exact hs.drew.skip.skip.skip.skip.skip.skip
    · refine ⟨?_, ?_, ?_, ?_, ?_, ?_, ?_, trivial⟩
      · intro L ac w hJ
        have hs := hJ
        refine wpO_plain rfl (op_load hs (some 0) 3 (v := W s6) rfl rfl rfl rfl Try.isAgg24 Try.sizeOf24 rfl rfl fun ac hs => ?_)
        exact hs
      · intro L ac w hJ
        have hs := hJ
        refine wpO_plain rfl (op_call (F := 29) hs (some 1) (v := W Nov) rfl rfl rfl rfl (Try.call29 _) over_c rfl fun ac w hs => ?_)
        exact hs
      · intro L ac w hJ
        have hs := hJ
        refine wpO_plain rfl (op_call (F := 28) hs (some 2) (v := .tuple #[W s10, .int .u64 ((c11 : Nat) : Int)]) rfl rfl rfl rfl (Try.call28 _) (fun w => add_at w s6 Nov s10 c11 ls6 Nov_lt hs10 hc11) rfl fun ac w hs => ?_)
        exact hs
      · intro L ac w hJ
        have hs := hJ
        refine wpO_plain rfl (op_move hs (some 3) rfl rfl rfl rfl fun ac hs => ?_)
        exact hs
      · intro L ac w hJ
        have hs := hJ
        refine wpO_plain rfl (op_extract hs (some 4) rfl rfl rfl rfl rfl fun ac hs => ?_)
        exact hs
      · intro L ac w hJ
        have hs := hJ
        refine wpO_plain rfl (op_extract hs (some 5) rfl rfl rfl rfl rfl fun ac hs => ?_)
        exact hs
      · intro L ac w hJ
        have hs := hJ
        refine wpO_plain rfl (op_store hs 3 (vs := (Wl s10)) rfl rfl rfl rfl rfl Try.sizeOf24 rfl rfl rfl rfl rfl fun w hs => ?_)
        exact hs
    intro ac w hJ
    replace hs : St 25 w0 [(18, true, W s6), (19, true, W Nov), (20, true, .tuple #[W s10, .int .u64 ((c11 : Nat) : Int)]), (17, true, .tuple #[W s10, .int .u64 ((c11 : Nat) : Int)]), (21, true, W s10), (22, true, .int .u64 ((c11 : Nat) : Int)), (4, true, .pointer (some ⟨g3, 0, none⟩)), (5, true, .pointer (some ⟨g8, 0, none⟩))] [(true, g1, 24, (Wl a)), (true, g2, 24, (Wl b)), (true, g3, 24, [.int .u64 0, .int .u64 0, .int .u64 0, .int .u64 0]), (true, g8, 24, (Wl s10))] ac w := hJ
    refine then_n ?_
    refine wp_seq ?_
    refine wp_region_lit ?_
    refine lstep (wpO_plain rfl (op_load hs none 3 (v := W s10) rfl rfl rfl rfl Try.isAgg24 Try.sizeOf24 rfl rfl fun ac hs => ?_))
    obtain ⟨r12, hr12, lr12⟩ : ∃ r, s10 % Nord = r ∧ r < 2 ^ 256 := ⟨_, rfl, modN_lt _⟩
    refine lstep (wpO_plain rfl (op_call (F := 11) hs none (v := W r12) rfl rfl rfl rfl (Try.call11 _) (red_c s10 r12 ls10 hr12) rfl fun ac w hs => ?_))
    refine lstep (wpO_plain rfl (op_store hs 2 (vs := (Wl r12)) rfl rfl rfl rfl rfl Try.sizeOf24 rfl rfl rfl rfl rfl fun w hs => ?_))
    refine wpList_nil ?_
    refine then_n ?_
    refine wp_ret ?_
    exact bodyPost_ret (res1 rfl (rv_c hs 2 (v := W r12) rfl rfl Try.isAgg24 Try.sizeOf24 rfl)) hs.defers ⟨by subst hr4 hr5; rw [← hx, ← hr12]; rw [add_yes hs6 hc7 hs10 hc], hs.below⟩
  · skip
    have hp13 := of_decide_eq_false hc
    refine wp_skip ?_
    refine then_n ?_
    refine wp_seq ?_
    refine wp_region_lit ?_
    refine lstep (wpO_plain rfl (op_load hs none 3 (v := W s6) rfl rfl rfl rfl Try.isAgg24 Try.sizeOf24 rfl rfl fun ac hs => ?_))
    obtain ⟨r14, hr14, lr14⟩ : ∃ r, s6 % Nord = r ∧ r < 2 ^ 256 := ⟨_, rfl, modN_lt _⟩
    refine lstep (wpO_plain rfl (op_call (F := 11) hs none (v := W r14) rfl rfl rfl rfl (Try.call11 _) (red_c s6 r14 ls6 hr14) rfl fun ac w hs => ?_))
    refine lstep (wpO_plain rfl (op_store hs 2 (vs := (Wl r14)) rfl rfl rfl rfl rfl Try.sizeOf24 rfl rfl rfl rfl rfl fun w hs => ?_))
    refine wpList_nil ?_
    refine then_n ?_
    refine wp_ret ?_
    exact bodyPost_ret (res1 rfl (rv_c hs 2 (v := W r14) rfl rfl Try.isAgg24 Try.sizeOf24 rfl)) hs.defers ⟨by subst hr4 hr5; rw [← hx, ← hr14]; rw [add_no hs6 hc7 hc], hs.below⟩
theorem sneg_c (a x : Nat) (ha : a < 2 ^ 256) (hx : (Nord - a % Nord) % Nord = x) (w0 : World) : Calls Try.prog 15 #[W a] w0 fun e w' => e = .returned (W x) ∧ Below w0.heap.size w0 w' := by
  refine enter (n := 14) (args := [W a]) Try.func15 rfl rfl (Nat.le_of_ble_eq_true rfl) fun ac hs => ?_
  refine wp_seq ?_
  refine wp_region_lit ?_
  refine lstep (wpO_plain rfl (op_box hs none none (cs := (Wl a)) rfl rfl rfl rfl rfl rfl fun g1 ac w hs => ?_))
  refine lstep (wpO_plain rfl (op_alloc hs none none (cs := [.int .u64 0, .int .u64 0, .int .u64 0, .int .u64 0]) rfl rfl Try.zeroValue24 (by kernel_rfl) rfl rfl fun g2 ac w hs => ?_))
  refine wpList_nil ?_
  refine then_n ?_
  refine wp_seq ?_
  replace hs : St 14 w0 [(1, true, .pointer (some ⟨g1, 0, none⟩)), (2, true, .pointer (some ⟨g2, 0, none⟩))] [(true, g1, 24, (Wl a)), (true, g2, 24, [.int .u64 0, .int .u64 0, .int .u64 0, .int .u64 0])] ac w := hs.re ⟨rfl, rfl, trivial⟩
  obtain ⟨r3, hr3, lr3⟩ : ∃ r, a % Nord = r ∧ r < 2 ^ 256 := ⟨_, rfl, modN_lt _⟩
  obtain ⟨d4, hd4, ld4⟩ : ∃ d, (Nord + 2 ^ 256 - r3) % 2 ^ 256 = d ∧ d < 2 ^ 256 := ⟨_, rfl, Nat.mod_lt _ (Nat.two_pow_pos 256)⟩
  obtain ⟨c5, hc5⟩ : ∃ c, bor Nord r3 = c := ⟨_, rfl⟩
  refine region_inv [([], [2, 3, 4, 5, 6, 8, 9]), ([], [2, 3, 4, 5, 6, 8, 9]), ([0, 1], [3, 4, 5, 6, 8, 9]), ([0, 1, 2], [4, 5, 6, 8, 9]), ([0, 1, 2, 3], [5, 6, 8, 9]), ([0, 1, 2, 3, 4], [8, 9]), ([0, 1, 2, 3, 4], [9]), ([], [8, 9]), ([0, 1, 2, 3, 4, 5, 7], [9]), ([0, 1, 2, 3, 4, 5, 6, 7, 8], [])] (fun L ac w => ∃ (g6 : Nat), St 14 w0 [(6, L 0, W Nord), (7, L 1, W a), (8, L 2, W r3), (9, L 3, .tuple #[W d4, .int .u64 ((c5 : Nat) : Int)]), (5, L 4, .tuple #[W d4, .int .u64 ((c5 : Nat) : Int)]), (10, L 5, W d4), (11, L 6, .int .u64 ((c5 : Nat) : Int)), (3, L 7, .pointer (some ⟨g6, 0, none⟩)), (4, L 9, .int .u64 ((c5 : Nat) : Int)), (1, true, .pointer (some ⟨g1, 0, none⟩)), (2, true, .pointer (some ⟨g2, 0, none⟩))] [(true, g1, 24, (Wl a)), (true, g2, 24, [.int .u64 0, .int .u64 0, .int .u64 0, .int .u64 0]), (L 7, g6, 24, (cond (L 8) (Wl d4) [.int .u64 0, .int .u64 0, .int .u64 0, .int .u64 0]))] ac w) (by kernel_rfl) (by kernel_rfl) ?_ ?_ ?_
  · exact ⟨0, hs.drew.skip.skip.skip.skip.skip.skip.skip.skip.skip.pad⟩
  · refine ⟨?_, ?_, ?_, ?_, ?_, ?_, ?_, ?_, ?_, ?_, trivial⟩
    · intro L ac w hJ
      obtain ⟨g6, hs⟩ := hJ
      refine wpO_plain rfl (op_call (F := 9) hs (some 0) (v := W Nord) rfl rfl rfl rfl (Try.call9 _) order_c rfl fun ac w hs => ?_)
      exact ⟨g6, hs⟩
    · intro L ac w hJ
      obtain ⟨g6, hs⟩ := hJ
      refine wpO_plain rfl (op_load hs (some 1) 0 (v := W a) rfl rfl rfl rfl Try.isAgg24 Try.sizeOf24 rfl rfl fun ac hs => ?_)
      exact ⟨g6, hs⟩
    · intro L ac w hJ
      obtain ⟨g6, hs⟩ := hJ
      refine wpO_plain rfl (op_call (F := 11) hs (some 2) (v := W r3) rfl rfl rfl rfl (Try.call11 _) (red_c a r3 ha hr3) rfl fun ac w hs => ?_)
      exact ⟨g6, hs⟩
    · intro L ac w hJ
      obtain ⟨g6, hs⟩ := hJ
      refine wpO_plain rfl (op_call (F := 26) hs (some 3) (v := .tuple #[W d4, .int .u64 ((c5 : Nat) : Int)]) rfl rfl rfl rfl (Try.call26 _) (fun w => sub_at w Nord r3 d4 c5 Nord_lt lr3 hd4 hc5) rfl fun ac w hs => ?_)
      exact ⟨g6, hs⟩
    · intro L ac w hJ
      obtain ⟨g6, hs⟩ := hJ
      refine wpO_plain rfl (op_move hs (some 4) rfl rfl rfl rfl fun ac hs => ?_)
      exact ⟨g6, hs⟩
    · intro L ac w hJ
      obtain ⟨g6, hs⟩ := hJ
      refine wpO_plain rfl (op_extract hs (some 5) rfl rfl rfl rfl rfl fun ac hs => ?_)
      exact ⟨g6, hs⟩
    · intro L ac w hJ
      obtain ⟨g6, hs⟩ := hJ
      refine wpO_plain rfl (op_extract hs (some 6) rfl rfl rfl rfl rfl fun ac hs => ?_)
      exact ⟨g6, hs⟩
    · intro L ac w hJ
      obtain ⟨g6, hs⟩ := hJ
      refine wpO_plain rfl (op_alloc hs (some 7) (some 2) (cs := [.int .u64 0, .int .u64 0, .int .u64 0, .int .u64 0]) rfl rfl Try.zeroValue24 (by kernel_rfl) rfl rfl fun g6 ac w hs => ?_)
      exact ⟨g6, hs⟩
    · intro L ac w hJ
      obtain ⟨g6, hs⟩ := hJ
      refine wpO_plain rfl (op_store hs 2 (vs := (Wl d4)) rfl rfl rfl rfl rfl Try.sizeOf24 rfl rfl rfl rfl rfl fun w hs => ?_)
      exact ⟨g6, hs⟩
    · intro L ac w hJ
      obtain ⟨g6, hs⟩ := hJ
      refine wpO_plain rfl (op_assign hs (some 8) rfl rfl rfl rfl fun ac hs => ?_)
      exact ⟨g6, hs⟩
  intro ac w hJ
  obtain ⟨g6, hs⟩ := hJ
  replace hs : St 14 w0 [(6, true, W Nord), (7, true, W a), (8, true, W r3), (9, true, .tuple #[W d4, .int .u64 ((c5 : Nat) : Int)]), (5, true, .tuple #[W d4, .int .u64 ((c5 : Nat) : Int)]), (10, true, W d4), (11, true, .int .u64 ((c5 : Nat) : Int)), (3, true, .pointer (some ⟨g6, 0, none⟩)), (4, true, .int .u64 ((c5 : Nat) : Int)), (1, true, .pointer (some ⟨g1, 0, none⟩)), (2, true, .pointer (some ⟨g2, 0, none⟩))] [(true, g1, 24, (Wl a)), (true, g2, 24, [.int .u64 0, .int .u64 0, .int .u64 0, .int .u64 0]), (true, g6, 24, (Wl d4))] ac w := hs
  refine then_n ?_
  refine wp_seq ?_
  refine wp_region_lit ?_
  refine lstep (wpO_plain rfl (op_load hs none 2 (v := W d4) rfl rfl rfl rfl Try.isAgg24 Try.sizeOf24 rfl rfl fun ac hs => ?_))
  obtain ⟨r7, hr7, lr7⟩ : ∃ r, d4 % Nord = r ∧ r < 2 ^ 256 := ⟨_, rfl, modN_lt _⟩
  refine lstep (wpO_plain rfl (op_call (F := 11) hs none (v := W r7) rfl rfl rfl rfl (Try.call11 _) (red_c d4 r7 ld4 hr7) rfl fun ac w hs => ?_))
  refine lstep (wpO_plain rfl (op_store hs 1 (vs := (Wl r7)) rfl rfl rfl rfl rfl Try.sizeOf24 rfl rfl rfl rfl rfl fun w hs => ?_))
  refine wpList_nil ?_
  refine then_n ?_
  refine wp_ret ?_
  exact bodyPost_ret (res1 rfl (rv_c hs 1 (v := W r7) rfl rfl Try.isAgg24 Try.sizeOf24 rfl)) hs.defers ⟨by subst hr3; rw [← hx, ← hr7, neg_eq hd4], hs.below⟩
theorem smul_c (a b x : Nat) (ha : a < 2 ^ 256) (hb : b < 2 ^ 256) (hx : a * b % Nord = x) (w0 : World) : Calls Try.prog 17 #[W a, W b] w0 fun e w' => e = .returned (W x) ∧ Below w0.heap.size w0 w' := by
  refine enter (n := 42) (args := [W a, W b]) Try.func17 rfl rfl (Nat.le_of_ble_eq_true rfl) fun ac hs => ?_
  refine wp_seq ?_
  refine wp_region_lit ?_
  refine lstep (wpO_plain rfl (op_box hs none none (cs := (Wl a)) rfl rfl rfl rfl rfl rfl fun g1 ac w hs => ?_))
  refine lstep (wpO_plain rfl (op_box hs none none (cs := (Wl b)) rfl rfl rfl rfl rfl rfl fun g2 ac w hs => ?_))
  refine lstep (wpO_plain rfl (op_alloc hs none none (cs := [.int .u64 0, .int .u64 0, .int .u64 0, .int .u64 0]) rfl rfl Try.zeroValue24 (by kernel_rfl) rfl rfl fun g3 ac w hs => ?_))
  refine wpList_nil ?_
  refine then_n ?_
  refine wp_seq ?_
  refine wp_region_lit ?_
  refine lstep (wpO_plain rfl (op_load hs none 0 (v := W a) rfl rfl rfl rfl Try.isAgg24 Try.sizeOf24 rfl rfl fun ac hs => ?_))
  refine lstep (wpO_plain rfl (op_load hs none 1 (v := W b) rfl rfl rfl rfl Try.isAgg24 Try.sizeOf24 rfl rfl fun ac hs => ?_))
  obtain ⟨lo4, hlo4, llo4⟩ : ∃ d, a * b % 2 ^ 256 = d ∧ d < 2 ^ 256 := ⟨_, rfl, Nat.mod_lt _ (Nat.two_pow_pos 256)⟩
  obtain ⟨hi5, hhi5, lhi5⟩ : ∃ c, a * b / 2 ^ 256 = c ∧ c < 2 ^ 256 := ⟨_, rfl, mul_hi ha hb⟩
  refine lstep (wpO_plain rfl (op_call (F := 31) hs none (v := .tuple #[W lo4, W hi5]) rfl rfl rfl rfl (Try.call31 _) (fun w => wmul_at w a b lo4 hi5 ha hb hlo4 hhi5) rfl fun ac w hs => ?_))
  refine lstep (wpO_plain rfl (op_move hs none rfl rfl rfl rfl fun ac hs => ?_))
  refine lstep (wpO_plain rfl (op_extract hs none rfl rfl rfl rfl rfl fun ac hs => ?_))
  refine lstep (wpO_plain rfl (op_extract hs none rfl rfl rfl rfl rfl fun ac hs => ?_))
  refine lstep (wpO_plain rfl (op_alloc hs none none (cs := [.int .u64 0, .int .u64 0, .int .u64 0, .int .u64 0]) rfl rfl Try.zeroValue24 (by kernel_rfl) rfl rfl fun g6 ac w hs => ?_))
  refine lstep (wpO_plain rfl (op_alloc hs none none (cs := [.int .u64 0, .int .u64 0, .int .u64 0, .int .u64 0]) rfl rfl Try.zeroValue24 (by kernel_rfl) rfl rfl fun g7 ac w hs => ?_))
  refine lstep (wpO_plain rfl (op_store hs 3 (vs := (Wl lo4)) rfl rfl rfl rfl rfl Try.sizeOf24 rfl rfl rfl rfl rfl fun w hs => ?_))
  refine lstep (wpO_plain rfl (op_store hs 4 (vs := (Wl hi5)) rfl rfl rfl rfl rfl Try.sizeOf24 rfl rfl rfl rfl rfl fun w hs => ?_))
  refine wpList_nil ?_
  refine then_n ?_
  refine wp_seq ?_
  refine wp_block ?_
  refine wp_loop_m (fun μ ac w => ∃ (y : Nat) (z : Nat), (y + 2 ^ 256 * z) = μ ∧ (y < 2 ^ 256) ∧ (z < 2 ^ 256) ∧ ((y + 2 ^ 256 * z) % Nord = a * b % Nord) ∧ St 42 w0 [(2, true, .pointer (some ⟨g1, 0, none⟩)), (3, true, .pointer (some ⟨g2, 0, none⟩)), (4, true, .pointer (some ⟨g3, 0, none⟩)), (5, true, .pointer (some ⟨g6, 0, none⟩)), (6, true, .pointer (some ⟨g7, 0, none⟩))] [(true, g1, 24, (Wl a)), (true, g2, 24, (Wl b)), (true, g3, 24, [.int .u64 0, .int .u64 0, .int .u64 0, .int .u64 0]), (true, g6, 24, (Wl y)), (true, g7, 24, (Wl z))] ac w) ?_ ?_
  · exact ⟨_, lo4, hi5, rfl, llo4, lhi5, (by rw [← hlo4, ← hhi5, Nat.mod_add_div]), (hs.re ⟨rfl, rfl, rfl, rfl, rfl, trivial⟩)⟩
  intro μ ac w ⟨y, z, hμ, ly, lz, hq, hs⟩
  refine wp_seq ?_
  refine wp_seq ?_
  refine wp_region_lit ?_
  refine lstep (wpO_plain rfl (op_load hs none 4 (v := W z) rfl rfl rfl rfl Try.isAgg24 Try.sizeOf24 rfl rfl fun ac hs => ?_))
  refine lstep (wpO_plain rfl (op_build hs none (qs := []) (v := .agg #[.int .u64 0, .int .u64 0, .int .u64 0, .int .u64 0]) rfl rfl rfl rfl (fun _ => by kernel_rfl) rfl fun ac hs => ?_))
  refine lstep (wpO_plain rfl (op_bin hs none (v := .bool (decide (z ≠ 0))) rfl rfl rfl rfl (fun w => run_eqGuard_agg w .neq 24 _ _ _ _ Try.eqGuardType24) (neqW z 0 lz (by decide) _ rfl) rfl fun ac hs => ?_))
  refine wpList_nil ?_
  refine then_n ?_
  refine wp_cond_split (hs.ev rfl) (fun hc => ?_) (fun hc => ?_)
  · skip
    have hp8 := of_decide_eq_true hc
    refine wp_skip ?_
    refine then_n ?_
    refine wp_block ?_
    refine wp_seq ?_
    replace hs : St 42 w0 [(2, true, .pointer (some ⟨g1, 0, none⟩)), (3, true, .pointer (some ⟨g2, 0, none⟩)), (4, true, .pointer (some ⟨g3, 0, none⟩)), (5, true, .pointer (some ⟨g6, 0, none⟩)), (6, true, .pointer (some ⟨g7, 0, none⟩))] [(true, g1, 24, (Wl a)), (true, g2, 24, (Wl b)), (true, g3, 24, [.int .u64 0, .int .u64 0, .int .u64 0, .int .u64 0]), (true, g6, 24, (Wl y)), (true, g7, 24, (Wl z))] ac w := hs.re ⟨rfl, rfl, rfl, rfl, rfl, trivial⟩
    obtain ⟨lo9, hlo9, llo9⟩ : ∃ d, z * Nov % 2 ^ 256 = d ∧ d < 2 ^ 256 := ⟨_, rfl, Nat.mod_lt _ (Nat.two_pow_pos 256)⟩
    obtain ⟨hi10, hhi10, lhi10⟩ : ∃ c, z * Nov / 2 ^ 256 = c ∧ c < 2 ^ 256 := ⟨_, rfl, mul_hi lz Nov_lt⟩
    refine region_inv [([], [2, 3, 4, 5, 8, 9]), ([], [2, 3, 4, 5, 8, 9]), ([0, 1], [3, 4, 5, 8, 9]), ([0, 1, 2], [4, 5, 8, 9]), ([0, 1, 2, 3], [8, 9]), ([0, 1, 2, 3], [9]), ([], [8, 9]), ([], [8, 9]), ([0, 1, 2, 3, 4, 6, 7], [9]), ([0, 1, 2, 3, 4, 5, 6, 7, 8], [])] (fun L ac w => ∃ (g11 : Nat) (g12 : Nat), St 42 w0 [(21, L 0, W z), (22, L 1, W Nov), (23, L 2, .tuple #[W lo9, W hi10]), (20, L 3, .tuple #[W lo9, W hi10]), (24, L 4, W lo9), (25, L 5, W hi10), (7, L 6, .pointer (some ⟨g11, 0, none⟩)), (8, L 7, .pointer (some ⟨g12, 0, none⟩)), (2, true, .pointer (some ⟨g1, 0, none⟩)), (3, true, .pointer (some ⟨g2, 0, none⟩)), (4, true, .pointer (some ⟨g3, 0, none⟩)), (5, true, .pointer (some ⟨g6, 0, none⟩)), (6, true, .pointer (some ⟨g7, 0, none⟩))] [(true, g1, 24, (Wl a)), (true, g2, 24, (Wl b)), (true, g3, 24, [.int .u64 0, .int .u64 0, .int .u64 0, .int .u64 0]), (true, g6, 24, (Wl y)), (true, g7, 24, (Wl z)), (L 6, g11, 24, (cond (L 8) (Wl lo9) [.int .u64 0, .int .u64 0, .int .u64 0, .int .u64 0])), (L 7, g12, 24, (cond (L 9) (Wl hi10) [.int .u64 0, .int .u64 0, .int .u64 0, .int .u64 0]))] ac w) (by kernel_rfl) (by kernel_rfl) ?_ ?_ ?_
    · exact ⟨0, 0, hs.drew.skip.skip.skip.skip.skip.skip.skip.skip.pad.pad⟩
    · refine ⟨?_, ?_, ?_, ?_, ?_, ?_, ?_, ?_, ?_, ?_, trivial⟩
      · intro L ac w hJ
        obtain ⟨g11, g12, hs⟩ := hJ
        refine wpO_plain rfl (op_load hs (some 0) 4 (v := W z) rfl rfl rfl rfl Try.isAgg24 Try.sizeOf24 rfl rfl fun ac hs => ?_)
        exact ⟨g11, g12, hs⟩
      · intro L ac w hJ
        obtain ⟨g11, g12, hs⟩ := hJ
        refine wpO_plain rfl (op_call (F := 29) hs (some 1) (v := W Nov) rfl rfl rfl rfl (Try.call29 _) over_c rfl fun ac w hs => ?_)
        exact ⟨g11, g12, hs⟩
      · intro L ac w hJ
        obtain ⟨g11, g12, hs⟩ := hJ
        refine wpO_plain rfl (op_call (F := 31) hs (some 2) (v := .tuple #[W lo9, W hi10]) rfl rfl rfl rfl (Try.call31 _) (fun w => wmul_at w z Nov lo9 hi10 lz Nov_lt hlo9 hhi10) rfl fun ac w hs => ?_)
        exact ⟨g11, g12, hs⟩
      · intro L ac w hJ
        obtain ⟨g11, g12, hs⟩ := hJ
        refine wpO_plain rfl (op_move hs (some 3) rfl rfl rfl rfl fun ac hs => ?_)
        exact ⟨g11, g12, hs⟩
      · intro L ac w hJ
        obtain ⟨g11, g12, hs⟩ := hJ
        refine wpO_plain rfl (op_extract hs (some 4) rfl rfl rfl rfl rfl fun ac hs => ?_)
        exact ⟨g11, g12, hs⟩
      · intro L ac w hJ
        obtain ⟨g11, g12, hs⟩ := hJ
        refine wpO_plain rfl (op_extract hs (some 5) rfl rfl rfl rfl rfl fun ac hs => ?_)
        exact ⟨g11, g12, hs⟩
      · intro L ac w hJ
        obtain ⟨g11, g12, hs⟩ := hJ
        refine wpO_plain rfl (op_alloc hs (some 6) (some 5) (cs := [.int .u64 0, .int .u64 0, .int .u64 0, .int .u64 0]) rfl rfl Try.zeroValue24 (by kernel_rfl) rfl rfl fun g11 ac w hs => ?_)
        exact ⟨g11, g12, hs⟩
      · intro L ac w hJ
        obtain ⟨g11, g12, hs⟩ := hJ
        refine wpO_plain rfl (op_alloc hs (some 7) (some 6) (cs := [.int .u64 0, .int .u64 0, .int .u64 0, .int .u64 0]) rfl rfl Try.zeroValue24 (by kernel_rfl) rfl rfl fun g12 ac w hs => ?_)
        exact ⟨g11, g12, hs⟩
      · intro L ac w hJ
        obtain ⟨g11, g12, hs⟩ := hJ
        refine wpO_plain rfl (op_store hs 5 (vs := (Wl lo9)) rfl rfl rfl rfl rfl Try.sizeOf24 rfl rfl rfl rfl rfl fun w hs => ?_)
        exact ⟨g11, g12, hs⟩
      · intro L ac w hJ
        obtain ⟨g11, g12, hs⟩ := hJ
        refine wpO_plain rfl (op_store hs 6 (vs := (Wl hi10)) rfl rfl rfl rfl rfl Try.sizeOf24 rfl rfl rfl rfl rfl fun w hs => ?_)
        exact ⟨g11, g12, hs⟩
    intro ac w hJ
    obtain ⟨g11, g12, hs⟩ := hJ
    replace hs : St 42 w0 [(21, true, W z), (22, true, W Nov), (23, true, .tuple #[W lo9, W hi10]), (20, true, .tuple #[W lo9, W hi10]), (24, true, W lo9), (25, true, W hi10), (7, true, .pointer (some ⟨g11, 0, none⟩)), (8, true, .pointer (some ⟨g12, 0, none⟩)), (2, true, .pointer (some ⟨g1, 0, none⟩)), (3, true, .pointer (some ⟨g2, 0, none⟩)), (4, true, .pointer (some ⟨g3, 0, none⟩)), (5, true, .pointer (some ⟨g6, 0, none⟩)), (6, true, .pointer (some ⟨g7, 0, none⟩))] [(true, g1, 24, (Wl a)), (true, g2, 24, (Wl b)), (true, g3, 24, [.int .u64 0, .int .u64 0, .int .u64 0, .int .u64 0]), (true, g6, 24, (Wl y)), (true, g7, 24, (Wl z)), (true, g11, 24, (Wl lo9)), (true, g12, 24, (Wl hi10))] ac w := hs
    refine then_n ?_
    refine wp_seq ?_
    refine wp_region_lit ?_
    refine lstep (wpO_plain rfl (op_load hs none 3 (v := W y) rfl rfl rfl rfl Try.isAgg24 Try.sizeOf24 rfl rfl fun ac hs => ?_))
    refine lstep (wpO_plain rfl (op_load hs none 5 (v := W lo9) rfl rfl rfl rfl Try.isAgg24 Try.sizeOf24 rfl rfl fun ac hs => ?_))
    obtain ⟨s13, hs13, ls13⟩ : ∃ d, (y + lo9) % 2 ^ 256 = d ∧ d < 2 ^ 256 := ⟨_, rfl, Nat.mod_lt _ (Nat.two_pow_pos 256)⟩
    obtain ⟨c14, hc14⟩ : ∃ c, (y + lo9) / 2 ^ 256 = c := ⟨_, rfl⟩
    refine lstep (wpO_plain rfl (op_call (F := 28) hs none (v := .tuple #[W s13, .int .u64 ((c14 : Nat) : Int)]) rfl rfl rfl rfl (Try.call28 _) (fun w => add_at w y lo9 s13 c14 ly llo9 hs13 hc14) rfl fun ac w hs => ?_))
    refine lstep (wpO_plain rfl (op_move hs none rfl rfl rfl rfl fun ac hs => ?_))
    refine lstep (wpO_plain rfl (op_extract hs none rfl rfl rfl rfl rfl fun ac hs => ?_))
    refine lstep (wpO_plain rfl (op_extract hs none rfl rfl rfl rfl rfl fun ac hs => ?_))
    refine lstep (wpO_plain rfl (op_alloc hs none none (cs := [.int .u64 0, .int .u64 0, .int .u64 0, .int .u64 0]) rfl rfl Try.zeroValue24 (by kernel_rfl) rfl rfl fun g15 ac w hs => ?_))
    refine lstep (wpO_plain rfl (op_store hs 7 (vs := (Wl s13)) rfl rfl rfl rfl rfl Try.sizeOf24 rfl rfl rfl rfl rfl fun w hs => ?_))
    refine lstep (wpO_plain rfl (op_assign hs none rfl rfl rfl rfl fun ac hs => ?_))
    refine wpList_nil ?_
    refine then_n ?_
    refine wp_seq ?_
    refine wp_region_lit ?_
    refine lstep (wpO_plain rfl (op_load hs none 7 (v := W s13) rfl rfl rfl rfl Try.isAgg24 Try.sizeOf24 rfl rfl fun ac hs => ?_))
    refine lstep (wpO_plain rfl (op_store hs 3 (vs := (Wl s13)) rfl rfl rfl rfl rfl Try.sizeOf24 rfl rfl rfl rfl rfl fun w hs => ?_))
    refine wpList_nil ?_
    refine then_n ?_
    replace hs : St 42 w0 [(2, true, .pointer (some ⟨g1, 0, none⟩)), (3, true, .pointer (some ⟨g2, 0, none⟩)), (4, true, .pointer (some ⟨g3, 0, none⟩)), (5, true, .pointer (some ⟨g6, 0, none⟩)), (6, true, .pointer (some ⟨g7, 0, none⟩)), (8, true, .pointer (some ⟨g12, 0, none⟩)), (10, true, .int .u64 ((c14 : Nat) : Int))] [(true, g1, 24, (Wl a)), (true, g2, 24, (Wl b)), (true, g3, 24, [.int .u64 0, .int .u64 0, .int .u64 0, .int .u64 0]), (true, g6, 24, (Wl s13)), (true, g7, 24, (Wl z)), (true, g11, 24, (Wl lo9)), (true, g12, 24, (Wl hi10)), (true, g15, 24, (Wl s13))] ac w := hs.re ⟨rfl, rfl, rfl, rfl, rfl, rfl, rfl, trivial⟩
    obtain ⟨s16, hs16, ls16⟩ : ∃ d, (hi10 + c14) % 2 ^ 256 = d ∧ d < 2 ^ 256 := ⟨_, rfl, Nat.mod_lt _ (Nat.two_pow_pos 256)⟩
    obtain ⟨c17, hc17⟩ : ∃ c, (hi10 + c14) / 2 ^ 256 = c := ⟨_, rfl⟩
    refine region_inv [([], [3, 4, 5, 6, 7]), ([], [2, 3, 4, 5, 6, 7]), ([1], [3, 4, 5, 6, 7]), ([0, 1, 2], [4, 5, 6, 7]), ([0, 1, 2, 3], [5, 6, 7]), ([0, 1, 2, 3, 4], [7]), ([0, 1, 2, 3, 4], []), ([0, 1, 2, 3, 4, 5], [])] (fun L ac w => St 42 w0 [(34, L 0, W hi10), (35, L 1, .int .u64 ((c14 : Nat) : Int)), (36, L 2, W c14), (37, L 3, .tuple #[W s16, .int .u64 ((c17 : Nat) : Int)]), (33, L 4, .tuple #[W s16, .int .u64 ((c17 : Nat) : Int)]), (38, L 5, W s16), (39, L 6, .int .u64 ((c17 : Nat) : Int)), (2, true, .pointer (some ⟨g1, 0, none⟩)), (3, true, .pointer (some ⟨g2, 0, none⟩)), (4, true, .pointer (some ⟨g3, 0, none⟩)), (5, true, .pointer (some ⟨g6, 0, none⟩)), (6, true, .pointer (some ⟨g7, 0, none⟩)), (8, true, .pointer (some ⟨g12, 0, none⟩)), (10, true, .int .u64 ((c14 : Nat) : Int))] [(true, g1, 24, (Wl a)), (true, g2, 24, (Wl b)), (true, g3, 24, [.int .u64 0, .int .u64 0, .int .u64 0, .int .u64 0]), (true, g6, 24, (Wl s13)), (true, g7, 24, (cond (L 7) (Wl s16) (Wl z))), (true, g11, 24, (Wl lo9)), (true, g12, 24, (Wl hi10)), (true, g15, 24, (Wl s13))] ac w) (by kernel_rfl) (by kernel_rfl) ?_ ?_ ?_
    · exact hs.drew.skip.skip.skip.skip.skip.skip.skip
    · refine ⟨?_, ?_, ?_, ?_, ?_, ?_, ?_, ?_, trivial⟩
      · intro L ac w hJ
        have hs := hJ
        refine wpO_plain rfl (op_load hs (some 0) 6 (v := W hi10) rfl rfl rfl rfl Try.isAgg24 Try.sizeOf24 rfl rfl fun ac hs => ?_)
        exact hs
      · intro L ac w hJ
        have hs := hJ
        refine wpO_plain rfl (op_move hs (some 1) rfl rfl rfl rfl fun ac hs => ?_)
        exact hs
      · intro L ac w hJ
        have hs := hJ
        refine wpO_plain rfl (op_call (F := 32) hs (some 2) (v := W c14) rfl rfl rfl rfl (Try.call32 _) (fun w => from_any w c14 (c_lt64 hc14 ly llo9)) rfl fun ac w hs => ?_)
        exact hs
      · intro L ac w hJ
        have hs := hJ
        refine wpO_plain rfl (op_call (F := 28) hs (some 3) (v := .tuple #[W s16, .int .u64 ((c17 : Nat) : Int)]) rfl rfl rfl rfl (Try.call28 _) (fun w => add_at w hi10 c14 s16 c17 lhi10 (c_lt256 hc14 ly llo9) hs16 hc17) rfl fun ac w hs => ?_)
        exact hs
      · intro L ac w hJ
        have hs := hJ
        refine wpO_plain rfl (op_move hs (some 4) rfl rfl rfl rfl fun ac hs => ?_)
        exact hs
      · intro L ac w hJ
        have hs := hJ
        refine wpO_plain rfl (op_extract hs (some 5) rfl rfl rfl rfl rfl fun ac hs => ?_)
        exact hs
      · intro L ac w hJ
        have hs := hJ
        refine wpO_plain rfl (op_extract hs (some 6) rfl rfl rfl rfl rfl fun ac hs => ?_)
        exact hs
      · intro L ac w hJ
        have hs := hJ
        refine wpO_plain rfl (op_store hs 4 (vs := (Wl s16)) rfl rfl rfl rfl rfl Try.sizeOf24 rfl rfl rfl rfl rfl fun w hs => ?_)
        exact hs
    intro ac w hJ
    replace hs : St 42 w0 [(34, true, W hi10), (35, true, .int .u64 ((c14 : Nat) : Int)), (36, true, W c14), (37, true, .tuple #[W s16, .int .u64 ((c17 : Nat) : Int)]), (33, true, .tuple #[W s16, .int .u64 ((c17 : Nat) : Int)]), (38, true, W s16), (39, true, .int .u64 ((c17 : Nat) : Int)), (2, true, .pointer (some ⟨g1, 0, none⟩)), (3, true, .pointer (some ⟨g2, 0, none⟩)), (4, true, .pointer (some ⟨g3, 0, none⟩)), (5, true, .pointer (some ⟨g6, 0, none⟩)), (6, true, .pointer (some ⟨g7, 0, none⟩)), (8, true, .pointer (some ⟨g12, 0, none⟩)), (10, true, .int .u64 ((c14 : Nat) : Int))] [(true, g1, 24, (Wl a)), (true, g2, 24, (Wl b)), (true, g3, 24, [.int .u64 0, .int .u64 0, .int .u64 0, .int .u64 0]), (true, g6, 24, (Wl s13)), (true, g7, 24, (Wl s16)), (true, g11, 24, (Wl lo9)), (true, g12, 24, (Wl hi10)), (true, g15, 24, (Wl s13))] ac w := hJ
    refine blk_n ?_
    refine then_n ?_
    have hF := fold_eq lz hlo9 hhi10 hs13 hc14 hs16 ly
    exact ⟨_, ⟨s13, s16, rfl, ls13, ls16, ((fold_mod hF).trans hq), ((hs.takeb 5).re ⟨rfl, rfl, rfl, rfl, rfl, trivial⟩)⟩, (by have := fold_less hF (of_decide_eq_true hc); omega)⟩
  · skip
    have hp18 := of_decide_eq_false hc
    refine wp_exit ?_
    refine then_e ?_
    refine then_e ?_
    refine blk_e ?_
    refine then_n ?_
    refine wp_seq ?_
    refine wp_region_lit ?_
    refine lstep (wpO_plain rfl (op_load hs none 3 (v := W y) rfl rfl rfl rfl Try.isAgg24 Try.sizeOf24 rfl rfl fun ac hs => ?_))
    obtain ⟨r19, hr19, lr19⟩ : ∃ r, y % Nord = r ∧ r < 2 ^ 256 := ⟨_, rfl, modN_lt _⟩
    refine lstep (wpO_plain rfl (op_call (F := 11) hs none (v := W r19) rfl rfl rfl rfl (Try.call11 _) (red_c y r19 ly hr19) rfl fun ac w hs => ?_))
    refine lstep (wpO_plain rfl (op_store hs 2 (vs := (Wl r19)) rfl rfl rfl rfl rfl Try.sizeOf24 rfl rfl rfl rfl rfl fun w hs => ?_))
    refine wpList_nil ?_
    refine then_n ?_
    refine wp_ret ?_
    exact bodyPost_ret (res1 rfl (rv_c hs 2 (v := W r19) rfl rfl Try.isAgg24 Try.sizeOf24 rfl)) hs.defers ⟨by have hz := of_decide_eq_false hc; have hz : z = 0 := Classical.not_not.1 hz; subst hz; rw [← hx, ← hr19, ← hq]; rfl, hs.below⟩
theorem alive_c  (w0 : World) : Calls Try.prog 8 #[] w0 fun e w' => e = .returned (.bool true) ∧ Below w0.heap.size w0 w' := by
  refine enter (n := 27) (args := []) Try.func8 rfl rfl (Nat.le_of_ble_eq_true rfl) fun ac hs => ?_
  refine wp_seq ?_
  refine wp_region_lit ?_
  refine lstep (wpO_plain rfl (op_assign hs none rfl rfl rfl rfl fun ac hs => ?_))
  refine wpList_nil ?_
  refine then_n ?_
  refine wp_seq ?_
  refine wp_region_lit ?_
  refine lstep (wpO_plain rfl (op_call (F := 9) hs none (v := W Nord) rfl rfl rfl rfl (Try.call9 _) order_c rfl fun ac w hs => ?_))
  refine lstep (wpO_plain rfl (op_build hs none (qs := [(0, .int .u64 1)]) (v := .agg #[.int .u64 1, .int .u64 0, .int .u64 0, .int .u64 0]) rfl rfl rfl rfl (fun _ => by kernel_rfl) rfl fun ac hs => ?_))
  obtain ⟨d1, hd1, ld1⟩ : ∃ d, (Nord + 2 ^ 256 - 1) % 2 ^ 256 = d ∧ d < 2 ^ 256 := ⟨_, rfl, Nat.mod_lt _ (Nat.two_pow_pos 256)⟩
  obtain ⟨c2, hc2⟩ : ∃ c, bor Nord 1 = c := ⟨_, rfl⟩
  refine lstep (wpO_plain rfl (op_call (F := 26) hs none (v := .tuple #[W d1, .int .u64 ((c2 : Nat) : Int)]) rfl rfl rfl rfl (Try.call26 _) (fun w => sub_at w Nord 1 d1 c2 Nord_lt (by decide) hd1 hc2) rfl fun ac w hs => ?_))
  refine lstep (wpO_plain rfl (op_move hs none rfl rfl rfl rfl fun ac hs => ?_))
  refine lstep (wpO_plain rfl (op_extract hs none rfl rfl rfl rfl rfl fun ac hs => ?_))
  refine lstep (wpO_plain rfl (op_extract hs none rfl rfl rfl rfl rfl fun ac hs => ?_))
  refine lstep (wpO_plain rfl (op_alloc hs none none (cs := [.int .u64 0, .int .u64 0, .int .u64 0, .int .u64 0]) rfl rfl Try.zeroValue24 (by kernel_rfl) rfl rfl fun g3 ac w hs => ?_))
  refine lstep (wpO_plain rfl (op_store hs 0 (vs := (Wl d1)) rfl rfl rfl rfl rfl Try.sizeOf24 rfl rfl rfl rfl rfl fun w hs => ?_))
  refine lstep (wpO_plain rfl (op_assign hs none rfl rfl rfl rfl fun ac hs => ?_))
  refine wpList_nil ?_
  refine then_n ?_
  refine wp_seq ?_
  refine wp_region_lit ?_
  refine lstep (wpO_plain rfl (op_load hs none 0 (v := W d1) rfl rfl rfl rfl Try.isAgg24 Try.sizeOf24 rfl rfl fun ac hs => ?_))
  refine lstep (wpO_plain rfl (op_build hs none (qs := [(0, .int .u64 2)]) (v := .agg #[.int .u64 2, .int .u64 0, .int .u64 0, .int .u64 0]) rfl rfl rfl rfl (fun _ => by kernel_rfl) rfl fun ac hs => ?_))
  obtain ⟨r4, hr4, lr4⟩ : ∃ r, (d1 + 2) % Nord = r ∧ r < 2 ^ 256 := ⟨_, rfl, modN_lt _⟩
  refine lstep (wpO_plain rfl (op_call (F := 13) hs none (v := W r4) rfl rfl rfl rfl (Try.call13 _) (sadd_c d1 2 r4 ld1 (by decide) hr4) rfl fun ac w hs => ?_))
  refine lstep (wpO_plain rfl (op_build hs none (qs := [(0, .int .u64 1)]) (v := .agg #[.int .u64 1, .int .u64 0, .int .u64 0, .int .u64 0]) rfl rfl rfl rfl (fun _ => by kernel_rfl) rfl fun ac hs => ?_))
  refine lstep (wpO_plain rfl (op_bin hs none (v := .bool true) rfl rfl rfl rfl (fun w => run_eqGuard_agg w .eql 24 _ _ _ _ Try.eqGuardType24) (eqlW r4 1 lr4 (by decide) true (decide_eq_true (by rw [← hr4, ← hd1]; decide))) rfl fun ac hs => ?_))
  refine lstep (wpO_plain rfl (op_move hs none rfl rfl rfl rfl fun ac hs => ?_))
  refine lstep (wpO_in hs rfl rfl rfl (op_build hs none (qs := [(0, .int .u64 3)]) (v := .agg #[.int .u64 3, .int .u64 0, .int .u64 0, .int .u64 0]) rfl rfl rfl rfl (fun _ => by kernel_rfl) rfl fun ac hs => ?_))
  refine lstep (wpO_in hs rfl rfl rfl (op_build hs none (qs := [(0, .int .u64 5)]) (v := .agg #[.int .u64 5, .int .u64 0, .int .u64 0, .int .u64 0]) rfl rfl rfl rfl (fun _ => by kernel_rfl) rfl fun ac hs => ?_))
  obtain ⟨r5, hr5, lr5⟩ : ∃ r, 3 * 5 % Nord = r ∧ r < 2 ^ 256 := ⟨_, rfl, modN_lt _⟩
  refine lstep (wpO_in hs rfl rfl rfl (op_call (F := 17) hs none (v := W r5) rfl rfl rfl rfl (Try.call17 _) (smul_c 3 5 r5 (by decide) (by decide) hr5) rfl fun ac w hs => ?_))
  refine lstep (wpO_in hs rfl rfl rfl (op_build hs none (qs := [(0, .int .u64 15)]) (v := .agg #[.int .u64 15, .int .u64 0, .int .u64 0, .int .u64 0]) rfl rfl rfl rfl (fun _ => by kernel_rfl) rfl fun ac hs => ?_))
  refine lstep (wpO_in hs rfl rfl rfl (op_bin hs none (v := .bool true) rfl rfl rfl rfl (fun w => run_eqGuard_agg w .eql 24 _ _ _ _ Try.eqGuardType24) (eqlW r5 15 lr5 (by decide) true (decide_eq_true (by rw [← hr5]; decide))) rfl fun ac hs => ?_))
  refine lstep (wpO_plain rfl (op_pickT hs none rfl rfl rfl rfl rfl fun ac hs => ?_))
  refine lstep (wpO_plain rfl (op_move hs none rfl rfl rfl rfl fun ac hs => ?_))
  refine lstep (wpO_in hs rfl rfl rfl (op_load hs none 0 (v := W d1) rfl rfl rfl rfl Try.isAgg24 Try.sizeOf24 rfl rfl fun ac hs => ?_))
  obtain ⟨r6, hr6, lr6⟩ : ∃ r, (Nord - d1 % Nord) % Nord = r ∧ r < 2 ^ 256 := ⟨_, rfl, modN_lt _⟩
  refine lstep (wpO_in hs rfl rfl rfl (op_call (F := 15) hs none (v := W r6) rfl rfl rfl rfl (Try.call15 _) (sneg_c d1 r6 ld1 hr6) rfl fun ac w hs => ?_))
  refine lstep (wpO_in hs rfl rfl rfl (op_build hs none (qs := [(0, .int .u64 1)]) (v := .agg #[.int .u64 1, .int .u64 0, .int .u64 0, .int .u64 0]) rfl rfl rfl rfl (fun _ => by kernel_rfl) rfl fun ac hs => ?_))
  refine lstep (wpO_in hs rfl rfl rfl (op_bin hs none (v := .bool true) rfl rfl rfl rfl (fun w => run_eqGuard_agg w .eql 24 _ _ _ _ Try.eqGuardType24) (eqlW r6 1 lr6 (by decide) true (decide_eq_true (by rw [← hr6, ← hd1]; decide))) rfl fun ac hs => ?_))
  refine lstep (wpO_plain rfl (op_pickT hs none rfl rfl rfl rfl rfl fun ac hs => ?_))
  refine lstep (wpO_plain rfl (op_assign hs none rfl rfl rfl rfl fun ac hs => ?_))
  refine wpList_nil ?_
  refine then_n ?_
  refine wp_ret ?_
  exact bodyPost_ret (res1 rfl (rv_t hs rfl)) hs.defers ⟨rfl, hs.below⟩
theorem laws_c (a b c : Nat) (ha : a < 2 ^ 256) (hb : b < 2 ^ 256) (hcc : c < 2 ^ 256) (w0 : World) : Calls Try.prog 4 #[W a, W b, W c] w0 fun e w' => e = .returned (.bool true) ∧ Below w0.heap.size w0 w' := by
  refine enter (n := 83) (args := [W a, W b, W c]) Try.func4 rfl rfl (Nat.le_of_ble_eq_true rfl) fun ac hs => ?_
  refine wp_seq ?_
  refine wp_region_lit ?_
  refine lstep (wpO_plain rfl (op_box hs none none (cs := (Wl a)) rfl rfl rfl rfl rfl rfl fun g1 ac w hs => ?_))
  refine lstep (wpO_plain rfl (op_box hs none none (cs := (Wl b)) rfl rfl rfl rfl rfl rfl fun g2 ac w hs => ?_))
  refine lstep (wpO_plain rfl (op_box hs none none (cs := (Wl c)) rfl rfl rfl rfl rfl rfl fun g3 ac w hs => ?_))
  refine lstep (wpO_plain rfl (op_assign hs none rfl rfl rfl rfl fun ac hs => ?_))
  refine wpList_nil ?_
  refine then_n ?_
  refine wp_seq ?_
  replace hs : St 83 w0 [(3, true, .pointer (some ⟨g1, 0, none⟩)), (4, true, .pointer (some ⟨g2, 0, none⟩)), (5, true, .pointer (some ⟨g3, 0, none⟩)), (6, true, .bool false)] [(true, g1, 24, (Wl a)), (true, g2, 24, (Wl b)), (true, g3, 24, (Wl c))] ac w := hs.re ⟨rfl, rfl, rfl, rfl, trivial⟩
  obtain ⟨r4, hr4, lr4⟩ : ∃ r, (b + c) % Nord = r ∧ r < 2 ^ 256 := ⟨_, rfl, modN_lt _⟩
  obtain ⟨r5, hr5, lr5⟩ : ∃ r, a * r4 % Nord = r ∧ r < 2 ^ 256 := ⟨_, rfl, modN_lt _⟩
  obtain ⟨r6, hr6, lr6⟩ : ∃ r, a * b % Nord = r ∧ r < 2 ^ 256 := ⟨_, rfl, modN_lt _⟩
  obtain ⟨r7, hr7, lr7⟩ : ∃ r, a * c % Nord = r ∧ r < 2 ^ 256 := ⟨_, rfl, modN_lt _⟩
  obtain ⟨r8, hr8, lr8⟩ : ∃ r, (r6 + r7) % Nord = r ∧ r < 2 ^ 256 := ⟨_, rfl, modN_lt _⟩
  refine region_inv [([], [4, 7, 10, 11, 12, 13]), ([], [3, 4, 7, 10, 11, 12, 13]), ([], [3, 4, 7, 10, 11, 12, 13]), ([1, 2], [4, 7, 10, 11, 12, 13]), ([0, 1, 2, 3], [7, 10, 11, 12, 13]), ([], [7, 10, 11, 12, 13]), ([], [7, 10, 11, 12, 13]), ([0, 1, 2, 3, 4, 5, 6], [10, 11, 12, 13]), ([], [10, 11, 12, 13]), ([], [10, 11, 12, 13]), ([0, 1, 2, 3, 4, 5, 6, 7, 8, 9], [11, 12, 13]), ([0, 1, 2, 3, 4, 5, 6, 7, 8, 9, 10], [12, 13]), ([0, 1, 2, 3, 4, 5, 6, 7, 8, 9, 10, 11], [13]), ([0, 1, 2, 3, 4, 5, 6, 7, 8, 9, 10, 11, 12], [])] (fun L ac w => St 83 w0 [(11, L 0, W a), (12, L 1, W b), (13, L 2, W c), (14, L 3, W r4), (15, L 4, W r5), (16, L 5, W a), (17, L 6, W b), (18, L 7, W r6), (19, L 8, W a), (20, L 9, W c), (21, L 10, W r7), (22, L 11, W r8), (23, L 12, .bool true), (7, L 13, .bool true), (3, true, .pointer (some ⟨g1, 0, none⟩)), (4, true, .pointer (some ⟨g2, 0, none⟩)), (5, true, .pointer (some ⟨g3, 0, none⟩)), (6, true, .bool false)] [(true, g1, 24, (Wl a)), (true, g2, 24, (Wl b)), (true, g3, 24, (Wl c))] ac w) (by kernel_rfl) (by kernel_rfl) ?_ ?_ ?_
  · exact hs.drew.skip.skip.skip.skip.skip.skip.skip.skip.skip.skip.skip.skip.skip.skip
  · refine ⟨?_, ?_, ?_, ?_, ?_, ?_, ?_, ?_, ?_, ?_, ?_, ?_, ?_, ?_, trivial⟩
    · intro L ac w hJ
      have hs := hJ
      refine wpO_plain rfl (op_load hs (some 0) 0 (v := W a) rfl rfl rfl rfl Try.isAgg24 Try.sizeOf24 rfl rfl fun ac hs => ?_)
      exact hs
    · intro L ac w hJ
      have hs := hJ
      refine wpO_plain rfl (op_load hs (some 1) 1 (v := W b) rfl rfl rfl rfl Try.isAgg24 Try.sizeOf24 rfl rfl fun ac hs => ?_)
      exact hs
    · intro L ac w hJ
      have hs := hJ
      refine wpO_plain rfl (op_load hs (some 2) 2 (v := W c) rfl rfl rfl rfl Try.isAgg24 Try.sizeOf24 rfl rfl fun ac hs => ?_)
      exact hs
    · intro L ac w hJ
      have hs := hJ
      refine wpO_plain rfl (op_call (F := 13) hs (some 3) (v := W r4) rfl rfl rfl rfl (Try.call13 _) (sadd_c b c r4 hb hcc hr4) rfl fun ac w hs => ?_)
      exact hs
    · intro L ac w hJ
      have hs := hJ
      refine wpO_plain rfl (op_call (F := 17) hs (some 4) (v := W r5) rfl rfl rfl rfl (Try.call17 _) (smul_c a r4 r5 ha lr4 hr5) rfl fun ac w hs => ?_)
      exact hs
    · intro L ac w hJ
      have hs := hJ
      refine wpO_plain rfl (op_load hs (some 5) 0 (v := W a) rfl rfl rfl rfl Try.isAgg24 Try.sizeOf24 rfl rfl fun ac hs => ?_)
      exact hs
    · intro L ac w hJ
      have hs := hJ
      refine wpO_plain rfl (op_load hs (some 6) 1 (v := W b) rfl rfl rfl rfl Try.isAgg24 Try.sizeOf24 rfl rfl fun ac hs => ?_)
      exact hs
    · intro L ac w hJ
      have hs := hJ
      refine wpO_plain rfl (op_call (F := 17) hs (some 7) (v := W r6) rfl rfl rfl rfl (Try.call17 _) (smul_c a b r6 ha hb hr6) rfl fun ac w hs => ?_)
      exact hs
    · intro L ac w hJ
      have hs := hJ
      refine wpO_plain rfl (op_load hs (some 8) 0 (v := W a) rfl rfl rfl rfl Try.isAgg24 Try.sizeOf24 rfl rfl fun ac hs => ?_)
      exact hs
    · intro L ac w hJ
      have hs := hJ
      refine wpO_plain rfl (op_load hs (some 9) 2 (v := W c) rfl rfl rfl rfl Try.isAgg24 Try.sizeOf24 rfl rfl fun ac hs => ?_)
      exact hs
    · intro L ac w hJ
      have hs := hJ
      refine wpO_plain rfl (op_call (F := 17) hs (some 10) (v := W r7) rfl rfl rfl rfl (Try.call17 _) (smul_c a c r7 ha hcc hr7) rfl fun ac w hs => ?_)
      exact hs
    · intro L ac w hJ
      have hs := hJ
      refine wpO_plain rfl (op_call (F := 13) hs (some 11) (v := W r8) rfl rfl rfl rfl (Try.call13 _) (sadd_c r6 r7 r8 lr6 lr7 hr8) rfl fun ac w hs => ?_)
      exact hs
    · intro L ac w hJ
      have hs := hJ
      refine wpO_plain rfl (op_bin hs (some 12) (v := .bool true) rfl rfl rfl rfl (fun w => run_eqGuard_agg w .eql 24 _ _ _ _ Try.eqGuardType24) (eqlW r5 r8 lr5 lr8 true (decide_eq_true (by rw [← hr8, ← hr7, ← hr6, ← hr5, ← hr4]; exact law_dist a b c))) rfl fun ac hs => ?_)
      exact hs
    · intro L ac w hJ
      have hs := hJ
      refine wpO_plain rfl (op_assign hs (some 13) rfl rfl rfl rfl fun ac hs => ?_)
      exact hs
  intro ac w hJ
  replace hs : St 83 w0 [(11, true, W a), (12, true, W b), (13, true, W c), (14, true, W r4), (15, true, W r5), (16, true, W a), (17, true, W b), (18, true, W r6), (19, true, W a), (20, true, W c), (21, true, W r7), (22, true, W r8), (23, true, .bool true), (7, true, .bool true), (3, true, .pointer (some ⟨g1, 0, none⟩)), (4, true, .pointer (some ⟨g2, 0, none⟩)), (5, true, .pointer (some ⟨g3, 0, none⟩)), (6, true, .bool false)] [(true, g1, 24, (Wl a)), (true, g2, 24, (Wl b)), (true, g3, 24, (Wl c))] ac w := hJ
  refine then_n ?_
  refine wp_seq ?_
  replace hs : St 83 w0 [(3, true, .pointer (some ⟨g1, 0, none⟩)), (4, true, .pointer (some ⟨g2, 0, none⟩)), (5, true, .pointer (some ⟨g3, 0, none⟩)), (6, true, .bool false), (7, true, .bool true)] [(true, g1, 24, (Wl a)), (true, g2, 24, (Wl b)), (true, g3, 24, (Wl c))] ac w := hs.re ⟨rfl, rfl, rfl, rfl, rfl, trivial⟩
  obtain ⟨r9, hr9, lr9⟩ : ∃ r, b * c % Nord = r ∧ r < 2 ^ 256 := ⟨_, rfl, modN_lt _⟩
  obtain ⟨r10, hr10, lr10⟩ : ∃ r, a * r9 % Nord = r ∧ r < 2 ^ 256 := ⟨_, rfl, modN_lt _⟩
  obtain ⟨r11, hr11, lr11⟩ : ∃ r, a * b % Nord = r ∧ r < 2 ^ 256 := ⟨_, rfl, modN_lt _⟩
  obtain ⟨r12, hr12, lr12⟩ : ∃ r, r11 * c % Nord = r ∧ r < 2 ^ 256 := ⟨_, rfl, modN_lt _⟩
  refine region_inv [([], [4, 7, 9, 10, 11]), ([], [3, 4, 7, 9, 10, 11]), ([], [3, 4, 7, 9, 10, 11]), ([1, 2], [4, 7, 9, 10, 11]), ([0, 1, 2, 3], [7, 9, 10, 11]), ([], [7, 9, 10, 11]), ([], [7, 9, 10, 11]), ([0, 1, 2, 3, 4, 5, 6], [9, 10, 11]), ([], [9, 10, 11]), ([0, 1, 2, 3, 4, 5, 6, 7, 8], [10, 11]), ([0, 1, 2, 3, 4, 5, 6, 7, 8, 9], [11]), ([0, 1, 2, 3, 4, 5, 6, 7, 8, 9, 10], [])] (fun L ac w => St 83 w0 [(24, L 0, W a), (25, L 1, W b), (26, L 2, W c), (27, L 3, W r9), (28, L 4, W r10), (29, L 5, W a), (30, L 6, W b), (31, L 7, W r11), (32, L 8, W c), (33, L 9, W r12), (34, L 10, .bool true), (8, L 11, .bool true), (3, true, .pointer (some ⟨g1, 0, none⟩)), (4, true, .pointer (some ⟨g2, 0, none⟩)), (5, true, .pointer (some ⟨g3, 0, none⟩)), (6, true, .bool false), (7, true, .bool true)] [(true, g1, 24, (Wl a)), (true, g2, 24, (Wl b)), (true, g3, 24, (Wl c))] ac w) (by kernel_rfl) (by kernel_rfl) ?_ ?_ ?_
  · exact hs.drew.skip.skip.skip.skip.skip.skip.skip.skip.skip.skip.skip.skip
  · refine ⟨?_, ?_, ?_, ?_, ?_, ?_, ?_, ?_, ?_, ?_, ?_, ?_, trivial⟩
    · intro L ac w hJ
      have hs := hJ
      refine wpO_plain rfl (op_load hs (some 0) 0 (v := W a) rfl rfl rfl rfl Try.isAgg24 Try.sizeOf24 rfl rfl fun ac hs => ?_)
      exact hs
    · intro L ac w hJ
      have hs := hJ
      refine wpO_plain rfl (op_load hs (some 1) 1 (v := W b) rfl rfl rfl rfl Try.isAgg24 Try.sizeOf24 rfl rfl fun ac hs => ?_)
      exact hs
    · intro L ac w hJ
      have hs := hJ
      refine wpO_plain rfl (op_load hs (some 2) 2 (v := W c) rfl rfl rfl rfl Try.isAgg24 Try.sizeOf24 rfl rfl fun ac hs => ?_)
      exact hs
    · intro L ac w hJ
      have hs := hJ
      refine wpO_plain rfl (op_call (F := 17) hs (some 3) (v := W r9) rfl rfl rfl rfl (Try.call17 _) (smul_c b c r9 hb hcc hr9) rfl fun ac w hs => ?_)
      exact hs
    · intro L ac w hJ
      have hs := hJ
      refine wpO_plain rfl (op_call (F := 17) hs (some 4) (v := W r10) rfl rfl rfl rfl (Try.call17 _) (smul_c a r9 r10 ha lr9 hr10) rfl fun ac w hs => ?_)
      exact hs
    · intro L ac w hJ
      have hs := hJ
      refine wpO_plain rfl (op_load hs (some 5) 0 (v := W a) rfl rfl rfl rfl Try.isAgg24 Try.sizeOf24 rfl rfl fun ac hs => ?_)
      exact hs
    · intro L ac w hJ
      have hs := hJ
      refine wpO_plain rfl (op_load hs (some 6) 1 (v := W b) rfl rfl rfl rfl Try.isAgg24 Try.sizeOf24 rfl rfl fun ac hs => ?_)
      exact hs
    · intro L ac w hJ
      have hs := hJ
      refine wpO_plain rfl (op_call (F := 17) hs (some 7) (v := W r11) rfl rfl rfl rfl (Try.call17 _) (smul_c a b r11 ha hb hr11) rfl fun ac w hs => ?_)
      exact hs
    · intro L ac w hJ
      have hs := hJ
      refine wpO_plain rfl (op_load hs (some 8) 2 (v := W c) rfl rfl rfl rfl Try.isAgg24 Try.sizeOf24 rfl rfl fun ac hs => ?_)
      exact hs
    · intro L ac w hJ
      have hs := hJ
      refine wpO_plain rfl (op_call (F := 17) hs (some 9) (v := W r12) rfl rfl rfl rfl (Try.call17 _) (smul_c r11 c r12 lr11 hcc hr12) rfl fun ac w hs => ?_)
      exact hs
    · intro L ac w hJ
      have hs := hJ
      refine wpO_plain rfl (op_bin hs (some 10) (v := .bool true) rfl rfl rfl rfl (fun w => run_eqGuard_agg w .eql 24 _ _ _ _ Try.eqGuardType24) (eqlW r10 r12 lr10 lr12 true (decide_eq_true (by rw [← hr12, ← hr11, ← hr10, ← hr9]; exact law_massoc a b c))) rfl fun ac hs => ?_)
      exact hs
    · intro L ac w hJ
      have hs := hJ
      refine wpO_plain rfl (op_assign hs (some 11) rfl rfl rfl rfl fun ac hs => ?_)
      exact hs
  intro ac w hJ
  replace hs : St 83 w0 [(24, true, W a), (25, true, W b), (26, true, W c), (27, true, W r9), (28, true, W r10), (29, true, W a), (30, true, W b), (31, true, W r11), (32, true, W c), (33, true, W r12), (34, true, .bool true), (8, true, .bool true), (3, true, .pointer (some ⟨g1, 0, none⟩)), (4, true, .pointer (some ⟨g2, 0, none⟩)), (5, true, .pointer (some ⟨g3, 0, none⟩)), (6, true, .bool false), (7, true, .bool true)] [(true, g1, 24, (Wl a)), (true, g2, 24, (Wl b)), (true, g3, 24, (Wl c))] ac w := hJ
  refine then_n ?_
  refine wp_seq ?_
  replace hs : St 83 w0 [(3, true, .pointer (some ⟨g1, 0, none⟩)), (4, true, .pointer (some ⟨g2, 0, none⟩)), (5, true, .pointer (some ⟨g3, 0, none⟩)), (6, true, .bool false), (7, true, .bool true), (8, true, .bool true)] [(true, g1, 24, (Wl a)), (true, g2, 24, (Wl b)), (true, g3, 24, (Wl c))] ac w := hs.re ⟨rfl, rfl, rfl, rfl, rfl, rfl, trivial⟩
  obtain ⟨r13, hr13, lr13⟩ : ∃ r, (b + c) % Nord = r ∧ r < 2 ^ 256 := ⟨_, rfl, modN_lt _⟩
  obtain ⟨r14, hr14, lr14⟩ : ∃ r, (a + r13) % Nord = r ∧ r < 2 ^ 256 := ⟨_, rfl, modN_lt _⟩
  obtain ⟨r15, hr15, lr15⟩ : ∃ r, (a + b) % Nord = r ∧ r < 2 ^ 256 := ⟨_, rfl, modN_lt _⟩
  obtain ⟨r16, hr16, lr16⟩ : ∃ r, (r15 + c) % Nord = r ∧ r < 2 ^ 256 := ⟨_, rfl, modN_lt _⟩
  refine region_inv [([], [4, 7, 9, 10, 11]), ([], [3, 4, 7, 9, 10, 11]), ([], [3, 4, 7, 9, 10, 11]), ([1, 2], [4, 7, 9, 10, 11]), ([0, 1, 2, 3], [7, 9, 10, 11]), ([], [7, 9, 10, 11]), ([], [7, 9, 10, 11]), ([0, 1, 2, 3, 4, 5, 6], [9, 10, 11]), ([], [9, 10, 11]), ([0, 1, 2, 3, 4, 5, 6, 7, 8], [10, 11]), ([0, 1, 2, 3, 4, 5, 6, 7, 8, 9], [11]), ([0, 1, 2, 3, 4, 5, 6, 7, 8, 9, 10], [])] (fun L ac w => St 83 w0 [(35, L 0, W a), (36, L 1, W b), (37, L 2, W c), (38, L 3, W r13), (39, L 4, W r14), (40, L 5, W a), (41, L 6, W b), (42, L 7, W r15), (43, L 8, W c), (44, L 9, W r16), (45, L 10, .bool true), (9, L 11, .bool true), (3, true, .pointer (some ⟨g1, 0, none⟩)), (4, true, .pointer (some ⟨g2, 0, none⟩)), (5, true, .pointer (some ⟨g3, 0, none⟩)), (6, true, .bool false), (7, true, .bool true), (8, true, .bool true)] [(true, g1, 24, (Wl a)), (true, g2, 24, (Wl b)), (true, g3, 24, (Wl c))] ac w) (by kernel_rfl) (by kernel_rfl) ?_ ?_ ?_
  · exact hs.drew.skip.skip.skip.skip.skip.skip.skip.skip.skip.skip.skip.skip
  · refine ⟨?_, ?_, ?_, ?_, ?_, ?_, ?_, ?_, ?_, ?_, ?_, ?_, trivial⟩
    · intro L ac w hJ
      have hs := hJ
      refine wpO_plain rfl (op_load hs (some 0) 0 (v := W a) rfl rfl rfl rfl Try.isAgg24 Try.sizeOf24 rfl rfl fun ac hs => ?_)
      exact hs
    · intro L ac w hJ
      have hs := hJ
      refine wpO_plain rfl (op_load hs (some 1) 1 (v := W b) rfl rfl rfl rfl Try.isAgg24 Try.sizeOf24 rfl rfl fun ac hs => ?_)
      exact hs
    · intro L ac w hJ
      have hs := hJ
      refine wpO_plain rfl (op_load hs (some 2) 2 (v := W c) rfl rfl rfl rfl Try.isAgg24 Try.sizeOf24 rfl rfl fun ac hs => ?_)
      exact hs
    · intro L ac w hJ
      have hs := hJ
      refine wpO_plain rfl (op_call (F := 13) hs (some 3) (v := W r13) rfl rfl rfl rfl (Try.call13 _) (sadd_c b c r13 hb hcc hr13) rfl fun ac w hs => ?_)
      exact hs
    · intro L ac w hJ
      have hs := hJ
      refine wpO_plain rfl (op_call (F := 13) hs (some 4) (v := W r14) rfl rfl rfl rfl (Try.call13 _) (sadd_c a r13 r14 ha lr13 hr14) rfl fun ac w hs => ?_)
      exact hs
    · intro L ac w hJ
      have hs := hJ
      refine wpO_plain rfl (op_load hs (some 5) 0 (v := W a) rfl rfl rfl rfl Try.isAgg24 Try.sizeOf24 rfl rfl fun ac hs => ?_)
      exact hs
    · intro L ac w hJ
      have hs := hJ
      refine wpO_plain rfl (op_load hs (some 6) 1 (v := W b) rfl rfl rfl rfl Try.isAgg24 Try.sizeOf24 rfl rfl fun ac hs => ?_)
      exact hs
    · intro L ac w hJ
      have hs := hJ
      refine wpO_plain rfl (op_call (F := 13) hs (some 7) (v := W r15) rfl rfl rfl rfl (Try.call13 _) (sadd_c a b r15 ha hb hr15) rfl fun ac w hs => ?_)
      exact hs
    · intro L ac w hJ
      have hs := hJ
      refine wpO_plain rfl (op_load hs (some 8) 2 (v := W c) rfl rfl rfl rfl Try.isAgg24 Try.sizeOf24 rfl rfl fun ac hs => ?_)
      exact hs
    · intro L ac w hJ
      have hs := hJ
      refine wpO_plain rfl (op_call (F := 13) hs (some 9) (v := W r16) rfl rfl rfl rfl (Try.call13 _) (sadd_c r15 c r16 lr15 hcc hr16) rfl fun ac w hs => ?_)
      exact hs
    · intro L ac w hJ
      have hs := hJ
      refine wpO_plain rfl (op_bin hs (some 10) (v := .bool true) rfl rfl rfl rfl (fun w => run_eqGuard_agg w .eql 24 _ _ _ _ Try.eqGuardType24) (eqlW r14 r16 lr14 lr16 true (decide_eq_true (by rw [← hr16, ← hr15, ← hr14, ← hr13]; exact law_aassoc a b c))) rfl fun ac hs => ?_)
      exact hs
    · intro L ac w hJ
      have hs := hJ
      refine wpO_plain rfl (op_assign hs (some 11) rfl rfl rfl rfl fun ac hs => ?_)
      exact hs
  intro ac w hJ
  replace hs : St 83 w0 [(35, true, W a), (36, true, W b), (37, true, W c), (38, true, W r13), (39, true, W r14), (40, true, W a), (41, true, W b), (42, true, W r15), (43, true, W c), (44, true, W r16), (45, true, .bool true), (9, true, .bool true), (3, true, .pointer (some ⟨g1, 0, none⟩)), (4, true, .pointer (some ⟨g2, 0, none⟩)), (5, true, .pointer (some ⟨g3, 0, none⟩)), (6, true, .bool false), (7, true, .bool true), (8, true, .bool true)] [(true, g1, 24, (Wl a)), (true, g2, 24, (Wl b)), (true, g3, 24, (Wl c))] ac w := hJ
  refine then_n ?_
  refine wp_seq ?_
  replace hs : St 83 w0 [(3, true, .pointer (some ⟨g1, 0, none⟩)), (4, true, .pointer (some ⟨g2, 0, none⟩)), (6, true, .bool false), (7, true, .bool true), (8, true, .bool true), (9, true, .bool true)] [(true, g1, 24, (Wl a)), (true, g2, 24, (Wl b)), (true, g3, 24, (Wl c))] ac w := hs.re ⟨rfl, rfl, rfl, rfl, rfl, rfl, trivial⟩
  obtain ⟨r17, hr17, lr17⟩ : ∃ r, (a + b) % Nord = r ∧ r < 2 ^ 256 := ⟨_, rfl, modN_lt _⟩
  obtain ⟨r18, hr18, lr18⟩ : ∃ r, (b + a) % Nord = r ∧ r < 2 ^ 256 := ⟨_, rfl, modN_lt _⟩
  obtain ⟨r19, hr19, lr19⟩ : ∃ r, a * b % Nord = r ∧ r < 2 ^ 256 := ⟨_, rfl, modN_lt _⟩
  obtain ⟨r20, hr20, lr20⟩ : ∃ r, b * a % Nord = r ∧ r < 2 ^ 256 := ⟨_, rfl, modN_lt _⟩
  refine region_inv [([], [2, 5, 6, 7, 8, 9, 10, 11, 12, 13, 14, 15, 16]), ([], [2, 5, 6, 7, 8, 9, 10, 11, 12, 13, 14, 15, 16]), ([0, 1], [5, 6, 7, 8, 9, 10, 11, 12, 13, 14, 15, 16]), ([], [5, 6, 7, 8, 9, 10, 11, 12, 13, 14, 15, 16]), ([], [5, 6, 7, 8, 9, 10, 11, 12, 13, 14, 15, 16]), ([0, 1, 2, 3, 4], [6, 7, 8, 9, 10, 11, 12, 13, 14, 15, 16]), ([0, 1, 2, 3, 4, 5], [7, 8, 9, 10, 11, 12, 13, 14, 15, 16]), ([0, 1, 2, 3, 4, 5, 6], [8, 9, 10, 11, 12, 13, 14, 15, 16]), ([0, 1, 2, 3, 4, 5, 6, 7], [10, 13, 14, 15, 16]), ([0, 1, 2, 3, 4, 5, 6, 7], [10, 13, 14, 15, 16]), ([0, 1, 2, 3, 4, 5, 6, 7, 8, 9], [13, 14, 15, 16]), ([0, 1, 2, 3, 4, 5, 6, 7], [13, 14, 15, 16]), ([0, 1, 2, 3, 4, 5, 6, 7], [13, 14, 15, 16]), ([0, 1, 2, 3, 4, 5, 6, 7, 8, 9, 10, 11, 12], [14, 15, 16]), ([0, 1, 2, 3, 4, 5, 6, 7, 8, 9, 10, 11, 12, 13], [15, 16]), ([0, 1, 2, 3, 4, 5, 6, 7, 8, 9, 10, 11, 12, 13, 14], [16]), ([0, 1, 2, 3, 4, 5, 6, 7, 8, 9, 10, 11, 12, 13, 14, 15], [])] (fun L ac w => St 83 w0 [(46, L 0, W a), (47, L 1, W b), (48, L 2, W r17), (49, L 3, W b), (50, L 4, W a), (51, L 5, W r18), (52, L 6, .bool true), (53, L 7, .bool true), (54, L 8, W a), (55, L 9, W b), (56, L 10, W r19), (57, L 11, W b), (58, L 12, W a), (59, L 13, W r20), (60, L 14, .bool true), (61, L 15, .bool true), (10, L 16, .bool true), (3, true, .pointer (some ⟨g1, 0, none⟩)), (4, true, .pointer (some ⟨g2, 0, none⟩)), (6, true, .bool false), (7, true, .bool true), (8, true, .bool true), (9, true, .bool true)] [(true, g1, 24, (Wl a)), (true, g2, 24, (Wl b)), (true, g3, 24, (Wl c))] ac w) (by kernel_rfl) (by kernel_rfl) ?_ ?_ ?_
  · exact hs.drew.skip.skip.skip.skip.skip.skip.skip.skip.skip.skip.skip.skip.skip.skip.skip.skip.skip
  · refine ⟨?_, ?_, ?_, ?_, ?_, ?_, ?_, ?_, ?_, ?_, ?_, ?_, ?_, ?_, ?_, ?_, ?_, trivial⟩
    · intro L ac w hJ
      have hs := hJ
      refine wpO_plain rfl (op_load hs (some 0) 0 (v := W a) rfl rfl rfl rfl Try.isAgg24 Try.sizeOf24 rfl rfl fun ac hs => ?_)
      exact hs
    · intro L ac w hJ
      have hs := hJ
      refine wpO_plain rfl (op_load hs (some 1) 1 (v := W b) rfl rfl rfl rfl Try.isAgg24 Try.sizeOf24 rfl rfl fun ac hs => ?_)
      exact hs
    · intro L ac w hJ
      have hs := hJ
      refine wpO_plain rfl (op_call (F := 13) hs (some 2) (v := W r17) rfl rfl rfl rfl (Try.call13 _) (sadd_c a b r17 ha hb hr17) rfl fun ac w hs => ?_)
      exact hs
    · intro L ac w hJ
      have hs := hJ
      refine wpO_plain rfl (op_load hs (some 3) 1 (v := W b) rfl rfl rfl rfl Try.isAgg24 Try.sizeOf24 rfl rfl fun ac hs => ?_)
      exact hs
    · intro L ac w hJ
      have hs := hJ
      refine wpO_plain rfl (op_load hs (some 4) 0 (v := W a) rfl rfl rfl rfl Try.isAgg24 Try.sizeOf24 rfl rfl fun ac hs => ?_)
      exact hs
    · intro L ac w hJ
      have hs := hJ
      refine wpO_plain rfl (op_call (F := 13) hs (some 5) (v := W r18) rfl rfl rfl rfl (Try.call13 _) (sadd_c b a r18 hb ha hr18) rfl fun ac w hs => ?_)
      exact hs
    · intro L ac w hJ
      have hs := hJ
      refine wpO_plain rfl (op_bin hs (some 6) (v := .bool true) rfl rfl rfl rfl (fun w => run_eqGuard_agg w .eql 24 _ _ _ _ Try.eqGuardType24) (eqlW r17 r18 lr17 lr18 true (decide_eq_true (by rw [← hr18, ← hr17]; exact law_acomm a b))) rfl fun ac hs => ?_)
      exact hs
    · intro L ac w hJ
      have hs := hJ
      refine wpO_plain rfl (op_move hs (some 7) rfl rfl rfl rfl fun ac hs => ?_)
      exact hs
    · intro L ac w hJ
      have hs := hJ
      refine wpO_in hs rfl rfl rfl (op_load hs (some 8) 0 (v := W a) rfl rfl rfl rfl Try.isAgg24 Try.sizeOf24 rfl rfl fun ac hs => ?_)
      exact hs
    · intro L ac w hJ
      have hs := hJ
      refine wpO_in hs rfl rfl rfl (op_load hs (some 9) 1 (v := W b) rfl rfl rfl rfl Try.isAgg24 Try.sizeOf24 rfl rfl fun ac hs => ?_)
      exact hs
    · intro L ac w hJ
      have hs := hJ
      refine wpO_in hs rfl rfl rfl (op_call (F := 17) hs (some 10) (v := W r19) rfl rfl rfl rfl (Try.call17 _) (smul_c a b r19 ha hb hr19) rfl fun ac w hs => ?_)
      exact hs
    · intro L ac w hJ
      have hs := hJ
      refine wpO_in hs rfl rfl rfl (op_load hs (some 11) 1 (v := W b) rfl rfl rfl rfl Try.isAgg24 Try.sizeOf24 rfl rfl fun ac hs => ?_)
      exact hs
    · intro L ac w hJ
      have hs := hJ
      refine wpO_in hs rfl rfl rfl (op_load hs (some 12) 0 (v := W a) rfl rfl rfl rfl Try.isAgg24 Try.sizeOf24 rfl rfl fun ac hs => ?_)
      exact hs
    · intro L ac w hJ
      have hs := hJ
      refine wpO_in hs rfl rfl rfl (op_call (F := 17) hs (some 13) (v := W r20) rfl rfl rfl rfl (Try.call17 _) (smul_c b a r20 hb ha hr20) rfl fun ac w hs => ?_)
      exact hs
    · intro L ac w hJ
      have hs := hJ
      refine wpO_in hs rfl rfl rfl (op_bin hs (some 14) (v := .bool true) rfl rfl rfl rfl (fun w => run_eqGuard_agg w .eql 24 _ _ _ _ Try.eqGuardType24) (eqlW r19 r20 lr19 lr20 true (decide_eq_true (by rw [← hr20, ← hr19]; exact law_mcomm a b))) rfl fun ac hs => ?_)
      exact hs
    · intro L ac w hJ
      have hs := hJ
      refine wpO_plain rfl (op_pickT hs (some 15) rfl rfl rfl rfl rfl fun ac hs => ?_)
      exact hs
    · intro L ac w hJ
      have hs := hJ
      refine wpO_plain rfl (op_assign hs (some 16) rfl rfl rfl rfl fun ac hs => ?_)
      exact hs
  intro ac w hJ
  replace hs : St 83 w0 [(46, true, W a), (47, true, W b), (48, true, W r17), (49, true, W b), (50, true, W a), (51, true, W r18), (52, true, .bool true), (53, true, .bool true), (54, true, W a), (55, true, W b), (56, true, W r19), (57, true, W b), (58, true, W a), (59, true, W r20), (60, true, .bool true), (61, true, .bool true), (10, true, .bool true), (3, true, .pointer (some ⟨g1, 0, none⟩)), (4, true, .pointer (some ⟨g2, 0, none⟩)), (6, true, .bool false), (7, true, .bool true), (8, true, .bool true), (9, true, .bool true)] [(true, g1, 24, (Wl a)), (true, g2, 24, (Wl b)), (true, g3, 24, (Wl c))] ac w := hJ
  refine then_n ?_
  refine wp_seq ?_
  replace hs : St 83 w0 [(3, true, .pointer (some ⟨g1, 0, none⟩)), (6, true, .bool false), (7, true, .bool true), (8, true, .bool true), (9, true, .bool true), (10, true, .bool true)] [(true, g1, 24, (Wl a)), (true, g2, 24, (Wl b)), (true, g3, 24, (Wl c))] ac w := hs.re ⟨rfl, rfl, rfl, rfl, rfl, rfl, trivial⟩
  obtain ⟨r21, hr21, lr21⟩ : ∃ r, (Nord - a % Nord) % Nord = r ∧ r < 2 ^ 256 := ⟨_, rfl, modN_lt _⟩
  obtain ⟨r22, hr22, lr22⟩ : ∃ r, (a + r21) % Nord = r ∧ r < 2 ^ 256 := ⟨_, rfl, modN_lt _⟩
  refine region_inv [([], [1, 2, 3, 4, 5, 6, 7, 8, 9, 10, 11, 12, 13, 14, 15, 16, 17, 18, 19, 20, 21]), ([0], [2, 3, 4, 5, 6, 7, 8, 9, 10, 11, 12, 13, 14, 15, 16, 17, 18, 19, 20, 21]), ([0, 1], [3, 4, 5, 6, 7, 8, 9, 10, 11, 12, 13, 14, 15, 16, 17, 18, 19, 20, 21]), ([0, 1, 2], [4, 5, 6, 7, 8, 9, 10, 11, 12, 13, 14, 15, 16, 17, 18, 19, 20, 21]), ([0, 1, 2, 3], [5, 6, 7, 8, 9, 10, 11, 12, 13, 14, 15, 16, 17, 18, 19, 20, 21]), ([0, 1, 2, 3, 4], [6, 7, 8, 9, 10, 11, 12, 13, 14, 15, 16, 17, 18, 19, 20, 21]), ([0, 1, 2, 3, 4, 5], [7, 8, 9, 10, 11, 12, 13, 14, 15, 16, 17, 18, 19, 20, 21]), ([0, 1, 2, 3, 4, 5, 6], [8, 9, 10, 11, 12, 13, 14, 15, 16, 17, 18, 19, 20, 21]), ([0, 1, 2, 3, 4, 5, 6, 7], [9, 10, 11, 12, 13, 14, 15, 16, 17, 18, 19, 20, 21]), ([0, 1, 2, 3, 4, 5, 6, 7, 8], [10, 11, 12, 13, 14, 15, 16, 17, 18, 19, 20, 21]), ([0, 1, 2, 3, 4, 5, 6, 7, 8, 9], [11, 12, 13, 14, 15, 16, 17, 18, 19, 20, 21]), ([0, 1, 2, 3, 4, 5, 6, 7, 8, 9, 10], [12, 13, 14, 15, 16, 17, 18, 19, 20, 21]), ([0, 1, 2, 3, 4, 5, 6, 7, 8, 9, 10, 11], [13, 14, 15, 16, 17, 18, 19, 20, 21]), ([0, 1, 2, 3, 4, 5, 6, 7, 8, 9, 10, 11, 12], [14, 15, 16, 17, 18, 19, 20, 21]), ([0, 1, 2, 3, 4, 5, 6, 7, 8, 9, 10, 11, 12, 13], [17, 19, 20, 21]), ([0, 1, 2, 3, 4, 5, 6, 7, 8, 9, 10, 11, 12, 13], [16, 17, 19, 20, 21]), ([0, 1, 2, 3, 4, 5, 6, 7, 8, 9, 10, 11, 12, 13, 15], [17, 19, 20, 21]), ([0, 1, 2, 3, 4, 5, 6, 7, 8, 9, 10, 11, 12, 13, 14, 15, 16], [19, 20, 21]), ([0, 1, 2, 3, 4, 5, 6, 7, 8, 9, 10, 11, 12, 13], [19, 20, 21]), ([0, 1, 2, 3, 4, 5, 6, 7, 8, 9, 10, 11, 12, 13, 14, 15, 16, 17, 18], [20, 21]), ([0, 1, 2, 3, 4, 5, 6, 7, 8, 9, 10, 11, 12, 13, 14, 15, 16, 17, 18, 19], [21]), ([0, 1, 2, 3, 4, 5, 6, 7, 8, 9, 10, 11, 12, 13, 14, 15, 16, 17, 18, 19, 20], [])] (fun L ac w => St 83 w0 [(62, L 0, .bool true), (63, L 1, .bool true), (64, L 2, .bool true), (65, L 3, .bool true), (66, L 4, .bool true), (67, L 5, .bool true), (68, L 6, .bool true), (69, L 7, .bool true), (70, L 8, .bool true), (71, L 9, .bool true), (72, L 10, .bool true), (73, L 11, .bool true), (74, L 12, .bool true), (75, L 13, .bool true), (76, L 14, W a), (77, L 15, W a), (78, L 16, W r21), (79, L 17, W r22), (80, L 18, .agg #[.int .u64 0, .int .u64 0, .int .u64 0, .int .u64 0]), (81, L 19, .bool true), (82, L 20, .bool true), (6, L 21, .bool true), (3, true, .pointer (some ⟨g1, 0, none⟩)), (6, true, .bool false), (7, true, .bool true), (8, true, .bool true), (9, true, .bool true), (10, true, .bool true)] [(true, g1, 24, (Wl a)), (true, g2, 24, (Wl b)), (true, g3, 24, (Wl c))] ac w) (by kernel_rfl) (by kernel_rfl) ?_ ?_ ?_
  · exact hs.drew.skip.skip.skip.skip.skip.skip.skip.skip.skip.skip.skip.skip.skip.skip.skip.skip.skip.skip.skip.skip.skip.skip
  · refine ⟨?_, ?_, ?_, ?_, ?_, ?_, ?_, ?_, ?_, ?_, ?_, ?_, ?_, ?_, ?_, ?_, ?_, ?_, ?_, ?_, ?_, ?_, trivial⟩
    · intro L ac w hJ
      have hs := hJ
      refine wpO_plain rfl (op_call (F := 8) hs (some 0) (v := .bool true) rfl rfl rfl rfl (Try.call8 _) alive_c rfl fun ac w hs => ?_)
      exact hs
    · intro L ac w hJ
      have hs := hJ
      refine wpO_plain rfl (op_move hs (some 1) rfl rfl rfl rfl fun ac hs => ?_)
      exact hs
    · intro L ac w hJ
      have hs := hJ
      refine wpO_in hs rfl rfl rfl (op_move hs (some 2) rfl rfl rfl rfl fun ac hs => ?_)
      exact hs
    · intro L ac w hJ
      have hs := hJ
      refine wpO_plain rfl (op_pickT hs (some 3) rfl rfl rfl rfl rfl fun ac hs => ?_)
      exact hs
    · intro L ac w hJ
      have hs := hJ
      refine wpO_plain rfl (op_move hs (some 4) rfl rfl rfl rfl fun ac hs => ?_)
      exact hs
    · intro L ac w hJ
      have hs := hJ
      refine wpO_in hs rfl rfl rfl (op_move hs (some 5) rfl rfl rfl rfl fun ac hs => ?_)
      exact hs
    · intro L ac w hJ
      have hs := hJ
      refine wpO_plain rfl (op_pickT hs (some 6) rfl rfl rfl rfl rfl fun ac hs => ?_)
      exact hs
    · intro L ac w hJ
      have hs := hJ
      refine wpO_plain rfl (op_move hs (some 7) rfl rfl rfl rfl fun ac hs => ?_)
      exact hs
    · intro L ac w hJ
      have hs := hJ
      refine wpO_in hs rfl rfl rfl (op_move hs (some 8) rfl rfl rfl rfl fun ac hs => ?_)
      exact hs
    · intro L ac w hJ
      have hs := hJ
      refine wpO_plain rfl (op_pickT hs (some 9) rfl rfl rfl rfl rfl fun ac hs => ?_)
      exact hs
    · intro L ac w hJ
      have hs := hJ
      refine wpO_plain rfl (op_move hs (some 10) rfl rfl rfl rfl fun ac hs => ?_)
      exact hs
    · intro L ac w hJ
      have hs := hJ
      refine wpO_in hs rfl rfl rfl (op_move hs (some 11) rfl rfl rfl rfl fun ac hs => ?_)
      exact hs
    · intro L ac w hJ
      have hs := hJ
      refine wpO_plain rfl (op_pickT hs (some 12) rfl rfl rfl rfl rfl fun ac hs => ?_)
      exact hs
    · intro L ac w hJ
      have hs := hJ
      refine wpO_plain rfl (op_move hs (some 13) rfl rfl rfl rfl fun ac hs => ?_)
      exact hs
    · intro L ac w hJ
      have hs := hJ
      refine wpO_in hs rfl rfl rfl (op_load hs (some 14) 0 (v := W a) rfl rfl rfl rfl Try.isAgg24 Try.sizeOf24 rfl rfl fun ac hs => ?_)
      exact hs
    · intro L ac w hJ
      have hs := hJ
      refine wpO_in hs rfl rfl rfl (op_load hs (some 15) 0 (v := W a) rfl rfl rfl rfl Try.isAgg24 Try.sizeOf24 rfl rfl fun ac hs => ?_)
      exact hs
    · intro L ac w hJ
      have hs := hJ
      refine wpO_in hs rfl rfl rfl (op_call (F := 15) hs (some 16) (v := W r21) rfl rfl rfl rfl (Try.call15 _) (sneg_c a r21 ha hr21) rfl fun ac w hs => ?_)
      exact hs
    · intro L ac w hJ
      have hs := hJ
      refine wpO_in hs rfl rfl rfl (op_call (F := 13) hs (some 17) (v := W r22) rfl rfl rfl rfl (Try.call13 _) (sadd_c a r21 r22 ha lr21 hr22) rfl fun ac w hs => ?_)
      exact hs
    · intro L ac w hJ
      have hs := hJ
      refine wpO_in hs rfl rfl rfl (op_build hs (some 18) (qs := []) (v := .agg #[.int .u64 0, .int .u64 0, .int .u64 0, .int .u64 0]) rfl rfl rfl rfl (fun _ => by kernel_rfl) rfl fun ac hs => ?_)
      exact hs
    · intro L ac w hJ
      have hs := hJ
      refine wpO_in hs rfl rfl rfl (op_bin hs (some 19) (v := .bool true) rfl rfl rfl rfl (fun w => run_eqGuard_agg w .eql 24 _ _ _ _ Try.eqGuardType24) (eqlW r22 0 lr22 (by decide) true (decide_eq_true (by rw [← hr22, ← hr21]; exact law_neg a))) rfl fun ac hs => ?_)
      exact hs
    · intro L ac w hJ
      have hs := hJ
      refine wpO_plain rfl (op_pickT hs (some 20) rfl rfl rfl rfl rfl fun ac hs => ?_)
      exact hs
    · intro L ac w hJ
      have hs := hJ
      refine wpO_plain rfl (op_assign hs (some 21) rfl rfl rfl rfl fun ac hs => ?_)
      exact hs
  intro ac w hJ
  replace hs : St 83 w0 [(62, true, .bool true), (63, true, .bool true), (64, true, .bool true), (65, true, .bool true), (66, true, .bool true), (67, true, .bool true), (68, true, .bool true), (69, true, .bool true), (70, true, .bool true), (71, true, .bool true), (72, true, .bool true), (73, true, .bool true), (74, true, .bool true), (75, true, .bool true), (76, true, W a), (77, true, W a), (78, true, W r21), (79, true, W r22), (80, true, .agg #[.int .u64 0, .int .u64 0, .int .u64 0, .int .u64 0]), (81, true, .bool true), (82, true, .bool true), (6, true, .bool true), (3, true, .pointer (some ⟨g1, 0, none⟩)), (6, true, .bool false), (7, true, .bool true), (8, true, .bool true), (9, true, .bool true), (10, true, .bool true)] [(true, g1, 24, (Wl a)), (true, g2, 24, (Wl b)), (true, g3, 24, (Wl c))] ac w := hJ
  refine then_n ?_
  refine wp_ret ?_
  exact bodyPost_ret (res1 rfl (rv_t hs rfl)) hs.defers ⟨rfl, hs.below⟩
end Go.Proofs.Ytfaiifpdafbenaa
