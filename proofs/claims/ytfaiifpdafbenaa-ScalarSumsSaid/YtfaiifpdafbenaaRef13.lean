/- The contracts of the reference's sums modulo the order; the law of sums. -/
import Derived.Test.YtfaiifpdafbenaaRef12
import Derived.Test.YtfaiifpdafbenaaModP
import Derived.Test.YtfaiifpdafbenaaScal
namespace Go.Proofs.Ytfaiifpdafbenaa
open Go.RowKit
set_option maxRecDepth 10000

theorem rneg_eq {r : Nat} (h : r < Nord) (h0 : ¬ r = 0) : (Nord + 2 ^ 256 - r) % 2 ^ 256 = (Nord - r) % Nord := by
  have := Nord_lt
  rw [show Nord + 2 ^ 256 - r = (Nord - r) + 2 ^ 256 by omega, Nat.add_mod_right, Nat.mod_eq_of_lt (by omega), Nat.mod_eq_of_lt (by omega)]
theorem rorder_c  (w0 : World) : Calls Try.prog 10 #[] w0 fun e w' => e = .returned (W Nord) ∧ Below w0.heap.size w0 w' := by
  refine enter (n := 2) (args := []) Try.func10 rfl rfl (Nat.le_of_ble_eq_true rfl) fun ac hs => ?_
  refine wp_seq ?_
  refine wp_region_lit ?_
  refine lstep (wpO_plain rfl (op_alloc hs none none (cs := [.int .u64 0, .int .u64 0, .int .u64 0, .int .u64 0]) rfl rfl Try.zeroValue24 (by kernel_rfl) rfl rfl fun g1 ac w hs => ?_))
  refine wpList_nil ?_
  refine then_n ?_
  refine wp_seq ?_
  refine wp_region_lit ?_
  refine lstep (wpO_plain rfl (op_build hs none (qs := [(0, .int .u64 13822214165235122497), (1, .int .u64 13451932020343611451), (2, .int .u64 18446744073709551614), (3, .int .u64 18446744073709551615)]) (v := .agg #[.int .u64 13822214165235122497, .int .u64 13451932020343611451, .int .u64 18446744073709551614, .int .u64 18446744073709551615]) rfl rfl rfl rfl (fun _ => by kernel_rfl) rfl fun ac hs => ?_))
  refine lstep (wpO_plain rfl (op_store hs 0 (vs := [.int .u64 13822214165235122497, .int .u64 13451932020343611451, .int .u64 18446744073709551614, .int .u64 18446744073709551615]) rfl rfl rfl rfl rfl Try.sizeOf24 rfl rfl rfl rfl rfl fun w hs => ?_))
  refine wpList_nil ?_
  refine then_n ?_
  refine wp_ret ?_
  exact bodyPost_ret (res1 rfl (rv_c hs 0 (v := .agg #[.int .u64 13822214165235122497, .int .u64 13451932020343611451, .int .u64 18446744073709551614, .int .u64 18446744073709551615]) rfl rfl Try.isAgg24 Try.sizeOf24 rfl)) hs.defers ⟨by kernel_rfl, hs.below⟩
theorem rred_c (a x : Nat) (ha : a < 2 ^ 256) (hx : a % Nord = x) (w0 : World) : Calls Try.prog 12 #[W a] w0 fun e w' => e = .returned (W x) ∧ Below w0.heap.size w0 w' := by
  refine enter (n := 15) (args := [W a]) Try.func12 rfl rfl (Nat.le_of_ble_eq_true rfl) fun ac hs => ?_
  refine wp_seq ?_
  refine wp_region_lit ?_
  refine lstep (wpO_plain rfl (op_box hs none none (cs := (Wl a)) rfl rfl rfl rfl rfl rfl fun g1 ac w hs => ?_))
  refine lstep (wpO_plain rfl (op_alloc hs none none (cs := [.int .u64 0, .int .u64 0, .int .u64 0, .int .u64 0]) rfl rfl Try.zeroValue24 (by kernel_rfl) rfl rfl fun g2 ac w hs => ?_))
  refine wpList_nil ?_
  refine then_n ?_
  refine wp_seq ?_
  replace hs : St 15 w0 [(1, true, .pointer (some ⟨g1, 0, none⟩)), (2, true, .pointer (some ⟨g2, 0, none⟩))] [(true, g1, 24, (Wl a)), (true, g2, 24, [.int .u64 0, .int .u64 0, .int .u64 0, .int .u64 0])] ac w := hs.re ⟨rfl, rfl, trivial⟩
  obtain ⟨d3, hd3, ld3⟩ : ∃ d, (a + 2 ^ 256 - Nord) % 2 ^ 256 = d ∧ d < 2 ^ 256 := ⟨_, rfl, Nat.mod_lt _ (Nat.two_pow_pos 256)⟩
  obtain ⟨c4, hc4⟩ : ∃ c, bor a Nord = c := ⟨_, rfl⟩
  refine region_inv [([], [2, 3, 4, 5, 7, 8]), ([], [2, 3, 4, 5, 7, 8]), ([0, 1], [3, 4, 5, 7, 8]), ([0, 1, 2], [4, 5, 7, 8]), ([0, 1, 2, 3], [7, 8]), ([0, 1, 2, 3], [8]), ([], [7, 8]), ([0, 1, 2, 3, 4, 6], [8]), ([0, 1, 2, 3, 4, 5, 6, 7], [])] (fun L ac w => ∃ (g5 : Nat), St 15 w0 [(6, L 0, W a), (7, L 1, W Nord), (8, L 2, .tuple #[W d3, .int .u64 ((c4 : Nat) : Int)]), (5, L 3, .tuple #[W d3, .int .u64 ((c4 : Nat) : Int)]), (9, L 4, W d3), (10, L 5, .int .u64 ((c4 : Nat) : Int)), (3, L 6, .pointer (some ⟨g5, 0, none⟩)), (4, L 8, .int .u64 ((c4 : Nat) : Int)), (1, true, .pointer (some ⟨g1, 0, none⟩)), (2, true, .pointer (some ⟨g2, 0, none⟩))] [(true, g1, 24, (Wl a)), (true, g2, 24, [.int .u64 0, .int .u64 0, .int .u64 0, .int .u64 0]), (L 6, g5, 24, (cond (L 7) (Wl d3) [.int .u64 0, .int .u64 0, .int .u64 0, .int .u64 0]))] ac w) (by kernel_rfl) (by kernel_rfl) ?_ ?_ ?_
  · exact ⟨0, hs.drew.skip.skip.skip.skip.skip.skip.skip.skip.pad⟩
  · refine ⟨?_, ?_, ?_, ?_, ?_, ?_, ?_, ?_, ?_, trivial⟩
    · intro L ac w hJ
      obtain ⟨g5, hs⟩ := hJ
      refine wpO_plain rfl (op_load hs (some 0) 0 (v := W a) rfl rfl rfl rfl Try.isAgg24 Try.sizeOf24 rfl rfl fun ac hs => ?_)
      exact ⟨g5, hs⟩
    · intro L ac w hJ
      obtain ⟨g5, hs⟩ := hJ
      refine wpO_plain rfl (op_call (F := 10) hs (some 1) (v := W Nord) rfl rfl rfl rfl (Try.call10 _) rorder_c rfl fun ac w hs => ?_)
      exact ⟨g5, hs⟩
    · intro L ac w hJ
      obtain ⟨g5, hs⟩ := hJ
      refine wpO_plain rfl (op_call (F := 27) hs (some 2) (v := .tuple #[W d3, .int .u64 ((c4 : Nat) : Int)]) rfl rfl rfl rfl (Try.call27 _) (less_at a Nord d3 c4 ha Nord_lt hd3 hc4) rfl fun ac w hs => ?_)
      exact ⟨g5, hs⟩
    · intro L ac w hJ
      obtain ⟨g5, hs⟩ := hJ
      refine wpO_plain rfl (op_move hs (some 3) rfl rfl rfl rfl fun ac hs => ?_)
      exact ⟨g5, hs⟩
    · intro L ac w hJ
      obtain ⟨g5, hs⟩ := hJ
      refine wpO_plain rfl (op_extract hs (some 4) rfl rfl rfl rfl rfl fun ac hs => ?_)
      exact ⟨g5, hs⟩
    · intro L ac w hJ
      obtain ⟨g5, hs⟩ := hJ
      refine wpO_plain rfl (op_extract hs (some 5) rfl rfl rfl rfl rfl fun ac hs => ?_)
      exact ⟨g5, hs⟩
    · intro L ac w hJ
      obtain ⟨g5, hs⟩ := hJ
      refine wpO_plain rfl (op_alloc hs (some 6) (some 2) (cs := [.int .u64 0, .int .u64 0, .int .u64 0, .int .u64 0]) rfl rfl Try.zeroValue24 (by kernel_rfl) rfl rfl fun g5 ac w hs => ?_)
      exact ⟨g5, hs⟩
    · intro L ac w hJ
      obtain ⟨g5, hs⟩ := hJ
      refine wpO_plain rfl (op_store hs 2 (vs := (Wl d3)) rfl rfl rfl rfl rfl Try.sizeOf24 rfl rfl rfl rfl rfl fun w hs => ?_)
      exact ⟨g5, hs⟩
    · intro L ac w hJ
      obtain ⟨g5, hs⟩ := hJ
      refine wpO_plain rfl (op_assign hs (some 7) rfl rfl rfl rfl fun ac hs => ?_)
      exact ⟨g5, hs⟩
  intro ac w hJ
  obtain ⟨g5, hs⟩ := hJ
  replace hs : St 15 w0 [(6, true, W a), (7, true, W Nord), (8, true, .tuple #[W d3, .int .u64 ((c4 : Nat) : Int)]), (5, true, .tuple #[W d3, .int .u64 ((c4 : Nat) : Int)]), (9, true, W d3), (10, true, .int .u64 ((c4 : Nat) : Int)), (3, true, .pointer (some ⟨g5, 0, none⟩)), (4, true, .int .u64 ((c4 : Nat) : Int)), (1, true, .pointer (some ⟨g1, 0, none⟩)), (2, true, .pointer (some ⟨g2, 0, none⟩))] [(true, g1, 24, (Wl a)), (true, g2, 24, [.int .u64 0, .int .u64 0, .int .u64 0, .int .u64 0]), (true, g5, 24, (Wl d3))] ac w := hs
  refine then_n ?_
  refine wp_seq ?_
  refine wp_seq ?_
  refine wp_region_lit ?_
  refine lstep (wpO_plain rfl (op_move hs none rfl rfl rfl rfl fun ac hs => ?_))
  refine lstep (wpO_plain rfl (op_bin hs none (v := .bool (decide (c4 = 1))) rfl rfl rfl rfl (fun _ => rfl) (bin_eqlN (x := c4) (y := 1)) rfl fun ac hs => ?_))
  refine wpList_nil ?_
  refine then_n ?_
  refine wp_cond_split (hs.ev rfl) (fun hc => ?_) (fun hc => ?_)
  · skip
    have hp6 := of_decide_eq_true hc
    refine wp_seq ?_
    refine wp_region_lit ?_
    refine lstep (wpO_plain rfl (op_load hs none 0 (v := W a) rfl rfl rfl rfl Try.isAgg24 Try.sizeOf24 rfl rfl fun ac hs => ?_))
    refine lstep (wpO_plain rfl (op_store hs 1 (vs := (Wl a)) rfl rfl rfl rfl rfl Try.sizeOf24 rfl rfl rfl rfl rfl fun w hs => ?_))
    refine wpList_nil ?_
    refine then_n ?_
    refine wp_ret ?_
    refine then_r ?_
    exact bodyPost_ret (res1 rfl (rv_c hs 1 (v := W a) rfl rfl Try.isAgg24 Try.sizeOf24 rfl)) hs.defers ⟨by rw [← hx, ← rred_lo Nord_big Nord_lt ha hc4 hp6], hs.below⟩
  · skip
    have hp7 := of_decide_eq_false hc
    refine wp_skip ?_
    refine then_n ?_
    refine wp_seq ?_
    refine wp_region_lit ?_
    refine lstep (wpO_plain rfl (op_load hs none 2 (v := W d3) rfl rfl rfl rfl Try.isAgg24 Try.sizeOf24 rfl rfl fun ac hs => ?_))
    refine lstep (wpO_plain rfl (op_store hs 1 (vs := (Wl d3)) rfl rfl rfl rfl rfl Try.sizeOf24 rfl rfl rfl rfl rfl fun w hs => ?_))
    refine wpList_nil ?_
    refine then_n ?_
    refine wp_ret ?_
    exact bodyPost_ret (res1 rfl (rv_c hs 1 (v := W d3) rfl rfl Try.isAgg24 Try.sizeOf24 rfl)) hs.defers ⟨by rw [← hx, ← rred_hi Nord_big Nord_lt ha hd3 hc4 hp7], hs.below⟩
theorem rsadd_c (a b x : Nat) (ha : a < 2 ^ 256) (hb : b < 2 ^ 256) (hx : (a + b) % Nord = x) (w0 : World) : Calls Try.prog 14 #[W a, W b] w0 fun e w' => e = .returned (W x) ∧ Below w0.heap.size w0 w' := by
  refine enter (n := 31) (args := [W a, W b]) Try.func14 rfl rfl (Nat.le_of_ble_eq_true rfl) fun ac hs => ?_
  refine wp_seq ?_
  refine wp_region_lit ?_
  refine lstep (wpO_plain rfl (op_box hs none none (cs := (Wl a)) rfl rfl rfl rfl rfl rfl fun g1 ac w hs => ?_))
  refine lstep (wpO_plain rfl (op_box hs none none (cs := (Wl b)) rfl rfl rfl rfl rfl rfl fun g2 ac w hs => ?_))
  refine lstep (wpO_plain rfl (op_alloc hs none none (cs := [.int .u64 0, .int .u64 0, .int .u64 0, .int .u64 0]) rfl rfl Try.zeroValue24 (by kernel_rfl) rfl rfl fun g3 ac w hs => ?_))
  refine wpList_nil ?_
  refine then_n ?_
  refine wp_seq ?_
  replace hs : St 31 w0 [(2, true, .pointer (some ⟨g1, 0, none⟩)), (3, true, .pointer (some ⟨g2, 0, none⟩)), (4, true, .pointer (some ⟨g3, 0, none⟩))] [(true, g1, 24, (Wl a)), (true, g2, 24, (Wl b)), (true, g3, 24, [.int .u64 0, .int .u64 0, .int .u64 0, .int .u64 0])] ac w := hs.re ⟨rfl, rfl, rfl, trivial⟩
  obtain ⟨r4, hr4, lr4⟩ : ∃ r, a % Nord = r ∧ r < 2 ^ 256 := ⟨_, rfl, modN_lt _⟩
  obtain ⟨r5, hr5, lr5⟩ : ∃ r, b % Nord = r ∧ r < 2 ^ 256 := ⟨_, rfl, modN_lt _⟩
  obtain ⟨s6, hs6, ls6⟩ : ∃ d, (r4 + r5) % 2 ^ 256 = d ∧ d < 2 ^ 256 := ⟨_, rfl, Nat.mod_lt _ (Nat.two_pow_pos 256)⟩
  obtain ⟨c7, hc7⟩ : ∃ c, (r4 + r5) / 2 ^ 256 = c := ⟨_, rfl⟩
  refine region_inv [([], [1, 3, 4, 5, 6, 7, 9, 10]), ([0], [3, 4, 5, 6, 7, 9, 10]), ([], [3, 4, 5, 6, 7, 9, 10]), ([0, 1, 2], [4, 5, 6, 7, 9, 10]), ([0, 1, 2, 3], [5, 6, 7, 9, 10]), ([0, 1, 2, 3, 4], [6, 7, 9, 10]), ([0, 1, 2, 3, 4, 5], [9, 10]), ([0, 1, 2, 3, 4, 5], [10]), ([], [9, 10]), ([0, 1, 2, 3, 4, 5, 6, 8], [10]), ([0, 1, 2, 3, 4, 5, 6, 7, 8, 9], [])] (fun L ac w => ∃ (g8 : Nat), St 31 w0 [(10, L 0, W a), (11, L 1, W r4), (12, L 2, W b), (13, L 3, W r5), (14, L 4, .tuple #[W s6, .int .u64 ((c7 : Nat) : Int)]), (9, L 5, .tuple #[W s6, .int .u64 ((c7 : Nat) : Int)]), (15, L 6, W s6), (16, L 7, .int .u64 ((c7 : Nat) : Int)), (5, L 8, .pointer (some ⟨g8, 0, none⟩)), (6, L 10, .int .u64 ((c7 : Nat) : Int)), (2, true, .pointer (some ⟨g1, 0, none⟩)), (3, true, .pointer (some ⟨g2, 0, none⟩)), (4, true, .pointer (some ⟨g3, 0, none⟩))] [(true, g1, 24, (Wl a)), (true, g2, 24, (Wl b)), (true, g3, 24, [.int .u64 0, .int .u64 0, .int .u64 0, .int .u64 0]), (L 8, g8, 24, (cond (L 9) (Wl s6) [.int .u64 0, .int .u64 0, .int .u64 0, .int .u64 0]))] ac w) (by kernel_rfl) (by kernel_rfl) ?_ ?_ ?_
  · exact ⟨0, hs.drew.skip.skip.skip.skip.skip.skip.skip.skip.skip.skip.pad⟩
  · refine ⟨?_, ?_, ?_, ?_, ?_, ?_, ?_, ?_, ?_, ?_, ?_, trivial⟩
    · intro L ac w hJ
      obtain ⟨g8, hs⟩ := hJ
      refine wpO_plain rfl (op_load hs (some 0) 0 (v := W a) rfl rfl rfl rfl Try.isAgg24 Try.sizeOf24 rfl rfl fun ac hs => ?_)
      exact ⟨g8, hs⟩
    · intro L ac w hJ
      obtain ⟨g8, hs⟩ := hJ
      refine wpO_plain rfl (op_call (F := 12) hs (some 1) (v := W r4) rfl rfl rfl rfl (Try.call12 _) (rred_c a r4 ha hr4) rfl fun ac w hs => ?_)
      exact ⟨g8, hs⟩
    · intro L ac w hJ
      obtain ⟨g8, hs⟩ := hJ
      refine wpO_plain rfl (op_load hs (some 2) 1 (v := W b) rfl rfl rfl rfl Try.isAgg24 Try.sizeOf24 rfl rfl fun ac hs => ?_)
      exact ⟨g8, hs⟩
    · intro L ac w hJ
      obtain ⟨g8, hs⟩ := hJ
      refine wpO_plain rfl (op_call (F := 12) hs (some 3) (v := W r5) rfl rfl rfl rfl (Try.call12 _) (rred_c b r5 hb hr5) rfl fun ac w hs => ?_)
      exact ⟨g8, hs⟩
    · intro L ac w hJ
      obtain ⟨g8, hs⟩ := hJ
      refine wpO_plain rfl (op_call (F := 30) hs (some 4) (v := .tuple #[W s6, .int .u64 ((c7 : Nat) : Int)]) rfl rfl rfl rfl (Try.call30 _) (more_at r4 r5 s6 c7 lr4 lr5 hs6 hc7) rfl fun ac w hs => ?_)
      exact ⟨g8, hs⟩
    · intro L ac w hJ
      obtain ⟨g8, hs⟩ := hJ
      refine wpO_plain rfl (op_move hs (some 5) rfl rfl rfl rfl fun ac hs => ?_)
      exact ⟨g8, hs⟩
    · intro L ac w hJ
      obtain ⟨g8, hs⟩ := hJ
      refine wpO_plain rfl (op_extract hs (some 6) rfl rfl rfl rfl rfl fun ac hs => ?_)
      exact ⟨g8, hs⟩
    · intro L ac w hJ
      obtain ⟨g8, hs⟩ := hJ
      refine wpO_plain rfl (op_extract hs (some 7) rfl rfl rfl rfl rfl fun ac hs => ?_)
      exact ⟨g8, hs⟩
    · intro L ac w hJ
      obtain ⟨g8, hs⟩ := hJ
      refine wpO_plain rfl (op_alloc hs (some 8) (some 3) (cs := [.int .u64 0, .int .u64 0, .int .u64 0, .int .u64 0]) rfl rfl Try.zeroValue24 (by kernel_rfl) rfl rfl fun g8 ac w hs => ?_)
      exact ⟨g8, hs⟩
    · intro L ac w hJ
      obtain ⟨g8, hs⟩ := hJ
      refine wpO_plain rfl (op_store hs 3 (vs := (Wl s6)) rfl rfl rfl rfl rfl Try.sizeOf24 rfl rfl rfl rfl rfl fun w hs => ?_)
      exact ⟨g8, hs⟩
    · intro L ac w hJ
      obtain ⟨g8, hs⟩ := hJ
      refine wpO_plain rfl (op_assign hs (some 9) rfl rfl rfl rfl fun ac hs => ?_)
      exact ⟨g8, hs⟩
  intro ac w hJ
  obtain ⟨g8, hs⟩ := hJ
  replace hs : St 31 w0 [(10, true, W a), (11, true, W r4), (12, true, W b), (13, true, W r5), (14, true, .tuple #[W s6, .int .u64 ((c7 : Nat) : Int)]), (9, true, .tuple #[W s6, .int .u64 ((c7 : Nat) : Int)]), (15, true, W s6), (16, true, .int .u64 ((c7 : Nat) : Int)), (5, true, .pointer (some ⟨g8, 0, none⟩)), (6, true, .int .u64 ((c7 : Nat) : Int)), (2, true, .pointer (some ⟨g1, 0, none⟩)), (3, true, .pointer (some ⟨g2, 0, none⟩)), (4, true, .pointer (some ⟨g3, 0, none⟩))] [(true, g1, 24, (Wl a)), (true, g2, 24, (Wl b)), (true, g3, 24, [.int .u64 0, .int .u64 0, .int .u64 0, .int .u64 0]), (true, g8, 24, (Wl s6))] ac w := hs
  refine then_n ?_
  refine wp_seq ?_
  replace hs : St 31 w0 [(4, true, .pointer (some ⟨g3, 0, none⟩)), (5, true, .pointer (some ⟨g8, 0, none⟩)), (6, true, .int .u64 ((c7 : Nat) : Int))] [(true, g1, 24, (Wl a)), (true, g2, 24, (Wl b)), (true, g3, 24, [.int .u64 0, .int .u64 0, .int .u64 0, .int .u64 0]), (true, g8, 24, (Wl s6))] ac w := hs.re ⟨rfl, rfl, rfl, trivial⟩
  obtain ⟨d9, hd9, ld9⟩ : ∃ d, (s6 + 2 ^ 256 - Nord) % 2 ^ 256 = d ∧ d < 2 ^ 256 := ⟨_, rfl, Nat.mod_lt _ (Nat.two_pow_pos 256)⟩
  obtain ⟨c10, hc10⟩ : ∃ c, bor s6 Nord = c := ⟨_, rfl⟩
  refine region_inv [([], [2, 3, 4, 5, 7, 8]), ([], [2, 3, 4, 5, 7, 8]), ([0, 1], [3, 4, 5, 7, 8]), ([0, 1, 2], [4, 5, 7, 8]), ([0, 1, 2, 3], [7, 8]), ([0, 1, 2, 3], [8]), ([], [7, 8]), ([0, 1, 2, 3, 4, 6], [8]), ([0, 1, 2, 3, 4, 5, 6, 7], [])] (fun L ac w => ∃ (g11 : Nat), St 31 w0 [(18, L 0, W s6), (19, L 1, W Nord), (20, L 2, .tuple #[W d9, .int .u64 ((c10 : Nat) : Int)]), (17, L 3, .tuple #[W d9, .int .u64 ((c10 : Nat) : Int)]), (21, L 4, W d9), (22, L 5, .int .u64 ((c10 : Nat) : Int)), (7, L 6, .pointer (some ⟨g11, 0, none⟩)), (8, L 8, .int .u64 ((c10 : Nat) : Int)), (4, true, .pointer (some ⟨g3, 0, none⟩)), (5, true, .pointer (some ⟨g8, 0, none⟩)), (6, true, .int .u64 ((c7 : Nat) : Int))] [(true, g1, 24, (Wl a)), (true, g2, 24, (Wl b)), (true, g3, 24, [.int .u64 0, .int .u64 0, .int .u64 0, .int .u64 0]), (true, g8, 24, (Wl s6)), (L 6, g11, 24, (cond (L 7) (Wl d9) [.int .u64 0, .int .u64 0, .int .u64 0, .int .u64 0]))] ac w) (by kernel_rfl) (by kernel_rfl) ?_ ?_ ?_
  · exact ⟨0, hs.drew.skip.skip.skip.skip.skip.skip.skip.skip.pad⟩
  · refine ⟨?_, ?_, ?_, ?_, ?_, ?_, ?_, ?_, ?_, trivial⟩
    · intro L ac w hJ
      obtain ⟨g11, hs⟩ := hJ
      refine wpO_plain rfl (op_load hs (some 0) 3 (v := W s6) rfl rfl rfl rfl Try.isAgg24 Try.sizeOf24 rfl rfl fun ac hs => ?_)
      exact ⟨g11, hs⟩
    · intro L ac w hJ
      obtain ⟨g11, hs⟩ := hJ
      refine wpO_plain rfl (op_call (F := 10) hs (some 1) (v := W Nord) rfl rfl rfl rfl (Try.call10 _) rorder_c rfl fun ac w hs => ?_)
      exact ⟨g11, hs⟩
    · intro L ac w hJ
      obtain ⟨g11, hs⟩ := hJ
      refine wpO_plain rfl (op_call (F := 27) hs (some 2) (v := .tuple #[W d9, .int .u64 ((c10 : Nat) : Int)]) rfl rfl rfl rfl (Try.call27 _) (less_at s6 Nord d9 c10 ls6 Nord_lt hd9 hc10) rfl fun ac w hs => ?_)
      exact ⟨g11, hs⟩
    · intro L ac w hJ
      obtain ⟨g11, hs⟩ := hJ
      refine wpO_plain rfl (op_move hs (some 3) rfl rfl rfl rfl fun ac hs => ?_)
      exact ⟨g11, hs⟩
    · intro L ac w hJ
      obtain ⟨g11, hs⟩ := hJ
      refine wpO_plain rfl (op_extract hs (some 4) rfl rfl rfl rfl rfl fun ac hs => ?_)
      exact ⟨g11, hs⟩
    · intro L ac w hJ
      obtain ⟨g11, hs⟩ := hJ
      refine wpO_plain rfl (op_extract hs (some 5) rfl rfl rfl rfl rfl fun ac hs => ?_)
      exact ⟨g11, hs⟩
    · intro L ac w hJ
      obtain ⟨g11, hs⟩ := hJ
      refine wpO_plain rfl (op_alloc hs (some 6) (some 4) (cs := [.int .u64 0, .int .u64 0, .int .u64 0, .int .u64 0]) rfl rfl Try.zeroValue24 (by kernel_rfl) rfl rfl fun g11 ac w hs => ?_)
      exact ⟨g11, hs⟩
    · intro L ac w hJ
      obtain ⟨g11, hs⟩ := hJ
      refine wpO_plain rfl (op_store hs 4 (vs := (Wl d9)) rfl rfl rfl rfl rfl Try.sizeOf24 rfl rfl rfl rfl rfl fun w hs => ?_)
      exact ⟨g11, hs⟩
    · intro L ac w hJ
      obtain ⟨g11, hs⟩ := hJ
      refine wpO_plain rfl (op_assign hs (some 7) rfl rfl rfl rfl fun ac hs => ?_)
      exact ⟨g11, hs⟩
  intro ac w hJ
  obtain ⟨g11, hs⟩ := hJ
  replace hs : St 31 w0 [(18, true, W s6), (19, true, W Nord), (20, true, .tuple #[W d9, .int .u64 ((c10 : Nat) : Int)]), (17, true, .tuple #[W d9, .int .u64 ((c10 : Nat) : Int)]), (21, true, W d9), (22, true, .int .u64 ((c10 : Nat) : Int)), (7, true, .pointer (some ⟨g11, 0, none⟩)), (8, true, .int .u64 ((c10 : Nat) : Int)), (4, true, .pointer (some ⟨g3, 0, none⟩)), (5, true, .pointer (some ⟨g8, 0, none⟩)), (6, true, .int .u64 ((c7 : Nat) : Int))] [(true, g1, 24, (Wl a)), (true, g2, 24, (Wl b)), (true, g3, 24, [.int .u64 0, .int .u64 0, .int .u64 0, .int .u64 0]), (true, g8, 24, (Wl s6)), (true, g11, 24, (Wl d9))] ac w := hs
  refine then_n ?_
  refine wp_seq ?_
  refine wp_seq ?_
  by_cases hq12 : c7 = 1
  · skip
    refine wp_region_lit ?_
    refine lstep (wpO_plain rfl (op_move hs none rfl rfl rfl rfl fun ac hs => ?_))
    refine lstep (wpO_plain rfl (op_bin hs none (v := .bool true) rfl rfl rfl rfl (fun _ => rfl) (fun w => dT hq12 (bin_eqlN (x := c7) (y := 1) w)) rfl fun ac hs => ?_))
    refine lstep (wpO_plain rfl (op_move hs none rfl rfl rfl rfl fun ac hs => ?_))
    refine lstep (wpO_out hs none rfl rfl (.inl rfl) rfl rfl fun ac hs => ?_)
    refine lstep (wpO_out hs none rfl rfl (.inl rfl) rfl rfl fun ac hs => ?_)
    refine lstep (wpO_plain rfl (op_pickT hs none rfl rfl rfl rfl rfl fun ac hs => ?_))
    refine wpList_nil ?_
    refine then_n ?_
    refine wp_cond_true (hs.ev rfl) ?_
    refine wp_seq ?_
    refine wp_region_lit ?_
    refine lstep (wpO_plain rfl (op_load hs none 4 (v := W d9) rfl rfl rfl rfl Try.isAgg24 Try.sizeOf24 rfl rfl fun ac hs => ?_))
    refine lstep (wpO_plain rfl (op_store hs 2 (vs := (Wl d9)) rfl rfl rfl rfl rfl Try.sizeOf24 rfl rfl rfl rfl rfl fun w hs => ?_))
    refine wpList_nil ?_
    refine then_n ?_
    refine wp_ret ?_
    refine then_r ?_
    exact bodyPost_ret (res1 rfl (rv_c hs 2 (v := W d9) rfl rfl Try.isAgg24 Try.sizeOf24 rfl)) hs.defers ⟨by subst hr4 hr5; rw [← hx, radd_c Nord_big Nord_lt (Nat.mod_lt _ (by decide)) (Nat.mod_lt _ (by decide)) hs6 hc7 hd9 hq12, ← Nat.add_mod], hs.below⟩
  · skip
    by_cases hq13 : c10 = 0
    · skip
      refine wp_region_lit ?_
      refine lstep (wpO_plain rfl (op_move hs none rfl rfl rfl rfl fun ac hs => ?_))
      refine lstep (wpO_plain rfl (op_bin hs none (v := .bool false) rfl rfl rfl rfl (fun _ => rfl) (fun w => dF hq12 (bin_eqlN (x := c7) (y := 1) w)) rfl fun ac hs => ?_))
      refine lstep (wpO_plain rfl (op_move hs none rfl rfl rfl rfl fun ac hs => ?_))
      refine lstep (wpO_in hs rfl rfl rfl (op_move hs none rfl rfl rfl rfl fun ac hs => ?_))
      refine lstep (wpO_in hs rfl rfl rfl (op_bin hs none (v := .bool true) rfl rfl rfl rfl (fun _ => rfl) (fun w => dT hq13 (bin_eqlN (x := c10) (y := 0) w)) rfl fun ac hs => ?_))
      refine lstep (wpO_plain rfl (op_pickF hs none rfl rfl rfl rfl rfl fun ac hs => ?_))
      refine wpList_nil ?_
      refine then_n ?_
      refine wp_cond_true (hs.ev rfl) ?_
      refine wp_seq ?_
      refine wp_region_lit ?_
      refine lstep (wpO_plain rfl (op_load hs none 4 (v := W d9) rfl rfl rfl rfl Try.isAgg24 Try.sizeOf24 rfl rfl fun ac hs => ?_))
      refine lstep (wpO_plain rfl (op_store hs 2 (vs := (Wl d9)) rfl rfl rfl rfl rfl Try.sizeOf24 rfl rfl rfl rfl rfl fun w hs => ?_))
      refine wpList_nil ?_
      refine then_n ?_
      refine wp_ret ?_
      refine then_r ?_
      exact bodyPost_ret (res1 rfl (rv_c hs 2 (v := W d9) rfl rfl Try.isAgg24 Try.sizeOf24 rfl)) hs.defers ⟨by subst hr4 hr5; rw [← hx, radd_b Nord_big Nord_lt (Nat.mod_lt _ (by decide)) (Nat.mod_lt _ (by decide)) hs6 hc7 hd9 hc10 hq12 hq13, ← Nat.add_mod], hs.below⟩
    · skip
      refine wp_region_lit ?_
      refine lstep (wpO_plain rfl (op_move hs none rfl rfl rfl rfl fun ac hs => ?_))
      refine lstep (wpO_plain rfl (op_bin hs none (v := .bool false) rfl rfl rfl rfl (fun _ => rfl) (fun w => dF hq12 (bin_eqlN (x := c7) (y := 1) w)) rfl fun ac hs => ?_))
      refine lstep (wpO_plain rfl (op_move hs none rfl rfl rfl rfl fun ac hs => ?_))
      refine lstep (wpO_in hs rfl rfl rfl (op_move hs none rfl rfl rfl rfl fun ac hs => ?_))
      refine lstep (wpO_in hs rfl rfl rfl (op_bin hs none (v := .bool false) rfl rfl rfl rfl (fun _ => rfl) (fun w => dF hq13 (bin_eqlN (x := c10) (y := 0) w)) rfl fun ac hs => ?_))
      refine lstep (wpO_plain rfl (op_pickF hs none rfl rfl rfl rfl rfl fun ac hs => ?_))
      refine wpList_nil ?_
      refine then_n ?_
      refine wp_cond_false (hs.ev rfl) ?_
      refine wp_skip ?_
      refine then_n ?_
      refine wp_seq ?_
      refine wp_region_lit ?_
      refine lstep (wpO_plain rfl (op_load hs none 3 (v := W s6) rfl rfl rfl rfl Try.isAgg24 Try.sizeOf24 rfl rfl fun ac hs => ?_))
      refine lstep (wpO_plain rfl (op_store hs 2 (vs := (Wl s6)) rfl rfl rfl rfl rfl Try.sizeOf24 rfl rfl rfl rfl rfl fun w hs => ?_))
      refine wpList_nil ?_
      refine then_n ?_
      refine wp_ret ?_
      exact bodyPost_ret (res1 rfl (rv_c hs 2 (v := W s6) rfl rfl Try.isAgg24 Try.sizeOf24 rfl)) hs.defers ⟨by subst hr4 hr5; rw [← hx, radd_s Nord_big Nord_lt (Nat.mod_lt _ (by decide)) (Nat.mod_lt _ (by decide)) hs6 hc7 hc10 hq12 hq13, ← Nat.add_mod], hs.below⟩
theorem rsneg_c (a x : Nat) (ha : a < 2 ^ 256) (hx : (Nord - a % Nord) % Nord = x) (w0 : World) : Calls Try.prog 16 #[W a] w0 fun e w' => e = .returned (W x) ∧ Below w0.heap.size w0 w' := by
  refine enter (n := 18) (args := [W a]) Try.func16 rfl rfl (Nat.le_of_ble_eq_true rfl) fun ac hs => ?_
  refine wp_seq ?_
  refine wp_region_lit ?_
  refine lstep (wpO_plain rfl (op_box hs none none (cs := (Wl a)) rfl rfl rfl rfl rfl rfl fun g1 ac w hs => ?_))
  refine lstep (wpO_plain rfl (op_alloc hs none none (cs := [.int .u64 0, .int .u64 0, .int .u64 0, .int .u64 0]) rfl rfl Try.zeroValue24 (by kernel_rfl) rfl rfl fun g2 ac w hs => ?_))
  refine wpList_nil ?_
  refine then_n ?_
  refine wp_seq ?_
  refine wp_region_lit ?_
  refine lstep (wpO_plain rfl (op_load hs none 0 (v := W a) rfl rfl rfl rfl Try.isAgg24 Try.sizeOf24 rfl rfl fun ac hs => ?_))
  obtain ⟨r3, hr3, lr3⟩ : ∃ r, a % Nord = r ∧ r < 2 ^ 256 := ⟨_, rfl, modN_lt _⟩
  refine lstep (wpO_plain rfl (op_call (F := 12) hs none (v := W r3) rfl rfl rfl rfl (Try.call12 _) (rred_c a r3 ha hr3) rfl fun ac w hs => ?_))
  refine lstep (wpO_plain rfl (op_store hs 0 (vs := (Wl r3)) rfl rfl rfl rfl rfl Try.sizeOf24 rfl rfl rfl rfl rfl fun w hs => ?_))
  refine wpList_nil ?_
  refine then_n ?_
  refine wp_seq ?_
  refine wp_seq ?_
  refine wp_region_lit ?_
  refine lstep (wpO_plain rfl (op_load hs none 0 (v := W r3) rfl rfl rfl rfl Try.isAgg24 Try.sizeOf24 rfl rfl fun ac hs => ?_))
  refine lstep (wpO_plain rfl (op_build hs none (qs := []) (v := .agg #[.int .u64 0, .int .u64 0, .int .u64 0, .int .u64 0]) rfl rfl rfl rfl (fun _ => by kernel_rfl) rfl fun ac hs => ?_))
  refine lstep (wpO_plain rfl (op_bin hs none (v := .bool (decide (r3 = 0))) rfl rfl rfl rfl (fun w => run_eqGuard_agg w .eql 24 _ _ _ _ Try.eqGuardType24) (eqlW r3 0 lr3 (by decide) _ rfl) rfl fun ac hs => ?_))
  refine wpList_nil ?_
  refine then_n ?_
  refine wp_cond_split (hs.ev rfl) (fun hc => ?_) (fun hc => ?_)
  · skip
    have hp4 := of_decide_eq_true hc
    refine wp_seq ?_
    refine wp_region_lit ?_
    refine lstep (wpO_plain rfl (op_load hs none 0 (v := W r3) rfl rfl rfl rfl Try.isAgg24 Try.sizeOf24 rfl rfl fun ac hs => ?_))
    refine lstep (wpO_plain rfl (op_store hs 1 (vs := (Wl r3)) rfl rfl rfl rfl rfl Try.sizeOf24 rfl rfl rfl rfl rfl fun w hs => ?_))
    refine wpList_nil ?_
    refine then_n ?_
    refine wp_ret ?_
    refine then_r ?_
    exact bodyPost_ret (res1 rfl (rv_c hs 1 (v := W r3) rfl rfl Try.isAgg24 Try.sizeOf24 rfl)) hs.defers ⟨by rw [← hx, hr3, hp4]; rfl, hs.below⟩
  · skip
    have hp5 := of_decide_eq_false hc
    refine wp_skip ?_
    refine then_n ?_
    refine wp_seq ?_
    replace hs : St 18 w0 [(1, true, .pointer (some ⟨g1, 0, none⟩)), (2, true, .pointer (some ⟨g2, 0, none⟩))] [(true, g1, 24, (Wl r3)), (true, g2, 24, [.int .u64 0, .int .u64 0, .int .u64 0, .int .u64 0])] ac w := hs.re ⟨rfl, rfl, trivial⟩
    obtain ⟨d6, hd6, ld6⟩ : ∃ d, (Nord + 2 ^ 256 - r3) % 2 ^ 256 = d ∧ d < 2 ^ 256 := ⟨_, rfl, Nat.mod_lt _ (Nat.two_pow_pos 256)⟩
    obtain ⟨c7, hc7⟩ : ∃ c, bor Nord r3 = c := ⟨_, rfl⟩
    refine region_inv [([], [2, 3, 4, 5, 7, 8]), ([], [2, 3, 4, 5, 7, 8]), ([0, 1], [3, 4, 5, 7, 8]), ([0, 1, 2], [4, 5, 7, 8]), ([0, 1, 2, 3], [7, 8]), ([0, 1, 2, 3], [8]), ([], [7, 8]), ([0, 1, 2, 3, 4, 6], [8]), ([0, 1, 2, 3, 4, 5, 6, 7], [])] (fun L ac w => ∃ (g8 : Nat), St 18 w0 [(12, L 0, W Nord), (13, L 1, W r3), (14, L 2, .tuple #[W d6, .int .u64 ((c7 : Nat) : Int)]), (11, L 3, .tuple #[W d6, .int .u64 ((c7 : Nat) : Int)]), (15, L 4, W d6), (16, L 5, .int .u64 ((c7 : Nat) : Int)), (3, L 6, .pointer (some ⟨g8, 0, none⟩)), (4, L 8, .int .u64 ((c7 : Nat) : Int)), (1, true, .pointer (some ⟨g1, 0, none⟩)), (2, true, .pointer (some ⟨g2, 0, none⟩))] [(true, g1, 24, (Wl r3)), (true, g2, 24, [.int .u64 0, .int .u64 0, .int .u64 0, .int .u64 0]), (L 6, g8, 24, (cond (L 7) (Wl d6) [.int .u64 0, .int .u64 0, .int .u64 0, .int .u64 0]))] ac w) (by kernel_rfl) (by kernel_rfl) ?_ ?_ ?_
    · exact ⟨0, hs.drew.skip.skip.skip.skip.skip.skip.skip.skip.pad⟩
    · refine ⟨?_, ?_, ?_, ?_, ?_, ?_, ?_, ?_, ?_, trivial⟩
      · intro L ac w hJ
        obtain ⟨g8, hs⟩ := hJ
        refine wpO_plain rfl (op_call (F := 10) hs (some 0) (v := W Nord) rfl rfl rfl rfl (Try.call10 _) rorder_c rfl fun ac w hs => ?_)
        exact ⟨g8, hs⟩
      · intro L ac w hJ
        obtain ⟨g8, hs⟩ := hJ
        refine wpO_plain rfl (op_load hs (some 1) 0 (v := W r3) rfl rfl rfl rfl Try.isAgg24 Try.sizeOf24 rfl rfl fun ac hs => ?_)
        exact ⟨g8, hs⟩
      · intro L ac w hJ
        obtain ⟨g8, hs⟩ := hJ
        refine wpO_plain rfl (op_call (F := 27) hs (some 2) (v := .tuple #[W d6, .int .u64 ((c7 : Nat) : Int)]) rfl rfl rfl rfl (Try.call27 _) (less_at Nord r3 d6 c7 Nord_lt lr3 hd6 hc7) rfl fun ac w hs => ?_)
        exact ⟨g8, hs⟩
      · intro L ac w hJ
        obtain ⟨g8, hs⟩ := hJ
        refine wpO_plain rfl (op_move hs (some 3) rfl rfl rfl rfl fun ac hs => ?_)
        exact ⟨g8, hs⟩
      · intro L ac w hJ
        obtain ⟨g8, hs⟩ := hJ
        refine wpO_plain rfl (op_extract hs (some 4) rfl rfl rfl rfl rfl fun ac hs => ?_)
        exact ⟨g8, hs⟩
      · intro L ac w hJ
        obtain ⟨g8, hs⟩ := hJ
        refine wpO_plain rfl (op_extract hs (some 5) rfl rfl rfl rfl rfl fun ac hs => ?_)
        exact ⟨g8, hs⟩
      · intro L ac w hJ
        obtain ⟨g8, hs⟩ := hJ
        refine wpO_plain rfl (op_alloc hs (some 6) (some 2) (cs := [.int .u64 0, .int .u64 0, .int .u64 0, .int .u64 0]) rfl rfl Try.zeroValue24 (by kernel_rfl) rfl rfl fun g8 ac w hs => ?_)
        exact ⟨g8, hs⟩
      · intro L ac w hJ
        obtain ⟨g8, hs⟩ := hJ
        refine wpO_plain rfl (op_store hs 2 (vs := (Wl d6)) rfl rfl rfl rfl rfl Try.sizeOf24 rfl rfl rfl rfl rfl fun w hs => ?_)
        exact ⟨g8, hs⟩
      · intro L ac w hJ
        obtain ⟨g8, hs⟩ := hJ
        refine wpO_plain rfl (op_assign hs (some 7) rfl rfl rfl rfl fun ac hs => ?_)
        exact ⟨g8, hs⟩
    intro ac w hJ
    obtain ⟨g8, hs⟩ := hJ
    replace hs : St 18 w0 [(12, true, W Nord), (13, true, W r3), (14, true, .tuple #[W d6, .int .u64 ((c7 : Nat) : Int)]), (11, true, .tuple #[W d6, .int .u64 ((c7 : Nat) : Int)]), (15, true, W d6), (16, true, .int .u64 ((c7 : Nat) : Int)), (3, true, .pointer (some ⟨g8, 0, none⟩)), (4, true, .int .u64 ((c7 : Nat) : Int)), (1, true, .pointer (some ⟨g1, 0, none⟩)), (2, true, .pointer (some ⟨g2, 0, none⟩))] [(true, g1, 24, (Wl r3)), (true, g2, 24, [.int .u64 0, .int .u64 0, .int .u64 0, .int .u64 0]), (true, g8, 24, (Wl d6))] ac w := hs
    refine then_n ?_
    refine wp_seq ?_
    refine wp_region_lit ?_
    refine lstep (wpO_plain rfl (op_load hs none 2 (v := W d6) rfl rfl rfl rfl Try.isAgg24 Try.sizeOf24 rfl rfl fun ac hs => ?_))
    refine lstep (wpO_plain rfl (op_store hs 1 (vs := (Wl d6)) rfl rfl rfl rfl rfl Try.sizeOf24 rfl rfl rfl rfl rfl fun w hs => ?_))
    refine wpList_nil ?_
    refine then_n ?_
    refine wp_ret ?_
    exact bodyPost_ret (res1 rfl (rv_c hs 1 (v := W d6) rfl rfl Try.isAgg24 Try.sizeOf24 rfl)) hs.defers ⟨by rw [← hx, ← hd6, hr3]; exact congrArg (fun z => Ending.returned (W z)) (rneg_eq (hr3 ▸ Nat.mod_lt _ (by decide)) hp5), hs.below⟩
theorem sums_c (a b : Nat) (ha : a < 2 ^ 256) (hb : b < 2 ^ 256) (w0 : World) : Calls Try.prog 3 #[W a, W b] w0 fun e w' => e = .returned (.bool true) ∧ Below w0.heap.size w0 w' := by
  refine enter (n := 34) (args := [W a, W b]) Try.func3 rfl rfl (Nat.le_of_ble_eq_true rfl) fun ac hs => ?_
  refine wp_seq ?_
  refine wp_region_lit ?_
  refine lstep (wpO_plain rfl (op_box hs none none (cs := (Wl a)) rfl rfl rfl rfl rfl rfl fun g1 ac w hs => ?_))
  refine lstep (wpO_plain rfl (op_box hs none none (cs := (Wl b)) rfl rfl rfl rfl rfl rfl fun g2 ac w hs => ?_))
  refine lstep (wpO_plain rfl (op_assign hs none rfl rfl rfl rfl fun ac hs => ?_))
  refine wpList_nil ?_
  refine then_n ?_
  refine wp_seq ?_
  replace hs : St 34 w0 [(2, true, .pointer (some ⟨g1, 0, none⟩)), (3, true, .pointer (some ⟨g2, 0, none⟩)), (4, true, .bool false)] [(true, g1, 24, (Wl a)), (true, g2, 24, (Wl b))] ac w := hs.re ⟨rfl, rfl, rfl, trivial⟩
  obtain ⟨r3, hr3, lr3⟩ : ∃ r, a % Nord = r ∧ r < 2 ^ 256 := ⟨_, rfl, modN_lt _⟩
  obtain ⟨r4, hr4, lr4⟩ : ∃ r, a % Nord = r ∧ r < 2 ^ 256 := ⟨_, rfl, modN_lt _⟩
  obtain ⟨r5, hr5, lr5⟩ : ∃ r, (a + b) % Nord = r ∧ r < 2 ^ 256 := ⟨_, rfl, modN_lt _⟩
  obtain ⟨r6, hr6, lr6⟩ : ∃ r, (a + b) % Nord = r ∧ r < 2 ^ 256 := ⟨_, rfl, modN_lt _⟩
  obtain ⟨r7, hr7, lr7⟩ : ∃ r, (Nord - a % Nord) % Nord = r ∧ r < 2 ^ 256 := ⟨_, rfl, modN_lt _⟩
  obtain ⟨r8, hr8, lr8⟩ : ∃ r, (Nord - a % Nord) % Nord = r ∧ r < 2 ^ 256 := ⟨_, rfl, modN_lt _⟩
  refine region_inv [([], [1, 2, 3, 4, 5, 6, 7, 8, 9, 10, 11, 12, 13, 14, 15, 16, 17, 18, 19, 20, 21, 22, 23, 24, 25, 26, 27, 28, 29]), ([0], [2, 3, 4, 5, 6, 7, 8, 9, 10, 11, 12, 13, 14, 15, 16, 17, 18, 19, 20, 21, 22, 23, 24, 25, 26, 27, 28, 29]), ([0, 1], [3, 4, 5, 6, 7, 8, 9, 10, 11, 12, 13, 14, 15, 16, 17, 18, 19, 20, 21, 22, 23, 24, 25, 26, 27, 28, 29]), ([0, 1, 2], [4, 5, 6, 7, 8, 9, 10, 11, 12, 13, 14, 15, 16, 17, 18, 19, 20, 21, 22, 23, 24, 25, 26, 27, 28, 29]), ([0, 1, 2, 3], [5, 6, 7, 8, 9, 10, 11, 12, 13, 14, 15, 16, 17, 18, 19, 20, 21, 22, 23, 24, 25, 26, 27, 28, 29]), ([0, 1, 2, 3, 4], [6, 7, 8, 9, 10, 11, 12, 13, 14, 15, 16, 17, 18, 19, 20, 21, 22, 23, 24, 25, 26, 27, 28, 29]), ([0, 1, 2, 3, 4, 5], [7, 8, 9, 10, 11, 12, 13, 14, 15, 16, 17, 18, 19, 20, 21, 22, 23, 24, 25, 26, 27, 28, 29]), ([0, 1, 2, 3, 4, 5, 6], [8, 10, 11, 12, 13, 14, 15, 16, 17, 18, 19, 20, 21, 22, 23, 24, 25, 26, 27, 28, 29]), ([0, 1, 2, 3, 4, 5, 6, 7], [10, 11, 12, 13, 14, 15, 16, 17, 18, 19, 20, 21, 22, 23, 24, 25, 26, 27, 28, 29]), ([0, 1, 2, 3, 4, 5, 6], [10, 11, 12, 13, 14, 15, 16, 17, 18, 19, 20, 21, 22, 23, 24, 25, 26, 27, 28, 29]), ([0, 1, 2, 3, 4, 5, 6, 7, 8, 9], [11, 12, 13, 14, 15, 16, 17, 18, 19, 20, 21, 22, 23, 24, 25, 26, 27, 28, 29]), ([0, 1, 2, 3, 4, 5, 6, 7, 8, 9, 10], [12, 13, 14, 15, 16, 17, 18, 19, 20, 21, 22, 23, 24, 25, 26, 27, 28, 29]), ([0, 1, 2, 3, 4, 5, 6, 7, 8, 9, 10, 11], [13, 14, 15, 16, 17, 18, 19, 20, 21, 22, 23, 24, 25, 26, 27, 28, 29]), ([0, 1, 2, 3, 4, 5, 6, 7, 8, 9, 10, 11, 12], [14, 15, 16, 17, 18, 19, 20, 21, 22, 23, 24, 25, 26, 27, 28, 29]), ([0, 1, 2, 3, 4, 5, 6, 7, 8, 9, 10, 11, 12, 13], [16, 19, 20, 21, 22, 23, 24, 25, 26, 27, 28, 29]), ([0, 1, 2, 3, 4, 5, 6, 7, 8, 9, 10, 11, 12, 13], [16, 19, 20, 21, 22, 23, 24, 25, 26, 27, 28, 29]), ([0, 1, 2, 3, 4, 5, 6, 7, 8, 9, 10, 11, 12, 13, 14, 15], [19, 20, 21, 22, 23, 24, 25, 26, 27, 28, 29]), ([0, 1, 2, 3, 4, 5, 6, 7, 8, 9, 10, 11, 12, 13], [19, 20, 21, 22, 23, 24, 25, 26, 27, 28, 29]), ([0, 1, 2, 3, 4, 5, 6, 7, 8, 9, 10, 11, 12, 13], [19, 20, 21, 22, 23, 24, 25, 26, 27, 28, 29]), ([0, 1, 2, 3, 4, 5, 6, 7, 8, 9, 10, 11, 12, 13, 14, 15, 16, 17, 18], [20, 21, 22, 23, 24, 25, 26, 27, 28, 29]), ([0, 1, 2, 3, 4, 5, 6, 7, 8, 9, 10, 11, 12, 13, 14, 15, 16, 17, 18, 19], [21, 22, 23, 24, 25, 26, 27, 28, 29]), ([0, 1, 2, 3, 4, 5, 6, 7, 8, 9, 10, 11, 12, 13, 14, 15, 16, 17, 18, 19, 20], [22, 23, 24, 25, 26, 27, 28, 29]), ([0, 1, 2, 3, 4, 5, 6, 7, 8, 9, 10, 11, 12, 13, 14, 15, 16, 17, 18, 19, 20, 21], [23, 24, 25, 26, 27, 28, 29]), ([0, 1, 2, 3, 4, 5, 6, 7, 8, 9, 10, 11, 12, 13, 14, 15, 16, 17, 18, 19, 20, 21, 22], [24, 26, 27, 28, 29]), ([0, 1, 2, 3, 4, 5, 6, 7, 8, 9, 10, 11, 12, 13, 14, 15, 16, 17, 18, 19, 20, 21, 22, 23], [26, 27, 28, 29]), ([0, 1, 2, 3, 4, 5, 6, 7, 8, 9, 10, 11, 12, 13, 14, 15, 16, 17, 18, 19, 20, 21, 22], [26, 27, 28, 29]), ([0, 1, 2, 3, 4, 5, 6, 7, 8, 9, 10, 11, 12, 13, 14, 15, 16, 17, 18, 19, 20, 21, 22, 23, 24, 25], [27, 28, 29]), ([0, 1, 2, 3, 4, 5, 6, 7, 8, 9, 10, 11, 12, 13, 14, 15, 16, 17, 18, 19, 20, 21, 22, 23, 24, 25, 26], [28, 29]), ([0, 1, 2, 3, 4, 5, 6, 7, 8, 9, 10, 11, 12, 13, 14, 15, 16, 17, 18, 19, 20, 21, 22, 23, 24, 25, 26, 27], [29]), ([0, 1, 2, 3, 4, 5, 6, 7, 8, 9, 10, 11, 12, 13, 14, 15, 16, 17, 18, 19, 20, 21, 22, 23, 24, 25, 26, 27, 28], [])] (fun L ac w => St 34 w0 [(5, L 0, .bool true), (6, L 1, .bool true), (7, L 2, W Nord), (8, L 3, W Nord), (9, L 4, .bool true), (10, L 5, .bool true), (11, L 6, .bool true), (12, L 7, W a), (13, L 8, W r3), (14, L 9, W a), (15, L 10, W r4), (16, L 11, .bool true), (17, L 12, .bool true), (18, L 13, .bool true), (19, L 14, W a), (20, L 15, W b), (21, L 16, W r5), (22, L 17, W a), (23, L 18, W b), (24, L 19, W r6), (25, L 20, .bool true), (26, L 21, .bool true), (27, L 22, .bool true), (28, L 23, W a), (29, L 24, W r7), (30, L 25, W a), (31, L 26, W r8), (32, L 27, .bool true), (33, L 28, .bool true), (4, L 29, .bool true), (2, true, .pointer (some ⟨g1, 0, none⟩)), (3, true, .pointer (some ⟨g2, 0, none⟩)), (4, true, .bool false)] [(true, g1, 24, (Wl a)), (true, g2, 24, (Wl b))] ac w) (by kernel_rfl) (by kernel_rfl) ?_ ?_ ?_
  · exact hs.drew.skip.skip.skip.skip.skip.skip.skip.skip.skip.skip.skip.skip.skip.skip.skip.skip.skip.skip.skip.skip.skip.skip.skip.skip.skip.skip.skip.skip.skip.skip
  · refine ⟨?_, ?_, ?_, ?_, ?_, ?_, ?_, ?_, ?_, ?_, ?_, ?_, ?_, ?_, ?_, ?_, ?_, ?_, ?_, ?_, ?_, ?_, ?_, ?_, ?_, ?_, ?_, ?_, ?_, ?_, trivial⟩
    · intro L ac w hJ
      have hs := hJ
      refine wpO_plain rfl (op_call (F := 8) hs (some 0) (v := .bool true) rfl rfl rfl rfl (Try.call8 _) alive_c rfl fun ac w hs => ?_)
      exact hs
    · intro L ac w hJ
      have hs := hJ
      refine wpO_plain rfl (op_move hs (some 1) rfl rfl rfl rfl fun ac hs => ?_)
      exact hs
    · intro L ac w hJ
      have hs := hJ
      refine wpO_in hs rfl rfl rfl (op_call (F := 9) hs (some 2) (v := W Nord) rfl rfl rfl rfl (Try.call9 _) order_c rfl fun ac w hs => ?_)
      exact hs
    · intro L ac w hJ
      have hs := hJ
      refine wpO_in hs rfl rfl rfl (op_call (F := 10) hs (some 3) (v := W Nord) rfl rfl rfl rfl (Try.call10 _) rorder_c rfl fun ac w hs => ?_)
      exact hs
    · intro L ac w hJ
      have hs := hJ
      refine wpO_in hs rfl rfl rfl (op_bin hs (some 4) (v := .bool true) rfl rfl rfl rfl (fun w => run_eqGuard_agg w .eql 24 _ _ _ _ Try.eqGuardType24) (eqlW Nord Nord Nord_lt Nord_lt true (decide_eq_true rfl)) rfl fun ac hs => ?_)
      exact hs
    · intro L ac w hJ
      have hs := hJ
      refine wpO_plain rfl (op_pickT hs (some 5) rfl rfl rfl rfl rfl fun ac hs => ?_)
      exact hs
    · intro L ac w hJ
      have hs := hJ
      refine wpO_plain rfl (op_move hs (some 6) rfl rfl rfl rfl fun ac hs => ?_)
      exact hs
    · intro L ac w hJ
      have hs := hJ
      refine wpO_in hs rfl rfl rfl (op_load hs (some 7) 0 (v := W a) rfl rfl rfl rfl Try.isAgg24 Try.sizeOf24 rfl rfl fun ac hs => ?_)
      exact hs
    · intro L ac w hJ
      have hs := hJ
      refine wpO_in hs rfl rfl rfl (op_call (F := 11) hs (some 8) (v := W r3) rfl rfl rfl rfl (Try.call11 _) (red_c a r3 ha hr3) rfl fun ac w hs => ?_)
      exact hs
    · intro L ac w hJ
      have hs := hJ
      refine wpO_in hs rfl rfl rfl (op_load hs (some 9) 0 (v := W a) rfl rfl rfl rfl Try.isAgg24 Try.sizeOf24 rfl rfl fun ac hs => ?_)
      exact hs
    · intro L ac w hJ
      have hs := hJ
      refine wpO_in hs rfl rfl rfl (op_call (F := 12) hs (some 10) (v := W r4) rfl rfl rfl rfl (Try.call12 _) (rred_c a r4 ha hr4) rfl fun ac w hs => ?_)
      exact hs
    · intro L ac w hJ
      have hs := hJ
      refine wpO_in hs rfl rfl rfl (op_bin hs (some 11) (v := .bool true) rfl rfl rfl rfl (fun w => run_eqGuard_agg w .eql 24 _ _ _ _ Try.eqGuardType24) (eqlW r3 r4 lr3 lr4 true (decide_eq_true (by rw [← hr4, ← hr3]))) rfl fun ac hs => ?_)
      exact hs
    · intro L ac w hJ
      have hs := hJ
      refine wpO_plain rfl (op_pickT hs (some 12) rfl rfl rfl rfl rfl fun ac hs => ?_)
      exact hs
    · intro L ac w hJ
      have hs := hJ
      refine wpO_plain rfl (op_move hs (some 13) rfl rfl rfl rfl fun ac hs => ?_)
      exact hs
    · intro L ac w hJ
      have hs := hJ
      refine wpO_in hs rfl rfl rfl (op_load hs (some 14) 0 (v := W a) rfl rfl rfl rfl Try.isAgg24 Try.sizeOf24 rfl rfl fun ac hs => ?_)
      exact hs
    · intro L ac w hJ
      have hs := hJ
      refine wpO_in hs rfl rfl rfl (op_load hs (some 15) 1 (v := W b) rfl rfl rfl rfl Try.isAgg24 Try.sizeOf24 rfl rfl fun ac hs => ?_)
      exact hs
    · intro L ac w hJ
      have hs := hJ
      refine wpO_in hs rfl rfl rfl (op_call (F := 13) hs (some 16) (v := W r5) rfl rfl rfl rfl (Try.call13 _) (sadd_c a b r5 ha hb hr5) rfl fun ac w hs => ?_)
      exact hs
    · intro L ac w hJ
      have hs := hJ
      refine wpO_in hs rfl rfl rfl (op_load hs (some 17) 0 (v := W a) rfl rfl rfl rfl Try.isAgg24 Try.sizeOf24 rfl rfl fun ac hs => ?_)
      exact hs
    · intro L ac w hJ
      have hs := hJ
      refine wpO_in hs rfl rfl rfl (op_load hs (some 18) 1 (v := W b) rfl rfl rfl rfl Try.isAgg24 Try.sizeOf24 rfl rfl fun ac hs => ?_)
      exact hs
    · intro L ac w hJ
      have hs := hJ
      refine wpO_in hs rfl rfl rfl (op_call (F := 14) hs (some 19) (v := W r6) rfl rfl rfl rfl (Try.call14 _) (rsadd_c a b r6 ha hb hr6) rfl fun ac w hs => ?_)
      exact hs
    · intro L ac w hJ
      have hs := hJ
      refine wpO_in hs rfl rfl rfl (op_bin hs (some 20) (v := .bool true) rfl rfl rfl rfl (fun w => run_eqGuard_agg w .eql 24 _ _ _ _ Try.eqGuardType24) (eqlW r5 r6 lr5 lr6 true (decide_eq_true (by rw [← hr6, ← hr5]))) rfl fun ac hs => ?_)
      exact hs
    · intro L ac w hJ
      have hs := hJ
      refine wpO_plain rfl (op_pickT hs (some 21) rfl rfl rfl rfl rfl fun ac hs => ?_)
      exact hs
    · intro L ac w hJ
      have hs := hJ
      refine wpO_plain rfl (op_move hs (some 22) rfl rfl rfl rfl fun ac hs => ?_)
      exact hs
    · intro L ac w hJ
      have hs := hJ
      refine wpO_in hs rfl rfl rfl (op_load hs (some 23) 0 (v := W a) rfl rfl rfl rfl Try.isAgg24 Try.sizeOf24 rfl rfl fun ac hs => ?_)
      exact hs
    · intro L ac w hJ
      have hs := hJ
      refine wpO_in hs rfl rfl rfl (op_call (F := 15) hs (some 24) (v := W r7) rfl rfl rfl rfl (Try.call15 _) (sneg_c a r7 ha hr7) rfl fun ac w hs => ?_)
      exact hs
    · intro L ac w hJ
      have hs := hJ
      refine wpO_in hs rfl rfl rfl (op_load hs (some 25) 0 (v := W a) rfl rfl rfl rfl Try.isAgg24 Try.sizeOf24 rfl rfl fun ac hs => ?_)
      exact hs
    · intro L ac w hJ
      have hs := hJ
      refine wpO_in hs rfl rfl rfl (op_call (F := 16) hs (some 26) (v := W r8) rfl rfl rfl rfl (Try.call16 _) (rsneg_c a r8 ha hr8) rfl fun ac w hs => ?_)
      exact hs
    · intro L ac w hJ
      have hs := hJ
      refine wpO_in hs rfl rfl rfl (op_bin hs (some 27) (v := .bool true) rfl rfl rfl rfl (fun w => run_eqGuard_agg w .eql 24 _ _ _ _ Try.eqGuardType24) (eqlW r7 r8 lr7 lr8 true (decide_eq_true (by rw [← hr8, ← hr7]))) rfl fun ac hs => ?_)
      exact hs
    · intro L ac w hJ
      have hs := hJ
      refine wpO_plain rfl (op_pickT hs (some 28) rfl rfl rfl rfl rfl fun ac hs => ?_)
      exact hs
    · intro L ac w hJ
      have hs := hJ
      refine wpO_plain rfl (op_assign hs (some 29) rfl rfl rfl rfl fun ac hs => ?_)
      exact hs
  intro ac w hJ
  replace hs : St 34 w0 [(5, true, .bool true), (6, true, .bool true), (7, true, W Nord), (8, true, W Nord), (9, true, .bool true), (10, true, .bool true), (11, true, .bool true), (12, true, W a), (13, true, W r3), (14, true, W a), (15, true, W r4), (16, true, .bool true), (17, true, .bool true), (18, true, .bool true), (19, true, W a), (20, true, W b), (21, true, W r5), (22, true, W a), (23, true, W b), (24, true, W r6), (25, true, .bool true), (26, true, .bool true), (27, true, .bool true), (28, true, W a), (29, true, W r7), (30, true, W a), (31, true, W r8), (32, true, .bool true), (33, true, .bool true), (4, true, .bool true), (2, true, .pointer (some ⟨g1, 0, none⟩)), (3, true, .pointer (some ⟨g2, 0, none⟩)), (4, true, .bool false)] [(true, g1, 24, (Wl a)), (true, g2, 24, (Wl b))] ac w := hJ
  refine then_n ?_
  refine wp_ret ?_
  exact bodyPost_ret (res1 rfl (rv_t hs rfl)) hs.defers ⟨rfl, hs.below⟩
end Go.Proofs.Ytfaiifpdafbenaa
