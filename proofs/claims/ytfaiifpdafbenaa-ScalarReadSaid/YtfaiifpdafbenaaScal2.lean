/- The contracts of scalar.Inv, Read, Hash and the reference's Mul, Inv, Read, Hash; the laws of products and inverses. -/
import Derived.Test.YtfaiifpdafbenaaRef13
import Derived.Test.YtfaiifpdafbenaaRef06
import Derived.Test.YtfaiifpdafbenaaInv
import Derived.Test.YtfaiifpdafbenaaPowP
namespace Go.Proofs.Ytfaiifpdafbenaa
open Go.RowKit
set_option maxRecDepth 10000

theorem Nord_pos : 0 < Nord := by decide
theorem inv_ord {r v : Nat} (hr : r < Nord) (hv : pinv Nord r = v) (w : World) : Calls Try.prog 39 #[W r, W Nord] w fun e w' => e = .returned (W v) ∧ Below w.heap.size w w' := by
  refine inv_c r Nord v hr Nord_lt (by decide) (by decide) (fun h => gcd_one EM.pr_order hr h) (fun y hy h1 h0 => ?_) (fun h => ?_) w
  · rw [← hv]
    exact inv_uniq EM.pr_order (by rw [Nat.mod_eq_of_lt hr]; exact h0) hy h1
  · rw [← hv, h, pinv_zero (by decide)]
/-- the number of bytes, if it is below the order -/
def sread (b : Nat → Nat) : Nat := if pr b 0 32 < Nord then pr b 0 32 else 0
theorem sread_lt (b : Nat → Nat) : sread b < 2 ^ 256 := by
  unfold sread
  have := Nord_lt
  split
  · omega
  · decide
theorem sread_yes {b : Nat → Nat} {a : Nat} (h : pr b 0 32 = a) (hp : a < Nord) : sread b = a := by unfold sread; rw [h, if_pos hp]
theorem sread_no {b : Nat → Nat} {a : Nat} (h : pr b 0 32 = a) (hp : ¬ a < Nord) : sread b = 0 := by unfold sread; rw [h, if_neg hp]
theorem eqlB {P : Program} {T : TypeId} {p q : Bool} (hu : P.underlying T = some .bool) (h : p = q) (w : World) : (binOp .eql T (.bool p) (.bool q)).run P w = .ok (.bool true) w := by
  subst h
  have := run_equalIn_bool (P := P) w 9999 T p p hu
  simp only [binOp, Sem.run_bind, Op.equal, Op.maxDepth, this, Result.andThen_ok, Sem.run_pure]
  simp
theorem sinv_zero {a r v : Nat} (h : r = 0) (hr : a % Nord = r) (hv : pinv Nord a = v) : v = 0 := by
  rw [← hv, ← pinv_mod, hr, h]; exact pinv_zero (by decide)
theorem sinv_one {a r v x : Nat} (h : ¬ r = 0) (hr : a % Nord = r) (hv : pinv Nord a = v) (hx : a * v % Nord = x) : x = 1 := by
  rw [← hx, ← hv, Nat.mul_comm]
  exact pinv_mul EM.pr_order (by rw [hr]; exact h)

theorem sinv_c (a x : Nat) (ha : a < 2 ^ 256) (hx : pinv Nord a = x) (w0 : World) : Calls Try.prog 23 #[W a] w0 fun e w' => e = .returned (W x) ∧ Below w0.heap.size w0 w' := by
  refine enter (n := 39) (args := [W a]) Try.func23 rfl rfl (Nat.le_of_ble_eq_true rfl) fun ac hs => ?_
  refine wp_seq ?_
  refine wp_region_lit ?_
  refine lstep (wpO_plain rfl (op_box hs none none (cs := (Wl a)) rfl rfl rfl rfl rfl rfl fun g1 ac w hs => ?_))
  refine lstep (wpO_plain rfl (op_alloc hs none none (cs := [.int .u64 0, .int .u64 0, .int .u64 0, .int .u64 0]) rfl rfl Try.zeroValue24 (by kernel_rfl) rfl rfl fun g2 ac w hs => ?_))
  refine wpList_nil ?_
  refine then_n ?_
  refine wp_seq ?_
  refine wp_region_lit ?_
  refine lstep (wpO_plain rfl (op_call (F := 9) hs none (v := W Nord) rfl rfl rfl rfl (Try.call9 _) order_c rfl fun ac w hs => ?_))
  refine lstep (wpO_plain rfl (op_call (F := 32) hs none (v := W 2) rfl rfl rfl rfl (Try.call32 _) (fun w => from_any w 2 (by decide)) rfl fun ac w hs => ?_))
  obtain ⟨d3, hd3, ld3⟩ : ∃ d, (Nord + 2 ^ 256 - 2) % 2 ^ 256 = d ∧ d < 2 ^ 256 := ⟨_, rfl, Nat.mod_lt _ (Nat.two_pow_pos 256)⟩
  obtain ⟨c4, hc4⟩ : ∃ c, bor Nord 2 = c := ⟨_, rfl⟩
  refine lstep (wpO_plain rfl (op_call (F := 26) hs none (v := .tuple #[W d3, .int .u64 ((c4 : Nat) : Int)]) rfl rfl rfl rfl (Try.call26 _) (fun w => sub_at w Nord 2 d3 c4 Nord_lt (by decide) hd3 hc4) rfl fun ac w hs => ?_))
  refine lstep (wpO_plain rfl (op_move hs none rfl rfl rfl rfl fun ac hs => ?_))
  refine lstep (wpO_plain rfl (op_extract hs none rfl rfl rfl rfl rfl fun ac hs => ?_))
  refine lstep (wpO_plain rfl (op_extract hs none rfl rfl rfl rfl rfl fun ac hs => ?_))
  refine lstep (wpO_plain rfl (op_alloc hs none none (cs := [.int .u64 0, .int .u64 0, .int .u64 0, .int .u64 0]) rfl rfl Try.zeroValue24 (by kernel_rfl) rfl rfl fun g5 ac w hs => ?_))
  refine lstep (wpO_plain rfl (op_store hs 2 (vs := (Wl d3)) rfl rfl rfl rfl rfl Try.sizeOf24 rfl rfl rfl rfl rfl fun w hs => ?_))
  refine lstep (wpO_plain rfl (op_assign hs none rfl rfl rfl rfl fun ac hs => ?_))
  refine wpList_nil ?_
  refine then_n ?_
  refine wp_seq ?_
  replace hs : St 39 w0 [(1, true, .pointer (some ⟨g1, 0, none⟩)), (2, true, .pointer (some ⟨g2, 0, none⟩)), (3, true, .pointer (some ⟨g5, 0, none⟩))] [(true, g1, 24, (Wl a)), (true, g2, 24, [.int .u64 0, .int .u64 0, .int .u64 0, .int .u64 0]), (true, g5, 24, (Wl d3))] ac w := hs.re ⟨rfl, rfl, rfl, trivial⟩
  obtain ⟨r6, hr6, lr6⟩ : ∃ r, a % Nord = r ∧ r < 2 ^ 256 := ⟨_, rfl, modN_lt _⟩
  refine region_inv [([], [2, 5, 6]), ([], [2, 5, 6]), ([0, 1], [5, 6]), ([], [5, 6]), ([], [5, 6]), ([0, 1, 2, 3, 4], [6]), ([0, 1, 2, 3, 4, 5], [])] (fun L ac w => ∃ (g7 : Nat) (g8 : Nat), St 39 w0 [(14, L 0, W 1), (15, L 1, W a), (16, L 2, W r6), (5, L 3, .pointer (some ⟨g7, 0, none⟩)), (6, L 4, .pointer (some ⟨g8, 0, none⟩)), (1, true, .pointer (some ⟨g1, 0, none⟩)), (2, true, .pointer (some ⟨g2, 0, none⟩)), (3, true, .pointer (some ⟨g5, 0, none⟩))] [(true, g1, 24, (Wl a)), (true, g2, 24, [.int .u64 0, .int .u64 0, .int .u64 0, .int .u64 0]), (true, g5, 24, (Wl d3)), (L 3, g7, 24, (cond (L 5) (Wl 1) [.int .u64 0, .int .u64 0, .int .u64 0, .int .u64 0])), (L 4, g8, 24, (cond (L 6) (Wl r6) [.int .u64 0, .int .u64 0, .int .u64 0, .int .u64 0]))] ac w) (by kernel_rfl) (by kernel_rfl) ?_ ?_ ?_
  · exact ⟨0, 0, hs.drew.skip.skip.skip.skip.skip.pad.pad⟩
  · refine ⟨?_, ?_, ?_, ?_, ?_, ?_, ?_, trivial⟩
    · intro L ac w hJ
      obtain ⟨g7, g8, hs⟩ := hJ
      refine wpO_plain rfl (op_call (F := 32) hs (some 0) (v := W 1) rfl rfl rfl rfl (Try.call32 _) (fun w => from_any w 1 (by decide)) rfl fun ac w hs => ?_)
      exact ⟨g7, g8, hs⟩
    · intro L ac w hJ
      obtain ⟨g7, g8, hs⟩ := hJ
      refine wpO_plain rfl (op_load hs (some 1) 0 (v := W a) rfl rfl rfl rfl Try.isAgg24 Try.sizeOf24 rfl rfl fun ac hs => ?_)
      exact ⟨g7, g8, hs⟩
    · intro L ac w hJ
      obtain ⟨g7, g8, hs⟩ := hJ
      refine wpO_plain rfl (op_call (F := 11) hs (some 2) (v := W r6) rfl rfl rfl rfl (Try.call11 _) (red_c a r6 ha hr6) rfl fun ac w hs => ?_)
      exact ⟨g7, g8, hs⟩
    · intro L ac w hJ
      obtain ⟨g7, g8, hs⟩ := hJ
      refine wpO_plain rfl (op_alloc hs (some 3) (some 3) (cs := [.int .u64 0, .int .u64 0, .int .u64 0, .int .u64 0]) rfl rfl Try.zeroValue24 (by kernel_rfl) rfl rfl fun g7 ac w hs => ?_)
      exact ⟨g7, g8, hs⟩
    · intro L ac w hJ
      obtain ⟨g7, g8, hs⟩ := hJ
      refine wpO_plain rfl (op_alloc hs (some 4) (some 4) (cs := [.int .u64 0, .int .u64 0, .int .u64 0, .int .u64 0]) rfl rfl Try.zeroValue24 (by kernel_rfl) rfl rfl fun g8 ac w hs => ?_)
      exact ⟨g7, g8, hs⟩
    · intro L ac w hJ
      obtain ⟨g7, g8, hs⟩ := hJ
      refine wpO_plain rfl (op_store hs 3 (vs := (Wl 1)) rfl rfl rfl rfl rfl Try.sizeOf24 rfl rfl rfl rfl rfl fun w hs => ?_)
      exact ⟨g7, g8, hs⟩
    · intro L ac w hJ
      obtain ⟨g7, g8, hs⟩ := hJ
      refine wpO_plain rfl (op_store hs 4 (vs := (Wl r6)) rfl rfl rfl rfl rfl Try.sizeOf24 rfl rfl rfl rfl rfl fun w hs => ?_)
      exact ⟨g7, g8, hs⟩
  intro ac w hJ
  obtain ⟨g7, g8, hs⟩ := hJ
  replace hs : St 39 w0 [(14, true, W 1), (15, true, W a), (16, true, W r6), (5, true, .pointer (some ⟨g7, 0, none⟩)), (6, true, .pointer (some ⟨g8, 0, none⟩)), (1, true, .pointer (some ⟨g1, 0, none⟩)), (2, true, .pointer (some ⟨g2, 0, none⟩)), (3, true, .pointer (some ⟨g5, 0, none⟩))] [(true, g1, 24, (Wl a)), (true, g2, 24, [.int .u64 0, .int .u64 0, .int .u64 0, .int .u64 0]), (true, g5, 24, (Wl d3)), (true, g7, 24, (Wl 1)), (true, g8, 24, (Wl r6))] ac w := hs
  refine then_n ?_
  refine wp_seq ?_
  refine wp_seq ?_
  refine wp_region_lit ?_
  refine lstep (wpO_plain rfl (op_load hs none 2 (v := W d3) rfl rfl rfl rfl Try.isAgg24 Try.sizeOf24 rfl rfl fun ac hs => ?_))
  have ll9 := ln_le d3 256 ld3
  refine lstep (wpO_plain rfl (op_call (F := 38) hs none (v := .int .i64 ((ln d3 : Nat) : Int)) rfl rfl rfl rfl (Try.call38 _) (fun w => len_any w d3 ld3) rfl fun ac w hs => ?_))
  refine lstep (wpO_plain rfl (op_move hs none rfl rfl rfl rfl fun ac hs => ?_))
  refine wpList_nil ?_
  refine then_n ?_
  refine wp_block ?_
  have hdn : d3 = Nord - 2 := by rw [← hd3]; decide
  refine wp_loop_m (fun μ ac w => ∃ (i : Nat) (o : Nat) (p : Nat), (ln d3 - i) = μ ∧ (i ≤ ln d3) ∧ (o < 2 ^ 256) ∧ (p < 2 ^ 256) ∧ (r6 ^ (d3 % 2 ^ i) % Nord = o) ∧ (r6 ^ (2 ^ i) % Nord = p) ∧ St 39 w0 [(1, true, .pointer (some ⟨g1, 0, none⟩)), (2, true, .pointer (some ⟨g2, 0, none⟩)), (3, true, .pointer (some ⟨g5, 0, none⟩)), (5, true, .pointer (some ⟨g7, 0, none⟩)), (6, true, .pointer (some ⟨g8, 0, none⟩)), (18, true, .int .i64 ((ln d3 : Nat) : Int)), (19, true, .int .i64 ((i : Nat) : Int))] [(true, g1, 24, (Wl a)), (true, g2, 24, [.int .u64 0, .int .u64 0, .int .u64 0, .int .u64 0]), (true, g5, 24, (Wl d3)), (true, g7, 24, (Wl o)), (true, g8, 24, (Wl p))] ac w) ?_ ?_
  · exact ⟨_, 0, 1, r6, rfl, (Nat.zero_le _), (by decide), lr6, (pow_start (by decide)), (pow_start2 (hr6 ▸ Nat.mod_lt _ Nord_pos)), (hs.re ⟨rfl, rfl, rfl, rfl, rfl, rfl, rfl, trivial⟩)⟩
  intro μ ac w ⟨i, o, p, hμ, hi, lo, lp, ho, hp, hs⟩
  refine wp_seq ?_
  refine wp_region_lit ?_
  refine lstep (wpO_plain rfl (op_bin hs none (v := .bool (decide (i < ln d3))) rfl rfl rfl rfl (fun _ => rfl) (bin_lssN (x := i) (y := ln d3)) rfl fun ac hs => ?_))
  refine wpList_nil ?_
  refine then_n ?_
  refine wp_seq ?_
  refine wp_cond_split (hs.ev rfl) (fun hc => ?_) (fun hc => ?_)
  · skip
    have hp10 := of_decide_eq_true hc
    have hlt : i < ln d3 := of_decide_eq_true hc
    refine wp_skip ?_
    refine then_n ?_
    refine wp_seq ?_
    refine wp_block ?_
    refine wp_seq ?_
    refine wp_region_lit ?_
    refine lstep (wpO_plain rfl (op_move hs none rfl rfl rfl rfl fun ac hs => ?_))
    refine lstep (wpO_plain rfl (op_assign hs none rfl rfl rfl rfl fun ac hs => ?_))
    refine wpList_nil ?_
    refine then_n ?_
    refine wp_seq ?_
    refine wp_seq ?_
    refine wp_region_lit ?_
    refine lstep (wpO_plain rfl (op_move hs none rfl rfl rfl rfl fun ac hs => ?_))
    refine lstep (wpO_plain rfl (op_bin hs none (v := .int .i64 ((i / 64 : Nat) : Int)) rfl rfl rfl rfl (fun _ => rfl) (bin_quoN (x := i) (y := 64) (z := i / 64) rfl (by decide) (show i < 9223372036854775808 by omega)) rfl fun ac hs => ?_))
    refine lstep (wpO_plain rfl (op_idxA hs none (j := i / 64) rfl rfl rfl rfl Try.underlying24 Try.sizeOf22 (show i / 64 < 4 by omega) (off := i / 64) (by omega) rfl fun ac hs => ?_))
    have l11 := limN_lt d3 (i / 64)
    refine lstep (wpO_plain rfl (op_load hs none 2 (v := .int .u64 ((limN d3 (i / 64) : Nat) : Int)) rfl rfl rfl rfl Try.isAgg22 Try.sizeOf22 (Wl_get (j := i / 64) (show i / 64 < 4 by omega)) rfl fun ac hs => ?_))
    refine lstep (wpO_plain rfl (op_move hs none rfl rfl rfl rfl fun ac hs => ?_))
    refine lstep (wpO_plain rfl (op_bin hs none (v := .int .i64 ((i % 64 : Nat) : Int)) rfl rfl rfl rfl (fun _ => rfl) (bin_remN (x := i) (y := 64) (z := i % 64) rfl (by decide)) rfl fun ac hs => ?_))
    refine lstep (wpO_plain rfl (op_bin hs none (v := .int .u64 (((limN d3 (i / 64)) / 2 ^ (i % 64) : Nat) : Int)) rfl rfl rfl rfl (fun _ => rfl) (bin_shrN (x := limN d3 (i / 64)) (y := i % 64) (z := (limN d3 (i / 64)) / 2 ^ (i % 64)) rfl (limN_lt _ _)) rfl fun ac hs => ?_))
    refine lstep (wpO_plain rfl (op_bin hs none (v := .int .u64 ((((limN d3 (i / 64)) / 2 ^ (i % 64)) % 2 : Nat) : Int)) rfl rfl rfl rfl (fun _ => rfl) (bin_andN (x := (limN d3 (i / 64)) / 2 ^ (i % 64)) (y := 1) (z := ((limN d3 (i / 64)) / 2 ^ (i % 64)) % 2) (Nat.and_two_pow_sub_one_eq_mod ((limN d3 (i / 64)) / 2 ^ (i % 64)) 1) (shr_lt (limN_lt _ _)) (by decide) (show ((limN d3 (i / 64)) / 2 ^ (i % 64)) % 2 < 18446744073709551616 by omega)) rfl fun ac hs => ?_))
    refine lstep (wpO_plain rfl (op_bin hs none (v := .bool (decide (((limN d3 (i / 64)) / 2 ^ (i % 64)) % 2 ≠ 0))) rfl rfl rfl rfl (fun _ => rfl) (bin_neqN (x := ((limN d3 (i / 64)) / 2 ^ (i % 64)) % 2) (y := 0)) rfl fun ac hs => ?_))
    refine wpList_nil ?_
    refine then_n ?_
    refine wp_cond_split (hs.ev rfl) (fun hc => ?_) (fun hc => ?_)
    · skip
      have hp12 := of_decide_eq_true hc
      refine wp_region_lit ?_
      refine lstep (wpO_plain rfl (op_load hs none 3 (v := W o) rfl rfl rfl rfl Try.isAgg24 Try.sizeOf24 rfl rfl fun ac hs => ?_))
      refine lstep (wpO_plain rfl (op_load hs none 4 (v := W p) rfl rfl rfl rfl Try.isAgg24 Try.sizeOf24 rfl rfl fun ac hs => ?_))
      obtain ⟨r13, hr13, lr13⟩ : ∃ r, o * p % Nord = r ∧ r < 2 ^ 256 := ⟨_, rfl, modN_lt _⟩
      refine lstep (wpO_plain rfl (op_call (F := 17) hs none (v := W r13) rfl rfl rfl rfl (Try.call17 _) (smul_c o p r13 lo lp hr13) rfl fun ac w hs => ?_))
      refine lstep (wpO_plain rfl (op_store hs 3 (vs := (Wl r13)) rfl rfl rfl rfl rfl Try.sizeOf24 rfl rfl rfl rfl rfl fun w hs => ?_))
      refine wpList_nil ?_
      refine then_n ?_
      refine wp_region_lit ?_
      refine lstep (wpO_plain rfl (op_load hs none 4 (v := W p) rfl rfl rfl rfl Try.isAgg24 Try.sizeOf24 rfl rfl fun ac hs => ?_))
      refine lstep (wpO_plain rfl (op_load hs none 4 (v := W p) rfl rfl rfl rfl Try.isAgg24 Try.sizeOf24 rfl rfl fun ac hs => ?_))
      obtain ⟨r14, hr14, lr14⟩ : ∃ r, p * p % Nord = r ∧ r < 2 ^ 256 := ⟨_, rfl, modN_lt _⟩
      refine lstep (wpO_plain rfl (op_call (F := 17) hs none (v := W r14) rfl rfl rfl rfl (Try.call17 _) (smul_c p p r14 lp lp hr14) rfl fun ac w hs => ?_))
      refine lstep (wpO_plain rfl (op_store hs 4 (vs := (Wl r14)) rfl rfl rfl rfl rfl Try.sizeOf24 rfl rfl rfl rfl rfl fun w hs => ?_))
      refine wpList_nil ?_
      refine blk_n ?_
      refine then_n ?_
      refine wp_region_lit ?_
      refine lstep (wpO_plain rfl (op_bin hs none (v := .int .i64 ((i + 1 : Nat) : Int)) rfl rfl rfl rfl (fun _ => rfl) (bin_addN (x := i) (y := 1) (z := i + 1) rfl (show i + 1 < 9223372036854775808 by omega)) rfl fun ac hs => ?_))
      refine lstep (wpO_plain rfl (op_move hs none rfl rfl rfl rfl fun ac hs => ?_))
      refine wpList_nil ?_
      refine then_n ?_
      exact ⟨_, ⟨(i + 1), r13, r14, rfl, hlt, lr13, lr14, (pow_yes ho hp hr13 (by rw [← bit_lim]; exact hp12)), (pow_sq hp hr14), (hs.re ⟨rfl, rfl, rfl, rfl, rfl, rfl, rfl, trivial⟩)⟩, (by omega)⟩
    · skip
      have hp15 := of_decide_eq_false hc
      refine wp_skip ?_
      refine then_n ?_
      refine wp_region_lit ?_
      refine lstep (wpO_plain rfl (op_load hs none 4 (v := W p) rfl rfl rfl rfl Try.isAgg24 Try.sizeOf24 rfl rfl fun ac hs => ?_))
      refine lstep (wpO_plain rfl (op_load hs none 4 (v := W p) rfl rfl rfl rfl Try.isAgg24 Try.sizeOf24 rfl rfl fun ac hs => ?_))
      obtain ⟨r16, hr16, lr16⟩ : ∃ r, p * p % Nord = r ∧ r < 2 ^ 256 := ⟨_, rfl, modN_lt _⟩
      refine lstep (wpO_plain rfl (op_call (F := 17) hs none (v := W r16) rfl rfl rfl rfl (Try.call17 _) (smul_c p p r16 lp lp hr16) rfl fun ac w hs => ?_))
      refine lstep (wpO_plain rfl (op_store hs 4 (vs := (Wl r16)) rfl rfl rfl rfl rfl Try.sizeOf24 rfl rfl rfl rfl rfl fun w hs => ?_))
      refine wpList_nil ?_
      refine blk_n ?_
      refine then_n ?_
      refine wp_region_lit ?_
      refine lstep (wpO_plain rfl (op_bin hs none (v := .int .i64 ((i + 1 : Nat) : Int)) rfl rfl rfl rfl (fun _ => rfl) (bin_addN (x := i) (y := 1) (z := i + 1) rfl (show i + 1 < 9223372036854775808 by omega)) rfl fun ac hs => ?_))
      refine lstep (wpO_plain rfl (op_move hs none rfl rfl rfl rfl fun ac hs => ?_))
      refine wpList_nil ?_
      refine then_n ?_
      exact ⟨_, ⟨(i + 1), o, r16, rfl, hlt, lo, lr16, (pow_no ho (by rw [← bit_lim]; exact hp15)), (pow_sq hp hr16), (hs.re ⟨rfl, rfl, rfl, rfl, rfl, rfl, rfl, trivial⟩)⟩, (by omega)⟩
  · skip
    have hp17 := of_decide_eq_false hc
    obtain rfl : i = ln d3 := by omega
    refine wp_exit ?_
    refine then_e ?_
    refine then_e ?_
    refine blk_e ?_
    refine then_n ?_
    refine wp_seq ?_
    refine wp_region_lit ?_
    refine lstep (wpO_plain rfl (op_load hs none 3 (v := W o) rfl rfl rfl rfl Try.isAgg24 Try.sizeOf24 rfl rfl fun ac hs => ?_))
    refine lstep (wpO_plain rfl (op_store hs 1 (vs := (Wl o)) rfl rfl rfl rfl rfl Try.sizeOf24 rfl rfl rfl rfl rfl fun w hs => ?_))
    refine wpList_nil ?_
    refine then_n ?_
    refine wp_ret ?_
    exact bodyPost_ret (res1 rfl (rv_c hs 1 (v := W o) rfl rfl Try.isAgg24 Try.sizeOf24 rfl)) hs.defers ⟨by rw [← hx, ← pinv_mod, hr6]; unfold pinv; rw [← hdn]; exact congrArg (fun z => Ending.returned (W z)) (pow_end ho).symm, hs.below⟩
theorem rsinv_c (a x : Nat) (ha : a < 2 ^ 256) (hx : pinv Nord a = x) (w0 : World) : Calls Try.prog 24 #[W a] w0 fun e w' => e = .returned (W x) ∧ Below w0.heap.size w0 w' := by
  refine enter (n := 7) (args := [W a]) Try.func24 rfl rfl (Nat.le_of_ble_eq_true rfl) fun ac hs => ?_
  refine wp_seq ?_
  refine wp_region_lit ?_
  refine lstep (wpO_plain rfl (op_box hs none none (cs := (Wl a)) rfl rfl rfl rfl rfl rfl fun g1 ac w hs => ?_))
  refine lstep (wpO_plain rfl (op_alloc hs none none (cs := [.int .u64 0, .int .u64 0, .int .u64 0, .int .u64 0]) rfl rfl Try.zeroValue24 (by kernel_rfl) rfl rfl fun g2 ac w hs => ?_))
  refine wpList_nil ?_
  refine then_n ?_
  refine wp_seq ?_
  refine wp_region_lit ?_
  refine lstep (wpO_plain rfl (op_load hs none 0 (v := W a) rfl rfl rfl rfl Try.isAgg24 Try.sizeOf24 rfl rfl fun ac hs => ?_))
  obtain ⟨r3, hr3, lr3⟩ : ∃ r, a % Nord = r ∧ r < 2 ^ 256 := ⟨_, rfl, modN_lt _⟩
  refine lstep (wpO_plain rfl (op_call (F := 12) hs none (v := W r3) rfl rfl rfl rfl (Try.call12 _) (rred_c a r3 ha hr3) rfl fun ac w hs => ?_))
  refine lstep (wpO_plain rfl (op_call (F := 10) hs none (v := W Nord) rfl rfl rfl rfl (Try.call10 _) rorder_c rfl fun ac w hs => ?_))
  obtain ⟨v4, hv4, lv4⟩ : ∃ v, pinv Nord r3 = v ∧ v < 2 ^ 256 := ⟨_, rfl, Nat.lt_trans (pinv_lt Nord_pos) Nord_lt⟩
  refine lstep (wpO_plain rfl (op_call (F := 39) hs none (v := W v4) rfl rfl rfl rfl (Try.call39 _) (inv_ord (hr3 ▸ Nat.mod_lt _ Nord_pos) hv4) rfl fun ac w hs => ?_))
  refine lstep (wpO_plain rfl (op_store hs 1 (vs := (Wl v4)) rfl rfl rfl rfl rfl Try.sizeOf24 rfl rfl rfl rfl rfl fun w hs => ?_))
  refine wpList_nil ?_
  refine then_n ?_
  refine wp_ret ?_
  exact bodyPost_ret (res1 rfl (rv_c hs 1 (v := W v4) rfl rfl Try.isAgg24 Try.sizeOf24 rfl)) hs.defers ⟨by rw [← hx, ← hv4, ← hr3, pinv_mod], hs.below⟩
theorem rsmul_c (a b x : Nat) (ha : a < 2 ^ 256) (hb : b < 2 ^ 256) (hx : a * b % Nord = x) (w0 : World) : Calls Try.prog 22 #[W a, W b] w0 fun e w' => e = .returned (W x) ∧ Below w0.heap.size w0 w' := by
  refine enter (n := 23) (args := [W a, W b]) Try.func22 rfl rfl (Nat.le_of_ble_eq_true rfl) fun ac hs => ?_
  refine wp_seq ?_
  refine wp_region_lit ?_
  refine lstep (wpO_plain rfl (op_box hs none none (cs := (Wl a)) rfl rfl rfl rfl rfl rfl fun g1 ac w hs => ?_))
  refine lstep (wpO_plain rfl (op_box hs none none (cs := (Wl b)) rfl rfl rfl rfl rfl rfl fun g2 ac w hs => ?_))
  refine lstep (wpO_plain rfl (op_alloc hs none none (cs := [.int .u64 0, .int .u64 0, .int .u64 0, .int .u64 0]) rfl rfl Try.zeroValue24 (by kernel_rfl) rfl rfl fun g3 ac w hs => ?_))
  refine wpList_nil ?_
  refine then_n ?_
  refine wp_seq ?_
  refine wp_region_lit ?_
  refine lstep (wpO_plain rfl (op_load hs none 0 (v := W a) rfl rfl rfl rfl Try.isAgg24 Try.sizeOf24 rfl rfl fun ac hs => ?_))
  refine lstep (wpO_plain rfl (op_load hs none 1 (v := W b) rfl rfl rfl rfl Try.isAgg24 Try.sizeOf24 rfl rfl fun ac hs => ?_))
  obtain ⟨lo4, hlo4, llo4⟩ : ∃ d, a * b % 2 ^ 256 = d ∧ d < 2 ^ 256 := ⟨_, rfl, Nat.mod_lt _ (Nat.two_pow_pos 256)⟩
  obtain ⟨hi5, hhi5, lhi5⟩ : ∃ c, a * b / 2 ^ 256 = c ∧ c < 2 ^ 256 := ⟨_, rfl, mul_hi ha hb⟩
  refine lstep (wpO_plain rfl (op_call (F := 36) hs none (v := .tuple #[W lo4, W hi5]) rfl rfl rfl rfl (Try.call36 _) (rmul_c a b lo4 hi5 ha hb hlo4 hhi5) rfl fun ac w hs => ?_))
  refine lstep (wpO_plain rfl (op_move hs none rfl rfl rfl rfl fun ac hs => ?_))
  refine lstep (wpO_plain rfl (op_extract hs none rfl rfl rfl rfl rfl fun ac hs => ?_))
  refine lstep (wpO_plain rfl (op_extract hs none rfl rfl rfl rfl rfl fun ac hs => ?_))
  refine lstep (wpO_plain rfl (op_alloc hs none none (cs := [.int .u64 0, .int .u64 0, .int .u64 0, .int .u64 0]) rfl rfl Try.zeroValue24 (by kernel_rfl) rfl rfl fun g6 ac w hs => ?_))
  refine lstep (wpO_plain rfl (op_alloc hs none none (cs := [.int .u64 0, .int .u64 0, .int .u64 0, .int .u64 0]) rfl rfl Try.zeroValue24 (by kernel_rfl) rfl rfl fun g7 ac w hs => ?_))
  refine lstep (wpO_plain rfl (op_store hs 3 (vs := (Wl lo4)) rfl rfl rfl rfl rfl Try.sizeOf24 rfl rfl rfl rfl rfl fun w hs => ?_))
  refine lstep (wpO_plain rfl (op_store hs 4 (vs := (Wl hi5)) rfl rfl rfl rfl rfl Try.sizeOf24 rfl rfl rfl rfl rfl fun w hs => ?_))
  refine wpList_nil ?_
  refine then_n ?_
  refine wp_seq ?_
  replace hs : St 23 w0 [(4, true, .pointer (some ⟨g3, 0, none⟩)), (5, true, .pointer (some ⟨g6, 0, none⟩)), (6, true, .pointer (some ⟨g7, 0, none⟩))] [(true, g1, 24, (Wl a)), (true, g2, 24, (Wl b)), (true, g3, 24, [.int .u64 0, .int .u64 0, .int .u64 0, .int .u64 0]), (true, g6, 24, (Wl lo4)), (true, g7, 24, (Wl hi5))] ac w := hs.re ⟨rfl, rfl, rfl, trivial⟩
  obtain ⟨r8, hr8, lr8⟩ : ∃ r, (hi5 * 2 ^ 256 + lo4) % Nord = r ∧ r < 2 ^ 256 := ⟨_, rfl, Nat.lt_trans (Nat.mod_lt _ Nord_pos) Nord_lt⟩
  refine region_inv [([], [3, 4, 5, 6, 8, 9]), ([], [3, 4, 5, 6, 8, 9]), ([], [3, 4, 5, 6, 8, 9]), ([0, 1, 2], [4, 5, 6, 8, 9]), ([0, 1, 2, 3], [5, 6, 8, 9]), ([0, 1, 2, 3, 4], [8, 9]), ([0, 1, 2, 3, 4], [9]), ([], [8, 9]), ([0, 1, 2, 3, 4, 5, 7], [9]), ([0, 1, 2, 3, 4, 5, 6, 7, 8], [])] (fun L ac w => ∃ (g9 : Nat), St 23 w0 [(16, L 0, W hi5), (17, L 1, W lo4), (18, L 2, W Nord), (19, L 3, .tuple #[W r8, .int .i64 0]), (15, L 4, .tuple #[W r8, .int .i64 0]), (20, L 5, W r8), (21, L 6, .int .i64 0), (7, L 7, .pointer (some ⟨g9, 0, none⟩)), (8, L 9, .int .i64 0), (4, true, .pointer (some ⟨g3, 0, none⟩)), (5, true, .pointer (some ⟨g6, 0, none⟩)), (6, true, .pointer (some ⟨g7, 0, none⟩))] [(true, g1, 24, (Wl a)), (true, g2, 24, (Wl b)), (true, g3, 24, [.int .u64 0, .int .u64 0, .int .u64 0, .int .u64 0]), (true, g6, 24, (Wl lo4)), (true, g7, 24, (Wl hi5)), (L 7, g9, 24, (cond (L 8) (Wl r8) [.int .u64 0, .int .u64 0, .int .u64 0, .int .u64 0]))] ac w) (by kernel_rfl) (by kernel_rfl) ?_ ?_ ?_
  · exact ⟨0, hs.drew.skip.skip.skip.skip.skip.skip.skip.skip.skip.pad⟩
  · refine ⟨?_, ?_, ?_, ?_, ?_, ?_, ?_, ?_, ?_, ?_, trivial⟩
    · intro L ac w hJ
      obtain ⟨g9, hs⟩ := hJ
      refine wpO_plain rfl (op_load hs (some 0) 4 (v := W hi5) rfl rfl rfl rfl Try.isAgg24 Try.sizeOf24 rfl rfl fun ac hs => ?_)
      exact ⟨g9, hs⟩
    · intro L ac w hJ
      obtain ⟨g9, hs⟩ := hJ
      refine wpO_plain rfl (op_load hs (some 1) 3 (v := W lo4) rfl rfl rfl rfl Try.isAgg24 Try.sizeOf24 rfl rfl fun ac hs => ?_)
      exact ⟨g9, hs⟩
    · intro L ac w hJ
      obtain ⟨g9, hs⟩ := hJ
      refine wpO_plain rfl (op_call (F := 10) hs (some 2) (v := W Nord) rfl rfl rfl rfl (Try.call10 _) rorder_c rfl fun ac w hs => ?_)
      exact ⟨g9, hs⟩
    · intro L ac w hJ
      obtain ⟨g9, hs⟩ := hJ
      refine wpO_plain rfl (op_call (F := 37) hs (some 3) (v := .tuple #[W r8, .int .i64 0]) rfl rfl rfl rfl (Try.call37 _) (rrem_c hi5 lo4 Nord r8 lhi5 llo4 Nord_lt Nord_pos hr8) rfl fun ac w hs => ?_)
      exact ⟨g9, hs⟩
    · intro L ac w hJ
      obtain ⟨g9, hs⟩ := hJ
      refine wpO_plain rfl (op_move hs (some 4) rfl rfl rfl rfl fun ac hs => ?_)
      exact ⟨g9, hs⟩
    · intro L ac w hJ
      obtain ⟨g9, hs⟩ := hJ
      refine wpO_plain rfl (op_extract hs (some 5) rfl rfl rfl rfl rfl fun ac hs => ?_)
      exact ⟨g9, hs⟩
    · intro L ac w hJ
      obtain ⟨g9, hs⟩ := hJ
      refine wpO_plain rfl (op_extract hs (some 6) rfl rfl rfl rfl rfl fun ac hs => ?_)
      exact ⟨g9, hs⟩
    · intro L ac w hJ
      obtain ⟨g9, hs⟩ := hJ
      refine wpO_plain rfl (op_alloc hs (some 7) (some 5) (cs := [.int .u64 0, .int .u64 0, .int .u64 0, .int .u64 0]) rfl rfl Try.zeroValue24 (by kernel_rfl) rfl rfl fun g9 ac w hs => ?_)
      exact ⟨g9, hs⟩
    · intro L ac w hJ
      obtain ⟨g9, hs⟩ := hJ
      refine wpO_plain rfl (op_store hs 5 (vs := (Wl r8)) rfl rfl rfl rfl rfl Try.sizeOf24 rfl rfl rfl rfl rfl fun w hs => ?_)
      exact ⟨g9, hs⟩
    · intro L ac w hJ
      obtain ⟨g9, hs⟩ := hJ
      refine wpO_plain rfl (op_assign hs (some 8) rfl rfl rfl rfl fun ac hs => ?_)
      exact ⟨g9, hs⟩
  intro ac w hJ
  obtain ⟨g9, hs⟩ := hJ
  replace hs : St 23 w0 [(16, true, W hi5), (17, true, W lo4), (18, true, W Nord), (19, true, .tuple #[W r8, .int .i64 0]), (15, true, .tuple #[W r8, .int .i64 0]), (20, true, W r8), (21, true, .int .i64 0), (7, true, .pointer (some ⟨g9, 0, none⟩)), (8, true, .int .i64 0), (4, true, .pointer (some ⟨g3, 0, none⟩)), (5, true, .pointer (some ⟨g6, 0, none⟩)), (6, true, .pointer (some ⟨g7, 0, none⟩))] [(true, g1, 24, (Wl a)), (true, g2, 24, (Wl b)), (true, g3, 24, [.int .u64 0, .int .u64 0, .int .u64 0, .int .u64 0]), (true, g6, 24, (Wl lo4)), (true, g7, 24, (Wl hi5)), (true, g9, 24, (Wl r8))] ac w := hs
  refine then_n ?_
  refine wp_seq ?_
  refine wp_region_lit ?_
  refine lstep (wpO_plain rfl (op_load hs none 5 (v := W r8) rfl rfl rfl rfl Try.isAgg24 Try.sizeOf24 rfl rfl fun ac hs => ?_))
  refine lstep (wpO_plain rfl (op_store hs 2 (vs := (Wl r8)) rfl rfl rfl rfl rfl Try.sizeOf24 rfl rfl rfl rfl rfl fun w hs => ?_))
  refine wpList_nil ?_
  refine then_n ?_
  refine wp_ret ?_
  exact bodyPost_ret (res1 rfl (rv_c hs 2 (v := W r8) rfl rfl Try.isAgg24 Try.sizeOf24 rfl)) hs.defers ⟨by rw [← hx, ← hr8, ← hlo4, ← hhi5, Nat.mul_comm, Nat.div_add_mod], hs.below⟩
theorem mul_law (a b : Nat) (ha : a < 2 ^ 256) (hb : b < 2 ^ 256) (w0 : World) : Calls Try.prog 6 #[W a, W b] w0 fun e w' => e = .returned (.bool true) ∧ Below w0.heap.size w0 w' := by
  refine enter (n := 22) (args := [W a, W b]) Try.func6 rfl rfl (Nat.le_of_ble_eq_true rfl) fun ac hs => ?_
  refine wp_seq ?_
  refine wp_region_lit ?_
  refine lstep (wpO_plain rfl (op_box hs none none (cs := (Wl a)) rfl rfl rfl rfl rfl rfl fun g1 ac w hs => ?_))
  refine lstep (wpO_plain rfl (op_box hs none none (cs := (Wl b)) rfl rfl rfl rfl rfl rfl fun g2 ac w hs => ?_))
  refine lstep (wpO_plain rfl (op_assign hs none rfl rfl rfl rfl fun ac hs => ?_))
  refine wpList_nil ?_
  refine then_n ?_
  refine wp_seq ?_
  replace hs : St 22 w0 [(2, true, .pointer (some ⟨g1, 0, none⟩)), (3, true, .pointer (some ⟨g2, 0, none⟩)), (4, true, .bool false)] [(true, g1, 24, (Wl a)), (true, g2, 24, (Wl b))] ac w := hs.re ⟨rfl, rfl, rfl, trivial⟩
  obtain ⟨r3, hr3, lr3⟩ : ∃ r, a * b % Nord = r ∧ r < 2 ^ 256 := ⟨_, rfl, modN_lt _⟩
  obtain ⟨r4, hr4, lr4⟩ : ∃ r, a * b % Nord = r ∧ r < 2 ^ 256 := ⟨_, rfl, modN_lt _⟩
  obtain ⟨v5, hv5, lv5⟩ : ∃ r, pinv Nord a = r ∧ r < 2 ^ 256 := ⟨_, rfl, Nat.lt_trans (pinv_lt Nord_pos) Nord_lt⟩
  obtain ⟨v6, hv6, lv6⟩ : ∃ r, pinv Nord a = r ∧ r < 2 ^ 256 := ⟨_, rfl, Nat.lt_trans (pinv_lt Nord_pos) Nord_lt⟩
  refine region_inv [([], [1, 2, 3, 4, 5, 6, 7, 8, 9, 10, 11, 12, 13, 14, 15, 16, 17]), ([0], [2, 3, 4, 5, 6, 7, 8, 9, 10, 11, 12, 13, 14, 15, 16, 17]), ([0, 1], [4, 7, 8, 9, 10, 11, 12, 13, 14, 15, 16, 17]), ([0, 1], [4, 7, 8, 9, 10, 11, 12, 13, 14, 15, 16, 17]), ([0, 1, 2, 3], [7, 8, 9, 10, 11, 12, 13, 14, 15, 16, 17]), ([0, 1], [7, 8, 9, 10, 11, 12, 13, 14, 15, 16, 17]), ([0, 1], [7, 8, 9, 10, 11, 12, 13, 14, 15, 16, 17]), ([0, 1, 2, 3, 4, 5, 6], [8, 9, 10, 11, 12, 13, 14, 15, 16, 17]), ([0, 1, 2, 3, 4, 5, 6, 7], [9, 10, 11, 12, 13, 14, 15, 16, 17]), ([0, 1, 2, 3, 4, 5, 6, 7, 8], [10, 11, 12, 13, 14, 15, 16, 17]), ([0, 1, 2, 3, 4, 5, 6, 7, 8, 9], [11, 12, 13, 14, 15, 16, 17]), ([0, 1, 2, 3, 4, 5, 6, 7, 8, 9, 10], [12, 14, 15, 16, 17]), ([0, 1, 2, 3, 4, 5, 6, 7, 8, 9, 10, 11], [14, 15, 16, 17]), ([0, 1, 2, 3, 4, 5, 6, 7, 8, 9, 10], [14, 15, 16, 17]), ([0, 1, 2, 3, 4, 5, 6, 7, 8, 9, 10, 11, 12, 13], [15, 16, 17]), ([0, 1, 2, 3, 4, 5, 6, 7, 8, 9, 10, 11, 12, 13, 14], [16, 17]), ([0, 1, 2, 3, 4, 5, 6, 7, 8, 9, 10, 11, 12, 13, 14, 15], [17]), ([0, 1, 2, 3, 4, 5, 6, 7, 8, 9, 10, 11, 12, 13, 14, 15, 16], [])] (fun L ac w => St 22 w0 [(5, L 0, .bool true), (6, L 1, .bool true), (7, L 2, W a), (8, L 3, W b), (9, L 4, W r3), (10, L 5, W a), (11, L 6, W b), (12, L 7, W r4), (13, L 8, .bool true), (14, L 9, .bool true), (15, L 10, .bool true), (16, L 11, W a), (17, L 12, W v5), (18, L 13, W a), (19, L 14, W v6), (20, L 15, .bool true), (21, L 16, .bool true), (4, L 17, .bool true), (2, true, .pointer (some ⟨g1, 0, none⟩)), (3, true, .pointer (some ⟨g2, 0, none⟩)), (4, true, .bool false)] [(true, g1, 24, (Wl a)), (true, g2, 24, (Wl b))] ac w) (by kernel_rfl) (by kernel_rfl) ?_ ?_ ?_
  · exact hs.drew.skip.skip.skip.skip.skip.skip.skip.skip.skip.skip.skip.skip.skip.skip.skip.skip.skip.skip
  · refine ⟨?_, ?_, ?_, ?_, ?_, ?_, ?_, ?_, ?_, ?_, ?_, ?_, ?_, ?_, ?_, ?_, ?_, ?_, trivial⟩
    · intro L ac w hJ
      have hs := hJ
      refine wpO_plain rfl (op_call (F := 8) hs (some 0) (v := .bool true) rfl rfl rfl rfl (Try.call8 _) alive_c rfl fun ac w hs => ?_)
      exact hs
    · intro L ac w hJ
      have hs := hJ
      refine wpO_plain rfl (op_move hs (some 1) rfl rfl rfl rfl fun ac hs => ?_)
      exact hs
    · intro L ac w hJ
      have hs := hJ
      refine wpO_in hs rfl rfl rfl (op_load hs (some 2) 0 (v := W a) rfl rfl rfl rfl Try.isAgg24 Try.sizeOf24 rfl rfl fun ac hs => ?_)
      exact hs
    · intro L ac w hJ
      have hs := hJ
      refine wpO_in hs rfl rfl rfl (op_load hs (some 3) 1 (v := W b) rfl rfl rfl rfl Try.isAgg24 Try.sizeOf24 rfl rfl fun ac hs => ?_)
      exact hs
    · intro L ac w hJ
      have hs := hJ
      refine wpO_in hs rfl rfl rfl (op_call (F := 17) hs (some 4) (v := W r3) rfl rfl rfl rfl (Try.call17 _) (smul_c a b r3 ha hb hr3) rfl fun ac w hs => ?_)
      exact hs
    · intro L ac w hJ
      have hs := hJ
      refine wpO_in hs rfl rfl rfl (op_load hs (some 5) 0 (v := W a) rfl rfl rfl rfl Try.isAgg24 Try.sizeOf24 rfl rfl fun ac hs => ?_)
      exact hs
    · intro L ac w hJ
      have hs := hJ
      refine wpO_in hs rfl rfl rfl (op_load hs (some 6) 1 (v := W b) rfl rfl rfl rfl Try.isAgg24 Try.sizeOf24 rfl rfl fun ac hs => ?_)
      exact hs
    · intro L ac w hJ
      have hs := hJ
      refine wpO_in hs rfl rfl rfl (op_call (F := 22) hs (some 7) (v := W r4) rfl rfl rfl rfl (Try.call22 _) (rsmul_c a b r4 ha hb hr4) rfl fun ac w hs => ?_)
      exact hs
    · intro L ac w hJ
      have hs := hJ
      refine wpO_in hs rfl rfl rfl (op_bin hs (some 8) (v := .bool true) rfl rfl rfl rfl (fun w => run_eqGuard_agg w .eql 24 _ _ _ _ Try.eqGuardType24) (eqlW r3 r4 lr3 lr4 true (decide_eq_true (by rw [← hr4, ← hr3]))) rfl fun ac hs => ?_)
      exact hs
    · intro L ac w hJ
      have hs := hJ
      refine wpO_plain rfl (op_pickT hs (some 9) rfl rfl rfl rfl rfl fun ac hs => ?_)
      exact hs
    · intro L ac w hJ
      have hs := hJ
      refine wpO_plain rfl (op_move hs (some 10) rfl rfl rfl rfl fun ac hs => ?_)
      exact hs
    · intro L ac w hJ
      have hs := hJ
      refine wpO_in hs rfl rfl rfl (op_load hs (some 11) 0 (v := W a) rfl rfl rfl rfl Try.isAgg24 Try.sizeOf24 rfl rfl fun ac hs => ?_)
      exact hs
    · intro L ac w hJ
      have hs := hJ
      refine wpO_in hs rfl rfl rfl (op_call (F := 23) hs (some 12) (v := W v5) rfl rfl rfl rfl (Try.call23 _) (sinv_c a v5 ha hv5) rfl fun ac w hs => ?_)
      exact hs
    · intro L ac w hJ
      have hs := hJ
      refine wpO_in hs rfl rfl rfl (op_load hs (some 13) 0 (v := W a) rfl rfl rfl rfl Try.isAgg24 Try.sizeOf24 rfl rfl fun ac hs => ?_)
      exact hs
    · intro L ac w hJ
      have hs := hJ
      refine wpO_in hs rfl rfl rfl (op_call (F := 24) hs (some 14) (v := W v6) rfl rfl rfl rfl (Try.call24 _) (rsinv_c a v6 ha hv6) rfl fun ac w hs => ?_)
      exact hs
    · intro L ac w hJ
      have hs := hJ
      refine wpO_in hs rfl rfl rfl (op_bin hs (some 15) (v := .bool true) rfl rfl rfl rfl (fun w => run_eqGuard_agg w .eql 24 _ _ _ _ Try.eqGuardType24) (eqlW v5 v6 lv5 lv6 true (decide_eq_true (by rw [← hv6, ← hv5]))) rfl fun ac hs => ?_)
      exact hs
    · intro L ac w hJ
      have hs := hJ
      refine wpO_plain rfl (op_pickT hs (some 16) rfl rfl rfl rfl rfl fun ac hs => ?_)
      exact hs
    · intro L ac w hJ
      have hs := hJ
      refine wpO_plain rfl (op_assign hs (some 17) rfl rfl rfl rfl fun ac hs => ?_)
      exact hs
  intro ac w hJ
  replace hs : St 22 w0 [(5, true, .bool true), (6, true, .bool true), (7, true, W a), (8, true, W b), (9, true, W r3), (10, true, W a), (11, true, W b), (12, true, W r4), (13, true, .bool true), (14, true, .bool true), (15, true, .bool true), (16, true, W a), (17, true, W v5), (18, true, W a), (19, true, W v6), (20, true, .bool true), (21, true, .bool true), (4, true, .bool true), (2, true, .pointer (some ⟨g1, 0, none⟩)), (3, true, .pointer (some ⟨g2, 0, none⟩)), (4, true, .bool false)] [(true, g1, 24, (Wl a)), (true, g2, 24, (Wl b))] ac w := hJ
  refine then_n ?_
  refine wp_ret ?_
  exact bodyPost_ret (res1 rfl (rv_t hs rfl)) hs.defers ⟨rfl, hs.below⟩
theorem sread_c (b : Nat → Nat) (x : Nat) (q : Bool) (hb : ∀ j, j < 32 → b j < 256) (hx : sread b = x) (hq : decide (pr b 0 32 < Nord) = q) (w0 : World) : Calls Try.prog 18 #[At .u8 32 b] w0 fun e w' => e = .returned (.tuple #[W x, .bool q]) ∧ Below w0.heap.size w0 w' := by
  refine enter (n := 13) (args := [At .u8 32 b]) Try.func18 rfl rfl (Nat.le_of_ble_eq_true rfl) fun ac hs => ?_
  refine wp_seq ?_
  refine wp_region_lit ?_
  refine lstep (wpO_plain rfl (op_box hs none none (cs := (tab .u8 32 b)) rfl rfl rfl rfl rfl rfl fun g1 ac w hs => ?_))
  refine lstep (wpO_plain rfl (op_alloc hs none none (cs := [.int .u64 0, .int .u64 0, .int .u64 0, .int .u64 0]) rfl rfl Try.zeroValue24 (by kernel_rfl) rfl rfl fun g2 ac w hs => ?_))
  refine lstep (wpO_plain rfl (op_assign hs none rfl rfl rfl rfl fun ac hs => ?_))
  refine wpList_nil ?_
  refine then_n ?_
  refine wp_seq ?_
  refine wp_region_lit ?_
  refine lstep (wpO_plain rfl (op_load hs none 0 (v := At .u8 32 b) rfl rfl rfl rfl Try.isAgg31 Try.sizeOf31 ldv_tab rfl fun ac hs => ?_))
  obtain ⟨a3, ha3, la3⟩ : ∃ a, pr b 0 32 = a ∧ a < 2 ^ 256 := ⟨_, rfl, pr_lt32 hb⟩
  refine lstep (wpO_plain rfl (op_call (F := 33) hs none (v := W a3) rfl rfl rfl rfl (Try.call33 _) (wread_c b a3 hb ha3) rfl fun ac w hs => ?_))
  refine lstep (wpO_plain rfl (op_alloc hs none none (cs := [.int .u64 0, .int .u64 0, .int .u64 0, .int .u64 0]) rfl rfl Try.zeroValue24 (by kernel_rfl) rfl rfl fun g4 ac w hs => ?_))
  refine lstep (wpO_plain rfl (op_store hs 2 (vs := (Wl a3)) rfl rfl rfl rfl rfl Try.sizeOf24 rfl rfl rfl rfl rfl fun w hs => ?_))
  refine wpList_nil ?_
  refine then_n ?_
  refine wp_seq ?_
  refine wp_seq ?_
  replace hs : St 13 w0 [(2, true, .pointer (some ⟨g2, 0, none⟩)), (3, true, .bool false), (4, true, .pointer (some ⟨g4, 0, none⟩))] [(true, g1, 31, (tab .u8 32 b)), (true, g2, 24, [.int .u64 0, .int .u64 0, .int .u64 0, .int .u64 0]), (true, g4, 24, (Wl a3))] ac w := hs.re ⟨rfl, rfl, rfl, trivial⟩
  refine region_inv [([], [2, 3]), ([], [2, 3]), ([0, 1], [3]), ([0, 1, 2], [])] (fun L ac w => St 13 w0 [(7, L 0, W a3), (8, L 1, W Nord), (9, L 2, .int .i64 (cmpZ a3 Nord)), (10, L 3, .bool (decide (Nord ≤ a3))), (2, true, .pointer (some ⟨g2, 0, none⟩)), (3, true, .bool false), (4, true, .pointer (some ⟨g4, 0, none⟩))] [(true, g1, 31, (tab .u8 32 b)), (true, g2, 24, [.int .u64 0, .int .u64 0, .int .u64 0, .int .u64 0]), (true, g4, 24, (Wl a3))] ac w) (by kernel_rfl) (by kernel_rfl) ?_ ?_ ?_
  · exact hs.drew.skip.skip.skip.skip
  · refine ⟨?_, ?_, ?_, ?_, trivial⟩
    · intro L ac w hJ
      have hs := hJ
      refine wpO_plain rfl (op_load hs (some 0) 2 (v := W a3) rfl rfl rfl rfl Try.isAgg24 Try.sizeOf24 rfl rfl fun ac hs => ?_)
      exact hs
    · intro L ac w hJ
      have hs := hJ
      refine wpO_plain rfl (op_call (F := 9) hs (some 1) (v := W Nord) rfl rfl rfl rfl (Try.call9 _) order_c rfl fun ac w hs => ?_)
      exact hs
    · intro L ac w hJ
      have hs := hJ
      refine wpO_plain rfl (op_call (F := 25) hs (some 2) (v := .int .i64 (cmpZ a3 Nord)) rfl rfl rfl rfl (Try.call25 _) (fun w => cmp_any w a3 Nord la3 Nord_lt) rfl fun ac w hs => ?_)
      exact hs
    · intro L ac w hJ
      have hs := hJ
      refine wpO_plain rfl (op_bin hs (some 3) (v := .bool (decide (Nord ≤ a3))) rfl rfl rfl rfl (fun _ => rfl) (bin_cmp_geq a3 Nord) rfl fun ac hs => ?_)
      exact hs
  intro ac w hJ
  replace hs : St 13 w0 [(7, true, W a3), (8, true, W Nord), (9, true, .int .i64 (cmpZ a3 Nord)), (10, true, .bool (decide (Nord ≤ a3))), (2, true, .pointer (some ⟨g2, 0, none⟩)), (3, true, .bool false), (4, true, .pointer (some ⟨g4, 0, none⟩))] [(true, g1, 31, (tab .u8 32 b)), (true, g2, 24, [.int .u64 0, .int .u64 0, .int .u64 0, .int .u64 0]), (true, g4, 24, (Wl a3))] ac w := hJ
  refine then_n ?_
  refine wp_cond_split (hs.ev rfl) (fun hc => ?_) (fun hc => ?_)
  · skip
    have hp5 := of_decide_eq_true hc
    refine wp_seq ?_
    refine wp_region_lit ?_
    refine lstep (wpO_plain rfl (op_build hs none (qs := []) (v := .agg #[.int .u64 0, .int .u64 0, .int .u64 0, .int .u64 0]) rfl rfl rfl rfl (fun _ => by kernel_rfl) rfl fun ac hs => ?_))
    refine lstep (wpO_plain rfl (op_store hs 1 (vs := [.int .u64 0, .int .u64 0, .int .u64 0, .int .u64 0]) rfl rfl rfl rfl rfl Try.sizeOf24 rfl rfl rfl rfl rfl fun w hs => ?_))
    refine lstep (wpO_plain rfl (op_assign hs none rfl rfl rfl rfl fun ac hs => ?_))
    refine wpList_nil ?_
    refine then_n ?_
    refine wp_ret ?_
    refine then_r ?_
    exact bodyPost_ret (res2 rfl (rv_c hs 1 (v := .agg #[.int .u64 0, .int .u64 0, .int .u64 0, .int .u64 0]) rfl rfl Try.isAgg24 Try.sizeOf24 rfl) (rv_t hs rfl)) hs.defers ⟨by rw [← hq, ← hx, ha3, decide_eq_false (by omega), sread_no ha3 (by omega)]; first | done | rfl, hs.below⟩
  · skip
    have hp6 := of_decide_eq_false hc
    refine wp_skip ?_
    refine then_n ?_
    refine wp_seq ?_
    refine wp_region_lit ?_
    refine lstep (wpO_plain rfl (op_load hs none 2 (v := W a3) rfl rfl rfl rfl Try.isAgg24 Try.sizeOf24 rfl rfl fun ac hs => ?_))
    refine lstep (wpO_plain rfl (op_store hs 1 (vs := (Wl a3)) rfl rfl rfl rfl rfl Try.sizeOf24 rfl rfl rfl rfl rfl fun w hs => ?_))
    refine lstep (wpO_plain rfl (op_assign hs none rfl rfl rfl rfl fun ac hs => ?_))
    refine wpList_nil ?_
    refine then_n ?_
    refine wp_ret ?_
    exact bodyPost_ret (res2 rfl (rv_c hs 1 (v := W a3) rfl rfl Try.isAgg24 Try.sizeOf24 rfl) (rv_t hs rfl)) hs.defers ⟨by rw [← hq, ← hx, ha3, decide_eq_true (by omega), sread_yes ha3 (by omega)]; first | done | rfl, hs.below⟩
theorem shash_c (b : Nat → Nat) (x : Nat) (hb : ∀ j, j < 32 → b j < 256) (hx : pr b 0 32 % Nord = x) (w0 : World) : Calls Try.prog 20 #[At .u8 32 b] w0 fun e w' => e = .returned (W x) ∧ Below w0.heap.size w0 w' := by
  refine enter (n := 6) (args := [At .u8 32 b]) Try.func20 rfl rfl (Nat.le_of_ble_eq_true rfl) fun ac hs => ?_
  refine wp_seq ?_
  refine wp_region_lit ?_
  refine lstep (wpO_plain rfl (op_box hs none none (cs := (tab .u8 32 b)) rfl rfl rfl rfl rfl rfl fun g1 ac w hs => ?_))
  refine lstep (wpO_plain rfl (op_alloc hs none none (cs := [.int .u64 0, .int .u64 0, .int .u64 0, .int .u64 0]) rfl rfl Try.zeroValue24 (by kernel_rfl) rfl rfl fun g2 ac w hs => ?_))
  refine wpList_nil ?_
  refine then_n ?_
  refine wp_seq ?_
  refine wp_region_lit ?_
  refine lstep (wpO_plain rfl (op_load hs none 0 (v := At .u8 32 b) rfl rfl rfl rfl Try.isAgg31 Try.sizeOf31 ldv_tab rfl fun ac hs => ?_))
  obtain ⟨a3, ha3, la3⟩ : ∃ a, pr b 0 32 = a ∧ a < 2 ^ 256 := ⟨_, rfl, pr_lt32 hb⟩
  refine lstep (wpO_plain rfl (op_call (F := 33) hs none (v := W a3) rfl rfl rfl rfl (Try.call33 _) (wread_c b a3 hb ha3) rfl fun ac w hs => ?_))
  obtain ⟨r4, hr4, lr4⟩ : ∃ r, a3 % Nord = r ∧ r < 2 ^ 256 := ⟨_, rfl, modN_lt _⟩
  refine lstep (wpO_plain rfl (op_call (F := 11) hs none (v := W r4) rfl rfl rfl rfl (Try.call11 _) (red_c a3 r4 la3 hr4) rfl fun ac w hs => ?_))
  refine lstep (wpO_plain rfl (op_store hs 1 (vs := (Wl r4)) rfl rfl rfl rfl rfl Try.sizeOf24 rfl rfl rfl rfl rfl fun w hs => ?_))
  refine wpList_nil ?_
  refine then_n ?_
  refine wp_ret ?_
  exact bodyPost_ret (res1 rfl (rv_c hs 1 (v := W r4) rfl rfl Try.isAgg24 Try.sizeOf24 rfl)) hs.defers ⟨by rw [← hx, ← hr4, ← ha3], hs.below⟩
theorem rsread_c (b : Nat → Nat) (x : Nat) (q : Bool) (hb : ∀ j, j < 32 → b j < 256) (hx : sread b = x) (hq : decide (pr b 0 32 < Nord) = q) (w0 : World) : Calls Try.prog 19 #[At .u8 32 b] w0 fun e w' => e = .returned (.tuple #[W x, .bool q]) ∧ Below w0.heap.size w0 w' := by
  refine enter (n := 13) (args := [At .u8 32 b]) Try.func19 rfl rfl (Nat.le_of_ble_eq_true rfl) fun ac hs => ?_
  refine wp_seq ?_
  refine wp_region_lit ?_
  refine lstep (wpO_plain rfl (op_box hs none none (cs := (tab .u8 32 b)) rfl rfl rfl rfl rfl rfl fun g1 ac w hs => ?_))
  refine lstep (wpO_plain rfl (op_alloc hs none none (cs := [.int .u64 0, .int .u64 0, .int .u64 0, .int .u64 0]) rfl rfl Try.zeroValue24 (by kernel_rfl) rfl rfl fun g2 ac w hs => ?_))
  refine lstep (wpO_plain rfl (op_assign hs none rfl rfl rfl rfl fun ac hs => ?_))
  refine wpList_nil ?_
  refine then_n ?_
  refine wp_seq ?_
  refine wp_region_lit ?_
  refine lstep (wpO_plain rfl (op_load hs none 0 (v := At .u8 32 b) rfl rfl rfl rfl Try.isAgg31 Try.sizeOf31 ldv_tab rfl fun ac hs => ?_))
  obtain ⟨a3, ha3, la3⟩ : ∃ a, pr b 0 32 = a ∧ a < 2 ^ 256 := ⟨_, rfl, pr_lt32 hb⟩
  refine lstep (wpO_plain rfl (op_call (F := 34) hs none (v := W a3) rfl rfl rfl rfl (Try.call34 _) (rread_c b a3 hb ha3) rfl fun ac w hs => ?_))
  refine lstep (wpO_plain rfl (op_alloc hs none none (cs := [.int .u64 0, .int .u64 0, .int .u64 0, .int .u64 0]) rfl rfl Try.zeroValue24 (by kernel_rfl) rfl rfl fun g4 ac w hs => ?_))
  refine lstep (wpO_plain rfl (op_store hs 2 (vs := (Wl a3)) rfl rfl rfl rfl rfl Try.sizeOf24 rfl rfl rfl rfl rfl fun w hs => ?_))
  refine wpList_nil ?_
  refine then_n ?_
  refine wp_seq ?_
  refine wp_seq ?_
  replace hs : St 13 w0 [(2, true, .pointer (some ⟨g2, 0, none⟩)), (3, true, .bool false), (4, true, .pointer (some ⟨g4, 0, none⟩))] [(true, g1, 31, (tab .u8 32 b)), (true, g2, 24, [.int .u64 0, .int .u64 0, .int .u64 0, .int .u64 0]), (true, g4, 24, (Wl a3))] ac w := hs.re ⟨rfl, rfl, rfl, trivial⟩
  refine region_inv [([], [2, 3]), ([], [2, 3]), ([0, 1], [3]), ([0, 1, 2], [])] (fun L ac w => St 13 w0 [(7, L 0, W a3), (8, L 1, W Nord), (9, L 2, .int .i64 (cmpZ a3 Nord)), (10, L 3, .bool (decide (Nord ≤ a3))), (2, true, .pointer (some ⟨g2, 0, none⟩)), (3, true, .bool false), (4, true, .pointer (some ⟨g4, 0, none⟩))] [(true, g1, 31, (tab .u8 32 b)), (true, g2, 24, [.int .u64 0, .int .u64 0, .int .u64 0, .int .u64 0]), (true, g4, 24, (Wl a3))] ac w) (by kernel_rfl) (by kernel_rfl) ?_ ?_ ?_
  · exact hs.drew.skip.skip.skip.skip
  · refine ⟨?_, ?_, ?_, ?_, trivial⟩
    · intro L ac w hJ
      have hs := hJ
      refine wpO_plain rfl (op_load hs (some 0) 2 (v := W a3) rfl rfl rfl rfl Try.isAgg24 Try.sizeOf24 rfl rfl fun ac hs => ?_)
      exact hs
    · intro L ac w hJ
      have hs := hJ
      refine wpO_plain rfl (op_call (F := 10) hs (some 1) (v := W Nord) rfl rfl rfl rfl (Try.call10 _) rorder_c rfl fun ac w hs => ?_)
      exact hs
    · intro L ac w hJ
      have hs := hJ
      refine wpO_plain rfl (op_call (F := 35) hs (some 2) (v := .int .i64 (cmpZ a3 Nord)) rfl rfl rfl rfl (Try.call35 _) (rcmp_c a3 Nord la3 Nord_lt) rfl fun ac w hs => ?_)
      exact hs
    · intro L ac w hJ
      have hs := hJ
      refine wpO_plain rfl (op_bin hs (some 3) (v := .bool (decide (Nord ≤ a3))) rfl rfl rfl rfl (fun _ => rfl) (bin_cmp_geq a3 Nord) rfl fun ac hs => ?_)
      exact hs
  intro ac w hJ
  replace hs : St 13 w0 [(7, true, W a3), (8, true, W Nord), (9, true, .int .i64 (cmpZ a3 Nord)), (10, true, .bool (decide (Nord ≤ a3))), (2, true, .pointer (some ⟨g2, 0, none⟩)), (3, true, .bool false), (4, true, .pointer (some ⟨g4, 0, none⟩))] [(true, g1, 31, (tab .u8 32 b)), (true, g2, 24, [.int .u64 0, .int .u64 0, .int .u64 0, .int .u64 0]), (true, g4, 24, (Wl a3))] ac w := hJ
  refine then_n ?_
  refine wp_cond_split (hs.ev rfl) (fun hc => ?_) (fun hc => ?_)
  · skip
    have hp5 := of_decide_eq_true hc
    refine wp_seq ?_
    refine wp_region_lit ?_
    refine lstep (wpO_plain rfl (op_build hs none (qs := []) (v := .agg #[.int .u64 0, .int .u64 0, .int .u64 0, .int .u64 0]) rfl rfl rfl rfl (fun _ => by kernel_rfl) rfl fun ac hs => ?_))
    refine lstep (wpO_plain rfl (op_store hs 1 (vs := [.int .u64 0, .int .u64 0, .int .u64 0, .int .u64 0]) rfl rfl rfl rfl rfl Try.sizeOf24 rfl rfl rfl rfl rfl fun w hs => ?_))
    refine lstep (wpO_plain rfl (op_assign hs none rfl rfl rfl rfl fun ac hs => ?_))
    refine wpList_nil ?_
    refine then_n ?_
    refine wp_ret ?_
    refine then_r ?_
    exact bodyPost_ret (res2 rfl (rv_c hs 1 (v := .agg #[.int .u64 0, .int .u64 0, .int .u64 0, .int .u64 0]) rfl rfl Try.isAgg24 Try.sizeOf24 rfl) (rv_t hs rfl)) hs.defers ⟨by rw [← hq, ← hx, ha3, decide_eq_false (by omega), sread_no ha3 (by omega)]; first | done | rfl, hs.below⟩
  · skip
    have hp6 := of_decide_eq_false hc
    refine wp_skip ?_
    refine then_n ?_
    refine wp_seq ?_
    refine wp_region_lit ?_
    refine lstep (wpO_plain rfl (op_load hs none 2 (v := W a3) rfl rfl rfl rfl Try.isAgg24 Try.sizeOf24 rfl rfl fun ac hs => ?_))
    refine lstep (wpO_plain rfl (op_store hs 1 (vs := (Wl a3)) rfl rfl rfl rfl rfl Try.sizeOf24 rfl rfl rfl rfl rfl fun w hs => ?_))
    refine lstep (wpO_plain rfl (op_assign hs none rfl rfl rfl rfl fun ac hs => ?_))
    refine wpList_nil ?_
    refine then_n ?_
    refine wp_ret ?_
    exact bodyPost_ret (res2 rfl (rv_c hs 1 (v := W a3) rfl rfl Try.isAgg24 Try.sizeOf24 rfl) (rv_t hs rfl)) hs.defers ⟨by rw [← hq, ← hx, ha3, decide_eq_true (by omega), sread_yes ha3 (by omega)]; first | done | rfl, hs.below⟩
theorem rshash_c (b : Nat → Nat) (x : Nat) (hb : ∀ j, j < 32 → b j < 256) (hx : pr b 0 32 % Nord = x) (w0 : World) : Calls Try.prog 21 #[At .u8 32 b] w0 fun e w' => e = .returned (W x) ∧ Below w0.heap.size w0 w' := by
  refine enter (n := 6) (args := [At .u8 32 b]) Try.func21 rfl rfl (Nat.le_of_ble_eq_true rfl) fun ac hs => ?_
  refine wp_seq ?_
  refine wp_region_lit ?_
  refine lstep (wpO_plain rfl (op_box hs none none (cs := (tab .u8 32 b)) rfl rfl rfl rfl rfl rfl fun g1 ac w hs => ?_))
  refine lstep (wpO_plain rfl (op_alloc hs none none (cs := [.int .u64 0, .int .u64 0, .int .u64 0, .int .u64 0]) rfl rfl Try.zeroValue24 (by kernel_rfl) rfl rfl fun g2 ac w hs => ?_))
  refine wpList_nil ?_
  refine then_n ?_
  refine wp_seq ?_
  refine wp_region_lit ?_
  refine lstep (wpO_plain rfl (op_load hs none 0 (v := At .u8 32 b) rfl rfl rfl rfl Try.isAgg31 Try.sizeOf31 ldv_tab rfl fun ac hs => ?_))
  obtain ⟨a3, ha3, la3⟩ : ∃ a, pr b 0 32 = a ∧ a < 2 ^ 256 := ⟨_, rfl, pr_lt32 hb⟩
  refine lstep (wpO_plain rfl (op_call (F := 34) hs none (v := W a3) rfl rfl rfl rfl (Try.call34 _) (rread_c b a3 hb ha3) rfl fun ac w hs => ?_))
  obtain ⟨r4, hr4, lr4⟩ : ∃ r, a3 % Nord = r ∧ r < 2 ^ 256 := ⟨_, rfl, modN_lt _⟩
  refine lstep (wpO_plain rfl (op_call (F := 12) hs none (v := W r4) rfl rfl rfl rfl (Try.call12 _) (rred_c a3 r4 la3 hr4) rfl fun ac w hs => ?_))
  refine lstep (wpO_plain rfl (op_store hs 1 (vs := (Wl r4)) rfl rfl rfl rfl rfl Try.sizeOf24 rfl rfl rfl rfl rfl fun w hs => ?_))
  refine wpList_nil ?_
  refine then_n ?_
  refine wp_ret ?_
  exact bodyPost_ret (res1 rfl (rv_c hs 1 (v := W r4) rfl rfl Try.isAgg24 Try.sizeOf24 rfl)) hs.defers ⟨by rw [← hx, ← hr4, ← ha3], hs.below⟩
theorem read_law (b : Nat → Nat) (hb : ∀ j, j < 32 → b j < 256) (w0 : World) : Calls Try.prog 5 #[At .u8 32 b] w0 fun e w' => e = .returned (.bool true) ∧ Below w0.heap.size w0 w' := by
  refine enter (n := 35) (args := [At .u8 32 b]) Try.func5 rfl rfl (Nat.le_of_ble_eq_true rfl) fun ac hs => ?_
  refine wp_seq ?_
  refine wp_region_lit ?_
  refine lstep (wpO_plain rfl (op_box hs none none (cs := (tab .u8 32 b)) rfl rfl rfl rfl rfl rfl fun g1 ac w hs => ?_))
  refine lstep (wpO_plain rfl (op_assign hs none rfl rfl rfl rfl fun ac hs => ?_))
  refine wpList_nil ?_
  refine then_n ?_
  refine wp_seq ?_
  refine wp_region_lit ?_
  refine lstep (wpO_plain rfl (op_load hs none 0 (v := At .u8 32 b) rfl rfl rfl rfl Try.isAgg31 Try.sizeOf31 ldv_tab rfl fun ac hs => ?_))
  obtain ⟨a2, ha2, la2⟩ : ∃ a, sread b = a ∧ a < 2 ^ 256 := ⟨_, rfl, sread_lt _⟩
  obtain ⟨q3, hq3⟩ : ∃ q, decide (pr b 0 32 < Nord) = q := ⟨_, rfl⟩
  refine lstep (wpO_plain rfl (op_call (F := 18) hs none (v := .tuple #[W a2, .bool q3]) rfl rfl rfl rfl (Try.call18 _) (sread_c b a2 q3 hb ha2 hq3) rfl fun ac w hs => ?_))
  refine lstep (wpO_plain rfl (op_move hs none rfl rfl rfl rfl fun ac hs => ?_))
  refine lstep (wpO_plain rfl (op_extract hs none rfl rfl rfl rfl rfl fun ac hs => ?_))
  refine lstep (wpO_plain rfl (op_extract hs none rfl rfl rfl rfl rfl fun ac hs => ?_))
  refine lstep (wpO_plain rfl (op_alloc hs none none (cs := [.int .u64 0, .int .u64 0, .int .u64 0, .int .u64 0]) rfl rfl Try.zeroValue24 (by kernel_rfl) rfl rfl fun g4 ac w hs => ?_))
  refine lstep (wpO_plain rfl (op_store hs 1 (vs := (Wl a2)) rfl rfl rfl rfl rfl Try.sizeOf24 rfl rfl rfl rfl rfl fun w hs => ?_))
  refine lstep (wpO_plain rfl (op_assign hs none rfl rfl rfl rfl fun ac hs => ?_))
  refine wpList_nil ?_
  refine then_n ?_
  refine wp_seq ?_
  refine wp_region_lit ?_
  refine lstep (wpO_plain rfl (op_load hs none 0 (v := At .u8 32 b) rfl rfl rfl rfl Try.isAgg31 Try.sizeOf31 ldv_tab rfl fun ac hs => ?_))
  obtain ⟨a5, ha5, la5⟩ : ∃ a, sread b = a ∧ a < 2 ^ 256 := ⟨_, rfl, sread_lt _⟩
  obtain ⟨q6, hq6⟩ : ∃ q, decide (pr b 0 32 < Nord) = q := ⟨_, rfl⟩
  refine lstep (wpO_plain rfl (op_call (F := 19) hs none (v := .tuple #[W a5, .bool q6]) rfl rfl rfl rfl (Try.call19 _) (rsread_c b a5 q6 hb ha5 hq6) rfl fun ac w hs => ?_))
  refine lstep (wpO_plain rfl (op_move hs none rfl rfl rfl rfl fun ac hs => ?_))
  refine lstep (wpO_plain rfl (op_extract hs none rfl rfl rfl rfl rfl fun ac hs => ?_))
  refine lstep (wpO_plain rfl (op_extract hs none rfl rfl rfl rfl rfl fun ac hs => ?_))
  refine lstep (wpO_plain rfl (op_alloc hs none none (cs := [.int .u64 0, .int .u64 0, .int .u64 0, .int .u64 0]) rfl rfl Try.zeroValue24 (by kernel_rfl) rfl rfl fun g7 ac w hs => ?_))
  refine lstep (wpO_plain rfl (op_store hs 2 (vs := (Wl a5)) rfl rfl rfl rfl rfl Try.sizeOf24 rfl rfl rfl rfl rfl fun w hs => ?_))
  refine lstep (wpO_plain rfl (op_assign hs none rfl rfl rfl rfl fun ac hs => ?_))
  refine wpList_nil ?_
  refine then_n ?_
  refine wp_seq ?_
  replace hs : St 35 w0 [(1, true, .pointer (some ⟨g1, 0, none⟩)), (2, true, .bool false), (3, true, .pointer (some ⟨g4, 0, none⟩)), (4, true, .bool q3), (5, true, .pointer (some ⟨g7, 0, none⟩)), (6, true, .bool q6)] [(true, g1, 31, (tab .u8 32 b)), (true, g4, 24, (Wl a2)), (true, g7, 24, (Wl a5))] ac w := hs.re ⟨rfl, rfl, rfl, rfl, rfl, rfl, trivial⟩
  obtain ⟨r8, hr8, lr8⟩ : ∃ r, pr b 0 32 % Nord = r ∧ r < 2 ^ 256 := ⟨_, rfl, modN_lt _⟩
  obtain ⟨r9, hr9, lr9⟩ : ∃ r, pr b 0 32 % Nord = r ∧ r < 2 ^ 256 := ⟨_, rfl, modN_lt _⟩
  refine region_inv [([], [1, 2, 3, 4, 5, 6, 7, 8, 9, 10, 11, 12, 13, 14, 15, 16, 17, 18]), ([0], [2, 3, 4, 5, 6, 7, 8, 9, 10, 11, 12, 13, 14, 15, 16, 17, 18]), ([0, 1], [4, 5, 6, 7, 8, 9, 10, 11, 12, 13, 14, 15, 16, 17, 18]), ([0, 1], [4, 5, 6, 7, 8, 9, 10, 11, 12, 13, 14, 15, 16, 17, 18]), ([0, 1, 2, 3], [5, 6, 7, 8, 9, 10, 11, 12, 13, 14, 15, 16, 17, 18]), ([0, 1, 2, 3, 4], [6, 7, 8, 9, 10, 11, 12, 13, 14, 15, 16, 17, 18]), ([0, 1, 2, 3, 4, 5], [7, 8, 9, 10, 11, 12, 13, 14, 15, 16, 17, 18]), ([0, 1, 2, 3, 4, 5, 6], [9, 10, 11, 12, 13, 14, 15, 16, 17, 18]), ([0, 1, 2, 3, 4, 5, 6], [9, 10, 11, 12, 13, 14, 15, 16, 17, 18]), ([0, 1, 2, 3, 4, 5, 6, 7, 8], [10, 11, 12, 13, 14, 15, 16, 17, 18]), ([0, 1, 2, 3, 4, 5, 6, 7, 8, 9], [11, 12, 13, 14, 15, 16, 17, 18]), ([0, 1, 2, 3, 4, 5, 6, 7, 8, 9, 10], [12, 13, 14, 15, 16, 17, 18]), ([0, 1, 2, 3, 4, 5, 6, 7, 8, 9, 10, 11], [13, 15, 16, 17, 18]), ([0, 1, 2, 3, 4, 5, 6, 7, 8, 9, 10, 11, 12], [15, 16, 17, 18]), ([0, 1, 2, 3, 4, 5, 6, 7, 8, 9, 10, 11], [15, 16, 17, 18]), ([0, 1, 2, 3, 4, 5, 6, 7, 8, 9, 10, 11, 12, 13, 14], [16, 17, 18]), ([0, 1, 2, 3, 4, 5, 6, 7, 8, 9, 10, 11, 12, 13, 14, 15], [17, 18]), ([0, 1, 2, 3, 4, 5, 6, 7, 8, 9, 10, 11, 12, 13, 14, 15, 16], [18]), ([0, 1, 2, 3, 4, 5, 6, 7, 8, 9, 10, 11, 12, 13, 14, 15, 16, 17], [])] (fun L ac w => St 35 w0 [(17, L 0, .bool true), (18, L 1, .bool true), (19, L 2, W a2), (20, L 3, W a5), (21, L 4, .bool true), (22, L 5, .bool true), (23, L 6, .bool true), (24, L 7, .bool q3), (25, L 8, .bool q6), (26, L 9, .bool true), (27, L 10, .bool true), (28, L 11, .bool true), (29, L 12, At .u8 32 b), (30, L 13, W r8), (31, L 14, At .u8 32 b), (32, L 15, W r9), (33, L 16, .bool true), (34, L 17, .bool true), (2, L 18, .bool true), (1, true, .pointer (some ⟨g1, 0, none⟩)), (2, true, .bool false), (3, true, .pointer (some ⟨g4, 0, none⟩)), (4, true, .bool q3), (5, true, .pointer (some ⟨g7, 0, none⟩)), (6, true, .bool q6)] [(true, g1, 31, (tab .u8 32 b)), (true, g4, 24, (Wl a2)), (true, g7, 24, (Wl a5))] ac w) (by kernel_rfl) (by kernel_rfl) ?_ ?_ ?_
  · exact hs.drew.skip.skip.skip.skip.skip.skip.skip.skip.skip.skip.skip.skip.skip.skip.skip.skip.skip.skip.skip
  · refine ⟨?_, ?_, ?_, ?_, ?_, ?_, ?_, ?_, ?_, ?_, ?_, ?_, ?_, ?_, ?_, ?_, ?_, ?_, ?_, trivial⟩
    · intro L ac w hJ
      have hs := hJ
      refine wpO_plain rfl (op_call (F := 8) hs (some 0) (v := .bool true) rfl rfl rfl rfl (Try.call8 _) alive_c rfl fun ac w hs => ?_)
      exact hs
    · intro L ac w hJ
      have hs := hJ
      refine wpO_plain rfl (op_move hs (some 1) rfl rfl rfl rfl fun ac hs => ?_)
      exact hs
    · intro L ac w hJ
      have hs := hJ
      refine wpO_in hs rfl rfl rfl (op_load hs (some 2) 1 (v := W a2) rfl rfl rfl rfl Try.isAgg24 Try.sizeOf24 rfl rfl fun ac hs => ?_)
      exact hs
    · intro L ac w hJ
      have hs := hJ
      refine wpO_in hs rfl rfl rfl (op_load hs (some 3) 2 (v := W a5) rfl rfl rfl rfl Try.isAgg24 Try.sizeOf24 rfl rfl fun ac hs => ?_)
      exact hs
    · intro L ac w hJ
      have hs := hJ
      refine wpO_in hs rfl rfl rfl (op_bin hs (some 4) (v := .bool true) rfl rfl rfl rfl (fun w => run_eqGuard_agg w .eql 24 _ _ _ _ Try.eqGuardType24) (eqlW a2 a5 la2 la5 true (decide_eq_true (by rw [← ha5, ← ha2]))) rfl fun ac hs => ?_)
      exact hs
    · intro L ac w hJ
      have hs := hJ
      refine wpO_plain rfl (op_pickT hs (some 5) rfl rfl rfl rfl rfl fun ac hs => ?_)
      exact hs
    · intro L ac w hJ
      have hs := hJ
      refine wpO_plain rfl (op_move hs (some 6) rfl rfl rfl rfl fun ac hs => ?_)
      exact hs
    · intro L ac w hJ
      have hs := hJ
      refine wpO_in hs rfl rfl rfl (op_move hs (some 7) rfl rfl rfl rfl fun ac hs => ?_)
      exact hs
    · intro L ac w hJ
      have hs := hJ
      refine wpO_in hs rfl rfl rfl (op_move hs (some 8) rfl rfl rfl rfl fun ac hs => ?_)
      exact hs
    · intro L ac w hJ
      have hs := hJ
      refine wpO_in hs rfl rfl rfl (op_bin hs (some 9) (v := .bool true) rfl rfl rfl rfl (fun _ => rfl) (eqlB Try.underlying4 (by rw [← hq3, ← hq6])) rfl fun ac hs => ?_)
      exact hs
    · intro L ac w hJ
      have hs := hJ
      refine wpO_plain rfl (op_pickT hs (some 10) rfl rfl rfl rfl rfl fun ac hs => ?_)
      exact hs
    · intro L ac w hJ
      have hs := hJ
      refine wpO_plain rfl (op_move hs (some 11) rfl rfl rfl rfl fun ac hs => ?_)
      exact hs
    · intro L ac w hJ
      have hs := hJ
      refine wpO_in hs rfl rfl rfl (op_load hs (some 12) 0 (v := At .u8 32 b) rfl rfl rfl rfl Try.isAgg31 Try.sizeOf31 ldv_tab rfl fun ac hs => ?_)
      exact hs
    · intro L ac w hJ
      have hs := hJ
      refine wpO_in hs rfl rfl rfl (op_call (F := 20) hs (some 13) (v := W r8) rfl rfl rfl rfl (Try.call20 _) (shash_c b r8 hb hr8) rfl fun ac w hs => ?_)
      exact hs
    · intro L ac w hJ
      have hs := hJ
      refine wpO_in hs rfl rfl rfl (op_load hs (some 14) 0 (v := At .u8 32 b) rfl rfl rfl rfl Try.isAgg31 Try.sizeOf31 ldv_tab rfl fun ac hs => ?_)
      exact hs
    · intro L ac w hJ
      have hs := hJ
      refine wpO_in hs rfl rfl rfl (op_call (F := 21) hs (some 15) (v := W r9) rfl rfl rfl rfl (Try.call21 _) (rshash_c b r9 hb hr9) rfl fun ac w hs => ?_)
      exact hs
    · intro L ac w hJ
      have hs := hJ
      refine wpO_in hs rfl rfl rfl (op_bin hs (some 16) (v := .bool true) rfl rfl rfl rfl (fun w => run_eqGuard_agg w .eql 24 _ _ _ _ Try.eqGuardType24) (eqlW r8 r9 lr8 lr9 true (decide_eq_true (by rw [← hr9, ← hr8]))) rfl fun ac hs => ?_)
      exact hs
    · intro L ac w hJ
      have hs := hJ
      refine wpO_plain rfl (op_pickT hs (some 17) rfl rfl rfl rfl rfl fun ac hs => ?_)
      exact hs
    · intro L ac w hJ
      have hs := hJ
      refine wpO_plain rfl (op_assign hs (some 18) rfl rfl rfl rfl fun ac hs => ?_)
      exact hs
  intro ac w hJ
  replace hs : St 35 w0 [(17, true, .bool true), (18, true, .bool true), (19, true, W a2), (20, true, W a5), (21, true, .bool true), (22, true, .bool true), (23, true, .bool true), (24, true, .bool q3), (25, true, .bool q6), (26, true, .bool true), (27, true, .bool true), (28, true, .bool true), (29, true, At .u8 32 b), (30, true, W r8), (31, true, At .u8 32 b), (32, true, W r9), (33, true, .bool true), (34, true, .bool true), (2, true, .bool true), (1, true, .pointer (some ⟨g1, 0, none⟩)), (2, true, .bool false), (3, true, .pointer (some ⟨g4, 0, none⟩)), (4, true, .bool q3), (5, true, .pointer (some ⟨g7, 0, none⟩)), (6, true, .bool q6)] [(true, g1, 31, (tab .u8 32 b)), (true, g4, 24, (Wl a2)), (true, g7, 24, (Wl a5))] ac w := hJ
  refine then_n ?_
  refine wp_ret ?_
  exact bodyPost_ret (res1 rfl (rv_t hs rfl)) hs.defers ⟨rfl, hs.below⟩
theorem inverse_law (a : Nat) (ha : a < 2 ^ 256) (w0 : World) : Calls Try.prog 7 #[W a] w0 fun e w' => e = .returned (.bool true) ∧ Below w0.heap.size w0 w' := by
  refine enter (n := 37) (args := [W a]) Try.func7 rfl rfl (Nat.le_of_ble_eq_true rfl) fun ac hs => ?_
  refine wp_seq ?_
  refine wp_region_lit ?_
  refine lstep (wpO_plain rfl (op_box hs none none (cs := (Wl a)) rfl rfl rfl rfl rfl rfl fun g1 ac w hs => ?_))
  refine lstep (wpO_plain rfl (op_assign hs none rfl rfl rfl rfl fun ac hs => ?_))
  refine wpList_nil ?_
  refine then_n ?_
  refine wp_seq ?_
  refine wp_region_lit ?_
  refine lstep (wpO_plain rfl (op_load hs none 0 (v := W a) rfl rfl rfl rfl Try.isAgg24 Try.sizeOf24 rfl rfl fun ac hs => ?_))
  obtain ⟨v2, hv2, lv2⟩ : ∃ r, pinv Nord a = r ∧ r < 2 ^ 256 := ⟨_, rfl, Nat.lt_trans (pinv_lt Nord_pos) Nord_lt⟩
  refine lstep (wpO_plain rfl (op_call (F := 23) hs none (v := W v2) rfl rfl rfl rfl (Try.call23 _) (sinv_c a v2 ha hv2) rfl fun ac w hs => ?_))
  refine lstep (wpO_plain rfl (op_alloc hs none none (cs := [.int .u64 0, .int .u64 0, .int .u64 0, .int .u64 0]) rfl rfl Try.zeroValue24 (by kernel_rfl) rfl rfl fun g3 ac w hs => ?_))
  refine lstep (wpO_plain rfl (op_store hs 1 (vs := (Wl v2)) rfl rfl rfl rfl rfl Try.sizeOf24 rfl rfl rfl rfl rfl fun w hs => ?_))
  refine wpList_nil ?_
  refine then_n ?_
  refine wp_seq ?_
  refine wp_region_lit ?_
  refine lstep (wpO_plain rfl (op_call (F := 9) hs none (v := W Nord) rfl rfl rfl rfl (Try.call9 _) order_c rfl fun ac w hs => ?_))
  refine lstep (wpO_plain rfl (op_alloc hs none none (cs := [.int .u64 0, .int .u64 0, .int .u64 0, .int .u64 0]) rfl rfl Try.zeroValue24 (by kernel_rfl) rfl rfl fun g4 ac w hs => ?_))
  refine lstep (wpO_plain rfl (op_store hs 2 (vs := (Wl Nord)) rfl rfl rfl rfl rfl Try.sizeOf24 rfl rfl rfl rfl rfl fun w hs => ?_))
  refine wpList_nil ?_
  refine then_n ?_
  refine wp_seq ?_
  refine wp_seq ?_
  replace hs : St 37 w0 [(1, true, .pointer (some ⟨g1, 0, none⟩)), (2, true, .bool false), (3, true, .pointer (some ⟨g3, 0, none⟩)), (4, true, .pointer (some ⟨g4, 0, none⟩))] [(true, g1, 24, (Wl a)), (true, g3, 24, (Wl v2)), (true, g4, 24, (Wl Nord))] ac w := hs.re ⟨rfl, rfl, rfl, rfl, trivial⟩
  obtain ⟨r5, hr5, lr5⟩ : ∃ r, a % Nord = r ∧ r < 2 ^ 256 := ⟨_, rfl, modN_lt _⟩
  refine region_inv [([], [2, 3, 4, 5, 6, 7, 8, 9, 10]), ([], [2, 3, 4, 5, 6, 7, 8, 9, 10]), ([0, 1], [3, 4, 5, 6, 7, 8, 9, 10]), ([0, 1, 2], [4, 5, 6, 7, 8, 9, 10]), ([0, 1, 2, 3], [5, 6, 7, 8, 9, 10]), ([0, 1, 2, 3, 4], [6, 8, 9, 10]), ([0, 1, 2, 3, 4, 5], [8, 9, 10]), ([0, 1, 2, 3, 4], [8, 9, 10]), ([0, 1, 2, 3, 4, 5, 6, 7], [9, 10]), ([0, 1, 2, 3, 4, 5, 6, 7, 8], [10]), ([0, 1, 2, 3, 4, 5, 6, 7, 8, 9], [])] (fun L ac w => St 37 w0 [(8, L 0, W v2), (9, L 1, W Nord), (10, L 2, .int .i64 (cmpZ v2 Nord)), (11, L 3, .bool false), (12, L 4, .bool false), (13, L 5, W a), (14, L 6, W r5), (15, L 7, W Nord), (16, L 8, .int .i64 (cmpZ r5 Nord)), (17, L 9, .bool false), (18, L 10, .bool false), (1, true, .pointer (some ⟨g1, 0, none⟩)), (2, true, .bool false), (3, true, .pointer (some ⟨g3, 0, none⟩)), (4, true, .pointer (some ⟨g4, 0, none⟩))] [(true, g1, 24, (Wl a)), (true, g3, 24, (Wl v2)), (true, g4, 24, (Wl Nord))] ac w) (by kernel_rfl) (by kernel_rfl) ?_ ?_ ?_
  · exact hs.drew.skip.skip.skip.skip.skip.skip.skip.skip.skip.skip.skip
  · refine ⟨?_, ?_, ?_, ?_, ?_, ?_, ?_, ?_, ?_, ?_, ?_, trivial⟩
    · intro L ac w hJ
      have hs := hJ
      refine wpO_plain rfl (op_load hs (some 0) 1 (v := W v2) rfl rfl rfl rfl Try.isAgg24 Try.sizeOf24 rfl rfl fun ac hs => ?_)
      exact hs
    · intro L ac w hJ
      have hs := hJ
      refine wpO_plain rfl (op_load hs (some 1) 2 (v := W Nord) rfl rfl rfl rfl Try.isAgg24 Try.sizeOf24 rfl rfl fun ac hs => ?_)
      exact hs
    · intro L ac w hJ
      have hs := hJ
      refine wpO_plain rfl (op_call (F := 25) hs (some 2) (v := .int .i64 (cmpZ v2 Nord)) rfl rfl rfl rfl (Try.call25 _) (fun w => cmp_any w v2 Nord lv2 Nord_lt) rfl fun ac w hs => ?_)
      exact hs
    · intro L ac w hJ
      have hs := hJ
      refine wpO_plain rfl (op_bin hs (some 3) (v := .bool false) rfl rfl rfl rfl (fun _ => rfl) (fun w => dF (Nat.not_le.2 (by rw [← hv2]; exact pinv_lt Nord_pos)) (bin_cmp_geq v2 Nord w)) rfl fun ac hs => ?_)
      exact hs
    · intro L ac w hJ
      have hs := hJ
      refine wpO_plain rfl (op_move hs (some 4) rfl rfl rfl rfl fun ac hs => ?_)
      exact hs
    · intro L ac w hJ
      have hs := hJ
      refine wpO_in hs rfl rfl rfl (op_load hs (some 5) 0 (v := W a) rfl rfl rfl rfl Try.isAgg24 Try.sizeOf24 rfl rfl fun ac hs => ?_)
      exact hs
    · intro L ac w hJ
      have hs := hJ
      refine wpO_in hs rfl rfl rfl (op_call (F := 11) hs (some 6) (v := W r5) rfl rfl rfl rfl (Try.call11 _) (red_c a r5 ha hr5) rfl fun ac w hs => ?_)
      exact hs
    · intro L ac w hJ
      have hs := hJ
      refine wpO_in hs rfl rfl rfl (op_load hs (some 7) 2 (v := W Nord) rfl rfl rfl rfl Try.isAgg24 Try.sizeOf24 rfl rfl fun ac hs => ?_)
      exact hs
    · intro L ac w hJ
      have hs := hJ
      refine wpO_in hs rfl rfl rfl (op_call (F := 25) hs (some 8) (v := .int .i64 (cmpZ r5 Nord)) rfl rfl rfl rfl (Try.call25 _) (fun w => cmp_any w r5 Nord lr5 Nord_lt) rfl fun ac w hs => ?_)
      exact hs
    · intro L ac w hJ
      have hs := hJ
      refine wpO_in hs rfl rfl rfl (op_bin hs (some 9) (v := .bool false) rfl rfl rfl rfl (fun _ => rfl) (fun w => dF (Nat.not_le.2 (by rw [← hr5]; exact Nat.mod_lt _ Nord_pos)) (bin_cmp_geq r5 Nord w)) rfl fun ac hs => ?_)
      exact hs
    · intro L ac w hJ
      have hs := hJ
      refine wpO_plain rfl (op_pickF hs (some 10) rfl rfl rfl rfl rfl fun ac hs => ?_)
      exact hs
  intro ac w hJ
  replace hs : St 37 w0 [(8, true, W v2), (9, true, W Nord), (10, true, .int .i64 (cmpZ v2 Nord)), (11, true, .bool false), (12, true, .bool false), (13, true, W a), (14, true, W r5), (15, true, W Nord), (16, true, .int .i64 (cmpZ r5 Nord)), (17, true, .bool false), (18, true, .bool false), (1, true, .pointer (some ⟨g1, 0, none⟩)), (2, true, .bool false), (3, true, .pointer (some ⟨g3, 0, none⟩)), (4, true, .pointer (some ⟨g4, 0, none⟩))] [(true, g1, 24, (Wl a)), (true, g3, 24, (Wl v2)), (true, g4, 24, (Wl Nord))] ac w := hJ
  refine then_n ?_
  refine wp_cond_false (hs.ev rfl) ?_
  refine wp_skip ?_
  refine then_n ?_
  refine wp_seq ?_
  refine wp_seq ?_
  refine wp_region_lit ?_
  refine lstep (wpO_plain rfl (op_load hs none 0 (v := W a) rfl rfl rfl rfl Try.isAgg24 Try.sizeOf24 rfl rfl fun ac hs => ?_))
  obtain ⟨r6, hr6, lr6⟩ : ∃ r, a % Nord = r ∧ r < 2 ^ 256 := ⟨_, rfl, modN_lt _⟩
  refine lstep (wpO_plain rfl (op_call (F := 11) hs none (v := W r6) rfl rfl rfl rfl (Try.call11 _) (red_c a r6 ha hr6) rfl fun ac w hs => ?_))
  refine lstep (wpO_plain rfl (op_build hs none (qs := []) (v := .agg #[.int .u64 0, .int .u64 0, .int .u64 0, .int .u64 0]) rfl rfl rfl rfl (fun _ => by kernel_rfl) rfl fun ac hs => ?_))
  refine lstep (wpO_plain rfl (op_bin hs none (v := .bool (decide (r6 = 0))) rfl rfl rfl rfl (fun w => run_eqGuard_agg w .eql 24 _ _ _ _ Try.eqGuardType24) (eqlW r6 0 lr6 (by decide) _ rfl) rfl fun ac hs => ?_))
  refine wpList_nil ?_
  refine then_n ?_
  refine wp_cond_split (hs.ev rfl) (fun hc => ?_) (fun hc => ?_)
  · skip
    have hp7 := of_decide_eq_true hc
    refine wp_seq ?_
    refine wp_region_lit ?_
    refine lstep (wpO_plain rfl (op_call (F := 8) hs none (v := .bool true) rfl rfl rfl rfl (Try.call8 _) alive_c rfl fun ac w hs => ?_))
    refine lstep (wpO_plain rfl (op_move hs none rfl rfl rfl rfl fun ac hs => ?_))
    refine lstep (wpO_in hs rfl rfl rfl (op_load hs none 1 (v := W v2) rfl rfl rfl rfl Try.isAgg24 Try.sizeOf24 rfl rfl fun ac hs => ?_))
    refine lstep (wpO_in hs rfl rfl rfl (op_build hs none (qs := []) (v := .agg #[.int .u64 0, .int .u64 0, .int .u64 0, .int .u64 0]) rfl rfl rfl rfl (fun _ => by kernel_rfl) rfl fun ac hs => ?_))
    refine lstep (wpO_in hs rfl rfl rfl (op_bin hs none (v := .bool true) rfl rfl rfl rfl (fun w => run_eqGuard_agg w .eql 24 _ _ _ _ Try.eqGuardType24) (eqlW v2 0 lv2 (by decide) true (decide_eq_true (sinv_zero hp7 hr6 hv2))) rfl fun ac hs => ?_))
    refine lstep (wpO_plain rfl (op_pickT hs none rfl rfl rfl rfl rfl fun ac hs => ?_))
    refine lstep (wpO_plain rfl (op_assign hs none rfl rfl rfl rfl fun ac hs => ?_))
    refine wpList_nil ?_
    refine then_n ?_
    refine wp_ret ?_
    refine then_r ?_
    exact bodyPost_ret (res1 rfl (rv_t hs rfl)) hs.defers ⟨rfl, hs.below⟩
  · skip
    have hp8 := of_decide_eq_false hc
    refine wp_skip ?_
    refine then_n ?_
    refine wp_seq ?_
    refine wp_region_lit ?_
    refine lstep (wpO_plain rfl (op_call (F := 8) hs none (v := .bool true) rfl rfl rfl rfl (Try.call8 _) alive_c rfl fun ac w hs => ?_))
    refine lstep (wpO_plain rfl (op_move hs none rfl rfl rfl rfl fun ac hs => ?_))
    refine lstep (wpO_in hs rfl rfl rfl (op_load hs none 0 (v := W a) rfl rfl rfl rfl Try.isAgg24 Try.sizeOf24 rfl rfl fun ac hs => ?_))
    refine lstep (wpO_in hs rfl rfl rfl (op_load hs none 1 (v := W v2) rfl rfl rfl rfl Try.isAgg24 Try.sizeOf24 rfl rfl fun ac hs => ?_))
    obtain ⟨r9, hr9, lr9⟩ : ∃ r, a * v2 % Nord = r ∧ r < 2 ^ 256 := ⟨_, rfl, modN_lt _⟩
    refine lstep (wpO_in hs rfl rfl rfl (op_call (F := 17) hs none (v := W r9) rfl rfl rfl rfl (Try.call17 _) (smul_c a v2 r9 ha lv2 hr9) rfl fun ac w hs => ?_))
    refine lstep (wpO_in hs rfl rfl rfl (op_build hs none (qs := [(0, .int .u64 1)]) (v := .agg #[.int .u64 1, .int .u64 0, .int .u64 0, .int .u64 0]) rfl rfl rfl rfl (fun _ => by kernel_rfl) rfl fun ac hs => ?_))
    refine lstep (wpO_in hs rfl rfl rfl (op_bin hs none (v := .bool true) rfl rfl rfl rfl (fun w => run_eqGuard_agg w .eql 24 _ _ _ _ Try.eqGuardType24) (eqlW r9 1 lr9 (by decide) true (decide_eq_true (sinv_one hp8 hr6 hv2 hr9))) rfl fun ac hs => ?_))
    refine lstep (wpO_plain rfl (op_pickT hs none rfl rfl rfl rfl rfl fun ac hs => ?_))
    refine lstep (wpO_plain rfl (op_assign hs none rfl rfl rfl rfl fun ac hs => ?_))
    refine wpList_nil ?_
    refine then_n ?_
    refine wp_ret ?_
    exact bodyPost_ret (res1 rfl (rv_t hs rfl)) hs.defers ⟨rfl, hs.below⟩
end Go.Proofs.Ytfaiifpdafbenaa
