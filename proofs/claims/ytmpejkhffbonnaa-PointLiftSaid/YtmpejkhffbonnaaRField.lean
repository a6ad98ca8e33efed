/- The contracts of the reference's field. -/
import Derived.Test.YtmpejkhffbonnaaField
import Derived.Test.YtmpejkhffbonnaaRef06
import Derived.Test.YtmpejkhffbonnaaInv
namespace Go.Proofs.Ytmpejkhffbonnaa
open Go.RowKit
set_option maxRecDepth 10000
set_option maxHeartbeats 1000000

theorem inv_prime {r v : Nat} (hr : r < Pf) (hv : pinv Pf r = v) (w : World) : Calls Try.prog 72 #[W r, W Pf] w fun e w' => e = .returned (W v) ∧ Below w.heap.size w w' := by
  refine inv_c r Pf v hr Pf_lt (by decide) (by decide) (fun h => gcd_one EM.pr_field hr h) (fun y hy h1 h0 => ?_) (fun h => ?_) w
  · rw [← hv]
    exact inv_uniq EM.pr_field (by rw [Nat.mod_eq_of_lt hr]; exact h0) hy h1
  · rw [← hv, h, pinv_zero (by decide)]
theorem mul_512 {a b : Nat} (ha : a < 2 ^ 256) (hb : b < 2 ^ 256) : a * b / 2 ^ 256 < 2 ^ 256 := mul_hi ha hb

theorem rshr_c (a : Nat) (n : Int) (nn x : Nat) (ha : a < 2 ^ 256) (hn : min (max n 0) 256 = (nn : Int)) (hx : a / 2 ^ nn = x) (w0 : World) : Calls Try.prog 90 #[W a, .int .i64 n] w0 fun e w' => e = .returned (W x) ∧ Below w0.heap.size w0 w' := by
  refine enter (n := 38) (args := [W a, .int .i64 n]) Try.func90 rfl rfl (Nat.le_of_ble_eq_true rfl) fun ac hs => ?_
  refine wp_seq ?_
  refine wp_region_lit ?_
  refine lstep (wpO_plain rfl (op_box hs none none (cs := (Wl a)) rfl rfl rfl rfl rfl rfl fun g1 ac w hs => ?_))
  refine lstep (wpO_plain rfl (op_alloc hs none none (cs := [.int .u64 0, .int .u64 0, .int .u64 0, .int .u64 0]) rfl rfl Try.zeroValue24 (by kernel_rfl) rfl rfl fun g2 ac w hs => ?_))
  refine wpList_nil ?_
  refine then_n ?_
  refine wp_seq ?_
  refine wp_region_lit ?_
  refine lstep (wpO_plain rfl (op_build hs none (qs := []) (v := .agg #[.int .u64 0, .int .u64 0, .int .u64 0, .int .u64 0]) rfl rfl rfl rfl (fun _ => by kernel_rfl) rfl fun ac hs => ?_))
  refine lstep (wpO_plain rfl (op_alloc hs none none (cs := [.int .u64 0, .int .u64 0, .int .u64 0, .int .u64 0]) rfl rfl Try.zeroValue24 (by kernel_rfl) rfl rfl fun g3 ac w hs => ?_))
  refine lstep (wpO_plain rfl (op_store hs 2 (vs := [.int .u64 0, .int .u64 0, .int .u64 0, .int .u64 0]) rfl rfl rfl rfl rfl Try.sizeOf24 rfl rfl rfl rfl rfl fun w hs => ?_))
  refine wpList_nil ?_
  refine then_n ?_
  refine wp_seq ?_
  refine wp_seq ?_
  refine wp_region_lit ?_
  refine lstep (wpO_plain rfl (op_assign hs none rfl rfl rfl rfl fun ac hs => ?_))
  refine wpList_nil ?_
  refine then_n ?_
  refine wp_block ?_
  refine wp_loop_m (fun μ ac w => ∃ (k : Nat) (o : Nat), (k) = μ ∧ (k ≤ 256) ∧ (o < 2 ^ 256) ∧ (a / 2 ^ nn / 2 ^ k = o) ∧ St 38 w0 [(1, true, .int .i64 n), (2, true, .pointer (some ⟨g1, 0, none⟩)), (4, true, .pointer (some ⟨g2, 0, none⟩)), (5, true, .pointer (some ⟨g3, 0, none⟩)), (6, true, .int .i64 (((k : Nat) : Int) - 1))] [(true, g1, 24, (Wl a)), (true, g2, 24, [.int .u64 0, .int .u64 0, .int .u64 0, .int .u64 0]), (true, g3, 24, (Wl o))] ac w) ?_ ?_
  · exact ⟨_, 256, 0, rfl, (by omega), (by decide), (Nat.div_eq_of_lt (div_lt256 ha)), (hs.re ⟨rfl, rfl, rfl, rfl, rfl, trivial⟩)⟩
  intro μ ac w ⟨k, o, hμ, hk, lo, ho, hs⟩
  refine wp_seq ?_
  refine wp_seq ?_
  refine wp_region_lit ?_
  refine lstep (wpO_plain rfl (op_move hs none rfl rfl rfl rfl fun ac hs => ?_))
  refine lstep (wpO_plain rfl (op_bin hs none (v := .bool (decide (1 ≤ k))) rfl rfl rfl rfl (fun _ => rfl) bin_geqP rfl fun ac hs => ?_))
  refine wpList_nil ?_
  refine then_n ?_
  refine wp_cond_split (hs.ev rfl) (fun hc => ?_) (fun hc => ?_)
  · skip
    have hp4 := of_decide_eq_true hc
    replace hs := hs.re (fs' := [(1, true, .int .i64 n), (2, true, .pointer (some ⟨g1, 0, none⟩)), (4, true, .pointer (some ⟨g2, 0, none⟩)), (5, true, .pointer (some ⟨g3, 0, none⟩)), (6, true, .int .i64 ((k - 1 : Nat) : Int)), (9, true, .int .i64 (((k : Nat) : Int) - 1)), (10, true, .bool (decide (1 ≤ k)))]) ⟨rfl, rfl, rfl, rfl, congrArg some (pre_nat hp4), rfl, rfl, trivial⟩
    refine wp_skip ?_
    refine then_n ?_
    refine wp_seq ?_
    refine wp_block ?_
    refine wp_seq ?_
    refine wp_region_lit ?_
    refine lstep (wpO_plain rfl (op_assign hs none rfl rfl rfl rfl fun ac hs => ?_))
    refine wpList_nil ?_
    refine then_n ?_
    refine wp_seq ?_
    refine wp_seq ?_
    refine wp_region_lit ?_
    refine lstep (wpO_plain rfl (op_move hs none rfl rfl rfl rfl fun ac hs => ?_))
    refine lstep (wpO_plain rfl (op_bin hs none (v := .bool (decide (n ≤ 0))) rfl rfl rfl rfl (fun _ => rfl) (bin_leqI (x := n) (y := 0)) rfl fun ac hs => ?_))
    refine wpList_nil ?_
    refine then_n ?_
    refine wp_cond_split (hs.ev rfl) (fun hc => ?_) (fun hc => ?_)
    · skip
      have hp5 := of_decide_eq_true hc
      have hn0 : nn = 0 := by omega
      refine wp_region_lit ?_
      refine lstep (wpO_plain rfl (op_load hs none 0 (v := W a) rfl rfl rfl rfl Try.isAgg24 Try.sizeOf24 rfl rfl fun ac hs => ?_))
      refine lstep (wpO_plain rfl (op_move hs none rfl rfl rfl rfl fun ac hs => ?_))
      obtain ⟨b6, hb6⟩ : ∃ z0, a / 2 ^ (k - 1) % 2 = z0 := ⟨_, rfl⟩
      have lb6 := bit_le hb6
      refine lstep (wpO_plain rfl (op_call (F := 40) hs none (v := .int .u64 ((b6 : Nat) : Int)) rfl rfl rfl rfl (Try.call40 _) (rbit_c a (k - 1) b6 (show k - 1 < 256 by omega) hb6) rfl fun ac w hs => ?_))
      refine lstep (wpO_plain rfl (op_assign hs none rfl rfl rfl rfl fun ac hs => ?_))
      refine wpList_nil ?_
      refine then_n ?_
      refine wp_region_lit ?_
      refine lstep (wpO_plain rfl (op_load hs none 2 (v := W o) rfl rfl rfl rfl Try.isAgg24 Try.sizeOf24 rfl rfl fun ac hs => ?_))
      refine lstep (wpO_plain rfl (op_move hs none rfl rfl rfl rfl fun ac hs => ?_))
      obtain ⟨t7, ht7, lt7⟩ : ∃ z0, (2 * o + b6) % 2 ^ 256 = z0 ∧ z0 < 2 ^ 256 := ⟨_, rfl, Nat.mod_lt _ (Nat.two_pow_pos 256)⟩
      obtain ⟨c8, hc8⟩ : ∃ z0, (2 * o + b6) / 2 ^ 256 = z0 := ⟨_, rfl⟩
      refine lstep (wpO_plain rfl (op_call (F := 98) hs none (v := .tuple #[W t7, .int .u64 ((c8 : Nat) : Int)]) rfl rfl rfl rfl (Try.call98 _) (rtwice_c o b6 t7 c8 lo (show b6 ≤ 1 by omega) ht7 hc8) rfl fun ac w hs => ?_))
      refine lstep (wpO_plain rfl (op_move hs none rfl rfl rfl rfl fun ac hs => ?_))
      refine lstep (wpO_plain rfl (op_extract hs none rfl rfl rfl rfl rfl fun ac hs => ?_))
      refine lstep (wpO_plain rfl (op_extract hs none rfl rfl rfl rfl rfl fun ac hs => ?_))
      refine lstep (wpO_plain rfl (op_store hs 2 (vs := (Wl t7)) rfl rfl rfl rfl rfl Try.sizeOf24 rfl rfl rfl rfl rfl fun w hs => ?_))
      refine wpList_nil ?_
      refine blk_n ?_
      refine then_n ?_
      refine wp_region_lit ?_
      refine lstep (wpO_plain rfl (op_move hs none rfl rfl rfl rfl fun ac hs => ?_))
      refine lstep (wpO_plain rfl (op_bin hs none (v := .int .i64 (((k - 1 : Nat) : Int) - 1)) rfl rfl rfl rfl (fun _ => rfl) (bin_subP (x := k - 1) (by omega)) rfl fun ac hs => ?_))
      refine lstep (wpO_plain rfl (op_assign hs none rfl rfl rfl rfl fun ac hs => ?_))
      refine wpList_nil ?_
      refine then_n ?_
      exact ⟨_, ⟨(k - 1), t7, rfl, (by omega), lt7, (rshr_step (div_lt256 ha) hp4 ho (by rw [hn0, Nat.pow_zero, Nat.div_one]; exact hb6) ht7), (hs.re ⟨rfl, rfl, rfl, rfl, rfl, trivial⟩)⟩, (by omega)⟩
    · skip
      have hp9 := of_decide_eq_false hc
      obtain ⟨m, hm⟩ : ∃ m : Nat, n = (m : Int) := ⟨n.toNat, by omega⟩
      replace hs := hs.re (fs' := [(1, true, .int .i64 ((m : Nat) : Int)), (2, true, .pointer (some ⟨g1, 0, none⟩)), (4, true, .pointer (some ⟨g2, 0, none⟩)), (5, true, .pointer (some ⟨g3, 0, none⟩)), (6, true, .int .i64 ((k - 1 : Nat) : Int)), (9, true, .int .i64 (((k : Nat) : Int) - 1)), (10, true, .bool (decide (1 ≤ k))), (7, true, .int .u64 0), (13, true, .int .i64 n), (14, true, .bool (decide (n ≤ 0)))]) ⟨congrArg some (show Value.int .i64 n = .int .i64 (m : Int) by rw [hm]), rfl, rfl, rfl, rfl, rfl, rfl, rfl, rfl, rfl, trivial⟩
      refine wp_seq ?_
      by_cases hq10 : m < 256
      · skip
        refine wp_region_lit ?_
        refine lstep (wpO_plain rfl (op_move hs none rfl rfl rfl rfl fun ac hs => ?_))
        refine lstep (wpO_plain rfl (op_bin hs none (v := .bool true) rfl rfl rfl rfl (fun _ => rfl) (fun w => dT hq10 (bin_lssN (x := m) (y := 256) w)) rfl fun ac hs => ?_))
        refine lstep (wpO_plain rfl (op_move hs none rfl rfl rfl rfl fun ac hs => ?_))
        refine lstep (wpO_in hs rfl rfl rfl (op_move hs none rfl rfl rfl rfl fun ac hs => ?_))
        refine lstep (wpO_in hs rfl rfl rfl (op_move hs none rfl rfl rfl rfl fun ac hs => ?_))
        refine lstep (wpO_in hs rfl rfl rfl (op_bin hs none (v := .int .i64 ((k - 1 + m : Nat) : Int)) rfl rfl rfl rfl (fun _ => rfl) (bin_addN (x := k - 1) (y := m) (z := k - 1 + m) rfl (show k - 1 + m < 9223372036854775808 by omega)) rfl fun ac hs => ?_))
        refine lstep (wpO_in hs rfl rfl rfl (op_bin hs none (v := .bool (decide (k - 1 + m < 256))) rfl rfl rfl rfl (fun _ => rfl) (bin_lssN (x := k - 1 + m) (y := 256)) rfl fun ac hs => ?_))
        refine lstep (wpO_plain rfl (op_pickT hs none rfl rfl rfl rfl rfl fun ac hs => ?_))
        refine wpList_nil ?_
        refine then_n ?_
        refine wp_cond_split (hs.ev rfl) (fun hc => ?_) (fun hc => ?_)
        · skip
          have hp11 := of_decide_eq_true hc
          refine wp_region_lit ?_
          refine lstep (wpO_plain rfl (op_load hs none 0 (v := W a) rfl rfl rfl rfl Try.isAgg24 Try.sizeOf24 rfl rfl fun ac hs => ?_))
          refine lstep (wpO_plain rfl (op_move hs none rfl rfl rfl rfl fun ac hs => ?_))
          refine lstep (wpO_plain rfl (op_move hs none rfl rfl rfl rfl fun ac hs => ?_))
          refine lstep (wpO_plain rfl (op_bin hs none (v := .int .i64 ((k - 1 + m : Nat) : Int)) rfl rfl rfl rfl (fun _ => rfl) (bin_addN (x := k - 1) (y := m) (z := k - 1 + m) rfl (show k - 1 + m < 9223372036854775808 by omega)) rfl fun ac hs => ?_))
          obtain ⟨b12, hb12⟩ : ∃ z0, a / 2 ^ (k - 1 + m) % 2 = z0 := ⟨_, rfl⟩
          have lb12 := bit_le hb12
          refine lstep (wpO_plain rfl (op_call (F := 40) hs none (v := .int .u64 ((b12 : Nat) : Int)) rfl rfl rfl rfl (Try.call40 _) (rbit_c a (k - 1 + m) b12 (show k - 1 + m < 256 by omega) hb12) rfl fun ac w hs => ?_))
          refine lstep (wpO_plain rfl (op_assign hs none rfl rfl rfl rfl fun ac hs => ?_))
          refine wpList_nil ?_
          refine then_n ?_
          refine wp_region_lit ?_
          refine lstep (wpO_plain rfl (op_load hs none 2 (v := W o) rfl rfl rfl rfl Try.isAgg24 Try.sizeOf24 rfl rfl fun ac hs => ?_))
          refine lstep (wpO_plain rfl (op_move hs none rfl rfl rfl rfl fun ac hs => ?_))
          obtain ⟨t13, ht13, lt13⟩ : ∃ z0, (2 * o + b12) % 2 ^ 256 = z0 ∧ z0 < 2 ^ 256 := ⟨_, rfl, Nat.mod_lt _ (Nat.two_pow_pos 256)⟩
          obtain ⟨c14, hc14⟩ : ∃ z0, (2 * o + b12) / 2 ^ 256 = z0 := ⟨_, rfl⟩
          refine lstep (wpO_plain rfl (op_call (F := 98) hs none (v := .tuple #[W t13, .int .u64 ((c14 : Nat) : Int)]) rfl rfl rfl rfl (Try.call98 _) (rtwice_c o b12 t13 c14 lo (show b12 ≤ 1 by omega) ht13 hc14) rfl fun ac w hs => ?_))
          refine lstep (wpO_plain rfl (op_move hs none rfl rfl rfl rfl fun ac hs => ?_))
          refine lstep (wpO_plain rfl (op_extract hs none rfl rfl rfl rfl rfl fun ac hs => ?_))
          refine lstep (wpO_plain rfl (op_extract hs none rfl rfl rfl rfl rfl fun ac hs => ?_))
          refine lstep (wpO_plain rfl (op_store hs 2 (vs := (Wl t13)) rfl rfl rfl rfl rfl Try.sizeOf24 rfl rfl rfl rfl rfl fun w hs => ?_))
          refine wpList_nil ?_
          refine blk_n ?_
          refine then_n ?_
          refine wp_region_lit ?_
          refine lstep (wpO_plain rfl (op_move hs none rfl rfl rfl rfl fun ac hs => ?_))
          refine lstep (wpO_plain rfl (op_bin hs none (v := .int .i64 (((k - 1 : Nat) : Int) - 1)) rfl rfl rfl rfl (fun _ => rfl) (bin_subP (x := k - 1) (by omega)) rfl fun ac hs => ?_))
          refine lstep (wpO_plain rfl (op_assign hs none rfl rfl rfl rfl fun ac hs => ?_))
          refine wpList_nil ?_
          refine then_n ?_
          exact ⟨_, ⟨(k - 1), t13, rfl, (by omega), lt13, (rshr_step (div_lt256 ha) hp4 ho (by rw [← rshr_bit, show nn = m by omega]; exact hb12) ht13), (hs.re ⟨(congrArg some (show Value.int .i64 (m : Int) = .int .i64 n by rw [hm])), rfl, rfl, rfl, rfl, trivial⟩)⟩, (by omega)⟩
        · skip
          have hp15 := of_decide_eq_false hc
          refine wp_skip ?_
          refine then_n ?_
          refine wp_region_lit ?_
          refine lstep (wpO_plain rfl (op_load hs none 2 (v := W o) rfl rfl rfl rfl Try.isAgg24 Try.sizeOf24 rfl rfl fun ac hs => ?_))
          refine lstep (wpO_plain rfl (op_move hs none rfl rfl rfl rfl fun ac hs => ?_))
          obtain ⟨t16, ht16, lt16⟩ : ∃ z0, (2 * o + 0) % 2 ^ 256 = z0 ∧ z0 < 2 ^ 256 := ⟨_, rfl, Nat.mod_lt _ (Nat.two_pow_pos 256)⟩
          obtain ⟨c17, hc17⟩ : ∃ z0, (2 * o + 0) / 2 ^ 256 = z0 := ⟨_, rfl⟩
          refine lstep (wpO_plain rfl (op_call (F := 98) hs none (v := .tuple #[W t16, .int .u64 ((c17 : Nat) : Int)]) rfl rfl rfl rfl (Try.call98 _) (rtwice_c o 0 t16 c17 lo (show 0 ≤ 1 by omega) ht16 hc17) rfl fun ac w hs => ?_))
          refine lstep (wpO_plain rfl (op_move hs none rfl rfl rfl rfl fun ac hs => ?_))
          refine lstep (wpO_plain rfl (op_extract hs none rfl rfl rfl rfl rfl fun ac hs => ?_))
          refine lstep (wpO_plain rfl (op_extract hs none rfl rfl rfl rfl rfl fun ac hs => ?_))
          refine lstep (wpO_plain rfl (op_store hs 2 (vs := (Wl t16)) rfl rfl rfl rfl rfl Try.sizeOf24 rfl rfl rfl rfl rfl fun w hs => ?_))
          refine wpList_nil ?_
          refine blk_n ?_
          refine then_n ?_
          refine wp_region_lit ?_
          refine lstep (wpO_plain rfl (op_move hs none rfl rfl rfl rfl fun ac hs => ?_))
          refine lstep (wpO_plain rfl (op_bin hs none (v := .int .i64 (((k - 1 : Nat) : Int) - 1)) rfl rfl rfl rfl (fun _ => rfl) (bin_subP (x := k - 1) (by omega)) rfl fun ac hs => ?_))
          refine lstep (wpO_plain rfl (op_assign hs none rfl rfl rfl rfl fun ac hs => ?_))
          refine wpList_nil ?_
          refine then_n ?_
          exact ⟨_, ⟨(k - 1), t16, rfl, (by omega), lt16, (rshr_step (div_lt256 ha) hp4 ho (rshr_bit0 ha (by omega)) ht16), (hs.re ⟨(congrArg some (show Value.int .i64 (m : Int) = .int .i64 n by rw [hm])), rfl, rfl, rfl, rfl, trivial⟩)⟩, (by omega)⟩
      · skip
        refine wp_region_lit ?_
        refine lstep (wpO_plain rfl (op_move hs none rfl rfl rfl rfl fun ac hs => ?_))
        refine lstep (wpO_plain rfl (op_bin hs none (v := .bool false) rfl rfl rfl rfl (fun _ => rfl) (fun w => dF hq10 (bin_lssN (x := m) (y := 256) w)) rfl fun ac hs => ?_))
        refine lstep (wpO_plain rfl (op_move hs none rfl rfl rfl rfl fun ac hs => ?_))
        refine lstep (wpO_out hs none rfl rfl (.inl rfl) rfl rfl fun ac hs => ?_)
        refine lstep (wpO_out hs none rfl rfl (.inl rfl) rfl rfl fun ac hs => ?_)
        refine lstep (wpO_out hs none rfl rfl (.inl rfl) rfl rfl fun ac hs => ?_)
        refine lstep (wpO_out hs none rfl rfl (.inl rfl) rfl rfl fun ac hs => ?_)
        refine lstep (wpO_plain rfl (op_pickF hs none rfl rfl rfl rfl rfl fun ac hs => ?_))
        refine wpList_nil ?_
        refine then_n ?_
        refine wp_cond_false (hs.ev rfl) ?_
        refine wp_skip ?_
        refine then_n ?_
        refine wp_region_lit ?_
        refine lstep (wpO_plain rfl (op_load hs none 2 (v := W o) rfl rfl rfl rfl Try.isAgg24 Try.sizeOf24 rfl rfl fun ac hs => ?_))
        refine lstep (wpO_plain rfl (op_move hs none rfl rfl rfl rfl fun ac hs => ?_))
        obtain ⟨t18, ht18, lt18⟩ : ∃ z0, (2 * o + 0) % 2 ^ 256 = z0 ∧ z0 < 2 ^ 256 := ⟨_, rfl, Nat.mod_lt _ (Nat.two_pow_pos 256)⟩
        obtain ⟨c19, hc19⟩ : ∃ z0, (2 * o + 0) / 2 ^ 256 = z0 := ⟨_, rfl⟩
        refine lstep (wpO_plain rfl (op_call (F := 98) hs none (v := .tuple #[W t18, .int .u64 ((c19 : Nat) : Int)]) rfl rfl rfl rfl (Try.call98 _) (rtwice_c o 0 t18 c19 lo (show 0 ≤ 1 by omega) ht18 hc19) rfl fun ac w hs => ?_))
        refine lstep (wpO_plain rfl (op_move hs none rfl rfl rfl rfl fun ac hs => ?_))
        refine lstep (wpO_plain rfl (op_extract hs none rfl rfl rfl rfl rfl fun ac hs => ?_))
        refine lstep (wpO_plain rfl (op_extract hs none rfl rfl rfl rfl rfl fun ac hs => ?_))
        refine lstep (wpO_plain rfl (op_store hs 2 (vs := (Wl t18)) rfl rfl rfl rfl rfl Try.sizeOf24 rfl rfl rfl rfl rfl fun w hs => ?_))
        refine wpList_nil ?_
        refine blk_n ?_
        refine then_n ?_
        refine wp_region_lit ?_
        refine lstep (wpO_plain rfl (op_move hs none rfl rfl rfl rfl fun ac hs => ?_))
        refine lstep (wpO_plain rfl (op_bin hs none (v := .int .i64 (((k - 1 : Nat) : Int) - 1)) rfl rfl rfl rfl (fun _ => rfl) (bin_subP (x := k - 1) (by omega)) rfl fun ac hs => ?_))
        refine lstep (wpO_plain rfl (op_assign hs none rfl rfl rfl rfl fun ac hs => ?_))
        refine wpList_nil ?_
        refine then_n ?_
        exact ⟨_, ⟨(k - 1), t18, rfl, (by omega), lt18, (rshr_step (div_lt256 ha) hp4 ho (rshr_bit0 ha (by omega)) ht18), (hs.re ⟨(congrArg some (show Value.int .i64 (m : Int) = .int .i64 n by rw [hm])), rfl, rfl, rfl, rfl, trivial⟩)⟩, (by omega)⟩
  · skip
    have hp20 := of_decide_eq_false hc
    obtain rfl : k = 0 := by omega
    refine wp_exit ?_
    refine then_e ?_
    refine then_e ?_
    refine blk_e ?_
    refine then_n ?_
    refine wp_seq ?_
    refine wp_region_lit ?_
    refine lstep (wpO_plain rfl (op_load hs none 2 (v := W o) rfl rfl rfl rfl Try.isAgg24 Try.sizeOf24 rfl rfl fun ac hs => ?_))
    refine lstep (wpO_plain rfl (op_store hs 1 (vs := (Wl o)) rfl rfl rfl rfl rfl Try.sizeOf24 rfl rfl rfl rfl rfl fun w hs => ?_))
    refine wpList_nil ?_
    refine then_n ?_
    refine wp_ret ?_
    exact bodyPost_ret (res1 rfl (rv_c hs 1 (v := W o) rfl rfl Try.isAgg24 Try.sizeOf24 rfl)) hs.defers ⟨by rw [← hx, ← ho, Nat.pow_zero, Nat.div_one], hs.below⟩
theorem rprime_c  (w0 : World) : Calls Try.prog 74 #[] w0 fun e w' => e = .returned (W Pf) ∧ Below w0.heap.size w0 w' := by
  refine enter (n := 2) (args := []) Try.func74 rfl rfl (Nat.le_of_ble_eq_true rfl) fun ac hs => ?_
  refine wp_seq ?_
  refine wp_region_lit ?_
  refine lstep (wpO_plain rfl (op_alloc hs none none (cs := [.int .u64 0, .int .u64 0, .int .u64 0, .int .u64 0]) rfl rfl Try.zeroValue24 (by kernel_rfl) rfl rfl fun g1 ac w hs => ?_))
  refine wpList_nil ?_
  refine then_n ?_
  refine wp_seq ?_
  refine wp_region_lit ?_
  refine lstep (wpO_plain rfl (op_build hs none (qs := [(0, .int .u64 18446744069414583343), (1, .int .u64 18446744073709551615), (2, .int .u64 18446744073709551615), (3, .int .u64 18446744073709551615)]) (v := .agg #[.int .u64 18446744069414583343, .int .u64 18446744073709551615, .int .u64 18446744073709551615, .int .u64 18446744073709551615]) rfl rfl rfl rfl (fun _ => by kernel_rfl) rfl fun ac hs => ?_))
  refine lstep (wpO_plain rfl (op_store hs 0 (vs := [.int .u64 18446744069414583343, .int .u64 18446744073709551615, .int .u64 18446744073709551615, .int .u64 18446744073709551615]) rfl rfl rfl rfl rfl Try.sizeOf24 rfl rfl rfl rfl rfl fun w hs => ?_))
  refine wpList_nil ?_
  refine then_n ?_
  refine wp_ret ?_
  exact bodyPost_ret (res1 rfl (rv_c hs 0 (v := .agg #[.int .u64 18446744069414583343, .int .u64 18446744073709551615, .int .u64 18446744073709551615, .int .u64 18446744073709551615]) rfl rfl Try.isAgg24 Try.sizeOf24 rfl)) hs.defers ⟨by kernel_rfl, hs.below⟩
theorem rfred_c (a x : Nat) (ha : a < 2 ^ 256) (hx : a % Pf = x) (w0 : World) : Calls Try.prog 73 #[W a] w0 fun e w' => e = .returned (W x) ∧ Below w0.heap.size w0 w' := by
  refine enter (n := 15) (args := [W a]) Try.func73 rfl rfl (Nat.le_of_ble_eq_true rfl) fun ac hs => ?_
  refine wp_seq ?_
  refine wp_region_lit ?_
  refine lstep (wpO_plain rfl (op_box hs none none (cs := (Wl a)) rfl rfl rfl rfl rfl rfl fun g1 ac w hs => ?_))
  refine lstep (wpO_plain rfl (op_alloc hs none none (cs := [.int .u64 0, .int .u64 0, .int .u64 0, .int .u64 0]) rfl rfl Try.zeroValue24 (by kernel_rfl) rfl rfl fun g2 ac w hs => ?_))
  refine wpList_nil ?_
  refine then_n ?_
  refine wp_seq ?_
  replace hs : St 15 w0 [(1, true, .pointer (some ⟨g1, 0, none⟩)), (2, true, .pointer (some ⟨g2, 0, none⟩))] [(true, g1, 24, (Wl a)), (true, g2, 24, [.int .u64 0, .int .u64 0, .int .u64 0, .int .u64 0])] ac _ := hs.re ⟨rfl, rfl, trivial⟩
  obtain ⟨d3, hd3, ld3⟩ : ∃ z0, (a + 2 ^ 256 - Pf) % 2 ^ 256 = z0 ∧ z0 < 2 ^ 256 := ⟨_, rfl, Nat.mod_lt _ (Nat.two_pow_pos 256)⟩
  obtain ⟨c4, hc4⟩ : ∃ z0, bor a Pf = z0 := ⟨_, rfl⟩
  refine region_inv [([], [2, 3, 4, 5, 7, 8]), ([], [2, 3, 4, 5, 7, 8]), ([0, 1], [3, 4, 5, 7, 8]), ([0, 1, 2], [4, 5, 7, 8]), ([0, 1, 2, 3], [7, 8]), ([0, 1, 2, 3], [8]), ([], [7, 8]), ([0, 1, 2, 3, 4, 6], [8]), ([0, 1, 2, 3, 4, 5, 6, 7], [])] (fun L ac w => ∃ (g5 : Nat), St 15 w0 [(6, L 0, W a), (7, L 1, W Pf), (8, L 2, .tuple #[W d3, .int .u64 ((c4 : Nat) : Int)]), (5, L 3, .tuple #[W d3, .int .u64 ((c4 : Nat) : Int)]), (9, L 4, W d3), (10, L 5, .int .u64 ((c4 : Nat) : Int)), (3, L 6, .pointer (some ⟨g5, 0, none⟩)), (4, L 8, .int .u64 ((c4 : Nat) : Int)), (1, true, .pointer (some ⟨g1, 0, none⟩)), (2, true, .pointer (some ⟨g2, 0, none⟩))] [(true, g1, 24, (Wl a)), (true, g2, 24, [.int .u64 0, .int .u64 0, .int .u64 0, .int .u64 0]), (L 6, g5, 24, (cond (L 7) (Wl d3) [.int .u64 0, .int .u64 0, .int .u64 0, .int .u64 0]))] ac w) (by kernel_rfl) (by kernel_rfl) ?_ ?_ ?_
  · exact ⟨0, hs.drew.skip.skip.skip.skip.skip.skip.skip.skip.pad⟩
  · refine ⟨?_, ?_, ?_, ?_, ?_, ?_, ?_, ?_, ?_, trivial⟩
    · intro L ac w hJ
      obtain ⟨g5, hs⟩ := hJ
      refine wpO_plain rfl (op_load hs (some 0) 0 (v := W a) rfl rfl rfl rfl Try.isAgg24 Try.sizeOf24 rfl rfl fun ac hs => ?_)
      exact ⟨g5, hs⟩
    · intro L ac w hJ
      obtain ⟨g5, hs⟩ := hJ
      refine wpO_plain rfl (op_call (F := 74) hs (some 1) (v := W Pf) rfl rfl rfl rfl (Try.call74 _) rprime_c rfl fun ac w hs => ?_)
      exact ⟨g5, hs⟩
    · intro L ac w hJ
      obtain ⟨g5, hs⟩ := hJ
      refine wpO_plain rfl (op_call (F := 93) hs (some 2) (v := .tuple #[W d3, .int .u64 ((c4 : Nat) : Int)]) rfl rfl rfl rfl (Try.call93 _) (less_at a Pf d3 c4 ha Pf_lt hd3 hc4) rfl fun ac w hs => ?_)
      exact ⟨g5, hs⟩
    · intro L ac w hJ
      obtain ⟨g5, hs⟩ := hJ
      refine wpO_plain rfl (op_move hs (some 3) rfl rfl rfl rfl fun ac hs => ?_)
      exact ⟨g5, hs⟩
    · intro L ac w hJ
      obtain ⟨g5, hs⟩ := hJ
      refine wpO_plain rfl (op_extract hs (some 4) rfl rfl rfl rfl rfl fun ac hs => ?_)
      exact ⟨g5, hs⟩
    · intro L ac w hJ
      obtain ⟨g5, hs⟩ := hJ
      refine wpO_plain rfl (op_extract hs (some 5) rfl rfl rfl rfl rfl fun ac hs => ?_)
      exact ⟨g5, hs⟩
    · intro L ac w hJ
      obtain ⟨g5, hs⟩ := hJ
      refine wpO_plain rfl (op_alloc hs (some 6) (some 2) (cs := [.int .u64 0, .int .u64 0, .int .u64 0, .int .u64 0]) rfl rfl Try.zeroValue24 (by kernel_rfl) rfl rfl fun g5 ac w hs => ?_)
      exact ⟨g5, hs⟩
    · intro L ac w hJ
      obtain ⟨g5, hs⟩ := hJ
      refine wpO_plain rfl (op_store hs 2 (vs := (Wl d3)) rfl rfl rfl rfl rfl Try.sizeOf24 rfl rfl rfl rfl rfl fun w hs => ?_)
      exact ⟨g5, hs⟩
    · intro L ac w hJ
      obtain ⟨g5, hs⟩ := hJ
      refine wpO_plain rfl (op_assign hs (some 7) rfl rfl rfl rfl fun ac hs => ?_)
      exact ⟨g5, hs⟩
  intro ac w hJ
  obtain ⟨g5, hs⟩ := hJ
  replace hs : St 15 w0 [(6, true, W a), (7, true, W Pf), (8, true, .tuple #[W d3, .int .u64 ((c4 : Nat) : Int)]), (5, true, .tuple #[W d3, .int .u64 ((c4 : Nat) : Int)]), (9, true, W d3), (10, true, .int .u64 ((c4 : Nat) : Int)), (3, true, .pointer (some ⟨g5, 0, none⟩)), (4, true, .int .u64 ((c4 : Nat) : Int)), (1, true, .pointer (some ⟨g1, 0, none⟩)), (2, true, .pointer (some ⟨g2, 0, none⟩))] [(true, g1, 24, (Wl a)), (true, g2, 24, [.int .u64 0, .int .u64 0, .int .u64 0, .int .u64 0]), (true, g5, 24, (Wl d3))] ac w := hs
  refine then_n ?_
  refine wp_seq ?_
  refine wp_seq ?_
  refine wp_region_lit ?_
  refine lstep (wpO_plain rfl (op_move hs none rfl rfl rfl rfl fun ac hs => ?_))
  refine lstep (wpO_plain rfl (op_bin hs none (v := .bool (decide (c4 = 1))) rfl rfl rfl rfl (fun _ => rfl) (bin_eqlN (x := c4) (y := 1)) rfl fun ac hs => ?_))
  refine wpList_nil ?_
  refine then_n ?_
  refine wp_cond_split (hs.ev rfl) (fun hc => ?_) (fun hc => ?_)
  · skip
    have hp6 := of_decide_eq_true hc
    refine wp_seq ?_
    refine wp_region_lit ?_
    refine lstep (wpO_plain rfl (op_load hs none 0 (v := W a) rfl rfl rfl rfl Try.isAgg24 Try.sizeOf24 rfl rfl fun ac hs => ?_))
    refine lstep (wpO_plain rfl (op_store hs 1 (vs := (Wl a)) rfl rfl rfl rfl rfl Try.sizeOf24 rfl rfl rfl rfl rfl fun w hs => ?_))
    refine wpList_nil ?_
    refine then_n ?_
    refine wp_ret ?_
    refine then_r ?_
    exact bodyPost_ret (res1 rfl (rv_c hs 1 (v := W a) rfl rfl Try.isAgg24 Try.sizeOf24 rfl)) hs.defers ⟨by rw [← hx, ← rred_lo Pf_big Pf_lt ha hc4 hp6], hs.below⟩
  · skip
    have hp7 := of_decide_eq_false hc
    refine wp_skip ?_
    refine then_n ?_
    refine wp_seq ?_
    refine wp_region_lit ?_
    refine lstep (wpO_plain rfl (op_load hs none 2 (v := W d3) rfl rfl rfl rfl Try.isAgg24 Try.sizeOf24 rfl rfl fun ac hs => ?_))
    refine lstep (wpO_plain rfl (op_store hs 1 (vs := (Wl d3)) rfl rfl rfl rfl rfl Try.sizeOf24 rfl rfl rfl rfl rfl fun w hs => ?_))
    refine wpList_nil ?_
    refine then_n ?_
    refine wp_ret ?_
    exact bodyPost_ret (res1 rfl (rv_c hs 1 (v := W d3) rfl rfl Try.isAgg24 Try.sizeOf24 rfl)) hs.defers ⟨by rw [← hx, ← rred_hi Pf_big Pf_lt ha hd3 hc4 hp7], hs.below⟩
theorem rfadd_c (a b x : Nat) (ha : a < 2 ^ 256) (hb : b < 2 ^ 256) (hx : (a + b) % Pf = x) (w0 : World) : Calls Try.prog 71 #[W a, W b] w0 fun e w' => e = .returned (W x) ∧ Below w0.heap.size w0 w' := by
  refine enter (n := 25) (args := [W a, W b]) Try.func71 rfl rfl (Nat.le_of_ble_eq_true rfl) fun ac hs => ?_
  refine wp_seq ?_
  refine wp_region_lit ?_
  refine lstep (wpO_plain rfl (op_box hs none none (cs := (Wl a)) rfl rfl rfl rfl rfl rfl fun g1 ac w hs => ?_))
  refine lstep (wpO_plain rfl (op_box hs none none (cs := (Wl b)) rfl rfl rfl rfl rfl rfl fun g2 ac w hs => ?_))
  refine lstep (wpO_plain rfl (op_alloc hs none none (cs := [.int .u64 0, .int .u64 0, .int .u64 0, .int .u64 0]) rfl rfl Try.zeroValue24 (by kernel_rfl) rfl rfl fun g3 ac w hs => ?_))
  refine wpList_nil ?_
  refine then_n ?_
  refine wp_seq ?_
  replace hs : St 25 w0 [(2, true, .pointer (some ⟨g1, 0, none⟩)), (3, true, .pointer (some ⟨g2, 0, none⟩)), (4, true, .pointer (some ⟨g3, 0, none⟩))] [(true, g1, 24, (Wl a)), (true, g2, 24, (Wl b)), (true, g3, 24, [.int .u64 0, .int .u64 0, .int .u64 0, .int .u64 0])] ac _ := hs.re ⟨rfl, rfl, rfl, trivial⟩
  obtain ⟨r4, hr4, lr4⟩ : ∃ z0, a % Pf = z0 ∧ z0 < 2 ^ 256 := ⟨_, rfl, modP_lt _⟩
  obtain ⟨r5, hr5, lr5⟩ : ∃ z0, b % Pf = z0 ∧ z0 < 2 ^ 256 := ⟨_, rfl, modP_lt _⟩
  obtain ⟨s6, hs6, ls6⟩ : ∃ z0, (r4 + r5) % 2 ^ 256 = z0 ∧ z0 < 2 ^ 256 := ⟨_, rfl, Nat.mod_lt _ (Nat.two_pow_pos 256)⟩
  obtain ⟨c7, hc7⟩ : ∃ z0, (r4 + r5) / 2 ^ 256 = z0 := ⟨_, rfl⟩
  refine region_inv [([], [1, 3, 4, 5, 6, 7, 9, 10]), ([0], [3, 4, 5, 6, 7, 9, 10]), ([], [3, 4, 5, 6, 7, 9, 10]), ([0, 1, 2], [4, 5, 6, 7, 9, 10]), ([0, 1, 2, 3], [5, 6, 7, 9, 10]), ([0, 1, 2, 3, 4], [6, 7, 9, 10]), ([0, 1, 2, 3, 4, 5], [9, 10]), ([0, 1, 2, 3, 4, 5], [10]), ([], [9, 10]), ([0, 1, 2, 3, 4, 5, 6, 8], [10]), ([0, 1, 2, 3, 4, 5, 6, 7, 8, 9], [])] (fun L ac w => ∃ (g8 : Nat), St 25 w0 [(8, L 0, W a), (9, L 1, W r4), (10, L 2, W b), (11, L 3, W r5), (12, L 4, .tuple #[W s6, .int .u64 ((c7 : Nat) : Int)]), (7, L 5, .tuple #[W s6, .int .u64 ((c7 : Nat) : Int)]), (13, L 6, W s6), (14, L 7, .int .u64 ((c7 : Nat) : Int)), (5, L 8, .pointer (some ⟨g8, 0, none⟩)), (6, L 10, .int .u64 ((c7 : Nat) : Int)), (2, true, .pointer (some ⟨g1, 0, none⟩)), (3, true, .pointer (some ⟨g2, 0, none⟩)), (4, true, .pointer (some ⟨g3, 0, none⟩))] [(true, g1, 24, (Wl a)), (true, g2, 24, (Wl b)), (true, g3, 24, [.int .u64 0, .int .u64 0, .int .u64 0, .int .u64 0]), (L 8, g8, 24, (cond (L 9) (Wl s6) [.int .u64 0, .int .u64 0, .int .u64 0, .int .u64 0]))] ac w) (by kernel_rfl) (by kernel_rfl) ?_ ?_ ?_
  · exact ⟨0, hs.drew.skip.skip.skip.skip.skip.skip.skip.skip.skip.skip.pad⟩
  · refine ⟨?_, ?_, ?_, ?_, ?_, ?_, ?_, ?_, ?_, ?_, ?_, trivial⟩
    · intro L ac w hJ
      obtain ⟨g8, hs⟩ := hJ
      refine wpO_plain rfl (op_load hs (some 0) 0 (v := W a) rfl rfl rfl rfl Try.isAgg24 Try.sizeOf24 rfl rfl fun ac hs => ?_)
      exact ⟨g8, hs⟩
    · intro L ac w hJ
      obtain ⟨g8, hs⟩ := hJ
      refine wpO_plain rfl (op_call (F := 73) hs (some 1) (v := W r4) rfl rfl rfl rfl (Try.call73 _) (rfred_c a r4 ha hr4) rfl fun ac w hs => ?_)
      exact ⟨g8, hs⟩
    · intro L ac w hJ
      obtain ⟨g8, hs⟩ := hJ
      refine wpO_plain rfl (op_load hs (some 2) 1 (v := W b) rfl rfl rfl rfl Try.isAgg24 Try.sizeOf24 rfl rfl fun ac hs => ?_)
      exact ⟨g8, hs⟩
    · intro L ac w hJ
      obtain ⟨g8, hs⟩ := hJ
      refine wpO_plain rfl (op_call (F := 73) hs (some 3) (v := W r5) rfl rfl rfl rfl (Try.call73 _) (rfred_c b r5 hb hr5) rfl fun ac w hs => ?_)
      exact ⟨g8, hs⟩
    · intro L ac w hJ
      obtain ⟨g8, hs⟩ := hJ
      refine wpO_plain rfl (op_call (F := 88) hs (some 4) (v := .tuple #[W s6, .int .u64 ((c7 : Nat) : Int)]) rfl rfl rfl rfl (Try.call88 _) (more_at r4 r5 s6 c7 lr4 lr5 hs6 hc7) rfl fun ac w hs => ?_)
      exact ⟨g8, hs⟩
    · intro L ac w hJ
      obtain ⟨g8, hs⟩ := hJ
      refine wpO_plain rfl (op_move hs (some 5) rfl rfl rfl rfl fun ac hs => ?_)
      exact ⟨g8, hs⟩
    · intro L ac w hJ
      obtain ⟨g8, hs⟩ := hJ
      refine wpO_plain rfl (op_extract hs (some 6) rfl rfl rfl rfl rfl fun ac hs => ?_)
      exact ⟨g8, hs⟩
    · intro L ac w hJ
      obtain ⟨g8, hs⟩ := hJ
      refine wpO_plain rfl (op_extract hs (some 7) rfl rfl rfl rfl rfl fun ac hs => ?_)
      exact ⟨g8, hs⟩
    · intro L ac w hJ
      obtain ⟨g8, hs⟩ := hJ
      refine wpO_plain rfl (op_alloc hs (some 8) (some 3) (cs := [.int .u64 0, .int .u64 0, .int .u64 0, .int .u64 0]) rfl rfl Try.zeroValue24 (by kernel_rfl) rfl rfl fun g8 ac w hs => ?_)
      exact ⟨g8, hs⟩
    · intro L ac w hJ
      obtain ⟨g8, hs⟩ := hJ
      refine wpO_plain rfl (op_store hs 3 (vs := (Wl s6)) rfl rfl rfl rfl rfl Try.sizeOf24 rfl rfl rfl rfl rfl fun w hs => ?_)
      exact ⟨g8, hs⟩
    · intro L ac w hJ
      obtain ⟨g8, hs⟩ := hJ
      refine wpO_plain rfl (op_assign hs (some 9) rfl rfl rfl rfl fun ac hs => ?_)
      exact ⟨g8, hs⟩
  intro ac w hJ
  obtain ⟨g8, hs⟩ := hJ
  replace hs : St 25 w0 [(8, true, W a), (9, true, W r4), (10, true, W b), (11, true, W r5), (12, true, .tuple #[W s6, .int .u64 ((c7 : Nat) : Int)]), (7, true, .tuple #[W s6, .int .u64 ((c7 : Nat) : Int)]), (13, true, W s6), (14, true, .int .u64 ((c7 : Nat) : Int)), (5, true, .pointer (some ⟨g8, 0, none⟩)), (6, true, .int .u64 ((c7 : Nat) : Int)), (2, true, .pointer (some ⟨g1, 0, none⟩)), (3, true, .pointer (some ⟨g2, 0, none⟩)), (4, true, .pointer (some ⟨g3, 0, none⟩))] [(true, g1, 24, (Wl a)), (true, g2, 24, (Wl b)), (true, g3, 24, [.int .u64 0, .int .u64 0, .int .u64 0, .int .u64 0]), (true, g8, 24, (Wl s6))] ac w := hs
  refine then_n ?_
  refine wp_seq ?_
  refine wp_seq ?_
  refine wp_region_lit ?_
  refine lstep (wpO_plain rfl (op_move hs none rfl rfl rfl rfl fun ac hs => ?_))
  refine lstep (wpO_plain rfl (op_bin hs none (v := .bool (decide (c7 = 1))) rfl rfl rfl rfl (fun _ => rfl) (bin_eqlN (x := c7) (y := 1)) rfl fun ac hs => ?_))
  refine wpList_nil ?_
  refine then_n ?_
  refine wp_cond_split (hs.ev rfl) (fun hc => ?_) (fun hc => ?_)
  · skip
    have hp9 := of_decide_eq_true hc
    refine wp_region_lit ?_
    refine lstep (wpO_plain rfl (op_load hs none 3 (v := W s6) rfl rfl rfl rfl Try.isAgg24 Try.sizeOf24 rfl rfl fun ac hs => ?_))
    refine lstep (wpO_plain rfl (op_build hs none (qs := [(0, .int .u64 4294968273)]) (v := .agg #[.int .u64 4294968273, .int .u64 0, .int .u64 0, .int .u64 0]) rfl rfl rfl rfl (fun _ => by kernel_rfl) rfl fun ac hs => ?_))
    obtain ⟨s10, hs10, ls10⟩ : ∃ z0, (s6 + Pov) % 2 ^ 256 = z0 ∧ z0 < 2 ^ 256 := ⟨_, rfl, Nat.mod_lt _ (Nat.two_pow_pos 256)⟩
    obtain ⟨c11, hc11⟩ : ∃ z0, (s6 + Pov) / 2 ^ 256 = z0 := ⟨_, rfl⟩
    refine lstep (wpO_plain rfl (op_call (F := 88) hs none (v := .tuple #[W s10, .int .u64 ((c11 : Nat) : Int)]) rfl rfl rfl rfl (Try.call88 _) (more_at s6 Pov s10 c11 ls6 Pov_lt hs10 hc11) rfl fun ac w hs => ?_))
    refine lstep (wpO_plain rfl (op_move hs none rfl rfl rfl rfl fun ac hs => ?_))
    refine lstep (wpO_plain rfl (op_extract hs none rfl rfl rfl rfl rfl fun ac hs => ?_))
    refine lstep (wpO_plain rfl (op_extract hs none rfl rfl rfl rfl rfl fun ac hs => ?_))
    refine lstep (wpO_plain rfl (op_store hs 3 (vs := (Wl s10)) rfl rfl rfl rfl rfl Try.sizeOf24 rfl rfl rfl rfl rfl fun w hs => ?_))
    refine wpList_nil ?_
    refine then_n ?_
    refine wp_seq ?_
    refine wp_region_lit ?_
    refine lstep (wpO_plain rfl (op_load hs none 3 (v := W s10) rfl rfl rfl rfl Try.isAgg24 Try.sizeOf24 rfl rfl fun ac hs => ?_))
    obtain ⟨r12, hr12, lr12⟩ : ∃ z0, s10 % Pf = z0 ∧ z0 < 2 ^ 256 := ⟨_, rfl, modP_lt _⟩
    refine lstep (wpO_plain rfl (op_call (F := 73) hs none (v := W r12) rfl rfl rfl rfl (Try.call73 _) (rfred_c s10 r12 ls10 hr12) rfl fun ac w hs => ?_))
    refine lstep (wpO_plain rfl (op_store hs 2 (vs := (Wl r12)) rfl rfl rfl rfl rfl Try.sizeOf24 rfl rfl rfl rfl rfl fun w hs => ?_))
    refine wpList_nil ?_
    refine then_n ?_
    refine wp_ret ?_
    exact bodyPost_ret (res1 rfl (rv_c hs 2 (v := W r12) rfl rfl Try.isAgg24 Try.sizeOf24 rfl)) hs.defers ⟨by subst hr4 hr5; rw [← hx, ← hr12, rfadd_yes hs6 hc7 hp9 hs10], hs.below⟩
  · skip
    have hp13 := of_decide_eq_false hc
    refine wp_skip ?_
    refine then_n ?_
    refine wp_seq ?_
    refine wp_region_lit ?_
    refine lstep (wpO_plain rfl (op_load hs none 3 (v := W s6) rfl rfl rfl rfl Try.isAgg24 Try.sizeOf24 rfl rfl fun ac hs => ?_))
    obtain ⟨r14, hr14, lr14⟩ : ∃ z0, s6 % Pf = z0 ∧ z0 < 2 ^ 256 := ⟨_, rfl, modP_lt _⟩
    refine lstep (wpO_plain rfl (op_call (F := 73) hs none (v := W r14) rfl rfl rfl rfl (Try.call73 _) (rfred_c s6 r14 ls6 hr14) rfl fun ac w hs => ?_))
    refine lstep (wpO_plain rfl (op_store hs 2 (vs := (Wl r14)) rfl rfl rfl rfl rfl Try.sizeOf24 rfl rfl rfl rfl rfl fun w hs => ?_))
    refine wpList_nil ?_
    refine then_n ?_
    refine wp_ret ?_
    exact bodyPost_ret (res1 rfl (rv_c hs 2 (v := W r14) rfl rfl Try.isAgg24 Try.sizeOf24 rfl)) hs.defers ⟨by subst hr4 hr5; rw [← hx, ← hr14, rfadd_no hs6 hc7 hp13], hs.below⟩
theorem rfsub_c (a b x : Nat) (ha : a < 2 ^ 256) (hb : b < 2 ^ 256) (hx : fsub a b = x) (w0 : World) : Calls Try.prog 70 #[W a, W b] w0 fun e w' => e = .returned (W x) ∧ Below w0.heap.size w0 w' := by
  refine enter (n := 24) (args := [W a, W b]) Try.func70 rfl rfl (Nat.le_of_ble_eq_true rfl) fun ac hs => ?_
  refine wp_seq ?_
  refine wp_region_lit ?_
  refine lstep (wpO_plain rfl (op_box hs none none (cs := (Wl a)) rfl rfl rfl rfl rfl rfl fun g1 ac w hs => ?_))
  refine lstep (wpO_plain rfl (op_box hs none none (cs := (Wl b)) rfl rfl rfl rfl rfl rfl fun g2 ac w hs => ?_))
  refine lstep (wpO_plain rfl (op_alloc hs none none (cs := [.int .u64 0, .int .u64 0, .int .u64 0, .int .u64 0]) rfl rfl Try.zeroValue24 (by kernel_rfl) rfl rfl fun g3 ac w hs => ?_))
  refine wpList_nil ?_
  refine then_n ?_
  refine wp_seq ?_
  replace hs : St 24 w0 [(2, true, .pointer (some ⟨g1, 0, none⟩)), (3, true, .pointer (some ⟨g2, 0, none⟩)), (4, true, .pointer (some ⟨g3, 0, none⟩))] [(true, g1, 24, (Wl a)), (true, g2, 24, (Wl b)), (true, g3, 24, [.int .u64 0, .int .u64 0, .int .u64 0, .int .u64 0])] ac _ := hs.re ⟨rfl, rfl, rfl, trivial⟩
  obtain ⟨r4, hr4, lr4⟩ : ∃ z0, a % Pf = z0 ∧ z0 < 2 ^ 256 := ⟨_, rfl, modP_lt _⟩
  obtain ⟨r5, hr5, lr5⟩ : ∃ z0, b % Pf = z0 ∧ z0 < 2 ^ 256 := ⟨_, rfl, modP_lt _⟩
  obtain ⟨d6, hd6, ld6⟩ : ∃ z0, (r4 + 2 ^ 256 - r5) % 2 ^ 256 = z0 ∧ z0 < 2 ^ 256 := ⟨_, rfl, Nat.mod_lt _ (Nat.two_pow_pos 256)⟩
  obtain ⟨c7, hc7⟩ : ∃ z0, bor r4 r5 = z0 := ⟨_, rfl⟩
  refine region_inv [([], [1, 3, 4, 5, 6, 7, 9, 10]), ([0], [3, 4, 5, 6, 7, 9, 10]), ([], [3, 4, 5, 6, 7, 9, 10]), ([0, 1, 2], [4, 5, 6, 7, 9, 10]), ([0, 1, 2, 3], [5, 6, 7, 9, 10]), ([0, 1, 2, 3, 4], [6, 7, 9, 10]), ([0, 1, 2, 3, 4, 5], [9, 10]), ([0, 1, 2, 3, 4, 5], [10]), ([], [9, 10]), ([0, 1, 2, 3, 4, 5, 6, 8], [10]), ([0, 1, 2, 3, 4, 5, 6, 7, 8, 9], [])] (fun L ac w => ∃ (g8 : Nat), St 24 w0 [(8, L 0, W a), (9, L 1, W r4), (10, L 2, W b), (11, L 3, W r5), (12, L 4, .tuple #[W d6, .int .u64 ((c7 : Nat) : Int)]), (7, L 5, .tuple #[W d6, .int .u64 ((c7 : Nat) : Int)]), (13, L 6, W d6), (14, L 7, .int .u64 ((c7 : Nat) : Int)), (5, L 8, .pointer (some ⟨g8, 0, none⟩)), (6, L 10, .int .u64 ((c7 : Nat) : Int)), (2, true, .pointer (some ⟨g1, 0, none⟩)), (3, true, .pointer (some ⟨g2, 0, none⟩)), (4, true, .pointer (some ⟨g3, 0, none⟩))] [(true, g1, 24, (Wl a)), (true, g2, 24, (Wl b)), (true, g3, 24, [.int .u64 0, .int .u64 0, .int .u64 0, .int .u64 0]), (L 8, g8, 24, (cond (L 9) (Wl d6) [.int .u64 0, .int .u64 0, .int .u64 0, .int .u64 0]))] ac w) (by kernel_rfl) (by kernel_rfl) ?_ ?_ ?_
  · exact ⟨0, hs.drew.skip.skip.skip.skip.skip.skip.skip.skip.skip.skip.pad⟩
  · refine ⟨?_, ?_, ?_, ?_, ?_, ?_, ?_, ?_, ?_, ?_, ?_, trivial⟩
    · intro L ac w hJ
      obtain ⟨g8, hs⟩ := hJ
      refine wpO_plain rfl (op_load hs (some 0) 0 (v := W a) rfl rfl rfl rfl Try.isAgg24 Try.sizeOf24 rfl rfl fun ac hs => ?_)
      exact ⟨g8, hs⟩
    · intro L ac w hJ
      obtain ⟨g8, hs⟩ := hJ
      refine wpO_plain rfl (op_call (F := 73) hs (some 1) (v := W r4) rfl rfl rfl rfl (Try.call73 _) (rfred_c a r4 ha hr4) rfl fun ac w hs => ?_)
      exact ⟨g8, hs⟩
    · intro L ac w hJ
      obtain ⟨g8, hs⟩ := hJ
      refine wpO_plain rfl (op_load hs (some 2) 1 (v := W b) rfl rfl rfl rfl Try.isAgg24 Try.sizeOf24 rfl rfl fun ac hs => ?_)
      exact ⟨g8, hs⟩
    · intro L ac w hJ
      obtain ⟨g8, hs⟩ := hJ
      refine wpO_plain rfl (op_call (F := 73) hs (some 3) (v := W r5) rfl rfl rfl rfl (Try.call73 _) (rfred_c b r5 hb hr5) rfl fun ac w hs => ?_)
      exact ⟨g8, hs⟩
    · intro L ac w hJ
      obtain ⟨g8, hs⟩ := hJ
      refine wpO_plain rfl (op_call (F := 93) hs (some 4) (v := .tuple #[W d6, .int .u64 ((c7 : Nat) : Int)]) rfl rfl rfl rfl (Try.call93 _) (less_at r4 r5 d6 c7 lr4 lr5 hd6 hc7) rfl fun ac w hs => ?_)
      exact ⟨g8, hs⟩
    · intro L ac w hJ
      obtain ⟨g8, hs⟩ := hJ
      refine wpO_plain rfl (op_move hs (some 5) rfl rfl rfl rfl fun ac hs => ?_)
      exact ⟨g8, hs⟩
    · intro L ac w hJ
      obtain ⟨g8, hs⟩ := hJ
      refine wpO_plain rfl (op_extract hs (some 6) rfl rfl rfl rfl rfl fun ac hs => ?_)
      exact ⟨g8, hs⟩
    · intro L ac w hJ
      obtain ⟨g8, hs⟩ := hJ
      refine wpO_plain rfl (op_extract hs (some 7) rfl rfl rfl rfl rfl fun ac hs => ?_)
      exact ⟨g8, hs⟩
    · intro L ac w hJ
      obtain ⟨g8, hs⟩ := hJ
      refine wpO_plain rfl (op_alloc hs (some 8) (some 3) (cs := [.int .u64 0, .int .u64 0, .int .u64 0, .int .u64 0]) rfl rfl Try.zeroValue24 (by kernel_rfl) rfl rfl fun g8 ac w hs => ?_)
      exact ⟨g8, hs⟩
    · intro L ac w hJ
      obtain ⟨g8, hs⟩ := hJ
      refine wpO_plain rfl (op_store hs 3 (vs := (Wl d6)) rfl rfl rfl rfl rfl Try.sizeOf24 rfl rfl rfl rfl rfl fun w hs => ?_)
      exact ⟨g8, hs⟩
    · intro L ac w hJ
      obtain ⟨g8, hs⟩ := hJ
      refine wpO_plain rfl (op_assign hs (some 9) rfl rfl rfl rfl fun ac hs => ?_)
      exact ⟨g8, hs⟩
  intro ac w hJ
  obtain ⟨g8, hs⟩ := hJ
  replace hs : St 24 w0 [(8, true, W a), (9, true, W r4), (10, true, W b), (11, true, W r5), (12, true, .tuple #[W d6, .int .u64 ((c7 : Nat) : Int)]), (7, true, .tuple #[W d6, .int .u64 ((c7 : Nat) : Int)]), (13, true, W d6), (14, true, .int .u64 ((c7 : Nat) : Int)), (5, true, .pointer (some ⟨g8, 0, none⟩)), (6, true, .int .u64 ((c7 : Nat) : Int)), (2, true, .pointer (some ⟨g1, 0, none⟩)), (3, true, .pointer (some ⟨g2, 0, none⟩)), (4, true, .pointer (some ⟨g3, 0, none⟩))] [(true, g1, 24, (Wl a)), (true, g2, 24, (Wl b)), (true, g3, 24, [.int .u64 0, .int .u64 0, .int .u64 0, .int .u64 0]), (true, g8, 24, (Wl d6))] ac w := hs
  refine then_n ?_
  refine wp_seq ?_
  refine wp_seq ?_
  refine wp_region_lit ?_
  refine lstep (wpO_plain rfl (op_move hs none rfl rfl rfl rfl fun ac hs => ?_))
  refine lstep (wpO_plain rfl (op_bin hs none (v := .bool (decide (c7 = 1))) rfl rfl rfl rfl (fun _ => rfl) (bin_eqlN (x := c7) (y := 1)) rfl fun ac hs => ?_))
  refine wpList_nil ?_
  refine then_n ?_
  refine wp_cond_split (hs.ev rfl) (fun hc => ?_) (fun hc => ?_)
  · skip
    have hp9 := of_decide_eq_true hc
    replace hs : St 24 w0 [(4, true, .pointer (some ⟨g3, 0, none⟩)), (5, true, .pointer (some ⟨g8, 0, none⟩))] [(true, g1, 24, (Wl a)), (true, g2, 24, (Wl b)), (true, g3, 24, [.int .u64 0, .int .u64 0, .int .u64 0, .int .u64 0]), (true, g8, 24, (Wl d6))] ac _ := hs.re ⟨rfl, rfl, trivial⟩
    obtain ⟨s10, hs10, ls10⟩ : ∃ z0, (d6 + Pf) % 2 ^ 256 = z0 ∧ z0 < 2 ^ 256 := ⟨_, rfl, Nat.mod_lt _ (Nat.two_pow_pos 256)⟩
    obtain ⟨c11, hc11⟩ : ∃ z0, (d6 + Pf) / 2 ^ 256 = z0 := ⟨_, rfl⟩
    refine region_inv [([], [2, 3, 4, 5, 6]), ([], [2, 3, 4, 5, 6]), ([0, 1], [3, 4, 5, 6]), ([0, 1, 2], [4, 5, 6]), ([0, 1, 2, 3], [6]), ([0, 1, 2, 3], []), ([0, 1, 2, 3, 4], [])] (fun L ac w => St 24 w0 [(18, L 0, W d6), (19, L 1, W Pf), (20, L 2, .tuple #[W s10, .int .u64 ((c11 : Nat) : Int)]), (17, L 3, .tuple #[W s10, .int .u64 ((c11 : Nat) : Int)]), (21, L 4, W s10), (22, L 5, .int .u64 ((c11 : Nat) : Int)), (4, true, .pointer (some ⟨g3, 0, none⟩)), (5, true, .pointer (some ⟨g8, 0, none⟩))] [(true, g1, 24, (Wl a)), (true, g2, 24, (Wl b)), (true, g3, 24, [.int .u64 0, .int .u64 0, .int .u64 0, .int .u64 0]), (true, g8, 24, (cond (L 6) (Wl s10) (Wl d6)))] ac w) (by kernel_rfl) (by kernel_rfl) ?_ ?_ ?_
    · exact hs.drew.skip.skip.skip.skip.skip.skip
    · refine ⟨?_, ?_, ?_, ?_, ?_, ?_, ?_, trivial⟩
      · intro L ac w hJ
        have hs := hJ
        refine wpO_plain rfl (op_load hs (some 0) 3 (v := W d6) rfl rfl rfl rfl Try.isAgg24 Try.sizeOf24 rfl rfl fun ac hs => ?_)
        exact hs
      · intro L ac w hJ
        have hs := hJ
        refine wpO_plain rfl (op_call (F := 74) hs (some 1) (v := W Pf) rfl rfl rfl rfl (Try.call74 _) rprime_c rfl fun ac w hs => ?_)
        exact hs
      · intro L ac w hJ
        have hs := hJ
        refine wpO_plain rfl (op_call (F := 88) hs (some 2) (v := .tuple #[W s10, .int .u64 ((c11 : Nat) : Int)]) rfl rfl rfl rfl (Try.call88 _) (more_at d6 Pf s10 c11 ld6 Pf_lt hs10 hc11) rfl fun ac w hs => ?_)
        exact hs
      · intro L ac w hJ
        have hs := hJ
        refine wpO_plain rfl (op_move hs (some 3) rfl rfl rfl rfl fun ac hs => ?_)
        exact hs
      · intro L ac w hJ
        have hs := hJ
        refine wpO_plain rfl (op_extract hs (some 4) rfl rfl rfl rfl rfl fun ac hs => ?_)
        exact hs
      · intro L ac w hJ
        have hs := hJ
        refine wpO_plain rfl (op_extract hs (some 5) rfl rfl rfl rfl rfl fun ac hs => ?_)
        exact hs
      · intro L ac w hJ
        have hs := hJ
        refine wpO_plain rfl (op_store hs 3 (vs := (Wl s10)) rfl rfl rfl rfl rfl Try.sizeOf24 rfl rfl rfl rfl rfl fun w hs => ?_)
        exact hs
    intro ac w hJ
    replace hs : St 24 w0 [(18, true, W d6), (19, true, W Pf), (20, true, .tuple #[W s10, .int .u64 ((c11 : Nat) : Int)]), (17, true, .tuple #[W s10, .int .u64 ((c11 : Nat) : Int)]), (21, true, W s10), (22, true, .int .u64 ((c11 : Nat) : Int)), (4, true, .pointer (some ⟨g3, 0, none⟩)), (5, true, .pointer (some ⟨g8, 0, none⟩))] [(true, g1, 24, (Wl a)), (true, g2, 24, (Wl b)), (true, g3, 24, [.int .u64 0, .int .u64 0, .int .u64 0, .int .u64 0]), (true, g8, 24, (Wl s10))] ac w := hJ
    refine then_n ?_
    refine wp_seq ?_
    refine wp_region_lit ?_
    refine lstep (wpO_plain rfl (op_load hs none 3 (v := W s10) rfl rfl rfl rfl Try.isAgg24 Try.sizeOf24 rfl rfl fun ac hs => ?_))
    refine lstep (wpO_plain rfl (op_store hs 2 (vs := (Wl s10)) rfl rfl rfl rfl rfl Try.sizeOf24 rfl rfl rfl rfl rfl fun w hs => ?_))
    refine wpList_nil ?_
    refine then_n ?_
    refine wp_ret ?_
    exact bodyPost_ret (res1 rfl (rv_c hs 2 (v := W s10) rfl rfl Try.isAgg24 Try.sizeOf24 rfl)) hs.defers ⟨by subst hr4 hr5; rw [← hx, ← fsub_yes hd6 hc7 hp9 hs10], hs.below⟩
  · skip
    have hp12 := of_decide_eq_false hc
    refine wp_skip ?_
    refine then_n ?_
    refine wp_seq ?_
    refine wp_region_lit ?_
    refine lstep (wpO_plain rfl (op_load hs none 3 (v := W d6) rfl rfl rfl rfl Try.isAgg24 Try.sizeOf24 rfl rfl fun ac hs => ?_))
    refine lstep (wpO_plain rfl (op_store hs 2 (vs := (Wl d6)) rfl rfl rfl rfl rfl Try.sizeOf24 rfl rfl rfl rfl rfl fun w hs => ?_))
    refine wpList_nil ?_
    refine then_n ?_
    refine wp_ret ?_
    exact bodyPost_ret (res1 rfl (rv_c hs 2 (v := W d6) rfl rfl Try.isAgg24 Try.sizeOf24 rfl)) hs.defers ⟨by subst hr4 hr5; rw [← hx, ← fsub_no hd6 hc7 hp12], hs.below⟩
theorem rfneg_c (a x : Nat) (ha : a < 2 ^ 256) (hx : fsub 0 a = x) (w0 : World) : Calls Try.prog 50 #[W a] w0 fun e w' => e = .returned (W x) ∧ Below w0.heap.size w0 w' := by
  refine enter (n := 6) (args := [W a]) Try.func50 rfl rfl (Nat.le_of_ble_eq_true rfl) fun ac hs => ?_
  refine wp_seq ?_
  refine wp_region_lit ?_
  refine lstep (wpO_plain rfl (op_box hs none none (cs := (Wl a)) rfl rfl rfl rfl rfl rfl fun g1 ac w hs => ?_))
  refine lstep (wpO_plain rfl (op_alloc hs none none (cs := [.int .u64 0, .int .u64 0, .int .u64 0, .int .u64 0]) rfl rfl Try.zeroValue24 (by kernel_rfl) rfl rfl fun g2 ac w hs => ?_))
  refine wpList_nil ?_
  refine then_n ?_
  refine wp_seq ?_
  refine wp_region_lit ?_
  refine lstep (wpO_plain rfl (op_build hs none (qs := []) (v := .agg #[.int .u64 0, .int .u64 0, .int .u64 0, .int .u64 0]) rfl rfl rfl rfl (fun _ => by kernel_rfl) rfl fun ac hs => ?_))
  refine lstep (wpO_plain rfl (op_load hs none 0 (v := W a) rfl rfl rfl rfl Try.isAgg24 Try.sizeOf24 rfl rfl fun ac hs => ?_))
  obtain ⟨r3, hr3, lr3⟩ : ∃ z0, fsub 0 a = z0 ∧ z0 < 2 ^ 256 := ⟨_, rfl, fsub_lt _ _⟩
  refine lstep (wpO_plain rfl (op_call (F := 70) hs none (v := W r3) rfl rfl rfl rfl (Try.call70 _) (rfsub_c 0 a r3 (by decide) ha hr3) rfl fun ac w hs => ?_))
  refine lstep (wpO_plain rfl (op_store hs 1 (vs := (Wl r3)) rfl rfl rfl rfl rfl Try.sizeOf24 rfl rfl rfl rfl rfl fun w hs => ?_))
  refine wpList_nil ?_
  refine then_n ?_
  refine wp_ret ?_
  exact bodyPost_ret (res1 rfl (rv_c hs 1 (v := W r3) rfl rfl Try.isAgg24 Try.sizeOf24 rfl)) hs.defers ⟨by rw [← hx, ← hr3], hs.below⟩
theorem halves_c (a : Nat) (ha : a < 2 ^ 256) (w0 : World) : Calls Try.prog 75 #[W a] w0 fun e w' => e = .returned (At .u64 8 (h3 a)) ∧ Below w0.heap.size w0 w' := by
  refine enter (n := 23) (args := [W a]) Try.func75 rfl rfl (Nat.le_of_ble_eq_true rfl) fun ac hs => ?_
  refine wp_seq ?_
  refine wp_region_lit ?_
  refine lstep (wpO_plain rfl (op_box hs none none (cs := (Wl a)) rfl rfl rfl rfl rfl rfl fun g1 ac w hs => ?_))
  refine lstep (wpO_plain rfl (op_alloc hs none none (cs := (tab .u64 8 (fun _ => 0))) rfl rfl Try.zeroValue71 (by kernel_rfl) rfl rfl fun g2 ac w hs => ?_))
  refine wpList_nil ?_
  refine then_n ?_
  refine wp_seq ?_
  refine wp_region_lit ?_
  refine lstep (wpO_plain rfl (op_build hs none (qs := []) (v := At .u64 8 (fun _ => 0)) rfl rfl rfl rfl (fun _ => by kernel_rfl) rfl fun ac hs => ?_))
  refine lstep (wpO_plain rfl (op_alloc hs none none (cs := (tab .u64 8 (fun _ => 0))) rfl rfl Try.zeroValue71 (by kernel_rfl) rfl rfl fun g3 ac w hs => ?_))
  refine lstep (wpO_plain rfl (op_store hs 2 (vs := (tab .u64 8 (fun _ => 0))) rfl rfl rfl rfl rfl Try.sizeOf71 (by kernel_rfl) tab_length' (tab_one _ _ _) tab_leA wr_tab fun w hs => ?_))
  refine wpList_nil ?_
  refine then_n ?_
  refine wp_seq ?_
  refine wp_seq ?_
  refine wp_region_lit ?_
  refine lstep (wpO_plain rfl (op_assign hs none rfl rfl rfl rfl fun ac hs => ?_))
  refine wpList_nil ?_
  refine then_n ?_
  refine wp_block ?_
  refine wp_loop_m (fun μ ac w => ∃ (k : Nat) (f : Nat → Nat), (8 - k) = μ ∧ (k ≤ 8) ∧ (∀ j, j < k → f j = h3 a j) ∧ St 23 w0 [(1, true, .pointer (some ⟨g1, 0, none⟩)), (2, true, .pointer (some ⟨g2, 0, none⟩)), (3, true, .pointer (some ⟨g3, 0, none⟩)), (4, true, .int .i64 ((k : Nat) : Int))] [(true, g1, 24, (Wl a)), (true, g2, 71, (tab .u64 8 (fun _ => 0))), (true, g3, 71, (tab .u64 8 f))] ac w) ?_ ?_
  · exact ⟨_, 0, (fun _ => 0), rfl, (by omega), (fun j hj => by omega), (hs.re ⟨rfl, rfl, rfl, rfl, trivial⟩)⟩
  intro μ ac w ⟨k, f, hμ, hk, hf, hs⟩
  refine wp_seq ?_
  refine wp_seq ?_
  refine wp_region_lit ?_
  refine lstep (wpO_plain rfl (op_move hs none rfl rfl rfl rfl fun ac hs => ?_))
  refine lstep (wpO_plain rfl (op_bin hs none (v := .bool (decide (k < 8))) rfl rfl rfl rfl (fun _ => rfl) (bin_lssN (x := k) (y := 8)) rfl fun ac hs => ?_))
  refine wpList_nil ?_
  refine then_n ?_
  refine wp_cond_split (hs.ev rfl) (fun hc => ?_) (fun hc => ?_)
  · skip
    have hp4 := of_decide_eq_true hc
    have hlt : k < 8 := of_decide_eq_true hc
    refine wp_skip ?_
    refine then_n ?_
    refine wp_seq ?_
    refine wp_block ?_
    refine wp_region_lit ?_
    refine lstep (wpO_plain rfl (op_move hs none rfl rfl rfl rfl fun ac hs => ?_))
    refine lstep (wpO_plain rfl (op_move hs none rfl rfl rfl rfl fun ac hs => ?_))
    refine lstep (wpO_plain rfl (op_bin hs none (v := .int .i64 ((k / 2 : Nat) : Int)) rfl rfl rfl rfl (fun _ => rfl) (bin_quoN (x := k) (y := 2) (z := k / 2) rfl (by decide) (show k < 9223372036854775808 by omega)) rfl fun ac hs => ?_))
    refine lstep (wpO_plain rfl (op_idxA hs none (j := k / 2) rfl rfl rfl rfl Try.underlying24 Try.sizeOf22 (show k / 2 < 4 by omega) (off := k / 2) (by omega) rfl fun ac hs => ?_))
    have l5 := limN_lt a (k / 2)
    refine lstep (wpO_plain rfl (op_load hs none 0 (v := .int .u64 ((limN a (k / 2) : Nat) : Int)) rfl rfl rfl rfl Try.isAgg22 Try.sizeOf22 (Wl_get (j := k / 2) (show k / 2 < 4 by omega)) rfl fun ac hs => ?_))
    refine lstep (wpO_plain rfl (op_move hs none rfl rfl rfl rfl fun ac hs => ?_))
    refine lstep (wpO_plain rfl (op_bin hs none (v := .int .i64 ((k % 2 : Nat) : Int)) rfl rfl rfl rfl (fun _ => rfl) (bin_remN (x := k) (y := 2) (z := k % 2) rfl (by decide)) rfl fun ac hs => ?_))
    refine lstep (wpO_plain rfl (op_bin hs none (v := .int .i64 ((32 * (k % 2) : Nat) : Int)) rfl rfl rfl rfl (fun _ => rfl) (bin_mulN (x := 32) (y := k % 2) (z := 32 * (k % 2)) rfl (show 32 * (k % 2) < 9223372036854775808 by omega)) rfl fun ac hs => ?_))
    refine lstep (wpO_plain rfl (op_convert hs none (v := .int .u64 ((32 * (k % 2) : Nat) : Int)) rfl rfl rfl (conv_N Try.underlying3 Try.underlying70 (show 32 * (k % 2) < 18446744073709551616 by omega)) rfl fun ac hs => ?_))
    refine lstep (wpO_plain rfl (op_bin hs none (v := .int .u64 (((limN a (k / 2)) / 2 ^ (32 * (k % 2)) : Nat) : Int)) rfl rfl rfl rfl (fun _ => rfl) (bin_shrN (x := limN a (k / 2)) (y := 32 * (k % 2)) (z := (limN a (k / 2)) / 2 ^ (32 * (k % 2))) rfl (limN_lt _ _)) rfl fun ac hs => ?_))
    refine lstep (wpO_plain rfl (op_bin hs none (v := .int .u64 ((((limN a (k / 2)) / 2 ^ (32 * (k % 2))) % 2 ^ 32 : Nat) : Int)) rfl rfl rfl rfl (fun _ => rfl) (bin_andN (x := (limN a (k / 2)) / 2 ^ (32 * (k % 2))) (y := 4294967295) (z := ((limN a (k / 2)) / 2 ^ (32 * (k % 2))) % 2 ^ 32) (Nat.and_two_pow_sub_one_eq_mod ((limN a (k / 2)) / 2 ^ (32 * (k % 2))) 32) (shr_lt (limN_lt _ _)) (by decide) (show ((limN a (k / 2)) / 2 ^ (32 * (k % 2))) % 2 ^ 32 < 18446744073709551616 by omega)) rfl fun ac hs => ?_))
    refine lstep (wpO_plain rfl (op_idxA hs none (j := k) rfl rfl rfl rfl Try.underlying71 Try.sizeOf22 (show k < 8 by omega) (off := k) (by omega) rfl fun ac hs => ?_))
    refine lstep (wpO_plain rfl (op_store hs 2 (vs := [.int .u64 ((((limN a (k / 2)) / 2 ^ (32 * (k % 2))) % 2 ^ 32 : Nat) : Int)]) rfl rfl rfl rfl rfl Try.sizeOf22 rfl rfl rfl (tab_le (j := k) (show k < 8 by omega)) (tab_set) fun w hs => ?_))
    refine wpList_nil ?_
    refine blk_n ?_
    refine then_n ?_
    refine wp_region_lit ?_
    refine lstep (wpO_plain rfl (op_move hs none rfl rfl rfl rfl fun ac hs => ?_))
    refine lstep (wpO_plain rfl (op_bin hs none (v := .int .i64 ((k + 1 : Nat) : Int)) rfl rfl rfl rfl (fun _ => rfl) (bin_addN (x := k) (y := 1) (z := k + 1) rfl (show k + 1 < 9223372036854775808 by omega)) rfl fun ac hs => ?_))
    refine lstep (wpO_plain rfl (op_assign hs none rfl rfl rfl rfl fun ac hs => ?_))
    refine wpList_nil ?_
    refine then_n ?_
    exact ⟨_, ⟨(k + 1), (upn f k (((limN a (k / 2)) / 2 ^ (32 * (k % 2))) % 2 ^ 32)), rfl, hlt, (h3_step hf), (hs.re ⟨rfl, rfl, rfl, rfl, trivial⟩)⟩, (by omega)⟩
  · skip
    have hp6 := of_decide_eq_false hc
    obtain rfl : k = 8 := by omega
    replace hs := hs.setb 2 (cs' := tab .u64 8 (h3 a)) rfl (tab_congr hf)
    refine wp_exit ?_
    refine then_e ?_
    refine then_e ?_
    refine blk_e ?_
    refine then_n ?_
    refine wp_seq ?_
    refine wp_region_lit ?_
    refine lstep (wpO_plain rfl (op_load hs none 2 (v := At .u64 8 (h3 a)) rfl rfl rfl rfl Try.isAgg71 Try.sizeOf71 ldv_tab rfl fun ac hs => ?_))
    refine lstep (wpO_plain rfl (op_store hs 1 (vs := (tab .u64 8 (h3 a))) rfl rfl rfl rfl rfl Try.sizeOf71 (by kernel_rfl) tab_length' (tab_one _ _ _) tab_leA wr_tab fun w hs => ?_))
    refine wpList_nil ?_
    refine then_n ?_
    refine wp_ret ?_
    exact bodyPost_ret (res1 rfl (rv_c hs 1 (v := At .u64 8 (h3 a)) rfl rfl Try.isAgg71 Try.sizeOf71 ldv_tab)) hs.defers ⟨rfl, hs.below⟩
theorem tw12_c (t x : Nat) (ht : t < 1099511627776) (hx : t * Pov = x) (w0 : World) : Calls Try.prog 95 #[.int .u64 ((t : Nat) : Int)] w0 fun e w' => e = .returned (W x) ∧ Below w0.heap.size w0 w' := by
  refine enter (n := 23) (args := [.int .u64 ((t : Nat) : Int)]) Try.func95 rfl rfl (Nat.le_of_ble_eq_true rfl) fun ac hs => ?_
  refine wp_seq ?_
  refine wp_region_lit ?_
  refine lstep (wpO_plain rfl (op_alloc hs none none (cs := [.int .u64 0, .int .u64 0, .int .u64 0, .int .u64 0]) rfl rfl Try.zeroValue24 (by kernel_rfl) rfl rfl fun g1 ac w hs => ?_))
  refine wpList_nil ?_
  refine then_n ?_
  refine wp_seq ?_
  refine wp_region_lit ?_
  refine lstep (wpO_plain rfl (op_move hs none rfl rfl rfl rfl fun ac hs => ?_))
  refine lstep (wpO_plain rfl (op_bin hs none (v := .int .u64 ((t * 977 : Nat) : Int)) rfl rfl rfl rfl (fun _ => rfl) (bin_mulN (x := t) (y := 977) (z := t * 977) rfl (show t * 977 < 18446744073709551616 by omega)) rfl fun ac hs => ?_))
  refine lstep (wpO_plain rfl (op_assign hs none rfl rfl rfl rfl fun ac hs => ?_))
  refine wpList_nil ?_
  refine then_n ?_
  refine wp_seq ?_
  refine wp_region_lit ?_
  refine lstep (wpO_plain rfl (op_move hs none rfl rfl rfl rfl fun ac hs => ?_))
  refine lstep (wpO_plain rfl (op_bin hs none (v := .int .u64 ((t * 2 ^ 32 % 18446744073709551616 : Nat) : Int)) rfl rfl rfl rfl (fun _ => rfl) (bin_shlM (x := t) (y := 32) (z := t * 2 ^ 32 % 18446744073709551616) rfl rfl) rfl fun ac hs => ?_))
  refine lstep (wpO_plain rfl (op_assign hs none rfl rfl rfl rfl fun ac hs => ?_))
  refine wpList_nil ?_
  refine then_n ?_
  refine wp_seq ?_
  refine wp_region_lit ?_
  refine lstep (wpO_plain rfl (op_move hs none rfl rfl rfl rfl fun ac hs => ?_))
  refine lstep (wpO_plain rfl (op_move hs none rfl rfl rfl rfl fun ac hs => ?_))
  refine lstep (wpO_plain rfl (op_bin hs none (v := .int .u64 (((t * 977 + t * 2 ^ 32 % 18446744073709551616) % 18446744073709551616 : Nat) : Int)) rfl rfl rfl rfl (fun _ => rfl) (bin_addM (x := t * 977) (y := t * 2 ^ 32 % 18446744073709551616) (z := (t * 977 + t * 2 ^ 32 % 18446744073709551616) % 18446744073709551616) rfl rfl) rfl fun ac hs => ?_))
  refine lstep (wpO_plain rfl (op_assign hs none rfl rfl rfl rfl fun ac hs => ?_))
  refine wpList_nil ?_
  refine then_n ?_
  refine wp_seq ?_
  refine wp_region_lit ?_
  refine lstep (wpO_plain rfl (op_assign hs none rfl rfl rfl rfl fun ac hs => ?_))
  refine wpList_nil ?_
  refine then_n ?_
  refine wp_seq ?_
  refine wp_seq ?_
  refine wp_region_lit ?_
  refine lstep (wpO_plain rfl (op_move hs none rfl rfl rfl rfl fun ac hs => ?_))
  refine lstep (wpO_plain rfl (op_move hs none rfl rfl rfl rfl fun ac hs => ?_))
  refine lstep (wpO_plain rfl (op_bin hs none (v := .bool (decide ((t * 977 + t * 2 ^ 32 % 18446744073709551616) % 18446744073709551616 < t * 977))) rfl rfl rfl rfl (fun _ => rfl) (bin_lssN (x := (t * 977 + t * 2 ^ 32 % 18446744073709551616) % 18446744073709551616) (y := t * 977)) rfl fun ac hs => ?_))
  refine wpList_nil ?_
  refine then_n ?_
  refine wp_cond_split (hs.ev rfl) (fun hc => ?_) (fun hc => ?_)
  · skip
    have hp2 := of_decide_eq_true hc
    refine wp_region_lit ?_
    refine lstep (wpO_plain rfl (op_assign hs none rfl rfl rfl rfl fun ac hs => ?_))
    refine wpList_nil ?_
    refine then_n ?_
    refine wp_seq ?_
    refine wp_region_lit ?_
    refine lstep (wpO_plain rfl (op_move hs none rfl rfl rfl rfl fun ac hs => ?_))
    refine lstep (wpO_plain rfl (op_move hs none rfl rfl rfl rfl fun ac hs => ?_))
    refine lstep (wpO_plain rfl (op_bin hs none (v := .int .u64 ((t / 2 ^ 32 : Nat) : Int)) rfl rfl rfl rfl (fun _ => rfl) (bin_shrN (x := t) (y := 32) (z := t / 2 ^ 32) rfl (show t < 2 ^ 64 by omega)) rfl fun ac hs => ?_))
    refine lstep (wpO_plain rfl (op_move hs none rfl rfl rfl rfl fun ac hs => ?_))
    refine lstep (wpO_plain rfl (op_bin hs none (v := .int .u64 ((t / 2 ^ 32 + 1 : Nat) : Int)) rfl rfl rfl rfl (fun _ => rfl) (bin_addN (x := t / 2 ^ 32) (y := 1) (z := t / 2 ^ 32 + 1) rfl (show t / 2 ^ 32 + 1 < 18446744073709551616 by omega)) rfl fun ac hs => ?_))
    refine lstep (wpO_plain rfl (op_build hs none (qs := [(0, .int .u64 (((t * 977 + t * 2 ^ 32 % 18446744073709551616) % 18446744073709551616 : Nat) : Int)), (1, .int .u64 ((t / 2 ^ 32 + 1 : Nat) : Int))]) (v := .agg #[.int .u64 (((t * 977 + t * 2 ^ 32 % 18446744073709551616) % 18446744073709551616 : Nat) : Int), .int .u64 ((t / 2 ^ 32 + 1 : Nat) : Int), .int .u64 0, .int .u64 0]) rfl rfl rfl rfl (fun _ => by kernel_rfl) rfl fun ac hs => ?_))
    refine lstep (wpO_plain rfl (op_store hs 0 (vs := [.int .u64 (((t * 977 + t * 2 ^ 32 % 18446744073709551616) % 18446744073709551616 : Nat) : Int), .int .u64 ((t / 2 ^ 32 + 1 : Nat) : Int), .int .u64 0, .int .u64 0]) rfl rfl rfl rfl rfl Try.sizeOf24 rfl rfl rfl rfl rfl fun w hs => ?_))
    refine wpList_nil ?_
    refine then_n ?_
    refine wp_ret ?_
    exact bodyPost_ret (res1 rfl (rv_c hs 0 (v := .agg #[.int .u64 (((t * 977 + t * 2 ^ 32 % 18446744073709551616) % 18446744073709551616 : Nat) : Int), .int .u64 ((t / 2 ^ 32 + 1 : Nat) : Int), .int .u64 0, .int .u64 0]) rfl rfl Try.isAgg24 Try.sizeOf24 rfl)) hs.defers ⟨by rw [← hx]; exact congrArg (fun l => Ending.returned (.agg (List.toArray l))) (tw12_limbs (c := 1) ht (by rw [if_pos hp2])), hs.below⟩
  · skip
    have hp3 := of_decide_eq_false hc
    refine wp_skip ?_
    refine then_n ?_
    refine wp_seq ?_
    refine wp_region_lit ?_
    refine lstep (wpO_plain rfl (op_move hs none rfl rfl rfl rfl fun ac hs => ?_))
    refine lstep (wpO_plain rfl (op_move hs none rfl rfl rfl rfl fun ac hs => ?_))
    refine lstep (wpO_plain rfl (op_bin hs none (v := .int .u64 ((t / 2 ^ 32 : Nat) : Int)) rfl rfl rfl rfl (fun _ => rfl) (bin_shrN (x := t) (y := 32) (z := t / 2 ^ 32) rfl (show t < 2 ^ 64 by omega)) rfl fun ac hs => ?_))
    refine lstep (wpO_plain rfl (op_move hs none rfl rfl rfl rfl fun ac hs => ?_))
    refine lstep (wpO_plain rfl (op_bin hs none (v := .int .u64 ((t / 2 ^ 32 + 0 : Nat) : Int)) rfl rfl rfl rfl (fun _ => rfl) (bin_addN (x := t / 2 ^ 32) (y := 0) (z := t / 2 ^ 32 + 0) rfl (show t / 2 ^ 32 + 0 < 18446744073709551616 by omega)) rfl fun ac hs => ?_))
    refine lstep (wpO_plain rfl (op_build hs none (qs := [(0, .int .u64 (((t * 977 + t * 2 ^ 32 % 18446744073709551616) % 18446744073709551616 : Nat) : Int)), (1, .int .u64 ((t / 2 ^ 32 + 0 : Nat) : Int))]) (v := .agg #[.int .u64 (((t * 977 + t * 2 ^ 32 % 18446744073709551616) % 18446744073709551616 : Nat) : Int), .int .u64 ((t / 2 ^ 32 + 0 : Nat) : Int), .int .u64 0, .int .u64 0]) rfl rfl rfl rfl (fun _ => by kernel_rfl) rfl fun ac hs => ?_))
    refine lstep (wpO_plain rfl (op_store hs 0 (vs := [.int .u64 (((t * 977 + t * 2 ^ 32 % 18446744073709551616) % 18446744073709551616 : Nat) : Int), .int .u64 ((t / 2 ^ 32 + 0 : Nat) : Int), .int .u64 0, .int .u64 0]) rfl rfl rfl rfl rfl Try.sizeOf24 rfl rfl rfl rfl rfl fun w hs => ?_))
    refine wpList_nil ?_
    refine then_n ?_
    refine wp_ret ?_
    exact bodyPost_ret (res1 rfl (rv_c hs 0 (v := .agg #[.int .u64 (((t * 977 + t * 2 ^ 32 % 18446744073709551616) % 18446744073709551616 : Nat) : Int), .int .u64 ((t / 2 ^ 32 + 0 : Nat) : Int), .int .u64 0, .int .u64 0]) rfl rfl Try.isAgg24 Try.sizeOf24 rfl)) hs.defers ⟨by rw [← hx]; exact congrArg (fun l => Ending.returned (.agg (List.toArray l))) (tw12_limbs (c := 0) ht (by rw [if_neg hp3])), hs.below⟩
theorem folded_c (M x : Nat) (hM : M / 2 ^ 256 < 2 ^ 256) (hx : M % Pf = x) (w0 : World) : Calls Try.prog 76 #[At .u64 16 (h3 M)] w0 fun e w' => e = .returned (W x) ∧ Below w0.heap.size w0 w' := by
  refine enter (n := 88) (args := [At .u64 16 (h3 M)]) Try.func76 rfl rfl (Nat.le_of_ble_eq_true rfl) fun ac hs => ?_
  refine wp_seq ?_
  refine wp_region_lit ?_
  refine lstep (wpO_plain rfl (op_box hs none none (cs := (tab .u64 16 (h3 M))) rfl rfl rfl rfl rfl rfl fun g1 ac w hs => ?_))
  refine lstep (wpO_plain rfl (op_alloc hs none none (cs := [.int .u64 0, .int .u64 0, .int .u64 0, .int .u64 0]) rfl rfl Try.zeroValue24 (by kernel_rfl) rfl rfl fun g2 ac w hs => ?_))
  refine wpList_nil ?_
  refine then_n ?_
  refine wp_seq ?_
  refine wp_region_lit ?_
  refine lstep (wpO_plain rfl (op_build hs none (qs := []) (v := At .u64 10 (fun _ => 0)) rfl rfl rfl rfl (fun _ => by kernel_rfl) rfl fun ac hs => ?_))
  refine lstep (wpO_plain rfl (op_alloc hs none none (cs := (tab .u64 10 (fun _ => 0))) rfl rfl Try.zeroValue84 (by kernel_rfl) rfl rfl fun g3 ac w hs => ?_))
  refine lstep (wpO_plain rfl (op_store hs 2 (vs := (tab .u64 10 (fun _ => 0))) rfl rfl rfl rfl rfl Try.sizeOf84 (by kernel_rfl) tab_length' (tab_one _ _ _) tab_leA wr_tab fun w hs => ?_))
  refine wpList_nil ?_
  refine then_n ?_
  refine wp_seq ?_
  refine wp_region_lit ?_
  refine lstep (wpO_plain rfl (op_assign hs none rfl rfl rfl rfl fun ac hs => ?_))
  refine wpList_nil ?_
  refine then_n ?_
  refine wp_seq ?_
  refine wp_seq ?_
  refine wp_region_lit ?_
  refine lstep (wpO_plain rfl (op_assign hs none rfl rfl rfl rfl fun ac hs => ?_))
  refine wpList_nil ?_
  refine then_n ?_
  refine wp_block ?_
  refine wp_loop_m (fun μ ac w => ∃ (i : Nat) (c : Nat) (f : Nat → Nat), (10 - i) = μ ∧ (i ≤ 10) ∧ (c = fT M i / p3 i) ∧ (∀ j, j < i → f j = h3 (fT M i) j) ∧ St 88 w0 [(1, true, .pointer (some ⟨g1, 0, none⟩)), (2, true, .pointer (some ⟨g2, 0, none⟩)), (3, true, .pointer (some ⟨g3, 0, none⟩)), (4, true, .int .u64 ((c : Nat) : Int)), (5, true, .int .i64 ((i : Nat) : Int))] [(true, g1, 73, (tab .u64 16 (h3 M))), (true, g2, 24, [.int .u64 0, .int .u64 0, .int .u64 0, .int .u64 0]), (true, g3, 84, (tab .u64 10 f))] ac w) ?_ ?_
  · exact ⟨_, 0, 0, (fun _ => 0), rfl, (by omega), (by rw [fT_zero]; simp), (fun j hj => by omega), (hs.re ⟨rfl, rfl, rfl, rfl, rfl, trivial⟩)⟩
  intro μ ac w ⟨i, c, f, hμ, hi, hcv, hf, hs⟩
  have hcl : c < 979 := by rw [hcv]; exact fT_lt
  refine wp_seq ?_
  refine wp_seq ?_
  refine wp_region_lit ?_
  refine lstep (wpO_plain rfl (op_move hs none rfl rfl rfl rfl fun ac hs => ?_))
  refine lstep (wpO_plain rfl (op_bin hs none (v := .bool (decide (i < 10))) rfl rfl rfl rfl (fun _ => rfl) (bin_lssN (x := i) (y := 10)) rfl fun ac hs => ?_))
  refine wpList_nil ?_
  refine then_n ?_
  refine wp_cond_split (hs.ev rfl) (fun hc => ?_) (fun hc => ?_)
  · skip
    have hp4 := of_decide_eq_true hc
    have hlt : i < 10 := of_decide_eq_true hc
    refine wp_skip ?_
    refine then_n ?_
    refine wp_seq ?_
    refine wp_block ?_
    refine wp_seq ?_
    refine wp_seq ?_
    refine wp_region_lit ?_
    refine lstep (wpO_plain rfl (op_move hs none rfl rfl rfl rfl fun ac hs => ?_))
    refine lstep (wpO_plain rfl (op_bin hs none (v := .bool (decide (i < 8))) rfl rfl rfl rfl (fun _ => rfl) (bin_lssN (x := i) (y := 8)) rfl fun ac hs => ?_))
    refine wpList_nil ?_
    refine then_n ?_
    refine wp_cond_split (hs.ev rfl) (fun hc => ?_) (fun hc => ?_)
    · skip
      have hp5 := of_decide_eq_true hc
      replace hs : St 88 w0 [(1, true, .pointer (some ⟨g1, 0, none⟩)), (2, true, .pointer (some ⟨g2, 0, none⟩)), (3, true, .pointer (some ⟨g3, 0, none⟩)), (4, true, .int .u64 ((c : Nat) : Int)), (5, true, .int .i64 ((i : Nat) : Int))] [(true, g1, 73, (tab .u64 16 (h3 M))), (true, g2, 24, [.int .u64 0, .int .u64 0, .int .u64 0, .int .u64 0]), (true, g3, 84, (tab .u64 10 f))] ac _ := hs.re ⟨rfl, rfl, rfl, rfl, rfl, trivial⟩
      have l6 := h3_lt M i
      have l7 := h3_lt M (8 + i)
      refine region_inv [([], [4, 10, 11]), ([], [2, 3, 4, 10, 11]), ([1], [3, 4, 10, 11]), ([1, 2], [4, 10, 11]), ([0, 1, 2, 3], [10, 11]), ([], [6, 7, 8, 9, 10, 11]), ([5], [7, 8, 9, 10, 11]), ([5, 6], [8, 9, 10, 11]), ([5, 6, 7], [9, 10, 11]), ([5, 6, 7, 8], [10, 11]), ([0, 1, 2, 3, 4, 5, 6, 7, 8, 9], [11]), ([0, 1, 2, 3, 4, 5, 6, 7, 8, 9, 10], [])] (fun L ac w => St 88 w0 [(18, L 0, .int .u64 ((c : Nat) : Int)), (19, L 1, .int .i64 ((i : Nat) : Int)), (20, L 2, .pointer (some ⟨g1, i, none⟩)), (21, L 3, .int .u64 (((h3 M) i : Nat) : Int)), (22, L 4, .int .u64 ((c + ((h3 M) i) : Nat) : Int)), (23, L 5, .int .i64 ((i : Nat) : Int)), (24, L 6, .int .i64 ((8 + i : Nat) : Int)), (25, L 7, .pointer (some ⟨g1, 8 + i, none⟩)), (26, L 8, .int .u64 (((h3 M) (8 + i) : Nat) : Int)), (27, L 9, .int .u64 ((((h3 M) (8 + i)) * 977 : Nat) : Int)), (28, L 10, .int .u64 ((c + ((h3 M) i) + (((h3 M) (8 + i)) * 977) : Nat) : Int)), (4, L 11, .int .u64 ((c + ((h3 M) i) + (((h3 M) (8 + i)) * 977) : Nat) : Int)), (1, true, .pointer (some ⟨g1, 0, none⟩)), (2, true, .pointer (some ⟨g2, 0, none⟩)), (3, true, .pointer (some ⟨g3, 0, none⟩)), (4, true, .int .u64 ((c : Nat) : Int)), (5, true, .int .i64 ((i : Nat) : Int))] [(true, g1, 73, (tab .u64 16 (h3 M))), (true, g2, 24, [.int .u64 0, .int .u64 0, .int .u64 0, .int .u64 0]), (true, g3, 84, (tab .u64 10 f))] ac w) (by kernel_rfl) (by kernel_rfl) ?_ ?_ ?_
      · exact hs.drew.skip.skip.skip.skip.skip.skip.skip.skip.skip.skip.skip.skip
      · refine ⟨?_, ?_, ?_, ?_, ?_, ?_, ?_, ?_, ?_, ?_, ?_, ?_, trivial⟩
        · intro L ac w hJ
          have hs := hJ
          refine wpO_plain rfl (op_move hs (some 0) rfl rfl rfl rfl fun ac hs => ?_)
          exact hs
        · intro L ac w hJ
          have hs := hJ
          refine wpO_plain rfl (op_move hs (some 1) rfl rfl rfl rfl fun ac hs => ?_)
          exact hs
        · intro L ac w hJ
          have hs := hJ
          refine wpO_plain rfl (op_idxA hs (some 2) (j := i) rfl rfl rfl rfl Try.underlying73 Try.sizeOf22 (show i < 16 by omega) (off := i) (by omega) rfl fun ac hs => ?_)
          exact hs
        · intro L ac w hJ
          have hs := hJ
          refine wpO_plain rfl (op_load hs (some 3) 0 (v := .int .u64 (((h3 M) i : Nat) : Int)) rfl rfl rfl rfl Try.isAgg22 Try.sizeOf22 (tab_get (j := i) (show i < 16 by omega)) rfl fun ac hs => ?_)
          exact hs
        · intro L ac w hJ
          have hs := hJ
          refine wpO_plain rfl (op_bin hs (some 4) (v := .int .u64 ((c + ((h3 M) i) : Nat) : Int)) rfl rfl rfl rfl (fun _ => rfl) (bin_addN (x := c) (y := (h3 M) i) (z := c + ((h3 M) i)) rfl (show c + ((h3 M) i) < 18446744073709551616 by omega)) rfl fun ac hs => ?_)
          exact hs
        · intro L ac w hJ
          have hs := hJ
          refine wpO_plain rfl (op_move hs (some 5) rfl rfl rfl rfl fun ac hs => ?_)
          exact hs
        · intro L ac w hJ
          have hs := hJ
          refine wpO_plain rfl (op_bin hs (some 6) (v := .int .i64 ((8 + i : Nat) : Int)) rfl rfl rfl rfl (fun _ => rfl) (bin_addN (x := 8) (y := i) (z := 8 + i) rfl (show 8 + i < 9223372036854775808 by omega)) rfl fun ac hs => ?_)
          exact hs
        · intro L ac w hJ
          have hs := hJ
          refine wpO_plain rfl (op_idxA hs (some 7) (j := 8 + i) rfl rfl rfl rfl Try.underlying73 Try.sizeOf22 (show 8 + i < 16 by omega) (off := 8 + i) (by omega) rfl fun ac hs => ?_)
          exact hs
        · intro L ac w hJ
          have hs := hJ
          refine wpO_plain rfl (op_load hs (some 8) 0 (v := .int .u64 (((h3 M) (8 + i) : Nat) : Int)) rfl rfl rfl rfl Try.isAgg22 Try.sizeOf22 (tab_get (j := 8 + i) (show 8 + i < 16 by omega)) rfl fun ac hs => ?_)
          exact hs
        · intro L ac w hJ
          have hs := hJ
          refine wpO_plain rfl (op_bin hs (some 9) (v := .int .u64 ((((h3 M) (8 + i)) * 977 : Nat) : Int)) rfl rfl rfl rfl (fun _ => rfl) (bin_mulN (x := (h3 M) (8 + i)) (y := 977) (z := ((h3 M) (8 + i)) * 977) rfl (show ((h3 M) (8 + i)) * 977 < 18446744073709551616 by omega)) rfl fun ac hs => ?_)
          exact hs
        · intro L ac w hJ
          have hs := hJ
          refine wpO_plain rfl (op_bin hs (some 10) (v := .int .u64 ((c + ((h3 M) i) + (((h3 M) (8 + i)) * 977) : Nat) : Int)) rfl rfl rfl rfl (fun _ => rfl) (bin_addN (x := c + ((h3 M) i)) (y := ((h3 M) (8 + i)) * 977) (z := c + ((h3 M) i) + (((h3 M) (8 + i)) * 977)) rfl (show c + ((h3 M) i) + (((h3 M) (8 + i)) * 977) < 18446744073709551616 by omega)) rfl fun ac hs => ?_)
          exact hs
        · intro L ac w hJ
          have hs := hJ
          refine wpO_plain rfl (op_assign hs (some 11) rfl rfl rfl rfl fun ac hs => ?_)
          exact hs
      intro ac w hJ
      replace hs : St 88 w0 [(18, true, .int .u64 ((c : Nat) : Int)), (19, true, .int .i64 ((i : Nat) : Int)), (20, true, .pointer (some ⟨g1, i, none⟩)), (21, true, .int .u64 (((h3 M) i : Nat) : Int)), (22, true, .int .u64 ((c + ((h3 M) i) : Nat) : Int)), (23, true, .int .i64 ((i : Nat) : Int)), (24, true, .int .i64 ((8 + i : Nat) : Int)), (25, true, .pointer (some ⟨g1, 8 + i, none⟩)), (26, true, .int .u64 (((h3 M) (8 + i) : Nat) : Int)), (27, true, .int .u64 ((((h3 M) (8 + i)) * 977 : Nat) : Int)), (28, true, .int .u64 ((c + ((h3 M) i) + (((h3 M) (8 + i)) * 977) : Nat) : Int)), (4, true, .int .u64 ((c + ((h3 M) i) + (((h3 M) (8 + i)) * 977) : Nat) : Int)), (1, true, .pointer (some ⟨g1, 0, none⟩)), (2, true, .pointer (some ⟨g2, 0, none⟩)), (3, true, .pointer (some ⟨g3, 0, none⟩)), (4, true, .int .u64 ((c : Nat) : Int)), (5, true, .int .i64 ((i : Nat) : Int))] [(true, g1, 73, (tab .u64 16 (h3 M))), (true, g2, 24, [.int .u64 0, .int .u64 0, .int .u64 0, .int .u64 0]), (true, g3, 84, (tab .u64 10 f))] ac w := hJ
      refine then_n ?_
      refine wp_seq ?_
      refine wp_seq ?_
      by_cases hq8 : 1 ≤ i
      · skip
        refine wp_region_lit ?_
        refine lstep (wpO_plain rfl (op_move hs none rfl rfl rfl rfl fun ac hs => ?_))
        refine lstep (wpO_plain rfl (op_bin hs none (v := .bool true) rfl rfl rfl rfl (fun _ => rfl) (fun w => dT hq8 (bin_geqN (x := i) (y := 1) w)) rfl fun ac hs => ?_))
        refine lstep (wpO_plain rfl (op_move hs none rfl rfl rfl rfl fun ac hs => ?_))
        refine lstep (wpO_in hs rfl rfl rfl (op_move hs none rfl rfl rfl rfl fun ac hs => ?_))
        refine lstep (wpO_in hs rfl rfl rfl (op_bin hs none (v := .bool (decide (i < 9))) rfl rfl rfl rfl (fun _ => rfl) (bin_lssN (x := i) (y := 9)) rfl fun ac hs => ?_))
        refine lstep (wpO_plain rfl (op_pickT hs none rfl rfl rfl rfl rfl fun ac hs => ?_))
        refine wpList_nil ?_
        refine then_n ?_
        refine wp_cond_split (hs.ev rfl) (fun hc => ?_) (fun hc => ?_)
        · skip
          have hp9 := of_decide_eq_true hc
          refine wp_region_lit ?_
          refine lstep (wpO_plain rfl (op_move hs none rfl rfl rfl rfl fun ac hs => ?_))
          refine lstep (wpO_plain rfl (op_move hs none rfl rfl rfl rfl fun ac hs => ?_))
          refine lstep (wpO_plain rfl (op_bin hs none (v := .int .i64 ((7 + i : Nat) : Int)) rfl rfl rfl rfl (fun _ => rfl) (bin_addN (x := 7) (y := i) (z := 7 + i) rfl (show 7 + i < 9223372036854775808 by omega)) rfl fun ac hs => ?_))
          refine lstep (wpO_plain rfl (op_idxA hs none (j := 7 + i) rfl rfl rfl rfl Try.underlying73 Try.sizeOf22 (show 7 + i < 16 by omega) (off := 7 + i) (by omega) rfl fun ac hs => ?_))
          have l10 := h3_lt M (7 + i)
          refine lstep (wpO_plain rfl (op_load hs none 0 (v := .int .u64 (((h3 M) (7 + i) : Nat) : Int)) rfl rfl rfl rfl Try.isAgg22 Try.sizeOf22 (tab_get (j := 7 + i) (show 7 + i < 16 by omega)) rfl fun ac hs => ?_))
          refine lstep (wpO_plain rfl (op_bin hs none (v := .int .u64 ((c + ((h3 M) i) + (((h3 M) (8 + i)) * 977) + ((h3 M) (7 + i)) : Nat) : Int)) rfl rfl rfl rfl (fun _ => rfl) (bin_addN (x := c + ((h3 M) i) + (((h3 M) (8 + i)) * 977)) (y := (h3 M) (7 + i)) (z := c + ((h3 M) i) + (((h3 M) (8 + i)) * 977) + ((h3 M) (7 + i))) rfl (show c + ((h3 M) i) + (((h3 M) (8 + i)) * 977) + ((h3 M) (7 + i)) < 18446744073709551616 by omega)) rfl fun ac hs => ?_))
          refine lstep (wpO_plain rfl (op_assign hs none rfl rfl rfl rfl fun ac hs => ?_))
          refine wpList_nil ?_
          refine then_n ?_
          refine wp_seq ?_
          refine wp_region_lit ?_
          refine lstep (wpO_plain rfl (op_move hs none rfl rfl rfl rfl fun ac hs => ?_))
          refine lstep (wpO_plain rfl (op_move hs none rfl rfl rfl rfl fun ac hs => ?_))
          refine lstep (wpO_plain rfl (op_bin hs none (v := .int .u64 (((c + ((h3 M) i) + (((h3 M) (8 + i)) * 977) + ((h3 M) (7 + i))) % 2 ^ 32 : Nat) : Int)) rfl rfl rfl rfl (fun _ => rfl) (bin_andN (x := c + ((h3 M) i) + (((h3 M) (8 + i)) * 977) + ((h3 M) (7 + i))) (y := 4294967295) (z := (c + ((h3 M) i) + (((h3 M) (8 + i)) * 977) + ((h3 M) (7 + i))) % 2 ^ 32) (Nat.and_two_pow_sub_one_eq_mod (c + ((h3 M) i) + (((h3 M) (8 + i)) * 977) + ((h3 M) (7 + i))) 32) (show c + ((h3 M) i) + (((h3 M) (8 + i)) * 977) + ((h3 M) (7 + i)) < 18446744073709551616 by omega) (by decide) (show (c + ((h3 M) i) + (((h3 M) (8 + i)) * 977) + ((h3 M) (7 + i))) % 2 ^ 32 < 18446744073709551616 by omega)) rfl fun ac hs => ?_))
          refine lstep (wpO_plain rfl (op_idxA hs none (j := i) rfl rfl rfl rfl Try.underlying84 Try.sizeOf22 (show i < 10 by omega) (off := i) (by omega) rfl fun ac hs => ?_))
          refine lstep (wpO_plain rfl (op_store hs 2 (vs := [.int .u64 (((c + ((h3 M) i) + (((h3 M) (8 + i)) * 977) + ((h3 M) (7 + i))) % 2 ^ 32 : Nat) : Int)]) rfl rfl rfl rfl rfl Try.sizeOf22 rfl rfl rfl (tab_le (j := i) (show i < 10 by omega)) (tab_set) fun w hs => ?_))
          refine wpList_nil ?_
          refine then_n ?_
          refine wp_region_lit ?_
          refine lstep (wpO_plain rfl (op_move hs none rfl rfl rfl rfl fun ac hs => ?_))
          refine lstep (wpO_plain rfl (op_bin hs none (v := .int .u64 (((c + ((h3 M) i) + (((h3 M) (8 + i)) * 977) + ((h3 M) (7 + i))) / 2 ^ 32 : Nat) : Int)) rfl rfl rfl rfl (fun _ => rfl) (bin_shrN (x := c + ((h3 M) i) + (((h3 M) (8 + i)) * 977) + ((h3 M) (7 + i))) (y := 32) (z := (c + ((h3 M) i) + (((h3 M) (8 + i)) * 977) + ((h3 M) (7 + i))) / 2 ^ 32) rfl (show c + ((h3 M) i) + (((h3 M) (8 + i)) * 977) + ((h3 M) (7 + i)) < 2 ^ 64 by omega)) rfl fun ac hs => ?_))
          refine lstep (wpO_plain rfl (op_assign hs none rfl rfl rfl rfl fun ac hs => ?_))
          refine wpList_nil ?_
          refine blk_n ?_
          refine then_n ?_
          refine wp_region_lit ?_
          refine lstep (wpO_plain rfl (op_move hs none rfl rfl rfl rfl fun ac hs => ?_))
          refine lstep (wpO_plain rfl (op_bin hs none (v := .int .i64 ((i + 1 : Nat) : Int)) rfl rfl rfl rfl (fun _ => rfl) (bin_addN (x := i) (y := 1) (z := i + 1) rfl (show i + 1 < 9223372036854775808 by omega)) rfl fun ac hs => ?_))
          refine lstep (wpO_plain rfl (op_assign hs none rfl rfl rfl rfl fun ac hs => ?_))
          refine wpList_nil ?_
          refine then_n ?_
          exact ⟨_, ⟨(i + 1), ((c + ((h3 M) i) + (((h3 M) (8 + i)) * 977) + ((h3 M) (7 + i))) / 2 ^ 32), (upn f i ((c + ((h3 M) i) + (((h3 M) (8 + i)) * 977) + ((h3 M) (7 + i))) % 2 ^ 32)), rfl, hlt, (fold_c hM hcv (by unfold tI; (repeat' split) <;> omega)), (fold_f hM hcv (by unfold tI; (repeat' split) <;> omega) hf), (hs.re ⟨rfl, rfl, rfl, rfl, rfl, trivial⟩)⟩, (by omega)⟩
        · skip
          have hp11 := of_decide_eq_false hc
          refine wp_skip ?_
          refine then_n ?_
          refine wp_seq ?_
          refine wp_region_lit ?_
          refine lstep (wpO_plain rfl (op_move hs none rfl rfl rfl rfl fun ac hs => ?_))
          refine lstep (wpO_plain rfl (op_move hs none rfl rfl rfl rfl fun ac hs => ?_))
          refine lstep (wpO_plain rfl (op_bin hs none (v := .int .u64 (((c + ((h3 M) i) + (((h3 M) (8 + i)) * 977)) % 2 ^ 32 : Nat) : Int)) rfl rfl rfl rfl (fun _ => rfl) (bin_andN (x := c + ((h3 M) i) + (((h3 M) (8 + i)) * 977)) (y := 4294967295) (z := (c + ((h3 M) i) + (((h3 M) (8 + i)) * 977)) % 2 ^ 32) (Nat.and_two_pow_sub_one_eq_mod (c + ((h3 M) i) + (((h3 M) (8 + i)) * 977)) 32) (show c + ((h3 M) i) + (((h3 M) (8 + i)) * 977) < 18446744073709551616 by omega) (by decide) (show (c + ((h3 M) i) + (((h3 M) (8 + i)) * 977)) % 2 ^ 32 < 18446744073709551616 by omega)) rfl fun ac hs => ?_))
          refine lstep (wpO_plain rfl (op_idxA hs none (j := i) rfl rfl rfl rfl Try.underlying84 Try.sizeOf22 (show i < 10 by omega) (off := i) (by omega) rfl fun ac hs => ?_))
          refine lstep (wpO_plain rfl (op_store hs 2 (vs := [.int .u64 (((c + ((h3 M) i) + (((h3 M) (8 + i)) * 977)) % 2 ^ 32 : Nat) : Int)]) rfl rfl rfl rfl rfl Try.sizeOf22 rfl rfl rfl (tab_le (j := i) (show i < 10 by omega)) (tab_set) fun w hs => ?_))
          refine wpList_nil ?_
          refine then_n ?_
          refine wp_region_lit ?_
          refine lstep (wpO_plain rfl (op_move hs none rfl rfl rfl rfl fun ac hs => ?_))
          refine lstep (wpO_plain rfl (op_bin hs none (v := .int .u64 (((c + ((h3 M) i) + (((h3 M) (8 + i)) * 977)) / 2 ^ 32 : Nat) : Int)) rfl rfl rfl rfl (fun _ => rfl) (bin_shrN (x := c + ((h3 M) i) + (((h3 M) (8 + i)) * 977)) (y := 32) (z := (c + ((h3 M) i) + (((h3 M) (8 + i)) * 977)) / 2 ^ 32) rfl (show c + ((h3 M) i) + (((h3 M) (8 + i)) * 977) < 2 ^ 64 by omega)) rfl fun ac hs => ?_))
          refine lstep (wpO_plain rfl (op_assign hs none rfl rfl rfl rfl fun ac hs => ?_))
          refine wpList_nil ?_
          refine blk_n ?_
          refine then_n ?_
          refine wp_region_lit ?_
          refine lstep (wpO_plain rfl (op_move hs none rfl rfl rfl rfl fun ac hs => ?_))
          refine lstep (wpO_plain rfl (op_bin hs none (v := .int .i64 ((i + 1 : Nat) : Int)) rfl rfl rfl rfl (fun _ => rfl) (bin_addN (x := i) (y := 1) (z := i + 1) rfl (show i + 1 < 9223372036854775808 by omega)) rfl fun ac hs => ?_))
          refine lstep (wpO_plain rfl (op_assign hs none rfl rfl rfl rfl fun ac hs => ?_))
          refine wpList_nil ?_
          refine then_n ?_
          exact ⟨_, ⟨(i + 1), ((c + ((h3 M) i) + (((h3 M) (8 + i)) * 977)) / 2 ^ 32), (upn f i ((c + ((h3 M) i) + (((h3 M) (8 + i)) * 977)) % 2 ^ 32)), rfl, hlt, (fold_c hM hcv (by unfold tI; (repeat' split) <;> omega)), (fold_f hM hcv (by unfold tI; (repeat' split) <;> omega) hf), (hs.re ⟨rfl, rfl, rfl, rfl, rfl, trivial⟩)⟩, (by omega)⟩
      · skip
        refine wp_region_lit ?_
        refine lstep (wpO_plain rfl (op_move hs none rfl rfl rfl rfl fun ac hs => ?_))
        refine lstep (wpO_plain rfl (op_bin hs none (v := .bool false) rfl rfl rfl rfl (fun _ => rfl) (fun w => dF hq8 (bin_geqN (x := i) (y := 1) w)) rfl fun ac hs => ?_))
        refine lstep (wpO_plain rfl (op_move hs none rfl rfl rfl rfl fun ac hs => ?_))
        refine lstep (wpO_out hs none rfl rfl (.inl rfl) rfl rfl fun ac hs => ?_)
        refine lstep (wpO_out hs none rfl rfl (.inl rfl) rfl rfl fun ac hs => ?_)
        refine lstep (wpO_plain rfl (op_pickF hs none rfl rfl rfl rfl rfl fun ac hs => ?_))
        refine wpList_nil ?_
        refine then_n ?_
        refine wp_cond_false (hs.ev rfl) ?_
        refine wp_skip ?_
        refine then_n ?_
        refine wp_seq ?_
        refine wp_region_lit ?_
        refine lstep (wpO_plain rfl (op_move hs none rfl rfl rfl rfl fun ac hs => ?_))
        refine lstep (wpO_plain rfl (op_move hs none rfl rfl rfl rfl fun ac hs => ?_))
        refine lstep (wpO_plain rfl (op_bin hs none (v := .int .u64 (((c + ((h3 M) i) + (((h3 M) (8 + i)) * 977)) % 2 ^ 32 : Nat) : Int)) rfl rfl rfl rfl (fun _ => rfl) (bin_andN (x := c + ((h3 M) i) + (((h3 M) (8 + i)) * 977)) (y := 4294967295) (z := (c + ((h3 M) i) + (((h3 M) (8 + i)) * 977)) % 2 ^ 32) (Nat.and_two_pow_sub_one_eq_mod (c + ((h3 M) i) + (((h3 M) (8 + i)) * 977)) 32) (show c + ((h3 M) i) + (((h3 M) (8 + i)) * 977) < 18446744073709551616 by omega) (by decide) (show (c + ((h3 M) i) + (((h3 M) (8 + i)) * 977)) % 2 ^ 32 < 18446744073709551616 by omega)) rfl fun ac hs => ?_))
        refine lstep (wpO_plain rfl (op_idxA hs none (j := i) rfl rfl rfl rfl Try.underlying84 Try.sizeOf22 (show i < 10 by omega) (off := i) (by omega) rfl fun ac hs => ?_))
        refine lstep (wpO_plain rfl (op_store hs 2 (vs := [.int .u64 (((c + ((h3 M) i) + (((h3 M) (8 + i)) * 977)) % 2 ^ 32 : Nat) : Int)]) rfl rfl rfl rfl rfl Try.sizeOf22 rfl rfl rfl (tab_le (j := i) (show i < 10 by omega)) (tab_set) fun w hs => ?_))
        refine wpList_nil ?_
        refine then_n ?_
        refine wp_region_lit ?_
        refine lstep (wpO_plain rfl (op_move hs none rfl rfl rfl rfl fun ac hs => ?_))
        refine lstep (wpO_plain rfl (op_bin hs none (v := .int .u64 (((c + ((h3 M) i) + (((h3 M) (8 + i)) * 977)) / 2 ^ 32 : Nat) : Int)) rfl rfl rfl rfl (fun _ => rfl) (bin_shrN (x := c + ((h3 M) i) + (((h3 M) (8 + i)) * 977)) (y := 32) (z := (c + ((h3 M) i) + (((h3 M) (8 + i)) * 977)) / 2 ^ 32) rfl (show c + ((h3 M) i) + (((h3 M) (8 + i)) * 977) < 2 ^ 64 by omega)) rfl fun ac hs => ?_))
        refine lstep (wpO_plain rfl (op_assign hs none rfl rfl rfl rfl fun ac hs => ?_))
        refine wpList_nil ?_
        refine blk_n ?_
        refine then_n ?_
        refine wp_region_lit ?_
        refine lstep (wpO_plain rfl (op_move hs none rfl rfl rfl rfl fun ac hs => ?_))
        refine lstep (wpO_plain rfl (op_bin hs none (v := .int .i64 ((i + 1 : Nat) : Int)) rfl rfl rfl rfl (fun _ => rfl) (bin_addN (x := i) (y := 1) (z := i + 1) rfl (show i + 1 < 9223372036854775808 by omega)) rfl fun ac hs => ?_))
        refine lstep (wpO_plain rfl (op_assign hs none rfl rfl rfl rfl fun ac hs => ?_))
        refine wpList_nil ?_
        refine then_n ?_
        exact ⟨_, ⟨(i + 1), ((c + ((h3 M) i) + (((h3 M) (8 + i)) * 977)) / 2 ^ 32), (upn f i ((c + ((h3 M) i) + (((h3 M) (8 + i)) * 977)) % 2 ^ 32)), rfl, hlt, (fold_c hM hcv (by unfold tI; (repeat' split) <;> omega)), (fold_f hM hcv (by unfold tI; (repeat' split) <;> omega) hf), (hs.re ⟨rfl, rfl, rfl, rfl, rfl, trivial⟩)⟩, (by omega)⟩
    · skip
      have hp12 := of_decide_eq_false hc
      refine wp_skip ?_
      refine then_n ?_
      refine wp_seq ?_
      refine wp_seq ?_
      by_cases hq13 : 1 ≤ i
      · skip
        refine wp_region_lit ?_
        refine lstep (wpO_plain rfl (op_move hs none rfl rfl rfl rfl fun ac hs => ?_))
        refine lstep (wpO_plain rfl (op_bin hs none (v := .bool true) rfl rfl rfl rfl (fun _ => rfl) (fun w => dT hq13 (bin_geqN (x := i) (y := 1) w)) rfl fun ac hs => ?_))
        refine lstep (wpO_plain rfl (op_move hs none rfl rfl rfl rfl fun ac hs => ?_))
        refine lstep (wpO_in hs rfl rfl rfl (op_move hs none rfl rfl rfl rfl fun ac hs => ?_))
        refine lstep (wpO_in hs rfl rfl rfl (op_bin hs none (v := .bool (decide (i < 9))) rfl rfl rfl rfl (fun _ => rfl) (bin_lssN (x := i) (y := 9)) rfl fun ac hs => ?_))
        refine lstep (wpO_plain rfl (op_pickT hs none rfl rfl rfl rfl rfl fun ac hs => ?_))
        refine wpList_nil ?_
        refine then_n ?_
        refine wp_cond_split (hs.ev rfl) (fun hc => ?_) (fun hc => ?_)
        · skip
          have hp14 := of_decide_eq_true hc
          refine wp_region_lit ?_
          refine lstep (wpO_plain rfl (op_move hs none rfl rfl rfl rfl fun ac hs => ?_))
          refine lstep (wpO_plain rfl (op_move hs none rfl rfl rfl rfl fun ac hs => ?_))
          refine lstep (wpO_plain rfl (op_bin hs none (v := .int .i64 ((7 + i : Nat) : Int)) rfl rfl rfl rfl (fun _ => rfl) (bin_addN (x := 7) (y := i) (z := 7 + i) rfl (show 7 + i < 9223372036854775808 by omega)) rfl fun ac hs => ?_))
          refine lstep (wpO_plain rfl (op_idxA hs none (j := 7 + i) rfl rfl rfl rfl Try.underlying73 Try.sizeOf22 (show 7 + i < 16 by omega) (off := 7 + i) (by omega) rfl fun ac hs => ?_))
          have l15 := h3_lt M (7 + i)
          refine lstep (wpO_plain rfl (op_load hs none 0 (v := .int .u64 (((h3 M) (7 + i) : Nat) : Int)) rfl rfl rfl rfl Try.isAgg22 Try.sizeOf22 (tab_get (j := 7 + i) (show 7 + i < 16 by omega)) rfl fun ac hs => ?_))
          refine lstep (wpO_plain rfl (op_bin hs none (v := .int .u64 ((c + ((h3 M) (7 + i)) : Nat) : Int)) rfl rfl rfl rfl (fun _ => rfl) (bin_addN (x := c) (y := (h3 M) (7 + i)) (z := c + ((h3 M) (7 + i))) rfl (show c + ((h3 M) (7 + i)) < 18446744073709551616 by omega)) rfl fun ac hs => ?_))
          refine lstep (wpO_plain rfl (op_assign hs none rfl rfl rfl rfl fun ac hs => ?_))
          refine wpList_nil ?_
          refine then_n ?_
          refine wp_seq ?_
          refine wp_region_lit ?_
          refine lstep (wpO_plain rfl (op_move hs none rfl rfl rfl rfl fun ac hs => ?_))
          refine lstep (wpO_plain rfl (op_move hs none rfl rfl rfl rfl fun ac hs => ?_))
          refine lstep (wpO_plain rfl (op_bin hs none (v := .int .u64 (((c + ((h3 M) (7 + i))) % 2 ^ 32 : Nat) : Int)) rfl rfl rfl rfl (fun _ => rfl) (bin_andN (x := c + ((h3 M) (7 + i))) (y := 4294967295) (z := (c + ((h3 M) (7 + i))) % 2 ^ 32) (Nat.and_two_pow_sub_one_eq_mod (c + ((h3 M) (7 + i))) 32) (show c + ((h3 M) (7 + i)) < 18446744073709551616 by omega) (by decide) (show (c + ((h3 M) (7 + i))) % 2 ^ 32 < 18446744073709551616 by omega)) rfl fun ac hs => ?_))
          refine lstep (wpO_plain rfl (op_idxA hs none (j := i) rfl rfl rfl rfl Try.underlying84 Try.sizeOf22 (show i < 10 by omega) (off := i) (by omega) rfl fun ac hs => ?_))
          refine lstep (wpO_plain rfl (op_store hs 2 (vs := [.int .u64 (((c + ((h3 M) (7 + i))) % 2 ^ 32 : Nat) : Int)]) rfl rfl rfl rfl rfl Try.sizeOf22 rfl rfl rfl (tab_le (j := i) (show i < 10 by omega)) (tab_set) fun w hs => ?_))
          refine wpList_nil ?_
          refine then_n ?_
          refine wp_region_lit ?_
          refine lstep (wpO_plain rfl (op_move hs none rfl rfl rfl rfl fun ac hs => ?_))
          refine lstep (wpO_plain rfl (op_bin hs none (v := .int .u64 (((c + ((h3 M) (7 + i))) / 2 ^ 32 : Nat) : Int)) rfl rfl rfl rfl (fun _ => rfl) (bin_shrN (x := c + ((h3 M) (7 + i))) (y := 32) (z := (c + ((h3 M) (7 + i))) / 2 ^ 32) rfl (show c + ((h3 M) (7 + i)) < 2 ^ 64 by omega)) rfl fun ac hs => ?_))
          refine lstep (wpO_plain rfl (op_assign hs none rfl rfl rfl rfl fun ac hs => ?_))
          refine wpList_nil ?_
          refine blk_n ?_
          refine then_n ?_
          refine wp_region_lit ?_
          refine lstep (wpO_plain rfl (op_move hs none rfl rfl rfl rfl fun ac hs => ?_))
          refine lstep (wpO_plain rfl (op_bin hs none (v := .int .i64 ((i + 1 : Nat) : Int)) rfl rfl rfl rfl (fun _ => rfl) (bin_addN (x := i) (y := 1) (z := i + 1) rfl (show i + 1 < 9223372036854775808 by omega)) rfl fun ac hs => ?_))
          refine lstep (wpO_plain rfl (op_assign hs none rfl rfl rfl rfl fun ac hs => ?_))
          refine wpList_nil ?_
          refine then_n ?_
          exact ⟨_, ⟨(i + 1), ((c + ((h3 M) (7 + i))) / 2 ^ 32), (upn f i ((c + ((h3 M) (7 + i))) % 2 ^ 32)), rfl, hlt, (fold_c hM hcv (by unfold tI; (repeat' split) <;> omega)), (fold_f hM hcv (by unfold tI; (repeat' split) <;> omega) hf), (hs.re ⟨rfl, rfl, rfl, rfl, rfl, trivial⟩)⟩, (by omega)⟩
        · skip
          have hp16 := of_decide_eq_false hc
          refine wp_skip ?_
          refine then_n ?_
          refine wp_seq ?_
          refine wp_region_lit ?_
          refine lstep (wpO_plain rfl (op_move hs none rfl rfl rfl rfl fun ac hs => ?_))
          refine lstep (wpO_plain rfl (op_move hs none rfl rfl rfl rfl fun ac hs => ?_))
          refine lstep (wpO_plain rfl (op_bin hs none (v := .int .u64 ((c % 2 ^ 32 : Nat) : Int)) rfl rfl rfl rfl (fun _ => rfl) (bin_andN (x := c) (y := 4294967295) (z := c % 2 ^ 32) (Nat.and_two_pow_sub_one_eq_mod c 32) (show c < 18446744073709551616 by omega) (by decide) (show c % 2 ^ 32 < 18446744073709551616 by omega)) rfl fun ac hs => ?_))
          refine lstep (wpO_plain rfl (op_idxA hs none (j := i) rfl rfl rfl rfl Try.underlying84 Try.sizeOf22 (show i < 10 by omega) (off := i) (by omega) rfl fun ac hs => ?_))
          refine lstep (wpO_plain rfl (op_store hs 2 (vs := [.int .u64 ((c % 2 ^ 32 : Nat) : Int)]) rfl rfl rfl rfl rfl Try.sizeOf22 rfl rfl rfl (tab_le (j := i) (show i < 10 by omega)) (tab_set) fun w hs => ?_))
          refine wpList_nil ?_
          refine then_n ?_
          refine wp_region_lit ?_
          refine lstep (wpO_plain rfl (op_move hs none rfl rfl rfl rfl fun ac hs => ?_))
          refine lstep (wpO_plain rfl (op_bin hs none (v := .int .u64 ((c / 2 ^ 32 : Nat) : Int)) rfl rfl rfl rfl (fun _ => rfl) (bin_shrN (x := c) (y := 32) (z := c / 2 ^ 32) rfl (show c < 2 ^ 64 by omega)) rfl fun ac hs => ?_))
          refine lstep (wpO_plain rfl (op_assign hs none rfl rfl rfl rfl fun ac hs => ?_))
          refine wpList_nil ?_
          refine blk_n ?_
          refine then_n ?_
          refine wp_region_lit ?_
          refine lstep (wpO_plain rfl (op_move hs none rfl rfl rfl rfl fun ac hs => ?_))
          refine lstep (wpO_plain rfl (op_bin hs none (v := .int .i64 ((i + 1 : Nat) : Int)) rfl rfl rfl rfl (fun _ => rfl) (bin_addN (x := i) (y := 1) (z := i + 1) rfl (show i + 1 < 9223372036854775808 by omega)) rfl fun ac hs => ?_))
          refine lstep (wpO_plain rfl (op_assign hs none rfl rfl rfl rfl fun ac hs => ?_))
          refine wpList_nil ?_
          refine then_n ?_
          exact ⟨_, ⟨(i + 1), (c / 2 ^ 32), (upn f i (c % 2 ^ 32)), rfl, hlt, (fold_c hM hcv (by unfold tI; (repeat' split) <;> omega)), (fold_f hM hcv (by unfold tI; (repeat' split) <;> omega) hf), (hs.re ⟨rfl, rfl, rfl, rfl, rfl, trivial⟩)⟩, (by omega)⟩
      · skip
        refine wp_region_lit ?_
        refine lstep (wpO_plain rfl (op_move hs none rfl rfl rfl rfl fun ac hs => ?_))
        refine lstep (wpO_plain rfl (op_bin hs none (v := .bool false) rfl rfl rfl rfl (fun _ => rfl) (fun w => dF hq13 (bin_geqN (x := i) (y := 1) w)) rfl fun ac hs => ?_))
        refine lstep (wpO_plain rfl (op_move hs none rfl rfl rfl rfl fun ac hs => ?_))
        refine lstep (wpO_out hs none rfl rfl (.inl rfl) rfl rfl fun ac hs => ?_)
        refine lstep (wpO_out hs none rfl rfl (.inl rfl) rfl rfl fun ac hs => ?_)
        refine lstep (wpO_plain rfl (op_pickF hs none rfl rfl rfl rfl rfl fun ac hs => ?_))
        refine wpList_nil ?_
        refine then_n ?_
        refine wp_cond_false (hs.ev rfl) ?_
        refine wp_skip ?_
        refine then_n ?_
        refine wp_seq ?_
        refine wp_region_lit ?_
        refine lstep (wpO_plain rfl (op_move hs none rfl rfl rfl rfl fun ac hs => ?_))
        refine lstep (wpO_plain rfl (op_move hs none rfl rfl rfl rfl fun ac hs => ?_))
        refine lstep (wpO_plain rfl (op_bin hs none (v := .int .u64 ((c % 2 ^ 32 : Nat) : Int)) rfl rfl rfl rfl (fun _ => rfl) (bin_andN (x := c) (y := 4294967295) (z := c % 2 ^ 32) (Nat.and_two_pow_sub_one_eq_mod c 32) (show c < 18446744073709551616 by omega) (by decide) (show c % 2 ^ 32 < 18446744073709551616 by omega)) rfl fun ac hs => ?_))
        refine lstep (wpO_plain rfl (op_idxA hs none (j := i) rfl rfl rfl rfl Try.underlying84 Try.sizeOf22 (show i < 10 by omega) (off := i) (by omega) rfl fun ac hs => ?_))
        refine lstep (wpO_plain rfl (op_store hs 2 (vs := [.int .u64 ((c % 2 ^ 32 : Nat) : Int)]) rfl rfl rfl rfl rfl Try.sizeOf22 rfl rfl rfl (tab_le (j := i) (show i < 10 by omega)) (tab_set) fun w hs => ?_))
        refine wpList_nil ?_
        refine then_n ?_
        refine wp_region_lit ?_
        refine lstep (wpO_plain rfl (op_move hs none rfl rfl rfl rfl fun ac hs => ?_))
        refine lstep (wpO_plain rfl (op_bin hs none (v := .int .u64 ((c / 2 ^ 32 : Nat) : Int)) rfl rfl rfl rfl (fun _ => rfl) (bin_shrN (x := c) (y := 32) (z := c / 2 ^ 32) rfl (show c < 2 ^ 64 by omega)) rfl fun ac hs => ?_))
        refine lstep (wpO_plain rfl (op_assign hs none rfl rfl rfl rfl fun ac hs => ?_))
        refine wpList_nil ?_
        refine blk_n ?_
        refine then_n ?_
        refine wp_region_lit ?_
        refine lstep (wpO_plain rfl (op_move hs none rfl rfl rfl rfl fun ac hs => ?_))
        refine lstep (wpO_plain rfl (op_bin hs none (v := .int .i64 ((i + 1 : Nat) : Int)) rfl rfl rfl rfl (fun _ => rfl) (bin_addN (x := i) (y := 1) (z := i + 1) rfl (show i + 1 < 9223372036854775808 by omega)) rfl fun ac hs => ?_))
        refine lstep (wpO_plain rfl (op_assign hs none rfl rfl rfl rfl fun ac hs => ?_))
        refine wpList_nil ?_
        refine then_n ?_
        exact ⟨_, ⟨(i + 1), (c / 2 ^ 32), (upn f i (c % 2 ^ 32)), rfl, hlt, (fold_c hM hcv (by unfold tI; (repeat' split) <;> omega)), (fold_f hM hcv (by unfold tI; (repeat' split) <;> omega) hf), (hs.re ⟨rfl, rfl, rfl, rfl, rfl, trivial⟩)⟩, (by omega)⟩
  · skip
    have hp17 := of_decide_eq_false hc
    obtain rfl : i = 10 := by omega
    obtain ⟨E, hE⟩ : ∃ E, fT M 10 = E := ⟨_, rfl⟩
    obtain ⟨hE1, hE2⟩ := fT_ten hM hE
    obtain ⟨e0, he0, le0⟩ : ∃ e0, E % 2 ^ 256 = e0 ∧ e0 < 2 ^ 256 := ⟨_, rfl, Nat.mod_lt _ (Nat.two_pow_pos 256)⟩
    replace hs := hs.setb 2 (cs' := tab .u64 10 (h3 E)) rfl (tab_congr fun j hj => by rw [hf j hj, hE])
    refine wp_exit ?_
    refine then_e ?_
    refine then_e ?_
    refine blk_e ?_
    refine then_n ?_
    refine wp_seq ?_
    refine wp_region_lit ?_
    refine lstep (wpO_plain rfl (op_idxA hs none (j := 8) rfl rfl rfl rfl Try.underlying84 Try.sizeOf22 (by decide) (off := 8) rfl rfl fun ac hs => ?_))
    have l18 := h3_lt E 8
    refine lstep (wpO_plain rfl (op_load hs none 2 (v := .int .u64 (((h3 E) 8 : Nat) : Int)) rfl rfl rfl rfl Try.isAgg22 Try.sizeOf22 (tab_get (j := 8) (by decide)) rfl fun ac hs => ?_))
    refine lstep (wpO_plain rfl (op_idxA hs none (j := 9) rfl rfl rfl rfl Try.underlying84 Try.sizeOf22 (by decide) (off := 9) rfl rfl fun ac hs => ?_))
    have l19 := h3_lt E 9
    refine lstep (wpO_plain rfl (op_load hs none 2 (v := .int .u64 (((h3 E) 9 : Nat) : Int)) rfl rfl rfl rfl Try.isAgg22 Try.sizeOf22 (tab_get (j := 9) (by decide)) rfl fun ac hs => ?_))
    refine lstep (wpO_plain rfl (op_bin hs none (v := .int .u64 ((((h3 E) 9) * 2 ^ 32 % 18446744073709551616 : Nat) : Int)) rfl rfl rfl rfl (fun _ => rfl) (bin_shlM (x := (h3 E) 9) (y := 32) (z := ((h3 E) 9) * 2 ^ 32 % 18446744073709551616) rfl rfl) rfl fun ac hs => ?_))
    refine lstep (wpO_plain rfl (op_bin hs none (v := .int .u64 (((h3 E) 8 + (((h3 E) 9) * 2 ^ 32 % 18446744073709551616) : Nat) : Int)) rfl rfl rfl rfl (fun _ => rfl) (bin_addN (x := (h3 E) 8) (y := ((h3 E) 9) * 2 ^ 32 % 18446744073709551616) (z := (h3 E) 8 + (((h3 E) 9) * 2 ^ 32 % 18446744073709551616)) rfl (show (h3 E) 8 + (((h3 E) 9) * 2 ^ 32 % 18446744073709551616) < 18446744073709551616 by omega)) rfl fun ac hs => ?_))
    refine lstep (wpO_plain rfl (op_assign hs none rfl rfl rfl rfl fun ac hs => ?_))
    refine wpList_nil ?_
    replace hs := hs.re (fs' := [(2, true, .pointer (some ⟨g2, 0, none⟩)), (3, true, .pointer (some ⟨g3, 0, none⟩)), (47, true, .pointer (some ⟨g3, 8, none⟩)), (48, true, .int .u64 (((h3 E) 8 : Nat) : Int)), (49, true, .pointer (some ⟨g3, 9, none⟩)), (50, true, .int .u64 (((h3 E) 9 : Nat) : Int)), (51, true, .int .u64 ((((h3 E) 9) * 2 ^ 32 % 18446744073709551616 : Nat) : Int)), (52, true, .int .u64 (((h3 E) 8 + (((h3 E) 9) * 2 ^ 32 % 18446744073709551616) : Nat) : Int)), (6, true, .int .u64 (((E / 2 ^ 256) : Nat) : Int))]) ⟨rfl, rfl, rfl, rfl, rfl, rfl, rfl, rfl, congrArg some (by rw [top_val hE2]), trivial⟩
    refine then_n ?_
    refine wp_seq ?_
    refine wp_region_lit ?_
    refine lstep (wpO_plain rfl (op_build hs none (qs := []) (v := .agg #[.int .u64 0, .int .u64 0, .int .u64 0, .int .u64 0]) rfl rfl rfl rfl (fun _ => by kernel_rfl) rfl fun ac hs => ?_))
    refine lstep (wpO_plain rfl (op_alloc hs none none (cs := [.int .u64 0, .int .u64 0, .int .u64 0, .int .u64 0]) rfl rfl Try.zeroValue24 (by kernel_rfl) rfl rfl fun g20 ac w hs => ?_))
    refine lstep (wpO_plain rfl (op_store hs 3 (vs := [.int .u64 0, .int .u64 0, .int .u64 0, .int .u64 0]) rfl rfl rfl rfl rfl Try.sizeOf24 rfl rfl rfl rfl rfl fun w hs => ?_))
    refine wpList_nil ?_
    refine then_n ?_
    refine wp_seq ?_
    refine wp_seq ?_
    refine wp_region_lit ?_
    refine lstep (wpO_plain rfl (op_assign hs none rfl rfl rfl rfl fun ac hs => ?_))
    refine wpList_nil ?_
    refine then_n ?_
    refine wp_block ?_
    refine wp_loop_m (fun μ ac w => ∃ (i : Nat) (f : Nat → Nat), (4 - i) = μ ∧ (i ≤ 4) ∧ (∀ j, j < i → f j = limN E j) ∧ St 88 w0 [(2, true, .pointer (some ⟨g2, 0, none⟩)), (3, true, .pointer (some ⟨g3, 0, none⟩)), (6, true, .int .u64 (((E / 2 ^ 256) : Nat) : Int)), (7, true, .pointer (some ⟨g20, 0, none⟩)), (8, true, .int .i64 ((i : Nat) : Int))] [(true, g1, 73, (tab .u64 16 (h3 M))), (true, g2, 24, [.int .u64 0, .int .u64 0, .int .u64 0, .int .u64 0]), (true, g3, 84, (tab .u64 10 (h3 E))), (true, g20, 24, (tab .u64 4 f))] ac w) ?_ ?_
    · exact ⟨_, 0, (fun _ => 0), rfl, (by omega), (fun j hj => by omega), (hs.re ⟨rfl, rfl, rfl, rfl, rfl, trivial⟩)⟩
    intro μ ac w ⟨i, f, hμ, hi2, hf2, hs⟩
    refine wp_seq ?_
    refine wp_seq ?_
    refine wp_region_lit ?_
    refine lstep (wpO_plain rfl (op_move hs none rfl rfl rfl rfl fun ac hs => ?_))
    refine lstep (wpO_plain rfl (op_bin hs none (v := .bool (decide (i < 4))) rfl rfl rfl rfl (fun _ => rfl) (bin_lssN (x := i) (y := 4)) rfl fun ac hs => ?_))
    refine wpList_nil ?_
    refine then_n ?_
    refine wp_cond_split (hs.ev rfl) (fun hc => ?_) (fun hc => ?_)
    · skip
      have hp21 := of_decide_eq_true hc
      have hlt2 : i < 4 := of_decide_eq_true hc
      refine wp_skip ?_
      refine then_n ?_
      refine wp_seq ?_
      refine wp_block ?_
      replace hs : St 88 w0 [(2, true, .pointer (some ⟨g2, 0, none⟩)), (3, true, .pointer (some ⟨g3, 0, none⟩)), (6, true, .int .u64 (((E / 2 ^ 256) : Nat) : Int)), (7, true, .pointer (some ⟨g20, 0, none⟩)), (8, true, .int .i64 ((i : Nat) : Int))] [(true, g1, 73, (tab .u64 16 (h3 M))), (true, g2, 24, [.int .u64 0, .int .u64 0, .int .u64 0, .int .u64 0]), (true, g3, 84, (tab .u64 10 (h3 E))), (true, g20, 24, (tab .u64 4 f))] ac _ := hs.re ⟨rfl, rfl, rfl, rfl, rfl, trivial⟩
      have l22 := h3_lt E (2 * i)
      have l23 := h3_lt E (2 * i + 1)
      refine region_inv [([], [12, 13]), ([], [2, 3, 4, 11, 12, 13]), ([1], [3, 4, 11, 12, 13]), ([1, 2], [4, 11, 12, 13]), ([1, 2, 3], [11, 12, 13]), ([], [6, 7, 8, 9, 10, 11, 12, 13]), ([5], [7, 8, 9, 10, 11, 12, 13]), ([5, 6], [8, 9, 10, 11, 12, 13]), ([5, 6, 7], [9, 10, 11, 12, 13]), ([5, 6, 7, 8], [10, 11, 12, 13]), ([5, 6, 7, 8, 9], [11, 12, 13]), ([1, 2, 3, 4, 5, 6, 7, 8, 9, 10], [12, 13]), ([0, 1, 2, 3, 4, 5, 6, 7, 8, 9, 10, 11], [13]), ([0, 1, 2, 3, 4, 5, 6, 7, 8, 9, 10, 11, 12], [])] (fun L ac w => St 88 w0 [(58, L 0, .int .i64 ((i : Nat) : Int)), (59, L 1, .int .i64 ((i : Nat) : Int)), (60, L 2, .int .i64 ((2 * i : Nat) : Int)), (61, L 3, .pointer (some ⟨g3, 2 * i, none⟩)), (62, L 4, .int .u64 (((h3 E) (2 * i) : Nat) : Int)), (63, L 5, .int .i64 ((i : Nat) : Int)), (64, L 6, .int .i64 ((2 * i : Nat) : Int)), (65, L 7, .int .i64 ((2 * i + 1 : Nat) : Int)), (66, L 8, .pointer (some ⟨g3, 2 * i + 1, none⟩)), (67, L 9, .int .u64 (((h3 E) (2 * i + 1) : Nat) : Int)), (68, L 10, .int .u64 ((((h3 E) (2 * i + 1)) * 2 ^ 32 % 18446744073709551616 : Nat) : Int)), (69, L 11, .int .u64 (((h3 E) (2 * i) + (((h3 E) (2 * i + 1)) * 2 ^ 32 % 18446744073709551616) : Nat) : Int)), (70, L 12, .pointer (some ⟨g20, i, none⟩)), (2, true, .pointer (some ⟨g2, 0, none⟩)), (3, true, .pointer (some ⟨g3, 0, none⟩)), (6, true, .int .u64 (((E / 2 ^ 256) : Nat) : Int)), (7, true, .pointer (some ⟨g20, 0, none⟩)), (8, true, .int .i64 ((i : Nat) : Int))] [(true, g1, 73, (tab .u64 16 (h3 M))), (true, g2, 24, [.int .u64 0, .int .u64 0, .int .u64 0, .int .u64 0]), (true, g3, 84, (tab .u64 10 (h3 E))), (true, g20, 24, (cond (L 13) (tab .u64 4 (upn f i ((h3 E) (2 * i) + (((h3 E) (2 * i + 1)) * 2 ^ 32 % 18446744073709551616)))) (tab .u64 4 f)))] ac w) (by kernel_rfl) (by kernel_rfl) ?_ ?_ ?_
      · exact hs.drew.skip.skip.skip.skip.skip.skip.skip.skip.skip.skip.skip.skip.skip
      · refine ⟨?_, ?_, ?_, ?_, ?_, ?_, ?_, ?_, ?_, ?_, ?_, ?_, ?_, ?_, trivial⟩
        · intro L ac w hJ
          have hs := hJ
          refine wpO_plain rfl (op_move hs (some 0) rfl rfl rfl rfl fun ac hs => ?_)
          exact hs
        · intro L ac w hJ
          have hs := hJ
          refine wpO_plain rfl (op_move hs (some 1) rfl rfl rfl rfl fun ac hs => ?_)
          exact hs
        · intro L ac w hJ
          have hs := hJ
          refine wpO_plain rfl (op_bin hs (some 2) (v := .int .i64 ((2 * i : Nat) : Int)) rfl rfl rfl rfl (fun _ => rfl) (bin_mulN (x := 2) (y := i) (z := 2 * i) rfl (show 2 * i < 9223372036854775808 by omega)) rfl fun ac hs => ?_)
          exact hs
        · intro L ac w hJ
          have hs := hJ
          refine wpO_plain rfl (op_idxA hs (some 3) (j := 2 * i) rfl rfl rfl rfl Try.underlying84 Try.sizeOf22 (show 2 * i < 10 by omega) (off := 2 * i) (by omega) rfl fun ac hs => ?_)
          exact hs
        · intro L ac w hJ
          have hs := hJ
          refine wpO_plain rfl (op_load hs (some 4) 2 (v := .int .u64 (((h3 E) (2 * i) : Nat) : Int)) rfl rfl rfl rfl Try.isAgg22 Try.sizeOf22 (tab_get (j := 2 * i) (show 2 * i < 10 by omega)) rfl fun ac hs => ?_)
          exact hs
        · intro L ac w hJ
          have hs := hJ
          refine wpO_plain rfl (op_move hs (some 5) rfl rfl rfl rfl fun ac hs => ?_)
          exact hs
        · intro L ac w hJ
          have hs := hJ
          refine wpO_plain rfl (op_bin hs (some 6) (v := .int .i64 ((2 * i : Nat) : Int)) rfl rfl rfl rfl (fun _ => rfl) (bin_mulN (x := 2) (y := i) (z := 2 * i) rfl (show 2 * i < 9223372036854775808 by omega)) rfl fun ac hs => ?_)
          exact hs
        · intro L ac w hJ
          have hs := hJ
          refine wpO_plain rfl (op_bin hs (some 7) (v := .int .i64 ((2 * i + 1 : Nat) : Int)) rfl rfl rfl rfl (fun _ => rfl) (bin_addN (x := 2 * i) (y := 1) (z := 2 * i + 1) rfl (show 2 * i + 1 < 9223372036854775808 by omega)) rfl fun ac hs => ?_)
          exact hs
        · intro L ac w hJ
          have hs := hJ
          refine wpO_plain rfl (op_idxA hs (some 8) (j := 2 * i + 1) rfl rfl rfl rfl Try.underlying84 Try.sizeOf22 (show 2 * i + 1 < 10 by omega) (off := 2 * i + 1) (by omega) rfl fun ac hs => ?_)
          exact hs
        · intro L ac w hJ
          have hs := hJ
          refine wpO_plain rfl (op_load hs (some 9) 2 (v := .int .u64 (((h3 E) (2 * i + 1) : Nat) : Int)) rfl rfl rfl rfl Try.isAgg22 Try.sizeOf22 (tab_get (j := 2 * i + 1) (show 2 * i + 1 < 10 by omega)) rfl fun ac hs => ?_)
          exact hs
        · intro L ac w hJ
          have hs := hJ
          refine wpO_plain rfl (op_bin hs (some 10) (v := .int .u64 ((((h3 E) (2 * i + 1)) * 2 ^ 32 % 18446744073709551616 : Nat) : Int)) rfl rfl rfl rfl (fun _ => rfl) (bin_shlM (x := (h3 E) (2 * i + 1)) (y := 32) (z := ((h3 E) (2 * i + 1)) * 2 ^ 32 % 18446744073709551616) rfl rfl) rfl fun ac hs => ?_)
          exact hs
        · intro L ac w hJ
          have hs := hJ
          refine wpO_plain rfl (op_bin hs (some 11) (v := .int .u64 (((h3 E) (2 * i) + (((h3 E) (2 * i + 1)) * 2 ^ 32 % 18446744073709551616) : Nat) : Int)) rfl rfl rfl rfl (fun _ => rfl) (bin_addN (x := (h3 E) (2 * i)) (y := ((h3 E) (2 * i + 1)) * 2 ^ 32 % 18446744073709551616) (z := (h3 E) (2 * i) + (((h3 E) (2 * i + 1)) * 2 ^ 32 % 18446744073709551616)) rfl (show (h3 E) (2 * i) + (((h3 E) (2 * i + 1)) * 2 ^ 32 % 18446744073709551616) < 18446744073709551616 by omega)) rfl fun ac hs => ?_)
          exact hs
        · intro L ac w hJ
          have hs := hJ
          refine wpO_plain rfl (op_idxA hs (some 12) (j := i) rfl rfl rfl rfl Try.underlying24 Try.sizeOf22 (show i < 4 by omega) (off := i) (by omega) rfl fun ac hs => ?_)
          exact hs
        · intro L ac w hJ
          have hs := hJ
          refine wpO_plain rfl (op_store hs 3 (vs := [.int .u64 (((h3 E) (2 * i) + (((h3 E) (2 * i + 1)) * 2 ^ 32 % 18446744073709551616) : Nat) : Int)]) rfl rfl rfl rfl rfl Try.sizeOf22 rfl rfl rfl (tab_le (j := i) (show i < 4 by omega)) (tab_set) fun w hs => ?_)
          exact hs
      intro ac w hJ
      replace hs : St 88 w0 [(58, true, .int .i64 ((i : Nat) : Int)), (59, true, .int .i64 ((i : Nat) : Int)), (60, true, .int .i64 ((2 * i : Nat) : Int)), (61, true, .pointer (some ⟨g3, 2 * i, none⟩)), (62, true, .int .u64 (((h3 E) (2 * i) : Nat) : Int)), (63, true, .int .i64 ((i : Nat) : Int)), (64, true, .int .i64 ((2 * i : Nat) : Int)), (65, true, .int .i64 ((2 * i + 1 : Nat) : Int)), (66, true, .pointer (some ⟨g3, 2 * i + 1, none⟩)), (67, true, .int .u64 (((h3 E) (2 * i + 1) : Nat) : Int)), (68, true, .int .u64 ((((h3 E) (2 * i + 1)) * 2 ^ 32 % 18446744073709551616 : Nat) : Int)), (69, true, .int .u64 (((h3 E) (2 * i) + (((h3 E) (2 * i + 1)) * 2 ^ 32 % 18446744073709551616) : Nat) : Int)), (70, true, .pointer (some ⟨g20, i, none⟩)), (2, true, .pointer (some ⟨g2, 0, none⟩)), (3, true, .pointer (some ⟨g3, 0, none⟩)), (6, true, .int .u64 (((E / 2 ^ 256) : Nat) : Int)), (7, true, .pointer (some ⟨g20, 0, none⟩)), (8, true, .int .i64 ((i : Nat) : Int))] [(true, g1, 73, (tab .u64 16 (h3 M))), (true, g2, 24, [.int .u64 0, .int .u64 0, .int .u64 0, .int .u64 0]), (true, g3, 84, (tab .u64 10 (h3 E))), (true, g20, 24, (tab .u64 4 (upn f i ((h3 E) (2 * i) + (((h3 E) (2 * i + 1)) * 2 ^ 32 % 18446744073709551616)))))] ac w := hJ
      refine blk_n ?_
      refine then_n ?_
      refine wp_region_lit ?_
      refine lstep (wpO_plain rfl (op_move hs none rfl rfl rfl rfl fun ac hs => ?_))
      refine lstep (wpO_plain rfl (op_bin hs none (v := .int .i64 ((i + 1 : Nat) : Int)) rfl rfl rfl rfl (fun _ => rfl) (bin_addN (x := i) (y := 1) (z := i + 1) rfl (show i + 1 < 9223372036854775808 by omega)) rfl fun ac hs => ?_))
      refine lstep (wpO_plain rfl (op_assign hs none rfl rfl rfl rfl fun ac hs => ?_))
      refine wpList_nil ?_
      refine then_n ?_
      exact ⟨_, ⟨(i + 1), (upn f i ((h3 E) (2 * i) + (((h3 E) (2 * i + 1)) * 2 ^ 32 % 18446744073709551616))), rfl, hlt2, (lim_f hf2), (hs.re ⟨rfl, rfl, rfl, rfl, rfl, trivial⟩)⟩, (by omega)⟩
    · skip
      have hp24 := of_decide_eq_false hc
      obtain rfl : i = 4 := by omega
      replace hs := hs.setb 3 (cs' := Wl e0) rfl (by rw [tab_Wl hf2]; exact (Wl_mod he0).symm)
      refine wp_exit ?_
      refine then_e ?_
      refine then_e ?_
      refine blk_e ?_
      refine then_n ?_
      refine wp_seq ?_
      replace hs : St 88 w0 [(2, true, .pointer (some ⟨g2, 0, none⟩)), (6, true, .int .u64 (((E / 2 ^ 256) : Nat) : Int)), (7, true, .pointer (some ⟨g20, 0, none⟩))] [(true, g1, 73, (tab .u64 16 (h3 M))), (true, g2, 24, [.int .u64 0, .int .u64 0, .int .u64 0, .int .u64 0]), (true, g3, 84, (tab .u64 10 (h3 E))), (true, g20, 24, (Wl e0))] ac _ := hs.re ⟨rfl, rfl, rfl, trivial⟩
      obtain ⟨x25, hx25, lx25⟩ : ∃ z0, (E / 2 ^ 256) * Pov = z0 ∧ z0 < 2 ^ 256 := ⟨_, rfl, tw12_lt (show (E / 2 ^ 256) < 1099511627776 by omega)⟩
      obtain ⟨s26, hs26, ls26⟩ : ∃ z0, (e0 + x25) % 2 ^ 256 = z0 ∧ z0 < 2 ^ 256 := ⟨_, rfl, Nat.mod_lt _ (Nat.two_pow_pos 256)⟩
      obtain ⟨c27, hc27⟩ : ∃ z0, (e0 + x25) / 2 ^ 256 = z0 := ⟨_, rfl⟩
      refine region_inv [([], [3, 4, 5, 6, 8, 9]), ([], [2, 3, 4, 5, 6, 8, 9]), ([1], [3, 4, 5, 6, 8, 9]), ([0, 1, 2], [4, 5, 6, 8, 9]), ([0, 1, 2, 3], [5, 6, 8, 9]), ([0, 1, 2, 3, 4], [8, 9]), ([0, 1, 2, 3, 4], [9]), ([], [8, 9]), ([0, 1, 2, 3, 4, 5, 7], [9]), ([0, 1, 2, 3, 4, 5, 6, 7, 8], [])] (fun L ac w => ∃ (g28 : Nat), St 88 w0 [(72, L 0, W e0), (73, L 1, .int .u64 (((E / 2 ^ 256) : Nat) : Int)), (74, L 2, W x25), (75, L 3, .tuple #[W s26, .int .u64 ((c27 : Nat) : Int)]), (71, L 4, .tuple #[W s26, .int .u64 ((c27 : Nat) : Int)]), (76, L 5, W s26), (77, L 6, .int .u64 ((c27 : Nat) : Int)), (9, L 7, .pointer (some ⟨g28, 0, none⟩)), (10, L 9, .int .u64 ((c27 : Nat) : Int)), (2, true, .pointer (some ⟨g2, 0, none⟩)), (6, true, .int .u64 (((E / 2 ^ 256) : Nat) : Int)), (7, true, .pointer (some ⟨g20, 0, none⟩))] [(true, g1, 73, (tab .u64 16 (h3 M))), (true, g2, 24, [.int .u64 0, .int .u64 0, .int .u64 0, .int .u64 0]), (true, g3, 84, (tab .u64 10 (h3 E))), (true, g20, 24, (Wl e0)), (L 7, g28, 24, (cond (L 8) (Wl s26) [.int .u64 0, .int .u64 0, .int .u64 0, .int .u64 0]))] ac w) (by kernel_rfl) (by kernel_rfl) ?_ ?_ ?_
      · exact ⟨0, hs.drew.skip.skip.skip.skip.skip.skip.skip.skip.skip.pad⟩
      · refine ⟨?_, ?_, ?_, ?_, ?_, ?_, ?_, ?_, ?_, ?_, trivial⟩
        · intro L ac w hJ
          obtain ⟨g28, hs⟩ := hJ
          refine wpO_plain rfl (op_load hs (some 0) 3 (v := W e0) rfl rfl rfl rfl Try.isAgg24 Try.sizeOf24 rfl rfl fun ac hs => ?_)
          exact ⟨g28, hs⟩
        · intro L ac w hJ
          obtain ⟨g28, hs⟩ := hJ
          refine wpO_plain rfl (op_move hs (some 1) rfl rfl rfl rfl fun ac hs => ?_)
          exact ⟨g28, hs⟩
        · intro L ac w hJ
          obtain ⟨g28, hs⟩ := hJ
          refine wpO_plain rfl (op_call (F := 95) hs (some 2) (v := W x25) rfl rfl rfl rfl (Try.call95 _) (tw12_c (E / 2 ^ 256) x25 (show (E / 2 ^ 256) < 1099511627776 by omega) hx25) rfl fun ac w hs => ?_)
          exact ⟨g28, hs⟩
        · intro L ac w hJ
          obtain ⟨g28, hs⟩ := hJ
          refine wpO_plain rfl (op_call (F := 88) hs (some 3) (v := .tuple #[W s26, .int .u64 ((c27 : Nat) : Int)]) rfl rfl rfl rfl (Try.call88 _) (more_at e0 x25 s26 c27 le0 lx25 hs26 hc27) rfl fun ac w hs => ?_)
          exact ⟨g28, hs⟩
        · intro L ac w hJ
          obtain ⟨g28, hs⟩ := hJ
          refine wpO_plain rfl (op_move hs (some 4) rfl rfl rfl rfl fun ac hs => ?_)
          exact ⟨g28, hs⟩
        · intro L ac w hJ
          obtain ⟨g28, hs⟩ := hJ
          refine wpO_plain rfl (op_extract hs (some 5) rfl rfl rfl rfl rfl fun ac hs => ?_)
          exact ⟨g28, hs⟩
        · intro L ac w hJ
          obtain ⟨g28, hs⟩ := hJ
          refine wpO_plain rfl (op_extract hs (some 6) rfl rfl rfl rfl rfl fun ac hs => ?_)
          exact ⟨g28, hs⟩
        · intro L ac w hJ
          obtain ⟨g28, hs⟩ := hJ
          refine wpO_plain rfl (op_alloc hs (some 7) (some 4) (cs := [.int .u64 0, .int .u64 0, .int .u64 0, .int .u64 0]) rfl rfl Try.zeroValue24 (by kernel_rfl) rfl rfl fun g28 ac w hs => ?_)
          exact ⟨g28, hs⟩
        · intro L ac w hJ
          obtain ⟨g28, hs⟩ := hJ
          refine wpO_plain rfl (op_store hs 4 (vs := (Wl s26)) rfl rfl rfl rfl rfl Try.sizeOf24 rfl rfl rfl rfl rfl fun w hs => ?_)
          exact ⟨g28, hs⟩
        · intro L ac w hJ
          obtain ⟨g28, hs⟩ := hJ
          refine wpO_plain rfl (op_assign hs (some 8) rfl rfl rfl rfl fun ac hs => ?_)
          exact ⟨g28, hs⟩
      intro ac w hJ
      obtain ⟨g28, hs⟩ := hJ
      replace hs : St 88 w0 [(72, true, W e0), (73, true, .int .u64 (((E / 2 ^ 256) : Nat) : Int)), (74, true, W x25), (75, true, .tuple #[W s26, .int .u64 ((c27 : Nat) : Int)]), (71, true, .tuple #[W s26, .int .u64 ((c27 : Nat) : Int)]), (76, true, W s26), (77, true, .int .u64 ((c27 : Nat) : Int)), (9, true, .pointer (some ⟨g28, 0, none⟩)), (10, true, .int .u64 ((c27 : Nat) : Int)), (2, true, .pointer (some ⟨g2, 0, none⟩)), (6, true, .int .u64 (((E / 2 ^ 256) : Nat) : Int)), (7, true, .pointer (some ⟨g20, 0, none⟩))] [(true, g1, 73, (tab .u64 16 (h3 M))), (true, g2, 24, [.int .u64 0, .int .u64 0, .int .u64 0, .int .u64 0]), (true, g3, 84, (tab .u64 10 (h3 E))), (true, g20, 24, (Wl e0)), (true, g28, 24, (Wl s26))] ac w := hs
      refine then_n ?_
      refine wp_seq ?_
      refine wp_seq ?_
      refine wp_region_lit ?_
      refine lstep (wpO_plain rfl (op_move hs none rfl rfl rfl rfl fun ac hs => ?_))
      refine lstep (wpO_plain rfl (op_bin hs none (v := .bool (decide (c27 = 1))) rfl rfl rfl rfl (fun _ => rfl) (bin_eqlN (x := c27) (y := 1)) rfl fun ac hs => ?_))
      refine wpList_nil ?_
      refine then_n ?_
      refine wp_cond_split (hs.ev rfl) (fun hc => ?_) (fun hc => ?_)
      · skip
        have hp29 := of_decide_eq_true hc
        refine wp_region_lit ?_
        refine lstep (wpO_plain rfl (op_load hs none 4 (v := W s26) rfl rfl rfl rfl Try.isAgg24 Try.sizeOf24 rfl rfl fun ac hs => ?_))
        refine lstep (wpO_plain rfl (op_build hs none (qs := [(0, .int .u64 4294968273)]) (v := .agg #[.int .u64 4294968273, .int .u64 0, .int .u64 0, .int .u64 0]) rfl rfl rfl rfl (fun _ => by kernel_rfl) rfl fun ac hs => ?_))
        obtain ⟨s30, hs30, ls30⟩ : ∃ z0, (s26 + Pov) % 2 ^ 256 = z0 ∧ z0 < 2 ^ 256 := ⟨_, rfl, Nat.mod_lt _ (Nat.two_pow_pos 256)⟩
        obtain ⟨c31, hc31⟩ : ∃ z0, (s26 + Pov) / 2 ^ 256 = z0 := ⟨_, rfl⟩
        refine lstep (wpO_plain rfl (op_call (F := 88) hs none (v := .tuple #[W s30, .int .u64 ((c31 : Nat) : Int)]) rfl rfl rfl rfl (Try.call88 _) (more_at s26 Pov s30 c31 ls26 Pov_lt hs30 hc31) rfl fun ac w hs => ?_))
        refine lstep (wpO_plain rfl (op_move hs none rfl rfl rfl rfl fun ac hs => ?_))
        refine lstep (wpO_plain rfl (op_extract hs none rfl rfl rfl rfl rfl fun ac hs => ?_))
        refine lstep (wpO_plain rfl (op_extract hs none rfl rfl rfl rfl rfl fun ac hs => ?_))
        refine lstep (wpO_plain rfl (op_store hs 4 (vs := (Wl s30)) rfl rfl rfl rfl rfl Try.sizeOf24 rfl rfl rfl rfl rfl fun w hs => ?_))
        refine wpList_nil ?_
        refine then_n ?_
        refine wp_seq ?_
        refine wp_region_lit ?_
        refine lstep (wpO_plain rfl (op_load hs none 4 (v := W s30) rfl rfl rfl rfl Try.isAgg24 Try.sizeOf24 rfl rfl fun ac hs => ?_))
        obtain ⟨r32, hr32, lr32⟩ : ∃ z0, s30 % Pf = z0 ∧ z0 < 2 ^ 256 := ⟨_, rfl, modP_lt _⟩
        refine lstep (wpO_plain rfl (op_call (F := 73) hs none (v := W r32) rfl rfl rfl rfl (Try.call73 _) (rfred_c s30 r32 ls30 hr32) rfl fun ac w hs => ?_))
        refine lstep (wpO_plain rfl (op_store hs 1 (vs := (Wl r32)) rfl rfl rfl rfl rfl Try.sizeOf24 rfl rfl rfl rfl rfl fun w hs => ?_))
        refine wpList_nil ?_
        refine then_n ?_
        refine wp_ret ?_
        exact bodyPost_ret (res1 rfl (rv_c hs 1 (v := W r32) rfl rfl Try.isAgg24 Try.sizeOf24 rfl)) hs.defers ⟨by rw [← hx, ← hr32, fold_yes hs26 hc27 (by rw [← hx25]; exact tw12_lt128 hE2) le0 hp29 hs30, ← hx25, fold_pmod hE1 he0], hs.below⟩
      · skip
        have hp33 := of_decide_eq_false hc
        refine wp_skip ?_
        refine then_n ?_
        refine wp_seq ?_
        refine wp_region_lit ?_
        refine lstep (wpO_plain rfl (op_load hs none 4 (v := W s26) rfl rfl rfl rfl Try.isAgg24 Try.sizeOf24 rfl rfl fun ac hs => ?_))
        obtain ⟨r34, hr34, lr34⟩ : ∃ z0, s26 % Pf = z0 ∧ z0 < 2 ^ 256 := ⟨_, rfl, modP_lt _⟩
        refine lstep (wpO_plain rfl (op_call (F := 73) hs none (v := W r34) rfl rfl rfl rfl (Try.call73 _) (rfred_c s26 r34 ls26 hr34) rfl fun ac w hs => ?_))
        refine lstep (wpO_plain rfl (op_store hs 1 (vs := (Wl r34)) rfl rfl rfl rfl rfl Try.sizeOf24 rfl rfl rfl rfl rfl fun w hs => ?_))
        refine wpList_nil ?_
        refine then_n ?_
        refine wp_ret ?_
        exact bodyPost_ret (res1 rfl (rv_c hs 1 (v := W r34) rfl rfl Try.isAgg24 Try.sizeOf24 rfl)) hs.defers ⟨by rw [← hx, ← hr34, fold_no hs26 hc27 (by rw [← hx25]; exact tw12_lt128 hE2) le0 hp33, ← hx25, fold_pmod hE1 he0], hs.below⟩
theorem rfmul_c (a b x : Nat) (ha : a < 2 ^ 256) (hb : b < 2 ^ 256) (hx : a * b % Pf = x) (w0 : World) : Calls Try.prog 43 #[W a, W b] w0 fun e w' => e = .returned (W x) ∧ Below w0.heap.size w0 w' := by
  refine enter (n := 53) (args := [W a, W b]) Try.func43 rfl rfl (Nat.le_of_ble_eq_true rfl) fun ac hs => ?_
  refine wp_seq ?_
  refine wp_region_lit ?_
  refine lstep (wpO_plain rfl (op_box hs none none (cs := (Wl a)) rfl rfl rfl rfl rfl rfl fun g1 ac w hs => ?_))
  refine lstep (wpO_plain rfl (op_box hs none none (cs := (Wl b)) rfl rfl rfl rfl rfl rfl fun g2 ac w hs => ?_))
  refine lstep (wpO_plain rfl (op_alloc hs none none (cs := [.int .u64 0, .int .u64 0, .int .u64 0, .int .u64 0]) rfl rfl Try.zeroValue24 (by kernel_rfl) rfl rfl fun g3 ac w hs => ?_))
  refine wpList_nil ?_
  refine then_n ?_
  refine wp_seq ?_
  replace hs : St 53 w0 [(2, true, .pointer (some ⟨g1, 0, none⟩)), (3, true, .pointer (some ⟨g2, 0, none⟩)), (4, true, .pointer (some ⟨g3, 0, none⟩))] [(true, g1, 24, (Wl a)), (true, g2, 24, (Wl b)), (true, g3, 24, [.int .u64 0, .int .u64 0, .int .u64 0, .int .u64 0])] ac _ := hs.re ⟨rfl, rfl, rfl, trivial⟩
  refine region_inv [([], [1, 3, 6, 7]), ([0], [3, 6, 7]), ([], [3, 6, 7]), ([0, 1, 2], [6, 7]), ([], [6, 7]), ([], [6, 7]), ([0, 1, 2, 3, 4, 5], [7]), ([0, 1, 2, 3, 4, 5, 6], [])] (fun L ac w => ∃ (g4 : Nat) (g5 : Nat), St 53 w0 [(11, L 0, W a), (12, L 1, At .u64 8 (h3 a)), (13, L 2, W b), (14, L 3, At .u64 8 (h3 b)), (5, L 4, .pointer (some ⟨g4, 0, none⟩)), (6, L 5, .pointer (some ⟨g5, 0, none⟩)), (2, true, .pointer (some ⟨g1, 0, none⟩)), (3, true, .pointer (some ⟨g2, 0, none⟩)), (4, true, .pointer (some ⟨g3, 0, none⟩))] [(true, g1, 24, (Wl a)), (true, g2, 24, (Wl b)), (true, g3, 24, [.int .u64 0, .int .u64 0, .int .u64 0, .int .u64 0]), (L 4, g4, 71, (cond (L 6) (tab .u64 8 (h3 a)) (tab .u64 8 (fun _ => 0)))), (L 5, g5, 71, (cond (L 7) (tab .u64 8 (h3 b)) (tab .u64 8 (fun _ => 0))))] ac w) (by kernel_rfl) (by kernel_rfl) ?_ ?_ ?_
  · exact ⟨0, 0, hs.drew.skip.skip.skip.skip.skip.skip.pad.pad⟩
  · refine ⟨?_, ?_, ?_, ?_, ?_, ?_, ?_, ?_, trivial⟩
    · intro L ac w hJ
      obtain ⟨g4, g5, hs⟩ := hJ
      refine wpO_plain rfl (op_load hs (some 0) 0 (v := W a) rfl rfl rfl rfl Try.isAgg24 Try.sizeOf24 rfl rfl fun ac hs => ?_)
      exact ⟨g4, g5, hs⟩
    · intro L ac w hJ
      obtain ⟨g4, g5, hs⟩ := hJ
      refine wpO_plain rfl (op_call (F := 75) hs (some 1) (v := At .u64 8 (h3 a)) rfl rfl rfl rfl (Try.call75 _) (halves_c a ha) rfl fun ac w hs => ?_)
      exact ⟨g4, g5, hs⟩
    · intro L ac w hJ
      obtain ⟨g4, g5, hs⟩ := hJ
      refine wpO_plain rfl (op_load hs (some 2) 1 (v := W b) rfl rfl rfl rfl Try.isAgg24 Try.sizeOf24 rfl rfl fun ac hs => ?_)
      exact ⟨g4, g5, hs⟩
    · intro L ac w hJ
      obtain ⟨g4, g5, hs⟩ := hJ
      refine wpO_plain rfl (op_call (F := 75) hs (some 3) (v := At .u64 8 (h3 b)) rfl rfl rfl rfl (Try.call75 _) (halves_c b hb) rfl fun ac w hs => ?_)
      exact ⟨g4, g5, hs⟩
    · intro L ac w hJ
      obtain ⟨g4, g5, hs⟩ := hJ
      refine wpO_plain rfl (op_alloc hs (some 4) (some 3) (cs := (tab .u64 8 (fun _ => 0))) rfl rfl Try.zeroValue71 (by kernel_rfl) rfl rfl fun g4 ac w hs => ?_)
      exact ⟨g4, g5, hs⟩
    · intro L ac w hJ
      obtain ⟨g4, g5, hs⟩ := hJ
      refine wpO_plain rfl (op_alloc hs (some 5) (some 4) (cs := (tab .u64 8 (fun _ => 0))) rfl rfl Try.zeroValue71 (by kernel_rfl) rfl rfl fun g5 ac w hs => ?_)
      exact ⟨g4, g5, hs⟩
    · intro L ac w hJ
      obtain ⟨g4, g5, hs⟩ := hJ
      refine wpO_plain rfl (op_store hs 3 (vs := (tab .u64 8 (h3 a))) rfl rfl rfl rfl rfl Try.sizeOf71 (by kernel_rfl) tab_length' (tab_one _ _ _) tab_leA wr_tab fun w hs => ?_)
      exact ⟨g4, g5, hs⟩
    · intro L ac w hJ
      obtain ⟨g4, g5, hs⟩ := hJ
      refine wpO_plain rfl (op_store hs 4 (vs := (tab .u64 8 (h3 b))) rfl rfl rfl rfl rfl Try.sizeOf71 (by kernel_rfl) tab_length' (tab_one _ _ _) tab_leA wr_tab fun w hs => ?_)
      exact ⟨g4, g5, hs⟩
  intro ac w hJ
  obtain ⟨g4, g5, hs⟩ := hJ
  replace hs : St 53 w0 [(11, true, W a), (12, true, At .u64 8 (h3 a)), (13, true, W b), (14, true, At .u64 8 (h3 b)), (5, true, .pointer (some ⟨g4, 0, none⟩)), (6, true, .pointer (some ⟨g5, 0, none⟩)), (2, true, .pointer (some ⟨g1, 0, none⟩)), (3, true, .pointer (some ⟨g2, 0, none⟩)), (4, true, .pointer (some ⟨g3, 0, none⟩))] [(true, g1, 24, (Wl a)), (true, g2, 24, (Wl b)), (true, g3, 24, [.int .u64 0, .int .u64 0, .int .u64 0, .int .u64 0]), (true, g4, 71, (tab .u64 8 (h3 a))), (true, g5, 71, (tab .u64 8 (h3 b)))] ac w := hs
  refine then_n ?_
  refine wp_seq ?_
  refine wp_region_lit ?_
  refine lstep (wpO_plain rfl (op_build hs none (qs := []) (v := At .u64 16 (fun _ => 0)) rfl rfl rfl rfl (fun _ => by kernel_rfl) rfl fun ac hs => ?_))
  refine lstep (wpO_plain rfl (op_alloc hs none none (cs := (tab .u64 16 (fun _ => 0))) rfl rfl Try.zeroValue73 (by kernel_rfl) rfl rfl fun g6 ac w hs => ?_))
  refine lstep (wpO_plain rfl (op_store hs 5 (vs := (tab .u64 16 (fun _ => 0))) rfl rfl rfl rfl rfl Try.sizeOf73 (by kernel_rfl) tab_length' (tab_one _ _ _) tab_leA wr_tab fun w hs => ?_))
  refine wpList_nil ?_
  refine then_n ?_
  refine wp_seq ?_
  refine wp_seq ?_
  refine wp_region_lit ?_
  refine lstep (wpO_plain rfl (op_assign hs none rfl rfl rfl rfl fun ac hs => ?_))
  refine wpList_nil ?_
  refine then_n ?_
  refine wp_block ?_
  refine wp_loop_m (fun μ ac w => ∃ (i : Nat) (f : Nat → Nat), (8 - i) = μ ∧ (i ≤ 8) ∧ (∀ j, j < 16 → f j = h3 (V3 a b i) j) ∧ St 53 w0 [(4, true, .pointer (some ⟨g3, 0, none⟩)), (5, true, .pointer (some ⟨g4, 0, none⟩)), (6, true, .pointer (some ⟨g5, 0, none⟩)), (7, true, .pointer (some ⟨g6, 0, none⟩)), (8, true, .int .i64 ((i : Nat) : Int))] [(true, g1, 24, (Wl a)), (true, g2, 24, (Wl b)), (true, g3, 24, [.int .u64 0, .int .u64 0, .int .u64 0, .int .u64 0]), (true, g4, 71, (tab .u64 8 (h3 a))), (true, g5, 71, (tab .u64 8 (h3 b))), (true, g6, 73, (tab .u64 16 f))] ac w) ?_ ?_
  · exact ⟨_, 0, (fun _ => 0), rfl, (by omega), prd3_0, (hs.re ⟨rfl, rfl, rfl, rfl, rfl, trivial⟩)⟩
  intro μ ac w ⟨i, f, hμ, hi, hf, hs⟩
  refine wp_seq ?_
  refine wp_seq ?_
  refine wp_region_lit ?_
  refine lstep (wpO_plain rfl (op_move hs none rfl rfl rfl rfl fun ac hs => ?_))
  refine lstep (wpO_plain rfl (op_bin hs none (v := .bool (decide (i < 8))) rfl rfl rfl rfl (fun _ => rfl) (bin_lssN (x := i) (y := 8)) rfl fun ac hs => ?_))
  refine wpList_nil ?_
  refine then_n ?_
  refine wp_cond_split (hs.ev rfl) (fun hc => ?_) (fun hc => ?_)
  · skip
    have hp7 := of_decide_eq_true hc
    have hli : i < 8 := of_decide_eq_true hc
    have hxl := h3_lt a i
    refine wp_skip ?_
    refine then_n ?_
    refine wp_seq ?_
    refine wp_block ?_
    refine wp_seq ?_
    refine wp_region_lit ?_
    refine lstep (wpO_plain rfl (op_assign hs none rfl rfl rfl rfl fun ac hs => ?_))
    refine wpList_nil ?_
    refine then_n ?_
    refine wp_seq ?_
    refine wp_seq ?_
    refine wp_region_lit ?_
    refine lstep (wpO_plain rfl (op_assign hs none rfl rfl rfl rfl fun ac hs => ?_))
    refine wpList_nil ?_
    refine then_n ?_
    refine wp_block ?_
    refine wp_loop_m (fun μ ac w => ∃ (k : Nat) (c : Nat) (F : Nat → Nat), (8 - k) = μ ∧ (k ≤ 8) ∧ (In3 (V3 a b i) (h3 a i) b i k c) ∧ (∀ j, j < 16 → F j = mix3 (V3 a b i) (h3 a i) b i k j) ∧ St 53 w0 [(4, true, .pointer (some ⟨g3, 0, none⟩)), (5, true, .pointer (some ⟨g4, 0, none⟩)), (6, true, .pointer (some ⟨g5, 0, none⟩)), (7, true, .pointer (some ⟨g6, 0, none⟩)), (8, true, .int .i64 ((i : Nat) : Int)), (9, true, .int .u64 ((c : Nat) : Int)), (10, true, .int .i64 ((k : Nat) : Int))] [(true, g1, 24, (Wl a)), (true, g2, 24, (Wl b)), (true, g3, 24, [.int .u64 0, .int .u64 0, .int .u64 0, .int .u64 0]), (true, g4, 71, (tab .u64 8 (h3 a))), (true, g5, 71, (tab .u64 8 (h3 b))), (true, g6, 73, (tab .u64 16 F))] ac w) ?_ ?_
    · exact ⟨_, 0, 0, f, rfl, (by omega), (in3_zero _ _ _ _), (prd3_f0 hf), (hs.re ⟨rfl, rfl, rfl, rfl, rfl, rfl, rfl, trivial⟩)⟩
    intro μ ac w ⟨k, c, F, hμ, hk, hI, hF, hs⟩
    have hc0 := hI.2
    refine wp_seq ?_
    refine wp_seq ?_
    refine wp_region_lit ?_
    refine lstep (wpO_plain rfl (op_move hs none rfl rfl rfl rfl fun ac hs => ?_))
    refine lstep (wpO_plain rfl (op_bin hs none (v := .bool (decide (k < 8))) rfl rfl rfl rfl (fun _ => rfl) (bin_lssN (x := k) (y := 8)) rfl fun ac hs => ?_))
    refine wpList_nil ?_
    refine then_n ?_
    refine wp_cond_split (hs.ev rfl) (fun hc => ?_) (fun hc => ?_)
    · skip
      have hp8 := of_decide_eq_true hc
      have hlt : k < 8 := of_decide_eq_true hc
      have hfk : F (i + k) = h3 (V3 a b i) (i + k) := (hF _ (by omega)).trans mix3_at
      have hfl := h3_lt (V3 a b i) (i + k)
      have hfb := h3_lt b k
      have hmm := mul_lt32 hxl hfb
      have hfm : F (i + k) < 4294967296 := by omega
      refine wp_skip ?_
      refine then_n ?_
      refine wp_seq ?_
      refine wp_block ?_
      refine wp_seq ?_
      replace hs : St 53 w0 [(4, true, .pointer (some ⟨g3, 0, none⟩)), (5, true, .pointer (some ⟨g4, 0, none⟩)), (6, true, .pointer (some ⟨g5, 0, none⟩)), (7, true, .pointer (some ⟨g6, 0, none⟩)), (8, true, .int .i64 ((i : Nat) : Int)), (9, true, .int .u64 ((c : Nat) : Int)), (10, true, .int .i64 ((k : Nat) : Int))] [(true, g1, 24, (Wl a)), (true, g2, 24, (Wl b)), (true, g3, 24, [.int .u64 0, .int .u64 0, .int .u64 0, .int .u64 0]), (true, g4, 71, (tab .u64 8 (h3 a))), (true, g5, 71, (tab .u64 8 (h3 b))), (true, g6, 73, (tab .u64 16 F))] ac _ := hs.re ⟨rfl, rfl, rfl, rfl, rfl, rfl, rfl, trivial⟩
      have l9 := h3_lt a i
      have l10 := h3_lt b k
      refine region_inv [([], [6, 14, 15]), ([], [3, 4, 5, 6, 14, 15]), ([], [3, 4, 5, 6, 14, 15]), ([1, 2], [4, 5, 6, 14, 15]), ([1, 2, 3], [5, 6, 14, 15]), ([1, 2, 3, 4], [6, 14, 15]), ([0, 1, 2, 3, 4, 5], [14, 15]), ([], [8, 9, 13, 14, 15]), ([7], [9, 13, 14, 15]), ([7, 8], [13, 14, 15]), ([], [11, 12, 13, 14, 15]), ([10], [12, 13, 14, 15]), ([10, 11], [13, 14, 15]), ([7, 8, 9, 10, 11, 12], [14, 15]), ([0, 1, 2, 3, 4, 5, 6, 7, 8, 9, 10, 11, 12, 13], [15]), ([0, 1, 2, 3, 4, 5, 6, 7, 8, 9, 10, 11, 12, 13, 14], [])] (fun L ac w => St 53 w0 [(24, L 0, .int .u64 ((c : Nat) : Int)), (25, L 1, .int .i64 ((i : Nat) : Int)), (26, L 2, .int .i64 ((k : Nat) : Int)), (27, L 3, .int .i64 ((i + k : Nat) : Int)), (28, L 4, .pointer (some ⟨g6, i + k, none⟩)), (29, L 5, .int .u64 ((F (i + k) : Nat) : Int)), (30, L 6, .int .u64 ((c + (F (i + k)) : Nat) : Int)), (31, L 7, .int .i64 ((i : Nat) : Int)), (32, L 8, .pointer (some ⟨g4, i, none⟩)), (33, L 9, .int .u64 (((h3 a) i : Nat) : Int)), (34, L 10, .int .i64 ((k : Nat) : Int)), (35, L 11, .pointer (some ⟨g5, k, none⟩)), (36, L 12, .int .u64 (((h3 b) k : Nat) : Int)), (37, L 13, .int .u64 ((((h3 a) i) * ((h3 b) k) : Nat) : Int)), (38, L 14, .int .u64 ((c + (F (i + k)) + (((h3 a) i) * ((h3 b) k)) : Nat) : Int)), (9, L 15, .int .u64 ((c + (F (i + k)) + (((h3 a) i) * ((h3 b) k)) : Nat) : Int)), (4, true, .pointer (some ⟨g3, 0, none⟩)), (5, true, .pointer (some ⟨g4, 0, none⟩)), (6, true, .pointer (some ⟨g5, 0, none⟩)), (7, true, .pointer (some ⟨g6, 0, none⟩)), (8, true, .int .i64 ((i : Nat) : Int)), (9, true, .int .u64 ((c : Nat) : Int)), (10, true, .int .i64 ((k : Nat) : Int))] [(true, g1, 24, (Wl a)), (true, g2, 24, (Wl b)), (true, g3, 24, [.int .u64 0, .int .u64 0, .int .u64 0, .int .u64 0]), (true, g4, 71, (tab .u64 8 (h3 a))), (true, g5, 71, (tab .u64 8 (h3 b))), (true, g6, 73, (tab .u64 16 F))] ac w) (by kernel_rfl) (by kernel_rfl) ?_ ?_ ?_
      · exact hs.drew.skip.skip.skip.skip.skip.skip.skip.skip.skip.skip.skip.skip.skip.skip.skip.skip
      · refine ⟨?_, ?_, ?_, ?_, ?_, ?_, ?_, ?_, ?_, ?_, ?_, ?_, ?_, ?_, ?_, ?_, trivial⟩
        · intro L ac w hJ
          have hs := hJ
          refine wpO_plain rfl (op_move hs (some 0) rfl rfl rfl rfl fun ac hs => ?_)
          exact hs
        · intro L ac w hJ
          have hs := hJ
          refine wpO_plain rfl (op_move hs (some 1) rfl rfl rfl rfl fun ac hs => ?_)
          exact hs
        · intro L ac w hJ
          have hs := hJ
          refine wpO_plain rfl (op_move hs (some 2) rfl rfl rfl rfl fun ac hs => ?_)
          exact hs
        · intro L ac w hJ
          have hs := hJ
          refine wpO_plain rfl (op_bin hs (some 3) (v := .int .i64 ((i + k : Nat) : Int)) rfl rfl rfl rfl (fun _ => rfl) (bin_addN (x := i) (y := k) (z := i + k) rfl (show i + k < 9223372036854775808 by omega)) rfl fun ac hs => ?_)
          exact hs
        · intro L ac w hJ
          have hs := hJ
          refine wpO_plain rfl (op_idxA hs (some 4) (j := i + k) rfl rfl rfl rfl Try.underlying73 Try.sizeOf22 (show i + k < 16 by omega) (off := i + k) (by omega) rfl fun ac hs => ?_)
          exact hs
        · intro L ac w hJ
          have hs := hJ
          refine wpO_plain rfl (op_load hs (some 5) 5 (v := .int .u64 ((F (i + k) : Nat) : Int)) rfl rfl rfl rfl Try.isAgg22 Try.sizeOf22 (tab_get (j := i + k) (show i + k < 16 by omega)) rfl fun ac hs => ?_)
          exact hs
        · intro L ac w hJ
          have hs := hJ
          refine wpO_plain rfl (op_bin hs (some 6) (v := .int .u64 ((c + (F (i + k)) : Nat) : Int)) rfl rfl rfl rfl (fun _ => rfl) (bin_addN (x := c) (y := F (i + k)) (z := c + (F (i + k))) rfl (show c + (F (i + k)) < 18446744073709551616 by omega)) rfl fun ac hs => ?_)
          exact hs
        · intro L ac w hJ
          have hs := hJ
          refine wpO_plain rfl (op_move hs (some 7) rfl rfl rfl rfl fun ac hs => ?_)
          exact hs
        · intro L ac w hJ
          have hs := hJ
          refine wpO_plain rfl (op_idxA hs (some 8) (j := i) rfl rfl rfl rfl Try.underlying71 Try.sizeOf22 (show i < 8 by omega) (off := i) (by omega) rfl fun ac hs => ?_)
          exact hs
        · intro L ac w hJ
          have hs := hJ
          refine wpO_plain rfl (op_load hs (some 9) 3 (v := .int .u64 (((h3 a) i : Nat) : Int)) rfl rfl rfl rfl Try.isAgg22 Try.sizeOf22 (tab_get (j := i) (show i < 8 by omega)) rfl fun ac hs => ?_)
          exact hs
        · intro L ac w hJ
          have hs := hJ
          refine wpO_plain rfl (op_move hs (some 10) rfl rfl rfl rfl fun ac hs => ?_)
          exact hs
        · intro L ac w hJ
          have hs := hJ
          refine wpO_plain rfl (op_idxA hs (some 11) (j := k) rfl rfl rfl rfl Try.underlying71 Try.sizeOf22 (show k < 8 by omega) (off := k) (by omega) rfl fun ac hs => ?_)
          exact hs
        · intro L ac w hJ
          have hs := hJ
          refine wpO_plain rfl (op_load hs (some 12) 4 (v := .int .u64 (((h3 b) k : Nat) : Int)) rfl rfl rfl rfl Try.isAgg22 Try.sizeOf22 (tab_get (j := k) (show k < 8 by omega)) rfl fun ac hs => ?_)
          exact hs
        · intro L ac w hJ
          have hs := hJ
          refine wpO_plain rfl (op_bin hs (some 13) (v := .int .u64 ((((h3 a) i) * ((h3 b) k) : Nat) : Int)) rfl rfl rfl rfl (fun _ => rfl) (bin_mulN (x := (h3 a) i) (y := (h3 b) k) (z := ((h3 a) i) * ((h3 b) k)) rfl (show ((h3 a) i) * ((h3 b) k) < 18446744073709551616 by omega)) rfl fun ac hs => ?_)
          exact hs
        · intro L ac w hJ
          have hs := hJ
          refine wpO_plain rfl (op_bin hs (some 14) (v := .int .u64 ((c + (F (i + k)) + (((h3 a) i) * ((h3 b) k)) : Nat) : Int)) rfl rfl rfl rfl (fun _ => rfl) (bin_addN (x := c + (F (i + k))) (y := ((h3 a) i) * ((h3 b) k)) (z := c + (F (i + k)) + (((h3 a) i) * ((h3 b) k))) rfl (show c + (F (i + k)) + (((h3 a) i) * ((h3 b) k)) < 18446744073709551616 by omega)) rfl fun ac hs => ?_)
          exact hs
        · intro L ac w hJ
          have hs := hJ
          refine wpO_plain rfl (op_assign hs (some 15) rfl rfl rfl rfl fun ac hs => ?_)
          exact hs
      intro ac w hJ
      replace hs : St 53 w0 [(24, true, .int .u64 ((c : Nat) : Int)), (25, true, .int .i64 ((i : Nat) : Int)), (26, true, .int .i64 ((k : Nat) : Int)), (27, true, .int .i64 ((i + k : Nat) : Int)), (28, true, .pointer (some ⟨g6, i + k, none⟩)), (29, true, .int .u64 ((F (i + k) : Nat) : Int)), (30, true, .int .u64 ((c + (F (i + k)) : Nat) : Int)), (31, true, .int .i64 ((i : Nat) : Int)), (32, true, .pointer (some ⟨g4, i, none⟩)), (33, true, .int .u64 (((h3 a) i : Nat) : Int)), (34, true, .int .i64 ((k : Nat) : Int)), (35, true, .pointer (some ⟨g5, k, none⟩)), (36, true, .int .u64 (((h3 b) k : Nat) : Int)), (37, true, .int .u64 ((((h3 a) i) * ((h3 b) k) : Nat) : Int)), (38, true, .int .u64 ((c + (F (i + k)) + (((h3 a) i) * ((h3 b) k)) : Nat) : Int)), (9, true, .int .u64 ((c + (F (i + k)) + (((h3 a) i) * ((h3 b) k)) : Nat) : Int)), (4, true, .pointer (some ⟨g3, 0, none⟩)), (5, true, .pointer (some ⟨g4, 0, none⟩)), (6, true, .pointer (some ⟨g5, 0, none⟩)), (7, true, .pointer (some ⟨g6, 0, none⟩)), (8, true, .int .i64 ((i : Nat) : Int)), (9, true, .int .u64 ((c : Nat) : Int)), (10, true, .int .i64 ((k : Nat) : Int))] [(true, g1, 24, (Wl a)), (true, g2, 24, (Wl b)), (true, g3, 24, [.int .u64 0, .int .u64 0, .int .u64 0, .int .u64 0]), (true, g4, 71, (tab .u64 8 (h3 a))), (true, g5, 71, (tab .u64 8 (h3 b))), (true, g6, 73, (tab .u64 16 F))] ac w := hJ
      refine then_n ?_
      refine wp_seq ?_
      refine wp_region_lit ?_
      refine lstep (wpO_plain rfl (op_move hs none rfl rfl rfl rfl fun ac hs => ?_))
      refine lstep (wpO_plain rfl (op_move hs none rfl rfl rfl rfl fun ac hs => ?_))
      refine lstep (wpO_plain rfl (op_bin hs none (v := .int .i64 ((i + k : Nat) : Int)) rfl rfl rfl rfl (fun _ => rfl) (bin_addN (x := i) (y := k) (z := i + k) rfl (show i + k < 9223372036854775808 by omega)) rfl fun ac hs => ?_))
      refine lstep (wpO_plain rfl (op_move hs none rfl rfl rfl rfl fun ac hs => ?_))
      refine lstep (wpO_plain rfl (op_bin hs none (v := .int .u64 (((c + (F (i + k)) + (((h3 a) i) * ((h3 b) k))) % 2 ^ 32 : Nat) : Int)) rfl rfl rfl rfl (fun _ => rfl) (bin_andN (x := c + (F (i + k)) + (((h3 a) i) * ((h3 b) k))) (y := 4294967295) (z := (c + (F (i + k)) + (((h3 a) i) * ((h3 b) k))) % 2 ^ 32) (Nat.and_two_pow_sub_one_eq_mod (c + (F (i + k)) + (((h3 a) i) * ((h3 b) k))) 32) (show c + (F (i + k)) + (((h3 a) i) * ((h3 b) k)) < 18446744073709551616 by omega) (by decide) (show (c + (F (i + k)) + (((h3 a) i) * ((h3 b) k))) % 2 ^ 32 < 18446744073709551616 by omega)) rfl fun ac hs => ?_))
      refine lstep (wpO_plain rfl (op_idxA hs none (j := i + k) rfl rfl rfl rfl Try.underlying73 Try.sizeOf22 (show i + k < 16 by omega) (off := i + k) (by omega) rfl fun ac hs => ?_))
      refine lstep (wpO_plain rfl (op_store hs 5 (vs := [.int .u64 (((c + (F (i + k)) + (((h3 a) i) * ((h3 b) k))) % 2 ^ 32 : Nat) : Int)]) rfl rfl rfl rfl rfl Try.sizeOf22 rfl rfl rfl (tab_le (j := i + k) (show i + k < 16 by omega)) (tab_set) fun w hs => ?_))
      refine wpList_nil ?_
      refine then_n ?_
      refine wp_region_lit ?_
      refine lstep (wpO_plain rfl (op_move hs none rfl rfl rfl rfl fun ac hs => ?_))
      refine lstep (wpO_plain rfl (op_bin hs none (v := .int .u64 (((c + (F (i + k)) + (((h3 a) i) * ((h3 b) k))) / 2 ^ 32 : Nat) : Int)) rfl rfl rfl rfl (fun _ => rfl) (bin_shrN (x := c + (F (i + k)) + (((h3 a) i) * ((h3 b) k))) (y := 32) (z := (c + (F (i + k)) + (((h3 a) i) * ((h3 b) k))) / 2 ^ 32) rfl (show c + (F (i + k)) + (((h3 a) i) * ((h3 b) k)) < 2 ^ 64 by omega)) rfl fun ac hs => ?_))
      refine lstep (wpO_plain rfl (op_assign hs none rfl rfl rfl rfl fun ac hs => ?_))
      refine wpList_nil ?_
      refine blk_n ?_
      refine then_n ?_
      refine wp_region_lit ?_
      refine lstep (wpO_plain rfl (op_move hs none rfl rfl rfl rfl fun ac hs => ?_))
      refine lstep (wpO_plain rfl (op_bin hs none (v := .int .i64 ((k + 1 : Nat) : Int)) rfl rfl rfl rfl (fun _ => rfl) (bin_addN (x := k) (y := 1) (z := k + 1) rfl (show k + 1 < 9223372036854775808 by omega)) rfl fun ac hs => ?_))
      refine lstep (wpO_plain rfl (op_assign hs none rfl rfl rfl rfl fun ac hs => ?_))
      refine wpList_nil ?_
      refine then_n ?_
      exact ⟨_, ⟨(k + 1), ((c + (F (i + k)) + (((h3 a) i) * ((h3 b) k))) / 2 ^ 32), (upn F (i + k) ((c + (F (i + k)) + (((h3 a) i) * ((h3 b) k))) % 2 ^ 32)), rfl, hlt, (prd3_c' hxl hfk hI), (prd3_f' hxl (by omega) hI hF), (hs.re ⟨rfl, rfl, rfl, rfl, rfl, rfl, rfl, trivial⟩)⟩, (by omega)⟩
    · skip
      have hp11 := of_decide_eq_false hc
      obtain rfl : k = 8 := by omega
      refine wp_exit ?_
      refine then_e ?_
      refine then_e ?_
      refine blk_e ?_
      refine then_n ?_
      refine wp_region_lit ?_
      refine lstep (wpO_plain rfl (op_move hs none rfl rfl rfl rfl fun ac hs => ?_))
      refine lstep (wpO_plain rfl (op_bin hs none (v := .int .i64 ((i + 8 : Nat) : Int)) rfl rfl rfl rfl (fun _ => rfl) (bin_addN (x := i) (y := 8) (z := i + 8) rfl (show i + 8 < 9223372036854775808 by omega)) rfl fun ac hs => ?_))
      refine lstep (wpO_plain rfl (op_move hs none rfl rfl rfl rfl fun ac hs => ?_))
      refine lstep (wpO_plain rfl (op_idxA hs none (j := i + 8) rfl rfl rfl rfl Try.underlying73 Try.sizeOf22 (show i + 8 < 16 by omega) (off := i + 8) (by omega) rfl fun ac hs => ?_))
      refine lstep (wpO_plain rfl (op_store hs 5 (vs := [.int .u64 ((c : Nat) : Int)]) rfl rfl rfl rfl rfl Try.sizeOf22 rfl rfl rfl (tab_le (j := i + 8) (show i + 8 < 16 by omega)) (tab_set) fun w hs => ?_))
      refine wpList_nil ?_
      refine blk_n ?_
      refine then_n ?_
      refine wp_region_lit ?_
      refine lstep (wpO_plain rfl (op_move hs none rfl rfl rfl rfl fun ac hs => ?_))
      refine lstep (wpO_plain rfl (op_bin hs none (v := .int .i64 ((i + 1 : Nat) : Int)) rfl rfl rfl rfl (fun _ => rfl) (bin_addN (x := i) (y := 1) (z := i + 1) rfl (show i + 1 < 9223372036854775808 by omega)) rfl fun ac hs => ?_))
      refine lstep (wpO_plain rfl (op_assign hs none rfl rfl rfl rfl fun ac hs => ?_))
      refine wpList_nil ?_
      refine then_n ?_
      exact ⟨_, ⟨(i + 1), (upn F (i + 8) c), rfl, hli, (prd3_last hb hI hF), (hs.re ⟨rfl, rfl, rfl, rfl, rfl, trivial⟩)⟩, (by omega)⟩
  · skip
    have hp12 := of_decide_eq_false hc
    obtain rfl : i = 8 := by omega
    replace hs := hs.setb 5 (cs' := tab .u64 16 (h3 (a * b))) rfl (tab_congr (prd3_fin ha hf))
    refine wp_exit ?_
    refine then_e ?_
    refine then_e ?_
    refine blk_e ?_
    refine then_n ?_
    refine wp_seq ?_
    refine wp_region_lit ?_
    refine lstep (wpO_plain rfl (op_load hs none 5 (v := At .u64 16 (h3 (a * b))) rfl rfl rfl rfl Try.isAgg73 Try.sizeOf73 ldv_tab rfl fun ac hs => ?_))
    obtain ⟨r13, hr13, lr13⟩ : ∃ z0, (a * b) % Pf = z0 ∧ z0 < 2 ^ 256 := ⟨_, rfl, modP_lt _⟩
    refine lstep (wpO_plain rfl (op_call (F := 76) hs none (v := W r13) rfl rfl rfl rfl (Try.call76 _) (folded_c (a * b) r13 (mul_512 ha hb) hr13) rfl fun ac w hs => ?_))
    refine lstep (wpO_plain rfl (op_store hs 2 (vs := (Wl r13)) rfl rfl rfl rfl rfl Try.sizeOf24 rfl rfl rfl rfl rfl fun w hs => ?_))
    refine wpList_nil ?_
    refine then_n ?_
    refine wp_ret ?_
    exact bodyPost_ret (res1 rfl (rv_c hs 2 (v := W r13) rfl rfl Try.isAgg24 Try.sizeOf24 rfl)) hs.defers ⟨by rw [← hx, ← hr13], hs.below⟩
theorem rfpow_c (a n x : Nat) (ha : a < 2 ^ 256) (hn : n < 2 ^ 256) (hx : a ^ n % Pf = x) (w0 : World) : Calls Try.prog 89 #[W a, W n] w0 fun e w' => e = .returned (W x) ∧ Below w0.heap.size w0 w' := by
  refine enter (n := 23) (args := [W a, W n]) Try.func89 rfl rfl (Nat.le_of_ble_eq_true rfl) fun ac hs => ?_
  refine wp_seq ?_
  refine wp_region_lit ?_
  refine lstep (wpO_plain rfl (op_box hs none none (cs := (Wl a)) rfl rfl rfl rfl rfl rfl fun g1 ac w hs => ?_))
  refine lstep (wpO_plain rfl (op_box hs none none (cs := (Wl n)) rfl rfl rfl rfl rfl rfl fun g2 ac w hs => ?_))
  refine lstep (wpO_plain rfl (op_alloc hs none none (cs := [.int .u64 0, .int .u64 0, .int .u64 0, .int .u64 0]) rfl rfl Try.zeroValue24 (by kernel_rfl) rfl rfl fun g3 ac w hs => ?_))
  refine wpList_nil ?_
  refine then_n ?_
  refine wp_seq ?_
  refine wp_region_lit ?_
  refine lstep (wpO_plain rfl (op_build hs none (qs := [(0, .int .u64 1)]) (v := .agg #[.int .u64 1, .int .u64 0, .int .u64 0, .int .u64 0]) rfl rfl rfl rfl (fun _ => by kernel_rfl) rfl fun ac hs => ?_))
  refine lstep (wpO_plain rfl (op_alloc hs none none (cs := [.int .u64 0, .int .u64 0, .int .u64 0, .int .u64 0]) rfl rfl Try.zeroValue24 (by kernel_rfl) rfl rfl fun g4 ac w hs => ?_))
  refine lstep (wpO_plain rfl (op_store hs 3 (vs := [.int .u64 1, .int .u64 0, .int .u64 0, .int .u64 0]) rfl rfl rfl rfl rfl Try.sizeOf24 rfl rfl rfl rfl rfl fun w hs => ?_))
  refine wpList_nil ?_
  refine then_n ?_
  refine wp_seq ?_
  refine wp_seq ?_
  refine wp_region_lit ?_
  refine lstep (wpO_plain rfl (op_assign hs none rfl rfl rfl rfl fun ac hs => ?_))
  refine wpList_nil ?_
  refine then_n ?_
  refine wp_block ?_
  refine wp_loop_m (fun μ ac w => ∃ (k : Nat) (o : Nat), (k) = μ ∧ (k ≤ 256) ∧ (o < 2 ^ 256) ∧ (a ^ (n / 2 ^ k) % Pf = o) ∧ St 23 w0 [(2, true, .pointer (some ⟨g1, 0, none⟩)), (3, true, .pointer (some ⟨g2, 0, none⟩)), (4, true, .pointer (some ⟨g3, 0, none⟩)), (5, true, .pointer (some ⟨g4, 0, none⟩)), (6, true, .int .i64 (((k : Nat) : Int) - 1))] [(true, g1, 24, (Wl a)), (true, g2, 24, (Wl n)), (true, g3, 24, [.int .u64 0, .int .u64 0, .int .u64 0, .int .u64 0]), (true, g4, 24, (Wl o))] ac w) ?_ ?_
  · exact ⟨_, 256, 1, rfl, (by omega), (by decide), (pow_hi_start hn), (hs.re ⟨rfl, rfl, rfl, rfl, rfl, trivial⟩)⟩
  intro μ ac w ⟨k, o, hμ, hk, lo, ho, hs⟩
  refine wp_seq ?_
  refine wp_seq ?_
  refine wp_region_lit ?_
  refine lstep (wpO_plain rfl (op_move hs none rfl rfl rfl rfl fun ac hs => ?_))
  refine lstep (wpO_plain rfl (op_bin hs none (v := .bool (decide (1 ≤ k))) rfl rfl rfl rfl (fun _ => rfl) bin_geqP rfl fun ac hs => ?_))
  refine wpList_nil ?_
  refine then_n ?_
  refine wp_cond_split (hs.ev rfl) (fun hc => ?_) (fun hc => ?_)
  · skip
    have hp5 := of_decide_eq_true hc
    replace hs := hs.re (fs' := [(2, true, .pointer (some ⟨g1, 0, none⟩)), (3, true, .pointer (some ⟨g2, 0, none⟩)), (4, true, .pointer (some ⟨g3, 0, none⟩)), (5, true, .pointer (some ⟨g4, 0, none⟩)), (6, true, .int .i64 ((k - 1 : Nat) : Int)), (8, true, .int .i64 (((k : Nat) : Int) - 1)), (9, true, .bool (decide (1 ≤ k)))]) ⟨rfl, rfl, rfl, rfl, congrArg some (pre_nat hp5), rfl, rfl, trivial⟩
    refine wp_skip ?_
    refine then_n ?_
    refine wp_seq ?_
    refine wp_block ?_
    refine wp_seq ?_
    refine wp_region_lit ?_
    refine lstep (wpO_plain rfl (op_load hs none 3 (v := W o) rfl rfl rfl rfl Try.isAgg24 Try.sizeOf24 rfl rfl fun ac hs => ?_))
    refine lstep (wpO_plain rfl (op_load hs none 3 (v := W o) rfl rfl rfl rfl Try.isAgg24 Try.sizeOf24 rfl rfl fun ac hs => ?_))
    obtain ⟨r6, hr6, lr6⟩ : ∃ z0, o * o % Pf = z0 ∧ z0 < 2 ^ 256 := ⟨_, rfl, modP_lt _⟩
    refine lstep (wpO_plain rfl (op_call (F := 43) hs none (v := W r6) rfl rfl rfl rfl (Try.call43 _) (rfmul_c o o r6 lo lo hr6) rfl fun ac w hs => ?_))
    refine lstep (wpO_plain rfl (op_store hs 3 (vs := (Wl r6)) rfl rfl rfl rfl rfl Try.sizeOf24 rfl rfl rfl rfl rfl fun w hs => ?_))
    refine wpList_nil ?_
    refine then_n ?_
    refine wp_seq ?_
    refine wp_region_lit ?_
    refine lstep (wpO_plain rfl (op_load hs none 1 (v := W n) rfl rfl rfl rfl Try.isAgg24 Try.sizeOf24 rfl rfl fun ac hs => ?_))
    refine lstep (wpO_plain rfl (op_move hs none rfl rfl rfl rfl fun ac hs => ?_))
    obtain ⟨b7, hb7⟩ : ∃ z0, n / 2 ^ (k - 1) % 2 = z0 := ⟨_, rfl⟩
    have lb7 := bit_le hb7
    refine lstep (wpO_plain rfl (op_call (F := 40) hs none (v := .int .u64 ((b7 : Nat) : Int)) rfl rfl rfl rfl (Try.call40 _) (rbit_c n (k - 1) b7 (show k - 1 < 256 by omega) hb7) rfl fun ac w hs => ?_))
    refine lstep (wpO_plain rfl (op_bin hs none (v := .bool (decide (b7 = 1))) rfl rfl rfl rfl (fun _ => rfl) (bin_eqlN (x := b7) (y := 1)) rfl fun ac hs => ?_))
    refine wpList_nil ?_
    refine then_n ?_
    refine wp_cond_split (hs.ev rfl) (fun hc => ?_) (fun hc => ?_)
    · skip
      have hp8 := of_decide_eq_true hc
      refine wp_region_lit ?_
      refine lstep (wpO_plain rfl (op_load hs none 3 (v := W r6) rfl rfl rfl rfl Try.isAgg24 Try.sizeOf24 rfl rfl fun ac hs => ?_))
      refine lstep (wpO_plain rfl (op_load hs none 0 (v := W a) rfl rfl rfl rfl Try.isAgg24 Try.sizeOf24 rfl rfl fun ac hs => ?_))
      obtain ⟨r9, hr9, lr9⟩ : ∃ z0, r6 * a % Pf = z0 ∧ z0 < 2 ^ 256 := ⟨_, rfl, modP_lt _⟩
      refine lstep (wpO_plain rfl (op_call (F := 43) hs none (v := W r9) rfl rfl rfl rfl (Try.call43 _) (rfmul_c r6 a r9 lr6 ha hr9) rfl fun ac w hs => ?_))
      refine lstep (wpO_plain rfl (op_store hs 3 (vs := (Wl r9)) rfl rfl rfl rfl rfl Try.sizeOf24 rfl rfl rfl rfl rfl fun w hs => ?_))
      refine wpList_nil ?_
      refine blk_n ?_
      refine then_n ?_
      refine wp_region_lit ?_
      refine lstep (wpO_plain rfl (op_move hs none rfl rfl rfl rfl fun ac hs => ?_))
      refine lstep (wpO_plain rfl (op_bin hs none (v := .int .i64 (((k - 1 : Nat) : Int) - 1)) rfl rfl rfl rfl (fun _ => rfl) (bin_subP (x := k - 1) (by omega)) rfl fun ac hs => ?_))
      refine lstep (wpO_plain rfl (op_assign hs none rfl rfl rfl rfl fun ac hs => ?_))
      refine wpList_nil ?_
      refine then_n ?_
      exact ⟨_, ⟨(k - 1), r9, rfl, (by omega), lr9, (pow_hi1 hp5 ho hr6 hb7 hp8 hr9), (hs.re ⟨rfl, rfl, rfl, rfl, rfl, trivial⟩)⟩, (by omega)⟩
    · skip
      have hp10 := of_decide_eq_false hc
      refine wp_skip ?_
      refine blk_n ?_
      refine then_n ?_
      refine wp_region_lit ?_
      refine lstep (wpO_plain rfl (op_move hs none rfl rfl rfl rfl fun ac hs => ?_))
      refine lstep (wpO_plain rfl (op_bin hs none (v := .int .i64 (((k - 1 : Nat) : Int) - 1)) rfl rfl rfl rfl (fun _ => rfl) (bin_subP (x := k - 1) (by omega)) rfl fun ac hs => ?_))
      refine lstep (wpO_plain rfl (op_assign hs none rfl rfl rfl rfl fun ac hs => ?_))
      refine wpList_nil ?_
      refine then_n ?_
      exact ⟨_, ⟨(k - 1), r6, rfl, (by omega), lr6, (pow_hi0 hp5 ho hr6 hb7 hp10), (hs.re ⟨rfl, rfl, rfl, rfl, rfl, trivial⟩)⟩, (by omega)⟩
  · skip
    have hp11 := of_decide_eq_false hc
    obtain rfl : k = 0 := by omega
    refine wp_exit ?_
    refine then_e ?_
    refine then_e ?_
    refine blk_e ?_
    refine then_n ?_
    refine wp_seq ?_
    refine wp_region_lit ?_
    refine lstep (wpO_plain rfl (op_load hs none 3 (v := W o) rfl rfl rfl rfl Try.isAgg24 Try.sizeOf24 rfl rfl fun ac hs => ?_))
    refine lstep (wpO_plain rfl (op_store hs 2 (vs := (Wl o)) rfl rfl rfl rfl rfl Try.sizeOf24 rfl rfl rfl rfl rfl fun w hs => ?_))
    refine wpList_nil ?_
    refine then_n ?_
    refine wp_ret ?_
    exact bodyPost_ret (res1 rfl (rv_c hs 2 (v := W o) rfl rfl Try.isAgg24 Try.sizeOf24 rfl)) hs.defers ⟨by rw [← hx, ← ho, Nat.pow_zero, Nat.div_one], hs.below⟩
theorem rfinv_c (a x : Nat) (ha : a < 2 ^ 256) (hx : pinv Pf a = x) (w0 : World) : Calls Try.prog 42 #[W a] w0 fun e w' => e = .returned (W x) ∧ Below w0.heap.size w0 w' := by
  refine enter (n := 7) (args := [W a]) Try.func42 rfl rfl (Nat.le_of_ble_eq_true rfl) fun ac hs => ?_
  refine wp_seq ?_
  refine wp_region_lit ?_
  refine lstep (wpO_plain rfl (op_box hs none none (cs := (Wl a)) rfl rfl rfl rfl rfl rfl fun g1 ac w hs => ?_))
  refine lstep (wpO_plain rfl (op_alloc hs none none (cs := [.int .u64 0, .int .u64 0, .int .u64 0, .int .u64 0]) rfl rfl Try.zeroValue24 (by kernel_rfl) rfl rfl fun g2 ac w hs => ?_))
  refine wpList_nil ?_
  refine then_n ?_
  refine wp_seq ?_
  refine wp_region_lit ?_
  refine lstep (wpO_plain rfl (op_load hs none 0 (v := W a) rfl rfl rfl rfl Try.isAgg24 Try.sizeOf24 rfl rfl fun ac hs => ?_))
  obtain ⟨r3, hr3, lr3⟩ : ∃ z0, a % Pf = z0 ∧ z0 < 2 ^ 256 := ⟨_, rfl, modP_lt _⟩
  refine lstep (wpO_plain rfl (op_call (F := 73) hs none (v := W r3) rfl rfl rfl rfl (Try.call73 _) (rfred_c a r3 ha hr3) rfl fun ac w hs => ?_))
  refine lstep (wpO_plain rfl (op_call (F := 74) hs none (v := W Pf) rfl rfl rfl rfl (Try.call74 _) rprime_c rfl fun ac w hs => ?_))
  obtain ⟨v4, hv4, lv4⟩ : ∃ z0, pinv Pf r3 = z0 ∧ z0 < 2 ^ 256 := ⟨_, rfl, modP_lt _⟩
  refine lstep (wpO_plain rfl (op_call (F := 72) hs none (v := W v4) rfl rfl rfl rfl (Try.call72 _) (inv_prime (hr3 ▸ Nat.mod_lt _ Pf_pos) hv4) rfl fun ac w hs => ?_))
  refine lstep (wpO_plain rfl (op_store hs 1 (vs := (Wl v4)) rfl rfl rfl rfl rfl Try.sizeOf24 rfl rfl rfl rfl rfl fun w hs => ?_))
  refine wpList_nil ?_
  refine then_n ?_
  refine wp_ret ?_
  exact bodyPost_ret (res1 rfl (rv_c hs 1 (v := W v4) rfl rfl Try.isAgg24 Try.sizeOf24 rfl)) hs.defers ⟨by rw [← hx, ← hv4, ← hr3, pinv_mod], hs.below⟩
theorem rfroot_c (a x : Nat) (q : Bool) (ha : a < 2 ^ 256) (hx : frV a = x) (hq : frB a = q) (w0 : World) : Calls Try.prog 64 #[W a] w0 fun e w' => e = .returned (.tuple #[W x, .bool q]) ∧ Below w0.heap.size w0 w' := by
  refine enter (n := 31) (args := [W a]) Try.func64 rfl rfl (Nat.le_of_ble_eq_true rfl) fun ac hs => ?_
  refine wp_seq ?_
  refine wp_region_lit ?_
  refine lstep (wpO_plain rfl (op_box hs none none (cs := (Wl a)) rfl rfl rfl rfl rfl rfl fun g1 ac w hs => ?_))
  refine lstep (wpO_plain rfl (op_alloc hs none none (cs := [.int .u64 0, .int .u64 0, .int .u64 0, .int .u64 0]) rfl rfl Try.zeroValue24 (by kernel_rfl) rfl rfl fun g2 ac w hs => ?_))
  refine lstep (wpO_plain rfl (op_assign hs none rfl rfl rfl rfl fun ac hs => ?_))
  refine wpList_nil ?_
  refine then_n ?_
  refine wp_seq ?_
  refine wp_region_lit ?_
  refine lstep (wpO_plain rfl (op_call (F := 74) hs none (v := W Pf) rfl rfl rfl rfl (Try.call74 _) rprime_c rfl fun ac w hs => ?_))
  refine lstep (wpO_plain rfl (op_build hs none (qs := [(0, .int .u64 1)]) (v := .agg #[.int .u64 1, .int .u64 0, .int .u64 0, .int .u64 0]) rfl rfl rfl rfl (fun _ => by kernel_rfl) rfl fun ac hs => ?_))
  obtain ⟨s3, hs3, ls3⟩ : ∃ z0, (Pf + 1) % 2 ^ 256 = z0 ∧ z0 < 2 ^ 256 := ⟨_, rfl, Nat.mod_lt _ (Nat.two_pow_pos 256)⟩
  obtain ⟨c4, hc4⟩ : ∃ z0, (Pf + 1) / 2 ^ 256 = z0 := ⟨_, rfl⟩
  refine lstep (wpO_plain rfl (op_call (F := 88) hs none (v := .tuple #[W s3, .int .u64 ((c4 : Nat) : Int)]) rfl rfl rfl rfl (Try.call88 _) (more_at Pf 1 s3 c4 Pf_lt (by decide) hs3 hc4) rfl fun ac w hs => ?_))
  refine lstep (wpO_plain rfl (op_move hs none rfl rfl rfl rfl fun ac hs => ?_))
  refine lstep (wpO_plain rfl (op_extract hs none rfl rfl rfl rfl rfl fun ac hs => ?_))
  refine lstep (wpO_plain rfl (op_extract hs none rfl rfl rfl rfl rfl fun ac hs => ?_))
  refine lstep (wpO_plain rfl (op_alloc hs none none (cs := [.int .u64 0, .int .u64 0, .int .u64 0, .int .u64 0]) rfl rfl Try.zeroValue24 (by kernel_rfl) rfl rfl fun g5 ac w hs => ?_))
  refine lstep (wpO_plain rfl (op_store hs 2 (vs := (Wl s3)) rfl rfl rfl rfl rfl Try.sizeOf24 rfl rfl rfl rfl rfl fun w hs => ?_))
  refine lstep (wpO_plain rfl (op_assign hs none rfl rfl rfl rfl fun ac hs => ?_))
  refine wpList_nil ?_
  refine then_n ?_
  refine wp_seq ?_
  replace hs : St 31 w0 [(1, true, .pointer (some ⟨g1, 0, none⟩)), (2, true, .pointer (some ⟨g2, 0, none⟩)), (3, true, .bool false), (4, true, .pointer (some ⟨g5, 0, none⟩))] [(true, g1, 24, (Wl a)), (true, g2, 24, [.int .u64 0, .int .u64 0, .int .u64 0, .int .u64 0]), (true, g5, 24, (Wl s3))] ac _ := hs.re ⟨rfl, rfl, rfl, rfl, trivial⟩
  obtain ⟨sh6, hsh6, lsh6⟩ : ∃ z0, s3 / 2 ^ 2 = z0 ∧ z0 < 2 ^ 256 := ⟨_, rfl, div_lt256 ls3⟩
  obtain ⟨r7, hr7, lr7⟩ : ∃ z0, a ^ sh6 % Pf = z0 ∧ z0 < 2 ^ 256 := ⟨_, rfl, modP_lt _⟩
  refine region_inv [([], [3, 5]), ([], [2, 3, 5]), ([1], [3, 5]), ([0, 1, 2], [5]), ([], [5]), ([0, 1, 2, 3, 4], [])] (fun L ac w => ∃ (g8 : Nat), St 31 w0 [(13, L 0, W a), (14, L 1, W s3), (15, L 2, W sh6), (16, L 3, W r7), (6, L 4, .pointer (some ⟨g8, 0, none⟩)), (1, true, .pointer (some ⟨g1, 0, none⟩)), (2, true, .pointer (some ⟨g2, 0, none⟩)), (3, true, .bool false), (4, true, .pointer (some ⟨g5, 0, none⟩))] [(true, g1, 24, (Wl a)), (true, g2, 24, [.int .u64 0, .int .u64 0, .int .u64 0, .int .u64 0]), (true, g5, 24, (Wl s3)), (L 4, g8, 24, (cond (L 5) (Wl r7) [.int .u64 0, .int .u64 0, .int .u64 0, .int .u64 0]))] ac w) (by kernel_rfl) (by kernel_rfl) ?_ ?_ ?_
  · exact ⟨0, hs.drew.skip.skip.skip.skip.skip.pad⟩
  · refine ⟨?_, ?_, ?_, ?_, ?_, ?_, trivial⟩
    · intro L ac w hJ
      obtain ⟨g8, hs⟩ := hJ
      refine wpO_plain rfl (op_load hs (some 0) 0 (v := W a) rfl rfl rfl rfl Try.isAgg24 Try.sizeOf24 rfl rfl fun ac hs => ?_)
      exact ⟨g8, hs⟩
    · intro L ac w hJ
      obtain ⟨g8, hs⟩ := hJ
      refine wpO_plain rfl (op_load hs (some 1) 2 (v := W s3) rfl rfl rfl rfl Try.isAgg24 Try.sizeOf24 rfl rfl fun ac hs => ?_)
      exact ⟨g8, hs⟩
    · intro L ac w hJ
      obtain ⟨g8, hs⟩ := hJ
      refine wpO_plain rfl (op_call (F := 90) hs (some 2) (v := W sh6) rfl rfl rfl rfl (Try.call90 _) (rshr_c s3 2 2 sh6 ls3 (by decide) hsh6) rfl fun ac w hs => ?_)
      exact ⟨g8, hs⟩
    · intro L ac w hJ
      obtain ⟨g8, hs⟩ := hJ
      refine wpO_plain rfl (op_call (F := 89) hs (some 3) (v := W r7) rfl rfl rfl rfl (Try.call89 _) (rfpow_c a sh6 r7 ha lsh6 hr7) rfl fun ac w hs => ?_)
      exact ⟨g8, hs⟩
    · intro L ac w hJ
      obtain ⟨g8, hs⟩ := hJ
      refine wpO_plain rfl (op_alloc hs (some 4) (some 3) (cs := [.int .u64 0, .int .u64 0, .int .u64 0, .int .u64 0]) rfl rfl Try.zeroValue24 (by kernel_rfl) rfl rfl fun g8 ac w hs => ?_)
      exact ⟨g8, hs⟩
    · intro L ac w hJ
      obtain ⟨g8, hs⟩ := hJ
      refine wpO_plain rfl (op_store hs 3 (vs := (Wl r7)) rfl rfl rfl rfl rfl Try.sizeOf24 rfl rfl rfl rfl rfl fun w hs => ?_)
      exact ⟨g8, hs⟩
  intro ac w hJ
  obtain ⟨g8, hs⟩ := hJ
  replace hs : St 31 w0 [(13, true, W a), (14, true, W s3), (15, true, W sh6), (16, true, W r7), (6, true, .pointer (some ⟨g8, 0, none⟩)), (1, true, .pointer (some ⟨g1, 0, none⟩)), (2, true, .pointer (some ⟨g2, 0, none⟩)), (3, true, .bool false), (4, true, .pointer (some ⟨g5, 0, none⟩))] [(true, g1, 24, (Wl a)), (true, g2, 24, [.int .u64 0, .int .u64 0, .int .u64 0, .int .u64 0]), (true, g5, 24, (Wl s3)), (true, g8, 24, (Wl r7))] ac w := hs
  refine then_n ?_
  refine wp_seq ?_
  refine wp_seq ?_
  replace hs : St 31 w0 [(1, true, .pointer (some ⟨g1, 0, none⟩)), (2, true, .pointer (some ⟨g2, 0, none⟩)), (3, true, .bool false), (6, true, .pointer (some ⟨g8, 0, none⟩))] [(true, g1, 24, (Wl a)), (true, g2, 24, [.int .u64 0, .int .u64 0, .int .u64 0, .int .u64 0]), (true, g5, 24, (Wl s3)), (true, g8, 24, (Wl r7))] ac _ := hs.re ⟨rfl, rfl, rfl, rfl, trivial⟩
  obtain ⟨r9, hr9, lr9⟩ : ∃ z0, r7 * r7 % Pf = z0 ∧ z0 < 2 ^ 256 := ⟨_, rfl, modP_lt _⟩
  obtain ⟨r10, hr10, lr10⟩ : ∃ z0, a % Pf = z0 ∧ z0 < 2 ^ 256 := ⟨_, rfl, modP_lt _⟩
  refine region_inv [([], [2, 4, 5]), ([], [2, 4, 5]), ([0, 1], [4, 5]), ([], [4, 5]), ([0, 1, 2, 3], [5]), ([0, 1, 2, 3, 4], [])] (fun L ac w => St 31 w0 [(17, L 0, W r7), (18, L 1, W r7), (19, L 2, W r9), (20, L 3, W a), (21, L 4, W r10), (22, L 5, .bool (decide (r9 ≠ r10))), (1, true, .pointer (some ⟨g1, 0, none⟩)), (2, true, .pointer (some ⟨g2, 0, none⟩)), (3, true, .bool false), (6, true, .pointer (some ⟨g8, 0, none⟩))] [(true, g1, 24, (Wl a)), (true, g2, 24, [.int .u64 0, .int .u64 0, .int .u64 0, .int .u64 0]), (true, g5, 24, (Wl s3)), (true, g8, 24, (Wl r7))] ac w) (by kernel_rfl) (by kernel_rfl) ?_ ?_ ?_
  · exact hs.drew.skip.skip.skip.skip.skip.skip
  · refine ⟨?_, ?_, ?_, ?_, ?_, ?_, trivial⟩
    · intro L ac w hJ
      have hs := hJ
      refine wpO_plain rfl (op_load hs (some 0) 3 (v := W r7) rfl rfl rfl rfl Try.isAgg24 Try.sizeOf24 rfl rfl fun ac hs => ?_)
      exact hs
    · intro L ac w hJ
      have hs := hJ
      refine wpO_plain rfl (op_load hs (some 1) 3 (v := W r7) rfl rfl rfl rfl Try.isAgg24 Try.sizeOf24 rfl rfl fun ac hs => ?_)
      exact hs
    · intro L ac w hJ
      have hs := hJ
      refine wpO_plain rfl (op_call (F := 43) hs (some 2) (v := W r9) rfl rfl rfl rfl (Try.call43 _) (rfmul_c r7 r7 r9 lr7 lr7 hr9) rfl fun ac w hs => ?_)
      exact hs
    · intro L ac w hJ
      have hs := hJ
      refine wpO_plain rfl (op_load hs (some 3) 0 (v := W a) rfl rfl rfl rfl Try.isAgg24 Try.sizeOf24 rfl rfl fun ac hs => ?_)
      exact hs
    · intro L ac w hJ
      have hs := hJ
      refine wpO_plain rfl (op_call (F := 73) hs (some 4) (v := W r10) rfl rfl rfl rfl (Try.call73 _) (rfred_c a r10 ha hr10) rfl fun ac w hs => ?_)
      exact hs
    · intro L ac w hJ
      have hs := hJ
      refine wpO_plain rfl (op_bin hs (some 5) (v := .bool (decide (r9 ≠ r10))) rfl rfl rfl rfl (fun w => run_eqGuard_agg w .neq 24 _ _ _ _ Try.eqGuardType24) (neqW r9 r10 lr9 lr10 _ rfl) rfl fun ac hs => ?_)
      exact hs
  intro ac w hJ
  replace hs : St 31 w0 [(17, true, W r7), (18, true, W r7), (19, true, W r9), (20, true, W a), (21, true, W r10), (22, true, .bool (decide (r9 ≠ r10))), (1, true, .pointer (some ⟨g1, 0, none⟩)), (2, true, .pointer (some ⟨g2, 0, none⟩)), (3, true, .bool false), (6, true, .pointer (some ⟨g8, 0, none⟩))] [(true, g1, 24, (Wl a)), (true, g2, 24, [.int .u64 0, .int .u64 0, .int .u64 0, .int .u64 0]), (true, g5, 24, (Wl s3)), (true, g8, 24, (Wl r7))] ac w := hJ
  refine then_n ?_
  refine wp_cond_split (hs.ev rfl) (fun hc => ?_) (fun hc => ?_)
  · skip
    have hp11 := of_decide_eq_true hc
    refine wp_seq ?_
    refine wp_region_lit ?_
    refine lstep (wpO_plain rfl (op_build hs none (qs := []) (v := .agg #[.int .u64 0, .int .u64 0, .int .u64 0, .int .u64 0]) rfl rfl rfl rfl (fun _ => by kernel_rfl) rfl fun ac hs => ?_))
    refine lstep (wpO_plain rfl (op_store hs 1 (vs := [.int .u64 0, .int .u64 0, .int .u64 0, .int .u64 0]) rfl rfl rfl rfl rfl Try.sizeOf24 rfl rfl rfl rfl rfl fun w hs => ?_))
    refine lstep (wpO_plain rfl (op_assign hs none rfl rfl rfl rfl fun ac hs => ?_))
    refine wpList_nil ?_
    refine then_n ?_
    refine wp_ret ?_
    refine then_r ?_
    exact bodyPost_ret (res2 rfl (rv_c hs 1 (v := .agg #[.int .u64 0, .int .u64 0, .int .u64 0, .int .u64 0]) rfl rfl Try.isAgg24 Try.sizeOf24 rfl) (rv_t hs rfl)) hs.defers ⟨by rw [← hx, ← hq, (frV_no (frt_of hr7 (hsh6.symm.trans (hs3 ▸ by decide))) hr9 hr10 hp11).1, (frV_no (frt_of hr7 (hsh6.symm.trans (hs3 ▸ by decide))) hr9 hr10 hp11).2]; first | done | rfl, hs.below⟩
  · skip
    have hp12 := of_decide_eq_false hc
    refine wp_skip ?_
    refine then_n ?_
    refine wp_seq ?_
    refine wp_seq ?_
    refine wp_region_lit ?_
    refine lstep (wpO_plain rfl (op_idxA hs none (j := 0) rfl rfl rfl rfl Try.underlying24 Try.sizeOf22 (by decide) (off := 0) rfl rfl fun ac hs => ?_))
    have l13 := limN_lt r7 0
    refine lstep (wpO_plain rfl (op_load hs none 3 (v := .int .u64 (lim r7 0)) rfl rfl rfl rfl Try.isAgg22 Try.sizeOf22 rfl rfl fun ac hs => ?_))
    refine lstep (wpO_plain rfl (op_bin hs none (v := .int .u64 (((limN r7 0) % 2 : Nat) : Int)) rfl rfl rfl rfl (fun _ => rfl) (bin_remN (x := limN r7 0) (y := 2) (z := (limN r7 0) % 2) rfl (by decide)) rfl fun ac hs => ?_))
    refine lstep (wpO_plain rfl (op_bin hs none (v := .bool (decide ((limN r7 0) % 2 = 1))) rfl rfl rfl rfl (fun _ => rfl) (bin_eqlN (x := (limN r7 0) % 2) (y := 1)) rfl fun ac hs => ?_))
    refine wpList_nil ?_
    refine then_n ?_
    refine wp_cond_split (hs.ev rfl) (fun hc => ?_) (fun hc => ?_)
    · skip
      have hp14 := of_decide_eq_true hc
      refine wp_region_lit ?_
      refine lstep (wpO_plain rfl (op_load hs none 3 (v := W r7) rfl rfl rfl rfl Try.isAgg24 Try.sizeOf24 rfl rfl fun ac hs => ?_))
      obtain ⟨r15, hr15, lr15⟩ : ∃ z0, fsub 0 r7 = z0 ∧ z0 < 2 ^ 256 := ⟨_, rfl, fsub_lt _ _⟩
      refine lstep (wpO_plain rfl (op_call (F := 50) hs none (v := W r15) rfl rfl rfl rfl (Try.call50 _) (rfneg_c r7 r15 lr7 hr15) rfl fun ac w hs => ?_))
      refine lstep (wpO_plain rfl (op_store hs 3 (vs := (Wl r15)) rfl rfl rfl rfl rfl Try.sizeOf24 rfl rfl rfl rfl rfl fun w hs => ?_))
      refine wpList_nil ?_
      refine then_n ?_
      refine wp_seq ?_
      refine wp_region_lit ?_
      refine lstep (wpO_plain rfl (op_load hs none 3 (v := W r15) rfl rfl rfl rfl Try.isAgg24 Try.sizeOf24 rfl rfl fun ac hs => ?_))
      refine lstep (wpO_plain rfl (op_store hs 1 (vs := (Wl r15)) rfl rfl rfl rfl rfl Try.sizeOf24 rfl rfl rfl rfl rfl fun w hs => ?_))
      refine lstep (wpO_plain rfl (op_assign hs none rfl rfl rfl rfl fun ac hs => ?_))
      refine wpList_nil ?_
      refine then_n ?_
      refine wp_ret ?_
      exact bodyPost_ret (res2 rfl (rv_c hs 1 (v := W r15) rfl rfl Try.isAgg24 Try.sizeOf24 rfl) (rv_t hs rfl)) hs.defers ⟨by rw [← hx, ← hq, (frV_odd (frt_of hr7 (hsh6.symm.trans (hs3 ▸ by decide))) hr9 hr10 hp12 (by rw [← lim_odd]; exact hp14) hr15).1, (frV_odd (frt_of hr7 (hsh6.symm.trans (hs3 ▸ by decide))) hr9 hr10 hp12 (by rw [← lim_odd]; exact hp14) hr15).2]; first | done | rfl, hs.below⟩
    · skip
      have hp16 := of_decide_eq_false hc
      refine wp_skip ?_
      refine then_n ?_
      refine wp_seq ?_
      refine wp_region_lit ?_
      refine lstep (wpO_plain rfl (op_load hs none 3 (v := W r7) rfl rfl rfl rfl Try.isAgg24 Try.sizeOf24 rfl rfl fun ac hs => ?_))
      refine lstep (wpO_plain rfl (op_store hs 1 (vs := (Wl r7)) rfl rfl rfl rfl rfl Try.sizeOf24 rfl rfl rfl rfl rfl fun w hs => ?_))
      refine lstep (wpO_plain rfl (op_assign hs none rfl rfl rfl rfl fun ac hs => ?_))
      refine wpList_nil ?_
      refine then_n ?_
      refine wp_ret ?_
      exact bodyPost_ret (res2 rfl (rv_c hs 1 (v := W r7) rfl rfl Try.isAgg24 Try.sizeOf24 rfl) (rv_t hs rfl)) hs.defers ⟨by rw [← hx, ← hq, (frV_even (frt_of hr7 (hsh6.symm.trans (hs3 ▸ by decide))) hr9 hr10 hp12 (by rw [← lim_odd]; exact hp16)).1, (frV_even (frt_of hr7 (hsh6.symm.trans (hs3 ▸ by decide))) hr9 hr10 hp12 (by rw [← lim_odd]; exact hp16)).2]; first | done | rfl, hs.below⟩
end Go.Proofs.Ytmpejkhffbonnaa
