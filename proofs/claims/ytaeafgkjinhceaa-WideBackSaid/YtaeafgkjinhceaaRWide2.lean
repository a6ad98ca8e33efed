/- The contracts of shifts, bytes, quotients. -/
import Derived.Test.YtaeafgkjinhceaaWide2
import Derived.Test.YtaeafgkjinhceaaRef06
namespace Go.Proofs.Ytaeafgkjinhceaa
open Go.RowKit
set_option maxRecDepth 10000

theorem rshr_c (a : Nat) (n : Int) (nn x : Nat) (ha : a < 2 ^ 256) (hn : min (max n 0) 256 = (nn : Int)) (hx : a / 2 ^ nn = x) (w0 : World) : Calls Try.prog 28 #[W a, .int .i64 n] w0 fun e w' => e = .returned (W x) ∧ Below w0.heap.size w0 w' := by
  refine enter (n := 38) (args := [W a, .int .i64 n]) Try.func28 rfl rfl (Nat.le_of_ble_eq_true rfl) fun ac hs => ?_
  refine wp_seq ?_
  refine wp_region_lit ?_
  refine lstep (wpO_plain rfl (op_box hs none none (cs := (Wl a)) rfl rfl rfl rfl rfl rfl fun g1 ac w hs => ?_))
  refine lstep (wpO_plain rfl (op_alloc hs none none (cs := [.int .u64 0, .int .u64 0, .int .u64 0, .int .u64 0]) rfl rfl Try.zeroValue24 (by kernel_rfl) rfl rfl fun g2 ac w hs => ?_))
  refine wpList_nil ?_
  refine then_n ?_
  refine wp_seq ?_
  refine wp_region_lit ?_
  refine lstep (wpO_plain rfl (op_build hs none (qs := []) (v := .agg #[.int .u64 0, .int .u64 0, .int .u64 0, .int .u64 0]) rfl rfl rfl rfl (fun _ => by kernel_rfl) rfl fun ac hs => ?_))
  refine lstep (wpO_plain rfl (op_alloc hs none none (cs := [.int .u64 0, .int .u64 0, .int .u64 0, .int .u64 0]) rfl rfl Try.zeroValue24 (by kernel_rfl) rfl rfl fun g3 ac w hs => ?_))
  refine lstep (wpO_plain rfl (op_store hs 2 (vs := [.int .u64 0, .int .u64 0, .int .u64 0, .int .u64 0]) rfl rfl rfl rfl rfl Try.sizeOf24 rfl rfl rfl rfl rfl fun w hs => ?_))
  refine wpList_nil ?_
  refine then_n ?_
  refine wp_seq ?_
  refine wp_seq ?_
  refine wp_region_lit ?_
  refine lstep (wpO_plain rfl (op_assign hs none rfl rfl rfl rfl fun ac hs => ?_))
  refine wpList_nil ?_
  refine then_n ?_
  refine wp_block ?_
  refine wp_loop_m (fun μ ac w => ∃ (k : Nat) (o : Nat), (k) = μ ∧ (k ≤ 256) ∧ (o < 2 ^ 256) ∧ (a / 2 ^ nn / 2 ^ k = o) ∧ St 38 w0 [(1, true, .int .i64 n), (2, true, .pointer (some ⟨g1, 0, none⟩)), (4, true, .pointer (some ⟨g2, 0, none⟩)), (5, true, .pointer (some ⟨g3, 0, none⟩)), (6, true, .int .i64 (((k : Nat) : Int) - 1))] [(true, g1, 24, (Wl a)), (true, g2, 24, [.int .u64 0, .int .u64 0, .int .u64 0, .int .u64 0]), (true, g3, 24, (Wl o))] ac w) ?_ ?_
  · exact ⟨_, 256, 0, rfl, (by omega), (by decide), (Nat.div_eq_of_lt (div_lt256 ha)), (hs.re ⟨rfl, rfl, rfl, rfl, rfl, trivial⟩)⟩
  intro μ ac w ⟨k, o, hμ, hk, lo, ho, hs⟩
  refine wp_seq ?_
  refine wp_seq ?_
  refine wp_region_lit ?_
  refine lstep (wpO_plain rfl (op_move hs none rfl rfl rfl rfl fun ac hs => ?_))
  refine lstep (wpO_plain rfl (op_bin hs none (v := .bool (decide (1 ≤ k))) rfl rfl rfl rfl (fun _ => rfl) bin_geqP rfl fun ac hs => ?_))
  refine wpList_nil ?_
  refine then_n ?_
  refine wp_cond_split (hs.ev rfl) (fun hc => ?_) (fun hc => ?_)
  · skip
    have hp4 := of_decide_eq_true hc
    replace hs := hs.re (fs' := [(1, true, .int .i64 n), (2, true, .pointer (some ⟨g1, 0, none⟩)), (4, true, .pointer (some ⟨g2, 0, none⟩)), (5, true, .pointer (some ⟨g3, 0, none⟩)), (6, true, .int .i64 ((k - 1 : Nat) : Int)), (9, true, .int .i64 (((k : Nat) : Int) - 1)), (10, true, .bool (decide (1 ≤ k)))]) ⟨rfl, rfl, rfl, rfl, congrArg some (pre_nat hp4), rfl, rfl, trivial⟩
    refine wp_skip ?_
    refine then_n ?_
    refine wp_seq ?_
    refine wp_block ?_
    refine wp_seq ?_
    refine wp_region_lit ?_
    refine lstep (wpO_plain rfl (op_assign hs none rfl rfl rfl rfl fun ac hs => ?_))
    refine wpList_nil ?_
    refine then_n ?_
    refine wp_seq ?_
    refine wp_seq ?_
    refine wp_region_lit ?_
    refine lstep (wpO_plain rfl (op_move hs none rfl rfl rfl rfl fun ac hs => ?_))
    refine lstep (wpO_plain rfl (op_bin hs none (v := .bool (decide (n ≤ 0))) rfl rfl rfl rfl (fun _ => rfl) (bin_leqI (x := n) (y := 0)) rfl fun ac hs => ?_))
    refine wpList_nil ?_
    refine then_n ?_
    refine wp_cond_split (hs.ev rfl) (fun hc => ?_) (fun hc => ?_)
    · skip
      have hp5 := of_decide_eq_true hc
      have hn0 : nn = 0 := by omega
      refine wp_region_lit ?_
      refine lstep (wpO_plain rfl (op_load hs none 0 (v := W a) rfl rfl rfl rfl Try.isAgg24 Try.sizeOf24 rfl rfl fun ac hs => ?_))
      refine lstep (wpO_plain rfl (op_move hs none rfl rfl rfl rfl fun ac hs => ?_))
      obtain ⟨b6, hb6⟩ : ∃ z0, a / 2 ^ (k - 1) % 2 = z0 := ⟨_, rfl⟩
      have lb6 := bit_le hb6
      refine lstep (wpO_plain rfl (op_call (F := 44) hs none (v := .int .u64 ((b6 : Nat) : Int)) rfl rfl rfl rfl (Try.call44 _) (rbit_c a (k - 1) b6 (show k - 1 < 256 by omega) hb6) rfl fun ac w hs => ?_))
      refine lstep (wpO_plain rfl (op_assign hs none rfl rfl rfl rfl fun ac hs => ?_))
      refine wpList_nil ?_
      refine then_n ?_
      refine wp_region_lit ?_
      refine lstep (wpO_plain rfl (op_load hs none 2 (v := W o) rfl rfl rfl rfl Try.isAgg24 Try.sizeOf24 rfl rfl fun ac hs => ?_))
      refine lstep (wpO_plain rfl (op_move hs none rfl rfl rfl rfl fun ac hs => ?_))
      obtain ⟨t7, ht7, lt7⟩ : ∃ z0, (2 * o + b6) % 2 ^ 256 = z0 ∧ z0 < 2 ^ 256 := ⟨_, rfl, Nat.mod_lt _ (Nat.two_pow_pos 256)⟩
      obtain ⟨c8, hc8⟩ : ∃ z0, (2 * o + b6) / 2 ^ 256 = z0 := ⟨_, rfl⟩
      refine lstep (wpO_plain rfl (op_call (F := 47) hs none (v := .tuple #[W t7, .int .u64 ((c8 : Nat) : Int)]) rfl rfl rfl rfl (Try.call47 _) (rtwice_c o b6 t7 c8 lo (show b6 ≤ 1 by omega) ht7 hc8) rfl fun ac w hs => ?_))
      refine lstep (wpO_plain rfl (op_move hs none rfl rfl rfl rfl fun ac hs => ?_))
      refine lstep (wpO_plain rfl (op_extract hs none rfl rfl rfl rfl rfl fun ac hs => ?_))
      refine lstep (wpO_plain rfl (op_extract hs none rfl rfl rfl rfl rfl fun ac hs => ?_))
      refine lstep (wpO_plain rfl (op_store hs 2 (vs := (Wl t7)) rfl rfl rfl rfl rfl Try.sizeOf24 rfl rfl rfl rfl rfl fun w hs => ?_))
      refine wpList_nil ?_
      refine blk_n ?_
      refine then_n ?_
      refine wp_region_lit ?_
      refine lstep (wpO_plain rfl (op_move hs none rfl rfl rfl rfl fun ac hs => ?_))
      refine lstep (wpO_plain rfl (op_bin hs none (v := .int .i64 (((k - 1 : Nat) : Int) - 1)) rfl rfl rfl rfl (fun _ => rfl) (bin_subP (x := k - 1) (by omega)) rfl fun ac hs => ?_))
      refine lstep (wpO_plain rfl (op_assign hs none rfl rfl rfl rfl fun ac hs => ?_))
      refine wpList_nil ?_
      refine then_n ?_
      exact ⟨_, ⟨(k - 1), t7, rfl, (by omega), lt7, (rshr_step (div_lt256 ha) hp4 ho (by rw [hn0, Nat.pow_zero, Nat.div_one]; exact hb6) ht7), (hs.re ⟨rfl, rfl, rfl, rfl, rfl, trivial⟩)⟩, (by omega)⟩
    · skip
      have hp9 := of_decide_eq_false hc
      obtain ⟨m, hm⟩ : ∃ m : Nat, n = (m : Int) := ⟨n.toNat, by omega⟩
      replace hs := hs.re (fs' := [(1, true, .int .i64 ((m : Nat) : Int)), (2, true, .pointer (some ⟨g1, 0, none⟩)), (4, true, .pointer (some ⟨g2, 0, none⟩)), (5, true, .pointer (some ⟨g3, 0, none⟩)), (6, true, .int .i64 ((k - 1 : Nat) : Int)), (9, true, .int .i64 (((k : Nat) : Int) - 1)), (10, true, .bool (decide (1 ≤ k))), (7, true, .int .u64 0), (13, true, .int .i64 n), (14, true, .bool (decide (n ≤ 0)))]) ⟨congrArg some (show Value.int .i64 n = .int .i64 (m : Int) by rw [hm]), rfl, rfl, rfl, rfl, rfl, rfl, rfl, rfl, rfl, trivial⟩
      refine wp_seq ?_
      by_cases hq10 : m < 256
      · skip
        refine wp_region_lit ?_
        refine lstep (wpO_plain rfl (op_move hs none rfl rfl rfl rfl fun ac hs => ?_))
        refine lstep (wpO_plain rfl (op_bin hs none (v := .bool true) rfl rfl rfl rfl (fun _ => rfl) (fun w => dT hq10 (bin_lssN (x := m) (y := 256) w)) rfl fun ac hs => ?_))
        refine lstep (wpO_plain rfl (op_move hs none rfl rfl rfl rfl fun ac hs => ?_))
        refine lstep (wpO_in hs rfl rfl rfl (op_move hs none rfl rfl rfl rfl fun ac hs => ?_))
        refine lstep (wpO_in hs rfl rfl rfl (op_move hs none rfl rfl rfl rfl fun ac hs => ?_))
        refine lstep (wpO_in hs rfl rfl rfl (op_bin hs none (v := .int .i64 ((k - 1 + m : Nat) : Int)) rfl rfl rfl rfl (fun _ => rfl) (bin_addN (x := k - 1) (y := m) (z := k - 1 + m) rfl (show k - 1 + m < 9223372036854775808 by omega)) rfl fun ac hs => ?_))
        refine lstep (wpO_in hs rfl rfl rfl (op_bin hs none (v := .bool (decide (k - 1 + m < 256))) rfl rfl rfl rfl (fun _ => rfl) (bin_lssN (x := k - 1 + m) (y := 256)) rfl fun ac hs => ?_))
        refine lstep (wpO_plain rfl (op_pickT hs none rfl rfl rfl rfl rfl fun ac hs => ?_))
        refine wpList_nil ?_
        refine then_n ?_
        refine wp_cond_split (hs.ev rfl) (fun hc => ?_) (fun hc => ?_)
        · skip
          have hp11 := of_decide_eq_true hc
          refine wp_region_lit ?_
          refine lstep (wpO_plain rfl (op_load hs none 0 (v := W a) rfl rfl rfl rfl Try.isAgg24 Try.sizeOf24 rfl rfl fun ac hs => ?_))
          refine lstep (wpO_plain rfl (op_move hs none rfl rfl rfl rfl fun ac hs => ?_))
          refine lstep (wpO_plain rfl (op_move hs none rfl rfl rfl rfl fun ac hs => ?_))
          refine lstep (wpO_plain rfl (op_bin hs none (v := .int .i64 ((k - 1 + m : Nat) : Int)) rfl rfl rfl rfl (fun _ => rfl) (bin_addN (x := k - 1) (y := m) (z := k - 1 + m) rfl (show k - 1 + m < 9223372036854775808 by omega)) rfl fun ac hs => ?_))
          obtain ⟨b12, hb12⟩ : ∃ z0, a / 2 ^ (k - 1 + m) % 2 = z0 := ⟨_, rfl⟩
          have lb12 := bit_le hb12
          refine lstep (wpO_plain rfl (op_call (F := 44) hs none (v := .int .u64 ((b12 : Nat) : Int)) rfl rfl rfl rfl (Try.call44 _) (rbit_c a (k - 1 + m) b12 (show k - 1 + m < 256 by omega) hb12) rfl fun ac w hs => ?_))
          refine lstep (wpO_plain rfl (op_assign hs none rfl rfl rfl rfl fun ac hs => ?_))
          refine wpList_nil ?_
          refine then_n ?_
          refine wp_region_lit ?_
          refine lstep (wpO_plain rfl (op_load hs none 2 (v := W o) rfl rfl rfl rfl Try.isAgg24 Try.sizeOf24 rfl rfl fun ac hs => ?_))
          refine lstep (wpO_plain rfl (op_move hs none rfl rfl rfl rfl fun ac hs => ?_))
          obtain ⟨t13, ht13, lt13⟩ : ∃ z0, (2 * o + b12) % 2 ^ 256 = z0 ∧ z0 < 2 ^ 256 := ⟨_, rfl, Nat.mod_lt _ (Nat.two_pow_pos 256)⟩
          obtain ⟨c14, hc14⟩ : ∃ z0, (2 * o + b12) / 2 ^ 256 = z0 := ⟨_, rfl⟩
          refine lstep (wpO_plain rfl (op_call (F := 47) hs none (v := .tuple #[W t13, .int .u64 ((c14 : Nat) : Int)]) rfl rfl rfl rfl (Try.call47 _) (rtwice_c o b12 t13 c14 lo (show b12 ≤ 1 by omega) ht13 hc14) rfl fun ac w hs => ?_))
          refine lstep (wpO_plain rfl (op_move hs none rfl rfl rfl rfl fun ac hs => ?_))
          refine lstep (wpO_plain rfl (op_extract hs none rfl rfl rfl rfl rfl fun ac hs => ?_))
          refine lstep (wpO_plain rfl (op_extract hs none rfl rfl rfl rfl rfl fun ac hs => ?_))
          refine lstep (wpO_plain rfl (op_store hs 2 (vs := (Wl t13)) rfl rfl rfl rfl rfl Try.sizeOf24 rfl rfl rfl rfl rfl fun w hs => ?_))
          refine wpList_nil ?_
          refine blk_n ?_
          refine then_n ?_
          refine wp_region_lit ?_
          refine lstep (wpO_plain rfl (op_move hs none rfl rfl rfl rfl fun ac hs => ?_))
          refine lstep (wpO_plain rfl (op_bin hs none (v := .int .i64 (((k - 1 : Nat) : Int) - 1)) rfl rfl rfl rfl (fun _ => rfl) (bin_subP (x := k - 1) (by omega)) rfl fun ac hs => ?_))
          refine lstep (wpO_plain rfl (op_assign hs none rfl rfl rfl rfl fun ac hs => ?_))
          refine wpList_nil ?_
          refine then_n ?_
          exact ⟨_, ⟨(k - 1), t13, rfl, (by omega), lt13, (rshr_step (div_lt256 ha) hp4 ho (by rw [← rshr_bit, show nn = m by omega]; exact hb12) ht13), (hs.re ⟨(congrArg some (show Value.int .i64 (m : Int) = .int .i64 n by rw [hm])), rfl, rfl, rfl, rfl, trivial⟩)⟩, (by omega)⟩
        · skip
          have hp15 := of_decide_eq_false hc
          refine wp_skip ?_
          refine then_n ?_
          refine wp_region_lit ?_
          refine lstep (wpO_plain rfl (op_load hs none 2 (v := W o) rfl rfl rfl rfl Try.isAgg24 Try.sizeOf24 rfl rfl fun ac hs => ?_))
          refine lstep (wpO_plain rfl (op_move hs none rfl rfl rfl rfl fun ac hs => ?_))
          obtain ⟨t16, ht16, lt16⟩ : ∃ z0, (2 * o + 0) % 2 ^ 256 = z0 ∧ z0 < 2 ^ 256 := ⟨_, rfl, Nat.mod_lt _ (Nat.two_pow_pos 256)⟩
          obtain ⟨c17, hc17⟩ : ∃ z0, (2 * o + 0) / 2 ^ 256 = z0 := ⟨_, rfl⟩
          refine lstep (wpO_plain rfl (op_call (F := 47) hs none (v := .tuple #[W t16, .int .u64 ((c17 : Nat) : Int)]) rfl rfl rfl rfl (Try.call47 _) (rtwice_c o 0 t16 c17 lo (show 0 ≤ 1 by omega) ht16 hc17) rfl fun ac w hs => ?_))
          refine lstep (wpO_plain rfl (op_move hs none rfl rfl rfl rfl fun ac hs => ?_))
          refine lstep (wpO_plain rfl (op_extract hs none rfl rfl rfl rfl rfl fun ac hs => ?_))
          refine lstep (wpO_plain rfl (op_extract hs none rfl rfl rfl rfl rfl fun ac hs => ?_))
          refine lstep (wpO_plain rfl (op_store hs 2 (vs := (Wl t16)) rfl rfl rfl rfl rfl Try.sizeOf24 rfl rfl rfl rfl rfl fun w hs => ?_))
          refine wpList_nil ?_
          refine blk_n ?_
          refine then_n ?_
          refine wp_region_lit ?_
          refine lstep (wpO_plain rfl (op_move hs none rfl rfl rfl rfl fun ac hs => ?_))
          refine lstep (wpO_plain rfl (op_bin hs none (v := .int .i64 (((k - 1 : Nat) : Int) - 1)) rfl rfl rfl rfl (fun _ => rfl) (bin_subP (x := k - 1) (by omega)) rfl fun ac hs => ?_))
          refine lstep (wpO_plain rfl (op_assign hs none rfl rfl rfl rfl fun ac hs => ?_))
          refine wpList_nil ?_
          refine then_n ?_
          exact ⟨_, ⟨(k - 1), t16, rfl, (by omega), lt16, (rshr_step (div_lt256 ha) hp4 ho (rshr_bit0 ha (by omega)) ht16), (hs.re ⟨(congrArg some (show Value.int .i64 (m : Int) = .int .i64 n by rw [hm])), rfl, rfl, rfl, rfl, trivial⟩)⟩, (by omega)⟩
      · skip
        refine wp_region_lit ?_
        refine lstep (wpO_plain rfl (op_move hs none rfl rfl rfl rfl fun ac hs => ?_))
        refine lstep (wpO_plain rfl (op_bin hs none (v := .bool false) rfl rfl rfl rfl (fun _ => rfl) (fun w => dF hq10 (bin_lssN (x := m) (y := 256) w)) rfl fun ac hs => ?_))
        refine lstep (wpO_plain rfl (op_move hs none rfl rfl rfl rfl fun ac hs => ?_))
        refine lstep (wpO_out hs none rfl rfl (.inl rfl) rfl rfl fun ac hs => ?_)
        refine lstep (wpO_out hs none rfl rfl (.inl rfl) rfl rfl fun ac hs => ?_)
        refine lstep (wpO_out hs none rfl rfl (.inl rfl) rfl rfl fun ac hs => ?_)
        refine lstep (wpO_out hs none rfl rfl (.inl rfl) rfl rfl fun ac hs => ?_)
        refine lstep (wpO_plain rfl (op_pickF hs none rfl rfl rfl rfl rfl fun ac hs => ?_))
        refine wpList_nil ?_
        refine then_n ?_
        refine wp_cond_false (hs.ev rfl) ?_
        refine wp_skip ?_
        refine then_n ?_
        refine wp_region_lit ?_
        refine lstep (wpO_plain rfl (op_load hs none 2 (v := W o) rfl rfl rfl rfl Try.isAgg24 Try.sizeOf24 rfl rfl fun ac hs => ?_))
        refine lstep (wpO_plain rfl (op_move hs none rfl rfl rfl rfl fun ac hs => ?_))
        obtain ⟨t18, ht18, lt18⟩ : ∃ z0, (2 * o + 0) % 2 ^ 256 = z0 ∧ z0 < 2 ^ 256 := ⟨_, rfl, Nat.mod_lt _ (Nat.two_pow_pos 256)⟩
        obtain ⟨c19, hc19⟩ : ∃ z0, (2 * o + 0) / 2 ^ 256 = z0 := ⟨_, rfl⟩
        refine lstep (wpO_plain rfl (op_call (F := 47) hs none (v := .tuple #[W t18, .int .u64 ((c19 : Nat) : Int)]) rfl rfl rfl rfl (Try.call47 _) (rtwice_c o 0 t18 c19 lo (show 0 ≤ 1 by omega) ht18 hc19) rfl fun ac w hs => ?_))
        refine lstep (wpO_plain rfl (op_move hs none rfl rfl rfl rfl fun ac hs => ?_))
        refine lstep (wpO_plain rfl (op_extract hs none rfl rfl rfl rfl rfl fun ac hs => ?_))
        refine lstep (wpO_plain rfl (op_extract hs none rfl rfl rfl rfl rfl fun ac hs => ?_))
        refine lstep (wpO_plain rfl (op_store hs 2 (vs := (Wl t18)) rfl rfl rfl rfl rfl Try.sizeOf24 rfl rfl rfl rfl rfl fun w hs => ?_))
        refine wpList_nil ?_
        refine blk_n ?_
        refine then_n ?_
        refine wp_region_lit ?_
        refine lstep (wpO_plain rfl (op_move hs none rfl rfl rfl rfl fun ac hs => ?_))
        refine lstep (wpO_plain rfl (op_bin hs none (v := .int .i64 (((k - 1 : Nat) : Int) - 1)) rfl rfl rfl rfl (fun _ => rfl) (bin_subP (x := k - 1) (by omega)) rfl fun ac hs => ?_))
        refine lstep (wpO_plain rfl (op_assign hs none rfl rfl rfl rfl fun ac hs => ?_))
        refine wpList_nil ?_
        refine then_n ?_
        exact ⟨_, ⟨(k - 1), t18, rfl, (by omega), lt18, (rshr_step (div_lt256 ha) hp4 ho (rshr_bit0 ha (by omega)) ht18), (hs.re ⟨(congrArg some (show Value.int .i64 (m : Int) = .int .i64 n by rw [hm])), rfl, rfl, rfl, rfl, trivial⟩)⟩, (by omega)⟩
  · skip
    have hp20 := of_decide_eq_false hc
    obtain rfl : k = 0 := by omega
    refine wp_exit ?_
    refine then_e ?_
    refine then_e ?_
    refine blk_e ?_
    refine then_n ?_
    refine wp_seq ?_
    refine wp_region_lit ?_
    refine lstep (wpO_plain rfl (op_load hs none 2 (v := W o) rfl rfl rfl rfl Try.isAgg24 Try.sizeOf24 rfl rfl fun ac hs => ?_))
    refine lstep (wpO_plain rfl (op_store hs 1 (vs := (Wl o)) rfl rfl rfl rfl rfl Try.sizeOf24 rfl rfl rfl rfl rfl fun w hs => ?_))
    refine wpList_nil ?_
    refine then_n ?_
    refine wp_ret ?_
    exact bodyPost_ret (res1 rfl (rv_c hs 1 (v := W o) rfl rfl Try.isAgg24 Try.sizeOf24 rfl)) hs.defers ⟨by rw [← hx, ← ho, Nat.pow_zero, Nat.div_one], hs.below⟩
theorem rshl_c (a : Nat) (n : Int) (nn x : Nat) (ha : a < 2 ^ 256) (hn : min (max n 0) 256 = (nn : Int)) (hx : a * 2 ^ nn % 2 ^ 256 = x) (w0 : World) : Calls Try.prog 26 #[W a, .int .i64 n] w0 fun e w' => e = .returned (W x) ∧ Below w0.heap.size w0 w' := by
  have hnn : nn ≤ 256 := by omega
  refine enter (n := 21) (args := [W a, .int .i64 n]) Try.func26 rfl rfl (Nat.le_of_ble_eq_true rfl) fun ac hs => ?_
  refine wp_seq ?_
  refine wp_region_lit ?_
  refine lstep (wpO_plain rfl (op_box hs none none (cs := (Wl a)) rfl rfl rfl rfl rfl rfl fun g1 ac w hs => ?_))
  refine lstep (wpO_plain rfl (op_alloc hs none none (cs := [.int .u64 0, .int .u64 0, .int .u64 0, .int .u64 0]) rfl rfl Try.zeroValue24 (by kernel_rfl) rfl rfl fun g2 ac w hs => ?_))
  refine wpList_nil ?_
  refine then_n ?_
  refine wp_seq ?_
  refine wp_seq ?_
  refine wp_region_lit ?_
  refine lstep (wpO_plain rfl (op_assign hs none rfl rfl rfl rfl fun ac hs => ?_))
  refine wpList_nil ?_
  refine then_n ?_
  refine wp_block ?_
  refine wp_loop_m (fun μ ac w => ∃ (i : Nat) (y : Nat), (nn - i) = μ ∧ (i ≤ nn) ∧ (y < 2 ^ 256) ∧ (a * 2 ^ i % 2 ^ 256 = y) ∧ St 21 w0 [(1, true, .int .i64 n), (2, true, .pointer (some ⟨g1, 0, none⟩)), (4, true, .pointer (some ⟨g2, 0, none⟩)), (5, true, .int .i64 ((i : Nat) : Int))] [(true, g1, 24, (Wl y)), (true, g2, 24, [.int .u64 0, .int .u64 0, .int .u64 0, .int .u64 0])] ac w) ?_ ?_
  · exact ⟨_, 0, a, rfl, (by omega), ha, (by rw [Nat.pow_zero, Nat.mul_one, Nat.mod_eq_of_lt ha]), (hs.re ⟨rfl, rfl, rfl, rfl, trivial⟩)⟩
  intro μ ac w ⟨i, y, hμ, hi, ly, hy, hs⟩
  refine wp_seq ?_
  refine wp_seq ?_
  by_cases hq3 : ((i : Nat) : Int) < n
  · skip
    refine wp_region_lit ?_
    refine lstep (wpO_plain rfl (op_move hs none rfl rfl rfl rfl fun ac hs => ?_))
    refine lstep (wpO_plain rfl (op_move hs none rfl rfl rfl rfl fun ac hs => ?_))
    refine lstep (wpO_plain rfl (op_bin hs none (v := .bool true) rfl rfl rfl rfl (fun _ => rfl) (fun w => dT hq3 (bin_lssI (x := ((i : Nat) : Int)) (y := n) w)) rfl fun ac hs => ?_))
    refine lstep (wpO_plain rfl (op_move hs none rfl rfl rfl rfl fun ac hs => ?_))
    refine lstep (wpO_in hs rfl rfl rfl (op_move hs none rfl rfl rfl rfl fun ac hs => ?_))
    refine lstep (wpO_in hs rfl rfl rfl (op_bin hs none (v := .bool (decide (i < 256))) rfl rfl rfl rfl (fun _ => rfl) (bin_lssN (x := i) (y := 256)) rfl fun ac hs => ?_))
    refine lstep (wpO_plain rfl (op_pickT hs none rfl rfl rfl rfl rfl fun ac hs => ?_))
    refine wpList_nil ?_
    refine then_n ?_
    refine wp_cond_split (hs.ev rfl) (fun hc => ?_) (fun hc => ?_)
    · skip
      have hp4 := of_decide_eq_true hc
      refine wp_skip ?_
      refine then_n ?_
      refine wp_seq ?_
      refine wp_block ?_
      refine wp_region_lit ?_
      refine lstep (wpO_plain rfl (op_load hs none 0 (v := W y) rfl rfl rfl rfl Try.isAgg24 Try.sizeOf24 rfl rfl fun ac hs => ?_))
      obtain ⟨t5, ht5, lt5⟩ : ∃ z0, (2 * y + 0) % 2 ^ 256 = z0 ∧ z0 < 2 ^ 256 := ⟨_, rfl, Nat.mod_lt _ (Nat.two_pow_pos 256)⟩
      obtain ⟨c6, hc6⟩ : ∃ z0, (2 * y + 0) / 2 ^ 256 = z0 := ⟨_, rfl⟩
      refine lstep (wpO_plain rfl (op_call (F := 47) hs none (v := .tuple #[W t5, .int .u64 ((c6 : Nat) : Int)]) rfl rfl rfl rfl (Try.call47 _) (rtwice_c y 0 t5 c6 ly (show 0 ≤ 1 by omega) ht5 hc6) rfl fun ac w hs => ?_))
      refine lstep (wpO_plain rfl (op_move hs none rfl rfl rfl rfl fun ac hs => ?_))
      refine lstep (wpO_plain rfl (op_extract hs none rfl rfl rfl rfl rfl fun ac hs => ?_))
      refine lstep (wpO_plain rfl (op_extract hs none rfl rfl rfl rfl rfl fun ac hs => ?_))
      refine lstep (wpO_plain rfl (op_store hs 0 (vs := (Wl t5)) rfl rfl rfl rfl rfl Try.sizeOf24 rfl rfl rfl rfl rfl fun w hs => ?_))
      refine wpList_nil ?_
      refine blk_n ?_
      refine then_n ?_
      refine wp_region_lit ?_
      refine lstep (wpO_plain rfl (op_move hs none rfl rfl rfl rfl fun ac hs => ?_))
      refine lstep (wpO_plain rfl (op_bin hs none (v := .int .i64 ((i + 1 : Nat) : Int)) rfl rfl rfl rfl (fun _ => rfl) (bin_addN (x := i) (y := 1) (z := i + 1) rfl (show i + 1 < 9223372036854775808 by omega)) rfl fun ac hs => ?_))
      refine lstep (wpO_plain rfl (op_assign hs none rfl rfl rfl rfl fun ac hs => ?_))
      refine wpList_nil ?_
      refine then_n ?_
      exact ⟨_, ⟨(i + 1), t5, rfl, (by omega), lt5, (rshl_step hy ht5), (hs.re ⟨rfl, rfl, rfl, rfl, trivial⟩)⟩, (by omega)⟩
    · skip
      have hp7 := of_decide_eq_false hc
      refine wp_exit ?_
      refine then_e ?_
      refine then_e ?_
      refine blk_e ?_
      refine then_n ?_
      refine wp_seq ?_
      refine wp_region_lit ?_
      refine lstep (wpO_plain rfl (op_load hs none 0 (v := W y) rfl rfl rfl rfl Try.isAgg24 Try.sizeOf24 rfl rfl fun ac hs => ?_))
      refine lstep (wpO_plain rfl (op_store hs 1 (vs := (Wl y)) rfl rfl rfl rfl rfl Try.sizeOf24 rfl rfl rfl rfl rfl fun w hs => ?_))
      refine wpList_nil ?_
      refine then_n ?_
      refine wp_ret ?_
      exact bodyPost_ret (res1 rfl (rv_c hs 1 (v := W y) rfl rfl Try.isAgg24 Try.sizeOf24 rfl)) hs.defers ⟨by rw [← hx, ← hy, show i = nn by omega], hs.below⟩
  · skip
    refine wp_region_lit ?_
    refine lstep (wpO_plain rfl (op_move hs none rfl rfl rfl rfl fun ac hs => ?_))
    refine lstep (wpO_plain rfl (op_move hs none rfl rfl rfl rfl fun ac hs => ?_))
    refine lstep (wpO_plain rfl (op_bin hs none (v := .bool false) rfl rfl rfl rfl (fun _ => rfl) (fun w => dF hq3 (bin_lssI (x := ((i : Nat) : Int)) (y := n) w)) rfl fun ac hs => ?_))
    refine lstep (wpO_plain rfl (op_move hs none rfl rfl rfl rfl fun ac hs => ?_))
    refine lstep (wpO_out hs none rfl rfl (.inl rfl) rfl rfl fun ac hs => ?_)
    refine lstep (wpO_out hs none rfl rfl (.inl rfl) rfl rfl fun ac hs => ?_)
    refine lstep (wpO_plain rfl (op_pickF hs none rfl rfl rfl rfl rfl fun ac hs => ?_))
    refine wpList_nil ?_
    refine then_n ?_
    refine wp_cond_false (hs.ev rfl) ?_
    refine wp_exit ?_
    refine then_e ?_
    refine then_e ?_
    refine blk_e ?_
    refine then_n ?_
    refine wp_seq ?_
    refine wp_region_lit ?_
    refine lstep (wpO_plain rfl (op_load hs none 0 (v := W y) rfl rfl rfl rfl Try.isAgg24 Try.sizeOf24 rfl rfl fun ac hs => ?_))
    refine lstep (wpO_plain rfl (op_store hs 1 (vs := (Wl y)) rfl rfl rfl rfl rfl Try.sizeOf24 rfl rfl rfl rfl rfl fun w hs => ?_))
    refine wpList_nil ?_
    refine then_n ?_
    refine wp_ret ?_
    exact bodyPost_ret (res1 rfl (rv_c hs 1 (v := W y) rfl rfl Try.isAgg24 Try.sizeOf24 rfl)) hs.defers ⟨by rw [← hx, ← hy, show i = nn by omega], hs.below⟩
theorem rbytes_c (a : Nat) (ha : a < 2 ^ 256) (w0 : World) : Calls Try.prog 34 #[W a] w0 fun e w' => e = .returned (At .u8 32 (by8 a)) ∧ Below w0.heap.size w0 w' := by
  refine enter (n := 25) (args := [W a]) Try.func34 rfl rfl (Nat.le_of_ble_eq_true rfl) fun ac hs => ?_
  refine wp_seq ?_
  refine wp_region_lit ?_
  refine lstep (wpO_plain rfl (op_box hs none none (cs := (Wl a)) rfl rfl rfl rfl rfl rfl fun g1 ac w hs => ?_))
  refine lstep (wpO_plain rfl (op_alloc hs none none (cs := (tab .u8 32 (fun _ => 0))) rfl rfl Try.zeroValue42 (by kernel_rfl) rfl rfl fun g2 ac w hs => ?_))
  refine wpList_nil ?_
  refine then_n ?_
  refine wp_seq ?_
  refine wp_region_lit ?_
  refine lstep (wpO_plain rfl (op_build hs none (qs := []) (v := At .u8 32 (fun _ => 0)) rfl rfl rfl rfl (fun _ => by kernel_rfl) rfl fun ac hs => ?_))
  refine lstep (wpO_plain rfl (op_alloc hs none none (cs := (tab .u8 32 (fun _ => 0))) rfl rfl Try.zeroValue42 (by kernel_rfl) rfl rfl fun g3 ac w hs => ?_))
  refine lstep (wpO_plain rfl (op_store hs 2 (vs := (tab .u8 32 (fun _ => 0))) rfl rfl rfl rfl rfl Try.sizeOf42 (by kernel_rfl) tab_length' (tab_one _ _ _) tab_leA wr_tab fun w hs => ?_))
  refine wpList_nil ?_
  refine then_n ?_
  refine wp_seq ?_
  refine wp_seq ?_
  refine wp_region_lit ?_
  refine lstep (wpO_plain rfl (op_assign hs none rfl rfl rfl rfl fun ac hs => ?_))
  refine wpList_nil ?_
  refine then_n ?_
  refine wp_block ?_
  refine wp_loop_m (fun μ ac w => ∃ (i : Nat) (f : Nat → Nat), (32 - i) = μ ∧ (i ≤ 32) ∧ (∀ j, j < 32 → f j = byf a i j) ∧ St 25 w0 [(1, true, .pointer (some ⟨g1, 0, none⟩)), (2, true, .pointer (some ⟨g2, 0, none⟩)), (3, true, .pointer (some ⟨g3, 0, none⟩)), (4, true, .int .i64 ((i : Nat) : Int))] [(true, g1, 24, (Wl a)), (true, g2, 42, (tab .u8 32 (fun _ => 0))), (true, g3, 42, (tab .u8 32 f))] ac w) ?_ ?_
  · exact ⟨_, 0, (fun _ => 0), rfl, (by omega), byte_start, (hs.re ⟨rfl, rfl, rfl, rfl, trivial⟩)⟩
  intro μ ac w ⟨i, f, hμ, hi, hf, hs⟩
  refine wp_seq ?_
  refine wp_seq ?_
  refine wp_region_lit ?_
  refine lstep (wpO_plain rfl (op_move hs none rfl rfl rfl rfl fun ac hs => ?_))
  refine lstep (wpO_plain rfl (op_bin hs none (v := .bool (decide (i < 32))) rfl rfl rfl rfl (fun _ => rfl) (bin_lssN (x := i) (y := 32)) rfl fun ac hs => ?_))
  refine wpList_nil ?_
  refine then_n ?_
  refine wp_cond_split (hs.ev rfl) (fun hc => ?_) (fun hc => ?_)
  · skip
    have hp4 := of_decide_eq_true hc
    have hlt : i < 32 := of_decide_eq_true hc
    refine wp_skip ?_
    refine then_n ?_
    refine wp_seq ?_
    refine wp_block ?_
    refine wp_region_lit ?_
    refine lstep (wpO_plain rfl (op_move hs none rfl rfl rfl rfl fun ac hs => ?_))
    refine lstep (wpO_plain rfl (op_bin hs none (v := .int .i64 ((31 - i : Nat) : Int)) rfl rfl rfl rfl (fun _ => rfl) (bin_subN (x := 31) (y := i) (z := 31 - i) (by omega) (show 31 - i < 9223372036854775808 by omega)) rfl fun ac hs => ?_))
    refine lstep (wpO_plain rfl (op_move hs none rfl rfl rfl rfl fun ac hs => ?_))
    refine lstep (wpO_plain rfl (op_bin hs none (v := .int .i64 ((i / 8 : Nat) : Int)) rfl rfl rfl rfl (fun _ => rfl) (bin_quoN (x := i) (y := 8) (z := i / 8) rfl (by decide) (show i < 9223372036854775808 by omega)) rfl fun ac hs => ?_))
    refine lstep (wpO_plain rfl (op_idxA hs none (j := i / 8) rfl rfl rfl rfl Try.underlying24 Try.sizeOf22 (show i / 8 < 4 by omega) (off := i / 8) (by omega) rfl fun ac hs => ?_))
    have l5 := limN_lt a (i / 8)
    refine lstep (wpO_plain rfl (op_load hs none 0 (v := .int .u64 ((limN a (i / 8) : Nat) : Int)) rfl rfl rfl rfl Try.isAgg22 Try.sizeOf22 (Wl_get (j := i / 8) (show i / 8 < 4 by omega)) rfl fun ac hs => ?_))
    refine lstep (wpO_plain rfl (op_move hs none rfl rfl rfl rfl fun ac hs => ?_))
    refine lstep (wpO_plain rfl (op_bin hs none (v := .int .i64 ((i % 8 : Nat) : Int)) rfl rfl rfl rfl (fun _ => rfl) (bin_remN (x := i) (y := 8) (z := i % 8) rfl (by decide)) rfl fun ac hs => ?_))
    refine lstep (wpO_plain rfl (op_bin hs none (v := .int .i64 ((8 * (i % 8) : Nat) : Int)) rfl rfl rfl rfl (fun _ => rfl) (bin_mulN (x := 8) (y := i % 8) (z := 8 * (i % 8)) rfl (show 8 * (i % 8) < 9223372036854775808 by omega)) rfl fun ac hs => ?_))
    refine lstep (wpO_plain rfl (op_convert hs none (v := .int .u64 ((8 * (i % 8) : Nat) : Int)) rfl rfl rfl (conv_N Try.underlying3 Try.underlying64 (show 8 * (i % 8) < 18446744073709551616 by omega)) rfl fun ac hs => ?_))
    refine lstep (wpO_plain rfl (op_bin hs none (v := .int .u64 ((2 ^ (8 * (i % 8)) : Nat) : Int)) rfl rfl rfl rfl (fun _ => rfl) (bin_shlM (x := 1) (y := 8 * (i % 8)) (z := 2 ^ (8 * (i % 8))) rfl (pow_mod64 (show 8 * (i % 8) < 64 by omega))) rfl fun ac hs => ?_))
    refine lstep (wpO_plain rfl (op_bin hs none (v := .int .u64 (((limN a (i / 8)) / (2 ^ (8 * (i % 8))) : Nat) : Int)) rfl rfl rfl rfl (fun _ => rfl) (bin_quoN (x := limN a (i / 8)) (y := 2 ^ (8 * (i % 8))) (z := (limN a (i / 8)) / (2 ^ (8 * (i % 8)))) rfl (Nat.ne_of_gt (Nat.two_pow_pos _)) (limN_lt _ _)) rfl fun ac hs => ?_))
    refine lstep (wpO_plain rfl (op_convert hs none (v := .int .u8 ((((limN a (i / 8)) / (2 ^ (8 * (i % 8)))) % 256 : Nat) : Int)) rfl rfl rfl (conv_M (z := ((limN a (i / 8)) / (2 ^ (8 * (i % 8)))) % 256) rfl Try.underlying22 Try.underlying5 rfl) rfl fun ac hs => ?_))
    refine lstep (wpO_plain rfl (op_idxA hs none (j := 31 - i) rfl rfl rfl rfl Try.underlying42 Try.sizeOf5 (show 31 - i < 32 by omega) (off := 31 - i) (by omega) rfl fun ac hs => ?_))
    refine lstep (wpO_plain rfl (op_store hs 2 (vs := [.int .u8 ((((limN a (i / 8)) / (2 ^ (8 * (i % 8)))) % 256 : Nat) : Int)]) rfl rfl rfl rfl rfl Try.sizeOf5 rfl rfl rfl (tab_le (j := 31 - i) (show 31 - i < 32 by omega)) (tab_set) fun w hs => ?_))
    refine wpList_nil ?_
    refine blk_n ?_
    refine then_n ?_
    refine wp_region_lit ?_
    refine lstep (wpO_plain rfl (op_move hs none rfl rfl rfl rfl fun ac hs => ?_))
    refine lstep (wpO_plain rfl (op_bin hs none (v := .int .i64 ((i + 1 : Nat) : Int)) rfl rfl rfl rfl (fun _ => rfl) (bin_addN (x := i) (y := 1) (z := i + 1) rfl (show i + 1 < 9223372036854775808 by omega)) rfl fun ac hs => ?_))
    refine lstep (wpO_plain rfl (op_assign hs none rfl rfl rfl rfl fun ac hs => ?_))
    refine wpList_nil ?_
    refine then_n ?_
    exact ⟨_, ⟨(i + 1), (upn f (31 - i) (((limN a (i / 8)) / (2 ^ (8 * (i % 8)))) % 256)), rfl, hlt, (byte_step hlt hf), (hs.re ⟨rfl, rfl, rfl, rfl, trivial⟩)⟩, (by omega)⟩
  · skip
    have hp6 := of_decide_eq_false hc
    obtain rfl : i = 32 := by omega
    replace hs := hs.setb 2 (cs' := tab .u8 32 (by8 a)) rfl (tab_congr (byte_fin hf))
    refine wp_exit ?_
    refine then_e ?_
    refine then_e ?_
    refine blk_e ?_
    refine then_n ?_
    refine wp_seq ?_
    refine wp_region_lit ?_
    refine lstep (wpO_plain rfl (op_load hs none 2 (v := At .u8 32 (by8 a)) rfl rfl rfl rfl Try.isAgg42 Try.sizeOf42 ldv_tab rfl fun ac hs => ?_))
    refine lstep (wpO_plain rfl (op_store hs 1 (vs := (tab .u8 32 (by8 a))) rfl rfl rfl rfl rfl Try.sizeOf42 (by kernel_rfl) tab_length' (tab_one _ _ _) tab_leA wr_tab fun w hs => ?_))
    refine wpList_nil ?_
    refine then_n ?_
    refine wp_ret ?_
    exact bodyPost_ret (res1 rfl (rv_c hs 1 (v := At .u8 32 (by8 a)) rfl rfl Try.isAgg42 Try.sizeOf42 ldv_tab)) hs.defers ⟨rfl, hs.below⟩
theorem rdiv_c (a m q' r' : Nat) (ha : a < 2 ^ 256) (hm : m < 2 ^ 256) (hm0 : 0 < m) (hq' : a / m = q') (hr' : a % m = r') (w0 : World) : Calls Try.prog 22 #[W a, W m] w0 fun e w' => e = .returned (.tuple #[W q', W r', .int .i64 0]) ∧ Below w0.heap.size w0 w' := by
  refine enter (n := 55) (args := [W a, W m]) Try.func22 rfl rfl (Nat.le_of_ble_eq_true rfl) fun ac hs => ?_
  refine wp_seq ?_
  refine wp_region_lit ?_
  refine lstep (wpO_plain rfl (op_box hs none none (cs := (Wl a)) rfl rfl rfl rfl rfl rfl fun g1 ac w hs => ?_))
  refine lstep (wpO_plain rfl (op_box hs none none (cs := (Wl m)) rfl rfl rfl rfl rfl rfl fun g2 ac w hs => ?_))
  refine lstep (wpO_plain rfl (op_alloc hs none none (cs := [.int .u64 0, .int .u64 0, .int .u64 0, .int .u64 0]) rfl rfl Try.zeroValue24 (by kernel_rfl) rfl rfl fun g3 ac w hs => ?_))
  refine lstep (wpO_plain rfl (op_alloc hs none none (cs := [.int .u64 0, .int .u64 0, .int .u64 0, .int .u64 0]) rfl rfl Try.zeroValue24 (by kernel_rfl) rfl rfl fun g4 ac w hs => ?_))
  refine lstep (wpO_plain rfl (op_assign hs none rfl rfl rfl rfl fun ac hs => ?_))
  refine wpList_nil ?_
  refine then_n ?_
  refine wp_seq ?_
  refine wp_seq ?_
  refine wp_region_lit ?_
  refine lstep (wpO_plain rfl (op_load hs none 1 (v := W m) rfl rfl rfl rfl Try.isAgg24 Try.sizeOf24 rfl rfl fun ac hs => ?_))
  refine lstep (wpO_plain rfl (op_build hs none (qs := []) (v := .agg #[.int .u64 0, .int .u64 0, .int .u64 0, .int .u64 0]) rfl rfl rfl rfl (fun _ => by kernel_rfl) rfl fun ac hs => ?_))
  refine lstep (wpO_plain rfl (op_bin hs none (v := .bool false) rfl rfl rfl rfl (fun w => run_eqGuard_agg w .eql 24 _ _ _ _ Try.eqGuardType24) (eqlW m 0 hm (by decide) false (decide_eq_false (Nat.ne_of_gt hm0))) rfl fun ac hs => ?_))
  refine wpList_nil ?_
  refine then_n ?_
  refine wp_cond_false (hs.ev rfl) ?_
  refine wp_skip ?_
  refine then_n ?_
  refine wp_seq ?_
  refine wp_region_lit ?_
  refine lstep (wpO_plain rfl (op_build hs none (qs := []) (v := .agg #[.int .u64 0, .int .u64 0, .int .u64 0, .int .u64 0]) rfl rfl rfl rfl (fun _ => by kernel_rfl) rfl fun ac hs => ?_))
  refine lstep (wpO_plain rfl (op_build hs none (qs := []) (v := .agg #[.int .u64 0, .int .u64 0, .int .u64 0, .int .u64 0]) rfl rfl rfl rfl (fun _ => by kernel_rfl) rfl fun ac hs => ?_))
  refine lstep (wpO_plain rfl (op_alloc hs none none (cs := [.int .u64 0, .int .u64 0, .int .u64 0, .int .u64 0]) rfl rfl Try.zeroValue24 (by kernel_rfl) rfl rfl fun g5 ac w hs => ?_))
  refine lstep (wpO_plain rfl (op_alloc hs none none (cs := [.int .u64 0, .int .u64 0, .int .u64 0, .int .u64 0]) rfl rfl Try.zeroValue24 (by kernel_rfl) rfl rfl fun g6 ac w hs => ?_))
  refine lstep (wpO_plain rfl (op_store hs 4 (vs := [.int .u64 0, .int .u64 0, .int .u64 0, .int .u64 0]) rfl rfl rfl rfl rfl Try.sizeOf24 rfl rfl rfl rfl rfl fun w hs => ?_))
  refine lstep (wpO_plain rfl (op_store hs 5 (vs := [.int .u64 0, .int .u64 0, .int .u64 0, .int .u64 0]) rfl rfl rfl rfl rfl Try.sizeOf24 rfl rfl rfl rfl rfl fun w hs => ?_))
  refine wpList_nil ?_
  refine then_n ?_
  refine wp_seq ?_
  refine wp_seq ?_
  refine wp_region_lit ?_
  refine lstep (wpO_plain rfl (op_assign hs none rfl rfl rfl rfl fun ac hs => ?_))
  refine wpList_nil ?_
  refine then_n ?_
  refine wp_block ?_
  refine wp_loop_m (fun μ ac w => ∃ (k : Nat) (q : Nat) (r : Nat), (k) = μ ∧ (k ≤ 256) ∧ (q < 2 ^ 256) ∧ (a / 2 ^ k % m = r) ∧ (a / 2 ^ k / m = q) ∧ St 55 w0 [(2, true, .pointer (some ⟨g1, 0, none⟩)), (3, true, .pointer (some ⟨g2, 0, none⟩)), (4, true, .pointer (some ⟨g3, 0, none⟩)), (5, true, .pointer (some ⟨g4, 0, none⟩)), (6, true, .int .i64 0), (7, true, .pointer (some ⟨g5, 0, none⟩)), (8, true, .pointer (some ⟨g6, 0, none⟩)), (9, true, .int .i64 (((k : Nat) : Int) - 1))] [(true, g1, 24, (Wl a)), (true, g2, 24, (Wl m)), (true, g3, 24, [.int .u64 0, .int .u64 0, .int .u64 0, .int .u64 0]), (true, g4, 24, [.int .u64 0, .int .u64 0, .int .u64 0, .int .u64 0]), (true, g5, 24, (Wl q)), (true, g6, 24, (Wl r))] ac w) ?_ ?_
  · exact ⟨_, 256, 0, 0, rfl, (by omega), (by decide), (div_start ha).1, (div_start ha).2, (hs.re ⟨rfl, rfl, rfl, rfl, rfl, rfl, rfl, rfl, trivial⟩)⟩
  intro μ ac w ⟨k, q, r, hμ, hk, lq, hr, hq, hs⟩
  have lm : r < m := by rw [← hr]; exact Nat.mod_lt _ hm0
  have lr := Nat.lt_trans lm hm
  refine wp_seq ?_
  refine wp_seq ?_
  refine wp_region_lit ?_
  refine lstep (wpO_plain rfl (op_move hs none rfl rfl rfl rfl fun ac hs => ?_))
  refine lstep (wpO_plain rfl (op_bin hs none (v := .bool (decide (1 ≤ k))) rfl rfl rfl rfl (fun _ => rfl) bin_geqP rfl fun ac hs => ?_))
  refine wpList_nil ?_
  refine then_n ?_
  refine wp_cond_split (hs.ev rfl) (fun hc => ?_) (fun hc => ?_)
  · skip
    have hp7 := of_decide_eq_true hc
    replace hs := hs.re (fs' := [(2, true, .pointer (some ⟨g1, 0, none⟩)), (3, true, .pointer (some ⟨g2, 0, none⟩)), (4, true, .pointer (some ⟨g3, 0, none⟩)), (5, true, .pointer (some ⟨g4, 0, none⟩)), (6, true, .int .i64 0), (7, true, .pointer (some ⟨g5, 0, none⟩)), (8, true, .pointer (some ⟨g6, 0, none⟩)), (9, true, .int .i64 ((k - 1 : Nat) : Int)), (20, true, .int .i64 (((k : Nat) : Int) - 1)), (21, true, .bool (decide (1 ≤ k)))]) ⟨rfl, rfl, rfl, rfl, rfl, rfl, rfl, congrArg some (pre_nat hp7), rfl, rfl, trivial⟩
    refine wp_skip ?_
    refine then_n ?_
    refine wp_seq ?_
    refine wp_block ?_
    refine wp_seq ?_
    replace hs : St 55 w0 [(2, true, .pointer (some ⟨g1, 0, none⟩)), (3, true, .pointer (some ⟨g2, 0, none⟩)), (4, true, .pointer (some ⟨g3, 0, none⟩)), (5, true, .pointer (some ⟨g4, 0, none⟩)), (6, true, .int .i64 0), (7, true, .pointer (some ⟨g5, 0, none⟩)), (8, true, .pointer (some ⟨g6, 0, none⟩)), (9, true, .int .i64 ((k - 1 : Nat) : Int))] [(true, g1, 24, (Wl a)), (true, g2, 24, (Wl m)), (true, g3, 24, [.int .u64 0, .int .u64 0, .int .u64 0, .int .u64 0]), (true, g4, 24, [.int .u64 0, .int .u64 0, .int .u64 0, .int .u64 0]), (true, g5, 24, (Wl q)), (true, g6, 24, (Wl r))] ac _ := hs.re ⟨rfl, rfl, rfl, rfl, rfl, rfl, rfl, rfl, trivial⟩
    obtain ⟨b8, hb8⟩ : ∃ z0, a / 2 ^ (k - 1) % 2 = z0 := ⟨_, rfl⟩
    have lb8 := bit_le hb8
    obtain ⟨t9, ht9, lt9⟩ : ∃ z0, (2 * r + b8) % 2 ^ 256 = z0 ∧ z0 < 2 ^ 256 := ⟨_, rfl, Nat.mod_lt _ (Nat.two_pow_pos 256)⟩
    obtain ⟨c10, hc10⟩ : ∃ z0, (2 * r + b8) / 2 ^ 256 = z0 := ⟨_, rfl⟩
    refine region_inv [([], [4, 5, 6, 7, 9, 10]), ([], [3, 4, 5, 6, 7, 9, 10]), ([], [3, 4, 5, 6, 7, 9, 10]), ([1, 2], [4, 5, 6, 7, 9, 10]), ([0, 1, 2, 3], [5, 6, 7, 9, 10]), ([0, 1, 2, 3, 4], [6, 7, 9, 10]), ([0, 1, 2, 3, 4, 5], [9, 10]), ([0, 1, 2, 3, 4, 5], [10]), ([], [9, 10]), ([0, 1, 2, 3, 4, 5, 6, 8], [10]), ([0, 1, 2, 3, 4, 5, 6, 7, 8, 9], [])] (fun L ac w => ∃ (g11 : Nat), St 55 w0 [(25, L 0, W r), (26, L 1, W a), (27, L 2, .int .i64 ((k - 1 : Nat) : Int)), (28, L 3, .int .u64 ((b8 : Nat) : Int)), (29, L 4, .tuple #[W t9, .int .u64 ((c10 : Nat) : Int)]), (24, L 5, .tuple #[W t9, .int .u64 ((c10 : Nat) : Int)]), (30, L 6, W t9), (31, L 7, .int .u64 ((c10 : Nat) : Int)), (10, L 8, .pointer (some ⟨g11, 0, none⟩)), (11, L 10, .int .u64 ((c10 : Nat) : Int)), (2, true, .pointer (some ⟨g1, 0, none⟩)), (3, true, .pointer (some ⟨g2, 0, none⟩)), (4, true, .pointer (some ⟨g3, 0, none⟩)), (5, true, .pointer (some ⟨g4, 0, none⟩)), (6, true, .int .i64 0), (7, true, .pointer (some ⟨g5, 0, none⟩)), (8, true, .pointer (some ⟨g6, 0, none⟩)), (9, true, .int .i64 ((k - 1 : Nat) : Int))] [(true, g1, 24, (Wl a)), (true, g2, 24, (Wl m)), (true, g3, 24, [.int .u64 0, .int .u64 0, .int .u64 0, .int .u64 0]), (true, g4, 24, [.int .u64 0, .int .u64 0, .int .u64 0, .int .u64 0]), (true, g5, 24, (Wl q)), (true, g6, 24, (Wl r)), (L 8, g11, 24, (cond (L 9) (Wl t9) [.int .u64 0, .int .u64 0, .int .u64 0, .int .u64 0]))] ac w) (by kernel_rfl) (by kernel_rfl) ?_ ?_ ?_
    · exact ⟨0, hs.drew.skip.skip.skip.skip.skip.skip.skip.skip.skip.skip.pad⟩
    · refine ⟨?_, ?_, ?_, ?_, ?_, ?_, ?_, ?_, ?_, ?_, ?_, trivial⟩
      · intro L ac w hJ
        obtain ⟨g11, hs⟩ := hJ
        refine wpO_plain rfl (op_load hs (some 0) 5 (v := W r) rfl rfl rfl rfl Try.isAgg24 Try.sizeOf24 rfl rfl fun ac hs => ?_)
        exact ⟨g11, hs⟩
      · intro L ac w hJ
        obtain ⟨g11, hs⟩ := hJ
        refine wpO_plain rfl (op_load hs (some 1) 0 (v := W a) rfl rfl rfl rfl Try.isAgg24 Try.sizeOf24 rfl rfl fun ac hs => ?_)
        exact ⟨g11, hs⟩
      · intro L ac w hJ
        obtain ⟨g11, hs⟩ := hJ
        refine wpO_plain rfl (op_move hs (some 2) rfl rfl rfl rfl fun ac hs => ?_)
        exact ⟨g11, hs⟩
      · intro L ac w hJ
        obtain ⟨g11, hs⟩ := hJ
        refine wpO_plain rfl (op_call (F := 44) hs (some 3) (v := .int .u64 ((b8 : Nat) : Int)) rfl rfl rfl rfl (Try.call44 _) (rbit_c a (k - 1) b8 (show k - 1 < 256 by omega) hb8) rfl fun ac w hs => ?_)
        exact ⟨g11, hs⟩
      · intro L ac w hJ
        obtain ⟨g11, hs⟩ := hJ
        refine wpO_plain rfl (op_call (F := 47) hs (some 4) (v := .tuple #[W t9, .int .u64 ((c10 : Nat) : Int)]) rfl rfl rfl rfl (Try.call47 _) (rtwice_c r b8 t9 c10 lr (show b8 ≤ 1 by omega) ht9 hc10) rfl fun ac w hs => ?_)
        exact ⟨g11, hs⟩
      · intro L ac w hJ
        obtain ⟨g11, hs⟩ := hJ
        refine wpO_plain rfl (op_move hs (some 5) rfl rfl rfl rfl fun ac hs => ?_)
        exact ⟨g11, hs⟩
      · intro L ac w hJ
        obtain ⟨g11, hs⟩ := hJ
        refine wpO_plain rfl (op_extract hs (some 6) rfl rfl rfl rfl rfl fun ac hs => ?_)
        exact ⟨g11, hs⟩
      · intro L ac w hJ
        obtain ⟨g11, hs⟩ := hJ
        refine wpO_plain rfl (op_extract hs (some 7) rfl rfl rfl rfl rfl fun ac hs => ?_)
        exact ⟨g11, hs⟩
      · intro L ac w hJ
        obtain ⟨g11, hs⟩ := hJ
        refine wpO_plain rfl (op_alloc hs (some 8) (some 6) (cs := [.int .u64 0, .int .u64 0, .int .u64 0, .int .u64 0]) rfl rfl Try.zeroValue24 (by kernel_rfl) rfl rfl fun g11 ac w hs => ?_)
        exact ⟨g11, hs⟩
      · intro L ac w hJ
        obtain ⟨g11, hs⟩ := hJ
        refine wpO_plain rfl (op_store hs 6 (vs := (Wl t9)) rfl rfl rfl rfl rfl Try.sizeOf24 rfl rfl rfl rfl rfl fun w hs => ?_)
        exact ⟨g11, hs⟩
      · intro L ac w hJ
        obtain ⟨g11, hs⟩ := hJ
        refine wpO_plain rfl (op_assign hs (some 9) rfl rfl rfl rfl fun ac hs => ?_)
        exact ⟨g11, hs⟩
    intro ac w hJ
    obtain ⟨g11, hs⟩ := hJ
    replace hs : St 55 w0 [(25, true, W r), (26, true, W a), (27, true, .int .i64 ((k - 1 : Nat) : Int)), (28, true, .int .u64 ((b8 : Nat) : Int)), (29, true, .tuple #[W t9, .int .u64 ((c10 : Nat) : Int)]), (24, true, .tuple #[W t9, .int .u64 ((c10 : Nat) : Int)]), (30, true, W t9), (31, true, .int .u64 ((c10 : Nat) : Int)), (10, true, .pointer (some ⟨g11, 0, none⟩)), (11, true, .int .u64 ((c10 : Nat) : Int)), (2, true, .pointer (some ⟨g1, 0, none⟩)), (3, true, .pointer (some ⟨g2, 0, none⟩)), (4, true, .pointer (some ⟨g3, 0, none⟩)), (5, true, .pointer (some ⟨g4, 0, none⟩)), (6, true, .int .i64 0), (7, true, .pointer (some ⟨g5, 0, none⟩)), (8, true, .pointer (some ⟨g6, 0, none⟩)), (9, true, .int .i64 ((k - 1 : Nat) : Int))] [(true, g1, 24, (Wl a)), (true, g2, 24, (Wl m)), (true, g3, 24, [.int .u64 0, .int .u64 0, .int .u64 0, .int .u64 0]), (true, g4, 24, [.int .u64 0, .int .u64 0, .int .u64 0, .int .u64 0]), (true, g5, 24, (Wl q)), (true, g6, 24, (Wl r)), (true, g11, 24, (Wl t9))] ac w := hs
    refine then_n ?_
    refine wp_seq ?_
    refine wp_region_lit ?_
    refine lstep (wpO_plain rfl (op_load hs none 6 (v := W t9) rfl rfl rfl rfl Try.isAgg24 Try.sizeOf24 rfl rfl fun ac hs => ?_))
    refine lstep (wpO_plain rfl (op_store hs 5 (vs := (Wl t9)) rfl rfl rfl rfl rfl Try.sizeOf24 rfl rfl rfl rfl rfl fun w hs => ?_))
    refine wpList_nil ?_
    refine then_n ?_
    refine wp_seq ?_
    refine wp_region_lit ?_
    refine lstep (wpO_plain rfl (op_assign hs none rfl rfl rfl rfl fun ac hs => ?_))
    refine wpList_nil ?_
    refine then_n ?_
    refine wp_seq ?_
    refine wp_seq ?_
    by_cases hq12 : c10 = 1
    · skip
      refine wp_region_lit ?_
      refine lstep (wpO_plain rfl (op_move hs none rfl rfl rfl rfl fun ac hs => ?_))
      refine lstep (wpO_plain rfl (op_bin hs none (v := .bool true) rfl rfl rfl rfl (fun _ => rfl) (fun w => dT hq12 (bin_eqlN (x := c10) (y := 1) w)) rfl fun ac hs => ?_))
      refine lstep (wpO_plain rfl (op_move hs none rfl rfl rfl rfl fun ac hs => ?_))
      refine lstep (wpO_out hs none rfl rfl (.inl rfl) rfl rfl fun ac hs => ?_)
      refine lstep (wpO_out hs none rfl rfl (.inl rfl) rfl rfl fun ac hs => ?_)
      refine lstep (wpO_out hs none rfl rfl (.inl rfl) rfl rfl fun ac hs => ?_)
      refine lstep (wpO_out hs none rfl rfl (.inl rfl) rfl rfl fun ac hs => ?_)
      refine lstep (wpO_plain rfl (op_pickT hs none rfl rfl rfl rfl rfl fun ac hs => ?_))
      refine wpList_nil ?_
      refine then_n ?_
      refine wp_cond_true (hs.ev rfl) ?_
      refine wp_seq ?_
      refine wp_region_lit ?_
      refine lstep (wpO_plain rfl (op_load hs none 5 (v := W t9) rfl rfl rfl rfl Try.isAgg24 Try.sizeOf24 rfl rfl fun ac hs => ?_))
      refine lstep (wpO_plain rfl (op_load hs none 1 (v := W m) rfl rfl rfl rfl Try.isAgg24 Try.sizeOf24 rfl rfl fun ac hs => ?_))
      obtain ⟨d13, hd13, ld13⟩ : ∃ z0, (t9 + 2 ^ 256 - m) % 2 ^ 256 = z0 ∧ z0 < 2 ^ 256 := ⟨_, rfl, Nat.mod_lt _ (Nat.two_pow_pos 256)⟩
      obtain ⟨c14, hc14⟩ : ∃ z0, bor t9 m = z0 := ⟨_, rfl⟩
      refine lstep (wpO_plain rfl (op_call (F := 14) hs none (v := .tuple #[W d13, .int .u64 ((c14 : Nat) : Int)]) rfl rfl rfl rfl (Try.call14 _) (rsub06_c t9 m d13 c14 lt9 hm hd13 hc14) rfl fun ac w hs => ?_))
      refine lstep (wpO_plain rfl (op_move hs none rfl rfl rfl rfl fun ac hs => ?_))
      refine lstep (wpO_plain rfl (op_extract hs none rfl rfl rfl rfl rfl fun ac hs => ?_))
      refine lstep (wpO_plain rfl (op_extract hs none rfl rfl rfl rfl rfl fun ac hs => ?_))
      refine lstep (wpO_plain rfl (op_store hs 5 (vs := (Wl d13)) rfl rfl rfl rfl rfl Try.sizeOf24 rfl rfl rfl rfl rfl fun w hs => ?_))
      refine wpList_nil ?_
      refine then_n ?_
      refine wp_region_lit ?_
      refine lstep (wpO_plain rfl (op_assign hs none rfl rfl rfl rfl fun ac hs => ?_))
      refine wpList_nil ?_
      refine then_n ?_
      refine wp_region_lit ?_
      refine lstep (wpO_plain rfl (op_load hs none 4 (v := W q) rfl rfl rfl rfl Try.isAgg24 Try.sizeOf24 rfl rfl fun ac hs => ?_))
      refine lstep (wpO_plain rfl (op_move hs none rfl rfl rfl rfl fun ac hs => ?_))
      obtain ⟨t15, ht15, lt15⟩ : ∃ z0, (2 * q + 1) % 2 ^ 256 = z0 ∧ z0 < 2 ^ 256 := ⟨_, rfl, Nat.mod_lt _ (Nat.two_pow_pos 256)⟩
      obtain ⟨c16, hc16⟩ : ∃ z0, (2 * q + 1) / 2 ^ 256 = z0 := ⟨_, rfl⟩
      refine lstep (wpO_plain rfl (op_call (F := 47) hs none (v := .tuple #[W t15, .int .u64 ((c16 : Nat) : Int)]) rfl rfl rfl rfl (Try.call47 _) (rtwice_c q 1 t15 c16 lq (show 1 ≤ 1 by omega) ht15 hc16) rfl fun ac w hs => ?_))
      refine lstep (wpO_plain rfl (op_move hs none rfl rfl rfl rfl fun ac hs => ?_))
      refine lstep (wpO_plain rfl (op_extract hs none rfl rfl rfl rfl rfl fun ac hs => ?_))
      refine lstep (wpO_plain rfl (op_extract hs none rfl rfl rfl rfl rfl fun ac hs => ?_))
      refine lstep (wpO_plain rfl (op_store hs 4 (vs := (Wl t15)) rfl rfl rfl rfl rfl Try.sizeOf24 rfl rfl rfl rfl rfl fun w hs => ?_))
      refine wpList_nil ?_
      refine blk_n ?_
      refine then_n ?_
      refine wp_region_lit ?_
      refine lstep (wpO_plain rfl (op_move hs none rfl rfl rfl rfl fun ac hs => ?_))
      refine lstep (wpO_plain rfl (op_bin hs none (v := .int .i64 (((k - 1 : Nat) : Int) - 1)) rfl rfl rfl rfl (fun _ => rfl) (bin_subP (x := k - 1) (by omega)) rfl fun ac hs => ?_))
      refine lstep (wpO_plain rfl (op_assign hs none rfl rfl rfl rfl fun ac hs => ?_))
      refine wpList_nil ?_
      refine then_n ?_
      exact ⟨_, ⟨(k - 1), t15, d13, rfl, (by omega), lt15, ((rem_bit hp7 hr hb8).trans (rem_yes lm hm lb8 ht9 hc10 hd13 (.inl hq12))), (div_q1 hm0 hm ha hp7 hr hq hb8 lb8 ht9 hc10 (.inl hq12) ht15), ((hs.takeb 6).re ⟨rfl, rfl, rfl, rfl, rfl, rfl, rfl, rfl, trivial⟩)⟩, (by omega)⟩
    · skip
      refine wp_region_lit ?_
      refine lstep (wpO_plain rfl (op_move hs none rfl rfl rfl rfl fun ac hs => ?_))
      refine lstep (wpO_plain rfl (op_bin hs none (v := .bool false) rfl rfl rfl rfl (fun _ => rfl) (fun w => dF hq12 (bin_eqlN (x := c10) (y := 1) w)) rfl fun ac hs => ?_))
      refine lstep (wpO_plain rfl (op_move hs none rfl rfl rfl rfl fun ac hs => ?_))
      refine lstep (wpO_in hs rfl rfl rfl (op_load hs none 5 (v := W t9) rfl rfl rfl rfl Try.isAgg24 Try.sizeOf24 rfl rfl fun ac hs => ?_))
      refine lstep (wpO_in hs rfl rfl rfl (op_load hs none 1 (v := W m) rfl rfl rfl rfl Try.isAgg24 Try.sizeOf24 rfl rfl fun ac hs => ?_))
      refine lstep (wpO_in hs rfl rfl rfl (op_call (F := 17) hs none (v := .int .i64 (cmpZ t9 m)) rfl rfl rfl rfl (Try.call17 _) (rcmp_c t9 m lt9 hm) rfl fun ac w hs => ?_))
      refine lstep (wpO_in hs rfl rfl rfl (op_bin hs none (v := .bool (decide (m ≤ t9))) rfl rfl rfl rfl (fun _ => rfl) (bin_cmp_geq t9 m) rfl fun ac hs => ?_))
      refine lstep (wpO_plain rfl (op_pickF hs none rfl rfl rfl rfl rfl fun ac hs => ?_))
      refine wpList_nil ?_
      refine then_n ?_
      refine wp_cond_split (hs.ev rfl) (fun hc => ?_) (fun hc => ?_)
      · skip
        have hp17 := of_decide_eq_true hc
        refine wp_seq ?_
        refine wp_region_lit ?_
        refine lstep (wpO_plain rfl (op_load hs none 5 (v := W t9) rfl rfl rfl rfl Try.isAgg24 Try.sizeOf24 rfl rfl fun ac hs => ?_))
        refine lstep (wpO_plain rfl (op_load hs none 1 (v := W m) rfl rfl rfl rfl Try.isAgg24 Try.sizeOf24 rfl rfl fun ac hs => ?_))
        obtain ⟨d18, hd18, ld18⟩ : ∃ z0, (t9 + 2 ^ 256 - m) % 2 ^ 256 = z0 ∧ z0 < 2 ^ 256 := ⟨_, rfl, Nat.mod_lt _ (Nat.two_pow_pos 256)⟩
        obtain ⟨c19, hc19⟩ : ∃ z0, bor t9 m = z0 := ⟨_, rfl⟩
        refine lstep (wpO_plain rfl (op_call (F := 14) hs none (v := .tuple #[W d18, .int .u64 ((c19 : Nat) : Int)]) rfl rfl rfl rfl (Try.call14 _) (rsub06_c t9 m d18 c19 lt9 hm hd18 hc19) rfl fun ac w hs => ?_))
        refine lstep (wpO_plain rfl (op_move hs none rfl rfl rfl rfl fun ac hs => ?_))
        refine lstep (wpO_plain rfl (op_extract hs none rfl rfl rfl rfl rfl fun ac hs => ?_))
        refine lstep (wpO_plain rfl (op_extract hs none rfl rfl rfl rfl rfl fun ac hs => ?_))
        refine lstep (wpO_plain rfl (op_store hs 5 (vs := (Wl d18)) rfl rfl rfl rfl rfl Try.sizeOf24 rfl rfl rfl rfl rfl fun w hs => ?_))
        refine wpList_nil ?_
        refine then_n ?_
        refine wp_region_lit ?_
        refine lstep (wpO_plain rfl (op_assign hs none rfl rfl rfl rfl fun ac hs => ?_))
        refine wpList_nil ?_
        refine then_n ?_
        refine wp_region_lit ?_
        refine lstep (wpO_plain rfl (op_load hs none 4 (v := W q) rfl rfl rfl rfl Try.isAgg24 Try.sizeOf24 rfl rfl fun ac hs => ?_))
        refine lstep (wpO_plain rfl (op_move hs none rfl rfl rfl rfl fun ac hs => ?_))
        obtain ⟨t20, ht20, lt20⟩ : ∃ z0, (2 * q + 1) % 2 ^ 256 = z0 ∧ z0 < 2 ^ 256 := ⟨_, rfl, Nat.mod_lt _ (Nat.two_pow_pos 256)⟩
        obtain ⟨c21, hc21⟩ : ∃ z0, (2 * q + 1) / 2 ^ 256 = z0 := ⟨_, rfl⟩
        refine lstep (wpO_plain rfl (op_call (F := 47) hs none (v := .tuple #[W t20, .int .u64 ((c21 : Nat) : Int)]) rfl rfl rfl rfl (Try.call47 _) (rtwice_c q 1 t20 c21 lq (show 1 ≤ 1 by omega) ht20 hc21) rfl fun ac w hs => ?_))
        refine lstep (wpO_plain rfl (op_move hs none rfl rfl rfl rfl fun ac hs => ?_))
        refine lstep (wpO_plain rfl (op_extract hs none rfl rfl rfl rfl rfl fun ac hs => ?_))
        refine lstep (wpO_plain rfl (op_extract hs none rfl rfl rfl rfl rfl fun ac hs => ?_))
        refine lstep (wpO_plain rfl (op_store hs 4 (vs := (Wl t20)) rfl rfl rfl rfl rfl Try.sizeOf24 rfl rfl rfl rfl rfl fun w hs => ?_))
        refine wpList_nil ?_
        refine blk_n ?_
        refine then_n ?_
        refine wp_region_lit ?_
        refine lstep (wpO_plain rfl (op_move hs none rfl rfl rfl rfl fun ac hs => ?_))
        refine lstep (wpO_plain rfl (op_bin hs none (v := .int .i64 (((k - 1 : Nat) : Int) - 1)) rfl rfl rfl rfl (fun _ => rfl) (bin_subP (x := k - 1) (by omega)) rfl fun ac hs => ?_))
        refine lstep (wpO_plain rfl (op_assign hs none rfl rfl rfl rfl fun ac hs => ?_))
        refine wpList_nil ?_
        refine then_n ?_
        exact ⟨_, ⟨(k - 1), t20, d18, rfl, (by omega), lt20, ((rem_bit hp7 hr hb8).trans (rem_yes lm hm lb8 ht9 hc10 hd18 (.inr hp17))), (div_q1 hm0 hm ha hp7 hr hq hb8 lb8 ht9 hc10 (.inr hp17) ht20), ((hs.takeb 6).re ⟨rfl, rfl, rfl, rfl, rfl, rfl, rfl, rfl, trivial⟩)⟩, (by omega)⟩
      · skip
        have hp22 := of_decide_eq_false hc
        refine wp_skip ?_
        refine then_n ?_
        refine wp_region_lit ?_
        refine lstep (wpO_plain rfl (op_load hs none 4 (v := W q) rfl rfl rfl rfl Try.isAgg24 Try.sizeOf24 rfl rfl fun ac hs => ?_))
        refine lstep (wpO_plain rfl (op_move hs none rfl rfl rfl rfl fun ac hs => ?_))
        obtain ⟨t23, ht23, lt23⟩ : ∃ z0, (2 * q + 0) % 2 ^ 256 = z0 ∧ z0 < 2 ^ 256 := ⟨_, rfl, Nat.mod_lt _ (Nat.two_pow_pos 256)⟩
        obtain ⟨c24, hc24⟩ : ∃ z0, (2 * q + 0) / 2 ^ 256 = z0 := ⟨_, rfl⟩
        refine lstep (wpO_plain rfl (op_call (F := 47) hs none (v := .tuple #[W t23, .int .u64 ((c24 : Nat) : Int)]) rfl rfl rfl rfl (Try.call47 _) (rtwice_c q 0 t23 c24 lq (show 0 ≤ 1 by omega) ht23 hc24) rfl fun ac w hs => ?_))
        refine lstep (wpO_plain rfl (op_move hs none rfl rfl rfl rfl fun ac hs => ?_))
        refine lstep (wpO_plain rfl (op_extract hs none rfl rfl rfl rfl rfl fun ac hs => ?_))
        refine lstep (wpO_plain rfl (op_extract hs none rfl rfl rfl rfl rfl fun ac hs => ?_))
        refine lstep (wpO_plain rfl (op_store hs 4 (vs := (Wl t23)) rfl rfl rfl rfl rfl Try.sizeOf24 rfl rfl rfl rfl rfl fun w hs => ?_))
        refine wpList_nil ?_
        refine blk_n ?_
        refine then_n ?_
        refine wp_region_lit ?_
        refine lstep (wpO_plain rfl (op_move hs none rfl rfl rfl rfl fun ac hs => ?_))
        refine lstep (wpO_plain rfl (op_bin hs none (v := .int .i64 (((k - 1 : Nat) : Int) - 1)) rfl rfl rfl rfl (fun _ => rfl) (bin_subP (x := k - 1) (by omega)) rfl fun ac hs => ?_))
        refine lstep (wpO_plain rfl (op_assign hs none rfl rfl rfl rfl fun ac hs => ?_))
        refine wpList_nil ?_
        refine then_n ?_
        exact ⟨_, ⟨(k - 1), t23, t9, rfl, (by omega), lt23, ((rem_bit hp7 hr hb8).trans (rem_no lm hm lb8 ht9 hc10 hq12 hp22)), (div_q0 hm0 hm ha hp7 hr hq hb8 lb8 ht9 hc10 hq12 hp22 ht23), ((hs.takeb 6).re ⟨rfl, rfl, rfl, rfl, rfl, rfl, rfl, rfl, trivial⟩)⟩, (by omega)⟩
  · skip
    have hp25 := of_decide_eq_false hc
    obtain rfl : k = 0 := by omega
    refine wp_exit ?_
    refine then_e ?_
    refine then_e ?_
    refine blk_e ?_
    refine then_n ?_
    refine wp_seq ?_
    replace hs : St 55 w0 [(4, true, .pointer (some ⟨g3, 0, none⟩)), (5, true, .pointer (some ⟨g4, 0, none⟩)), (6, true, .int .i64 0), (7, true, .pointer (some ⟨g5, 0, none⟩)), (8, true, .pointer (some ⟨g6, 0, none⟩))] [(true, g1, 24, (Wl a)), (true, g2, 24, (Wl m)), (true, g3, 24, [.int .u64 0, .int .u64 0, .int .u64 0, .int .u64 0]), (true, g4, 24, [.int .u64 0, .int .u64 0, .int .u64 0, .int .u64 0]), (true, g5, 24, (Wl q)), (true, g6, 24, (Wl r))] ac _ := hs.re ⟨rfl, rfl, rfl, rfl, rfl, trivial⟩
    refine region_inv [([], [2, 3, 4]), ([], [3, 4]), ([0], [3, 4]), ([0, 1, 2], [4]), ([0, 1, 2, 3], [])] (fun L ac w => St 55 w0 [(53, L 0, W q), (54, L 1, W r), (6, L 4, .int .i64 0), (4, true, .pointer (some ⟨g3, 0, none⟩)), (5, true, .pointer (some ⟨g4, 0, none⟩)), (6, true, .int .i64 0), (7, true, .pointer (some ⟨g5, 0, none⟩)), (8, true, .pointer (some ⟨g6, 0, none⟩))] [(true, g1, 24, (Wl a)), (true, g2, 24, (Wl m)), (true, g3, 24, (cond (L 2) (Wl q) [.int .u64 0, .int .u64 0, .int .u64 0, .int .u64 0])), (true, g4, 24, (cond (L 3) (Wl r) [.int .u64 0, .int .u64 0, .int .u64 0, .int .u64 0])), (true, g5, 24, (Wl q)), (true, g6, 24, (Wl r))] ac w) (by kernel_rfl) (by kernel_rfl) ?_ ?_ ?_
    · exact hs.drew.skip.skip.skip
    · refine ⟨?_, ?_, ?_, ?_, ?_, trivial⟩
      · intro L ac w hJ
        have hs := hJ
        refine wpO_plain rfl (op_load hs (some 0) 4 (v := W q) rfl rfl rfl rfl Try.isAgg24 Try.sizeOf24 rfl rfl fun ac hs => ?_)
        exact hs
      · intro L ac w hJ
        have hs := hJ
        refine wpO_plain rfl (op_load hs (some 1) 5 (v := W r) rfl rfl rfl rfl Try.isAgg24 Try.sizeOf24 rfl rfl fun ac hs => ?_)
        exact hs
      · intro L ac w hJ
        have hs := hJ
        refine wpO_plain rfl (op_store hs 2 (vs := (Wl q)) rfl rfl rfl rfl rfl Try.sizeOf24 rfl rfl rfl rfl rfl fun w hs => ?_)
        exact hs
      · intro L ac w hJ
        have hs := hJ
        refine wpO_plain rfl (op_store hs 3 (vs := (Wl r)) rfl rfl rfl rfl rfl Try.sizeOf24 rfl rfl rfl rfl rfl fun w hs => ?_)
        exact hs
      · intro L ac w hJ
        have hs := hJ
        refine wpO_plain rfl (op_assign hs (some 2) rfl rfl rfl rfl fun ac hs => ?_)
        exact hs
    intro ac w hJ
    replace hs : St 55 w0 [(53, true, W q), (54, true, W r), (6, true, .int .i64 0), (4, true, .pointer (some ⟨g3, 0, none⟩)), (5, true, .pointer (some ⟨g4, 0, none⟩)), (6, true, .int .i64 0), (7, true, .pointer (some ⟨g5, 0, none⟩)), (8, true, .pointer (some ⟨g6, 0, none⟩))] [(true, g1, 24, (Wl a)), (true, g2, 24, (Wl m)), (true, g3, 24, (Wl q)), (true, g4, 24, (Wl r)), (true, g5, 24, (Wl q)), (true, g6, 24, (Wl r))] ac w := hJ
    refine then_n ?_
    refine wp_ret ?_
    exact bodyPost_ret (res3 rfl (rv_c hs 2 (v := W q) rfl rfl Try.isAgg24 Try.sizeOf24 rfl) (rv_c hs 3 (v := W r) rfl rfl Try.isAgg24 Try.sizeOf24 rfl) (rv_t hs rfl)) hs.defers ⟨by rw [← hq', ← hr', ← hq, ← hr, Nat.pow_zero, Nat.div_one], hs.below⟩
theorem wdiv0_c (a : Nat) (ha : a < 2 ^ 256) (w0 : World) : Calls Try.prog 21 #[W a, W 0] w0 fun e w' => e = .returned (.tuple #[W 0, W 0, .int .i64 1]) ∧ Below w0.heap.size w0 w' := by
  refine enter (n := 44) (args := [W a, W 0]) Try.func21 rfl rfl (Nat.le_of_ble_eq_true rfl) fun ac hs => ?_
  refine wp_seq ?_
  refine wp_region_lit ?_
  refine lstep (wpO_plain rfl (op_box hs none none (cs := (Wl a)) rfl rfl rfl rfl rfl rfl fun g1 ac w hs => ?_))
  refine lstep (wpO_plain rfl (op_box hs none none (cs := (Wl 0)) rfl rfl rfl rfl rfl rfl fun g2 ac w hs => ?_))
  refine lstep (wpO_plain rfl (op_alloc hs none none (cs := [.int .u64 0, .int .u64 0, .int .u64 0, .int .u64 0]) rfl rfl Try.zeroValue24 (by kernel_rfl) rfl rfl fun g3 ac w hs => ?_))
  refine lstep (wpO_plain rfl (op_alloc hs none none (cs := [.int .u64 0, .int .u64 0, .int .u64 0, .int .u64 0]) rfl rfl Try.zeroValue24 (by kernel_rfl) rfl rfl fun g4 ac w hs => ?_))
  refine lstep (wpO_plain rfl (op_assign hs none rfl rfl rfl rfl fun ac hs => ?_))
  refine wpList_nil ?_
  refine then_n ?_
  refine wp_seq ?_
  refine wp_seq ?_
  refine wp_region_lit ?_
  refine lstep (wpO_plain rfl (op_load hs none 1 (v := W 0) rfl rfl rfl rfl Try.isAgg24 Try.sizeOf24 rfl rfl fun ac hs => ?_))
  refine lstep (wpO_plain rfl (op_build hs none (qs := []) (v := .agg #[.int .u64 0, .int .u64 0, .int .u64 0, .int .u64 0]) rfl rfl rfl rfl (fun _ => by kernel_rfl) rfl fun ac hs => ?_))
  refine lstep (wpO_plain rfl (op_bin hs none (v := .bool true) rfl rfl rfl rfl (fun w => run_eqGuard_agg w .eql 24 _ _ _ _ Try.eqGuardType24) (eqlW 0 0 (by decide) (by decide) true (decide_eq_true rfl)) rfl fun ac hs => ?_))
  refine wpList_nil ?_
  refine then_n ?_
  refine wp_cond_true (hs.ev rfl) ?_
  refine wp_seq ?_
  refine wp_region_lit ?_
  refine lstep (wpO_plain rfl (op_build hs none (qs := []) (v := .agg #[.int .u64 0, .int .u64 0, .int .u64 0, .int .u64 0]) rfl rfl rfl rfl (fun _ => by kernel_rfl) rfl fun ac hs => ?_))
  refine lstep (wpO_plain rfl (op_build hs none (qs := []) (v := .agg #[.int .u64 0, .int .u64 0, .int .u64 0, .int .u64 0]) rfl rfl rfl rfl (fun _ => by kernel_rfl) rfl fun ac hs => ?_))
  refine lstep (wpO_plain rfl (op_store hs 2 (vs := [.int .u64 0, .int .u64 0, .int .u64 0, .int .u64 0]) rfl rfl rfl rfl rfl Try.sizeOf24 rfl rfl rfl rfl rfl fun w hs => ?_))
  refine lstep (wpO_plain rfl (op_store hs 3 (vs := [.int .u64 0, .int .u64 0, .int .u64 0, .int .u64 0]) rfl rfl rfl rfl rfl Try.sizeOf24 rfl rfl rfl rfl rfl fun w hs => ?_))
  refine lstep (wpO_plain rfl (op_assign hs none rfl rfl rfl rfl fun ac hs => ?_))
  refine wpList_nil ?_
  refine then_n ?_
  refine wp_ret ?_
  refine then_r ?_
  exact bodyPost_ret (res3 rfl (rv_c hs 2 (v := .agg #[.int .u64 0, .int .u64 0, .int .u64 0, .int .u64 0]) rfl rfl Try.isAgg24 Try.sizeOf24 rfl) (rv_c hs 3 (v := .agg #[.int .u64 0, .int .u64 0, .int .u64 0, .int .u64 0]) rfl rfl Try.isAgg24 Try.sizeOf24 rfl) (rv_t hs rfl)) hs.defers ⟨by first | done | rfl, hs.below⟩
theorem rdiv0_c (a : Nat) (ha : a < 2 ^ 256) (w0 : World) : Calls Try.prog 22 #[W a, W 0] w0 fun e w' => e = .returned (.tuple #[W 0, W 0, .int .i64 1]) ∧ Below w0.heap.size w0 w' := by
  refine enter (n := 55) (args := [W a, W 0]) Try.func22 rfl rfl (Nat.le_of_ble_eq_true rfl) fun ac hs => ?_
  refine wp_seq ?_
  refine wp_region_lit ?_
  refine lstep (wpO_plain rfl (op_box hs none none (cs := (Wl a)) rfl rfl rfl rfl rfl rfl fun g1 ac w hs => ?_))
  refine lstep (wpO_plain rfl (op_box hs none none (cs := (Wl 0)) rfl rfl rfl rfl rfl rfl fun g2 ac w hs => ?_))
  refine lstep (wpO_plain rfl (op_alloc hs none none (cs := [.int .u64 0, .int .u64 0, .int .u64 0, .int .u64 0]) rfl rfl Try.zeroValue24 (by kernel_rfl) rfl rfl fun g3 ac w hs => ?_))
  refine lstep (wpO_plain rfl (op_alloc hs none none (cs := [.int .u64 0, .int .u64 0, .int .u64 0, .int .u64 0]) rfl rfl Try.zeroValue24 (by kernel_rfl) rfl rfl fun g4 ac w hs => ?_))
  refine lstep (wpO_plain rfl (op_assign hs none rfl rfl rfl rfl fun ac hs => ?_))
  refine wpList_nil ?_
  refine then_n ?_
  refine wp_seq ?_
  refine wp_seq ?_
  refine wp_region_lit ?_
  refine lstep (wpO_plain rfl (op_load hs none 1 (v := W 0) rfl rfl rfl rfl Try.isAgg24 Try.sizeOf24 rfl rfl fun ac hs => ?_))
  refine lstep (wpO_plain rfl (op_build hs none (qs := []) (v := .agg #[.int .u64 0, .int .u64 0, .int .u64 0, .int .u64 0]) rfl rfl rfl rfl (fun _ => by kernel_rfl) rfl fun ac hs => ?_))
  refine lstep (wpO_plain rfl (op_bin hs none (v := .bool true) rfl rfl rfl rfl (fun w => run_eqGuard_agg w .eql 24 _ _ _ _ Try.eqGuardType24) (eqlW 0 0 (by decide) (by decide) true (decide_eq_true rfl)) rfl fun ac hs => ?_))
  refine wpList_nil ?_
  refine then_n ?_
  refine wp_cond_true (hs.ev rfl) ?_
  refine wp_seq ?_
  refine wp_region_lit ?_
  refine lstep (wpO_plain rfl (op_build hs none (qs := []) (v := .agg #[.int .u64 0, .int .u64 0, .int .u64 0, .int .u64 0]) rfl rfl rfl rfl (fun _ => by kernel_rfl) rfl fun ac hs => ?_))
  refine lstep (wpO_plain rfl (op_build hs none (qs := []) (v := .agg #[.int .u64 0, .int .u64 0, .int .u64 0, .int .u64 0]) rfl rfl rfl rfl (fun _ => by kernel_rfl) rfl fun ac hs => ?_))
  refine lstep (wpO_plain rfl (op_store hs 2 (vs := [.int .u64 0, .int .u64 0, .int .u64 0, .int .u64 0]) rfl rfl rfl rfl rfl Try.sizeOf24 rfl rfl rfl rfl rfl fun w hs => ?_))
  refine lstep (wpO_plain rfl (op_store hs 3 (vs := [.int .u64 0, .int .u64 0, .int .u64 0, .int .u64 0]) rfl rfl rfl rfl rfl Try.sizeOf24 rfl rfl rfl rfl rfl fun w hs => ?_))
  refine lstep (wpO_plain rfl (op_assign hs none rfl rfl rfl rfl fun ac hs => ?_))
  refine wpList_nil ?_
  refine then_n ?_
  refine wp_ret ?_
  refine then_r ?_
  exact bodyPost_ret (res3 rfl (rv_c hs 2 (v := .agg #[.int .u64 0, .int .u64 0, .int .u64 0, .int .u64 0]) rfl rfl Try.isAgg24 Try.sizeOf24 rfl) (rv_c hs 3 (v := .agg #[.int .u64 0, .int .u64 0, .int .u64 0, .int .u64 0]) rfl rfl Try.isAgg24 Try.sizeOf24 rfl) (rv_t hs rfl)) hs.defers ⟨by first | done | rfl, hs.below⟩
theorem wrem0_c (a b : Nat) (ha : a < 2 ^ 256) (hb : b < 2 ^ 256) (w0 : World) : Calls Try.prog 23 #[W a, W b, W 0] w0 fun e w' => e = .returned (.tuple #[W 0, .int .i64 1]) ∧ Below w0.heap.size w0 w' := by
  refine enter (n := 37) (args := [W a, W b, W 0]) Try.func23 rfl rfl (Nat.le_of_ble_eq_true rfl) fun ac hs => ?_
  refine wp_seq ?_
  refine wp_region_lit ?_
  refine lstep (wpO_plain rfl (op_box hs none none (cs := (Wl a)) rfl rfl rfl rfl rfl rfl fun g1 ac w hs => ?_))
  refine lstep (wpO_plain rfl (op_box hs none none (cs := (Wl b)) rfl rfl rfl rfl rfl rfl fun g2 ac w hs => ?_))
  refine lstep (wpO_plain rfl (op_box hs none none (cs := (Wl 0)) rfl rfl rfl rfl rfl rfl fun g3 ac w hs => ?_))
  refine lstep (wpO_plain rfl (op_alloc hs none none (cs := [.int .u64 0, .int .u64 0, .int .u64 0, .int .u64 0]) rfl rfl Try.zeroValue24 (by kernel_rfl) rfl rfl fun g4 ac w hs => ?_))
  refine lstep (wpO_plain rfl (op_assign hs none rfl rfl rfl rfl fun ac hs => ?_))
  refine wpList_nil ?_
  refine then_n ?_
  refine wp_seq ?_
  refine wp_seq ?_
  refine wp_region_lit ?_
  refine lstep (wpO_plain rfl (op_load hs none 2 (v := W 0) rfl rfl rfl rfl Try.isAgg24 Try.sizeOf24 rfl rfl fun ac hs => ?_))
  refine lstep (wpO_plain rfl (op_build hs none (qs := []) (v := .agg #[.int .u64 0, .int .u64 0, .int .u64 0, .int .u64 0]) rfl rfl rfl rfl (fun _ => by kernel_rfl) rfl fun ac hs => ?_))
  refine lstep (wpO_plain rfl (op_bin hs none (v := .bool true) rfl rfl rfl rfl (fun w => run_eqGuard_agg w .eql 24 _ _ _ _ Try.eqGuardType24) (eqlW 0 0 (by decide) (by decide) true (decide_eq_true rfl)) rfl fun ac hs => ?_))
  refine wpList_nil ?_
  refine then_n ?_
  refine wp_cond_true (hs.ev rfl) ?_
  refine wp_seq ?_
  refine wp_region_lit ?_
  refine lstep (wpO_plain rfl (op_build hs none (qs := []) (v := .agg #[.int .u64 0, .int .u64 0, .int .u64 0, .int .u64 0]) rfl rfl rfl rfl (fun _ => by kernel_rfl) rfl fun ac hs => ?_))
  refine lstep (wpO_plain rfl (op_store hs 3 (vs := [.int .u64 0, .int .u64 0, .int .u64 0, .int .u64 0]) rfl rfl rfl rfl rfl Try.sizeOf24 rfl rfl rfl rfl rfl fun w hs => ?_))
  refine lstep (wpO_plain rfl (op_assign hs none rfl rfl rfl rfl fun ac hs => ?_))
  refine wpList_nil ?_
  refine then_n ?_
  refine wp_ret ?_
  refine then_r ?_
  exact bodyPost_ret (res2 rfl (rv_c hs 3 (v := .agg #[.int .u64 0, .int .u64 0, .int .u64 0, .int .u64 0]) rfl rfl Try.isAgg24 Try.sizeOf24 rfl) (rv_t hs rfl)) hs.defers ⟨by first | done | rfl, hs.below⟩
theorem rrem0_c (a b : Nat) (ha : a < 2 ^ 256) (hb : b < 2 ^ 256) (w0 : World) : Calls Try.prog 24 #[W a, W b, W 0] w0 fun e w' => e = .returned (.tuple #[W 0, .int .i64 1]) ∧ Below w0.heap.size w0 w' := by
  refine enter (n := 51) (args := [W a, W b, W 0]) Try.func24 rfl rfl (Nat.le_of_ble_eq_true rfl) fun ac hs => ?_
  refine wp_seq ?_
  refine wp_region_lit ?_
  refine lstep (wpO_plain rfl (op_box hs none none (cs := (Wl a)) rfl rfl rfl rfl rfl rfl fun g1 ac w hs => ?_))
  refine lstep (wpO_plain rfl (op_box hs none none (cs := (Wl b)) rfl rfl rfl rfl rfl rfl fun g2 ac w hs => ?_))
  refine lstep (wpO_plain rfl (op_box hs none none (cs := (Wl 0)) rfl rfl rfl rfl rfl rfl fun g3 ac w hs => ?_))
  refine lstep (wpO_plain rfl (op_alloc hs none none (cs := [.int .u64 0, .int .u64 0, .int .u64 0, .int .u64 0]) rfl rfl Try.zeroValue24 (by kernel_rfl) rfl rfl fun g4 ac w hs => ?_))
  refine lstep (wpO_plain rfl (op_assign hs none rfl rfl rfl rfl fun ac hs => ?_))
  refine wpList_nil ?_
  refine then_n ?_
  refine wp_seq ?_
  refine wp_seq ?_
  refine wp_region_lit ?_
  refine lstep (wpO_plain rfl (op_load hs none 2 (v := W 0) rfl rfl rfl rfl Try.isAgg24 Try.sizeOf24 rfl rfl fun ac hs => ?_))
  refine lstep (wpO_plain rfl (op_build hs none (qs := []) (v := .agg #[.int .u64 0, .int .u64 0, .int .u64 0, .int .u64 0]) rfl rfl rfl rfl (fun _ => by kernel_rfl) rfl fun ac hs => ?_))
  refine lstep (wpO_plain rfl (op_bin hs none (v := .bool true) rfl rfl rfl rfl (fun w => run_eqGuard_agg w .eql 24 _ _ _ _ Try.eqGuardType24) (eqlW 0 0 (by decide) (by decide) true (decide_eq_true rfl)) rfl fun ac hs => ?_))
  refine wpList_nil ?_
  refine then_n ?_
  refine wp_cond_true (hs.ev rfl) ?_
  refine wp_seq ?_
  refine wp_region_lit ?_
  refine lstep (wpO_plain rfl (op_build hs none (qs := []) (v := .agg #[.int .u64 0, .int .u64 0, .int .u64 0, .int .u64 0]) rfl rfl rfl rfl (fun _ => by kernel_rfl) rfl fun ac hs => ?_))
  refine lstep (wpO_plain rfl (op_store hs 3 (vs := [.int .u64 0, .int .u64 0, .int .u64 0, .int .u64 0]) rfl rfl rfl rfl rfl Try.sizeOf24 rfl rfl rfl rfl rfl fun w hs => ?_))
  refine lstep (wpO_plain rfl (op_assign hs none rfl rfl rfl rfl fun ac hs => ?_))
  refine wpList_nil ?_
  refine then_n ?_
  refine wp_ret ?_
  refine then_r ?_
  exact bodyPost_ret (res2 rfl (rv_c hs 3 (v := .agg #[.int .u64 0, .int .u64 0, .int .u64 0, .int .u64 0]) rfl rfl Try.isAgg24 Try.sizeOf24 rfl) (rv_t hs rfl)) hs.defers ⟨by first | done | rfl, hs.below⟩
end Go.Proofs.Ytaeafgkjinhceaa
