/- The laws of wide. -/
import Derived.Test.YtaeafgkjinhceaaWLaw
import Derived.Test.YtaeafgkjinhceaaLawP
import Derived.Test.YtaeafgkjinhceaaEqA
import Derived.Test.YtaeafgkjinhceaaInv
import Derived.Test.YtaeafgkjinhceaaBackP
namespace Go.Proofs.Ytaeafgkjinhceaa
open Go.RowKit
set_option maxRecDepth 10000

theorem txV_lt (s : ByteArray) : txV s < 2 ^ 256 := by
  by_cases h0 : s.size = 0 ∨ 1 < s.size ∧ sb s 0 = 48
  · rw [tx_V0 (tx_head h0) (by decide)]; exact Nat.two_pow_pos 256
  · by_cases hf : Figs s s.size
    · by_cases h : 2 ^ 256 ≤ dv s s.size
      · rw [tx_V0 (tx_big h0 hf h) (by decide)]; exact Nat.two_pow_pos 256
      · rw [tx_V (tx_ok h0 hf h)]; exact Nat.lt_of_not_le h
    · have : txE s = 3 := by unfold txE; rw [if_neg h0, if_neg hf]
      rw [tx_V0 this (by decide)]; exact Nat.two_pow_pos 256

set_option maxHeartbeats 4000000 in
theorem undone_law (a b : Nat) (ha : a < 2 ^ 256) (hb : b < 2 ^ 256) (w0 : World) : Calls Try.prog 7 #[W a, W b] w0 fun e w' => e = .returned (.bool true) ∧ Below w0.heap.size w0 w' := by
  refine enter (n := 110) (args := [W a, W b]) Try.func7 rfl rfl (Nat.le_of_ble_eq_true rfl) fun ac hs => ?_
  refine wp_seq ?_
  refine wp_region_lit ?_
  refine lstep (wpO_plain rfl (op_box hs none none (cs := (Wl a)) rfl rfl rfl rfl rfl rfl fun g1 ac w hs => ?_))
  refine lstep (wpO_plain rfl (op_box hs none none (cs := (Wl b)) rfl rfl rfl rfl rfl rfl fun g2 ac w hs => ?_))
  refine lstep (wpO_plain rfl (op_assign hs none rfl rfl rfl rfl fun ac hs => ?_))
  refine wpList_nil ?_
  refine then_n ?_
  refine wp_seq ?_
  refine wp_region_lit ?_
  refine lstep (wpO_plain rfl (op_load hs none 0 (v := W a) rfl rfl rfl rfl Try.isAgg24 Try.sizeOf24 rfl rfl fun ac hs => ?_))
  refine lstep (wpO_plain rfl (op_load hs none 1 (v := W b) rfl rfl rfl rfl Try.isAgg24 Try.sizeOf24 rfl rfl fun ac hs => ?_))
  obtain ⟨s3, hs3, ls3⟩ : ∃ z0, (a + b) % 2 ^ 256 = z0 ∧ z0 < 2 ^ 256 := ⟨_, rfl, Nat.mod_lt _ (Nat.two_pow_pos 256)⟩
  obtain ⟨c4, hc4⟩ : ∃ z0, (a + b) / 2 ^ 256 = z0 := ⟨_, rfl⟩
  refine lstep (wpO_plain rfl (op_call (F := 11) hs none (v := .tuple #[W s3, .int .u64 ((c4 : Nat) : Int)]) rfl rfl rfl rfl (Try.call11 _) (fun w => add_at w a b s3 c4 ha hb hs3 hc4) rfl fun ac w hs => ?_))
  refine lstep (wpO_plain rfl (op_move hs none rfl rfl rfl rfl fun ac hs => ?_))
  refine lstep (wpO_plain rfl (op_extract hs none rfl rfl rfl rfl rfl fun ac hs => ?_))
  refine lstep (wpO_plain rfl (op_extract hs none rfl rfl rfl rfl rfl fun ac hs => ?_))
  refine lstep (wpO_plain rfl (op_alloc hs none none (cs := [.int .u64 0, .int .u64 0, .int .u64 0, .int .u64 0]) rfl rfl Try.zeroValue24 (by kernel_rfl) rfl rfl fun g5 ac w hs => ?_))
  refine lstep (wpO_plain rfl (op_store hs 2 (vs := (Wl s3)) rfl rfl rfl rfl rfl Try.sizeOf24 rfl rfl rfl rfl rfl fun w hs => ?_))
  refine lstep (wpO_plain rfl (op_assign hs none rfl rfl rfl rfl fun ac hs => ?_))
  refine wpList_nil ?_
  refine then_n ?_
  refine wp_seq ?_
  replace hs : St 110 w0 [(2, true, .pointer (some ⟨g1, 0, none⟩)), (3, true, .pointer (some ⟨g2, 0, none⟩)), (4, true, .bool false), (5, true, .pointer (some ⟨g5, 0, none⟩)), (6, true, .int .u64 ((c4 : Nat) : Int))] [(true, g1, 24, (Wl a)), (true, g2, 24, (Wl b)), (true, g5, 24, (Wl s3))] ac _ := hs.re ⟨rfl, rfl, rfl, rfl, rfl, trivial⟩
  refine wp_region_lit ?_
  refine lstep (wpO_plain rfl (op_load hs none 2 (v := W s3) rfl rfl rfl rfl Try.isAgg24 Try.sizeOf24 rfl rfl fun ac hs => ?_))
  refine lstep (wpO_plain rfl (op_load hs none 1 (v := W b) rfl rfl rfl rfl Try.isAgg24 Try.sizeOf24 rfl rfl fun ac hs => ?_))
  obtain ⟨d6, hd6, ld6⟩ : ∃ z0, (s3 + 2 ^ 256 - b) % 2 ^ 256 = z0 ∧ z0 < 2 ^ 256 := ⟨_, rfl, Nat.mod_lt _ (Nat.two_pow_pos 256)⟩
  obtain ⟨c7, hc7⟩ : ∃ z0, bor s3 b = z0 := ⟨_, rfl⟩
  refine lstep (wpO_plain rfl (op_call (F := 13) hs none (v := .tuple #[W d6, .int .u64 ((c7 : Nat) : Int)]) rfl rfl rfl rfl (Try.call13 _) (fun w => sub_at w s3 b d6 c7 ls3 hb hd6 hc7) rfl fun ac w hs => ?_))
  refine lstep (wpO_plain rfl (op_move hs none rfl rfl rfl rfl fun ac hs => ?_))
  refine lstep (wpO_plain rfl (op_extract hs none rfl rfl rfl rfl rfl fun ac hs => ?_))
  refine lstep (wpO_plain rfl (op_extract hs none rfl rfl rfl rfl rfl fun ac hs => ?_))
  refine lstep (wpO_plain rfl (op_alloc hs none none (cs := [.int .u64 0, .int .u64 0, .int .u64 0, .int .u64 0]) rfl rfl Try.zeroValue24 (by kernel_rfl) rfl rfl fun g8 ac w hs => ?_))
  refine lstep (wpO_plain rfl (op_store hs 3 (vs := (Wl d6)) rfl rfl rfl rfl rfl Try.sizeOf24 rfl rfl rfl rfl rfl fun w hs => ?_))
  refine lstep (wpO_plain rfl (op_assign hs none rfl rfl rfl rfl fun ac hs => ?_))
  refine wpList_nil ?_
  refine then_n ?_
  refine wp_seq ?_
  refine wp_seq ?_
  replace hs : St 110 w0 [(2, true, .pointer (some ⟨g1, 0, none⟩)), (3, true, .pointer (some ⟨g2, 0, none⟩)), (4, true, .bool false), (6, true, .int .u64 ((c4 : Nat) : Int)), (7, true, .pointer (some ⟨g8, 0, none⟩)), (8, true, .int .u64 ((c7 : Nat) : Int))] [(true, g1, 24, (Wl a)), (true, g2, 24, (Wl b)), (true, g5, 24, (Wl s3)), (true, g8, 24, (Wl d6))] ac _ := hs.re ⟨rfl, rfl, rfl, rfl, rfl, rfl, trivial⟩
  refine wp_region_lit ?_
  refine lstep (wpO_plain rfl (op_load hs none 3 (v := W d6) rfl rfl rfl rfl Try.isAgg24 Try.sizeOf24 rfl rfl fun ac hs => ?_))
  refine lstep (wpO_plain rfl (op_load hs none 0 (v := W a) rfl rfl rfl rfl Try.isAgg24 Try.sizeOf24 rfl rfl fun ac hs => ?_))
  refine lstep (wpO_plain rfl (op_bin hs none (v := .bool false) rfl rfl rfl rfl (fun w => run_eqGuard_agg w .neq 24 _ _ _ _ Try.eqGuardType24) (neqW d6 a ld6 ha false (decide_eq_false (not_not_intro (undo_1 ha hb hs3 hd6)))) rfl fun ac hs => ?_))
  refine lstep (wpO_plain rfl (op_move hs none rfl rfl rfl rfl fun ac hs => ?_))
  refine lstep (wpO_in hs rfl rfl rfl (op_move hs none rfl rfl rfl rfl fun ac hs => ?_))
  refine lstep (wpO_in hs rfl rfl rfl (op_move hs none rfl rfl rfl rfl fun ac hs => ?_))
  refine lstep (wpO_in hs rfl rfl rfl (op_bin hs none (v := .bool false) rfl rfl rfl rfl (fun _ => rfl) (fun w => dF (Classical.not_not.2 (undo_2 ha hb hs3 hc4 hc7)) (bin_neqN (x := c4) (y := c7) w)) rfl fun ac hs => ?_))
  refine lstep (wpO_plain rfl (op_pickF hs none rfl rfl rfl rfl rfl fun ac hs => ?_))
  refine wpList_nil ?_
  refine then_n ?_
  refine wp_cond_false (hs.ev rfl) ?_
  refine wp_skip ?_
  refine then_n ?_
  refine wp_seq ?_
  refine wp_seq ?_
  replace hs : St 110 w0 [(2, true, .pointer (some ⟨g1, 0, none⟩)), (3, true, .pointer (some ⟨g2, 0, none⟩)), (4, true, .bool false)] [(true, g1, 24, (Wl a)), (true, g2, 24, (Wl b)), (true, g5, 24, (Wl s3)), (true, g8, 24, (Wl d6))] ac _ := hs.re ⟨rfl, rfl, rfl, trivial⟩
  refine wp_region_lit ?_
  refine lstep (wpO_plain rfl (op_load hs none 1 (v := W b) rfl rfl rfl rfl Try.isAgg24 Try.sizeOf24 rfl rfl fun ac hs => ?_))
  refine lstep (wpO_plain rfl (op_build hs none (qs := []) (v := .agg #[.int .u64 0, .int .u64 0, .int .u64 0, .int .u64 0]) rfl rfl rfl rfl (fun _ => by kernel_rfl) rfl fun ac hs => ?_))
  refine lstep (wpO_plain rfl (op_bin hs none (v := .bool (decide (b = 0))) rfl rfl rfl rfl (fun w => run_eqGuard_agg w .eql 24 _ _ _ _ Try.eqGuardType24) (eqlW b 0 hb (by decide) _ rfl) rfl fun ac hs => ?_))
  refine wpList_nil ?_
  refine then_n ?_
  refine wp_cond_split (hs.ev rfl) (fun hc => ?_) (fun hc => ?_)
  · skip
    have hp9 := of_decide_eq_true hc
    refine wp_seq ?_
    refine wp_region_lit ?_
    refine lstep (wpO_plain rfl (op_call (F := 15) hs none (v := .bool true) rfl rfl rfl rfl (Try.call15 _) alive_c rfl fun ac w hs => ?_))
    refine lstep (wpO_plain rfl (op_assign hs none rfl rfl rfl rfl fun ac hs => ?_))
    refine wpList_nil ?_
    refine then_n ?_
    refine wp_ret ?_
    refine then_r ?_
    exact bodyPost_ret (res1 rfl (rv_t hs rfl)) hs.defers ⟨rfl, hs.below⟩
  · skip
    have hp10 := of_decide_eq_false hc
    refine wp_skip ?_
    refine then_n ?_
    refine wp_seq ?_
    refine wp_region_lit ?_
    refine lstep (wpO_plain rfl (op_load hs none 0 (v := W a) rfl rfl rfl rfl Try.isAgg24 Try.sizeOf24 rfl rfl fun ac hs => ?_))
    refine lstep (wpO_plain rfl (op_load hs none 1 (v := W b) rfl rfl rfl rfl Try.isAgg24 Try.sizeOf24 rfl rfl fun ac hs => ?_))
    obtain ⟨q11, hq11, lq11⟩ : ∃ z0, a / b = z0 ∧ z0 < 2 ^ 256 := ⟨_, rfl, Nat.lt_of_le_of_lt (Nat.div_le_self _ _) ha⟩
    obtain ⟨r12, hr12, lr12⟩ : ∃ z0, a % b = z0 ∧ z0 < 2 ^ 256 := ⟨_, rfl, Nat.lt_trans (Nat.mod_lt _ (Nat.pos_of_ne_zero hp10)) hb⟩
    refine lstep (wpO_plain rfl (op_call (F := 21) hs none (v := .tuple #[W q11, W r12, .int .i64 0]) rfl rfl rfl rfl (Try.call21 _) (wdiv_c a b q11 r12 ha hb (Nat.pos_of_ne_zero hp10) hq11 hr12) rfl fun ac w hs => ?_))
    refine lstep (wpO_plain rfl (op_move hs none rfl rfl rfl rfl fun ac hs => ?_))
    refine lstep (wpO_plain rfl (op_extract hs none rfl rfl rfl rfl rfl fun ac hs => ?_))
    refine lstep (wpO_plain rfl (op_extract hs none rfl rfl rfl rfl rfl fun ac hs => ?_))
    refine lstep (wpO_plain rfl (op_extract hs none rfl rfl rfl rfl rfl fun ac hs => ?_))
    refine lstep (wpO_plain rfl (op_alloc hs none none (cs := [.int .u64 0, .int .u64 0, .int .u64 0, .int .u64 0]) rfl rfl Try.zeroValue24 (by kernel_rfl) rfl rfl fun g13 ac w hs => ?_))
    refine lstep (wpO_plain rfl (op_alloc hs none none (cs := [.int .u64 0, .int .u64 0, .int .u64 0, .int .u64 0]) rfl rfl Try.zeroValue24 (by kernel_rfl) rfl rfl fun g14 ac w hs => ?_))
    refine lstep (wpO_plain rfl (op_store hs 4 (vs := (Wl q11)) rfl rfl rfl rfl rfl Try.sizeOf24 rfl rfl rfl rfl rfl fun w hs => ?_))
    refine lstep (wpO_plain rfl (op_store hs 5 (vs := (Wl r12)) rfl rfl rfl rfl rfl Try.sizeOf24 rfl rfl rfl rfl rfl fun w hs => ?_))
    refine lstep (wpO_plain rfl (op_assign hs none rfl rfl rfl rfl fun ac hs => ?_))
    refine wpList_nil ?_
    refine then_n ?_
    refine wp_seq ?_
    replace hs : St 110 w0 [(2, true, .pointer (some ⟨g1, 0, none⟩)), (3, true, .pointer (some ⟨g2, 0, none⟩)), (4, true, .bool false), (9, true, .pointer (some ⟨g13, 0, none⟩)), (10, true, .pointer (some ⟨g14, 0, none⟩)), (11, true, .int .i64 0)] [(true, g1, 24, (Wl a)), (true, g2, 24, (Wl b)), (true, g5, 24, (Wl s3)), (true, g8, 24, (Wl d6)), (true, g13, 24, (Wl q11)), (true, g14, 24, (Wl r12))] ac _ := hs.re ⟨rfl, rfl, rfl, rfl, rfl, rfl, trivial⟩
    refine wp_region_lit ?_
    refine lstep (wpO_plain rfl (op_load hs none 4 (v := W q11) rfl rfl rfl rfl Try.isAgg24 Try.sizeOf24 rfl rfl fun ac hs => ?_))
    refine lstep (wpO_plain rfl (op_load hs none 1 (v := W b) rfl rfl rfl rfl Try.isAgg24 Try.sizeOf24 rfl rfl fun ac hs => ?_))
    obtain ⟨lo15, hlo15, llo15⟩ : ∃ z0, q11 * b % 2 ^ 256 = z0 ∧ z0 < 2 ^ 256 := ⟨_, rfl, Nat.mod_lt _ (Nat.two_pow_pos 256)⟩
    obtain ⟨hi16, hhi16, lhi16⟩ : ∃ z0, q11 * b / 2 ^ 256 = z0 ∧ z0 < 2 ^ 256 := ⟨_, rfl, mul_hi lq11 hb⟩
    refine lstep (wpO_plain rfl (op_call (F := 29) hs none (v := .tuple #[W lo15, W hi16]) rfl rfl rfl rfl (Try.call29 _) (fun w => wmul_at w q11 b lo15 hi16 lq11 hb hlo15 hhi16) rfl fun ac w hs => ?_))
    refine lstep (wpO_plain rfl (op_move hs none rfl rfl rfl rfl fun ac hs => ?_))
    refine lstep (wpO_plain rfl (op_extract hs none rfl rfl rfl rfl rfl fun ac hs => ?_))
    refine lstep (wpO_plain rfl (op_extract hs none rfl rfl rfl rfl rfl fun ac hs => ?_))
    refine lstep (wpO_plain rfl (op_alloc hs none none (cs := [.int .u64 0, .int .u64 0, .int .u64 0, .int .u64 0]) rfl rfl Try.zeroValue24 (by kernel_rfl) rfl rfl fun g17 ac w hs => ?_))
    refine lstep (wpO_plain rfl (op_alloc hs none none (cs := [.int .u64 0, .int .u64 0, .int .u64 0, .int .u64 0]) rfl rfl Try.zeroValue24 (by kernel_rfl) rfl rfl fun g18 ac w hs => ?_))
    refine lstep (wpO_plain rfl (op_store hs 6 (vs := (Wl lo15)) rfl rfl rfl rfl rfl Try.sizeOf24 rfl rfl rfl rfl rfl fun w hs => ?_))
    refine lstep (wpO_plain rfl (op_store hs 7 (vs := (Wl hi16)) rfl rfl rfl rfl rfl Try.sizeOf24 rfl rfl rfl rfl rfl fun w hs => ?_))
    refine wpList_nil ?_
    refine then_n ?_
    refine wp_seq ?_
    replace hs : St 110 w0 [(2, true, .pointer (some ⟨g1, 0, none⟩)), (3, true, .pointer (some ⟨g2, 0, none⟩)), (4, true, .bool false), (10, true, .pointer (some ⟨g14, 0, none⟩)), (11, true, .int .i64 0), (12, true, .pointer (some ⟨g17, 0, none⟩)), (13, true, .pointer (some ⟨g18, 0, none⟩))] [(true, g1, 24, (Wl a)), (true, g2, 24, (Wl b)), (true, g5, 24, (Wl s3)), (true, g8, 24, (Wl d6)), (true, g13, 24, (Wl q11)), (true, g14, 24, (Wl r12)), (true, g17, 24, (Wl lo15)), (true, g18, 24, (Wl hi16))] ac _ := hs.re ⟨rfl, rfl, rfl, rfl, rfl, rfl, rfl, trivial⟩
    refine wp_region_lit ?_
    refine lstep (wpO_plain rfl (op_load hs none 6 (v := W lo15) rfl rfl rfl rfl Try.isAgg24 Try.sizeOf24 rfl rfl fun ac hs => ?_))
    refine lstep (wpO_plain rfl (op_load hs none 5 (v := W r12) rfl rfl rfl rfl Try.isAgg24 Try.sizeOf24 rfl rfl fun ac hs => ?_))
    obtain ⟨s19, hs19, ls19⟩ : ∃ z0, (lo15 + r12) % 2 ^ 256 = z0 ∧ z0 < 2 ^ 256 := ⟨_, rfl, Nat.mod_lt _ (Nat.two_pow_pos 256)⟩
    obtain ⟨c20, hc20⟩ : ∃ z0, (lo15 + r12) / 2 ^ 256 = z0 := ⟨_, rfl⟩
    refine lstep (wpO_plain rfl (op_call (F := 11) hs none (v := .tuple #[W s19, .int .u64 ((c20 : Nat) : Int)]) rfl rfl rfl rfl (Try.call11 _) (fun w => add_at w lo15 r12 s19 c20 llo15 lr12 hs19 hc20) rfl fun ac w hs => ?_))
    refine lstep (wpO_plain rfl (op_move hs none rfl rfl rfl rfl fun ac hs => ?_))
    refine lstep (wpO_plain rfl (op_extract hs none rfl rfl rfl rfl rfl fun ac hs => ?_))
    refine lstep (wpO_plain rfl (op_extract hs none rfl rfl rfl rfl rfl fun ac hs => ?_))
    refine lstep (wpO_plain rfl (op_alloc hs none none (cs := [.int .u64 0, .int .u64 0, .int .u64 0, .int .u64 0]) rfl rfl Try.zeroValue24 (by kernel_rfl) rfl rfl fun g21 ac w hs => ?_))
    refine lstep (wpO_plain rfl (op_store hs 8 (vs := (Wl s19)) rfl rfl rfl rfl rfl Try.sizeOf24 rfl rfl rfl rfl rfl fun w hs => ?_))
    refine lstep (wpO_plain rfl (op_assign hs none rfl rfl rfl rfl fun ac hs => ?_))
    refine wpList_nil ?_
    refine then_n ?_
    refine wp_seq ?_
    replace hs : St 110 w0 [(2, true, .pointer (some ⟨g1, 0, none⟩)), (3, true, .pointer (some ⟨g2, 0, none⟩)), (4, true, .bool false), (10, true, .pointer (some ⟨g14, 0, none⟩)), (11, true, .int .i64 0), (13, true, .pointer (some ⟨g18, 0, none⟩)), (14, true, .pointer (some ⟨g21, 0, none⟩)), (15, true, .int .u64 ((c20 : Nat) : Int))] [(true, g1, 24, (Wl a)), (true, g2, 24, (Wl b)), (true, g5, 24, (Wl s3)), (true, g8, 24, (Wl d6)), (true, g13, 24, (Wl q11)), (true, g14, 24, (Wl r12)), (true, g17, 24, (Wl lo15)), (true, g18, 24, (Wl hi16)), (true, g21, 24, (Wl s19))] ac _ := hs.re ⟨rfl, rfl, rfl, rfl, rfl, rfl, rfl, rfl, trivial⟩
    refine wp_region_lit ?_
    refine lstep (wpO_plain rfl (op_load hs none 0 (v := W a) rfl rfl rfl rfl Try.isAgg24 Try.sizeOf24 rfl rfl fun ac hs => ?_))
    refine lstep (wpO_plain rfl (op_load hs none 1 (v := W b) rfl rfl rfl rfl Try.isAgg24 Try.sizeOf24 rfl rfl fun ac hs => ?_))
    obtain ⟨lo22, hlo22, llo22⟩ : ∃ z0, a * b % 2 ^ 256 = z0 ∧ z0 < 2 ^ 256 := ⟨_, rfl, Nat.mod_lt _ (Nat.two_pow_pos 256)⟩
    obtain ⟨hi23, hhi23, lhi23⟩ : ∃ z0, a * b / 2 ^ 256 = z0 ∧ z0 < 2 ^ 256 := ⟨_, rfl, mul_hi ha hb⟩
    refine lstep (wpO_plain rfl (op_call (F := 29) hs none (v := .tuple #[W lo22, W hi23]) rfl rfl rfl rfl (Try.call29 _) (fun w => wmul_at w a b lo22 hi23 ha hb hlo22 hhi23) rfl fun ac w hs => ?_))
    refine lstep (wpO_plain rfl (op_move hs none rfl rfl rfl rfl fun ac hs => ?_))
    refine lstep (wpO_plain rfl (op_extract hs none rfl rfl rfl rfl rfl fun ac hs => ?_))
    refine lstep (wpO_plain rfl (op_extract hs none rfl rfl rfl rfl rfl fun ac hs => ?_))
    refine lstep (wpO_plain rfl (op_alloc hs none none (cs := [.int .u64 0, .int .u64 0, .int .u64 0, .int .u64 0]) rfl rfl Try.zeroValue24 (by kernel_rfl) rfl rfl fun g24 ac w hs => ?_))
    refine lstep (wpO_plain rfl (op_alloc hs none none (cs := [.int .u64 0, .int .u64 0, .int .u64 0, .int .u64 0]) rfl rfl Try.zeroValue24 (by kernel_rfl) rfl rfl fun g25 ac w hs => ?_))
    refine lstep (wpO_plain rfl (op_store hs 9 (vs := (Wl lo22)) rfl rfl rfl rfl rfl Try.sizeOf24 rfl rfl rfl rfl rfl fun w hs => ?_))
    refine lstep (wpO_plain rfl (op_store hs 10 (vs := (Wl hi23)) rfl rfl rfl rfl rfl Try.sizeOf24 rfl rfl rfl rfl rfl fun w hs => ?_))
    refine wpList_nil ?_
    refine then_n ?_
    refine wp_seq ?_
    replace hs : St 110 w0 [(2, true, .pointer (some ⟨g1, 0, none⟩)), (3, true, .pointer (some ⟨g2, 0, none⟩)), (4, true, .bool false), (10, true, .pointer (some ⟨g14, 0, none⟩)), (11, true, .int .i64 0), (13, true, .pointer (some ⟨g18, 0, none⟩)), (14, true, .pointer (some ⟨g21, 0, none⟩)), (15, true, .int .u64 ((c20 : Nat) : Int)), (16, true, .pointer (some ⟨g24, 0, none⟩)), (17, true, .pointer (some ⟨g25, 0, none⟩))] [(true, g1, 24, (Wl a)), (true, g2, 24, (Wl b)), (true, g5, 24, (Wl s3)), (true, g8, 24, (Wl d6)), (true, g13, 24, (Wl q11)), (true, g14, 24, (Wl r12)), (true, g17, 24, (Wl lo15)), (true, g18, 24, (Wl hi16)), (true, g21, 24, (Wl s19)), (true, g24, 24, (Wl lo22)), (true, g25, 24, (Wl hi23))] ac _ := hs.re ⟨rfl, rfl, rfl, rfl, rfl, rfl, rfl, rfl, rfl, rfl, trivial⟩
    refine wp_region_lit ?_
    refine lstep (wpO_plain rfl (op_load hs none 10 (v := W hi23) rfl rfl rfl rfl Try.isAgg24 Try.sizeOf24 rfl rfl fun ac hs => ?_))
    refine lstep (wpO_plain rfl (op_load hs none 9 (v := W lo22) rfl rfl rfl rfl Try.isAgg24 Try.sizeOf24 rfl rfl fun ac hs => ?_))
    refine lstep (wpO_plain rfl (op_load hs none 1 (v := W b) rfl rfl rfl rfl Try.isAgg24 Try.sizeOf24 rfl rfl fun ac hs => ?_))
    obtain ⟨r26, hr26, lr26⟩ : ∃ z0, (hi23 * 2 ^ 256 + lo22) % b = z0 ∧ z0 < 2 ^ 256 := ⟨_, rfl, Nat.lt_trans (Nat.mod_lt _ (Nat.pos_of_ne_zero hp10)) hb⟩
    refine lstep (wpO_plain rfl (op_call (F := 23) hs none (v := .tuple #[W r26, .int .i64 0]) rfl rfl rfl rfl (Try.call23 _) (wrem_c hi23 lo22 b r26 lhi23 llo22 hb (Nat.pos_of_ne_zero hp10) hr26) rfl fun ac w hs => ?_))
    refine lstep (wpO_plain rfl (op_move hs none rfl rfl rfl rfl fun ac hs => ?_))
    refine lstep (wpO_plain rfl (op_extract hs none rfl rfl rfl rfl rfl fun ac hs => ?_))
    refine lstep (wpO_plain rfl (op_extract hs none rfl rfl rfl rfl rfl fun ac hs => ?_))
    refine lstep (wpO_plain rfl (op_alloc hs none none (cs := [.int .u64 0, .int .u64 0, .int .u64 0, .int .u64 0]) rfl rfl Try.zeroValue24 (by kernel_rfl) rfl rfl fun g27 ac w hs => ?_))
    refine lstep (wpO_plain rfl (op_store hs 11 (vs := (Wl r26)) rfl rfl rfl rfl rfl Try.sizeOf24 rfl rfl rfl rfl rfl fun w hs => ?_))
    refine lstep (wpO_plain rfl (op_assign hs none rfl rfl rfl rfl fun ac hs => ?_))
    refine wpList_nil ?_
    refine then_n ?_
    refine wp_seq ?_
    replace hs : St 110 w0 [(2, true, .pointer (some ⟨g1, 0, none⟩)), (3, true, .pointer (some ⟨g2, 0, none⟩)), (4, true, .bool false), (10, true, .pointer (some ⟨g14, 0, none⟩)), (11, true, .int .i64 0), (13, true, .pointer (some ⟨g18, 0, none⟩)), (14, true, .pointer (some ⟨g21, 0, none⟩)), (15, true, .int .u64 ((c20 : Nat) : Int)), (18, true, .pointer (some ⟨g27, 0, none⟩)), (19, true, .int .i64 0)] [(true, g1, 24, (Wl a)), (true, g2, 24, (Wl b)), (true, g5, 24, (Wl s3)), (true, g8, 24, (Wl d6)), (true, g13, 24, (Wl q11)), (true, g14, 24, (Wl r12)), (true, g17, 24, (Wl lo15)), (true, g18, 24, (Wl hi16)), (true, g21, 24, (Wl s19)), (true, g24, 24, (Wl lo22)), (true, g25, 24, (Wl hi23)), (true, g27, 24, (Wl r26))] ac _ := hs.re ⟨rfl, rfl, rfl, rfl, rfl, rfl, rfl, rfl, rfl, rfl, trivial⟩
    refine wp_region_lit ?_
    refine lstep (wpO_plain rfl (op_call (F := 15) hs none (v := .bool true) rfl rfl rfl rfl (Try.call15 _) alive_c rfl fun ac w hs => ?_))
    refine lstep (wpO_plain rfl (op_move hs none rfl rfl rfl rfl fun ac hs => ?_))
    refine lstep (wpO_in hs rfl rfl rfl (op_move hs none rfl rfl rfl rfl fun ac hs => ?_))
    refine lstep (wpO_in hs rfl rfl rfl (op_bin hs none (v := .bool true) rfl rfl rfl rfl (fun _ => rfl) (fun _ => by kernel_rfl) rfl fun ac hs => ?_))
    refine lstep (wpO_plain rfl (op_pickT hs none rfl rfl rfl rfl rfl fun ac hs => ?_))
    refine lstep (wpO_plain rfl (op_move hs none rfl rfl rfl rfl fun ac hs => ?_))
    refine lstep (wpO_in hs rfl rfl rfl (op_load hs none 7 (v := W hi16) rfl rfl rfl rfl Try.isAgg24 Try.sizeOf24 rfl rfl fun ac hs => ?_))
    refine lstep (wpO_in hs rfl rfl rfl (op_build hs none (qs := []) (v := .agg #[.int .u64 0, .int .u64 0, .int .u64 0, .int .u64 0]) rfl rfl rfl rfl (fun _ => by kernel_rfl) rfl fun ac hs => ?_))
    refine lstep (wpO_in hs rfl rfl rfl (op_bin hs none (v := .bool true) rfl rfl rfl rfl (fun w => run_eqGuard_agg w .eql 24 _ _ _ _ Try.eqGuardType24) (eqlW hi16 0 lhi16 (by decide) true (decide_eq_true (undo_hi ha hq11 hr12 hhi16))) rfl fun ac hs => ?_))
    refine lstep (wpO_plain rfl (op_pickT hs none rfl rfl rfl rfl rfl fun ac hs => ?_))
    refine lstep (wpO_plain rfl (op_move hs none rfl rfl rfl rfl fun ac hs => ?_))
    refine lstep (wpO_in hs rfl rfl rfl (op_load hs none 8 (v := W s19) rfl rfl rfl rfl Try.isAgg24 Try.sizeOf24 rfl rfl fun ac hs => ?_))
    refine lstep (wpO_in hs rfl rfl rfl (op_load hs none 0 (v := W a) rfl rfl rfl rfl Try.isAgg24 Try.sizeOf24 rfl rfl fun ac hs => ?_))
    refine lstep (wpO_in hs rfl rfl rfl (op_bin hs none (v := .bool true) rfl rfl rfl rfl (fun w => run_eqGuard_agg w .eql 24 _ _ _ _ Try.eqGuardType24) (eqlW s19 a ls19 ha true (decide_eq_true (undo_s ha hq11 hr12 hlo15 hs19))) rfl fun ac hs => ?_))
    refine lstep (wpO_plain rfl (op_pickT hs none rfl rfl rfl rfl rfl fun ac hs => ?_))
    refine lstep (wpO_plain rfl (op_move hs none rfl rfl rfl rfl fun ac hs => ?_))
    refine lstep (wpO_in hs rfl rfl rfl (op_move hs none rfl rfl rfl rfl fun ac hs => ?_))
    refine lstep (wpO_in hs rfl rfl rfl (op_bin hs none (v := .bool true) rfl rfl rfl rfl (fun _ => rfl) (fun w => dT (undo_c ha hq11 hr12 hlo15 hc20) (bin_eqlN (x := c20) (y := 0) w)) rfl fun ac hs => ?_))
    refine lstep (wpO_plain rfl (op_pickT hs none rfl rfl rfl rfl rfl fun ac hs => ?_))
    refine lstep (wpO_plain rfl (op_move hs none rfl rfl rfl rfl fun ac hs => ?_))
    refine lstep (wpO_in hs rfl rfl rfl (op_load hs none 5 (v := W r12) rfl rfl rfl rfl Try.isAgg24 Try.sizeOf24 rfl rfl fun ac hs => ?_))
    refine lstep (wpO_in hs rfl rfl rfl (op_load hs none 1 (v := W b) rfl rfl rfl rfl Try.isAgg24 Try.sizeOf24 rfl rfl fun ac hs => ?_))
    refine lstep (wpO_in hs rfl rfl rfl (op_call (F := 16) hs none (v := .int .i64 (cmpZ r12 b)) rfl rfl rfl rfl (Try.call16 _) (fun w => cmp_any w r12 b lr12 hb) rfl fun ac w hs => ?_))
    refine lstep (wpO_in hs rfl rfl rfl (op_bin hs none (v := .bool true) rfl rfl rfl rfl (fun _ => rfl) (fun w => dT (undo_lt hp10 hr12) (bin_cmp_lss r12 b w)) rfl fun ac hs => ?_))
    refine lstep (wpO_plain rfl (op_pickT hs none rfl rfl rfl rfl rfl fun ac hs => ?_))
    refine lstep (wpO_plain rfl (op_move hs none rfl rfl rfl rfl fun ac hs => ?_))
    refine lstep (wpO_in hs rfl rfl rfl (op_load hs none 11 (v := W r26) rfl rfl rfl rfl Try.isAgg24 Try.sizeOf24 rfl rfl fun ac hs => ?_))
    refine lstep (wpO_in hs rfl rfl rfl (op_build hs none (qs := []) (v := .agg #[.int .u64 0, .int .u64 0, .int .u64 0, .int .u64 0]) rfl rfl rfl rfl (fun _ => by kernel_rfl) rfl fun ac hs => ?_))
    refine lstep (wpO_in hs rfl rfl rfl (op_bin hs none (v := .bool true) rfl rfl rfl rfl (fun w => run_eqGuard_agg w .eql 24 _ _ _ _ Try.eqGuardType24) (eqlW r26 0 lr26 (by decide) true (decide_eq_true (undo_rem hlo22 hhi23 hr26))) rfl fun ac hs => ?_))
    refine lstep (wpO_plain rfl (op_pickT hs none rfl rfl rfl rfl rfl fun ac hs => ?_))
    refine lstep (wpO_plain rfl (op_move hs none rfl rfl rfl rfl fun ac hs => ?_))
    refine lstep (wpO_in hs rfl rfl rfl (op_move hs none rfl rfl rfl rfl fun ac hs => ?_))
    refine lstep (wpO_in hs rfl rfl rfl (op_bin hs none (v := .bool true) rfl rfl rfl rfl (fun _ => rfl) (fun _ => by kernel_rfl) rfl fun ac hs => ?_))
    refine lstep (wpO_plain rfl (op_pickT hs none rfl rfl rfl rfl rfl fun ac hs => ?_))
    refine lstep (wpO_plain rfl (op_assign hs none rfl rfl rfl rfl fun ac hs => ?_))
    refine wpList_nil ?_
    refine then_n ?_
    refine wp_ret ?_
    exact bodyPost_ret (res1 rfl (rv_t hs rfl)) hs.defers ⟨rfl, hs.below⟩
set_option maxHeartbeats 4000000 in
theorem laws_law (a b m : Nat) (ha : a < 2 ^ 256) (hb : b < 2 ^ 256) (hm : m < 2 ^ 256) (w0 : World) : Calls Try.prog 8 #[W a, W b, W m] w0 fun e w' => e = .returned (.bool true) ∧ Below w0.heap.size w0 w' := by
  refine enter (n := 106) (args := [W a, W b, W m]) Try.func8 rfl rfl (Nat.le_of_ble_eq_true rfl) fun ac hs => ?_
  refine wp_seq ?_
  refine wp_region_lit ?_
  refine lstep (wpO_plain rfl (op_box hs none none (cs := (Wl a)) rfl rfl rfl rfl rfl rfl fun g1 ac w hs => ?_))
  refine lstep (wpO_plain rfl (op_box hs none none (cs := (Wl b)) rfl rfl rfl rfl rfl rfl fun g2 ac w hs => ?_))
  refine lstep (wpO_plain rfl (op_box hs none none (cs := (Wl m)) rfl rfl rfl rfl rfl rfl fun g3 ac w hs => ?_))
  refine lstep (wpO_plain rfl (op_assign hs none rfl rfl rfl rfl fun ac hs => ?_))
  refine wpList_nil ?_
  refine then_n ?_
  refine wp_seq ?_
  refine wp_region_lit ?_
  refine lstep (wpO_plain rfl (op_load hs none 0 (v := W a) rfl rfl rfl rfl Try.isAgg24 Try.sizeOf24 rfl rfl fun ac hs => ?_))
  refine lstep (wpO_plain rfl (op_load hs none 1 (v := W b) rfl rfl rfl rfl Try.isAgg24 Try.sizeOf24 rfl rfl fun ac hs => ?_))
  obtain ⟨s4, hs4, ls4⟩ : ∃ z0, (a + b) % 2 ^ 256 = z0 ∧ z0 < 2 ^ 256 := ⟨_, rfl, Nat.mod_lt _ (Nat.two_pow_pos 256)⟩
  obtain ⟨c5, hc5⟩ : ∃ z0, (a + b) / 2 ^ 256 = z0 := ⟨_, rfl⟩
  refine lstep (wpO_plain rfl (op_call (F := 11) hs none (v := .tuple #[W s4, .int .u64 ((c5 : Nat) : Int)]) rfl rfl rfl rfl (Try.call11 _) (fun w => add_at w a b s4 c5 ha hb hs4 hc5) rfl fun ac w hs => ?_))
  refine lstep (wpO_plain rfl (op_move hs none rfl rfl rfl rfl fun ac hs => ?_))
  refine lstep (wpO_plain rfl (op_extract hs none rfl rfl rfl rfl rfl fun ac hs => ?_))
  refine lstep (wpO_plain rfl (op_extract hs none rfl rfl rfl rfl rfl fun ac hs => ?_))
  refine lstep (wpO_plain rfl (op_alloc hs none none (cs := [.int .u64 0, .int .u64 0, .int .u64 0, .int .u64 0]) rfl rfl Try.zeroValue24 (by kernel_rfl) rfl rfl fun g6 ac w hs => ?_))
  refine lstep (wpO_plain rfl (op_store hs 3 (vs := (Wl s4)) rfl rfl rfl rfl rfl Try.sizeOf24 rfl rfl rfl rfl rfl fun w hs => ?_))
  refine lstep (wpO_plain rfl (op_assign hs none rfl rfl rfl rfl fun ac hs => ?_))
  refine wpList_nil ?_
  refine then_n ?_
  refine wp_seq ?_
  replace hs : St 106 w0 [(3, true, .pointer (some ⟨g1, 0, none⟩)), (4, true, .pointer (some ⟨g2, 0, none⟩)), (5, true, .pointer (some ⟨g3, 0, none⟩)), (6, true, .bool false), (7, true, .pointer (some ⟨g6, 0, none⟩))] [(true, g1, 24, (Wl a)), (true, g2, 24, (Wl b)), (true, g3, 24, (Wl m)), (true, g6, 24, (Wl s4))] ac _ := hs.re ⟨rfl, rfl, rfl, rfl, rfl, trivial⟩
  refine wp_region_lit ?_
  refine lstep (wpO_plain rfl (op_load hs none 1 (v := W b) rfl rfl rfl rfl Try.isAgg24 Try.sizeOf24 rfl rfl fun ac hs => ?_))
  refine lstep (wpO_plain rfl (op_load hs none 0 (v := W a) rfl rfl rfl rfl Try.isAgg24 Try.sizeOf24 rfl rfl fun ac hs => ?_))
  obtain ⟨s7, hs7, ls7⟩ : ∃ z0, (b + a) % 2 ^ 256 = z0 ∧ z0 < 2 ^ 256 := ⟨_, rfl, Nat.mod_lt _ (Nat.two_pow_pos 256)⟩
  obtain ⟨c8, hc8⟩ : ∃ z0, (b + a) / 2 ^ 256 = z0 := ⟨_, rfl⟩
  refine lstep (wpO_plain rfl (op_call (F := 11) hs none (v := .tuple #[W s7, .int .u64 ((c8 : Nat) : Int)]) rfl rfl rfl rfl (Try.call11 _) (fun w => add_at w b a s7 c8 hb ha hs7 hc8) rfl fun ac w hs => ?_))
  refine lstep (wpO_plain rfl (op_move hs none rfl rfl rfl rfl fun ac hs => ?_))
  refine lstep (wpO_plain rfl (op_extract hs none rfl rfl rfl rfl rfl fun ac hs => ?_))
  refine lstep (wpO_plain rfl (op_extract hs none rfl rfl rfl rfl rfl fun ac hs => ?_))
  refine lstep (wpO_plain rfl (op_alloc hs none none (cs := [.int .u64 0, .int .u64 0, .int .u64 0, .int .u64 0]) rfl rfl Try.zeroValue24 (by kernel_rfl) rfl rfl fun g9 ac w hs => ?_))
  refine lstep (wpO_plain rfl (op_store hs 4 (vs := (Wl s7)) rfl rfl rfl rfl rfl Try.sizeOf24 rfl rfl rfl rfl rfl fun w hs => ?_))
  refine lstep (wpO_plain rfl (op_assign hs none rfl rfl rfl rfl fun ac hs => ?_))
  refine wpList_nil ?_
  refine then_n ?_
  refine wp_seq ?_
  replace hs : St 106 w0 [(3, true, .pointer (some ⟨g1, 0, none⟩)), (4, true, .pointer (some ⟨g2, 0, none⟩)), (5, true, .pointer (some ⟨g3, 0, none⟩)), (6, true, .bool false), (7, true, .pointer (some ⟨g6, 0, none⟩)), (9, true, .pointer (some ⟨g9, 0, none⟩))] [(true, g1, 24, (Wl a)), (true, g2, 24, (Wl b)), (true, g3, 24, (Wl m)), (true, g6, 24, (Wl s4)), (true, g9, 24, (Wl s7))] ac _ := hs.re ⟨rfl, rfl, rfl, rfl, rfl, rfl, trivial⟩
  refine wp_region_lit ?_
  refine lstep (wpO_plain rfl (op_load hs none 0 (v := W a) rfl rfl rfl rfl Try.isAgg24 Try.sizeOf24 rfl rfl fun ac hs => ?_))
  refine lstep (wpO_plain rfl (op_load hs none 2 (v := W m) rfl rfl rfl rfl Try.isAgg24 Try.sizeOf24 rfl rfl fun ac hs => ?_))
  obtain ⟨lo10, hlo10, llo10⟩ : ∃ z0, a * m % 2 ^ 256 = z0 ∧ z0 < 2 ^ 256 := ⟨_, rfl, Nat.mod_lt _ (Nat.two_pow_pos 256)⟩
  obtain ⟨hi11, hhi11, lhi11⟩ : ∃ z0, a * m / 2 ^ 256 = z0 ∧ z0 < 2 ^ 256 := ⟨_, rfl, mul_hi ha hm⟩
  refine lstep (wpO_plain rfl (op_call (F := 29) hs none (v := .tuple #[W lo10, W hi11]) rfl rfl rfl rfl (Try.call29 _) (fun w => wmul_at w a m lo10 hi11 ha hm hlo10 hhi11) rfl fun ac w hs => ?_))
  refine lstep (wpO_plain rfl (op_move hs none rfl rfl rfl rfl fun ac hs => ?_))
  refine lstep (wpO_plain rfl (op_extract hs none rfl rfl rfl rfl rfl fun ac hs => ?_))
  refine lstep (wpO_plain rfl (op_extract hs none rfl rfl rfl rfl rfl fun ac hs => ?_))
  refine lstep (wpO_plain rfl (op_alloc hs none none (cs := [.int .u64 0, .int .u64 0, .int .u64 0, .int .u64 0]) rfl rfl Try.zeroValue24 (by kernel_rfl) rfl rfl fun g12 ac w hs => ?_))
  refine lstep (wpO_plain rfl (op_alloc hs none none (cs := [.int .u64 0, .int .u64 0, .int .u64 0, .int .u64 0]) rfl rfl Try.zeroValue24 (by kernel_rfl) rfl rfl fun g13 ac w hs => ?_))
  refine lstep (wpO_plain rfl (op_store hs 5 (vs := (Wl lo10)) rfl rfl rfl rfl rfl Try.sizeOf24 rfl rfl rfl rfl rfl fun w hs => ?_))
  refine lstep (wpO_plain rfl (op_store hs 6 (vs := (Wl hi11)) rfl rfl rfl rfl rfl Try.sizeOf24 rfl rfl rfl rfl rfl fun w hs => ?_))
  refine wpList_nil ?_
  refine then_n ?_
  refine wp_seq ?_
  replace hs : St 106 w0 [(3, true, .pointer (some ⟨g1, 0, none⟩)), (4, true, .pointer (some ⟨g2, 0, none⟩)), (5, true, .pointer (some ⟨g3, 0, none⟩)), (6, true, .bool false), (7, true, .pointer (some ⟨g6, 0, none⟩)), (9, true, .pointer (some ⟨g9, 0, none⟩)), (11, true, .pointer (some ⟨g12, 0, none⟩)), (12, true, .pointer (some ⟨g13, 0, none⟩))] [(true, g1, 24, (Wl a)), (true, g2, 24, (Wl b)), (true, g3, 24, (Wl m)), (true, g6, 24, (Wl s4)), (true, g9, 24, (Wl s7)), (true, g12, 24, (Wl lo10)), (true, g13, 24, (Wl hi11))] ac _ := hs.re ⟨rfl, rfl, rfl, rfl, rfl, rfl, rfl, rfl, trivial⟩
  refine wp_region_lit ?_
  refine lstep (wpO_plain rfl (op_load hs none 2 (v := W m) rfl rfl rfl rfl Try.isAgg24 Try.sizeOf24 rfl rfl fun ac hs => ?_))
  refine lstep (wpO_plain rfl (op_load hs none 0 (v := W a) rfl rfl rfl rfl Try.isAgg24 Try.sizeOf24 rfl rfl fun ac hs => ?_))
  obtain ⟨lo14, hlo14, llo14⟩ : ∃ z0, m * a % 2 ^ 256 = z0 ∧ z0 < 2 ^ 256 := ⟨_, rfl, Nat.mod_lt _ (Nat.two_pow_pos 256)⟩
  obtain ⟨hi15, hhi15, lhi15⟩ : ∃ z0, m * a / 2 ^ 256 = z0 ∧ z0 < 2 ^ 256 := ⟨_, rfl, mul_hi hm ha⟩
  refine lstep (wpO_plain rfl (op_call (F := 29) hs none (v := .tuple #[W lo14, W hi15]) rfl rfl rfl rfl (Try.call29 _) (fun w => wmul_at w m a lo14 hi15 hm ha hlo14 hhi15) rfl fun ac w hs => ?_))
  refine lstep (wpO_plain rfl (op_move hs none rfl rfl rfl rfl fun ac hs => ?_))
  refine lstep (wpO_plain rfl (op_extract hs none rfl rfl rfl rfl rfl fun ac hs => ?_))
  refine lstep (wpO_plain rfl (op_extract hs none rfl rfl rfl rfl rfl fun ac hs => ?_))
  refine lstep (wpO_plain rfl (op_alloc hs none none (cs := [.int .u64 0, .int .u64 0, .int .u64 0, .int .u64 0]) rfl rfl Try.zeroValue24 (by kernel_rfl) rfl rfl fun g16 ac w hs => ?_))
  refine lstep (wpO_plain rfl (op_alloc hs none none (cs := [.int .u64 0, .int .u64 0, .int .u64 0, .int .u64 0]) rfl rfl Try.zeroValue24 (by kernel_rfl) rfl rfl fun g17 ac w hs => ?_))
  refine lstep (wpO_plain rfl (op_store hs 7 (vs := (Wl lo14)) rfl rfl rfl rfl rfl Try.sizeOf24 rfl rfl rfl rfl rfl fun w hs => ?_))
  refine lstep (wpO_plain rfl (op_store hs 8 (vs := (Wl hi15)) rfl rfl rfl rfl rfl Try.sizeOf24 rfl rfl rfl rfl rfl fun w hs => ?_))
  refine wpList_nil ?_
  refine then_n ?_
  refine wp_seq ?_
  replace hs : St 106 w0 [(3, true, .pointer (some ⟨g1, 0, none⟩)), (4, true, .pointer (some ⟨g2, 0, none⟩)), (5, true, .pointer (some ⟨g3, 0, none⟩)), (6, true, .bool false), (7, true, .pointer (some ⟨g6, 0, none⟩)), (9, true, .pointer (some ⟨g9, 0, none⟩)), (11, true, .pointer (some ⟨g12, 0, none⟩)), (12, true, .pointer (some ⟨g13, 0, none⟩)), (13, true, .pointer (some ⟨g16, 0, none⟩)), (14, true, .pointer (some ⟨g17, 0, none⟩))] [(true, g1, 24, (Wl a)), (true, g2, 24, (Wl b)), (true, g3, 24, (Wl m)), (true, g6, 24, (Wl s4)), (true, g9, 24, (Wl s7)), (true, g12, 24, (Wl lo10)), (true, g13, 24, (Wl hi11)), (true, g16, 24, (Wl lo14)), (true, g17, 24, (Wl hi15))] ac _ := hs.re ⟨rfl, rfl, rfl, rfl, rfl, rfl, rfl, rfl, rfl, rfl, trivial⟩
  refine wp_region_lit ?_
  refine lstep (wpO_plain rfl (op_load hs none 1 (v := W b) rfl rfl rfl rfl Try.isAgg24 Try.sizeOf24 rfl rfl fun ac hs => ?_))
  refine lstep (wpO_plain rfl (op_load hs none 2 (v := W m) rfl rfl rfl rfl Try.isAgg24 Try.sizeOf24 rfl rfl fun ac hs => ?_))
  obtain ⟨lo18, hlo18, llo18⟩ : ∃ z0, b * m % 2 ^ 256 = z0 ∧ z0 < 2 ^ 256 := ⟨_, rfl, Nat.mod_lt _ (Nat.two_pow_pos 256)⟩
  obtain ⟨hi19, hhi19, lhi19⟩ : ∃ z0, b * m / 2 ^ 256 = z0 ∧ z0 < 2 ^ 256 := ⟨_, rfl, mul_hi hb hm⟩
  refine lstep (wpO_plain rfl (op_call (F := 29) hs none (v := .tuple #[W lo18, W hi19]) rfl rfl rfl rfl (Try.call29 _) (fun w => wmul_at w b m lo18 hi19 hb hm hlo18 hhi19) rfl fun ac w hs => ?_))
  refine lstep (wpO_plain rfl (op_move hs none rfl rfl rfl rfl fun ac hs => ?_))
  refine lstep (wpO_plain rfl (op_extract hs none rfl rfl rfl rfl rfl fun ac hs => ?_))
  refine lstep (wpO_plain rfl (op_extract hs none rfl rfl rfl rfl rfl fun ac hs => ?_))
  refine lstep (wpO_plain rfl (op_alloc hs none none (cs := [.int .u64 0, .int .u64 0, .int .u64 0, .int .u64 0]) rfl rfl Try.zeroValue24 (by kernel_rfl) rfl rfl fun g20 ac w hs => ?_))
  refine lstep (wpO_plain rfl (op_alloc hs none none (cs := [.int .u64 0, .int .u64 0, .int .u64 0, .int .u64 0]) rfl rfl Try.zeroValue24 (by kernel_rfl) rfl rfl fun g21 ac w hs => ?_))
  refine lstep (wpO_plain rfl (op_store hs 9 (vs := (Wl lo18)) rfl rfl rfl rfl rfl Try.sizeOf24 rfl rfl rfl rfl rfl fun w hs => ?_))
  refine lstep (wpO_plain rfl (op_store hs 10 (vs := (Wl hi19)) rfl rfl rfl rfl rfl Try.sizeOf24 rfl rfl rfl rfl rfl fun w hs => ?_))
  refine wpList_nil ?_
  refine then_n ?_
  refine wp_seq ?_
  replace hs : St 106 w0 [(3, true, .pointer (some ⟨g1, 0, none⟩)), (5, true, .pointer (some ⟨g3, 0, none⟩)), (6, true, .bool false), (7, true, .pointer (some ⟨g6, 0, none⟩)), (9, true, .pointer (some ⟨g9, 0, none⟩)), (11, true, .pointer (some ⟨g12, 0, none⟩)), (12, true, .pointer (some ⟨g13, 0, none⟩)), (13, true, .pointer (some ⟨g16, 0, none⟩)), (14, true, .pointer (some ⟨g17, 0, none⟩)), (15, true, .pointer (some ⟨g20, 0, none⟩))] [(true, g1, 24, (Wl a)), (true, g2, 24, (Wl b)), (true, g3, 24, (Wl m)), (true, g6, 24, (Wl s4)), (true, g9, 24, (Wl s7)), (true, g12, 24, (Wl lo10)), (true, g13, 24, (Wl hi11)), (true, g16, 24, (Wl lo14)), (true, g17, 24, (Wl hi15)), (true, g20, 24, (Wl lo18)), (true, g21, 24, (Wl hi19))] ac _ := hs.re ⟨rfl, rfl, rfl, rfl, rfl, rfl, rfl, rfl, rfl, rfl, trivial⟩
  refine wp_region_lit ?_
  refine lstep (wpO_plain rfl (op_load hs none 3 (v := W s4) rfl rfl rfl rfl Try.isAgg24 Try.sizeOf24 rfl rfl fun ac hs => ?_))
  refine lstep (wpO_plain rfl (op_load hs none 2 (v := W m) rfl rfl rfl rfl Try.isAgg24 Try.sizeOf24 rfl rfl fun ac hs => ?_))
  obtain ⟨lo22, hlo22, llo22⟩ : ∃ z0, s4 * m % 2 ^ 256 = z0 ∧ z0 < 2 ^ 256 := ⟨_, rfl, Nat.mod_lt _ (Nat.two_pow_pos 256)⟩
  obtain ⟨hi23, hhi23, lhi23⟩ : ∃ z0, s4 * m / 2 ^ 256 = z0 ∧ z0 < 2 ^ 256 := ⟨_, rfl, mul_hi ls4 hm⟩
  refine lstep (wpO_plain rfl (op_call (F := 29) hs none (v := .tuple #[W lo22, W hi23]) rfl rfl rfl rfl (Try.call29 _) (fun w => wmul_at w s4 m lo22 hi23 ls4 hm hlo22 hhi23) rfl fun ac w hs => ?_))
  refine lstep (wpO_plain rfl (op_move hs none rfl rfl rfl rfl fun ac hs => ?_))
  refine lstep (wpO_plain rfl (op_extract hs none rfl rfl rfl rfl rfl fun ac hs => ?_))
  refine lstep (wpO_plain rfl (op_extract hs none rfl rfl rfl rfl rfl fun ac hs => ?_))
  refine lstep (wpO_plain rfl (op_alloc hs none none (cs := [.int .u64 0, .int .u64 0, .int .u64 0, .int .u64 0]) rfl rfl Try.zeroValue24 (by kernel_rfl) rfl rfl fun g24 ac w hs => ?_))
  refine lstep (wpO_plain rfl (op_alloc hs none none (cs := [.int .u64 0, .int .u64 0, .int .u64 0, .int .u64 0]) rfl rfl Try.zeroValue24 (by kernel_rfl) rfl rfl fun g25 ac w hs => ?_))
  refine lstep (wpO_plain rfl (op_store hs 11 (vs := (Wl lo22)) rfl rfl rfl rfl rfl Try.sizeOf24 rfl rfl rfl rfl rfl fun w hs => ?_))
  refine lstep (wpO_plain rfl (op_store hs 12 (vs := (Wl hi23)) rfl rfl rfl rfl rfl Try.sizeOf24 rfl rfl rfl rfl rfl fun w hs => ?_))
  refine wpList_nil ?_
  refine then_n ?_
  refine wp_seq ?_
  replace hs : St 106 w0 [(3, true, .pointer (some ⟨g1, 0, none⟩)), (5, true, .pointer (some ⟨g3, 0, none⟩)), (6, true, .bool false), (7, true, .pointer (some ⟨g6, 0, none⟩)), (9, true, .pointer (some ⟨g9, 0, none⟩)), (11, true, .pointer (some ⟨g12, 0, none⟩)), (12, true, .pointer (some ⟨g13, 0, none⟩)), (13, true, .pointer (some ⟨g16, 0, none⟩)), (14, true, .pointer (some ⟨g17, 0, none⟩)), (15, true, .pointer (some ⟨g20, 0, none⟩)), (17, true, .pointer (some ⟨g24, 0, none⟩))] [(true, g1, 24, (Wl a)), (true, g2, 24, (Wl b)), (true, g3, 24, (Wl m)), (true, g6, 24, (Wl s4)), (true, g9, 24, (Wl s7)), (true, g12, 24, (Wl lo10)), (true, g13, 24, (Wl hi11)), (true, g16, 24, (Wl lo14)), (true, g17, 24, (Wl hi15)), (true, g20, 24, (Wl lo18)), (true, g21, 24, (Wl hi19)), (true, g24, 24, (Wl lo22)), (true, g25, 24, (Wl hi23))] ac _ := hs.re ⟨rfl, rfl, rfl, rfl, rfl, rfl, rfl, rfl, rfl, rfl, rfl, trivial⟩
  refine wp_region_lit ?_
  refine lstep (wpO_plain rfl (op_load hs none 5 (v := W lo10) rfl rfl rfl rfl Try.isAgg24 Try.sizeOf24 rfl rfl fun ac hs => ?_))
  refine lstep (wpO_plain rfl (op_load hs none 9 (v := W lo18) rfl rfl rfl rfl Try.isAgg24 Try.sizeOf24 rfl rfl fun ac hs => ?_))
  obtain ⟨s26, hs26, ls26⟩ : ∃ z0, (lo10 + lo18) % 2 ^ 256 = z0 ∧ z0 < 2 ^ 256 := ⟨_, rfl, Nat.mod_lt _ (Nat.two_pow_pos 256)⟩
  obtain ⟨c27, hc27⟩ : ∃ z0, (lo10 + lo18) / 2 ^ 256 = z0 := ⟨_, rfl⟩
  refine lstep (wpO_plain rfl (op_call (F := 11) hs none (v := .tuple #[W s26, .int .u64 ((c27 : Nat) : Int)]) rfl rfl rfl rfl (Try.call11 _) (fun w => add_at w lo10 lo18 s26 c27 llo10 llo18 hs26 hc27) rfl fun ac w hs => ?_))
  refine lstep (wpO_plain rfl (op_move hs none rfl rfl rfl rfl fun ac hs => ?_))
  refine lstep (wpO_plain rfl (op_extract hs none rfl rfl rfl rfl rfl fun ac hs => ?_))
  refine lstep (wpO_plain rfl (op_extract hs none rfl rfl rfl rfl rfl fun ac hs => ?_))
  refine lstep (wpO_plain rfl (op_alloc hs none none (cs := [.int .u64 0, .int .u64 0, .int .u64 0, .int .u64 0]) rfl rfl Try.zeroValue24 (by kernel_rfl) rfl rfl fun g28 ac w hs => ?_))
  refine lstep (wpO_plain rfl (op_store hs 13 (vs := (Wl s26)) rfl rfl rfl rfl rfl Try.sizeOf24 rfl rfl rfl rfl rfl fun w hs => ?_))
  refine lstep (wpO_plain rfl (op_assign hs none rfl rfl rfl rfl fun ac hs => ?_))
  refine wpList_nil ?_
  refine then_n ?_
  refine wp_seq ?_
  replace hs : St 106 w0 [(3, true, .pointer (some ⟨g1, 0, none⟩)), (5, true, .pointer (some ⟨g3, 0, none⟩)), (6, true, .bool false), (7, true, .pointer (some ⟨g6, 0, none⟩)), (9, true, .pointer (some ⟨g9, 0, none⟩)), (11, true, .pointer (some ⟨g12, 0, none⟩)), (12, true, .pointer (some ⟨g13, 0, none⟩)), (13, true, .pointer (some ⟨g16, 0, none⟩)), (14, true, .pointer (some ⟨g17, 0, none⟩)), (17, true, .pointer (some ⟨g24, 0, none⟩)), (19, true, .pointer (some ⟨g28, 0, none⟩))] [(true, g1, 24, (Wl a)), (true, g2, 24, (Wl b)), (true, g3, 24, (Wl m)), (true, g6, 24, (Wl s4)), (true, g9, 24, (Wl s7)), (true, g12, 24, (Wl lo10)), (true, g13, 24, (Wl hi11)), (true, g16, 24, (Wl lo14)), (true, g17, 24, (Wl hi15)), (true, g20, 24, (Wl lo18)), (true, g21, 24, (Wl hi19)), (true, g24, 24, (Wl lo22)), (true, g25, 24, (Wl hi23)), (true, g28, 24, (Wl s26))] ac _ := hs.re ⟨rfl, rfl, rfl, rfl, rfl, rfl, rfl, rfl, rfl, rfl, rfl, trivial⟩
  refine wp_region_lit ?_
  refine lstep (wpO_plain rfl (op_idxA hs none (j := 0) rfl rfl rfl rfl Try.underlying24 Try.sizeOf22 (by decide) (off := 0) rfl rfl fun ac hs => ?_))
  have l29 := limN_lt m 0
  refine lstep (wpO_plain rfl (op_load hs none 2 (v := .int .u64 (lim m 0)) rfl rfl rfl rfl Try.isAgg22 Try.sizeOf22 rfl rfl fun ac hs => ?_))
  refine lstep (wpO_plain rfl (op_bin hs none (v := .int .u64 (((limN m 0) % 2 ^ 8 : Nat) : Int)) rfl rfl rfl rfl (fun _ => rfl) (bin_andN (x := limN m 0) (y := 255) (z := (limN m 0) % 2 ^ 8) (Nat.and_two_pow_sub_one_eq_mod (limN m 0) 8) (show limN m 0 < 2 ^ 64 by omega) (by decide) (show (limN m 0) % 2 ^ 8 < 18446744073709551616 by omega)) rfl fun ac hs => ?_))
  refine lstep (wpO_plain rfl (op_convert hs none (v := .int .i64 (((limN m 0) % 2 ^ 8 : Nat) : Int)) rfl rfl rfl (conv_N Try.underlying22 Try.underlying3 (show (limN m 0) % 2 ^ 8 < 9223372036854775808 by omega)) rfl fun ac hs => ?_))
  refine lstep (wpO_plain rfl (op_assign hs none rfl rfl rfl rfl fun ac hs => ?_))
  refine wpList_nil ?_
  obtain ⟨k, hk, lk⟩ : ∃ k, limN m 0 % 2 ^ 8 = k ∧ k < 256 := ⟨_, rfl, Nat.mod_lt _ (by decide)⟩
  replace hs := hs.re (fs' := [(3, true, .pointer (some ⟨g1, 0, none⟩)), (5, true, .pointer (some ⟨g3, 0, none⟩)), (6, true, .bool false), (7, true, .pointer (some ⟨g6, 0, none⟩)), (9, true, .pointer (some ⟨g9, 0, none⟩)), (11, true, .pointer (some ⟨g12, 0, none⟩)), (12, true, .pointer (some ⟨g13, 0, none⟩)), (13, true, .pointer (some ⟨g16, 0, none⟩)), (14, true, .pointer (some ⟨g17, 0, none⟩)), (17, true, .pointer (some ⟨g24, 0, none⟩)), (19, true, .pointer (some ⟨g28, 0, none⟩)), (66, true, .pointer (some ⟨g3, 0, none⟩)), (67, true, .int .u64 (lim m 0)), (68, true, .int .u64 (((limN m 0) % 2 ^ 8 : Nat) : Int)), (69, true, .int .i64 (((limN m 0) % 2 ^ 8 : Nat) : Int)), (21, true, .int .i64 ((k : Nat) : Int))]) ⟨rfl, rfl, rfl, rfl, rfl, rfl, rfl, rfl, rfl, rfl, rfl, rfl, rfl, rfl, rfl, congrArg some (congrArg (fun z : Nat => Value.int .i64 (z : Int)) hk), trivial⟩
  refine then_n ?_
  refine wp_seq ?_
  replace hs : St 106 w0 [(3, true, .pointer (some ⟨g1, 0, none⟩)), (6, true, .bool false), (7, true, .pointer (some ⟨g6, 0, none⟩)), (9, true, .pointer (some ⟨g9, 0, none⟩)), (11, true, .pointer (some ⟨g12, 0, none⟩)), (12, true, .pointer (some ⟨g13, 0, none⟩)), (13, true, .pointer (some ⟨g16, 0, none⟩)), (14, true, .pointer (some ⟨g17, 0, none⟩)), (17, true, .pointer (some ⟨g24, 0, none⟩)), (19, true, .pointer (some ⟨g28, 0, none⟩)), (21, true, .int .i64 ((k : Nat) : Int))] [(true, g1, 24, (Wl a)), (true, g2, 24, (Wl b)), (true, g3, 24, (Wl m)), (true, g6, 24, (Wl s4)), (true, g9, 24, (Wl s7)), (true, g12, 24, (Wl lo10)), (true, g13, 24, (Wl hi11)), (true, g16, 24, (Wl lo14)), (true, g17, 24, (Wl hi15)), (true, g20, 24, (Wl lo18)), (true, g21, 24, (Wl hi19)), (true, g24, 24, (Wl lo22)), (true, g25, 24, (Wl hi23)), (true, g28, 24, (Wl s26))] ac _ := hs.re ⟨rfl, rfl, rfl, rfl, rfl, rfl, rfl, rfl, rfl, rfl, rfl, trivial⟩
  obtain ⟨sh30, hsh30, lsh30⟩ : ∃ z0, 1 * 2 ^ k % 2 ^ 256 = z0 ∧ z0 < 2 ^ 256 := ⟨_, rfl, Nat.mod_lt _ (Nat.two_pow_pos 256)⟩
  obtain ⟨lo31, hlo31, llo31⟩ : ∃ z0, a * sh30 % 2 ^ 256 = z0 ∧ z0 < 2 ^ 256 := ⟨_, rfl, Nat.mod_lt _ (Nat.two_pow_pos 256)⟩
  obtain ⟨hi32, hhi32, lhi32⟩ : ∃ z0, a * sh30 / 2 ^ 256 = z0 ∧ z0 < 2 ^ 256 := ⟨_, rfl, mul_hi ha lsh30⟩
  refine region_inv [([], [4, 5, 6, 7, 10, 11]), ([], [3, 4, 5, 6, 7, 10, 11]), ([], [3, 4, 5, 6, 7, 10, 11]), ([1, 2], [4, 5, 6, 7, 10, 11]), ([0, 1, 2, 3], [5, 6, 7, 10, 11]), ([0, 1, 2, 3, 4], [6, 7, 10, 11]), ([0, 1, 2, 3, 4, 5], [10, 11]), ([0, 1, 2, 3, 4, 5], [11]), ([], [10, 11]), ([], [10, 11]), ([0, 1, 2, 3, 4, 5, 6, 8, 9], [11]), ([0, 1, 2, 3, 4, 5, 6, 7, 8, 9, 10], [])] (fun L ac w => ∃ (g33 : Nat) (g34 : Nat), St 106 w0 [(71, L 0, W a), (72, L 1, W 1), (73, L 2, .int .i64 ((k : Nat) : Int)), (74, L 3, W sh30), (75, L 4, .tuple #[W lo31, W hi32]), (70, L 5, .tuple #[W lo31, W hi32]), (76, L 6, W lo31), (77, L 7, W hi32), (22, L 8, .pointer (some ⟨g33, 0, none⟩)), (23, L 9, .pointer (some ⟨g34, 0, none⟩)), (3, true, .pointer (some ⟨g1, 0, none⟩)), (6, true, .bool false), (7, true, .pointer (some ⟨g6, 0, none⟩)), (9, true, .pointer (some ⟨g9, 0, none⟩)), (11, true, .pointer (some ⟨g12, 0, none⟩)), (12, true, .pointer (some ⟨g13, 0, none⟩)), (13, true, .pointer (some ⟨g16, 0, none⟩)), (14, true, .pointer (some ⟨g17, 0, none⟩)), (17, true, .pointer (some ⟨g24, 0, none⟩)), (19, true, .pointer (some ⟨g28, 0, none⟩)), (21, true, .int .i64 ((k : Nat) : Int))] [(true, g1, 24, (Wl a)), (true, g2, 24, (Wl b)), (true, g3, 24, (Wl m)), (true, g6, 24, (Wl s4)), (true, g9, 24, (Wl s7)), (true, g12, 24, (Wl lo10)), (true, g13, 24, (Wl hi11)), (true, g16, 24, (Wl lo14)), (true, g17, 24, (Wl hi15)), (true, g20, 24, (Wl lo18)), (true, g21, 24, (Wl hi19)), (true, g24, 24, (Wl lo22)), (true, g25, 24, (Wl hi23)), (true, g28, 24, (Wl s26)), (L 8, g33, 24, (cond (L 10) (Wl lo31) [.int .u64 0, .int .u64 0, .int .u64 0, .int .u64 0])), (L 9, g34, 24, (cond (L 11) (Wl hi32) [.int .u64 0, .int .u64 0, .int .u64 0, .int .u64 0]))] ac w) (by kernel_rfl) (by kernel_rfl) ?_ ?_ ?_
  · exact ⟨0, 0, hs.drew.skip.skip.skip.skip.skip.skip.skip.skip.skip.skip.pad.pad⟩
  · refine ⟨?_, ?_, ?_, ?_, ?_, ?_, ?_, ?_, ?_, ?_, ?_, ?_, trivial⟩
    · intro L ac w hJ
      obtain ⟨g33, g34, hs⟩ := hJ
      refine wpO_plain rfl (op_load hs (some 0) 0 (v := W a) rfl rfl rfl rfl Try.isAgg24 Try.sizeOf24 rfl rfl fun ac hs => ?_)
      exact ⟨g33, g34, hs⟩
    · intro L ac w hJ
      obtain ⟨g33, g34, hs⟩ := hJ
      refine wpO_plain rfl (op_call (F := 20) hs (some 1) (v := W 1) rfl rfl rfl rfl (Try.call20 _) (fun w => from_any w 1 (by decide)) rfl fun ac w hs => ?_)
      exact ⟨g33, g34, hs⟩
    · intro L ac w hJ
      obtain ⟨g33, g34, hs⟩ := hJ
      refine wpO_plain rfl (op_move hs (some 2) rfl rfl rfl rfl fun ac hs => ?_)
      exact ⟨g33, g34, hs⟩
    · intro L ac w hJ
      obtain ⟨g33, g34, hs⟩ := hJ
      refine wpO_plain rfl (op_call (F := 25) hs (some 3) (v := W sh30) rfl rfl rfl rfl (Try.call25 _) (shl_c 1 ((k : Nat) : Int) k sh30 (by decide) (show min (max ((k : Nat) : Int) 0) 256 = ((k : Nat) : Int) by omega) hsh30) rfl fun ac w hs => ?_)
      exact ⟨g33, g34, hs⟩
    · intro L ac w hJ
      obtain ⟨g33, g34, hs⟩ := hJ
      refine wpO_plain rfl (op_call (F := 29) hs (some 4) (v := .tuple #[W lo31, W hi32]) rfl rfl rfl rfl (Try.call29 _) (fun w => wmul_at w a sh30 lo31 hi32 ha lsh30 hlo31 hhi32) rfl fun ac w hs => ?_)
      exact ⟨g33, g34, hs⟩
    · intro L ac w hJ
      obtain ⟨g33, g34, hs⟩ := hJ
      refine wpO_plain rfl (op_move hs (some 5) rfl rfl rfl rfl fun ac hs => ?_)
      exact ⟨g33, g34, hs⟩
    · intro L ac w hJ
      obtain ⟨g33, g34, hs⟩ := hJ
      refine wpO_plain rfl (op_extract hs (some 6) rfl rfl rfl rfl rfl fun ac hs => ?_)
      exact ⟨g33, g34, hs⟩
    · intro L ac w hJ
      obtain ⟨g33, g34, hs⟩ := hJ
      refine wpO_plain rfl (op_extract hs (some 7) rfl rfl rfl rfl rfl fun ac hs => ?_)
      exact ⟨g33, g34, hs⟩
    · intro L ac w hJ
      obtain ⟨g33, g34, hs⟩ := hJ
      refine wpO_plain rfl (op_alloc hs (some 8) (some 14) (cs := [.int .u64 0, .int .u64 0, .int .u64 0, .int .u64 0]) rfl rfl Try.zeroValue24 (by kernel_rfl) rfl rfl fun g33 ac w hs => ?_)
      exact ⟨g33, g34, hs⟩
    · intro L ac w hJ
      obtain ⟨g33, g34, hs⟩ := hJ
      refine wpO_plain rfl (op_alloc hs (some 9) (some 15) (cs := [.int .u64 0, .int .u64 0, .int .u64 0, .int .u64 0]) rfl rfl Try.zeroValue24 (by kernel_rfl) rfl rfl fun g34 ac w hs => ?_)
      exact ⟨g33, g34, hs⟩
    · intro L ac w hJ
      obtain ⟨g33, g34, hs⟩ := hJ
      refine wpO_plain rfl (op_store hs 14 (vs := (Wl lo31)) rfl rfl rfl rfl rfl Try.sizeOf24 rfl rfl rfl rfl rfl fun w hs => ?_)
      exact ⟨g33, g34, hs⟩
    · intro L ac w hJ
      obtain ⟨g33, g34, hs⟩ := hJ
      refine wpO_plain rfl (op_store hs 15 (vs := (Wl hi32)) rfl rfl rfl rfl rfl Try.sizeOf24 rfl rfl rfl rfl rfl fun w hs => ?_)
      exact ⟨g33, g34, hs⟩
  intro ac w hJ
  obtain ⟨g33, g34, hs⟩ := hJ
  replace hs : St 106 w0 [(71, true, W a), (72, true, W 1), (73, true, .int .i64 ((k : Nat) : Int)), (74, true, W sh30), (75, true, .tuple #[W lo31, W hi32]), (70, true, .tuple #[W lo31, W hi32]), (76, true, W lo31), (77, true, W hi32), (22, true, .pointer (some ⟨g33, 0, none⟩)), (23, true, .pointer (some ⟨g34, 0, none⟩)), (3, true, .pointer (some ⟨g1, 0, none⟩)), (6, true, .bool false), (7, true, .pointer (some ⟨g6, 0, none⟩)), (9, true, .pointer (some ⟨g9, 0, none⟩)), (11, true, .pointer (some ⟨g12, 0, none⟩)), (12, true, .pointer (some ⟨g13, 0, none⟩)), (13, true, .pointer (some ⟨g16, 0, none⟩)), (14, true, .pointer (some ⟨g17, 0, none⟩)), (17, true, .pointer (some ⟨g24, 0, none⟩)), (19, true, .pointer (some ⟨g28, 0, none⟩)), (21, true, .int .i64 ((k : Nat) : Int))] [(true, g1, 24, (Wl a)), (true, g2, 24, (Wl b)), (true, g3, 24, (Wl m)), (true, g6, 24, (Wl s4)), (true, g9, 24, (Wl s7)), (true, g12, 24, (Wl lo10)), (true, g13, 24, (Wl hi11)), (true, g16, 24, (Wl lo14)), (true, g17, 24, (Wl hi15)), (true, g20, 24, (Wl lo18)), (true, g21, 24, (Wl hi19)), (true, g24, 24, (Wl lo22)), (true, g25, 24, (Wl hi23)), (true, g28, 24, (Wl s26)), (true, g33, 24, (Wl lo31)), (true, g34, 24, (Wl hi32))] ac w := hs
  refine then_n ?_
  refine wp_seq ?_
  replace hs : St 106 w0 [(3, true, .pointer (some ⟨g1, 0, none⟩)), (6, true, .bool false), (7, true, .pointer (some ⟨g6, 0, none⟩)), (9, true, .pointer (some ⟨g9, 0, none⟩)), (11, true, .pointer (some ⟨g12, 0, none⟩)), (12, true, .pointer (some ⟨g13, 0, none⟩)), (13, true, .pointer (some ⟨g16, 0, none⟩)), (14, true, .pointer (some ⟨g17, 0, none⟩)), (17, true, .pointer (some ⟨g24, 0, none⟩)), (19, true, .pointer (some ⟨g28, 0, none⟩)), (21, true, .int .i64 ((k : Nat) : Int)), (22, true, .pointer (some ⟨g33, 0, none⟩))] [(true, g1, 24, (Wl a)), (true, g2, 24, (Wl b)), (true, g3, 24, (Wl m)), (true, g6, 24, (Wl s4)), (true, g9, 24, (Wl s7)), (true, g12, 24, (Wl lo10)), (true, g13, 24, (Wl hi11)), (true, g16, 24, (Wl lo14)), (true, g17, 24, (Wl hi15)), (true, g20, 24, (Wl lo18)), (true, g21, 24, (Wl hi19)), (true, g24, 24, (Wl lo22)), (true, g25, 24, (Wl hi23)), (true, g28, 24, (Wl s26)), (true, g33, 24, (Wl lo31)), (true, g34, 24, (Wl hi32))] ac _ := hs.re ⟨rfl, rfl, rfl, rfl, rfl, rfl, rfl, rfl, rfl, rfl, rfl, rfl, trivial⟩
  obtain ⟨sh35, hsh35, lsh35⟩ : ∃ z0, a * 2 ^ k % 2 ^ 256 = z0 ∧ z0 < 2 ^ 256 := ⟨_, rfl, Nat.mod_lt _ (Nat.two_pow_pos 256)⟩
  refine region_inv [([], [1, 2, 3, 4, 5, 6, 7, 8, 9, 10, 11, 12, 13, 14, 15, 16, 17, 18, 19, 20, 21, 22, 23, 24, 25, 26, 27, 28]), ([0], [2, 3, 4, 5, 6, 7, 8, 9, 10, 11, 12, 13, 14, 15, 16, 17, 18, 19, 20, 21, 22, 23, 24, 25, 26, 27, 28]), ([0, 1], [4, 5, 6, 7, 8, 9, 10, 11, 12, 13, 14, 15, 16, 17, 18, 19, 20, 21, 22, 23, 24, 25, 26, 27, 28]), ([0, 1], [4, 5, 6, 7, 8, 9, 10, 11, 12, 13, 14, 15, 16, 17, 18, 19, 20, 21, 22, 23, 24, 25, 26, 27, 28]), ([0, 1, 2, 3], [5, 6, 7, 8, 9, 10, 11, 12, 13, 14, 15, 16, 17, 18, 19, 20, 21, 22, 23, 24, 25, 26, 27, 28]), ([0, 1, 2, 3, 4], [6, 7, 8, 9, 10, 11, 12, 13, 14, 15, 16, 17, 18, 19, 20, 21, 22, 23, 24, 25, 26, 27, 28]), ([0, 1, 2, 3, 4, 5], [7, 8, 9, 10, 11, 12, 13, 14, 15, 16, 17, 18, 19, 20, 21, 22, 23, 24, 25, 26, 27, 28]), ([0, 1, 2, 3, 4, 5, 6], [9, 10, 11, 12, 13, 14, 15, 16, 17, 18, 19, 20, 21, 22, 23, 24, 25, 26, 27, 28]), ([0, 1, 2, 3, 4, 5, 6], [9, 10, 11, 12, 13, 14, 15, 16, 17, 18, 19, 20, 21, 22, 23, 24, 25, 26, 27, 28]), ([0, 1, 2, 3, 4, 5, 6, 7, 8], [10, 11, 12, 13, 14, 15, 16, 17, 18, 19, 20, 21, 22, 23, 24, 25, 26, 27, 28]), ([0, 1, 2, 3, 4, 5, 6, 7, 8, 9], [11, 12, 13, 14, 15, 16, 17, 18, 19, 20, 21, 22, 23, 24, 25, 26, 27, 28]), ([0, 1, 2, 3, 4, 5, 6, 7, 8, 9, 10], [12, 13, 14, 15, 16, 17, 18, 19, 20, 21, 22, 23, 24, 25, 26, 27, 28]), ([0, 1, 2, 3, 4, 5, 6, 7, 8, 9, 10, 11], [14, 15, 16, 17, 18, 19, 20, 21, 22, 23, 24, 25, 26, 27, 28]), ([0, 1, 2, 3, 4, 5, 6, 7, 8, 9, 10, 11], [14, 15, 16, 17, 18, 19, 20, 21, 22, 23, 24, 25, 26, 27, 28]), ([0, 1, 2, 3, 4, 5, 6, 7, 8, 9, 10, 11, 12, 13], [15, 16, 17, 18, 19, 20, 21, 22, 23, 24, 25, 26, 27, 28]), ([0, 1, 2, 3, 4, 5, 6, 7, 8, 9, 10, 11, 12, 13, 14], [16, 17, 18, 19, 20, 21, 22, 23, 24, 25, 26, 27, 28]), ([0, 1, 2, 3, 4, 5, 6, 7, 8, 9, 10, 11, 12, 13, 14, 15], [17, 18, 19, 20, 21, 22, 23, 24, 25, 26, 27, 28]), ([0, 1, 2, 3, 4, 5, 6, 7, 8, 9, 10, 11, 12, 13, 14, 15, 16], [19, 20, 21, 22, 23, 24, 25, 26, 27, 28]), ([0, 1, 2, 3, 4, 5, 6, 7, 8, 9, 10, 11, 12, 13, 14, 15, 16], [19, 20, 21, 22, 23, 24, 25, 26, 27, 28]), ([0, 1, 2, 3, 4, 5, 6, 7, 8, 9, 10, 11, 12, 13, 14, 15, 16, 17, 18], [20, 21, 22, 23, 24, 25, 26, 27, 28]), ([0, 1, 2, 3, 4, 5, 6, 7, 8, 9, 10, 11, 12, 13, 14, 15, 16, 17, 18, 19], [21, 22, 23, 24, 25, 26, 27, 28]), ([0, 1, 2, 3, 4, 5, 6, 7, 8, 9, 10, 11, 12, 13, 14, 15, 16, 17, 18, 19, 20], [22, 23, 24, 25, 26, 27, 28]), ([0, 1, 2, 3, 4, 5, 6, 7, 8, 9, 10, 11, 12, 13, 14, 15, 16, 17, 18, 19, 20, 21], [24, 26, 27, 28]), ([0, 1, 2, 3, 4, 5, 6, 7, 8, 9, 10, 11, 12, 13, 14, 15, 16, 17, 18, 19, 20, 21], [24, 26, 27, 28]), ([0, 1, 2, 3, 4, 5, 6, 7, 8, 9, 10, 11, 12, 13, 14, 15, 16, 17, 18, 19, 20, 21, 22, 23], [26, 27, 28]), ([0, 1, 2, 3, 4, 5, 6, 7, 8, 9, 10, 11, 12, 13, 14, 15, 16, 17, 18, 19, 20, 21], [26, 27, 28]), ([0, 1, 2, 3, 4, 5, 6, 7, 8, 9, 10, 11, 12, 13, 14, 15, 16, 17, 18, 19, 20, 21, 22, 23, 24, 25], [27, 28]), ([0, 1, 2, 3, 4, 5, 6, 7, 8, 9, 10, 11, 12, 13, 14, 15, 16, 17, 18, 19, 20, 21, 22, 23, 24, 25, 26], [28]), ([0, 1, 2, 3, 4, 5, 6, 7, 8, 9, 10, 11, 12, 13, 14, 15, 16, 17, 18, 19, 20, 21, 22, 23, 24, 25, 26, 27], [])] (fun L ac w => St 106 w0 [(78, L 0, .bool true), (79, L 1, .bool true), (80, L 2, W s4), (81, L 3, W s7), (82, L 4, .bool true), (83, L 5, .bool true), (84, L 6, .bool true), (85, L 7, W lo10), (86, L 8, W lo14), (87, L 9, .bool true), (88, L 10, .bool true), (89, L 11, .bool true), (90, L 12, W hi11), (91, L 13, W hi15), (92, L 14, .bool true), (93, L 15, .bool true), (94, L 16, .bool true), (95, L 17, W lo22), (96, L 18, W s26), (97, L 19, .bool true), (98, L 20, .bool true), (99, L 21, .bool true), (100, L 22, W a), (101, L 23, .int .i64 ((k : Nat) : Int)), (102, L 24, W sh35), (103, L 25, W lo31), (104, L 26, .bool true), (105, L 27, .bool true), (6, L 28, .bool true), (3, true, .pointer (some ⟨g1, 0, none⟩)), (6, true, .bool false), (7, true, .pointer (some ⟨g6, 0, none⟩)), (9, true, .pointer (some ⟨g9, 0, none⟩)), (11, true, .pointer (some ⟨g12, 0, none⟩)), (12, true, .pointer (some ⟨g13, 0, none⟩)), (13, true, .pointer (some ⟨g16, 0, none⟩)), (14, true, .pointer (some ⟨g17, 0, none⟩)), (17, true, .pointer (some ⟨g24, 0, none⟩)), (19, true, .pointer (some ⟨g28, 0, none⟩)), (21, true, .int .i64 ((k : Nat) : Int)), (22, true, .pointer (some ⟨g33, 0, none⟩))] [(true, g1, 24, (Wl a)), (true, g2, 24, (Wl b)), (true, g3, 24, (Wl m)), (true, g6, 24, (Wl s4)), (true, g9, 24, (Wl s7)), (true, g12, 24, (Wl lo10)), (true, g13, 24, (Wl hi11)), (true, g16, 24, (Wl lo14)), (true, g17, 24, (Wl hi15)), (true, g20, 24, (Wl lo18)), (true, g21, 24, (Wl hi19)), (true, g24, 24, (Wl lo22)), (true, g25, 24, (Wl hi23)), (true, g28, 24, (Wl s26)), (true, g33, 24, (Wl lo31)), (true, g34, 24, (Wl hi32))] ac w) (by kernel_rfl) (by kernel_rfl) ?_ ?_ ?_
  · exact hs.drew.skip.skip.skip.skip.skip.skip.skip.skip.skip.skip.skip.skip.skip.skip.skip.skip.skip.skip.skip.skip.skip.skip.skip.skip.skip.skip.skip.skip.skip
  · refine ⟨?_, ?_, ?_, ?_, ?_, ?_, ?_, ?_, ?_, ?_, ?_, ?_, ?_, ?_, ?_, ?_, ?_, ?_, ?_, ?_, ?_, ?_, ?_, ?_, ?_, ?_, ?_, ?_, ?_, trivial⟩
    · intro L ac w hJ
      have hs := hJ
      refine wpO_plain rfl (op_call (F := 15) hs (some 0) (v := .bool true) rfl rfl rfl rfl (Try.call15 _) alive_c rfl fun ac w hs => ?_)
      exact hs
    · intro L ac w hJ
      have hs := hJ
      refine wpO_plain rfl (op_move hs (some 1) rfl rfl rfl rfl fun ac hs => ?_)
      exact hs
    · intro L ac w hJ
      have hs := hJ
      refine wpO_in hs rfl rfl rfl (op_load hs (some 2) 3 (v := W s4) rfl rfl rfl rfl Try.isAgg24 Try.sizeOf24 rfl rfl fun ac hs => ?_)
      exact hs
    · intro L ac w hJ
      have hs := hJ
      refine wpO_in hs rfl rfl rfl (op_load hs (some 3) 4 (v := W s7) rfl rfl rfl rfl Try.isAgg24 Try.sizeOf24 rfl rfl fun ac hs => ?_)
      exact hs
    · intro L ac w hJ
      have hs := hJ
      refine wpO_in hs rfl rfl rfl (op_bin hs (some 4) (v := .bool true) rfl rfl rfl rfl (fun w => run_eqGuard_agg w .eql 24 _ _ _ _ Try.eqGuardType24) (eqlW s4 s7 ls4 ls7 true (decide_eq_true (add_swap hs4 hs7))) rfl fun ac hs => ?_)
      exact hs
    · intro L ac w hJ
      have hs := hJ
      refine wpO_plain rfl (op_pickT hs (some 5) rfl rfl rfl rfl rfl fun ac hs => ?_)
      exact hs
    · intro L ac w hJ
      have hs := hJ
      refine wpO_plain rfl (op_move hs (some 6) rfl rfl rfl rfl fun ac hs => ?_)
      exact hs
    · intro L ac w hJ
      have hs := hJ
      refine wpO_in hs rfl rfl rfl (op_load hs (some 7) 5 (v := W lo10) rfl rfl rfl rfl Try.isAgg24 Try.sizeOf24 rfl rfl fun ac hs => ?_)
      exact hs
    · intro L ac w hJ
      have hs := hJ
      refine wpO_in hs rfl rfl rfl (op_load hs (some 8) 7 (v := W lo14) rfl rfl rfl rfl Try.isAgg24 Try.sizeOf24 rfl rfl fun ac hs => ?_)
      exact hs
    · intro L ac w hJ
      have hs := hJ
      refine wpO_in hs rfl rfl rfl (op_bin hs (some 9) (v := .bool true) rfl rfl rfl rfl (fun w => run_eqGuard_agg w .eql 24 _ _ _ _ Try.eqGuardType24) (eqlW lo10 lo14 llo10 llo14 true (decide_eq_true (mul_swap hlo10 hlo14))) rfl fun ac hs => ?_)
      exact hs
    · intro L ac w hJ
      have hs := hJ
      refine wpO_plain rfl (op_pickT hs (some 10) rfl rfl rfl rfl rfl fun ac hs => ?_)
      exact hs
    · intro L ac w hJ
      have hs := hJ
      refine wpO_plain rfl (op_move hs (some 11) rfl rfl rfl rfl fun ac hs => ?_)
      exact hs
    · intro L ac w hJ
      have hs := hJ
      refine wpO_in hs rfl rfl rfl (op_load hs (some 12) 6 (v := W hi11) rfl rfl rfl rfl Try.isAgg24 Try.sizeOf24 rfl rfl fun ac hs => ?_)
      exact hs
    · intro L ac w hJ
      have hs := hJ
      refine wpO_in hs rfl rfl rfl (op_load hs (some 13) 8 (v := W hi15) rfl rfl rfl rfl Try.isAgg24 Try.sizeOf24 rfl rfl fun ac hs => ?_)
      exact hs
    · intro L ac w hJ
      have hs := hJ
      refine wpO_in hs rfl rfl rfl (op_bin hs (some 14) (v := .bool true) rfl rfl rfl rfl (fun w => run_eqGuard_agg w .eql 24 _ _ _ _ Try.eqGuardType24) (eqlW hi11 hi15 lhi11 lhi15 true (decide_eq_true (mul_swapH hhi11 hhi15))) rfl fun ac hs => ?_)
      exact hs
    · intro L ac w hJ
      have hs := hJ
      refine wpO_plain rfl (op_pickT hs (some 15) rfl rfl rfl rfl rfl fun ac hs => ?_)
      exact hs
    · intro L ac w hJ
      have hs := hJ
      refine wpO_plain rfl (op_move hs (some 16) rfl rfl rfl rfl fun ac hs => ?_)
      exact hs
    · intro L ac w hJ
      have hs := hJ
      refine wpO_in hs rfl rfl rfl (op_load hs (some 17) 11 (v := W lo22) rfl rfl rfl rfl Try.isAgg24 Try.sizeOf24 rfl rfl fun ac hs => ?_)
      exact hs
    · intro L ac w hJ
      have hs := hJ
      refine wpO_in hs rfl rfl rfl (op_load hs (some 18) 13 (v := W s26) rfl rfl rfl rfl Try.isAgg24 Try.sizeOf24 rfl rfl fun ac hs => ?_)
      exact hs
    · intro L ac w hJ
      have hs := hJ
      refine wpO_in hs rfl rfl rfl (op_bin hs (some 19) (v := .bool true) rfl rfl rfl rfl (fun w => run_eqGuard_agg w .eql 24 _ _ _ _ Try.eqGuardType24) (eqlW lo22 s26 llo22 ls26 true (decide_eq_true (mul_over hs4 hlo10 hlo18 hlo22 hs26))) rfl fun ac hs => ?_)
      exact hs
    · intro L ac w hJ
      have hs := hJ
      refine wpO_plain rfl (op_pickT hs (some 20) rfl rfl rfl rfl rfl fun ac hs => ?_)
      exact hs
    · intro L ac w hJ
      have hs := hJ
      refine wpO_plain rfl (op_move hs (some 21) rfl rfl rfl rfl fun ac hs => ?_)
      exact hs
    · intro L ac w hJ
      have hs := hJ
      refine wpO_in hs rfl rfl rfl (op_load hs (some 22) 0 (v := W a) rfl rfl rfl rfl Try.isAgg24 Try.sizeOf24 rfl rfl fun ac hs => ?_)
      exact hs
    · intro L ac w hJ
      have hs := hJ
      refine wpO_in hs rfl rfl rfl (op_move hs (some 23) rfl rfl rfl rfl fun ac hs => ?_)
      exact hs
    · intro L ac w hJ
      have hs := hJ
      refine wpO_in hs rfl rfl rfl (op_call (F := 25) hs (some 24) (v := W sh35) rfl rfl rfl rfl (Try.call25 _) (shl_c a ((k : Nat) : Int) k sh35 ha (show min (max ((k : Nat) : Int) 0) 256 = ((k : Nat) : Int) by omega) hsh35) rfl fun ac w hs => ?_)
      exact hs
    · intro L ac w hJ
      have hs := hJ
      refine wpO_in hs rfl rfl rfl (op_load hs (some 25) 14 (v := W lo31) rfl rfl rfl rfl Try.isAgg24 Try.sizeOf24 rfl rfl fun ac hs => ?_)
      exact hs
    · intro L ac w hJ
      have hs := hJ
      refine wpO_in hs rfl rfl rfl (op_bin hs (some 26) (v := .bool true) rfl rfl rfl rfl (fun w => run_eqGuard_agg w .eql 24 _ _ _ _ Try.eqGuardType24) (eqlW sh35 lo31 lsh35 llo31 true (decide_eq_true (shl_mul hsh30 hlo31 hsh35))) rfl fun ac hs => ?_)
      exact hs
    · intro L ac w hJ
      have hs := hJ
      refine wpO_plain rfl (op_pickT hs (some 27) rfl rfl rfl rfl rfl fun ac hs => ?_)
      exact hs
    · intro L ac w hJ
      have hs := hJ
      refine wpO_plain rfl (op_assign hs (some 28) rfl rfl rfl rfl fun ac hs => ?_)
      exact hs
  intro ac w hJ
  replace hs : St 106 w0 [(78, true, .bool true), (79, true, .bool true), (80, true, W s4), (81, true, W s7), (82, true, .bool true), (83, true, .bool true), (84, true, .bool true), (85, true, W lo10), (86, true, W lo14), (87, true, .bool true), (88, true, .bool true), (89, true, .bool true), (90, true, W hi11), (91, true, W hi15), (92, true, .bool true), (93, true, .bool true), (94, true, .bool true), (95, true, W lo22), (96, true, W s26), (97, true, .bool true), (98, true, .bool true), (99, true, .bool true), (100, true, W a), (101, true, .int .i64 ((k : Nat) : Int)), (102, true, W sh35), (103, true, W lo31), (104, true, .bool true), (105, true, .bool true), (6, true, .bool true), (3, true, .pointer (some ⟨g1, 0, none⟩)), (6, true, .bool false), (7, true, .pointer (some ⟨g6, 0, none⟩)), (9, true, .pointer (some ⟨g9, 0, none⟩)), (11, true, .pointer (some ⟨g12, 0, none⟩)), (12, true, .pointer (some ⟨g13, 0, none⟩)), (13, true, .pointer (some ⟨g16, 0, none⟩)), (14, true, .pointer (some ⟨g17, 0, none⟩)), (17, true, .pointer (some ⟨g24, 0, none⟩)), (19, true, .pointer (some ⟨g28, 0, none⟩)), (21, true, .int .i64 ((k : Nat) : Int)), (22, true, .pointer (some ⟨g33, 0, none⟩))] [(true, g1, 24, (Wl a)), (true, g2, 24, (Wl b)), (true, g3, 24, (Wl m)), (true, g6, 24, (Wl s4)), (true, g9, 24, (Wl s7)), (true, g12, 24, (Wl lo10)), (true, g13, 24, (Wl hi11)), (true, g16, 24, (Wl lo14)), (true, g17, 24, (Wl hi15)), (true, g20, 24, (Wl lo18)), (true, g21, 24, (Wl hi19)), (true, g24, 24, (Wl lo22)), (true, g25, 24, (Wl hi23)), (true, g28, 24, (Wl s26)), (true, g33, 24, (Wl lo31)), (true, g34, 24, (Wl hi32))] ac w := hJ
  refine then_n ?_
  refine wp_ret ?_
  exact bodyPost_ret (res1 rfl (rv_t hs rfl)) hs.defers ⟨rfl, hs.below⟩
set_option maxHeartbeats 4000000 in
theorem texts_law (a : Nat) (ha : a < 2 ^ 256) (f : Nat → Nat) (hf : ∀ j, j < 32 → f j < 256) (s : ByteArray) (hsz : s.size < 9223372036854775808) (w0 : World) : Calls Try.prog 9 #[W a, At .u8 32 f, .string s] w0 fun e w' => e = .returned (.bool true) ∧ Below w0.heap.size w0 w' := by
  refine enter (n := 57) (args := [W a, At .u8 32 f, .string s]) Try.func9 rfl rfl (Nat.le_of_ble_eq_true rfl) fun ac hs => ?_
  refine wp_seq ?_
  refine wp_region_lit ?_
  refine lstep (wpO_plain rfl (op_box hs none none (cs := (Wl a)) rfl rfl rfl rfl rfl rfl fun g1 ac w hs => ?_))
  refine lstep (wpO_plain rfl (op_box hs none none (cs := (tab .u8 32 f)) rfl rfl rfl rfl rfl rfl fun g2 ac w hs => ?_))
  refine lstep (wpO_plain rfl (op_assign hs none rfl rfl rfl rfl fun ac hs => ?_))
  refine wpList_nil ?_
  refine then_n ?_
  refine wp_seq ?_
  refine wp_seq ?_
  refine wp_region_lit ?_
  refine lstep (wpO_plain rfl (op_move hs none rfl rfl rfl rfl fun ac hs => ?_))
  refine lstep (wpO_plain rfl (op_blt hs none (v := .int .i64 ((s.size : Nat) : Int)) rfl rfl rfl (blt_lenS Try.underlying9 (show s.size < 9223372036854775808 by omega)) rfl fun ac hs => ?_))
  refine lstep (wpO_plain rfl (op_bin hs none (v := .bool (decide (200 < s.size))) rfl rfl rfl rfl (fun _ => rfl) (bin_gtrN (x := s.size) (y := 200)) rfl fun ac hs => ?_))
  refine wpList_nil ?_
  refine then_n ?_
  refine wp_cond_split (hs.ev rfl) (fun hc => ?_) (fun hc => ?_)
  · skip
    have hp3 := of_decide_eq_true hc
    refine wp_seq ?_
    replace hs : St 57 w0 [(2, true, .string s), (3, true, .pointer (some ⟨g1, 0, none⟩)), (4, true, .pointer (some ⟨g2, 0, none⟩)), (6, true, .bool false)] [(true, g1, 24, (Wl a)), (true, g2, 42, (tab .u8 32 f))] ac _ := hs.re ⟨rfl, rfl, rfl, rfl, trivial⟩
    refine wp_region_lit ?_
    refine lstep (wpO_plain rfl (op_call (F := 15) hs none (v := .bool true) rfl rfl rfl rfl (Try.call15 _) alive_c rfl fun ac w hs => ?_))
    refine lstep (wpO_plain rfl (op_assign hs none rfl rfl rfl rfl fun ac hs => ?_))
    refine wpList_nil ?_
    refine then_n ?_
    refine wp_ret ?_
    refine then_r ?_
    exact bodyPost_ret (res1 rfl (rv_t hs rfl)) hs.defers ⟨rfl, hs.below⟩
  · skip
    have hp4 := of_decide_eq_false hc
    refine wp_skip ?_
    refine then_n ?_
    refine wp_seq ?_
    replace hs : St 57 w0 [(2, true, .string s), (3, true, .pointer (some ⟨g1, 0, none⟩)), (4, true, .pointer (some ⟨g2, 0, none⟩)), (6, true, .bool false)] [(true, g1, 24, (Wl a)), (true, g2, 42, (tab .u8 32 f))] ac _ := hs.re ⟨rfl, rfl, rfl, rfl, trivial⟩
    refine wp_region_lit ?_
    refine lstep (wpO_plain rfl (op_move hs none rfl rfl rfl rfl fun ac hs => ?_))
    refine lstep (wpO_plain rfl (op_call (F := 31) hs none (v := .tuple #[W (txV s), .int .i64 ((txE s : Nat) : Int)]) rfl rfl rfl rfl (Try.call31 _) (wparse_c s hsz) rfl fun ac w hs => ?_))
    refine lstep (wpO_plain rfl (op_move hs none rfl rfl rfl rfl fun ac hs => ?_))
    refine lstep (wpO_plain rfl (op_extract hs none rfl rfl rfl rfl rfl fun ac hs => ?_))
    refine lstep (wpO_plain rfl (op_extract hs none rfl rfl rfl rfl rfl fun ac hs => ?_))
    refine lstep (wpO_plain rfl (op_alloc hs none none (cs := [.int .u64 0, .int .u64 0, .int .u64 0, .int .u64 0]) rfl rfl Try.zeroValue24 (by kernel_rfl) rfl rfl fun g5 ac w hs => ?_))
    refine lstep (wpO_plain rfl (op_store hs 2 (vs := (Wl (txV s))) rfl rfl rfl rfl rfl Try.sizeOf24 rfl rfl rfl rfl rfl fun w hs => ?_))
    refine lstep (wpO_plain rfl (op_assign hs none rfl rfl rfl rfl fun ac hs => ?_))
    refine wpList_nil ?_
    refine then_n ?_
    refine wp_seq ?_
    replace hs : St 57 w0 [(2, true, .string s), (3, true, .pointer (some ⟨g1, 0, none⟩)), (4, true, .pointer (some ⟨g2, 0, none⟩)), (6, true, .bool false), (7, true, .pointer (some ⟨g5, 0, none⟩)), (8, true, .int .i64 ((txE s : Nat) : Int))] [(true, g1, 24, (Wl a)), (true, g2, 42, (tab .u8 32 f)), (true, g5, 24, (Wl (txV s)))] ac _ := hs.re ⟨rfl, rfl, rfl, rfl, rfl, rfl, trivial⟩
    refine wp_region_lit ?_
    refine lstep (wpO_plain rfl (op_move hs none rfl rfl rfl rfl fun ac hs => ?_))
    refine lstep (wpO_plain rfl (op_call (F := 32) hs none (v := .tuple #[W (txV s), .int .i64 ((txE s : Nat) : Int)]) rfl rfl rfl rfl (Try.call32 _) (rparse_c s hsz) rfl fun ac w hs => ?_))
    refine lstep (wpO_plain rfl (op_move hs none rfl rfl rfl rfl fun ac hs => ?_))
    refine lstep (wpO_plain rfl (op_extract hs none rfl rfl rfl rfl rfl fun ac hs => ?_))
    refine lstep (wpO_plain rfl (op_extract hs none rfl rfl rfl rfl rfl fun ac hs => ?_))
    refine lstep (wpO_plain rfl (op_alloc hs none none (cs := [.int .u64 0, .int .u64 0, .int .u64 0, .int .u64 0]) rfl rfl Try.zeroValue24 (by kernel_rfl) rfl rfl fun g6 ac w hs => ?_))
    refine lstep (wpO_plain rfl (op_store hs 3 (vs := (Wl (txV s))) rfl rfl rfl rfl rfl Try.sizeOf24 rfl rfl rfl rfl rfl fun w hs => ?_))
    refine lstep (wpO_plain rfl (op_assign hs none rfl rfl rfl rfl fun ac hs => ?_))
    refine wpList_nil ?_
    refine then_n ?_
    refine wp_seq ?_
    replace hs : St 57 w0 [(3, true, .pointer (some ⟨g1, 0, none⟩)), (4, true, .pointer (some ⟨g2, 0, none⟩)), (6, true, .bool false), (7, true, .pointer (some ⟨g5, 0, none⟩)), (8, true, .int .i64 ((txE s : Nat) : Int)), (9, true, .pointer (some ⟨g6, 0, none⟩)), (10, true, .int .i64 ((txE s : Nat) : Int))] [(true, g1, 24, (Wl a)), (true, g2, 42, (tab .u8 32 f)), (true, g5, 24, (Wl (txV s))), (true, g6, 24, (Wl (txV s)))] ac _ := hs.re ⟨rfl, rfl, rfl, rfl, rfl, rfl, rfl, trivial⟩
    obtain ⟨a7, ha7, la7⟩ : ∃ z0, pr f 0 32 = z0 ∧ z0 < 2 ^ 256 := ⟨_, rfl, pr_lt32 hf⟩
    obtain ⟨a8, ha8, la8⟩ : ∃ z0, pr f 0 32 = z0 ∧ z0 < 2 ^ 256 := ⟨_, rfl, pr_lt32 hf⟩
    refine region_inv [([], [1, 2, 3, 4, 5, 6, 7, 8, 9, 10, 11, 12, 13, 14, 15, 16, 17, 18, 19, 20, 21, 22, 23, 24, 25, 26, 27, 28, 29, 30, 31, 32]), ([0], [2, 3, 4, 5, 6, 7, 8, 9, 10, 11, 12, 13, 14, 15, 16, 17, 18, 19, 20, 21, 22, 23, 24, 25, 26, 27, 28, 29, 30, 31, 32]), ([0, 1], [3, 5, 6, 7, 8, 9, 10, 11, 12, 13, 14, 15, 16, 17, 18, 19, 20, 21, 22, 23, 24, 25, 26, 27, 28, 29, 30, 31, 32]), ([0, 1, 2], [5, 6, 7, 8, 9, 10, 11, 12, 13, 14, 15, 16, 17, 18, 19, 20, 21, 22, 23, 24, 25, 26, 27, 28, 29, 30, 31, 32]), ([0, 1], [5, 6, 7, 8, 9, 10, 11, 12, 13, 14, 15, 16, 17, 18, 19, 20, 21, 22, 23, 24, 25, 26, 27, 28, 29, 30, 31, 32]), ([0, 1, 2, 3, 4], [6, 7, 8, 9, 10, 11, 12, 13, 14, 15, 16, 17, 18, 19, 20, 21, 22, 23, 24, 25, 26, 27, 28, 29, 30, 31, 32]), ([0, 1, 2, 3, 4, 5], [7, 8, 9, 10, 11, 12, 13, 14, 15, 16, 17, 18, 19, 20, 21, 22, 23, 24, 25, 26, 27, 28, 29, 30, 31, 32]), ([0, 1, 2, 3, 4, 5, 6], [8, 9, 10, 11, 12, 13, 14, 15, 16, 17, 18, 19, 20, 21, 22, 23, 24, 25, 26, 27, 28, 29, 30, 31, 32]), ([0, 1, 2, 3, 4, 5, 6, 7], [9, 10, 11, 12, 13, 14, 15, 16, 17, 18, 19, 20, 21, 22, 23, 24, 25, 26, 27, 28, 29, 30, 31, 32]), ([0, 1, 2, 3, 4, 5, 6, 7, 8], [10, 12, 13, 14, 15, 16, 17, 18, 19, 20, 21, 22, 23, 24, 25, 26, 27, 28, 29, 30, 31, 32]), ([0, 1, 2, 3, 4, 5, 6, 7, 8, 9], [12, 13, 14, 15, 16, 17, 18, 19, 20, 21, 22, 23, 24, 25, 26, 27, 28, 29, 30, 31, 32]), ([0, 1, 2, 3, 4, 5, 6, 7, 8], [12, 13, 14, 15, 16, 17, 18, 19, 20, 21, 22, 23, 24, 25, 26, 27, 28, 29, 30, 31, 32]), ([0, 1, 2, 3, 4, 5, 6, 7, 8, 9, 10, 11], [13, 14, 15, 16, 17, 18, 19, 20, 21, 22, 23, 24, 25, 26, 27, 28, 29, 30, 31, 32]), ([0, 1, 2, 3, 4, 5, 6, 7, 8, 9, 10, 11, 12], [14, 15, 16, 17, 18, 19, 20, 21, 22, 23, 24, 25, 26, 27, 28, 29, 30, 31, 32]), ([0, 1, 2, 3, 4, 5, 6, 7, 8, 9, 10, 11, 12, 13], [15, 16, 17, 18, 19, 20, 21, 22, 23, 24, 25, 26, 27, 28, 29, 30, 31, 32]), ([0, 1, 2, 3, 4, 5, 6, 7, 8, 9, 10, 11, 12, 13, 14], [16, 17, 18, 19, 20, 21, 22, 23, 24, 25, 26, 27, 28, 29, 30, 31, 32]), ([0, 1, 2, 3, 4, 5, 6, 7, 8, 9, 10, 11, 12, 13, 14, 15], [17, 19, 20, 21, 22, 23, 24, 25, 26, 27, 28, 29, 30, 31, 32]), ([0, 1, 2, 3, 4, 5, 6, 7, 8, 9, 10, 11, 12, 13, 14, 15, 16], [19, 20, 21, 22, 23, 24, 25, 26, 27, 28, 29, 30, 31, 32]), ([0, 1, 2, 3, 4, 5, 6, 7, 8, 9, 10, 11, 12, 13, 14, 15], [19, 20, 21, 22, 23, 24, 25, 26, 27, 28, 29, 30, 31, 32]), ([0, 1, 2, 3, 4, 5, 6, 7, 8, 9, 10, 11, 12, 13, 14, 15, 16, 17, 18], [20, 21, 22, 23, 24, 25, 26, 27, 28, 29, 30, 31, 32]), ([0, 1, 2, 3, 4, 5, 6, 7, 8, 9, 10, 11, 12, 13, 14, 15, 16, 17, 18, 19], [21, 22, 23, 24, 25, 26, 27, 28, 29, 30, 31, 32]), ([0, 1, 2, 3, 4, 5, 6, 7, 8, 9, 10, 11, 12, 13, 14, 15, 16, 17, 18, 19, 20], [22, 23, 24, 25, 26, 27, 28, 29, 30, 31, 32]), ([0, 1, 2, 3, 4, 5, 6, 7, 8, 9, 10, 11, 12, 13, 14, 15, 16, 17, 18, 19, 20, 21], [23, 24, 25, 26, 27, 28, 29, 30, 31, 32]), ([0, 1, 2, 3, 4, 5, 6, 7, 8, 9, 10, 11, 12, 13, 14, 15, 16, 17, 18, 19, 20, 21, 22], [25, 26, 27, 28, 29, 30, 31, 32]), ([0, 1, 2, 3, 4, 5, 6, 7, 8, 9, 10, 11, 12, 13, 14, 15, 16, 17, 18, 19, 20, 21, 22], [25, 26, 27, 28, 29, 30, 31, 32]), ([0, 1, 2, 3, 4, 5, 6, 7, 8, 9, 10, 11, 12, 13, 14, 15, 16, 17, 18, 19, 20, 21, 22, 23, 24], [26, 27, 28, 29, 30, 31, 32]), ([0, 1, 2, 3, 4, 5, 6, 7, 8, 9, 10, 11, 12, 13, 14, 15, 16, 17, 18, 19, 20, 21, 22, 23, 24, 25], [27, 28, 29, 30, 31, 32]), ([0, 1, 2, 3, 4, 5, 6, 7, 8, 9, 10, 11, 12, 13, 14, 15, 16, 17, 18, 19, 20, 21, 22, 23, 24, 25, 26], [28, 29, 30, 31, 32]), ([0, 1, 2, 3, 4, 5, 6, 7, 8, 9, 10, 11, 12, 13, 14, 15, 16, 17, 18, 19, 20, 21, 22, 23, 24, 25, 26, 27], [30, 31, 32]), ([0, 1, 2, 3, 4, 5, 6, 7, 8, 9, 10, 11, 12, 13, 14, 15, 16, 17, 18, 19, 20, 21, 22, 23, 24, 25, 26, 27], [30, 31, 32]), ([0, 1, 2, 3, 4, 5, 6, 7, 8, 9, 10, 11, 12, 13, 14, 15, 16, 17, 18, 19, 20, 21, 22, 23, 24, 25, 26, 27, 28, 29], [31, 32]), ([0, 1, 2, 3, 4, 5, 6, 7, 8, 9, 10, 11, 12, 13, 14, 15, 16, 17, 18, 19, 20, 21, 22, 23, 24, 25, 26, 27, 28, 29, 30], [32]), ([0, 1, 2, 3, 4, 5, 6, 7, 8, 9, 10, 11, 12, 13, 14, 15, 16, 17, 18, 19, 20, 21, 22, 23, 24, 25, 26, 27, 28, 29, 30, 31], [])] (fun L ac w => St 57 w0 [(25, L 0, .bool true), (26, L 1, .bool true), (27, L 2, W a), (28, L 3, At .u8 32 (by8 a)), (29, L 4, W a), (30, L 5, At .u8 32 (by8 a)), (31, L 6, .bool true), (32, L 7, .bool true), (33, L 8, .bool true), (34, L 9, At .u8 32 f), (35, L 10, W a7), (36, L 11, At .u8 32 f), (37, L 12, W a8), (38, L 13, .bool true), (39, L 14, .bool true), (40, L 15, .bool true), (41, L 16, W a), (42, L 17, .string (dcs a)), (43, L 18, W a), (44, L 19, .string (dcs a)), (45, L 20, .bool true), (46, L 21, .bool true), (47, L 22, .bool true), (48, L 23, W (txV s)), (49, L 24, W (txV s)), (50, L 25, .bool true), (51, L 26, .bool true), (52, L 27, .bool true), (53, L 28, .int .i64 ((txE s : Nat) : Int)), (54, L 29, .int .i64 ((txE s : Nat) : Int)), (55, L 30, .bool true), (56, L 31, .bool true), (6, L 32, .bool true), (3, true, .pointer (some ⟨g1, 0, none⟩)), (4, true, .pointer (some ⟨g2, 0, none⟩)), (6, true, .bool false), (7, true, .pointer (some ⟨g5, 0, none⟩)), (8, true, .int .i64 ((txE s : Nat) : Int)), (9, true, .pointer (some ⟨g6, 0, none⟩)), (10, true, .int .i64 ((txE s : Nat) : Int))] [(true, g1, 24, (Wl a)), (true, g2, 42, (tab .u8 32 f)), (true, g5, 24, (Wl (txV s))), (true, g6, 24, (Wl (txV s)))] ac w) (by kernel_rfl) (by kernel_rfl) ?_ ?_ ?_
    · exact hs.drew.skip.skip.skip.skip.skip.skip.skip.skip.skip.skip.skip.skip.skip.skip.skip.skip.skip.skip.skip.skip.skip.skip.skip.skip.skip.skip.skip.skip.skip.skip.skip.skip.skip
    · refine ⟨?_, ?_, ?_, ?_, ?_, ?_, ?_, ?_, ?_, ?_, ?_, ?_, ?_, ?_, ?_, ?_, ?_, ?_, ?_, ?_, ?_, ?_, ?_, ?_, ?_, ?_, ?_, ?_, ?_, ?_, ?_, ?_, ?_, trivial⟩
      · intro L ac w hJ
        have hs := hJ
        refine wpO_plain rfl (op_call (F := 15) hs (some 0) (v := .bool true) rfl rfl rfl rfl (Try.call15 _) alive_c rfl fun ac w hs => ?_)
        exact hs
      · intro L ac w hJ
        have hs := hJ
        refine wpO_plain rfl (op_move hs (some 1) rfl rfl rfl rfl fun ac hs => ?_)
        exact hs
      · intro L ac w hJ
        have hs := hJ
        refine wpO_in hs rfl rfl rfl (op_load hs (some 2) 0 (v := W a) rfl rfl rfl rfl Try.isAgg24 Try.sizeOf24 rfl rfl fun ac hs => ?_)
        exact hs
      · intro L ac w hJ
        have hs := hJ
        refine wpO_in hs rfl rfl rfl (op_call (F := 33) hs (some 3) (v := At .u8 32 (by8 a)) rfl rfl rfl rfl (Try.call33 _) (bytes_c a ha) rfl fun ac w hs => ?_)
        exact hs
      · intro L ac w hJ
        have hs := hJ
        refine wpO_in hs rfl rfl rfl (op_load hs (some 4) 0 (v := W a) rfl rfl rfl rfl Try.isAgg24 Try.sizeOf24 rfl rfl fun ac hs => ?_)
        exact hs
      · intro L ac w hJ
        have hs := hJ
        refine wpO_in hs rfl rfl rfl (op_call (F := 34) hs (some 5) (v := At .u8 32 (by8 a)) rfl rfl rfl rfl (Try.call34 _) (rbytes_c a ha) rfl fun ac w hs => ?_)
        exact hs
      · intro L ac w hJ
        have hs := hJ
        refine wpO_in hs rfl rfl rfl (op_bin hs (some 6) (v := .bool true) rfl rfl rfl rfl (fun w => run_eqGuard_agg w .eql 42 _ _ _ _ Try.eqGuardType42) (eqlAt Try.underlying42 Try.underlying5 inf_u8_5 (by kernel_rfl) Try.isAgg5 (fun _ _ => rfl)) rfl fun ac hs => ?_)
        exact hs
      · intro L ac w hJ
        have hs := hJ
        refine wpO_plain rfl (op_pickT hs (some 7) rfl rfl rfl rfl rfl fun ac hs => ?_)
        exact hs
      · intro L ac w hJ
        have hs := hJ
        refine wpO_plain rfl (op_move hs (some 8) rfl rfl rfl rfl fun ac hs => ?_)
        exact hs
      · intro L ac w hJ
        have hs := hJ
        refine wpO_in hs rfl rfl rfl (op_load hs (some 9) 1 (v := At .u8 32 f) rfl rfl rfl rfl Try.isAgg42 Try.sizeOf42 ldv_tab rfl fun ac hs => ?_)
        exact hs
      · intro L ac w hJ
        have hs := hJ
        refine wpO_in hs rfl rfl rfl (op_call (F := 35) hs (some 10) (v := W a7) rfl rfl rfl rfl (Try.call35 _) (wread_c f a7 hf ha7) rfl fun ac w hs => ?_)
        exact hs
      · intro L ac w hJ
        have hs := hJ
        refine wpO_in hs rfl rfl rfl (op_load hs (some 11) 1 (v := At .u8 32 f) rfl rfl rfl rfl Try.isAgg42 Try.sizeOf42 ldv_tab rfl fun ac hs => ?_)
        exact hs
      · intro L ac w hJ
        have hs := hJ
        refine wpO_in hs rfl rfl rfl (op_call (F := 36) hs (some 12) (v := W a8) rfl rfl rfl rfl (Try.call36 _) (rread_c f a8 hf ha8) rfl fun ac w hs => ?_)
        exact hs
      · intro L ac w hJ
        have hs := hJ
        refine wpO_in hs rfl rfl rfl (op_bin hs (some 13) (v := .bool true) rfl rfl rfl rfl (fun w => run_eqGuard_agg w .eql 24 _ _ _ _ Try.eqGuardType24) (eqlW a7 a8 la7 la8 true (decide_eq_true (by rw [← ha7, ← ha8]))) rfl fun ac hs => ?_)
        exact hs
      · intro L ac w hJ
        have hs := hJ
        refine wpO_plain rfl (op_pickT hs (some 14) rfl rfl rfl rfl rfl fun ac hs => ?_)
        exact hs
      · intro L ac w hJ
        have hs := hJ
        refine wpO_plain rfl (op_move hs (some 15) rfl rfl rfl rfl fun ac hs => ?_)
        exact hs
      · intro L ac w hJ
        have hs := hJ
        refine wpO_in hs rfl rfl rfl (op_load hs (some 16) 0 (v := W a) rfl rfl rfl rfl Try.isAgg24 Try.sizeOf24 rfl rfl fun ac hs => ?_)
        exact hs
      · intro L ac w hJ
        have hs := hJ
        refine wpO_in hs rfl rfl rfl (op_call (F := 37) hs (some 17) (v := .string (dcs a)) rfl rfl rfl rfl (Try.call37 _) (wprint_c a ha) rfl fun ac w hs => ?_)
        exact hs
      · intro L ac w hJ
        have hs := hJ
        refine wpO_in hs rfl rfl rfl (op_load hs (some 18) 0 (v := W a) rfl rfl rfl rfl Try.isAgg24 Try.sizeOf24 rfl rfl fun ac hs => ?_)
        exact hs
      · intro L ac w hJ
        have hs := hJ
        refine wpO_in hs rfl rfl rfl (op_call (F := 38) hs (some 19) (v := .string (dcs a)) rfl rfl rfl rfl (Try.call38 _) (rprint_c a ha) rfl fun ac w hs => ?_)
        exact hs
      · intro L ac w hJ
        have hs := hJ
        refine wpO_in hs rfl rfl rfl (op_bin hs (some 20) (v := .bool true) rfl rfl rfl rfl (fun _ => rfl) (bin_eqlS (decide_eq_true rfl)) rfl fun ac hs => ?_)
        exact hs
      · intro L ac w hJ
        have hs := hJ
        refine wpO_plain rfl (op_pickT hs (some 21) rfl rfl rfl rfl rfl fun ac hs => ?_)
        exact hs
      · intro L ac w hJ
        have hs := hJ
        refine wpO_plain rfl (op_move hs (some 22) rfl rfl rfl rfl fun ac hs => ?_)
        exact hs
      · intro L ac w hJ
        have hs := hJ
        refine wpO_in hs rfl rfl rfl (op_load hs (some 23) 2 (v := W (txV s)) rfl rfl rfl rfl Try.isAgg24 Try.sizeOf24 rfl rfl fun ac hs => ?_)
        exact hs
      · intro L ac w hJ
        have hs := hJ
        refine wpO_in hs rfl rfl rfl (op_load hs (some 24) 3 (v := W (txV s)) rfl rfl rfl rfl Try.isAgg24 Try.sizeOf24 rfl rfl fun ac hs => ?_)
        exact hs
      · intro L ac w hJ
        have hs := hJ
        refine wpO_in hs rfl rfl rfl (op_bin hs (some 25) (v := .bool true) rfl rfl rfl rfl (fun w => run_eqGuard_agg w .eql 24 _ _ _ _ Try.eqGuardType24) (eqlW (txV s) (txV s) (txV_lt s) (txV_lt s) true (decide_eq_true rfl)) rfl fun ac hs => ?_)
        exact hs
      · intro L ac w hJ
        have hs := hJ
        refine wpO_plain rfl (op_pickT hs (some 26) rfl rfl rfl rfl rfl fun ac hs => ?_)
        exact hs
      · intro L ac w hJ
        have hs := hJ
        refine wpO_plain rfl (op_move hs (some 27) rfl rfl rfl rfl fun ac hs => ?_)
        exact hs
      · intro L ac w hJ
        have hs := hJ
        refine wpO_in hs rfl rfl rfl (op_move hs (some 28) rfl rfl rfl rfl fun ac hs => ?_)
        exact hs
      · intro L ac w hJ
        have hs := hJ
        refine wpO_in hs rfl rfl rfl (op_move hs (some 29) rfl rfl rfl rfl fun ac hs => ?_)
        exact hs
      · intro L ac w hJ
        have hs := hJ
        refine wpO_in hs rfl rfl rfl (op_bin hs (some 30) (v := .bool true) rfl rfl rfl rfl (fun _ => rfl) (fun w => dT rfl (bin_eqlN (x := txE s) (y := txE s) w)) rfl fun ac hs => ?_)
        exact hs
      · intro L ac w hJ
        have hs := hJ
        refine wpO_plain rfl (op_pickT hs (some 31) rfl rfl rfl rfl rfl fun ac hs => ?_)
        exact hs
      · intro L ac w hJ
        have hs := hJ
        refine wpO_plain rfl (op_assign hs (some 32) rfl rfl rfl rfl fun ac hs => ?_)
        exact hs
    intro ac w hJ
    replace hs : St 57 w0 [(25, true, .bool true), (26, true, .bool true), (27, true, W a), (28, true, At .u8 32 (by8 a)), (29, true, W a), (30, true, At .u8 32 (by8 a)), (31, true, .bool true), (32, true, .bool true), (33, true, .bool true), (34, true, At .u8 32 f), (35, true, W a7), (36, true, At .u8 32 f), (37, true, W a8), (38, true, .bool true), (39, true, .bool true), (40, true, .bool true), (41, true, W a), (42, true, .string (dcs a)), (43, true, W a), (44, true, .string (dcs a)), (45, true, .bool true), (46, true, .bool true), (47, true, .bool true), (48, true, W (txV s)), (49, true, W (txV s)), (50, true, .bool true), (51, true, .bool true), (52, true, .bool true), (53, true, .int .i64 ((txE s : Nat) : Int)), (54, true, .int .i64 ((txE s : Nat) : Int)), (55, true, .bool true), (56, true, .bool true), (6, true, .bool true), (3, true, .pointer (some ⟨g1, 0, none⟩)), (4, true, .pointer (some ⟨g2, 0, none⟩)), (6, true, .bool false), (7, true, .pointer (some ⟨g5, 0, none⟩)), (8, true, .int .i64 ((txE s : Nat) : Int)), (9, true, .pointer (some ⟨g6, 0, none⟩)), (10, true, .int .i64 ((txE s : Nat) : Int))] [(true, g1, 24, (Wl a)), (true, g2, 42, (tab .u8 32 f)), (true, g5, 24, (Wl (txV s))), (true, g6, 24, (Wl (txV s)))] ac w := hJ
    refine then_n ?_
    refine wp_ret ?_
    exact bodyPost_ret (res1 rfl (rv_t hs rfl)) hs.defers ⟨rfl, hs.below⟩
set_option maxHeartbeats 4000000 in
theorem back_law (a : Nat) (ha : a < 2 ^ 256) (f : Nat → Nat) (hf : ∀ j, j < 32 → f j < 256) (w0 : World) : Calls Try.prog 10 #[W a, At .u8 32 f] w0 fun e w' => e = .returned (.bool true) ∧ Below w0.heap.size w0 w' := by
  refine enter (n := 83) (args := [W a, At .u8 32 f]) Try.func10 rfl rfl (Nat.le_of_ble_eq_true rfl) fun ac hs => ?_
  refine wp_seq ?_
  refine wp_region_lit ?_
  refine lstep (wpO_plain rfl (op_box hs none none (cs := (Wl a)) rfl rfl rfl rfl rfl rfl fun g1 ac w hs => ?_))
  refine lstep (wpO_plain rfl (op_box hs none none (cs := (tab .u8 32 f)) rfl rfl rfl rfl rfl rfl fun g2 ac w hs => ?_))
  refine lstep (wpO_plain rfl (op_assign hs none rfl rfl rfl rfl fun ac hs => ?_))
  refine wpList_nil ?_
  refine then_n ?_
  refine wp_seq ?_
  refine wp_region_lit ?_
  refine lstep (wpO_plain rfl (op_load hs none 0 (v := W a) rfl rfl rfl rfl Try.isAgg24 Try.sizeOf24 rfl rfl fun ac hs => ?_))
  refine lstep (wpO_plain rfl (op_call (F := 37) hs none (v := .string (dcs a)) rfl rfl rfl rfl (Try.call37 _) (wprint_c a ha) rfl fun ac w hs => ?_))
  refine lstep (wpO_plain rfl (op_assign hs none rfl rfl rfl rfl fun ac hs => ?_))
  refine wpList_nil ?_
  refine then_n ?_
  refine wp_seq ?_
  replace hs : St 83 w0 [(2, true, .pointer (some ⟨g1, 0, none⟩)), (3, true, .pointer (some ⟨g2, 0, none⟩)), (4, true, .bool false), (5, true, .string (dcs a))] [(true, g1, 24, (Wl a)), (true, g2, 42, (tab .u8 32 f))] ac _ := hs.re ⟨rfl, rfl, rfl, rfl, trivial⟩
  refine wp_region_lit ?_
  refine lstep (wpO_plain rfl (op_move hs none rfl rfl rfl rfl fun ac hs => ?_))
  refine lstep (wpO_plain rfl (op_call (F := 31) hs none (v := .tuple #[W (txV (dcs a)), .int .i64 ((txE (dcs a) : Nat) : Int)]) rfl rfl rfl rfl (Try.call31 _) (wparse_c (dcs a) (dcs_short ha)) rfl fun ac w hs => ?_))
  refine lstep (wpO_plain rfl (op_move hs none rfl rfl rfl rfl fun ac hs => ?_))
  refine lstep (wpO_plain rfl (op_extract hs none rfl rfl rfl rfl rfl fun ac hs => ?_))
  refine lstep (wpO_plain rfl (op_extract hs none rfl rfl rfl rfl rfl fun ac hs => ?_))
  refine lstep (wpO_plain rfl (op_alloc hs none none (cs := [.int .u64 0, .int .u64 0, .int .u64 0, .int .u64 0]) rfl rfl Try.zeroValue24 (by kernel_rfl) rfl rfl fun g3 ac w hs => ?_))
  refine lstep (wpO_plain rfl (op_store hs 2 (vs := (Wl (txV (dcs a)))) rfl rfl rfl rfl rfl Try.sizeOf24 rfl rfl rfl rfl rfl fun w hs => ?_))
  refine lstep (wpO_plain rfl (op_assign hs none rfl rfl rfl rfl fun ac hs => ?_))
  refine wpList_nil ?_
  refine then_n ?_
  refine wp_seq ?_
  replace hs : St 83 w0 [(2, true, .pointer (some ⟨g1, 0, none⟩)), (3, true, .pointer (some ⟨g2, 0, none⟩)), (4, true, .bool false), (5, true, .string (dcs a)), (6, true, .pointer (some ⟨g3, 0, none⟩)), (7, true, .int .i64 ((txE (dcs a) : Nat) : Int))] [(true, g1, 24, (Wl a)), (true, g2, 42, (tab .u8 32 f)), (true, g3, 24, (Wl (txV (dcs a))))] ac _ := hs.re ⟨rfl, rfl, rfl, rfl, rfl, rfl, trivial⟩
  refine wp_region_lit ?_
  refine lstep (wpO_plain rfl (op_move hs none rfl rfl rfl rfl fun ac hs => ?_))
  refine lstep (wpO_plain rfl (op_bin hs none (v := .string (zd a)) rfl rfl rfl rfl (fun _ => rfl) (bin_addS (zd_room ha)) rfl fun ac hs => ?_))
  refine lstep (wpO_plain rfl (op_call (F := 31) hs none (v := .tuple #[W (txV (zd a)), .int .i64 ((txE (zd a) : Nat) : Int)]) rfl rfl rfl rfl (Try.call31 _) (wparse_c (zd a) (zd_short ha)) rfl fun ac w hs => ?_))
  refine lstep (wpO_plain rfl (op_move hs none rfl rfl rfl rfl fun ac hs => ?_))
  refine lstep (wpO_plain rfl (op_extract hs none rfl rfl rfl rfl rfl fun ac hs => ?_))
  refine lstep (wpO_plain rfl (op_extract hs none rfl rfl rfl rfl rfl fun ac hs => ?_))
  refine lstep (wpO_plain rfl (op_alloc hs none none (cs := [.int .u64 0, .int .u64 0, .int .u64 0, .int .u64 0]) rfl rfl Try.zeroValue24 (by kernel_rfl) rfl rfl fun g4 ac w hs => ?_))
  refine lstep (wpO_plain rfl (op_store hs 3 (vs := (Wl (txV (zd a)))) rfl rfl rfl rfl rfl Try.sizeOf24 rfl rfl rfl rfl rfl fun w hs => ?_))
  refine lstep (wpO_plain rfl (op_assign hs none rfl rfl rfl rfl fun ac hs => ?_))
  refine wpList_nil ?_
  refine then_n ?_
  refine wp_seq ?_
  replace hs : St 83 w0 [(2, true, .pointer (some ⟨g1, 0, none⟩)), (3, true, .pointer (some ⟨g2, 0, none⟩)), (4, true, .bool false), (5, true, .string (dcs a)), (6, true, .pointer (some ⟨g3, 0, none⟩)), (7, true, .int .i64 ((txE (dcs a) : Nat) : Int)), (8, true, .pointer (some ⟨g4, 0, none⟩)), (9, true, .int .i64 ((txE (zd a) : Nat) : Int))] [(true, g1, 24, (Wl a)), (true, g2, 42, (tab .u8 32 f)), (true, g3, 24, (Wl (txV (dcs a)))), (true, g4, 24, (Wl (txV (zd a))))] ac _ := hs.re ⟨rfl, rfl, rfl, rfl, rfl, rfl, rfl, rfl, trivial⟩
  refine wp_region_lit ?_
  refine lstep (wpO_plain rfl (op_move hs none rfl rfl rfl rfl fun ac hs => ?_))
  refine lstep (wpO_plain rfl (op_bin hs none (v := .string (dz a)) rfl rfl rfl rfl (fun _ => rfl) (bin_addS (dz_room ha)) rfl fun ac hs => ?_))
  refine lstep (wpO_plain rfl (op_call (F := 31) hs none (v := .tuple #[W (txV (dz a)), .int .i64 ((txE (dz a) : Nat) : Int)]) rfl rfl rfl rfl (Try.call31 _) (wparse_c (dz a) (dz_short ha)) rfl fun ac w hs => ?_))
  refine lstep (wpO_plain rfl (op_move hs none rfl rfl rfl rfl fun ac hs => ?_))
  refine lstep (wpO_plain rfl (op_extract hs none rfl rfl rfl rfl rfl fun ac hs => ?_))
  refine lstep (wpO_plain rfl (op_extract hs none rfl rfl rfl rfl rfl fun ac hs => ?_))
  refine lstep (wpO_plain rfl (op_alloc hs none none (cs := [.int .u64 0, .int .u64 0, .int .u64 0, .int .u64 0]) rfl rfl Try.zeroValue24 (by kernel_rfl) rfl rfl fun g5 ac w hs => ?_))
  refine lstep (wpO_plain rfl (op_store hs 4 (vs := (Wl (txV (dz a)))) rfl rfl rfl rfl rfl Try.sizeOf24 rfl rfl rfl rfl rfl fun w hs => ?_))
  refine lstep (wpO_plain rfl (op_assign hs none rfl rfl rfl rfl fun ac hs => ?_))
  refine wpList_nil ?_
  refine then_n ?_
  refine wp_seq ?_
  by_cases hq6 : a = 0
  · skip
    replace hs : St 83 w0 [(2, true, .pointer (some ⟨g1, 0, none⟩)), (3, true, .pointer (some ⟨g2, 0, none⟩)), (4, true, .bool false), (5, true, .string (dcs a)), (6, true, .pointer (some ⟨g3, 0, none⟩)), (7, true, .int .i64 ((txE (dcs a) : Nat) : Int)), (8, true, .pointer (some ⟨g4, 0, none⟩)), (9, true, .int .i64 ((txE (zd a) : Nat) : Int)), (10, true, .pointer (some ⟨g5, 0, none⟩)), (11, true, .int .i64 ((txE (dz a) : Nat) : Int))] [(true, g1, 24, (Wl a)), (true, g2, 42, (tab .u8 32 f)), (true, g3, 24, (Wl (txV (dcs a)))), (true, g4, 24, (Wl (txV (zd a)))), (true, g5, 24, (Wl (txV (dz a))))] ac _ := hs.re ⟨rfl, rfl, rfl, rfl, rfl, rfl, rfl, rfl, rfl, rfl, trivial⟩
    refine wp_region_lit ?_
    refine lstep (wpO_plain rfl (op_move hs none rfl rfl rfl rfl fun ac hs => ?_))
    refine lstep (wpO_plain rfl (op_bin hs none (v := .bool false) rfl rfl rfl rfl (fun _ => rfl) (fun w => dF (by rw [hq6, tx_dz0]; decide) (bin_eqlN (x := txE (dz a)) (y := 4) w)) rfl fun ac hs => ?_))
    refine lstep (wpO_plain rfl (op_move hs none rfl rfl rfl rfl fun ac hs => ?_))
    refine lstep (wpO_in hs rfl rfl rfl (op_move hs none rfl rfl rfl rfl fun ac hs => ?_))
    refine lstep (wpO_in hs rfl rfl rfl (op_bin hs none (v := .bool true) rfl rfl rfl rfl (fun _ => rfl) (bin_eqlS (decide_eq_true (by rw [hq6]; exact dcs_0))) rfl fun ac hs => ?_))
    refine lstep (wpO_in hs rfl rfl rfl (op_move hs none rfl rfl rfl rfl fun ac hs => ?_))
    refine lstep (wpO_in hs rfl rfl rfl (op_move hs none rfl rfl rfl rfl fun ac hs => ?_))
    refine lstep (wpO_in hs rfl rfl rfl (op_bin hs none (v := .bool true) rfl rfl rfl rfl (fun _ => rfl) (fun w => dT (by rw [hq6]; exact tx_dz0) (bin_eqlN (x := txE (dz a)) (y := 3) w)) rfl fun ac hs => ?_))
    refine lstep (wpO_in hs rfl rfl rfl (op_pickT hs none rfl rfl rfl rfl rfl fun ac hs => ?_))
    refine lstep (wpO_plain rfl (op_pickF hs none rfl rfl rfl rfl rfl fun ac hs => ?_))
    refine lstep (wpO_plain rfl (op_assign hs none rfl rfl rfl rfl fun ac hs => ?_))
    refine wpList_nil ?_
    refine then_n ?_
    refine wp_seq ?_
    replace hs : St 83 w0 [(2, true, .pointer (some ⟨g1, 0, none⟩)), (3, true, .pointer (some ⟨g2, 0, none⟩)), (4, true, .bool false), (6, true, .pointer (some ⟨g3, 0, none⟩)), (7, true, .int .i64 ((txE (dcs a) : Nat) : Int)), (8, true, .pointer (some ⟨g4, 0, none⟩)), (9, true, .int .i64 ((txE (zd a) : Nat) : Int)), (10, true, .pointer (some ⟨g5, 0, none⟩)), (12, true, .bool true)] [(true, g1, 24, (Wl a)), (true, g2, 42, (tab .u8 32 f)), (true, g3, 24, (Wl (txV (dcs a)))), (true, g4, 24, (Wl (txV (zd a)))), (true, g5, 24, (Wl (txV (dz a))))] ac _ := hs.re ⟨rfl, rfl, rfl, rfl, rfl, rfl, rfl, rfl, rfl, trivial⟩
    obtain ⟨a7, ha7, la7⟩ : ∃ z0, pr (by8 a) 0 32 = z0 ∧ z0 < 2 ^ 256 := ⟨_, rfl, pr_lt32 (fun j _ => by8_lt a j)⟩
    obtain ⟨a8, ha8, la8⟩ : ∃ z0, pr f 0 32 = z0 ∧ z0 < 2 ^ 256 := ⟨_, rfl, pr_lt32 hf⟩
    refine region_inv [([], [1, 2, 3, 4, 5, 6, 7, 8, 9, 10, 11, 12, 13, 14, 15, 16, 17, 18, 19, 20, 21, 22, 23, 24, 25, 26, 27, 28, 29, 30, 31, 32, 33, 34, 35, 36, 37, 38, 39, 40, 41]), ([0], [2, 3, 4, 5, 6, 7, 8, 9, 10, 11, 12, 13, 14, 15, 16, 17, 18, 19, 20, 21, 22, 23, 24, 25, 26, 27, 28, 29, 30, 31, 32, 33, 34, 35, 36, 37, 38, 39, 40, 41]), ([0, 1], [4, 5, 6, 7, 8, 9, 10, 11, 12, 13, 14, 15, 16, 17, 18, 19, 20, 21, 22, 23, 24, 25, 26, 27, 28, 29, 30, 31, 32, 33, 34, 35, 36, 37, 38, 39, 40, 41]), ([0, 1], [4, 5, 6, 7, 8, 9, 10, 11, 12, 13, 14, 15, 16, 17, 18, 19, 20, 21, 22, 23, 24, 25, 26, 27, 28, 29, 30, 31, 32, 33, 34, 35, 36, 37, 38, 39, 40, 41]), ([0, 1, 2, 3], [5, 6, 7, 8, 9, 10, 11, 12, 13, 14, 15, 16, 17, 18, 19, 20, 21, 22, 23, 24, 25, 26, 27, 28, 29, 30, 31, 32, 33, 34, 35, 36, 37, 38, 39, 40, 41]), ([0, 1, 2, 3, 4], [6, 7, 8, 9, 10, 11, 12, 13, 14, 15, 16, 17, 18, 19, 20, 21, 22, 23, 24, 25, 26, 27, 28, 29, 30, 31, 32, 33, 34, 35, 36, 37, 38, 39, 40, 41]), ([0, 1, 2, 3, 4, 5], [7, 8, 9, 10, 11, 12, 13, 14, 15, 16, 17, 18, 19, 20, 21, 22, 23, 24, 25, 26, 27, 28, 29, 30, 31, 32, 33, 34, 35, 36, 37, 38, 39, 40, 41]), ([0, 1, 2, 3, 4, 5, 6], [8, 9, 10, 11, 12, 13, 14, 15, 16, 17, 18, 19, 20, 21, 22, 23, 24, 25, 26, 27, 28, 29, 30, 31, 32, 33, 34, 35, 36, 37, 38, 39, 40, 41]), ([0, 1, 2, 3, 4, 5, 6, 7], [9, 10, 11, 12, 13, 14, 15, 16, 17, 18, 19, 20, 21, 22, 23, 24, 25, 26, 27, 28, 29, 30, 31, 32, 33, 34, 35, 36, 37, 38, 39, 40, 41]), ([0, 1, 2, 3, 4, 5, 6, 7, 8], [10, 11, 12, 13, 14, 15, 16, 17, 18, 19, 20, 21, 22, 23, 24, 25, 26, 27, 28, 29, 30, 31, 32, 33, 34, 35, 36, 37, 38, 39, 40, 41]), ([0, 1, 2, 3, 4, 5, 6, 7, 8, 9], [11, 12, 13, 14, 15, 16, 17, 18, 19, 20, 21, 22, 23, 24, 25, 26, 27, 28, 29, 30, 31, 32, 33, 34, 35, 36, 37, 38, 39, 40, 41]), ([0, 1, 2, 3, 4, 5, 6, 7, 8, 9, 10], [12, 13, 14, 15, 16, 17, 18, 19, 20, 21, 22, 23, 24, 25, 26, 27, 28, 29, 30, 31, 32, 33, 34, 35, 36, 37, 38, 39, 40, 41]), ([0, 1, 2, 3, 4, 5, 6, 7, 8, 9, 10, 11], [13, 14, 15, 16, 17, 18, 19, 20, 21, 22, 23, 24, 25, 26, 27, 28, 29, 30, 31, 32, 33, 34, 35, 36, 37, 38, 39, 40, 41]), ([0, 1, 2, 3, 4, 5, 6, 7, 8, 9, 10, 11, 12], [14, 15, 16, 17, 18, 19, 20, 21, 22, 23, 24, 25, 26, 27, 28, 29, 30, 31, 32, 33, 34, 35, 36, 37, 38, 39, 40, 41]), ([0, 1, 2, 3, 4, 5, 6, 7, 8, 9, 10, 11, 12, 13], [15, 16, 17, 18, 19, 20, 21, 22, 23, 24, 25, 26, 27, 28, 29, 30, 31, 32, 33, 34, 35, 36, 37, 38, 39, 40, 41]), ([0, 1, 2, 3, 4, 5, 6, 7, 8, 9, 10, 11, 12, 13, 14], [17, 18, 19, 20, 21, 22, 23, 24, 25, 26, 27, 28, 29, 30, 31, 32, 33, 34, 35, 36, 37, 38, 39, 40, 41]), ([0, 1, 2, 3, 4, 5, 6, 7, 8, 9, 10, 11, 12, 13, 14], [17, 18, 19, 20, 21, 22, 23, 24, 25, 26, 27, 28, 29, 30, 31, 32, 33, 34, 35, 36, 37, 38, 39, 40, 41]), ([0, 1, 2, 3, 4, 5, 6, 7, 8, 9, 10, 11, 12, 13, 14, 15, 16], [18, 19, 20, 21, 22, 23, 24, 25, 26, 27, 28, 29, 30, 31, 32, 33, 34, 35, 36, 37, 38, 39, 40, 41]), ([0, 1, 2, 3, 4, 5, 6, 7, 8, 9, 10, 11, 12, 13, 14, 15, 16, 17], [19, 20, 21, 22, 23, 24, 25, 26, 27, 28, 29, 30, 31, 32, 33, 34, 35, 36, 37, 38, 39, 40, 41]), ([0, 1, 2, 3, 4, 5, 6, 7, 8, 9, 10, 11, 12, 13, 14, 15, 16, 17, 18], [20, 21, 22, 23, 24, 25, 26, 27, 28, 29, 30, 31, 32, 33, 34, 35, 36, 37, 38, 39, 40, 41]), ([0, 1, 2, 3, 4, 5, 6, 7, 8, 9, 10, 11, 12, 13, 14, 15, 16, 17, 18, 19], [21, 22, 23, 24, 25, 26, 27, 28, 29, 30, 31, 32, 33, 34, 35, 36, 37, 38, 39, 40, 41]), ([0, 1, 2, 3, 4, 5, 6, 7, 8, 9, 10, 11, 12, 13, 14, 15, 16, 17, 18, 19, 20], [22, 23, 24, 25, 26, 27, 28, 29, 30, 31, 32, 33, 34, 35, 36, 37, 38, 39, 40, 41]), ([0, 1, 2, 3, 4, 5, 6, 7, 8, 9, 10, 11, 12, 13, 14, 15, 16, 17, 18, 19, 20, 21], [23, 24, 25, 26, 27, 28, 29, 30, 31, 32, 33, 34, 35, 36, 37, 38, 39, 40, 41]), ([0, 1, 2, 3, 4, 5, 6, 7, 8, 9, 10, 11, 12, 13, 14, 15, 16, 17, 18, 19, 20, 21, 22], [25, 26, 27, 28, 29, 30, 31, 32, 33, 34, 35, 36, 37, 38, 39, 40, 41]), ([0, 1, 2, 3, 4, 5, 6, 7, 8, 9, 10, 11, 12, 13, 14, 15, 16, 17, 18, 19, 20, 21, 22], [25, 26, 27, 28, 29, 30, 31, 32, 33, 34, 35, 36, 37, 38, 39, 40, 41]), ([0, 1, 2, 3, 4, 5, 6, 7, 8, 9, 10, 11, 12, 13, 14, 15, 16, 17, 18, 19, 20, 21, 22, 23, 24], [26, 27, 28, 29, 30, 31, 32, 33, 34, 35, 36, 37, 38, 39, 40, 41]), ([0, 1, 2, 3, 4, 5, 6, 7, 8, 9, 10, 11, 12, 13, 14, 15, 16, 17, 18, 19, 20, 21, 22, 23, 24, 25], [27, 28, 29, 30, 31, 32, 33, 34, 35, 36, 37, 38, 39, 40, 41]), ([0, 1, 2, 3, 4, 5, 6, 7, 8, 9, 10, 11, 12, 13, 14, 15, 16, 17, 18, 19, 20, 21, 22, 23, 24, 25, 26], [28, 29, 30, 31, 32, 33, 34, 35, 36, 37, 38, 39, 40, 41]), ([0, 1, 2, 3, 4, 5, 6, 7, 8, 9, 10, 11, 12, 13, 14, 15, 16, 17, 18, 19, 20, 21, 22, 23, 24, 25, 26, 27], [29, 30, 32, 33, 34, 35, 36, 37, 38, 39, 40, 41]), ([0, 1, 2, 3, 4, 5, 6, 7, 8, 9, 10, 11, 12, 13, 14, 15, 16, 17, 18, 19, 20, 21, 22, 23, 24, 25, 26, 27, 28], [30, 32, 33, 34, 35, 36, 37, 38, 39, 40, 41]), ([0, 1, 2, 3, 4, 5, 6, 7, 8, 9, 10, 11, 12, 13, 14, 15, 16, 17, 18, 19, 20, 21, 22, 23, 24, 25, 26, 27, 28, 29], [32, 33, 34, 35, 36, 37, 38, 39, 40, 41]), ([0, 1, 2, 3, 4, 5, 6, 7, 8, 9, 10, 11, 12, 13, 14, 15, 16, 17, 18, 19, 20, 21, 22, 23, 24, 25, 26, 27], [32, 33, 34, 35, 36, 37, 38, 39, 40, 41]), ([0, 1, 2, 3, 4, 5, 6, 7, 8, 9, 10, 11, 12, 13, 14, 15, 16, 17, 18, 19, 20, 21, 22, 23, 24, 25, 26, 27, 28, 29, 30, 31], [33, 34, 35, 36, 37, 38, 39, 40, 41]), ([0, 1, 2, 3, 4, 5, 6, 7, 8, 9, 10, 11, 12, 13, 14, 15, 16, 17, 18, 19, 20, 21, 22, 23, 24, 25, 26, 27, 28, 29, 30, 31, 32], [34, 35, 36, 37, 38, 39, 40, 41]), ([0, 1, 2, 3, 4, 5, 6, 7, 8, 9, 10, 11, 12, 13, 14, 15, 16, 17, 18, 19, 20, 21, 22, 23, 24, 25, 26, 27, 28, 29, 30, 31, 32, 33], [35, 36, 37, 38, 39, 40, 41]), ([0, 1, 2, 3, 4, 5, 6, 7, 8, 9, 10, 11, 12, 13, 14, 15, 16, 17, 18, 19, 20, 21, 22, 23, 24, 25, 26, 27, 28, 29, 30, 31, 32, 33, 34], [36, 37, 39, 40, 41]), ([0, 1, 2, 3, 4, 5, 6, 7, 8, 9, 10, 11, 12, 13, 14, 15, 16, 17, 18, 19, 20, 21, 22, 23, 24, 25, 26, 27, 28, 29, 30, 31, 32, 33, 34, 35], [37, 39, 40, 41]), ([0, 1, 2, 3, 4, 5, 6, 7, 8, 9, 10, 11, 12, 13, 14, 15, 16, 17, 18, 19, 20, 21, 22, 23, 24, 25, 26, 27, 28, 29, 30, 31, 32, 33, 34, 35, 36], [39, 40, 41]), ([0, 1, 2, 3, 4, 5, 6, 7, 8, 9, 10, 11, 12, 13, 14, 15, 16, 17, 18, 19, 20, 21, 22, 23, 24, 25, 26, 27, 28, 29, 30, 31, 32, 33, 34], [39, 40, 41]), ([0, 1, 2, 3, 4, 5, 6, 7, 8, 9, 10, 11, 12, 13, 14, 15, 16, 17, 18, 19, 20, 21, 22, 23, 24, 25, 26, 27, 28, 29, 30, 31, 32, 33, 34, 35, 36, 37, 38], [40, 41]), ([0, 1, 2, 3, 4, 5, 6, 7, 8, 9, 10, 11, 12, 13, 14, 15, 16, 17, 18, 19, 20, 21, 22, 23, 24, 25, 26, 27, 28, 29, 30, 31, 32, 33, 34, 35, 36, 37, 38, 39], [41]), ([0, 1, 2, 3, 4, 5, 6, 7, 8, 9, 10, 11, 12, 13, 14, 15, 16, 17, 18, 19, 20, 21, 22, 23, 24, 25, 26, 27, 28, 29, 30, 31, 32, 33, 34, 35, 36, 37, 38, 39, 40], [])] (fun L ac w => St 83 w0 [(42, L 0, .bool true), (43, L 1, .bool true), (44, L 2, W (txV (dcs a))), (45, L 3, W a), (46, L 4, .bool true), (47, L 5, .bool true), (48, L 6, .bool true), (49, L 7, .int .i64 ((txE (dcs a) : Nat) : Int)), (50, L 8, .bool true), (51, L 9, .bool true), (52, L 10, .bool true), (53, L 11, .int .i64 ((txE (zd a) : Nat) : Int)), (54, L 12, .bool true), (55, L 13, .bool true), (56, L 14, .bool true), (57, L 15, W (txV (zd a))), (58, L 16, .agg #[.int .u64 0, .int .u64 0, .int .u64 0, .int .u64 0]), (59, L 17, .bool true), (60, L 18, .bool true), (61, L 19, .bool true), (62, L 20, .bool true), (63, L 21, .bool true), (64, L 22, .bool true), (65, L 23, W (txV (dz a))), (66, L 24, .agg #[.int .u64 0, .int .u64 0, .int .u64 0, .int .u64 0]), (67, L 25, .bool true), (68, L 26, .bool true), (69, L 27, .bool true), (70, L 28, W a), (71, L 29, At .u8 32 (by8 a)), (72, L 30, W a7), (73, L 31, W a), (74, L 32, .bool true), (75, L 33, .bool true), (76, L 34, .bool true), (77, L 35, At .u8 32 f), (78, L 36, W a8), (79, L 37, At .u8 32 (by8 a8)), (80, L 38, At .u8 32 f), (81, L 39, .bool true), (82, L 40, .bool true), (4, L 41, .bool true), (2, true, .pointer (some ⟨g1, 0, none⟩)), (3, true, .pointer (some ⟨g2, 0, none⟩)), (4, true, .bool false), (6, true, .pointer (some ⟨g3, 0, none⟩)), (7, true, .int .i64 ((txE (dcs a) : Nat) : Int)), (8, true, .pointer (some ⟨g4, 0, none⟩)), (9, true, .int .i64 ((txE (zd a) : Nat) : Int)), (10, true, .pointer (some ⟨g5, 0, none⟩)), (12, true, .bool true)] [(true, g1, 24, (Wl a)), (true, g2, 42, (tab .u8 32 f)), (true, g3, 24, (Wl (txV (dcs a)))), (true, g4, 24, (Wl (txV (zd a)))), (true, g5, 24, (Wl (txV (dz a))))] ac w) (by kernel_rfl) (by kernel_rfl) ?_ ?_ ?_
    · exact hs.drew.skip.skip.skip.skip.skip.skip.skip.skip.skip.skip.skip.skip.skip.skip.skip.skip.skip.skip.skip.skip.skip.skip.skip.skip.skip.skip.skip.skip.skip.skip.skip.skip.skip.skip.skip.skip.skip.skip.skip.skip.skip.skip
    · refine ⟨?_, ?_, ?_, ?_, ?_, ?_, ?_, ?_, ?_, ?_, ?_, ?_, ?_, ?_, ?_, ?_, ?_, ?_, ?_, ?_, ?_, ?_, ?_, ?_, ?_, ?_, ?_, ?_, ?_, ?_, ?_, ?_, ?_, ?_, ?_, ?_, ?_, ?_, ?_, ?_, ?_, ?_, trivial⟩
      · intro L ac w hJ
        have hs := hJ
        refine wpO_plain rfl (op_call (F := 15) hs (some 0) (v := .bool true) rfl rfl rfl rfl (Try.call15 _) alive_c rfl fun ac w hs => ?_)
        exact hs
      · intro L ac w hJ
        have hs := hJ
        refine wpO_plain rfl (op_move hs (some 1) rfl rfl rfl rfl fun ac hs => ?_)
        exact hs
      · intro L ac w hJ
        have hs := hJ
        refine wpO_in hs rfl rfl rfl (op_load hs (some 2) 2 (v := W (txV (dcs a))) rfl rfl rfl rfl Try.isAgg24 Try.sizeOf24 rfl rfl fun ac hs => ?_)
        exact hs
      · intro L ac w hJ
        have hs := hJ
        refine wpO_in hs rfl rfl rfl (op_load hs (some 3) 0 (v := W a) rfl rfl rfl rfl Try.isAgg24 Try.sizeOf24 rfl rfl fun ac hs => ?_)
        exact hs
      · intro L ac w hJ
        have hs := hJ
        refine wpO_in hs rfl rfl rfl (op_bin hs (some 4) (v := .bool true) rfl rfl rfl rfl (fun w => run_eqGuard_agg w .eql 24 _ _ _ _ Try.eqGuardType24) (eqlW (txV (dcs a)) a (txV_lt (dcs a)) ha true (decide_eq_true (tx_dcsV ha))) rfl fun ac hs => ?_)
        exact hs
      · intro L ac w hJ
        have hs := hJ
        refine wpO_plain rfl (op_pickT hs (some 5) rfl rfl rfl rfl rfl fun ac hs => ?_)
        exact hs
      · intro L ac w hJ
        have hs := hJ
        refine wpO_plain rfl (op_move hs (some 6) rfl rfl rfl rfl fun ac hs => ?_)
        exact hs
      · intro L ac w hJ
        have hs := hJ
        refine wpO_in hs rfl rfl rfl (op_move hs (some 7) rfl rfl rfl rfl fun ac hs => ?_)
        exact hs
      · intro L ac w hJ
        have hs := hJ
        refine wpO_in hs rfl rfl rfl (op_bin hs (some 8) (v := .bool true) rfl rfl rfl rfl (fun _ => rfl) (fun w => dT (tx_dcs ha) (bin_eqlN (x := txE (dcs a)) (y := 0) w)) rfl fun ac hs => ?_)
        exact hs
      · intro L ac w hJ
        have hs := hJ
        refine wpO_plain rfl (op_pickT hs (some 9) rfl rfl rfl rfl rfl fun ac hs => ?_)
        exact hs
      · intro L ac w hJ
        have hs := hJ
        refine wpO_plain rfl (op_move hs (some 10) rfl rfl rfl rfl fun ac hs => ?_)
        exact hs
      · intro L ac w hJ
        have hs := hJ
        refine wpO_in hs rfl rfl rfl (op_move hs (some 11) rfl rfl rfl rfl fun ac hs => ?_)
        exact hs
      · intro L ac w hJ
        have hs := hJ
        refine wpO_in hs rfl rfl rfl (op_bin hs (some 12) (v := .bool true) rfl rfl rfl rfl (fun _ => rfl) (fun w => dT (tx_zd a) (bin_eqlN (x := txE (zd a)) (y := 3) w)) rfl fun ac hs => ?_)
        exact hs
      · intro L ac w hJ
        have hs := hJ
        refine wpO_plain rfl (op_pickT hs (some 13) rfl rfl rfl rfl rfl fun ac hs => ?_)
        exact hs
      · intro L ac w hJ
        have hs := hJ
        refine wpO_plain rfl (op_move hs (some 14) rfl rfl rfl rfl fun ac hs => ?_)
        exact hs
      · intro L ac w hJ
        have hs := hJ
        refine wpO_in hs rfl rfl rfl (op_load hs (some 15) 3 (v := W (txV (zd a))) rfl rfl rfl rfl Try.isAgg24 Try.sizeOf24 rfl rfl fun ac hs => ?_)
        exact hs
      · intro L ac w hJ
        have hs := hJ
        refine wpO_in hs rfl rfl rfl (op_build hs (some 16) (qs := []) (v := .agg #[.int .u64 0, .int .u64 0, .int .u64 0, .int .u64 0]) rfl rfl rfl rfl (fun _ => by kernel_rfl) rfl fun ac hs => ?_)
        exact hs
      · intro L ac w hJ
        have hs := hJ
        refine wpO_in hs rfl rfl rfl (op_bin hs (some 17) (v := .bool true) rfl rfl rfl rfl (fun w => run_eqGuard_agg w .eql 24 _ _ _ _ Try.eqGuardType24) (eqlW (txV (zd a)) 0 (txV_lt (zd a)) (by decide) true (decide_eq_true (tx_zdV a))) rfl fun ac hs => ?_)
        exact hs
      · intro L ac w hJ
        have hs := hJ
        refine wpO_plain rfl (op_pickT hs (some 18) rfl rfl rfl rfl rfl fun ac hs => ?_)
        exact hs
      · intro L ac w hJ
        have hs := hJ
        refine wpO_plain rfl (op_move hs (some 19) rfl rfl rfl rfl fun ac hs => ?_)
        exact hs
      · intro L ac w hJ
        have hs := hJ
        refine wpO_in hs rfl rfl rfl (op_move hs (some 20) rfl rfl rfl rfl fun ac hs => ?_)
        exact hs
      · intro L ac w hJ
        have hs := hJ
        refine wpO_plain rfl (op_pickT hs (some 21) rfl rfl rfl rfl rfl fun ac hs => ?_)
        exact hs
      · intro L ac w hJ
        have hs := hJ
        refine wpO_plain rfl (op_move hs (some 22) rfl rfl rfl rfl fun ac hs => ?_)
        exact hs
      · intro L ac w hJ
        have hs := hJ
        refine wpO_in hs rfl rfl rfl (op_load hs (some 23) 4 (v := W (txV (dz a))) rfl rfl rfl rfl Try.isAgg24 Try.sizeOf24 rfl rfl fun ac hs => ?_)
        exact hs
      · intro L ac w hJ
        have hs := hJ
        refine wpO_in hs rfl rfl rfl (op_build hs (some 24) (qs := []) (v := .agg #[.int .u64 0, .int .u64 0, .int .u64 0, .int .u64 0]) rfl rfl rfl rfl (fun _ => by kernel_rfl) rfl fun ac hs => ?_)
        exact hs
      · intro L ac w hJ
        have hs := hJ
        refine wpO_in hs rfl rfl rfl (op_bin hs (some 25) (v := .bool true) rfl rfl rfl rfl (fun w => run_eqGuard_agg w .eql 24 _ _ _ _ Try.eqGuardType24) (eqlW (txV (dz a)) 0 (txV_lt (dz a)) (by decide) true (decide_eq_true (tx_dzV a))) rfl fun ac hs => ?_)
        exact hs
      · intro L ac w hJ
        have hs := hJ
        refine wpO_plain rfl (op_pickT hs (some 26) rfl rfl rfl rfl rfl fun ac hs => ?_)
        exact hs
      · intro L ac w hJ
        have hs := hJ
        refine wpO_plain rfl (op_move hs (some 27) rfl rfl rfl rfl fun ac hs => ?_)
        exact hs
      · intro L ac w hJ
        have hs := hJ
        refine wpO_in hs rfl rfl rfl (op_load hs (some 28) 0 (v := W a) rfl rfl rfl rfl Try.isAgg24 Try.sizeOf24 rfl rfl fun ac hs => ?_)
        exact hs
      · intro L ac w hJ
        have hs := hJ
        refine wpO_in hs rfl rfl rfl (op_call (F := 33) hs (some 29) (v := At .u8 32 (by8 a)) rfl rfl rfl rfl (Try.call33 _) (bytes_c a ha) rfl fun ac w hs => ?_)
        exact hs
      · intro L ac w hJ
        have hs := hJ
        refine wpO_in hs rfl rfl rfl (op_call (F := 35) hs (some 30) (v := W a7) rfl rfl rfl rfl (Try.call35 _) (wread_c (by8 a) a7 (fun j _ => by8_lt a j) ha7) rfl fun ac w hs => ?_)
        exact hs
      · intro L ac w hJ
        have hs := hJ
        refine wpO_in hs rfl rfl rfl (op_load hs (some 31) 0 (v := W a) rfl rfl rfl rfl Try.isAgg24 Try.sizeOf24 rfl rfl fun ac hs => ?_)
        exact hs
      · intro L ac w hJ
        have hs := hJ
        refine wpO_in hs rfl rfl rfl (op_bin hs (some 32) (v := .bool true) rfl rfl rfl rfl (fun w => run_eqGuard_agg w .eql 24 _ _ _ _ Try.eqGuardType24) (eqlW a7 a la7 ha true (decide_eq_true (ha7.symm.trans (pr_by8_all ha)))) rfl fun ac hs => ?_)
        exact hs
      · intro L ac w hJ
        have hs := hJ
        refine wpO_plain rfl (op_pickT hs (some 33) rfl rfl rfl rfl rfl fun ac hs => ?_)
        exact hs
      · intro L ac w hJ
        have hs := hJ
        refine wpO_plain rfl (op_move hs (some 34) rfl rfl rfl rfl fun ac hs => ?_)
        exact hs
      · intro L ac w hJ
        have hs := hJ
        refine wpO_in hs rfl rfl rfl (op_load hs (some 35) 1 (v := At .u8 32 f) rfl rfl rfl rfl Try.isAgg42 Try.sizeOf42 ldv_tab rfl fun ac hs => ?_)
        exact hs
      · intro L ac w hJ
        have hs := hJ
        refine wpO_in hs rfl rfl rfl (op_call (F := 35) hs (some 36) (v := W a8) rfl rfl rfl rfl (Try.call35 _) (wread_c f a8 hf ha8) rfl fun ac w hs => ?_)
        exact hs
      · intro L ac w hJ
        have hs := hJ
        refine wpO_in hs rfl rfl rfl (op_call (F := 33) hs (some 37) (v := At .u8 32 (by8 a8)) rfl rfl rfl rfl (Try.call33 _) (bytes_c a8 la8) rfl fun ac w hs => ?_)
        exact hs
      · intro L ac w hJ
        have hs := hJ
        refine wpO_in hs rfl rfl rfl (op_load hs (some 38) 1 (v := At .u8 32 f) rfl rfl rfl rfl Try.isAgg42 Try.sizeOf42 ldv_tab rfl fun ac hs => ?_)
        exact hs
      · intro L ac w hJ
        have hs := hJ
        refine wpO_in hs rfl rfl rfl (op_bin hs (some 39) (v := .bool true) rfl rfl rfl rfl (fun w => run_eqGuard_agg w .eql 42 _ _ _ _ Try.eqGuardType42) (eqlAt Try.underlying42 Try.underlying5 inf_u8_5 (by kernel_rfl) Try.isAgg5 (fun j hj => by rw [← ha8]; exact by8_pr hf j hj)) rfl fun ac hs => ?_)
        exact hs
      · intro L ac w hJ
        have hs := hJ
        refine wpO_plain rfl (op_pickT hs (some 40) rfl rfl rfl rfl rfl fun ac hs => ?_)
        exact hs
      · intro L ac w hJ
        have hs := hJ
        refine wpO_plain rfl (op_assign hs (some 41) rfl rfl rfl rfl fun ac hs => ?_)
        exact hs
    intro ac w hJ
    replace hs : St 83 w0 [(42, true, .bool true), (43, true, .bool true), (44, true, W (txV (dcs a))), (45, true, W a), (46, true, .bool true), (47, true, .bool true), (48, true, .bool true), (49, true, .int .i64 ((txE (dcs a) : Nat) : Int)), (50, true, .bool true), (51, true, .bool true), (52, true, .bool true), (53, true, .int .i64 ((txE (zd a) : Nat) : Int)), (54, true, .bool true), (55, true, .bool true), (56, true, .bool true), (57, true, W (txV (zd a))), (58, true, .agg #[.int .u64 0, .int .u64 0, .int .u64 0, .int .u64 0]), (59, true, .bool true), (60, true, .bool true), (61, true, .bool true), (62, true, .bool true), (63, true, .bool true), (64, true, .bool true), (65, true, W (txV (dz a))), (66, true, .agg #[.int .u64 0, .int .u64 0, .int .u64 0, .int .u64 0]), (67, true, .bool true), (68, true, .bool true), (69, true, .bool true), (70, true, W a), (71, true, At .u8 32 (by8 a)), (72, true, W a7), (73, true, W a), (74, true, .bool true), (75, true, .bool true), (76, true, .bool true), (77, true, At .u8 32 f), (78, true, W a8), (79, true, At .u8 32 (by8 a8)), (80, true, At .u8 32 f), (81, true, .bool true), (82, true, .bool true), (4, true, .bool true), (2, true, .pointer (some ⟨g1, 0, none⟩)), (3, true, .pointer (some ⟨g2, 0, none⟩)), (4, true, .bool false), (6, true, .pointer (some ⟨g3, 0, none⟩)), (7, true, .int .i64 ((txE (dcs a) : Nat) : Int)), (8, true, .pointer (some ⟨g4, 0, none⟩)), (9, true, .int .i64 ((txE (zd a) : Nat) : Int)), (10, true, .pointer (some ⟨g5, 0, none⟩)), (12, true, .bool true)] [(true, g1, 24, (Wl a)), (true, g2, 42, (tab .u8 32 f)), (true, g3, 24, (Wl (txV (dcs a)))), (true, g4, 24, (Wl (txV (zd a)))), (true, g5, 24, (Wl (txV (dz a))))] ac w := hJ
    refine then_n ?_
    refine wp_ret ?_
    exact bodyPost_ret (res1 rfl (rv_t hs rfl)) hs.defers ⟨rfl, hs.below⟩
  · skip
    replace hs : St 83 w0 [(2, true, .pointer (some ⟨g1, 0, none⟩)), (3, true, .pointer (some ⟨g2, 0, none⟩)), (4, true, .bool false), (5, true, .string (dcs a)), (6, true, .pointer (some ⟨g3, 0, none⟩)), (7, true, .int .i64 ((txE (dcs a) : Nat) : Int)), (8, true, .pointer (some ⟨g4, 0, none⟩)), (9, true, .int .i64 ((txE (zd a) : Nat) : Int)), (10, true, .pointer (some ⟨g5, 0, none⟩)), (11, true, .int .i64 ((txE (dz a) : Nat) : Int))] [(true, g1, 24, (Wl a)), (true, g2, 42, (tab .u8 32 f)), (true, g3, 24, (Wl (txV (dcs a)))), (true, g4, 24, (Wl (txV (zd a)))), (true, g5, 24, (Wl (txV (dz a))))] ac _ := hs.re ⟨rfl, rfl, rfl, rfl, rfl, rfl, rfl, rfl, rfl, rfl, trivial⟩
    refine wp_region_lit ?_
    refine lstep (wpO_plain rfl (op_move hs none rfl rfl rfl rfl fun ac hs => ?_))
    refine lstep (wpO_plain rfl (op_bin hs none (v := .bool true) rfl rfl rfl rfl (fun _ => rfl) (fun w => dT (tx_dz hq6) (bin_eqlN (x := txE (dz a)) (y := 4) w)) rfl fun ac hs => ?_))
    refine lstep (wpO_plain rfl (op_move hs none rfl rfl rfl rfl fun ac hs => ?_))
    refine lstep (wpO_out hs none rfl rfl (.inl rfl) rfl rfl fun ac hs => ?_)
    refine lstep (wpO_out hs none rfl rfl (.inl rfl) rfl rfl fun ac hs => ?_)
    refine lstep (wpO_out hs none rfl rfl (.inl rfl) rfl rfl fun ac hs => ?_)
    refine lstep (wpO_out hs none rfl rfl (.inr rfl) rfl rfl fun ac hs => ?_)
    refine lstep (wpO_out hs none rfl rfl (.inr rfl) rfl rfl fun ac hs => ?_)
    refine lstep (wpO_out hs none rfl rfl (.inl rfl) rfl rfl fun ac hs => ?_)
    refine lstep (wpO_plain rfl (op_pickT hs none rfl rfl rfl rfl rfl fun ac hs => ?_))
    refine lstep (wpO_plain rfl (op_assign hs none rfl rfl rfl rfl fun ac hs => ?_))
    refine wpList_nil ?_
    refine then_n ?_
    refine wp_seq ?_
    replace hs : St 83 w0 [(2, true, .pointer (some ⟨g1, 0, none⟩)), (3, true, .pointer (some ⟨g2, 0, none⟩)), (4, true, .bool false), (6, true, .pointer (some ⟨g3, 0, none⟩)), (7, true, .int .i64 ((txE (dcs a) : Nat) : Int)), (8, true, .pointer (some ⟨g4, 0, none⟩)), (9, true, .int .i64 ((txE (zd a) : Nat) : Int)), (10, true, .pointer (some ⟨g5, 0, none⟩)), (12, true, .bool true)] [(true, g1, 24, (Wl a)), (true, g2, 42, (tab .u8 32 f)), (true, g3, 24, (Wl (txV (dcs a)))), (true, g4, 24, (Wl (txV (zd a)))), (true, g5, 24, (Wl (txV (dz a))))] ac _ := hs.re ⟨rfl, rfl, rfl, rfl, rfl, rfl, rfl, rfl, rfl, trivial⟩
    obtain ⟨a9, ha9, la9⟩ : ∃ z0, pr (by8 a) 0 32 = z0 ∧ z0 < 2 ^ 256 := ⟨_, rfl, pr_lt32 (fun j _ => by8_lt a j)⟩
    obtain ⟨a10, ha10, la10⟩ : ∃ z0, pr f 0 32 = z0 ∧ z0 < 2 ^ 256 := ⟨_, rfl, pr_lt32 hf⟩
    refine region_inv [([], [1, 2, 3, 4, 5, 6, 7, 8, 9, 10, 11, 12, 13, 14, 15, 16, 17, 18, 19, 20, 21, 22, 23, 24, 25, 26, 27, 28, 29, 30, 31, 32, 33, 34, 35, 36, 37, 38, 39, 40, 41]), ([0], [2, 3, 4, 5, 6, 7, 8, 9, 10, 11, 12, 13, 14, 15, 16, 17, 18, 19, 20, 21, 22, 23, 24, 25, 26, 27, 28, 29, 30, 31, 32, 33, 34, 35, 36, 37, 38, 39, 40, 41]), ([0, 1], [4, 5, 6, 7, 8, 9, 10, 11, 12, 13, 14, 15, 16, 17, 18, 19, 20, 21, 22, 23, 24, 25, 26, 27, 28, 29, 30, 31, 32, 33, 34, 35, 36, 37, 38, 39, 40, 41]), ([0, 1], [4, 5, 6, 7, 8, 9, 10, 11, 12, 13, 14, 15, 16, 17, 18, 19, 20, 21, 22, 23, 24, 25, 26, 27, 28, 29, 30, 31, 32, 33, 34, 35, 36, 37, 38, 39, 40, 41]), ([0, 1, 2, 3], [5, 6, 7, 8, 9, 10, 11, 12, 13, 14, 15, 16, 17, 18, 19, 20, 21, 22, 23, 24, 25, 26, 27, 28, 29, 30, 31, 32, 33, 34, 35, 36, 37, 38, 39, 40, 41]), ([0, 1, 2, 3, 4], [6, 7, 8, 9, 10, 11, 12, 13, 14, 15, 16, 17, 18, 19, 20, 21, 22, 23, 24, 25, 26, 27, 28, 29, 30, 31, 32, 33, 34, 35, 36, 37, 38, 39, 40, 41]), ([0, 1, 2, 3, 4, 5], [7, 8, 9, 10, 11, 12, 13, 14, 15, 16, 17, 18, 19, 20, 21, 22, 23, 24, 25, 26, 27, 28, 29, 30, 31, 32, 33, 34, 35, 36, 37, 38, 39, 40, 41]), ([0, 1, 2, 3, 4, 5, 6], [8, 9, 10, 11, 12, 13, 14, 15, 16, 17, 18, 19, 20, 21, 22, 23, 24, 25, 26, 27, 28, 29, 30, 31, 32, 33, 34, 35, 36, 37, 38, 39, 40, 41]), ([0, 1, 2, 3, 4, 5, 6, 7], [9, 10, 11, 12, 13, 14, 15, 16, 17, 18, 19, 20, 21, 22, 23, 24, 25, 26, 27, 28, 29, 30, 31, 32, 33, 34, 35, 36, 37, 38, 39, 40, 41]), ([0, 1, 2, 3, 4, 5, 6, 7, 8], [10, 11, 12, 13, 14, 15, 16, 17, 18, 19, 20, 21, 22, 23, 24, 25, 26, 27, 28, 29, 30, 31, 32, 33, 34, 35, 36, 37, 38, 39, 40, 41]), ([0, 1, 2, 3, 4, 5, 6, 7, 8, 9], [11, 12, 13, 14, 15, 16, 17, 18, 19, 20, 21, 22, 23, 24, 25, 26, 27, 28, 29, 30, 31, 32, 33, 34, 35, 36, 37, 38, 39, 40, 41]), ([0, 1, 2, 3, 4, 5, 6, 7, 8, 9, 10], [12, 13, 14, 15, 16, 17, 18, 19, 20, 21, 22, 23, 24, 25, 26, 27, 28, 29, 30, 31, 32, 33, 34, 35, 36, 37, 38, 39, 40, 41]), ([0, 1, 2, 3, 4, 5, 6, 7, 8, 9, 10, 11], [13, 14, 15, 16, 17, 18, 19, 20, 21, 22, 23, 24, 25, 26, 27, 28, 29, 30, 31, 32, 33, 34, 35, 36, 37, 38, 39, 40, 41]), ([0, 1, 2, 3, 4, 5, 6, 7, 8, 9, 10, 11, 12], [14, 15, 16, 17, 18, 19, 20, 21, 22, 23, 24, 25, 26, 27, 28, 29, 30, 31, 32, 33, 34, 35, 36, 37, 38, 39, 40, 41]), ([0, 1, 2, 3, 4, 5, 6, 7, 8, 9, 10, 11, 12, 13], [15, 16, 17, 18, 19, 20, 21, 22, 23, 24, 25, 26, 27, 28, 29, 30, 31, 32, 33, 34, 35, 36, 37, 38, 39, 40, 41]), ([0, 1, 2, 3, 4, 5, 6, 7, 8, 9, 10, 11, 12, 13, 14], [17, 18, 19, 20, 21, 22, 23, 24, 25, 26, 27, 28, 29, 30, 31, 32, 33, 34, 35, 36, 37, 38, 39, 40, 41]), ([0, 1, 2, 3, 4, 5, 6, 7, 8, 9, 10, 11, 12, 13, 14], [17, 18, 19, 20, 21, 22, 23, 24, 25, 26, 27, 28, 29, 30, 31, 32, 33, 34, 35, 36, 37, 38, 39, 40, 41]), ([0, 1, 2, 3, 4, 5, 6, 7, 8, 9, 10, 11, 12, 13, 14, 15, 16], [18, 19, 20, 21, 22, 23, 24, 25, 26, 27, 28, 29, 30, 31, 32, 33, 34, 35, 36, 37, 38, 39, 40, 41]), ([0, 1, 2, 3, 4, 5, 6, 7, 8, 9, 10, 11, 12, 13, 14, 15, 16, 17], [19, 20, 21, 22, 23, 24, 25, 26, 27, 28, 29, 30, 31, 32, 33, 34, 35, 36, 37, 38, 39, 40, 41]), ([0, 1, 2, 3, 4, 5, 6, 7, 8, 9, 10, 11, 12, 13, 14, 15, 16, 17, 18], [20, 21, 22, 23, 24, 25, 26, 27, 28, 29, 30, 31, 32, 33, 34, 35, 36, 37, 38, 39, 40, 41]), ([0, 1, 2, 3, 4, 5, 6, 7, 8, 9, 10, 11, 12, 13, 14, 15, 16, 17, 18, 19], [21, 22, 23, 24, 25, 26, 27, 28, 29, 30, 31, 32, 33, 34, 35, 36, 37, 38, 39, 40, 41]), ([0, 1, 2, 3, 4, 5, 6, 7, 8, 9, 10, 11, 12, 13, 14, 15, 16, 17, 18, 19, 20], [22, 23, 24, 25, 26, 27, 28, 29, 30, 31, 32, 33, 34, 35, 36, 37, 38, 39, 40, 41]), ([0, 1, 2, 3, 4, 5, 6, 7, 8, 9, 10, 11, 12, 13, 14, 15, 16, 17, 18, 19, 20, 21], [23, 24, 25, 26, 27, 28, 29, 30, 31, 32, 33, 34, 35, 36, 37, 38, 39, 40, 41]), ([0, 1, 2, 3, 4, 5, 6, 7, 8, 9, 10, 11, 12, 13, 14, 15, 16, 17, 18, 19, 20, 21, 22], [25, 26, 27, 28, 29, 30, 31, 32, 33, 34, 35, 36, 37, 38, 39, 40, 41]), ([0, 1, 2, 3, 4, 5, 6, 7, 8, 9, 10, 11, 12, 13, 14, 15, 16, 17, 18, 19, 20, 21, 22], [25, 26, 27, 28, 29, 30, 31, 32, 33, 34, 35, 36, 37, 38, 39, 40, 41]), ([0, 1, 2, 3, 4, 5, 6, 7, 8, 9, 10, 11, 12, 13, 14, 15, 16, 17, 18, 19, 20, 21, 22, 23, 24], [26, 27, 28, 29, 30, 31, 32, 33, 34, 35, 36, 37, 38, 39, 40, 41]), ([0, 1, 2, 3, 4, 5, 6, 7, 8, 9, 10, 11, 12, 13, 14, 15, 16, 17, 18, 19, 20, 21, 22, 23, 24, 25], [27, 28, 29, 30, 31, 32, 33, 34, 35, 36, 37, 38, 39, 40, 41]), ([0, 1, 2, 3, 4, 5, 6, 7, 8, 9, 10, 11, 12, 13, 14, 15, 16, 17, 18, 19, 20, 21, 22, 23, 24, 25, 26], [28, 29, 30, 31, 32, 33, 34, 35, 36, 37, 38, 39, 40, 41]), ([0, 1, 2, 3, 4, 5, 6, 7, 8, 9, 10, 11, 12, 13, 14, 15, 16, 17, 18, 19, 20, 21, 22, 23, 24, 25, 26, 27], [29, 30, 32, 33, 34, 35, 36, 37, 38, 39, 40, 41]), ([0, 1, 2, 3, 4, 5, 6, 7, 8, 9, 10, 11, 12, 13, 14, 15, 16, 17, 18, 19, 20, 21, 22, 23, 24, 25, 26, 27, 28], [30, 32, 33, 34, 35, 36, 37, 38, 39, 40, 41]), ([0, 1, 2, 3, 4, 5, 6, 7, 8, 9, 10, 11, 12, 13, 14, 15, 16, 17, 18, 19, 20, 21, 22, 23, 24, 25, 26, 27, 28, 29], [32, 33, 34, 35, 36, 37, 38, 39, 40, 41]), ([0, 1, 2, 3, 4, 5, 6, 7, 8, 9, 10, 11, 12, 13, 14, 15, 16, 17, 18, 19, 20, 21, 22, 23, 24, 25, 26, 27], [32, 33, 34, 35, 36, 37, 38, 39, 40, 41]), ([0, 1, 2, 3, 4, 5, 6, 7, 8, 9, 10, 11, 12, 13, 14, 15, 16, 17, 18, 19, 20, 21, 22, 23, 24, 25, 26, 27, 28, 29, 30, 31], [33, 34, 35, 36, 37, 38, 39, 40, 41]), ([0, 1, 2, 3, 4, 5, 6, 7, 8, 9, 10, 11, 12, 13, 14, 15, 16, 17, 18, 19, 20, 21, 22, 23, 24, 25, 26, 27, 28, 29, 30, 31, 32], [34, 35, 36, 37, 38, 39, 40, 41]), ([0, 1, 2, 3, 4, 5, 6, 7, 8, 9, 10, 11, 12, 13, 14, 15, 16, 17, 18, 19, 20, 21, 22, 23, 24, 25, 26, 27, 28, 29, 30, 31, 32, 33], [35, 36, 37, 38, 39, 40, 41]), ([0, 1, 2, 3, 4, 5, 6, 7, 8, 9, 10, 11, 12, 13, 14, 15, 16, 17, 18, 19, 20, 21, 22, 23, 24, 25, 26, 27, 28, 29, 30, 31, 32, 33, 34], [36, 37, 39, 40, 41]), ([0, 1, 2, 3, 4, 5, 6, 7, 8, 9, 10, 11, 12, 13, 14, 15, 16, 17, 18, 19, 20, 21, 22, 23, 24, 25, 26, 27, 28, 29, 30, 31, 32, 33, 34, 35], [37, 39, 40, 41]), ([0, 1, 2, 3, 4, 5, 6, 7, 8, 9, 10, 11, 12, 13, 14, 15, 16, 17, 18, 19, 20, 21, 22, 23, 24, 25, 26, 27, 28, 29, 30, 31, 32, 33, 34, 35, 36], [39, 40, 41]), ([0, 1, 2, 3, 4, 5, 6, 7, 8, 9, 10, 11, 12, 13, 14, 15, 16, 17, 18, 19, 20, 21, 22, 23, 24, 25, 26, 27, 28, 29, 30, 31, 32, 33, 34], [39, 40, 41]), ([0, 1, 2, 3, 4, 5, 6, 7, 8, 9, 10, 11, 12, 13, 14, 15, 16, 17, 18, 19, 20, 21, 22, 23, 24, 25, 26, 27, 28, 29, 30, 31, 32, 33, 34, 35, 36, 37, 38], [40, 41]), ([0, 1, 2, 3, 4, 5, 6, 7, 8, 9, 10, 11, 12, 13, 14, 15, 16, 17, 18, 19, 20, 21, 22, 23, 24, 25, 26, 27, 28, 29, 30, 31, 32, 33, 34, 35, 36, 37, 38, 39], [41]), ([0, 1, 2, 3, 4, 5, 6, 7, 8, 9, 10, 11, 12, 13, 14, 15, 16, 17, 18, 19, 20, 21, 22, 23, 24, 25, 26, 27, 28, 29, 30, 31, 32, 33, 34, 35, 36, 37, 38, 39, 40], [])] (fun L ac w => St 83 w0 [(42, L 0, .bool true), (43, L 1, .bool true), (44, L 2, W (txV (dcs a))), (45, L 3, W a), (46, L 4, .bool true), (47, L 5, .bool true), (48, L 6, .bool true), (49, L 7, .int .i64 ((txE (dcs a) : Nat) : Int)), (50, L 8, .bool true), (51, L 9, .bool true), (52, L 10, .bool true), (53, L 11, .int .i64 ((txE (zd a) : Nat) : Int)), (54, L 12, .bool true), (55, L 13, .bool true), (56, L 14, .bool true), (57, L 15, W (txV (zd a))), (58, L 16, .agg #[.int .u64 0, .int .u64 0, .int .u64 0, .int .u64 0]), (59, L 17, .bool true), (60, L 18, .bool true), (61, L 19, .bool true), (62, L 20, .bool true), (63, L 21, .bool true), (64, L 22, .bool true), (65, L 23, W (txV (dz a))), (66, L 24, .agg #[.int .u64 0, .int .u64 0, .int .u64 0, .int .u64 0]), (67, L 25, .bool true), (68, L 26, .bool true), (69, L 27, .bool true), (70, L 28, W a), (71, L 29, At .u8 32 (by8 a)), (72, L 30, W a9), (73, L 31, W a), (74, L 32, .bool true), (75, L 33, .bool true), (76, L 34, .bool true), (77, L 35, At .u8 32 f), (78, L 36, W a10), (79, L 37, At .u8 32 (by8 a10)), (80, L 38, At .u8 32 f), (81, L 39, .bool true), (82, L 40, .bool true), (4, L 41, .bool true), (2, true, .pointer (some ⟨g1, 0, none⟩)), (3, true, .pointer (some ⟨g2, 0, none⟩)), (4, true, .bool false), (6, true, .pointer (some ⟨g3, 0, none⟩)), (7, true, .int .i64 ((txE (dcs a) : Nat) : Int)), (8, true, .pointer (some ⟨g4, 0, none⟩)), (9, true, .int .i64 ((txE (zd a) : Nat) : Int)), (10, true, .pointer (some ⟨g5, 0, none⟩)), (12, true, .bool true)] [(true, g1, 24, (Wl a)), (true, g2, 42, (tab .u8 32 f)), (true, g3, 24, (Wl (txV (dcs a)))), (true, g4, 24, (Wl (txV (zd a)))), (true, g5, 24, (Wl (txV (dz a))))] ac w) (by kernel_rfl) (by kernel_rfl) ?_ ?_ ?_
    · exact hs.drew.skip.skip.skip.skip.skip.skip.skip.skip.skip.skip.skip.skip.skip.skip.skip.skip.skip.skip.skip.skip.skip.skip.skip.skip.skip.skip.skip.skip.skip.skip.skip.skip.skip.skip.skip.skip.skip.skip.skip.skip.skip.skip
    · refine ⟨?_, ?_, ?_, ?_, ?_, ?_, ?_, ?_, ?_, ?_, ?_, ?_, ?_, ?_, ?_, ?_, ?_, ?_, ?_, ?_, ?_, ?_, ?_, ?_, ?_, ?_, ?_, ?_, ?_, ?_, ?_, ?_, ?_, ?_, ?_, ?_, ?_, ?_, ?_, ?_, ?_, ?_, trivial⟩
      · intro L ac w hJ
        have hs := hJ
        refine wpO_plain rfl (op_call (F := 15) hs (some 0) (v := .bool true) rfl rfl rfl rfl (Try.call15 _) alive_c rfl fun ac w hs => ?_)
        exact hs
      · intro L ac w hJ
        have hs := hJ
        refine wpO_plain rfl (op_move hs (some 1) rfl rfl rfl rfl fun ac hs => ?_)
        exact hs
      · intro L ac w hJ
        have hs := hJ
        refine wpO_in hs rfl rfl rfl (op_load hs (some 2) 2 (v := W (txV (dcs a))) rfl rfl rfl rfl Try.isAgg24 Try.sizeOf24 rfl rfl fun ac hs => ?_)
        exact hs
      · intro L ac w hJ
        have hs := hJ
        refine wpO_in hs rfl rfl rfl (op_load hs (some 3) 0 (v := W a) rfl rfl rfl rfl Try.isAgg24 Try.sizeOf24 rfl rfl fun ac hs => ?_)
        exact hs
      · intro L ac w hJ
        have hs := hJ
        refine wpO_in hs rfl rfl rfl (op_bin hs (some 4) (v := .bool true) rfl rfl rfl rfl (fun w => run_eqGuard_agg w .eql 24 _ _ _ _ Try.eqGuardType24) (eqlW (txV (dcs a)) a (txV_lt (dcs a)) ha true (decide_eq_true (tx_dcsV ha))) rfl fun ac hs => ?_)
        exact hs
      · intro L ac w hJ
        have hs := hJ
        refine wpO_plain rfl (op_pickT hs (some 5) rfl rfl rfl rfl rfl fun ac hs => ?_)
        exact hs
      · intro L ac w hJ
        have hs := hJ
        refine wpO_plain rfl (op_move hs (some 6) rfl rfl rfl rfl fun ac hs => ?_)
        exact hs
      · intro L ac w hJ
        have hs := hJ
        refine wpO_in hs rfl rfl rfl (op_move hs (some 7) rfl rfl rfl rfl fun ac hs => ?_)
        exact hs
      · intro L ac w hJ
        have hs := hJ
        refine wpO_in hs rfl rfl rfl (op_bin hs (some 8) (v := .bool true) rfl rfl rfl rfl (fun _ => rfl) (fun w => dT (tx_dcs ha) (bin_eqlN (x := txE (dcs a)) (y := 0) w)) rfl fun ac hs => ?_)
        exact hs
      · intro L ac w hJ
        have hs := hJ
        refine wpO_plain rfl (op_pickT hs (some 9) rfl rfl rfl rfl rfl fun ac hs => ?_)
        exact hs
      · intro L ac w hJ
        have hs := hJ
        refine wpO_plain rfl (op_move hs (some 10) rfl rfl rfl rfl fun ac hs => ?_)
        exact hs
      · intro L ac w hJ
        have hs := hJ
        refine wpO_in hs rfl rfl rfl (op_move hs (some 11) rfl rfl rfl rfl fun ac hs => ?_)
        exact hs
      · intro L ac w hJ
        have hs := hJ
        refine wpO_in hs rfl rfl rfl (op_bin hs (some 12) (v := .bool true) rfl rfl rfl rfl (fun _ => rfl) (fun w => dT (tx_zd a) (bin_eqlN (x := txE (zd a)) (y := 3) w)) rfl fun ac hs => ?_)
        exact hs
      · intro L ac w hJ
        have hs := hJ
        refine wpO_plain rfl (op_pickT hs (some 13) rfl rfl rfl rfl rfl fun ac hs => ?_)
        exact hs
      · intro L ac w hJ
        have hs := hJ
        refine wpO_plain rfl (op_move hs (some 14) rfl rfl rfl rfl fun ac hs => ?_)
        exact hs
      · intro L ac w hJ
        have hs := hJ
        refine wpO_in hs rfl rfl rfl (op_load hs (some 15) 3 (v := W (txV (zd a))) rfl rfl rfl rfl Try.isAgg24 Try.sizeOf24 rfl rfl fun ac hs => ?_)
        exact hs
      · intro L ac w hJ
        have hs := hJ
        refine wpO_in hs rfl rfl rfl (op_build hs (some 16) (qs := []) (v := .agg #[.int .u64 0, .int .u64 0, .int .u64 0, .int .u64 0]) rfl rfl rfl rfl (fun _ => by kernel_rfl) rfl fun ac hs => ?_)
        exact hs
      · intro L ac w hJ
        have hs := hJ
        refine wpO_in hs rfl rfl rfl (op_bin hs (some 17) (v := .bool true) rfl rfl rfl rfl (fun w => run_eqGuard_agg w .eql 24 _ _ _ _ Try.eqGuardType24) (eqlW (txV (zd a)) 0 (txV_lt (zd a)) (by decide) true (decide_eq_true (tx_zdV a))) rfl fun ac hs => ?_)
        exact hs
      · intro L ac w hJ
        have hs := hJ
        refine wpO_plain rfl (op_pickT hs (some 18) rfl rfl rfl rfl rfl fun ac hs => ?_)
        exact hs
      · intro L ac w hJ
        have hs := hJ
        refine wpO_plain rfl (op_move hs (some 19) rfl rfl rfl rfl fun ac hs => ?_)
        exact hs
      · intro L ac w hJ
        have hs := hJ
        refine wpO_in hs rfl rfl rfl (op_move hs (some 20) rfl rfl rfl rfl fun ac hs => ?_)
        exact hs
      · intro L ac w hJ
        have hs := hJ
        refine wpO_plain rfl (op_pickT hs (some 21) rfl rfl rfl rfl rfl fun ac hs => ?_)
        exact hs
      · intro L ac w hJ
        have hs := hJ
        refine wpO_plain rfl (op_move hs (some 22) rfl rfl rfl rfl fun ac hs => ?_)
        exact hs
      · intro L ac w hJ
        have hs := hJ
        refine wpO_in hs rfl rfl rfl (op_load hs (some 23) 4 (v := W (txV (dz a))) rfl rfl rfl rfl Try.isAgg24 Try.sizeOf24 rfl rfl fun ac hs => ?_)
        exact hs
      · intro L ac w hJ
        have hs := hJ
        refine wpO_in hs rfl rfl rfl (op_build hs (some 24) (qs := []) (v := .agg #[.int .u64 0, .int .u64 0, .int .u64 0, .int .u64 0]) rfl rfl rfl rfl (fun _ => by kernel_rfl) rfl fun ac hs => ?_)
        exact hs
      · intro L ac w hJ
        have hs := hJ
        refine wpO_in hs rfl rfl rfl (op_bin hs (some 25) (v := .bool true) rfl rfl rfl rfl (fun w => run_eqGuard_agg w .eql 24 _ _ _ _ Try.eqGuardType24) (eqlW (txV (dz a)) 0 (txV_lt (dz a)) (by decide) true (decide_eq_true (tx_dzV a))) rfl fun ac hs => ?_)
        exact hs
      · intro L ac w hJ
        have hs := hJ
        refine wpO_plain rfl (op_pickT hs (some 26) rfl rfl rfl rfl rfl fun ac hs => ?_)
        exact hs
      · intro L ac w hJ
        have hs := hJ
        refine wpO_plain rfl (op_move hs (some 27) rfl rfl rfl rfl fun ac hs => ?_)
        exact hs
      · intro L ac w hJ
        have hs := hJ
        refine wpO_in hs rfl rfl rfl (op_load hs (some 28) 0 (v := W a) rfl rfl rfl rfl Try.isAgg24 Try.sizeOf24 rfl rfl fun ac hs => ?_)
        exact hs
      · intro L ac w hJ
        have hs := hJ
        refine wpO_in hs rfl rfl rfl (op_call (F := 33) hs (some 29) (v := At .u8 32 (by8 a)) rfl rfl rfl rfl (Try.call33 _) (bytes_c a ha) rfl fun ac w hs => ?_)
        exact hs
      · intro L ac w hJ
        have hs := hJ
        refine wpO_in hs rfl rfl rfl (op_call (F := 35) hs (some 30) (v := W a9) rfl rfl rfl rfl (Try.call35 _) (wread_c (by8 a) a9 (fun j _ => by8_lt a j) ha9) rfl fun ac w hs => ?_)
        exact hs
      · intro L ac w hJ
        have hs := hJ
        refine wpO_in hs rfl rfl rfl (op_load hs (some 31) 0 (v := W a) rfl rfl rfl rfl Try.isAgg24 Try.sizeOf24 rfl rfl fun ac hs => ?_)
        exact hs
      · intro L ac w hJ
        have hs := hJ
        refine wpO_in hs rfl rfl rfl (op_bin hs (some 32) (v := .bool true) rfl rfl rfl rfl (fun w => run_eqGuard_agg w .eql 24 _ _ _ _ Try.eqGuardType24) (eqlW a9 a la9 ha true (decide_eq_true (ha9.symm.trans (pr_by8_all ha)))) rfl fun ac hs => ?_)
        exact hs
      · intro L ac w hJ
        have hs := hJ
        refine wpO_plain rfl (op_pickT hs (some 33) rfl rfl rfl rfl rfl fun ac hs => ?_)
        exact hs
      · intro L ac w hJ
        have hs := hJ
        refine wpO_plain rfl (op_move hs (some 34) rfl rfl rfl rfl fun ac hs => ?_)
        exact hs
      · intro L ac w hJ
        have hs := hJ
        refine wpO_in hs rfl rfl rfl (op_load hs (some 35) 1 (v := At .u8 32 f) rfl rfl rfl rfl Try.isAgg42 Try.sizeOf42 ldv_tab rfl fun ac hs => ?_)
        exact hs
      · intro L ac w hJ
        have hs := hJ
        refine wpO_in hs rfl rfl rfl (op_call (F := 35) hs (some 36) (v := W a10) rfl rfl rfl rfl (Try.call35 _) (wread_c f a10 hf ha10) rfl fun ac w hs => ?_)
        exact hs
      · intro L ac w hJ
        have hs := hJ
        refine wpO_in hs rfl rfl rfl (op_call (F := 33) hs (some 37) (v := At .u8 32 (by8 a10)) rfl rfl rfl rfl (Try.call33 _) (bytes_c a10 la10) rfl fun ac w hs => ?_)
        exact hs
      · intro L ac w hJ
        have hs := hJ
        refine wpO_in hs rfl rfl rfl (op_load hs (some 38) 1 (v := At .u8 32 f) rfl rfl rfl rfl Try.isAgg42 Try.sizeOf42 ldv_tab rfl fun ac hs => ?_)
        exact hs
      · intro L ac w hJ
        have hs := hJ
        refine wpO_in hs rfl rfl rfl (op_bin hs (some 39) (v := .bool true) rfl rfl rfl rfl (fun w => run_eqGuard_agg w .eql 42 _ _ _ _ Try.eqGuardType42) (eqlAt Try.underlying42 Try.underlying5 inf_u8_5 (by kernel_rfl) Try.isAgg5 (fun j hj => by rw [← ha10]; exact by8_pr hf j hj)) rfl fun ac hs => ?_)
        exact hs
      · intro L ac w hJ
        have hs := hJ
        refine wpO_plain rfl (op_pickT hs (some 40) rfl rfl rfl rfl rfl fun ac hs => ?_)
        exact hs
      · intro L ac w hJ
        have hs := hJ
        refine wpO_plain rfl (op_assign hs (some 41) rfl rfl rfl rfl fun ac hs => ?_)
        exact hs
    intro ac w hJ
    replace hs : St 83 w0 [(42, true, .bool true), (43, true, .bool true), (44, true, W (txV (dcs a))), (45, true, W a), (46, true, .bool true), (47, true, .bool true), (48, true, .bool true), (49, true, .int .i64 ((txE (dcs a) : Nat) : Int)), (50, true, .bool true), (51, true, .bool true), (52, true, .bool true), (53, true, .int .i64 ((txE (zd a) : Nat) : Int)), (54, true, .bool true), (55, true, .bool true), (56, true, .bool true), (57, true, W (txV (zd a))), (58, true, .agg #[.int .u64 0, .int .u64 0, .int .u64 0, .int .u64 0]), (59, true, .bool true), (60, true, .bool true), (61, true, .bool true), (62, true, .bool true), (63, true, .bool true), (64, true, .bool true), (65, true, W (txV (dz a))), (66, true, .agg #[.int .u64 0, .int .u64 0, .int .u64 0, .int .u64 0]), (67, true, .bool true), (68, true, .bool true), (69, true, .bool true), (70, true, W a), (71, true, At .u8 32 (by8 a)), (72, true, W a9), (73, true, W a), (74, true, .bool true), (75, true, .bool true), (76, true, .bool true), (77, true, At .u8 32 f), (78, true, W a10), (79, true, At .u8 32 (by8 a10)), (80, true, At .u8 32 f), (81, true, .bool true), (82, true, .bool true), (4, true, .bool true), (2, true, .pointer (some ⟨g1, 0, none⟩)), (3, true, .pointer (some ⟨g2, 0, none⟩)), (4, true, .bool false), (6, true, .pointer (some ⟨g3, 0, none⟩)), (7, true, .int .i64 ((txE (dcs a) : Nat) : Int)), (8, true, .pointer (some ⟨g4, 0, none⟩)), (9, true, .int .i64 ((txE (zd a) : Nat) : Int)), (10, true, .pointer (some ⟨g5, 0, none⟩)), (12, true, .bool true)] [(true, g1, 24, (Wl a)), (true, g2, 42, (tab .u8 32 f)), (true, g3, 24, (Wl (txV (dcs a)))), (true, g4, 24, (Wl (txV (zd a)))), (true, g5, 24, (Wl (txV (dz a))))] ac w := hJ
    refine then_n ?_
    refine wp_ret ?_
    exact bodyPost_ret (res1 rfl (rv_t hs rfl)) hs.defers ⟨rfl, hs.below⟩
end Go.Proofs.Ytaeafgkjinhceaa
