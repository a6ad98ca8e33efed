/- Figures. -/
import Derived.Test.YtaeafgkjinhceaaDec
import Derived.Test.YtaeafgkjinhceaaPrt
import Derived.Test.YtaeafgkjinhceaaRWide2
namespace Go.Proofs.Ytaeafgkjinhceaa
open Go.RowKit
set_option maxRecDepth 10000

theorem rprint_c (a : Nat) (ha : a < 2 ^ 256) (w0 : World) : Calls Try.prog 38 #[W a] w0 fun e w' => e = .returned (.string (dcs a)) ∧ Below w0.heap.size w0 w' := by
  refine enter (n := 31) (args := [W a]) Try.func38 rfl rfl (Nat.le_of_ble_eq_true rfl) fun ac hs => ?_
  refine wp_seq ?_
  refine wp_region_lit ?_
  refine lstep (wpO_plain rfl (op_box hs none none (cs := (Wl a)) rfl rfl rfl rfl rfl rfl fun g1 ac w hs => ?_))
  refine lstep (wpO_plain rfl (op_assign hs none rfl rfl rfl rfl fun ac hs => ?_))
  refine wpList_nil ?_
  refine then_n ?_
  refine wp_seq ?_
  refine wp_region_lit ?_
  refine lstep (wpO_plain rfl (op_assign hs none rfl rfl rfl rfl fun ac hs => ?_))
  refine wpList_nil ?_
  refine then_n ?_
  refine wp_seq ?_
  refine wp_block ?_
  refine wp_loop_m (fun μ ac w => (a + 2 = μ ∧ St 31 w0 [(1, true, .pointer (some ⟨g1, 0, none⟩)), (3, true, .string (sfx a 0))] [(true, g1, 24, (Wl a))] ac w) ∨ (∃ (cn : Nat) (y : Nat), y + 1 = μ ∧ (1 ≤ cn) ∧ (y < 2 ^ 256) ∧ (a / 10 ^ cn = y) ∧ (cn ≠ 1 → a / 10 ^ (cn - 1) ≠ 0) ∧ St 31 w0 [(1, true, .pointer (some ⟨g1, 0, none⟩)), (3, true, .string (sfx a cn))] [(true, g1, 24, (Wl y))] ac w)) ?_ ?_
  · exact ⟨_, .inl ⟨rfl, (hs.re ⟨rfl, rfl, trivial⟩)⟩⟩
  intro μ ac w hJ
  rcases hJ with hJ | hJ
  · obtain ⟨rfl, hs⟩ := hJ
    refine wp_seq ?_
    refine wp_seq ?_
    refine wp_region_lit ?_
    refine lstep (wpO_plain rfl (op_move hs none rfl rfl rfl rfl fun ac hs => ?_))
    refine lstep (wpO_plain rfl (op_bin hs none (v := .bool true) rfl rfl rfl rfl (fun _ => rfl) (bin_eqlS (b := true) (decide_eq_true rfl)) rfl fun ac hs => ?_))
    refine lstep (wpO_plain rfl (op_move hs none rfl rfl rfl rfl fun ac hs => ?_))
    refine lstep (wpO_out hs none rfl rfl (.inl rfl) rfl rfl fun ac hs => ?_)
    refine lstep (wpO_out hs none rfl rfl (.inl rfl) rfl rfl fun ac hs => ?_)
    refine lstep (wpO_out hs none rfl rfl (.inl rfl) rfl rfl fun ac hs => ?_)
    refine lstep (wpO_plain rfl (op_pickT hs none rfl rfl rfl rfl rfl fun ac hs => ?_))
    refine wpList_nil ?_
    refine then_n ?_
    refine wp_cond_true (hs.ev rfl) ?_
    refine wp_skip ?_
    refine then_n ?_
    refine wp_block ?_
    refine wp_seq ?_
    refine wp_region_lit ?_
    refine lstep (wpO_plain rfl (op_load hs none 0 (v := W a) rfl rfl rfl rfl Try.isAgg24 Try.sizeOf24 rfl rfl fun ac hs => ?_))
    refine lstep (wpO_plain rfl (op_build hs none (qs := [(0, .int .u64 10)]) (v := .agg #[.int .u64 10, .int .u64 0, .int .u64 0, .int .u64 0]) rfl rfl rfl rfl (fun _ => by kernel_rfl) rfl fun ac hs => ?_))
    obtain ⟨q2, hq2, lq2⟩ : ∃ z0, a / 10 = z0 ∧ z0 < 2 ^ 256 := ⟨_, rfl, Nat.lt_of_le_of_lt (Nat.div_le_self _ _) ha⟩
    obtain ⟨r3, hr3, lr3⟩ : ∃ z0, a % 10 = z0 ∧ z0 < 2 ^ 256 := ⟨_, rfl, Nat.lt_trans (Nat.mod_lt _ (by decide)) (by decide)⟩
    have sr3 : r3 < 10 := by rw [← hr3]; exact Nat.mod_lt _ (by decide)
    have hl0 := limN_small sr3
    refine lstep (wpO_plain rfl (op_call (F := 22) hs none (v := .tuple #[W q2, W r3, .int .i64 0]) rfl rfl rfl rfl (Try.call22 _) (rdiv_c a 10 q2 r3 ha (by decide) (by decide) hq2 hr3) rfl fun ac w hs => ?_))
    refine lstep (wpO_plain rfl (op_move hs none rfl rfl rfl rfl fun ac hs => ?_))
    refine lstep (wpO_plain rfl (op_extract hs none rfl rfl rfl rfl rfl fun ac hs => ?_))
    refine lstep (wpO_plain rfl (op_extract hs none rfl rfl rfl rfl rfl fun ac hs => ?_))
    refine lstep (wpO_plain rfl (op_extract hs none rfl rfl rfl rfl rfl fun ac hs => ?_))
    refine lstep (wpO_plain rfl (op_alloc hs none none (cs := [.int .u64 0, .int .u64 0, .int .u64 0, .int .u64 0]) rfl rfl Try.zeroValue24 (by kernel_rfl) rfl rfl fun g4 ac w hs => ?_))
    refine lstep (wpO_plain rfl (op_alloc hs none none (cs := [.int .u64 0, .int .u64 0, .int .u64 0, .int .u64 0]) rfl rfl Try.zeroValue24 (by kernel_rfl) rfl rfl fun g5 ac w hs => ?_))
    refine lstep (wpO_plain rfl (op_store hs 1 (vs := (Wl q2)) rfl rfl rfl rfl rfl Try.sizeOf24 rfl rfl rfl rfl rfl fun w hs => ?_))
    refine lstep (wpO_plain rfl (op_store hs 2 (vs := (Wl r3)) rfl rfl rfl rfl rfl Try.sizeOf24 rfl rfl rfl rfl rfl fun w hs => ?_))
    refine lstep (wpO_plain rfl (op_assign hs none rfl rfl rfl rfl fun ac hs => ?_))
    refine wpList_nil ?_
    refine then_n ?_
    refine wp_seq ?_
    refine wp_region_lit ?_
    refine lstep (wpO_plain rfl (op_idxA hs none (j := 0) rfl rfl rfl rfl Try.underlying24 Try.sizeOf22 (by decide) (off := 0) rfl rfl fun ac hs => ?_))
    have l6 := limN_lt r3 0
    refine lstep (wpO_plain rfl (op_load hs none 2 (v := .int .u64 (lim r3 0)) rfl rfl rfl rfl Try.isAgg22 Try.sizeOf22 rfl rfl fun ac hs => ?_))
    refine lstep (wpO_plain rfl (op_bin hs none (v := .int .u64 ((48 + (limN r3 0) : Nat) : Int)) rfl rfl rfl rfl (fun _ => rfl) (bin_addN (x := 48) (y := limN r3 0) (z := 48 + (limN r3 0)) rfl (show 48 + (limN r3 0) < 18446744073709551616 by omega)) rfl fun ac hs => ?_))
    refine lstep (wpO_plain rfl (op_convert hs none (v := .int .u8 ((48 + (limN r3 0) : Nat) : Int)) rfl rfl rfl (conv_N Try.underlying22 Try.underlying5 (show 48 + (limN r3 0) < 256 by omega)) rfl fun ac hs => ?_))
    refine lstep (wpO_plain rfl (op_bs1 hs none none rfl rfl rfl rfl Try.underlying63 inf_u8_5 rfl rfl fun g7 ac w hs => ?_))
    refine lstep (wpO_plain rfl (op_convW hs none (v := .string (b1 (48 + (limN r3 0)))) rfl rfl rfl (conv_b1 hs (k := 3) rfl (show 48 + (limN r3 0) < 256 by omega) Try.underlying63 Try.underlying5 Try.underlying9) rfl fun ac hs => ?_))
    refine lstep (wpO_plain rfl (op_move hs none rfl rfl rfl rfl fun ac hs => ?_))
    refine lstep (wpO_plain rfl (op_bin hs none (v := .string (b1 (48 + (limN r3 0)) ++ sfx a 0)) rfl rfl rfl rfl (fun _ => rfl) (bin_addS (sfx_add (by decide))) rfl fun ac hs => ?_))
    refine lstep (wpO_plain rfl (op_assign hs none rfl rfl rfl rfl fun ac hs => ?_))
    refine wpList_nil ?_
    refine then_n ?_
    refine wp_region_lit ?_
    refine lstep (wpO_plain rfl (op_load hs none 1 (v := W q2) rfl rfl rfl rfl Try.isAgg24 Try.sizeOf24 rfl rfl fun ac hs => ?_))
    refine lstep (wpO_plain rfl (op_store hs 0 (vs := (Wl q2)) rfl rfl rfl rfl rfl Try.sizeOf24 rfl rfl rfl rfl rfl fun w hs => ?_))
    refine wpList_nil ?_
    refine blk_n ?_
    refine then_n ?_
    exact ⟨_, .inr (⟨1, q2, rfl, (by decide), lq2, ((congrArg (a / ·) (Nat.pow_one 10)).trans hq2), (fun h => absurd rfl h), ((hs.takeb 1).re ⟨rfl, (congrArg (fun z => some (Value.string z)) (sfx_step ((lof_0 hr3).trans (congrArg (48 + ·) hl0.symm)))), trivial⟩)⟩), by omega⟩
  · obtain ⟨cn, y, rfl, hcn, ly, hy, hy1, hs⟩ := hJ
    refine wp_seq ?_
    refine wp_seq ?_
    refine wp_region_lit ?_
    refine lstep (wpO_plain rfl (op_move hs none rfl rfl rfl rfl fun ac hs => ?_))
    refine lstep (wpO_plain rfl (op_bin hs none (v := .bool false) rfl rfl rfl rfl (fun _ => rfl) (bin_eqlS (b := false) (sfx_ne hcn)) rfl fun ac hs => ?_))
    refine lstep (wpO_plain rfl (op_move hs none rfl rfl rfl rfl fun ac hs => ?_))
    refine lstep (wpO_in hs rfl rfl rfl (op_load hs none 0 (v := W y) rfl rfl rfl rfl Try.isAgg24 Try.sizeOf24 rfl rfl fun ac hs => ?_))
    refine lstep (wpO_in hs rfl rfl rfl (op_build hs none (qs := []) (v := .agg #[.int .u64 0, .int .u64 0, .int .u64 0, .int .u64 0]) rfl rfl rfl rfl (fun _ => by kernel_rfl) rfl fun ac hs => ?_))
    refine lstep (wpO_in hs rfl rfl rfl (op_bin hs none (v := .bool (decide (y ≠ 0))) rfl rfl rfl rfl (fun w => run_eqGuard_agg w .neq 24 _ _ _ _ Try.eqGuardType24) (neqW y 0 ly (by decide) _ rfl) rfl fun ac hs => ?_))
    refine lstep (wpO_plain rfl (op_pickF hs none rfl rfl rfl rfl rfl fun ac hs => ?_))
    refine wpList_nil ?_
    refine then_n ?_
    refine wp_cond_split (hs.ev rfl) (fun hc => ?_) (fun hc => ?_)
    · skip
      have hp8 := of_decide_eq_true hc
      have hj78 := figs_le ha hy hp8
      refine wp_skip ?_
      refine then_n ?_
      refine wp_block ?_
      refine wp_seq ?_
      refine wp_region_lit ?_
      refine lstep (wpO_plain rfl (op_load hs none 0 (v := W y) rfl rfl rfl rfl Try.isAgg24 Try.sizeOf24 rfl rfl fun ac hs => ?_))
      refine lstep (wpO_plain rfl (op_build hs none (qs := [(0, .int .u64 10)]) (v := .agg #[.int .u64 10, .int .u64 0, .int .u64 0, .int .u64 0]) rfl rfl rfl rfl (fun _ => by kernel_rfl) rfl fun ac hs => ?_))
      obtain ⟨q9, hq9, lq9⟩ : ∃ z0, y / 10 = z0 ∧ z0 < 2 ^ 256 := ⟨_, rfl, Nat.lt_of_le_of_lt (Nat.div_le_self _ _) ly⟩
      obtain ⟨r10, hr10, lr10⟩ : ∃ z0, y % 10 = z0 ∧ z0 < 2 ^ 256 := ⟨_, rfl, Nat.lt_trans (Nat.mod_lt _ (by decide)) (by decide)⟩
      have sr10 : r10 < 10 := by rw [← hr10]; exact Nat.mod_lt _ (by decide)
      have hl0 := limN_small sr10
      refine lstep (wpO_plain rfl (op_call (F := 22) hs none (v := .tuple #[W q9, W r10, .int .i64 0]) rfl rfl rfl rfl (Try.call22 _) (rdiv_c y 10 q9 r10 ly (by decide) (by decide) hq9 hr10) rfl fun ac w hs => ?_))
      refine lstep (wpO_plain rfl (op_move hs none rfl rfl rfl rfl fun ac hs => ?_))
      refine lstep (wpO_plain rfl (op_extract hs none rfl rfl rfl rfl rfl fun ac hs => ?_))
      refine lstep (wpO_plain rfl (op_extract hs none rfl rfl rfl rfl rfl fun ac hs => ?_))
      refine lstep (wpO_plain rfl (op_extract hs none rfl rfl rfl rfl rfl fun ac hs => ?_))
      refine lstep (wpO_plain rfl (op_alloc hs none none (cs := [.int .u64 0, .int .u64 0, .int .u64 0, .int .u64 0]) rfl rfl Try.zeroValue24 (by kernel_rfl) rfl rfl fun g11 ac w hs => ?_))
      refine lstep (wpO_plain rfl (op_alloc hs none none (cs := [.int .u64 0, .int .u64 0, .int .u64 0, .int .u64 0]) rfl rfl Try.zeroValue24 (by kernel_rfl) rfl rfl fun g12 ac w hs => ?_))
      refine lstep (wpO_plain rfl (op_store hs 1 (vs := (Wl q9)) rfl rfl rfl rfl rfl Try.sizeOf24 rfl rfl rfl rfl rfl fun w hs => ?_))
      refine lstep (wpO_plain rfl (op_store hs 2 (vs := (Wl r10)) rfl rfl rfl rfl rfl Try.sizeOf24 rfl rfl rfl rfl rfl fun w hs => ?_))
      refine lstep (wpO_plain rfl (op_assign hs none rfl rfl rfl rfl fun ac hs => ?_))
      refine wpList_nil ?_
      refine then_n ?_
      refine wp_seq ?_
      refine wp_region_lit ?_
      refine lstep (wpO_plain rfl (op_idxA hs none (j := 0) rfl rfl rfl rfl Try.underlying24 Try.sizeOf22 (by decide) (off := 0) rfl rfl fun ac hs => ?_))
      have l13 := limN_lt r10 0
      refine lstep (wpO_plain rfl (op_load hs none 2 (v := .int .u64 (lim r10 0)) rfl rfl rfl rfl Try.isAgg22 Try.sizeOf22 rfl rfl fun ac hs => ?_))
      refine lstep (wpO_plain rfl (op_bin hs none (v := .int .u64 ((48 + (limN r10 0) : Nat) : Int)) rfl rfl rfl rfl (fun _ => rfl) (bin_addN (x := 48) (y := limN r10 0) (z := 48 + (limN r10 0)) rfl (show 48 + (limN r10 0) < 18446744073709551616 by omega)) rfl fun ac hs => ?_))
      refine lstep (wpO_plain rfl (op_convert hs none (v := .int .u8 ((48 + (limN r10 0) : Nat) : Int)) rfl rfl rfl (conv_N Try.underlying22 Try.underlying5 (show 48 + (limN r10 0) < 256 by omega)) rfl fun ac hs => ?_))
      refine lstep (wpO_plain rfl (op_bs1 hs none none rfl rfl rfl rfl Try.underlying63 inf_u8_5 rfl rfl fun g14 ac w hs => ?_))
      refine lstep (wpO_plain rfl (op_convW hs none (v := .string (b1 (48 + (limN r10 0)))) rfl rfl rfl (conv_b1 hs (k := 3) rfl (show 48 + (limN r10 0) < 256 by omega) Try.underlying63 Try.underlying5 Try.underlying9) rfl fun ac hs => ?_))
      refine lstep (wpO_plain rfl (op_move hs none rfl rfl rfl rfl fun ac hs => ?_))
      refine lstep (wpO_plain rfl (op_bin hs none (v := .string (b1 (48 + (limN r10 0)) ++ sfx a cn)) rfl rfl rfl rfl (fun _ => rfl) (bin_addS (sfx_add hj78)) rfl fun ac hs => ?_))
      refine lstep (wpO_plain rfl (op_assign hs none rfl rfl rfl rfl fun ac hs => ?_))
      refine wpList_nil ?_
      refine then_n ?_
      refine wp_region_lit ?_
      refine lstep (wpO_plain rfl (op_load hs none 1 (v := W q9) rfl rfl rfl rfl Try.isAgg24 Try.sizeOf24 rfl rfl fun ac hs => ?_))
      refine lstep (wpO_plain rfl (op_store hs 0 (vs := (Wl q9)) rfl rfl rfl rfl rfl Try.sizeOf24 rfl rfl rfl rfl rfl fun w hs => ?_))
      refine wpList_nil ?_
      refine blk_n ?_
      refine then_n ?_
      exact ⟨_, .inr (⟨(cn + 1), q9, rfl, (by omega), lq9, (div10_pow hy hq9), (fun _ => by rw [Nat.add_sub_cancel, hy]; exact hp8), ((hs.takeb 1).re ⟨rfl, (congrArg (fun z => some (Value.string z)) (sfx_step ((lof_at hy hr10).trans (congrArg (48 + ·) hl0.symm)))), trivial⟩)⟩), by omega⟩
    · skip
      have hp15 := of_decide_eq_false hc
      refine wp_exit ?_
      refine then_e ?_
      refine then_e ?_
      refine blk_e ?_
      refine then_n ?_
      refine wp_seq ?_
      refine wp_region_lit ?_
      refine lstep (wpO_plain rfl (op_move hs none rfl rfl rfl rfl fun ac hs => ?_))
      refine lstep (wpO_plain rfl (op_assign hs none rfl rfl rfl rfl fun ac hs => ?_))
      refine wpList_nil ?_
      refine then_n ?_
      refine wp_ret ?_
      exact bodyPost_ret (res1 rfl (rv_t hs rfl)) hs.defers ⟨by rw [sfx_all (nd_end hcn (hy.trans (by have := hp15; omega)) hy1)], hs.below⟩
end Go.Proofs.Ytaeafgkjinhceaa
