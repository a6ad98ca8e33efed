/- The laws of the field. -/
import Derived.Test.YtajmmhailcbfoaaRField
import Derived.Test.YtajmmhailcbfoaaFe
namespace Go.Proofs.Ytajmmhailcbfoaa
open Go.RowKit
set_option maxRecDepth 10000

theorem eqlB {P : Program} {T : TypeId} {p q : Bool} (hu : P.underlying T = some .bool) (h : p = q) (w : World) : (binOp .eql T (.bool p) (.bool q)).run P w = .ok (.bool true) w := by
  subst h
  have := run_equalIn_bool (P := P) w 9999 T p p hu
  simp only [binOp, Sem.run_bind, Op.equal, Op.maxDepth, this, Result.andThen_ok, Sem.run_pure]
  simp

theorem alive_c  (w0 : World) : Calls Try.prog 10 #[] w0 fun e w' => e = .returned (.bool true) ∧ Below w0.heap.size w0 w' := by
  refine enter (n := 44) (args := []) Try.func10 rfl rfl (Nat.le_of_ble_eq_true rfl) fun ac hs => ?_
  refine wp_seq ?_
  refine wp_region_lit ?_
  refine lstep (wpO_plain rfl (op_assign hs none rfl rfl rfl rfl fun ac hs => ?_))
  refine wpList_nil ?_
  refine then_n ?_
  refine wp_seq ?_
  refine wp_region_lit ?_
  refine lstep (wpO_plain rfl (op_call (F := 11) hs none (v := W Pf) rfl rfl rfl rfl (Try.call11 _) prime_c rfl fun ac w hs => ?_))
  refine lstep (wpO_plain rfl (op_alloc hs none none (cs := [.int .u64 0, .int .u64 0, .int .u64 0, .int .u64 0]) rfl rfl Try.zeroValue24 (by kernel_rfl) rfl rfl fun g1 ac w hs => ?_))
  refine lstep (wpO_plain rfl (op_store hs 0 (vs := (Wl Pf)) rfl rfl rfl rfl rfl Try.sizeOf24 rfl rfl rfl rfl rfl fun w hs => ?_))
  refine wpList_nil ?_
  refine then_n ?_
  refine wp_seq ?_
  refine wp_region_lit ?_
  refine lstep (wpO_plain rfl (op_load hs none 0 (v := W Pf) rfl rfl rfl rfl Try.isAgg24 Try.sizeOf24 rfl rfl fun ac hs => ?_))
  refine lstep (wpO_plain rfl (op_build hs none (qs := [(0, .int .u64 1)]) (v := .agg #[.int .u64 1, .int .u64 0, .int .u64 0, .int .u64 0]) rfl rfl rfl rfl (fun _ => by kernel_rfl) rfl fun ac hs => ?_))
  obtain ⟨d2, hd2, ld2⟩ : ∃ z0, (Pf + 2 ^ 256 - 1) % 2 ^ 256 = z0 ∧ z0 < 2 ^ 256 := ⟨_, rfl, Nat.mod_lt _ (Nat.two_pow_pos 256)⟩
  obtain ⟨c3, hc3⟩ : ∃ z0, bor Pf 1 = z0 := ⟨_, rfl⟩
  refine lstep (wpO_plain rfl (op_call (F := 34) hs none (v := .tuple #[W d2, .int .u64 ((c3 : Nat) : Int)]) rfl rfl rfl rfl (Try.call34 _) (fun w => sub_at w Pf 1 d2 c3 Pf_lt (by decide) hd2 hc3) rfl fun ac w hs => ?_))
  refine lstep (wpO_plain rfl (op_move hs none rfl rfl rfl rfl fun ac hs => ?_))
  refine lstep (wpO_plain rfl (op_extract hs none rfl rfl rfl rfl rfl fun ac hs => ?_))
  refine lstep (wpO_plain rfl (op_extract hs none rfl rfl rfl rfl rfl fun ac hs => ?_))
  refine lstep (wpO_plain rfl (op_alloc hs none none (cs := [.int .u64 0, .int .u64 0, .int .u64 0, .int .u64 0]) rfl rfl Try.zeroValue24 (by kernel_rfl) rfl rfl fun g4 ac w hs => ?_))
  refine lstep (wpO_plain rfl (op_store hs 1 (vs := (Wl d2)) rfl rfl rfl rfl rfl Try.sizeOf24 rfl rfl rfl rfl rfl fun w hs => ?_))
  refine lstep (wpO_plain rfl (op_assign hs none rfl rfl rfl rfl fun ac hs => ?_))
  refine wpList_nil ?_
  refine then_n ?_
  refine wp_seq ?_
  refine wp_region_lit ?_
  refine lstep (wpO_plain rfl (op_build hs none (qs := [(0, .int .u64 4)]) (v := .agg #[.int .u64 4, .int .u64 0, .int .u64 0, .int .u64 0]) rfl rfl rfl rfl (fun _ => by kernel_rfl) rfl fun ac hs => ?_))
  refine lstep (wpO_plain rfl (op_call (F := 23) hs none (v := .tuple #[W 2, .bool true]) rfl rfl rfl rfl (Try.call23 _) (froot_c 4 2 true (by decide) frVB_four.1 frVB_four.2) rfl fun ac w hs => ?_))
  refine lstep (wpO_plain rfl (op_move hs none rfl rfl rfl rfl fun ac hs => ?_))
  refine lstep (wpO_plain rfl (op_extract hs none rfl rfl rfl rfl rfl fun ac hs => ?_))
  refine lstep (wpO_plain rfl (op_extract hs none rfl rfl rfl rfl rfl fun ac hs => ?_))
  refine lstep (wpO_plain rfl (op_alloc hs none none (cs := [.int .u64 0, .int .u64 0, .int .u64 0, .int .u64 0]) rfl rfl Try.zeroValue24 (by kernel_rfl) rfl rfl fun g5 ac w hs => ?_))
  refine lstep (wpO_plain rfl (op_store hs 2 (vs := (Wl 2)) rfl rfl rfl rfl rfl Try.sizeOf24 rfl rfl rfl rfl rfl fun w hs => ?_))
  refine lstep (wpO_plain rfl (op_assign hs none rfl rfl rfl rfl fun ac hs => ?_))
  refine wpList_nil ?_
  refine then_n ?_
  refine wp_seq ?_
  refine wp_region_lit ?_
  refine lstep (wpO_plain rfl (op_load hs none 1 (v := W d2) rfl rfl rfl rfl Try.isAgg24 Try.sizeOf24 rfl rfl fun ac hs => ?_))
  refine lstep (wpO_plain rfl (op_build hs none (qs := [(0, .int .u64 2)]) (v := .agg #[.int .u64 2, .int .u64 0, .int .u64 0, .int .u64 0]) rfl rfl rfl rfl (fun _ => by kernel_rfl) rfl fun ac hs => ?_))
  obtain ⟨r6, hr6, lr6⟩ : ∃ z0, (d2 + 2) % Pf = z0 ∧ z0 < 2 ^ 256 := ⟨_, rfl, modP_lt _⟩
  refine lstep (wpO_plain rfl (op_call (F := 15) hs none (v := W r6) rfl rfl rfl rfl (Try.call15 _) (fadd_c d2 2 r6 ld2 (by decide) hr6) rfl fun ac w hs => ?_))
  refine lstep (wpO_plain rfl (op_build hs none (qs := [(0, .int .u64 1)]) (v := .agg #[.int .u64 1, .int .u64 0, .int .u64 0, .int .u64 0]) rfl rfl rfl rfl (fun _ => by kernel_rfl) rfl fun ac hs => ?_))
  refine lstep (wpO_plain rfl (op_bin hs none (v := .bool true) rfl rfl rfl rfl (fun w => run_eqGuard_agg w .eql 24 _ _ _ _ Try.eqGuardType24) (eqlW r6 1 lr6 (by decide) true (decide_eq_true (by rw [← hr6, ← hd2]; decide))) rfl fun ac hs => ?_))
  refine lstep (wpO_plain rfl (op_move hs none rfl rfl rfl rfl fun ac hs => ?_))
  refine lstep (wpO_in hs rfl rfl rfl (op_load hs none 2 (v := W 2) rfl rfl rfl rfl Try.isAgg24 Try.sizeOf24 rfl rfl fun ac hs => ?_))
  refine lstep (wpO_in hs rfl rfl rfl (op_build hs none (qs := [(0, .int .u64 2)]) (v := .agg #[.int .u64 2, .int .u64 0, .int .u64 0, .int .u64 0]) rfl rfl rfl rfl (fun _ => by kernel_rfl) rfl fun ac hs => ?_))
  refine lstep (wpO_in hs rfl rfl rfl (op_bin hs none (v := .bool true) rfl rfl rfl rfl (fun w => run_eqGuard_agg w .eql 24 _ _ _ _ Try.eqGuardType24) (eqlW 2 2 (by decide) (by decide) true (decide_eq_true rfl)) rfl fun ac hs => ?_))
  refine lstep (wpO_plain rfl (op_pickT hs none rfl rfl rfl rfl rfl fun ac hs => ?_))
  refine lstep (wpO_plain rfl (op_move hs none rfl rfl rfl rfl fun ac hs => ?_))
  refine lstep (wpO_in hs rfl rfl rfl (op_move hs none rfl rfl rfl rfl fun ac hs => ?_))
  refine lstep (wpO_plain rfl (op_pickT hs none rfl rfl rfl rfl rfl fun ac hs => ?_))
  refine lstep (wpO_plain rfl (op_move hs none rfl rfl rfl rfl fun ac hs => ?_))
  refine lstep (wpO_in hs rfl rfl rfl (op_build hs none (qs := [(0, .int .u64 3)]) (v := .agg #[.int .u64 3, .int .u64 0, .int .u64 0, .int .u64 0]) rfl rfl rfl rfl (fun _ => by kernel_rfl) rfl fun ac hs => ?_))
  refine lstep (wpO_in hs rfl rfl rfl (op_build hs none (qs := [(0, .int .u64 5)]) (v := .agg #[.int .u64 5, .int .u64 0, .int .u64 0, .int .u64 0]) rfl rfl rfl rfl (fun _ => by kernel_rfl) rfl fun ac hs => ?_))
  obtain ⟨r7, hr7, lr7⟩ : ∃ z0, 3 * 5 % Pf = z0 ∧ z0 < 2 ^ 256 := ⟨_, rfl, modP_lt _⟩
  refine lstep (wpO_in hs rfl rfl rfl (op_call (F := 21) hs none (v := W r7) rfl rfl rfl rfl (Try.call21 _) (fmul_c 3 5 r7 (by decide) (by decide) hr7) rfl fun ac w hs => ?_))
  refine lstep (wpO_in hs rfl rfl rfl (op_build hs none (qs := [(0, .int .u64 15)]) (v := .agg #[.int .u64 15, .int .u64 0, .int .u64 0, .int .u64 0]) rfl rfl rfl rfl (fun _ => by kernel_rfl) rfl fun ac hs => ?_))
  refine lstep (wpO_in hs rfl rfl rfl (op_bin hs none (v := .bool true) rfl rfl rfl rfl (fun w => run_eqGuard_agg w .eql 24 _ _ _ _ Try.eqGuardType24) (eqlW r7 15 lr7 (by decide) true (decide_eq_true (by rw [← hr7]; decide))) rfl fun ac hs => ?_))
  refine lstep (wpO_plain rfl (op_pickT hs none rfl rfl rfl rfl rfl fun ac hs => ?_))
  refine lstep (wpO_plain rfl (op_move hs none rfl rfl rfl rfl fun ac hs => ?_))
  refine lstep (wpO_in hs rfl rfl rfl (op_build hs none (qs := [(0, .int .u64 1)]) (v := .agg #[.int .u64 1, .int .u64 0, .int .u64 0, .int .u64 0]) rfl rfl rfl rfl (fun _ => by kernel_rfl) rfl fun ac hs => ?_))
  refine lstep (wpO_in hs rfl rfl rfl (op_call (F := 27) hs none (v := W 1) rfl rfl rfl rfl (Try.call27 _) (finv_c 1 1 (by decide) (pinv_one' (by decide))) rfl fun ac w hs => ?_))
  refine lstep (wpO_in hs rfl rfl rfl (op_build hs none (qs := [(0, .int .u64 1)]) (v := .agg #[.int .u64 1, .int .u64 0, .int .u64 0, .int .u64 0]) rfl rfl rfl rfl (fun _ => by kernel_rfl) rfl fun ac hs => ?_))
  refine lstep (wpO_in hs rfl rfl rfl (op_bin hs none (v := .bool true) rfl rfl rfl rfl (fun w => run_eqGuard_agg w .eql 24 _ _ _ _ Try.eqGuardType24) (eqlW 1 1 (by decide) (by decide) true (decide_eq_true rfl)) rfl fun ac hs => ?_))
  refine lstep (wpO_plain rfl (op_pickT hs none rfl rfl rfl rfl rfl fun ac hs => ?_))
  refine lstep (wpO_plain rfl (op_assign hs none rfl rfl rfl rfl fun ac hs => ?_))
  refine wpList_nil ?_
  refine then_n ?_
  refine wp_ret ?_
  exact bodyPost_ret (res1 rfl (rv_t hs rfl)) hs.defers ⟨rfl, hs.below⟩
theorem sums_law (a b : Nat) (ha : a < 2 ^ 256) (hb : b < 2 ^ 256) (w0 : World) : Calls Try.prog 3 #[W a, W b] w0 fun e w' => e = .returned (.bool true) ∧ Below w0.heap.size w0 w' := by
  refine enter (n := 43) (args := [W a, W b]) Try.func3 rfl rfl (Nat.le_of_ble_eq_true rfl) fun ac hs => ?_
  refine wp_seq ?_
  refine wp_region_lit ?_
  refine lstep (wpO_plain rfl (op_box hs none none (cs := (Wl a)) rfl rfl rfl rfl rfl rfl fun g1 ac w hs => ?_))
  refine lstep (wpO_plain rfl (op_box hs none none (cs := (Wl b)) rfl rfl rfl rfl rfl rfl fun g2 ac w hs => ?_))
  refine lstep (wpO_plain rfl (op_assign hs none rfl rfl rfl rfl fun ac hs => ?_))
  refine wpList_nil ?_
  refine then_n ?_
  refine wp_seq ?_
  replace hs : St 43 w0 [(2, true, .pointer (some ⟨g1, 0, none⟩)), (3, true, .pointer (some ⟨g2, 0, none⟩)), (4, true, .bool false)] [(true, g1, 24, (Wl a)), (true, g2, 24, (Wl b))] ac w := hs.re ⟨rfl, rfl, rfl, trivial⟩
  obtain ⟨r3, hr3, lr3⟩ : ∃ z0, a % Pf = z0 ∧ z0 < 2 ^ 256 := ⟨_, rfl, modP_lt _⟩
  obtain ⟨r4, hr4, lr4⟩ : ∃ z0, a % Pf = z0 ∧ z0 < 2 ^ 256 := ⟨_, rfl, modP_lt _⟩
  obtain ⟨r5, hr5, lr5⟩ : ∃ z0, (a + b) % Pf = z0 ∧ z0 < 2 ^ 256 := ⟨_, rfl, modP_lt _⟩
  obtain ⟨r6, hr6, lr6⟩ : ∃ z0, (a + b) % Pf = z0 ∧ z0 < 2 ^ 256 := ⟨_, rfl, modP_lt _⟩
  obtain ⟨r7, hr7, lr7⟩ : ∃ z0, fsub a b = z0 ∧ z0 < 2 ^ 256 := ⟨_, rfl, fsub_lt _ _⟩
  obtain ⟨r8, hr8, lr8⟩ : ∃ z0, fsub a b = z0 ∧ z0 < 2 ^ 256 := ⟨_, rfl, fsub_lt _ _⟩
  obtain ⟨r9, hr9, lr9⟩ : ∃ z0, fsub 0 a = z0 ∧ z0 < 2 ^ 256 := ⟨_, rfl, fsub_lt _ _⟩
  obtain ⟨r10, hr10, lr10⟩ : ∃ z0, fsub 0 a = z0 ∧ z0 < 2 ^ 256 := ⟨_, rfl, fsub_lt _ _⟩
  refine region_inv [([], [1, 2, 3, 4, 5, 6, 7, 8, 9, 10, 11, 12, 13, 14, 15, 16, 17, 18, 19, 20, 21, 22, 23, 24, 25, 26, 27, 28, 29, 30, 31, 32, 33, 34, 35, 36, 37, 38]), ([0], [2, 3, 4, 5, 6, 7, 8, 9, 10, 11, 12, 13, 14, 15, 16, 17, 18, 19, 20, 21, 22, 23, 24, 25, 26, 27, 28, 29, 30, 31, 32, 33, 34, 35, 36, 37, 38]), ([0, 1], [3, 4, 5, 6, 7, 8, 9, 10, 11, 12, 13, 14, 15, 16, 17, 18, 19, 20, 21, 22, 23, 24, 25, 26, 27, 28, 29, 30, 31, 32, 33, 34, 35, 36, 37, 38]), ([0, 1, 2], [4, 5, 6, 7, 8, 9, 10, 11, 12, 13, 14, 15, 16, 17, 18, 19, 20, 21, 22, 23, 24, 25, 26, 27, 28, 29, 30, 31, 32, 33, 34, 35, 36, 37, 38]), ([0, 1, 2, 3], [5, 6, 7, 8, 9, 10, 11, 12, 13, 14, 15, 16, 17, 18, 19, 20, 21, 22, 23, 24, 25, 26, 27, 28, 29, 30, 31, 32, 33, 34, 35, 36, 37, 38]), ([0, 1, 2, 3, 4], [6, 7, 8, 9, 10, 11, 12, 13, 14, 15, 16, 17, 18, 19, 20, 21, 22, 23, 24, 25, 26, 27, 28, 29, 30, 31, 32, 33, 34, 35, 36, 37, 38]), ([0, 1, 2, 3, 4, 5], [7, 8, 9, 10, 11, 12, 13, 14, 15, 16, 17, 18, 19, 20, 21, 22, 23, 24, 25, 26, 27, 28, 29, 30, 31, 32, 33, 34, 35, 36, 37, 38]), ([0, 1, 2, 3, 4, 5, 6], [8, 10, 11, 12, 13, 14, 15, 16, 17, 18, 19, 20, 21, 22, 23, 24, 25, 26, 27, 28, 29, 30, 31, 32, 33, 34, 35, 36, 37, 38]), ([0, 1, 2, 3, 4, 5, 6, 7], [10, 11, 12, 13, 14, 15, 16, 17, 18, 19, 20, 21, 22, 23, 24, 25, 26, 27, 28, 29, 30, 31, 32, 33, 34, 35, 36, 37, 38]), ([0, 1, 2, 3, 4, 5, 6], [10, 11, 12, 13, 14, 15, 16, 17, 18, 19, 20, 21, 22, 23, 24, 25, 26, 27, 28, 29, 30, 31, 32, 33, 34, 35, 36, 37, 38]), ([0, 1, 2, 3, 4, 5, 6, 7, 8, 9], [11, 12, 13, 14, 15, 16, 17, 18, 19, 20, 21, 22, 23, 24, 25, 26, 27, 28, 29, 30, 31, 32, 33, 34, 35, 36, 37, 38]), ([0, 1, 2, 3, 4, 5, 6, 7, 8, 9, 10], [12, 13, 14, 15, 16, 17, 18, 19, 20, 21, 22, 23, 24, 25, 26, 27, 28, 29, 30, 31, 32, 33, 34, 35, 36, 37, 38]), ([0, 1, 2, 3, 4, 5, 6, 7, 8, 9, 10, 11], [13, 14, 15, 16, 17, 18, 19, 20, 21, 22, 23, 24, 25, 26, 27, 28, 29, 30, 31, 32, 33, 34, 35, 36, 37, 38]), ([0, 1, 2, 3, 4, 5, 6, 7, 8, 9, 10, 11, 12], [14, 15, 16, 17, 18, 19, 20, 21, 22, 23, 24, 25, 26, 27, 28, 29, 30, 31, 32, 33, 34, 35, 36, 37, 38]), ([0, 1, 2, 3, 4, 5, 6, 7, 8, 9, 10, 11, 12, 13], [16, 19, 20, 21, 22, 23, 24, 25, 26, 27, 28, 29, 30, 31, 32, 33, 34, 35, 36, 37, 38]), ([0, 1, 2, 3, 4, 5, 6, 7, 8, 9, 10, 11, 12, 13], [16, 19, 20, 21, 22, 23, 24, 25, 26, 27, 28, 29, 30, 31, 32, 33, 34, 35, 36, 37, 38]), ([0, 1, 2, 3, 4, 5, 6, 7, 8, 9, 10, 11, 12, 13, 14, 15], [19, 20, 21, 22, 23, 24, 25, 26, 27, 28, 29, 30, 31, 32, 33, 34, 35, 36, 37, 38]), ([0, 1, 2, 3, 4, 5, 6, 7, 8, 9, 10, 11, 12, 13], [19, 20, 21, 22, 23, 24, 25, 26, 27, 28, 29, 30, 31, 32, 33, 34, 35, 36, 37, 38]), ([0, 1, 2, 3, 4, 5, 6, 7, 8, 9, 10, 11, 12, 13], [19, 20, 21, 22, 23, 24, 25, 26, 27, 28, 29, 30, 31, 32, 33, 34, 35, 36, 37, 38]), ([0, 1, 2, 3, 4, 5, 6, 7, 8, 9, 10, 11, 12, 13, 14, 15, 16, 17, 18], [20, 21, 22, 23, 24, 25, 26, 27, 28, 29, 30, 31, 32, 33, 34, 35, 36, 37, 38]), ([0, 1, 2, 3, 4, 5, 6, 7, 8, 9, 10, 11, 12, 13, 14, 15, 16, 17, 18, 19], [21, 22, 23, 24, 25, 26, 27, 28, 29, 30, 31, 32, 33, 34, 35, 36, 37, 38]), ([0, 1, 2, 3, 4, 5, 6, 7, 8, 9, 10, 11, 12, 13, 14, 15, 16, 17, 18, 19, 20], [22, 23, 24, 25, 26, 27, 28, 29, 30, 31, 32, 33, 34, 35, 36, 37, 38]), ([0, 1, 2, 3, 4, 5, 6, 7, 8, 9, 10, 11, 12, 13, 14, 15, 16, 17, 18, 19, 20, 21], [23, 24, 25, 26, 27, 28, 29, 30, 31, 32, 33, 34, 35, 36, 37, 38]), ([0, 1, 2, 3, 4, 5, 6, 7, 8, 9, 10, 11, 12, 13, 14, 15, 16, 17, 18, 19, 20, 21, 22], [25, 28, 29, 30, 31, 32, 33, 34, 35, 36, 37, 38]), ([0, 1, 2, 3, 4, 5, 6, 7, 8, 9, 10, 11, 12, 13, 14, 15, 16, 17, 18, 19, 20, 21, 22], [25, 28, 29, 30, 31, 32, 33, 34, 35, 36, 37, 38]), ([0, 1, 2, 3, 4, 5, 6, 7, 8, 9, 10, 11, 12, 13, 14, 15, 16, 17, 18, 19, 20, 21, 22, 23, 24], [28, 29, 30, 31, 32, 33, 34, 35, 36, 37, 38]), ([0, 1, 2, 3, 4, 5, 6, 7, 8, 9, 10, 11, 12, 13, 14, 15, 16, 17, 18, 19, 20, 21, 22], [28, 29, 30, 31, 32, 33, 34, 35, 36, 37, 38]), ([0, 1, 2, 3, 4, 5, 6, 7, 8, 9, 10, 11, 12, 13, 14, 15, 16, 17, 18, 19, 20, 21, 22], [28, 29, 30, 31, 32, 33, 34, 35, 36, 37, 38]), ([0, 1, 2, 3, 4, 5, 6, 7, 8, 9, 10, 11, 12, 13, 14, 15, 16, 17, 18, 19, 20, 21, 22, 23, 24, 25, 26, 27], [29, 30, 31, 32, 33, 34, 35, 36, 37, 38]), ([0, 1, 2, 3, 4, 5, 6, 7, 8, 9, 10, 11, 12, 13, 14, 15, 16, 17, 18, 19, 20, 21, 22, 23, 24, 25, 26, 27, 28], [30, 31, 32, 33, 34, 35, 36, 37, 38]), ([0, 1, 2, 3, 4, 5, 6, 7, 8, 9, 10, 11, 12, 13, 14, 15, 16, 17, 18, 19, 20, 21, 22, 23, 24, 25, 26, 27, 28, 29], [31, 32, 33, 34, 35, 36, 37, 38]), ([0, 1, 2, 3, 4, 5, 6, 7, 8, 9, 10, 11, 12, 13, 14, 15, 16, 17, 18, 19, 20, 21, 22, 23, 24, 25, 26, 27, 28, 29, 30], [32, 33, 34, 35, 36, 37, 38]), ([0, 1, 2, 3, 4, 5, 6, 7, 8, 9, 10, 11, 12, 13, 14, 15, 16, 17, 18, 19, 20, 21, 22, 23, 24, 25, 26, 27, 28, 29, 30, 31], [33, 35, 36, 37, 38]), ([0, 1, 2, 3, 4, 5, 6, 7, 8, 9, 10, 11, 12, 13, 14, 15, 16, 17, 18, 19, 20, 21, 22, 23, 24, 25, 26, 27, 28, 29, 30, 31, 32], [35, 36, 37, 38]), ([0, 1, 2, 3, 4, 5, 6, 7, 8, 9, 10, 11, 12, 13, 14, 15, 16, 17, 18, 19, 20, 21, 22, 23, 24, 25, 26, 27, 28, 29, 30, 31], [35, 36, 37, 38]), ([0, 1, 2, 3, 4, 5, 6, 7, 8, 9, 10, 11, 12, 13, 14, 15, 16, 17, 18, 19, 20, 21, 22, 23, 24, 25, 26, 27, 28, 29, 30, 31, 32, 33, 34], [36, 37, 38]), ([0, 1, 2, 3, 4, 5, 6, 7, 8, 9, 10, 11, 12, 13, 14, 15, 16, 17, 18, 19, 20, 21, 22, 23, 24, 25, 26, 27, 28, 29, 30, 31, 32, 33, 34, 35], [37, 38]), ([0, 1, 2, 3, 4, 5, 6, 7, 8, 9, 10, 11, 12, 13, 14, 15, 16, 17, 18, 19, 20, 21, 22, 23, 24, 25, 26, 27, 28, 29, 30, 31, 32, 33, 34, 35, 36], [38]), ([0, 1, 2, 3, 4, 5, 6, 7, 8, 9, 10, 11, 12, 13, 14, 15, 16, 17, 18, 19, 20, 21, 22, 23, 24, 25, 26, 27, 28, 29, 30, 31, 32, 33, 34, 35, 36, 37], [])] (fun L ac w => St 43 w0 [(5, L 0, .bool true), (6, L 1, .bool true), (7, L 2, W Pf), (8, L 3, W Pf), (9, L 4, .bool true), (10, L 5, .bool true), (11, L 6, .bool true), (12, L 7, W a), (13, L 8, W r3), (14, L 9, W a), (15, L 10, W r4), (16, L 11, .bool true), (17, L 12, .bool true), (18, L 13, .bool true), (19, L 14, W a), (20, L 15, W b), (21, L 16, W r5), (22, L 17, W a), (23, L 18, W b), (24, L 19, W r6), (25, L 20, .bool true), (26, L 21, .bool true), (27, L 22, .bool true), (28, L 23, W a), (29, L 24, W b), (30, L 25, W r7), (31, L 26, W a), (32, L 27, W b), (33, L 28, W r8), (34, L 29, .bool true), (35, L 30, .bool true), (36, L 31, .bool true), (37, L 32, W a), (38, L 33, W r9), (39, L 34, W a), (40, L 35, W r10), (41, L 36, .bool true), (42, L 37, .bool true), (4, L 38, .bool true), (2, true, .pointer (some ⟨g1, 0, none⟩)), (3, true, .pointer (some ⟨g2, 0, none⟩)), (4, true, .bool false)] [(true, g1, 24, (Wl a)), (true, g2, 24, (Wl b))] ac w) (by kernel_rfl) (by kernel_rfl) ?_ ?_ ?_
  · exact hs.drew.skip.skip.skip.skip.skip.skip.skip.skip.skip.skip.skip.skip.skip.skip.skip.skip.skip.skip.skip.skip.skip.skip.skip.skip.skip.skip.skip.skip.skip.skip.skip.skip.skip.skip.skip.skip.skip.skip.skip
  · refine ⟨?_, ?_, ?_, ?_, ?_, ?_, ?_, ?_, ?_, ?_, ?_, ?_, ?_, ?_, ?_, ?_, ?_, ?_, ?_, ?_, ?_, ?_, ?_, ?_, ?_, ?_, ?_, ?_, ?_, ?_, ?_, ?_, ?_, ?_, ?_, ?_, ?_, ?_, ?_, trivial⟩
    · intro L ac w hJ
      have hs := hJ
      refine wpO_plain rfl (op_call (F := 10) hs (some 0) (v := .bool true) rfl rfl rfl rfl (Try.call10 _) alive_c rfl fun ac w hs => ?_)
      exact hs
    · intro L ac w hJ
      have hs := hJ
      refine wpO_plain rfl (op_move hs (some 1) rfl rfl rfl rfl fun ac hs => ?_)
      exact hs
    · intro L ac w hJ
      have hs := hJ
      refine wpO_in hs rfl rfl rfl (op_call (F := 11) hs (some 2) (v := W Pf) rfl rfl rfl rfl (Try.call11 _) prime_c rfl fun ac w hs => ?_)
      exact hs
    · intro L ac w hJ
      have hs := hJ
      refine wpO_in hs rfl rfl rfl (op_call (F := 12) hs (some 3) (v := W Pf) rfl rfl rfl rfl (Try.call12 _) rprime_c rfl fun ac w hs => ?_)
      exact hs
    · intro L ac w hJ
      have hs := hJ
      refine wpO_in hs rfl rfl rfl (op_bin hs (some 4) (v := .bool true) rfl rfl rfl rfl (fun w => run_eqGuard_agg w .eql 24 _ _ _ _ Try.eqGuardType24) (eqlW Pf Pf Pf_lt Pf_lt true (decide_eq_true rfl)) rfl fun ac hs => ?_)
      exact hs
    · intro L ac w hJ
      have hs := hJ
      refine wpO_plain rfl (op_pickT hs (some 5) rfl rfl rfl rfl rfl fun ac hs => ?_)
      exact hs
    · intro L ac w hJ
      have hs := hJ
      refine wpO_plain rfl (op_move hs (some 6) rfl rfl rfl rfl fun ac hs => ?_)
      exact hs
    · intro L ac w hJ
      have hs := hJ
      refine wpO_in hs rfl rfl rfl (op_load hs (some 7) 0 (v := W a) rfl rfl rfl rfl Try.isAgg24 Try.sizeOf24 rfl rfl fun ac hs => ?_)
      exact hs
    · intro L ac w hJ
      have hs := hJ
      refine wpO_in hs rfl rfl rfl (op_call (F := 13) hs (some 8) (v := W r3) rfl rfl rfl rfl (Try.call13 _) (fred_c a r3 ha hr3) rfl fun ac w hs => ?_)
      exact hs
    · intro L ac w hJ
      have hs := hJ
      refine wpO_in hs rfl rfl rfl (op_load hs (some 9) 0 (v := W a) rfl rfl rfl rfl Try.isAgg24 Try.sizeOf24 rfl rfl fun ac hs => ?_)
      exact hs
    · intro L ac w hJ
      have hs := hJ
      refine wpO_in hs rfl rfl rfl (op_call (F := 14) hs (some 10) (v := W r4) rfl rfl rfl rfl (Try.call14 _) (rfred2_c a r4 ha hr4) rfl fun ac w hs => ?_)
      exact hs
    · intro L ac w hJ
      have hs := hJ
      refine wpO_in hs rfl rfl rfl (op_bin hs (some 11) (v := .bool true) rfl rfl rfl rfl (fun w => run_eqGuard_agg w .eql 24 _ _ _ _ Try.eqGuardType24) (eqlW r3 r4 lr3 lr4 true (decide_eq_true (by rw [← hr4, ← hr3]))) rfl fun ac hs => ?_)
      exact hs
    · intro L ac w hJ
      have hs := hJ
      refine wpO_plain rfl (op_pickT hs (some 12) rfl rfl rfl rfl rfl fun ac hs => ?_)
      exact hs
    · intro L ac w hJ
      have hs := hJ
      refine wpO_plain rfl (op_move hs (some 13) rfl rfl rfl rfl fun ac hs => ?_)
      exact hs
    · intro L ac w hJ
      have hs := hJ
      refine wpO_in hs rfl rfl rfl (op_load hs (some 14) 0 (v := W a) rfl rfl rfl rfl Try.isAgg24 Try.sizeOf24 rfl rfl fun ac hs => ?_)
      exact hs
    · intro L ac w hJ
      have hs := hJ
      refine wpO_in hs rfl rfl rfl (op_load hs (some 15) 1 (v := W b) rfl rfl rfl rfl Try.isAgg24 Try.sizeOf24 rfl rfl fun ac hs => ?_)
      exact hs
    · intro L ac w hJ
      have hs := hJ
      refine wpO_in hs rfl rfl rfl (op_call (F := 15) hs (some 16) (v := W r5) rfl rfl rfl rfl (Try.call15 _) (fadd_c a b r5 ha hb hr5) rfl fun ac w hs => ?_)
      exact hs
    · intro L ac w hJ
      have hs := hJ
      refine wpO_in hs rfl rfl rfl (op_load hs (some 17) 0 (v := W a) rfl rfl rfl rfl Try.isAgg24 Try.sizeOf24 rfl rfl fun ac hs => ?_)
      exact hs
    · intro L ac w hJ
      have hs := hJ
      refine wpO_in hs rfl rfl rfl (op_load hs (some 18) 1 (v := W b) rfl rfl rfl rfl Try.isAgg24 Try.sizeOf24 rfl rfl fun ac hs => ?_)
      exact hs
    · intro L ac w hJ
      have hs := hJ
      refine wpO_in hs rfl rfl rfl (op_call (F := 16) hs (some 19) (v := W r6) rfl rfl rfl rfl (Try.call16 _) (rfadd_c a b r6 ha hb hr6) rfl fun ac w hs => ?_)
      exact hs
    · intro L ac w hJ
      have hs := hJ
      refine wpO_in hs rfl rfl rfl (op_bin hs (some 20) (v := .bool true) rfl rfl rfl rfl (fun w => run_eqGuard_agg w .eql 24 _ _ _ _ Try.eqGuardType24) (eqlW r5 r6 lr5 lr6 true (decide_eq_true (by rw [← hr6, ← hr5]))) rfl fun ac hs => ?_)
      exact hs
    · intro L ac w hJ
      have hs := hJ
      refine wpO_plain rfl (op_pickT hs (some 21) rfl rfl rfl rfl rfl fun ac hs => ?_)
      exact hs
    · intro L ac w hJ
      have hs := hJ
      refine wpO_plain rfl (op_move hs (some 22) rfl rfl rfl rfl fun ac hs => ?_)
      exact hs
    · intro L ac w hJ
      have hs := hJ
      refine wpO_in hs rfl rfl rfl (op_load hs (some 23) 0 (v := W a) rfl rfl rfl rfl Try.isAgg24 Try.sizeOf24 rfl rfl fun ac hs => ?_)
      exact hs
    · intro L ac w hJ
      have hs := hJ
      refine wpO_in hs rfl rfl rfl (op_load hs (some 24) 1 (v := W b) rfl rfl rfl rfl Try.isAgg24 Try.sizeOf24 rfl rfl fun ac hs => ?_)
      exact hs
    · intro L ac w hJ
      have hs := hJ
      refine wpO_in hs rfl rfl rfl (op_call (F := 17) hs (some 25) (v := W r7) rfl rfl rfl rfl (Try.call17 _) (fsub_c a b r7 ha hb hr7) rfl fun ac w hs => ?_)
      exact hs
    · intro L ac w hJ
      have hs := hJ
      refine wpO_in hs rfl rfl rfl (op_load hs (some 26) 0 (v := W a) rfl rfl rfl rfl Try.isAgg24 Try.sizeOf24 rfl rfl fun ac hs => ?_)
      exact hs
    · intro L ac w hJ
      have hs := hJ
      refine wpO_in hs rfl rfl rfl (op_load hs (some 27) 1 (v := W b) rfl rfl rfl rfl Try.isAgg24 Try.sizeOf24 rfl rfl fun ac hs => ?_)
      exact hs
    · intro L ac w hJ
      have hs := hJ
      refine wpO_in hs rfl rfl rfl (op_call (F := 18) hs (some 28) (v := W r8) rfl rfl rfl rfl (Try.call18 _) (rfsub_c a b r8 ha hb hr8) rfl fun ac w hs => ?_)
      exact hs
    · intro L ac w hJ
      have hs := hJ
      refine wpO_in hs rfl rfl rfl (op_bin hs (some 29) (v := .bool true) rfl rfl rfl rfl (fun w => run_eqGuard_agg w .eql 24 _ _ _ _ Try.eqGuardType24) (eqlW r7 r8 lr7 lr8 true (decide_eq_true (by rw [← hr8, ← hr7]))) rfl fun ac hs => ?_)
      exact hs
    · intro L ac w hJ
      have hs := hJ
      refine wpO_plain rfl (op_pickT hs (some 30) rfl rfl rfl rfl rfl fun ac hs => ?_)
      exact hs
    · intro L ac w hJ
      have hs := hJ
      refine wpO_plain rfl (op_move hs (some 31) rfl rfl rfl rfl fun ac hs => ?_)
      exact hs
    · intro L ac w hJ
      have hs := hJ
      refine wpO_in hs rfl rfl rfl (op_load hs (some 32) 0 (v := W a) rfl rfl rfl rfl Try.isAgg24 Try.sizeOf24 rfl rfl fun ac hs => ?_)
      exact hs
    · intro L ac w hJ
      have hs := hJ
      refine wpO_in hs rfl rfl rfl (op_call (F := 19) hs (some 33) (v := W r9) rfl rfl rfl rfl (Try.call19 _) (fneg_c a r9 ha hr9) rfl fun ac w hs => ?_)
      exact hs
    · intro L ac w hJ
      have hs := hJ
      refine wpO_in hs rfl rfl rfl (op_load hs (some 34) 0 (v := W a) rfl rfl rfl rfl Try.isAgg24 Try.sizeOf24 rfl rfl fun ac hs => ?_)
      exact hs
    · intro L ac w hJ
      have hs := hJ
      refine wpO_in hs rfl rfl rfl (op_call (F := 20) hs (some 35) (v := W r10) rfl rfl rfl rfl (Try.call20 _) (rfneg_c a r10 ha hr10) rfl fun ac w hs => ?_)
      exact hs
    · intro L ac w hJ
      have hs := hJ
      refine wpO_in hs rfl rfl rfl (op_bin hs (some 36) (v := .bool true) rfl rfl rfl rfl (fun w => run_eqGuard_agg w .eql 24 _ _ _ _ Try.eqGuardType24) (eqlW r9 r10 lr9 lr10 true (decide_eq_true (by rw [← hr10, ← hr9]))) rfl fun ac hs => ?_)
      exact hs
    · intro L ac w hJ
      have hs := hJ
      refine wpO_plain rfl (op_pickT hs (some 37) rfl rfl rfl rfl rfl fun ac hs => ?_)
      exact hs
    · intro L ac w hJ
      have hs := hJ
      refine wpO_plain rfl (op_assign hs (some 38) rfl rfl rfl rfl fun ac hs => ?_)
      exact hs
  intro ac w hJ
  replace hs : St 43 w0 [(5, true, .bool true), (6, true, .bool true), (7, true, W Pf), (8, true, W Pf), (9, true, .bool true), (10, true, .bool true), (11, true, .bool true), (12, true, W a), (13, true, W r3), (14, true, W a), (15, true, W r4), (16, true, .bool true), (17, true, .bool true), (18, true, .bool true), (19, true, W a), (20, true, W b), (21, true, W r5), (22, true, W a), (23, true, W b), (24, true, W r6), (25, true, .bool true), (26, true, .bool true), (27, true, .bool true), (28, true, W a), (29, true, W b), (30, true, W r7), (31, true, W a), (32, true, W b), (33, true, W r8), (34, true, .bool true), (35, true, .bool true), (36, true, .bool true), (37, true, W a), (38, true, W r9), (39, true, W a), (40, true, W r10), (41, true, .bool true), (42, true, .bool true), (4, true, .bool true), (2, true, .pointer (some ⟨g1, 0, none⟩)), (3, true, .pointer (some ⟨g2, 0, none⟩)), (4, true, .bool false)] [(true, g1, 24, (Wl a)), (true, g2, 24, (Wl b))] ac w := hJ
  refine then_n ?_
  refine wp_ret ?_
  exact bodyPost_ret (res1 rfl (rv_t hs rfl)) hs.defers ⟨rfl, hs.below⟩
theorem fmul_law (a b : Nat) (ha : a < 2 ^ 256) (hb : b < 2 ^ 256) (w0 : World) : Calls Try.prog 4 #[W a, W b] w0 fun e w' => e = .returned (.bool true) ∧ Below w0.heap.size w0 w' := by
  refine enter (n := 15) (args := [W a, W b]) Try.func4 rfl rfl (Nat.le_of_ble_eq_true rfl) fun ac hs => ?_
  refine wp_seq ?_
  refine wp_region_lit ?_
  refine lstep (wpO_plain rfl (op_box hs none none (cs := (Wl a)) rfl rfl rfl rfl rfl rfl fun g1 ac w hs => ?_))
  refine lstep (wpO_plain rfl (op_box hs none none (cs := (Wl b)) rfl rfl rfl rfl rfl rfl fun g2 ac w hs => ?_))
  refine lstep (wpO_plain rfl (op_assign hs none rfl rfl rfl rfl fun ac hs => ?_))
  refine wpList_nil ?_
  refine then_n ?_
  refine wp_seq ?_
  replace hs : St 15 w0 [(2, true, .pointer (some ⟨g1, 0, none⟩)), (3, true, .pointer (some ⟨g2, 0, none⟩)), (4, true, .bool false)] [(true, g1, 24, (Wl a)), (true, g2, 24, (Wl b))] ac w := hs.re ⟨rfl, rfl, rfl, trivial⟩
  obtain ⟨r3, hr3, lr3⟩ : ∃ z0, a * b % Pf = z0 ∧ z0 < 2 ^ 256 := ⟨_, rfl, modP_lt _⟩
  obtain ⟨r4, hr4, lr4⟩ : ∃ z0, a * b % Pf = z0 ∧ z0 < 2 ^ 256 := ⟨_, rfl, modP_lt _⟩
  refine region_inv [([], [1, 2, 3, 4, 5, 6, 7, 8, 9, 10]), ([0], [2, 3, 4, 5, 6, 7, 8, 9, 10]), ([0, 1], [4, 7, 8, 9, 10]), ([0, 1], [4, 7, 8, 9, 10]), ([0, 1, 2, 3], [7, 8, 9, 10]), ([0, 1], [7, 8, 9, 10]), ([0, 1], [7, 8, 9, 10]), ([0, 1, 2, 3, 4, 5, 6], [8, 9, 10]), ([0, 1, 2, 3, 4, 5, 6, 7], [9, 10]), ([0, 1, 2, 3, 4, 5, 6, 7, 8], [10]), ([0, 1, 2, 3, 4, 5, 6, 7, 8, 9], [])] (fun L ac w => St 15 w0 [(5, L 0, .bool true), (6, L 1, .bool true), (7, L 2, W a), (8, L 3, W b), (9, L 4, W r3), (10, L 5, W a), (11, L 6, W b), (12, L 7, W r4), (13, L 8, .bool true), (14, L 9, .bool true), (4, L 10, .bool true), (2, true, .pointer (some ⟨g1, 0, none⟩)), (3, true, .pointer (some ⟨g2, 0, none⟩)), (4, true, .bool false)] [(true, g1, 24, (Wl a)), (true, g2, 24, (Wl b))] ac w) (by kernel_rfl) (by kernel_rfl) ?_ ?_ ?_
  · exact hs.drew.skip.skip.skip.skip.skip.skip.skip.skip.skip.skip.skip
  · refine ⟨?_, ?_, ?_, ?_, ?_, ?_, ?_, ?_, ?_, ?_, ?_, trivial⟩
    · intro L ac w hJ
      have hs := hJ
      refine wpO_plain rfl (op_call (F := 10) hs (some 0) (v := .bool true) rfl rfl rfl rfl (Try.call10 _) alive_c rfl fun ac w hs => ?_)
      exact hs
    · intro L ac w hJ
      have hs := hJ
      refine wpO_plain rfl (op_move hs (some 1) rfl rfl rfl rfl fun ac hs => ?_)
      exact hs
    · intro L ac w hJ
      have hs := hJ
      refine wpO_in hs rfl rfl rfl (op_load hs (some 2) 0 (v := W a) rfl rfl rfl rfl Try.isAgg24 Try.sizeOf24 rfl rfl fun ac hs => ?_)
      exact hs
    · intro L ac w hJ
      have hs := hJ
      refine wpO_in hs rfl rfl rfl (op_load hs (some 3) 1 (v := W b) rfl rfl rfl rfl Try.isAgg24 Try.sizeOf24 rfl rfl fun ac hs => ?_)
      exact hs
    · intro L ac w hJ
      have hs := hJ
      refine wpO_in hs rfl rfl rfl (op_call (F := 21) hs (some 4) (v := W r3) rfl rfl rfl rfl (Try.call21 _) (fmul_c a b r3 ha hb hr3) rfl fun ac w hs => ?_)
      exact hs
    · intro L ac w hJ
      have hs := hJ
      refine wpO_in hs rfl rfl rfl (op_load hs (some 5) 0 (v := W a) rfl rfl rfl rfl Try.isAgg24 Try.sizeOf24 rfl rfl fun ac hs => ?_)
      exact hs
    · intro L ac w hJ
      have hs := hJ
      refine wpO_in hs rfl rfl rfl (op_load hs (some 6) 1 (v := W b) rfl rfl rfl rfl Try.isAgg24 Try.sizeOf24 rfl rfl fun ac hs => ?_)
      exact hs
    · intro L ac w hJ
      have hs := hJ
      refine wpO_in hs rfl rfl rfl (op_call (F := 22) hs (some 7) (v := W r4) rfl rfl rfl rfl (Try.call22 _) (rfmul_c a b r4 ha hb hr4) rfl fun ac w hs => ?_)
      exact hs
    · intro L ac w hJ
      have hs := hJ
      refine wpO_in hs rfl rfl rfl (op_bin hs (some 8) (v := .bool true) rfl rfl rfl rfl (fun w => run_eqGuard_agg w .eql 24 _ _ _ _ Try.eqGuardType24) (eqlW r3 r4 lr3 lr4 true (decide_eq_true (by rw [← hr4, ← hr3]))) rfl fun ac hs => ?_)
      exact hs
    · intro L ac w hJ
      have hs := hJ
      refine wpO_plain rfl (op_pickT hs (some 9) rfl rfl rfl rfl rfl fun ac hs => ?_)
      exact hs
    · intro L ac w hJ
      have hs := hJ
      refine wpO_plain rfl (op_assign hs (some 10) rfl rfl rfl rfl fun ac hs => ?_)
      exact hs
  intro ac w hJ
  replace hs : St 15 w0 [(5, true, .bool true), (6, true, .bool true), (7, true, W a), (8, true, W b), (9, true, W r3), (10, true, W a), (11, true, W b), (12, true, W r4), (13, true, .bool true), (14, true, .bool true), (4, true, .bool true), (2, true, .pointer (some ⟨g1, 0, none⟩)), (3, true, .pointer (some ⟨g2, 0, none⟩)), (4, true, .bool false)] [(true, g1, 24, (Wl a)), (true, g2, 24, (Wl b))] ac w := hJ
  refine then_n ?_
  refine wp_ret ?_
  exact bodyPost_ret (res1 rfl (rv_t hs rfl)) hs.defers ⟨rfl, hs.below⟩
theorem pow_law (a n : Nat) (ha : a < 2 ^ 256) (hn : n < 2 ^ 256) (w0 : World) : Calls Try.prog 5 #[W a, W n] w0 fun e w' => e = .returned (.bool true) ∧ Below w0.heap.size w0 w' := by
  refine enter (n := 46) (args := [W a, W n]) Try.func5 rfl rfl (Nat.le_of_ble_eq_true rfl) fun ac hs => ?_
  refine wp_seq ?_
  refine wp_region_lit ?_
  refine lstep (wpO_plain rfl (op_box hs none none (cs := (Wl a)) rfl rfl rfl rfl rfl rfl fun g1 ac w hs => ?_))
  refine lstep (wpO_plain rfl (op_box hs none none (cs := (Wl n)) rfl rfl rfl rfl rfl rfl fun g2 ac w hs => ?_))
  refine lstep (wpO_plain rfl (op_assign hs none rfl rfl rfl rfl fun ac hs => ?_))
  refine wpList_nil ?_
  refine then_n ?_
  refine wp_seq ?_
  refine wp_region_lit ?_
  refine lstep (wpO_plain rfl (op_load hs none 0 (v := W a) rfl rfl rfl rfl Try.isAgg24 Try.sizeOf24 rfl rfl fun ac hs => ?_))
  obtain ⟨y3, hy3, ly3⟩ : ∃ z0, frV a = z0 ∧ z0 < 2 ^ 256 := ⟨_, rfl, frV_lt _⟩
  obtain ⟨q4, hq4⟩ : ∃ z0, frB a = z0 := ⟨_, rfl⟩
  refine lstep (wpO_plain rfl (op_call (F := 23) hs none (v := .tuple #[W y3, .bool q4]) rfl rfl rfl rfl (Try.call23 _) (froot_c a y3 q4 ha hy3 hq4) rfl fun ac w hs => ?_))
  refine lstep (wpO_plain rfl (op_move hs none rfl rfl rfl rfl fun ac hs => ?_))
  refine lstep (wpO_plain rfl (op_extract hs none rfl rfl rfl rfl rfl fun ac hs => ?_))
  refine lstep (wpO_plain rfl (op_extract hs none rfl rfl rfl rfl rfl fun ac hs => ?_))
  refine lstep (wpO_plain rfl (op_alloc hs none none (cs := [.int .u64 0, .int .u64 0, .int .u64 0, .int .u64 0]) rfl rfl Try.zeroValue24 (by kernel_rfl) rfl rfl fun g5 ac w hs => ?_))
  refine lstep (wpO_plain rfl (op_store hs 2 (vs := (Wl y3)) rfl rfl rfl rfl rfl Try.sizeOf24 rfl rfl rfl rfl rfl fun w hs => ?_))
  refine lstep (wpO_plain rfl (op_assign hs none rfl rfl rfl rfl fun ac hs => ?_))
  refine wpList_nil ?_
  refine then_n ?_
  refine wp_seq ?_
  refine wp_region_lit ?_
  refine lstep (wpO_plain rfl (op_load hs none 0 (v := W a) rfl rfl rfl rfl Try.isAgg24 Try.sizeOf24 rfl rfl fun ac hs => ?_))
  obtain ⟨y6, hy6, ly6⟩ : ∃ z0, frV a = z0 ∧ z0 < 2 ^ 256 := ⟨_, rfl, frV_lt _⟩
  obtain ⟨q7, hq7⟩ : ∃ z0, frB a = z0 := ⟨_, rfl⟩
  refine lstep (wpO_plain rfl (op_call (F := 24) hs none (v := .tuple #[W y6, .bool q7]) rfl rfl rfl rfl (Try.call24 _) (rfroot_c a y6 q7 ha hy6 hq7) rfl fun ac w hs => ?_))
  refine lstep (wpO_plain rfl (op_move hs none rfl rfl rfl rfl fun ac hs => ?_))
  refine lstep (wpO_plain rfl (op_extract hs none rfl rfl rfl rfl rfl fun ac hs => ?_))
  refine lstep (wpO_plain rfl (op_extract hs none rfl rfl rfl rfl rfl fun ac hs => ?_))
  refine lstep (wpO_plain rfl (op_alloc hs none none (cs := [.int .u64 0, .int .u64 0, .int .u64 0, .int .u64 0]) rfl rfl Try.zeroValue24 (by kernel_rfl) rfl rfl fun g8 ac w hs => ?_))
  refine lstep (wpO_plain rfl (op_store hs 3 (vs := (Wl y6)) rfl rfl rfl rfl rfl Try.sizeOf24 rfl rfl rfl rfl rfl fun w hs => ?_))
  refine lstep (wpO_plain rfl (op_assign hs none rfl rfl rfl rfl fun ac hs => ?_))
  refine wpList_nil ?_
  refine then_n ?_
  refine wp_seq ?_
  replace hs : St 46 w0 [(2, true, .pointer (some ⟨g1, 0, none⟩)), (3, true, .pointer (some ⟨g2, 0, none⟩)), (4, true, .bool false), (5, true, .pointer (some ⟨g5, 0, none⟩)), (6, true, .bool q4), (7, true, .pointer (some ⟨g8, 0, none⟩)), (8, true, .bool q7)] [(true, g1, 24, (Wl a)), (true, g2, 24, (Wl n)), (true, g5, 24, (Wl y3)), (true, g8, 24, (Wl y6))] ac w := hs.re ⟨rfl, rfl, rfl, rfl, rfl, rfl, rfl, trivial⟩
  obtain ⟨r9, hr9, lr9⟩ : ∃ z0, a ^ n % Pf = z0 ∧ z0 < 2 ^ 256 := ⟨_, rfl, modP_lt _⟩
  obtain ⟨r10, hr10, lr10⟩ : ∃ z0, a ^ n % Pf = z0 ∧ z0 < 2 ^ 256 := ⟨_, rfl, modP_lt _⟩
  obtain ⟨r11, hr11, lr11⟩ : ∃ z0, pinv Pf a = z0 ∧ z0 < 2 ^ 256 := ⟨_, rfl, modP_lt _⟩
  obtain ⟨r12, hr12, lr12⟩ : ∃ z0, pinv Pf a = z0 ∧ z0 < 2 ^ 256 := ⟨_, rfl, modP_lt _⟩
  refine region_inv [([], [1, 2, 3, 4, 5, 6, 7, 8, 9, 10, 11, 12, 13, 14, 15, 16, 17, 18, 19, 20, 21, 22, 23, 24, 25, 26, 27]), ([0], [2, 3, 4, 5, 6, 7, 8, 9, 10, 11, 12, 13, 14, 15, 16, 17, 18, 19, 20, 21, 22, 23, 24, 25, 26, 27]), ([0, 1], [4, 7, 8, 9, 10, 11, 12, 13, 14, 15, 16, 17, 18, 19, 20, 21, 22, 23, 24, 25, 26, 27]), ([0, 1], [4, 7, 8, 9, 10, 11, 12, 13, 14, 15, 16, 17, 18, 19, 20, 21, 22, 23, 24, 25, 26, 27]), ([0, 1, 2, 3], [7, 8, 9, 10, 11, 12, 13, 14, 15, 16, 17, 18, 19, 20, 21, 22, 23, 24, 25, 26, 27]), ([0, 1], [7, 8, 9, 10, 11, 12, 13, 14, 15, 16, 17, 18, 19, 20, 21, 22, 23, 24, 25, 26, 27]), ([0, 1], [7, 8, 9, 10, 11, 12, 13, 14, 15, 16, 17, 18, 19, 20, 21, 22, 23, 24, 25, 26, 27]), ([0, 1, 2, 3, 4, 5, 6], [8, 9, 10, 11, 12, 13, 14, 15, 16, 17, 18, 19, 20, 21, 22, 23, 24, 25, 26, 27]), ([0, 1, 2, 3, 4, 5, 6, 7], [9, 10, 11, 12, 13, 14, 15, 16, 17, 18, 19, 20, 21, 22, 23, 24, 25, 26, 27]), ([0, 1, 2, 3, 4, 5, 6, 7, 8], [10, 11, 12, 13, 14, 15, 16, 17, 18, 19, 20, 21, 22, 23, 24, 25, 26, 27]), ([0, 1, 2, 3, 4, 5, 6, 7, 8, 9], [11, 12, 13, 14, 15, 16, 17, 18, 19, 20, 21, 22, 23, 24, 25, 26, 27]), ([0, 1, 2, 3, 4, 5, 6, 7, 8, 9, 10], [12, 14, 15, 16, 17, 18, 19, 20, 21, 22, 23, 24, 25, 26, 27]), ([0, 1, 2, 3, 4, 5, 6, 7, 8, 9, 10, 11], [14, 15, 16, 17, 18, 19, 20, 21, 22, 23, 24, 25, 26, 27]), ([0, 1, 2, 3, 4, 5, 6, 7, 8, 9, 10], [14, 15, 16, 17, 18, 19, 20, 21, 22, 23, 24, 25, 26, 27]), ([0, 1, 2, 3, 4, 5, 6, 7, 8, 9, 10, 11, 12, 13], [15, 16, 17, 18, 19, 20, 21, 22, 23, 24, 25, 26, 27]), ([0, 1, 2, 3, 4, 5, 6, 7, 8, 9, 10, 11, 12, 13, 14], [16, 17, 18, 19, 20, 21, 22, 23, 24, 25, 26, 27]), ([0, 1, 2, 3, 4, 5, 6, 7, 8, 9, 10, 11, 12, 13, 14, 15], [17, 18, 19, 20, 21, 22, 23, 24, 25, 26, 27]), ([0, 1, 2, 3, 4, 5, 6, 7, 8, 9, 10, 11, 12, 13, 14, 15, 16], [18, 19, 20, 21, 22, 23, 24, 25, 26, 27]), ([0, 1, 2, 3, 4, 5, 6, 7, 8, 9, 10, 11, 12, 13, 14, 15, 16, 17], [20, 21, 22, 23, 24, 25, 26, 27]), ([0, 1, 2, 3, 4, 5, 6, 7, 8, 9, 10, 11, 12, 13, 14, 15, 16, 17], [20, 21, 22, 23, 24, 25, 26, 27]), ([0, 1, 2, 3, 4, 5, 6, 7, 8, 9, 10, 11, 12, 13, 14, 15, 16, 17, 18, 19], [21, 22, 23, 24, 25, 26, 27]), ([0, 1, 2, 3, 4, 5, 6, 7, 8, 9, 10, 11, 12, 13, 14, 15, 16, 17, 18, 19, 20], [22, 23, 24, 25, 26, 27]), ([0, 1, 2, 3, 4, 5, 6, 7, 8, 9, 10, 11, 12, 13, 14, 15, 16, 17, 18, 19, 20, 21], [23, 24, 25, 26, 27]), ([0, 1, 2, 3, 4, 5, 6, 7, 8, 9, 10, 11, 12, 13, 14, 15, 16, 17, 18, 19, 20, 21, 22], [25, 26, 27]), ([0, 1, 2, 3, 4, 5, 6, 7, 8, 9, 10, 11, 12, 13, 14, 15, 16, 17, 18, 19, 20, 21, 22], [25, 26, 27]), ([0, 1, 2, 3, 4, 5, 6, 7, 8, 9, 10, 11, 12, 13, 14, 15, 16, 17, 18, 19, 20, 21, 22, 23, 24], [26, 27]), ([0, 1, 2, 3, 4, 5, 6, 7, 8, 9, 10, 11, 12, 13, 14, 15, 16, 17, 18, 19, 20, 21, 22, 23, 24, 25], [27]), ([0, 1, 2, 3, 4, 5, 6, 7, 8, 9, 10, 11, 12, 13, 14, 15, 16, 17, 18, 19, 20, 21, 22, 23, 24, 25, 26], [])] (fun L ac w => St 46 w0 [(19, L 0, .bool true), (20, L 1, .bool true), (21, L 2, W a), (22, L 3, W n), (23, L 4, W r9), (24, L 5, W a), (25, L 6, W n), (26, L 7, W r10), (27, L 8, .bool true), (28, L 9, .bool true), (29, L 10, .bool true), (30, L 11, W a), (31, L 12, W r11), (32, L 13, W a), (33, L 14, W r12), (34, L 15, .bool true), (35, L 16, .bool true), (36, L 17, .bool true), (37, L 18, W y3), (38, L 19, W y6), (39, L 20, .bool true), (40, L 21, .bool true), (41, L 22, .bool true), (42, L 23, .bool q4), (43, L 24, .bool q7), (44, L 25, .bool true), (45, L 26, .bool true), (4, L 27, .bool true), (2, true, .pointer (some ⟨g1, 0, none⟩)), (3, true, .pointer (some ⟨g2, 0, none⟩)), (4, true, .bool false), (5, true, .pointer (some ⟨g5, 0, none⟩)), (6, true, .bool q4), (7, true, .pointer (some ⟨g8, 0, none⟩)), (8, true, .bool q7)] [(true, g1, 24, (Wl a)), (true, g2, 24, (Wl n)), (true, g5, 24, (Wl y3)), (true, g8, 24, (Wl y6))] ac w) (by kernel_rfl) (by kernel_rfl) ?_ ?_ ?_
  · exact hs.drew.skip.skip.skip.skip.skip.skip.skip.skip.skip.skip.skip.skip.skip.skip.skip.skip.skip.skip.skip.skip.skip.skip.skip.skip.skip.skip.skip.skip
  · refine ⟨?_, ?_, ?_, ?_, ?_, ?_, ?_, ?_, ?_, ?_, ?_, ?_, ?_, ?_, ?_, ?_, ?_, ?_, ?_, ?_, ?_, ?_, ?_, ?_, ?_, ?_, ?_, ?_, trivial⟩
    · intro L ac w hJ
      have hs := hJ
      refine wpO_plain rfl (op_call (F := 10) hs (some 0) (v := .bool true) rfl rfl rfl rfl (Try.call10 _) alive_c rfl fun ac w hs => ?_)
      exact hs
    · intro L ac w hJ
      have hs := hJ
      refine wpO_plain rfl (op_move hs (some 1) rfl rfl rfl rfl fun ac hs => ?_)
      exact hs
    · intro L ac w hJ
      have hs := hJ
      refine wpO_in hs rfl rfl rfl (op_load hs (some 2) 0 (v := W a) rfl rfl rfl rfl Try.isAgg24 Try.sizeOf24 rfl rfl fun ac hs => ?_)
      exact hs
    · intro L ac w hJ
      have hs := hJ
      refine wpO_in hs rfl rfl rfl (op_load hs (some 3) 1 (v := W n) rfl rfl rfl rfl Try.isAgg24 Try.sizeOf24 rfl rfl fun ac hs => ?_)
      exact hs
    · intro L ac w hJ
      have hs := hJ
      refine wpO_in hs rfl rfl rfl (op_call (F := 25) hs (some 4) (v := W r9) rfl rfl rfl rfl (Try.call25 _) (fpow_c a n r9 ha hn hr9) rfl fun ac w hs => ?_)
      exact hs
    · intro L ac w hJ
      have hs := hJ
      refine wpO_in hs rfl rfl rfl (op_load hs (some 5) 0 (v := W a) rfl rfl rfl rfl Try.isAgg24 Try.sizeOf24 rfl rfl fun ac hs => ?_)
      exact hs
    · intro L ac w hJ
      have hs := hJ
      refine wpO_in hs rfl rfl rfl (op_load hs (some 6) 1 (v := W n) rfl rfl rfl rfl Try.isAgg24 Try.sizeOf24 rfl rfl fun ac hs => ?_)
      exact hs
    · intro L ac w hJ
      have hs := hJ
      refine wpO_in hs rfl rfl rfl (op_call (F := 26) hs (some 7) (v := W r10) rfl rfl rfl rfl (Try.call26 _) (rfpow_c a n r10 ha hn hr10) rfl fun ac w hs => ?_)
      exact hs
    · intro L ac w hJ
      have hs := hJ
      refine wpO_in hs rfl rfl rfl (op_bin hs (some 8) (v := .bool true) rfl rfl rfl rfl (fun w => run_eqGuard_agg w .eql 24 _ _ _ _ Try.eqGuardType24) (eqlW r9 r10 lr9 lr10 true (decide_eq_true (by rw [← hr10, ← hr9]))) rfl fun ac hs => ?_)
      exact hs
    · intro L ac w hJ
      have hs := hJ
      refine wpO_plain rfl (op_pickT hs (some 9) rfl rfl rfl rfl rfl fun ac hs => ?_)
      exact hs
    · intro L ac w hJ
      have hs := hJ
      refine wpO_plain rfl (op_move hs (some 10) rfl rfl rfl rfl fun ac hs => ?_)
      exact hs
    · intro L ac w hJ
      have hs := hJ
      refine wpO_in hs rfl rfl rfl (op_load hs (some 11) 0 (v := W a) rfl rfl rfl rfl Try.isAgg24 Try.sizeOf24 rfl rfl fun ac hs => ?_)
      exact hs
    · intro L ac w hJ
      have hs := hJ
      refine wpO_in hs rfl rfl rfl (op_call (F := 27) hs (some 12) (v := W r11) rfl rfl rfl rfl (Try.call27 _) (finv_c a r11 ha hr11) rfl fun ac w hs => ?_)
      exact hs
    · intro L ac w hJ
      have hs := hJ
      refine wpO_in hs rfl rfl rfl (op_load hs (some 13) 0 (v := W a) rfl rfl rfl rfl Try.isAgg24 Try.sizeOf24 rfl rfl fun ac hs => ?_)
      exact hs
    · intro L ac w hJ
      have hs := hJ
      refine wpO_in hs rfl rfl rfl (op_call (F := 28) hs (some 14) (v := W r12) rfl rfl rfl rfl (Try.call28 _) (rfinv_c a r12 ha hr12) rfl fun ac w hs => ?_)
      exact hs
    · intro L ac w hJ
      have hs := hJ
      refine wpO_in hs rfl rfl rfl (op_bin hs (some 15) (v := .bool true) rfl rfl rfl rfl (fun w => run_eqGuard_agg w .eql 24 _ _ _ _ Try.eqGuardType24) (eqlW r11 r12 lr11 lr12 true (decide_eq_true (by rw [← hr12, ← hr11]))) rfl fun ac hs => ?_)
      exact hs
    · intro L ac w hJ
      have hs := hJ
      refine wpO_plain rfl (op_pickT hs (some 16) rfl rfl rfl rfl rfl fun ac hs => ?_)
      exact hs
    · intro L ac w hJ
      have hs := hJ
      refine wpO_plain rfl (op_move hs (some 17) rfl rfl rfl rfl fun ac hs => ?_)
      exact hs
    · intro L ac w hJ
      have hs := hJ
      refine wpO_in hs rfl rfl rfl (op_load hs (some 18) 2 (v := W y3) rfl rfl rfl rfl Try.isAgg24 Try.sizeOf24 rfl rfl fun ac hs => ?_)
      exact hs
    · intro L ac w hJ
      have hs := hJ
      refine wpO_in hs rfl rfl rfl (op_load hs (some 19) 3 (v := W y6) rfl rfl rfl rfl Try.isAgg24 Try.sizeOf24 rfl rfl fun ac hs => ?_)
      exact hs
    · intro L ac w hJ
      have hs := hJ
      refine wpO_in hs rfl rfl rfl (op_bin hs (some 20) (v := .bool true) rfl rfl rfl rfl (fun w => run_eqGuard_agg w .eql 24 _ _ _ _ Try.eqGuardType24) (eqlW y3 y6 ly3 ly6 true (decide_eq_true (by rw [← hy6, ← hy3]))) rfl fun ac hs => ?_)
      exact hs
    · intro L ac w hJ
      have hs := hJ
      refine wpO_plain rfl (op_pickT hs (some 21) rfl rfl rfl rfl rfl fun ac hs => ?_)
      exact hs
    · intro L ac w hJ
      have hs := hJ
      refine wpO_plain rfl (op_move hs (some 22) rfl rfl rfl rfl fun ac hs => ?_)
      exact hs
    · intro L ac w hJ
      have hs := hJ
      refine wpO_in hs rfl rfl rfl (op_move hs (some 23) rfl rfl rfl rfl fun ac hs => ?_)
      exact hs
    · intro L ac w hJ
      have hs := hJ
      refine wpO_in hs rfl rfl rfl (op_move hs (some 24) rfl rfl rfl rfl fun ac hs => ?_)
      exact hs
    · intro L ac w hJ
      have hs := hJ
      refine wpO_in hs rfl rfl rfl (op_bin hs (some 25) (v := .bool true) rfl rfl rfl rfl (fun _ => rfl) (eqlB Try.underlying4 (by rw [← hq4, ← hq7])) rfl fun ac hs => ?_)
      exact hs
    · intro L ac w hJ
      have hs := hJ
      refine wpO_plain rfl (op_pickT hs (some 26) rfl rfl rfl rfl rfl fun ac hs => ?_)
      exact hs
    · intro L ac w hJ
      have hs := hJ
      refine wpO_plain rfl (op_assign hs (some 27) rfl rfl rfl rfl fun ac hs => ?_)
      exact hs
  intro ac w hJ
  replace hs : St 46 w0 [(19, true, .bool true), (20, true, .bool true), (21, true, W a), (22, true, W n), (23, true, W r9), (24, true, W a), (25, true, W n), (26, true, W r10), (27, true, .bool true), (28, true, .bool true), (29, true, .bool true), (30, true, W a), (31, true, W r11), (32, true, W a), (33, true, W r12), (34, true, .bool true), (35, true, .bool true), (36, true, .bool true), (37, true, W y3), (38, true, W y6), (39, true, .bool true), (40, true, .bool true), (41, true, .bool true), (42, true, .bool q4), (43, true, .bool q7), (44, true, .bool true), (45, true, .bool true), (4, true, .bool true), (2, true, .pointer (some ⟨g1, 0, none⟩)), (3, true, .pointer (some ⟨g2, 0, none⟩)), (4, true, .bool false), (5, true, .pointer (some ⟨g5, 0, none⟩)), (6, true, .bool q4), (7, true, .pointer (some ⟨g8, 0, none⟩)), (8, true, .bool q7)] [(true, g1, 24, (Wl a)), (true, g2, 24, (Wl n)), (true, g5, 24, (Wl y3)), (true, g8, 24, (Wl y6))] ac w := hJ
  refine then_n ?_
  refine wp_ret ?_
  exact bodyPost_ret (res1 rfl (rv_t hs rfl)) hs.defers ⟨rfl, hs.below⟩
theorem left_law (a b : Nat) (ha : a < 2 ^ 256) (hb : b < 2 ^ 256) (w0 : World) : Calls Try.prog 9 #[W a, W b] w0 fun e w' => e = .returned (.bool true) ∧ Below w0.heap.size w0 w' := by
  refine enter (n := 78) (args := [W a, W b]) Try.func9 rfl rfl (Nat.le_of_ble_eq_true rfl) fun ac hs => ?_
  refine wp_seq ?_
  refine wp_region_lit ?_
  refine lstep (wpO_plain rfl (op_box hs none none (cs := (Wl a)) rfl rfl rfl rfl rfl rfl fun g1 ac w hs => ?_))
  refine lstep (wpO_plain rfl (op_box hs none none (cs := (Wl b)) rfl rfl rfl rfl rfl rfl fun g2 ac w hs => ?_))
  refine lstep (wpO_plain rfl (op_assign hs none rfl rfl rfl rfl fun ac hs => ?_))
  refine wpList_nil ?_
  refine then_n ?_
  refine wp_seq ?_
  refine wp_region_lit ?_
  refine lstep (wpO_plain rfl (op_call (F := 11) hs none (v := W Pf) rfl rfl rfl rfl (Try.call11 _) prime_c rfl fun ac w hs => ?_))
  refine lstep (wpO_plain rfl (op_alloc hs none none (cs := [.int .u64 0, .int .u64 0, .int .u64 0, .int .u64 0]) rfl rfl Try.zeroValue24 (by kernel_rfl) rfl rfl fun g3 ac w hs => ?_))
  refine lstep (wpO_plain rfl (op_store hs 2 (vs := (Wl Pf)) rfl rfl rfl rfl rfl Try.sizeOf24 rfl rfl rfl rfl rfl fun w hs => ?_))
  refine wpList_nil ?_
  refine then_n ?_
  refine wp_seq ?_
  refine wp_region_lit ?_
  refine lstep (wpO_plain rfl (op_load hs none 0 (v := W a) rfl rfl rfl rfl Try.isAgg24 Try.sizeOf24 rfl rfl fun ac hs => ?_))
  refine lstep (wpO_plain rfl (op_load hs none 1 (v := W b) rfl rfl rfl rfl Try.isAgg24 Try.sizeOf24 rfl rfl fun ac hs => ?_))
  obtain ⟨lo4, hlo4, llo4⟩ : ∃ z0, a * b % 2 ^ 256 = z0 ∧ z0 < 2 ^ 256 := ⟨_, rfl, Nat.mod_lt _ (Nat.two_pow_pos 256)⟩
  obtain ⟨hi5, hhi5, lhi5⟩ : ∃ z0, a * b / 2 ^ 256 = z0 ∧ z0 < 2 ^ 256 := ⟨_, rfl, mul_hi ha hb⟩
  refine lstep (wpO_plain rfl (op_call (F := 30) hs none (v := .tuple #[W lo4, W hi5]) rfl rfl rfl rfl (Try.call30 _) (fun w => wmul_at w a b lo4 hi5 ha hb hlo4 hhi5) rfl fun ac w hs => ?_))
  refine lstep (wpO_plain rfl (op_move hs none rfl rfl rfl rfl fun ac hs => ?_))
  refine lstep (wpO_plain rfl (op_extract hs none rfl rfl rfl rfl rfl fun ac hs => ?_))
  refine lstep (wpO_plain rfl (op_extract hs none rfl rfl rfl rfl rfl fun ac hs => ?_))
  refine lstep (wpO_plain rfl (op_alloc hs none none (cs := [.int .u64 0, .int .u64 0, .int .u64 0, .int .u64 0]) rfl rfl Try.zeroValue24 (by kernel_rfl) rfl rfl fun g6 ac w hs => ?_))
  refine lstep (wpO_plain rfl (op_alloc hs none none (cs := [.int .u64 0, .int .u64 0, .int .u64 0, .int .u64 0]) rfl rfl Try.zeroValue24 (by kernel_rfl) rfl rfl fun g7 ac w hs => ?_))
  refine lstep (wpO_plain rfl (op_store hs 3 (vs := (Wl lo4)) rfl rfl rfl rfl rfl Try.sizeOf24 rfl rfl rfl rfl rfl fun w hs => ?_))
  refine lstep (wpO_plain rfl (op_store hs 4 (vs := (Wl hi5)) rfl rfl rfl rfl rfl Try.sizeOf24 rfl rfl rfl rfl rfl fun w hs => ?_))
  refine wpList_nil ?_
  refine then_n ?_
  refine wp_seq ?_
  refine wp_region_lit ?_
  refine lstep (wpO_plain rfl (op_load hs none 4 (v := W hi5) rfl rfl rfl rfl Try.isAgg24 Try.sizeOf24 rfl rfl fun ac hs => ?_))
  refine lstep (wpO_plain rfl (op_load hs none 3 (v := W lo4) rfl rfl rfl rfl Try.isAgg24 Try.sizeOf24 rfl rfl fun ac hs => ?_))
  refine lstep (wpO_plain rfl (op_load hs none 2 (v := W Pf) rfl rfl rfl rfl Try.isAgg24 Try.sizeOf24 rfl rfl fun ac hs => ?_))
  obtain ⟨r8, hr8, lr8⟩ : ∃ z0, (hi5 * 2 ^ 256 + lo4) % Pf = z0 ∧ z0 < 2 ^ 256 := ⟨_, rfl, Nat.lt_trans (Nat.mod_lt _ Pf_pos) Pf_lt⟩
  refine lstep (wpO_plain rfl (op_call (F := 31) hs none (v := .tuple #[W r8, .int .i64 0]) rfl rfl rfl rfl (Try.call31 _) (wrem_c hi5 lo4 Pf r8 lhi5 llo4 Pf_lt Pf_pos hr8) rfl fun ac w hs => ?_))
  refine lstep (wpO_plain rfl (op_move hs none rfl rfl rfl rfl fun ac hs => ?_))
  refine lstep (wpO_plain rfl (op_extract hs none rfl rfl rfl rfl rfl fun ac hs => ?_))
  refine lstep (wpO_plain rfl (op_extract hs none rfl rfl rfl rfl rfl fun ac hs => ?_))
  refine lstep (wpO_plain rfl (op_alloc hs none none (cs := [.int .u64 0, .int .u64 0, .int .u64 0, .int .u64 0]) rfl rfl Try.zeroValue24 (by kernel_rfl) rfl rfl fun g9 ac w hs => ?_))
  refine lstep (wpO_plain rfl (op_store hs 5 (vs := (Wl r8)) rfl rfl rfl rfl rfl Try.sizeOf24 rfl rfl rfl rfl rfl fun w hs => ?_))
  refine lstep (wpO_plain rfl (op_assign hs none rfl rfl rfl rfl fun ac hs => ?_))
  refine wpList_nil ?_
  refine then_n ?_
  refine wp_seq ?_
  refine wp_region_lit ?_
  refine lstep (wpO_plain rfl (op_load hs none 0 (v := W a) rfl rfl rfl rfl Try.isAgg24 Try.sizeOf24 rfl rfl fun ac hs => ?_))
  refine lstep (wpO_plain rfl (op_load hs none 1 (v := W b) rfl rfl rfl rfl Try.isAgg24 Try.sizeOf24 rfl rfl fun ac hs => ?_))
  obtain ⟨s10, hs10, ls10⟩ : ∃ z0, (a + b) % 2 ^ 256 = z0 ∧ z0 < 2 ^ 256 := ⟨_, rfl, Nat.mod_lt _ (Nat.two_pow_pos 256)⟩
  obtain ⟨c11, hc11⟩ : ∃ z0, (a + b) / 2 ^ 256 = z0 := ⟨_, rfl⟩
  refine lstep (wpO_plain rfl (op_call (F := 32) hs none (v := .tuple #[W s10, .int .u64 ((c11 : Nat) : Int)]) rfl rfl rfl rfl (Try.call32 _) (fun w => add_at w a b s10 c11 ha hb hs10 hc11) rfl fun ac w hs => ?_))
  refine lstep (wpO_plain rfl (op_move hs none rfl rfl rfl rfl fun ac hs => ?_))
  refine lstep (wpO_plain rfl (op_extract hs none rfl rfl rfl rfl rfl fun ac hs => ?_))
  refine lstep (wpO_plain rfl (op_extract hs none rfl rfl rfl rfl rfl fun ac hs => ?_))
  refine lstep (wpO_plain rfl (op_alloc hs none none (cs := [.int .u64 0, .int .u64 0, .int .u64 0, .int .u64 0]) rfl rfl Try.zeroValue24 (by kernel_rfl) rfl rfl fun g12 ac w hs => ?_))
  refine lstep (wpO_plain rfl (op_store hs 6 (vs := (Wl s10)) rfl rfl rfl rfl rfl Try.sizeOf24 rfl rfl rfl rfl rfl fun w hs => ?_))
  refine lstep (wpO_plain rfl (op_assign hs none rfl rfl rfl rfl fun ac hs => ?_))
  refine wpList_nil ?_
  refine then_n ?_
  refine wp_seq ?_
  replace hs : St 78 w0 [(2, true, .pointer (some ⟨g1, 0, none⟩)), (3, true, .pointer (some ⟨g2, 0, none⟩)), (4, true, .bool false), (5, true, .pointer (some ⟨g3, 0, none⟩)), (8, true, .pointer (some ⟨g9, 0, none⟩)), (9, true, .int .i64 0), (10, true, .pointer (some ⟨g12, 0, none⟩)), (11, true, .int .u64 ((c11 : Nat) : Int))] [(true, g1, 24, (Wl a)), (true, g2, 24, (Wl b)), (true, g3, 24, (Wl Pf)), (true, g6, 24, (Wl lo4)), (true, g7, 24, (Wl hi5)), (true, g9, 24, (Wl r8)), (true, g12, 24, (Wl s10))] ac w := hs.re ⟨rfl, rfl, rfl, rfl, rfl, rfl, rfl, rfl, trivial⟩
  obtain ⟨r13, hr13, lr13⟩ : ∃ z0, (c11 * 2 ^ 256 + s10) % Pf = z0 ∧ z0 < 2 ^ 256 := ⟨_, rfl, Nat.lt_trans (Nat.mod_lt _ Pf_pos) Pf_lt⟩
  refine region_inv [([], [1, 4, 5, 6, 7, 9, 10]), ([0], [4, 5, 6, 7, 9, 10]), ([], [4, 5, 6, 7, 9, 10]), ([], [4, 5, 6, 7, 9, 10]), ([0, 1, 2, 3], [5, 6, 7, 9, 10]), ([0, 1, 2, 3, 4], [6, 7, 9, 10]), ([0, 1, 2, 3, 4, 5], [9, 10]), ([0, 1, 2, 3, 4, 5], [10]), ([], [9, 10]), ([0, 1, 2, 3, 4, 5, 6, 8], [10]), ([0, 1, 2, 3, 4, 5, 6, 7, 8, 9], [])] (fun L ac w => ∃ (g14 : Nat), St 78 w0 [(37, L 0, .int .u64 ((c11 : Nat) : Int)), (38, L 1, W c11), (39, L 2, W s10), (40, L 3, W Pf), (41, L 4, .tuple #[W r13, .int .i64 0]), (36, L 5, .tuple #[W r13, .int .i64 0]), (42, L 6, W r13), (43, L 7, .int .i64 0), (12, L 8, .pointer (some ⟨g14, 0, none⟩)), (13, L 10, .int .i64 0), (2, true, .pointer (some ⟨g1, 0, none⟩)), (3, true, .pointer (some ⟨g2, 0, none⟩)), (4, true, .bool false), (5, true, .pointer (some ⟨g3, 0, none⟩)), (8, true, .pointer (some ⟨g9, 0, none⟩)), (9, true, .int .i64 0), (10, true, .pointer (some ⟨g12, 0, none⟩)), (11, true, .int .u64 ((c11 : Nat) : Int))] [(true, g1, 24, (Wl a)), (true, g2, 24, (Wl b)), (true, g3, 24, (Wl Pf)), (true, g6, 24, (Wl lo4)), (true, g7, 24, (Wl hi5)), (true, g9, 24, (Wl r8)), (true, g12, 24, (Wl s10)), (L 8, g14, 24, (cond (L 9) (Wl r13) [.int .u64 0, .int .u64 0, .int .u64 0, .int .u64 0]))] ac w) (by kernel_rfl) (by kernel_rfl) ?_ ?_ ?_
  · exact ⟨0, hs.drew.skip.skip.skip.skip.skip.skip.skip.skip.skip.skip.pad⟩
  · refine ⟨?_, ?_, ?_, ?_, ?_, ?_, ?_, ?_, ?_, ?_, ?_, trivial⟩
    · intro L ac w hJ
      obtain ⟨g14, hs⟩ := hJ
      refine wpO_plain rfl (op_move hs (some 0) rfl rfl rfl rfl fun ac hs => ?_)
      exact ⟨g14, hs⟩
    · intro L ac w hJ
      obtain ⟨g14, hs⟩ := hJ
      refine wpO_plain rfl (op_call (F := 33) hs (some 1) (v := W c11) rfl rfl rfl rfl (Try.call33 _) (fun w => from_any w c11 (c_lt64 hc11 ha hb)) rfl fun ac w hs => ?_)
      exact ⟨g14, hs⟩
    · intro L ac w hJ
      obtain ⟨g14, hs⟩ := hJ
      refine wpO_plain rfl (op_load hs (some 2) 6 (v := W s10) rfl rfl rfl rfl Try.isAgg24 Try.sizeOf24 rfl rfl fun ac hs => ?_)
      exact ⟨g14, hs⟩
    · intro L ac w hJ
      obtain ⟨g14, hs⟩ := hJ
      refine wpO_plain rfl (op_load hs (some 3) 2 (v := W Pf) rfl rfl rfl rfl Try.isAgg24 Try.sizeOf24 rfl rfl fun ac hs => ?_)
      exact ⟨g14, hs⟩
    · intro L ac w hJ
      obtain ⟨g14, hs⟩ := hJ
      refine wpO_plain rfl (op_call (F := 31) hs (some 4) (v := .tuple #[W r13, .int .i64 0]) rfl rfl rfl rfl (Try.call31 _) (wrem_c c11 s10 Pf r13 (c_lt256 hc11 ha hb) ls10 Pf_lt Pf_pos hr13) rfl fun ac w hs => ?_)
      exact ⟨g14, hs⟩
    · intro L ac w hJ
      obtain ⟨g14, hs⟩ := hJ
      refine wpO_plain rfl (op_move hs (some 5) rfl rfl rfl rfl fun ac hs => ?_)
      exact ⟨g14, hs⟩
    · intro L ac w hJ
      obtain ⟨g14, hs⟩ := hJ
      refine wpO_plain rfl (op_extract hs (some 6) rfl rfl rfl rfl rfl fun ac hs => ?_)
      exact ⟨g14, hs⟩
    · intro L ac w hJ
      obtain ⟨g14, hs⟩ := hJ
      refine wpO_plain rfl (op_extract hs (some 7) rfl rfl rfl rfl rfl fun ac hs => ?_)
      exact ⟨g14, hs⟩
    · intro L ac w hJ
      obtain ⟨g14, hs⟩ := hJ
      refine wpO_plain rfl (op_alloc hs (some 8) (some 7) (cs := [.int .u64 0, .int .u64 0, .int .u64 0, .int .u64 0]) rfl rfl Try.zeroValue24 (by kernel_rfl) rfl rfl fun g14 ac w hs => ?_)
      exact ⟨g14, hs⟩
    · intro L ac w hJ
      obtain ⟨g14, hs⟩ := hJ
      refine wpO_plain rfl (op_store hs 7 (vs := (Wl r13)) rfl rfl rfl rfl rfl Try.sizeOf24 rfl rfl rfl rfl rfl fun w hs => ?_)
      exact ⟨g14, hs⟩
    · intro L ac w hJ
      obtain ⟨g14, hs⟩ := hJ
      refine wpO_plain rfl (op_assign hs (some 9) rfl rfl rfl rfl fun ac hs => ?_)
      exact ⟨g14, hs⟩
  intro ac w hJ
  obtain ⟨g14, hs⟩ := hJ
  replace hs : St 78 w0 [(37, true, .int .u64 ((c11 : Nat) : Int)), (38, true, W c11), (39, true, W s10), (40, true, W Pf), (41, true, .tuple #[W r13, .int .i64 0]), (36, true, .tuple #[W r13, .int .i64 0]), (42, true, W r13), (43, true, .int .i64 0), (12, true, .pointer (some ⟨g14, 0, none⟩)), (13, true, .int .i64 0), (2, true, .pointer (some ⟨g1, 0, none⟩)), (3, true, .pointer (some ⟨g2, 0, none⟩)), (4, true, .bool false), (5, true, .pointer (some ⟨g3, 0, none⟩)), (8, true, .pointer (some ⟨g9, 0, none⟩)), (9, true, .int .i64 0), (10, true, .pointer (some ⟨g12, 0, none⟩)), (11, true, .int .u64 ((c11 : Nat) : Int))] [(true, g1, 24, (Wl a)), (true, g2, 24, (Wl b)), (true, g3, 24, (Wl Pf)), (true, g6, 24, (Wl lo4)), (true, g7, 24, (Wl hi5)), (true, g9, 24, (Wl r8)), (true, g12, 24, (Wl s10)), (true, g14, 24, (Wl r13))] ac w := hs
  refine then_n ?_
  refine wp_seq ?_
  replace hs : St 78 w0 [(2, true, .pointer (some ⟨g1, 0, none⟩)), (3, true, .pointer (some ⟨g2, 0, none⟩)), (4, true, .bool false), (5, true, .pointer (some ⟨g3, 0, none⟩)), (8, true, .pointer (some ⟨g9, 0, none⟩)), (9, true, .int .i64 0), (12, true, .pointer (some ⟨g14, 0, none⟩)), (13, true, .int .i64 0)] [(true, g1, 24, (Wl a)), (true, g2, 24, (Wl b)), (true, g3, 24, (Wl Pf)), (true, g6, 24, (Wl lo4)), (true, g7, 24, (Wl hi5)), (true, g9, 24, (Wl r8)), (true, g12, 24, (Wl s10)), (true, g14, 24, (Wl r13))] ac w := hs.re ⟨rfl, rfl, rfl, rfl, rfl, rfl, rfl, rfl, trivial⟩
  obtain ⟨s15, hs15, ls15⟩ : ∃ z0, (Pf + 4294968273) % 2 ^ 256 = z0 ∧ z0 < 2 ^ 256 := ⟨_, rfl, Nat.mod_lt _ (Nat.two_pow_pos 256)⟩
  obtain ⟨c16, hc16⟩ : ∃ z0, (Pf + 4294968273) / 2 ^ 256 = z0 := ⟨_, rfl⟩
  refine region_inv [([], [2, 3, 4, 5, 7, 8]), ([], [2, 3, 4, 5, 7, 8]), ([0, 1], [3, 4, 5, 7, 8]), ([0, 1, 2], [4, 5, 7, 8]), ([0, 1, 2, 3], [7, 8]), ([0, 1, 2, 3], [8]), ([], [7, 8]), ([0, 1, 2, 3, 4, 6], [8]), ([0, 1, 2, 3, 4, 5, 6, 7], [])] (fun L ac w => ∃ (g17 : Nat), St 78 w0 [(45, L 0, W Pf), (46, L 1, W 4294968273), (47, L 2, .tuple #[W s15, .int .u64 ((c16 : Nat) : Int)]), (44, L 3, .tuple #[W s15, .int .u64 ((c16 : Nat) : Int)]), (48, L 4, W s15), (49, L 5, .int .u64 ((c16 : Nat) : Int)), (14, L 6, .pointer (some ⟨g17, 0, none⟩)), (15, L 8, .int .u64 ((c16 : Nat) : Int)), (2, true, .pointer (some ⟨g1, 0, none⟩)), (3, true, .pointer (some ⟨g2, 0, none⟩)), (4, true, .bool false), (5, true, .pointer (some ⟨g3, 0, none⟩)), (8, true, .pointer (some ⟨g9, 0, none⟩)), (9, true, .int .i64 0), (12, true, .pointer (some ⟨g14, 0, none⟩)), (13, true, .int .i64 0)] [(true, g1, 24, (Wl a)), (true, g2, 24, (Wl b)), (true, g3, 24, (Wl Pf)), (true, g6, 24, (Wl lo4)), (true, g7, 24, (Wl hi5)), (true, g9, 24, (Wl r8)), (true, g12, 24, (Wl s10)), (true, g14, 24, (Wl r13)), (L 6, g17, 24, (cond (L 7) (Wl s15) [.int .u64 0, .int .u64 0, .int .u64 0, .int .u64 0]))] ac w) (by kernel_rfl) (by kernel_rfl) ?_ ?_ ?_
  · exact ⟨0, hs.drew.skip.skip.skip.skip.skip.skip.skip.skip.pad⟩
  · refine ⟨?_, ?_, ?_, ?_, ?_, ?_, ?_, ?_, ?_, trivial⟩
    · intro L ac w hJ
      obtain ⟨g17, hs⟩ := hJ
      refine wpO_plain rfl (op_load hs (some 0) 2 (v := W Pf) rfl rfl rfl rfl Try.isAgg24 Try.sizeOf24 rfl rfl fun ac hs => ?_)
      exact ⟨g17, hs⟩
    · intro L ac w hJ
      obtain ⟨g17, hs⟩ := hJ
      refine wpO_plain rfl (op_call (F := 33) hs (some 1) (v := W 4294968273) rfl rfl rfl rfl (Try.call33 _) (fun w => from_any w 4294968273 (by decide)) rfl fun ac w hs => ?_)
      exact ⟨g17, hs⟩
    · intro L ac w hJ
      obtain ⟨g17, hs⟩ := hJ
      refine wpO_plain rfl (op_call (F := 32) hs (some 2) (v := .tuple #[W s15, .int .u64 ((c16 : Nat) : Int)]) rfl rfl rfl rfl (Try.call32 _) (fun w => add_at w Pf 4294968273 s15 c16 Pf_lt (by decide) hs15 hc16) rfl fun ac w hs => ?_)
      exact ⟨g17, hs⟩
    · intro L ac w hJ
      obtain ⟨g17, hs⟩ := hJ
      refine wpO_plain rfl (op_move hs (some 3) rfl rfl rfl rfl fun ac hs => ?_)
      exact ⟨g17, hs⟩
    · intro L ac w hJ
      obtain ⟨g17, hs⟩ := hJ
      refine wpO_plain rfl (op_extract hs (some 4) rfl rfl rfl rfl rfl fun ac hs => ?_)
      exact ⟨g17, hs⟩
    · intro L ac w hJ
      obtain ⟨g17, hs⟩ := hJ
      refine wpO_plain rfl (op_extract hs (some 5) rfl rfl rfl rfl rfl fun ac hs => ?_)
      exact ⟨g17, hs⟩
    · intro L ac w hJ
      obtain ⟨g17, hs⟩ := hJ
      refine wpO_plain rfl (op_alloc hs (some 6) (some 8) (cs := [.int .u64 0, .int .u64 0, .int .u64 0, .int .u64 0]) rfl rfl Try.zeroValue24 (by kernel_rfl) rfl rfl fun g17 ac w hs => ?_)
      exact ⟨g17, hs⟩
    · intro L ac w hJ
      obtain ⟨g17, hs⟩ := hJ
      refine wpO_plain rfl (op_store hs 8 (vs := (Wl s15)) rfl rfl rfl rfl rfl Try.sizeOf24 rfl rfl rfl rfl rfl fun w hs => ?_)
      exact ⟨g17, hs⟩
    · intro L ac w hJ
      obtain ⟨g17, hs⟩ := hJ
      refine wpO_plain rfl (op_assign hs (some 7) rfl rfl rfl rfl fun ac hs => ?_)
      exact ⟨g17, hs⟩
  intro ac w hJ
  obtain ⟨g17, hs⟩ := hJ
  replace hs : St 78 w0 [(45, true, W Pf), (46, true, W 4294968273), (47, true, .tuple #[W s15, .int .u64 ((c16 : Nat) : Int)]), (44, true, .tuple #[W s15, .int .u64 ((c16 : Nat) : Int)]), (48, true, W s15), (49, true, .int .u64 ((c16 : Nat) : Int)), (14, true, .pointer (some ⟨g17, 0, none⟩)), (15, true, .int .u64 ((c16 : Nat) : Int)), (2, true, .pointer (some ⟨g1, 0, none⟩)), (3, true, .pointer (some ⟨g2, 0, none⟩)), (4, true, .bool false), (5, true, .pointer (some ⟨g3, 0, none⟩)), (8, true, .pointer (some ⟨g9, 0, none⟩)), (9, true, .int .i64 0), (12, true, .pointer (some ⟨g14, 0, none⟩)), (13, true, .int .i64 0)] [(true, g1, 24, (Wl a)), (true, g2, 24, (Wl b)), (true, g3, 24, (Wl Pf)), (true, g6, 24, (Wl lo4)), (true, g7, 24, (Wl hi5)), (true, g9, 24, (Wl r8)), (true, g12, 24, (Wl s10)), (true, g14, 24, (Wl r13)), (true, g17, 24, (Wl s15))] ac w := hs
  refine then_n ?_
  refine wp_seq ?_
  replace hs : St 78 w0 [(2, true, .pointer (some ⟨g1, 0, none⟩)), (3, true, .pointer (some ⟨g2, 0, none⟩)), (4, true, .bool false), (8, true, .pointer (some ⟨g9, 0, none⟩)), (9, true, .int .i64 0), (12, true, .pointer (some ⟨g14, 0, none⟩)), (13, true, .int .i64 0), (14, true, .pointer (some ⟨g17, 0, none⟩))] [(true, g1, 24, (Wl a)), (true, g2, 24, (Wl b)), (true, g3, 24, (Wl Pf)), (true, g6, 24, (Wl lo4)), (true, g7, 24, (Wl hi5)), (true, g9, 24, (Wl r8)), (true, g12, 24, (Wl s10)), (true, g14, 24, (Wl r13)), (true, g17, 24, (Wl s15))] ac w := hs.re ⟨rfl, rfl, rfl, rfl, rfl, rfl, rfl, rfl, trivial⟩
  obtain ⟨r18, hr18, lr18⟩ : ∃ z0, a * b % Pf = z0 ∧ z0 < 2 ^ 256 := ⟨_, rfl, modP_lt _⟩
  obtain ⟨r19, hr19, lr19⟩ : ∃ z0, (a + b) % Pf = z0 ∧ z0 < 2 ^ 256 := ⟨_, rfl, modP_lt _⟩
  refine region_inv [([], [1, 2, 3, 4, 5, 6, 7, 8, 9, 10, 11, 12, 13, 14, 15, 16, 17, 18, 19, 20, 21, 22, 23, 24, 25, 26, 27, 28]), ([0], [2, 3, 4, 5, 6, 7, 8, 9, 10, 11, 12, 13, 14, 15, 16, 17, 18, 19, 20, 21, 22, 23, 24, 25, 26, 27, 28]), ([0, 1], [3, 4, 5, 6, 7, 8, 9, 10, 11, 12, 13, 14, 15, 16, 17, 18, 19, 20, 21, 22, 23, 24, 25, 26, 27, 28]), ([0, 1, 2], [4, 5, 6, 7, 8, 9, 10, 11, 12, 13, 14, 15, 16, 17, 18, 19, 20, 21, 22, 23, 24, 25, 26, 27, 28]), ([0, 1, 2, 3], [5, 6, 7, 8, 9, 10, 11, 12, 13, 14, 15, 16, 17, 18, 19, 20, 21, 22, 23, 24, 25, 26, 27, 28]), ([0, 1, 2, 3, 4], [6, 7, 8, 9, 10, 11, 12, 13, 14, 15, 16, 17, 18, 19, 20, 21, 22, 23, 24, 25, 26, 27, 28]), ([0, 1, 2, 3, 4, 5], [7, 8, 9, 10, 11, 12, 13, 14, 15, 16, 17, 18, 19, 20, 21, 22, 23, 24, 25, 26, 27, 28]), ([0, 1, 2, 3, 4, 5, 6], [8, 9, 10, 11, 12, 13, 14, 15, 16, 17, 18, 19, 20, 21, 22, 23, 24, 25, 26, 27, 28]), ([0, 1, 2, 3, 4, 5, 6, 7], [9, 10, 11, 12, 13, 14, 15, 16, 17, 18, 19, 20, 21, 22, 23, 24, 25, 26, 27, 28]), ([0, 1, 2, 3, 4, 5, 6, 7, 8], [10, 11, 12, 13, 14, 15, 16, 17, 18, 19, 20, 21, 22, 23, 24, 25, 26, 27, 28]), ([0, 1, 2, 3, 4, 5, 6, 7, 8, 9], [12, 14, 15, 16, 17, 18, 19, 20, 21, 22, 23, 24, 25, 26, 27, 28]), ([0, 1, 2, 3, 4, 5, 6, 7, 8, 9], [12, 14, 15, 16, 17, 18, 19, 20, 21, 22, 23, 24, 25, 26, 27, 28]), ([0, 1, 2, 3, 4, 5, 6, 7, 8, 9, 10, 11], [14, 15, 16, 17, 18, 19, 20, 21, 22, 23, 24, 25, 26, 27, 28]), ([0, 1, 2, 3, 4, 5, 6, 7, 8, 9], [14, 15, 16, 17, 18, 19, 20, 21, 22, 23, 24, 25, 26, 27, 28]), ([0, 1, 2, 3, 4, 5, 6, 7, 8, 9, 10, 11, 12, 13], [15, 16, 17, 18, 19, 20, 21, 22, 23, 24, 25, 26, 27, 28]), ([0, 1, 2, 3, 4, 5, 6, 7, 8, 9, 10, 11, 12, 13, 14], [16, 17, 18, 19, 20, 21, 22, 23, 24, 25, 26, 27, 28]), ([0, 1, 2, 3, 4, 5, 6, 7, 8, 9, 10, 11, 12, 13, 14, 15], [17, 18, 19, 20, 21, 22, 23, 24, 25, 26, 27, 28]), ([0, 1, 2, 3, 4, 5, 6, 7, 8, 9, 10, 11, 12, 13, 14, 15, 16], [19, 21, 22, 23, 24, 25, 26, 27, 28]), ([0, 1, 2, 3, 4, 5, 6, 7, 8, 9, 10, 11, 12, 13, 14, 15, 16], [19, 21, 22, 23, 24, 25, 26, 27, 28]), ([0, 1, 2, 3, 4, 5, 6, 7, 8, 9, 10, 11, 12, 13, 14, 15, 16, 17, 18], [21, 22, 23, 24, 25, 26, 27, 28]), ([0, 1, 2, 3, 4, 5, 6, 7, 8, 9, 10, 11, 12, 13, 14, 15, 16], [21, 22, 23, 24, 25, 26, 27, 28]), ([0, 1, 2, 3, 4, 5, 6, 7, 8, 9, 10, 11, 12, 13, 14, 15, 16, 17, 18, 19, 20], [22, 23, 24, 25, 26, 27, 28]), ([0, 1, 2, 3, 4, 5, 6, 7, 8, 9, 10, 11, 12, 13, 14, 15, 16, 17, 18, 19, 20, 21], [23, 24, 25, 26, 27, 28]), ([0, 1, 2, 3, 4, 5, 6, 7, 8, 9, 10, 11, 12, 13, 14, 15, 16, 17, 18, 19, 20, 21, 22], [24, 25, 26, 27, 28]), ([0, 1, 2, 3, 4, 5, 6, 7, 8, 9, 10, 11, 12, 13, 14, 15, 16, 17, 18, 19, 20, 21, 22, 23], [26, 27, 28]), ([0, 1, 2, 3, 4, 5, 6, 7, 8, 9, 10, 11, 12, 13, 14, 15, 16, 17, 18, 19, 20, 21, 22, 23], [26, 27, 28]), ([0, 1, 2, 3, 4, 5, 6, 7, 8, 9, 10, 11, 12, 13, 14, 15, 16, 17, 18, 19, 20, 21, 22, 23, 24, 25], [27, 28]), ([0, 1, 2, 3, 4, 5, 6, 7, 8, 9, 10, 11, 12, 13, 14, 15, 16, 17, 18, 19, 20, 21, 22, 23, 24, 25, 26], [28]), ([0, 1, 2, 3, 4, 5, 6, 7, 8, 9, 10, 11, 12, 13, 14, 15, 16, 17, 18, 19, 20, 21, 22, 23, 24, 25, 26, 27], [])] (fun L ac w => St 78 w0 [(50, L 0, .bool true), (51, L 1, .bool true), (52, L 2, .int .i64 0), (53, L 3, .bool true), (54, L 4, .bool true), (55, L 5, .bool true), (56, L 6, .int .i64 0), (57, L 7, .bool true), (58, L 8, .bool true), (59, L 9, .bool true), (60, L 10, W a), (61, L 11, W b), (62, L 12, W r18), (63, L 13, W r8), (64, L 14, .bool true), (65, L 15, .bool true), (66, L 16, .bool true), (67, L 17, W a), (68, L 18, W b), (69, L 19, W r19), (70, L 20, W r13), (71, L 21, .bool true), (72, L 22, .bool true), (73, L 23, .bool true), (74, L 24, W s15), (75, L 25, .agg #[.int .u64 0, .int .u64 0, .int .u64 0, .int .u64 0]), (76, L 26, .bool true), (77, L 27, .bool true), (4, L 28, .bool true), (2, true, .pointer (some ⟨g1, 0, none⟩)), (3, true, .pointer (some ⟨g2, 0, none⟩)), (4, true, .bool false), (8, true, .pointer (some ⟨g9, 0, none⟩)), (9, true, .int .i64 0), (12, true, .pointer (some ⟨g14, 0, none⟩)), (13, true, .int .i64 0), (14, true, .pointer (some ⟨g17, 0, none⟩))] [(true, g1, 24, (Wl a)), (true, g2, 24, (Wl b)), (true, g3, 24, (Wl Pf)), (true, g6, 24, (Wl lo4)), (true, g7, 24, (Wl hi5)), (true, g9, 24, (Wl r8)), (true, g12, 24, (Wl s10)), (true, g14, 24, (Wl r13)), (true, g17, 24, (Wl s15))] ac w) (by kernel_rfl) (by kernel_rfl) ?_ ?_ ?_
  · exact hs.drew.skip.skip.skip.skip.skip.skip.skip.skip.skip.skip.skip.skip.skip.skip.skip.skip.skip.skip.skip.skip.skip.skip.skip.skip.skip.skip.skip.skip.skip
  · refine ⟨?_, ?_, ?_, ?_, ?_, ?_, ?_, ?_, ?_, ?_, ?_, ?_, ?_, ?_, ?_, ?_, ?_, ?_, ?_, ?_, ?_, ?_, ?_, ?_, ?_, ?_, ?_, ?_, ?_, trivial⟩
    · intro L ac w hJ
      have hs := hJ
      refine wpO_plain rfl (op_call (F := 10) hs (some 0) (v := .bool true) rfl rfl rfl rfl (Try.call10 _) alive_c rfl fun ac w hs => ?_)
      exact hs
    · intro L ac w hJ
      have hs := hJ
      refine wpO_plain rfl (op_move hs (some 1) rfl rfl rfl rfl fun ac hs => ?_)
      exact hs
    · intro L ac w hJ
      have hs := hJ
      refine wpO_in hs rfl rfl rfl (op_move hs (some 2) rfl rfl rfl rfl fun ac hs => ?_)
      exact hs
    · intro L ac w hJ
      have hs := hJ
      refine wpO_in hs rfl rfl rfl (op_bin hs (some 3) (v := .bool true) rfl rfl rfl rfl (fun _ => rfl) (fun _ => by kernel_rfl) rfl fun ac hs => ?_)
      exact hs
    · intro L ac w hJ
      have hs := hJ
      refine wpO_plain rfl (op_pickT hs (some 4) rfl rfl rfl rfl rfl fun ac hs => ?_)
      exact hs
    · intro L ac w hJ
      have hs := hJ
      refine wpO_plain rfl (op_move hs (some 5) rfl rfl rfl rfl fun ac hs => ?_)
      exact hs
    · intro L ac w hJ
      have hs := hJ
      refine wpO_in hs rfl rfl rfl (op_move hs (some 6) rfl rfl rfl rfl fun ac hs => ?_)
      exact hs
    · intro L ac w hJ
      have hs := hJ
      refine wpO_in hs rfl rfl rfl (op_bin hs (some 7) (v := .bool true) rfl rfl rfl rfl (fun _ => rfl) (fun _ => by kernel_rfl) rfl fun ac hs => ?_)
      exact hs
    · intro L ac w hJ
      have hs := hJ
      refine wpO_plain rfl (op_pickT hs (some 8) rfl rfl rfl rfl rfl fun ac hs => ?_)
      exact hs
    · intro L ac w hJ
      have hs := hJ
      refine wpO_plain rfl (op_move hs (some 9) rfl rfl rfl rfl fun ac hs => ?_)
      exact hs
    · intro L ac w hJ
      have hs := hJ
      refine wpO_in hs rfl rfl rfl (op_load hs (some 10) 0 (v := W a) rfl rfl rfl rfl Try.isAgg24 Try.sizeOf24 rfl rfl fun ac hs => ?_)
      exact hs
    · intro L ac w hJ
      have hs := hJ
      refine wpO_in hs rfl rfl rfl (op_load hs (some 11) 1 (v := W b) rfl rfl rfl rfl Try.isAgg24 Try.sizeOf24 rfl rfl fun ac hs => ?_)
      exact hs
    · intro L ac w hJ
      have hs := hJ
      refine wpO_in hs rfl rfl rfl (op_call (F := 21) hs (some 12) (v := W r18) rfl rfl rfl rfl (Try.call21 _) (fmul_c a b r18 ha hb hr18) rfl fun ac w hs => ?_)
      exact hs
    · intro L ac w hJ
      have hs := hJ
      refine wpO_in hs rfl rfl rfl (op_load hs (some 13) 5 (v := W r8) rfl rfl rfl rfl Try.isAgg24 Try.sizeOf24 rfl rfl fun ac hs => ?_)
      exact hs
    · intro L ac w hJ
      have hs := hJ
      refine wpO_in hs rfl rfl rfl (op_bin hs (some 14) (v := .bool true) rfl rfl rfl rfl (fun w => run_eqGuard_agg w .eql 24 _ _ _ _ Try.eqGuardType24) (eqlW r18 r8 lr18 lr8 true (decide_eq_true (by rw [← hr18, ← hr8, ← hhi5, ← hlo4]; exact fl_leftM _ _ _ _ rfl rfl))) rfl fun ac hs => ?_)
      exact hs
    · intro L ac w hJ
      have hs := hJ
      refine wpO_plain rfl (op_pickT hs (some 15) rfl rfl rfl rfl rfl fun ac hs => ?_)
      exact hs
    · intro L ac w hJ
      have hs := hJ
      refine wpO_plain rfl (op_move hs (some 16) rfl rfl rfl rfl fun ac hs => ?_)
      exact hs
    · intro L ac w hJ
      have hs := hJ
      refine wpO_in hs rfl rfl rfl (op_load hs (some 17) 0 (v := W a) rfl rfl rfl rfl Try.isAgg24 Try.sizeOf24 rfl rfl fun ac hs => ?_)
      exact hs
    · intro L ac w hJ
      have hs := hJ
      refine wpO_in hs rfl rfl rfl (op_load hs (some 18) 1 (v := W b) rfl rfl rfl rfl Try.isAgg24 Try.sizeOf24 rfl rfl fun ac hs => ?_)
      exact hs
    · intro L ac w hJ
      have hs := hJ
      refine wpO_in hs rfl rfl rfl (op_call (F := 15) hs (some 19) (v := W r19) rfl rfl rfl rfl (Try.call15 _) (fadd_c a b r19 ha hb hr19) rfl fun ac w hs => ?_)
      exact hs
    · intro L ac w hJ
      have hs := hJ
      refine wpO_in hs rfl rfl rfl (op_load hs (some 20) 7 (v := W r13) rfl rfl rfl rfl Try.isAgg24 Try.sizeOf24 rfl rfl fun ac hs => ?_)
      exact hs
    · intro L ac w hJ
      have hs := hJ
      refine wpO_in hs rfl rfl rfl (op_bin hs (some 21) (v := .bool true) rfl rfl rfl rfl (fun w => run_eqGuard_agg w .eql 24 _ _ _ _ Try.eqGuardType24) (eqlW r19 r13 lr19 lr13 true (decide_eq_true (by rw [← hr19, ← hr13, ← hc11, ← hs10]; exact fl_left _ _ _ _ rfl rfl))) rfl fun ac hs => ?_)
      exact hs
    · intro L ac w hJ
      have hs := hJ
      refine wpO_plain rfl (op_pickT hs (some 22) rfl rfl rfl rfl rfl fun ac hs => ?_)
      exact hs
    · intro L ac w hJ
      have hs := hJ
      refine wpO_plain rfl (op_move hs (some 23) rfl rfl rfl rfl fun ac hs => ?_)
      exact hs
    · intro L ac w hJ
      have hs := hJ
      refine wpO_in hs rfl rfl rfl (op_load hs (some 24) 8 (v := W s15) rfl rfl rfl rfl Try.isAgg24 Try.sizeOf24 rfl rfl fun ac hs => ?_)
      exact hs
    · intro L ac w hJ
      have hs := hJ
      refine wpO_in hs rfl rfl rfl (op_build hs (some 25) (qs := []) (v := .agg #[.int .u64 0, .int .u64 0, .int .u64 0, .int .u64 0]) rfl rfl rfl rfl (fun _ => by kernel_rfl) rfl fun ac hs => ?_)
      exact hs
    · intro L ac w hJ
      have hs := hJ
      refine wpO_in hs rfl rfl rfl (op_bin hs (some 26) (v := .bool true) rfl rfl rfl rfl (fun w => run_eqGuard_agg w .eql 24 _ _ _ _ Try.eqGuardType24) (eqlW s15 0 ls15 (by decide) true (decide_eq_true (by rw [← hs15]; decide))) rfl fun ac hs => ?_)
      exact hs
    · intro L ac w hJ
      have hs := hJ
      refine wpO_plain rfl (op_pickT hs (some 27) rfl rfl rfl rfl rfl fun ac hs => ?_)
      exact hs
    · intro L ac w hJ
      have hs := hJ
      refine wpO_plain rfl (op_assign hs (some 28) rfl rfl rfl rfl fun ac hs => ?_)
      exact hs
  intro ac w hJ
  replace hs : St 78 w0 [(50, true, .bool true), (51, true, .bool true), (52, true, .int .i64 0), (53, true, .bool true), (54, true, .bool true), (55, true, .bool true), (56, true, .int .i64 0), (57, true, .bool true), (58, true, .bool true), (59, true, .bool true), (60, true, W a), (61, true, W b), (62, true, W r18), (63, true, W r8), (64, true, .bool true), (65, true, .bool true), (66, true, .bool true), (67, true, W a), (68, true, W b), (69, true, W r19), (70, true, W r13), (71, true, .bool true), (72, true, .bool true), (73, true, .bool true), (74, true, W s15), (75, true, .agg #[.int .u64 0, .int .u64 0, .int .u64 0, .int .u64 0]), (76, true, .bool true), (77, true, .bool true), (4, true, .bool true), (2, true, .pointer (some ⟨g1, 0, none⟩)), (3, true, .pointer (some ⟨g2, 0, none⟩)), (4, true, .bool false), (8, true, .pointer (some ⟨g9, 0, none⟩)), (9, true, .int .i64 0), (12, true, .pointer (some ⟨g14, 0, none⟩)), (13, true, .int .i64 0), (14, true, .pointer (some ⟨g17, 0, none⟩))] [(true, g1, 24, (Wl a)), (true, g2, 24, (Wl b)), (true, g3, 24, (Wl Pf)), (true, g6, 24, (Wl lo4)), (true, g7, 24, (Wl hi5)), (true, g9, 24, (Wl r8)), (true, g12, 24, (Wl s10)), (true, g14, 24, (Wl r13)), (true, g17, 24, (Wl s15))] ac w := hJ
  refine then_n ?_
  refine wp_ret ?_
  exact bodyPost_ret (res1 rfl (rv_t hs rfl)) hs.defers ⟨rfl, hs.below⟩
theorem laws_law (a b c : Nat) (ha : a < 2 ^ 256) (hb : b < 2 ^ 256) (hcc : c < 2 ^ 256) (w0 : World) : Calls Try.prog 6 #[W a, W b, W c] w0 fun e w' => e = .returned (.bool true) ∧ Below w0.heap.size w0 w' := by
  refine enter (n := 95) (args := [W a, W b, W c]) Try.func6 rfl rfl (Nat.le_of_ble_eq_true rfl) fun ac hs => ?_
  refine wp_seq ?_
  refine wp_region_lit ?_
  refine lstep (wpO_plain rfl (op_box hs none none (cs := (Wl a)) rfl rfl rfl rfl rfl rfl fun g1 ac w hs => ?_))
  refine lstep (wpO_plain rfl (op_box hs none none (cs := (Wl b)) rfl rfl rfl rfl rfl rfl fun g2 ac w hs => ?_))
  refine lstep (wpO_plain rfl (op_box hs none none (cs := (Wl c)) rfl rfl rfl rfl rfl rfl fun g3 ac w hs => ?_))
  refine lstep (wpO_plain rfl (op_assign hs none rfl rfl rfl rfl fun ac hs => ?_))
  refine wpList_nil ?_
  refine then_n ?_
  refine wp_seq ?_
  replace hs : St 95 w0 [(3, true, .pointer (some ⟨g1, 0, none⟩)), (4, true, .pointer (some ⟨g2, 0, none⟩)), (5, true, .pointer (some ⟨g3, 0, none⟩)), (6, true, .bool false)] [(true, g1, 24, (Wl a)), (true, g2, 24, (Wl b)), (true, g3, 24, (Wl c))] ac w := hs.re ⟨rfl, rfl, rfl, rfl, trivial⟩
  obtain ⟨r4, hr4, lr4⟩ : ∃ z0, (b + c) % Pf = z0 ∧ z0 < 2 ^ 256 := ⟨_, rfl, modP_lt _⟩
  obtain ⟨r5, hr5, lr5⟩ : ∃ z0, a * r4 % Pf = z0 ∧ z0 < 2 ^ 256 := ⟨_, rfl, modP_lt _⟩
  obtain ⟨r6, hr6, lr6⟩ : ∃ z0, a * b % Pf = z0 ∧ z0 < 2 ^ 256 := ⟨_, rfl, modP_lt _⟩
  obtain ⟨r7, hr7, lr7⟩ : ∃ z0, a * c % Pf = z0 ∧ z0 < 2 ^ 256 := ⟨_, rfl, modP_lt _⟩
  obtain ⟨r8, hr8, lr8⟩ : ∃ z0, (r6 + r7) % Pf = z0 ∧ z0 < 2 ^ 256 := ⟨_, rfl, modP_lt _⟩
  refine region_inv [([], [4, 7, 10, 11, 12, 13]), ([], [3, 4, 7, 10, 11, 12, 13]), ([], [3, 4, 7, 10, 11, 12, 13]), ([1, 2], [4, 7, 10, 11, 12, 13]), ([0, 1, 2, 3], [7, 10, 11, 12, 13]), ([], [7, 10, 11, 12, 13]), ([], [7, 10, 11, 12, 13]), ([0, 1, 2, 3, 4, 5, 6], [10, 11, 12, 13]), ([], [10, 11, 12, 13]), ([], [10, 11, 12, 13]), ([0, 1, 2, 3, 4, 5, 6, 7, 8, 9], [11, 12, 13]), ([0, 1, 2, 3, 4, 5, 6, 7, 8, 9, 10], [12, 13]), ([0, 1, 2, 3, 4, 5, 6, 7, 8, 9, 10, 11], [13]), ([0, 1, 2, 3, 4, 5, 6, 7, 8, 9, 10, 11, 12], [])] (fun L ac w => St 95 w0 [(12, L 0, W a), (13, L 1, W b), (14, L 2, W c), (15, L 3, W r4), (16, L 4, W r5), (17, L 5, W a), (18, L 6, W b), (19, L 7, W r6), (20, L 8, W a), (21, L 9, W c), (22, L 10, W r7), (23, L 11, W r8), (24, L 12, .bool true), (7, L 13, .bool true), (3, true, .pointer (some ⟨g1, 0, none⟩)), (4, true, .pointer (some ⟨g2, 0, none⟩)), (5, true, .pointer (some ⟨g3, 0, none⟩)), (6, true, .bool false)] [(true, g1, 24, (Wl a)), (true, g2, 24, (Wl b)), (true, g3, 24, (Wl c))] ac w) (by kernel_rfl) (by kernel_rfl) ?_ ?_ ?_
  · exact hs.drew.skip.skip.skip.skip.skip.skip.skip.skip.skip.skip.skip.skip.skip.skip
  · refine ⟨?_, ?_, ?_, ?_, ?_, ?_, ?_, ?_, ?_, ?_, ?_, ?_, ?_, ?_, trivial⟩
    · intro L ac w hJ
      have hs := hJ
      refine wpO_plain rfl (op_load hs (some 0) 0 (v := W a) rfl rfl rfl rfl Try.isAgg24 Try.sizeOf24 rfl rfl fun ac hs => ?_)
      exact hs
    · intro L ac w hJ
      have hs := hJ
      refine wpO_plain rfl (op_load hs (some 1) 1 (v := W b) rfl rfl rfl rfl Try.isAgg24 Try.sizeOf24 rfl rfl fun ac hs => ?_)
      exact hs
    · intro L ac w hJ
      have hs := hJ
      refine wpO_plain rfl (op_load hs (some 2) 2 (v := W c) rfl rfl rfl rfl Try.isAgg24 Try.sizeOf24 rfl rfl fun ac hs => ?_)
      exact hs
    · intro L ac w hJ
      have hs := hJ
      refine wpO_plain rfl (op_call (F := 15) hs (some 3) (v := W r4) rfl rfl rfl rfl (Try.call15 _) (fadd_c b c r4 hb hcc hr4) rfl fun ac w hs => ?_)
      exact hs
    · intro L ac w hJ
      have hs := hJ
      refine wpO_plain rfl (op_call (F := 21) hs (some 4) (v := W r5) rfl rfl rfl rfl (Try.call21 _) (fmul_c a r4 r5 ha lr4 hr5) rfl fun ac w hs => ?_)
      exact hs
    · intro L ac w hJ
      have hs := hJ
      refine wpO_plain rfl (op_load hs (some 5) 0 (v := W a) rfl rfl rfl rfl Try.isAgg24 Try.sizeOf24 rfl rfl fun ac hs => ?_)
      exact hs
    · intro L ac w hJ
      have hs := hJ
      refine wpO_plain rfl (op_load hs (some 6) 1 (v := W b) rfl rfl rfl rfl Try.isAgg24 Try.sizeOf24 rfl rfl fun ac hs => ?_)
      exact hs
    · intro L ac w hJ
      have hs := hJ
      refine wpO_plain rfl (op_call (F := 21) hs (some 7) (v := W r6) rfl rfl rfl rfl (Try.call21 _) (fmul_c a b r6 ha hb hr6) rfl fun ac w hs => ?_)
      exact hs
    · intro L ac w hJ
      have hs := hJ
      refine wpO_plain rfl (op_load hs (some 8) 0 (v := W a) rfl rfl rfl rfl Try.isAgg24 Try.sizeOf24 rfl rfl fun ac hs => ?_)
      exact hs
    · intro L ac w hJ
      have hs := hJ
      refine wpO_plain rfl (op_load hs (some 9) 2 (v := W c) rfl rfl rfl rfl Try.isAgg24 Try.sizeOf24 rfl rfl fun ac hs => ?_)
      exact hs
    · intro L ac w hJ
      have hs := hJ
      refine wpO_plain rfl (op_call (F := 21) hs (some 10) (v := W r7) rfl rfl rfl rfl (Try.call21 _) (fmul_c a c r7 ha hcc hr7) rfl fun ac w hs => ?_)
      exact hs
    · intro L ac w hJ
      have hs := hJ
      refine wpO_plain rfl (op_call (F := 15) hs (some 11) (v := W r8) rfl rfl rfl rfl (Try.call15 _) (fadd_c r6 r7 r8 lr6 lr7 hr8) rfl fun ac w hs => ?_)
      exact hs
    · intro L ac w hJ
      have hs := hJ
      refine wpO_plain rfl (op_bin hs (some 12) (v := .bool true) rfl rfl rfl rfl (fun w => run_eqGuard_agg w .eql 24 _ _ _ _ Try.eqGuardType24) (eqlW r5 r8 lr5 lr8 true (decide_eq_true (by rw [← hr8, ← hr7, ← hr6, ← hr5, ← hr4]; exact fl_dist _ _ _))) rfl fun ac hs => ?_)
      exact hs
    · intro L ac w hJ
      have hs := hJ
      refine wpO_plain rfl (op_assign hs (some 13) rfl rfl rfl rfl fun ac hs => ?_)
      exact hs
  intro ac w hJ
  replace hs : St 95 w0 [(12, true, W a), (13, true, W b), (14, true, W c), (15, true, W r4), (16, true, W r5), (17, true, W a), (18, true, W b), (19, true, W r6), (20, true, W a), (21, true, W c), (22, true, W r7), (23, true, W r8), (24, true, .bool true), (7, true, .bool true), (3, true, .pointer (some ⟨g1, 0, none⟩)), (4, true, .pointer (some ⟨g2, 0, none⟩)), (5, true, .pointer (some ⟨g3, 0, none⟩)), (6, true, .bool false)] [(true, g1, 24, (Wl a)), (true, g2, 24, (Wl b)), (true, g3, 24, (Wl c))] ac w := hJ
  refine then_n ?_
  refine wp_seq ?_
  replace hs : St 95 w0 [(3, true, .pointer (some ⟨g1, 0, none⟩)), (4, true, .pointer (some ⟨g2, 0, none⟩)), (5, true, .pointer (some ⟨g3, 0, none⟩)), (6, true, .bool false), (7, true, .bool true)] [(true, g1, 24, (Wl a)), (true, g2, 24, (Wl b)), (true, g3, 24, (Wl c))] ac w := hs.re ⟨rfl, rfl, rfl, rfl, rfl, trivial⟩
  obtain ⟨r9, hr9, lr9⟩ : ∃ z0, b * c % Pf = z0 ∧ z0 < 2 ^ 256 := ⟨_, rfl, modP_lt _⟩
  obtain ⟨r10, hr10, lr10⟩ : ∃ z0, a * r9 % Pf = z0 ∧ z0 < 2 ^ 256 := ⟨_, rfl, modP_lt _⟩
  obtain ⟨r11, hr11, lr11⟩ : ∃ z0, a * b % Pf = z0 ∧ z0 < 2 ^ 256 := ⟨_, rfl, modP_lt _⟩
  obtain ⟨r12, hr12, lr12⟩ : ∃ z0, r11 * c % Pf = z0 ∧ z0 < 2 ^ 256 := ⟨_, rfl, modP_lt _⟩
  refine region_inv [([], [4, 7, 9, 10, 11]), ([], [3, 4, 7, 9, 10, 11]), ([], [3, 4, 7, 9, 10, 11]), ([1, 2], [4, 7, 9, 10, 11]), ([0, 1, 2, 3], [7, 9, 10, 11]), ([], [7, 9, 10, 11]), ([], [7, 9, 10, 11]), ([0, 1, 2, 3, 4, 5, 6], [9, 10, 11]), ([], [9, 10, 11]), ([0, 1, 2, 3, 4, 5, 6, 7, 8], [10, 11]), ([0, 1, 2, 3, 4, 5, 6, 7, 8, 9], [11]), ([0, 1, 2, 3, 4, 5, 6, 7, 8, 9, 10], [])] (fun L ac w => St 95 w0 [(25, L 0, W a), (26, L 1, W b), (27, L 2, W c), (28, L 3, W r9), (29, L 4, W r10), (30, L 5, W a), (31, L 6, W b), (32, L 7, W r11), (33, L 8, W c), (34, L 9, W r12), (35, L 10, .bool true), (8, L 11, .bool true), (3, true, .pointer (some ⟨g1, 0, none⟩)), (4, true, .pointer (some ⟨g2, 0, none⟩)), (5, true, .pointer (some ⟨g3, 0, none⟩)), (6, true, .bool false), (7, true, .bool true)] [(true, g1, 24, (Wl a)), (true, g2, 24, (Wl b)), (true, g3, 24, (Wl c))] ac w) (by kernel_rfl) (by kernel_rfl) ?_ ?_ ?_
  · exact hs.drew.skip.skip.skip.skip.skip.skip.skip.skip.skip.skip.skip.skip
  · refine ⟨?_, ?_, ?_, ?_, ?_, ?_, ?_, ?_, ?_, ?_, ?_, ?_, trivial⟩
    · intro L ac w hJ
      have hs := hJ
      refine wpO_plain rfl (op_load hs (some 0) 0 (v := W a) rfl rfl rfl rfl Try.isAgg24 Try.sizeOf24 rfl rfl fun ac hs => ?_)
      exact hs
    · intro L ac w hJ
      have hs := hJ
      refine wpO_plain rfl (op_load hs (some 1) 1 (v := W b) rfl rfl rfl rfl Try.isAgg24 Try.sizeOf24 rfl rfl fun ac hs => ?_)
      exact hs
    · intro L ac w hJ
      have hs := hJ
      refine wpO_plain rfl (op_load hs (some 2) 2 (v := W c) rfl rfl rfl rfl Try.isAgg24 Try.sizeOf24 rfl rfl fun ac hs => ?_)
      exact hs
    · intro L ac w hJ
      have hs := hJ
      refine wpO_plain rfl (op_call (F := 21) hs (some 3) (v := W r9) rfl rfl rfl rfl (Try.call21 _) (fmul_c b c r9 hb hcc hr9) rfl fun ac w hs => ?_)
      exact hs
    · intro L ac w hJ
      have hs := hJ
      refine wpO_plain rfl (op_call (F := 21) hs (some 4) (v := W r10) rfl rfl rfl rfl (Try.call21 _) (fmul_c a r9 r10 ha lr9 hr10) rfl fun ac w hs => ?_)
      exact hs
    · intro L ac w hJ
      have hs := hJ
      refine wpO_plain rfl (op_load hs (some 5) 0 (v := W a) rfl rfl rfl rfl Try.isAgg24 Try.sizeOf24 rfl rfl fun ac hs => ?_)
      exact hs
    · intro L ac w hJ
      have hs := hJ
      refine wpO_plain rfl (op_load hs (some 6) 1 (v := W b) rfl rfl rfl rfl Try.isAgg24 Try.sizeOf24 rfl rfl fun ac hs => ?_)
      exact hs
    · intro L ac w hJ
      have hs := hJ
      refine wpO_plain rfl (op_call (F := 21) hs (some 7) (v := W r11) rfl rfl rfl rfl (Try.call21 _) (fmul_c a b r11 ha hb hr11) rfl fun ac w hs => ?_)
      exact hs
    · intro L ac w hJ
      have hs := hJ
      refine wpO_plain rfl (op_load hs (some 8) 2 (v := W c) rfl rfl rfl rfl Try.isAgg24 Try.sizeOf24 rfl rfl fun ac hs => ?_)
      exact hs
    · intro L ac w hJ
      have hs := hJ
      refine wpO_plain rfl (op_call (F := 21) hs (some 9) (v := W r12) rfl rfl rfl rfl (Try.call21 _) (fmul_c r11 c r12 lr11 hcc hr12) rfl fun ac w hs => ?_)
      exact hs
    · intro L ac w hJ
      have hs := hJ
      refine wpO_plain rfl (op_bin hs (some 10) (v := .bool true) rfl rfl rfl rfl (fun w => run_eqGuard_agg w .eql 24 _ _ _ _ Try.eqGuardType24) (eqlW r10 r12 lr10 lr12 true (decide_eq_true (by rw [← hr12, ← hr11, ← hr10, ← hr9]; exact fl_massoc _ _ _))) rfl fun ac hs => ?_)
      exact hs
    · intro L ac w hJ
      have hs := hJ
      refine wpO_plain rfl (op_assign hs (some 11) rfl rfl rfl rfl fun ac hs => ?_)
      exact hs
  intro ac w hJ
  replace hs : St 95 w0 [(25, true, W a), (26, true, W b), (27, true, W c), (28, true, W r9), (29, true, W r10), (30, true, W a), (31, true, W b), (32, true, W r11), (33, true, W c), (34, true, W r12), (35, true, .bool true), (8, true, .bool true), (3, true, .pointer (some ⟨g1, 0, none⟩)), (4, true, .pointer (some ⟨g2, 0, none⟩)), (5, true, .pointer (some ⟨g3, 0, none⟩)), (6, true, .bool false), (7, true, .bool true)] [(true, g1, 24, (Wl a)), (true, g2, 24, (Wl b)), (true, g3, 24, (Wl c))] ac w := hJ
  refine then_n ?_
  refine wp_seq ?_
  replace hs : St 95 w0 [(3, true, .pointer (some ⟨g1, 0, none⟩)), (4, true, .pointer (some ⟨g2, 0, none⟩)), (5, true, .pointer (some ⟨g3, 0, none⟩)), (6, true, .bool false), (7, true, .bool true), (8, true, .bool true)] [(true, g1, 24, (Wl a)), (true, g2, 24, (Wl b)), (true, g3, 24, (Wl c))] ac w := hs.re ⟨rfl, rfl, rfl, rfl, rfl, rfl, trivial⟩
  obtain ⟨r13, hr13, lr13⟩ : ∃ z0, (b + c) % Pf = z0 ∧ z0 < 2 ^ 256 := ⟨_, rfl, modP_lt _⟩
  obtain ⟨r14, hr14, lr14⟩ : ∃ z0, (a + r13) % Pf = z0 ∧ z0 < 2 ^ 256 := ⟨_, rfl, modP_lt _⟩
  obtain ⟨r15, hr15, lr15⟩ : ∃ z0, (a + b) % Pf = z0 ∧ z0 < 2 ^ 256 := ⟨_, rfl, modP_lt _⟩
  obtain ⟨r16, hr16, lr16⟩ : ∃ z0, (r15 + c) % Pf = z0 ∧ z0 < 2 ^ 256 := ⟨_, rfl, modP_lt _⟩
  refine region_inv [([], [4, 7, 9, 10, 11]), ([], [3, 4, 7, 9, 10, 11]), ([], [3, 4, 7, 9, 10, 11]), ([1, 2], [4, 7, 9, 10, 11]), ([0, 1, 2, 3], [7, 9, 10, 11]), ([], [7, 9, 10, 11]), ([], [7, 9, 10, 11]), ([0, 1, 2, 3, 4, 5, 6], [9, 10, 11]), ([], [9, 10, 11]), ([0, 1, 2, 3, 4, 5, 6, 7, 8], [10, 11]), ([0, 1, 2, 3, 4, 5, 6, 7, 8, 9], [11]), ([0, 1, 2, 3, 4, 5, 6, 7, 8, 9, 10], [])] (fun L ac w => St 95 w0 [(36, L 0, W a), (37, L 1, W b), (38, L 2, W c), (39, L 3, W r13), (40, L 4, W r14), (41, L 5, W a), (42, L 6, W b), (43, L 7, W r15), (44, L 8, W c), (45, L 9, W r16), (46, L 10, .bool true), (9, L 11, .bool true), (3, true, .pointer (some ⟨g1, 0, none⟩)), (4, true, .pointer (some ⟨g2, 0, none⟩)), (5, true, .pointer (some ⟨g3, 0, none⟩)), (6, true, .bool false), (7, true, .bool true), (8, true, .bool true)] [(true, g1, 24, (Wl a)), (true, g2, 24, (Wl b)), (true, g3, 24, (Wl c))] ac w) (by kernel_rfl) (by kernel_rfl) ?_ ?_ ?_
  · exact hs.drew.skip.skip.skip.skip.skip.skip.skip.skip.skip.skip.skip.skip
  · refine ⟨?_, ?_, ?_, ?_, ?_, ?_, ?_, ?_, ?_, ?_, ?_, ?_, trivial⟩
    · intro L ac w hJ
      have hs := hJ
      refine wpO_plain rfl (op_load hs (some 0) 0 (v := W a) rfl rfl rfl rfl Try.isAgg24 Try.sizeOf24 rfl rfl fun ac hs => ?_)
      exact hs
    · intro L ac w hJ
      have hs := hJ
      refine wpO_plain rfl (op_load hs (some 1) 1 (v := W b) rfl rfl rfl rfl Try.isAgg24 Try.sizeOf24 rfl rfl fun ac hs => ?_)
      exact hs
    · intro L ac w hJ
      have hs := hJ
      refine wpO_plain rfl (op_load hs (some 2) 2 (v := W c) rfl rfl rfl rfl Try.isAgg24 Try.sizeOf24 rfl rfl fun ac hs => ?_)
      exact hs
    · intro L ac w hJ
      have hs := hJ
      refine wpO_plain rfl (op_call (F := 15) hs (some 3) (v := W r13) rfl rfl rfl rfl (Try.call15 _) (fadd_c b c r13 hb hcc hr13) rfl fun ac w hs => ?_)
      exact hs
    · intro L ac w hJ
      have hs := hJ
      refine wpO_plain rfl (op_call (F := 15) hs (some 4) (v := W r14) rfl rfl rfl rfl (Try.call15 _) (fadd_c a r13 r14 ha lr13 hr14) rfl fun ac w hs => ?_)
      exact hs
    · intro L ac w hJ
      have hs := hJ
      refine wpO_plain rfl (op_load hs (some 5) 0 (v := W a) rfl rfl rfl rfl Try.isAgg24 Try.sizeOf24 rfl rfl fun ac hs => ?_)
      exact hs
    · intro L ac w hJ
      have hs := hJ
      refine wpO_plain rfl (op_load hs (some 6) 1 (v := W b) rfl rfl rfl rfl Try.isAgg24 Try.sizeOf24 rfl rfl fun ac hs => ?_)
      exact hs
    · intro L ac w hJ
      have hs := hJ
      refine wpO_plain rfl (op_call (F := 15) hs (some 7) (v := W r15) rfl rfl rfl rfl (Try.call15 _) (fadd_c a b r15 ha hb hr15) rfl fun ac w hs => ?_)
      exact hs
    · intro L ac w hJ
      have hs := hJ
      refine wpO_plain rfl (op_load hs (some 8) 2 (v := W c) rfl rfl rfl rfl Try.isAgg24 Try.sizeOf24 rfl rfl fun ac hs => ?_)
      exact hs
    · intro L ac w hJ
      have hs := hJ
      refine wpO_plain rfl (op_call (F := 15) hs (some 9) (v := W r16) rfl rfl rfl rfl (Try.call15 _) (fadd_c r15 c r16 lr15 hcc hr16) rfl fun ac w hs => ?_)
      exact hs
    · intro L ac w hJ
      have hs := hJ
      refine wpO_plain rfl (op_bin hs (some 10) (v := .bool true) rfl rfl rfl rfl (fun w => run_eqGuard_agg w .eql 24 _ _ _ _ Try.eqGuardType24) (eqlW r14 r16 lr14 lr16 true (decide_eq_true (by rw [← hr16, ← hr15, ← hr14, ← hr13]; exact fl_aassoc _ _ _))) rfl fun ac hs => ?_)
      exact hs
    · intro L ac w hJ
      have hs := hJ
      refine wpO_plain rfl (op_assign hs (some 11) rfl rfl rfl rfl fun ac hs => ?_)
      exact hs
  intro ac w hJ
  replace hs : St 95 w0 [(36, true, W a), (37, true, W b), (38, true, W c), (39, true, W r13), (40, true, W r14), (41, true, W a), (42, true, W b), (43, true, W r15), (44, true, W c), (45, true, W r16), (46, true, .bool true), (9, true, .bool true), (3, true, .pointer (some ⟨g1, 0, none⟩)), (4, true, .pointer (some ⟨g2, 0, none⟩)), (5, true, .pointer (some ⟨g3, 0, none⟩)), (6, true, .bool false), (7, true, .bool true), (8, true, .bool true)] [(true, g1, 24, (Wl a)), (true, g2, 24, (Wl b)), (true, g3, 24, (Wl c))] ac w := hJ
  refine then_n ?_
  refine wp_seq ?_
  replace hs : St 95 w0 [(3, true, .pointer (some ⟨g1, 0, none⟩)), (4, true, .pointer (some ⟨g2, 0, none⟩)), (6, true, .bool false), (7, true, .bool true), (8, true, .bool true), (9, true, .bool true)] [(true, g1, 24, (Wl a)), (true, g2, 24, (Wl b)), (true, g3, 24, (Wl c))] ac w := hs.re ⟨rfl, rfl, rfl, rfl, rfl, rfl, trivial⟩
  obtain ⟨r17, hr17, lr17⟩ : ∃ z0, (a + b) % Pf = z0 ∧ z0 < 2 ^ 256 := ⟨_, rfl, modP_lt _⟩
  obtain ⟨r18, hr18, lr18⟩ : ∃ z0, (b + a) % Pf = z0 ∧ z0 < 2 ^ 256 := ⟨_, rfl, modP_lt _⟩
  obtain ⟨r19, hr19, lr19⟩ : ∃ z0, a * b % Pf = z0 ∧ z0 < 2 ^ 256 := ⟨_, rfl, modP_lt _⟩
  obtain ⟨r20, hr20, lr20⟩ : ∃ z0, b * a % Pf = z0 ∧ z0 < 2 ^ 256 := ⟨_, rfl, modP_lt _⟩
  refine region_inv [([], [2, 5, 6, 7, 8, 9, 10, 11, 12, 13, 14, 15, 16]), ([], [2, 5, 6, 7, 8, 9, 10, 11, 12, 13, 14, 15, 16]), ([0, 1], [5, 6, 7, 8, 9, 10, 11, 12, 13, 14, 15, 16]), ([], [5, 6, 7, 8, 9, 10, 11, 12, 13, 14, 15, 16]), ([], [5, 6, 7, 8, 9, 10, 11, 12, 13, 14, 15, 16]), ([0, 1, 2, 3, 4], [6, 7, 8, 9, 10, 11, 12, 13, 14, 15, 16]), ([0, 1, 2, 3, 4, 5], [7, 8, 9, 10, 11, 12, 13, 14, 15, 16]), ([0, 1, 2, 3, 4, 5, 6], [8, 9, 10, 11, 12, 13, 14, 15, 16]), ([0, 1, 2, 3, 4, 5, 6, 7], [10, 13, 14, 15, 16]), ([0, 1, 2, 3, 4, 5, 6, 7], [10, 13, 14, 15, 16]), ([0, 1, 2, 3, 4, 5, 6, 7, 8, 9], [13, 14, 15, 16]), ([0, 1, 2, 3, 4, 5, 6, 7], [13, 14, 15, 16]), ([0, 1, 2, 3, 4, 5, 6, 7], [13, 14, 15, 16]), ([0, 1, 2, 3, 4, 5, 6, 7, 8, 9, 10, 11, 12], [14, 15, 16]), ([0, 1, 2, 3, 4, 5, 6, 7, 8, 9, 10, 11, 12, 13], [15, 16]), ([0, 1, 2, 3, 4, 5, 6, 7, 8, 9, 10, 11, 12, 13, 14], [16]), ([0, 1, 2, 3, 4, 5, 6, 7, 8, 9, 10, 11, 12, 13, 14, 15], [])] (fun L ac w => St 95 w0 [(47, L 0, W a), (48, L 1, W b), (49, L 2, W r17), (50, L 3, W b), (51, L 4, W a), (52, L 5, W r18), (53, L 6, .bool true), (54, L 7, .bool true), (55, L 8, W a), (56, L 9, W b), (57, L 10, W r19), (58, L 11, W b), (59, L 12, W a), (60, L 13, W r20), (61, L 14, .bool true), (62, L 15, .bool true), (10, L 16, .bool true), (3, true, .pointer (some ⟨g1, 0, none⟩)), (4, true, .pointer (some ⟨g2, 0, none⟩)), (6, true, .bool false), (7, true, .bool true), (8, true, .bool true), (9, true, .bool true)] [(true, g1, 24, (Wl a)), (true, g2, 24, (Wl b)), (true, g3, 24, (Wl c))] ac w) (by kernel_rfl) (by kernel_rfl) ?_ ?_ ?_
  · exact hs.drew.skip.skip.skip.skip.skip.skip.skip.skip.skip.skip.skip.skip.skip.skip.skip.skip.skip
  · refine ⟨?_, ?_, ?_, ?_, ?_, ?_, ?_, ?_, ?_, ?_, ?_, ?_, ?_, ?_, ?_, ?_, ?_, trivial⟩
    · intro L ac w hJ
      have hs := hJ
      refine wpO_plain rfl (op_load hs (some 0) 0 (v := W a) rfl rfl rfl rfl Try.isAgg24 Try.sizeOf24 rfl rfl fun ac hs => ?_)
      exact hs
    · intro L ac w hJ
      have hs := hJ
      refine wpO_plain rfl (op_load hs (some 1) 1 (v := W b) rfl rfl rfl rfl Try.isAgg24 Try.sizeOf24 rfl rfl fun ac hs => ?_)
      exact hs
    · intro L ac w hJ
      have hs := hJ
      refine wpO_plain rfl (op_call (F := 15) hs (some 2) (v := W r17) rfl rfl rfl rfl (Try.call15 _) (fadd_c a b r17 ha hb hr17) rfl fun ac w hs => ?_)
      exact hs
    · intro L ac w hJ
      have hs := hJ
      refine wpO_plain rfl (op_load hs (some 3) 1 (v := W b) rfl rfl rfl rfl Try.isAgg24 Try.sizeOf24 rfl rfl fun ac hs => ?_)
      exact hs
    · intro L ac w hJ
      have hs := hJ
      refine wpO_plain rfl (op_load hs (some 4) 0 (v := W a) rfl rfl rfl rfl Try.isAgg24 Try.sizeOf24 rfl rfl fun ac hs => ?_)
      exact hs
    · intro L ac w hJ
      have hs := hJ
      refine wpO_plain rfl (op_call (F := 15) hs (some 5) (v := W r18) rfl rfl rfl rfl (Try.call15 _) (fadd_c b a r18 hb ha hr18) rfl fun ac w hs => ?_)
      exact hs
    · intro L ac w hJ
      have hs := hJ
      refine wpO_plain rfl (op_bin hs (some 6) (v := .bool true) rfl rfl rfl rfl (fun w => run_eqGuard_agg w .eql 24 _ _ _ _ Try.eqGuardType24) (eqlW r17 r18 lr17 lr18 true (decide_eq_true (by rw [← hr18, ← hr17]; exact fl_acomm _ _))) rfl fun ac hs => ?_)
      exact hs
    · intro L ac w hJ
      have hs := hJ
      refine wpO_plain rfl (op_move hs (some 7) rfl rfl rfl rfl fun ac hs => ?_)
      exact hs
    · intro L ac w hJ
      have hs := hJ
      refine wpO_in hs rfl rfl rfl (op_load hs (some 8) 0 (v := W a) rfl rfl rfl rfl Try.isAgg24 Try.sizeOf24 rfl rfl fun ac hs => ?_)
      exact hs
    · intro L ac w hJ
      have hs := hJ
      refine wpO_in hs rfl rfl rfl (op_load hs (some 9) 1 (v := W b) rfl rfl rfl rfl Try.isAgg24 Try.sizeOf24 rfl rfl fun ac hs => ?_)
      exact hs
    · intro L ac w hJ
      have hs := hJ
      refine wpO_in hs rfl rfl rfl (op_call (F := 21) hs (some 10) (v := W r19) rfl rfl rfl rfl (Try.call21 _) (fmul_c a b r19 ha hb hr19) rfl fun ac w hs => ?_)
      exact hs
    · intro L ac w hJ
      have hs := hJ
      refine wpO_in hs rfl rfl rfl (op_load hs (some 11) 1 (v := W b) rfl rfl rfl rfl Try.isAgg24 Try.sizeOf24 rfl rfl fun ac hs => ?_)
      exact hs
    · intro L ac w hJ
      have hs := hJ
      refine wpO_in hs rfl rfl rfl (op_load hs (some 12) 0 (v := W a) rfl rfl rfl rfl Try.isAgg24 Try.sizeOf24 rfl rfl fun ac hs => ?_)
      exact hs
    · intro L ac w hJ
      have hs := hJ
      refine wpO_in hs rfl rfl rfl (op_call (F := 21) hs (some 13) (v := W r20) rfl rfl rfl rfl (Try.call21 _) (fmul_c b a r20 hb ha hr20) rfl fun ac w hs => ?_)
      exact hs
    · intro L ac w hJ
      have hs := hJ
      refine wpO_in hs rfl rfl rfl (op_bin hs (some 14) (v := .bool true) rfl rfl rfl rfl (fun w => run_eqGuard_agg w .eql 24 _ _ _ _ Try.eqGuardType24) (eqlW r19 r20 lr19 lr20 true (decide_eq_true (by rw [← hr20, ← hr19]; exact fl_mcomm _ _))) rfl fun ac hs => ?_)
      exact hs
    · intro L ac w hJ
      have hs := hJ
      refine wpO_plain rfl (op_pickT hs (some 15) rfl rfl rfl rfl rfl fun ac hs => ?_)
      exact hs
    · intro L ac w hJ
      have hs := hJ
      refine wpO_plain rfl (op_assign hs (some 16) rfl rfl rfl rfl fun ac hs => ?_)
      exact hs
  intro ac w hJ
  replace hs : St 95 w0 [(47, true, W a), (48, true, W b), (49, true, W r17), (50, true, W b), (51, true, W a), (52, true, W r18), (53, true, .bool true), (54, true, .bool true), (55, true, W a), (56, true, W b), (57, true, W r19), (58, true, W b), (59, true, W a), (60, true, W r20), (61, true, .bool true), (62, true, .bool true), (10, true, .bool true), (3, true, .pointer (some ⟨g1, 0, none⟩)), (4, true, .pointer (some ⟨g2, 0, none⟩)), (6, true, .bool false), (7, true, .bool true), (8, true, .bool true), (9, true, .bool true)] [(true, g1, 24, (Wl a)), (true, g2, 24, (Wl b)), (true, g3, 24, (Wl c))] ac w := hJ
  refine then_n ?_
  refine wp_seq ?_
  replace hs : St 95 w0 [(3, true, .pointer (some ⟨g1, 0, none⟩)), (4, true, .pointer (some ⟨g2, 0, none⟩)), (6, true, .bool false), (7, true, .bool true), (8, true, .bool true), (9, true, .bool true), (10, true, .bool true)] [(true, g1, 24, (Wl a)), (true, g2, 24, (Wl b)), (true, g3, 24, (Wl c))] ac w := hs.re ⟨rfl, rfl, rfl, rfl, rfl, rfl, rfl, trivial⟩
  obtain ⟨r21, hr21, lr21⟩ : ∃ z0, (a + b) % Pf = z0 ∧ z0 < 2 ^ 256 := ⟨_, rfl, modP_lt _⟩
  obtain ⟨r22, hr22, lr22⟩ : ∃ z0, fsub r21 b = z0 ∧ z0 < 2 ^ 256 := ⟨_, rfl, fsub_lt _ _⟩
  obtain ⟨r23, hr23, lr23⟩ : ∃ z0, a % Pf = z0 ∧ z0 < 2 ^ 256 := ⟨_, rfl, modP_lt _⟩
  obtain ⟨r24, hr24, lr24⟩ : ∃ z0, fsub 0 a = z0 ∧ z0 < 2 ^ 256 := ⟨_, rfl, fsub_lt _ _⟩
  obtain ⟨r25, hr25, lr25⟩ : ∃ z0, (a + r24) % Pf = z0 ∧ z0 < 2 ^ 256 := ⟨_, rfl, modP_lt _⟩
  refine region_inv [([], [2, 4, 6, 7, 8, 9, 10, 11, 12, 13, 14, 15, 16]), ([], [2, 4, 6, 7, 8, 9, 10, 11, 12, 13, 14, 15, 16]), ([0, 1], [4, 6, 7, 8, 9, 10, 11, 12, 13, 14, 15, 16]), ([], [4, 6, 7, 8, 9, 10, 11, 12, 13, 14, 15, 16]), ([0, 1, 2, 3], [6, 7, 8, 9, 10, 11, 12, 13, 14, 15, 16]), ([], [6, 7, 8, 9, 10, 11, 12, 13, 14, 15, 16]), ([0, 1, 2, 3, 4, 5], [7, 8, 9, 10, 11, 12, 13, 14, 15, 16]), ([0, 1, 2, 3, 4, 5, 6], [8, 9, 10, 11, 12, 13, 14, 15, 16]), ([0, 1, 2, 3, 4, 5, 6, 7], [9, 10, 11, 12, 13, 14, 15, 16]), ([0, 1, 2, 3, 4, 5, 6, 7, 8], [12, 14, 15, 16]), ([0, 1, 2, 3, 4, 5, 6, 7, 8], [11, 12, 14, 15, 16]), ([0, 1, 2, 3, 4, 5, 6, 7, 8, 10], [12, 14, 15, 16]), ([0, 1, 2, 3, 4, 5, 6, 7, 8, 9, 10, 11], [14, 15, 16]), ([0, 1, 2, 3, 4, 5, 6, 7, 8], [14, 15, 16]), ([0, 1, 2, 3, 4, 5, 6, 7, 8, 9, 10, 11, 12, 13], [15, 16]), ([0, 1, 2, 3, 4, 5, 6, 7, 8, 9, 10, 11, 12, 13, 14], [16]), ([0, 1, 2, 3, 4, 5, 6, 7, 8, 9, 10, 11, 12, 13, 14, 15], [])] (fun L ac w => St 95 w0 [(63, L 0, W a), (64, L 1, W b), (65, L 2, W r21), (66, L 3, W b), (67, L 4, W r22), (68, L 5, W a), (69, L 6, W r23), (70, L 7, .bool true), (71, L 8, .bool true), (72, L 9, W a), (73, L 10, W a), (74, L 11, W r24), (75, L 12, W r25), (76, L 13, .agg #[.int .u64 0, .int .u64 0, .int .u64 0, .int .u64 0]), (77, L 14, .bool true), (78, L 15, .bool true), (11, L 16, .bool true), (3, true, .pointer (some ⟨g1, 0, none⟩)), (4, true, .pointer (some ⟨g2, 0, none⟩)), (6, true, .bool false), (7, true, .bool true), (8, true, .bool true), (9, true, .bool true), (10, true, .bool true)] [(true, g1, 24, (Wl a)), (true, g2, 24, (Wl b)), (true, g3, 24, (Wl c))] ac w) (by kernel_rfl) (by kernel_rfl) ?_ ?_ ?_
  · exact hs.drew.skip.skip.skip.skip.skip.skip.skip.skip.skip.skip.skip.skip.skip.skip.skip.skip.skip
  · refine ⟨?_, ?_, ?_, ?_, ?_, ?_, ?_, ?_, ?_, ?_, ?_, ?_, ?_, ?_, ?_, ?_, ?_, trivial⟩
    · intro L ac w hJ
      have hs := hJ
      refine wpO_plain rfl (op_load hs (some 0) 0 (v := W a) rfl rfl rfl rfl Try.isAgg24 Try.sizeOf24 rfl rfl fun ac hs => ?_)
      exact hs
    · intro L ac w hJ
      have hs := hJ
      refine wpO_plain rfl (op_load hs (some 1) 1 (v := W b) rfl rfl rfl rfl Try.isAgg24 Try.sizeOf24 rfl rfl fun ac hs => ?_)
      exact hs
    · intro L ac w hJ
      have hs := hJ
      refine wpO_plain rfl (op_call (F := 15) hs (some 2) (v := W r21) rfl rfl rfl rfl (Try.call15 _) (fadd_c a b r21 ha hb hr21) rfl fun ac w hs => ?_)
      exact hs
    · intro L ac w hJ
      have hs := hJ
      refine wpO_plain rfl (op_load hs (some 3) 1 (v := W b) rfl rfl rfl rfl Try.isAgg24 Try.sizeOf24 rfl rfl fun ac hs => ?_)
      exact hs
    · intro L ac w hJ
      have hs := hJ
      refine wpO_plain rfl (op_call (F := 17) hs (some 4) (v := W r22) rfl rfl rfl rfl (Try.call17 _) (fsub_c r21 b r22 lr21 hb hr22) rfl fun ac w hs => ?_)
      exact hs
    · intro L ac w hJ
      have hs := hJ
      refine wpO_plain rfl (op_load hs (some 5) 0 (v := W a) rfl rfl rfl rfl Try.isAgg24 Try.sizeOf24 rfl rfl fun ac hs => ?_)
      exact hs
    · intro L ac w hJ
      have hs := hJ
      refine wpO_plain rfl (op_call (F := 13) hs (some 6) (v := W r23) rfl rfl rfl rfl (Try.call13 _) (fred_c a r23 ha hr23) rfl fun ac w hs => ?_)
      exact hs
    · intro L ac w hJ
      have hs := hJ
      refine wpO_plain rfl (op_bin hs (some 7) (v := .bool true) rfl rfl rfl rfl (fun w => run_eqGuard_agg w .eql 24 _ _ _ _ Try.eqGuardType24) (eqlW r22 r23 lr22 lr23 true (decide_eq_true (by rw [← hr23, ← hr22, ← hr21]; exact fl_back _ _))) rfl fun ac hs => ?_)
      exact hs
    · intro L ac w hJ
      have hs := hJ
      refine wpO_plain rfl (op_move hs (some 8) rfl rfl rfl rfl fun ac hs => ?_)
      exact hs
    · intro L ac w hJ
      have hs := hJ
      refine wpO_in hs rfl rfl rfl (op_load hs (some 9) 0 (v := W a) rfl rfl rfl rfl Try.isAgg24 Try.sizeOf24 rfl rfl fun ac hs => ?_)
      exact hs
    · intro L ac w hJ
      have hs := hJ
      refine wpO_in hs rfl rfl rfl (op_load hs (some 10) 0 (v := W a) rfl rfl rfl rfl Try.isAgg24 Try.sizeOf24 rfl rfl fun ac hs => ?_)
      exact hs
    · intro L ac w hJ
      have hs := hJ
      refine wpO_in hs rfl rfl rfl (op_call (F := 19) hs (some 11) (v := W r24) rfl rfl rfl rfl (Try.call19 _) (fneg_c a r24 ha hr24) rfl fun ac w hs => ?_)
      exact hs
    · intro L ac w hJ
      have hs := hJ
      refine wpO_in hs rfl rfl rfl (op_call (F := 15) hs (some 12) (v := W r25) rfl rfl rfl rfl (Try.call15 _) (fadd_c a r24 r25 ha lr24 hr25) rfl fun ac w hs => ?_)
      exact hs
    · intro L ac w hJ
      have hs := hJ
      refine wpO_in hs rfl rfl rfl (op_build hs (some 13) (qs := []) (v := .agg #[.int .u64 0, .int .u64 0, .int .u64 0, .int .u64 0]) rfl rfl rfl rfl (fun _ => by kernel_rfl) rfl fun ac hs => ?_)
      exact hs
    · intro L ac w hJ
      have hs := hJ
      refine wpO_in hs rfl rfl rfl (op_bin hs (some 14) (v := .bool true) rfl rfl rfl rfl (fun w => run_eqGuard_agg w .eql 24 _ _ _ _ Try.eqGuardType24) (eqlW r25 0 lr25 (by decide) true (decide_eq_true (by rw [← hr25, ← hr24]; exact fl_neg _))) rfl fun ac hs => ?_)
      exact hs
    · intro L ac w hJ
      have hs := hJ
      refine wpO_plain rfl (op_pickT hs (some 15) rfl rfl rfl rfl rfl fun ac hs => ?_)
      exact hs
    · intro L ac w hJ
      have hs := hJ
      refine wpO_plain rfl (op_assign hs (some 16) rfl rfl rfl rfl fun ac hs => ?_)
      exact hs
  intro ac w hJ
  replace hs : St 95 w0 [(63, true, W a), (64, true, W b), (65, true, W r21), (66, true, W b), (67, true, W r22), (68, true, W a), (69, true, W r23), (70, true, .bool true), (71, true, .bool true), (72, true, W a), (73, true, W a), (74, true, W r24), (75, true, W r25), (76, true, .agg #[.int .u64 0, .int .u64 0, .int .u64 0, .int .u64 0]), (77, true, .bool true), (78, true, .bool true), (11, true, .bool true), (3, true, .pointer (some ⟨g1, 0, none⟩)), (4, true, .pointer (some ⟨g2, 0, none⟩)), (6, true, .bool false), (7, true, .bool true), (8, true, .bool true), (9, true, .bool true), (10, true, .bool true)] [(true, g1, 24, (Wl a)), (true, g2, 24, (Wl b)), (true, g3, 24, (Wl c))] ac w := hJ
  refine then_n ?_
  refine wp_seq ?_
  refine wp_region_lit ?_
  refine lstep (wpO_plain rfl (op_call (F := 10) hs none (v := .bool true) rfl rfl rfl rfl (Try.call10 _) alive_c rfl fun ac w hs => ?_))
  refine lstep (wpO_plain rfl (op_move hs none rfl rfl rfl rfl fun ac hs => ?_))
  refine lstep (wpO_in hs rfl rfl rfl (op_move hs none rfl rfl rfl rfl fun ac hs => ?_))
  refine lstep (wpO_plain rfl (op_pickT hs none rfl rfl rfl rfl rfl fun ac hs => ?_))
  refine lstep (wpO_plain rfl (op_move hs none rfl rfl rfl rfl fun ac hs => ?_))
  refine lstep (wpO_in hs rfl rfl rfl (op_move hs none rfl rfl rfl rfl fun ac hs => ?_))
  refine lstep (wpO_plain rfl (op_pickT hs none rfl rfl rfl rfl rfl fun ac hs => ?_))
  refine lstep (wpO_plain rfl (op_move hs none rfl rfl rfl rfl fun ac hs => ?_))
  refine lstep (wpO_in hs rfl rfl rfl (op_move hs none rfl rfl rfl rfl fun ac hs => ?_))
  refine lstep (wpO_plain rfl (op_pickT hs none rfl rfl rfl rfl rfl fun ac hs => ?_))
  refine lstep (wpO_plain rfl (op_move hs none rfl rfl rfl rfl fun ac hs => ?_))
  refine lstep (wpO_in hs rfl rfl rfl (op_move hs none rfl rfl rfl rfl fun ac hs => ?_))
  refine lstep (wpO_plain rfl (op_pickT hs none rfl rfl rfl rfl rfl fun ac hs => ?_))
  refine lstep (wpO_plain rfl (op_move hs none rfl rfl rfl rfl fun ac hs => ?_))
  refine lstep (wpO_in hs rfl rfl rfl (op_move hs none rfl rfl rfl rfl fun ac hs => ?_))
  refine lstep (wpO_plain rfl (op_pickT hs none rfl rfl rfl rfl rfl fun ac hs => ?_))
  refine lstep (wpO_plain rfl (op_assign hs none rfl rfl rfl rfl fun ac hs => ?_))
  refine wpList_nil ?_
  refine then_n ?_
  refine wp_ret ?_
  exact bodyPost_ret (res1 rfl (rv_t hs rfl)) hs.defers ⟨rfl, hs.below⟩
theorem inverse_law (a : Nat) (ha : a < 2 ^ 256) (w0 : World) : Calls Try.prog 7 #[W a] w0 fun e w' => e = .returned (.bool true) ∧ Below w0.heap.size w0 w' := by
  refine enter (n := 31) (args := [W a]) Try.func7 rfl rfl (Nat.le_of_ble_eq_true rfl) fun ac hs => ?_
  refine wp_seq ?_
  refine wp_region_lit ?_
  refine lstep (wpO_plain rfl (op_box hs none none (cs := (Wl a)) rfl rfl rfl rfl rfl rfl fun g1 ac w hs => ?_))
  refine lstep (wpO_plain rfl (op_assign hs none rfl rfl rfl rfl fun ac hs => ?_))
  refine wpList_nil ?_
  refine then_n ?_
  refine wp_seq ?_
  refine wp_region_lit ?_
  refine lstep (wpO_plain rfl (op_load hs none 0 (v := W a) rfl rfl rfl rfl Try.isAgg24 Try.sizeOf24 rfl rfl fun ac hs => ?_))
  obtain ⟨r2, hr2, lr2⟩ : ∃ z0, pinv Pf a = z0 ∧ z0 < 2 ^ 256 := ⟨_, rfl, modP_lt _⟩
  refine lstep (wpO_plain rfl (op_call (F := 27) hs none (v := W r2) rfl rfl rfl rfl (Try.call27 _) (finv_c a r2 ha hr2) rfl fun ac w hs => ?_))
  refine lstep (wpO_plain rfl (op_alloc hs none none (cs := [.int .u64 0, .int .u64 0, .int .u64 0, .int .u64 0]) rfl rfl Try.zeroValue24 (by kernel_rfl) rfl rfl fun g3 ac w hs => ?_))
  refine lstep (wpO_plain rfl (op_store hs 1 (vs := (Wl r2)) rfl rfl rfl rfl rfl Try.sizeOf24 rfl rfl rfl rfl rfl fun w hs => ?_))
  refine wpList_nil ?_
  refine then_n ?_
  refine wp_seq ?_
  refine wp_seq ?_
  refine wp_region_lit ?_
  refine lstep (wpO_plain rfl (op_load hs none 0 (v := W a) rfl rfl rfl rfl Try.isAgg24 Try.sizeOf24 rfl rfl fun ac hs => ?_))
  obtain ⟨r4, hr4, lr4⟩ : ∃ z0, a % Pf = z0 ∧ z0 < 2 ^ 256 := ⟨_, rfl, modP_lt _⟩
  refine lstep (wpO_plain rfl (op_call (F := 13) hs none (v := W r4) rfl rfl rfl rfl (Try.call13 _) (fred_c a r4 ha hr4) rfl fun ac w hs => ?_))
  refine lstep (wpO_plain rfl (op_build hs none (qs := []) (v := .agg #[.int .u64 0, .int .u64 0, .int .u64 0, .int .u64 0]) rfl rfl rfl rfl (fun _ => by kernel_rfl) rfl fun ac hs => ?_))
  refine lstep (wpO_plain rfl (op_bin hs none (v := .bool (decide (r4 = 0))) rfl rfl rfl rfl (fun w => run_eqGuard_agg w .eql 24 _ _ _ _ Try.eqGuardType24) (eqlW r4 0 lr4 (by decide) _ rfl) rfl fun ac hs => ?_))
  refine wpList_nil ?_
  refine then_n ?_
  refine wp_cond_split (hs.ev rfl) (fun hc => ?_) (fun hc => ?_)
  · skip
    have hp5 := of_decide_eq_true hc
    refine wp_seq ?_
    refine wp_region_lit ?_
    refine lstep (wpO_plain rfl (op_call (F := 10) hs none (v := .bool true) rfl rfl rfl rfl (Try.call10 _) alive_c rfl fun ac w hs => ?_))
    refine lstep (wpO_plain rfl (op_move hs none rfl rfl rfl rfl fun ac hs => ?_))
    refine lstep (wpO_in hs rfl rfl rfl (op_load hs none 1 (v := W r2) rfl rfl rfl rfl Try.isAgg24 Try.sizeOf24 rfl rfl fun ac hs => ?_))
    refine lstep (wpO_in hs rfl rfl rfl (op_build hs none (qs := []) (v := .agg #[.int .u64 0, .int .u64 0, .int .u64 0, .int .u64 0]) rfl rfl rfl rfl (fun _ => by kernel_rfl) rfl fun ac hs => ?_))
    refine lstep (wpO_in hs rfl rfl rfl (op_bin hs none (v := .bool true) rfl rfl rfl rfl (fun w => run_eqGuard_agg w .eql 24 _ _ _ _ Try.eqGuardType24) (eqlW r2 0 lr2 (by decide) true (decide_eq_true (finv_zero hp5 hr4 hr2))) rfl fun ac hs => ?_))
    refine lstep (wpO_plain rfl (op_pickT hs none rfl rfl rfl rfl rfl fun ac hs => ?_))
    refine lstep (wpO_plain rfl (op_assign hs none rfl rfl rfl rfl fun ac hs => ?_))
    refine wpList_nil ?_
    refine then_n ?_
    refine wp_ret ?_
    refine then_r ?_
    exact bodyPost_ret (res1 rfl (rv_t hs rfl)) hs.defers ⟨rfl, hs.below⟩
  · skip
    have hp6 := of_decide_eq_false hc
    refine wp_skip ?_
    refine then_n ?_
    refine wp_seq ?_
    replace hs : St 31 w0 [(1, true, .pointer (some ⟨g1, 0, none⟩)), (2, true, .bool false), (3, true, .pointer (some ⟨g3, 0, none⟩))] [(true, g1, 24, (Wl a)), (true, g3, 24, (Wl r2))] ac w := hs.re ⟨rfl, rfl, rfl, trivial⟩
    obtain ⟨r7, hr7, lr7⟩ : ∃ z0, a * r2 % Pf = z0 ∧ z0 < 2 ^ 256 := ⟨_, rfl, modP_lt _⟩
    obtain ⟨r8, hr8, lr8⟩ : ∃ z0, pinv Pf r2 = z0 ∧ z0 < 2 ^ 256 := ⟨_, rfl, modP_lt _⟩
    obtain ⟨r9, hr9, lr9⟩ : ∃ z0, a % Pf = z0 ∧ z0 < 2 ^ 256 := ⟨_, rfl, modP_lt _⟩
    refine region_inv [([], [1, 2, 3, 4, 5, 6, 7, 8, 9, 10, 11, 12, 13, 14, 15]), ([0], [2, 3, 4, 5, 6, 7, 8, 9, 10, 11, 12, 13, 14, 15]), ([0, 1], [4, 6, 7, 8, 9, 10, 11, 12, 13, 14, 15]), ([0, 1], [4, 6, 7, 8, 9, 10, 11, 12, 13, 14, 15]), ([0, 1, 2, 3], [6, 7, 8, 9, 10, 11, 12, 13, 14, 15]), ([0, 1], [6, 7, 8, 9, 10, 11, 12, 13, 14, 15]), ([0, 1, 2, 3, 4, 5], [7, 8, 9, 10, 11, 12, 13, 14, 15]), ([0, 1, 2, 3, 4, 5, 6], [8, 9, 10, 11, 12, 13, 14, 15]), ([0, 1, 2, 3, 4, 5, 6, 7], [9, 10, 11, 12, 13, 14, 15]), ([0, 1, 2, 3, 4, 5, 6, 7, 8], [10, 12, 13, 14, 15]), ([0, 1, 2, 3, 4, 5, 6, 7, 8, 9], [12, 13, 14, 15]), ([0, 1, 2, 3, 4, 5, 6, 7, 8], [12, 13, 14, 15]), ([0, 1, 2, 3, 4, 5, 6, 7, 8, 9, 10, 11], [13, 14, 15]), ([0, 1, 2, 3, 4, 5, 6, 7, 8, 9, 10, 11, 12], [14, 15]), ([0, 1, 2, 3, 4, 5, 6, 7, 8, 9, 10, 11, 12, 13], [15]), ([0, 1, 2, 3, 4, 5, 6, 7, 8, 9, 10, 11, 12, 13, 14], [])] (fun L ac w => St 31 w0 [(16, L 0, .bool true), (17, L 1, .bool true), (18, L 2, W a), (19, L 3, W r2), (20, L 4, W r7), (21, L 5, .agg #[.int .u64 1, .int .u64 0, .int .u64 0, .int .u64 0]), (22, L 6, .bool true), (23, L 7, .bool true), (24, L 8, .bool true), (25, L 9, W r2), (26, L 10, W r8), (27, L 11, W a), (28, L 12, W r9), (29, L 13, .bool true), (30, L 14, .bool true), (2, L 15, .bool true), (1, true, .pointer (some ⟨g1, 0, none⟩)), (2, true, .bool false), (3, true, .pointer (some ⟨g3, 0, none⟩))] [(true, g1, 24, (Wl a)), (true, g3, 24, (Wl r2))] ac w) (by kernel_rfl) (by kernel_rfl) ?_ ?_ ?_
    · exact hs.drew.skip.skip.skip.skip.skip.skip.skip.skip.skip.skip.skip.skip.skip.skip.skip.skip
    · refine ⟨?_, ?_, ?_, ?_, ?_, ?_, ?_, ?_, ?_, ?_, ?_, ?_, ?_, ?_, ?_, ?_, trivial⟩
      · intro L ac w hJ
        have hs := hJ
        refine wpO_plain rfl (op_call (F := 10) hs (some 0) (v := .bool true) rfl rfl rfl rfl (Try.call10 _) alive_c rfl fun ac w hs => ?_)
        exact hs
      · intro L ac w hJ
        have hs := hJ
        refine wpO_plain rfl (op_move hs (some 1) rfl rfl rfl rfl fun ac hs => ?_)
        exact hs
      · intro L ac w hJ
        have hs := hJ
        refine wpO_in hs rfl rfl rfl (op_load hs (some 2) 0 (v := W a) rfl rfl rfl rfl Try.isAgg24 Try.sizeOf24 rfl rfl fun ac hs => ?_)
        exact hs
      · intro L ac w hJ
        have hs := hJ
        refine wpO_in hs rfl rfl rfl (op_load hs (some 3) 1 (v := W r2) rfl rfl rfl rfl Try.isAgg24 Try.sizeOf24 rfl rfl fun ac hs => ?_)
        exact hs
      · intro L ac w hJ
        have hs := hJ
        refine wpO_in hs rfl rfl rfl (op_call (F := 21) hs (some 4) (v := W r7) rfl rfl rfl rfl (Try.call21 _) (fmul_c a r2 r7 ha lr2 hr7) rfl fun ac w hs => ?_)
        exact hs
      · intro L ac w hJ
        have hs := hJ
        refine wpO_in hs rfl rfl rfl (op_build hs (some 5) (qs := [(0, .int .u64 1)]) (v := .agg #[.int .u64 1, .int .u64 0, .int .u64 0, .int .u64 0]) rfl rfl rfl rfl (fun _ => by kernel_rfl) rfl fun ac hs => ?_)
        exact hs
      · intro L ac w hJ
        have hs := hJ
        refine wpO_in hs rfl rfl rfl (op_bin hs (some 6) (v := .bool true) rfl rfl rfl rfl (fun w => run_eqGuard_agg w .eql 24 _ _ _ _ Try.eqGuardType24) (eqlW r7 1 lr7 (by decide) true (decide_eq_true (finv_one hp6 hr4 hr2 hr7))) rfl fun ac hs => ?_)
        exact hs
      · intro L ac w hJ
        have hs := hJ
        refine wpO_plain rfl (op_pickT hs (some 7) rfl rfl rfl rfl rfl fun ac hs => ?_)
        exact hs
      · intro L ac w hJ
        have hs := hJ
        refine wpO_plain rfl (op_move hs (some 8) rfl rfl rfl rfl fun ac hs => ?_)
        exact hs
      · intro L ac w hJ
        have hs := hJ
        refine wpO_in hs rfl rfl rfl (op_load hs (some 9) 1 (v := W r2) rfl rfl rfl rfl Try.isAgg24 Try.sizeOf24 rfl rfl fun ac hs => ?_)
        exact hs
      · intro L ac w hJ
        have hs := hJ
        refine wpO_in hs rfl rfl rfl (op_call (F := 27) hs (some 10) (v := W r8) rfl rfl rfl rfl (Try.call27 _) (finv_c r2 r8 lr2 hr8) rfl fun ac w hs => ?_)
        exact hs
      · intro L ac w hJ
        have hs := hJ
        refine wpO_in hs rfl rfl rfl (op_load hs (some 11) 0 (v := W a) rfl rfl rfl rfl Try.isAgg24 Try.sizeOf24 rfl rfl fun ac hs => ?_)
        exact hs
      · intro L ac w hJ
        have hs := hJ
        refine wpO_in hs rfl rfl rfl (op_call (F := 13) hs (some 12) (v := W r9) rfl rfl rfl rfl (Try.call13 _) (fred_c a r9 ha hr9) rfl fun ac w hs => ?_)
        exact hs
      · intro L ac w hJ
        have hs := hJ
        refine wpO_in hs rfl rfl rfl (op_bin hs (some 13) (v := .bool true) rfl rfl rfl rfl (fun w => run_eqGuard_agg w .eql 24 _ _ _ _ Try.eqGuardType24) (eqlW r8 r9 lr8 lr9 true (decide_eq_true ((finv_back hp6 hr4 hr2 hr8).trans (hr4.symm.trans hr9)))) rfl fun ac hs => ?_)
        exact hs
      · intro L ac w hJ
        have hs := hJ
        refine wpO_plain rfl (op_pickT hs (some 14) rfl rfl rfl rfl rfl fun ac hs => ?_)
        exact hs
      · intro L ac w hJ
        have hs := hJ
        refine wpO_plain rfl (op_assign hs (some 15) rfl rfl rfl rfl fun ac hs => ?_)
        exact hs
    intro ac w hJ
    replace hs : St 31 w0 [(16, true, .bool true), (17, true, .bool true), (18, true, W a), (19, true, W r2), (20, true, W r7), (21, true, .agg #[.int .u64 1, .int .u64 0, .int .u64 0, .int .u64 0]), (22, true, .bool true), (23, true, .bool true), (24, true, .bool true), (25, true, W r2), (26, true, W r8), (27, true, W a), (28, true, W r9), (29, true, .bool true), (30, true, .bool true), (2, true, .bool true), (1, true, .pointer (some ⟨g1, 0, none⟩)), (2, true, .bool false), (3, true, .pointer (some ⟨g3, 0, none⟩))] [(true, g1, 24, (Wl a)), (true, g3, 24, (Wl r2))] ac w := hJ
    refine then_n ?_
    refine wp_ret ?_
    exact bodyPost_ret (res1 rfl (rv_t hs rfl)) hs.defers ⟨rfl, hs.below⟩
end Go.Proofs.Ytajmmhailcbfoaa
