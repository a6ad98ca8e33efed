/- The laws of targets. -/
import Derived.Test.YtemacggbabiafaaRTgt
namespace Go.Proofs.Ytemacggbabiafaa
open Go.RowKit
set_option maxRecDepth 10000

theorem eqlB {P : Program} {T : TypeId} {p q : Bool} (hu : P.underlying T = some .bool) (h : p = q) (w : World) : (binOp .eql T (.bool p) (.bool q)).run P w = .ok (.bool true) w := by
  subst h
  have := run_equalIn_bool (P := P) w 9999 T p p hu
  simp only [binOp, Sem.run_bind, Op.equal, Op.maxDepth, this, Result.andThen_ok, Sem.run_pure]
  simp

theorem alive_c  (w0 : World) : Calls Try.prog 11 #[] w0 fun e w' => e = .returned (.bool true) ∧ Below w0.heap.size w0 w' := by
  refine enter (n := 28) (args := []) Try.func11 rfl rfl (Nat.le_of_ble_eq_true rfl) fun ac hs => ?_
  refine wp_seq ?_
  refine wp_region_lit ?_
  refine lstep (wpO_plain rfl (op_assign hs none rfl rfl rfl rfl fun ac hs => ?_))
  refine wpList_nil ?_
  refine then_n ?_
  refine wp_seq ?_
  refine wp_region_lit ?_
  refine lstep (wpO_plain rfl (op_call (F := 9) hs none (v := .tuple #[W 57896037716911750921221705069588091649609539881711309849342236841432341020672, .int .i64 0]) rfl rfl rfl rfl (Try.call9 _) (expand_c 545259519 57896037716911750921221705069588091649609539881711309849342236841432341020672 (by decide) (by decide +kernel)) rfl fun ac w hs => ?_))
  refine lstep (wpO_plain rfl (op_move hs none rfl rfl rfl rfl fun ac hs => ?_))
  refine lstep (wpO_plain rfl (op_extract hs none rfl rfl rfl rfl rfl fun ac hs => ?_))
  refine lstep (wpO_plain rfl (op_extract hs none rfl rfl rfl rfl rfl fun ac hs => ?_))
  refine lstep (wpO_plain rfl (op_alloc hs none none (cs := [.int .u64 0, .int .u64 0, .int .u64 0, .int .u64 0]) rfl rfl Try.zeroValue25 (by kernel_rfl) rfl rfl fun g1 ac w hs => ?_))
  refine lstep (wpO_plain rfl (op_store hs 0 (vs := (Wl 57896037716911750921221705069588091649609539881711309849342236841432341020672)) rfl rfl rfl rfl rfl Try.sizeOf25 rfl rfl rfl rfl rfl fun w hs => ?_))
  refine lstep (wpO_plain rfl (op_assign hs none rfl rfl rfl rfl fun ac hs => ?_))
  refine wpList_nil ?_
  refine then_n ?_
  refine wp_seq ?_
  refine wp_region_lit ?_
  refine lstep (wpO_plain rfl (op_move hs none rfl rfl rfl rfl fun ac hs => ?_))
  refine lstep (wpO_plain rfl (op_bin hs none (v := .bool true) rfl rfl rfl rfl (fun _ => rfl) (fun _ => by kernel_rfl) rfl fun ac hs => ?_))
  refine lstep (wpO_plain rfl (op_move hs none rfl rfl rfl rfl fun ac hs => ?_))
  refine lstep (wpO_in hs rfl rfl rfl (op_load hs none 0 (v := W 57896037716911750921221705069588091649609539881711309849342236841432341020672) rfl rfl rfl rfl Try.isAgg25 Try.sizeOf25 rfl rfl fun ac hs => ?_))
  refine lstep (wpO_in hs rfl rfl rfl (op_call (F := 20) hs none (v := .int .i64 ((ln 57896037716911750921221705069588091649609539881711309849342236841432341020672 : Nat) : Int)) rfl rfl rfl rfl (Try.call20 _) (fun w => len_any w 57896037716911750921221705069588091649609539881711309849342236841432341020672 (by decide)) rfl fun ac w hs => ?_))
  refine lstep (wpO_in hs rfl rfl rfl (op_bin hs none (v := .bool true) rfl rfl rfl rfl (fun _ => rfl) (fun w => dT (by decide +kernel) (bin_eqlN (x := ln 57896037716911750921221705069588091649609539881711309849342236841432341020672) (y := 255) w)) rfl fun ac hs => ?_))
  refine lstep (wpO_plain rfl (op_pickT hs none rfl rfl rfl rfl rfl fun ac hs => ?_))
  refine lstep (wpO_plain rfl (op_move hs none rfl rfl rfl rfl fun ac hs => ?_))
  refine lstep (wpO_in hs rfl rfl rfl (op_call (F := 16) hs none (v := W 2) rfl rfl rfl rfl (Try.call16 _) (work_c 545259519 2 (by decide) (by decide +kernel)) rfl fun ac w hs => ?_))
  refine lstep (wpO_in hs rfl rfl rfl (op_build hs none (qs := [(0, .int .u64 2)]) (v := .agg #[.int .u64 2, .int .u64 0, .int .u64 0, .int .u64 0]) rfl rfl rfl rfl (fun _ => by kernel_rfl) rfl fun ac hs => ?_))
  refine lstep (wpO_in hs rfl rfl rfl (op_bin hs none (v := .bool true) rfl rfl rfl rfl (fun w => run_eqGuard_agg w .eql 25 _ _ _ _ Try.eqGuardType25) (eqlW 2 2 (by decide) (by decide) true (decide_eq_true rfl)) rfl fun ac hs => ?_))
  refine lstep (wpO_plain rfl (op_pickT hs none rfl rfl rfl rfl rfl fun ac hs => ?_))
  refine lstep (wpO_plain rfl (op_move hs none rfl rfl rfl rfl fun ac hs => ?_))
  refine lstep (wpO_in hs rfl rfl rfl (op_build hs none (qs := [(0, .int .u64 128)]) (v := .agg #[.int .u64 128, .int .u64 0, .int .u64 0, .int .u64 0]) rfl rfl rfl rfl (fun _ => by kernel_rfl) rfl fun ac hs => ?_))
  obtain ⟨cp2, hcp2⟩ : ∃ z0, cpt 128 = z0 := ⟨_, rfl⟩
  have lcp2 : cp2 < 4294967296 := by rw [← hcp2]; exact cpt_lt (by decide)
  refine lstep (wpO_in hs rfl rfl rfl (op_call (F := 12) hs none (v := .int .u32 ((cp2 : Nat) : Int)) rfl rfl rfl rfl (Try.call12 _) (compact_c 128 cp2 (by decide) hcp2) rfl fun ac w hs => ?_))
  refine lstep (wpO_in hs rfl rfl rfl (op_bin hs none (v := .bool true) rfl rfl rfl rfl (fun _ => rfl) (fun w => dT (by rw [← hcp2]; decide +kernel) (bin_eqlN (x := cp2) (y := 33587200) w)) rfl fun ac hs => ?_))
  refine lstep (wpO_plain rfl (op_pickT hs none rfl rfl rfl rfl rfl fun ac hs => ?_))
  refine lstep (wpO_plain rfl (op_move hs none rfl rfl rfl rfl fun ac hs => ?_))
  refine lstep (wpO_in hs rfl rfl rfl (op_build hs none (qs := []) (v := At .u8 32 (fun _ => 0)) rfl rfl rfl rfl (fun _ => by kernel_rfl) rfl fun ac hs => ?_))
  refine lstep (wpO_in hs rfl rfl rfl (op_call (F := 14) hs none (v := .bool true) rfl rfl rfl rfl (Try.call14 _) (meets_c (fun _ => 0) 545259519 true (fun _ _ => by decide) (by decide) (by decide +kernel)) rfl fun ac w hs => ?_))
  refine lstep (wpO_plain rfl (op_pickT hs none rfl rfl rfl rfl rfl fun ac hs => ?_))
  refine lstep (wpO_plain rfl (op_assign hs none rfl rfl rfl rfl fun ac hs => ?_))
  refine wpList_nil ?_
  refine then_n ?_
  refine wp_ret ?_
  exact bodyPost_ret (res1 rfl (rv_t hs rfl)) hs.defers ⟨rfl, hs.below⟩
theorem expand_law (b : Nat) (hb : b < 4294967296) (t : Nat) (lt : t < 2 ^ 256) (w0 : World) : Calls Try.prog 3 #[.int .u32 ((b : Nat) : Int), W t] w0 fun e w' => e = .returned (.bool true) ∧ Below w0.heap.size w0 w' := by
  refine enter (n := 37) (args := [.int .u32 ((b : Nat) : Int), W t]) Try.func3 rfl rfl (Nat.le_of_ble_eq_true rfl) fun ac hs => ?_
  refine wp_seq ?_
  refine wp_region_lit ?_
  refine lstep (wpO_plain rfl (op_box hs none none (cs := (Wl t)) rfl rfl rfl rfl rfl rfl fun g1 ac w hs => ?_))
  refine lstep (wpO_plain rfl (op_assign hs none rfl rfl rfl rfl fun ac hs => ?_))
  refine wpList_nil ?_
  refine then_n ?_
  refine wp_seq ?_
  refine wp_region_lit ?_
  refine lstep (wpO_plain rfl (op_move hs none rfl rfl rfl rfl fun ac hs => ?_))
  obtain ⟨x2, hx2, lx2⟩ : ∃ z0, tgt b = z0 ∧ z0 < 2 ^ 256 := ⟨_, rfl, tgt_lt' _⟩
  refine lstep (wpO_plain rfl (op_call (F := 9) hs none (v := .tuple #[W x2, .int .i64 ((ec x2 : Nat) : Int)]) rfl rfl rfl rfl (Try.call9 _) (expand_c b x2 (show b < 4294967296 by omega) hx2) rfl fun ac w hs => ?_))
  refine lstep (wpO_plain rfl (op_move hs none rfl rfl rfl rfl fun ac hs => ?_))
  refine lstep (wpO_plain rfl (op_extract hs none rfl rfl rfl rfl rfl fun ac hs => ?_))
  refine lstep (wpO_plain rfl (op_extract hs none rfl rfl rfl rfl rfl fun ac hs => ?_))
  refine lstep (wpO_plain rfl (op_alloc hs none none (cs := [.int .u64 0, .int .u64 0, .int .u64 0, .int .u64 0]) rfl rfl Try.zeroValue25 (by kernel_rfl) rfl rfl fun g3 ac w hs => ?_))
  refine lstep (wpO_plain rfl (op_store hs 1 (vs := (Wl x2)) rfl rfl rfl rfl rfl Try.sizeOf25 rfl rfl rfl rfl rfl fun w hs => ?_))
  refine lstep (wpO_plain rfl (op_assign hs none rfl rfl rfl rfl fun ac hs => ?_))
  refine wpList_nil ?_
  refine then_n ?_
  refine wp_seq ?_
  refine wp_region_lit ?_
  refine lstep (wpO_plain rfl (op_move hs none rfl rfl rfl rfl fun ac hs => ?_))
  obtain ⟨x4, hx4, lx4⟩ : ∃ z0, tgt b = z0 ∧ z0 < 2 ^ 256 := ⟨_, rfl, tgt_lt' _⟩
  refine lstep (wpO_plain rfl (op_call (F := 10) hs none (v := .tuple #[W x4, .int .i64 ((ec x4 : Nat) : Int)]) rfl rfl rfl rfl (Try.call10 _) (rexpand_c b x4 (show b < 4294967296 by omega) hx4) rfl fun ac w hs => ?_))
  refine lstep (wpO_plain rfl (op_move hs none rfl rfl rfl rfl fun ac hs => ?_))
  refine lstep (wpO_plain rfl (op_extract hs none rfl rfl rfl rfl rfl fun ac hs => ?_))
  refine lstep (wpO_plain rfl (op_extract hs none rfl rfl rfl rfl rfl fun ac hs => ?_))
  refine lstep (wpO_plain rfl (op_alloc hs none none (cs := [.int .u64 0, .int .u64 0, .int .u64 0, .int .u64 0]) rfl rfl Try.zeroValue25 (by kernel_rfl) rfl rfl fun g5 ac w hs => ?_))
  refine lstep (wpO_plain rfl (op_store hs 2 (vs := (Wl x4)) rfl rfl rfl rfl rfl Try.sizeOf25 rfl rfl rfl rfl rfl fun w hs => ?_))
  refine lstep (wpO_plain rfl (op_assign hs none rfl rfl rfl rfl fun ac hs => ?_))
  refine wpList_nil ?_
  refine then_n ?_
  refine wp_seq ?_
  replace hs : St 37 w0 [(3, true, .pointer (some ⟨g1, 0, none⟩)), (4, true, .bool false), (5, true, .pointer (some ⟨g3, 0, none⟩)), (6, true, .int .i64 ((ec x2 : Nat) : Int)), (7, true, .pointer (some ⟨g5, 0, none⟩)), (8, true, .int .i64 ((ec x4 : Nat) : Int))] [(true, g1, 25, (Wl t)), (true, g3, 25, (Wl x2)), (true, g5, 25, (Wl x4))] ac w := hs.re ⟨rfl, rfl, rfl, rfl, rfl, rfl, trivial⟩
  obtain ⟨cp6, hcp6⟩ : ∃ z0, cpt t = z0 := ⟨_, rfl⟩
  have lcp6 : cp6 < 4294967296 := by rw [← hcp6]; exact cpt_lt lt
  obtain ⟨cp7, hcp7⟩ : ∃ z0, cpt t = z0 := ⟨_, rfl⟩
  have lcp7 : cp7 < 4294967296 := by rw [← hcp7]; exact cpt_lt lt
  refine region_inv [([], [1, 2, 3, 4, 5, 6, 7, 8, 9, 10, 11, 12, 13, 14, 15, 16, 17, 18]), ([0], [2, 3, 4, 5, 6, 7, 8, 9, 10, 11, 12, 13, 14, 15, 16, 17, 18]), ([0, 1], [4, 5, 6, 7, 8, 9, 10, 11, 12, 13, 14, 15, 16, 17, 18]), ([0, 1], [4, 5, 6, 7, 8, 9, 10, 11, 12, 13, 14, 15, 16, 17, 18]), ([0, 1, 2, 3], [5, 6, 7, 8, 9, 10, 11, 12, 13, 14, 15, 16, 17, 18]), ([0, 1, 2, 3, 4], [6, 7, 8, 9, 10, 11, 12, 13, 14, 15, 16, 17, 18]), ([0, 1, 2, 3, 4, 5], [7, 8, 9, 10, 11, 12, 13, 14, 15, 16, 17, 18]), ([0, 1, 2, 3, 4, 5, 6], [9, 10, 11, 12, 13, 14, 15, 16, 17, 18]), ([0, 1, 2, 3, 4, 5, 6], [9, 10, 11, 12, 13, 14, 15, 16, 17, 18]), ([0, 1, 2, 3, 4, 5, 6, 7, 8], [10, 11, 12, 13, 14, 15, 16, 17, 18]), ([0, 1, 2, 3, 4, 5, 6, 7, 8, 9], [11, 12, 13, 14, 15, 16, 17, 18]), ([0, 1, 2, 3, 4, 5, 6, 7, 8, 9, 10], [12, 13, 14, 15, 16, 17, 18]), ([0, 1, 2, 3, 4, 5, 6, 7, 8, 9, 10, 11], [13, 15, 16, 17, 18]), ([0, 1, 2, 3, 4, 5, 6, 7, 8, 9, 10, 11, 12], [15, 16, 17, 18]), ([0, 1, 2, 3, 4, 5, 6, 7, 8, 9, 10, 11], [15, 16, 17, 18]), ([0, 1, 2, 3, 4, 5, 6, 7, 8, 9, 10, 11, 12, 13, 14], [16, 17, 18]), ([0, 1, 2, 3, 4, 5, 6, 7, 8, 9, 10, 11, 12, 13, 14, 15], [17, 18]), ([0, 1, 2, 3, 4, 5, 6, 7, 8, 9, 10, 11, 12, 13, 14, 15, 16], [18]), ([0, 1, 2, 3, 4, 5, 6, 7, 8, 9, 10, 11, 12, 13, 14, 15, 16, 17], [])] (fun L ac w => St 37 w0 [(19, L 0, .bool true), (20, L 1, .bool true), (21, L 2, W x2), (22, L 3, W x4), (23, L 4, .bool true), (24, L 5, .bool true), (25, L 6, .bool true), (26, L 7, .int .i64 ((ec x2 : Nat) : Int)), (27, L 8, .int .i64 ((ec x4 : Nat) : Int)), (28, L 9, .bool true), (29, L 10, .bool true), (30, L 11, .bool true), (31, L 12, W t), (32, L 13, .int .u32 ((cp6 : Nat) : Int)), (33, L 14, W t), (34, L 15, .int .u32 ((cp7 : Nat) : Int)), (35, L 16, .bool true), (36, L 17, .bool true), (4, L 18, .bool true), (3, true, .pointer (some ⟨g1, 0, none⟩)), (4, true, .bool false), (5, true, .pointer (some ⟨g3, 0, none⟩)), (6, true, .int .i64 ((ec x2 : Nat) : Int)), (7, true, .pointer (some ⟨g5, 0, none⟩)), (8, true, .int .i64 ((ec x4 : Nat) : Int))] [(true, g1, 25, (Wl t)), (true, g3, 25, (Wl x2)), (true, g5, 25, (Wl x4))] ac w) (by kernel_rfl) (by kernel_rfl) ?_ ?_ ?_
  · exact hs.drew.skip.skip.skip.skip.skip.skip.skip.skip.skip.skip.skip.skip.skip.skip.skip.skip.skip.skip.skip
  · refine ⟨?_, ?_, ?_, ?_, ?_, ?_, ?_, ?_, ?_, ?_, ?_, ?_, ?_, ?_, ?_, ?_, ?_, ?_, ?_, trivial⟩
    · intro L ac w hJ
      have hs := hJ
      refine wpO_plain rfl (op_call (F := 11) hs (some 0) (v := .bool true) rfl rfl rfl rfl (Try.call11 _) alive_c rfl fun ac w hs => ?_)
      exact hs
    · intro L ac w hJ
      have hs := hJ
      refine wpO_plain rfl (op_move hs (some 1) rfl rfl rfl rfl fun ac hs => ?_)
      exact hs
    · intro L ac w hJ
      have hs := hJ
      refine wpO_in hs rfl rfl rfl (op_load hs (some 2) 1 (v := W x2) rfl rfl rfl rfl Try.isAgg25 Try.sizeOf25 rfl rfl fun ac hs => ?_)
      exact hs
    · intro L ac w hJ
      have hs := hJ
      refine wpO_in hs rfl rfl rfl (op_load hs (some 3) 2 (v := W x4) rfl rfl rfl rfl Try.isAgg25 Try.sizeOf25 rfl rfl fun ac hs => ?_)
      exact hs
    · intro L ac w hJ
      have hs := hJ
      refine wpO_in hs rfl rfl rfl (op_bin hs (some 4) (v := .bool true) rfl rfl rfl rfl (fun w => run_eqGuard_agg w .eql 25 _ _ _ _ Try.eqGuardType25) (eqlW x2 x4 lx2 lx4 true (decide_eq_true (by rw [← hx2, ← hx4]))) rfl fun ac hs => ?_)
      exact hs
    · intro L ac w hJ
      have hs := hJ
      refine wpO_plain rfl (op_pickT hs (some 5) rfl rfl rfl rfl rfl fun ac hs => ?_)
      exact hs
    · intro L ac w hJ
      have hs := hJ
      refine wpO_plain rfl (op_move hs (some 6) rfl rfl rfl rfl fun ac hs => ?_)
      exact hs
    · intro L ac w hJ
      have hs := hJ
      refine wpO_in hs rfl rfl rfl (op_move hs (some 7) rfl rfl rfl rfl fun ac hs => ?_)
      exact hs
    · intro L ac w hJ
      have hs := hJ
      refine wpO_in hs rfl rfl rfl (op_move hs (some 8) rfl rfl rfl rfl fun ac hs => ?_)
      exact hs
    · intro L ac w hJ
      have hs := hJ
      refine wpO_in hs rfl rfl rfl (op_bin hs (some 9) (v := .bool true) rfl rfl rfl rfl (fun _ => rfl) (fun w => dT (by rw [← hx2, ← hx4]) (bin_eqlN (x := ec x2) (y := ec x4) w)) rfl fun ac hs => ?_)
      exact hs
    · intro L ac w hJ
      have hs := hJ
      refine wpO_plain rfl (op_pickT hs (some 10) rfl rfl rfl rfl rfl fun ac hs => ?_)
      exact hs
    · intro L ac w hJ
      have hs := hJ
      refine wpO_plain rfl (op_move hs (some 11) rfl rfl rfl rfl fun ac hs => ?_)
      exact hs
    · intro L ac w hJ
      have hs := hJ
      refine wpO_in hs rfl rfl rfl (op_load hs (some 12) 0 (v := W t) rfl rfl rfl rfl Try.isAgg25 Try.sizeOf25 rfl rfl fun ac hs => ?_)
      exact hs
    · intro L ac w hJ
      have hs := hJ
      refine wpO_in hs rfl rfl rfl (op_call (F := 12) hs (some 13) (v := .int .u32 ((cp6 : Nat) : Int)) rfl rfl rfl rfl (Try.call12 _) (compact_c t cp6 lt hcp6) rfl fun ac w hs => ?_)
      exact hs
    · intro L ac w hJ
      have hs := hJ
      refine wpO_in hs rfl rfl rfl (op_load hs (some 14) 0 (v := W t) rfl rfl rfl rfl Try.isAgg25 Try.sizeOf25 rfl rfl fun ac hs => ?_)
      exact hs
    · intro L ac w hJ
      have hs := hJ
      refine wpO_in hs rfl rfl rfl (op_call (F := 13) hs (some 15) (v := .int .u32 ((cp7 : Nat) : Int)) rfl rfl rfl rfl (Try.call13 _) (rcompact_c t cp7 lt hcp7) rfl fun ac w hs => ?_)
      exact hs
    · intro L ac w hJ
      have hs := hJ
      refine wpO_in hs rfl rfl rfl (op_bin hs (some 16) (v := .bool true) rfl rfl rfl rfl (fun _ => rfl) (fun w => dT (by rw [← hcp6, ← hcp7]) (bin_eqlN (x := cp6) (y := cp7) w)) rfl fun ac hs => ?_)
      exact hs
    · intro L ac w hJ
      have hs := hJ
      refine wpO_plain rfl (op_pickT hs (some 17) rfl rfl rfl rfl rfl fun ac hs => ?_)
      exact hs
    · intro L ac w hJ
      have hs := hJ
      refine wpO_plain rfl (op_assign hs (some 18) rfl rfl rfl rfl fun ac hs => ?_)
      exact hs
  intro ac w hJ
  replace hs : St 37 w0 [(19, true, .bool true), (20, true, .bool true), (21, true, W x2), (22, true, W x4), (23, true, .bool true), (24, true, .bool true), (25, true, .bool true), (26, true, .int .i64 ((ec x2 : Nat) : Int)), (27, true, .int .i64 ((ec x4 : Nat) : Int)), (28, true, .bool true), (29, true, .bool true), (30, true, .bool true), (31, true, W t), (32, true, .int .u32 ((cp6 : Nat) : Int)), (33, true, W t), (34, true, .int .u32 ((cp7 : Nat) : Int)), (35, true, .bool true), (36, true, .bool true), (4, true, .bool true), (3, true, .pointer (some ⟨g1, 0, none⟩)), (4, true, .bool false), (5, true, .pointer (some ⟨g3, 0, none⟩)), (6, true, .int .i64 ((ec x2 : Nat) : Int)), (7, true, .pointer (some ⟨g5, 0, none⟩)), (8, true, .int .i64 ((ec x4 : Nat) : Int))] [(true, g1, 25, (Wl t)), (true, g3, 25, (Wl x2)), (true, g5, 25, (Wl x4))] ac w := hJ
  refine then_n ?_
  refine wp_ret ?_
  exact bodyPost_ret (res1 rfl (rv_t hs rfl)) hs.defers ⟨rfl, hs.below⟩
theorem meets_law (f : Nat → Nat) (hf : ∀ j, j < 32 → f j < 256) (b : Nat) (hb : b < 4294967296) (w0 : World) : Calls Try.prog 4 #[At .u8 32 f, .int .u32 ((b : Nat) : Int)] w0 fun e w' => e = .returned (.bool true) ∧ Below w0.heap.size w0 w' := by
  refine enter (n := 15) (args := [At .u8 32 f, .int .u32 ((b : Nat) : Int)]) Try.func4 rfl rfl (Nat.le_of_ble_eq_true rfl) fun ac hs => ?_
  refine wp_seq ?_
  refine wp_region_lit ?_
  refine lstep (wpO_plain rfl (op_box hs none none (cs := (tab .u8 32 f)) rfl rfl rfl rfl rfl rfl fun g1 ac w hs => ?_))
  refine lstep (wpO_plain rfl (op_assign hs none rfl rfl rfl rfl fun ac hs => ?_))
  refine wpList_nil ?_
  refine then_n ?_
  refine wp_seq ?_
  replace hs : St 15 w0 [(1, true, .int .u32 ((b : Nat) : Int)), (2, true, .pointer (some ⟨g1, 0, none⟩)), (4, true, .bool false)] [(true, g1, 32, (tab .u8 32 f))] ac w := hs.re ⟨rfl, rfl, rfl, trivial⟩
  obtain ⟨q2, hq2⟩ : ∃ z0, mts f b = z0 := ⟨_, rfl⟩
  obtain ⟨q3, hq3⟩ : ∃ z0, mts f b = z0 := ⟨_, rfl⟩
  refine region_inv [([], [1, 2, 3, 4, 5, 6, 7, 8, 9, 10]), ([0], [2, 3, 4, 5, 6, 7, 8, 9, 10]), ([0, 1], [4, 7, 8, 9, 10]), ([0, 1], [4, 7, 8, 9, 10]), ([0, 1, 2, 3], [7, 8, 9, 10]), ([0, 1], [7, 8, 9, 10]), ([0, 1], [7, 8, 9, 10]), ([0, 1, 2, 3, 4, 5, 6], [8, 9, 10]), ([0, 1, 2, 3, 4, 5, 6, 7], [9, 10]), ([0, 1, 2, 3, 4, 5, 6, 7, 8], [10]), ([0, 1, 2, 3, 4, 5, 6, 7, 8, 9], [])] (fun L ac w => St 15 w0 [(5, L 0, .bool true), (6, L 1, .bool true), (7, L 2, At .u8 32 f), (8, L 3, .int .u32 ((b : Nat) : Int)), (9, L 4, .bool q2), (10, L 5, At .u8 32 f), (11, L 6, .int .u32 ((b : Nat) : Int)), (12, L 7, .bool q3), (13, L 8, .bool true), (14, L 9, .bool true), (4, L 10, .bool true), (1, true, .int .u32 ((b : Nat) : Int)), (2, true, .pointer (some ⟨g1, 0, none⟩)), (4, true, .bool false)] [(true, g1, 32, (tab .u8 32 f))] ac w) (by kernel_rfl) (by kernel_rfl) ?_ ?_ ?_
  · exact hs.drew.skip.skip.skip.skip.skip.skip.skip.skip.skip.skip.skip
  · refine ⟨?_, ?_, ?_, ?_, ?_, ?_, ?_, ?_, ?_, ?_, ?_, trivial⟩
    · intro L ac w hJ
      have hs := hJ
      refine wpO_plain rfl (op_call (F := 11) hs (some 0) (v := .bool true) rfl rfl rfl rfl (Try.call11 _) alive_c rfl fun ac w hs => ?_)
      exact hs
    · intro L ac w hJ
      have hs := hJ
      refine wpO_plain rfl (op_move hs (some 1) rfl rfl rfl rfl fun ac hs => ?_)
      exact hs
    · intro L ac w hJ
      have hs := hJ
      refine wpO_in hs rfl rfl rfl (op_load hs (some 2) 0 (v := At .u8 32 f) rfl rfl rfl rfl Try.isAgg32 Try.sizeOf32 ldv_tab rfl fun ac hs => ?_)
      exact hs
    · intro L ac w hJ
      have hs := hJ
      refine wpO_in hs rfl rfl rfl (op_move hs (some 3) rfl rfl rfl rfl fun ac hs => ?_)
      exact hs
    · intro L ac w hJ
      have hs := hJ
      refine wpO_in hs rfl rfl rfl (op_call (F := 14) hs (some 4) (v := .bool q2) rfl rfl rfl rfl (Try.call14 _) (meets_c f b q2 hf (show b < 4294967296 by omega) hq2) rfl fun ac w hs => ?_)
      exact hs
    · intro L ac w hJ
      have hs := hJ
      refine wpO_in hs rfl rfl rfl (op_load hs (some 5) 0 (v := At .u8 32 f) rfl rfl rfl rfl Try.isAgg32 Try.sizeOf32 ldv_tab rfl fun ac hs => ?_)
      exact hs
    · intro L ac w hJ
      have hs := hJ
      refine wpO_in hs rfl rfl rfl (op_move hs (some 6) rfl rfl rfl rfl fun ac hs => ?_)
      exact hs
    · intro L ac w hJ
      have hs := hJ
      refine wpO_in hs rfl rfl rfl (op_call (F := 15) hs (some 7) (v := .bool q3) rfl rfl rfl rfl (Try.call15 _) (rmeets_c f b q3 hf (show b < 4294967296 by omega) hq3) rfl fun ac w hs => ?_)
      exact hs
    · intro L ac w hJ
      have hs := hJ
      refine wpO_in hs rfl rfl rfl (op_bin hs (some 8) (v := .bool true) rfl rfl rfl rfl (fun _ => rfl) (eqlB Try.underlying4 (by rw [← hq2, ← hq3])) rfl fun ac hs => ?_)
      exact hs
    · intro L ac w hJ
      have hs := hJ
      refine wpO_plain rfl (op_pickT hs (some 9) rfl rfl rfl rfl rfl fun ac hs => ?_)
      exact hs
    · intro L ac w hJ
      have hs := hJ
      refine wpO_plain rfl (op_assign hs (some 10) rfl rfl rfl rfl fun ac hs => ?_)
      exact hs
  intro ac w hJ
  replace hs : St 15 w0 [(5, true, .bool true), (6, true, .bool true), (7, true, At .u8 32 f), (8, true, .int .u32 ((b : Nat) : Int)), (9, true, .bool q2), (10, true, At .u8 32 f), (11, true, .int .u32 ((b : Nat) : Int)), (12, true, .bool q3), (13, true, .bool true), (14, true, .bool true), (4, true, .bool true), (1, true, .int .u32 ((b : Nat) : Int)), (2, true, .pointer (some ⟨g1, 0, none⟩)), (4, true, .bool false)] [(true, g1, 32, (tab .u8 32 f))] ac w := hJ
  refine then_n ?_
  refine wp_ret ?_
  exact bodyPost_ret (res1 rfl (rv_t hs rfl)) hs.defers ⟨rfl, hs.below⟩
theorem work_law (b : Nat) (hb : b < 4294967296) (w0 : World) : Calls Try.prog 5 #[.int .u32 ((b : Nat) : Int)] w0 fun e w' => e = .returned (.bool true) ∧ Below w0.heap.size w0 w' := by
  refine enter (n := 11) (args := [.int .u32 ((b : Nat) : Int)]) Try.func5 rfl rfl (Nat.le_of_ble_eq_true rfl) fun ac hs => ?_
  refine wp_seq ?_
  refine wp_region_lit ?_
  refine lstep (wpO_plain rfl (op_assign hs none rfl rfl rfl rfl fun ac hs => ?_))
  refine wpList_nil ?_
  refine then_n ?_
  refine wp_seq ?_
  refine wp_region_lit ?_
  refine lstep (wpO_plain rfl (op_call (F := 11) hs none (v := .bool true) rfl rfl rfl rfl (Try.call11 _) alive_c rfl fun ac w hs => ?_))
  refine lstep (wpO_plain rfl (op_move hs none rfl rfl rfl rfl fun ac hs => ?_))
  refine lstep (wpO_in hs rfl rfl rfl (op_move hs none rfl rfl rfl rfl fun ac hs => ?_))
  obtain ⟨wk1, hwk1, lwk1⟩ : ∃ z0, wrk b = z0 ∧ z0 < 2 ^ 256 := ⟨_, rfl, wrk_lt _⟩
  refine lstep (wpO_in hs rfl rfl rfl (op_call (F := 16) hs none (v := W wk1) rfl rfl rfl rfl (Try.call16 _) (work_c b wk1 (show b < 4294967296 by omega) hwk1) rfl fun ac w hs => ?_))
  refine lstep (wpO_in hs rfl rfl rfl (op_move hs none rfl rfl rfl rfl fun ac hs => ?_))
  obtain ⟨wk2, hwk2, lwk2⟩ : ∃ z0, wrk b = z0 ∧ z0 < 2 ^ 256 := ⟨_, rfl, wrk_lt _⟩
  refine lstep (wpO_in hs rfl rfl rfl (op_call (F := 17) hs none (v := W wk2) rfl rfl rfl rfl (Try.call17 _) (rwork_c b wk2 (show b < 4294967296 by omega) hwk2) rfl fun ac w hs => ?_))
  refine lstep (wpO_in hs rfl rfl rfl (op_bin hs none (v := .bool true) rfl rfl rfl rfl (fun w => run_eqGuard_agg w .eql 25 _ _ _ _ Try.eqGuardType25) (eqlW wk1 wk2 lwk1 lwk2 true (decide_eq_true (by rw [← hwk1, ← hwk2]))) rfl fun ac hs => ?_))
  refine lstep (wpO_plain rfl (op_pickT hs none rfl rfl rfl rfl rfl fun ac hs => ?_))
  refine lstep (wpO_plain rfl (op_assign hs none rfl rfl rfl rfl fun ac hs => ?_))
  refine wpList_nil ?_
  refine then_n ?_
  refine wp_ret ?_
  exact bodyPost_ret (res1 rfl (rv_t hs rfl)) hs.defers ⟨rfl, hs.below⟩
theorem next_law (b : Nat) (hb : b < 4294967296) (n : Int) (w0 : World) : Calls Try.prog 8 #[.int .u32 ((b : Nat) : Int), .int .i64 n] w0 fun e w' => e = .returned (.bool true) ∧ Below w0.heap.size w0 w' := by
  refine enter (n := 15) (args := [.int .u32 ((b : Nat) : Int), .int .i64 n]) Try.func8 rfl rfl (Nat.le_of_ble_eq_true rfl) fun ac hs => ?_
  refine wp_seq ?_
  refine wp_region_lit ?_
  refine lstep (wpO_plain rfl (op_assign hs none rfl rfl rfl rfl fun ac hs => ?_))
  refine wpList_nil ?_
  refine then_n ?_
  refine wp_seq ?_
  refine wp_region_lit ?_
  refine lstep (wpO_plain rfl (op_call (F := 11) hs none (v := .bool true) rfl rfl rfl rfl (Try.call11 _) alive_c rfl fun ac w hs => ?_))
  refine lstep (wpO_plain rfl (op_move hs none rfl rfl rfl rfl fun ac hs => ?_))
  refine lstep (wpO_in hs rfl rfl rfl (op_move hs none rfl rfl rfl rfl fun ac hs => ?_))
  refine lstep (wpO_in hs rfl rfl rfl (op_move hs none rfl rfl rfl rfl fun ac hs => ?_))
  obtain ⟨nx1, hnx1⟩ : ∃ z0, nxt b n = z0 := ⟨_, rfl⟩
  refine lstep (wpO_in hs rfl rfl rfl (op_call (F := 23) hs none (v := .int .u32 ((nx1 : Nat) : Int)) rfl rfl rfl rfl (Try.call23 _) (next_c b n nx1 (show b < 4294967296 by omega) hnx1) rfl fun ac w hs => ?_))
  refine lstep (wpO_in hs rfl rfl rfl (op_move hs none rfl rfl rfl rfl fun ac hs => ?_))
  refine lstep (wpO_in hs rfl rfl rfl (op_move hs none rfl rfl rfl rfl fun ac hs => ?_))
  obtain ⟨nx2, hnx2⟩ : ∃ z0, nxt b n = z0 := ⟨_, rfl⟩
  refine lstep (wpO_in hs rfl rfl rfl (op_call (F := 24) hs none (v := .int .u32 ((nx2 : Nat) : Int)) rfl rfl rfl rfl (Try.call24 _) (rnext_c b n nx2 (show b < 4294967296 by omega) hnx2) rfl fun ac w hs => ?_))
  refine lstep (wpO_in hs rfl rfl rfl (op_bin hs none (v := .bool true) rfl rfl rfl rfl (fun _ => rfl) (fun w => dT (by rw [← hnx1, ← hnx2]) (bin_eqlN (x := nx1) (y := nx2) w)) rfl fun ac hs => ?_))
  refine lstep (wpO_plain rfl (op_pickT hs none rfl rfl rfl rfl rfl fun ac hs => ?_))
  refine lstep (wpO_plain rfl (op_assign hs none rfl rfl rfl rfl fun ac hs => ?_))
  refine wpList_nil ?_
  refine then_n ?_
  refine wp_ret ?_
  exact bodyPost_ret (res1 rfl (rv_t hs rfl)) hs.defers ⟨rfl, hs.below⟩
set_option maxHeartbeats 2000000 in
theorem back_law (t : Nat) (lt : t < 2 ^ 256) (b : Nat) (hb : b < 4294967296) (w0 : World) : Calls Try.prog 6 #[W t, .int .u32 ((b : Nat) : Int)] w0 fun e w' => e = .returned (.bool true) ∧ Below w0.heap.size w0 w' := by
  refine enter (n := 75) (args := [W t, .int .u32 ((b : Nat) : Int)]) Try.func6 rfl rfl (Nat.le_of_ble_eq_true rfl) fun ac hs => ?_
  refine wp_seq ?_
  refine wp_region_lit ?_
  refine lstep (wpO_plain rfl (op_box hs none none (cs := (Wl t)) rfl rfl rfl rfl rfl rfl fun g1 ac w hs => ?_))
  refine lstep (wpO_plain rfl (op_assign hs none rfl rfl rfl rfl fun ac hs => ?_))
  refine wpList_nil ?_
  refine then_n ?_
  refine wp_seq ?_
  refine wp_region_lit ?_
  refine lstep (wpO_plain rfl (op_move hs none rfl rfl rfl rfl fun ac hs => ?_))
  obtain ⟨x2, hx2, lx2⟩ : ∃ z0, tgt b = z0 ∧ z0 < 2 ^ 256 := ⟨_, rfl, tgt_lt' _⟩
  refine lstep (wpO_plain rfl (op_call (F := 9) hs none (v := .tuple #[W x2, .int .i64 ((ec x2 : Nat) : Int)]) rfl rfl rfl rfl (Try.call9 _) (expand_c b x2 (show b < 4294967296 by omega) hx2) rfl fun ac w hs => ?_))
  refine lstep (wpO_plain rfl (op_move hs none rfl rfl rfl rfl fun ac hs => ?_))
  refine lstep (wpO_plain rfl (op_extract hs none rfl rfl rfl rfl rfl fun ac hs => ?_))
  refine lstep (wpO_plain rfl (op_extract hs none rfl rfl rfl rfl rfl fun ac hs => ?_))
  refine lstep (wpO_plain rfl (op_alloc hs none none (cs := [.int .u64 0, .int .u64 0, .int .u64 0, .int .u64 0]) rfl rfl Try.zeroValue25 (by kernel_rfl) rfl rfl fun g3 ac w hs => ?_))
  refine lstep (wpO_plain rfl (op_store hs 1 (vs := (Wl x2)) rfl rfl rfl rfl rfl Try.sizeOf25 rfl rfl rfl rfl rfl fun w hs => ?_))
  refine lstep (wpO_plain rfl (op_assign hs none rfl rfl rfl rfl fun ac hs => ?_))
  refine wpList_nil ?_
  refine then_n ?_
  refine wp_seq ?_
  refine wp_seq ?_
  by_cases hq4 : x2 = 0
  · skip
    refine wp_region_lit ?_
    refine lstep (wpO_plain rfl (op_move hs none rfl rfl rfl rfl fun ac hs => ?_))
    refine lstep (wpO_plain rfl (op_bin hs none (v := .bool false) rfl rfl rfl rfl (fun _ => rfl) (fun w => dF (fun hh => ec_zero.1 hh hq4) (bin_eqlN (x := ec x2) (y := 0) w)) rfl fun ac hs => ?_))
    refine wpList_nil ?_
    refine then_n ?_
    refine wp_cond_false (hs.ev rfl) ?_
    refine wp_skip ?_
    refine then_n ?_
    refine wp_seq ?_
    refine wp_seq ?_
    refine wp_region_lit ?_
    refine lstep (wpO_plain rfl (op_load hs none 0 (v := W t) rfl rfl rfl rfl Try.isAgg25 Try.sizeOf25 rfl rfl fun ac hs => ?_))
    refine lstep (wpO_plain rfl (op_build hs none (qs := []) (v := .agg #[.int .u64 0, .int .u64 0, .int .u64 0, .int .u64 0]) rfl rfl rfl rfl (fun _ => by kernel_rfl) rfl fun ac hs => ?_))
    refine lstep (wpO_plain rfl (op_bin hs none (v := .bool (decide (t = 0))) rfl rfl rfl rfl (fun w => run_eqGuard_agg w .eql 25 _ _ _ _ Try.eqGuardType25) (eqlW t 0 lt (by decide) _ rfl) rfl fun ac hs => ?_))
    refine wpList_nil ?_
    refine then_n ?_
    refine wp_cond_split (hs.ev rfl) (fun hc => ?_) (fun hc => ?_)
    · skip
      have hp5 := of_decide_eq_true hc
      refine wp_seq ?_
      refine wp_region_lit ?_
      refine lstep (wpO_plain rfl (op_call (F := 11) hs none (v := .bool true) rfl rfl rfl rfl (Try.call11 _) alive_c rfl fun ac w hs => ?_))
      refine lstep (wpO_plain rfl (op_assign hs none rfl rfl rfl rfl fun ac hs => ?_))
      refine wpList_nil ?_
      refine then_n ?_
      refine wp_ret ?_
      refine then_r ?_
      exact bodyPost_ret (res1 rfl (rv_t hs rfl)) hs.defers ⟨rfl, hs.below⟩
    · skip
      have hp6 := of_decide_eq_false hc
      refine wp_skip ?_
      refine then_n ?_
      refine wp_seq ?_
      refine wp_region_lit ?_
      refine lstep (wpO_plain rfl (op_load hs none 0 (v := W t) rfl rfl rfl rfl Try.isAgg25 Try.sizeOf25 rfl rfl fun ac hs => ?_))
      obtain ⟨cp7, hcp7⟩ : ∃ z0, cpt t = z0 := ⟨_, rfl⟩
      have lcp7 : cp7 < 4294967296 := by rw [← hcp7]; exact cpt_lt lt
      refine lstep (wpO_plain rfl (op_call (F := 12) hs none (v := .int .u32 ((cp7 : Nat) : Int)) rfl rfl rfl rfl (Try.call12 _) (compact_c t cp7 lt hcp7) rfl fun ac w hs => ?_))
      refine lstep (wpO_plain rfl (op_assign hs none rfl rfl rfl rfl fun ac hs => ?_))
      refine wpList_nil ?_
      refine then_n ?_
      refine wp_seq ?_
      refine wp_region_lit ?_
      refine lstep (wpO_plain rfl (op_move hs none rfl rfl rfl rfl fun ac hs => ?_))
      obtain ⟨x8, hx8, lx8⟩ : ∃ z0, tgt cp7 = z0 ∧ z0 < 2 ^ 256 := ⟨_, rfl, tgt_lt' _⟩
      refine lstep (wpO_plain rfl (op_call (F := 9) hs none (v := .tuple #[W x8, .int .i64 ((ec x8 : Nat) : Int)]) rfl rfl rfl rfl (Try.call9 _) (expand_c cp7 x8 (show cp7 < 4294967296 by omega) hx8) rfl fun ac w hs => ?_))
      refine lstep (wpO_plain rfl (op_move hs none rfl rfl rfl rfl fun ac hs => ?_))
      refine lstep (wpO_plain rfl (op_extract hs none rfl rfl rfl rfl rfl fun ac hs => ?_))
      refine lstep (wpO_plain rfl (op_extract hs none rfl rfl rfl rfl rfl fun ac hs => ?_))
      refine lstep (wpO_plain rfl (op_alloc hs none none (cs := [.int .u64 0, .int .u64 0, .int .u64 0, .int .u64 0]) rfl rfl Try.zeroValue25 (by kernel_rfl) rfl rfl fun g9 ac w hs => ?_))
      refine lstep (wpO_plain rfl (op_store hs 2 (vs := (Wl x8)) rfl rfl rfl rfl rfl Try.sizeOf25 rfl rfl rfl rfl rfl fun w hs => ?_))
      refine lstep (wpO_plain rfl (op_assign hs none rfl rfl rfl rfl fun ac hs => ?_))
      refine wpList_nil ?_
      have hu : x8 = t / 256 ^ drp t * 256 ^ drp t := by rw [← hx8, ← hcp7]; exact tgt_cpt hp6 lt
      refine then_n ?_
      refine wp_seq ?_
      refine wp_seq ?_
      refine wp_region_lit ?_
      refine lstep (wpO_plain rfl (op_move hs none rfl rfl rfl rfl fun ac hs => ?_))
      refine lstep (wpO_plain rfl (op_bin hs none (v := .bool false) rfl rfl rfl rfl (fun _ => rfl) (fun w => dF (fun hh => hh (ec_zero.2 (by rw [hu]; exact cut_ne hp6))) (bin_neqN (x := ec x8) (y := 0) w)) rfl fun ac hs => ?_))
      refine lstep (wpO_plain rfl (op_move hs none rfl rfl rfl rfl fun ac hs => ?_))
      refine lstep (wpO_in hs rfl rfl rfl (op_load hs none 2 (v := W x8) rfl rfl rfl rfl Try.isAgg25 Try.sizeOf25 rfl rfl fun ac hs => ?_))
      refine lstep (wpO_in hs rfl rfl rfl (op_load hs none 0 (v := W t) rfl rfl rfl rfl Try.isAgg25 Try.sizeOf25 rfl rfl fun ac hs => ?_))
      refine lstep (wpO_in hs rfl rfl rfl (op_call (F := 18) hs none (v := .int .i64 (cmpZ x8 t)) rfl rfl rfl rfl (Try.call18 _) (fun w => cmp_any w x8 t lx8 lt) rfl fun ac w hs => ?_))
      refine lstep (wpO_in hs rfl rfl rfl (op_bin hs none (v := .bool false) rfl rfl rfl rfl (fun _ => rfl) (fun w => dF (Nat.not_lt.2 (by rw [hu]; exact cut_le t)) (bin_cmp_gtr x8 t w)) rfl fun ac hs => ?_))
      refine lstep (wpO_plain rfl (op_pickF hs none rfl rfl rfl rfl rfl fun ac hs => ?_))
      refine lstep (wpO_plain rfl (op_move hs none rfl rfl rfl rfl fun ac hs => ?_))
      refine lstep (wpO_in hs rfl rfl rfl (op_load hs none 2 (v := W x8) rfl rfl rfl rfl Try.isAgg25 Try.sizeOf25 rfl rfl fun ac hs => ?_))
      obtain ⟨cp10, hcp10⟩ : ∃ z0, cpt x8 = z0 := ⟨_, rfl⟩
      have lcp10 : cp10 < 4294967296 := by rw [← hcp10]; exact cpt_lt lx8
      refine lstep (wpO_in hs rfl rfl rfl (op_call (F := 12) hs none (v := .int .u32 ((cp10 : Nat) : Int)) rfl rfl rfl rfl (Try.call12 _) (compact_c x8 cp10 lx8 hcp10) rfl fun ac w hs => ?_))
      refine lstep (wpO_in hs rfl rfl rfl (op_move hs none rfl rfl rfl rfl fun ac hs => ?_))
      refine lstep (wpO_in hs rfl rfl rfl (op_bin hs none (v := .bool false) rfl rfl rfl rfl (fun _ => rfl) (fun w => dF (Classical.not_not.2 (by rw [← hcp10, ← hcp7, hu]; exact cpt_cut hp6 lt)) (bin_neqN (x := cp10) (y := cp7) w)) rfl fun ac hs => ?_))
      refine lstep (wpO_plain rfl (op_pickF hs none rfl rfl rfl rfl rfl fun ac hs => ?_))
      refine wpList_nil ?_
      refine then_n ?_
      refine wp_cond_false (hs.ev rfl) ?_
      refine wp_skip ?_
      refine then_n ?_
      refine wp_seq ?_
      refine wp_region_lit ?_
      refine lstep (wpO_plain rfl (op_load hs none 0 (v := W t) rfl rfl rfl rfl Try.isAgg25 Try.sizeOf25 rfl rfl fun ac hs => ?_))
      refine lstep (wpO_plain rfl (op_load hs none 2 (v := W x8) rfl rfl rfl rfl Try.isAgg25 Try.sizeOf25 rfl rfl fun ac hs => ?_))
      obtain ⟨d11, hd11, ld11⟩ : ∃ z0, (t + 2 ^ 256 - x8) % 2 ^ 256 = z0 ∧ z0 < 2 ^ 256 := ⟨_, rfl, Nat.mod_lt _ (Nat.two_pow_pos 256)⟩
      obtain ⟨c12, hc12⟩ : ∃ z0, bor t x8 = z0 := ⟨_, rfl⟩
      refine lstep (wpO_plain rfl (op_call (F := 19) hs none (v := .tuple #[W d11, .int .u64 ((c12 : Nat) : Int)]) rfl rfl rfl rfl (Try.call19 _) (fun w => sub_at w t x8 d11 c12 lt lx8 hd11 hc12) rfl fun ac w hs => ?_))
      refine lstep (wpO_plain rfl (op_move hs none rfl rfl rfl rfl fun ac hs => ?_))
      refine lstep (wpO_plain rfl (op_extract hs none rfl rfl rfl rfl rfl fun ac hs => ?_))
      refine lstep (wpO_plain rfl (op_extract hs none rfl rfl rfl rfl rfl fun ac hs => ?_))
      refine lstep (wpO_plain rfl (op_alloc hs none none (cs := [.int .u64 0, .int .u64 0, .int .u64 0, .int .u64 0]) rfl rfl Try.zeroValue25 (by kernel_rfl) rfl rfl fun g13 ac w hs => ?_))
      refine lstep (wpO_plain rfl (op_store hs 3 (vs := (Wl d11)) rfl rfl rfl rfl rfl Try.sizeOf25 rfl rfl rfl rfl rfl fun w hs => ?_))
      refine lstep (wpO_plain rfl (op_assign hs none rfl rfl rfl rfl fun ac hs => ?_))
      refine wpList_nil ?_
      refine then_n ?_
      refine wp_seq ?_
      replace hs : St 75 w0 [(2, true, .pointer (some ⟨g1, 0, none⟩)), (4, true, .bool false), (12, true, .pointer (some ⟨g13, 0, none⟩))] [(true, g1, 25, (Wl t)), (true, g3, 25, (Wl x2)), (true, g9, 25, (Wl x8)), (true, g13, 25, (Wl d11))] ac w := hs.re ⟨rfl, rfl, rfl, trivial⟩
      have ll14 := ln_le d11 256 ld11
      have ll15 := ln_le t 256 lt
      refine region_inv [([], [1, 2, 3, 4, 5, 6, 7, 8, 9, 10]), ([0], [2, 3, 4, 5, 6, 7, 8, 9, 10]), ([0, 1], [3, 5, 6, 7, 8, 9, 10]), ([0, 1, 2], [5, 6, 7, 8, 9, 10]), ([0, 1], [5, 6, 7, 8, 9, 10]), ([0, 1, 2, 3, 4], [6, 7, 8, 9, 10]), ([0, 1, 2, 3, 4, 5], [7, 8, 9, 10]), ([0, 1, 2, 3, 4, 5, 6], [8, 9, 10]), ([0, 1, 2, 3, 4, 5, 6, 7], [9, 10]), ([0, 1, 2, 3, 4, 5, 6, 7, 8], [10]), ([0, 1, 2, 3, 4, 5, 6, 7, 8, 9], [])] (fun L ac w => St 75 w0 [(65, L 0, .bool true), (66, L 1, .bool true), (67, L 2, W d11), (68, L 3, .int .i64 ((ln d11 : Nat) : Int)), (69, L 4, W t), (70, L 5, .int .i64 ((ln t : Nat) : Int)), (71, L 6, .int .i64 (((ln t : Nat) : Int) - 15)), (72, L 7, .int .i64 (max 0 (((ln t : Nat) : Int) - 15))), (73, L 8, .bool true), (74, L 9, .bool true), (4, L 10, .bool true), (2, true, .pointer (some ⟨g1, 0, none⟩)), (4, true, .bool false), (12, true, .pointer (some ⟨g13, 0, none⟩))] [(true, g1, 25, (Wl t)), (true, g3, 25, (Wl x2)), (true, g9, 25, (Wl x8)), (true, g13, 25, (Wl d11))] ac w) (by kernel_rfl) (by kernel_rfl) ?_ ?_ ?_
      · exact hs.drew.skip.skip.skip.skip.skip.skip.skip.skip.skip.skip.skip
      · refine ⟨?_, ?_, ?_, ?_, ?_, ?_, ?_, ?_, ?_, ?_, ?_, trivial⟩
        · intro L ac w hJ
          have hs := hJ
          refine wpO_plain rfl (op_call (F := 11) hs (some 0) (v := .bool true) rfl rfl rfl rfl (Try.call11 _) alive_c rfl fun ac w hs => ?_)
          exact hs
        · intro L ac w hJ
          have hs := hJ
          refine wpO_plain rfl (op_move hs (some 1) rfl rfl rfl rfl fun ac hs => ?_)
          exact hs
        · intro L ac w hJ
          have hs := hJ
          refine wpO_in hs rfl rfl rfl (op_load hs (some 2) 3 (v := W d11) rfl rfl rfl rfl Try.isAgg25 Try.sizeOf25 rfl rfl fun ac hs => ?_)
          exact hs
        · intro L ac w hJ
          have hs := hJ
          refine wpO_in hs rfl rfl rfl (op_call (F := 20) hs (some 3) (v := .int .i64 ((ln d11 : Nat) : Int)) rfl rfl rfl rfl (Try.call20 _) (fun w => len_any w d11 ld11) rfl fun ac w hs => ?_)
          exact hs
        · intro L ac w hJ
          have hs := hJ
          refine wpO_in hs rfl rfl rfl (op_load hs (some 4) 0 (v := W t) rfl rfl rfl rfl Try.isAgg25 Try.sizeOf25 rfl rfl fun ac hs => ?_)
          exact hs
        · intro L ac w hJ
          have hs := hJ
          refine wpO_in hs rfl rfl rfl (op_call (F := 20) hs (some 5) (v := .int .i64 ((ln t : Nat) : Int)) rfl rfl rfl rfl (Try.call20 _) (fun w => len_any w t lt) rfl fun ac w hs => ?_)
          exact hs
        · intro L ac w hJ
          have hs := hJ
          refine wpO_in hs rfl rfl rfl (op_bin hs (some 6) (v := .int .i64 (((ln t : Nat) : Int) - 15)) rfl rfl rfl rfl (fun _ => rfl) (bin_subI (x := ((ln t : Nat) : Int)) (y := 15) (by omega) (by omega)) rfl fun ac hs => ?_)
          exact hs
        · intro L ac w hJ
          have hs := hJ
          refine wpO_in hs rfl rfl rfl (op_blt hs (some 7) (v := .int .i64 (max 0 (((ln t : Nat) : Int) - 15))) rfl rfl rfl blt_maxI rfl fun ac hs => ?_)
          exact hs
        · intro L ac w hJ
          have hs := hJ
          refine wpO_in hs rfl rfl rfl (op_bin hs (some 8) (v := .bool true) rfl rfl rfl rfl (fun _ => rfl) (fun w => dT (by have hd := cut_ln hp6; rw [← hu, show t - x8 = d11 by have := cut_le t; rw [← hu] at this; omega] at hd; omega) (bin_leqI (x := ((ln d11 : Nat) : Int)) (y := max 0 (((ln t : Nat) : Int) - 15)) w)) rfl fun ac hs => ?_)
          exact hs
        · intro L ac w hJ
          have hs := hJ
          refine wpO_plain rfl (op_pickT hs (some 9) rfl rfl rfl rfl rfl fun ac hs => ?_)
          exact hs
        · intro L ac w hJ
          have hs := hJ
          refine wpO_plain rfl (op_assign hs (some 10) rfl rfl rfl rfl fun ac hs => ?_)
          exact hs
      intro ac w hJ
      replace hs : St 75 w0 [(65, true, .bool true), (66, true, .bool true), (67, true, W d11), (68, true, .int .i64 ((ln d11 : Nat) : Int)), (69, true, W t), (70, true, .int .i64 ((ln t : Nat) : Int)), (71, true, .int .i64 (((ln t : Nat) : Int) - 15)), (72, true, .int .i64 (max 0 (((ln t : Nat) : Int) - 15))), (73, true, .bool true), (74, true, .bool true), (4, true, .bool true), (2, true, .pointer (some ⟨g1, 0, none⟩)), (4, true, .bool false), (12, true, .pointer (some ⟨g13, 0, none⟩))] [(true, g1, 25, (Wl t)), (true, g3, 25, (Wl x2)), (true, g9, 25, (Wl x8)), (true, g13, 25, (Wl d11))] ac w := hJ
      refine then_n ?_
      refine wp_ret ?_
      exact bodyPost_ret (res1 rfl (rv_t hs rfl)) hs.defers ⟨rfl, hs.below⟩
  · skip
    refine wp_region_lit ?_
    refine lstep (wpO_plain rfl (op_move hs none rfl rfl rfl rfl fun ac hs => ?_))
    refine lstep (wpO_plain rfl (op_bin hs none (v := .bool true) rfl rfl rfl rfl (fun _ => rfl) (fun w => dT (ec_zero.2 hq4) (bin_eqlN (x := ec x2) (y := 0) w)) rfl fun ac hs => ?_))
    refine wpList_nil ?_
    refine then_n ?_
    refine wp_cond_true (hs.ev rfl) ?_
    refine wp_seq ?_
    refine wp_region_lit ?_
    refine lstep (wpO_plain rfl (op_load hs none 1 (v := W x2) rfl rfl rfl rfl Try.isAgg25 Try.sizeOf25 rfl rfl fun ac hs => ?_))
    obtain ⟨cp16, hcp16⟩ : ∃ z0, cpt x2 = z0 := ⟨_, rfl⟩
    have lcp16 : cp16 < 4294967296 := by rw [← hcp16]; exact cpt_lt lx2
    refine lstep (wpO_plain rfl (op_call (F := 12) hs none (v := .int .u32 ((cp16 : Nat) : Int)) rfl rfl rfl rfl (Try.call12 _) (compact_c x2 cp16 lx2 hcp16) rfl fun ac w hs => ?_))
    obtain ⟨x17, hx17, lx17⟩ : ∃ z0, tgt cp16 = z0 ∧ z0 < 2 ^ 256 := ⟨_, rfl, tgt_lt' _⟩
    refine lstep (wpO_plain rfl (op_call (F := 9) hs none (v := .tuple #[W x17, .int .i64 ((ec x17 : Nat) : Int)]) rfl rfl rfl rfl (Try.call9 _) (expand_c cp16 x17 (show cp16 < 4294967296 by omega) hx17) rfl fun ac w hs => ?_))
    refine lstep (wpO_plain rfl (op_move hs none rfl rfl rfl rfl fun ac hs => ?_))
    refine lstep (wpO_plain rfl (op_extract hs none rfl rfl rfl rfl rfl fun ac hs => ?_))
    refine lstep (wpO_plain rfl (op_extract hs none rfl rfl rfl rfl rfl fun ac hs => ?_))
    refine lstep (wpO_plain rfl (op_alloc hs none none (cs := [.int .u64 0, .int .u64 0, .int .u64 0, .int .u64 0]) rfl rfl Try.zeroValue25 (by kernel_rfl) rfl rfl fun g18 ac w hs => ?_))
    refine lstep (wpO_plain rfl (op_store hs 2 (vs := (Wl x17)) rfl rfl rfl rfl rfl Try.sizeOf25 rfl rfl rfl rfl rfl fun w hs => ?_))
    refine lstep (wpO_plain rfl (op_assign hs none rfl rfl rfl rfl fun ac hs => ?_))
    refine wpList_nil ?_
    have hxx : x17 = x2 := by rw [← hx17, ← hcp16, ← hx2]; exact tgt_back hb (by rw [hx2]; exact hq4)
    refine then_n ?_
    refine wp_seq ?_
    refine wp_region_lit ?_
    refine lstep (wpO_plain rfl (op_move hs none rfl rfl rfl rfl fun ac hs => ?_))
    refine lstep (wpO_plain rfl (op_bin hs none (v := .bool false) rfl rfl rfl rfl (fun _ => rfl) (fun w => dF (fun hh => hh (ec_zero.2 (by rw [hxx]; exact hq4))) (bin_neqN (x := ec x17) (y := 0) w)) rfl fun ac hs => ?_))
    refine lstep (wpO_plain rfl (op_move hs none rfl rfl rfl rfl fun ac hs => ?_))
    refine lstep (wpO_in hs rfl rfl rfl (op_load hs none 1 (v := W x2) rfl rfl rfl rfl Try.isAgg25 Try.sizeOf25 rfl rfl fun ac hs => ?_))
    refine lstep (wpO_in hs rfl rfl rfl (op_load hs none 2 (v := W x17) rfl rfl rfl rfl Try.isAgg25 Try.sizeOf25 rfl rfl fun ac hs => ?_))
    refine lstep (wpO_in hs rfl rfl rfl (op_bin hs none (v := .bool false) rfl rfl rfl rfl (fun w => run_eqGuard_agg w .neq 25 _ _ _ _ Try.eqGuardType25) (neqW x2 x17 lx2 lx17 false (decide_eq_false (not_not_intro hxx.symm))) rfl fun ac hs => ?_))
    refine lstep (wpO_plain rfl (op_pickF hs none rfl rfl rfl rfl rfl fun ac hs => ?_))
    refine wpList_nil ?_
    refine then_n ?_
    refine wp_cond_false (hs.ev rfl) ?_
    refine wp_skip ?_
    refine then_n ?_
    refine wp_seq ?_
    refine wp_seq ?_
    refine wp_region_lit ?_
    refine lstep (wpO_plain rfl (op_load hs none 0 (v := W t) rfl rfl rfl rfl Try.isAgg25 Try.sizeOf25 rfl rfl fun ac hs => ?_))
    refine lstep (wpO_plain rfl (op_build hs none (qs := []) (v := .agg #[.int .u64 0, .int .u64 0, .int .u64 0, .int .u64 0]) rfl rfl rfl rfl (fun _ => by kernel_rfl) rfl fun ac hs => ?_))
    refine lstep (wpO_plain rfl (op_bin hs none (v := .bool (decide (t = 0))) rfl rfl rfl rfl (fun w => run_eqGuard_agg w .eql 25 _ _ _ _ Try.eqGuardType25) (eqlW t 0 lt (by decide) _ rfl) rfl fun ac hs => ?_))
    refine wpList_nil ?_
    refine then_n ?_
    refine wp_cond_split (hs.ev rfl) (fun hc => ?_) (fun hc => ?_)
    · skip
      have hp19 := of_decide_eq_true hc
      refine wp_seq ?_
      refine wp_region_lit ?_
      refine lstep (wpO_plain rfl (op_call (F := 11) hs none (v := .bool true) rfl rfl rfl rfl (Try.call11 _) alive_c rfl fun ac w hs => ?_))
      refine lstep (wpO_plain rfl (op_assign hs none rfl rfl rfl rfl fun ac hs => ?_))
      refine wpList_nil ?_
      refine then_n ?_
      refine wp_ret ?_
      refine then_r ?_
      exact bodyPost_ret (res1 rfl (rv_t hs rfl)) hs.defers ⟨rfl, hs.below⟩
    · skip
      have hp20 := of_decide_eq_false hc
      refine wp_skip ?_
      refine then_n ?_
      refine wp_seq ?_
      refine wp_region_lit ?_
      refine lstep (wpO_plain rfl (op_load hs none 0 (v := W t) rfl rfl rfl rfl Try.isAgg25 Try.sizeOf25 rfl rfl fun ac hs => ?_))
      obtain ⟨cp21, hcp21⟩ : ∃ z0, cpt t = z0 := ⟨_, rfl⟩
      have lcp21 : cp21 < 4294967296 := by rw [← hcp21]; exact cpt_lt lt
      refine lstep (wpO_plain rfl (op_call (F := 12) hs none (v := .int .u32 ((cp21 : Nat) : Int)) rfl rfl rfl rfl (Try.call12 _) (compact_c t cp21 lt hcp21) rfl fun ac w hs => ?_))
      refine lstep (wpO_plain rfl (op_assign hs none rfl rfl rfl rfl fun ac hs => ?_))
      refine wpList_nil ?_
      refine then_n ?_
      refine wp_seq ?_
      refine wp_region_lit ?_
      refine lstep (wpO_plain rfl (op_move hs none rfl rfl rfl rfl fun ac hs => ?_))
      obtain ⟨x22, hx22, lx22⟩ : ∃ z0, tgt cp21 = z0 ∧ z0 < 2 ^ 256 := ⟨_, rfl, tgt_lt' _⟩
      refine lstep (wpO_plain rfl (op_call (F := 9) hs none (v := .tuple #[W x22, .int .i64 ((ec x22 : Nat) : Int)]) rfl rfl rfl rfl (Try.call9 _) (expand_c cp21 x22 (show cp21 < 4294967296 by omega) hx22) rfl fun ac w hs => ?_))
      refine lstep (wpO_plain rfl (op_move hs none rfl rfl rfl rfl fun ac hs => ?_))
      refine lstep (wpO_plain rfl (op_extract hs none rfl rfl rfl rfl rfl fun ac hs => ?_))
      refine lstep (wpO_plain rfl (op_extract hs none rfl rfl rfl rfl rfl fun ac hs => ?_))
      refine lstep (wpO_plain rfl (op_alloc hs none none (cs := [.int .u64 0, .int .u64 0, .int .u64 0, .int .u64 0]) rfl rfl Try.zeroValue25 (by kernel_rfl) rfl rfl fun g23 ac w hs => ?_))
      refine lstep (wpO_plain rfl (op_store hs 3 (vs := (Wl x22)) rfl rfl rfl rfl rfl Try.sizeOf25 rfl rfl rfl rfl rfl fun w hs => ?_))
      refine lstep (wpO_plain rfl (op_assign hs none rfl rfl rfl rfl fun ac hs => ?_))
      refine wpList_nil ?_
      have hu : x22 = t / 256 ^ drp t * 256 ^ drp t := by rw [← hx22, ← hcp21]; exact tgt_cpt hp20 lt
      refine then_n ?_
      refine wp_seq ?_
      refine wp_seq ?_
      refine wp_region_lit ?_
      refine lstep (wpO_plain rfl (op_move hs none rfl rfl rfl rfl fun ac hs => ?_))
      refine lstep (wpO_plain rfl (op_bin hs none (v := .bool false) rfl rfl rfl rfl (fun _ => rfl) (fun w => dF (fun hh => hh (ec_zero.2 (by rw [hu]; exact cut_ne hp20))) (bin_neqN (x := ec x22) (y := 0) w)) rfl fun ac hs => ?_))
      refine lstep (wpO_plain rfl (op_move hs none rfl rfl rfl rfl fun ac hs => ?_))
      refine lstep (wpO_in hs rfl rfl rfl (op_load hs none 3 (v := W x22) rfl rfl rfl rfl Try.isAgg25 Try.sizeOf25 rfl rfl fun ac hs => ?_))
      refine lstep (wpO_in hs rfl rfl rfl (op_load hs none 0 (v := W t) rfl rfl rfl rfl Try.isAgg25 Try.sizeOf25 rfl rfl fun ac hs => ?_))
      refine lstep (wpO_in hs rfl rfl rfl (op_call (F := 18) hs none (v := .int .i64 (cmpZ x22 t)) rfl rfl rfl rfl (Try.call18 _) (fun w => cmp_any w x22 t lx22 lt) rfl fun ac w hs => ?_))
      refine lstep (wpO_in hs rfl rfl rfl (op_bin hs none (v := .bool false) rfl rfl rfl rfl (fun _ => rfl) (fun w => dF (Nat.not_lt.2 (by rw [hu]; exact cut_le t)) (bin_cmp_gtr x22 t w)) rfl fun ac hs => ?_))
      refine lstep (wpO_plain rfl (op_pickF hs none rfl rfl rfl rfl rfl fun ac hs => ?_))
      refine lstep (wpO_plain rfl (op_move hs none rfl rfl rfl rfl fun ac hs => ?_))
      refine lstep (wpO_in hs rfl rfl rfl (op_load hs none 3 (v := W x22) rfl rfl rfl rfl Try.isAgg25 Try.sizeOf25 rfl rfl fun ac hs => ?_))
      obtain ⟨cp24, hcp24⟩ : ∃ z0, cpt x22 = z0 := ⟨_, rfl⟩
      have lcp24 : cp24 < 4294967296 := by rw [← hcp24]; exact cpt_lt lx22
      refine lstep (wpO_in hs rfl rfl rfl (op_call (F := 12) hs none (v := .int .u32 ((cp24 : Nat) : Int)) rfl rfl rfl rfl (Try.call12 _) (compact_c x22 cp24 lx22 hcp24) rfl fun ac w hs => ?_))
      refine lstep (wpO_in hs rfl rfl rfl (op_move hs none rfl rfl rfl rfl fun ac hs => ?_))
      refine lstep (wpO_in hs rfl rfl rfl (op_bin hs none (v := .bool false) rfl rfl rfl rfl (fun _ => rfl) (fun w => dF (Classical.not_not.2 (by rw [← hcp24, ← hcp21, hu]; exact cpt_cut hp20 lt)) (bin_neqN (x := cp24) (y := cp21) w)) rfl fun ac hs => ?_))
      refine lstep (wpO_plain rfl (op_pickF hs none rfl rfl rfl rfl rfl fun ac hs => ?_))
      refine wpList_nil ?_
      refine then_n ?_
      refine wp_cond_false (hs.ev rfl) ?_
      refine wp_skip ?_
      refine then_n ?_
      refine wp_seq ?_
      refine wp_region_lit ?_
      refine lstep (wpO_plain rfl (op_load hs none 0 (v := W t) rfl rfl rfl rfl Try.isAgg25 Try.sizeOf25 rfl rfl fun ac hs => ?_))
      refine lstep (wpO_plain rfl (op_load hs none 3 (v := W x22) rfl rfl rfl rfl Try.isAgg25 Try.sizeOf25 rfl rfl fun ac hs => ?_))
      obtain ⟨d25, hd25, ld25⟩ : ∃ z0, (t + 2 ^ 256 - x22) % 2 ^ 256 = z0 ∧ z0 < 2 ^ 256 := ⟨_, rfl, Nat.mod_lt _ (Nat.two_pow_pos 256)⟩
      obtain ⟨c26, hc26⟩ : ∃ z0, bor t x22 = z0 := ⟨_, rfl⟩
      refine lstep (wpO_plain rfl (op_call (F := 19) hs none (v := .tuple #[W d25, .int .u64 ((c26 : Nat) : Int)]) rfl rfl rfl rfl (Try.call19 _) (fun w => sub_at w t x22 d25 c26 lt lx22 hd25 hc26) rfl fun ac w hs => ?_))
      refine lstep (wpO_plain rfl (op_move hs none rfl rfl rfl rfl fun ac hs => ?_))
      refine lstep (wpO_plain rfl (op_extract hs none rfl rfl rfl rfl rfl fun ac hs => ?_))
      refine lstep (wpO_plain rfl (op_extract hs none rfl rfl rfl rfl rfl fun ac hs => ?_))
      refine lstep (wpO_plain rfl (op_alloc hs none none (cs := [.int .u64 0, .int .u64 0, .int .u64 0, .int .u64 0]) rfl rfl Try.zeroValue25 (by kernel_rfl) rfl rfl fun g27 ac w hs => ?_))
      refine lstep (wpO_plain rfl (op_store hs 4 (vs := (Wl d25)) rfl rfl rfl rfl rfl Try.sizeOf25 rfl rfl rfl rfl rfl fun w hs => ?_))
      refine lstep (wpO_plain rfl (op_assign hs none rfl rfl rfl rfl fun ac hs => ?_))
      refine wpList_nil ?_
      refine then_n ?_
      refine wp_seq ?_
      replace hs : St 75 w0 [(2, true, .pointer (some ⟨g1, 0, none⟩)), (4, true, .bool false), (12, true, .pointer (some ⟨g27, 0, none⟩))] [(true, g1, 25, (Wl t)), (true, g3, 25, (Wl x2)), (true, g18, 25, (Wl x17)), (true, g23, 25, (Wl x22)), (true, g27, 25, (Wl d25))] ac w := hs.re ⟨rfl, rfl, rfl, trivial⟩
      have ll28 := ln_le d25 256 ld25
      have ll29 := ln_le t 256 lt
      refine region_inv [([], [1, 2, 3, 4, 5, 6, 7, 8, 9, 10]), ([0], [2, 3, 4, 5, 6, 7, 8, 9, 10]), ([0, 1], [3, 5, 6, 7, 8, 9, 10]), ([0, 1, 2], [5, 6, 7, 8, 9, 10]), ([0, 1], [5, 6, 7, 8, 9, 10]), ([0, 1, 2, 3, 4], [6, 7, 8, 9, 10]), ([0, 1, 2, 3, 4, 5], [7, 8, 9, 10]), ([0, 1, 2, 3, 4, 5, 6], [8, 9, 10]), ([0, 1, 2, 3, 4, 5, 6, 7], [9, 10]), ([0, 1, 2, 3, 4, 5, 6, 7, 8], [10]), ([0, 1, 2, 3, 4, 5, 6, 7, 8, 9], [])] (fun L ac w => St 75 w0 [(65, L 0, .bool true), (66, L 1, .bool true), (67, L 2, W d25), (68, L 3, .int .i64 ((ln d25 : Nat) : Int)), (69, L 4, W t), (70, L 5, .int .i64 ((ln t : Nat) : Int)), (71, L 6, .int .i64 (((ln t : Nat) : Int) - 15)), (72, L 7, .int .i64 (max 0 (((ln t : Nat) : Int) - 15))), (73, L 8, .bool true), (74, L 9, .bool true), (4, L 10, .bool true), (2, true, .pointer (some ⟨g1, 0, none⟩)), (4, true, .bool false), (12, true, .pointer (some ⟨g27, 0, none⟩))] [(true, g1, 25, (Wl t)), (true, g3, 25, (Wl x2)), (true, g18, 25, (Wl x17)), (true, g23, 25, (Wl x22)), (true, g27, 25, (Wl d25))] ac w) (by kernel_rfl) (by kernel_rfl) ?_ ?_ ?_
      · exact hs.drew.skip.skip.skip.skip.skip.skip.skip.skip.skip.skip.skip
      · refine ⟨?_, ?_, ?_, ?_, ?_, ?_, ?_, ?_, ?_, ?_, ?_, trivial⟩
        · intro L ac w hJ
          have hs := hJ
          refine wpO_plain rfl (op_call (F := 11) hs (some 0) (v := .bool true) rfl rfl rfl rfl (Try.call11 _) alive_c rfl fun ac w hs => ?_)
          exact hs
        · intro L ac w hJ
          have hs := hJ
          refine wpO_plain rfl (op_move hs (some 1) rfl rfl rfl rfl fun ac hs => ?_)
          exact hs
        · intro L ac w hJ
          have hs := hJ
          refine wpO_in hs rfl rfl rfl (op_load hs (some 2) 4 (v := W d25) rfl rfl rfl rfl Try.isAgg25 Try.sizeOf25 rfl rfl fun ac hs => ?_)
          exact hs
        · intro L ac w hJ
          have hs := hJ
          refine wpO_in hs rfl rfl rfl (op_call (F := 20) hs (some 3) (v := .int .i64 ((ln d25 : Nat) : Int)) rfl rfl rfl rfl (Try.call20 _) (fun w => len_any w d25 ld25) rfl fun ac w hs => ?_)
          exact hs
        · intro L ac w hJ
          have hs := hJ
          refine wpO_in hs rfl rfl rfl (op_load hs (some 4) 0 (v := W t) rfl rfl rfl rfl Try.isAgg25 Try.sizeOf25 rfl rfl fun ac hs => ?_)
          exact hs
        · intro L ac w hJ
          have hs := hJ
          refine wpO_in hs rfl rfl rfl (op_call (F := 20) hs (some 5) (v := .int .i64 ((ln t : Nat) : Int)) rfl rfl rfl rfl (Try.call20 _) (fun w => len_any w t lt) rfl fun ac w hs => ?_)
          exact hs
        · intro L ac w hJ
          have hs := hJ
          refine wpO_in hs rfl rfl rfl (op_bin hs (some 6) (v := .int .i64 (((ln t : Nat) : Int) - 15)) rfl rfl rfl rfl (fun _ => rfl) (bin_subI (x := ((ln t : Nat) : Int)) (y := 15) (by omega) (by omega)) rfl fun ac hs => ?_)
          exact hs
        · intro L ac w hJ
          have hs := hJ
          refine wpO_in hs rfl rfl rfl (op_blt hs (some 7) (v := .int .i64 (max 0 (((ln t : Nat) : Int) - 15))) rfl rfl rfl blt_maxI rfl fun ac hs => ?_)
          exact hs
        · intro L ac w hJ
          have hs := hJ
          refine wpO_in hs rfl rfl rfl (op_bin hs (some 8) (v := .bool true) rfl rfl rfl rfl (fun _ => rfl) (fun w => dT (by have hd := cut_ln hp20; rw [← hu, show t - x22 = d25 by have := cut_le t; rw [← hu] at this; omega] at hd; omega) (bin_leqI (x := ((ln d25 : Nat) : Int)) (y := max 0 (((ln t : Nat) : Int) - 15)) w)) rfl fun ac hs => ?_)
          exact hs
        · intro L ac w hJ
          have hs := hJ
          refine wpO_plain rfl (op_pickT hs (some 9) rfl rfl rfl rfl rfl fun ac hs => ?_)
          exact hs
        · intro L ac w hJ
          have hs := hJ
          refine wpO_plain rfl (op_assign hs (some 10) rfl rfl rfl rfl fun ac hs => ?_)
          exact hs
      intro ac w hJ
      replace hs : St 75 w0 [(65, true, .bool true), (66, true, .bool true), (67, true, W d25), (68, true, .int .i64 ((ln d25 : Nat) : Int)), (69, true, W t), (70, true, .int .i64 ((ln t : Nat) : Int)), (71, true, .int .i64 (((ln t : Nat) : Int) - 15)), (72, true, .int .i64 (max 0 (((ln t : Nat) : Int) - 15))), (73, true, .bool true), (74, true, .bool true), (4, true, .bool true), (2, true, .pointer (some ⟨g1, 0, none⟩)), (4, true, .bool false), (12, true, .pointer (some ⟨g27, 0, none⟩))] [(true, g1, 25, (Wl t)), (true, g3, 25, (Wl x2)), (true, g18, 25, (Wl x17)), (true, g23, 25, (Wl x22)), (true, g27, 25, (Wl d25))] ac w := hJ
      refine then_n ?_
      refine wp_ret ?_
      exact bodyPost_ret (res1 rfl (rv_t hs rfl)) hs.defers ⟨rfl, hs.below⟩
end Go.Proofs.Ytemacggbabiafaa
