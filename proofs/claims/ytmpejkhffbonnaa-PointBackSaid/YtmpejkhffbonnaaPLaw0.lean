/- The laws of points. -/
import Derived.Test.YtmpejkhffbonnaaPoint
import Derived.Test.YtmpejkhffbonnaaOrdP
import Derived.Test.YtmpejkhffbonnaaEqA
namespace Go.Proofs.Ytmpejkhffbonnaa
open Go.RowKit
set_option maxRecDepth 10000
set_option maxHeartbeats 1000000

theorem eqlB {P : Program} {T : TypeId} {p q : Bool} (hu : P.underlying T = some .bool) (h : p = q) (w : World) : (binOp .eql T (.bool p) (.bool q)).run P w = .ok (.bool true) w := by
  subst h
  have := run_equalIn_bool (P := P) w 9999 T p p hu
  simp only [binOp, Sem.run_bind, Op.equal, Op.maxDepth, this, Result.andThen_ok, Sem.run_pure]
  simp

theorem inf_u8_5 : Inf Try.prog 5 (.int .u8 0) 1 1 := inf_of (by kernel_rfl)
theorem alive_c  (w0 : World) : Calls Try.prog 10 #[] w0 fun e w' => e = .returned (.bool true) ∧ Below w0.heap.size w0 w' := by
  refine enter (n := 29) (args := []) Try.func10 rfl rfl (Nat.le_of_ble_eq_true rfl) fun ac hs => ?_
  refine wp_seq ?_
  refine wp_region_lit ?_
  refine lstep (wpO_plain rfl (op_assign hs none rfl rfl rfl rfl fun ac hs => ?_))
  refine wpList_nil ?_
  refine then_n ?_
  refine wp_seq ?_
  refine wp_region_lit ?_
  refine lstep (wpO_plain rfl (op_call (F := 23) hs none (v := PV (px Gp) (py Gp) false) rfl rfl rfl rfl (Try.call23 _) base_c rfl fun ac w hs => ?_))
  refine lstep (wpO_plain rfl (op_alloc hs none none (cs := (PVl 0 0 false)) rfl rfl Try.zeroValue26 (by kernel_rfl) rfl rfl fun g1 ac w hs => ?_))
  refine lstep (wpO_plain rfl (op_store hs 0 (vs := (PVl (px Gp) (py Gp) false)) rfl rfl rfl rfl rfl Try.sizeOf26 rfl rfl rfl rfl rfl fun w hs => ?_))
  refine wpList_nil ?_
  refine then_n ?_
  refine wp_seq ?_
  replace hs : St 29 w0 [(0, true, .bool false), (1, true, .pointer (some ⟨g1, 0, none⟩))] [(true, g1, 26, (PVl (px Gp) (py Gp) false))] ac _ := hs.re ⟨rfl, rfl, trivial⟩
  obtain ⟨T2, hT2, oT2⟩ := mkNeg Gp_on
  obtain ⟨T3, hT3, oT3⟩ := mkAdd Gp_on oT2
  obtain ⟨T4, hT4, oT4⟩ := mkMul 1 Gp_on
  refine region_inv [([], [1, 2, 3, 4, 5, 6, 7, 8, 9, 10, 11, 12, 13, 14, 15, 16, 17, 18, 19, 20, 21, 22, 23, 24, 25, 26]), ([0], [2, 3, 4, 5, 6, 7, 8, 9, 10, 11, 12, 13, 14, 15, 16, 17, 18, 19, 20, 21, 22, 23, 24, 25, 26]), ([0, 1], [3, 4, 5, 6, 7, 8, 9, 10, 11, 12, 13, 14, 15, 16, 17, 18, 19, 20, 21, 22, 23, 24, 25, 26]), ([0, 1, 2], [4, 5, 6, 7, 8, 9, 10, 11, 12, 13, 14, 15, 16, 17, 18, 19, 20, 21, 22, 23, 24, 25, 26]), ([0, 1, 2, 3], [5, 6, 7, 8, 9, 10, 11, 12, 13, 14, 15, 16, 17, 18, 19, 20, 21, 22, 23, 24, 25, 26]), ([0, 1, 2, 3, 4], [6, 7, 8, 9, 10, 11, 12, 13, 14, 15, 16, 17, 18, 19, 20, 21, 22, 23, 24, 25, 26]), ([0, 1, 2, 3, 4, 5], [7, 8, 9, 10, 11, 12, 13, 14, 15, 16, 17, 18, 19, 20, 21, 22, 23, 24, 25, 26]), ([0, 1, 2, 3, 4, 5, 6], [8, 9, 10, 11, 12, 13, 14, 15, 16, 17, 18, 19, 20, 21, 22, 23, 24, 25, 26]), ([0, 1, 2, 3, 4, 5, 6, 7], [9, 10, 11, 12, 13, 14, 15, 16, 17, 18, 19, 20, 21, 22, 23, 24, 25, 26]), ([0, 1, 2, 3, 4, 5, 6, 7, 8], [10, 11, 12, 13, 14, 15, 16, 17, 18, 19, 20, 21, 22, 23, 24, 25, 26]), ([0, 1, 2, 3, 4, 5, 6, 7, 8, 9], [11, 12, 13, 14, 15, 16, 17, 18, 19, 20, 21, 22, 23, 24, 25, 26]), ([0, 1, 2, 3, 4, 5, 6, 7, 8, 9, 10], [12, 13, 14, 15, 16, 17, 18, 19, 20, 21, 22, 23, 24, 25, 26]), ([0, 1, 2, 3, 4, 5, 6, 7, 8, 9, 10, 11], [15, 17, 18, 19, 20, 21, 22, 23, 24, 25, 26]), ([0, 1, 2, 3, 4, 5, 6, 7, 8, 9, 10, 11], [14, 15, 17, 18, 19, 20, 21, 22, 23, 24, 25, 26]), ([0, 1, 2, 3, 4, 5, 6, 7, 8, 9, 10, 11, 13], [15, 17, 18, 19, 20, 21, 22, 23, 24, 25, 26]), ([0, 1, 2, 3, 4, 5, 6, 7, 8, 9, 10, 11, 12, 13, 14], [17, 18, 19, 20, 21, 22, 23, 24, 25, 26]), ([0, 1, 2, 3, 4, 5, 6, 7, 8, 9, 10, 11], [17, 18, 19, 20, 21, 22, 23, 24, 25, 26]), ([0, 1, 2, 3, 4, 5, 6, 7, 8, 9, 10, 11, 12, 13, 14, 15, 16], [18, 19, 20, 21, 22, 23, 24, 25, 26]), ([0, 1, 2, 3, 4, 5, 6, 7, 8, 9, 10, 11, 12, 13, 14, 15, 16, 17], [19, 20, 21, 22, 23, 24, 25, 26]), ([0, 1, 2, 3, 4, 5, 6, 7, 8, 9, 10, 11, 12, 13, 14, 15, 16, 17, 18], [20, 21, 22, 23, 24, 25, 26]), ([0, 1, 2, 3, 4, 5, 6, 7, 8, 9, 10, 11, 12, 13, 14, 15, 16, 17, 18, 19], [22, 24, 25, 26]), ([0, 1, 2, 3, 4, 5, 6, 7, 8, 9, 10, 11, 12, 13, 14, 15, 16, 17, 18, 19], [22, 24, 25, 26]), ([0, 1, 2, 3, 4, 5, 6, 7, 8, 9, 10, 11, 12, 13, 14, 15, 16, 17, 18, 19, 20, 21], [24, 25, 26]), ([0, 1, 2, 3, 4, 5, 6, 7, 8, 9, 10, 11, 12, 13, 14, 15, 16, 17, 18, 19], [24, 25, 26]), ([0, 1, 2, 3, 4, 5, 6, 7, 8, 9, 10, 11, 12, 13, 14, 15, 16, 17, 18, 19, 20, 21, 22, 23], [25, 26]), ([0, 1, 2, 3, 4, 5, 6, 7, 8, 9, 10, 11, 12, 13, 14, 15, 16, 17, 18, 19, 20, 21, 22, 23, 24], [26]), ([0, 1, 2, 3, 4, 5, 6, 7, 8, 9, 10, 11, 12, 13, 14, 15, 16, 17, 18, 19, 20, 21, 22, 23, 24, 25], [])] (fun L ac w => St 29 w0 [(3, L 0, PV (px Gp) (py Gp) false), (4, L 1, .bool true), (5, L 2, .bool true), (6, L 3, .pointer (some ⟨g1, 8, none⟩)), (7, L 4, .bool false), (8, L 5, .bool true), (9, L 6, .bool true), (10, L 7, .bool true), (11, L 8, PV (px Gp) (py Gp) false), (12, L 9, .bool true), (13, L 10, .bool true), (14, L 11, .bool true), (15, L 12, PV (px Gp) (py Gp) false), (16, L 13, PV (px Gp) (py Gp) false), (17, L 14, PV (px T2) (py T2) (pz T2)), (18, L 15, PV (px T3) (py T3) (pz T3)), (19, L 16, PV 0 0 true), (20, L 17, .bool true), (21, L 18, .bool true), (22, L 19, .bool true), (23, L 20, .agg #[.int .u64 1, .int .u64 0, .int .u64 0, .int .u64 0]), (24, L 21, PV (px Gp) (py Gp) false), (25, L 22, PV (px T4) (py T4) (pz T4)), (26, L 23, PV (px Gp) (py Gp) false), (27, L 24, .bool true), (28, L 25, .bool true), (0, L 26, .bool true), (0, true, .bool false), (1, true, .pointer (some ⟨g1, 0, none⟩))] [(true, g1, 26, (PVl (px Gp) (py Gp) false))] ac w) (by kernel_rfl) (by kernel_rfl) ?_ ?_ ?_
  · exact hs.drew.skip.skip.skip.skip.skip.skip.skip.skip.skip.skip.skip.skip.skip.skip.skip.skip.skip.skip.skip.skip.skip.skip.skip.skip.skip.skip.skip
  · refine ⟨?_, ?_, ?_, ?_, ?_, ?_, ?_, ?_, ?_, ?_, ?_, ?_, ?_, ?_, ?_, ?_, ?_, ?_, ?_, ?_, ?_, ?_, ?_, ?_, ?_, ?_, ?_, trivial⟩
    · intro L ac w hJ
      have hs := hJ
      refine wpO_plain rfl (op_load hs (some 0) 0 (v := PV (px Gp) (py Gp) false) rfl rfl rfl rfl Try.isAgg26 Try.sizeOf26 rfl rfl fun ac hs => ?_)
      exact hs
    · intro L ac w hJ
      have hs := hJ
      refine wpO_plain rfl (op_call (F := 15) hs (some 1) (v := .bool true) rfl rfl rfl rfl (Try.call15 _) (on_c (px Gp) (py Gp) false true (px_lt Gp) (py_lt Gp) (on_back Gp_on)) rfl fun ac w hs => ?_)
      exact hs
    · intro L ac w hJ
      have hs := hJ
      refine wpO_plain rfl (op_move hs (some 2) rfl rfl rfl rfl fun ac hs => ?_)
      exact hs
    · intro L ac w hJ
      have hs := hJ
      refine wpO_in hs rfl rfl rfl (op_fieldA hs (some 3) rfl rfl rfl Try.underlying26 rfl Try.sizeOf4 (by decide) rfl fun ac hs => ?_)
      exact hs
    · intro L ac w hJ
      have hs := hJ
      refine wpO_in hs rfl rfl rfl (op_load hs (some 4) 0 (v := .bool false) rfl rfl rfl rfl Try.isAgg4 Try.sizeOf4 rfl rfl fun ac hs => ?_)
      exact hs
    · intro L ac w hJ
      have hs := hJ
      refine wpO_in hs rfl rfl rfl (op_un hs (some 5) (v := .bool true) rfl rfl rfl (fun _ => rfl) rfl fun ac hs => ?_)
      exact hs
    · intro L ac w hJ
      have hs := hJ
      refine wpO_plain rfl (op_pickT hs (some 6) rfl rfl rfl rfl rfl fun ac hs => ?_)
      exact hs
    · intro L ac w hJ
      have hs := hJ
      refine wpO_plain rfl (op_move hs (some 7) rfl rfl rfl rfl fun ac hs => ?_)
      exact hs
    · intro L ac w hJ
      have hs := hJ
      refine wpO_in hs rfl rfl rfl (op_load hs (some 8) 0 (v := PV (px Gp) (py Gp) false) rfl rfl rfl rfl Try.isAgg26 Try.sizeOf26 rfl rfl fun ac hs => ?_)
      exact hs
    · intro L ac w hJ
      have hs := hJ
      refine wpO_in hs rfl rfl rfl (op_call (F := 21) hs (some 9) (v := .bool true) rfl rfl rfl rfl (Try.call21 _) (even_c (px Gp) (py Gp) false Gp true (px_lt Gp) (py_lt Gp) (pt_back Gp_on) Gp_even) rfl fun ac w hs => ?_)
      exact hs
    · intro L ac w hJ
      have hs := hJ
      refine wpO_plain rfl (op_pickT hs (some 10) rfl rfl rfl rfl rfl fun ac hs => ?_)
      exact hs
    · intro L ac w hJ
      have hs := hJ
      refine wpO_plain rfl (op_move hs (some 11) rfl rfl rfl rfl fun ac hs => ?_)
      exact hs
    · intro L ac w hJ
      have hs := hJ
      refine wpO_in hs rfl rfl rfl (op_load hs (some 12) 0 (v := PV (px Gp) (py Gp) false) rfl rfl rfl rfl Try.isAgg26 Try.sizeOf26 rfl rfl fun ac hs => ?_)
      exact hs
    · intro L ac w hJ
      have hs := hJ
      refine wpO_in hs rfl rfl rfl (op_load hs (some 13) 0 (v := PV (px Gp) (py Gp) false) rfl rfl rfl rfl Try.isAgg26 Try.sizeOf26 rfl rfl fun ac hs => ?_)
      exact hs
    · intro L ac w hJ
      have hs := hJ
      refine wpO_in hs rfl rfl rfl (op_call (F := 16) hs (some 14) (v := PV (px T2) (py T2) (pz T2)) rfl rfl rfl rfl (Try.call16 _) (neg_c (px Gp) (py Gp) false Gp T2 (px_lt Gp) (py_lt Gp) (pt_back Gp_on) hT2) rfl fun ac w hs => ?_)
      exact hs
    · intro L ac w hJ
      have hs := hJ
      refine wpO_in hs rfl rfl rfl (op_call (F := 11) hs (some 15) (v := PV (px T3) (py T3) (pz T3)) rfl rfl rfl rfl (Try.call11 _) (add14_c (px Gp) (py Gp) false (px T2) (py T2) (pz T2) Gp T2 T3 (px_lt Gp) (py_lt Gp) (px_lt T2) (py_lt T2) (pt_back Gp_on) (pt_back oT2) hT3) rfl fun ac w hs => ?_)
      exact hs
    · intro L ac w hJ
      have hs := hJ
      refine wpO_in hs rfl rfl rfl (op_build hs (some 16) (qs := [(2, .bool true)]) (v := PV 0 0 true) rfl rfl rfl rfl (fun _ => by kernel_rfl) rfl fun ac hs => ?_)
      exact hs
    · intro L ac w hJ
      have hs := hJ
      refine wpO_in hs rfl rfl rfl (op_bin hs (some 17) (v := .bool true) rfl rfl rfl rfl (fun w => run_eqGuard_agg w .eql 26 _ _ _ _ Try.eqGuardType26) (eqlP (px T3) (py T3) 0 0 (pz T3) true (px_lt T3) (py_lt T3) (by decide) (by decide) true (decide_eq_true (pt_eqO (by rw [← hT3, ← hT2, EM.add_comm' Pf_good Gp_on (EM.on_neg Gp_on)]; exact EM.neg_add_self Pf_good Gp_on)))) rfl fun ac hs => ?_)
      exact hs
    · intro L ac w hJ
      have hs := hJ
      refine wpO_plain rfl (op_pickT hs (some 18) rfl rfl rfl rfl rfl fun ac hs => ?_)
      exact hs
    · intro L ac w hJ
      have hs := hJ
      refine wpO_plain rfl (op_move hs (some 19) rfl rfl rfl rfl fun ac hs => ?_)
      exact hs
    · intro L ac w hJ
      have hs := hJ
      refine wpO_in hs rfl rfl rfl (op_build hs (some 20) (qs := [(0, .int .u64 1)]) (v := .agg #[.int .u64 1, .int .u64 0, .int .u64 0, .int .u64 0]) rfl rfl rfl rfl (fun _ => by kernel_rfl) rfl fun ac hs => ?_)
      exact hs
    · intro L ac w hJ
      have hs := hJ
      refine wpO_in hs rfl rfl rfl (op_load hs (some 21) 0 (v := PV (px Gp) (py Gp) false) rfl rfl rfl rfl Try.isAgg26 Try.sizeOf26 rfl rfl fun ac hs => ?_)
      exact hs
    · intro L ac w hJ
      have hs := hJ
      refine wpO_in hs rfl rfl rfl (op_call (F := 13) hs (some 22) (v := PV (px T4) (py T4) (pz T4)) rfl rfl rfl rfl (Try.call13 _) (mul14_c 1 (px Gp) (py Gp) false Gp T4 (by decide) (px_lt Gp) (py_lt Gp) (pt_back Gp_on) hT4) rfl fun ac w hs => ?_)
      exact hs
    · intro L ac w hJ
      have hs := hJ
      refine wpO_in hs rfl rfl rfl (op_load hs (some 23) 0 (v := PV (px Gp) (py Gp) false) rfl rfl rfl rfl Try.isAgg26 Try.sizeOf26 rfl rfl fun ac hs => ?_)
      exact hs
    · intro L ac w hJ
      have hs := hJ
      refine wpO_in hs rfl rfl rfl (op_bin hs (some 24) (v := .bool true) rfl rfl rfl rfl (fun w => run_eqGuard_agg w .eql 26 _ _ _ _ Try.eqGuardType26) (eqlP (px T4) (py T4) (px Gp) (py Gp) (pz T4) false (px_lt T4) (py_lt T4) (px_lt Gp) (py_lt Gp) true (decide_eq_true (pt_eq (hT4.symm.trans nmul_one')))) rfl fun ac hs => ?_)
      exact hs
    · intro L ac w hJ
      have hs := hJ
      refine wpO_plain rfl (op_pickT hs (some 25) rfl rfl rfl rfl rfl fun ac hs => ?_)
      exact hs
    · intro L ac w hJ
      have hs := hJ
      refine wpO_plain rfl (op_assign hs (some 26) rfl rfl rfl rfl fun ac hs => ?_)
      exact hs
  intro ac w hJ
  replace hs : St 29 w0 [(3, true, PV (px Gp) (py Gp) false), (4, true, .bool true), (5, true, .bool true), (6, true, .pointer (some ⟨g1, 8, none⟩)), (7, true, .bool false), (8, true, .bool true), (9, true, .bool true), (10, true, .bool true), (11, true, PV (px Gp) (py Gp) false), (12, true, .bool true), (13, true, .bool true), (14, true, .bool true), (15, true, PV (px Gp) (py Gp) false), (16, true, PV (px Gp) (py Gp) false), (17, true, PV (px T2) (py T2) (pz T2)), (18, true, PV (px T3) (py T3) (pz T3)), (19, true, PV 0 0 true), (20, true, .bool true), (21, true, .bool true), (22, true, .bool true), (23, true, .agg #[.int .u64 1, .int .u64 0, .int .u64 0, .int .u64 0]), (24, true, PV (px Gp) (py Gp) false), (25, true, PV (px T4) (py T4) (pz T4)), (26, true, PV (px Gp) (py Gp) false), (27, true, .bool true), (28, true, .bool true), (0, true, .bool true), (0, true, .bool false), (1, true, .pointer (some ⟨g1, 0, none⟩))] [(true, g1, 26, (PVl (px Gp) (py Gp) false))] ac w := hJ
  refine then_n ?_
  refine wp_ret ?_
  exact bodyPost_ret (res1 rfl (rv_t hs rfl)) hs.defers ⟨rfl, hs.below⟩
end Go.Proofs.Ytmpejkhffbonnaa
