/- The laws of points. -/
import Derived.Test.YtmpejkhffbonnaaPLaw0
import Derived.Test.YtmpejkhffbonnaaRPoint
namespace Go.Proofs.Ytmpejkhffbonnaa
open Go.RowKit
set_option maxRecDepth 10000
set_option maxHeartbeats 1000000

theorem on_law (x y : Nat) (z : Bool) (hx : x < 2 ^ 256) (hy : y < 2 ^ 256) (w0 : World) : Calls Try.prog 6 #[PV x y z] w0 fun e w' => e = .returned (.bool true) ∧ Below w0.heap.size w0 w' := by
  obtain ⟨P, hP⟩ : ∃ P, ptOf x y z = P := ⟨_, rfl⟩
  have oP : P.on := by rw [← hP]; exact pt_on x y z
  refine enter (n := 37) (args := [PV x y z]) Try.func6 rfl rfl (Nat.le_of_ble_eq_true rfl) fun ac hs => ?_
  refine wp_seq ?_
  refine wp_region_lit ?_
  refine lstep (wpO_plain rfl (op_box hs none none (cs := (PVl x y z)) rfl rfl rfl rfl rfl rfl fun g1 ac w hs => ?_))
  refine lstep (wpO_plain rfl (op_assign hs none rfl rfl rfl rfl fun ac hs => ?_))
  refine wpList_nil ?_
  refine then_n ?_
  refine wp_seq ?_
  replace hs : St 37 w0 [(1, true, .pointer (some ⟨g1, 0, none⟩)), (2, true, .bool false)] [(true, g1, 26, (PVl x y z))] ac _ := hs.re ⟨rfl, rfl, trivial⟩
  obtain ⟨T2, hT2, oT2⟩ := mkNeg oP
  obtain ⟨T3, hT3, oT3⟩ := mkNeg oP
  refine region_inv [([], [1, 2, 3, 4, 5, 6, 7, 8, 9, 10, 11, 12, 13, 14, 15, 16, 17, 18, 19, 20, 21, 22, 23, 24, 25, 26, 27, 28, 29, 30, 31, 32, 33, 34]), ([0], [2, 3, 4, 5, 6, 7, 8, 9, 10, 11, 12, 13, 14, 15, 16, 17, 18, 19, 20, 21, 22, 23, 24, 25, 26, 27, 28, 29, 30, 31, 32, 33, 34]), ([0, 1], [3, 5, 6, 7, 8, 9, 10, 11, 12, 13, 14, 15, 16, 17, 18, 19, 20, 21, 22, 23, 24, 25, 26, 27, 28, 29, 30, 31, 32, 33, 34]), ([0, 1, 2], [5, 6, 7, 8, 9, 10, 11, 12, 13, 14, 15, 16, 17, 18, 19, 20, 21, 22, 23, 24, 25, 26, 27, 28, 29, 30, 31, 32, 33, 34]), ([0, 1], [5, 6, 7, 8, 9, 10, 11, 12, 13, 14, 15, 16, 17, 18, 19, 20, 21, 22, 23, 24, 25, 26, 27, 28, 29, 30, 31, 32, 33, 34]), ([0, 1, 2, 3, 4], [6, 7, 8, 9, 10, 11, 12, 13, 14, 15, 16, 17, 18, 19, 20, 21, 22, 23, 24, 25, 26, 27, 28, 29, 30, 31, 32, 33, 34]), ([0, 1, 2, 3, 4, 5], [7, 8, 9, 10, 11, 12, 13, 14, 15, 16, 17, 18, 19, 20, 21, 22, 23, 24, 25, 26, 27, 28, 29, 30, 31, 32, 33, 34]), ([0, 1, 2, 3, 4, 5, 6], [8, 9, 10, 11, 12, 13, 14, 15, 16, 17, 18, 19, 20, 21, 22, 23, 24, 25, 26, 27, 28, 29, 30, 31, 32, 33, 34]), ([0, 1, 2, 3, 4, 5, 6, 7], [9, 10, 11, 12, 13, 14, 15, 16, 17, 18, 19, 20, 21, 22, 23, 24, 25, 26, 27, 28, 29, 30, 31, 32, 33, 34]), ([0, 1, 2, 3, 4, 5, 6, 7, 8], [10, 12, 13, 14, 15, 16, 17, 18, 19, 20, 21, 22, 23, 24, 25, 26, 27, 28, 29, 30, 31, 32, 33, 34]), ([0, 1, 2, 3, 4, 5, 6, 7, 8, 9], [12, 13, 14, 15, 16, 17, 18, 19, 20, 21, 22, 23, 24, 25, 26, 27, 28, 29, 30, 31, 32, 33, 34]), ([0, 1, 2, 3, 4, 5, 6, 7, 8], [12, 13, 14, 15, 16, 17, 18, 19, 20, 21, 22, 23, 24, 25, 26, 27, 28, 29, 30, 31, 32, 33, 34]), ([0, 1, 2, 3, 4, 5, 6, 7, 8, 9, 10, 11], [13, 14, 15, 16, 17, 18, 19, 20, 21, 22, 23, 24, 25, 26, 27, 28, 29, 30, 31, 32, 33, 34]), ([0, 1, 2, 3, 4, 5, 6, 7, 8, 9, 10, 11, 12], [14, 15, 16, 17, 18, 19, 20, 21, 22, 23, 24, 25, 26, 27, 28, 29, 30, 31, 32, 33, 34]), ([0, 1, 2, 3, 4, 5, 6, 7, 8, 9, 10, 11, 12, 13], [15, 16, 17, 18, 19, 20, 21, 22, 23, 24, 25, 26, 27, 28, 29, 30, 31, 32, 33, 34]), ([0, 1, 2, 3, 4, 5, 6, 7, 8, 9, 10, 11, 12, 13, 14], [16, 17, 18, 19, 20, 21, 22, 23, 24, 25, 26, 27, 28, 29, 30, 31, 32, 33, 34]), ([0, 1, 2, 3, 4, 5, 6, 7, 8, 9, 10, 11, 12, 13, 14, 15], [17, 19, 20, 21, 22, 23, 24, 25, 26, 27, 28, 29, 30, 31, 32, 33, 34]), ([0, 1, 2, 3, 4, 5, 6, 7, 8, 9, 10, 11, 12, 13, 14, 15, 16], [19, 20, 21, 22, 23, 24, 25, 26, 27, 28, 29, 30, 31, 32, 33, 34]), ([0, 1, 2, 3, 4, 5, 6, 7, 8, 9, 10, 11, 12, 13, 14, 15], [19, 20, 21, 22, 23, 24, 25, 26, 27, 28, 29, 30, 31, 32, 33, 34]), ([0, 1, 2, 3, 4, 5, 6, 7, 8, 9, 10, 11, 12, 13, 14, 15, 16, 17, 18], [20, 21, 22, 23, 24, 25, 26, 27, 28, 29, 30, 31, 32, 33, 34]), ([0, 1, 2, 3, 4, 5, 6, 7, 8, 9, 10, 11, 12, 13, 14, 15, 16, 17, 18, 19], [21, 22, 23, 24, 25, 26, 27, 28, 29, 30, 31, 32, 33, 34]), ([0, 1, 2, 3, 4, 5, 6, 7, 8, 9, 10, 11, 12, 13, 14, 15, 16, 17, 18, 19, 20], [22, 23, 24, 25, 26, 27, 28, 29, 30, 31, 32, 33, 34]), ([0, 1, 2, 3, 4, 5, 6, 7, 8, 9, 10, 11, 12, 13, 14, 15, 16, 17, 18, 19, 20, 21], [23, 24, 25, 26, 27, 28, 29, 30, 31, 32, 33, 34]), ([0, 1, 2, 3, 4, 5, 6, 7, 8, 9, 10, 11, 12, 13, 14, 15, 16, 17, 18, 19, 20, 21, 22], [24, 26, 27, 28, 29, 30, 31, 32, 33, 34]), ([0, 1, 2, 3, 4, 5, 6, 7, 8, 9, 10, 11, 12, 13, 14, 15, 16, 17, 18, 19, 20, 21, 22, 23], [26, 27, 28, 29, 30, 31, 32, 33, 34]), ([0, 1, 2, 3, 4, 5, 6, 7, 8, 9, 10, 11, 12, 13, 14, 15, 16, 17, 18, 19, 20, 21, 22], [26, 27, 28, 29, 30, 31, 32, 33, 34]), ([0, 1, 2, 3, 4, 5, 6, 7, 8, 9, 10, 11, 12, 13, 14, 15, 16, 17, 18, 19, 20, 21, 22, 23, 24, 25], [27, 28, 29, 30, 31, 32, 33, 34]), ([0, 1, 2, 3, 4, 5, 6, 7, 8, 9, 10, 11, 12, 13, 14, 15, 16, 17, 18, 19, 20, 21, 22, 23, 24, 25, 26], [28, 29, 30, 31, 32, 33, 34]), ([0, 1, 2, 3, 4, 5, 6, 7, 8, 9, 10, 11, 12, 13, 14, 15, 16, 17, 18, 19, 20, 21, 22, 23, 24, 25, 26, 27], [29, 30, 31, 32, 33, 34]), ([0, 1, 2, 3, 4, 5, 6, 7, 8, 9, 10, 11, 12, 13, 14, 15, 16, 17, 18, 19, 20, 21, 22, 23, 24, 25, 26, 27, 28], [30, 31, 32, 33, 34]), ([0, 1, 2, 3, 4, 5, 6, 7, 8, 9, 10, 11, 12, 13, 14, 15, 16, 17, 18, 19, 20, 21, 22, 23, 24, 25, 26, 27, 28, 29], [31, 32, 33, 34]), ([0, 1, 2, 3, 4, 5, 6, 7, 8, 9, 10, 11, 12, 13, 14, 15, 16, 17, 18, 19, 20, 21, 22, 23, 24, 25, 26, 27, 28, 29, 30], [32, 33, 34]), ([0, 1, 2, 3, 4, 5, 6, 7, 8, 9, 10, 11, 12, 13, 14, 15, 16, 17, 18, 19, 20, 21, 22, 23, 24, 25, 26, 27, 28, 29, 30, 31], [33, 34]), ([0, 1, 2, 3, 4, 5, 6, 7, 8, 9, 10, 11, 12, 13, 14, 15, 16, 17, 18, 19, 20, 21, 22, 23, 24, 25, 26, 27, 28, 29, 30, 31, 32], [34]), ([0, 1, 2, 3, 4, 5, 6, 7, 8, 9, 10, 11, 12, 13, 14, 15, 16, 17, 18, 19, 20, 21, 22, 23, 24, 25, 26, 27, 28, 29, 30, 31, 32, 33], [])] (fun L ac w => St 37 w0 [(3, L 0, .bool true), (4, L 1, .bool true), (5, L 2, PV x y z), (6, L 3, .bool (onB x y z)), (7, L 4, PV x y z), (8, L 5, .bool (onB x y z)), (9, L 6, .bool true), (10, L 7, .bool true), (11, L 8, .bool true), (12, L 9, PV x y z), (13, L 10, PV (px T2) (py T2) (pz T2)), (14, L 11, PV x y z), (15, L 12, PV (px T3) (py T3) (pz T3)), (16, L 13, .bool true), (17, L 14, .bool true), (18, L 15, .bool true), (19, L 16, PV x y z), (20, L 17, At .u8 32 (by8 (px P))), (21, L 18, PV x y z), (22, L 19, At .u8 32 (by8 (px P))), (23, L 20, .bool true), (24, L 21, .bool true), (25, L 22, .bool true), (26, L 23, PV x y z), (27, L 24, .bool (evB P)), (28, L 25, PV x y z), (29, L 26, .bool (evB P)), (30, L 27, .bool true), (31, L 28, .bool true), (32, L 29, .bool true), (33, L 30, PV (px Gp) (py Gp) false), (34, L 31, PV (px Gp) (py Gp) (pz Gp)), (35, L 32, .bool true), (36, L 33, .bool true), (2, L 34, .bool true), (1, true, .pointer (some ⟨g1, 0, none⟩)), (2, true, .bool false)] [(true, g1, 26, (PVl x y z))] ac w) (by kernel_rfl) (by kernel_rfl) ?_ ?_ ?_
  · exact hs.drew.skip.skip.skip.skip.skip.skip.skip.skip.skip.skip.skip.skip.skip.skip.skip.skip.skip.skip.skip.skip.skip.skip.skip.skip.skip.skip.skip.skip.skip.skip.skip.skip.skip.skip.skip
  · refine ⟨?_, ?_, ?_, ?_, ?_, ?_, ?_, ?_, ?_, ?_, ?_, ?_, ?_, ?_, ?_, ?_, ?_, ?_, ?_, ?_, ?_, ?_, ?_, ?_, ?_, ?_, ?_, ?_, ?_, ?_, ?_, ?_, ?_, ?_, ?_, trivial⟩
    · intro L ac w hJ
      have hs := hJ
      refine wpO_plain rfl (op_call (F := 10) hs (some 0) (v := .bool true) rfl rfl rfl rfl (Try.call10 _) alive_c rfl fun ac w hs => ?_)
      exact hs
    · intro L ac w hJ
      have hs := hJ
      refine wpO_plain rfl (op_move hs (some 1) rfl rfl rfl rfl fun ac hs => ?_)
      exact hs
    · intro L ac w hJ
      have hs := hJ
      refine wpO_in hs rfl rfl rfl (op_load hs (some 2) 0 (v := PV x y z) rfl rfl rfl rfl Try.isAgg26 Try.sizeOf26 rfl rfl fun ac hs => ?_)
      exact hs
    · intro L ac w hJ
      have hs := hJ
      refine wpO_in hs rfl rfl rfl (op_call (F := 15) hs (some 3) (v := .bool (onB x y z)) rfl rfl rfl rfl (Try.call15 _) (on_c x y z _ hx hy rfl) rfl fun ac w hs => ?_)
      exact hs
    · intro L ac w hJ
      have hs := hJ
      refine wpO_in hs rfl rfl rfl (op_load hs (some 4) 0 (v := PV x y z) rfl rfl rfl rfl Try.isAgg26 Try.sizeOf26 rfl rfl fun ac hs => ?_)
      exact hs
    · intro L ac w hJ
      have hs := hJ
      refine wpO_in hs rfl rfl rfl (op_call (F := 17) hs (some 5) (v := .bool (onB x y z)) rfl rfl rfl rfl (Try.call17 _) (ron_c x y z _ hx hy rfl) rfl fun ac w hs => ?_)
      exact hs
    · intro L ac w hJ
      have hs := hJ
      refine wpO_in hs rfl rfl rfl (op_bin hs (some 6) (v := .bool true) rfl rfl rfl rfl (fun _ => rfl) (eqlB Try.underlying4 rfl) rfl fun ac hs => ?_)
      exact hs
    · intro L ac w hJ
      have hs := hJ
      refine wpO_plain rfl (op_pickT hs (some 7) rfl rfl rfl rfl rfl fun ac hs => ?_)
      exact hs
    · intro L ac w hJ
      have hs := hJ
      refine wpO_plain rfl (op_move hs (some 8) rfl rfl rfl rfl fun ac hs => ?_)
      exact hs
    · intro L ac w hJ
      have hs := hJ
      refine wpO_in hs rfl rfl rfl (op_load hs (some 9) 0 (v := PV x y z) rfl rfl rfl rfl Try.isAgg26 Try.sizeOf26 rfl rfl fun ac hs => ?_)
      exact hs
    · intro L ac w hJ
      have hs := hJ
      refine wpO_in hs rfl rfl rfl (op_call (F := 16) hs (some 10) (v := PV (px T2) (py T2) (pz T2)) rfl rfl rfl rfl (Try.call16 _) (neg_c x y z P T2 hx hy hP hT2) rfl fun ac w hs => ?_)
      exact hs
    · intro L ac w hJ
      have hs := hJ
      refine wpO_in hs rfl rfl rfl (op_load hs (some 11) 0 (v := PV x y z) rfl rfl rfl rfl Try.isAgg26 Try.sizeOf26 rfl rfl fun ac hs => ?_)
      exact hs
    · intro L ac w hJ
      have hs := hJ
      refine wpO_in hs rfl rfl rfl (op_call (F := 18) hs (some 12) (v := PV (px T3) (py T3) (pz T3)) rfl rfl rfl rfl (Try.call18 _) (rneg_c x y z P T3 hx hy hP hT3) rfl fun ac w hs => ?_)
      exact hs
    · intro L ac w hJ
      have hs := hJ
      refine wpO_in hs rfl rfl rfl (op_bin hs (some 13) (v := .bool true) rfl rfl rfl rfl (fun w => run_eqGuard_agg w .eql 26 _ _ _ _ Try.eqGuardType26) (eqlP (px T2) (py T2) (px T3) (py T3) (pz T2) (pz T3) (px_lt T2) (py_lt T2) (px_lt T3) (py_lt T3) true (decide_eq_true (pt_eq (hT2.symm.trans hT3)))) rfl fun ac hs => ?_)
      exact hs
    · intro L ac w hJ
      have hs := hJ
      refine wpO_plain rfl (op_pickT hs (some 14) rfl rfl rfl rfl rfl fun ac hs => ?_)
      exact hs
    · intro L ac w hJ
      have hs := hJ
      refine wpO_plain rfl (op_move hs (some 15) rfl rfl rfl rfl fun ac hs => ?_)
      exact hs
    · intro L ac w hJ
      have hs := hJ
      refine wpO_in hs rfl rfl rfl (op_load hs (some 16) 0 (v := PV x y z) rfl rfl rfl rfl Try.isAgg26 Try.sizeOf26 rfl rfl fun ac hs => ?_)
      exact hs
    · intro L ac w hJ
      have hs := hJ
      refine wpO_in hs rfl rfl rfl (op_call (F := 19) hs (some 17) (v := At .u8 32 (by8 (px P))) rfl rfl rfl rfl (Try.call19 _) (pbytes_c x y z P hx hy hP) rfl fun ac w hs => ?_)
      exact hs
    · intro L ac w hJ
      have hs := hJ
      refine wpO_in hs rfl rfl rfl (op_load hs (some 18) 0 (v := PV x y z) rfl rfl rfl rfl Try.isAgg26 Try.sizeOf26 rfl rfl fun ac hs => ?_)
      exact hs
    · intro L ac w hJ
      have hs := hJ
      refine wpO_in hs rfl rfl rfl (op_call (F := 20) hs (some 19) (v := At .u8 32 (by8 (px P))) rfl rfl rfl rfl (Try.call20 _) (rpbytes_c x y z P hx hy hP) rfl fun ac w hs => ?_)
      exact hs
    · intro L ac w hJ
      have hs := hJ
      refine wpO_in hs rfl rfl rfl (op_bin hs (some 20) (v := .bool true) rfl rfl rfl rfl (fun w => run_eqGuard_agg w .eql 35 _ _ _ _ Try.eqGuardType35) (eqlAt Try.underlying35 Try.underlying5 inf_u8_5 (by kernel_rfl) Try.isAgg5 (fun _ _ => rfl)) rfl fun ac hs => ?_)
      exact hs
    · intro L ac w hJ
      have hs := hJ
      refine wpO_plain rfl (op_pickT hs (some 21) rfl rfl rfl rfl rfl fun ac hs => ?_)
      exact hs
    · intro L ac w hJ
      have hs := hJ
      refine wpO_plain rfl (op_move hs (some 22) rfl rfl rfl rfl fun ac hs => ?_)
      exact hs
    · intro L ac w hJ
      have hs := hJ
      refine wpO_in hs rfl rfl rfl (op_load hs (some 23) 0 (v := PV x y z) rfl rfl rfl rfl Try.isAgg26 Try.sizeOf26 rfl rfl fun ac hs => ?_)
      exact hs
    · intro L ac w hJ
      have hs := hJ
      refine wpO_in hs rfl rfl rfl (op_call (F := 21) hs (some 24) (v := .bool (evB P)) rfl rfl rfl rfl (Try.call21 _) (even_c x y z P _ hx hy hP rfl) rfl fun ac w hs => ?_)
      exact hs
    · intro L ac w hJ
      have hs := hJ
      refine wpO_in hs rfl rfl rfl (op_load hs (some 25) 0 (v := PV x y z) rfl rfl rfl rfl Try.isAgg26 Try.sizeOf26 rfl rfl fun ac hs => ?_)
      exact hs
    · intro L ac w hJ
      have hs := hJ
      refine wpO_in hs rfl rfl rfl (op_call (F := 22) hs (some 26) (v := .bool (evB P)) rfl rfl rfl rfl (Try.call22 _) (reven_c x y z P _ hx hy hP rfl) rfl fun ac w hs => ?_)
      exact hs
    · intro L ac w hJ
      have hs := hJ
      refine wpO_in hs rfl rfl rfl (op_bin hs (some 27) (v := .bool true) rfl rfl rfl rfl (fun _ => rfl) (eqlB Try.underlying4 rfl) rfl fun ac hs => ?_)
      exact hs
    · intro L ac w hJ
      have hs := hJ
      refine wpO_plain rfl (op_pickT hs (some 28) rfl rfl rfl rfl rfl fun ac hs => ?_)
      exact hs
    · intro L ac w hJ
      have hs := hJ
      refine wpO_plain rfl (op_move hs (some 29) rfl rfl rfl rfl fun ac hs => ?_)
      exact hs
    · intro L ac w hJ
      have hs := hJ
      refine wpO_in hs rfl rfl rfl (op_call (F := 23) hs (some 30) (v := PV (px Gp) (py Gp) false) rfl rfl rfl rfl (Try.call23 _) base_c rfl fun ac w hs => ?_)
      exact hs
    · intro L ac w hJ
      have hs := hJ
      refine wpO_in hs rfl rfl rfl (op_call (F := 24) hs (some 31) (v := PV (px Gp) (py Gp) (pz Gp)) rfl rfl rfl rfl (Try.call24 _) rbase_c rfl fun ac w hs => ?_)
      exact hs
    · intro L ac w hJ
      have hs := hJ
      refine wpO_in hs rfl rfl rfl (op_bin hs (some 32) (v := .bool true) rfl rfl rfl rfl (fun w => run_eqGuard_agg w .eql 26 _ _ _ _ Try.eqGuardType26) (eqlP (px Gp) (py Gp) (px Gp) (py Gp) false (pz Gp) (px_lt Gp) (py_lt Gp) (px_lt Gp) (py_lt Gp) true (decide_eq_true ⟨rfl, rfl, rfl⟩)) rfl fun ac hs => ?_)
      exact hs
    · intro L ac w hJ
      have hs := hJ
      refine wpO_plain rfl (op_pickT hs (some 33) rfl rfl rfl rfl rfl fun ac hs => ?_)
      exact hs
    · intro L ac w hJ
      have hs := hJ
      refine wpO_plain rfl (op_assign hs (some 34) rfl rfl rfl rfl fun ac hs => ?_)
      exact hs
  intro ac w hJ
  replace hs : St 37 w0 [(3, true, .bool true), (4, true, .bool true), (5, true, PV x y z), (6, true, .bool (onB x y z)), (7, true, PV x y z), (8, true, .bool (onB x y z)), (9, true, .bool true), (10, true, .bool true), (11, true, .bool true), (12, true, PV x y z), (13, true, PV (px T2) (py T2) (pz T2)), (14, true, PV x y z), (15, true, PV (px T3) (py T3) (pz T3)), (16, true, .bool true), (17, true, .bool true), (18, true, .bool true), (19, true, PV x y z), (20, true, At .u8 32 (by8 (px P))), (21, true, PV x y z), (22, true, At .u8 32 (by8 (px P))), (23, true, .bool true), (24, true, .bool true), (25, true, .bool true), (26, true, PV x y z), (27, true, .bool (evB P)), (28, true, PV x y z), (29, true, .bool (evB P)), (30, true, .bool true), (31, true, .bool true), (32, true, .bool true), (33, true, PV (px Gp) (py Gp) false), (34, true, PV (px Gp) (py Gp) (pz Gp)), (35, true, .bool true), (36, true, .bool true), (2, true, .bool true), (1, true, .pointer (some ⟨g1, 0, none⟩)), (2, true, .bool false)] [(true, g1, 26, (PVl x y z))] ac w := hJ
  refine then_n ?_
  refine wp_ret ?_
  exact bodyPost_ret (res1 rfl (rv_t hs rfl)) hs.defers ⟨rfl, hs.below⟩
theorem padd_law (x1 y1 : Nat) (z1 : Bool) (x2 y2 : Nat) (z2 : Bool) (a1 : x1 < 2 ^ 256) (a2 : y1 < 2 ^ 256) (b1 : x2 < 2 ^ 256) (b2 : y2 < 2 ^ 256) (w0 : World) : Calls Try.prog 3 #[PV x1 y1 z1, PV x2 y2 z2] w0 fun e w' => e = .returned (.bool true) ∧ Below w0.heap.size w0 w' := by
  obtain ⟨P, hP⟩ : ∃ P, ptOf x1 y1 z1 = P := ⟨_, rfl⟩
  have oP : P.on := by rw [← hP]; exact pt_on x1 y1 z1
  obtain ⟨Q, hQ⟩ : ∃ Q, ptOf x2 y2 z2 = Q := ⟨_, rfl⟩
  have oQ : Q.on := by rw [← hQ]; exact pt_on x2 y2 z2
  refine enter (n := 15) (args := [PV x1 y1 z1, PV x2 y2 z2]) Try.func3 rfl rfl (Nat.le_of_ble_eq_true rfl) fun ac hs => ?_
  refine wp_seq ?_
  refine wp_region_lit ?_
  refine lstep (wpO_plain rfl (op_box hs none none (cs := (PVl x1 y1 z1)) rfl rfl rfl rfl rfl rfl fun g1 ac w hs => ?_))
  refine lstep (wpO_plain rfl (op_box hs none none (cs := (PVl x2 y2 z2)) rfl rfl rfl rfl rfl rfl fun g2 ac w hs => ?_))
  refine lstep (wpO_plain rfl (op_assign hs none rfl rfl rfl rfl fun ac hs => ?_))
  refine wpList_nil ?_
  refine then_n ?_
  refine wp_seq ?_
  replace hs : St 15 w0 [(2, true, .pointer (some ⟨g1, 0, none⟩)), (3, true, .pointer (some ⟨g2, 0, none⟩)), (4, true, .bool false)] [(true, g1, 26, (PVl x1 y1 z1)), (true, g2, 26, (PVl x2 y2 z2))] ac _ := hs.re ⟨rfl, rfl, rfl, trivial⟩
  obtain ⟨T3, hT3, oT3⟩ := mkAdd oP oQ
  obtain ⟨T4, hT4, oT4⟩ := mkAdd oP oQ
  refine region_inv [([], [1, 2, 3, 4, 5, 6, 7, 8, 9, 10]), ([0], [2, 3, 4, 5, 6, 7, 8, 9, 10]), ([0, 1], [4, 7, 8, 9, 10]), ([0, 1], [4, 7, 8, 9, 10]), ([0, 1, 2, 3], [7, 8, 9, 10]), ([0, 1], [7, 8, 9, 10]), ([0, 1], [7, 8, 9, 10]), ([0, 1, 2, 3, 4, 5, 6], [8, 9, 10]), ([0, 1, 2, 3, 4, 5, 6, 7], [9, 10]), ([0, 1, 2, 3, 4, 5, 6, 7, 8], [10]), ([0, 1, 2, 3, 4, 5, 6, 7, 8, 9], [])] (fun L ac w => St 15 w0 [(5, L 0, .bool true), (6, L 1, .bool true), (7, L 2, PV x1 y1 z1), (8, L 3, PV x2 y2 z2), (9, L 4, PV (px T3) (py T3) (pz T3)), (10, L 5, PV x1 y1 z1), (11, L 6, PV x2 y2 z2), (12, L 7, PV (px T4) (py T4) (pz T4)), (13, L 8, .bool true), (14, L 9, .bool true), (4, L 10, .bool true), (2, true, .pointer (some ⟨g1, 0, none⟩)), (3, true, .pointer (some ⟨g2, 0, none⟩)), (4, true, .bool false)] [(true, g1, 26, (PVl x1 y1 z1)), (true, g2, 26, (PVl x2 y2 z2))] ac w) (by kernel_rfl) (by kernel_rfl) ?_ ?_ ?_
  · exact hs.drew.skip.skip.skip.skip.skip.skip.skip.skip.skip.skip.skip
  · refine ⟨?_, ?_, ?_, ?_, ?_, ?_, ?_, ?_, ?_, ?_, ?_, trivial⟩
    · intro L ac w hJ
      have hs := hJ
      refine wpO_plain rfl (op_call (F := 10) hs (some 0) (v := .bool true) rfl rfl rfl rfl (Try.call10 _) alive_c rfl fun ac w hs => ?_)
      exact hs
    · intro L ac w hJ
      have hs := hJ
      refine wpO_plain rfl (op_move hs (some 1) rfl rfl rfl rfl fun ac hs => ?_)
      exact hs
    · intro L ac w hJ
      have hs := hJ
      refine wpO_in hs rfl rfl rfl (op_load hs (some 2) 0 (v := PV x1 y1 z1) rfl rfl rfl rfl Try.isAgg26 Try.sizeOf26 rfl rfl fun ac hs => ?_)
      exact hs
    · intro L ac w hJ
      have hs := hJ
      refine wpO_in hs rfl rfl rfl (op_load hs (some 3) 1 (v := PV x2 y2 z2) rfl rfl rfl rfl Try.isAgg26 Try.sizeOf26 rfl rfl fun ac hs => ?_)
      exact hs
    · intro L ac w hJ
      have hs := hJ
      refine wpO_in hs rfl rfl rfl (op_call (F := 11) hs (some 4) (v := PV (px T3) (py T3) (pz T3)) rfl rfl rfl rfl (Try.call11 _) (add14_c x1 y1 z1 x2 y2 z2 P Q T3 a1 a2 b1 b2 hP hQ hT3) rfl fun ac w hs => ?_)
      exact hs
    · intro L ac w hJ
      have hs := hJ
      refine wpO_in hs rfl rfl rfl (op_load hs (some 5) 0 (v := PV x1 y1 z1) rfl rfl rfl rfl Try.isAgg26 Try.sizeOf26 rfl rfl fun ac hs => ?_)
      exact hs
    · intro L ac w hJ
      have hs := hJ
      refine wpO_in hs rfl rfl rfl (op_load hs (some 6) 1 (v := PV x2 y2 z2) rfl rfl rfl rfl Try.isAgg26 Try.sizeOf26 rfl rfl fun ac hs => ?_)
      exact hs
    · intro L ac w hJ
      have hs := hJ
      refine wpO_in hs rfl rfl rfl (op_call (F := 12) hs (some 7) (v := PV (px T4) (py T4) (pz T4)) rfl rfl rfl rfl (Try.call12 _) (radd14_c x1 y1 z1 x2 y2 z2 P Q T4 a1 a2 b1 b2 hP hQ hT4) rfl fun ac w hs => ?_)
      exact hs
    · intro L ac w hJ
      have hs := hJ
      refine wpO_in hs rfl rfl rfl (op_bin hs (some 8) (v := .bool true) rfl rfl rfl rfl (fun w => run_eqGuard_agg w .eql 26 _ _ _ _ Try.eqGuardType26) (eqlP (px T3) (py T3) (px T4) (py T4) (pz T3) (pz T4) (px_lt T3) (py_lt T3) (px_lt T4) (py_lt T4) true (decide_eq_true (pt_eq (hT3.symm.trans hT4)))) rfl fun ac hs => ?_)
      exact hs
    · intro L ac w hJ
      have hs := hJ
      refine wpO_plain rfl (op_pickT hs (some 9) rfl rfl rfl rfl rfl fun ac hs => ?_)
      exact hs
    · intro L ac w hJ
      have hs := hJ
      refine wpO_plain rfl (op_assign hs (some 10) rfl rfl rfl rfl fun ac hs => ?_)
      exact hs
  intro ac w hJ
  replace hs : St 15 w0 [(5, true, .bool true), (6, true, .bool true), (7, true, PV x1 y1 z1), (8, true, PV x2 y2 z2), (9, true, PV (px T3) (py T3) (pz T3)), (10, true, PV x1 y1 z1), (11, true, PV x2 y2 z2), (12, true, PV (px T4) (py T4) (pz T4)), (13, true, .bool true), (14, true, .bool true), (4, true, .bool true), (2, true, .pointer (some ⟨g1, 0, none⟩)), (3, true, .pointer (some ⟨g2, 0, none⟩)), (4, true, .bool false)] [(true, g1, 26, (PVl x1 y1 z1)), (true, g2, 26, (PVl x2 y2 z2))] ac w := hJ
  refine then_n ?_
  refine wp_ret ?_
  exact bodyPost_ret (res1 rfl (rv_t hs rfl)) hs.defers ⟨rfl, hs.below⟩
theorem pmul_law (k : Nat) (x y : Nat) (z : Bool) (hx : x < 2 ^ 256) (hy : y < 2 ^ 256) (hk : k < 2 ^ 256) (w0 : World) : Calls Try.prog 4 #[W k, PV x y z] w0 fun e w' => e = .returned (.bool true) ∧ Below w0.heap.size w0 w' := by
  obtain ⟨P, hP⟩ : ∃ P, ptOf x y z = P := ⟨_, rfl⟩
  have oP : P.on := by rw [← hP]; exact pt_on x y z
  refine enter (n := 15) (args := [W k, PV x y z]) Try.func4 rfl rfl (Nat.le_of_ble_eq_true rfl) fun ac hs => ?_
  refine wp_seq ?_
  refine wp_region_lit ?_
  refine lstep (wpO_plain rfl (op_box hs none none (cs := (Wl k)) rfl rfl rfl rfl rfl rfl fun g1 ac w hs => ?_))
  refine lstep (wpO_plain rfl (op_box hs none none (cs := (PVl x y z)) rfl rfl rfl rfl rfl rfl fun g2 ac w hs => ?_))
  refine lstep (wpO_plain rfl (op_assign hs none rfl rfl rfl rfl fun ac hs => ?_))
  refine wpList_nil ?_
  refine then_n ?_
  refine wp_seq ?_
  replace hs : St 15 w0 [(2, true, .pointer (some ⟨g1, 0, none⟩)), (3, true, .pointer (some ⟨g2, 0, none⟩)), (4, true, .bool false)] [(true, g1, 24, (Wl k)), (true, g2, 26, (PVl x y z))] ac _ := hs.re ⟨rfl, rfl, rfl, trivial⟩
  obtain ⟨T3, hT3, oT3⟩ := mkMul k oP
  obtain ⟨T4, hT4, oT4⟩ := mkMul k oP
  refine region_inv [([], [1, 2, 3, 4, 5, 6, 7, 8, 9, 10]), ([0], [2, 3, 4, 5, 6, 7, 8, 9, 10]), ([0, 1], [4, 7, 8, 9, 10]), ([0, 1], [4, 7, 8, 9, 10]), ([0, 1, 2, 3], [7, 8, 9, 10]), ([0, 1], [7, 8, 9, 10]), ([0, 1], [7, 8, 9, 10]), ([0, 1, 2, 3, 4, 5, 6], [8, 9, 10]), ([0, 1, 2, 3, 4, 5, 6, 7], [9, 10]), ([0, 1, 2, 3, 4, 5, 6, 7, 8], [10]), ([0, 1, 2, 3, 4, 5, 6, 7, 8, 9], [])] (fun L ac w => St 15 w0 [(5, L 0, .bool true), (6, L 1, .bool true), (7, L 2, W k), (8, L 3, PV x y z), (9, L 4, PV (px T3) (py T3) (pz T3)), (10, L 5, W k), (11, L 6, PV x y z), (12, L 7, PV (px T4) (py T4) (pz T4)), (13, L 8, .bool true), (14, L 9, .bool true), (4, L 10, .bool true), (2, true, .pointer (some ⟨g1, 0, none⟩)), (3, true, .pointer (some ⟨g2, 0, none⟩)), (4, true, .bool false)] [(true, g1, 24, (Wl k)), (true, g2, 26, (PVl x y z))] ac w) (by kernel_rfl) (by kernel_rfl) ?_ ?_ ?_
  · exact hs.drew.skip.skip.skip.skip.skip.skip.skip.skip.skip.skip.skip
  · refine ⟨?_, ?_, ?_, ?_, ?_, ?_, ?_, ?_, ?_, ?_, ?_, trivial⟩
    · intro L ac w hJ
      have hs := hJ
      refine wpO_plain rfl (op_call (F := 10) hs (some 0) (v := .bool true) rfl rfl rfl rfl (Try.call10 _) alive_c rfl fun ac w hs => ?_)
      exact hs
    · intro L ac w hJ
      have hs := hJ
      refine wpO_plain rfl (op_move hs (some 1) rfl rfl rfl rfl fun ac hs => ?_)
      exact hs
    · intro L ac w hJ
      have hs := hJ
      refine wpO_in hs rfl rfl rfl (op_load hs (some 2) 0 (v := W k) rfl rfl rfl rfl Try.isAgg24 Try.sizeOf24 rfl rfl fun ac hs => ?_)
      exact hs
    · intro L ac w hJ
      have hs := hJ
      refine wpO_in hs rfl rfl rfl (op_load hs (some 3) 1 (v := PV x y z) rfl rfl rfl rfl Try.isAgg26 Try.sizeOf26 rfl rfl fun ac hs => ?_)
      exact hs
    · intro L ac w hJ
      have hs := hJ
      refine wpO_in hs rfl rfl rfl (op_call (F := 13) hs (some 4) (v := PV (px T3) (py T3) (pz T3)) rfl rfl rfl rfl (Try.call13 _) (mul14_c k x y z P T3 hk hx hy hP hT3) rfl fun ac w hs => ?_)
      exact hs
    · intro L ac w hJ
      have hs := hJ
      refine wpO_in hs rfl rfl rfl (op_load hs (some 5) 0 (v := W k) rfl rfl rfl rfl Try.isAgg24 Try.sizeOf24 rfl rfl fun ac hs => ?_)
      exact hs
    · intro L ac w hJ
      have hs := hJ
      refine wpO_in hs rfl rfl rfl (op_load hs (some 6) 1 (v := PV x y z) rfl rfl rfl rfl Try.isAgg26 Try.sizeOf26 rfl rfl fun ac hs => ?_)
      exact hs
    · intro L ac w hJ
      have hs := hJ
      refine wpO_in hs rfl rfl rfl (op_call (F := 14) hs (some 7) (v := PV (px T4) (py T4) (pz T4)) rfl rfl rfl rfl (Try.call14 _) (rmul14_c k x y z P T4 hk hx hy hP hT4) rfl fun ac w hs => ?_)
      exact hs
    · intro L ac w hJ
      have hs := hJ
      refine wpO_in hs rfl rfl rfl (op_bin hs (some 8) (v := .bool true) rfl rfl rfl rfl (fun w => run_eqGuard_agg w .eql 26 _ _ _ _ Try.eqGuardType26) (eqlP (px T3) (py T3) (px T4) (py T4) (pz T3) (pz T4) (px_lt T3) (py_lt T3) (px_lt T4) (py_lt T4) true (decide_eq_true (pt_eq (hT3.symm.trans hT4)))) rfl fun ac hs => ?_)
      exact hs
    · intro L ac w hJ
      have hs := hJ
      refine wpO_plain rfl (op_pickT hs (some 9) rfl rfl rfl rfl rfl fun ac hs => ?_)
      exact hs
    · intro L ac w hJ
      have hs := hJ
      refine wpO_plain rfl (op_assign hs (some 10) rfl rfl rfl rfl fun ac hs => ?_)
      exact hs
  intro ac w hJ
  replace hs : St 15 w0 [(5, true, .bool true), (6, true, .bool true), (7, true, W k), (8, true, PV x y z), (9, true, PV (px T3) (py T3) (pz T3)), (10, true, W k), (11, true, PV x y z), (12, true, PV (px T4) (py T4) (pz T4)), (13, true, .bool true), (14, true, .bool true), (4, true, .bool true), (2, true, .pointer (some ⟨g1, 0, none⟩)), (3, true, .pointer (some ⟨g2, 0, none⟩)), (4, true, .bool false)] [(true, g1, 24, (Wl k)), (true, g2, 26, (PVl x y z))] ac w := hJ
  refine then_n ?_
  refine wp_ret ?_
  exact bodyPost_ret (res1 rfl (rv_t hs rfl)) hs.defers ⟨rfl, hs.below⟩
theorem lift_law (f : Nat → Nat) (hf : ∀ j, j < 32 → f j < 256) (w0 : World) : Calls Try.prog 8 #[At .u8 32 f] w0 fun e w' => e = .returned (.bool true) ∧ Below w0.heap.size w0 w' := by
  refine enter (n := 28) (args := [At .u8 32 f]) Try.func8 rfl rfl (Nat.le_of_ble_eq_true rfl) fun ac hs => ?_
  refine wp_seq ?_
  refine wp_region_lit ?_
  refine lstep (wpO_plain rfl (op_box hs none none (cs := (tab .u8 32 f)) rfl rfl rfl rfl rfl rfl fun g1 ac w hs => ?_))
  refine lstep (wpO_plain rfl (op_assign hs none rfl rfl rfl rfl fun ac hs => ?_))
  refine wpList_nil ?_
  refine then_n ?_
  refine wp_seq ?_
  refine wp_region_lit ?_
  refine lstep (wpO_plain rfl (op_load hs none 0 (v := At .u8 32 f) rfl rfl rfl rfl Try.isAgg35 Try.sizeOf35 ldv_tab rfl fun ac hs => ?_))
  obtain ⟨T2, hT2, oT2⟩ := mkLift (pr f 0 32)
  refine lstep (wpO_plain rfl (op_call (F := 29) hs none (v := .tuple #[PV (px T2) (py T2) (pz T2), .bool (!pz T2)]) rfl rfl rfl rfl (Try.call29 _) (lift14_c f T2 hf hT2) rfl fun ac w hs => ?_))
  refine lstep (wpO_plain rfl (op_move hs none rfl rfl rfl rfl fun ac hs => ?_))
  refine lstep (wpO_plain rfl (op_extract hs none rfl rfl rfl rfl rfl fun ac hs => ?_))
  refine lstep (wpO_plain rfl (op_extract hs none rfl rfl rfl rfl rfl fun ac hs => ?_))
  refine lstep (wpO_plain rfl (op_alloc hs none none (cs := (PVl 0 0 false)) rfl rfl Try.zeroValue26 (by kernel_rfl) rfl rfl fun g3 ac w hs => ?_))
  refine lstep (wpO_plain rfl (op_store hs 1 (vs := (PVl (px T2) (py T2) (pz T2))) rfl rfl rfl rfl rfl Try.sizeOf26 rfl rfl rfl rfl rfl fun w hs => ?_))
  refine lstep (wpO_plain rfl (op_assign hs none rfl rfl rfl rfl fun ac hs => ?_))
  refine wpList_nil ?_
  refine then_n ?_
  refine wp_seq ?_
  replace hs : St 28 w0 [(1, true, .pointer (some ⟨g1, 0, none⟩)), (2, true, .bool false), (3, true, .pointer (some ⟨g3, 0, none⟩)), (4, true, .bool (!pz T2))] [(true, g1, 35, (tab .u8 32 f)), (true, g3, 26, (PVl (px T2) (py T2) (pz T2)))] ac _ := hs.re ⟨rfl, rfl, rfl, rfl, trivial⟩
  refine wp_region_lit ?_
  refine lstep (wpO_plain rfl (op_load hs none 0 (v := At .u8 32 f) rfl rfl rfl rfl Try.isAgg35 Try.sizeOf35 ldv_tab rfl fun ac hs => ?_))
  obtain ⟨T4, hT4, oT4⟩ := mkLift (pr f 0 32)
  refine lstep (wpO_plain rfl (op_call (F := 30) hs none (v := .tuple #[PV (px T4) (py T4) (pz T4), .bool (!pz T4)]) rfl rfl rfl rfl (Try.call30 _) (rlift_c f T4 hf hT4) rfl fun ac w hs => ?_))
  refine lstep (wpO_plain rfl (op_move hs none rfl rfl rfl rfl fun ac hs => ?_))
  refine lstep (wpO_plain rfl (op_extract hs none rfl rfl rfl rfl rfl fun ac hs => ?_))
  refine lstep (wpO_plain rfl (op_extract hs none rfl rfl rfl rfl rfl fun ac hs => ?_))
  refine lstep (wpO_plain rfl (op_alloc hs none none (cs := (PVl 0 0 false)) rfl rfl Try.zeroValue26 (by kernel_rfl) rfl rfl fun g5 ac w hs => ?_))
  refine lstep (wpO_plain rfl (op_store hs 2 (vs := (PVl (px T4) (py T4) (pz T4))) rfl rfl rfl rfl rfl Try.sizeOf26 rfl rfl rfl rfl rfl fun w hs => ?_))
  refine lstep (wpO_plain rfl (op_assign hs none rfl rfl rfl rfl fun ac hs => ?_))
  refine wpList_nil ?_
  refine then_n ?_
  refine wp_seq ?_
  replace hs : St 28 w0 [(2, true, .bool false), (3, true, .pointer (some ⟨g3, 0, none⟩)), (4, true, .bool (!pz T2)), (5, true, .pointer (some ⟨g5, 0, none⟩)), (6, true, .bool (!pz T4))] [(true, g1, 35, (tab .u8 32 f)), (true, g3, 26, (PVl (px T2) (py T2) (pz T2))), (true, g5, 26, (PVl (px T4) (py T4) (pz T4)))] ac _ := hs.re ⟨rfl, rfl, rfl, rfl, rfl, trivial⟩
  refine wp_region_lit ?_
  refine lstep (wpO_plain rfl (op_call (F := 10) hs none (v := .bool true) rfl rfl rfl rfl (Try.call10 _) alive_c rfl fun ac w hs => ?_))
  refine lstep (wpO_plain rfl (op_move hs none rfl rfl rfl rfl fun ac hs => ?_))
  refine lstep (wpO_in hs rfl rfl rfl (op_load hs none 1 (v := PV (px T2) (py T2) (pz T2)) rfl rfl rfl rfl Try.isAgg26 Try.sizeOf26 rfl rfl fun ac hs => ?_))
  refine lstep (wpO_in hs rfl rfl rfl (op_load hs none 2 (v := PV (px T4) (py T4) (pz T4)) rfl rfl rfl rfl Try.isAgg26 Try.sizeOf26 rfl rfl fun ac hs => ?_))
  refine lstep (wpO_in hs rfl rfl rfl (op_bin hs none (v := .bool true) rfl rfl rfl rfl (fun w => run_eqGuard_agg w .eql 26 _ _ _ _ Try.eqGuardType26) (eqlP (px T2) (py T2) (px T4) (py T4) (pz T2) (pz T4) (px_lt T2) (py_lt T2) (px_lt T4) (py_lt T4) true (decide_eq_true (pt_eq (hT2.symm.trans hT4)))) rfl fun ac hs => ?_))
  refine lstep (wpO_plain rfl (op_pickT hs none rfl rfl rfl rfl rfl fun ac hs => ?_))
  refine lstep (wpO_plain rfl (op_move hs none rfl rfl rfl rfl fun ac hs => ?_))
  refine lstep (wpO_in hs rfl rfl rfl (op_move hs none rfl rfl rfl rfl fun ac hs => ?_))
  refine lstep (wpO_in hs rfl rfl rfl (op_move hs none rfl rfl rfl rfl fun ac hs => ?_))
  refine lstep (wpO_in hs rfl rfl rfl (op_bin hs none (v := .bool true) rfl rfl rfl rfl (fun _ => rfl) (eqlB Try.underlying4 (by rw [show T2 = T4 from hT2.symm.trans hT4])) rfl fun ac hs => ?_))
  refine lstep (wpO_plain rfl (op_pickT hs none rfl rfl rfl rfl rfl fun ac hs => ?_))
  refine lstep (wpO_plain rfl (op_assign hs none rfl rfl rfl rfl fun ac hs => ?_))
  refine wpList_nil ?_
  refine then_n ?_
  refine wp_ret ?_
  exact bodyPost_ret (res1 rfl (rv_t hs rfl)) hs.defers ⟨rfl, hs.below⟩
end Go.Proofs.Ytmpejkhffbonnaa
