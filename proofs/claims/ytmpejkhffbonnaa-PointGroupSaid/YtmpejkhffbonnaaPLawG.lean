/- The laws of points. -/
import Derived.Test.YtmpejkhffbonnaaPLaw0
namespace Go.Proofs.Ytmpejkhffbonnaa
open Go.RowKit
set_option maxRecDepth 10000
set_option maxHeartbeats 1000000

theorem group_law (x1 y1 : Nat) (z1 : Bool) (x2 y2 : Nat) (z2 : Bool) (x3 y3 : Nat) (z3 : Bool) (a1 : x1 < 2 ^ 256) (a2 : y1 < 2 ^ 256) (b1 : x2 < 2 ^ 256) (b2 : y2 < 2 ^ 256) (c1 : x3 < 2 ^ 256) (c2 : y3 < 2 ^ 256) (w0 : World) : Calls Try.prog 5 #[PV x1 y1 z1, PV x2 y2 z2, PV x3 y3 z3] w0 fun e w' => e = .returned (.bool true) ∧ Below w0.heap.size w0 w' := by
  obtain ⟨P, hP⟩ : ∃ P, ptOf x1 y1 z1 = P := ⟨_, rfl⟩
  have oP : P.on := by rw [← hP]; exact pt_on x1 y1 z1
  obtain ⟨Q, hQ⟩ : ∃ Q, ptOf x2 y2 z2 = Q := ⟨_, rfl⟩
  have oQ : Q.on := by rw [← hQ]; exact pt_on x2 y2 z2
  obtain ⟨R, hR⟩ : ∃ R, ptOf x3 y3 z3 = R := ⟨_, rfl⟩
  have oR : R.on := by rw [← hR]; exact pt_on x3 y3 z3
  refine enter (n := 71) (args := [PV x1 y1 z1, PV x2 y2 z2, PV x3 y3 z3]) Try.func5 rfl rfl (Nat.le_of_ble_eq_true rfl) fun ac hs => ?_
  refine wp_seq ?_
  refine wp_region_lit ?_
  refine lstep (wpO_plain rfl (op_box hs none none (cs := (PVl x1 y1 z1)) rfl rfl rfl rfl rfl rfl fun g1 ac w hs => ?_))
  refine lstep (wpO_plain rfl (op_box hs none none (cs := (PVl x2 y2 z2)) rfl rfl rfl rfl rfl rfl fun g2 ac w hs => ?_))
  refine lstep (wpO_plain rfl (op_box hs none none (cs := (PVl x3 y3 z3)) rfl rfl rfl rfl rfl rfl fun g3 ac w hs => ?_))
  refine lstep (wpO_plain rfl (op_assign hs none rfl rfl rfl rfl fun ac hs => ?_))
  refine wpList_nil ?_
  refine then_n ?_
  refine wp_seq ?_
  refine wp_region_lit ?_
  refine lstep (wpO_plain rfl (op_load hs none 0 (v := PV x1 y1 z1) rfl rfl rfl rfl Try.isAgg26 Try.sizeOf26 rfl rfl fun ac hs => ?_))
  refine lstep (wpO_plain rfl (op_load hs none 1 (v := PV x2 y2 z2) rfl rfl rfl rfl Try.isAgg26 Try.sizeOf26 rfl rfl fun ac hs => ?_))
  obtain ⟨T4, hT4, oT4⟩ := mkAdd oP oQ
  refine lstep (wpO_plain rfl (op_call (F := 11) hs none (v := PV (px T4) (py T4) (pz T4)) rfl rfl rfl rfl (Try.call11 _) (add14_c x1 y1 z1 x2 y2 z2 P Q T4 a1 a2 b1 b2 hP hQ hT4) rfl fun ac w hs => ?_))
  refine lstep (wpO_plain rfl (op_alloc hs none none (cs := (PVl 0 0 false)) rfl rfl Try.zeroValue26 (by kernel_rfl) rfl rfl fun g5 ac w hs => ?_))
  refine lstep (wpO_plain rfl (op_store hs 3 (vs := (PVl (px T4) (py T4) (pz T4))) rfl rfl rfl rfl rfl Try.sizeOf26 rfl rfl rfl rfl rfl fun w hs => ?_))
  refine wpList_nil ?_
  refine then_n ?_
  refine wp_seq ?_
  replace hs : St 71 w0 [(3, true, .pointer (some ⟨g1, 0, none⟩)), (4, true, .pointer (some ⟨g2, 0, none⟩)), (5, true, .pointer (some ⟨g3, 0, none⟩)), (6, true, .bool false), (7, true, .pointer (some ⟨g5, 0, none⟩))] [(true, g1, 26, (PVl x1 y1 z1)), (true, g2, 26, (PVl x2 y2 z2)), (true, g3, 26, (PVl x3 y3 z3)), (true, g5, 26, (PVl (px T4) (py T4) (pz T4)))] ac _ := hs.re ⟨rfl, rfl, rfl, rfl, rfl, trivial⟩
  refine wp_region_lit ?_
  refine lstep (wpO_plain rfl (op_build hs none (qs := [(2, .bool true)]) (v := PV 0 0 true) rfl rfl rfl rfl (fun _ => by kernel_rfl) rfl fun ac hs => ?_))
  refine lstep (wpO_plain rfl (op_alloc hs none none (cs := (PVl 0 0 false)) rfl rfl Try.zeroValue26 (by kernel_rfl) rfl rfl fun g6 ac w hs => ?_))
  refine lstep (wpO_plain rfl (op_store hs 4 (vs := (PVl 0 0 true)) rfl rfl rfl rfl rfl Try.sizeOf26 rfl rfl rfl rfl rfl fun w hs => ?_))
  refine wpList_nil ?_
  refine then_n ?_
  refine wp_seq ?_
  replace hs : St 71 w0 [(3, true, .pointer (some ⟨g1, 0, none⟩)), (4, true, .pointer (some ⟨g2, 0, none⟩)), (5, true, .pointer (some ⟨g3, 0, none⟩)), (6, true, .bool false), (7, true, .pointer (some ⟨g5, 0, none⟩)), (8, true, .pointer (some ⟨g6, 0, none⟩))] [(true, g1, 26, (PVl x1 y1 z1)), (true, g2, 26, (PVl x2 y2 z2)), (true, g3, 26, (PVl x3 y3 z3)), (true, g5, 26, (PVl (px T4) (py T4) (pz T4))), (true, g6, 26, (PVl 0 0 true))] ac _ := hs.re ⟨rfl, rfl, rfl, rfl, rfl, rfl, trivial⟩
  obtain ⟨T7, hT7, oT7⟩ := mkAdd oQ oP
  refine region_inv [([], [1, 2, 3, 4, 5, 6, 7, 8, 9]), ([0], [2, 3, 4, 5, 6, 7, 8, 9]), ([0, 1], [3, 4, 5, 6, 7, 8, 9]), ([0, 1, 2], [7, 8, 9]), ([0, 1, 2], [6, 7, 8, 9]), ([0, 1, 2], [6, 7, 8, 9]), ([0, 1, 2, 4, 5], [7, 8, 9]), ([0, 1, 2, 3, 4, 5, 6], [8, 9]), ([0, 1, 2, 3, 4, 5, 6, 7], [9]), ([0, 1, 2, 3, 4, 5, 6, 7, 8], [])] (fun L ac w => St 71 w0 [(16, L 0, PV (px T4) (py T4) (pz T4)), (17, L 1, .bool true), (18, L 2, .bool true), (19, L 3, PV (px T4) (py T4) (pz T4)), (20, L 4, PV x2 y2 z2), (21, L 5, PV x1 y1 z1), (22, L 6, PV (px T7) (py T7) (pz T7)), (23, L 7, .bool true), (24, L 8, .bool true), (9, L 9, .bool true), (3, true, .pointer (some ⟨g1, 0, none⟩)), (4, true, .pointer (some ⟨g2, 0, none⟩)), (5, true, .pointer (some ⟨g3, 0, none⟩)), (6, true, .bool false), (7, true, .pointer (some ⟨g5, 0, none⟩)), (8, true, .pointer (some ⟨g6, 0, none⟩))] [(true, g1, 26, (PVl x1 y1 z1)), (true, g2, 26, (PVl x2 y2 z2)), (true, g3, 26, (PVl x3 y3 z3)), (true, g5, 26, (PVl (px T4) (py T4) (pz T4))), (true, g6, 26, (PVl 0 0 true))] ac w) (by kernel_rfl) (by kernel_rfl) ?_ ?_ ?_
  · exact hs.drew.skip.skip.skip.skip.skip.skip.skip.skip.skip.skip
  · refine ⟨?_, ?_, ?_, ?_, ?_, ?_, ?_, ?_, ?_, ?_, trivial⟩
    · intro L ac w hJ
      have hs := hJ
      refine wpO_plain rfl (op_load hs (some 0) 3 (v := PV (px T4) (py T4) (pz T4)) rfl rfl rfl rfl Try.isAgg26 Try.sizeOf26 rfl rfl fun ac hs => ?_)
      exact hs
    · intro L ac w hJ
      have hs := hJ
      refine wpO_plain rfl (op_call (F := 15) hs (some 1) (v := .bool true) rfl rfl rfl rfl (Try.call15 _) (on_c (px T4) (py T4) (pz T4) true (px_lt T4) (py_lt T4) (on_back oT4)) rfl fun ac w hs => ?_)
      exact hs
    · intro L ac w hJ
      have hs := hJ
      refine wpO_plain rfl (op_move hs (some 2) rfl rfl rfl rfl fun ac hs => ?_)
      exact hs
    · intro L ac w hJ
      have hs := hJ
      refine wpO_in hs rfl rfl rfl (op_load hs (some 3) 3 (v := PV (px T4) (py T4) (pz T4)) rfl rfl rfl rfl Try.isAgg26 Try.sizeOf26 rfl rfl fun ac hs => ?_)
      exact hs
    · intro L ac w hJ
      have hs := hJ
      refine wpO_in hs rfl rfl rfl (op_load hs (some 4) 1 (v := PV x2 y2 z2) rfl rfl rfl rfl Try.isAgg26 Try.sizeOf26 rfl rfl fun ac hs => ?_)
      exact hs
    · intro L ac w hJ
      have hs := hJ
      refine wpO_in hs rfl rfl rfl (op_load hs (some 5) 0 (v := PV x1 y1 z1) rfl rfl rfl rfl Try.isAgg26 Try.sizeOf26 rfl rfl fun ac hs => ?_)
      exact hs
    · intro L ac w hJ
      have hs := hJ
      refine wpO_in hs rfl rfl rfl (op_call (F := 11) hs (some 6) (v := PV (px T7) (py T7) (pz T7)) rfl rfl rfl rfl (Try.call11 _) (add14_c x2 y2 z2 x1 y1 z1 Q P T7 b1 b2 a1 a2 hQ hP hT7) rfl fun ac w hs => ?_)
      exact hs
    · intro L ac w hJ
      have hs := hJ
      refine wpO_in hs rfl rfl rfl (op_bin hs (some 7) (v := .bool true) rfl rfl rfl rfl (fun w => run_eqGuard_agg w .eql 26 _ _ _ _ Try.eqGuardType26) (eqlP (px T4) (py T4) (px T7) (py T7) (pz T4) (pz T7) (px_lt T4) (py_lt T4) (px_lt T7) (py_lt T7) true (decide_eq_true (pt_eq (by rw [← hT4, ← hT7]; exact EM.add_comm' Pf_good oP oQ)))) rfl fun ac hs => ?_)
      exact hs
    · intro L ac w hJ
      have hs := hJ
      refine wpO_plain rfl (op_pickT hs (some 8) rfl rfl rfl rfl rfl fun ac hs => ?_)
      exact hs
    · intro L ac w hJ
      have hs := hJ
      refine wpO_plain rfl (op_assign hs (some 9) rfl rfl rfl rfl fun ac hs => ?_)
      exact hs
  intro ac w hJ
  replace hs : St 71 w0 [(16, true, PV (px T4) (py T4) (pz T4)), (17, true, .bool true), (18, true, .bool true), (19, true, PV (px T4) (py T4) (pz T4)), (20, true, PV x2 y2 z2), (21, true, PV x1 y1 z1), (22, true, PV (px T7) (py T7) (pz T7)), (23, true, .bool true), (24, true, .bool true), (9, true, .bool true), (3, true, .pointer (some ⟨g1, 0, none⟩)), (4, true, .pointer (some ⟨g2, 0, none⟩)), (5, true, .pointer (some ⟨g3, 0, none⟩)), (6, true, .bool false), (7, true, .pointer (some ⟨g5, 0, none⟩)), (8, true, .pointer (some ⟨g6, 0, none⟩))] [(true, g1, 26, (PVl x1 y1 z1)), (true, g2, 26, (PVl x2 y2 z2)), (true, g3, 26, (PVl x3 y3 z3)), (true, g5, 26, (PVl (px T4) (py T4) (pz T4))), (true, g6, 26, (PVl 0 0 true))] ac w := hJ
  refine then_n ?_
  refine wp_seq ?_
  replace hs : St 71 w0 [(3, true, .pointer (some ⟨g1, 0, none⟩)), (4, true, .pointer (some ⟨g2, 0, none⟩)), (5, true, .pointer (some ⟨g3, 0, none⟩)), (6, true, .bool false), (7, true, .pointer (some ⟨g5, 0, none⟩)), (8, true, .pointer (some ⟨g6, 0, none⟩)), (9, true, .bool true)] [(true, g1, 26, (PVl x1 y1 z1)), (true, g2, 26, (PVl x2 y2 z2)), (true, g3, 26, (PVl x3 y3 z3)), (true, g5, 26, (PVl (px T4) (py T4) (pz T4))), (true, g6, 26, (PVl 0 0 true))] ac _ := hs.re ⟨rfl, rfl, rfl, rfl, rfl, rfl, rfl, trivial⟩
  obtain ⟨T8, hT8, oT8⟩ := mkAdd oT4 oR
  obtain ⟨T9, hT9, oT9⟩ := mkAdd oQ oR
  obtain ⟨T10, hT10, oT10⟩ := mkAdd oP oT9
  refine region_inv [([], [2, 6, 7, 8, 9]), ([], [2, 6, 7, 8, 9]), ([0, 1], [6, 7, 8, 9]), ([], [7, 8, 9]), ([], [6, 7, 8, 9]), ([], [6, 7, 8, 9]), ([0, 1, 2, 4, 5], [7, 8, 9]), ([0, 1, 2, 3, 4, 5, 6], [8, 9]), ([0, 1, 2, 3, 4, 5, 6, 7], [9]), ([0, 1, 2, 3, 4, 5, 6, 7, 8], [])] (fun L ac w => St 71 w0 [(25, L 0, PV (px T4) (py T4) (pz T4)), (26, L 1, PV x3 y3 z3), (27, L 2, PV (px T8) (py T8) (pz T8)), (28, L 3, PV x1 y1 z1), (29, L 4, PV x2 y2 z2), (30, L 5, PV x3 y3 z3), (31, L 6, PV (px T9) (py T9) (pz T9)), (32, L 7, PV (px T10) (py T10) (pz T10)), (33, L 8, .bool true), (10, L 9, .bool true), (3, true, .pointer (some ⟨g1, 0, none⟩)), (4, true, .pointer (some ⟨g2, 0, none⟩)), (5, true, .pointer (some ⟨g3, 0, none⟩)), (6, true, .bool false), (7, true, .pointer (some ⟨g5, 0, none⟩)), (8, true, .pointer (some ⟨g6, 0, none⟩)), (9, true, .bool true)] [(true, g1, 26, (PVl x1 y1 z1)), (true, g2, 26, (PVl x2 y2 z2)), (true, g3, 26, (PVl x3 y3 z3)), (true, g5, 26, (PVl (px T4) (py T4) (pz T4))), (true, g6, 26, (PVl 0 0 true))] ac w) (by kernel_rfl) (by kernel_rfl) ?_ ?_ ?_
  · exact hs.drew.skip.skip.skip.skip.skip.skip.skip.skip.skip.skip
  · refine ⟨?_, ?_, ?_, ?_, ?_, ?_, ?_, ?_, ?_, ?_, trivial⟩
    · intro L ac w hJ
      have hs := hJ
      refine wpO_plain rfl (op_load hs (some 0) 3 (v := PV (px T4) (py T4) (pz T4)) rfl rfl rfl rfl Try.isAgg26 Try.sizeOf26 rfl rfl fun ac hs => ?_)
      exact hs
    · intro L ac w hJ
      have hs := hJ
      refine wpO_plain rfl (op_load hs (some 1) 2 (v := PV x3 y3 z3) rfl rfl rfl rfl Try.isAgg26 Try.sizeOf26 rfl rfl fun ac hs => ?_)
      exact hs
    · intro L ac w hJ
      have hs := hJ
      refine wpO_plain rfl (op_call (F := 11) hs (some 2) (v := PV (px T8) (py T8) (pz T8)) rfl rfl rfl rfl (Try.call11 _) (add14_c (px T4) (py T4) (pz T4) x3 y3 z3 T4 R T8 (px_lt T4) (py_lt T4) c1 c2 (pt_back oT4) hR hT8) rfl fun ac w hs => ?_)
      exact hs
    · intro L ac w hJ
      have hs := hJ
      refine wpO_plain rfl (op_load hs (some 3) 0 (v := PV x1 y1 z1) rfl rfl rfl rfl Try.isAgg26 Try.sizeOf26 rfl rfl fun ac hs => ?_)
      exact hs
    · intro L ac w hJ
      have hs := hJ
      refine wpO_plain rfl (op_load hs (some 4) 1 (v := PV x2 y2 z2) rfl rfl rfl rfl Try.isAgg26 Try.sizeOf26 rfl rfl fun ac hs => ?_)
      exact hs
    · intro L ac w hJ
      have hs := hJ
      refine wpO_plain rfl (op_load hs (some 5) 2 (v := PV x3 y3 z3) rfl rfl rfl rfl Try.isAgg26 Try.sizeOf26 rfl rfl fun ac hs => ?_)
      exact hs
    · intro L ac w hJ
      have hs := hJ
      refine wpO_plain rfl (op_call (F := 11) hs (some 6) (v := PV (px T9) (py T9) (pz T9)) rfl rfl rfl rfl (Try.call11 _) (add14_c x2 y2 z2 x3 y3 z3 Q R T9 b1 b2 c1 c2 hQ hR hT9) rfl fun ac w hs => ?_)
      exact hs
    · intro L ac w hJ
      have hs := hJ
      refine wpO_plain rfl (op_call (F := 11) hs (some 7) (v := PV (px T10) (py T10) (pz T10)) rfl rfl rfl rfl (Try.call11 _) (add14_c x1 y1 z1 (px T9) (py T9) (pz T9) P T9 T10 a1 a2 (px_lt T9) (py_lt T9) hP (pt_back oT9) hT10) rfl fun ac w hs => ?_)
      exact hs
    · intro L ac w hJ
      have hs := hJ
      refine wpO_plain rfl (op_bin hs (some 8) (v := .bool true) rfl rfl rfl rfl (fun w => run_eqGuard_agg w .eql 26 _ _ _ _ Try.eqGuardType26) (eqlP (px T8) (py T8) (px T10) (py T10) (pz T8) (pz T10) (px_lt T8) (py_lt T8) (px_lt T10) (py_lt T10) true (decide_eq_true (pt_eq (by rw [← hT8, ← hT10, ← hT9, ← hT4]; exact EM.assoc Pf_good oP oQ oR)))) rfl fun ac hs => ?_)
      exact hs
    · intro L ac w hJ
      have hs := hJ
      refine wpO_plain rfl (op_assign hs (some 9) rfl rfl rfl rfl fun ac hs => ?_)
      exact hs
  intro ac w hJ
  replace hs : St 71 w0 [(25, true, PV (px T4) (py T4) (pz T4)), (26, true, PV x3 y3 z3), (27, true, PV (px T8) (py T8) (pz T8)), (28, true, PV x1 y1 z1), (29, true, PV x2 y2 z2), (30, true, PV x3 y3 z3), (31, true, PV (px T9) (py T9) (pz T9)), (32, true, PV (px T10) (py T10) (pz T10)), (33, true, .bool true), (10, true, .bool true), (3, true, .pointer (some ⟨g1, 0, none⟩)), (4, true, .pointer (some ⟨g2, 0, none⟩)), (5, true, .pointer (some ⟨g3, 0, none⟩)), (6, true, .bool false), (7, true, .pointer (some ⟨g5, 0, none⟩)), (8, true, .pointer (some ⟨g6, 0, none⟩)), (9, true, .bool true)] [(true, g1, 26, (PVl x1 y1 z1)), (true, g2, 26, (PVl x2 y2 z2)), (true, g3, 26, (PVl x3 y3 z3)), (true, g5, 26, (PVl (px T4) (py T4) (pz T4))), (true, g6, 26, (PVl 0 0 true))] ac w := hJ
  refine then_n ?_
  refine wp_seq ?_
  replace hs : St 71 w0 [(3, true, .pointer (some ⟨g1, 0, none⟩)), (6, true, .bool false), (8, true, .pointer (some ⟨g6, 0, none⟩)), (9, true, .bool true), (10, true, .bool true)] [(true, g1, 26, (PVl x1 y1 z1)), (true, g2, 26, (PVl x2 y2 z2)), (true, g3, 26, (PVl x3 y3 z3)), (true, g5, 26, (PVl (px T4) (py T4) (pz T4))), (true, g6, 26, (PVl 0 0 true))] ac _ := hs.re ⟨rfl, rfl, rfl, rfl, rfl, trivial⟩
  obtain ⟨T11, hT11, oT11⟩ := mkNeg oP
  obtain ⟨T12, hT12, oT12⟩ := mkAdd oP oT11
  obtain ⟨T13, hT13, oT13⟩ := mkNeg oP
  obtain ⟨T14, hT14, oT14⟩ := mkNeg oT13
  obtain ⟨T15, hT15, oT15⟩ := mkAdd oP O_on
  refine region_inv [([], [3, 5, 6, 7, 8, 9, 10, 11, 12, 13, 14, 15]), ([], [2, 3, 5, 6, 7, 8, 9, 10, 11, 12, 13, 14, 15]), ([1], [3, 5, 6, 7, 8, 9, 10, 11, 12, 13, 14, 15]), ([0, 1, 2], [5, 6, 7, 8, 9, 10, 11, 12, 13, 14, 15]), ([], [5, 6, 7, 8, 9, 10, 11, 12, 13, 14, 15]), ([0, 1, 2, 3, 4], [6, 7, 8, 9, 10, 11, 12, 13, 14, 15]), ([0, 1, 2, 3, 4, 5], [7, 8, 9, 10, 11, 12, 13, 14, 15]), ([0, 1, 2, 3, 4, 5, 6], [8, 9, 12, 13, 14, 15]), ([0, 1, 2, 3, 4, 5, 6, 7], [9, 12, 13, 14, 15]), ([0, 1, 2, 3, 4, 5, 6, 7, 8], [12, 13, 14, 15]), ([0, 1, 2, 3, 4, 5, 6], [12, 13, 14, 15]), ([0, 1, 2, 3, 4, 5, 6], [12, 13, 14, 15]), ([0, 1, 2, 3, 4, 5, 6, 7, 8, 9, 10, 11], [13, 14, 15]), ([0, 1, 2, 3, 4, 5, 6, 7, 8, 9, 10, 11, 12], [14, 15]), ([0, 1, 2, 3, 4, 5, 6, 7, 8, 9, 10, 11, 12, 13], [15]), ([0, 1, 2, 3, 4, 5, 6, 7, 8, 9, 10, 11, 12, 13, 14], [])] (fun L ac w => St 71 w0 [(34, L 0, PV x1 y1 z1), (35, L 1, PV x1 y1 z1), (36, L 2, PV (px T11) (py T11) (pz T11)), (37, L 3, PV (px T12) (py T12) (pz T12)), (38, L 4, PV 0 0 true), (39, L 5, .bool true), (40, L 6, .bool true), (41, L 7, PV x1 y1 z1), (42, L 8, PV (px T13) (py T13) (pz T13)), (43, L 9, PV (px T14) (py T14) (pz T14)), (44, L 10, PV x1 y1 z1), (45, L 11, PV 0 0 true), (46, L 12, PV (px T15) (py T15) (pz T15)), (47, L 13, .bool true), (48, L 14, .bool true), (11, L 15, .bool true), (3, true, .pointer (some ⟨g1, 0, none⟩)), (6, true, .bool false), (8, true, .pointer (some ⟨g6, 0, none⟩)), (9, true, .bool true), (10, true, .bool true)] [(true, g1, 26, (PVl x1 y1 z1)), (true, g2, 26, (PVl x2 y2 z2)), (true, g3, 26, (PVl x3 y3 z3)), (true, g5, 26, (PVl (px T4) (py T4) (pz T4))), (true, g6, 26, (PVl 0 0 true))] ac w) (by kernel_rfl) (by kernel_rfl) ?_ ?_ ?_
  · exact hs.drew.skip.skip.skip.skip.skip.skip.skip.skip.skip.skip.skip.skip.skip.skip.skip.skip
  · refine ⟨?_, ?_, ?_, ?_, ?_, ?_, ?_, ?_, ?_, ?_, ?_, ?_, ?_, ?_, ?_, ?_, trivial⟩
    · intro L ac w hJ
      have hs := hJ
      refine wpO_plain rfl (op_load hs (some 0) 0 (v := PV x1 y1 z1) rfl rfl rfl rfl Try.isAgg26 Try.sizeOf26 rfl rfl fun ac hs => ?_)
      exact hs
    · intro L ac w hJ
      have hs := hJ
      refine wpO_plain rfl (op_load hs (some 1) 0 (v := PV x1 y1 z1) rfl rfl rfl rfl Try.isAgg26 Try.sizeOf26 rfl rfl fun ac hs => ?_)
      exact hs
    · intro L ac w hJ
      have hs := hJ
      refine wpO_plain rfl (op_call (F := 16) hs (some 2) (v := PV (px T11) (py T11) (pz T11)) rfl rfl rfl rfl (Try.call16 _) (neg_c x1 y1 z1 P T11 a1 a2 hP hT11) rfl fun ac w hs => ?_)
      exact hs
    · intro L ac w hJ
      have hs := hJ
      refine wpO_plain rfl (op_call (F := 11) hs (some 3) (v := PV (px T12) (py T12) (pz T12)) rfl rfl rfl rfl (Try.call11 _) (add14_c x1 y1 z1 (px T11) (py T11) (pz T11) P T11 T12 a1 a2 (px_lt T11) (py_lt T11) hP (pt_back oT11) hT12) rfl fun ac w hs => ?_)
      exact hs
    · intro L ac w hJ
      have hs := hJ
      refine wpO_plain rfl (op_load hs (some 4) 4 (v := PV 0 0 true) rfl rfl rfl rfl Try.isAgg26 Try.sizeOf26 rfl rfl fun ac hs => ?_)
      exact hs
    · intro L ac w hJ
      have hs := hJ
      refine wpO_plain rfl (op_bin hs (some 5) (v := .bool true) rfl rfl rfl rfl (fun w => run_eqGuard_agg w .eql 26 _ _ _ _ Try.eqGuardType26) (eqlP (px T12) (py T12) 0 0 (pz T12) true (px_lt T12) (py_lt T12) (by decide) (by decide) true (decide_eq_true (pt_eqO (by rw [← hT12, ← hT11, EM.add_comm' Pf_good oP (EM.on_neg oP)]; exact EM.neg_add_self Pf_good oP)))) rfl fun ac hs => ?_)
      exact hs
    · intro L ac w hJ
      have hs := hJ
      refine wpO_plain rfl (op_move hs (some 6) rfl rfl rfl rfl fun ac hs => ?_)
      exact hs
    · intro L ac w hJ
      have hs := hJ
      refine wpO_in hs rfl rfl rfl (op_load hs (some 7) 0 (v := PV x1 y1 z1) rfl rfl rfl rfl Try.isAgg26 Try.sizeOf26 rfl rfl fun ac hs => ?_)
      exact hs
    · intro L ac w hJ
      have hs := hJ
      refine wpO_in hs rfl rfl rfl (op_call (F := 16) hs (some 8) (v := PV (px T13) (py T13) (pz T13)) rfl rfl rfl rfl (Try.call16 _) (neg_c x1 y1 z1 P T13 a1 a2 hP hT13) rfl fun ac w hs => ?_)
      exact hs
    · intro L ac w hJ
      have hs := hJ
      refine wpO_in hs rfl rfl rfl (op_call (F := 16) hs (some 9) (v := PV (px T14) (py T14) (pz T14)) rfl rfl rfl rfl (Try.call16 _) (neg_c (px T13) (py T13) (pz T13) T13 T14 (px_lt T13) (py_lt T13) (pt_back oT13) hT14) rfl fun ac w hs => ?_)
      exact hs
    · intro L ac w hJ
      have hs := hJ
      refine wpO_in hs rfl rfl rfl (op_load hs (some 10) 0 (v := PV x1 y1 z1) rfl rfl rfl rfl Try.isAgg26 Try.sizeOf26 rfl rfl fun ac hs => ?_)
      exact hs
    · intro L ac w hJ
      have hs := hJ
      refine wpO_in hs rfl rfl rfl (op_load hs (some 11) 4 (v := PV 0 0 true) rfl rfl rfl rfl Try.isAgg26 Try.sizeOf26 rfl rfl fun ac hs => ?_)
      exact hs
    · intro L ac w hJ
      have hs := hJ
      refine wpO_in hs rfl rfl rfl (op_call (F := 11) hs (some 12) (v := PV (px T15) (py T15) (pz T15)) rfl rfl rfl rfl (Try.call11 _) (add14_c x1 y1 z1 0 0 true P EM.Pt.O T15 a1 a2 (by decide) (by decide) hP rfl hT15) rfl fun ac w hs => ?_)
      exact hs
    · intro L ac w hJ
      have hs := hJ
      refine wpO_in hs rfl rfl rfl (op_bin hs (some 13) (v := .bool true) rfl rfl rfl rfl (fun w => run_eqGuard_agg w .eql 26 _ _ _ _ Try.eqGuardType26) (eqlP (px T14) (py T14) (px T15) (py T15) (pz T14) (pz T15) (px_lt T14) (py_lt T14) (px_lt T15) (py_lt T15) true (decide_eq_true (pt_eq (by rw [← hT14, ← hT13, ← hT15, EM.neg_neg', EM.add_O])))) rfl fun ac hs => ?_)
      exact hs
    · intro L ac w hJ
      have hs := hJ
      refine wpO_plain rfl (op_pickT hs (some 14) rfl rfl rfl rfl rfl fun ac hs => ?_)
      exact hs
    · intro L ac w hJ
      have hs := hJ
      refine wpO_plain rfl (op_assign hs (some 15) rfl rfl rfl rfl fun ac hs => ?_)
      exact hs
  intro ac w hJ
  replace hs : St 71 w0 [(34, true, PV x1 y1 z1), (35, true, PV x1 y1 z1), (36, true, PV (px T11) (py T11) (pz T11)), (37, true, PV (px T12) (py T12) (pz T12)), (38, true, PV 0 0 true), (39, true, .bool true), (40, true, .bool true), (41, true, PV x1 y1 z1), (42, true, PV (px T13) (py T13) (pz T13)), (43, true, PV (px T14) (py T14) (pz T14)), (44, true, PV x1 y1 z1), (45, true, PV 0 0 true), (46, true, PV (px T15) (py T15) (pz T15)), (47, true, .bool true), (48, true, .bool true), (11, true, .bool true), (3, true, .pointer (some ⟨g1, 0, none⟩)), (6, true, .bool false), (8, true, .pointer (some ⟨g6, 0, none⟩)), (9, true, .bool true), (10, true, .bool true)] [(true, g1, 26, (PVl x1 y1 z1)), (true, g2, 26, (PVl x2 y2 z2)), (true, g3, 26, (PVl x3 y3 z3)), (true, g5, 26, (PVl (px T4) (py T4) (pz T4))), (true, g6, 26, (PVl 0 0 true))] ac w := hJ
  refine then_n ?_
  refine wp_seq ?_
  by_cases hq16 : onB x1 y1 z1 = true
  · skip
    replace hs : St 71 w0 [(3, true, .pointer (some ⟨g1, 0, none⟩)), (6, true, .bool false), (8, true, .pointer (some ⟨g6, 0, none⟩)), (9, true, .bool true), (10, true, .bool true), (11, true, .bool true)] [(true, g1, 26, (PVl x1 y1 z1)), (true, g2, 26, (PVl x2 y2 z2)), (true, g3, 26, (PVl x3 y3 z3)), (true, g5, 26, (PVl (px T4) (py T4) (pz T4))), (true, g6, 26, (PVl 0 0 true))] ac _ := hs.re ⟨rfl, rfl, rfl, rfl, rfl, rfl, trivial⟩
    obtain ⟨T17, hT17, oT17⟩ := mkAdd O_on oP
    refine region_inv [([], [1, 2, 3, 4, 5, 6, 7, 8, 9, 10, 11, 12, 13, 14, 15, 16, 17, 18, 19, 20, 21, 22]), ([0], [2, 3, 4, 5, 6, 7, 8, 9, 10, 11, 12, 13, 14, 15, 16, 17, 18, 19, 20, 21, 22]), ([0, 1], [3, 4, 5, 6, 7, 8, 9, 10, 11, 12, 13, 14, 15, 16, 17, 18, 19, 20, 21, 22]), ([0, 1, 2], [4, 5, 6, 7, 8, 9, 10, 11, 12, 13, 14, 15, 16, 17, 18, 19, 20, 21, 22]), ([0, 1, 2, 3], [5, 6, 7, 8, 9, 10, 11, 12, 13, 14, 15, 16, 17, 18, 19, 20, 21, 22]), ([0, 1, 2, 3, 4], [6, 7, 8, 9, 10, 11, 12, 13, 14, 15, 16, 17, 18, 19, 20, 21, 22]), ([0, 1, 2, 3, 4, 5], [7, 8, 9, 10, 11, 12, 13, 14, 15, 16, 17, 18, 19, 20, 21, 22]), ([0, 1, 2, 3, 4, 5, 6], [8, 9, 10, 11, 12, 13, 14, 15, 16, 17, 18, 19, 20, 21, 22]), ([0, 1, 2, 3, 4, 5, 6, 7], [9, 10, 11, 12, 13, 14, 15, 16, 17, 18, 19, 20, 21, 22]), ([0, 1, 2, 3, 4, 5, 6, 7, 8], [10, 11, 12, 13, 14, 15, 16, 17, 18, 19, 20, 21, 22]), ([0, 1, 2, 3, 4, 5, 6, 7, 8, 9], [11, 12, 13, 14, 15, 16, 17, 18, 19, 20, 21, 22]), ([0, 1, 2, 3, 4, 5, 6, 7, 8, 9, 10], [12, 13, 14, 15, 16, 17, 18, 19, 20, 21, 22]), ([0, 1, 2, 3, 4, 5, 6, 7, 8, 9, 10, 11], [13, 14, 15, 16, 17, 18, 19, 20, 21, 22]), ([0, 1, 2, 3, 4, 5, 6, 7, 8, 9, 10, 11, 12], [14, 15, 16, 17, 18, 19, 20, 21, 22]), ([0, 1, 2, 3, 4, 5, 6, 7, 8, 9, 10, 11, 12, 13], [15, 16, 17, 18, 19, 20, 21, 22]), ([0, 1, 2, 3, 4, 5, 6, 7, 8, 9, 10, 11, 12, 13, 14], [17, 19, 20, 21, 22]), ([0, 1, 2, 3, 4, 5, 6, 7, 8, 9, 10, 11, 12, 13, 14], [17, 19, 20, 21, 22]), ([0, 1, 2, 3, 4, 5, 6, 7, 8, 9, 10, 11, 12, 13, 14, 15, 16], [19, 20, 21, 22]), ([0, 1, 2, 3, 4, 5, 6, 7, 8, 9, 10, 11, 12, 13, 14], [19, 20, 21, 22]), ([0, 1, 2, 3, 4, 5, 6, 7, 8, 9, 10, 11, 12, 13, 14, 15, 16, 17, 18], [20, 21, 22]), ([0, 1, 2, 3, 4, 5, 6, 7, 8, 9, 10, 11, 12, 13, 14, 15, 16, 17, 18, 19], [21, 22]), ([0, 1, 2, 3, 4, 5, 6, 7, 8, 9, 10, 11, 12, 13, 14, 15, 16, 17, 18, 19, 20], [22]), ([0, 1, 2, 3, 4, 5, 6, 7, 8, 9, 10, 11, 12, 13, 14, 15, 16, 17, 18, 19, 20, 21], [])] (fun L ac w => St 71 w0 [(49, L 0, .bool true), (50, L 1, .bool true), (51, L 2, .bool true), (52, L 3, .bool true), (53, L 4, .bool true), (54, L 5, .bool true), (55, L 6, .bool true), (56, L 7, .bool true), (57, L 8, .bool true), (58, L 9, .bool true), (59, L 10, .bool true), (60, L 11, PV x1 y1 z1), (61, L 12, .bool true), (62, L 13, .bool false), (63, L 14, .bool false), (64, L 15, PV 0 0 true), (65, L 16, PV x1 y1 z1), (66, L 17, PV (px T17) (py T17) (pz T17)), (67, L 18, PV x1 y1 z1), (68, L 19, .bool true), (69, L 20, .bool true), (70, L 21, .bool true), (6, L 22, .bool true), (3, true, .pointer (some ⟨g1, 0, none⟩)), (6, true, .bool false), (8, true, .pointer (some ⟨g6, 0, none⟩)), (9, true, .bool true), (10, true, .bool true), (11, true, .bool true)] [(true, g1, 26, (PVl x1 y1 z1)), (true, g2, 26, (PVl x2 y2 z2)), (true, g3, 26, (PVl x3 y3 z3)), (true, g5, 26, (PVl (px T4) (py T4) (pz T4))), (true, g6, 26, (PVl 0 0 true))] ac w) (by kernel_rfl) (by kernel_rfl) ?_ ?_ ?_
    · exact hs.drew.skip.skip.skip.skip.skip.skip.skip.skip.skip.skip.skip.skip.skip.skip.skip.skip.skip.skip.skip.skip.skip.skip.skip
    · refine ⟨?_, ?_, ?_, ?_, ?_, ?_, ?_, ?_, ?_, ?_, ?_, ?_, ?_, ?_, ?_, ?_, ?_, ?_, ?_, ?_, ?_, ?_, ?_, trivial⟩
      · intro L ac w hJ
        have hs := hJ
        refine wpO_plain rfl (op_call (F := 10) hs (some 0) (v := .bool true) rfl rfl rfl rfl (Try.call10 _) alive_c rfl fun ac w hs => ?_)
        exact hs
      · intro L ac w hJ
        have hs := hJ
        refine wpO_plain rfl (op_move hs (some 1) rfl rfl rfl rfl fun ac hs => ?_)
        exact hs
      · intro L ac w hJ
        have hs := hJ
        refine wpO_in hs rfl rfl rfl (op_move hs (some 2) rfl rfl rfl rfl fun ac hs => ?_)
        exact hs
      · intro L ac w hJ
        have hs := hJ
        refine wpO_plain rfl (op_pickT hs (some 3) rfl rfl rfl rfl rfl fun ac hs => ?_)
        exact hs
      · intro L ac w hJ
        have hs := hJ
        refine wpO_plain rfl (op_move hs (some 4) rfl rfl rfl rfl fun ac hs => ?_)
        exact hs
      · intro L ac w hJ
        have hs := hJ
        refine wpO_in hs rfl rfl rfl (op_move hs (some 5) rfl rfl rfl rfl fun ac hs => ?_)
        exact hs
      · intro L ac w hJ
        have hs := hJ
        refine wpO_plain rfl (op_pickT hs (some 6) rfl rfl rfl rfl rfl fun ac hs => ?_)
        exact hs
      · intro L ac w hJ
        have hs := hJ
        refine wpO_plain rfl (op_move hs (some 7) rfl rfl rfl rfl fun ac hs => ?_)
        exact hs
      · intro L ac w hJ
        have hs := hJ
        refine wpO_in hs rfl rfl rfl (op_move hs (some 8) rfl rfl rfl rfl fun ac hs => ?_)
        exact hs
      · intro L ac w hJ
        have hs := hJ
        refine wpO_plain rfl (op_pickT hs (some 9) rfl rfl rfl rfl rfl fun ac hs => ?_)
        exact hs
      · intro L ac w hJ
        have hs := hJ
        refine wpO_plain rfl (op_move hs (some 10) rfl rfl rfl rfl fun ac hs => ?_)
        exact hs
      · intro L ac w hJ
        have hs := hJ
        refine wpO_in hs rfl rfl rfl (op_load hs (some 11) 0 (v := PV x1 y1 z1) rfl rfl rfl rfl Try.isAgg26 Try.sizeOf26 rfl rfl fun ac hs => ?_)
        exact hs
      · intro L ac w hJ
        have hs := hJ
        refine wpO_in hs rfl rfl rfl (op_call (F := 15) hs (some 12) (v := .bool true) rfl rfl rfl rfl (Try.call15 _) (on_c x1 y1 z1 true a1 a2 hq16) rfl fun ac w hs => ?_)
        exact hs
      · intro L ac w hJ
        have hs := hJ
        refine wpO_in hs rfl rfl rfl (op_un hs (some 13) (v := .bool false) rfl rfl rfl (fun _ => rfl) rfl fun ac hs => ?_)
        exact hs
      · intro L ac w hJ
        have hs := hJ
        refine wpO_in hs rfl rfl rfl (op_move hs (some 14) rfl rfl rfl rfl fun ac hs => ?_)
        exact hs
      · intro L ac w hJ
        have hs := hJ
        refine wpO_in hs rfl rfl rfl (op_load hs (some 15) 4 (v := PV 0 0 true) rfl rfl rfl rfl Try.isAgg26 Try.sizeOf26 rfl rfl fun ac hs => ?_)
        exact hs
      · intro L ac w hJ
        have hs := hJ
        refine wpO_in hs rfl rfl rfl (op_load hs (some 16) 0 (v := PV x1 y1 z1) rfl rfl rfl rfl Try.isAgg26 Try.sizeOf26 rfl rfl fun ac hs => ?_)
        exact hs
      · intro L ac w hJ
        have hs := hJ
        refine wpO_in hs rfl rfl rfl (op_call (F := 11) hs (some 17) (v := PV (px T17) (py T17) (pz T17)) rfl rfl rfl rfl (Try.call11 _) (add14_c 0 0 true x1 y1 z1 EM.Pt.O P T17 (by decide) (by decide) a1 a2 rfl hP hT17) rfl fun ac w hs => ?_)
        exact hs
      · intro L ac w hJ
        have hs := hJ
        refine wpO_in hs rfl rfl rfl (op_load hs (some 18) 0 (v := PV x1 y1 z1) rfl rfl rfl rfl Try.isAgg26 Try.sizeOf26 rfl rfl fun ac hs => ?_)
        exact hs
      · intro L ac w hJ
        have hs := hJ
        refine wpO_in hs rfl rfl rfl (op_bin hs (some 19) (v := .bool true) rfl rfl rfl rfl (fun w => run_eqGuard_agg w .eql 26 _ _ _ _ Try.eqGuardType26) (eqlP (px T17) (py T17) x1 y1 (pz T17) z1 (px_lt T17) (py_lt T17) a1 a2 true (decide_eq_true (raw_eq hq16 (by rw [← hT17, EM.O_add, hP])))) rfl fun ac hs => ?_)
        exact hs
      · intro L ac w hJ
        have hs := hJ
        refine wpO_in hs rfl rfl rfl (op_pickF hs (some 20) rfl rfl rfl rfl rfl fun ac hs => ?_)
        exact hs
      · intro L ac w hJ
        have hs := hJ
        refine wpO_plain rfl (op_pickT hs (some 21) rfl rfl rfl rfl rfl fun ac hs => ?_)
        exact hs
      · intro L ac w hJ
        have hs := hJ
        refine wpO_plain rfl (op_assign hs (some 22) rfl rfl rfl rfl fun ac hs => ?_)
        exact hs
    intro ac w hJ
    replace hs : St 71 w0 [(49, true, .bool true), (50, true, .bool true), (51, true, .bool true), (52, true, .bool true), (53, true, .bool true), (54, true, .bool true), (55, true, .bool true), (56, true, .bool true), (57, true, .bool true), (58, true, .bool true), (59, true, .bool true), (60, true, PV x1 y1 z1), (61, true, .bool true), (62, true, .bool false), (63, true, .bool false), (64, true, PV 0 0 true), (65, true, PV x1 y1 z1), (66, true, PV (px T17) (py T17) (pz T17)), (67, true, PV x1 y1 z1), (68, true, .bool true), (69, true, .bool true), (70, true, .bool true), (6, true, .bool true), (3, true, .pointer (some ⟨g1, 0, none⟩)), (6, true, .bool false), (8, true, .pointer (some ⟨g6, 0, none⟩)), (9, true, .bool true), (10, true, .bool true), (11, true, .bool true)] [(true, g1, 26, (PVl x1 y1 z1)), (true, g2, 26, (PVl x2 y2 z2)), (true, g3, 26, (PVl x3 y3 z3)), (true, g5, 26, (PVl (px T4) (py T4) (pz T4))), (true, g6, 26, (PVl 0 0 true))] ac w := hJ
    refine then_n ?_
    refine wp_ret ?_
    exact bodyPost_ret (res1 rfl (rv_t hs rfl)) hs.defers ⟨rfl, hs.below⟩
  · skip
    replace hs : St 71 w0 [(3, true, .pointer (some ⟨g1, 0, none⟩)), (6, true, .bool false), (8, true, .pointer (some ⟨g6, 0, none⟩)), (9, true, .bool true), (10, true, .bool true), (11, true, .bool true)] [(true, g1, 26, (PVl x1 y1 z1)), (true, g2, 26, (PVl x2 y2 z2)), (true, g3, 26, (PVl x3 y3 z3)), (true, g5, 26, (PVl (px T4) (py T4) (pz T4))), (true, g6, 26, (PVl 0 0 true))] ac _ := hs.re ⟨rfl, rfl, rfl, rfl, rfl, rfl, trivial⟩
    refine region_inv [([], [1, 2, 3, 4, 5, 6, 7, 8, 9, 10, 11, 12, 13, 14, 15, 16, 17, 18, 19, 20, 21, 22]), ([0], [2, 3, 4, 5, 6, 7, 8, 9, 10, 11, 12, 13, 14, 15, 16, 17, 18, 19, 20, 21, 22]), ([0, 1], [3, 4, 5, 6, 7, 8, 9, 10, 11, 12, 13, 14, 15, 16, 17, 18, 19, 20, 21, 22]), ([0, 1, 2], [4, 5, 6, 7, 8, 9, 10, 11, 12, 13, 14, 15, 16, 17, 18, 19, 20, 21, 22]), ([0, 1, 2, 3], [5, 6, 7, 8, 9, 10, 11, 12, 13, 14, 15, 16, 17, 18, 19, 20, 21, 22]), ([0, 1, 2, 3, 4], [6, 7, 8, 9, 10, 11, 12, 13, 14, 15, 16, 17, 18, 19, 20, 21, 22]), ([0, 1, 2, 3, 4, 5], [7, 8, 9, 10, 11, 12, 13, 14, 15, 16, 17, 18, 19, 20, 21, 22]), ([0, 1, 2, 3, 4, 5, 6], [8, 9, 10, 11, 12, 13, 14, 15, 16, 17, 18, 19, 20, 21, 22]), ([0, 1, 2, 3, 4, 5, 6, 7], [9, 10, 11, 12, 13, 14, 15, 16, 17, 18, 19, 20, 21, 22]), ([0, 1, 2, 3, 4, 5, 6, 7, 8], [10, 11, 12, 13, 14, 15, 16, 17, 18, 19, 20, 21, 22]), ([0, 1, 2, 3, 4, 5, 6, 7, 8, 9], [11, 12, 13, 14, 15, 16, 17, 18, 19, 20, 21, 22]), ([0, 1, 2, 3, 4, 5, 6, 7, 8, 9, 10], [12, 13, 14, 15, 16, 17, 18, 19, 20, 21, 22]), ([0, 1, 2, 3, 4, 5, 6, 7, 8, 9, 10, 11], [13, 14, 15, 16, 17, 18, 19, 20, 21, 22]), ([0, 1, 2, 3, 4, 5, 6, 7, 8, 9, 10, 11, 12], [14, 15, 16, 17, 18, 19, 20, 21, 22]), ([0, 1, 2, 3, 4, 5, 6, 7, 8, 9, 10, 11, 12, 13], [15, 16, 17, 18, 19, 20, 21, 22]), ([0, 1, 2, 3, 4, 5, 6, 7, 8, 9, 10, 11, 12, 13, 14], [17, 19, 20, 21, 22]), ([0, 1, 2, 3, 4, 5, 6, 7, 8, 9, 10, 11, 12, 13, 14], [17, 19, 20, 21, 22]), ([0, 1, 2, 3, 4, 5, 6, 7, 8, 9, 10, 11, 12, 13, 14, 15, 16], [19, 20, 21, 22]), ([0, 1, 2, 3, 4, 5, 6, 7, 8, 9, 10, 11, 12, 13, 14], [19, 20, 21, 22]), ([0, 1, 2, 3, 4, 5, 6, 7, 8, 9, 10, 11, 12, 13, 14, 15, 16, 17, 18], [20, 21, 22]), ([0, 1, 2, 3, 4, 5, 6, 7, 8, 9, 10, 11, 12, 13, 14, 15, 16, 17, 18, 19], [21, 22]), ([0, 1, 2, 3, 4, 5, 6, 7, 8, 9, 10, 11, 12, 13, 14, 15, 16, 17, 18, 19, 20], [22]), ([0, 1, 2, 3, 4, 5, 6, 7, 8, 9, 10, 11, 12, 13, 14, 15, 16, 17, 18, 19, 20, 21], [])] (fun L ac w => St 71 w0 [(49, L 0, .bool true), (50, L 1, .bool true), (51, L 2, .bool true), (52, L 3, .bool true), (53, L 4, .bool true), (54, L 5, .bool true), (55, L 6, .bool true), (56, L 7, .bool true), (57, L 8, .bool true), (58, L 9, .bool true), (59, L 10, .bool true), (60, L 11, PV x1 y1 z1), (61, L 12, .bool false), (62, L 13, .bool true), (63, L 14, .bool true), (64, L 15, undef), (65, L 16, undef), (66, L 17, undef), (67, L 18, undef), (68, L 19, undef), (69, L 20, .bool true), (70, L 21, .bool true), (6, L 22, .bool true), (3, true, .pointer (some ⟨g1, 0, none⟩)), (6, true, .bool false), (8, true, .pointer (some ⟨g6, 0, none⟩)), (9, true, .bool true), (10, true, .bool true), (11, true, .bool true)] [(true, g1, 26, (PVl x1 y1 z1)), (true, g2, 26, (PVl x2 y2 z2)), (true, g3, 26, (PVl x3 y3 z3)), (true, g5, 26, (PVl (px T4) (py T4) (pz T4))), (true, g6, 26, (PVl 0 0 true))] ac w) (by kernel_rfl) (by kernel_rfl) ?_ ?_ ?_
    · exact hs.drew.skip.skip.skip.skip.skip.skip.skip.skip.skip.skip.skip.skip.skip.skip.skip.skip.skip.skip.skip.skip.skip.skip.skip
    · refine ⟨?_, ?_, ?_, ?_, ?_, ?_, ?_, ?_, ?_, ?_, ?_, ?_, ?_, ?_, ?_, ?_, ?_, ?_, ?_, ?_, ?_, ?_, ?_, trivial⟩
      · intro L ac w hJ
        have hs := hJ
        refine wpO_plain rfl (op_call (F := 10) hs (some 0) (v := .bool true) rfl rfl rfl rfl (Try.call10 _) alive_c rfl fun ac w hs => ?_)
        exact hs
      · intro L ac w hJ
        have hs := hJ
        refine wpO_plain rfl (op_move hs (some 1) rfl rfl rfl rfl fun ac hs => ?_)
        exact hs
      · intro L ac w hJ
        have hs := hJ
        refine wpO_in hs rfl rfl rfl (op_move hs (some 2) rfl rfl rfl rfl fun ac hs => ?_)
        exact hs
      · intro L ac w hJ
        have hs := hJ
        refine wpO_plain rfl (op_pickT hs (some 3) rfl rfl rfl rfl rfl fun ac hs => ?_)
        exact hs
      · intro L ac w hJ
        have hs := hJ
        refine wpO_plain rfl (op_move hs (some 4) rfl rfl rfl rfl fun ac hs => ?_)
        exact hs
      · intro L ac w hJ
        have hs := hJ
        refine wpO_in hs rfl rfl rfl (op_move hs (some 5) rfl rfl rfl rfl fun ac hs => ?_)
        exact hs
      · intro L ac w hJ
        have hs := hJ
        refine wpO_plain rfl (op_pickT hs (some 6) rfl rfl rfl rfl rfl fun ac hs => ?_)
        exact hs
      · intro L ac w hJ
        have hs := hJ
        refine wpO_plain rfl (op_move hs (some 7) rfl rfl rfl rfl fun ac hs => ?_)
        exact hs
      · intro L ac w hJ
        have hs := hJ
        refine wpO_in hs rfl rfl rfl (op_move hs (some 8) rfl rfl rfl rfl fun ac hs => ?_)
        exact hs
      · intro L ac w hJ
        have hs := hJ
        refine wpO_plain rfl (op_pickT hs (some 9) rfl rfl rfl rfl rfl fun ac hs => ?_)
        exact hs
      · intro L ac w hJ
        have hs := hJ
        refine wpO_plain rfl (op_move hs (some 10) rfl rfl rfl rfl fun ac hs => ?_)
        exact hs
      · intro L ac w hJ
        have hs := hJ
        refine wpO_in hs rfl rfl rfl (op_load hs (some 11) 0 (v := PV x1 y1 z1) rfl rfl rfl rfl Try.isAgg26 Try.sizeOf26 rfl rfl fun ac hs => ?_)
        exact hs
      · intro L ac w hJ
        have hs := hJ
        refine wpO_in hs rfl rfl rfl (op_call (F := 15) hs (some 12) (v := .bool false) rfl rfl rfl rfl (Try.call15 _) (on_c x1 y1 z1 false a1 a2 (Bool.eq_false_iff.2 hq16)) rfl fun ac w hs => ?_)
        exact hs
      · intro L ac w hJ
        have hs := hJ
        refine wpO_in hs rfl rfl rfl (op_un hs (some 13) (v := .bool true) rfl rfl rfl (fun _ => rfl) rfl fun ac hs => ?_)
        exact hs
      · intro L ac w hJ
        have hs := hJ
        refine wpO_in hs rfl rfl rfl (op_move hs (some 14) rfl rfl rfl rfl fun ac hs => ?_)
        exact hs
      · intro L ac w hJ
        have hs := hJ
        refine wpO_out hs (some 15) rfl rfl (.inl rfl) rfl rfl fun ac hs => ?_
        exact hs
      · intro L ac w hJ
        have hs := hJ
        refine wpO_out hs (some 16) rfl rfl (.inl rfl) rfl rfl fun ac hs => ?_
        exact hs
      · intro L ac w hJ
        have hs := hJ
        refine wpO_out hs (some 17) rfl rfl (.inl rfl) rfl rfl fun ac hs => ?_
        exact hs
      · intro L ac w hJ
        have hs := hJ
        refine wpO_out hs (some 18) rfl rfl (.inl rfl) rfl rfl fun ac hs => ?_
        exact hs
      · intro L ac w hJ
        have hs := hJ
        refine wpO_out hs (some 19) rfl rfl (.inl rfl) rfl rfl fun ac hs => ?_
        exact hs
      · intro L ac w hJ
        have hs := hJ
        refine wpO_in hs rfl rfl rfl (op_pickT hs (some 20) rfl rfl rfl rfl rfl fun ac hs => ?_)
        exact hs
      · intro L ac w hJ
        have hs := hJ
        refine wpO_plain rfl (op_pickT hs (some 21) rfl rfl rfl rfl rfl fun ac hs => ?_)
        exact hs
      · intro L ac w hJ
        have hs := hJ
        refine wpO_plain rfl (op_assign hs (some 22) rfl rfl rfl rfl fun ac hs => ?_)
        exact hs
    intro ac w hJ
    replace hs : St 71 w0 [(49, true, .bool true), (50, true, .bool true), (51, true, .bool true), (52, true, .bool true), (53, true, .bool true), (54, true, .bool true), (55, true, .bool true), (56, true, .bool true), (57, true, .bool true), (58, true, .bool true), (59, true, .bool true), (60, true, PV x1 y1 z1), (61, true, .bool false), (62, true, .bool true), (63, true, .bool true), (64, true, undef), (65, true, undef), (66, true, undef), (67, true, undef), (68, true, undef), (69, true, .bool true), (70, true, .bool true), (6, true, .bool true), (3, true, .pointer (some ⟨g1, 0, none⟩)), (6, true, .bool false), (8, true, .pointer (some ⟨g6, 0, none⟩)), (9, true, .bool true), (10, true, .bool true), (11, true, .bool true)] [(true, g1, 26, (PVl x1 y1 z1)), (true, g2, 26, (PVl x2 y2 z2)), (true, g3, 26, (PVl x3 y3 z3)), (true, g5, 26, (PVl (px T4) (py T4) (pz T4))), (true, g6, 26, (PVl 0 0 true))] ac w := hJ
    refine then_n ?_
    refine wp_ret ?_
    exact bodyPost_ret (res1 rfl (rv_t hs rfl)) hs.defers ⟨rfl, hs.below⟩
end Go.Proofs.Ytmpejkhffbonnaa
