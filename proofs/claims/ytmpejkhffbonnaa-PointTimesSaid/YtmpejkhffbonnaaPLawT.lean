/- The laws of points. -/
import Derived.Test.YtmpejkhffbonnaaPLaw0
import Derived.Test.YtmpejkhffbonnaaScal
namespace Go.Proofs.Ytmpejkhffbonnaa
open Go.RowKit
set_option maxRecDepth 10000
set_option maxHeartbeats 1000000

theorem times_law (a b : Nat) (x y : Nat) (z : Bool) (hx : x < 2 ^ 256) (hy : y < 2 ^ 256) (ha : a < 2 ^ 256) (hb : b < 2 ^ 256) (w0 : World) : Calls Try.prog 7 #[W a, W b, PV x y z] w0 fun e w' => e = .returned (.bool true) ∧ Below w0.heap.size w0 w' := by
  obtain ⟨P, hP⟩ : ∃ P, ptOf x y z = P := ⟨_, rfl⟩
  have oP : P.on := by rw [← hP]; exact pt_on x y z
  refine enter (n := 68) (args := [W a, W b, PV x y z]) Try.func7 rfl rfl (Nat.le_of_ble_eq_true rfl) fun ac hs => ?_
  refine wp_seq ?_
  refine wp_region_lit ?_
  refine lstep (wpO_plain rfl (op_box hs none none (cs := (Wl a)) rfl rfl rfl rfl rfl rfl fun g1 ac w hs => ?_))
  refine lstep (wpO_plain rfl (op_box hs none none (cs := (Wl b)) rfl rfl rfl rfl rfl rfl fun g2 ac w hs => ?_))
  refine lstep (wpO_plain rfl (op_box hs none none (cs := (PVl x y z)) rfl rfl rfl rfl rfl rfl fun g3 ac w hs => ?_))
  refine lstep (wpO_plain rfl (op_assign hs none rfl rfl rfl rfl fun ac hs => ?_))
  refine wpList_nil ?_
  refine then_n ?_
  refine wp_seq ?_
  replace hs : St 68 w0 [(3, true, .pointer (some ⟨g1, 0, none⟩)), (4, true, .pointer (some ⟨g2, 0, none⟩)), (5, true, .pointer (some ⟨g3, 0, none⟩)), (6, true, .bool false)] [(true, g1, 24, (Wl a)), (true, g2, 24, (Wl b)), (true, g3, 26, (PVl x y z))] ac _ := hs.re ⟨rfl, rfl, rfl, rfl, trivial⟩
  obtain ⟨T4, hT4, oT4⟩ := mkMul a oP
  obtain ⟨T5, hT5, oT5⟩ := mkMul b oP
  refine region_inv [([], [2, 5, 8, 9]), ([], [2, 5, 8, 9]), ([0, 1], [5, 8, 9]), ([], [5, 8, 9]), ([], [5, 8, 9]), ([0, 1, 2, 3, 4], [8, 9]), ([], [8, 9]), ([], [8, 9]), ([0, 1, 2, 3, 4, 5, 6, 7], [9]), ([0, 1, 2, 3, 4, 5, 6, 7, 8], [])] (fun L ac w => ∃ (g6 : Nat) (g7 : Nat), St 68 w0 [(14, L 0, W a), (15, L 1, PV x y z), (16, L 2, PV (px T4) (py T4) (pz T4)), (17, L 3, W b), (18, L 4, PV x y z), (19, L 5, PV (px T5) (py T5) (pz T5)), (7, L 6, .pointer (some ⟨g6, 0, none⟩)), (8, L 7, .pointer (some ⟨g7, 0, none⟩)), (3, true, .pointer (some ⟨g1, 0, none⟩)), (4, true, .pointer (some ⟨g2, 0, none⟩)), (5, true, .pointer (some ⟨g3, 0, none⟩)), (6, true, .bool false)] [(true, g1, 24, (Wl a)), (true, g2, 24, (Wl b)), (true, g3, 26, (PVl x y z)), (L 6, g6, 26, (cond (L 8) (PVl (px T4) (py T4) (pz T4)) (PVl 0 0 false))), (L 7, g7, 26, (cond (L 9) (PVl (px T5) (py T5) (pz T5)) (PVl 0 0 false)))] ac w) (by kernel_rfl) (by kernel_rfl) ?_ ?_ ?_
  · exact ⟨0, 0, hs.drew.skip.skip.skip.skip.skip.skip.skip.skip.pad.pad⟩
  · refine ⟨?_, ?_, ?_, ?_, ?_, ?_, ?_, ?_, ?_, ?_, trivial⟩
    · intro L ac w hJ
      obtain ⟨g6, g7, hs⟩ := hJ
      refine wpO_plain rfl (op_load hs (some 0) 0 (v := W a) rfl rfl rfl rfl Try.isAgg24 Try.sizeOf24 rfl rfl fun ac hs => ?_)
      exact ⟨g6, g7, hs⟩
    · intro L ac w hJ
      obtain ⟨g6, g7, hs⟩ := hJ
      refine wpO_plain rfl (op_load hs (some 1) 2 (v := PV x y z) rfl rfl rfl rfl Try.isAgg26 Try.sizeOf26 rfl rfl fun ac hs => ?_)
      exact ⟨g6, g7, hs⟩
    · intro L ac w hJ
      obtain ⟨g6, g7, hs⟩ := hJ
      refine wpO_plain rfl (op_call (F := 13) hs (some 2) (v := PV (px T4) (py T4) (pz T4)) rfl rfl rfl rfl (Try.call13 _) (mul14_c a x y z P T4 ha hx hy hP hT4) rfl fun ac w hs => ?_)
      exact ⟨g6, g7, hs⟩
    · intro L ac w hJ
      obtain ⟨g6, g7, hs⟩ := hJ
      refine wpO_plain rfl (op_load hs (some 3) 1 (v := W b) rfl rfl rfl rfl Try.isAgg24 Try.sizeOf24 rfl rfl fun ac hs => ?_)
      exact ⟨g6, g7, hs⟩
    · intro L ac w hJ
      obtain ⟨g6, g7, hs⟩ := hJ
      refine wpO_plain rfl (op_load hs (some 4) 2 (v := PV x y z) rfl rfl rfl rfl Try.isAgg26 Try.sizeOf26 rfl rfl fun ac hs => ?_)
      exact ⟨g6, g7, hs⟩
    · intro L ac w hJ
      obtain ⟨g6, g7, hs⟩ := hJ
      refine wpO_plain rfl (op_call (F := 13) hs (some 5) (v := PV (px T5) (py T5) (pz T5)) rfl rfl rfl rfl (Try.call13 _) (mul14_c b x y z P T5 hb hx hy hP hT5) rfl fun ac w hs => ?_)
      exact ⟨g6, g7, hs⟩
    · intro L ac w hJ
      obtain ⟨g6, g7, hs⟩ := hJ
      refine wpO_plain rfl (op_alloc hs (some 6) (some 3) (cs := (PVl 0 0 false)) rfl rfl Try.zeroValue26 (by kernel_rfl) rfl rfl fun g6 ac w hs => ?_)
      exact ⟨g6, g7, hs⟩
    · intro L ac w hJ
      obtain ⟨g6, g7, hs⟩ := hJ
      refine wpO_plain rfl (op_alloc hs (some 7) (some 4) (cs := (PVl 0 0 false)) rfl rfl Try.zeroValue26 (by kernel_rfl) rfl rfl fun g7 ac w hs => ?_)
      exact ⟨g6, g7, hs⟩
    · intro L ac w hJ
      obtain ⟨g6, g7, hs⟩ := hJ
      refine wpO_plain rfl (op_store hs 3 (vs := (PVl (px T4) (py T4) (pz T4))) rfl rfl rfl rfl rfl Try.sizeOf26 rfl rfl rfl rfl rfl fun w hs => ?_)
      exact ⟨g6, g7, hs⟩
    · intro L ac w hJ
      obtain ⟨g6, g7, hs⟩ := hJ
      refine wpO_plain rfl (op_store hs 4 (vs := (PVl (px T5) (py T5) (pz T5))) rfl rfl rfl rfl rfl Try.sizeOf26 rfl rfl rfl rfl rfl fun w hs => ?_)
      exact ⟨g6, g7, hs⟩
  intro ac w hJ
  obtain ⟨g6, g7, hs⟩ := hJ
  replace hs : St 68 w0 [(14, true, W a), (15, true, PV x y z), (16, true, PV (px T4) (py T4) (pz T4)), (17, true, W b), (18, true, PV x y z), (19, true, PV (px T5) (py T5) (pz T5)), (7, true, .pointer (some ⟨g6, 0, none⟩)), (8, true, .pointer (some ⟨g7, 0, none⟩)), (3, true, .pointer (some ⟨g1, 0, none⟩)), (4, true, .pointer (some ⟨g2, 0, none⟩)), (5, true, .pointer (some ⟨g3, 0, none⟩)), (6, true, .bool false)] [(true, g1, 24, (Wl a)), (true, g2, 24, (Wl b)), (true, g3, 26, (PVl x y z)), (true, g6, 26, (PVl (px T4) (py T4) (pz T4))), (true, g7, 26, (PVl (px T5) (py T5) (pz T5)))] ac w := hs
  refine then_n ?_
  refine wp_seq ?_
  replace hs : St 68 w0 [(3, true, .pointer (some ⟨g1, 0, none⟩)), (4, true, .pointer (some ⟨g2, 0, none⟩)), (5, true, .pointer (some ⟨g3, 0, none⟩)), (6, true, .bool false), (7, true, .pointer (some ⟨g6, 0, none⟩)), (8, true, .pointer (some ⟨g7, 0, none⟩))] [(true, g1, 24, (Wl a)), (true, g2, 24, (Wl b)), (true, g3, 26, (PVl x y z)), (true, g6, 26, (PVl (px T4) (py T4) (pz T4))), (true, g7, 26, (PVl (px T5) (py T5) (pz T5)))] ac _ := hs.re ⟨rfl, rfl, rfl, rfl, rfl, rfl, trivial⟩
  obtain ⟨r8, hr8, lr8⟩ : ∃ z0, (a + b) % Nord = z0 ∧ z0 < 2 ^ 256 := ⟨_, rfl, modN_lt _⟩
  obtain ⟨T9, hT9, oT9⟩ := mkMul r8 oP
  obtain ⟨T10, hT10, oT10⟩ := mkAdd oT4 oT5
  refine region_inv [([], [2, 4, 7, 8, 9]), ([], [2, 4, 7, 8, 9]), ([0, 1], [4, 7, 8, 9]), ([], [4, 7, 8, 9]), ([0, 1, 2, 3], [7, 8, 9]), ([], [7, 8, 9]), ([], [7, 8, 9]), ([0, 1, 2, 3, 4, 5, 6], [8, 9]), ([0, 1, 2, 3, 4, 5, 6, 7], [9]), ([0, 1, 2, 3, 4, 5, 6, 7, 8], [])] (fun L ac w => St 68 w0 [(20, L 0, W a), (21, L 1, W b), (22, L 2, W r8), (23, L 3, PV x y z), (24, L 4, PV (px T9) (py T9) (pz T9)), (25, L 5, PV (px T4) (py T4) (pz T4)), (26, L 6, PV (px T5) (py T5) (pz T5)), (27, L 7, PV (px T10) (py T10) (pz T10)), (28, L 8, .bool true), (9, L 9, .bool true), (3, true, .pointer (some ⟨g1, 0, none⟩)), (4, true, .pointer (some ⟨g2, 0, none⟩)), (5, true, .pointer (some ⟨g3, 0, none⟩)), (6, true, .bool false), (7, true, .pointer (some ⟨g6, 0, none⟩)), (8, true, .pointer (some ⟨g7, 0, none⟩))] [(true, g1, 24, (Wl a)), (true, g2, 24, (Wl b)), (true, g3, 26, (PVl x y z)), (true, g6, 26, (PVl (px T4) (py T4) (pz T4))), (true, g7, 26, (PVl (px T5) (py T5) (pz T5)))] ac w) (by kernel_rfl) (by kernel_rfl) ?_ ?_ ?_
  · exact hs.drew.skip.skip.skip.skip.skip.skip.skip.skip.skip.skip
  · refine ⟨?_, ?_, ?_, ?_, ?_, ?_, ?_, ?_, ?_, ?_, trivial⟩
    · intro L ac w hJ
      have hs := hJ
      refine wpO_plain rfl (op_load hs (some 0) 0 (v := W a) rfl rfl rfl rfl Try.isAgg24 Try.sizeOf24 rfl rfl fun ac hs => ?_)
      exact hs
    · intro L ac w hJ
      have hs := hJ
      refine wpO_plain rfl (op_load hs (some 1) 1 (v := W b) rfl rfl rfl rfl Try.isAgg24 Try.sizeOf24 rfl rfl fun ac hs => ?_)
      exact hs
    · intro L ac w hJ
      have hs := hJ
      refine wpO_plain rfl (op_call (F := 25) hs (some 2) (v := W r8) rfl rfl rfl rfl (Try.call25 _) (sadd_c a b r8 ha hb hr8) rfl fun ac w hs => ?_)
      exact hs
    · intro L ac w hJ
      have hs := hJ
      refine wpO_plain rfl (op_load hs (some 3) 2 (v := PV x y z) rfl rfl rfl rfl Try.isAgg26 Try.sizeOf26 rfl rfl fun ac hs => ?_)
      exact hs
    · intro L ac w hJ
      have hs := hJ
      refine wpO_plain rfl (op_call (F := 13) hs (some 4) (v := PV (px T9) (py T9) (pz T9)) rfl rfl rfl rfl (Try.call13 _) (mul14_c r8 x y z P T9 lr8 hx hy hP hT9) rfl fun ac w hs => ?_)
      exact hs
    · intro L ac w hJ
      have hs := hJ
      refine wpO_plain rfl (op_load hs (some 5) 3 (v := PV (px T4) (py T4) (pz T4)) rfl rfl rfl rfl Try.isAgg26 Try.sizeOf26 rfl rfl fun ac hs => ?_)
      exact hs
    · intro L ac w hJ
      have hs := hJ
      refine wpO_plain rfl (op_load hs (some 6) 4 (v := PV (px T5) (py T5) (pz T5)) rfl rfl rfl rfl Try.isAgg26 Try.sizeOf26 rfl rfl fun ac hs => ?_)
      exact hs
    · intro L ac w hJ
      have hs := hJ
      refine wpO_plain rfl (op_call (F := 11) hs (some 7) (v := PV (px T10) (py T10) (pz T10)) rfl rfl rfl rfl (Try.call11 _) (add14_c (px T4) (py T4) (pz T4) (px T5) (py T5) (pz T5) T4 T5 T10 (px_lt T4) (py_lt T4) (px_lt T5) (py_lt T5) (pt_back oT4) (pt_back oT5) hT10) rfl fun ac w hs => ?_)
      exact hs
    · intro L ac w hJ
      have hs := hJ
      refine wpO_plain rfl (op_bin hs (some 8) (v := .bool true) rfl rfl rfl rfl (fun w => run_eqGuard_agg w .eql 26 _ _ _ _ Try.eqGuardType26) (eqlP (px T9) (py T9) (px T10) (py T10) (pz T9) (pz T10) (px_lt T9) (py_lt T9) (px_lt T10) (py_lt T10) true (decide_eq_true (pt_eq (by rw [← hT9, ← hT10, ← hT4, ← hT5, ← hr8, nmul_mod oP, EM.nmul_add Pf_good _ oP])))) rfl fun ac hs => ?_)
      exact hs
    · intro L ac w hJ
      have hs := hJ
      refine wpO_plain rfl (op_assign hs (some 9) rfl rfl rfl rfl fun ac hs => ?_)
      exact hs
  intro ac w hJ
  replace hs : St 68 w0 [(20, true, W a), (21, true, W b), (22, true, W r8), (23, true, PV x y z), (24, true, PV (px T9) (py T9) (pz T9)), (25, true, PV (px T4) (py T4) (pz T4)), (26, true, PV (px T5) (py T5) (pz T5)), (27, true, PV (px T10) (py T10) (pz T10)), (28, true, .bool true), (9, true, .bool true), (3, true, .pointer (some ⟨g1, 0, none⟩)), (4, true, .pointer (some ⟨g2, 0, none⟩)), (5, true, .pointer (some ⟨g3, 0, none⟩)), (6, true, .bool false), (7, true, .pointer (some ⟨g6, 0, none⟩)), (8, true, .pointer (some ⟨g7, 0, none⟩))] [(true, g1, 24, (Wl a)), (true, g2, 24, (Wl b)), (true, g3, 26, (PVl x y z)), (true, g6, 26, (PVl (px T4) (py T4) (pz T4))), (true, g7, 26, (PVl (px T5) (py T5) (pz T5)))] ac w := hJ
  refine then_n ?_
  refine wp_seq ?_
  replace hs : St 68 w0 [(3, true, .pointer (some ⟨g1, 0, none⟩)), (4, true, .pointer (some ⟨g2, 0, none⟩)), (5, true, .pointer (some ⟨g3, 0, none⟩)), (6, true, .bool false), (7, true, .pointer (some ⟨g6, 0, none⟩)), (9, true, .bool true)] [(true, g1, 24, (Wl a)), (true, g2, 24, (Wl b)), (true, g3, 26, (PVl x y z)), (true, g6, 26, (PVl (px T4) (py T4) (pz T4))), (true, g7, 26, (PVl (px T5) (py T5) (pz T5)))] ac _ := hs.re ⟨rfl, rfl, rfl, rfl, rfl, rfl, trivial⟩
  obtain ⟨T11, hT11, oT11⟩ := mkMul b oT4
  obtain ⟨r12, hr12, lr12⟩ : ∃ z0, a * b % Nord = z0 ∧ z0 < 2 ^ 256 := ⟨_, rfl, modN_lt _⟩
  obtain ⟨T13, hT13, oT13⟩ := mkMul r12 oP
  refine region_inv [([], [2, 5, 7, 8, 9]), ([], [2, 5, 7, 8, 9]), ([0, 1], [5, 7, 8, 9]), ([], [5, 7, 8, 9]), ([], [5, 7, 8, 9]), ([0, 1, 2, 3, 4], [7, 8, 9]), ([], [7, 8, 9]), ([0, 1, 2, 3, 4, 5, 6], [8, 9]), ([0, 1, 2, 3, 4, 5, 6, 7], [9]), ([0, 1, 2, 3, 4, 5, 6, 7, 8], [])] (fun L ac w => St 68 w0 [(29, L 0, W b), (30, L 1, PV (px T4) (py T4) (pz T4)), (31, L 2, PV (px T11) (py T11) (pz T11)), (32, L 3, W a), (33, L 4, W b), (34, L 5, W r12), (35, L 6, PV x y z), (36, L 7, PV (px T13) (py T13) (pz T13)), (37, L 8, .bool true), (10, L 9, .bool true), (3, true, .pointer (some ⟨g1, 0, none⟩)), (4, true, .pointer (some ⟨g2, 0, none⟩)), (5, true, .pointer (some ⟨g3, 0, none⟩)), (6, true, .bool false), (7, true, .pointer (some ⟨g6, 0, none⟩)), (9, true, .bool true)] [(true, g1, 24, (Wl a)), (true, g2, 24, (Wl b)), (true, g3, 26, (PVl x y z)), (true, g6, 26, (PVl (px T4) (py T4) (pz T4))), (true, g7, 26, (PVl (px T5) (py T5) (pz T5)))] ac w) (by kernel_rfl) (by kernel_rfl) ?_ ?_ ?_
  · exact hs.drew.skip.skip.skip.skip.skip.skip.skip.skip.skip.skip
  · refine ⟨?_, ?_, ?_, ?_, ?_, ?_, ?_, ?_, ?_, ?_, trivial⟩
    · intro L ac w hJ
      have hs := hJ
      refine wpO_plain rfl (op_load hs (some 0) 1 (v := W b) rfl rfl rfl rfl Try.isAgg24 Try.sizeOf24 rfl rfl fun ac hs => ?_)
      exact hs
    · intro L ac w hJ
      have hs := hJ
      refine wpO_plain rfl (op_load hs (some 1) 3 (v := PV (px T4) (py T4) (pz T4)) rfl rfl rfl rfl Try.isAgg26 Try.sizeOf26 rfl rfl fun ac hs => ?_)
      exact hs
    · intro L ac w hJ
      have hs := hJ
      refine wpO_plain rfl (op_call (F := 13) hs (some 2) (v := PV (px T11) (py T11) (pz T11)) rfl rfl rfl rfl (Try.call13 _) (mul14_c b (px T4) (py T4) (pz T4) T4 T11 hb (px_lt T4) (py_lt T4) (pt_back oT4) hT11) rfl fun ac w hs => ?_)
      exact hs
    · intro L ac w hJ
      have hs := hJ
      refine wpO_plain rfl (op_load hs (some 3) 0 (v := W a) rfl rfl rfl rfl Try.isAgg24 Try.sizeOf24 rfl rfl fun ac hs => ?_)
      exact hs
    · intro L ac w hJ
      have hs := hJ
      refine wpO_plain rfl (op_load hs (some 4) 1 (v := W b) rfl rfl rfl rfl Try.isAgg24 Try.sizeOf24 rfl rfl fun ac hs => ?_)
      exact hs
    · intro L ac w hJ
      have hs := hJ
      refine wpO_plain rfl (op_call (F := 26) hs (some 5) (v := W r12) rfl rfl rfl rfl (Try.call26 _) (smul_c a b r12 ha hb hr12) rfl fun ac w hs => ?_)
      exact hs
    · intro L ac w hJ
      have hs := hJ
      refine wpO_plain rfl (op_load hs (some 6) 2 (v := PV x y z) rfl rfl rfl rfl Try.isAgg26 Try.sizeOf26 rfl rfl fun ac hs => ?_)
      exact hs
    · intro L ac w hJ
      have hs := hJ
      refine wpO_plain rfl (op_call (F := 13) hs (some 7) (v := PV (px T13) (py T13) (pz T13)) rfl rfl rfl rfl (Try.call13 _) (mul14_c r12 x y z P T13 lr12 hx hy hP hT13) rfl fun ac w hs => ?_)
      exact hs
    · intro L ac w hJ
      have hs := hJ
      refine wpO_plain rfl (op_bin hs (some 8) (v := .bool true) rfl rfl rfl rfl (fun w => run_eqGuard_agg w .eql 26 _ _ _ _ Try.eqGuardType26) (eqlP (px T11) (py T11) (px T13) (py T13) (pz T11) (pz T13) (px_lt T11) (py_lt T11) (px_lt T13) (py_lt T13) true (decide_eq_true (pt_eq (by rw [← hT11, ← hT13, ← hr12, nmul_mod oP, EM.nmul_mul Pf_good _ oP, hT4])))) rfl fun ac hs => ?_)
      exact hs
    · intro L ac w hJ
      have hs := hJ
      refine wpO_plain rfl (op_assign hs (some 9) rfl rfl rfl rfl fun ac hs => ?_)
      exact hs
  intro ac w hJ
  replace hs : St 68 w0 [(29, true, W b), (30, true, PV (px T4) (py T4) (pz T4)), (31, true, PV (px T11) (py T11) (pz T11)), (32, true, W a), (33, true, W b), (34, true, W r12), (35, true, PV x y z), (36, true, PV (px T13) (py T13) (pz T13)), (37, true, .bool true), (10, true, .bool true), (3, true, .pointer (some ⟨g1, 0, none⟩)), (4, true, .pointer (some ⟨g2, 0, none⟩)), (5, true, .pointer (some ⟨g3, 0, none⟩)), (6, true, .bool false), (7, true, .pointer (some ⟨g6, 0, none⟩)), (9, true, .bool true)] [(true, g1, 24, (Wl a)), (true, g2, 24, (Wl b)), (true, g3, 26, (PVl x y z)), (true, g6, 26, (PVl (px T4) (py T4) (pz T4))), (true, g7, 26, (PVl (px T5) (py T5) (pz T5)))] ac w := hJ
  refine then_n ?_
  refine wp_seq ?_
  replace hs : St 68 w0 [(3, true, .pointer (some ⟨g1, 0, none⟩)), (4, true, .pointer (some ⟨g2, 0, none⟩)), (5, true, .pointer (some ⟨g3, 0, none⟩)), (6, true, .bool false), (7, true, .pointer (some ⟨g6, 0, none⟩)), (9, true, .bool true), (10, true, .bool true)] [(true, g1, 24, (Wl a)), (true, g2, 24, (Wl b)), (true, g3, 26, (PVl x y z)), (true, g6, 26, (PVl (px T4) (py T4) (pz T4))), (true, g7, 26, (PVl (px T5) (py T5) (pz T5)))] ac _ := hs.re ⟨rfl, rfl, rfl, rfl, rfl, rfl, rfl, trivial⟩
  obtain ⟨T14, hT14, oT14⟩ := mkMul Nord oP
  refine region_inv [([], [2, 4, 5]), ([], [2, 4, 5]), ([0, 1], [4, 5]), ([], [4, 5]), ([0, 1, 2, 3], [5]), ([0, 1, 2, 3, 4], [])] (fun L ac w => St 68 w0 [(38, L 0, W Nord), (39, L 1, PV x y z), (40, L 2, PV (px T14) (py T14) (pz T14)), (41, L 3, PV 0 0 true), (42, L 4, .bool true), (11, L 5, .bool true), (3, true, .pointer (some ⟨g1, 0, none⟩)), (4, true, .pointer (some ⟨g2, 0, none⟩)), (5, true, .pointer (some ⟨g3, 0, none⟩)), (6, true, .bool false), (7, true, .pointer (some ⟨g6, 0, none⟩)), (9, true, .bool true), (10, true, .bool true)] [(true, g1, 24, (Wl a)), (true, g2, 24, (Wl b)), (true, g3, 26, (PVl x y z)), (true, g6, 26, (PVl (px T4) (py T4) (pz T4))), (true, g7, 26, (PVl (px T5) (py T5) (pz T5)))] ac w) (by kernel_rfl) (by kernel_rfl) ?_ ?_ ?_
  · exact hs.drew.skip.skip.skip.skip.skip.skip
  · refine ⟨?_, ?_, ?_, ?_, ?_, ?_, trivial⟩
    · intro L ac w hJ
      have hs := hJ
      refine wpO_plain rfl (op_call (F := 27) hs (some 0) (v := W Nord) rfl rfl rfl rfl (Try.call27 _) order_c rfl fun ac w hs => ?_)
      exact hs
    · intro L ac w hJ
      have hs := hJ
      refine wpO_plain rfl (op_load hs (some 1) 2 (v := PV x y z) rfl rfl rfl rfl Try.isAgg26 Try.sizeOf26 rfl rfl fun ac hs => ?_)
      exact hs
    · intro L ac w hJ
      have hs := hJ
      refine wpO_plain rfl (op_call (F := 13) hs (some 2) (v := PV (px T14) (py T14) (pz T14)) rfl rfl rfl rfl (Try.call13 _) (mul14_c Nord x y z P T14 Nord_lt hx hy hP hT14) rfl fun ac w hs => ?_)
      exact hs
    · intro L ac w hJ
      have hs := hJ
      refine wpO_plain rfl (op_build hs (some 3) (qs := [(2, .bool true)]) (v := PV 0 0 true) rfl rfl rfl rfl (fun _ => by kernel_rfl) rfl fun ac hs => ?_)
      exact hs
    · intro L ac w hJ
      have hs := hJ
      refine wpO_plain rfl (op_bin hs (some 4) (v := .bool true) rfl rfl rfl rfl (fun w => run_eqGuard_agg w .eql 26 _ _ _ _ Try.eqGuardType26) (eqlP (px T14) (py T14) 0 0 (pz T14) true (px_lt T14) (py_lt T14) (by decide) (by decide) true (decide_eq_true (pt_eqO (hT14.symm.trans (order_all oP))))) rfl fun ac hs => ?_)
      exact hs
    · intro L ac w hJ
      have hs := hJ
      refine wpO_plain rfl (op_assign hs (some 5) rfl rfl rfl rfl fun ac hs => ?_)
      exact hs
  intro ac w hJ
  replace hs : St 68 w0 [(38, true, W Nord), (39, true, PV x y z), (40, true, PV (px T14) (py T14) (pz T14)), (41, true, PV 0 0 true), (42, true, .bool true), (11, true, .bool true), (3, true, .pointer (some ⟨g1, 0, none⟩)), (4, true, .pointer (some ⟨g2, 0, none⟩)), (5, true, .pointer (some ⟨g3, 0, none⟩)), (6, true, .bool false), (7, true, .pointer (some ⟨g6, 0, none⟩)), (9, true, .bool true), (10, true, .bool true)] [(true, g1, 24, (Wl a)), (true, g2, 24, (Wl b)), (true, g3, 26, (PVl x y z)), (true, g6, 26, (PVl (px T4) (py T4) (pz T4))), (true, g7, 26, (PVl (px T5) (py T5) (pz T5)))] ac w := hJ
  refine then_n ?_
  refine wp_seq ?_
  refine wp_region_lit ?_
  refine lstep (wpO_plain rfl (op_call (F := 23) hs none (v := PV (px Gp) (py Gp) false) rfl rfl rfl rfl (Try.call23 _) base_c rfl fun ac w hs => ?_))
  refine lstep (wpO_plain rfl (op_alloc hs none none (cs := (PVl 0 0 false)) rfl rfl Try.zeroValue26 (by kernel_rfl) rfl rfl fun g15 ac w hs => ?_))
  refine lstep (wpO_plain rfl (op_store hs 5 (vs := (PVl (px Gp) (py Gp) false)) rfl rfl rfl rfl rfl Try.sizeOf26 rfl rfl rfl rfl rfl fun w hs => ?_))
  refine wpList_nil ?_
  refine then_n ?_
  refine wp_seq ?_
  replace hs : St 68 w0 [(3, true, .pointer (some ⟨g1, 0, none⟩)), (4, true, .pointer (some ⟨g2, 0, none⟩)), (5, true, .pointer (some ⟨g3, 0, none⟩)), (6, true, .bool false), (7, true, .pointer (some ⟨g6, 0, none⟩)), (9, true, .bool true), (10, true, .bool true), (11, true, .bool true), (12, true, .pointer (some ⟨g15, 0, none⟩))] [(true, g1, 24, (Wl a)), (true, g2, 24, (Wl b)), (true, g3, 26, (PVl x y z)), (true, g6, 26, (PVl (px T4) (py T4) (pz T4))), (true, g7, 26, (PVl (px T5) (py T5) (pz T5))), (true, g15, 26, (PVl (px Gp) (py Gp) false))] ac _ := hs.re ⟨rfl, rfl, rfl, rfl, rfl, rfl, rfl, rfl, rfl, trivial⟩
  obtain ⟨T16, hT16, oT16⟩ := mkBoth a b oP Gp_on
  obtain ⟨T17, hT17, oT17⟩ := mkMul b Gp_on
  obtain ⟨T18, hT18, oT18⟩ := mkAdd oT4 oT17
  refine region_inv [([], [4, 8, 9, 10, 11]), ([], [4, 8, 9, 10, 11]), ([], [4, 8, 9, 10, 11]), ([], [4, 8, 9, 10, 11]), ([0, 1, 2, 3], [8, 9, 10, 11]), ([], [9, 10, 11]), ([], [8, 9, 10, 11]), ([], [8, 9, 10, 11]), ([0, 1, 2, 3, 4, 6, 7], [9, 10, 11]), ([0, 1, 2, 3, 4, 5, 6, 7, 8], [10, 11]), ([0, 1, 2, 3, 4, 5, 6, 7, 8, 9], [11]), ([0, 1, 2, 3, 4, 5, 6, 7, 8, 9, 10], [])] (fun L ac w => St 68 w0 [(44, L 0, W a), (45, L 1, PV x y z), (46, L 2, W b), (47, L 3, PV (px Gp) (py Gp) false), (48, L 4, PV (px T16) (py T16) (pz T16)), (49, L 5, PV (px T4) (py T4) (pz T4)), (50, L 6, W b), (51, L 7, PV (px Gp) (py Gp) false), (52, L 8, PV (px T17) (py T17) (pz T17)), (53, L 9, PV (px T18) (py T18) (pz T18)), (54, L 10, .bool true), (13, L 11, .bool true), (3, true, .pointer (some ⟨g1, 0, none⟩)), (4, true, .pointer (some ⟨g2, 0, none⟩)), (5, true, .pointer (some ⟨g3, 0, none⟩)), (6, true, .bool false), (7, true, .pointer (some ⟨g6, 0, none⟩)), (9, true, .bool true), (10, true, .bool true), (11, true, .bool true), (12, true, .pointer (some ⟨g15, 0, none⟩))] [(true, g1, 24, (Wl a)), (true, g2, 24, (Wl b)), (true, g3, 26, (PVl x y z)), (true, g6, 26, (PVl (px T4) (py T4) (pz T4))), (true, g7, 26, (PVl (px T5) (py T5) (pz T5))), (true, g15, 26, (PVl (px Gp) (py Gp) false))] ac w) (by kernel_rfl) (by kernel_rfl) ?_ ?_ ?_
  · exact hs.drew.skip.skip.skip.skip.skip.skip.skip.skip.skip.skip.skip.skip
  · refine ⟨?_, ?_, ?_, ?_, ?_, ?_, ?_, ?_, ?_, ?_, ?_, ?_, trivial⟩
    · intro L ac w hJ
      have hs := hJ
      refine wpO_plain rfl (op_load hs (some 0) 0 (v := W a) rfl rfl rfl rfl Try.isAgg24 Try.sizeOf24 rfl rfl fun ac hs => ?_)
      exact hs
    · intro L ac w hJ
      have hs := hJ
      refine wpO_plain rfl (op_load hs (some 1) 2 (v := PV x y z) rfl rfl rfl rfl Try.isAgg26 Try.sizeOf26 rfl rfl fun ac hs => ?_)
      exact hs
    · intro L ac w hJ
      have hs := hJ
      refine wpO_plain rfl (op_load hs (some 2) 1 (v := W b) rfl rfl rfl rfl Try.isAgg24 Try.sizeOf24 rfl rfl fun ac hs => ?_)
      exact hs
    · intro L ac w hJ
      have hs := hJ
      refine wpO_plain rfl (op_load hs (some 3) 5 (v := PV (px Gp) (py Gp) false) rfl rfl rfl rfl Try.isAgg26 Try.sizeOf26 rfl rfl fun ac hs => ?_)
      exact hs
    · intro L ac w hJ
      have hs := hJ
      refine wpO_plain rfl (op_call (F := 28) hs (some 4) (v := PV (px T16) (py T16) (pz T16)) rfl rfl rfl rfl (Try.call28 _) (both_c a x y z b (px Gp) (py Gp) false P Gp T16 ha hx hy hb (px_lt Gp) (py_lt Gp) hP (pt_back Gp_on) hT16) rfl fun ac w hs => ?_)
      exact hs
    · intro L ac w hJ
      have hs := hJ
      refine wpO_plain rfl (op_load hs (some 5) 3 (v := PV (px T4) (py T4) (pz T4)) rfl rfl rfl rfl Try.isAgg26 Try.sizeOf26 rfl rfl fun ac hs => ?_)
      exact hs
    · intro L ac w hJ
      have hs := hJ
      refine wpO_plain rfl (op_load hs (some 6) 1 (v := W b) rfl rfl rfl rfl Try.isAgg24 Try.sizeOf24 rfl rfl fun ac hs => ?_)
      exact hs
    · intro L ac w hJ
      have hs := hJ
      refine wpO_plain rfl (op_load hs (some 7) 5 (v := PV (px Gp) (py Gp) false) rfl rfl rfl rfl Try.isAgg26 Try.sizeOf26 rfl rfl fun ac hs => ?_)
      exact hs
    · intro L ac w hJ
      have hs := hJ
      refine wpO_plain rfl (op_call (F := 13) hs (some 8) (v := PV (px T17) (py T17) (pz T17)) rfl rfl rfl rfl (Try.call13 _) (mul14_c b (px Gp) (py Gp) false Gp T17 hb (px_lt Gp) (py_lt Gp) (pt_back Gp_on) hT17) rfl fun ac w hs => ?_)
      exact hs
    · intro L ac w hJ
      have hs := hJ
      refine wpO_plain rfl (op_call (F := 11) hs (some 9) (v := PV (px T18) (py T18) (pz T18)) rfl rfl rfl rfl (Try.call11 _) (add14_c (px T4) (py T4) (pz T4) (px T17) (py T17) (pz T17) T4 T17 T18 (px_lt T4) (py_lt T4) (px_lt T17) (py_lt T17) (pt_back oT4) (pt_back oT17) hT18) rfl fun ac w hs => ?_)
      exact hs
    · intro L ac w hJ
      have hs := hJ
      refine wpO_plain rfl (op_bin hs (some 10) (v := .bool true) rfl rfl rfl rfl (fun w => run_eqGuard_agg w .eql 26 _ _ _ _ Try.eqGuardType26) (eqlP (px T16) (py T16) (px T18) (py T18) (pz T16) (pz T18) (px_lt T16) (py_lt T16) (px_lt T18) (py_lt T18) true (decide_eq_true (pt_eq (by rw [← hT16, ← hT18, ← hT17, ← hT4])))) rfl fun ac hs => ?_)
      exact hs
    · intro L ac w hJ
      have hs := hJ
      refine wpO_plain rfl (op_assign hs (some 11) rfl rfl rfl rfl fun ac hs => ?_)
      exact hs
  intro ac w hJ
  replace hs : St 68 w0 [(44, true, W a), (45, true, PV x y z), (46, true, W b), (47, true, PV (px Gp) (py Gp) false), (48, true, PV (px T16) (py T16) (pz T16)), (49, true, PV (px T4) (py T4) (pz T4)), (50, true, W b), (51, true, PV (px Gp) (py Gp) false), (52, true, PV (px T17) (py T17) (pz T17)), (53, true, PV (px T18) (py T18) (pz T18)), (54, true, .bool true), (13, true, .bool true), (3, true, .pointer (some ⟨g1, 0, none⟩)), (4, true, .pointer (some ⟨g2, 0, none⟩)), (5, true, .pointer (some ⟨g3, 0, none⟩)), (6, true, .bool false), (7, true, .pointer (some ⟨g6, 0, none⟩)), (9, true, .bool true), (10, true, .bool true), (11, true, .bool true), (12, true, .pointer (some ⟨g15, 0, none⟩))] [(true, g1, 24, (Wl a)), (true, g2, 24, (Wl b)), (true, g3, 26, (PVl x y z)), (true, g6, 26, (PVl (px T4) (py T4) (pz T4))), (true, g7, 26, (PVl (px T5) (py T5) (pz T5))), (true, g15, 26, (PVl (px Gp) (py Gp) false))] ac w := hJ
  refine then_n ?_
  refine wp_seq ?_
  refine wp_region_lit ?_
  refine lstep (wpO_plain rfl (op_call (F := 10) hs none (v := .bool true) rfl rfl rfl rfl (Try.call10 _) alive_c rfl fun ac w hs => ?_))
  refine lstep (wpO_plain rfl (op_move hs none rfl rfl rfl rfl fun ac hs => ?_))
  refine lstep (wpO_in hs rfl rfl rfl (op_move hs none rfl rfl rfl rfl fun ac hs => ?_))
  refine lstep (wpO_plain rfl (op_pickT hs none rfl rfl rfl rfl rfl fun ac hs => ?_))
  refine lstep (wpO_plain rfl (op_move hs none rfl rfl rfl rfl fun ac hs => ?_))
  refine lstep (wpO_in hs rfl rfl rfl (op_move hs none rfl rfl rfl rfl fun ac hs => ?_))
  refine lstep (wpO_plain rfl (op_pickT hs none rfl rfl rfl rfl rfl fun ac hs => ?_))
  refine lstep (wpO_plain rfl (op_move hs none rfl rfl rfl rfl fun ac hs => ?_))
  refine lstep (wpO_in hs rfl rfl rfl (op_move hs none rfl rfl rfl rfl fun ac hs => ?_))
  refine lstep (wpO_plain rfl (op_pickT hs none rfl rfl rfl rfl rfl fun ac hs => ?_))
  refine lstep (wpO_plain rfl (op_move hs none rfl rfl rfl rfl fun ac hs => ?_))
  refine lstep (wpO_in hs rfl rfl rfl (op_move hs none rfl rfl rfl rfl fun ac hs => ?_))
  refine lstep (wpO_plain rfl (op_pickT hs none rfl rfl rfl rfl rfl fun ac hs => ?_))
  refine lstep (wpO_plain rfl (op_assign hs none rfl rfl rfl rfl fun ac hs => ?_))
  refine wpList_nil ?_
  refine then_n ?_
  refine wp_ret ?_
  exact bodyPost_ret (res1 rfl (rv_t hs rfl)) hs.defers ⟨rfl, hs.below⟩
end Go.Proofs.Ytmpejkhffbonnaa
