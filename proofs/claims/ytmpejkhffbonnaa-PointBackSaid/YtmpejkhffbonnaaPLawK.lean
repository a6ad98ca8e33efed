/- The laws of points. -/
import Derived.Test.YtmpejkhffbonnaaPLaw0
namespace Go.Proofs.Ytmpejkhffbonnaa
open Go.RowKit
set_option maxRecDepth 10000
set_option maxHeartbeats 1000000

theorem back_law (x y : Nat) (z : Bool) (hx : x < 2 ^ 256) (hy : y < 2 ^ 256) (f : Nat → Nat) (hf : ∀ j, j < 32 → f j < 256) (w0 : World) : Calls Try.prog 9 #[PV x y z, At .u8 32 f] w0 fun e w' => e = .returned (.bool true) ∧ Below w0.heap.size w0 w' := by
  obtain ⟨P, hP⟩ : ∃ P, ptOf x y z = P := ⟨_, rfl⟩
  have oP : P.on := by rw [← hP]; exact pt_on x y z
  refine enter (n := 89) (args := [PV x y z, At .u8 32 f]) Try.func9 rfl rfl (Nat.le_of_ble_eq_true rfl) fun ac hs => ?_
  refine wp_seq ?_
  refine wp_region_lit ?_
  refine lstep (wpO_plain rfl (op_box hs none none (cs := (PVl x y z)) rfl rfl rfl rfl rfl rfl fun g1 ac w hs => ?_))
  refine lstep (wpO_plain rfl (op_box hs none none (cs := (tab .u8 32 f)) rfl rfl rfl rfl rfl rfl fun g2 ac w hs => ?_))
  refine lstep (wpO_plain rfl (op_assign hs none rfl rfl rfl rfl fun ac hs => ?_))
  refine wpList_nil ?_
  refine then_n ?_
  refine wp_seq ?_
  refine wp_region_lit ?_
  refine lstep (wpO_plain rfl (op_load hs none 1 (v := At .u8 32 f) rfl rfl rfl rfl Try.isAgg35 Try.sizeOf35 ldv_tab rfl fun ac hs => ?_))
  obtain ⟨T3, hT3, oT3⟩ := mkLift (pr f 0 32)
  refine lstep (wpO_plain rfl (op_call (F := 29) hs none (v := .tuple #[PV (px T3) (py T3) (pz T3), .bool (!pz T3)]) rfl rfl rfl rfl (Try.call29 _) (lift14_c f T3 hf hT3) rfl fun ac w hs => ?_))
  refine lstep (wpO_plain rfl (op_move hs none rfl rfl rfl rfl fun ac hs => ?_))
  refine lstep (wpO_plain rfl (op_extract hs none rfl rfl rfl rfl rfl fun ac hs => ?_))
  refine lstep (wpO_plain rfl (op_extract hs none rfl rfl rfl rfl rfl fun ac hs => ?_))
  refine lstep (wpO_plain rfl (op_alloc hs none none (cs := (PVl 0 0 false)) rfl rfl Try.zeroValue26 (by kernel_rfl) rfl rfl fun g4 ac w hs => ?_))
  refine lstep (wpO_plain rfl (op_store hs 2 (vs := (PVl (px T3) (py T3) (pz T3))) rfl rfl rfl rfl rfl Try.sizeOf26 rfl rfl rfl rfl rfl fun w hs => ?_))
  refine lstep (wpO_plain rfl (op_assign hs none rfl rfl rfl rfl fun ac hs => ?_))
  refine wpList_nil ?_
  refine then_n ?_
  refine wp_seq ?_
  refine wp_seq ?_
  by_cases hq5 : pz T3 = true
  · skip
    replace hs := hs.re (fs' := [(0, true, PV x y z), (1, true, At .u8 32 f), (2, true, .pointer (some ⟨g1, 0, none⟩)), (3, true, .pointer (some ⟨g2, 0, none⟩)), (4, true, .bool false), (11, true, At .u8 32 f), (12, true, .tuple #[PV (px T3) (py T3) (pz T3), .bool (!pz T3)]), (10, true, .tuple #[PV (px T3) (py T3) (pz T3), .bool (!pz T3)]), (13, true, PV (px T3) (py T3) (pz T3)), (14, true, .bool (!pz T3)), (5, true, .pointer (some ⟨g4, 0, none⟩)), (6, true, .bool false)]) ⟨rfl, rfl, rfl, rfl, rfl, rfl, rfl, rfl, rfl, rfl, rfl, congrArg some (congrArg Value.bool (by rw [hq5]; rfl)), trivial⟩
    replace hs : St 89 w0 [(2, true, .pointer (some ⟨g1, 0, none⟩)), (3, true, .pointer (some ⟨g2, 0, none⟩)), (4, true, .bool false), (5, true, .pointer (some ⟨g4, 0, none⟩)), (6, true, .bool false)] [(true, g1, 26, (PVl x y z)), (true, g2, 35, (tab .u8 32 f)), (true, g4, 26, (PVl (px T3) (py T3) (pz T3)))] ac _ := hs.re ⟨rfl, rfl, rfl, rfl, rfl, trivial⟩
    refine region_inv [([], [1, 2, 3, 4, 5, 6, 7, 8, 9, 10, 11, 12, 13, 14, 15, 16, 17, 18, 19, 20, 21, 22, 23, 24, 25]), ([0], [2, 3, 4, 5, 6, 7, 8, 9, 10, 11, 12, 13, 14, 15, 16, 17, 18, 19, 20, 21, 22, 23, 24, 25]), ([0, 1], [3, 4, 5, 6, 7, 8, 9, 10, 11, 12, 13, 14, 15, 16, 17, 18, 19, 20, 21, 22, 23, 24, 25]), ([0, 1, 2], [4, 5, 6, 7, 8, 9, 10, 11, 12, 13, 14, 15, 16, 17, 18, 19, 20, 21, 22, 23, 24, 25]), ([0, 1, 2, 3], [5, 6, 7, 8, 9, 10, 11, 12, 13, 14, 15, 16, 17, 18, 19, 20, 21, 22, 23, 24, 25]), ([0, 1, 2, 3, 4], [6, 7, 8, 9, 10, 11, 12, 13, 14, 15, 16, 17, 18, 19, 20, 21, 22, 23, 24, 25]), ([0, 1, 2, 3, 4, 5], [7, 8, 9, 10, 11, 12, 13, 14, 15, 16, 17, 18, 19, 20, 21, 22, 23, 24, 25]), ([0, 1, 2, 3, 4, 5, 6], [8, 9, 10, 11, 12, 13, 14, 15, 16, 17, 18, 19, 20, 21, 22, 23, 24, 25]), ([0, 1, 2, 3, 4, 5, 6, 7], [9, 10, 11, 12, 13, 14, 15, 16, 17, 18, 19, 20, 21, 22, 23, 24, 25]), ([0, 1, 2, 3, 4, 5, 6, 7, 8], [10, 11, 12, 13, 14, 15, 16, 17, 18, 19, 20, 21, 22, 23, 24, 25]), ([0, 1, 2, 3, 4, 5, 6, 7, 8, 9], [11, 12, 13, 14, 15, 16, 17, 18, 19, 20, 21, 22, 23, 24, 25]), ([0, 1, 2, 3, 4, 5, 6, 7, 8, 9, 10], [12, 14, 15, 16, 17, 18, 19, 20, 21, 22, 23, 24, 25]), ([0, 1, 2, 3, 4, 5, 6, 7, 8, 9, 10, 11], [14, 15, 16, 17, 18, 19, 20, 21, 22, 23, 24, 25]), ([0, 1, 2, 3, 4, 5, 6, 7, 8, 9, 10], [14, 15, 16, 17, 18, 19, 20, 21, 22, 23, 24, 25]), ([0, 1, 2, 3, 4, 5, 6, 7, 8, 9, 10, 11, 12, 13], [15, 16, 17, 18, 19, 20, 21, 22, 23, 24, 25]), ([0, 1, 2, 3, 4, 5, 6, 7, 8, 9, 10, 11, 12, 13, 14], [16, 17, 18, 19, 20, 21, 22, 23, 24, 25]), ([0, 1, 2, 3, 4, 5, 6, 7, 8, 9, 10, 11, 12, 13, 14, 15], [17, 18, 19, 20, 21, 22, 23, 24, 25]), ([0, 1, 2, 3, 4, 5, 6, 7, 8, 9, 10, 11, 12, 13, 14, 15, 16], [18, 19, 20, 21, 22, 23, 24, 25]), ([0, 1, 2, 3, 4, 5, 6, 7, 8, 9, 10, 11, 12, 13, 14, 15, 16, 17], [19, 20, 21, 22, 23, 24, 25]), ([0, 1, 2, 3, 4, 5, 6, 7, 8, 9, 10, 11, 12, 13, 14, 15, 16, 17, 18], [20, 21, 22, 23, 24, 25]), ([0, 1, 2, 3, 4, 5, 6, 7, 8, 9, 10, 11, 12, 13, 14, 15, 16, 17, 18, 19], [21, 22, 23, 24, 25]), ([0, 1, 2, 3, 4, 5, 6, 7, 8, 9, 10, 11, 12, 13, 14, 15, 16, 17, 18, 19, 20], [23, 24, 25]), ([0, 1, 2, 3, 4, 5, 6, 7, 8, 9, 10, 11, 12, 13, 14, 15, 16, 17, 18, 19, 20], [23, 24, 25]), ([0, 1, 2, 3, 4, 5, 6, 7, 8, 9, 10, 11, 12, 13, 14, 15, 16, 17, 18, 19, 20, 21, 22], [24, 25]), ([0, 1, 2, 3, 4, 5, 6, 7, 8, 9, 10, 11, 12, 13, 14, 15, 16, 17, 18, 19, 20, 21, 22, 23], [25]), ([0, 1, 2, 3, 4, 5, 6, 7, 8, 9, 10, 11, 12, 13, 14, 15, 16, 17, 18, 19, 20, 21, 22, 23, 24], [])] (fun L ac w => St 89 w0 [(15, L 0, .bool false), (16, L 1, .bool false), (17, L 2, undef), (18, L 3, undef), (19, L 4, undef), (20, L 5, undef), (21, L 6, undef), (22, L 7, undef), (23, L 8, undef), (24, L 9, undef), (25, L 10, undef), (26, L 11, undef), (27, L 12, undef), (28, L 13, undef), (29, L 14, undef), (30, L 15, undef), (31, L 16, .bool false), (32, L 17, .bool false), (33, L 18, .bool false), (34, L 19, .bool true), (35, L 20, .bool true), (36, L 21, PV (px T3) (py T3) (pz T3)), (37, L 22, PV 0 0 true), (38, L 23, .bool false), (39, L 24, .bool false), (40, L 25, .bool false), (2, true, .pointer (some ⟨g1, 0, none⟩)), (3, true, .pointer (some ⟨g2, 0, none⟩)), (4, true, .bool false), (5, true, .pointer (some ⟨g4, 0, none⟩)), (6, true, .bool false)] [(true, g1, 26, (PVl x y z)), (true, g2, 35, (tab .u8 32 f)), (true, g4, 26, (PVl (px T3) (py T3) (pz T3)))] ac w) (by kernel_rfl) (by kernel_rfl) ?_ ?_ ?_
    · exact hs.drew.skip.skip.skip.skip.skip.skip.skip.skip.skip.skip.skip.skip.skip.skip.skip.skip.skip.skip.skip.skip.skip.skip.skip.skip.skip.skip
    · refine ⟨?_, ?_, ?_, ?_, ?_, ?_, ?_, ?_, ?_, ?_, ?_, ?_, ?_, ?_, ?_, ?_, ?_, ?_, ?_, ?_, ?_, ?_, ?_, ?_, ?_, ?_, trivial⟩
      · intro L ac w hJ
        have hs := hJ
        refine wpO_plain rfl (op_move hs (some 0) rfl rfl rfl rfl fun ac hs => ?_)
        exact hs
      · intro L ac w hJ
        have hs := hJ
        refine wpO_plain rfl (op_move hs (some 1) rfl rfl rfl rfl fun ac hs => ?_)
        exact hs
      · intro L ac w hJ
        have hs := hJ
        refine wpO_out hs (some 2) rfl rfl (.inl rfl) rfl rfl fun ac hs => ?_
        exact hs
      · intro L ac w hJ
        have hs := hJ
        refine wpO_out hs (some 3) rfl rfl (.inl rfl) rfl rfl fun ac hs => ?_
        exact hs
      · intro L ac w hJ
        have hs := hJ
        refine wpO_out hs (some 4) rfl rfl (.inl rfl) rfl rfl fun ac hs => ?_
        exact hs
      · intro L ac w hJ
        have hs := hJ
        refine wpO_out hs (some 5) rfl rfl (.inl rfl) rfl rfl fun ac hs => ?_
        exact hs
      · intro L ac w hJ
        have hs := hJ
        refine wpO_out hs (some 6) rfl rfl (.inr rfl) rfl rfl fun ac hs => ?_
        exact hs
      · intro L ac w hJ
        have hs := hJ
        refine wpO_out hs (some 7) rfl rfl (.inr rfl) rfl rfl fun ac hs => ?_
        exact hs
      · intro L ac w hJ
        have hs := hJ
        refine wpO_out hs (some 8) rfl rfl (.inr rfl) rfl rfl fun ac hs => ?_
        exact hs
      · intro L ac w hJ
        have hs := hJ
        refine wpO_out hs (some 9) rfl rfl (.inl rfl) rfl rfl fun ac hs => ?_
        exact hs
      · intro L ac w hJ
        have hs := hJ
        refine wpO_out hs (some 10) rfl rfl (.inl rfl) rfl rfl fun ac hs => ?_
        exact hs
      · intro L ac w hJ
        have hs := hJ
        refine wpO_out hs (some 11) rfl rfl (.inr rfl) rfl rfl fun ac hs => ?_
        exact hs
      · intro L ac w hJ
        have hs := hJ
        refine wpO_out hs (some 12) rfl rfl (.inr rfl) rfl rfl fun ac hs => ?_
        exact hs
      · intro L ac w hJ
        have hs := hJ
        refine wpO_out hs (some 13) rfl rfl (.inr rfl) rfl rfl fun ac hs => ?_
        exact hs
      · intro L ac w hJ
        have hs := hJ
        refine wpO_out hs (some 14) rfl rfl (.inr rfl) rfl rfl fun ac hs => ?_
        exact hs
      · intro L ac w hJ
        have hs := hJ
        refine wpO_out hs (some 15) rfl rfl (.inl rfl) rfl rfl fun ac hs => ?_
        exact hs
      · intro L ac w hJ
        have hs := hJ
        refine wpO_plain rfl (op_pickF hs (some 16) rfl rfl rfl rfl rfl fun ac hs => ?_)
        exact hs
      · intro L ac w hJ
        have hs := hJ
        refine wpO_plain rfl (op_move hs (some 17) rfl rfl rfl rfl fun ac hs => ?_)
        exact hs
      · intro L ac w hJ
        have hs := hJ
        refine wpO_in hs rfl rfl rfl (op_move hs (some 18) rfl rfl rfl rfl fun ac hs => ?_)
        exact hs
      · intro L ac w hJ
        have hs := hJ
        refine wpO_in hs rfl rfl rfl (op_un hs (some 19) (v := .bool true) rfl rfl rfl (fun _ => rfl) rfl fun ac hs => ?_)
        exact hs
      · intro L ac w hJ
        have hs := hJ
        refine wpO_in hs rfl rfl rfl (op_move hs (some 20) rfl rfl rfl rfl fun ac hs => ?_)
        exact hs
      · intro L ac w hJ
        have hs := hJ
        refine wpO_in hs rfl rfl rfl (op_load hs (some 21) 2 (v := PV (px T3) (py T3) (pz T3)) rfl rfl rfl rfl Try.isAgg26 Try.sizeOf26 rfl rfl fun ac hs => ?_)
        exact hs
      · intro L ac w hJ
        have hs := hJ
        refine wpO_in hs rfl rfl rfl (op_build hs (some 22) (qs := [(2, .bool true)]) (v := PV 0 0 true) rfl rfl rfl rfl (fun _ => by kernel_rfl) rfl fun ac hs => ?_)
        exact hs
      · intro L ac w hJ
        have hs := hJ
        refine wpO_in hs rfl rfl rfl (op_bin hs (some 23) (v := .bool false) rfl rfl rfl rfl (fun w => run_eqGuard_agg w .neq 26 _ _ _ _ Try.eqGuardType26) (neqP (px T3) (py T3) 0 0 (pz T3) true (px_lt T3) (py_lt T3) (by decide) (by decide) false (decide_eq_true (pt_eqO (pz_O hq5)))) rfl fun ac hs => ?_)
        exact hs
      · intro L ac w hJ
        have hs := hJ
        refine wpO_in hs rfl rfl rfl (op_pickT hs (some 24) rfl rfl rfl rfl rfl fun ac hs => ?_)
        exact hs
      · intro L ac w hJ
        have hs := hJ
        refine wpO_plain rfl (op_pickF hs (some 25) rfl rfl rfl rfl rfl fun ac hs => ?_)
        exact hs
    intro ac w hJ
    replace hs : St 89 w0 [(15, true, .bool false), (16, true, .bool false), (17, true, undef), (18, true, undef), (19, true, undef), (20, true, undef), (21, true, undef), (22, true, undef), (23, true, undef), (24, true, undef), (25, true, undef), (26, true, undef), (27, true, undef), (28, true, undef), (29, true, undef), (30, true, undef), (31, true, .bool false), (32, true, .bool false), (33, true, .bool false), (34, true, .bool true), (35, true, .bool true), (36, true, PV (px T3) (py T3) (pz T3)), (37, true, PV 0 0 true), (38, true, .bool false), (39, true, .bool false), (40, true, .bool false), (2, true, .pointer (some ⟨g1, 0, none⟩)), (3, true, .pointer (some ⟨g2, 0, none⟩)), (4, true, .bool false), (5, true, .pointer (some ⟨g4, 0, none⟩)), (6, true, .bool false)] [(true, g1, 26, (PVl x y z)), (true, g2, 35, (tab .u8 32 f)), (true, g4, 26, (PVl (px T3) (py T3) (pz T3)))] ac w := hJ
    refine then_n ?_
    refine wp_cond_false (hs.ev rfl) ?_
    refine wp_skip ?_
    refine then_n ?_
    refine wp_seq ?_
    refine wp_seq ?_
    by_cases hq6 : onB x y z = true
    · skip
      refine wp_region_lit ?_
      refine lstep (wpO_plain rfl (op_load hs none 0 (v := PV x y z) rfl rfl rfl rfl Try.isAgg26 Try.sizeOf26 rfl rfl fun ac hs => ?_))
      refine lstep (wpO_plain rfl (op_call (F := 15) hs none (v := .bool true) rfl rfl rfl rfl (Try.call15 _) (on_c x y z true hx hy hq6) rfl fun ac w hs => ?_))
      refine lstep (wpO_plain rfl (op_un hs none (v := .bool false) rfl rfl rfl (fun _ => rfl) rfl fun ac hs => ?_))
      refine lstep (wpO_plain rfl (op_move hs none rfl rfl rfl rfl fun ac hs => ?_))
      refine lstep (wpO_in hs rfl rfl rfl (op_fieldA hs none rfl rfl rfl Try.underlying26 rfl Try.sizeOf4 (by decide) rfl fun ac hs => ?_))
      refine lstep (wpO_in hs rfl rfl rfl (op_load hs none 0 (v := .bool z) rfl rfl rfl rfl Try.isAgg4 Try.sizeOf4 rfl rfl fun ac hs => ?_))
      refine lstep (wpO_plain rfl (op_pickF hs none rfl rfl rfl rfl rfl fun ac hs => ?_))
      refine wpList_nil ?_
      refine then_n ?_
      refine wp_cond_split (hs.ev rfl) (fun hc => ?_) (fun hc => ?_)
      · skip
        have hzz := hc
        refine wp_seq ?_
        replace hs : St 89 w0 [(2, true, .pointer (some ⟨g1, 0, none⟩)), (4, true, .bool false)] [(true, g1, 26, (PVl x y z)), (true, g2, 35, (tab .u8 32 f)), (true, g4, 26, (PVl (px T3) (py T3) (pz T3)))] ac _ := hs.re ⟨rfl, rfl, trivial⟩
        refine wp_region_lit ?_
        refine lstep (wpO_plain rfl (op_call (F := 10) hs none (v := .bool true) rfl rfl rfl rfl (Try.call10 _) alive_c rfl fun ac w hs => ?_))
        refine lstep (wpO_plain rfl (op_move hs none rfl rfl rfl rfl fun ac hs => ?_))
        refine lstep (wpO_in hs rfl rfl rfl (op_load hs none 0 (v := PV x y z) rfl rfl rfl rfl Try.isAgg26 Try.sizeOf26 rfl rfl fun ac hs => ?_))
        refine lstep (wpO_in hs rfl rfl rfl (op_call (F := 21) hs none (v := .bool (evB P)) rfl rfl rfl rfl (Try.call21 _) (even_c x y z P _ hx hy hP rfl) rfl fun ac w hs => ?_))
        refine lstep (wpO_in hs rfl rfl rfl (op_un hs none (v := .bool (!(evB P))) rfl rfl rfl (fun _ => rfl) rfl fun ac hs => ?_))
        refine lstep (wpO_plain rfl (op_pickT hs none rfl rfl rfl rfl rfl fun ac hs => ?_))
        refine lstep (wpO_plain rfl (op_assign hs none rfl rfl rfl rfl fun ac hs => ?_))
        refine wpList_nil ?_
        refine then_n ?_
        refine wp_ret ?_
        refine then_r ?_
        exact bodyPost_ret (res1 rfl (rv_t hs rfl)) hs.defers ⟨by rw [show P = .O from hP.symm.trans (by rw [hzz]; rfl)]; rfl, hs.below⟩
      · skip
        have hzz := hc
        refine wp_skip ?_
        refine then_n ?_
        refine wp_seq ?_
        replace hs : St 89 w0 [(2, true, .pointer (some ⟨g1, 0, none⟩)), (4, true, .bool false)] [(true, g1, 26, (PVl x y z)), (true, g2, 35, (tab .u8 32 f)), (true, g4, 26, (PVl (px T3) (py T3) (pz T3)))] ac _ := hs.re ⟨rfl, rfl, trivial⟩
        refine wp_region_lit ?_
        refine lstep (wpO_plain rfl (op_load hs none 0 (v := PV x y z) rfl rfl rfl rfl Try.isAgg26 Try.sizeOf26 rfl rfl fun ac hs => ?_))
        refine lstep (wpO_plain rfl (op_call (F := 19) hs none (v := At .u8 32 (by8 (px P))) rfl rfl rfl rfl (Try.call19 _) (pbytes_c x y z P hx hy hP) rfl fun ac w hs => ?_))
        obtain ⟨T7, hT7, oT7⟩ := mkLift (pr (by8 (px P)) 0 32)
        refine lstep (wpO_plain rfl (op_call (F := 29) hs none (v := .tuple #[PV (px T7) (py T7) (pz T7), .bool (!pz T7)]) rfl rfl rfl rfl (Try.call29 _) (lift14_c (by8 (px P)) T7 (fun j _ => by8_lt (px P) j) hT7) rfl fun ac w hs => ?_))
        refine lstep (wpO_plain rfl (op_move hs none rfl rfl rfl rfl fun ac hs => ?_))
        refine lstep (wpO_plain rfl (op_extract hs none rfl rfl rfl rfl rfl fun ac hs => ?_))
        refine lstep (wpO_plain rfl (op_extract hs none rfl rfl rfl rfl rfl fun ac hs => ?_))
        refine lstep (wpO_plain rfl (op_alloc hs none none (cs := (PVl 0 0 false)) rfl rfl Try.zeroValue26 (by kernel_rfl) rfl rfl fun g8 ac w hs => ?_))
        refine lstep (wpO_plain rfl (op_store hs 3 (vs := (PVl (px T7) (py T7) (pz T7))) rfl rfl rfl rfl rfl Try.sizeOf26 rfl rfl rfl rfl rfl fun w hs => ?_))
        refine lstep (wpO_plain rfl (op_assign hs none rfl rfl rfl rfl fun ac hs => ?_))
        refine wpList_nil ?_
        have hzP : pz P = false := by rw [← hP, (on_yes hq6).2.2]; exact hzz
        have hL : T7 = if evB P = true then P else P.neg := by rw [← hT7, pr_by8_all (px_lt P)]; exact lift_back oP hzP
        have hz2 : pz T7 = false := by rw [hL]; split; exact hzP; exact (neg_A hzP).2.2
        replace hs := hs.re (fs' := [(2, true, .pointer (some ⟨g1, 0, none⟩)), (4, true, .bool false), (55, true, PV x y z), (56, true, At .u8 32 (by8 (px P))), (57, true, .tuple #[PV (px T7) (py T7) (pz T7), .bool (!pz T7)]), (54, true, .tuple #[PV (px T7) (py T7) (pz T7), .bool (!pz T7)]), (58, true, PV (px T7) (py T7) (pz T7)), (59, true, .bool (!pz T7)), (7, true, .pointer (some ⟨g8, 0, none⟩)), (8, true, .bool true)]) ⟨rfl, rfl, rfl, rfl, rfl, rfl, rfl, rfl, rfl, congrArg some (congrArg Value.bool (by rw [hz2]; rfl)), trivial⟩
        refine then_n ?_
        refine wp_seq ?_
        replace hs : St 89 w0 [(2, true, .pointer (some ⟨g1, 0, none⟩)), (4, true, .bool false), (7, true, .pointer (some ⟨g8, 0, none⟩)), (8, true, .bool true)] [(true, g1, 26, (PVl x y z)), (true, g2, 35, (tab .u8 32 f)), (true, g4, 26, (PVl (px T3) (py T3) (pz T3))), (true, g8, 26, (PVl (px T7) (py T7) (pz T7)))] ac _ := hs.re ⟨rfl, rfl, rfl, rfl, trivial⟩
        refine wp_region_lit ?_
        refine lstep (wpO_plain rfl (op_load hs none 0 (v := PV x y z) rfl rfl rfl rfl Try.isAgg26 Try.sizeOf26 rfl rfl fun ac hs => ?_))
        obtain ⟨T9, hT9, oT9⟩ := mkNeg oP
        refine lstep (wpO_plain rfl (op_call (F := 16) hs none (v := PV (px T9) (py T9) (pz T9)) rfl rfl rfl rfl (Try.call16 _) (neg_c x y z P T9 hx hy hP hT9) rfl fun ac w hs => ?_))
        refine lstep (wpO_plain rfl (op_alloc hs none none (cs := (PVl 0 0 false)) rfl rfl Try.zeroValue26 (by kernel_rfl) rfl rfl fun g10 ac w hs => ?_))
        refine lstep (wpO_plain rfl (op_store hs 4 (vs := (PVl (px T9) (py T9) (pz T9))) rfl rfl rfl rfl rfl Try.sizeOf26 rfl rfl rfl rfl rfl fun w hs => ?_))
        refine wpList_nil ?_
        refine then_n ?_
        refine wp_seq ?_
        by_cases hq11 : evB P = true
        · skip
          replace hs : St 89 w0 [(2, true, .pointer (some ⟨g1, 0, none⟩)), (4, true, .bool false), (7, true, .pointer (some ⟨g8, 0, none⟩)), (8, true, .bool true), (9, true, .pointer (some ⟨g10, 0, none⟩))] [(true, g1, 26, (PVl x y z)), (true, g2, 35, (tab .u8 32 f)), (true, g4, 26, (PVl (px T3) (py T3) (pz T3))), (true, g8, 26, (PVl (px T7) (py T7) (pz T7))), (true, g10, 26, (PVl (px T9) (py T9) (pz T9)))] ac _ := hs.re ⟨rfl, rfl, rfl, rfl, rfl, trivial⟩
          refine region_inv [([], [1, 2, 3, 4, 5, 6, 7, 8, 9, 10, 11, 12, 13, 14, 15, 16, 17, 18, 19, 20, 21, 22, 23, 24, 25, 26, 27]), ([0], [2, 3, 4, 5, 6, 7, 8, 9, 10, 11, 12, 13, 14, 15, 16, 17, 18, 19, 20, 21, 22, 23, 24, 25, 26, 27]), ([0, 1], [3, 4, 5, 6, 7, 8, 9, 10, 11, 12, 13, 14, 15, 16, 17, 18, 19, 20, 21, 22, 23, 24, 25, 26, 27]), ([0, 1, 2], [4, 5, 6, 7, 8, 9, 10, 11, 12, 13, 14, 15, 16, 17, 18, 19, 20, 21, 22, 23, 24, 25, 26, 27]), ([0, 1, 2, 3], [5, 6, 7, 8, 9, 10, 11, 12, 13, 14, 15, 16, 17, 18, 19, 20, 21, 22, 23, 24, 25, 26, 27]), ([0, 1, 2, 3, 4], [7, 10, 11, 12, 13, 14, 15, 16, 17, 18, 19, 20, 21, 22, 23, 24, 25, 26, 27]), ([0, 1, 2, 3, 4], [7, 10, 11, 12, 13, 14, 15, 16, 17, 18, 19, 20, 21, 22, 23, 24, 25, 26, 27]), ([0, 1, 2, 3, 4, 5, 6], [10, 11, 12, 13, 14, 15, 16, 17, 18, 19, 20, 21, 22, 23, 24, 25, 26, 27]), ([0, 1, 2, 3, 4], [9, 10, 11, 12, 13, 14, 15, 16, 17, 18, 19, 20, 21, 22, 23, 24, 25, 26, 27]), ([0, 1, 2, 3, 4, 8], [10, 11, 12, 13, 14, 15, 16, 17, 18, 19, 20, 21, 22, 23, 24, 25, 26, 27]), ([0, 1, 2, 3, 4, 5, 6, 7, 8, 9], [11, 12, 13, 14, 15, 16, 17, 18, 19, 20, 21, 22, 23, 24, 25, 26, 27]), ([0, 1, 2, 3, 4, 5, 6, 7, 8, 9, 10], [12, 13, 14, 15, 16, 17, 18, 19, 20, 21, 22, 23, 24, 25, 26, 27]), ([0, 1, 2, 3, 4, 5, 6, 7, 8, 9, 10, 11], [13, 14, 15, 16, 17, 18, 19, 20, 21, 22, 23, 24, 25, 26, 27]), ([0, 1, 2, 3, 4, 5, 6, 7, 8, 9, 10, 11, 12], [15, 18, 19, 20, 21, 22, 23, 24, 25, 26, 27]), ([0, 1, 2, 3, 4, 5, 6, 7, 8, 9, 10, 11, 12], [15, 18, 19, 20, 21, 22, 23, 24, 25, 26, 27]), ([0, 1, 2, 3, 4, 5, 6, 7, 8, 9, 10, 11, 12, 13, 14], [18, 19, 20, 21, 22, 23, 24, 25, 26, 27]), ([0, 1, 2, 3, 4, 5, 6, 7, 8, 9, 10, 11, 12], [17, 18, 19, 20, 21, 22, 23, 24, 25, 26, 27]), ([0, 1, 2, 3, 4, 5, 6, 7, 8, 9, 10, 11, 12, 16], [18, 19, 20, 21, 22, 23, 24, 25, 26, 27]), ([0, 1, 2, 3, 4, 5, 6, 7, 8, 9, 10, 11, 12, 13, 14, 15, 16, 17], [19, 20, 21, 22, 23, 24, 25, 26, 27]), ([0, 1, 2, 3, 4, 5, 6, 7, 8, 9, 10, 11, 12, 13, 14, 15, 16, 17, 18], [20, 21, 22, 23, 24, 25, 26, 27]), ([0, 1, 2, 3, 4, 5, 6, 7, 8, 9, 10, 11, 12, 13, 14, 15, 16, 17, 18, 19], [21, 22, 23, 24, 25, 26, 27]), ([0, 1, 2, 3, 4, 5, 6, 7, 8, 9, 10, 11, 12, 13, 14, 15, 16, 17, 18, 19, 20], [22, 24, 25, 26, 27]), ([0, 1, 2, 3, 4, 5, 6, 7, 8, 9, 10, 11, 12, 13, 14, 15, 16, 17, 18, 19, 20, 21], [24, 25, 26, 27]), ([0, 1, 2, 3, 4, 5, 6, 7, 8, 9, 10, 11, 12, 13, 14, 15, 16, 17, 18, 19, 20], [24, 25, 26, 27]), ([0, 1, 2, 3, 4, 5, 6, 7, 8, 9, 10, 11, 12, 13, 14, 15, 16, 17, 18, 19, 20, 21, 22, 23], [25, 26, 27]), ([0, 1, 2, 3, 4, 5, 6, 7, 8, 9, 10, 11, 12, 13, 14, 15, 16, 17, 18, 19, 20, 21, 22, 23, 24], [26, 27]), ([0, 1, 2, 3, 4, 5, 6, 7, 8, 9, 10, 11, 12, 13, 14, 15, 16, 17, 18, 19, 20, 21, 22, 23, 24, 25], [27]), ([0, 1, 2, 3, 4, 5, 6, 7, 8, 9, 10, 11, 12, 13, 14, 15, 16, 17, 18, 19, 20, 21, 22, 23, 24, 25, 26], [])] (fun L ac w => St 89 w0 [(62, L 0, .bool true), (63, L 1, .bool true), (64, L 2, .bool true), (65, L 3, .bool true), (66, L 4, .bool true), (67, L 5, PV (px T7) (py T7) (pz T7)), (68, L 6, PV x y z), (69, L 7, .bool true), (70, L 8, PV x y z), (71, L 9, .bool true), (72, L 10, .bool true), (73, L 11, .bool true), (74, L 12, .bool true), (75, L 13, PV (px T7) (py T7) (pz T7)), (76, L 14, PV (px T9) (py T9) (pz T9)), (77, L 15, .bool false), (78, L 16, PV (px T9) (py T9) (pz T9)), (79, L 17, .bool false), (80, L 18, .bool true), (81, L 19, .bool true), (82, L 20, .bool true), (83, L 21, PV x y z), (84, L 22, .bool true), (85, L 23, PV (px T9) (py T9) (pz T9)), (86, L 24, .bool false), (87, L 25, .bool true), (88, L 26, .bool true), (4, L 27, .bool true), (2, true, .pointer (some ⟨g1, 0, none⟩)), (4, true, .bool false), (7, true, .pointer (some ⟨g8, 0, none⟩)), (8, true, .bool true), (9, true, .pointer (some ⟨g10, 0, none⟩))] [(true, g1, 26, (PVl x y z)), (true, g2, 35, (tab .u8 32 f)), (true, g4, 26, (PVl (px T3) (py T3) (pz T3))), (true, g8, 26, (PVl (px T7) (py T7) (pz T7))), (true, g10, 26, (PVl (px T9) (py T9) (pz T9)))] ac w) (by kernel_rfl) (by kernel_rfl) ?_ ?_ ?_
          · exact hs.drew.skip.skip.skip.skip.skip.skip.skip.skip.skip.skip.skip.skip.skip.skip.skip.skip.skip.skip.skip.skip.skip.skip.skip.skip.skip.skip.skip.skip
          · refine ⟨?_, ?_, ?_, ?_, ?_, ?_, ?_, ?_, ?_, ?_, ?_, ?_, ?_, ?_, ?_, ?_, ?_, ?_, ?_, ?_, ?_, ?_, ?_, ?_, ?_, ?_, ?_, ?_, trivial⟩
            · intro L ac w hJ
              have hs := hJ
              refine wpO_plain rfl (op_call (F := 10) hs (some 0) (v := .bool true) rfl rfl rfl rfl (Try.call10 _) alive_c rfl fun ac w hs => ?_)
              exact hs
            · intro L ac w hJ
              have hs := hJ
              refine wpO_plain rfl (op_move hs (some 1) rfl rfl rfl rfl fun ac hs => ?_)
              exact hs
            · intro L ac w hJ
              have hs := hJ
              refine wpO_in hs rfl rfl rfl (op_move hs (some 2) rfl rfl rfl rfl fun ac hs => ?_)
              exact hs
            · intro L ac w hJ
              have hs := hJ
              refine wpO_plain rfl (op_pickT hs (some 3) rfl rfl rfl rfl rfl fun ac hs => ?_)
              exact hs
            · intro L ac w hJ
              have hs := hJ
              refine wpO_plain rfl (op_move hs (some 4) rfl rfl rfl rfl fun ac hs => ?_)
              exact hs
            · intro L ac w hJ
              have hs := hJ
              refine wpO_in hs rfl rfl rfl (op_load hs (some 5) 3 (v := PV (px T7) (py T7) (pz T7)) rfl rfl rfl rfl Try.isAgg26 Try.sizeOf26 rfl rfl fun ac hs => ?_)
              exact hs
            · intro L ac w hJ
              have hs := hJ
              refine wpO_in hs rfl rfl rfl (op_load hs (some 6) 0 (v := PV x y z) rfl rfl rfl rfl Try.isAgg26 Try.sizeOf26 rfl rfl fun ac hs => ?_)
              exact hs
            · intro L ac w hJ
              have hs := hJ
              refine wpO_in hs rfl rfl rfl (op_bin hs (some 7) (v := .bool true) rfl rfl rfl rfl (fun w => run_eqGuard_agg w .eql 26 _ _ _ _ Try.eqGuardType26) (eqlP (px T7) (py T7) x y (pz T7) z (px_lt T7) (py_lt T7) hx hy true (decide_eq_true (raw_eq hq6 (by rw [hL, if_pos hq11, hP])))) rfl fun ac hs => ?_)
              exact hs
            · intro L ac w hJ
              have hs := hJ
              refine wpO_in hs rfl rfl rfl (op_load hs (some 8) 0 (v := PV x y z) rfl rfl rfl rfl Try.isAgg26 Try.sizeOf26 rfl rfl fun ac hs => ?_)
              exact hs
            · intro L ac w hJ
              have hs := hJ
              refine wpO_in hs rfl rfl rfl (op_call (F := 21) hs (some 9) (v := .bool true) rfl rfl rfl rfl (Try.call21 _) (even_c x y z P true hx hy hP hq11) rfl fun ac w hs => ?_)
              exact hs
            · intro L ac w hJ
              have hs := hJ
              refine wpO_in hs rfl rfl rfl (op_bin hs (some 10) (v := .bool true) rfl rfl rfl rfl (fun _ => rfl) (fun _ => by kernel_rfl) rfl fun ac hs => ?_)
              exact hs
            · intro L ac w hJ
              have hs := hJ
              refine wpO_plain rfl (op_pickT hs (some 11) rfl rfl rfl rfl rfl fun ac hs => ?_)
              exact hs
            · intro L ac w hJ
              have hs := hJ
              refine wpO_plain rfl (op_move hs (some 12) rfl rfl rfl rfl fun ac hs => ?_)
              exact hs
            · intro L ac w hJ
              have hs := hJ
              refine wpO_in hs rfl rfl rfl (op_load hs (some 13) 3 (v := PV (px T7) (py T7) (pz T7)) rfl rfl rfl rfl Try.isAgg26 Try.sizeOf26 rfl rfl fun ac hs => ?_)
              exact hs
            · intro L ac w hJ
              have hs := hJ
              refine wpO_in hs rfl rfl rfl (op_load hs (some 14) 4 (v := PV (px T9) (py T9) (pz T9)) rfl rfl rfl rfl Try.isAgg26 Try.sizeOf26 rfl rfl fun ac hs => ?_)
              exact hs
            · intro L ac w hJ
              have hs := hJ
              refine wpO_in hs rfl rfl rfl (op_bin hs (some 15) (v := .bool false) rfl rfl rfl rfl (fun w => run_eqGuard_agg w .eql 26 _ _ _ _ Try.eqGuardType26) (eqlP (px T7) (py T7) (px T9) (py T9) (pz T7) (pz T9) (px_lt T7) (py_lt T7) (px_lt T9) (py_lt T9) false (decide_eq_false (pt_ne (fun e => neg_ne oP hzP (by rw [hT9, ← e, hL, if_pos hq11]))))) rfl fun ac hs => ?_)
              exact hs
            · intro L ac w hJ
              have hs := hJ
              refine wpO_in hs rfl rfl rfl (op_load hs (some 16) 4 (v := PV (px T9) (py T9) (pz T9)) rfl rfl rfl rfl Try.isAgg26 Try.sizeOf26 rfl rfl fun ac hs => ?_)
              exact hs
            · intro L ac w hJ
              have hs := hJ
              refine wpO_in hs rfl rfl rfl (op_call (F := 21) hs (some 17) (v := .bool false) rfl rfl rfl rfl (Try.call21 _) (even_c (px T9) (py T9) (pz T9) T9 false (px_lt T9) (py_lt T9) (pt_back oT9) (Bool.eq_false_iff.2 (by rw [← hT9, ev_neg oP hzP, hq11]; decide))) rfl fun ac w hs => ?_)
              exact hs
            · intro L ac w hJ
              have hs := hJ
              refine wpO_in hs rfl rfl rfl (op_bin hs (some 18) (v := .bool true) rfl rfl rfl rfl (fun _ => rfl) (fun _ => by kernel_rfl) rfl fun ac hs => ?_)
              exact hs
            · intro L ac w hJ
              have hs := hJ
              refine wpO_plain rfl (op_pickT hs (some 19) rfl rfl rfl rfl rfl fun ac hs => ?_)
              exact hs
            · intro L ac w hJ
              have hs := hJ
              refine wpO_plain rfl (op_move hs (some 20) rfl rfl rfl rfl fun ac hs => ?_)
              exact hs
            · intro L ac w hJ
              have hs := hJ
              refine wpO_in hs rfl rfl rfl (op_load hs (some 21) 0 (v := PV x y z) rfl rfl rfl rfl Try.isAgg26 Try.sizeOf26 rfl rfl fun ac hs => ?_)
              exact hs
            · intro L ac w hJ
              have hs := hJ
              refine wpO_in hs rfl rfl rfl (op_call (F := 21) hs (some 22) (v := .bool true) rfl rfl rfl rfl (Try.call21 _) (even_c x y z P true hx hy hP hq11) rfl fun ac w hs => ?_)
              exact hs
            · intro L ac w hJ
              have hs := hJ
              refine wpO_in hs rfl rfl rfl (op_load hs (some 23) 4 (v := PV (px T9) (py T9) (pz T9)) rfl rfl rfl rfl Try.isAgg26 Try.sizeOf26 rfl rfl fun ac hs => ?_)
              exact hs
            · intro L ac w hJ
              have hs := hJ
              refine wpO_in hs rfl rfl rfl (op_call (F := 21) hs (some 24) (v := .bool false) rfl rfl rfl rfl (Try.call21 _) (even_c (px T9) (py T9) (pz T9) T9 false (px_lt T9) (py_lt T9) (pt_back oT9) (Bool.eq_false_iff.2 (by rw [← hT9, ev_neg oP hzP, hq11]; decide))) rfl fun ac w hs => ?_)
              exact hs
            · intro L ac w hJ
              have hs := hJ
              refine wpO_in hs rfl rfl rfl (op_bin hs (some 25) (v := .bool true) rfl rfl rfl rfl (fun _ => rfl) (fun _ => by kernel_rfl) rfl fun ac hs => ?_)
              exact hs
            · intro L ac w hJ
              have hs := hJ
              refine wpO_plain rfl (op_pickT hs (some 26) rfl rfl rfl rfl rfl fun ac hs => ?_)
              exact hs
            · intro L ac w hJ
              have hs := hJ
              refine wpO_plain rfl (op_assign hs (some 27) rfl rfl rfl rfl fun ac hs => ?_)
              exact hs
          intro ac w hJ
          replace hs : St 89 w0 [(62, true, .bool true), (63, true, .bool true), (64, true, .bool true), (65, true, .bool true), (66, true, .bool true), (67, true, PV (px T7) (py T7) (pz T7)), (68, true, PV x y z), (69, true, .bool true), (70, true, PV x y z), (71, true, .bool true), (72, true, .bool true), (73, true, .bool true), (74, true, .bool true), (75, true, PV (px T7) (py T7) (pz T7)), (76, true, PV (px T9) (py T9) (pz T9)), (77, true, .bool false), (78, true, PV (px T9) (py T9) (pz T9)), (79, true, .bool false), (80, true, .bool true), (81, true, .bool true), (82, true, .bool true), (83, true, PV x y z), (84, true, .bool true), (85, true, PV (px T9) (py T9) (pz T9)), (86, true, .bool false), (87, true, .bool true), (88, true, .bool true), (4, true, .bool true), (2, true, .pointer (some ⟨g1, 0, none⟩)), (4, true, .bool false), (7, true, .pointer (some ⟨g8, 0, none⟩)), (8, true, .bool true), (9, true, .pointer (some ⟨g10, 0, none⟩))] [(true, g1, 26, (PVl x y z)), (true, g2, 35, (tab .u8 32 f)), (true, g4, 26, (PVl (px T3) (py T3) (pz T3))), (true, g8, 26, (PVl (px T7) (py T7) (pz T7))), (true, g10, 26, (PVl (px T9) (py T9) (pz T9)))] ac w := hJ
          refine then_n ?_
          refine wp_ret ?_
          exact bodyPost_ret (res1 rfl (rv_t hs rfl)) hs.defers ⟨rfl, hs.below⟩
        · skip
          replace hs : St 89 w0 [(2, true, .pointer (some ⟨g1, 0, none⟩)), (4, true, .bool false), (7, true, .pointer (some ⟨g8, 0, none⟩)), (8, true, .bool true), (9, true, .pointer (some ⟨g10, 0, none⟩))] [(true, g1, 26, (PVl x y z)), (true, g2, 35, (tab .u8 32 f)), (true, g4, 26, (PVl (px T3) (py T3) (pz T3))), (true, g8, 26, (PVl (px T7) (py T7) (pz T7))), (true, g10, 26, (PVl (px T9) (py T9) (pz T9)))] ac _ := hs.re ⟨rfl, rfl, rfl, rfl, rfl, trivial⟩
          refine region_inv [([], [1, 2, 3, 4, 5, 6, 7, 8, 9, 10, 11, 12, 13, 14, 15, 16, 17, 18, 19, 20, 21, 22, 23, 24, 25, 26, 27]), ([0], [2, 3, 4, 5, 6, 7, 8, 9, 10, 11, 12, 13, 14, 15, 16, 17, 18, 19, 20, 21, 22, 23, 24, 25, 26, 27]), ([0, 1], [3, 4, 5, 6, 7, 8, 9, 10, 11, 12, 13, 14, 15, 16, 17, 18, 19, 20, 21, 22, 23, 24, 25, 26, 27]), ([0, 1, 2], [4, 5, 6, 7, 8, 9, 10, 11, 12, 13, 14, 15, 16, 17, 18, 19, 20, 21, 22, 23, 24, 25, 26, 27]), ([0, 1, 2, 3], [5, 6, 7, 8, 9, 10, 11, 12, 13, 14, 15, 16, 17, 18, 19, 20, 21, 22, 23, 24, 25, 26, 27]), ([0, 1, 2, 3, 4], [7, 10, 11, 12, 13, 14, 15, 16, 17, 18, 19, 20, 21, 22, 23, 24, 25, 26, 27]), ([0, 1, 2, 3, 4], [7, 10, 11, 12, 13, 14, 15, 16, 17, 18, 19, 20, 21, 22, 23, 24, 25, 26, 27]), ([0, 1, 2, 3, 4, 5, 6], [10, 11, 12, 13, 14, 15, 16, 17, 18, 19, 20, 21, 22, 23, 24, 25, 26, 27]), ([0, 1, 2, 3, 4], [9, 10, 11, 12, 13, 14, 15, 16, 17, 18, 19, 20, 21, 22, 23, 24, 25, 26, 27]), ([0, 1, 2, 3, 4, 8], [10, 11, 12, 13, 14, 15, 16, 17, 18, 19, 20, 21, 22, 23, 24, 25, 26, 27]), ([0, 1, 2, 3, 4, 5, 6, 7, 8, 9], [11, 12, 13, 14, 15, 16, 17, 18, 19, 20, 21, 22, 23, 24, 25, 26, 27]), ([0, 1, 2, 3, 4, 5, 6, 7, 8, 9, 10], [12, 13, 14, 15, 16, 17, 18, 19, 20, 21, 22, 23, 24, 25, 26, 27]), ([0, 1, 2, 3, 4, 5, 6, 7, 8, 9, 10, 11], [13, 14, 15, 16, 17, 18, 19, 20, 21, 22, 23, 24, 25, 26, 27]), ([0, 1, 2, 3, 4, 5, 6, 7, 8, 9, 10, 11, 12], [15, 18, 19, 20, 21, 22, 23, 24, 25, 26, 27]), ([0, 1, 2, 3, 4, 5, 6, 7, 8, 9, 10, 11, 12], [15, 18, 19, 20, 21, 22, 23, 24, 25, 26, 27]), ([0, 1, 2, 3, 4, 5, 6, 7, 8, 9, 10, 11, 12, 13, 14], [18, 19, 20, 21, 22, 23, 24, 25, 26, 27]), ([0, 1, 2, 3, 4, 5, 6, 7, 8, 9, 10, 11, 12], [17, 18, 19, 20, 21, 22, 23, 24, 25, 26, 27]), ([0, 1, 2, 3, 4, 5, 6, 7, 8, 9, 10, 11, 12, 16], [18, 19, 20, 21, 22, 23, 24, 25, 26, 27]), ([0, 1, 2, 3, 4, 5, 6, 7, 8, 9, 10, 11, 12, 13, 14, 15, 16, 17], [19, 20, 21, 22, 23, 24, 25, 26, 27]), ([0, 1, 2, 3, 4, 5, 6, 7, 8, 9, 10, 11, 12, 13, 14, 15, 16, 17, 18], [20, 21, 22, 23, 24, 25, 26, 27]), ([0, 1, 2, 3, 4, 5, 6, 7, 8, 9, 10, 11, 12, 13, 14, 15, 16, 17, 18, 19], [21, 22, 23, 24, 25, 26, 27]), ([0, 1, 2, 3, 4, 5, 6, 7, 8, 9, 10, 11, 12, 13, 14, 15, 16, 17, 18, 19, 20], [22, 24, 25, 26, 27]), ([0, 1, 2, 3, 4, 5, 6, 7, 8, 9, 10, 11, 12, 13, 14, 15, 16, 17, 18, 19, 20, 21], [24, 25, 26, 27]), ([0, 1, 2, 3, 4, 5, 6, 7, 8, 9, 10, 11, 12, 13, 14, 15, 16, 17, 18, 19, 20], [24, 25, 26, 27]), ([0, 1, 2, 3, 4, 5, 6, 7, 8, 9, 10, 11, 12, 13, 14, 15, 16, 17, 18, 19, 20, 21, 22, 23], [25, 26, 27]), ([0, 1, 2, 3, 4, 5, 6, 7, 8, 9, 10, 11, 12, 13, 14, 15, 16, 17, 18, 19, 20, 21, 22, 23, 24], [26, 27]), ([0, 1, 2, 3, 4, 5, 6, 7, 8, 9, 10, 11, 12, 13, 14, 15, 16, 17, 18, 19, 20, 21, 22, 23, 24, 25], [27]), ([0, 1, 2, 3, 4, 5, 6, 7, 8, 9, 10, 11, 12, 13, 14, 15, 16, 17, 18, 19, 20, 21, 22, 23, 24, 25, 26], [])] (fun L ac w => St 89 w0 [(62, L 0, .bool true), (63, L 1, .bool true), (64, L 2, .bool true), (65, L 3, .bool true), (66, L 4, .bool true), (67, L 5, PV (px T7) (py T7) (pz T7)), (68, L 6, PV x y z), (69, L 7, .bool false), (70, L 8, PV x y z), (71, L 9, .bool false), (72, L 10, .bool true), (73, L 11, .bool true), (74, L 12, .bool true), (75, L 13, PV (px T7) (py T7) (pz T7)), (76, L 14, PV (px T9) (py T9) (pz T9)), (77, L 15, .bool true), (78, L 16, PV (px T9) (py T9) (pz T9)), (79, L 17, .bool true), (80, L 18, .bool true), (81, L 19, .bool true), (82, L 20, .bool true), (83, L 21, PV x y z), (84, L 22, .bool false), (85, L 23, PV (px T9) (py T9) (pz T9)), (86, L 24, .bool true), (87, L 25, .bool true), (88, L 26, .bool true), (4, L 27, .bool true), (2, true, .pointer (some ⟨g1, 0, none⟩)), (4, true, .bool false), (7, true, .pointer (some ⟨g8, 0, none⟩)), (8, true, .bool true), (9, true, .pointer (some ⟨g10, 0, none⟩))] [(true, g1, 26, (PVl x y z)), (true, g2, 35, (tab .u8 32 f)), (true, g4, 26, (PVl (px T3) (py T3) (pz T3))), (true, g8, 26, (PVl (px T7) (py T7) (pz T7))), (true, g10, 26, (PVl (px T9) (py T9) (pz T9)))] ac w) (by kernel_rfl) (by kernel_rfl) ?_ ?_ ?_
          · exact hs.drew.skip.skip.skip.skip.skip.skip.skip.skip.skip.skip.skip.skip.skip.skip.skip.skip.skip.skip.skip.skip.skip.skip.skip.skip.skip.skip.skip.skip
          · refine ⟨?_, ?_, ?_, ?_, ?_, ?_, ?_, ?_, ?_, ?_, ?_, ?_, ?_, ?_, ?_, ?_, ?_, ?_, ?_, ?_, ?_, ?_, ?_, ?_, ?_, ?_, ?_, ?_, trivial⟩
            · intro L ac w hJ
              have hs := hJ
              refine wpO_plain rfl (op_call (F := 10) hs (some 0) (v := .bool true) rfl rfl rfl rfl (Try.call10 _) alive_c rfl fun ac w hs => ?_)
              exact hs
            · intro L ac w hJ
              have hs := hJ
              refine wpO_plain rfl (op_move hs (some 1) rfl rfl rfl rfl fun ac hs => ?_)
              exact hs
            · intro L ac w hJ
              have hs := hJ
              refine wpO_in hs rfl rfl rfl (op_move hs (some 2) rfl rfl rfl rfl fun ac hs => ?_)
              exact hs
            · intro L ac w hJ
              have hs := hJ
              refine wpO_plain rfl (op_pickT hs (some 3) rfl rfl rfl rfl rfl fun ac hs => ?_)
              exact hs
            · intro L ac w hJ
              have hs := hJ
              refine wpO_plain rfl (op_move hs (some 4) rfl rfl rfl rfl fun ac hs => ?_)
              exact hs
            · intro L ac w hJ
              have hs := hJ
              refine wpO_in hs rfl rfl rfl (op_load hs (some 5) 3 (v := PV (px T7) (py T7) (pz T7)) rfl rfl rfl rfl Try.isAgg26 Try.sizeOf26 rfl rfl fun ac hs => ?_)
              exact hs
            · intro L ac w hJ
              have hs := hJ
              refine wpO_in hs rfl rfl rfl (op_load hs (some 6) 0 (v := PV x y z) rfl rfl rfl rfl Try.isAgg26 Try.sizeOf26 rfl rfl fun ac hs => ?_)
              exact hs
            · intro L ac w hJ
              have hs := hJ
              refine wpO_in hs rfl rfl rfl (op_bin hs (some 7) (v := .bool false) rfl rfl rfl rfl (fun w => run_eqGuard_agg w .eql 26 _ _ _ _ Try.eqGuardType26) (eqlP (px T7) (py T7) x y (pz T7) z (px_lt T7) (py_lt T7) hx hy false (decide_eq_false (fun hh => (fun e => neg_ne oP hzP (by rw [hL, if_neg hq11] at e; rw [e, hP])) ((raw_iff hq6).1 hh)))) rfl fun ac hs => ?_)
              exact hs
            · intro L ac w hJ
              have hs := hJ
              refine wpO_in hs rfl rfl rfl (op_load hs (some 8) 0 (v := PV x y z) rfl rfl rfl rfl Try.isAgg26 Try.sizeOf26 rfl rfl fun ac hs => ?_)
              exact hs
            · intro L ac w hJ
              have hs := hJ
              refine wpO_in hs rfl rfl rfl (op_call (F := 21) hs (some 9) (v := .bool false) rfl rfl rfl rfl (Try.call21 _) (even_c x y z P false hx hy hP (Bool.eq_false_iff.2 hq11)) rfl fun ac w hs => ?_)
              exact hs
            · intro L ac w hJ
              have hs := hJ
              refine wpO_in hs rfl rfl rfl (op_bin hs (some 10) (v := .bool true) rfl rfl rfl rfl (fun _ => rfl) (fun _ => by kernel_rfl) rfl fun ac hs => ?_)
              exact hs
            · intro L ac w hJ
              have hs := hJ
              refine wpO_plain rfl (op_pickT hs (some 11) rfl rfl rfl rfl rfl fun ac hs => ?_)
              exact hs
            · intro L ac w hJ
              have hs := hJ
              refine wpO_plain rfl (op_move hs (some 12) rfl rfl rfl rfl fun ac hs => ?_)
              exact hs
            · intro L ac w hJ
              have hs := hJ
              refine wpO_in hs rfl rfl rfl (op_load hs (some 13) 3 (v := PV (px T7) (py T7) (pz T7)) rfl rfl rfl rfl Try.isAgg26 Try.sizeOf26 rfl rfl fun ac hs => ?_)
              exact hs
            · intro L ac w hJ
              have hs := hJ
              refine wpO_in hs rfl rfl rfl (op_load hs (some 14) 4 (v := PV (px T9) (py T9) (pz T9)) rfl rfl rfl rfl Try.isAgg26 Try.sizeOf26 rfl rfl fun ac hs => ?_)
              exact hs
            · intro L ac w hJ
              have hs := hJ
              refine wpO_in hs rfl rfl rfl (op_bin hs (some 15) (v := .bool true) rfl rfl rfl rfl (fun w => run_eqGuard_agg w .eql 26 _ _ _ _ Try.eqGuardType26) (eqlP (px T7) (py T7) (px T9) (py T9) (pz T7) (pz T9) (px_lt T7) (py_lt T7) (px_lt T9) (py_lt T9) true (decide_eq_true (pt_eq (by rw [hL, if_neg hq11, hT9])))) rfl fun ac hs => ?_)
              exact hs
            · intro L ac w hJ
              have hs := hJ
              refine wpO_in hs rfl rfl rfl (op_load hs (some 16) 4 (v := PV (px T9) (py T9) (pz T9)) rfl rfl rfl rfl Try.isAgg26 Try.sizeOf26 rfl rfl fun ac hs => ?_)
              exact hs
            · intro L ac w hJ
              have hs := hJ
              refine wpO_in hs rfl rfl rfl (op_call (F := 21) hs (some 17) (v := .bool true) rfl rfl rfl rfl (Try.call21 _) (even_c (px T9) (py T9) (pz T9) T9 true (px_lt T9) (py_lt T9) (pt_back oT9) (by rw [← hT9, ev_neg oP hzP, Bool.eq_false_iff.2 hq11]; rfl)) rfl fun ac w hs => ?_)
              exact hs
            · intro L ac w hJ
              have hs := hJ
              refine wpO_in hs rfl rfl rfl (op_bin hs (some 18) (v := .bool true) rfl rfl rfl rfl (fun _ => rfl) (fun _ => by kernel_rfl) rfl fun ac hs => ?_)
              exact hs
            · intro L ac w hJ
              have hs := hJ
              refine wpO_plain rfl (op_pickT hs (some 19) rfl rfl rfl rfl rfl fun ac hs => ?_)
              exact hs
            · intro L ac w hJ
              have hs := hJ
              refine wpO_plain rfl (op_move hs (some 20) rfl rfl rfl rfl fun ac hs => ?_)
              exact hs
            · intro L ac w hJ
              have hs := hJ
              refine wpO_in hs rfl rfl rfl (op_load hs (some 21) 0 (v := PV x y z) rfl rfl rfl rfl Try.isAgg26 Try.sizeOf26 rfl rfl fun ac hs => ?_)
              exact hs
            · intro L ac w hJ
              have hs := hJ
              refine wpO_in hs rfl rfl rfl (op_call (F := 21) hs (some 22) (v := .bool false) rfl rfl rfl rfl (Try.call21 _) (even_c x y z P false hx hy hP (Bool.eq_false_iff.2 hq11)) rfl fun ac w hs => ?_)
              exact hs
            · intro L ac w hJ
              have hs := hJ
              refine wpO_in hs rfl rfl rfl (op_load hs (some 23) 4 (v := PV (px T9) (py T9) (pz T9)) rfl rfl rfl rfl Try.isAgg26 Try.sizeOf26 rfl rfl fun ac hs => ?_)
              exact hs
            · intro L ac w hJ
              have hs := hJ
              refine wpO_in hs rfl rfl rfl (op_call (F := 21) hs (some 24) (v := .bool true) rfl rfl rfl rfl (Try.call21 _) (even_c (px T9) (py T9) (pz T9) T9 true (px_lt T9) (py_lt T9) (pt_back oT9) (by rw [← hT9, ev_neg oP hzP, Bool.eq_false_iff.2 hq11]; rfl)) rfl fun ac w hs => ?_)
              exact hs
            · intro L ac w hJ
              have hs := hJ
              refine wpO_in hs rfl rfl rfl (op_bin hs (some 25) (v := .bool true) rfl rfl rfl rfl (fun _ => rfl) (fun _ => by kernel_rfl) rfl fun ac hs => ?_)
              exact hs
            · intro L ac w hJ
              have hs := hJ
              refine wpO_plain rfl (op_pickT hs (some 26) rfl rfl rfl rfl rfl fun ac hs => ?_)
              exact hs
            · intro L ac w hJ
              have hs := hJ
              refine wpO_plain rfl (op_assign hs (some 27) rfl rfl rfl rfl fun ac hs => ?_)
              exact hs
          intro ac w hJ
          replace hs : St 89 w0 [(62, true, .bool true), (63, true, .bool true), (64, true, .bool true), (65, true, .bool true), (66, true, .bool true), (67, true, PV (px T7) (py T7) (pz T7)), (68, true, PV x y z), (69, true, .bool false), (70, true, PV x y z), (71, true, .bool false), (72, true, .bool true), (73, true, .bool true), (74, true, .bool true), (75, true, PV (px T7) (py T7) (pz T7)), (76, true, PV (px T9) (py T9) (pz T9)), (77, true, .bool true), (78, true, PV (px T9) (py T9) (pz T9)), (79, true, .bool true), (80, true, .bool true), (81, true, .bool true), (82, true, .bool true), (83, true, PV x y z), (84, true, .bool false), (85, true, PV (px T9) (py T9) (pz T9)), (86, true, .bool true), (87, true, .bool true), (88, true, .bool true), (4, true, .bool true), (2, true, .pointer (some ⟨g1, 0, none⟩)), (4, true, .bool false), (7, true, .pointer (some ⟨g8, 0, none⟩)), (8, true, .bool true), (9, true, .pointer (some ⟨g10, 0, none⟩))] [(true, g1, 26, (PVl x y z)), (true, g2, 35, (tab .u8 32 f)), (true, g4, 26, (PVl (px T3) (py T3) (pz T3))), (true, g8, 26, (PVl (px T7) (py T7) (pz T7))), (true, g10, 26, (PVl (px T9) (py T9) (pz T9)))] ac w := hJ
          refine then_n ?_
          refine wp_ret ?_
          exact bodyPost_ret (res1 rfl (rv_t hs rfl)) hs.defers ⟨rfl, hs.below⟩
    · skip
      refine wp_region_lit ?_
      refine lstep (wpO_plain rfl (op_load hs none 0 (v := PV x y z) rfl rfl rfl rfl Try.isAgg26 Try.sizeOf26 rfl rfl fun ac hs => ?_))
      refine lstep (wpO_plain rfl (op_call (F := 15) hs none (v := .bool false) rfl rfl rfl rfl (Try.call15 _) (on_c x y z false hx hy (Bool.eq_false_iff.2 hq6)) rfl fun ac w hs => ?_))
      refine lstep (wpO_plain rfl (op_un hs none (v := .bool true) rfl rfl rfl (fun _ => rfl) rfl fun ac hs => ?_))
      refine lstep (wpO_plain rfl (op_move hs none rfl rfl rfl rfl fun ac hs => ?_))
      refine lstep (wpO_out hs none rfl rfl (.inl rfl) rfl rfl fun ac hs => ?_)
      refine lstep (wpO_out hs none rfl rfl (.inl rfl) rfl rfl fun ac hs => ?_)
      refine lstep (wpO_plain rfl (op_pickT hs none rfl rfl rfl rfl rfl fun ac hs => ?_))
      refine wpList_nil ?_
      refine then_n ?_
      refine wp_cond_true (hs.ev rfl) ?_
      refine wp_seq ?_
      refine wp_region_lit ?_
      refine lstep (wpO_plain rfl (op_call (F := 10) hs none (v := .bool true) rfl rfl rfl rfl (Try.call10 _) alive_c rfl fun ac w hs => ?_))
      refine lstep (wpO_plain rfl (op_move hs none rfl rfl rfl rfl fun ac hs => ?_))
      refine lstep (wpO_in hs rfl rfl rfl (op_load hs none 0 (v := PV x y z) rfl rfl rfl rfl Try.isAgg26 Try.sizeOf26 rfl rfl fun ac hs => ?_))
      refine lstep (wpO_in hs rfl rfl rfl (op_call (F := 21) hs none (v := .bool (evB P)) rfl rfl rfl rfl (Try.call21 _) (even_c x y z P _ hx hy hP rfl) rfl fun ac w hs => ?_))
      refine lstep (wpO_in hs rfl rfl rfl (op_un hs none (v := .bool (!(evB P))) rfl rfl rfl (fun _ => rfl) rfl fun ac hs => ?_))
      refine lstep (wpO_plain rfl (op_pickT hs none rfl rfl rfl rfl rfl fun ac hs => ?_))
      refine lstep (wpO_plain rfl (op_assign hs none rfl rfl rfl rfl fun ac hs => ?_))
      refine wpList_nil ?_
      refine then_n ?_
      refine wp_ret ?_
      refine then_r ?_
      exact bodyPost_ret (res1 rfl (rv_t hs rfl)) hs.defers ⟨by rw [show P = .O from hP.symm.trans (on_no hq6)]; rfl, hs.below⟩
  · skip
    replace hs := hs.re (fs' := [(0, true, PV x y z), (1, true, At .u8 32 f), (2, true, .pointer (some ⟨g1, 0, none⟩)), (3, true, .pointer (some ⟨g2, 0, none⟩)), (4, true, .bool false), (11, true, At .u8 32 f), (12, true, .tuple #[PV (px T3) (py T3) (pz T3), .bool (!pz T3)]), (10, true, .tuple #[PV (px T3) (py T3) (pz T3), .bool (!pz T3)]), (13, true, PV (px T3) (py T3) (pz T3)), (14, true, .bool (!pz T3)), (5, true, .pointer (some ⟨g4, 0, none⟩)), (6, true, .bool true)]) ⟨rfl, rfl, rfl, rfl, rfl, rfl, rfl, rfl, rfl, rfl, rfl, congrArg some (congrArg Value.bool (by rw [Bool.eq_false_iff.2 hq5]; rfl)), trivial⟩
    have hlv := lift_ev (a := pr f 0 32) (by rw [hT3]; exact Bool.eq_false_iff.2 hq5)
    rw [hT3] at hlv
    replace hs : St 89 w0 [(2, true, .pointer (some ⟨g1, 0, none⟩)), (3, true, .pointer (some ⟨g2, 0, none⟩)), (4, true, .bool false), (5, true, .pointer (some ⟨g4, 0, none⟩)), (6, true, .bool true)] [(true, g1, 26, (PVl x y z)), (true, g2, 35, (tab .u8 32 f)), (true, g4, 26, (PVl (px T3) (py T3) (pz T3)))] ac _ := hs.re ⟨rfl, rfl, rfl, rfl, rfl, trivial⟩
    refine region_inv [([], [1, 2, 3, 4, 5, 6, 7, 8, 9, 10, 11, 12, 13, 14, 15, 16, 17, 18, 19, 20, 21, 22, 23, 24, 25]), ([0], [2, 3, 4, 5, 6, 7, 8, 9, 10, 11, 12, 13, 14, 15, 16, 17, 18, 19, 20, 21, 22, 23, 24, 25]), ([0, 1], [3, 4, 5, 6, 7, 8, 9, 10, 11, 12, 13, 14, 15, 16, 17, 18, 19, 20, 21, 22, 23, 24, 25]), ([0, 1, 2], [4, 5, 6, 7, 8, 9, 10, 11, 12, 13, 14, 15, 16, 17, 18, 19, 20, 21, 22, 23, 24, 25]), ([0, 1, 2, 3], [5, 6, 7, 8, 9, 10, 11, 12, 13, 14, 15, 16, 17, 18, 19, 20, 21, 22, 23, 24, 25]), ([0, 1, 2, 3, 4], [6, 7, 8, 9, 10, 11, 12, 13, 14, 15, 16, 17, 18, 19, 20, 21, 22, 23, 24, 25]), ([0, 1, 2, 3, 4, 5], [7, 8, 9, 10, 11, 12, 13, 14, 15, 16, 17, 18, 19, 20, 21, 22, 23, 24, 25]), ([0, 1, 2, 3, 4, 5, 6], [8, 9, 10, 11, 12, 13, 14, 15, 16, 17, 18, 19, 20, 21, 22, 23, 24, 25]), ([0, 1, 2, 3, 4, 5, 6, 7], [9, 10, 11, 12, 13, 14, 15, 16, 17, 18, 19, 20, 21, 22, 23, 24, 25]), ([0, 1, 2, 3, 4, 5, 6, 7, 8], [10, 11, 12, 13, 14, 15, 16, 17, 18, 19, 20, 21, 22, 23, 24, 25]), ([0, 1, 2, 3, 4, 5, 6, 7, 8, 9], [11, 12, 13, 14, 15, 16, 17, 18, 19, 20, 21, 22, 23, 24, 25]), ([0, 1, 2, 3, 4, 5, 6, 7, 8, 9, 10], [12, 14, 15, 16, 17, 18, 19, 20, 21, 22, 23, 24, 25]), ([0, 1, 2, 3, 4, 5, 6, 7, 8, 9, 10, 11], [14, 15, 16, 17, 18, 19, 20, 21, 22, 23, 24, 25]), ([0, 1, 2, 3, 4, 5, 6, 7, 8, 9, 10], [14, 15, 16, 17, 18, 19, 20, 21, 22, 23, 24, 25]), ([0, 1, 2, 3, 4, 5, 6, 7, 8, 9, 10, 11, 12, 13], [15, 16, 17, 18, 19, 20, 21, 22, 23, 24, 25]), ([0, 1, 2, 3, 4, 5, 6, 7, 8, 9, 10, 11, 12, 13, 14], [16, 17, 18, 19, 20, 21, 22, 23, 24, 25]), ([0, 1, 2, 3, 4, 5, 6, 7, 8, 9, 10, 11, 12, 13, 14, 15], [17, 18, 19, 20, 21, 22, 23, 24, 25]), ([0, 1, 2, 3, 4, 5, 6, 7, 8, 9, 10, 11, 12, 13, 14, 15, 16], [18, 19, 20, 21, 22, 23, 24, 25]), ([0, 1, 2, 3, 4, 5, 6, 7, 8, 9, 10, 11, 12, 13, 14, 15, 16, 17], [19, 20, 21, 22, 23, 24, 25]), ([0, 1, 2, 3, 4, 5, 6, 7, 8, 9, 10, 11, 12, 13, 14, 15, 16, 17, 18], [20, 21, 22, 23, 24, 25]), ([0, 1, 2, 3, 4, 5, 6, 7, 8, 9, 10, 11, 12, 13, 14, 15, 16, 17, 18, 19], [21, 22, 23, 24, 25]), ([0, 1, 2, 3, 4, 5, 6, 7, 8, 9, 10, 11, 12, 13, 14, 15, 16, 17, 18, 19, 20], [23, 24, 25]), ([0, 1, 2, 3, 4, 5, 6, 7, 8, 9, 10, 11, 12, 13, 14, 15, 16, 17, 18, 19, 20], [23, 24, 25]), ([0, 1, 2, 3, 4, 5, 6, 7, 8, 9, 10, 11, 12, 13, 14, 15, 16, 17, 18, 19, 20, 21, 22], [24, 25]), ([0, 1, 2, 3, 4, 5, 6, 7, 8, 9, 10, 11, 12, 13, 14, 15, 16, 17, 18, 19, 20, 21, 22, 23], [25]), ([0, 1, 2, 3, 4, 5, 6, 7, 8, 9, 10, 11, 12, 13, 14, 15, 16, 17, 18, 19, 20, 21, 22, 23, 24], [])] (fun L ac w => St 89 w0 [(15, L 0, .bool true), (16, L 1, .bool true), (17, L 2, PV (px T3) (py T3) (pz T3)), (18, L 3, .bool true), (19, L 4, .bool false), (20, L 5, .bool false), (21, L 6, PV (px T3) (py T3) (pz T3)), (22, L 7, .bool true), (23, L 8, .bool false), (24, L 9, .bool false), (25, L 10, .bool false), (26, L 11, PV (px T3) (py T3) (pz T3)), (27, L 12, At .u8 32 (by8 (px T3))), (28, L 13, At .u8 32 f), (29, L 14, .bool false), (30, L 15, .bool false), (31, L 16, .bool false), (32, L 17, .bool false), (33, L 18, .bool true), (34, L 19, .bool false), (35, L 20, .bool false), (36, L 21, undef), (37, L 22, undef), (38, L 23, undef), (39, L 24, .bool false), (40, L 25, .bool false), (2, true, .pointer (some ⟨g1, 0, none⟩)), (3, true, .pointer (some ⟨g2, 0, none⟩)), (4, true, .bool false), (5, true, .pointer (some ⟨g4, 0, none⟩)), (6, true, .bool true)] [(true, g1, 26, (PVl x y z)), (true, g2, 35, (tab .u8 32 f)), (true, g4, 26, (PVl (px T3) (py T3) (pz T3)))] ac w) (by kernel_rfl) (by kernel_rfl) ?_ ?_ ?_
    · exact hs.drew.skip.skip.skip.skip.skip.skip.skip.skip.skip.skip.skip.skip.skip.skip.skip.skip.skip.skip.skip.skip.skip.skip.skip.skip.skip.skip
    · refine ⟨?_, ?_, ?_, ?_, ?_, ?_, ?_, ?_, ?_, ?_, ?_, ?_, ?_, ?_, ?_, ?_, ?_, ?_, ?_, ?_, ?_, ?_, ?_, ?_, ?_, ?_, trivial⟩
      · intro L ac w hJ
        have hs := hJ
        refine wpO_plain rfl (op_move hs (some 0) rfl rfl rfl rfl fun ac hs => ?_)
        exact hs
      · intro L ac w hJ
        have hs := hJ
        refine wpO_plain rfl (op_move hs (some 1) rfl rfl rfl rfl fun ac hs => ?_)
        exact hs
      · intro L ac w hJ
        have hs := hJ
        refine wpO_in hs rfl rfl rfl (op_load hs (some 2) 2 (v := PV (px T3) (py T3) (pz T3)) rfl rfl rfl rfl Try.isAgg26 Try.sizeOf26 rfl rfl fun ac hs => ?_)
        exact hs
      · intro L ac w hJ
        have hs := hJ
        refine wpO_in hs rfl rfl rfl (op_call (F := 15) hs (some 3) (v := .bool true) rfl rfl rfl rfl (Try.call15 _) (on_c (px T3) (py T3) (pz T3) true (px_lt T3) (py_lt T3) (on_back oT3)) rfl fun ac w hs => ?_)
        exact hs
      · intro L ac w hJ
        have hs := hJ
        refine wpO_in hs rfl rfl rfl (op_un hs (some 4) (v := .bool false) rfl rfl rfl (fun _ => rfl) rfl fun ac hs => ?_)
        exact hs
      · intro L ac w hJ
        have hs := hJ
        refine wpO_in hs rfl rfl rfl (op_move hs (some 5) rfl rfl rfl rfl fun ac hs => ?_)
        exact hs
      · intro L ac w hJ
        have hs := hJ
        refine wpO_in hs rfl rfl rfl (op_load hs (some 6) 2 (v := PV (px T3) (py T3) (pz T3)) rfl rfl rfl rfl Try.isAgg26 Try.sizeOf26 rfl rfl fun ac hs => ?_)
        exact hs
      · intro L ac w hJ
        have hs := hJ
        refine wpO_in hs rfl rfl rfl (op_call (F := 21) hs (some 7) (v := .bool true) rfl rfl rfl rfl (Try.call21 _) (even_c (px T3) (py T3) (pz T3) T3 true (px_lt T3) (py_lt T3) (pt_back oT3) hlv.1) rfl fun ac w hs => ?_)
        exact hs
      · intro L ac w hJ
        have hs := hJ
        refine wpO_in hs rfl rfl rfl (op_un hs (some 8) (v := .bool false) rfl rfl rfl (fun _ => rfl) rfl fun ac hs => ?_)
        exact hs
      · intro L ac w hJ
        have hs := hJ
        refine wpO_in hs rfl rfl rfl (op_pickF hs (some 9) rfl rfl rfl rfl rfl fun ac hs => ?_)
        exact hs
      · intro L ac w hJ
        have hs := hJ
        refine wpO_in hs rfl rfl rfl (op_move hs (some 10) rfl rfl rfl rfl fun ac hs => ?_)
        exact hs
      · intro L ac w hJ
        have hs := hJ
        refine wpO_in hs rfl rfl rfl (op_load hs (some 11) 2 (v := PV (px T3) (py T3) (pz T3)) rfl rfl rfl rfl Try.isAgg26 Try.sizeOf26 rfl rfl fun ac hs => ?_)
        exact hs
      · intro L ac w hJ
        have hs := hJ
        refine wpO_in hs rfl rfl rfl (op_call (F := 19) hs (some 12) (v := At .u8 32 (by8 (px T3))) rfl rfl rfl rfl (Try.call19 _) (pbytes_c (px T3) (py T3) (pz T3) T3 (px_lt T3) (py_lt T3) (pt_back oT3)) rfl fun ac w hs => ?_)
        exact hs
      · intro L ac w hJ
        have hs := hJ
        refine wpO_in hs rfl rfl rfl (op_load hs (some 13) 1 (v := At .u8 32 f) rfl rfl rfl rfl Try.isAgg35 Try.sizeOf35 ldv_tab rfl fun ac hs => ?_)
        exact hs
      · intro L ac w hJ
        have hs := hJ
        refine wpO_in hs rfl rfl rfl (op_bin hs (some 14) (v := .bool false) rfl rfl rfl rfl (fun w => run_eqGuard_agg w .neq 35 _ _ _ _ Try.eqGuardType35) (neqAt Try.underlying35 Try.underlying5 inf_u8_5 (by kernel_rfl) Try.isAgg5 (fun j hj => by rw [hlv.2]; exact by8_pr hf j hj)) rfl fun ac hs => ?_)
        exact hs
      · intro L ac w hJ
        have hs := hJ
        refine wpO_in hs rfl rfl rfl (op_pickF hs (some 15) rfl rfl rfl rfl rfl fun ac hs => ?_)
        exact hs
      · intro L ac w hJ
        have hs := hJ
        refine wpO_plain rfl (op_pickT hs (some 16) rfl rfl rfl rfl rfl fun ac hs => ?_)
        exact hs
      · intro L ac w hJ
        have hs := hJ
        refine wpO_plain rfl (op_move hs (some 17) rfl rfl rfl rfl fun ac hs => ?_)
        exact hs
      · intro L ac w hJ
        have hs := hJ
        refine wpO_in hs rfl rfl rfl (op_move hs (some 18) rfl rfl rfl rfl fun ac hs => ?_)
        exact hs
      · intro L ac w hJ
        have hs := hJ
        refine wpO_in hs rfl rfl rfl (op_un hs (some 19) (v := .bool false) rfl rfl rfl (fun _ => rfl) rfl fun ac hs => ?_)
        exact hs
      · intro L ac w hJ
        have hs := hJ
        refine wpO_in hs rfl rfl rfl (op_move hs (some 20) rfl rfl rfl rfl fun ac hs => ?_)
        exact hs
      · intro L ac w hJ
        have hs := hJ
        refine wpO_out hs (some 21) rfl rfl (.inl rfl) rfl rfl fun ac hs => ?_
        exact hs
      · intro L ac w hJ
        have hs := hJ
        refine wpO_out hs (some 22) rfl rfl (.inl rfl) rfl rfl fun ac hs => ?_
        exact hs
      · intro L ac w hJ
        have hs := hJ
        refine wpO_out hs (some 23) rfl rfl (.inl rfl) rfl rfl fun ac hs => ?_
        exact hs
      · intro L ac w hJ
        have hs := hJ
        refine wpO_in hs rfl rfl rfl (op_pickF hs (some 24) rfl rfl rfl rfl rfl fun ac hs => ?_)
        exact hs
      · intro L ac w hJ
        have hs := hJ
        refine wpO_plain rfl (op_pickF hs (some 25) rfl rfl rfl rfl rfl fun ac hs => ?_)
        exact hs
    intro ac w hJ
    replace hs : St 89 w0 [(15, true, .bool true), (16, true, .bool true), (17, true, PV (px T3) (py T3) (pz T3)), (18, true, .bool true), (19, true, .bool false), (20, true, .bool false), (21, true, PV (px T3) (py T3) (pz T3)), (22, true, .bool true), (23, true, .bool false), (24, true, .bool false), (25, true, .bool false), (26, true, PV (px T3) (py T3) (pz T3)), (27, true, At .u8 32 (by8 (px T3))), (28, true, At .u8 32 f), (29, true, .bool false), (30, true, .bool false), (31, true, .bool false), (32, true, .bool false), (33, true, .bool true), (34, true, .bool false), (35, true, .bool false), (36, true, undef), (37, true, undef), (38, true, undef), (39, true, .bool false), (40, true, .bool false), (2, true, .pointer (some ⟨g1, 0, none⟩)), (3, true, .pointer (some ⟨g2, 0, none⟩)), (4, true, .bool false), (5, true, .pointer (some ⟨g4, 0, none⟩)), (6, true, .bool true)] [(true, g1, 26, (PVl x y z)), (true, g2, 35, (tab .u8 32 f)), (true, g4, 26, (PVl (px T3) (py T3) (pz T3)))] ac w := hJ
    refine then_n ?_
    refine wp_cond_false (hs.ev rfl) ?_
    refine wp_skip ?_
    refine then_n ?_
    refine wp_seq ?_
    refine wp_seq ?_
    by_cases hq12 : onB x y z = true
    · skip
      refine wp_region_lit ?_
      refine lstep (wpO_plain rfl (op_load hs none 0 (v := PV x y z) rfl rfl rfl rfl Try.isAgg26 Try.sizeOf26 rfl rfl fun ac hs => ?_))
      refine lstep (wpO_plain rfl (op_call (F := 15) hs none (v := .bool true) rfl rfl rfl rfl (Try.call15 _) (on_c x y z true hx hy hq12) rfl fun ac w hs => ?_))
      refine lstep (wpO_plain rfl (op_un hs none (v := .bool false) rfl rfl rfl (fun _ => rfl) rfl fun ac hs => ?_))
      refine lstep (wpO_plain rfl (op_move hs none rfl rfl rfl rfl fun ac hs => ?_))
      refine lstep (wpO_in hs rfl rfl rfl (op_fieldA hs none rfl rfl rfl Try.underlying26 rfl Try.sizeOf4 (by decide) rfl fun ac hs => ?_))
      refine lstep (wpO_in hs rfl rfl rfl (op_load hs none 0 (v := .bool z) rfl rfl rfl rfl Try.isAgg4 Try.sizeOf4 rfl rfl fun ac hs => ?_))
      refine lstep (wpO_plain rfl (op_pickF hs none rfl rfl rfl rfl rfl fun ac hs => ?_))
      refine wpList_nil ?_
      refine then_n ?_
      refine wp_cond_split (hs.ev rfl) (fun hc => ?_) (fun hc => ?_)
      · skip
        have hzz := hc
        refine wp_seq ?_
        replace hs : St 89 w0 [(2, true, .pointer (some ⟨g1, 0, none⟩)), (4, true, .bool false)] [(true, g1, 26, (PVl x y z)), (true, g2, 35, (tab .u8 32 f)), (true, g4, 26, (PVl (px T3) (py T3) (pz T3)))] ac _ := hs.re ⟨rfl, rfl, trivial⟩
        refine wp_region_lit ?_
        refine lstep (wpO_plain rfl (op_call (F := 10) hs none (v := .bool true) rfl rfl rfl rfl (Try.call10 _) alive_c rfl fun ac w hs => ?_))
        refine lstep (wpO_plain rfl (op_move hs none rfl rfl rfl rfl fun ac hs => ?_))
        refine lstep (wpO_in hs rfl rfl rfl (op_load hs none 0 (v := PV x y z) rfl rfl rfl rfl Try.isAgg26 Try.sizeOf26 rfl rfl fun ac hs => ?_))
        refine lstep (wpO_in hs rfl rfl rfl (op_call (F := 21) hs none (v := .bool (evB P)) rfl rfl rfl rfl (Try.call21 _) (even_c x y z P _ hx hy hP rfl) rfl fun ac w hs => ?_))
        refine lstep (wpO_in hs rfl rfl rfl (op_un hs none (v := .bool (!(evB P))) rfl rfl rfl (fun _ => rfl) rfl fun ac hs => ?_))
        refine lstep (wpO_plain rfl (op_pickT hs none rfl rfl rfl rfl rfl fun ac hs => ?_))
        refine lstep (wpO_plain rfl (op_assign hs none rfl rfl rfl rfl fun ac hs => ?_))
        refine wpList_nil ?_
        refine then_n ?_
        refine wp_ret ?_
        refine then_r ?_
        exact bodyPost_ret (res1 rfl (rv_t hs rfl)) hs.defers ⟨by rw [show P = .O from hP.symm.trans (by rw [hzz]; rfl)]; rfl, hs.below⟩
      · skip
        have hzz := hc
        refine wp_skip ?_
        refine then_n ?_
        refine wp_seq ?_
        replace hs : St 89 w0 [(2, true, .pointer (some ⟨g1, 0, none⟩)), (4, true, .bool false)] [(true, g1, 26, (PVl x y z)), (true, g2, 35, (tab .u8 32 f)), (true, g4, 26, (PVl (px T3) (py T3) (pz T3)))] ac _ := hs.re ⟨rfl, rfl, trivial⟩
        refine wp_region_lit ?_
        refine lstep (wpO_plain rfl (op_load hs none 0 (v := PV x y z) rfl rfl rfl rfl Try.isAgg26 Try.sizeOf26 rfl rfl fun ac hs => ?_))
        refine lstep (wpO_plain rfl (op_call (F := 19) hs none (v := At .u8 32 (by8 (px P))) rfl rfl rfl rfl (Try.call19 _) (pbytes_c x y z P hx hy hP) rfl fun ac w hs => ?_))
        obtain ⟨T13, hT13, oT13⟩ := mkLift (pr (by8 (px P)) 0 32)
        refine lstep (wpO_plain rfl (op_call (F := 29) hs none (v := .tuple #[PV (px T13) (py T13) (pz T13), .bool (!pz T13)]) rfl rfl rfl rfl (Try.call29 _) (lift14_c (by8 (px P)) T13 (fun j _ => by8_lt (px P) j) hT13) rfl fun ac w hs => ?_))
        refine lstep (wpO_plain rfl (op_move hs none rfl rfl rfl rfl fun ac hs => ?_))
        refine lstep (wpO_plain rfl (op_extract hs none rfl rfl rfl rfl rfl fun ac hs => ?_))
        refine lstep (wpO_plain rfl (op_extract hs none rfl rfl rfl rfl rfl fun ac hs => ?_))
        refine lstep (wpO_plain rfl (op_alloc hs none none (cs := (PVl 0 0 false)) rfl rfl Try.zeroValue26 (by kernel_rfl) rfl rfl fun g14 ac w hs => ?_))
        refine lstep (wpO_plain rfl (op_store hs 3 (vs := (PVl (px T13) (py T13) (pz T13))) rfl rfl rfl rfl rfl Try.sizeOf26 rfl rfl rfl rfl rfl fun w hs => ?_))
        refine lstep (wpO_plain rfl (op_assign hs none rfl rfl rfl rfl fun ac hs => ?_))
        refine wpList_nil ?_
        have hzP : pz P = false := by rw [← hP, (on_yes hq12).2.2]; exact hzz
        have hL : T13 = if evB P = true then P else P.neg := by rw [← hT13, pr_by8_all (px_lt P)]; exact lift_back oP hzP
        have hz2 : pz T13 = false := by rw [hL]; split; exact hzP; exact (neg_A hzP).2.2
        replace hs := hs.re (fs' := [(2, true, .pointer (some ⟨g1, 0, none⟩)), (4, true, .bool false), (55, true, PV x y z), (56, true, At .u8 32 (by8 (px P))), (57, true, .tuple #[PV (px T13) (py T13) (pz T13), .bool (!pz T13)]), (54, true, .tuple #[PV (px T13) (py T13) (pz T13), .bool (!pz T13)]), (58, true, PV (px T13) (py T13) (pz T13)), (59, true, .bool (!pz T13)), (7, true, .pointer (some ⟨g14, 0, none⟩)), (8, true, .bool true)]) ⟨rfl, rfl, rfl, rfl, rfl, rfl, rfl, rfl, rfl, congrArg some (congrArg Value.bool (by rw [hz2]; rfl)), trivial⟩
        refine then_n ?_
        refine wp_seq ?_
        replace hs : St 89 w0 [(2, true, .pointer (some ⟨g1, 0, none⟩)), (4, true, .bool false), (7, true, .pointer (some ⟨g14, 0, none⟩)), (8, true, .bool true)] [(true, g1, 26, (PVl x y z)), (true, g2, 35, (tab .u8 32 f)), (true, g4, 26, (PVl (px T3) (py T3) (pz T3))), (true, g14, 26, (PVl (px T13) (py T13) (pz T13)))] ac _ := hs.re ⟨rfl, rfl, rfl, rfl, trivial⟩
        refine wp_region_lit ?_
        refine lstep (wpO_plain rfl (op_load hs none 0 (v := PV x y z) rfl rfl rfl rfl Try.isAgg26 Try.sizeOf26 rfl rfl fun ac hs => ?_))
        obtain ⟨T15, hT15, oT15⟩ := mkNeg oP
        refine lstep (wpO_plain rfl (op_call (F := 16) hs none (v := PV (px T15) (py T15) (pz T15)) rfl rfl rfl rfl (Try.call16 _) (neg_c x y z P T15 hx hy hP hT15) rfl fun ac w hs => ?_))
        refine lstep (wpO_plain rfl (op_alloc hs none none (cs := (PVl 0 0 false)) rfl rfl Try.zeroValue26 (by kernel_rfl) rfl rfl fun g16 ac w hs => ?_))
        refine lstep (wpO_plain rfl (op_store hs 4 (vs := (PVl (px T15) (py T15) (pz T15))) rfl rfl rfl rfl rfl Try.sizeOf26 rfl rfl rfl rfl rfl fun w hs => ?_))
        refine wpList_nil ?_
        refine then_n ?_
        refine wp_seq ?_
        by_cases hq17 : evB P = true
        · skip
          replace hs : St 89 w0 [(2, true, .pointer (some ⟨g1, 0, none⟩)), (4, true, .bool false), (7, true, .pointer (some ⟨g14, 0, none⟩)), (8, true, .bool true), (9, true, .pointer (some ⟨g16, 0, none⟩))] [(true, g1, 26, (PVl x y z)), (true, g2, 35, (tab .u8 32 f)), (true, g4, 26, (PVl (px T3) (py T3) (pz T3))), (true, g14, 26, (PVl (px T13) (py T13) (pz T13))), (true, g16, 26, (PVl (px T15) (py T15) (pz T15)))] ac _ := hs.re ⟨rfl, rfl, rfl, rfl, rfl, trivial⟩
          refine region_inv [([], [1, 2, 3, 4, 5, 6, 7, 8, 9, 10, 11, 12, 13, 14, 15, 16, 17, 18, 19, 20, 21, 22, 23, 24, 25, 26, 27]), ([0], [2, 3, 4, 5, 6, 7, 8, 9, 10, 11, 12, 13, 14, 15, 16, 17, 18, 19, 20, 21, 22, 23, 24, 25, 26, 27]), ([0, 1], [3, 4, 5, 6, 7, 8, 9, 10, 11, 12, 13, 14, 15, 16, 17, 18, 19, 20, 21, 22, 23, 24, 25, 26, 27]), ([0, 1, 2], [4, 5, 6, 7, 8, 9, 10, 11, 12, 13, 14, 15, 16, 17, 18, 19, 20, 21, 22, 23, 24, 25, 26, 27]), ([0, 1, 2, 3], [5, 6, 7, 8, 9, 10, 11, 12, 13, 14, 15, 16, 17, 18, 19, 20, 21, 22, 23, 24, 25, 26, 27]), ([0, 1, 2, 3, 4], [7, 10, 11, 12, 13, 14, 15, 16, 17, 18, 19, 20, 21, 22, 23, 24, 25, 26, 27]), ([0, 1, 2, 3, 4], [7, 10, 11, 12, 13, 14, 15, 16, 17, 18, 19, 20, 21, 22, 23, 24, 25, 26, 27]), ([0, 1, 2, 3, 4, 5, 6], [10, 11, 12, 13, 14, 15, 16, 17, 18, 19, 20, 21, 22, 23, 24, 25, 26, 27]), ([0, 1, 2, 3, 4], [9, 10, 11, 12, 13, 14, 15, 16, 17, 18, 19, 20, 21, 22, 23, 24, 25, 26, 27]), ([0, 1, 2, 3, 4, 8], [10, 11, 12, 13, 14, 15, 16, 17, 18, 19, 20, 21, 22, 23, 24, 25, 26, 27]), ([0, 1, 2, 3, 4, 5, 6, 7, 8, 9], [11, 12, 13, 14, 15, 16, 17, 18, 19, 20, 21, 22, 23, 24, 25, 26, 27]), ([0, 1, 2, 3, 4, 5, 6, 7, 8, 9, 10], [12, 13, 14, 15, 16, 17, 18, 19, 20, 21, 22, 23, 24, 25, 26, 27]), ([0, 1, 2, 3, 4, 5, 6, 7, 8, 9, 10, 11], [13, 14, 15, 16, 17, 18, 19, 20, 21, 22, 23, 24, 25, 26, 27]), ([0, 1, 2, 3, 4, 5, 6, 7, 8, 9, 10, 11, 12], [15, 18, 19, 20, 21, 22, 23, 24, 25, 26, 27]), ([0, 1, 2, 3, 4, 5, 6, 7, 8, 9, 10, 11, 12], [15, 18, 19, 20, 21, 22, 23, 24, 25, 26, 27]), ([0, 1, 2, 3, 4, 5, 6, 7, 8, 9, 10, 11, 12, 13, 14], [18, 19, 20, 21, 22, 23, 24, 25, 26, 27]), ([0, 1, 2, 3, 4, 5, 6, 7, 8, 9, 10, 11, 12], [17, 18, 19, 20, 21, 22, 23, 24, 25, 26, 27]), ([0, 1, 2, 3, 4, 5, 6, 7, 8, 9, 10, 11, 12, 16], [18, 19, 20, 21, 22, 23, 24, 25, 26, 27]), ([0, 1, 2, 3, 4, 5, 6, 7, 8, 9, 10, 11, 12, 13, 14, 15, 16, 17], [19, 20, 21, 22, 23, 24, 25, 26, 27]), ([0, 1, 2, 3, 4, 5, 6, 7, 8, 9, 10, 11, 12, 13, 14, 15, 16, 17, 18], [20, 21, 22, 23, 24, 25, 26, 27]), ([0, 1, 2, 3, 4, 5, 6, 7, 8, 9, 10, 11, 12, 13, 14, 15, 16, 17, 18, 19], [21, 22, 23, 24, 25, 26, 27]), ([0, 1, 2, 3, 4, 5, 6, 7, 8, 9, 10, 11, 12, 13, 14, 15, 16, 17, 18, 19, 20], [22, 24, 25, 26, 27]), ([0, 1, 2, 3, 4, 5, 6, 7, 8, 9, 10, 11, 12, 13, 14, 15, 16, 17, 18, 19, 20, 21], [24, 25, 26, 27]), ([0, 1, 2, 3, 4, 5, 6, 7, 8, 9, 10, 11, 12, 13, 14, 15, 16, 17, 18, 19, 20], [24, 25, 26, 27]), ([0, 1, 2, 3, 4, 5, 6, 7, 8, 9, 10, 11, 12, 13, 14, 15, 16, 17, 18, 19, 20, 21, 22, 23], [25, 26, 27]), ([0, 1, 2, 3, 4, 5, 6, 7, 8, 9, 10, 11, 12, 13, 14, 15, 16, 17, 18, 19, 20, 21, 22, 23, 24], [26, 27]), ([0, 1, 2, 3, 4, 5, 6, 7, 8, 9, 10, 11, 12, 13, 14, 15, 16, 17, 18, 19, 20, 21, 22, 23, 24, 25], [27]), ([0, 1, 2, 3, 4, 5, 6, 7, 8, 9, 10, 11, 12, 13, 14, 15, 16, 17, 18, 19, 20, 21, 22, 23, 24, 25, 26], [])] (fun L ac w => St 89 w0 [(62, L 0, .bool true), (63, L 1, .bool true), (64, L 2, .bool true), (65, L 3, .bool true), (66, L 4, .bool true), (67, L 5, PV (px T13) (py T13) (pz T13)), (68, L 6, PV x y z), (69, L 7, .bool true), (70, L 8, PV x y z), (71, L 9, .bool true), (72, L 10, .bool true), (73, L 11, .bool true), (74, L 12, .bool true), (75, L 13, PV (px T13) (py T13) (pz T13)), (76, L 14, PV (px T15) (py T15) (pz T15)), (77, L 15, .bool false), (78, L 16, PV (px T15) (py T15) (pz T15)), (79, L 17, .bool false), (80, L 18, .bool true), (81, L 19, .bool true), (82, L 20, .bool true), (83, L 21, PV x y z), (84, L 22, .bool true), (85, L 23, PV (px T15) (py T15) (pz T15)), (86, L 24, .bool false), (87, L 25, .bool true), (88, L 26, .bool true), (4, L 27, .bool true), (2, true, .pointer (some ⟨g1, 0, none⟩)), (4, true, .bool false), (7, true, .pointer (some ⟨g14, 0, none⟩)), (8, true, .bool true), (9, true, .pointer (some ⟨g16, 0, none⟩))] [(true, g1, 26, (PVl x y z)), (true, g2, 35, (tab .u8 32 f)), (true, g4, 26, (PVl (px T3) (py T3) (pz T3))), (true, g14, 26, (PVl (px T13) (py T13) (pz T13))), (true, g16, 26, (PVl (px T15) (py T15) (pz T15)))] ac w) (by kernel_rfl) (by kernel_rfl) ?_ ?_ ?_
          · exact hs.drew.skip.skip.skip.skip.skip.skip.skip.skip.skip.skip.skip.skip.skip.skip.skip.skip.skip.skip.skip.skip.skip.skip.skip.skip.skip.skip.skip.skip
          · refine ⟨?_, ?_, ?_, ?_, ?_, ?_, ?_, ?_, ?_, ?_, ?_, ?_, ?_, ?_, ?_, ?_, ?_, ?_, ?_, ?_, ?_, ?_, ?_, ?_, ?_, ?_, ?_, ?_, trivial⟩
            · intro L ac w hJ
              have hs := hJ
              refine wpO_plain rfl (op_call (F := 10) hs (some 0) (v := .bool true) rfl rfl rfl rfl (Try.call10 _) alive_c rfl fun ac w hs => ?_)
              exact hs
            · intro L ac w hJ
              have hs := hJ
              refine wpO_plain rfl (op_move hs (some 1) rfl rfl rfl rfl fun ac hs => ?_)
              exact hs
            · intro L ac w hJ
              have hs := hJ
              refine wpO_in hs rfl rfl rfl (op_move hs (some 2) rfl rfl rfl rfl fun ac hs => ?_)
              exact hs
            · intro L ac w hJ
              have hs := hJ
              refine wpO_plain rfl (op_pickT hs (some 3) rfl rfl rfl rfl rfl fun ac hs => ?_)
              exact hs
            · intro L ac w hJ
              have hs := hJ
              refine wpO_plain rfl (op_move hs (some 4) rfl rfl rfl rfl fun ac hs => ?_)
              exact hs
            · intro L ac w hJ
              have hs := hJ
              refine wpO_in hs rfl rfl rfl (op_load hs (some 5) 3 (v := PV (px T13) (py T13) (pz T13)) rfl rfl rfl rfl Try.isAgg26 Try.sizeOf26 rfl rfl fun ac hs => ?_)
              exact hs
            · intro L ac w hJ
              have hs := hJ
              refine wpO_in hs rfl rfl rfl (op_load hs (some 6) 0 (v := PV x y z) rfl rfl rfl rfl Try.isAgg26 Try.sizeOf26 rfl rfl fun ac hs => ?_)
              exact hs
            · intro L ac w hJ
              have hs := hJ
              refine wpO_in hs rfl rfl rfl (op_bin hs (some 7) (v := .bool true) rfl rfl rfl rfl (fun w => run_eqGuard_agg w .eql 26 _ _ _ _ Try.eqGuardType26) (eqlP (px T13) (py T13) x y (pz T13) z (px_lt T13) (py_lt T13) hx hy true (decide_eq_true (raw_eq hq12 (by rw [hL, if_pos hq17, hP])))) rfl fun ac hs => ?_)
              exact hs
            · intro L ac w hJ
              have hs := hJ
              refine wpO_in hs rfl rfl rfl (op_load hs (some 8) 0 (v := PV x y z) rfl rfl rfl rfl Try.isAgg26 Try.sizeOf26 rfl rfl fun ac hs => ?_)
              exact hs
            · intro L ac w hJ
              have hs := hJ
              refine wpO_in hs rfl rfl rfl (op_call (F := 21) hs (some 9) (v := .bool true) rfl rfl rfl rfl (Try.call21 _) (even_c x y z P true hx hy hP hq17) rfl fun ac w hs => ?_)
              exact hs
            · intro L ac w hJ
              have hs := hJ
              refine wpO_in hs rfl rfl rfl (op_bin hs (some 10) (v := .bool true) rfl rfl rfl rfl (fun _ => rfl) (fun _ => by kernel_rfl) rfl fun ac hs => ?_)
              exact hs
            · intro L ac w hJ
              have hs := hJ
              refine wpO_plain rfl (op_pickT hs (some 11) rfl rfl rfl rfl rfl fun ac hs => ?_)
              exact hs
            · intro L ac w hJ
              have hs := hJ
              refine wpO_plain rfl (op_move hs (some 12) rfl rfl rfl rfl fun ac hs => ?_)
              exact hs
            · intro L ac w hJ
              have hs := hJ
              refine wpO_in hs rfl rfl rfl (op_load hs (some 13) 3 (v := PV (px T13) (py T13) (pz T13)) rfl rfl rfl rfl Try.isAgg26 Try.sizeOf26 rfl rfl fun ac hs => ?_)
              exact hs
            · intro L ac w hJ
              have hs := hJ
              refine wpO_in hs rfl rfl rfl (op_load hs (some 14) 4 (v := PV (px T15) (py T15) (pz T15)) rfl rfl rfl rfl Try.isAgg26 Try.sizeOf26 rfl rfl fun ac hs => ?_)
              exact hs
            · intro L ac w hJ
              have hs := hJ
              refine wpO_in hs rfl rfl rfl (op_bin hs (some 15) (v := .bool false) rfl rfl rfl rfl (fun w => run_eqGuard_agg w .eql 26 _ _ _ _ Try.eqGuardType26) (eqlP (px T13) (py T13) (px T15) (py T15) (pz T13) (pz T15) (px_lt T13) (py_lt T13) (px_lt T15) (py_lt T15) false (decide_eq_false (pt_ne (fun e => neg_ne oP hzP (by rw [hT15, ← e, hL, if_pos hq17]))))) rfl fun ac hs => ?_)
              exact hs
            · intro L ac w hJ
              have hs := hJ
              refine wpO_in hs rfl rfl rfl (op_load hs (some 16) 4 (v := PV (px T15) (py T15) (pz T15)) rfl rfl rfl rfl Try.isAgg26 Try.sizeOf26 rfl rfl fun ac hs => ?_)
              exact hs
            · intro L ac w hJ
              have hs := hJ
              refine wpO_in hs rfl rfl rfl (op_call (F := 21) hs (some 17) (v := .bool false) rfl rfl rfl rfl (Try.call21 _) (even_c (px T15) (py T15) (pz T15) T15 false (px_lt T15) (py_lt T15) (pt_back oT15) (Bool.eq_false_iff.2 (by rw [← hT15, ev_neg oP hzP, hq17]; decide))) rfl fun ac w hs => ?_)
              exact hs
            · intro L ac w hJ
              have hs := hJ
              refine wpO_in hs rfl rfl rfl (op_bin hs (some 18) (v := .bool true) rfl rfl rfl rfl (fun _ => rfl) (fun _ => by kernel_rfl) rfl fun ac hs => ?_)
              exact hs
            · intro L ac w hJ
              have hs := hJ
              refine wpO_plain rfl (op_pickT hs (some 19) rfl rfl rfl rfl rfl fun ac hs => ?_)
              exact hs
            · intro L ac w hJ
              have hs := hJ
              refine wpO_plain rfl (op_move hs (some 20) rfl rfl rfl rfl fun ac hs => ?_)
              exact hs
            · intro L ac w hJ
              have hs := hJ
              refine wpO_in hs rfl rfl rfl (op_load hs (some 21) 0 (v := PV x y z) rfl rfl rfl rfl Try.isAgg26 Try.sizeOf26 rfl rfl fun ac hs => ?_)
              exact hs
            · intro L ac w hJ
              have hs := hJ
              refine wpO_in hs rfl rfl rfl (op_call (F := 21) hs (some 22) (v := .bool true) rfl rfl rfl rfl (Try.call21 _) (even_c x y z P true hx hy hP hq17) rfl fun ac w hs => ?_)
              exact hs
            · intro L ac w hJ
              have hs := hJ
              refine wpO_in hs rfl rfl rfl (op_load hs (some 23) 4 (v := PV (px T15) (py T15) (pz T15)) rfl rfl rfl rfl Try.isAgg26 Try.sizeOf26 rfl rfl fun ac hs => ?_)
              exact hs
            · intro L ac w hJ
              have hs := hJ
              refine wpO_in hs rfl rfl rfl (op_call (F := 21) hs (some 24) (v := .bool false) rfl rfl rfl rfl (Try.call21 _) (even_c (px T15) (py T15) (pz T15) T15 false (px_lt T15) (py_lt T15) (pt_back oT15) (Bool.eq_false_iff.2 (by rw [← hT15, ev_neg oP hzP, hq17]; decide))) rfl fun ac w hs => ?_)
              exact hs
            · intro L ac w hJ
              have hs := hJ
              refine wpO_in hs rfl rfl rfl (op_bin hs (some 25) (v := .bool true) rfl rfl rfl rfl (fun _ => rfl) (fun _ => by kernel_rfl) rfl fun ac hs => ?_)
              exact hs
            · intro L ac w hJ
              have hs := hJ
              refine wpO_plain rfl (op_pickT hs (some 26) rfl rfl rfl rfl rfl fun ac hs => ?_)
              exact hs
            · intro L ac w hJ
              have hs := hJ
              refine wpO_plain rfl (op_assign hs (some 27) rfl rfl rfl rfl fun ac hs => ?_)
              exact hs
          intro ac w hJ
          replace hs : St 89 w0 [(62, true, .bool true), (63, true, .bool true), (64, true, .bool true), (65, true, .bool true), (66, true, .bool true), (67, true, PV (px T13) (py T13) (pz T13)), (68, true, PV x y z), (69, true, .bool true), (70, true, PV x y z), (71, true, .bool true), (72, true, .bool true), (73, true, .bool true), (74, true, .bool true), (75, true, PV (px T13) (py T13) (pz T13)), (76, true, PV (px T15) (py T15) (pz T15)), (77, true, .bool false), (78, true, PV (px T15) (py T15) (pz T15)), (79, true, .bool false), (80, true, .bool true), (81, true, .bool true), (82, true, .bool true), (83, true, PV x y z), (84, true, .bool true), (85, true, PV (px T15) (py T15) (pz T15)), (86, true, .bool false), (87, true, .bool true), (88, true, .bool true), (4, true, .bool true), (2, true, .pointer (some ⟨g1, 0, none⟩)), (4, true, .bool false), (7, true, .pointer (some ⟨g14, 0, none⟩)), (8, true, .bool true), (9, true, .pointer (some ⟨g16, 0, none⟩))] [(true, g1, 26, (PVl x y z)), (true, g2, 35, (tab .u8 32 f)), (true, g4, 26, (PVl (px T3) (py T3) (pz T3))), (true, g14, 26, (PVl (px T13) (py T13) (pz T13))), (true, g16, 26, (PVl (px T15) (py T15) (pz T15)))] ac w := hJ
          refine then_n ?_
          refine wp_ret ?_
          exact bodyPost_ret (res1 rfl (rv_t hs rfl)) hs.defers ⟨rfl, hs.below⟩
        · skip
          replace hs : St 89 w0 [(2, true, .pointer (some ⟨g1, 0, none⟩)), (4, true, .bool false), (7, true, .pointer (some ⟨g14, 0, none⟩)), (8, true, .bool true), (9, true, .pointer (some ⟨g16, 0, none⟩))] [(true, g1, 26, (PVl x y z)), (true, g2, 35, (tab .u8 32 f)), (true, g4, 26, (PVl (px T3) (py T3) (pz T3))), (true, g14, 26, (PVl (px T13) (py T13) (pz T13))), (true, g16, 26, (PVl (px T15) (py T15) (pz T15)))] ac _ := hs.re ⟨rfl, rfl, rfl, rfl, rfl, trivial⟩
          refine region_inv [([], [1, 2, 3, 4, 5, 6, 7, 8, 9, 10, 11, 12, 13, 14, 15, 16, 17, 18, 19, 20, 21, 22, 23, 24, 25, 26, 27]), ([0], [2, 3, 4, 5, 6, 7, 8, 9, 10, 11, 12, 13, 14, 15, 16, 17, 18, 19, 20, 21, 22, 23, 24, 25, 26, 27]), ([0, 1], [3, 4, 5, 6, 7, 8, 9, 10, 11, 12, 13, 14, 15, 16, 17, 18, 19, 20, 21, 22, 23, 24, 25, 26, 27]), ([0, 1, 2], [4, 5, 6, 7, 8, 9, 10, 11, 12, 13, 14, 15, 16, 17, 18, 19, 20, 21, 22, 23, 24, 25, 26, 27]), ([0, 1, 2, 3], [5, 6, 7, 8, 9, 10, 11, 12, 13, 14, 15, 16, 17, 18, 19, 20, 21, 22, 23, 24, 25, 26, 27]), ([0, 1, 2, 3, 4], [7, 10, 11, 12, 13, 14, 15, 16, 17, 18, 19, 20, 21, 22, 23, 24, 25, 26, 27]), ([0, 1, 2, 3, 4], [7, 10, 11, 12, 13, 14, 15, 16, 17, 18, 19, 20, 21, 22, 23, 24, 25, 26, 27]), ([0, 1, 2, 3, 4, 5, 6], [10, 11, 12, 13, 14, 15, 16, 17, 18, 19, 20, 21, 22, 23, 24, 25, 26, 27]), ([0, 1, 2, 3, 4], [9, 10, 11, 12, 13, 14, 15, 16, 17, 18, 19, 20, 21, 22, 23, 24, 25, 26, 27]), ([0, 1, 2, 3, 4, 8], [10, 11, 12, 13, 14, 15, 16, 17, 18, 19, 20, 21, 22, 23, 24, 25, 26, 27]), ([0, 1, 2, 3, 4, 5, 6, 7, 8, 9], [11, 12, 13, 14, 15, 16, 17, 18, 19, 20, 21, 22, 23, 24, 25, 26, 27]), ([0, 1, 2, 3, 4, 5, 6, 7, 8, 9, 10], [12, 13, 14, 15, 16, 17, 18, 19, 20, 21, 22, 23, 24, 25, 26, 27]), ([0, 1, 2, 3, 4, 5, 6, 7, 8, 9, 10, 11], [13, 14, 15, 16, 17, 18, 19, 20, 21, 22, 23, 24, 25, 26, 27]), ([0, 1, 2, 3, 4, 5, 6, 7, 8, 9, 10, 11, 12], [15, 18, 19, 20, 21, 22, 23, 24, 25, 26, 27]), ([0, 1, 2, 3, 4, 5, 6, 7, 8, 9, 10, 11, 12], [15, 18, 19, 20, 21, 22, 23, 24, 25, 26, 27]), ([0, 1, 2, 3, 4, 5, 6, 7, 8, 9, 10, 11, 12, 13, 14], [18, 19, 20, 21, 22, 23, 24, 25, 26, 27]), ([0, 1, 2, 3, 4, 5, 6, 7, 8, 9, 10, 11, 12], [17, 18, 19, 20, 21, 22, 23, 24, 25, 26, 27]), ([0, 1, 2, 3, 4, 5, 6, 7, 8, 9, 10, 11, 12, 16], [18, 19, 20, 21, 22, 23, 24, 25, 26, 27]), ([0, 1, 2, 3, 4, 5, 6, 7, 8, 9, 10, 11, 12, 13, 14, 15, 16, 17], [19, 20, 21, 22, 23, 24, 25, 26, 27]), ([0, 1, 2, 3, 4, 5, 6, 7, 8, 9, 10, 11, 12, 13, 14, 15, 16, 17, 18], [20, 21, 22, 23, 24, 25, 26, 27]), ([0, 1, 2, 3, 4, 5, 6, 7, 8, 9, 10, 11, 12, 13, 14, 15, 16, 17, 18, 19], [21, 22, 23, 24, 25, 26, 27]), ([0, 1, 2, 3, 4, 5, 6, 7, 8, 9, 10, 11, 12, 13, 14, 15, 16, 17, 18, 19, 20], [22, 24, 25, 26, 27]), ([0, 1, 2, 3, 4, 5, 6, 7, 8, 9, 10, 11, 12, 13, 14, 15, 16, 17, 18, 19, 20, 21], [24, 25, 26, 27]), ([0, 1, 2, 3, 4, 5, 6, 7, 8, 9, 10, 11, 12, 13, 14, 15, 16, 17, 18, 19, 20], [24, 25, 26, 27]), ([0, 1, 2, 3, 4, 5, 6, 7, 8, 9, 10, 11, 12, 13, 14, 15, 16, 17, 18, 19, 20, 21, 22, 23], [25, 26, 27]), ([0, 1, 2, 3, 4, 5, 6, 7, 8, 9, 10, 11, 12, 13, 14, 15, 16, 17, 18, 19, 20, 21, 22, 23, 24], [26, 27]), ([0, 1, 2, 3, 4, 5, 6, 7, 8, 9, 10, 11, 12, 13, 14, 15, 16, 17, 18, 19, 20, 21, 22, 23, 24, 25], [27]), ([0, 1, 2, 3, 4, 5, 6, 7, 8, 9, 10, 11, 12, 13, 14, 15, 16, 17, 18, 19, 20, 21, 22, 23, 24, 25, 26], [])] (fun L ac w => St 89 w0 [(62, L 0, .bool true), (63, L 1, .bool true), (64, L 2, .bool true), (65, L 3, .bool true), (66, L 4, .bool true), (67, L 5, PV (px T13) (py T13) (pz T13)), (68, L 6, PV x y z), (69, L 7, .bool false), (70, L 8, PV x y z), (71, L 9, .bool false), (72, L 10, .bool true), (73, L 11, .bool true), (74, L 12, .bool true), (75, L 13, PV (px T13) (py T13) (pz T13)), (76, L 14, PV (px T15) (py T15) (pz T15)), (77, L 15, .bool true), (78, L 16, PV (px T15) (py T15) (pz T15)), (79, L 17, .bool true), (80, L 18, .bool true), (81, L 19, .bool true), (82, L 20, .bool true), (83, L 21, PV x y z), (84, L 22, .bool false), (85, L 23, PV (px T15) (py T15) (pz T15)), (86, L 24, .bool true), (87, L 25, .bool true), (88, L 26, .bool true), (4, L 27, .bool true), (2, true, .pointer (some ⟨g1, 0, none⟩)), (4, true, .bool false), (7, true, .pointer (some ⟨g14, 0, none⟩)), (8, true, .bool true), (9, true, .pointer (some ⟨g16, 0, none⟩))] [(true, g1, 26, (PVl x y z)), (true, g2, 35, (tab .u8 32 f)), (true, g4, 26, (PVl (px T3) (py T3) (pz T3))), (true, g14, 26, (PVl (px T13) (py T13) (pz T13))), (true, g16, 26, (PVl (px T15) (py T15) (pz T15)))] ac w) (by kernel_rfl) (by kernel_rfl) ?_ ?_ ?_
          · exact hs.drew.skip.skip.skip.skip.skip.skip.skip.skip.skip.skip.skip.skip.skip.skip.skip.skip.skip.skip.skip.skip.skip.skip.skip.skip.skip.skip.skip.skip
          · refine ⟨?_, ?_, ?_, ?_, ?_, ?_, ?_, ?_, ?_, ?_, ?_, ?_, ?_, ?_, ?_, ?_, ?_, ?_, ?_, ?_, ?_, ?_, ?_, ?_, ?_, ?_, ?_, ?_, trivial⟩
            · intro L ac w hJ
              have hs := hJ
              refine wpO_plain rfl (op_call (F := 10) hs (some 0) (v := .bool true) rfl rfl rfl rfl (Try.call10 _) alive_c rfl fun ac w hs => ?_)
              exact hs
            · intro L ac w hJ
              have hs := hJ
              refine wpO_plain rfl (op_move hs (some 1) rfl rfl rfl rfl fun ac hs => ?_)
              exact hs
            · intro L ac w hJ
              have hs := hJ
              refine wpO_in hs rfl rfl rfl (op_move hs (some 2) rfl rfl rfl rfl fun ac hs => ?_)
              exact hs
            · intro L ac w hJ
              have hs := hJ
              refine wpO_plain rfl (op_pickT hs (some 3) rfl rfl rfl rfl rfl fun ac hs => ?_)
              exact hs
            · intro L ac w hJ
              have hs := hJ
              refine wpO_plain rfl (op_move hs (some 4) rfl rfl rfl rfl fun ac hs => ?_)
              exact hs
            · intro L ac w hJ
              have hs := hJ
              refine wpO_in hs rfl rfl rfl (op_load hs (some 5) 3 (v := PV (px T13) (py T13) (pz T13)) rfl rfl rfl rfl Try.isAgg26 Try.sizeOf26 rfl rfl fun ac hs => ?_)
              exact hs
            · intro L ac w hJ
              have hs := hJ
              refine wpO_in hs rfl rfl rfl (op_load hs (some 6) 0 (v := PV x y z) rfl rfl rfl rfl Try.isAgg26 Try.sizeOf26 rfl rfl fun ac hs => ?_)
              exact hs
            · intro L ac w hJ
              have hs := hJ
              refine wpO_in hs rfl rfl rfl (op_bin hs (some 7) (v := .bool false) rfl rfl rfl rfl (fun w => run_eqGuard_agg w .eql 26 _ _ _ _ Try.eqGuardType26) (eqlP (px T13) (py T13) x y (pz T13) z (px_lt T13) (py_lt T13) hx hy false (decide_eq_false (fun hh => (fun e => neg_ne oP hzP (by rw [hL, if_neg hq17] at e; rw [e, hP])) ((raw_iff hq12).1 hh)))) rfl fun ac hs => ?_)
              exact hs
            · intro L ac w hJ
              have hs := hJ
              refine wpO_in hs rfl rfl rfl (op_load hs (some 8) 0 (v := PV x y z) rfl rfl rfl rfl Try.isAgg26 Try.sizeOf26 rfl rfl fun ac hs => ?_)
              exact hs
            · intro L ac w hJ
              have hs := hJ
              refine wpO_in hs rfl rfl rfl (op_call (F := 21) hs (some 9) (v := .bool false) rfl rfl rfl rfl (Try.call21 _) (even_c x y z P false hx hy hP (Bool.eq_false_iff.2 hq17)) rfl fun ac w hs => ?_)
              exact hs
            · intro L ac w hJ
              have hs := hJ
              refine wpO_in hs rfl rfl rfl (op_bin hs (some 10) (v := .bool true) rfl rfl rfl rfl (fun _ => rfl) (fun _ => by kernel_rfl) rfl fun ac hs => ?_)
              exact hs
            · intro L ac w hJ
              have hs := hJ
              refine wpO_plain rfl (op_pickT hs (some 11) rfl rfl rfl rfl rfl fun ac hs => ?_)
              exact hs
            · intro L ac w hJ
              have hs := hJ
              refine wpO_plain rfl (op_move hs (some 12) rfl rfl rfl rfl fun ac hs => ?_)
              exact hs
            · intro L ac w hJ
              have hs := hJ
              refine wpO_in hs rfl rfl rfl (op_load hs (some 13) 3 (v := PV (px T13) (py T13) (pz T13)) rfl rfl rfl rfl Try.isAgg26 Try.sizeOf26 rfl rfl fun ac hs => ?_)
              exact hs
            · intro L ac w hJ
              have hs := hJ
              refine wpO_in hs rfl rfl rfl (op_load hs (some 14) 4 (v := PV (px T15) (py T15) (pz T15)) rfl rfl rfl rfl Try.isAgg26 Try.sizeOf26 rfl rfl fun ac hs => ?_)
              exact hs
            · intro L ac w hJ
              have hs := hJ
              refine wpO_in hs rfl rfl rfl (op_bin hs (some 15) (v := .bool true) rfl rfl rfl rfl (fun w => run_eqGuard_agg w .eql 26 _ _ _ _ Try.eqGuardType26) (eqlP (px T13) (py T13) (px T15) (py T15) (pz T13) (pz T15) (px_lt T13) (py_lt T13) (px_lt T15) (py_lt T15) true (decide_eq_true (pt_eq (by rw [hL, if_neg hq17, hT15])))) rfl fun ac hs => ?_)
              exact hs
            · intro L ac w hJ
              have hs := hJ
              refine wpO_in hs rfl rfl rfl (op_load hs (some 16) 4 (v := PV (px T15) (py T15) (pz T15)) rfl rfl rfl rfl Try.isAgg26 Try.sizeOf26 rfl rfl fun ac hs => ?_)
              exact hs
            · intro L ac w hJ
              have hs := hJ
              refine wpO_in hs rfl rfl rfl (op_call (F := 21) hs (some 17) (v := .bool true) rfl rfl rfl rfl (Try.call21 _) (even_c (px T15) (py T15) (pz T15) T15 true (px_lt T15) (py_lt T15) (pt_back oT15) (by rw [← hT15, ev_neg oP hzP, Bool.eq_false_iff.2 hq17]; rfl)) rfl fun ac w hs => ?_)
              exact hs
            · intro L ac w hJ
              have hs := hJ
              refine wpO_in hs rfl rfl rfl (op_bin hs (some 18) (v := .bool true) rfl rfl rfl rfl (fun _ => rfl) (fun _ => by kernel_rfl) rfl fun ac hs => ?_)
              exact hs
            · intro L ac w hJ
              have hs := hJ
              refine wpO_plain rfl (op_pickT hs (some 19) rfl rfl rfl rfl rfl fun ac hs => ?_)
              exact hs
            · intro L ac w hJ
              have hs := hJ
              refine wpO_plain rfl (op_move hs (some 20) rfl rfl rfl rfl fun ac hs => ?_)
              exact hs
            · intro L ac w hJ
              have hs := hJ
              refine wpO_in hs rfl rfl rfl (op_load hs (some 21) 0 (v := PV x y z) rfl rfl rfl rfl Try.isAgg26 Try.sizeOf26 rfl rfl fun ac hs => ?_)
              exact hs
            · intro L ac w hJ
              have hs := hJ
              refine wpO_in hs rfl rfl rfl (op_call (F := 21) hs (some 22) (v := .bool false) rfl rfl rfl rfl (Try.call21 _) (even_c x y z P false hx hy hP (Bool.eq_false_iff.2 hq17)) rfl fun ac w hs => ?_)
              exact hs
            · intro L ac w hJ
              have hs := hJ
              refine wpO_in hs rfl rfl rfl (op_load hs (some 23) 4 (v := PV (px T15) (py T15) (pz T15)) rfl rfl rfl rfl Try.isAgg26 Try.sizeOf26 rfl rfl fun ac hs => ?_)
              exact hs
            · intro L ac w hJ
              have hs := hJ
              refine wpO_in hs rfl rfl rfl (op_call (F := 21) hs (some 24) (v := .bool true) rfl rfl rfl rfl (Try.call21 _) (even_c (px T15) (py T15) (pz T15) T15 true (px_lt T15) (py_lt T15) (pt_back oT15) (by rw [← hT15, ev_neg oP hzP, Bool.eq_false_iff.2 hq17]; rfl)) rfl fun ac w hs => ?_)
              exact hs
            · intro L ac w hJ
              have hs := hJ
              refine wpO_in hs rfl rfl rfl (op_bin hs (some 25) (v := .bool true) rfl rfl rfl rfl (fun _ => rfl) (fun _ => by kernel_rfl) rfl fun ac hs => ?_)
              exact hs
            · intro L ac w hJ
              have hs := hJ
              refine wpO_plain rfl (op_pickT hs (some 26) rfl rfl rfl rfl rfl fun ac hs => ?_)
              exact hs
            · intro L ac w hJ
              have hs := hJ
              refine wpO_plain rfl (op_assign hs (some 27) rfl rfl rfl rfl fun ac hs => ?_)
              exact hs
          intro ac w hJ
          replace hs : St 89 w0 [(62, true, .bool true), (63, true, .bool true), (64, true, .bool true), (65, true, .bool true), (66, true, .bool true), (67, true, PV (px T13) (py T13) (pz T13)), (68, true, PV x y z), (69, true, .bool false), (70, true, PV x y z), (71, true, .bool false), (72, true, .bool true), (73, true, .bool true), (74, true, .bool true), (75, true, PV (px T13) (py T13) (pz T13)), (76, true, PV (px T15) (py T15) (pz T15)), (77, true, .bool true), (78, true, PV (px T15) (py T15) (pz T15)), (79, true, .bool true), (80, true, .bool true), (81, true, .bool true), (82, true, .bool true), (83, true, PV x y z), (84, true, .bool false), (85, true, PV (px T15) (py T15) (pz T15)), (86, true, .bool true), (87, true, .bool true), (88, true, .bool true), (4, true, .bool true), (2, true, .pointer (some ⟨g1, 0, none⟩)), (4, true, .bool false), (7, true, .pointer (some ⟨g14, 0, none⟩)), (8, true, .bool true), (9, true, .pointer (some ⟨g16, 0, none⟩))] [(true, g1, 26, (PVl x y z)), (true, g2, 35, (tab .u8 32 f)), (true, g4, 26, (PVl (px T3) (py T3) (pz T3))), (true, g14, 26, (PVl (px T13) (py T13) (pz T13))), (true, g16, 26, (PVl (px T15) (py T15) (pz T15)))] ac w := hJ
          refine then_n ?_
          refine wp_ret ?_
          exact bodyPost_ret (res1 rfl (rv_t hs rfl)) hs.defers ⟨rfl, hs.below⟩
    · skip
      refine wp_region_lit ?_
      refine lstep (wpO_plain rfl (op_load hs none 0 (v := PV x y z) rfl rfl rfl rfl Try.isAgg26 Try.sizeOf26 rfl rfl fun ac hs => ?_))
      refine lstep (wpO_plain rfl (op_call (F := 15) hs none (v := .bool false) rfl rfl rfl rfl (Try.call15 _) (on_c x y z false hx hy (Bool.eq_false_iff.2 hq12)) rfl fun ac w hs => ?_))
      refine lstep (wpO_plain rfl (op_un hs none (v := .bool true) rfl rfl rfl (fun _ => rfl) rfl fun ac hs => ?_))
      refine lstep (wpO_plain rfl (op_move hs none rfl rfl rfl rfl fun ac hs => ?_))
      refine lstep (wpO_out hs none rfl rfl (.inl rfl) rfl rfl fun ac hs => ?_)
      refine lstep (wpO_out hs none rfl rfl (.inl rfl) rfl rfl fun ac hs => ?_)
      refine lstep (wpO_plain rfl (op_pickT hs none rfl rfl rfl rfl rfl fun ac hs => ?_))
      refine wpList_nil ?_
      refine then_n ?_
      refine wp_cond_true (hs.ev rfl) ?_
      refine wp_seq ?_
      refine wp_region_lit ?_
      refine lstep (wpO_plain rfl (op_call (F := 10) hs none (v := .bool true) rfl rfl rfl rfl (Try.call10 _) alive_c rfl fun ac w hs => ?_))
      refine lstep (wpO_plain rfl (op_move hs none rfl rfl rfl rfl fun ac hs => ?_))
      refine lstep (wpO_in hs rfl rfl rfl (op_load hs none 0 (v := PV x y z) rfl rfl rfl rfl Try.isAgg26 Try.sizeOf26 rfl rfl fun ac hs => ?_))
      refine lstep (wpO_in hs rfl rfl rfl (op_call (F := 21) hs none (v := .bool (evB P)) rfl rfl rfl rfl (Try.call21 _) (even_c x y z P _ hx hy hP rfl) rfl fun ac w hs => ?_))
      refine lstep (wpO_in hs rfl rfl rfl (op_un hs none (v := .bool (!(evB P))) rfl rfl rfl (fun _ => rfl) rfl fun ac hs => ?_))
      refine lstep (wpO_plain rfl (op_pickT hs none rfl rfl rfl rfl rfl fun ac hs => ?_))
      refine lstep (wpO_plain rfl (op_assign hs none rfl rfl rfl rfl fun ac hs => ?_))
      refine wpList_nil ?_
      refine then_n ?_
      refine wp_ret ?_
      refine then_r ?_
      exact bodyPost_ret (res1 rfl (rv_t hs rfl)) hs.defers ⟨by rw [show P = .O from hP.symm.trans (on_no hq12)]; rfl, hs.below⟩
end Go.Proofs.Ytmpejkhffbonnaa
