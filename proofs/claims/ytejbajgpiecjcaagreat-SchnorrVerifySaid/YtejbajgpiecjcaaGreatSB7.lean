/- Several texts in one, what this law needs of them: SchR, SchL, Frame, FrameW, FrameB, FrameE. -/
import Derived.Test.YtejbajgpiecjcaaGreatSB6
import Derived.Test.YtejbajgpiecjcaaGreatRows
import Derived.WalkKit
import Derived.ProofKit
import Derived.OpenShut
import Derived.ChangeOld
import Derived.Below
import Derived.WideKeyArr2

/- The contracts of schnorr. -/
namespace Go.Proofs.YtejbajgpiecjcaaGreat
open Go.RowKit _root_.Go.Proofs.Tryz
set_option maxRecDepth 10000
set_option maxHeartbeats 1000000
theorem rchal_c (f1 f2 : Nat → Nat) (ad : Option Addr) (nl c : Nat) (l : List UInt8) (x : Nat) (hf1 : ∀ j, j < 32 → f1 j < 256) (hf2 : ∀ j, j < 32 → f2 j < 256) (hlen : l.length ≤ 1000) (hx : chal f1 f2 l = x) (w0 : World) (Z : Nat → Prop) (hl : ByV w0 Z (.slice ad nl c) l): Calls prog 26 #[At .u8 32 f1, At .u8 32 f2, .slice ad nl c] w0 fun e w' => Ret w0 Z (ρ := Unit) (fun r => W x) (fun r => []) e w' := by
 obtain rfl := byv_len hl
 have hb1 := btl_len 32 f1
 have hb2 := btl_len 32 f2
 refine enterS (n := 20) (args := [At .u8 32 f1, At .u8 32 f2, .slice ad l.length c]) (S := [(true, .cel (.slice ad l.length c) l.length (bcs l))]) (Z := Z) func26 rfl rfl (Nat.le_of_ble_eq_true rfl) (sokC hl sok0) rfl fun ac hs => ?_
 refine wp_seq (wp_region_lit ?_)
 refine stp (op_box hs none none (cs := (tab .u8 32 f1)) rfl rfl rfl rfl rfl rfl fun g1 ac w hs => ?_)
 refine stp (op_box hs none none (cs := (tab .u8 32 f2)) rfl rfl rfl rfl rfl rfl fun g2 ac w hs => ?_)
 refine stp (op_alloc hs none none (cs := [.int .u64 0, .int .u64 0, .int .u64 0, .int .u64 0]) rfl rfl zeroValue24 (by kernel_rfl) rfl rfl fun g3 ac w hs => ?_)
 refine wpList_nil (then_n (wp_seq (wp_region_lit ?_)))
 refine stp (op_bsO0 hs none none (size := 1) rfl rfl underlying25 inf_u8_5 rfl rfl fun ad5 ac w hs => ?_)
 replace hs := hs.arrCel none 0 (n0 := 32) (f := f1) rfl (fun j hj => hf1 j (by omega)) (by decide) rfl
 replace hs := hs.selB [1, 2] rfl (by decide)
 refine stp (op_val hs none (v := .slice (some ⟨g1, 0, none⟩) 32 32) rfl rfl (run_slA rfl (hs.ev rfl) underlying30 sizeOf5) fun ac hs => ?_)
 refine stp (op_appR hs none 1 2 (N' := (btl 32 f1).length) (ys := bcs (btl 32 f1)) rfl rfl rfl rfl rfl rfl underlying25 inf_u8_5 rfl (by decide) (bcs_len1 rfl) (bcs_one _) (by decide) (show 0 + 32 ≤ 1000000 by omega) (Nat.zero_add _) rfl rfl rfl fun ad6 cp7 ac w hs => ?_)
 refine asg hs rfl rfl rfl fun ac hs => ?_
 refine wpList_nil (then_n (wp_seq ?_))
 replace hs := hs.nf w0 Z noX [2, 4, 6, 7] rfl rfl rfl rfl
 refine wp_region_lit ?_
 refine mvv hs rfl rfl rfl fun ac hs => ?_
 replace hs := hs.arrCel none 0 (n0 := 32) (f := f2) rfl (fun j hj => hf2 j (by omega)) (by decide) rfl
 replace hs := hs.selB [1] rfl (by decide)
 refine stp (op_val hs none (v := .slice (some ⟨g2, 0, none⟩) 32 32) rfl rfl (run_slA rfl (hs.ev rfl) underlying30 sizeOf5) fun ac hs => ?_)
 refine stp (op_appR hs none 1 3 (N' := (btl 32 f1 ++ btl 32 f2).length) (ys := bcs (btl 32 f1 ++ btl 32 f2)) rfl rfl rfl rfl rfl rfl underlying25 inf_u8_5 rfl (by decide) (bcs_len1 rfl) (bcs_one _) (by decide) (show (btl 32 f1).length + 32 ≤ 1000000 by omega) (by simp only [List.length_append, List.length_cons, List.length_nil] <;> omega) (bcs_append _ _) rfl rfl fun ad8 cp9 ac w hs => ?_)
 refine asg hs rfl rfl rfl fun ac hs => ?_
 refine wpList_nil (then_n (wp_seq (wp_region_lit ?_)))
 refine mvv hs rfl rfl rfl fun ac hs => ?_
 refine mvv hs rfl rfl rfl fun ac hs => ?_
 refine stp (op_appR hs none 1 0 (N' := (btl 32 f1 ++ btl 32 f2 ++ l).length) (ys := bcs (btl 32 f1 ++ btl 32 f2 ++ l)) rfl rfl rfl rfl rfl rfl underlying25 inf_u8_5 rfl (by decide) (bcs_len1 rfl) (bcs_one _) (by decide) (show (btl 32 f1 ++ btl 32 f2).length + l.length ≤ 1000000 by first | omega | ((try simp only [List.length_drop, List.length_take, List.length_append, List.length_cons, List.length_nil]); omega)) (by simp only [List.length_append, List.length_cons, List.length_nil] <;> omega) (bcs_append _ _) rfl rfl fun ad10 cp11 ac w hs => ?_)
 refine asg hs rfl rfl rfl fun ac hs => ?_
 refine wpList_nil (then_n (wp_seq ?_))
 replace hs := hs.nf w0 Z noX [6, 7] rfl rfl rfl rfl
 refine wp_region_lit ?_
 refine mvv hs rfl rfl rfl fun ac hs => ?_
 replace hs := hs.freeze 1 rfl
 refine stp (op_callS (F := 58) (ρ := Unit) hs none none (v := fun r => At .u8 32 (tagH chTag (btl 32 f1 ++ btl 32 f2 ++ l))) (E := fun r => []) (j := 0) rfl rfl rfl rfl (call58 _) (fun hs => rtagged_c chTag ad10 ((btl 32 f1 ++ btl 32 f2 ++ l).length) cp11 (btl 32 f1 ++ btl 32 f2 ++ l) (by decide) (show (btl 32 f1 ++ btl 32 f2 ++ l).length ≤ 100000 by first | omega | ((try simp only [List.length_drop, List.length_take, List.length_append, List.length_cons, List.length_nil]); omega)) _ _ (hs.all (k := 1) rfl rfl)) (fun _ => rfl) rfl rfl fun _ ac w hs => ?_)
 obtain ⟨r12, hr12, lr12⟩ : ∃ z0, pr (tagH chTag (btl 32 f1 ++ btl 32 f2 ++ l)) 0 32 % Nord = z0 ∧ z0 < 2 ^ 256 := ⟨_, rfl, mN256 _⟩
 refine stp (op_call (F := 57) hs none (v := W r12) rfl rfl rfl rfl (call57 _) (rshash_c (tagH chTag (btl 32 f1 ++ btl 32 f2 ++ l)) r12 (fun j _ => tagH_lt _ _ j) hr12) rfl fun ac w hs => ?_)
 refine stp (stoo hs 0 ((Wl r12)) sizeOf24 rfl rfl rfl rfl rfl rfl rfl rfl rfl rfl fun w hs => ?_)
 refine wpList_nil (then_n (wp_ret ?_))
 exact bodyPost_ret (res1 rfl (rv_c hs 0 (v := W r12) rfl rfl isAgg24 sizeOf24 rfl)) hs.defers ⟨(), by rw [show r12 = x from hr12.symm.trans (by rw [← hx]; rfl)], hs.bel rfl, okl0⟩
theorem rhash_c (ad : Option Addr) (nl c : Nat) (l : List UInt8) (hlen : l.length ≤ 32) (w0 : World) (Z : Nat → Prop) (hl : ByV w0 Z (.slice ad nl c) l): Calls prog 36 #[.slice ad nl c] w0 fun e w' => Ret w0 Z (ρ := Unit) (fun r => At .u8 32 (byt l)) (fun r => []) e w' := by
 obtain rfl := byv_len hl
 refine enterS (n := 23) (args := [.slice ad l.length c]) (S := [(true, .cel (.slice ad l.length c) l.length (bcs l))]) (Z := Z) func36 rfl rfl (Nat.le_of_ble_eq_true rfl) (sokC hl sok0) rfl fun ac hs => ?_
 refine wp_seq (wp_region_lit ?_)
 refine stp (op_alloc hs none none (cs := (tab .u8 32 (fun _ => 0))) rfl rfl zeroValue30 (by kernel_rfl) rfl rfl fun g1 ac w hs => ?_)
 refine wpList_nil (then_n (wp_seq (wp_region_lit ?_)))
 refine stp (op_build hs none (qs := []) (v := At .u8 32 (fun _ => 0)) rfl rfl rfl rfl (fun _ => by kernel_rfl) rfl fun ac hs => ?_)
 refine stp (op_alloc hs none none (cs := (tab .u8 32 (fun _ => 0))) rfl rfl zeroValue30 (by kernel_rfl) rfl rfl fun g2 ac w hs => ?_)
 refine stp (stoo hs 1 ((tab .u8 32 (fun _ => 0))) sizeOf30 rfl rfl rfl rfl rfl (by kernel_rfl) tab_length' (tab_one _ _ _) tab_leA wr_tab fun w hs => ?_)
 refine wpList_nil (then_n (wp_seq (wp_seq (wp_region_lit ?_))))
 refine asg hs rfl rfl rfl fun ac hs => ?_
 refine wpList_nil (then_n (wp_block ?_))
 replace hs := hs.setb 1 (cs' := (tab .u8 32 (bytT l 0))) rfl (tab_ext fun j hj => bytT_zero l j)
 refine wp_loop_m (fun μ ac w => ∃ (i : Nat), (l.length - i) = μ ∧ (i ≤ l.length) ∧ St 23 ⟨w0, [], [(true, .cel (.slice ad l.length c) l.length (bcs l))], Z, noX⟩ [(0, true, .slice ad l.length c), (2, true, ptA g1 0), (3, true, ptA g2 0), (4, true, ni64 i)] [(true, g1, 30, (tab .u8 32 (fun _ => 0))), (true, g2, 30, (tab .u8 32 (bytT l i)))] ac w) ?_ ?_
 ·exact ⟨_, 0, rfl, (by omega), (hs.re (fs' := [(0, true, .slice ad l.length c), (2, true, ptA g1 0), (3, true, ptA g2 0), (4, true, ni64 0)]) ⟨rfl, rfl, rfl, rfl, trivial⟩)⟩
 intro μ ac w ⟨i, hμ, hi, hs⟩
 refine wp_seq (wp_seq ?_)
 by_cases hq3 : i < l.length
 ·skip
  refine wp_region_lit ?_
  refine mvv hs rfl rfl rfl fun ac hs => ?_
  refine mvv hs rfl rfl rfl fun ac hs => ?_
  refine stp (op_blt hs none (v := ni64 (l.length)) rfl rfl rfl (blt_len underlying25) rfl fun ac hs => ?_)
  refine bnn hs (.bool true) rfl rfl rfl rfl (fun w => dT hq3 (bin_lssN w)) fun ac hs => ?_
  refine mvv hs rfl rfl rfl fun ac hs => ?_
  refine lstep (wpO_in hs rfl rfl rfl (op_move hs none rfl rfl rfl rfl fun ac hs => ?_))
  refine lstep (wpO_in hs rfl rfl rfl (op_bin hs none (v := .bool true) rfl rfl rfl rfl (fun _ => rfl) (fun w => dT (show i < 32 by omega) (bin_lssN (x := i) (y := 32) w)) rfl fun ac hs => ?_))
  refine stp (op_pickT hs none rfl rfl rfl rfl rfl fun ac hs => ?_)
  refine wpList_nil (then_n ?_)
  refine wp_cond_true (hs.ev rfl) ?_
  refine wp_skip (then_n (wp_seq (wp_block ?_)))
  replace hs := hs.nf w0 Z noX [0, 2, 3, 4] rfl rfl rfl rfl
  refine wp_region_lit ?_
  refine mvv hs rfl rfl rfl fun ac hs => ?_
  refine mvv hs rfl rfl rfl fun ac hs => ?_
  refine mvv hs rfl rfl rfl fun ac hs => ?_
  refine stp (op_idxC hs none 0 (j := i) rfl rfl rfl rfl rfl underlying25 sizeOf5 (show i < l.length by omega) (off := i) (by omega) rfl fun ac hs => ?_)
  have l4 := byt_lt l i
  refine stp (op_loadC hs none 0 (u := nu8 (byt l i)) rfl rfl rfl rfl isAgg5 sizeOf5 (by decide) (bcs_get (show i < l.length by omega)) rfl fun ac hs => ?_)
  refine stp (op_idxA hs none (j := i) rfl rfl rfl rfl underlying30 sizeOf5 (show i < 32 by omega) (off := i) (by omega) rfl fun ac hs => ?_)
  refine stp (stoo hs 1 ([nu8 (byt l i)]) sizeOf5 rfl rfl rfl rfl rfl rfl rfl rfl (tab_le (j := i) (show i < 32 by omega)) (tab_set) fun w hs => ?_)
  refine wpList_nil (blk_n (then_n ?_))
  replace hs := hs.nf w0 Z noX [0, 2, 3, 4] rfl rfl rfl rfl
  refine wp_region_lit ?_
  refine mvv hs rfl rfl rfl fun ac hs => ?_
  refine bnn hs (ni64 (i + 1)) rfl rfl rfl rfl (bin_addN (y := 1) rfl (show i + 1 < 9223372036854775808 by omega)) fun ac hs => ?_
  refine asg hs rfl rfl rfl fun ac hs => ?_
  refine wpList_nil (then_n ?_)
  replace hs := hs.setb 1 (cs' := (tab .u8 32 (bytT l (i + 1)))) rfl (tab_ext fun j hj => bytT_step l i j)
  exact ⟨_, ⟨(i + 1), rfl, (by omega), (hs.re (fs' := [(0, true, .slice ad l.length c), (2, true, ptA g1 0), (3, true, ptA g2 0), (4, true, ni64 ((i + 1)))]) ⟨rfl, rfl, rfl, rfl, trivial⟩)⟩, (by omega)⟩
 ·skip
  refine wp_region_lit ?_
  refine mvv hs rfl rfl rfl fun ac hs => ?_
  refine mvv hs rfl rfl rfl fun ac hs => ?_
  refine stp (op_blt hs none (v := ni64 (l.length)) rfl rfl rfl (blt_len underlying25) rfl fun ac hs => ?_)
  refine bnn hs (.bool false) rfl rfl rfl rfl (fun w => dF hq3 (bin_lssN w)) fun ac hs => ?_
  refine mvv hs rfl rfl rfl fun ac hs => ?_
  refine lstep (wpO_out hs none rfl rfl (.inl rfl) rfl rfl fun ac hs => ?_)
  refine lstep (wpO_out hs none rfl rfl (.inl rfl) rfl rfl fun ac hs => ?_)
  refine stp (op_pickF hs none rfl rfl rfl rfl rfl fun ac hs => ?_)
  refine wpList_nil (then_n ?_)
  refine wp_cond_false (hs.ev rfl) ?_
  refine wp_exit (then_e (then_e (blk_e (then_n (wp_seq ?_)))))
  replace hs := hs.nf w0 Z noX [2, 3] rfl rfl rfl rfl
  refine wp_region_lit ?_
  refine ldd hs 1 (At .u8 32 (bytT l i)) isAgg30 sizeOf30 rfl rfl rfl rfl ldv_tab fun ac hs => ?_
  refine stp (stoo hs 0 ((tab .u8 32 (bytT l i))) sizeOf30 rfl rfl rfl rfl rfl (by kernel_rfl) tab_length' (tab_one _ _ _) tab_leA wr_tab fun w hs => ?_)
  refine wpList_nil (then_n (wp_ret ?_))
  exact bodyPost_ret (res1 rfl (rv_c hs 0 (v := At .u8 32 (bytT l i)) rfl rfl isAgg30 sizeOf30 ldv_tab)) hs.defers ⟨(), by rw [show At .u8 32 (bytT l i) = At .u8 32 (byt l) from congrArg (fun z => Value.agg (List.toArray z)) (tab_ext fun j hj => bytT_end hq3 j)], hs.bel rfl, okl0⟩
theorem rverify_c (f : Nat → Nat) (ad : Option Addr) (nl c : Nat) (l : List UInt8) (ag : Option Addr) (nm cg : Nat) (m : List UInt8) (q : Bool) (hf : ∀ j, j < 32 → f j < 256) (hlen : l.length ≤ 1000) (hlem : m.length ≤ 1000) (hq : verB f l m = q) (w0 : World) (Z : Nat → Prop) (hl : ByV w0 Z (.slice ad nl c) l) (hm : ByV w0 Z (.slice ag nm cg) m): Calls prog 12 #[At .u8 32 f, .slice ad nl c, .slice ag nm cg] w0 fun e w' => Ret w0 Z (ρ := Unit) (fun r => .bool q) (fun r => []) e w' := by
 obtain rfl := byv_len hl
 obtain rfl := byv_len hm
 refine enterS (n := 62) (args := [At .u8 32 f, .slice ad l.length c, .slice ag m.length cg]) (S := [(true, .cel (.slice ad l.length c) l.length (bcs l)), (true, .cel (.slice ag m.length cg) m.length (bcs m))]) (Z := Z) func12 rfl rfl (Nat.le_of_ble_eq_true rfl) (sokC hl (sokC hm sok0)) rfl fun ac hs => ?_
 refine wp_seq (wp_region_lit ?_)
 refine stp (op_box hs none none (cs := (tab .u8 32 f)) rfl rfl rfl rfl rfl rfl fun g1 ac w hs => ?_)
 refine asg hs rfl rfl rfl fun ac hs => ?_
 refine wpList_nil (then_n (wp_seq (wp_region_lit ?_)))
 refine ldd hs 0 (At .u8 32 f) isAgg30 sizeOf30 rfl rfl rfl rfl ldv_tab fun ac hs => ?_
 obtain ⟨T2, hT2, oT2⟩ := mkLift (pr f 0 32)
 refine stp (op_call (F := 35) hs none (v := .tuple #[PV (px T2) (py T2) (pz T2), .bool (!pz T2)]) rfl rfl rfl rfl (call35 _) (rlift_c f T2 hf hT2) rfl fun ac w hs => ?_)
 refine mvv hs rfl rfl rfl fun ac hs => ?_
 refine stp (xtr hs none rfl rfl rfl rfl rfl fun ac hs => ?_)
 refine stp (xtr hs none rfl rfl rfl rfl rfl fun ac hs => ?_)
 refine stp (op_alloc hs none none (cs := (PVl 0 0 false)) rfl rfl zeroValue42 (by kernel_rfl) rfl rfl fun g3 ac w hs => ?_)
 refine stp (stoo hs 1 ((PVl (px T2) (py T2) (pz T2))) sizeOf42 rfl rfl rfl rfl rfl rfl rfl rfl rfl rfl fun w hs => ?_)
 refine asg hs rfl rfl rfl fun ac hs => ?_
 refine wpList_nil (then_n (wp_seq (wp_seq ?_)))
 by_cases hq4 : pz T2 = true
 ·skip
  replace hs := hs.re (fs' := [(0, true, At .u8 32 f), (1, true, .slice ad l.length c), (2, true, .slice ag m.length cg), (3, true, ptA g1 0), (6, true, .bool false), (17, true, At .u8 32 f), (18, true, .tuple #[PV (px T2) (py T2) (pz T2), .bool (!pz T2)]), (16, true, .tuple #[PV (px T2) (py T2) (pz T2), .bool (!pz T2)]), (19, true, PV (px T2) (py T2) (pz T2)), (20, true, .bool (!pz T2)), (7, true, ptA g3 0), (8, true, .bool false)]) ⟨rfl, rfl, rfl, rfl, rfl, rfl, rfl, rfl, rfl, rfl, rfl, congrArg some (congrArg Value.bool (by rw [hq4]; rfl)), trivial⟩
  replace hs := hs.nf w0 Z noX [1, 2, 3, 6, 7, 8] rfl rfl rfl rfl
  refine wp_region_lit ?_
  refine mvv hs rfl rfl rfl fun ac hs => ?_
  refine stp (op_un hs none (v := .bool true) rfl rfl rfl (fun _ => rfl) rfl fun ac hs => ?_)
  refine mvv hs rfl rfl rfl fun ac hs => ?_
  refine lstep (wpO_out hs none rfl rfl (.inl rfl) rfl rfl fun ac hs => ?_)
  refine lstep (wpO_out hs none rfl rfl (.inl rfl) rfl rfl fun ac hs => ?_)
  refine lstep (wpO_out hs none rfl rfl (.inl rfl) rfl rfl fun ac hs => ?_)
  refine stp (op_pickT hs none rfl rfl rfl rfl rfl fun ac hs => ?_)
  refine wpList_nil (then_n ?_)
  refine wp_cond_true (hs.ev rfl) ?_
  refine wp_seq (wp_region_lit ?_)
  refine asg hs rfl rfl rfl fun ac hs => ?_
  refine wpList_nil (then_n (wp_ret (then_r ?_)))
  exact bodyPost_ret (res1 rfl (rv_t hs rfl)) hs.defers ⟨(), by rw [← hq, verB_1 (.inl (by rw [hT2]; exact hq4))], hs.bel rfl, okl0⟩
 ·skip
  replace hs := hs.re (fs' := [(0, true, At .u8 32 f), (1, true, .slice ad l.length c), (2, true, .slice ag m.length cg), (3, true, ptA g1 0), (6, true, .bool false), (17, true, At .u8 32 f), (18, true, .tuple #[PV (px T2) (py T2) (pz T2), .bool (!pz T2)]), (16, true, .tuple #[PV (px T2) (py T2) (pz T2), .bool (!pz T2)]), (19, true, PV (px T2) (py T2) (pz T2)), (20, true, .bool (!pz T2)), (7, true, ptA g3 0), (8, true, .bool true)]) ⟨rfl, rfl, rfl, rfl, rfl, rfl, rfl, rfl, rfl, rfl, rfl, congrArg some (congrArg Value.bool (by rw [Bool.eq_false_iff.2 hq4]; rfl)), trivial⟩
  by_cases hq5 : m.length = 64
  ·skip
   replace hs := hs.nf w0 Z noX [1, 2, 3, 6, 7, 8] rfl rfl rfl rfl
   refine wp_region_lit ?_
   refine mvv hs rfl rfl rfl fun ac hs => ?_
   refine stp (op_un hs none (v := .bool false) rfl rfl rfl (fun _ => rfl) rfl fun ac hs => ?_)
   refine mvv hs rfl rfl rfl fun ac hs => ?_
   refine lstep (wpO_in hs rfl rfl rfl (op_move hs none rfl rfl rfl rfl fun ac hs => ?_))
   refine lstep (wpO_in hs rfl rfl rfl (op_blt hs none (v := ni64 (m.length)) rfl rfl rfl (blt_len underlying25) rfl fun ac hs => ?_))
   refine lstep (wpO_in hs rfl rfl rfl (op_bin hs none (v := .bool false) rfl rfl rfl rfl (fun _ => rfl) (fun w => dF (fun hh => hh hq5) (bin_neqN (x := m.length) (y := 64) w)) rfl fun ac hs => ?_))
   refine stp (op_pickF hs none rfl rfl rfl rfl rfl fun ac hs => ?_)
   refine wpList_nil (then_n ?_)
   refine wp_cond_false (hs.ev rfl) ?_
   refine wp_skip (then_n (wp_seq ?_))
   replace hs := hs.nf w0 Z noX [1, 2, 3, 6, 7] rfl rfl rfl rfl
   refine wp_region_lit ?_
   refine mvv hs rfl rfl rfl fun ac hs => ?_
   refine stp (op_sliceR hs none none 1 0 32 (N' := (m.take 32).length) (cs' := bcs (m.take 32)) rfl rfl rfl rfl (.inl ⟨rfl, rfl⟩) (.inr ⟨_, _, rfl, rfl⟩) underlying25 sizeOf5 (show 0 ≤ 32 by omega) (show 32 ≤ m.length by omega) (len_hi (show 32 ≤ m.length by omega)) bcs_hi rfl rfl fun ac hs => ?_)
   refine stp (op_callS (F := 36) (ρ := Unit) hs none none (v := fun r => At .u8 32 (byt (m.take 32))) (E := fun r => []) (j := 0) rfl rfl rfl rfl (call36 _) (fun hs => rhash_c (vsa ag cg 1 0) ((m.take 32).length) (cg - 0) (m.take 32) (show (m.take 32).length ≤ 32 by first | omega | ((try simp only [List.length_drop, List.length_take, List.length_append, List.length_cons, List.length_nil]); omega)) _ _ (hs.all (k := 2) rfl rfl)) (fun _ => rfl) rfl rfl fun _ ac w hs => ?_)
   refine stp (op_alloc hs none none (cs := (tab .u8 32 (fun _ => 0))) rfl rfl zeroValue30 (by kernel_rfl) rfl rfl fun g6 ac w hs => ?_)
   refine stp (stoo hs 2 ((tab .u8 32 (byt (m.take 32)))) sizeOf30 rfl rfl rfl rfl rfl (by kernel_rfl) tab_length' (tab_one _ _ _) tab_leA wr_tab fun w hs => ?_)
   refine wpList_nil (then_n (wp_seq (wp_region_lit ?_)))
   refine mvv hs rfl rfl rfl fun ac hs => ?_
   refine stp (op_sliceR hs none none 1 32 m.length (N' := (m.drop 32).length) (cs' := bcs (m.drop 32)) rfl rfl rfl rfl (.inr ⟨_, _, rfl, rfl⟩) (.inl ⟨rfl, rfl⟩) underlying25 sizeOf5 (show 32 ≤ m.length by omega) (show m.length ≤ m.length by omega) len_lo bcs_lo rfl rfl fun ac hs => ?_)
   refine stp (op_callS (F := 36) (ρ := Unit) hs none none (v := fun r => At .u8 32 (byt (m.drop 32))) (E := fun r => []) (j := 0) rfl rfl rfl rfl (call36 _) (fun hs => rhash_c (vsa ag cg 1 32) ((m.drop 32).length) (cg - 32) (m.drop 32) (show (m.drop 32).length ≤ 32 by first | omega | ((try simp only [List.length_drop, List.length_take, List.length_append, List.length_cons, List.length_nil]); omega)) _ _ (hs.all (k := 3) rfl rfl)) (fun _ => rfl) rfl rfl fun _ ac w hs => ?_)
   obtain ⟨a7, ha7, la7⟩ : ∃ z0, rdN (byt (m.drop 32)) = z0 ∧ z0 < 2 ^ 256 := ⟨_, rfl, rdN_lt _⟩
   obtain ⟨q8, hq8⟩ : ∃ z0, decide (pr (byt (m.drop 32)) 0 32 < Nord) = z0 := ⟨_, rfl⟩
   refine stp (op_call (F := 37) hs none (v := .tuple #[W a7, .bool q8]) rfl rfl rfl rfl (call37 _) (rsread_c (byt (m.drop 32)) a7 q8 (fun j _ => byt_lt _ j) ha7 hq8) rfl fun ac w hs => ?_)
   refine mvv hs rfl rfl rfl fun ac hs => ?_
   refine stp (xtr hs none rfl rfl rfl rfl rfl fun ac hs => ?_)
   refine stp (xtr hs none rfl rfl rfl rfl rfl fun ac hs => ?_)
   refine stp (op_alloc hs none none (cs := [.int .u64 0, .int .u64 0, .int .u64 0, .int .u64 0]) rfl rfl zeroValue24 (by kernel_rfl) rfl rfl fun g9 ac w hs => ?_)
   refine stp (stoo hs 3 ((Wl a7)) sizeOf24 rfl rfl rfl rfl rfl rfl rfl rfl rfl rfl fun w hs => ?_)
   refine asg hs rfl rfl rfl fun ac hs => ?_
   refine wpList_nil (then_n (wp_seq (wp_seq ?_)))
   replace hs := hs.nf w0 Z noX [1, 3, 6, 7, 9, 10, 11] rfl rfl rfl rfl
   refine wp_region_lit ?_
   refine mvv hs rfl rfl rfl fun ac hs => ?_
   refine stp (op_un hs none (v := .bool (!q8)) rfl rfl rfl (fun _ => rfl) rfl fun ac hs => ?_)
   refine wpList_nil (then_n ?_)
   refine wp_cond_split (hs.ev rfl) (fun hc => ?_) (fun hc => ?_)
   ·skip
    have hnr : ¬ pr (byt (m.drop 32)) 0 32 < Nord := of_decide_eq_false (hq8.trans (by simpa using hc))
    refine wp_seq (wp_region_lit ?_)
    refine asg hs rfl rfl rfl fun ac hs => ?_
    refine wpList_nil (then_n (wp_ret (then_r ?_)))
    exact bodyPost_ret (res1 rfl (rv_t hs rfl)) hs.defers ⟨(), by rw [← hq, verB_2 hnr], hs.bel rfl, okl0⟩
   ·skip
    have hyr : pr (byt (m.drop 32)) 0 32 < Nord := of_decide_eq_true (hq8.trans (by simpa using hc))
    refine wp_skip (then_n (wp_seq (wp_region_lit ?_)))
    refine ldd hs 2 (At .u8 32 (byt (m.take 32))) isAgg30 sizeOf30 rfl rfl rfl rfl ldv_tab fun ac hs => ?_
    refine ldd hs 0 (At .u8 32 f) isAgg30 sizeOf30 rfl rfl rfl rfl ldv_tab fun ac hs => ?_
    refine mvv hs rfl rfl rfl fun ac hs => ?_
    obtain ⟨e10, he10, le10⟩ : ∃ z0, chal (byt (m.take 32)) f l = z0 ∧ z0 < 2 ^ 256 := ⟨_, rfl, chal_lt _ _ _⟩
    refine stp (op_callS (F := 26) (ρ := Unit) hs none none (v := fun r => W e10) (E := fun r => []) (j := 0) rfl rfl rfl rfl (call26 _) (fun hs => rchal_c (byt (m.take 32)) f ad l.length c l e10 (fun j _ => byt_lt _ j) hf (show l.length ≤ 1000 by omega) he10 _ _ (hs.all (k := 0) rfl rfl)) (fun _ => rfl) rfl rfl fun _ ac w hs => ?_)
    refine stp (op_alloc hs none none (cs := [.int .u64 0, .int .u64 0, .int .u64 0, .int .u64 0]) rfl rfl zeroValue24 (by kernel_rfl) rfl rfl fun g11 ac w hs => ?_)
    refine stp (stoo hs 4 ((Wl e10)) sizeOf24 rfl rfl rfl rfl rfl rfl rfl rfl rfl rfl fun w hs => ?_)
    refine wpList_nil (then_n (wp_seq ?_))
    replace hs := hs.nf w0 Z noX [6, 7, 9, 10, 12] rfl rfl rfl rfl
    obtain ⟨T12, hT12, oT12⟩ := mkMul a7 Gp_on
    refine region_inv [([], [2, 4]), ([], [2, 4]), ([0, 1], [4]), ([], [4]), (rgn 0 4, [])] (fun L ac w => ∃ (g13 : Nat), St 62 ⟨w0, [], [(true, .cel (.slice ad l.length c) l.length (bcs l)), (true, .cel (.slice ag m.length cg) m.length (bcs m)), (true, .cel (.slice (vsa ag cg 1 0) ((m.take 32).length) (cg - 0)) ((m.take 32).length) (bcs (m.take 32))), (true, .cel (.slice (vsa ag cg 1 32) ((m.drop 32).length) (cg - 32)) ((m.drop 32).length) (bcs (m.drop 32)))], Z, noX⟩ [(44, L 0, W a7), (45, L 1, PV (px Gp) (py Gp) (pz Gp)), (46, L 2, PV (px T12) (py T12) (pz T12)), (13, L 3, ptA g13 0), (6, true, .bool false), (7, true, ptA g3 0), (9, true, ptA g6 0), (10, true, ptA g9 0), (12, true, ptA g11 0)] [(true, g1, 30, (tab .u8 32 f)), (true, g3, 42, (PVl (px T2) (py T2) (pz T2))), (true, g6, 30, (tab .u8 32 (byt (m.take 32)))), (true, g9, 24, (Wl a7)), (true, g11, 24, (Wl e10)), (L 3, g13, 42, (cond (L 4) (PVl (px T12) (py T12) (pz T12)) (PVl 0 0 false)))] ac w) (by kernel_rfl) (by kernel_rfl) ?_ ?_ ?_
    ·exact ⟨0, hs.drew.skip.skip.skip.skip.pad⟩
    ·refine ⟨?_, ?_, ?_, ?_, ?_, trivial⟩
     ·exact fun L ac w ⟨g13, hs⟩ => pln (oldd hs 0 3 (W a7) isAgg24 sizeOf24 rfl rfl rfl rfl rfl fun ac hs => ⟨g13, hs⟩)
     ·exact fun L ac w ⟨g13, hs⟩ => pln (op_call (F := 39) hs (some 1) (v := PV (px Gp) (py Gp) (pz Gp)) rfl rfl rfl rfl (call39 _) rbase_c rfl fun ac w hs => ⟨g13, hs⟩)
     ·exact fun L ac w ⟨g13, hs⟩ => pln (op_call (F := 38) hs (some 2) (v := PV (px T12) (py T12) (pz T12)) rfl rfl rfl rfl (call38 _) (rmul14_c a7 (px Gp) (py Gp) (pz Gp) Gp T12 la7 (px_lt Gp) (py_lt Gp) (pt_back Gp_on) hT12) rfl fun ac w hs => ⟨g13, hs⟩)
     ·exact fun L ac w ⟨g13, hs⟩ => pln (op_alloc hs (some 3) (some 5) (cs := (PVl 0 0 false)) rfl rfl zeroValue42 (by kernel_rfl) rfl rfl fun g13 ac w hs => ⟨g13, hs⟩)
     ·exact fun L ac w ⟨g13, hs⟩ => pln (stoo hs 5 ((PVl (px T12) (py T12) (pz T12))) sizeOf42 rfl rfl rfl rfl rfl rfl rfl rfl rfl rfl fun w hs => ⟨g13, hs⟩)
    intro ac w ⟨g13, hs⟩
    try dsimp only [cond_true] at hs
    refine then_n (wp_seq (wp_region_lit ?_))
    refine ldd hs 4 (W e10) isAgg24 sizeOf24 rfl rfl rfl rfl rfl fun ac hs => ?_
    refine ldd hs 1 (PV (px T2) (py T2) (pz T2)) isAgg42 sizeOf42 rfl rfl rfl rfl rfl fun ac hs => ?_
    obtain ⟨T14, hT14, oT14⟩ := mkMul e10 oT2
    refine stp (op_call (F := 38) hs none (v := PV (px T14) (py T14) (pz T14)) rfl rfl rfl rfl (call38 _) (rmul14_c e10 (px T2) (py T2) (pz T2) T2 T14 le10 (px_lt T2) (py_lt T2) (pt_back oT2) hT14) rfl fun ac w hs => ?_)
    obtain ⟨T15, hT15, oT15⟩ := mkNeg oT14
    refine stp (op_call (F := 40) hs none (v := PV (px T15) (py T15) (pz T15)) rfl rfl rfl rfl (call40 _) (rneg_c (px T14) (py T14) (pz T14) T14 T15 (px_lt T14) (py_lt T14) (pt_back oT14) hT15) rfl fun ac w hs => ?_)
    refine stp (op_alloc hs none none (cs := (PVl 0 0 false)) rfl rfl zeroValue42 (by kernel_rfl) rfl rfl fun g16 ac w hs => ?_)
    refine stp (stoo hs 6 ((PVl (px T15) (py T15) (pz T15))) sizeOf42 rfl rfl rfl rfl rfl rfl rfl rfl rfl rfl fun w hs => ?_)
    refine wpList_nil (then_n (wp_seq ?_))
    replace hs := hs.nf w0 Z noX [6, 9, 13, 14] rfl rfl rfl rfl
    refine wp_region_lit ?_
    refine ldd hs 5 (PV (px T12) (py T12) (pz T12)) isAgg42 sizeOf42 rfl rfl rfl rfl rfl fun ac hs => ?_
    refine ldd hs 6 (PV (px T15) (py T15) (pz T15)) isAgg42 sizeOf42 rfl rfl rfl rfl rfl fun ac hs => ?_
    obtain ⟨T17, hT17, oT17⟩ := mkAdd oT12 oT15
    refine stp (op_call (F := 41) hs none (v := PV (px T17) (py T17) (pz T17)) rfl rfl rfl rfl (call41 _) (radd14_c (px T12) (py T12) (pz T12) (px T15) (py T15) (pz T15) T12 T15 T17 (px_lt T12) (py_lt T12) (px_lt T15) (py_lt T15) (pt_back oT12) (pt_back oT15) hT17) rfl fun ac w hs => ?_)
    refine stp (op_alloc hs none none (cs := (PVl 0 0 false)) rfl rfl zeroValue42 (by kernel_rfl) rfl rfl fun g18 ac w hs => ?_)
    refine stp (stoo hs 7 ((PVl (px T17) (py T17) (pz T17))) sizeOf42 rfl rfl rfl rfl rfl rfl rfl rfl rfl rfl fun w hs => ?_)
    refine wpList_nil (then_n (wp_seq ?_))
    by_cases hq19 : evB T17 = true
    ·skip
     have hQ : vPt f l m = T17 := by rw [← vPt_ref, hT2, ha7, he10, hT12, hT14, hT15, hT17]
     have hv : verB f l m = (evB T17 && eqF 32 (by8 (px T17)) (byt (m.take 32))) := by rw [verB_3 (by rw [hT2]; exact Bool.eq_false_iff.2 hq4) hq5 hyr]; unfold vRest; rw [hQ]
     replace hs := hs.nf w0 Z noX [6, 9, 15] rfl rfl rfl rfl
     refine region_inv [([], rgn 1 8), ([0], rgn 2 7), ([0, 1], rgn 3 6), ([0, 1, 2], [4, 6, 7, 8]), (rgn 0 4, [6, 7, 8]), ([0, 1, 2], [6, 7, 8]), (rgn 0 6, [7, 8]), (rgn 0 7, [8]), (rgn 0 8, [])] (fun L ac w => St 62 ⟨w0, [], [(true, .cel (.slice ad l.length c) l.length (bcs l)), (true, .cel (.slice ag m.length cg) m.length (bcs m)), (true, .cel (.slice (vsa ag cg 1 0) ((m.take 32).length) (cg - 0)) ((m.take 32).length) (bcs (m.take 32))), (true, .cel (.slice (vsa ag cg 1 32) ((m.drop 32).length) (cg - 32)) ((m.drop 32).length) (bcs (m.drop 32)))], Z, noX⟩ [(54, L 0, PV (px T17) (py T17) (pz T17)), (55, L 1, .bool true), (56, L 2, .bool true), (57, L 3, PV (px T17) (py T17) (pz T17)), (58, L 4, At .u8 32 (by8 (px T17))), (59, L 5, At .u8 32 (byt (m.take 32))), (60, L 6, .bool (eqF 32 (by8 (px T17)) (byt (m.take 32)))), (61, L 7, .bool (eqF 32 (by8 (px T17)) (byt (m.take 32)))), (6, L 8, .bool (eqF 32 (by8 (px T17)) (byt (m.take 32)))), (6, true, .bool false), (9, true, ptA g6 0), (15, true, ptA g18 0)] [(true, g1, 30, (tab .u8 32 f)), (true, g3, 42, (PVl (px T2) (py T2) (pz T2))), (true, g6, 30, (tab .u8 32 (byt (m.take 32)))), (true, g9, 24, (Wl a7)), (true, g11, 24, (Wl e10)), (true, g13, 42, (PVl (px T12) (py T12) (pz T12))), (true, g16, 42, (PVl (px T15) (py T15) (pz T15))), (true, g18, 42, (PVl (px T17) (py T17) (pz T17)))] ac w) (by kernel_rfl) (by kernel_rfl) ?_ ?_ ?_
     ·exact hs.drew.skip.skip.skip.skip.skip.skip.skip.skip.skip
     ·refine ⟨?_, ?_, ?_, ?_, ?_, ?_, ?_, ?_, ?_, trivial⟩
      ·exact fun L ac w hs => pln (oldd hs 0 7 (PV (px T17) (py T17) (pz T17)) isAgg42 sizeOf42 rfl rfl rfl rfl rfl fun ac hs => hs)
      ·exact fun L ac w hs => pln (op_call (F := 42) hs (some 1) (v := .bool true) rfl rfl rfl rfl (call42 _) (reven_c (px T17) (py T17) (pz T17) T17 true (px_lt T17) (py_lt T17) (pt_back oT17) hq19) rfl fun ac w hs => hs)
      ·exact fun L ac w hs => pln (omv hs 2 rfl rfl rfl fun ac hs => hs)
      ·exact fun L ac w hs => wpO_in hs rfl rfl rfl (oldd hs 3 7 (PV (px T17) (py T17) (pz T17)) isAgg42 sizeOf42 rfl rfl rfl rfl rfl fun ac hs => hs)
      ·exact fun L ac w hs => wpO_in hs rfl rfl rfl (op_call (F := 43) hs (some 4) (v := At .u8 32 (by8 (px T17))) rfl rfl rfl rfl (call43 _) (rpbytes_c (px T17) (py T17) (pz T17) T17 (px_lt T17) (py_lt T17) (pt_back oT17)) rfl fun ac w hs => hs)
      ·exact fun L ac w hs => wpO_in hs rfl rfl rfl (oldd hs 5 2 (At .u8 32 (byt (m.take 32))) isAgg30 sizeOf30 rfl rfl rfl rfl ldv_tab fun ac hs => hs)
      ·exact fun L ac w hs => wpO_in hs rfl rfl rfl (op_bin hs (some 6) (v := .bool (eqF 32 (by8 (px T17)) (byt (m.take 32)))) rfl rfl rfl rfl (fun w => run_eqGuard_agg w .eql 30 _ _ _ _ Tryz.eqGuardType30) (eqlAtD underlying30 underlying5 inf_u8_5 (by kernel_rfl) isAgg5 rfl) rfl fun ac hs => hs)
      ·exact fun L ac w hs => pln (op_pickT hs (some 7) rfl rfl rfl rfl rfl fun ac hs => hs)
      ·exact fun L ac w hs => pln (oas hs 8 rfl rfl rfl fun ac hs => hs)
     intro ac w hs
     try dsimp only [cond_true] at hs
     refine then_n (wp_ret ?_)
     exact bodyPost_ret (res1 rfl (rv_t hs rfl)) hs.defers ⟨(), by rw [← hq, hv, hq19]; rfl, hs.bel rfl, okl0⟩
    ·skip
     have hQ : vPt f l m = T17 := by rw [← vPt_ref, hT2, ha7, he10, hT12, hT14, hT15, hT17]
     have hv : verB f l m = (evB T17 && eqF 32 (by8 (px T17)) (byt (m.take 32))) := by rw [verB_3 (by rw [hT2]; exact Bool.eq_false_iff.2 hq4) hq5 hyr]; unfold vRest; rw [hQ]
     replace hs := hs.nf w0 Z noX [6, 9, 15] rfl rfl rfl rfl
     refine region_inv [([], rgn 1 8), ([0], rgn 2 7), ([0, 1], rgn 3 6), ([0, 1, 2], [4, 6, 7, 8]), (rgn 0 4, [6, 7, 8]), ([0, 1, 2], [6, 7, 8]), (rgn 0 6, [7, 8]), (rgn 0 7, [8]), (rgn 0 8, [])] (fun L ac w => St 62 ⟨w0, [], [(true, .cel (.slice ad l.length c) l.length (bcs l)), (true, .cel (.slice ag m.length cg) m.length (bcs m)), (true, .cel (.slice (vsa ag cg 1 0) ((m.take 32).length) (cg - 0)) ((m.take 32).length) (bcs (m.take 32))), (true, .cel (.slice (vsa ag cg 1 32) ((m.drop 32).length) (cg - 32)) ((m.drop 32).length) (bcs (m.drop 32)))], Z, noX⟩ [(54, L 0, PV (px T17) (py T17) (pz T17)), (55, L 1, .bool false), (56, L 2, .bool false), (57, L 3, undef), (58, L 4, undef), (59, L 5, undef), (60, L 6, undef), (61, L 7, .bool false), (6, L 8, .bool false), (6, true, .bool false), (9, true, ptA g6 0), (15, true, ptA g18 0)] [(true, g1, 30, (tab .u8 32 f)), (true, g3, 42, (PVl (px T2) (py T2) (pz T2))), (true, g6, 30, (tab .u8 32 (byt (m.take 32)))), (true, g9, 24, (Wl a7)), (true, g11, 24, (Wl e10)), (true, g13, 42, (PVl (px T12) (py T12) (pz T12))), (true, g16, 42, (PVl (px T15) (py T15) (pz T15))), (true, g18, 42, (PVl (px T17) (py T17) (pz T17)))] ac w) (by kernel_rfl) (by kernel_rfl) ?_ ?_ ?_
     ·exact hs.drew.skip.skip.skip.skip.skip.skip.skip.skip.skip
     ·refine ⟨?_, ?_, ?_, ?_, ?_, ?_, ?_, ?_, ?_, trivial⟩
      ·exact fun L ac w hs => pln (oldd hs 0 7 (PV (px T17) (py T17) (pz T17)) isAgg42 sizeOf42 rfl rfl rfl rfl rfl fun ac hs => hs)
      ·exact fun L ac w hs => pln (op_call (F := 42) hs (some 1) (v := .bool false) rfl rfl rfl rfl (call42 _) (reven_c (px T17) (py T17) (pz T17) T17 false (px_lt T17) (py_lt T17) (pt_back oT17) (Bool.eq_false_iff.2 hq19)) rfl fun ac w hs => hs)
      ·exact fun L ac w hs => pln (omv hs 2 rfl rfl rfl fun ac hs => hs)
      ·intro L ac w hs
       refine wpO_out hs (some 3) rfl rfl (.inl rfl) rfl rfl fun ac hs => ?_
       exact hs
      ·intro L ac w hs
       refine wpO_out hs (some 4) rfl rfl (.inl rfl) rfl rfl fun ac hs => ?_
       exact hs
      ·intro L ac w hs
       refine wpO_out hs (some 5) rfl rfl (.inl rfl) rfl rfl fun ac hs => ?_
       exact hs
      ·intro L ac w hs
       refine wpO_out hs (some 6) rfl rfl (.inl rfl) rfl rfl fun ac hs => ?_
       exact hs
      ·exact fun L ac w hs => pln (op_pickF hs (some 7) rfl rfl rfl rfl rfl fun ac hs => hs)
      ·exact fun L ac w hs => pln (oas hs 8 rfl rfl rfl fun ac hs => hs)
     intro ac w hs
     try dsimp only [cond_true] at hs
     refine then_n (wp_ret ?_)
     exact bodyPost_ret (res1 rfl (rv_t hs rfl)) hs.defers ⟨(), by rw [← hq, hv, Bool.eq_false_iff.2 hq19]; rfl, hs.bel rfl, okl0⟩
  ·skip
   replace hs := hs.nf w0 Z noX [1, 2, 3, 6, 7, 8] rfl rfl rfl rfl
   refine wp_region_lit ?_
   refine mvv hs rfl rfl rfl fun ac hs => ?_
   refine stp (op_un hs none (v := .bool false) rfl rfl rfl (fun _ => rfl) rfl fun ac hs => ?_)
   refine mvv hs rfl rfl rfl fun ac hs => ?_
   refine lstep (wpO_in hs rfl rfl rfl (op_move hs none rfl rfl rfl rfl fun ac hs => ?_))
   refine lstep (wpO_in hs rfl rfl rfl (op_blt hs none (v := ni64 (m.length)) rfl rfl rfl (blt_len underlying25) rfl fun ac hs => ?_))
   refine lstep (wpO_in hs rfl rfl rfl (op_bin hs none (v := .bool true) rfl rfl rfl rfl (fun _ => rfl) (fun w => dT hq5 (bin_neqN (x := m.length) (y := 64) w)) rfl fun ac hs => ?_))
   refine stp (op_pickF hs none rfl rfl rfl rfl rfl fun ac hs => ?_)
   refine wpList_nil (then_n ?_)
   refine wp_cond_true (hs.ev rfl) ?_
   refine wp_seq ?_
   replace hs := hs.nf w0 Z noX [1, 2, 3, 6, 7] rfl rfl rfl rfl
   refine wp_region_lit ?_
   refine asg hs rfl rfl rfl fun ac hs => ?_
   refine wpList_nil (then_n (wp_ret (then_r ?_)))
   exact bodyPost_ret (res1 rfl (rv_t hs rfl)) hs.defers ⟨(), by rw [← hq, verB_1 (.inr hq5)], hs.bel rfl, okl0⟩
end Go.Proofs.YtejbajgpiecjcaaGreat

/- The laws of schnorr. -/
namespace Go.Proofs.YtejbajgpiecjcaaGreat
open Go.RowKit _root_.Go.Proofs.Tryz
set_option maxRecDepth 10000
set_option maxHeartbeats 1000000
theorem alive_c  (w0 : World) : Calls prog 6 #[] w0 fun e w' => e = .returned (.bool true) ∧ Below w0.heap.size w0 w' := by
 refine enter (n := 27) (args := []) func6 rfl rfl (Nat.le_of_ble_eq_true rfl) fun ac hs => ?_
 refine wp_seq (wp_region_lit ?_)
 refine asg hs rfl rfl rfl fun ac hs => ?_
 refine wpList_nil (then_n (wp_seq (wp_region_lit ?_)))
 refine stp (op_build hs none (qs := [(0, .int .u64 1)]) (v := .agg #[.int .u64 1, .int .u64 0, .int .u64 0, .int .u64 0]) rfl rfl rfl rfl (fun _ => by kernel_rfl) rfl fun ac hs => ?_)
 refine stp (op_call (F := 9) hs none (v := .tuple #[At .u8 32 (sK 1), .int .i64 0]) rfl rfl rfl rfl (call9 _) (key_c 1 0 (by decide) (by decide)) rfl fun ac w hs => ?_)
 refine mvv hs rfl rfl rfl fun ac hs => ?_
 refine stp (xtr hs none rfl rfl rfl rfl rfl fun ac hs => ?_)
 refine stp (xtr hs none rfl rfl rfl rfl rfl fun ac hs => ?_)
 refine stp (op_alloc hs none none (cs := (tab .u8 32 (fun _ => 0))) rfl rfl zeroValue30 (by kernel_rfl) rfl rfl fun g1 ac w hs => ?_)
 refine stp (stoo hs 0 ((tab .u8 32 (sK 1))) sizeOf30 rfl rfl rfl rfl rfl (by kernel_rfl) tab_length' (tab_one _ _ _) tab_leA wr_tab fun w hs => ?_)
 refine asg hs rfl rfl rfl fun ac hs => ?_
 refine wpList_nil (then_n (wp_seq ?_))
 replace hs := hs.n0 [0, 1, 2] rfl rfl
 refine wp_region_lit ?_
 refine stp (op_build hs none (qs := []) (v := .agg #[.int .u64 0, .int .u64 0, .int .u64 0, .int .u64 0]) rfl rfl rfl rfl (fun _ => by kernel_rfl) rfl fun ac hs => ?_)
 refine stp (op_call (F := 9) hs none (v := .tuple #[At .u8 32 (sK 0), .int .i64 1]) rfl rfl rfl rfl (call9 _) (key_c 0 1 (by decide) (by decide)) rfl fun ac w hs => ?_)
 refine mvv hs rfl rfl rfl fun ac hs => ?_
 refine stp (xtr hs none rfl rfl rfl rfl rfl fun ac hs => ?_)
 refine stp (xtr hs none rfl rfl rfl rfl rfl fun ac hs => ?_)
 refine stp (op_alloc hs none none (cs := (tab .u8 32 (fun _ => 0))) rfl rfl zeroValue30 (by kernel_rfl) rfl rfl fun g2 ac w hs => ?_)
 refine stp (stoo hs 1 ((tab .u8 32 (sK 0))) sizeOf30 rfl rfl rfl rfl rfl (by kernel_rfl) tab_length' (tab_one _ _ _) tab_leA wr_tab fun w hs => ?_)
 refine asg hs rfl rfl rfl fun ac hs => ?_
 refine wpList_nil (then_n (wp_seq ?_))
 replace hs := hs.n0 [0, 1, 2, 4] rfl rfl
 refine region_inv [([], rgn 1 12), ([0], rgn 2 11), ([0, 1], rgn 3 10), ([0, 1, 2], rgn 4 9), (rgn 0 4, rgn 5 8), (rgn 0 5, rgn 6 7), (rgn 0 6, rgn 7 6), (rgn 0 7, [10, 11, 12]), (rgn 0 7, rgn 9 4), ([0, 1, 2, 3, 4, 5, 6, 8], [10, 11, 12]), (rgn 0 10, [11, 12]), (rgn 0 11, [12]), (rgn 0 12, [])] (fun L ac w => St 27 w0 [(15, L 0, .int .i64 0), (16, L 1, .bool true), (17, L 2, .bool true), (18, L 3, .int .i64 1), (19, L 4, .bool true), (20, L 5, .bool true), (21, L 6, .bool true), (22, L 7, At .u8 32 (sK 1)), (23, L 8, PV (px Gp) (py Gp) (pz Gp)), (24, L 9, At .u8 32 (by8 (px Gp))), (25, L 10, .bool true), (26, L 11, .bool true), (0, L 12, .bool true), (0, true, .bool false), (1, true, ptA g1 0), (2, true, .int .i64 0), (4, true, .int .i64 1)] [(true, g1, 30, (tab .u8 32 (sK 1))), (true, g2, 30, (tab .u8 32 (sK 0)))] ac w) (by kernel_rfl) (by kernel_rfl) ?_ ?_ ?_
 ·exact hs.drew.skip.skip.skip.skip.skip.skip.skip.skip.skip.skip.skip.skip.skip
 ·refine ⟨?_, ?_, ?_, ?_, ?_, ?_, ?_, ?_, ?_, ?_, ?_, ?_, ?_, trivial⟩
  ·exact fun L ac w hs => pln (omv hs 0 rfl rfl rfl fun ac hs => hs)
  ·exact fun L ac w hs => pln (obn hs 1 (.bool true) rfl rfl rfl rfl (fun _ => by kernel_rfl) fun ac hs => hs)
  ·exact fun L ac w hs => pln (omv hs 2 rfl rfl rfl fun ac hs => hs)
  ·exact fun L ac w hs => wpO_in hs rfl rfl rfl (omv hs 3 rfl rfl rfl fun ac hs => hs)
  ·exact fun L ac w hs => wpO_in hs rfl rfl rfl (obn hs 4 (.bool true) rfl rfl rfl rfl (fun _ => by kernel_rfl) fun ac hs => hs)
  ·exact fun L ac w hs => pln (op_pickT hs (some 5) rfl rfl rfl rfl rfl fun ac hs => hs)
  ·exact fun L ac w hs => pln (omv hs 6 rfl rfl rfl fun ac hs => hs)
  ·exact fun L ac w hs => wpO_in hs rfl rfl rfl (oldd hs 7 0 (At .u8 32 (sK 1)) isAgg30 sizeOf30 rfl rfl rfl rfl ldv_tab fun ac hs => hs)
  ·exact fun L ac w hs => wpO_in hs rfl rfl rfl (op_call (F := 18) hs (some 8) (v := PV (px Gp) (py Gp) (pz Gp)) rfl rfl rfl rfl (call18 _) base_c rfl fun ac w hs => hs)
  ·exact fun L ac w hs => wpO_in hs rfl rfl rfl (op_call (F := 17) hs (some 9) (v := At .u8 32 (by8 (px Gp))) rfl rfl rfl rfl (call17 _) (pbytes_c (px Gp) (py Gp) (pz Gp) Gp (px_lt Gp) (py_lt Gp) (pt_back Gp_on)) rfl fun ac w hs => hs)
  ·exact fun L ac w hs => wpO_in hs rfl rfl rfl (op_bin hs (some 10) (v := .bool true) rfl rfl rfl rfl (fun w => run_eqGuard_agg w .eql 30 _ _ _ _ Tryz.eqGuardType30) (eqlAt underlying30 underlying5 inf_u8_5 (by kernel_rfl) isAgg5 (fun j _ => by rw [sK_one])) rfl fun ac hs => hs)
  ·exact fun L ac w hs => pln (op_pickT hs (some 11) rfl rfl rfl rfl rfl fun ac hs => hs)
  ·exact fun L ac w hs => pln (oas hs 12 rfl rfl rfl fun ac hs => hs)
 intro ac w hs
 try dsimp only [cond_true] at hs
 refine then_n (wp_ret ?_)
 exact bodyPost_ret (res1 rfl (rv_t hs rfl)) hs.defers ⟨rfl, (hs.bel rfl)⟩
theorem verify_law (f : Nat → Nat) (ad : Option Addr) (c : Nat) (l : List UInt8) (ag : Option Addr) (cg : Nat) (m : List UInt8) (hf : ∀ j, j < 32 → f j < 256) (w0 : World) (Z : Nat → Prop) (hl : ByV w0 Z (.slice ad l.length c) l) (hm : ByV w0 Z (.slice ag m.length cg) m): Calls prog 4 #[At .u8 32 f, .slice ad l.length c, .slice ag m.length cg] w0 fun e w' => Ret w0 Z (ρ := Unit) (fun r => .bool true) (fun r => []) e w' := by
 refine enterS (n := 28) (args := [At .u8 32 f, .slice ad l.length c, .slice ag m.length cg]) (S := [(true, .cel (.slice ad l.length c) l.length (bcs l)), (true, .cel (.slice ag m.length cg) m.length (bcs m))]) (Z := Z) func4 rfl rfl (Nat.le_of_ble_eq_true rfl) (sokC hl (sokC hm sok0)) rfl fun ac hs => ?_
 refine wp_seq (wp_region_lit ?_)
 refine stp (op_box hs none none (cs := (tab .u8 32 f)) rfl rfl rfl rfl rfl rfl fun g1 ac w hs => ?_)
 refine asg hs rfl rfl rfl fun ac hs => ?_
 refine wpList_nil (then_n (wp_seq (wp_seq ?_)))
 by_cases hq2 : 200 < l.length
 ·skip
  refine wp_region_lit ?_
  refine mvv hs rfl rfl rfl fun ac hs => ?_
  refine stp (op_blt hs none (v := ni64 (l.length)) rfl rfl rfl (blt_len underlying25) rfl fun ac hs => ?_)
  refine bnn hs (.bool true) rfl rfl rfl rfl (fun w => dT hq2 (bin_gtrN (y := 200) w)) fun ac hs => ?_
  refine mvv hs rfl rfl rfl fun ac hs => ?_
  refine lstep (wpO_out hs none rfl rfl (.inl rfl) rfl rfl fun ac hs => ?_)
  refine lstep (wpO_out hs none rfl rfl (.inl rfl) rfl rfl fun ac hs => ?_)
  refine lstep (wpO_out hs none rfl rfl (.inl rfl) rfl rfl fun ac hs => ?_)
  refine stp (op_pickT hs none rfl rfl rfl rfl rfl fun ac hs => ?_)
  refine wpList_nil (then_n ?_)
  refine wp_cond_true (hs.ev rfl) ?_
  refine wp_seq ?_
  replace hs := hs.nf w0 Z noX [1, 2, 3, 6] rfl rfl rfl rfl
  refine wp_region_lit ?_
  refine stp (op_call (F := 6) hs none (v := .bool true) rfl rfl rfl rfl (call6 _) alive_c rfl fun ac w hs => ?_)
  refine asg hs rfl rfl rfl fun ac hs => ?_
  refine wpList_nil (then_n (wp_ret (then_r ?_)))
  exact bodyPost_ret (res1 rfl (rv_t hs rfl)) hs.defers ⟨(), rfl, hs.bel rfl, okl0⟩
 ·skip
  by_cases hq3 : 200 < m.length
  ·skip
   refine wp_region_lit ?_
   refine mvv hs rfl rfl rfl fun ac hs => ?_
   refine stp (op_blt hs none (v := ni64 (l.length)) rfl rfl rfl (blt_len underlying25) rfl fun ac hs => ?_)
   refine bnn hs (.bool false) rfl rfl rfl rfl (fun w => dF hq2 (bin_gtrN (y := 200) w)) fun ac hs => ?_
   refine mvv hs rfl rfl rfl fun ac hs => ?_
   refine lstep (wpO_in hs rfl rfl rfl (op_move hs none rfl rfl rfl rfl fun ac hs => ?_))
   refine lstep (wpO_in hs rfl rfl rfl (op_blt hs none (v := ni64 (m.length)) rfl rfl rfl (blt_len underlying25) rfl fun ac hs => ?_))
   refine lstep (wpO_in hs rfl rfl rfl (op_bin hs none (v := .bool true) rfl rfl rfl rfl (fun _ => rfl) (fun w => dT hq3 (bin_gtrN (x := m.length) (y := 200) w)) rfl fun ac hs => ?_))
   refine stp (op_pickF hs none rfl rfl rfl rfl rfl fun ac hs => ?_)
   refine wpList_nil (then_n ?_)
   refine wp_cond_true (hs.ev rfl) ?_
   refine wp_seq ?_
   replace hs := hs.nf w0 Z noX [1, 2, 3, 6] rfl rfl rfl rfl
   refine wp_region_lit ?_
   refine stp (op_call (F := 6) hs none (v := .bool true) rfl rfl rfl rfl (call6 _) alive_c rfl fun ac w hs => ?_)
   refine asg hs rfl rfl rfl fun ac hs => ?_
   refine wpList_nil (then_n (wp_ret (then_r ?_)))
   exact bodyPost_ret (res1 rfl (rv_t hs rfl)) hs.defers ⟨(), rfl, hs.bel rfl, okl0⟩
  ·skip
   refine wp_region_lit ?_
   refine mvv hs rfl rfl rfl fun ac hs => ?_
   refine stp (op_blt hs none (v := ni64 (l.length)) rfl rfl rfl (blt_len underlying25) rfl fun ac hs => ?_)
   refine bnn hs (.bool false) rfl rfl rfl rfl (fun w => dF hq2 (bin_gtrN (y := 200) w)) fun ac hs => ?_
   refine mvv hs rfl rfl rfl fun ac hs => ?_
   refine lstep (wpO_in hs rfl rfl rfl (op_move hs none rfl rfl rfl rfl fun ac hs => ?_))
   refine lstep (wpO_in hs rfl rfl rfl (op_blt hs none (v := ni64 (m.length)) rfl rfl rfl (blt_len underlying25) rfl fun ac hs => ?_))
   refine lstep (wpO_in hs rfl rfl rfl (op_bin hs none (v := .bool false) rfl rfl rfl rfl (fun _ => rfl) (fun w => dF hq3 (bin_gtrN (x := m.length) (y := 200) w)) rfl fun ac hs => ?_))
   refine stp (op_pickF hs none rfl rfl rfl rfl rfl fun ac hs => ?_)
   refine wpList_nil (then_n ?_)
   refine wp_cond_false (hs.ev rfl) ?_
   refine wp_skip (then_n (wp_seq ?_))
   replace hs := hs.nf w0 Z noX [1, 2, 3, 6] rfl rfl rfl rfl
   obtain ⟨q4, hq4⟩ : ∃ z0, verB f l m = z0 := ⟨_, rfl⟩
   refine region_inv [([], rgn 1 12), ([0], rgn 2 11), ([0, 1], [5, 9, 10, 11, 12]), ([0, 1], [5, 9, 10, 11, 12]), ([0, 1], [5, 9, 10, 11, 12]), (rgn 0 5, rgn 9 4), ([0, 1], rgn 9 4), ([0, 1], rgn 9 4), ([0, 1], rgn 9 4), (rgn 0 9, [10, 11, 12]), (rgn 0 10, [11, 12]), (rgn 0 11, [12]), (rgn 0 12, [])] (fun L ac w => St 28 ⟨w0, [], [(true, .cel (.slice ad l.length c) l.length (bcs l)), (true, .cel (.slice ag m.length cg) m.length (bcs m))], Z, noX⟩ [(16, L 0, .bool true), (17, L 1, .bool true), (18, L 2, At .u8 32 f), (19, L 3, .slice ad l.length c), (20, L 4, .slice ag m.length cg), (21, L 5, .bool q4), (22, L 6, At .u8 32 f), (23, L 7, .slice ad l.length c), (24, L 8, .slice ag m.length cg), (25, L 9, .bool q4), (26, L 10, .bool true), (27, L 11, .bool true), (6, L 12, .bool true), (1, true, .slice ad l.length c), (2, true, .slice ag m.length cg), (3, true, ptA g1 0), (6, true, .bool false)] [(true, g1, 30, (tab .u8 32 f))] ac w) (by kernel_rfl) (by kernel_rfl) ?_ ?_ ?_
   ·exact hs.drew.skip.skip.skip.skip.skip.skip.skip.skip.skip.skip.skip.skip.skip
   ·refine ⟨?_, ?_, ?_, ?_, ?_, ?_, ?_, ?_, ?_, ?_, ?_, ?_, ?_, trivial⟩
    ·exact fun L ac w hs => pln (op_call (F := 6) hs (some 0) (v := .bool true) rfl rfl rfl rfl (call6 _) alive_c rfl fun ac w hs => hs)
    ·exact fun L ac w hs => pln (omv hs 1 rfl rfl rfl fun ac hs => hs)
    ·exact fun L ac w hs => wpO_in hs rfl rfl rfl (oldd hs 2 0 (At .u8 32 f) isAgg30 sizeOf30 rfl rfl rfl rfl ldv_tab fun ac hs => hs)
    ·exact fun L ac w hs => wpO_in hs rfl rfl rfl (omv hs 3 rfl rfl rfl fun ac hs => hs)
    ·exact fun L ac w hs => wpO_in hs rfl rfl rfl (omv hs 4 rfl rfl rfl fun ac hs => hs)
    ·exact fun L ac w hs => wpO_in hs rfl rfl rfl (op_callS (F := 11) (ρ := Unit) hs (some 5) none (v := fun r => .bool q4) (E := fun r => []) (j := 0) rfl rfl rfl rfl (call11 _) (fun hs => verify_c f ad l.length c l ag m.length cg m q4 hf (show l.length ≤ 1000 by omega) (show m.length ≤ 1000 by omega) hq4 _ _ (hs.all (k := 0) rfl rfl) (hs.all (k := 1) rfl rfl)) (fun _ => rfl) rfl rfl fun _ ac w hs => hs)
    ·exact fun L ac w hs => wpO_in hs rfl rfl rfl (oldd hs 6 0 (At .u8 32 f) isAgg30 sizeOf30 rfl rfl rfl rfl ldv_tab fun ac hs => hs)
    ·exact fun L ac w hs => wpO_in hs rfl rfl rfl (omv hs 7 rfl rfl rfl fun ac hs => hs)
    ·exact fun L ac w hs => wpO_in hs rfl rfl rfl (omv hs 8 rfl rfl rfl fun ac hs => hs)
    ·exact fun L ac w hs => wpO_in hs rfl rfl rfl (op_callS (F := 12) (ρ := Unit) hs (some 9) none (v := fun r => .bool q4) (E := fun r => []) (j := 0) rfl rfl rfl rfl (call12 _) (fun hs => rverify_c f ad l.length c l ag m.length cg m q4 hf (show l.length ≤ 1000 by omega) (show m.length ≤ 1000 by omega) hq4 _ _ (hs.all (k := 0) rfl rfl) (hs.all (k := 1) rfl rfl)) (fun _ => rfl) rfl rfl fun _ ac w hs => hs)
    ·exact fun L ac w hs => wpO_in hs rfl rfl rfl (obn hs 10 (.bool true) rfl rfl rfl rfl (eqlB underlying4 rfl) fun ac hs => hs)
    ·exact fun L ac w hs => pln (op_pickT hs (some 11) rfl rfl rfl rfl rfl fun ac hs => hs)
    ·exact fun L ac w hs => pln (oas hs 12 rfl rfl rfl fun ac hs => hs)
   intro ac w hs
   try dsimp only [cond_true] at hs
   refine then_n (wp_ret ?_)
   exact bodyPost_ret (res1 rfl (rv_t hs rfl)) hs.defers ⟨(), rfl, hs.bel rfl, okl0⟩
end Go.Proofs.YtejbajgpiecjcaaGreat

/- Arguments opened, and read again behind a call that writes nothing that was there: lemmas of whatever program. -/
namespace Go.Proofs.YtejbajgpiecjcaaGreat
open Go.ChangeShapes Go.WideShapes Go.ChangeAt Go.RowKit
section
variable {H : Type} {enc : TypeId × Value → H} {P : Program}
/-- all arguments read behind the call as they did -/
theorem trodAll_below (hl : laidOutB P = true) {W W' : World} (hb : Below W.heap.size W W') : ∀ (ts : List TypeId) (vs : List Value) (ds : List (DataW H)) (ps : List MemPlace),
    ts.all (fun t => P.readableRec t && decide (t < P.types.size)) = true → DataW.TrodAll enc P W 0 (fun _ => true) true ts vs ds ps → DataW.TrodAll enc P W' 0 (fun b => decide (b < W.heap.size)) true ts vs ds ps := by
  intro ts
  induction ts with
  | nil =>
    intro vs ds ps _ h
    obtain ⟨rfl, rfl, rfl⟩ := trodAll_nil h
    exact trodAll_mk0
  | cons t ts ih =>
    intro vs ds ps hts h
    obtain ⟨v, vs0, d, ds0, p, q, rfl, rfl, rfl, h0, r0⟩ := trodAll_cons h
    simp only [List.all_cons, Bool.and_eq_true, decide_eq_true_eq] at hts
    obtain ⟨⟨hr, ht⟩, hts⟩ := hts
    have lt0 : ∀ x ∈ p, x.block < W.heap.size := by obtain ⟨m, hm⟩ := h0; exact DataW.trod_lt m _ _ _ hm
    exact trodAll_cons_mk (Below.trod hl hr ht h0 hb lt0) (ih _ _ _ hts r0)
end
/-- a slice value that reads as bytes, of whatever length -/
def RdN (w : World) (a : Option Addr) (l : List UInt8) : Prop :=
  l.length ≠ 0 → ∃ b off, a = some ⟨b, off, none⟩ ∧ ∀ k, k < l.length → w.cell? ⟨b, off + k, none⟩ = some (.int .u8 ((l.getD k 0).toNat : Int))
end Go.Proofs.YtejbajgpiecjcaaGreat

/- Arguments that are arrays of integers, opened: numbers of 256 bits, 32 bytes. -/
set_option maxRecDepth 100000
namespace Go.Proofs.YtejbajgpiecjcaaGreat
open Go.ChangeShapes Go.WideShapes Go.ChangeAt Go.RowKit Go.WideMaps
section
variable {H : Type} {enc : TypeId × Value → H} {P : Program} {k e : TypeId} {n : Nat} {q : IntKind} {W : World} {base : Nat} {sp : Nat → Bool} {held : Bool}
theorem open_ints_arr (A : ArrKey P k e n) (he : P.underlying e = some (.int q)) {v : Value} {d : DataW H} {ps : List MemPlace} (hval : Value.okWide P W .any 0 k v) (hd : DataW.Trod enc P W base sp held k v d ps) :
    ∃ xs : Array Value, v = .agg xs ∧ xs.size = n ∧ ∀ i, i < n → ∃ z, xs[i]? = some (.int q z) ∧ (Lit.int q z).wf = true := by
  obtain ⟨xs, rfl, hn⟩ := okWide_arr A hval
  refine ⟨xs, rfl, hn, fun i hi => ?_⟩
  obtain ⟨fuel, hf⟩ := hd
  cases fuel with
  | zero => simp [DataW.trod] at hf
  | succ m =>
    rw [DataW.trod_step] at hf
    unfold DataW.trodStep at hf
    simp only [A.hu, Value.cells] at hf
    rw [if_pos (by rw [A.size]; simpa using hn)] at hf
    simp only [Option.map_eq_some_iff] at hf
    obtain ⟨ys, hy, _⟩ := hf
    obtain ⟨y, hy⟩ := mapM_each hy i (by simpa using hi)
    obtain ⟨z, hz, _, hw⟩ := DataW.trod_int he hy
    rw [A.one, Nat.mul_one] at hz
    refine ⟨z, ?_, hw⟩
    have := congrArg (·[0]?) hz
    simpa [List.getElem?_take] using this
end
end Go.Proofs.YtejbajgpiecjcaaGreat

/- Arguments that are arrays of 32 bytes, opened. -/
namespace Go.Proofs.YtejbajgpiecjcaaGreat
open Go.ChangeShapes Go.WideShapes Go.ChangeAt Go.RowKit Go.WideMaps
set_option maxRecDepth 100000
theorem b32_key : ArrKey Tryz.prog 30 5 32 := ⟨Tryz.underlying30, by kernel_rfl, by kernel_rfl, by kernel_rfl⟩
theorem tab_of {q : IntKind} {n : Nat} {f : Nat → Nat} {xs : Array Value} (hn : xs.size = n) (h : ∀ i, i < n → xs[i]? = some (.int q (f i : Int))) : xs = (tab q n f).toArray := by
  apply Array.ext_getElem?
  intro i
  by_cases hi : i < n
  · rw [h i hi]
    have := tab_get (k := q) (f := f) hi
    simp [this]
  · rw [Array.getElem?_eq_none (by omega), Array.getElem?_eq_none (by simp [tab_length]; omega)]
theorem open_b32 {H : Type} {enc : TypeId × Value → H} {w : World} {base : Nat} {sp : Nat → Bool} {held : Bool} {v : Value} {d : DataW H} {ps : List MemPlace} (hval : Value.okWide Tryz.prog w .any 0 30 v) (hd : DataW.Trod enc Tryz.prog w base sp held 30 v d ps) :
    ∃ f : Nat → Nat, v = At .u8 32 f ∧ ∀ j, j < 32 → f j < 256 := by
  obtain ⟨xs, rfl, hn, hx⟩ := open_ints_arr b32_key (q := .u8) Tryz.underlying5 hval hd
  have hc : ∀ i, ∃ m : Nat, i < 32 → xs[i]? = some (.int .u8 (m : Int)) ∧ m < 256 := by
    intro i
    by_cases hi : i < 32
    · obtain ⟨z, e, b⟩ := hx i hi
      have c := bounds_u8 b
      obtain ⟨y, rfl⟩ := Int.eq_ofNat_of_zero_le c.1
      exact ⟨y, fun _ => ⟨e, by omega⟩⟩
    · exact ⟨0, fun h => absurd h hi⟩
  refine ⟨fun i => Classical.choose (hc i), ?_, fun j hj => (Classical.choose_spec (hc j) hj).2⟩
  exact congrArg Value.agg (tab_of hn (fun i hi => (Classical.choose_spec (hc i) hi).1))
end Go.Proofs.YtejbajgpiecjcaaGreat

/- Arguments that lie in memory, opened as entries: byte strings, rows. -/
namespace Go.Proofs.YtejbajgpiecjcaaGreat
open Go.ChangeShapes Go.WideShapes Go.ChangeAt Go.RowKit
section
variable {H : Type} {enc : TypeId × Value → H} {P : Program} {w : World} {base : Nat} {sp : Nat → Bool} {held : Bool}
theorem trod_bytes {t e : TypeId} {m : Nat} {cs : List Value} {x : DataW H × List MemPlace} (ht : P.underlying t = some (.slice e)) (he : P.underlying e = some (.int .u8)) (hc : P.cellsOf e = 1)
    (h : DataW.trod enc P w base sp held m t cs = some x) : ∃ a c l, cs = [.slice a l.length c] ∧ ByV w (fun _ => True) (.slice a l.length c) l := by
  rcases open_ints ht he hc h with ⟨rfl, _⟩ | ⟨x, len, c, zs, rfl, _, hl, hm, hz, _, hcell, hwz⟩
  · exact ⟨none, 0, [], rfl, celv_nil⟩
  · have hzl : len ≤ zs.length := by rw [hz]; split <;> omega
    have hlen : ((zs.take len).map fun z => UInt8.ofNat z.toNat).length = len := by simp; omega
    refine ⟨some x, c, (zs.take len).map fun z => UInt8.ofNat z.toNat, by rw [hlen], ⟨some x, c, by rw [hlen], by rw [hlen]; exact hl, hm, (fun h => by cases h), fun j u hu => ?_⟩⟩
    have hj : j < len := by
      have := (List.getElem?_eq_some_iff.1 hu).1
      rw [bcs_length, hlen] at this; exact this
    obtain ⟨b, off, rfl, hcc⟩ := ints_at hcell (by omega)
    refine ⟨b, off, rfl, trivial, ?_⟩
    have hjz : j < zs.length := by omega
    rw [hcc j hjz]
    have hb := bounds_u8 (hwz _ (List.getElem_mem hjz))
    rw [bcs_get (by rw [hlen]; exact hj)] at hu
    have e1 : ((byt ((zs.take len).map fun z => UInt8.ofNat z.toNat) j : Nat) : Int) = zs[j] := by
      unfold byt
      rw [List.getD_eq_getElem?_getD, List.getElem?_map, List.getElem?_take_of_lt hj, List.getElem?_eq_getElem hjz]
      simp
      omega
    rw [e1] at hu
    rw [← hu]
    simp [List.getD, hjz]
theorem open_by {t e : TypeId} {v : Value} {d : DataW H} {p : List MemPlace} (ht : P.underlying t = some (.slice e)) (he : P.underlying e = some (.int .u8)) (hc : P.cellsOf e = 1)
    (hv : Value.okWide P w .any 0 t v) (h : DataW.Trod enc P w base sp held t v d p) : ∃ a c l, v = .slice a l.length c ∧ ByV w (fun _ => True) (.slice a l.length c) l := by
  obtain ⟨a, len, cap, rfl⟩ := okWide_slice ht hv
  obtain ⟨fuel, hf⟩ := h
  obtain ⟨a', c, l, h1, h2⟩ := trod_bytes ht he hc hf
  simp [Value.cells] at h1
  obtain ⟨rfl, rfl, rfl⟩ := h1
  exact ⟨_, _, _, rfl, h2⟩
end
end Go.Proofs.YtejbajgpiecjcaaGreat
