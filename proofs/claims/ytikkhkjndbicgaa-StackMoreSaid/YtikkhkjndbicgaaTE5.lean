/- Several texts in one, what this law needs of them: StkR, StkS, StkRD, ShaR, StkT, StkWP, StkW, Frame, FrameE, FrameK. -/
import Derived.Test.YtikkhkjndbicgaaTE4
import Derived.Test.YtikkhkjndbicgaaRows
import Derived.WalkKit
import Derived.ProofKit
import Derived.OpenShut
import Derived.ChangeOld
import Derived.Below

/- Stacks: the document's functions. -/
namespace Go.Proofs.Ytikkhkjndbicgaa
open Go.RowKit _root_.Go.Proofs.Try
set_option maxRecDepth 10000
set_option maxHeartbeats 1000000
theorem rcheck_c (am : Option Addr) (cm : Nat) (vs : List Value) (aa : Option Addr) (ca : Nat) (us : List Value) (ks js : BL) (rr : Nat) (h1 : ks.length ≤ 1000000) (h2 : js.length ≤ 1000000) (hr : chkL ks js = rr) (w0 : World) (Z : Nat → Prop) (hV : CelV w0 Z (.slice am ks.length cm) ks.length vs) (hY : BysV w0 Z vs ks) (hU : CelV w0 Z (.slice aa js.length ca) js.length us) (hX : BysV w0 Z us js): Calls prog 25 #[.agg #[.slice am ks.length cm, .slice aa js.length ca]] w0 fun e w' => Ret w0 Z (ρ := Unit) (fun r => ni64 rr) (fun r => []) e w' := by
 refine enterS (n := 41) (args := [.agg #[.slice am ks.length cm, .slice aa js.length ca]]) (S := [(true, cL am ks.length cm vs), (true, .bys vs ks), (true, cL aa js.length ca us), (true, .bys us js)]) (Z := Z) func25 rfl rfl (Nat.le_of_ble_eq_true rfl) (sokC hV (sokC hY (sokC hU (sokC hX sok0)))) rfl fun ac hs => wp_seq (wp_region_lit (stp (op_box hs none none (cs := [.slice am ks.length cm, .slice aa js.length ca]) rfl rfl rfl rfl rfl rfl fun g1 ac w hs => asg hs rfl rfl rfl fun ac hs => wpList_nil (then_n (wp_seq (wp_seq (wp_region_lit (asg hs rfl rfl rfl fun ac hs => wpList_nil (then_n (wp_block (wp_loop_m (fun μ ac w => ∃ (j : Nat), (ks.length - j) = μ ∧ (j ≤ ks.length) ∧ (longB (ks.take j) = false) ∧ St 41 ⟨w0, [], [(true, cL am ks.length cm vs), (true, .bys vs ks), (true, cL aa js.length ca us), (true, .bys us js)], Z, noX⟩ [(1, true, ptA g1 0), (2, true, .int .i64 0), (3, true, ni64 j)] [(true, g1, 24, [.slice am ks.length cm, .slice aa js.length ca])] ac w) ?_ ?_)))))))))))
 ·exact ⟨_, 0, rfl, (by omega), rfl, (hs.re (fs' := [(1, true, ptA g1 0), (2, true, .int .i64 0), (3, true, ni64 0)]) ⟨rfl, rfl, rfl, trivial⟩)⟩
 intro μ ac w ⟨j, hμ, hj, hjl, hs⟩
 refine wp_seq (wp_seq (wp_region_lit (mvv hs rfl rfl rfl fun ac hs => stp (op_fieldA hs none rfl rfl rfl underlying24 rfl sizeOf22 (by decide) rfl fun ac hs => ldd hs 0 (.slice am ks.length cm) isAgg22 sizeOf22 rfl rfl rfl rfl rfl fun ac hs => stp (op_blt hs none (v := ni64 (ks.length)) rfl rfl rfl (blt_len underlying22) rfl fun ac hs => bnn hs (.bool (decide (j < ks.length))) rfl rfl rfl rfl bin_lssN fun ac hs => wpList_nil (then_n (wcs hs rfl ?_ ?_)))))))
 ·intro hc
  have hp2 := of_decide_eq_true hc
  have hlt := of_decide_eq_true hc
  obtain ⟨li, hli⟩ : ∃ z, ks[j]? = some z := ⟨_, List.getElem?_eq_getElem hlt⟩
  obtain ⟨al, cl, hvl⟩ := bysv_at (hs.all (k := 1) rfl rfl) hli
  refine wp_skip (then_n (wp_seq (wp_block (wp_seq (wp_region_lit (stp (op_fieldA hs none rfl rfl rfl underlying24 rfl sizeOf22 (by decide) rfl fun ac hs => ldd hs 0 (.slice am ks.length cm) isAgg22 sizeOf22 rfl rfl rfl rfl rfl fun ac hs => mvv hs rfl rfl rfl fun ac hs => stp (op_idxC hs none 0 (j := j) rfl rfl rfl rfl rfl underlying22 sizeOf34 (show j < ks.length by omega) (off := j) (by omega) rfl fun ac hs => stp (op_loadC hs none 0 (u := .slice al li.length cl) rfl rfl rfl rfl isAgg34 sizeOf34 (by decide) hvl rfl fun ac hs => stp (op_blt hs none (v := ni64 (li.length)) rfl rfl rfl (blt_len underlying34) rfl fun ac hs => bnn hs (.bool (decide (520 < li.length))) rfl rfl rfl rfl (bin_gtrN (y := 520)) fun ac hs => wpList_nil (then_n (wcs hs rfl ?_ ?_))))))))))))
  ·intro hc
   have hp3 := of_decide_eq_true hc
   refine wp_seq ?_
   replace hs := hs.nf w0 Z noX [1, 2, 3] rfl rfl rfl rfl
   refine wp_region_lit (asg hs rfl rfl rfl fun ac hs => wpList_nil (then_n (wp_ret (blk_r (then_r (then_r (blk_r (then_r ?_))))))))
   exact bodyPost_ret (res1 rfl (rv_t hs rfl)) hs.defers ⟨(), by rw [← hr, chkL, if_pos (Or.inl (longB_yes hli hp3))]; rfl, hs.bel rfl, okl0⟩
  intro hc
  have hp4 := of_decide_eq_false hc
  refine wp_skip (blk_n (then_n ?_))
  replace hs := hs.nf w0 Z noX [1, 2, 3] rfl rfl rfl rfl
  refine wp_region_lit (mvv hs rfl rfl rfl fun ac hs => bnn hs (ni64 (j + 1)) rfl rfl rfl rfl (bin_addN (y := 1) rfl (show j + 1 < 9223372036854775808 by omega)) fun ac hs => asg hs rfl rfl rfl fun ac hs => wpList_nil (then_n ?_))
  exact ⟨_, ⟨(j + 1), rfl, (by omega), (longB_go hli hp4 hjl), (hs.re (fs' := [(1, true, ptA g1 0), (2, true, .int .i64 0), (3, true, ni64 ((j + 1)))]) ⟨rfl, rfl, rfl, trivial⟩)⟩, (by omega)⟩
 intro hc
 have hp5 := of_decide_eq_false hc
 have hbj : longB ks = false := longB_end (of_decide_eq_false hc) hjl
 refine wp_exit (then_e (then_e (blk_e (then_n (wp_seq (wp_seq (wp_region_lit (asg hs rfl rfl rfl fun ac hs => wpList_nil (then_n (wp_block (wp_loop_m (fun μ ac w => ∃ (k : Nat), (js.length - k) = μ ∧ (k ≤ js.length) ∧ (longB (js.take k) = false) ∧ St 41 ⟨w0, [], [(true, cL am ks.length cm vs), (true, .bys vs ks), (true, cL aa js.length ca us), (true, .bys us js)], Z, noX⟩ [(1, true, ptA g1 0), (2, true, .int .i64 0), (4, true, ni64 k)] [(true, g1, 24, [.slice am ks.length cm, .slice aa js.length ca])] ac w) ?_ ?_)))))))))))
 ·exact ⟨_, 0, rfl, (by omega), rfl, (hs.re (fs' := [(1, true, ptA g1 0), (2, true, .int .i64 0), (4, true, ni64 0)]) ⟨rfl, rfl, rfl, trivial⟩)⟩
 intro μ ac w ⟨k, hμ, hk, hkl, hs⟩
 refine wp_seq (wp_seq (wp_region_lit (mvv hs rfl rfl rfl fun ac hs => stp (op_fieldA hs none rfl rfl rfl underlying24 rfl sizeOf22 (by decide) rfl fun ac hs => ldd hs 0 (.slice aa js.length ca) isAgg22 sizeOf22 rfl rfl rfl rfl rfl fun ac hs => stp (op_blt hs none (v := ni64 (js.length)) rfl rfl rfl (blt_len underlying22) rfl fun ac hs => bnn hs (.bool (decide (k < js.length))) rfl rfl rfl rfl bin_lssN fun ac hs => wpList_nil (then_n (wcs hs rfl ?_ ?_)))))))
 ·intro hc
  have hp6 := of_decide_eq_true hc
  have hlt := of_decide_eq_true hc
  obtain ⟨li, hli⟩ : ∃ z, js[k]? = some z := ⟨_, List.getElem?_eq_getElem hlt⟩
  obtain ⟨al, cl, hvl⟩ := bysv_at (hs.all (k := 3) rfl rfl) hli
  refine wp_skip (then_n (wp_seq (wp_block (wp_seq (wp_region_lit (stp (op_fieldA hs none rfl rfl rfl underlying24 rfl sizeOf22 (by decide) rfl fun ac hs => ldd hs 0 (.slice aa js.length ca) isAgg22 sizeOf22 rfl rfl rfl rfl rfl fun ac hs => mvv hs rfl rfl rfl fun ac hs => stp (op_idxC hs none 2 (j := k) rfl rfl rfl rfl rfl underlying22 sizeOf34 (show k < js.length by omega) (off := k) (by omega) rfl fun ac hs => stp (op_loadC hs none 2 (u := .slice al li.length cl) rfl rfl rfl rfl isAgg34 sizeOf34 (by decide) hvl rfl fun ac hs => stp (op_blt hs none (v := ni64 (li.length)) rfl rfl rfl (blt_len underlying34) rfl fun ac hs => bnn hs (.bool (decide (520 < li.length))) rfl rfl rfl rfl (bin_gtrN (y := 520)) fun ac hs => wpList_nil (then_n (wcs hs rfl ?_ ?_))))))))))))
  ·intro hc
   have hp7 := of_decide_eq_true hc
   refine wp_seq ?_
   replace hs := hs.nf w0 Z noX [1, 2, 4] rfl rfl rfl rfl
   refine wp_region_lit (asg hs rfl rfl rfl fun ac hs => wpList_nil (then_n (wp_ret (blk_r (then_r (then_r (blk_r (then_r ?_))))))))
   exact bodyPost_ret (res1 rfl (rv_t hs rfl)) hs.defers ⟨(), by rw [← hr, chkL, if_pos (Or.inr (longB_yes hli hp7))]; rfl, hs.bel rfl, okl0⟩
  intro hc
  have hp8 := of_decide_eq_false hc
  refine wp_skip (blk_n (then_n ?_))
  replace hs := hs.nf w0 Z noX [1, 2, 4] rfl rfl rfl rfl
  refine wp_region_lit (mvv hs rfl rfl rfl fun ac hs => bnn hs (ni64 (k + 1)) rfl rfl rfl rfl (bin_addN (y := 1) rfl (show k + 1 < 9223372036854775808 by omega)) fun ac hs => asg hs rfl rfl rfl fun ac hs => wpList_nil (then_n ?_))
  exact ⟨_, ⟨(k + 1), rfl, (by omega), (longB_go hli hp8 hkl), (hs.re (fs' := [(1, true, ptA g1 0), (2, true, .int .i64 0), (4, true, ni64 ((k + 1)))]) ⟨rfl, rfl, rfl, trivial⟩)⟩, (by omega)⟩
 intro hc
 have hp9 := of_decide_eq_false hc
 have hbk : longB js = false := longB_end (of_decide_eq_false hc) hkl
 refine wp_exit (then_e (then_e (blk_e (then_n (wp_seq (wp_seq (wp_region_lit (stp (op_fieldA hs none rfl rfl rfl underlying24 rfl sizeOf22 (by decide) rfl fun ac hs => ldd hs 0 (.slice am ks.length cm) isAgg22 sizeOf22 rfl rfl rfl rfl rfl fun ac hs => stp (op_blt hs none (v := ni64 (ks.length)) rfl rfl rfl (blt_len underlying22) rfl fun ac hs => stp (op_fieldA hs none rfl rfl rfl underlying24 rfl sizeOf22 (by decide) rfl fun ac hs => ldd hs 0 (.slice aa js.length ca) isAgg22 sizeOf22 rfl rfl rfl rfl rfl fun ac hs => stp (op_blt hs none (v := ni64 (js.length)) rfl rfl rfl (blt_len underlying22) rfl fun ac hs => bnn hs (ni64 (ks.length + js.length)) rfl rfl rfl rfl (bin_addN rfl (show ks.length + js.length < 9223372036854775808 by omega)) fun ac hs => bnn hs (.bool (decide (100 < ks.length + js.length))) rfl rfl rfl rfl (bin_gtrN (y := 100)) fun ac hs => wpList_nil (then_n ?_)))))))))))))
 refine wcs hs rfl ?_ ?_
 ·intro hc
  have hp10 := of_decide_eq_true hc
  refine wp_seq ?_
  replace hs := hs.nf w0 Z noX [2] rfl rfl rfl rfl
  refine wp_region_lit (asg hs rfl rfl rfl fun ac hs => wpList_nil (then_n (wp_ret (then_r ?_))))
  exact bodyPost_ret (res1 rfl (rv_t hs rfl)) hs.defers ⟨(), by rw [← hr, chkL, if_neg (by simp [hbj, hbk]), if_pos hp10]; rfl, hs.bel rfl, okl0⟩
 intro hc
 have hp11 := of_decide_eq_false hc
 refine wp_skip (then_n (wp_seq ?_))
 replace hs := hs.nf w0 Z noX [2] rfl rfl rfl rfl
 refine wp_region_lit (asg hs rfl rfl rfl fun ac hs => wpList_nil (then_n (wp_ret ?_)))
 exact bodyPost_ret (res1 rfl (rv_t hs rfl)) hs.defers ⟨(), by rw [← hr, chkL, if_neg (by simp [hbj, hbk]), if_neg hp11]; rfl, hs.bel rfl, okl0⟩
theorem with_c (a1 : Option Addr) (c1 : Nat) (v1 : List Value) (k1 : BL) (a2 : Option Addr) (c2 : Nat) (v2 : List Value) (k2 : BL) (hl : k1.length + k2.length ≤ 1000000) (w0 : World) (Z : Nat → Prop) (hV1 : CelV w0 Z (.slice a1 k1.length c1) k1.length v1) (hY1 : BysV w0 Z v1 k1) (hV2 : CelV w0 Z (.slice a2 k2.length c2) k2.length v2) (hY2 : BysV w0 Z v2 k2): Calls prog 36 #[.slice a1 k1.length c1, .slice a2 k2.length c2] w0 fun e w' => Ret w0 Z (ρ := Option Addr × Nat) (fun r => .slice r.1 (k1 ++ k2).length r.2) (fun r => [oW r.1 (k1 ++ k2).length r.2 34 (v1 ++ v2)]) e w' := by
 refine enterS (n := 12) (args := [.slice a1 k1.length c1, .slice a2 k2.length c2]) (S := [(true, cL a1 k1.length c1 v1), (true, .bys v1 k1), (true, cL a2 k2.length c2 v2), (true, .bys v2 k2)]) (Z := Z) func36 rfl rfl (Nat.le_of_ble_eq_true rfl) (sokC hV1 (sokC hY1 (sokC hV2 (sokC hY2 sok0)))) rfl fun ac hs => wp_seq (wp_region_lit (asg hs rfl rfl rfl fun ac hs => wpList_nil (then_n (wp_seq (wp_region_lit (stp (op_bsO0 hs none none (size := 1) rfl rfl underlying22 inf_slice_34 rfl rfl fun ad2 ac w hs => mvv hs rfl rfl rfl fun ac hs => stp (op_appR hs none 4 0 (N' := k1.length) (ys := v1) rfl rfl rfl rfl rfl rfl underlying22 inf_slice_34 rfl (by decide) ((hs.all (k := 1) rfl rfl).1.trans (Nat.mul_one _).symm) (bysv_oneC (hs.all (k := 1) rfl rfl)) (by decide) (show 0 + k1.length ≤ 1000000 by omega) (Nat.zero_add _) rfl rfl rfl fun ad3 cp4 ac w hs => asg hs rfl rfl rfl fun ac hs => wpList_nil (then_n (wp_seq (wp_region_lit (mvv hs rfl rfl rfl fun ac hs => ?_))))))))))))
 refine mvv hs rfl rfl rfl fun ac hs => stp (op_appR hs none 4 2 (N' := (k1 ++ k2).length) (ys := v1 ++ v2) rfl rfl rfl rfl rfl rfl underlying22 inf_slice_34 rfl (by decide) ((hs.all (k := 3) rfl rfl).1.trans (Nat.mul_one _).symm) (bysv_oneC (hs.all (k := 3) rfl rfl)) (by decide) (show k1.length + k2.length ≤ 1000000 by omega) (by simp) rfl rfl rfl fun ad5 cp6 ac w hs => asg hs rfl rfl rfl fun ac hs => wpList_nil (then_n (wp_ret ?_)))
 exact bodyPost_ret (res1 rfl (rv_t hs rfl)) hs.defers ⟨⟨ad5, cp6⟩, rfl, hs.bel rfl, hs.ret1 4 rfl⟩
theorem checkedT_c (am : Option Addr) (cm : Nat) (vs : List Value) (aa : Option Addr) (ca : Nat) (us : List Value) (ks js : BL) (ok : OkN 8000 ks) (oj : OkN 8000 js) (hr : chkL ks js = 0) (w0 : World) (Z : Nat → Prop) (hV : CelV w0 Z (.slice am ks.length cm) ks.length vs) (hY : BysV w0 Z vs ks) (hU : CelV w0 Z (.slice aa js.length ca) js.length us) (hX : BysV w0 Z us js): Calls prog 35 #[.slice am ks.length cm, .slice aa js.length ca] w0 fun e w' => Ret w0 Z (ρ := Unit) (fun r => .tuple #[.agg #[.slice am ks.length cm, .slice aa js.length ca], ni64 0]) (fun r => []) e w' := by
 have hk8 : ks.length ≤ 8000 := ok.1
 have hj8 : js.length ≤ 8000 := oj.1
 refine enterS (n := 18) (args := [.slice am ks.length cm, .slice aa js.length ca]) (S := [(true, cL am ks.length cm vs), (true, .bys vs ks), (true, cL aa js.length ca us), (true, .bys us js)]) (Z := Z) func35 rfl rfl (Nat.le_of_ble_eq_true rfl) (sokC hV (sokC hY (sokC hU (sokC hX sok0)))) rfl fun ac hs => wp_seq (wp_region_lit (stp (op_alloc hs none none (cs := [.slice none 0 0, .slice none 0 0]) rfl rfl zeroValue24 (by kernel_rfl) rfl rfl fun g1 ac w hs => asg hs rfl rfl rfl fun ac hs => wpList_nil (then_n (wp_seq (wp_region_lit (mvv hs rfl rfl rfl fun ac hs => mvv hs rfl rfl rfl fun ac hs => stp (op_build hs none (qs := [(0, .slice am ks.length cm), (1, .slice aa js.length ca)]) (v := .agg #[.slice am ks.length cm, .slice aa js.length ca]) rfl rfl rfl rfl (fun _ => by kernel_rfl) rfl fun ac hs => stp (op_alloc hs none none (cs := [.slice none 0 0, .slice none 0 0]) rfl rfl zeroValue24 (by kernel_rfl) rfl rfl fun g2 ac w hs => stp (stoo hs 1 ([.slice am ks.length cm, .slice aa js.length ca]) sizeOf24 rfl rfl rfl rfl rfl rfl rfl rfl rfl rfl fun w hs => ?_))))))))))
 refine wpList_nil (then_n (wp_seq ?_))
 replace hs := hs.nf w0 Z noX [4, 5, 6] rfl rfl rfl rfl
 refine wp_region_lit (ldd hs 1 (.agg #[.slice am ks.length cm, .slice aa js.length ca]) isAgg24 sizeOf24 rfl rfl rfl rfl rfl fun ac hs => ?_)
 obtain ⟨r3, hr3⟩ := ex1 (chkL ks js)
 refine stp (op_callV (F := 25) (ρ := Unit) hs none none (v := fun r => ni64 r3) (E := fun r => []) (j := 0) rfl rfl rfl rfl (call25 _) (fun hs => rcheck_c am cm vs aa ca us ks js r3 (Nat.le_trans (show OkN 8000 ks from ok).1 (by decide)) (Nat.le_trans (show OkN 8000 js from oj).1 (by decide)) hr3 _ _ (hs.celT (k := 0) rfl) (hs.rowB (k := 1) (G := noX) (.inr rfl)) (hs.celT (k := 2) rfl) (hs.rowB (k := 3) (G := noX) (.inr rfl))) (fun _ => rfl) (fun _ => rfl) rfl rfl fun _ ac w hs => asg hs rfl rfl rfl fun ac hs => wpList_nil (then_n (wp_seq (wp_seq (wp_region_lit (mvv hs rfl rfl rfl fun ac hs => bnn hs (.bool (decide (r3 ≠ 0))) rfl rfl rfl rfl (bin_neqN (y := 0)) fun ac hs => wpList_nil (then_n (wcs hs rfl ?_ ?_))))))))
 ·intro hc
  have hp4 := of_decide_eq_true hc
  refine wp_seq (wp_region_lit (stp (op_build hs none (qs := []) (v := .agg #[.slice none 0 0, .slice none 0 0]) rfl rfl rfl rfl (fun _ => by kernel_rfl) rfl fun ac hs => mvv hs rfl rfl rfl fun ac hs => stp (stoo hs 0 ([.slice none 0 0, .slice none 0 0]) sizeOf24 rfl rfl rfl rfl rfl rfl rfl rfl rfl rfl fun w hs => asg hs rfl rfl rfl fun ac hs => wpList_nil (then_n (wp_ret (then_r ?_)))))))
  exact absurd (hr3.symm.trans hr) hp4
 intro hc
 have hp5 := of_decide_eq_false hc
 refine wp_skip (then_n (wp_seq (wp_region_lit (ldd hs 1 (.agg #[.slice am ks.length cm, .slice aa js.length ca]) isAgg24 sizeOf24 rfl rfl rfl rfl rfl fun ac hs => stp (stoo hs 0 ([.slice am ks.length cm, .slice aa js.length ca]) sizeOf24 rfl rfl rfl rfl rfl rfl rfl rfl rfl rfl fun w hs => asg hs rfl rfl rfl fun ac hs => wpList_nil (then_n (wp_ret ?_)))))))
 exact bodyPost_ret (res2 rfl (rv_c hs 0 (v := .agg #[.slice am ks.length cm, .slice aa js.length ca]) rfl rfl isAgg24 sizeOf24 rfl) (rv_t hs rfl)) hs.defers ⟨(), rfl, hs.bel rfl, okl0⟩
theorem checkedF_c (am : Option Addr) (cm : Nat) (vs : List Value) (aa : Option Addr) (ca : Nat) (us : List Value) (ks js : BL) (e1 : Nat) (he : e1 ≠ 0) (ok : OkN 8000 ks) (oj : OkN 8000 js) (hr : chkL ks js = e1) (w0 : World) (Z : Nat → Prop) (hV : CelV w0 Z (.slice am ks.length cm) ks.length vs) (hY : BysV w0 Z vs ks) (hU : CelV w0 Z (.slice aa js.length ca) js.length us) (hX : BysV w0 Z us js): Calls prog 35 #[.slice am ks.length cm, .slice aa js.length ca] w0 fun e w' => Ret w0 Z (ρ := Unit) (fun r => .tuple #[.agg #[.slice none 0 0, .slice none 0 0], ni64 e1]) (fun r => []) e w' := by
 have hk8 : ks.length ≤ 8000 := ok.1
 have hj8 : js.length ≤ 8000 := oj.1
 refine enterS (n := 18) (args := [.slice am ks.length cm, .slice aa js.length ca]) (S := [(true, cL am ks.length cm vs), (true, .bys vs ks), (true, cL aa js.length ca us), (true, .bys us js)]) (Z := Z) func35 rfl rfl (Nat.le_of_ble_eq_true rfl) (sokC hV (sokC hY (sokC hU (sokC hX sok0)))) rfl fun ac hs => wp_seq (wp_region_lit (stp (op_alloc hs none none (cs := [.slice none 0 0, .slice none 0 0]) rfl rfl zeroValue24 (by kernel_rfl) rfl rfl fun g1 ac w hs => asg hs rfl rfl rfl fun ac hs => wpList_nil (then_n (wp_seq (wp_region_lit (mvv hs rfl rfl rfl fun ac hs => mvv hs rfl rfl rfl fun ac hs => stp (op_build hs none (qs := [(0, .slice am ks.length cm), (1, .slice aa js.length ca)]) (v := .agg #[.slice am ks.length cm, .slice aa js.length ca]) rfl rfl rfl rfl (fun _ => by kernel_rfl) rfl fun ac hs => stp (op_alloc hs none none (cs := [.slice none 0 0, .slice none 0 0]) rfl rfl zeroValue24 (by kernel_rfl) rfl rfl fun g2 ac w hs => stp (stoo hs 1 ([.slice am ks.length cm, .slice aa js.length ca]) sizeOf24 rfl rfl rfl rfl rfl rfl rfl rfl rfl rfl fun w hs => ?_))))))))))
 refine wpList_nil (then_n (wp_seq ?_))
 replace hs := hs.nf w0 Z noX [4, 5, 6] rfl rfl rfl rfl
 refine wp_region_lit (ldd hs 1 (.agg #[.slice am ks.length cm, .slice aa js.length ca]) isAgg24 sizeOf24 rfl rfl rfl rfl rfl fun ac hs => ?_)
 obtain ⟨r3, hr3⟩ := ex1 (chkL ks js)
 refine stp (op_callV (F := 25) (ρ := Unit) hs none none (v := fun r => ni64 r3) (E := fun r => []) (j := 0) rfl rfl rfl rfl (call25 _) (fun hs => rcheck_c am cm vs aa ca us ks js r3 (Nat.le_trans (show OkN 8000 ks from ok).1 (by decide)) (Nat.le_trans (show OkN 8000 js from oj).1 (by decide)) hr3 _ _ (hs.celT (k := 0) rfl) (hs.rowB (k := 1) (G := noX) (.inr rfl)) (hs.celT (k := 2) rfl) (hs.rowB (k := 3) (G := noX) (.inr rfl))) (fun _ => rfl) (fun _ => rfl) rfl rfl fun _ ac w hs => asg hs rfl rfl rfl fun ac hs => wpList_nil (then_n (wp_seq (wp_seq (wp_region_lit (mvv hs rfl rfl rfl fun ac hs => bnn hs (.bool (decide (r3 ≠ 0))) rfl rfl rfl rfl (bin_neqN (y := 0)) fun ac hs => wpList_nil (then_n (wcs hs rfl ?_ ?_))))))))
 ·intro hc
  have hp4 := of_decide_eq_true hc
  refine wp_seq (wp_region_lit (stp (op_build hs none (qs := []) (v := .agg #[.slice none 0 0, .slice none 0 0]) rfl rfl rfl rfl (fun _ => by kernel_rfl) rfl fun ac hs => mvv hs rfl rfl rfl fun ac hs => stp (stoo hs 0 ([.slice none 0 0, .slice none 0 0]) sizeOf24 rfl rfl rfl rfl rfl rfl rfl rfl rfl rfl fun w hs => asg hs rfl rfl rfl fun ac hs => wpList_nil (then_n (wp_ret (then_r ?_)))))))
  exact bodyPost_ret (res2 rfl (rv_c hs 0 (v := .agg #[.slice none 0 0, .slice none 0 0]) rfl rfl isAgg24 sizeOf24 rfl) (rv_t hs rfl)) hs.defers ⟨(), by rw [show r3 = e1 from hr3.symm.trans hr], hs.bel rfl, okl0⟩
 intro hc
 have hp5 := of_decide_eq_false hc
 refine wp_skip (then_n (wp_seq (wp_region_lit (ldd hs 1 (.agg #[.slice am ks.length cm, .slice aa js.length ca]) isAgg24 sizeOf24 rfl rfl rfl rfl rfl fun ac hs => stp (stoo hs 0 ([.slice am ks.length cm, .slice aa js.length ca]) sizeOf24 rfl rfl rfl rfl rfl rfl rfl rfl rfl rfl fun w hs => asg hs rfl rfl rfl fun ac hs => wpList_nil (then_n (wp_ret ?_)))))))
 exact absurd (hr.symm.trans (hr3.trans (Classical.not_not.1 hp5))) he
theorem rpush_c (am : Option Addr) (cm : Nat) (vs : List Value) (aa : Option Addr) (ca : Nat) (us : List Value) (ks js : BL) (ab : Option Addr) (cb : Nat) (b : List UInt8) (hb : b.length ≤ 1000) (k1 j1 : BL) (e1 : Nat) (ok : OkN 1000 ks) (oj : OkN 1000 js) (hp : donL (ks ++ [b]) js 0 = (k1, j1, e1)) (w0 : World) (Z : Nat → Prop) (hV : CelV w0 Z (.slice am ks.length cm) ks.length vs) (hY : BysV w0 Z vs ks) (hU : CelV w0 Z (.slice aa js.length ca) js.length us) (hX : BysV w0 Z us js) (hW : ByV w0 Z (.slice ab b.length cb) b): Calls prog 20 #[.agg #[.slice am ks.length cm, .slice aa js.length ca], .slice ab b.length cb] w0 fun e w' => Ret w0 Z (ρ := MR) (fun r => .tuple #[.agg #[.slice r.a k1.length r.c, .slice r.b j1.length r.d], ni64 e1]) (fun r => [cL r.a k1.length r.c r.vs, .bys r.vs k1, cL r.b j1.length r.d r.us, .bys r.us j1]) e w' := by
 have hk8 : ks.length ≤ 1000 := ok.1
 have hj8 : js.length ≤ 1000 := oj.1
 refine enterS (n := 16) (args := [.agg #[.slice am ks.length cm, .slice aa js.length ca], .slice ab b.length cb]) (S := [(true, cL am ks.length cm vs), (true, .bys vs ks), (true, cL aa js.length ca us), (true, .bys us js), (true, cL ab b.length cb (bcs b))]) (Z := Z) func20 rfl rfl (Nat.le_of_ble_eq_true rfl) (sokC hV (sokC hY (sokC hU (sokC hX (sokC hW sok0))))) rfl fun ac hs => wp_seq (wp_region_lit (stp (op_box hs none none (cs := [.slice am ks.length cm, .slice aa js.length ca]) rfl rfl rfl rfl rfl rfl fun g1 ac w hs => stp (op_alloc hs none none (cs := [.slice none 0 0, .slice none 0 0]) rfl rfl zeroValue24 (by kernel_rfl) rfl rfl fun g2 ac w hs => asg hs rfl rfl rfl fun ac hs => wpList_nil (then_n (wp_seq ?_))))))
 by_cases hq3 : chkL (ks ++ [b]) js = 0
 ·replace hs := hs.nf w0 Z noX [1, 2, 4, 5] rfl rfl rfl rfl
  refine region_inv [([], [1, 4, 7, 8, 9, 10, 11]), ([0], [4, 7, 8, 9, 10, 11]), ([], [3, 4, 7, 8, 9, 10, 11]), ([2], [4, 7, 8, 9, 10, 11]), (rgn 0 4, rgn 7 5), ([], rgn 6 6), ([5], rgn 7 5), (rgn 0 7, rgn 8 4), (rgn 0 8, [10, 11]), (rgn 0 8, [10, 11]), (rgn 0 10, [11]), (rgn 0 11, [])] (fun L ac w => ∃ (ad5 : Option Addr) (ad6 : Option Addr) (cp7 : Nat), St 16 ⟨w0, [], [(true, cL am ks.length cm vs), (true, .bys vs ks), (true, cL aa js.length ca us), (true, .bys us js), (true, cL ab b.length cb (bcs b)), (L 3, oW ad5 1 1 34 ([.slice ab b.length cb])), (L 4, oW ad6 ((ks ++ [b]).length) cp7 34 (vs ++ [.slice ab b.length cb]))], Z, noX⟩ [(6, L 0, ptA g1 0), (7, L 1, .slice am ks.length cm), (8, L 2, .slice ab b.length cb), (9, L 3, .slice ad5 1 1), (10, L 4, .slice ad6 ((ks ++ [b]).length) cp7), (11, L 5, ptA g1 1), (12, L 6, .slice aa js.length ca), (13, L 7, cond (L 7) (.tuple #[.agg #[.slice ad6 ((ks ++ [b]).length) cp7, .slice aa js.length ca], .int .i64 0]) undef), (14, L 8, cond (L 8) (.agg #[.slice ad6 ((ks ++ [b]).length) cp7, .slice aa js.length ca]) undef), (15, L 9, .int .i64 0), (5, L 11, .int .i64 0), (1, true, .slice ab b.length cb), (2, true, ptA g1 0), (4, true, ptA g2 0), (5, true, .int .i64 0)] [(true, g1, 24, [.slice am ks.length cm, .slice aa js.length ca]), (true, g2, 24, (cond (L 10) [.slice ad6 ((ks ++ [b]).length) cp7, .slice aa js.length ca] [.slice none 0 0, .slice none 0 0]))] ac w) (by kernel_rfl) (by kernel_rfl) ?_ ?_ ?_
  ·exact ⟨none, none, 0, hs.drew.s4.s4.skip.skip.skip.padS.padS⟩
  ·refine ⟨?_, ?_, ?_, ?_, ?_, ?_, ?_, ?_, ?_, ?_, ?_, ?_, trivial⟩
   ·exact fun L ac w ⟨ad5, ad6, cp7, hs⟩ => pln (op_fieldA hs (some 0) rfl rfl rfl underlying24 rfl sizeOf22 (by decide) rfl fun ac hs => ⟨ad5, ad6, cp7, hs⟩)
   ·exact fun L ac w ⟨ad5, ad6, cp7, hs⟩ => pln (oldd hs 1 0 (.slice am ks.length cm) isAgg22 sizeOf22 rfl rfl rfl rfl rfl fun ac hs => ⟨ad5, ad6, cp7, hs⟩)
   ·exact fun L ac w ⟨ad5, ad6, cp7, hs⟩ => pln (omv hs 2 rfl rfl rfl fun ac hs => ⟨ad5, ad6, cp7, hs⟩)
   ·exact fun L ac w ⟨ad5, ad6, cp7, hs⟩ => pln (op_bsO hs (some 3) (some 5) (qs := [(0, .slice ab b.length cb)]) (cs := [.slice ab b.length cb]) rfl rfl rfl rfl underlying22 inf_slice_34 (by decide) (by decide) (fill_one _ _ rfl) rfl rfl rfl rfl fun ad5 ac w hs => ⟨ad5, ad6, cp7, hs⟩)
   ·exact fun L ac w ⟨ad5, ad6, cp7, hs⟩ => pln (op_callV (F := 36) (ρ := Option Addr × Nat) hs (some 4) (some 6) (v := fun r => .slice r.1 ((ks ++ [b]).length) r.2) (E := fun r => [oW r.1 ((ks ++ [b]).length) r.2 34 (vs ++ [Value.slice ab b.length cb])]) (j := 1) rfl rfl rfl rfl (call36 _) (fun hs => with_c am cm vs ks ad5 1 ([.slice ab b.length cb]) ([b]) (show ks.length + ([b]).length ≤ 1000000 by first | omega | ((try simp only [List.length_drop, List.length_take, List.length_append, List.length_cons, List.length_nil]); omega)) _ _ (hs.celT (k := 0) rfl) (hs.rowB (k := 1) (G := noX) (.inr rfl)) (hs.celT (k := 5) rfl) (bysv_snoc bysv_nil (hs.celT (k := 4) rfl))) (fun _ => rfl) (fun _ => rfl) rfl rfl fun ⟨ad6, cp7⟩ ac w hs => ⟨ad5, ad6, cp7, hs⟩)
   ·exact fun L ac w ⟨ad5, ad6, cp7, hs⟩ => pln (op_fieldA hs (some 5) rfl rfl rfl underlying24 rfl sizeOf22 (by decide) rfl fun ac hs => ⟨ad5, ad6, cp7, hs⟩)
   ·exact fun L ac w ⟨ad5, ad6, cp7, hs⟩ => pln (oldd hs 6 0 (.slice aa js.length ca) isAgg22 sizeOf22 rfl rfl rfl rfl rfl fun ac hs => ⟨ad5, ad6, cp7, hs⟩)
   ·exact fun L ac w ⟨ad5, ad6, cp7, hs⟩ => pln (op_callV (F := 35) (ρ := Unit) hs (some 7) none (v := fun r => .tuple #[.agg #[.slice ad6 ((ks ++ [b]).length) cp7, .slice aa js.length ca], .int .i64 0]) (E := fun r => []) (j := 0) rfl rfl rfl rfl (call35 _) (fun hs => checkedT_c ad6 cp7 (vs ++ [Value.slice ab b.length cb]) aa ca us (ks ++ [b]) js ((OkN.snoc ok hb).mono (by decide)) (oj.mono (by decide)) hq3 _ _ (hs.celT (k := 6) rfl) (bysv_app (hs.rowB (k := 1) (G := noX) (.inr rfl)) (bysv_snoc bysv_nil (hs.celT (k := 4) rfl))) (hs.celT (k := 2) rfl) (hs.rowB (k := 3) (G := noX) (.inr rfl))) (fun _ => rfl) (fun _ => rfl) rfl rfl fun _ ac w hs => ⟨ad5, ad6, cp7, hs⟩)
   ·exact fun L ac w ⟨ad5, ad6, cp7, hs⟩ => pln (xtr hs (some 8) rfl rfl rfl rfl rfl fun ac hs => ⟨ad5, ad6, cp7, hs⟩)
   ·exact fun L ac w ⟨ad5, ad6, cp7, hs⟩ => pln (xtr hs (some 9) rfl rfl rfl rfl rfl fun ac hs => ⟨ad5, ad6, cp7, hs⟩)
   ·exact fun L ac w ⟨ad5, ad6, cp7, hs⟩ => pln (stoo hs 1 ([.slice ad6 ((ks ++ [b]).length) cp7, .slice aa js.length ca]) sizeOf24 rfl rfl rfl rfl rfl rfl rfl rfl rfl rfl fun w hs => ⟨ad5, ad6, cp7, hs⟩)
   ·exact fun L ac w ⟨ad5, ad6, cp7, hs⟩ => pln (oas hs 10 rfl rfl rfl fun ac hs => ⟨ad5, ad6, cp7, hs⟩)
  intro ac w ⟨ad5, ad6, cp7, hs⟩
  try dsimp only [cond_true] at hs
  refine then_n (wp_ret ?_)
  have HS := hs
  have h0 := hp
  unfold donL at h0
  rw [if_pos rfl] at h0
  rw [if_pos hq3] at h0
  obtain ⟨hk, hj, he⟩ := inj3 h0
  subst hk
  subst hj
  subst he
  have hs := HS
  replace hs := hs.freeze 6 rfl
  replace hs := hs.nilBys none rfl
  replace hs := hs.snocBys (l := b) (ls' := [b]) 7 4 rfl rfl rfl
  replace hs := hs.bysEq 7 (vs' := [.slice ab b.length cb]) (ls' := [b]) rfl rfl rfl
  replace hs := hs.joinY none 1 7 rfl rfl rfl
  exact bodyPost_ret (res2 rfl (rv_c hs 1 (v := .agg #[.slice ad6 ((ks ++ [b]).length) cp7, .slice aa js.length ca]) rfl rfl isAgg24 sizeOf24 rfl) (rv_t hs rfl)) hs.defers ⟨⟨ad6, cp7, vs ++ [.slice ab b.length cb], aa, ca, us⟩, rfl, hs.bel rfl, hs.retS (ks := [6, 8, 2, 3]) rfl (by decide)⟩
 replace hs := hs.nf w0 Z noX [1, 2, 4, 5] rfl rfl rfl rfl
 refine region_inv [([], [1, 4, 7, 8, 9, 10, 11]), ([0], [4, 7, 8, 9, 10, 11]), ([], [3, 4, 7, 8, 9, 10, 11]), ([2], [4, 7, 8, 9, 10, 11]), (rgn 0 4, rgn 7 5), ([], rgn 6 6), ([5], rgn 7 5), (rgn 0 7, rgn 8 4), (rgn 0 8, [10, 11]), (rgn 0 8, [10, 11]), (rgn 0 10, [11]), (rgn 0 11, [])] (fun L ac w => ∃ (ad9 : Option Addr) (ad10 : Option Addr) (cp11 : Nat), St 16 ⟨w0, [], [(true, cL am ks.length cm vs), (true, .bys vs ks), (true, cL aa js.length ca us), (true, .bys us js), (true, cL ab b.length cb (bcs b)), (L 3, oW ad9 1 1 34 ([.slice ab b.length cb])), (L 4, oW ad10 ((ks ++ [b]).length) cp11 34 (vs ++ [.slice ab b.length cb]))], Z, noX⟩ [(6, L 0, ptA g1 0), (7, L 1, .slice am ks.length cm), (8, L 2, .slice ab b.length cb), (9, L 3, .slice ad9 1 1), (10, L 4, .slice ad10 ((ks ++ [b]).length) cp11), (11, L 5, ptA g1 1), (12, L 6, .slice aa js.length ca), (13, L 7, .tuple #[.agg #[.slice none 0 0, .slice none 0 0], ni64 (chkL (ks ++ [b]) js)]), (14, L 8, .agg #[.slice none 0 0, .slice none 0 0]), (15, L 9, ni64 (chkL (ks ++ [b]) js)), (5, L 11, ni64 (chkL (ks ++ [b]) js)), (1, true, .slice ab b.length cb), (2, true, ptA g1 0), (4, true, ptA g2 0), (5, true, .int .i64 0)] [(true, g1, 24, [.slice am ks.length cm, .slice aa js.length ca]), (true, g2, 24, (cond (L 10) [.slice none 0 0, .slice none 0 0] [.slice none 0 0, .slice none 0 0]))] ac w) (by kernel_rfl) (by kernel_rfl) ?_ ?_ ?_
 ·exact ⟨none, none, 0, hs.drew.s4.s4.skip.skip.skip.padS.padS⟩
 ·refine ⟨?_, ?_, ?_, ?_, ?_, ?_, ?_, ?_, ?_, ?_, ?_, ?_, trivial⟩
  ·exact fun L ac w ⟨ad9, ad10, cp11, hs⟩ => pln (op_fieldA hs (some 0) rfl rfl rfl underlying24 rfl sizeOf22 (by decide) rfl fun ac hs => ⟨ad9, ad10, cp11, hs⟩)
  ·exact fun L ac w ⟨ad9, ad10, cp11, hs⟩ => pln (oldd hs 1 0 (.slice am ks.length cm) isAgg22 sizeOf22 rfl rfl rfl rfl rfl fun ac hs => ⟨ad9, ad10, cp11, hs⟩)
  ·exact fun L ac w ⟨ad9, ad10, cp11, hs⟩ => pln (omv hs 2 rfl rfl rfl fun ac hs => ⟨ad9, ad10, cp11, hs⟩)
  ·exact fun L ac w ⟨ad9, ad10, cp11, hs⟩ => pln (op_bsO hs (some 3) (some 5) (qs := [(0, .slice ab b.length cb)]) (cs := [.slice ab b.length cb]) rfl rfl rfl rfl underlying22 inf_slice_34 (by decide) (by decide) (fill_one _ _ rfl) rfl rfl rfl rfl fun ad9 ac w hs => ⟨ad9, ad10, cp11, hs⟩)
  ·exact fun L ac w ⟨ad9, ad10, cp11, hs⟩ => pln (op_callV (F := 36) (ρ := Option Addr × Nat) hs (some 4) (some 6) (v := fun r => .slice r.1 ((ks ++ [b]).length) r.2) (E := fun r => [oW r.1 ((ks ++ [b]).length) r.2 34 (vs ++ [Value.slice ab b.length cb])]) (j := 1) rfl rfl rfl rfl (call36 _) (fun hs => with_c am cm vs ks ad9 1 ([.slice ab b.length cb]) ([b]) (show ks.length + ([b]).length ≤ 1000000 by first | omega | ((try simp only [List.length_drop, List.length_take, List.length_append, List.length_cons, List.length_nil]); omega)) _ _ (hs.celT (k := 0) rfl) (hs.rowB (k := 1) (G := noX) (.inr rfl)) (hs.celT (k := 5) rfl) (bysv_snoc bysv_nil (hs.celT (k := 4) rfl))) (fun _ => rfl) (fun _ => rfl) rfl rfl fun ⟨ad10, cp11⟩ ac w hs => ⟨ad9, ad10, cp11, hs⟩)
  ·exact fun L ac w ⟨ad9, ad10, cp11, hs⟩ => pln (op_fieldA hs (some 5) rfl rfl rfl underlying24 rfl sizeOf22 (by decide) rfl fun ac hs => ⟨ad9, ad10, cp11, hs⟩)
  ·exact fun L ac w ⟨ad9, ad10, cp11, hs⟩ => pln (oldd hs 6 0 (.slice aa js.length ca) isAgg22 sizeOf22 rfl rfl rfl rfl rfl fun ac hs => ⟨ad9, ad10, cp11, hs⟩)
  ·exact fun L ac w ⟨ad9, ad10, cp11, hs⟩ => pln (op_callV (F := 35) (ρ := Unit) hs (some 7) none (v := fun r => .tuple #[.agg #[.slice none 0 0, .slice none 0 0], ni64 (chkL (ks ++ [b]) js)]) (E := fun r => []) (j := 0) rfl rfl rfl rfl (call35 _) (fun hs => checkedF_c ad10 cp11 (vs ++ [Value.slice ab b.length cb]) aa ca us (ks ++ [b]) js (chkL (ks ++ [b]) js) hq3 ((OkN.snoc ok hb).mono (by decide)) (oj.mono (by decide)) rfl _ _ (hs.celT (k := 6) rfl) (bysv_app (hs.rowB (k := 1) (G := noX) (.inr rfl)) (bysv_snoc bysv_nil (hs.celT (k := 4) rfl))) (hs.celT (k := 2) rfl) (hs.rowB (k := 3) (G := noX) (.inr rfl))) (fun _ => rfl) (fun _ => rfl) rfl rfl fun _ ac w hs => ⟨ad9, ad10, cp11, hs⟩)
  ·exact fun L ac w ⟨ad9, ad10, cp11, hs⟩ => pln (xtr hs (some 8) rfl rfl rfl rfl rfl fun ac hs => ⟨ad9, ad10, cp11, hs⟩)
  ·exact fun L ac w ⟨ad9, ad10, cp11, hs⟩ => pln (xtr hs (some 9) rfl rfl rfl rfl rfl fun ac hs => ⟨ad9, ad10, cp11, hs⟩)
  ·exact fun L ac w ⟨ad9, ad10, cp11, hs⟩ => pln (stoo hs 1 ([.slice none 0 0, .slice none 0 0]) sizeOf24 rfl rfl rfl rfl rfl rfl rfl rfl rfl rfl fun w hs => ⟨ad9, ad10, cp11, hs⟩)
  ·exact fun L ac w ⟨ad9, ad10, cp11, hs⟩ => pln (oas hs 10 rfl rfl rfl fun ac hs => ⟨ad9, ad10, cp11, hs⟩)
 intro ac w ⟨ad9, ad10, cp11, hs⟩
 try dsimp only [cond_true] at hs
 refine then_n (wp_ret ?_)
 have HS := hs
 have h0 := hp
 unfold donL at h0
 rw [if_pos rfl] at h0
 rw [if_neg hq3] at h0
 obtain ⟨hk, hj, he⟩ := inj3 h0
 subst hk
 subst hj
 subst he
 have hs := HS
 replace hs := hs.nilCel none rfl
 replace hs := hs.nilBys none rfl
 replace hs := hs.nilCel none rfl
 replace hs := hs.nilBys none rfl
 exact bodyPost_ret (res2 rfl (rv_c hs 1 (v := .agg #[.slice none 0 0, .slice none 0 0]) rfl rfl isAgg24 sizeOf24 rfl) (rv_t hs rfl)) hs.defers ⟨⟨none, 0, [], none, 0, []⟩, rfl, hs.bel rfl, hs.retS (ks := [7, 8, 9, 10]) rfl (by decide)⟩
theorem rpop_c (am : Option Addr) (cm : Nat) (vs : List Value) (aa : Option Addr) (ca : Nat) (us : List Value) (ks js : BL) (x : List UInt8) (k1 j1 : BL) (e1 : Nat) (ok : OkN 1000 ks) (oj : OkN 1000 js) (hp : popS ks js = (x, k1, j1, e1)) (w0 : World) (Z : Nat → Prop) (hV : CelV w0 Z (.slice am ks.length cm) ks.length vs) (hY : BysV w0 Z vs ks) (hU : CelV w0 Z (.slice aa js.length ca) js.length us) (hX : BysV w0 Z us js): Calls prog 22 #[.agg #[.slice am ks.length cm, .slice aa js.length ca]] w0 fun e w' => Ret w0 Z (ρ := MRx) (fun r => .tuple #[.slice r.x x.length r.y, .agg #[.slice r.a k1.length r.c, .slice r.b j1.length r.d], ni64 e1]) (fun r => [cL r.a k1.length r.c r.vs, .bys r.vs k1, cL r.b j1.length r.d r.us, .bys r.us j1, cL r.x x.length r.y (bcs x)]) e w' := by
 have hk8 : ks.length ≤ 1000 := ok.1
 have hj8 : js.length ≤ 1000 := oj.1
 refine enterS (n := 26) (args := [.agg #[.slice am ks.length cm, .slice aa js.length ca]]) (S := [(true, cL am ks.length cm vs), (true, .bys vs ks), (true, cL aa js.length ca us), (true, .bys us js)]) (Z := Z) func22 rfl rfl (Nat.le_of_ble_eq_true rfl) (sokC hV (sokC hY (sokC hU (sokC hX sok0)))) rfl fun ac hs => wp_seq (wp_region_lit (stp (op_box hs none none (cs := [.slice am ks.length cm, .slice aa js.length ca]) rfl rfl rfl rfl rfl rfl fun g1 ac w hs => asg hs rfl rfl rfl fun ac hs => stp (op_alloc hs none none (cs := [.slice none 0 0, .slice none 0 0]) rfl rfl zeroValue24 (by kernel_rfl) rfl rfl fun g2 ac w hs => asg hs rfl rfl rfl fun ac hs => wpList_nil (then_n (wp_seq (wp_region_lit (stp (op_fieldA hs none rfl rfl rfl underlying24 rfl sizeOf22 (by decide) rfl fun ac hs => ldd hs 0 (.slice am ks.length cm) isAgg22 sizeOf22 rfl rfl rfl rfl rfl fun ac hs => stp (op_blt hs none (v := ni64 (ks.length)) rfl rfl rfl (blt_len underlying22) rfl fun ac hs => ?_))))))))))
 refine asg hs rfl rfl rfl fun ac hs => wpList_nil (then_n (wp_seq (wp_seq ?_)))
 replace hs := hs.nf w0 Z noX [1, 2, 3, 4, 5] rfl rfl rfl rfl
 refine wp_region_lit (mvv hs rfl rfl rfl fun ac hs => bnn hs (.bool (decide (ks.length = 0))) rfl rfl rfl rfl (bin_eqlN (y := 0)) fun ac hs => wpList_nil (then_n (wcs hs rfl ?_ ?_)))
 ·intro hc
  have hp3 := of_decide_eq_true hc
  have hk0 : ks.length = 0 := of_decide_eq_true hc
  refine wp_seq (wp_region_lit (stp (op_build hs none (qs := []) (v := .agg #[.slice none 0 0, .slice none 0 0]) rfl rfl rfl rfl (fun _ => by kernel_rfl) rfl fun ac hs => asg hs rfl rfl rfl fun ac hs => stp (stoo hs 1 ([.slice none 0 0, .slice none 0 0]) sizeOf24 rfl rfl rfl rfl rfl rfl rfl rfl rfl rfl fun w hs => asg hs rfl rfl rfl fun ac hs => wpList_nil (then_n (wp_ret (then_r ?_)))))))
  have HS := hs
  have h0 := hp
  rw [pop_ref, if_pos hk0] at h0
  obtain ⟨hx, hk, hj, he⟩ := inj4 h0
  subst hx
  subst hk
  subst hj
  subst he
  have hs := HS
  replace hs := hs.nilCel none rfl
  replace hs := hs.nilBys none rfl
  replace hs := hs.nilCel none rfl
  replace hs := hs.nilBys none rfl
  replace hs := hs.nilCel none rfl
  exact bodyPost_ret (res3 rfl (rv_t hs rfl) (rv_c hs 1 (v := .agg #[.slice none 0 0, .slice none 0 0]) rfl rfl isAgg24 sizeOf24 rfl) (rv_t hs rfl)) hs.defers ⟨⟨none, 0, [], none, 0, [], none, 0⟩, rfl, hs.bel rfl, hs.retS (ks := [4, 5, 6, 7, 8]) rfl (by decide)⟩
 intro hc
 have hp4 := of_decide_eq_false hc
 have hk0 : ¬ ks.length = 0 := of_decide_eq_false hc
 obtain ⟨li, hli⟩ : ∃ z, ks[ks.length - 1]? = some z := ⟨_, List.getElem?_eq_getElem (show ks.length - 1 < ks.length by omega)⟩
 obtain ⟨al, cl, hvl⟩ := bysv_at (hs.all (k := 1) rfl rfl) hli
 replace hs := hs.pick none 1 rfl hvl hli rfl
 refine wp_skip (then_n (wp_seq ?_))
 replace hs := hs.nf w0 Z noX [1, 2, 3, 4, 5] rfl rfl rfl rfl
 refine region_inv [([], [1, 4, 5, 14, 15, 16]), ([0], [4, 5, 14, 15, 16]), ([], [3, 4, 5, 14, 15, 16]), ([2], [4, 5, 14, 15, 16]), (rgn 0 4, [5, 14, 15, 16]), (rgn 0 5, [14, 15, 16]), ([], [7, 10, 13, 15, 16]), ([6], [10, 13, 15, 16]), ([], [9, 10, 13, 15, 16]), ([8], [10, 13, 15, 16]), (rgn 6 4, [13, 15, 16]), ([], [12, 13, 15, 16]), ([11], [13, 15, 16]), (rgn 6 7, [15, 16]), (rgn 0 6, [15, 16]), (rgn 0 15, [16]), (rgn 0 16, [])] (fun L ac w => St 26 ⟨w0, [], [(true, cL am ks.length cm vs), (true, .bys vs ks), (true, cL aa js.length ca us), (true, .bys us js), (true, cL al li.length cl (bcs li)), (L 10, cL (vsa am cm 1 0) ((ks.take (ks.length - 1)).length) (cm - 0) (vs.take (ks.length - 1)))], Z, noX⟩ [(12, L 0, ptA g1 0), (13, L 1, .slice am ks.length cm), (14, L 2, ni64 (ks.length)), (15, L 3, ni64 (ks.length - 1)), (16, L 4, vidx (.slice am ks.length cm) (ks.length - 1)), (17, L 5, .slice al li.length cl), (18, L 6, ptA g1 0), (19, L 7, .slice am ks.length cm), (20, L 8, ni64 (ks.length)), (21, L 9, ni64 (ks.length - 1)), (22, L 10, .slice (vsa am cm 1 0) ((ks.take (ks.length - 1)).length) (cm - 0)), (23, L 11, ptA g1 1), (24, L 12, .slice aa js.length ca), (25, L 13, .agg #[.slice (vsa am cm 1 0) ((ks.take (ks.length - 1)).length) (cm - 0), .slice aa js.length ca]), (2, L 14, .slice al li.length cl), (4, L 16, .int .i64 0), (1, true, ptA g1 0), (2, true, .slice none 0 0), (3, true, ptA g2 0), (4, true, .int .i64 0), (5, true, ni64 (ks.length))] [(true, g1, 24, [.slice am ks.length cm, .slice aa js.length ca]), (true, g2, 24, (cond (L 15) [.slice (vsa am cm 1 0) ((ks.take (ks.length - 1)).length) (cm - 0), .slice aa js.length ca] [.slice none 0 0, .slice none 0 0]))] ac w) (by kernel_rfl) (by kernel_rfl) ?_ ?_ ?_
 ·exact hs.drew.s4.s4.s4.s4.padS
 ·refine ⟨?_, ?_, ?_, ?_, ?_, ?_, ?_, ?_, ?_, ?_, ?_, ?_, ?_, ?_, ?_, ?_, ?_, trivial⟩
  ·exact fun L ac w hs => pln (op_fieldA hs (some 0) rfl rfl rfl underlying24 rfl sizeOf22 (by decide) rfl fun ac hs => hs)
  ·exact fun L ac w hs => pln (oldd hs 1 0 (.slice am ks.length cm) isAgg22 sizeOf22 rfl rfl rfl rfl rfl fun ac hs => hs)
  ·exact fun L ac w hs => pln (omv hs 2 rfl rfl rfl fun ac hs => hs)
  ·exact fun L ac w hs => pln (obn hs 3 (ni64 (ks.length - 1)) rfl rfl rfl rfl (bin_subN (y := 1) (by omega) (show ks.length - 1 < 9223372036854775808 by omega)) fun ac hs => hs)
  ·exact fun L ac w hs => pln (op_idxC hs (some 4) 0 (j := ks.length - 1) rfl rfl rfl rfl rfl underlying22 sizeOf34 (show ks.length - 1 < ks.length by omega) (off := ks.length - 1) (by omega) rfl fun ac hs => hs)
  ·exact fun L ac w hs => pln (op_loadC hs (some 5) 0 (u := .slice al li.length cl) rfl rfl rfl rfl isAgg34 sizeOf34 (by decide) hvl rfl fun ac hs => hs)
  ·exact fun L ac w hs => pln (op_fieldA hs (some 6) rfl rfl rfl underlying24 rfl sizeOf22 (by decide) rfl fun ac hs => hs)
  ·exact fun L ac w hs => pln (oldd hs 7 0 (.slice am ks.length cm) isAgg22 sizeOf22 rfl rfl rfl rfl rfl fun ac hs => hs)
  ·exact fun L ac w hs => pln (omv hs 8 rfl rfl rfl fun ac hs => hs)
  ·exact fun L ac w hs => pln (obn hs 9 (ni64 (ks.length - 1)) rfl rfl rfl rfl (bin_subN (y := 1) (by omega) (show ks.length - 1 < 9223372036854775808 by omega)) fun ac hs => hs)
  ·exact fun L ac w hs => pln (op_sliceR hs (some 10) (some 5) 0 0 (ks.length - 1) (N' := (ks.take (ks.length - 1)).length) (cs' := vs.take (ks.length - 1)) rfl rfl rfl rfl (.inl ⟨rfl, rfl⟩) (.inr ⟨_, _, rfl, rfl⟩) underlying22 sizeOf34 (show 0 ≤ ks.length - 1 by omega) (show ks.length - 1 ≤ ks.length by omega) (by rw [List.length_take]; omega) (by simp) rfl rfl fun ac hs => hs)
  ·exact fun L ac w hs => pln (op_fieldA hs (some 11) rfl rfl rfl underlying24 rfl sizeOf22 (by decide) rfl fun ac hs => hs)
  ·exact fun L ac w hs => pln (oldd hs 12 0 (.slice aa js.length ca) isAgg22 sizeOf22 rfl rfl rfl rfl rfl fun ac hs => hs)
  ·exact fun L ac w hs => pln (op_build hs (some 13) (qs := [(0, .slice (vsa am cm 1 0) ((ks.take (ks.length - 1)).length) (cm - 0)), (1, .slice aa js.length ca)]) (v := .agg #[.slice (vsa am cm 1 0) ((ks.take (ks.length - 1)).length) (cm - 0), .slice aa js.length ca]) rfl rfl rfl rfl (fun _ => by kernel_rfl) rfl fun ac hs => hs)
  ·exact fun L ac w hs => pln (oas hs 14 rfl rfl rfl fun ac hs => hs)
  ·exact fun L ac w hs => pln (stoo hs 1 ([.slice (vsa am cm 1 0) ((ks.take (ks.length - 1)).length) (cm - 0), .slice aa js.length ca]) sizeOf24 rfl rfl rfl rfl rfl rfl rfl rfl rfl rfl fun w hs => hs)
  ·exact fun L ac w hs => pln (oas hs 15 rfl rfl rfl fun ac hs => hs)
 intro ac w hs
 try dsimp only [cond_true] at hs
 refine then_n (wp_ret ?_)
 have HS := hs
 have h0 := hp
 rw [pop_ref, if_neg hk0] at h0
 obtain ⟨hx, hk, hj, he⟩ := inj4 h0
 have hx2 : li = x := (getD_of hli).symm.trans hx
 subst hx2
 subst hk
 subst hj
 subst he
 have hs := HS
 replace hs := hs.takeY none 1 (ks.length - 1) rfl rfl
 exact bodyPost_ret (res3 rfl (rv_t hs rfl) (rv_c hs 1 (v := .agg #[.slice (vsa am cm 1 0) ((ks.take (ks.length - 1)).length) (cm - 0), .slice aa js.length ca]) rfl rfl isAgg24 sizeOf24 rfl) (rv_t hs rfl)) hs.defers ⟨⟨(vsa am cm 1 0), cm - 0, vs.take (ks.length - 1), aa, ca, us, al, cl⟩, rfl, hs.bel rfl, hs.retS (ks := [5, 6, 2, 3, 4]) rfl (by decide)⟩
theorem rpopn_c (am : Option Addr) (cm : Nat) (vs : List Value) (aa : Option Addr) (ca : Nat) (us : List Value) (ks js : BL) (most z : Int) (k1 j1 : BL) (e1 : Nat) (ok : OkN 1000 ks) (oj : OkN 1000 js) (hp : popN most ks js = (z, k1, j1, e1)) (w0 : World) (Z : Nat → Prop) (hV : CelV w0 Z (.slice am ks.length cm) ks.length vs) (hY : BysV w0 Z vs ks) (hU : CelV w0 Z (.slice aa js.length ca) js.length us) (hX : BysV w0 Z us js): Calls prog 24 #[.agg #[.slice am ks.length cm, .slice aa js.length ca], .int .i64 most] w0 fun e w' => Ret w0 Z (ρ := MR) (fun r => .tuple #[.int .i64 z, .agg #[.slice r.a k1.length r.c, .slice r.b j1.length r.d], ni64 e1]) (fun r => [cL r.a k1.length r.c r.vs, .bys r.vs k1, cL r.b j1.length r.d r.us, .bys r.us j1]) e w' := by
 have hk8 : ks.length ≤ 1000 := ok.1
 have hj8 : js.length ≤ 1000 := oj.1
 refine enterS (n := 34) (args := [.agg #[.slice am ks.length cm, .slice aa js.length ca], .int .i64 most]) (S := [(true, cL am ks.length cm vs), (true, .bys vs ks), (true, cL aa js.length ca us), (true, .bys us js)]) (Z := Z) func24 rfl rfl (Nat.le_of_ble_eq_true rfl) (sokC hV (sokC hY (sokC hU (sokC hX sok0)))) rfl fun ac hs => wp_seq (wp_region_lit (stp (op_box hs none none (cs := [.slice am ks.length cm, .slice aa js.length ca]) rfl rfl rfl rfl rfl rfl fun g1 ac w hs => asg hs rfl rfl rfl fun ac hs => stp (op_alloc hs none none (cs := [.slice none 0 0, .slice none 0 0]) rfl rfl zeroValue24 (by kernel_rfl) rfl rfl fun g2 ac w hs => asg hs rfl rfl rfl fun ac hs => wpList_nil (then_n (wp_seq (wp_region_lit (ldd hs 0 (.agg #[.slice am ks.length cm, .slice aa js.length ca]) isAgg24 sizeOf24 rfl rfl rfl rfl rfl fun ac hs => ?_))))))))
 replace hs := hs.nf w0 Z noX [0, 1, 2, 4, 5, 6, 13] rfl rfl rfl rfl
 obtain ⟨p3, ks4, js5, e6, hks4⟩ := ex4 (popS ks js)
 obtain ⟨lp3, oks4, ojs5⟩ := popS_ok ok oj hks4
 refine stp (op_callS (F := 22) (ρ := MRx) hs none none (v := fun r => .tuple #[.slice r.x p3.length r.y, .agg #[.slice r.a ks4.length r.c, .slice r.b js5.length r.d], ni64 e6]) (E := fun r => [cL r.a ks4.length r.c r.vs, .bys r.vs ks4, cL r.b js5.length r.d r.us, .bys r.us js5, cL r.x p3.length r.y (bcs p3)]) (j := 5) rfl rfl rfl rfl (call22 _) (fun hs => rpop_c am cm vs aa ca us ks js p3 ks4 js5 e6 ok oj hks4 _ _ (hs.all (k := 0) rfl rfl) (hs.all (k := 1) rfl rfl) (hs.all (k := 2) rfl rfl) (hs.all (k := 3) rfl rfl)) (fun _ => rfl) rfl rfl fun ⟨ad7, cp8, vs9, ad10, cp11, us12, ad13, cp14⟩ ac w hs => mvv hs rfl rfl rfl fun ac hs => stp (xtr hs none rfl rfl rfl rfl rfl fun ac hs => stp (xtr hs none rfl rfl rfl rfl rfl fun ac hs => stp (xtr hs none rfl rfl rfl rfl rfl fun ac hs => stp (op_alloc hs none none (cs := [.slice none 0 0, .slice none 0 0]) rfl rfl zeroValue24 (by kernel_rfl) rfl rfl fun g15 ac w hs => asg hs rfl rfl rfl fun ac hs => stp (stoo hs 2 ([.slice ad7 ks4.length cp8, .slice ad10 js5.length cp11]) sizeOf24 rfl rfl rfl rfl rfl rfl rfl rfl rfl rfl fun w hs => asg hs rfl rfl rfl fun ac hs => wpList_nil (then_n (wp_seq (wp_seq ?_)))))))))
 replace hs := hs.nf w0 Z noX [1, 4, 5, 6, 8, 7, 9] rfl rfl rfl rfl
 refine wp_region_lit (mvv hs rfl rfl rfl fun ac hs => bnn hs (.bool (decide (e6 ≠ 0))) rfl rfl rfl rfl (bin_neqN (y := 0)) fun ac hs => wpList_nil (then_n (wcs hs rfl ?_ ?_)))
 ·intro hc
  have hp16 := of_decide_eq_true hc
  refine wp_seq (wp_region_lit (stp (op_build hs none (qs := []) (v := .agg #[.slice none 0 0, .slice none 0 0]) rfl rfl rfl rfl (fun _ => by kernel_rfl) rfl fun ac hs => mvv hs rfl rfl rfl fun ac hs => asg hs rfl rfl rfl fun ac hs => stp (stoo hs 1 ([.slice none 0 0, .slice none 0 0]) sizeOf24 rfl rfl rfl rfl rfl rfl rfl rfl rfl rfl fun w hs => asg hs rfl rfl rfl fun ac hs => wpList_nil (then_n (wp_ret (then_r ?_)))))))
  have HS := hs
  have h0 := hp
  rw [popN_err hks4 hp16] at h0
  obtain ⟨hx, hk, hj, he⟩ := inj4 h0
  subst hx
  subst hk
  subst hj
  subst he
  have hs := HS
  replace hs := hs.nilCel none rfl
  replace hs := hs.nilBys none rfl
  replace hs := hs.nilCel none rfl
  replace hs := hs.nilBys none rfl
  exact bodyPost_ret (res3 rfl (rv_t hs rfl) (rv_c hs 1 (v := .agg #[.slice none 0 0, .slice none 0 0]) rfl rfl isAgg24 sizeOf24 rfl) (rv_t hs rfl)) hs.defers ⟨⟨none, 0, [], none, 0, []⟩, rfl, hs.bel rfl, hs.retS (ks := [9, 10, 11, 12]) rfl (by decide)⟩
 intro hc
 have hp17 := of_decide_eq_false hc
 refine wp_skip (then_n (wp_seq (wp_region_lit (mvv hs rfl rfl rfl fun ac hs => mvv hs rfl rfl rfl fun ac hs => ?_))))
 obtain ⟨z18, e19, hz18⟩ := ex2 (decN p3 most)
 refine stp (op_callV (F := 41) (ρ := Unit) hs none none (v := fun r => .tuple #[.int .i64 z18, ni64 e19]) (E := fun r => []) (j := 0) rfl rfl rfl rfl (call41 _) (fun hs => rdec_c ad13 p3.length cp14 p3 (Nat.le_trans lp3 (by decide)) most z18 e19 hz18 _ _ (hs.celT (k := 8) rfl)) (fun _ => rfl) (fun _ => rfl) rfl rfl fun _ ac w hs => mvv hs rfl rfl rfl fun ac hs => stp (xtr hs none rfl rfl rfl rfl rfl fun ac hs => stp (xtr hs none rfl rfl rfl rfl rfl fun ac hs => asg hs rfl rfl rfl fun ac hs => asg hs rfl rfl rfl fun ac hs => wpList_nil (then_n (wp_seq (wp_seq ?_))))))
 replace hs := hs.nf w0 Z noX [4, 5, 6, 8, 10, 11] rfl rfl rfl rfl
 refine wp_region_lit (mvv hs rfl rfl rfl fun ac hs => bnn hs (.bool (decide (e19 ≠ 0))) rfl rfl rfl rfl (bin_neqN (y := 0)) fun ac hs => wpList_nil (then_n (wcs hs rfl ?_ ?_)))
 ·intro hc
  have hp20 := of_decide_eq_true hc
  refine wp_seq (wp_region_lit (stp (op_build hs none (qs := []) (v := .agg #[.slice none 0 0, .slice none 0 0]) rfl rfl rfl rfl (fun _ => by kernel_rfl) rfl fun ac hs => mvv hs rfl rfl rfl fun ac hs => asg hs rfl rfl rfl fun ac hs => stp (stoo hs 1 ([.slice none 0 0, .slice none 0 0]) sizeOf24 rfl rfl rfl rfl rfl rfl rfl rfl rfl rfl fun w hs => asg hs rfl rfl rfl fun ac hs => wpList_nil (then_n (wp_ret (then_r ?_)))))))
  have HS := hs
  have h0 := hp
  obtain rfl : e6 = 0 := Classical.not_not.1 hp17
  rw [popN_dec hks4 hz18, if_neg hp20] at h0
  obtain ⟨hx, hk, hj, he⟩ := inj4 h0
  subst hx
  subst hk
  subst hj
  subst he
  have hs := HS
  replace hs := hs.nilCel none rfl
  replace hs := hs.nilBys none rfl
  replace hs := hs.nilCel none rfl
  replace hs := hs.nilBys none rfl
  exact bodyPost_ret (res3 rfl (rv_t hs rfl) (rv_c hs 1 (v := .agg #[.slice none 0 0, .slice none 0 0]) rfl rfl isAgg24 sizeOf24 rfl) (rv_t hs rfl)) hs.defers ⟨⟨none, 0, [], none, 0, []⟩, rfl, hs.bel rfl, hs.retS (ks := [9, 10, 11, 12]) rfl (by decide)⟩
 intro hc
 have hp21 := of_decide_eq_false hc
 refine wp_skip (then_n (wp_seq ?_))
 replace hs := hs.nf w0 Z noX [4, 5, 6, 8, 10] rfl rfl rfl rfl
 refine region_inv [([], [2, 3, 4]), ([], [3, 4]), ([0], [3, 4]), ([0, 1, 2], [4]), (rgn 0 4, [])] (fun L ac w => St 34 ⟨w0, [], [(true, cL am ks.length cm vs), (true, .bys vs ks), (true, cL aa js.length ca us), (true, .bys us js), (true, cL ad7 ks4.length cp8 vs9), (true, .bys vs9 ks4), (true, cL ad10 js5.length cp11 us12), (true, .bys us12 js5), (true, cL ad13 p3.length cp14 (bcs p3))], Z, noX⟩ [(32, L 0, .int .i64 z18), (33, L 1, .agg #[.slice ad7 ks4.length cp8, .slice ad10 js5.length cp11]), (4, L 2, .int .i64 z18), (6, L 4, .int .i64 0), (4, true, .int .i64 0), (5, true, ptA g2 0), (6, true, .int .i64 0), (8, true, ptA g15 0), (10, true, .int .i64 z18)] [(true, g1, 24, [.slice am ks.length cm, .slice aa js.length ca]), (true, g2, 24, (cond (L 3) [.slice ad7 ks4.length cp8, .slice ad10 js5.length cp11] [.slice none 0 0, .slice none 0 0])), (true, g15, 24, [.slice ad7 ks4.length cp8, .slice ad10 js5.length cp11])] ac w) (by kernel_rfl) (by kernel_rfl) ?_ ?_ ?_
 ·exact hs.drew.s4
 ·refine ⟨?_, ?_, ?_, ?_, ?_, trivial⟩
  ·exact fun L ac w hs => pln (omv hs 0 rfl rfl rfl fun ac hs => hs)
  ·exact fun L ac w hs => pln (oldd hs 1 2 (.agg #[.slice ad7 ks4.length cp8, .slice ad10 js5.length cp11]) isAgg24 sizeOf24 rfl rfl rfl rfl rfl fun ac hs => hs)
  ·exact fun L ac w hs => pln (oas hs 2 rfl rfl rfl fun ac hs => hs)
  ·exact fun L ac w hs => pln (stoo hs 1 ([.slice ad7 ks4.length cp8, .slice ad10 js5.length cp11]) sizeOf24 rfl rfl rfl rfl rfl rfl rfl rfl rfl rfl fun w hs => hs)
  ·exact fun L ac w hs => pln (oas hs 3 rfl rfl rfl fun ac hs => hs)
 intro ac w hs
 try dsimp only [cond_true] at hs
 refine then_n (wp_ret ?_)
 have HS := hs
 have h0 := hp
 obtain rfl : e6 = 0 := Classical.not_not.1 hp17
 rw [popN_dec hks4 hz18, if_pos (Classical.not_not.1 hp21)] at h0
 obtain ⟨hx, hk, hj, he⟩ := inj4 h0
 subst hx
 subst hk
 subst hj
 subst he
 have hs := HS
 exact bodyPost_ret (res3 rfl (rv_t hs rfl) (rv_c hs 1 (v := .agg #[.slice ad7 ks4.length cp8, .slice ad10 js5.length cp11]) rfl rfl isAgg24 sizeOf24 rfl) (rv_t hs rfl)) hs.defers ⟨⟨ad7, cp8, vs9, ad10, cp11, us12⟩, rfl, hs.bel rfl, hs.retS (ks := [4, 5, 6, 7]) rfl (by decide)⟩
end Go.Proofs.Ytikkhkjndbicgaa

/- Stacks: the document's functions, further. -/
namespace Go.Proofs.Ytikkhkjndbicgaa
open Go.RowKit _root_.Go.Proofs.Try
set_option maxRecDepth 10000
set_option maxHeartbeats 1000000
end Go.Proofs.Ytikkhkjndbicgaa

/- Stacks: what the walks of the document's last functions want. -/
namespace Go.Proofs.Ytikkhkjndbicgaa
open Go.RowKit
def pickV (vs : List Value) (ps : List Nat) : List Value := ps.map fun p => vs.getD p (.slice none 0 0)
section
variable {n : Nat} {w0 : Bs} {fs : List Sl} {bs : List Bl} {a : Act} {w : World}
end
def intZ (zs : List Int) : List Value := zs.map fun z => .int .i64 z
section
variable {n : Nat} {w0 : Bs} {fs : List Sl} {bs : List Bl} {a : Act} {w : World}
end
theorem OkN.one {B : Nat} {x : List UInt8} (hB : 1 ≤ B) (h : x.length ≤ B) : OkN B [x] := ⟨hB, fun y hy => by rw [List.mem_singleton.1 hy]; exact h⟩
theorem OkN.two {B : Nat} {x y : List UInt8} (hB : 2 ≤ B) (h : x.length ≤ B) (h2 : y.length ≤ B) : OkN B [x, y] := ⟨hB, fun z hz => by rcases List.mem_cons.1 hz with rfl | hz; exact h; rw [List.mem_singleton.1 hz]; exact h2⟩
section
variable {op n : Nat} {ks js : BL} (h : ¬ (op = 121 ∨ op = 122)) (h2 : ¬ (op = 107 ∨ op = 108))
include h h2
end
end Go.Proofs.Ytikkhkjndbicgaa

/- SHA-256: the program's, the document's. -/
namespace Go.Proofs.Ytikkhkjndbicgaa
open Go.RowKit _root_.Go.Proofs.Try
set_option maxRecDepth 10000
set_option maxHeartbeats 1000000
end Go.Proofs.Ytikkhkjndbicgaa

/- Stacks: the document's moves, what it puts, and Do. -/
namespace Go.Proofs.Ytikkhkjndbicgaa
open Go.RowKit _root_.Go.Proofs.Try
set_option maxRecDepth 10000
set_option maxHeartbeats 1000000
end Go.Proofs.Ytikkhkjndbicgaa

/- Stacks: what the walks of the laws with the document's answer want. -/
namespace Go.Proofs.Ytikkhkjndbicgaa
open Go.RowKit
section
variable {n : Nat} {w0 : Bs} {fs : List Sl} {bs : List Bl} {a : Act} {w : World}
theorem St.wrs_in (hs : St n w0 fs bs a w) {k : Nat} {G : Nat → Prop} {vs : List Value} {ns : List Nat} (h : w0.S[k]? = some (true, .wrs G vs ns)) {x : Value} (hx : x ∈ vs) : ∃ (j : Nat) (al : Option Addr) (nl cl : Nat), x = Value.slice al nl cl ∧ vs[j]? = some (Value.slice al nl cl) ∧ ns[j]? = some nl ∧ nl ≤ maxLen := by
  have h1 := (hs.fz k _ h rfl).1
  obtain ⟨j, hj⟩ := List.mem_iff_getElem?.1 hx
  have hlt : j < ns.length := by rw [← h1.1]; exact (List.getElem?_eq_some_iff.1 hj).1
  obtain ⟨ad, c, e, h2, h3, _⟩ := h1.2 j x ns[j] hj (by simp [hlt])
  subst e
  exact ⟨j, ad, ns[j], c, rfl, hj, by simp [hlt], Nat.le_trans h2 h3⟩
end
section
variable {P : Program} {Q : Exit → Act → World → Prop} {K : Act → World → Prop} {a : Act} {w : World} {o : Oper} {n : Nat} {w0 : Bs} {fs : List Sl} {bs : List Bl}
theorem op_convBY (hs : St n w0 fs bs a w) (m : Option Nat) {T U E : TypeId} {x : Operand} {ad : Option Addr} {M c : Nat} {l : List UInt8} {d : Nat} (ho : o.op = .convert T U x) (hd : o.dst = some d) (hx : ev fs x = some (.slice ad M c))
    (hk : ByV w (fun _ => True) (.slice ad M c) l) (hM : M = l.length) (hS : P.underlying T = some (.slice E)) (hE : P.underlying E = some (.int .u8)) (hD : P.underlying U = some .string) (hok : okf m fs d n = true)
    (h : ∀ a', St n w0 (putf m fs d (.string (txt l))) bs a' w → K a' w) : o.wp P a w K Q := by
  subst hM
  refine op_val hs m hd hok ?_ h
  unfold execOp
  rw [ho]
  simp only [hs.ev hx]
  rcases celv_news hk with ⟨rfl, h0, rfl⟩ | ⟨p, rfl, hn⟩
  · have : l = [] := List.length_eq_zero_iff.1 h0
    subst this
    have e : (convert T U (.slice none 0 0)).run P w = .ok (.string (txt [])) w := by
      rw [run_convert_bytes_string w T U E none 0 0 hS hE hD]
      simp [Conv.bytesToString]
      rfl
    simp [e, Sem.run_bind, Result.andThen]
  · have := run_convert_bytes_back (P := P) w T U E p c l hS hE hD (fun j hj => by
      have h2 := hn j (.int .u8 (l[j].toNat : Int)) (by simp [bcs, hj])
      exact h2)
    simp [this, Sem.run_bind, Result.andThen]
end
end Go.Proofs.Ytikkhkjndbicgaa

/- Stacks: the laws with the document's answer. -/
namespace Go.Proofs.Ytikkhkjndbicgaa
open Go.RowKit _root_.Go.Proofs.Try
set_option maxRecDepth 10000
set_option maxHeartbeats 1000000
theorem cop_c (ad : Option Addr) (c : Nat) (vs : List Value) (ls : BL) (hB : OkN 8000 ls) (w0 : World) (Z : Nat → Prop) (hV : CelV w0 Z (.slice ad ls.length c) ls.length vs) (hY : BysV w0 Z vs ls): Calls prog 10 #[.slice ad ls.length c] w0 fun e w' => Ret w0 Z (ρ := M1) (fun r => .slice r.a ls.length r.c) (fun r => [oW r.a ls.length r.c 34 r.vs, .bysO r.G r.vs ls]) e w' := by
 have hl8 : ls.length ≤ 8000 := hB.1
 refine enterS (n := 22) (args := [.slice ad ls.length c]) (S := [(true, cL ad ls.length c vs), (true, .bys vs ls)]) (Z := Z) func10 rfl rfl (Nat.le_of_ble_eq_true rfl) (sokC hV (sokC hY sok0)) rfl fun ac hs => wp_seq (wp_region_lit (asg hs rfl rfl rfl fun ac hs => wpList_nil (then_n (wp_seq (wp_region_lit (stp (op_bsO0 hs none none (size := 1) rfl rfl underlying22 inf_slice_34 rfl rfl fun ad2 ac w hs => asg hs rfl rfl rfl fun ac hs => wpList_nil (then_n (wp_seq (wp_seq (wp_region_lit (asg hs rfl rfl rfl fun ac hs => wpList_nil (then_n (wp_block ?_))))))))))))))
 replace hs := hs.nilBysO none rfl
 refine wp_loop_m (fun μ ac w => ∃ (i : Nat) (ao : Option Addr) (co : Nat) (vo : List Value) (G : Nat → Prop), (ls.length - i) = μ ∧ (i ≤ ls.length) ∧ St 22 ⟨w0, [], [(true, cL ad ls.length c vs), (true, .bys vs ls), (true, oW ao ((ls.take i).length) co 34 vo), (true, .bysO G vo (ls.take i))], Z, noX⟩ [(0, true, .slice ad ls.length c), (3, true, .slice ao ((ls.take i).length) co), (4, true, ni64 i)] [] ac w) ?_ ?_
 ·exact ⟨_, 0, ad2, 0, ([]), noX, rfl, (by omega), (hs.re (fs' := [(0, true, .slice ad ls.length c), (3, true, .slice ad2 ((ls.take 0).length) 0), (4, true, ni64 0)]) ⟨rfl, rfl, rfl, trivial⟩)⟩
 intro μ ac w ⟨i, ao, co, vo, G, hμ, hi, hs⟩
 have htl : (ls.take i).length ≤ 8000 := (hB.take i).1
 refine wp_seq (wp_seq (wp_region_lit (mvv hs rfl rfl rfl fun ac hs => mvv hs rfl rfl rfl fun ac hs => stp (op_blt hs none (v := ni64 (ls.length)) rfl rfl rfl (blt_len underlying22) rfl fun ac hs => bnn hs (.bool (decide (i < ls.length))) rfl rfl rfl rfl bin_lssN fun ac hs => wpList_nil (then_n (wcs hs rfl ?_ ?_))))))
 ·intro hc
  have hp3 := of_decide_eq_true hc
  have hlt := of_decide_eq_true hc
  obtain ⟨li, hli⟩ : ∃ z, ls[i]? = some z := ⟨_, List.getElem?_eq_getElem hlt⟩
  obtain ⟨al, cl, hvl⟩ := bysv_at (hs.all (k := 1) rfl rfl) hli
  have lli : li.length ≤ 8000 := hB.2 _ (List.mem_of_getElem? hli)
  replace hs := hs.pick none 1 rfl hvl hli rfl
  refine wp_skip (then_n (wp_seq (wp_block (wp_region_lit (mvv hs rfl rfl rfl fun ac hs => stp (op_bsO0 hs none none (size := 1) rfl rfl underlying34 inf_u8_5 rfl rfl fun ad5 ac w hs => mvv hs rfl rfl rfl fun ac hs => mvv hs rfl rfl rfl fun ac hs => stp (op_idxC hs none 0 (j := i) rfl rfl rfl rfl rfl underlying22 sizeOf34 (show i < ls.length by omega) (off := i) (by omega) rfl fun ac hs => stp (op_loadC hs none 0 (u := .slice al li.length cl) rfl rfl rfl rfl isAgg34 sizeOf34 (by decide) hvl rfl fun ac hs => stp (op_appR hs none 5 4 (N' := li.length) (ys := bcs li) rfl rfl rfl rfl rfl rfl underlying34 inf_u8_5 rfl (by decide) (bcs_len1 rfl) (bcs_one _) (by decide) (show 0 + li.length ≤ 1000000 by omega) (Nat.zero_add _) rfl rfl rfl fun ad6 cp7 ac w hs => stp (op_bsO hs none none (qs := [(0, .slice ad6 li.length cp7)]) (cs := [.slice ad6 li.length cp7]) rfl rfl rfl rfl underlying22 inf_slice_34 (by decide) (by decide) (fill_one _ _ rfl) rfl rfl rfl rfl fun ad9 ac w hs => stp (op_appR hs none 2 6 (N' := ((ls.take i) ++ [li]).length) (ys := vo ++ [Value.slice ad6 li.length cp7]) rfl rfl rfl rfl rfl rfl underlying22 inf_slice_34 rfl (by decide) rfl (by intro u hu; obtain rfl := List.mem_singleton.1 hu; rfl) (by decide) (show (ls.take i).length + 1 ≤ 1000000 by first | omega | ((try simp only [List.length_drop, List.length_take, List.length_append, List.length_cons, List.length_nil]); omega)) (by simp) rfl rfl rfl fun ad10 cp11 ac w hs => ?_)))))))))))
  refine asg hs rfl rfl rfl fun ac hs => wpList_nil (blk_n (then_n ?_))
  replace hs := hs.nf w0 Z noX [0, 3, 4] rfl rfl rfl rfl
  refine wp_region_lit (mvv hs rfl rfl rfl fun ac hs => bnn hs (ni64 (i + 1)) rfl rfl rfl rfl (bin_addN (y := 1) rfl (show i + 1 < 9223372036854775808 by omega)) fun ac hs => asg hs rfl rfl rfl fun ac hs => wpList_nil (then_n ?_))
  replace hs := hs.snocOwn (ls' := ls.take i ++ [li]) 3 5 rfl rfl rfl
  rw [show ls.take i ++ [li] = ls.take (i + 1) from take_snocB hli] at hs
  replace hs := hs.selS [0, 1, 2, 3] rfl (by decide)
  exact ⟨_, ⟨(i + 1), ad10, cp11, (vo ++ [.slice ad6 li.length cp7]), (GU G (.slice ad6 li.length cp7)), rfl, (by omega), (hs.re (fs' := [(0, true, .slice ad ls.length c), (3, true, .slice ad10 ((ls.take (i + 1)).length) cp11), (4, true, ni64 ((i + 1)))]) ⟨rfl, rfl, rfl, trivial⟩)⟩, (by omega)⟩
 intro hc
 have hp12 := of_decide_eq_false hc
 have hge := of_decide_eq_false hc
 rw [List.take_of_length_le (show ls.length ≤ i by omega)] at hs
 refine wp_exit (then_e (then_e (blk_e (then_n (wp_seq (wp_region_lit (mvv hs rfl rfl rfl fun ac hs => asg hs rfl rfl rfl fun ac hs => wpList_nil (then_n (wp_ret ?_)))))))))
 exact bodyPost_ret (res1 rfl (rv_t hs rfl)) hs.defers ⟨⟨ao, co, vo, G⟩, rfl, hs.bel rfl, hs.ret2 2 3 rfl rfl (by decide)⟩
theorem more_law (am : Option Addr) (cm : Nat) (vs : List Value) (aa : Option Addr) (ca : Nat) (us : List Value) (ks js : BL) (ab : Option Addr) (cb : Nat) (b : List UInt8) (most : Int) (w0 : World) (Z : Nat → Prop) (hV : CelV w0 Z (.slice am ks.length cm) ks.length vs) (hY : BysV w0 Z vs ks) (hU : CelV w0 Z (.slice aa js.length ca) js.length us) (hX : BysV w0 Z us js) (hB : ByV w0 Z (.slice ab b.length cb) b): Calls prog 7 #[.agg #[.slice am ks.length cm, .slice aa js.length ca], .slice ab b.length cb, .int .i64 most] w0 fun e w' => Ret w0 Z (ρ := Unit) (fun r => .bool true) (fun r => []) e w' := by
 refine enterS (n := 139) (args := [.agg #[.slice am ks.length cm, .slice aa js.length ca], .slice ab b.length cb, .int .i64 most]) (S := [(true, cL am ks.length cm vs), (true, .bys vs ks), (true, cL aa js.length ca us), (true, .bys us js), (true, cL ab b.length cb (bcs b))]) (Z := Z) func7 rfl rfl (Nat.le_of_ble_eq_true rfl) (sokC hV (sokC hY (sokC hU (sokC hX (sokC hB sok0))))) rfl fun ac hs => wp_seq (wp_region_lit (stp (op_box hs none none (cs := [.slice am ks.length cm, .slice aa js.length ca]) rfl rfl rfl rfl rfl rfl fun g1 ac w hs => asg hs rfl rfl rfl fun ac hs => wpList_nil (then_n (wp_seq (wp_seq ?_))))))
 by_cases hq2 : smallS ks js = true
 ·refine wp_region_lit ?_
  refine ldd hs 0 (.agg #[.slice am ks.length cm, .slice aa js.length ca]) isAgg24 sizeOf24 rfl rfl rfl rfl rfl fun ac hs => stp (op_callV (F := 8) (ρ := Unit) hs none none (v := fun r => .bool true) (E := fun r => []) (j := 0) rfl rfl rfl rfl (call8 _) (fun hs => small_c am cm vs aa ca us ks js true hq2 _ _ (hs.celT (k := 0) rfl) (hs.rowB (k := 1) (G := noX) (.inr rfl)) (hs.celT (k := 2) rfl) (hs.rowB (k := 3) (G := noX) (.inr rfl))) (fun _ => rfl) (fun _ => rfl) rfl rfl fun _ ac w hs => stp (op_un hs none (v := .bool false) rfl rfl rfl (fun _ => rfl) rfl fun ac hs => mvv hs rfl rfl rfl fun ac hs => lstep (wpO_in hs rfl rfl rfl (op_move hs none rfl rfl rfl rfl fun ac hs => lstep (wpO_in hs rfl rfl rfl (op_blt hs none (v := ni64 (b.length)) rfl rfl rfl (blt_len underlying34) rfl fun ac hs => lstep (wpO_in hs rfl rfl rfl (op_bin hs none (v := .bool (decide (600 < b.length))) rfl rfl rfl rfl (fun _ => rfl) (bin_gtrN (x := b.length) (y := 600)) rfl fun ac hs => stp (op_pickF hs none rfl rfl rfl rfl rfl fun ac hs => wpList_nil (then_n (wcs hs rfl ?_ ?_)))))))))))
  ·intro hc
   have hp3 := of_decide_eq_true hc
   refine wp_seq ?_
   replace hs := hs.nf w0 Z noX [1, 2, 3, 6] rfl rfl rfl rfl
   refine wp_region_lit (stp (op_callV (F := 9) (ρ := Unit) hs none none (v := fun r => .bool true) (E := fun r => []) (j := 0) rfl rfl rfl rfl (call9 _) (fun hs => alive_c _ _) (fun _ => rfl) (fun _ => rfl) rfl rfl fun _ ac w hs => asg hs rfl rfl rfl fun ac hs => wpList_nil (then_n (wp_ret (then_r ?_)))))
   exact bodyPost_ret (res1 rfl (rv_t hs rfl)) hs.defers ⟨(), rfl, hs.bel rfl, okl0⟩
  intro hc
  have hp4 := of_decide_eq_false hc
  obtain ⟨ok, oj⟩ := small_ok hq2
  have hkl : ks.length ≤ 600 := ok.1
  have hb : b.length ≤ 1000 := by have := of_decide_eq_false hc; omega
  obtain ⟨kp, jp, ep, hpu⟩ := ex3 (pushS b ks js)
  obtain ⟨xp, ko, jo, eo, hpo⟩ := ex4 (popS ks js)
  obtain ⟨zn, kn, jn, en, hpn⟩ := ex4 (popN most ks js)
  obtain ⟨xq, hxq⟩ := ex1 ((popL ks 0).1)
  obtain ⟨rr, hrr⟩ := ex1 (chkL ks js)
  refine wp_skip (then_n (wp_seq ?_))
  replace hs := hs.nf w0 Z noX [1, 2, 3, 6] rfl rfl rfl rfl
  refine region_inv [([], [1, 2, 5, 6, 8]), ([0], [2, 5, 6, 8]), ([0, 1], [5, 6, 8]), ([], [4, 5, 6, 8]), ([3], [5, 6, 8]), (rgn 0 5, [6, 8]), (rgn 0 6, [8]), ([], [8]), (rgn 0 8, [])] (fun L ac w => ∃ (g13 : Nat) (ad5 : Option Addr) (cp6 : Nat) (us7 : List Value) (G8 : Nat → Prop) (ad9 : Option Addr) (cp10 : Nat) (us11 : List Value) (G12 : Nat → Prop), St 139 ⟨w0, [], [(true, cL am ks.length cm vs), (true, .bys vs ks), (true, cL aa js.length ca us), (true, .bys us js), (true, cL ab b.length cb (bcs b)), (L 2, oW ad5 ks.length cp6 34 us7), (L 2, .bysO G8 us7 ks), (L 5, oW ad9 js.length cp10 34 us11), (L 5, .bysO G12 us11 js)], Z, noX⟩ [(27, L 0, ptA g1 0), (28, L 1, .slice am ks.length cm), (29, L 2, .slice ad5 ks.length cp6), (30, L 3, ptA g1 1), (31, L 4, .slice aa js.length ca), (32, L 5, .slice ad9 js.length cp10), (33, L 6, cond (L 6) (.agg #[.slice ad5 ks.length cp6, .slice ad9 js.length cp10]) undef), (7, L 7, ptA g13 0), (1, true, .slice ab b.length cb), (2, true, .int .i64 most), (3, true, ptA g1 0), (6, true, .bool false)] [(true, g1, 24, [.slice am ks.length cm, .slice aa js.length ca]), (L 7, g13, 24, (cond (L 8) [.slice ad5 ks.length cp6, .slice ad9 js.length cp10] [.slice none 0 0, .slice none 0 0]))] ac w) (by kernel_rfl) (by kernel_rfl) ?_ ?_ ?_
  ·exact ⟨0, none, 0, [], noX, none, 0, [], noX, hs.drew.s4.s4.pad.padS.padS.padS.padS⟩
  ·refine ⟨?_, ?_, ?_, ?_, ?_, ?_, ?_, ?_, ?_, trivial⟩
   ·exact fun L ac w ⟨g13, ad5, cp6, us7, G8, ad9, cp10, us11, G12, hs⟩ => pln (op_fieldA hs (some 0) rfl rfl rfl underlying24 rfl sizeOf22 (by decide) rfl fun ac hs => ⟨g13, ad5, cp6, us7, G8, ad9, cp10, us11, G12, hs⟩)
   ·exact fun L ac w ⟨g13, ad5, cp6, us7, G8, ad9, cp10, us11, G12, hs⟩ => pln (oldd hs 1 0 (.slice am ks.length cm) isAgg22 sizeOf22 rfl rfl rfl rfl rfl fun ac hs => ⟨g13, ad5, cp6, us7, G8, ad9, cp10, us11, G12, hs⟩)
   ·exact fun L ac w ⟨g13, ad5, cp6, us7, G8, ad9, cp10, us11, G12, hs⟩ => pln (op_callV (F := 10) (ρ := M1) hs (some 2) (some 5) (v := fun r => .slice r.a ks.length r.c) (E := fun r => [oW r.a ks.length r.c 34 r.vs, .bysO r.G r.vs ks]) (j := 2) rfl rfl rfl rfl (call10 _) (fun hs => cop_c am cm vs ks (ok.mono (by decide)) _ _ (hs.celT (k := 0) rfl) (hs.rowB (k := 1) (G := noX) (.inr rfl))) (fun _ => rfl) (fun _ => rfl) rfl rfl fun ⟨ad5, cp6, us7, G8⟩ ac w hs => ⟨g13, ad5, cp6, us7, G8, ad9, cp10, us11, G12, hs⟩)
   ·exact fun L ac w ⟨g13, ad5, cp6, us7, G8, ad9, cp10, us11, G12, hs⟩ => pln (op_fieldA hs (some 3) rfl rfl rfl underlying24 rfl sizeOf22 (by decide) rfl fun ac hs => ⟨g13, ad5, cp6, us7, G8, ad9, cp10, us11, G12, hs⟩)
   ·exact fun L ac w ⟨g13, ad5, cp6, us7, G8, ad9, cp10, us11, G12, hs⟩ => pln (oldd hs 4 0 (.slice aa js.length ca) isAgg22 sizeOf22 rfl rfl rfl rfl rfl fun ac hs => ⟨g13, ad5, cp6, us7, G8, ad9, cp10, us11, G12, hs⟩)
   ·exact fun L ac w ⟨g13, ad5, cp6, us7, G8, ad9, cp10, us11, G12, hs⟩ => pln (op_callV (F := 10) (ρ := M1) hs (some 5) (some 7) (v := fun r => .slice r.a js.length r.c) (E := fun r => [oW r.a js.length r.c 34 r.vs, .bysO r.G r.vs js]) (j := 2) rfl rfl rfl rfl (call10 _) (fun hs => cop_c aa ca us js (oj.mono (by decide)) _ _ (hs.celT (k := 2) rfl) (hs.rowB (k := 3) (G := noX) (.inr rfl))) (fun _ => rfl) (fun _ => rfl) rfl rfl fun ⟨ad9, cp10, us11, G12⟩ ac w hs => ⟨g13, ad5, cp6, us7, G8, ad9, cp10, us11, G12, hs⟩)
   ·exact fun L ac w ⟨g13, ad5, cp6, us7, G8, ad9, cp10, us11, G12, hs⟩ => pln (op_build hs (some 6) (qs := [(0, .slice ad5 ks.length cp6), (1, .slice ad9 js.length cp10)]) (v := .agg #[.slice ad5 ks.length cp6, .slice ad9 js.length cp10]) rfl rfl rfl rfl (fun _ => by kernel_rfl) rfl fun ac hs => ⟨g13, ad5, cp6, us7, G8, ad9, cp10, us11, G12, hs⟩)
   ·exact fun L ac w ⟨g13, ad5, cp6, us7, G8, ad9, cp10, us11, G12, hs⟩ => pln (op_alloc hs (some 7) (some 1) (cs := [.slice none 0 0, .slice none 0 0]) rfl rfl zeroValue24 (by kernel_rfl) rfl rfl fun g13 ac w hs => ⟨g13, ad5, cp6, us7, G8, ad9, cp10, us11, G12, hs⟩)
   ·exact fun L ac w ⟨g13, ad5, cp6, us7, G8, ad9, cp10, us11, G12, hs⟩ => pln (stoo hs 1 ([.slice ad5 ks.length cp6, .slice ad9 js.length cp10]) sizeOf24 rfl rfl rfl rfl rfl rfl rfl rfl rfl rfl fun w hs => ⟨g13, ad5, cp6, us7, G8, ad9, cp10, us11, G12, hs⟩)
  intro ac w ⟨g13, ad5, cp6, us7, G8, ad9, cp10, us11, G12, hs⟩
  try dsimp only [cond_true] at hs
  replace hs := hs.nf w0 Z noX [1, 2, 3, 6, 27, 28, 29, 30, 31, 32, 33, 7] rfl rfl rfl rfl
  have hl14 := hs.ownLen 5 rfl
  replace hs := hs.freeze 5 rfl
  have hl15 := hs.ownLen 7 rfl
  replace hs := hs.freeze 7 rfl
  replace hs := hs.freezeB 6 rfl
  replace hs := hs.freezeB 8 rfl
  replace hs := hs.nf w0 Z noX [1, 2, 3, 6, 27, 28, 29, 30, 31, 32, 33, 7] rfl rfl rfl rfl
  refine then_n (wp_seq (wp_region_lit (ldd hs 1 (.agg #[.slice ad5 ks.length cp6, .slice ad9 js.length cp10]) isAgg24 sizeOf24 rfl rfl rfl rfl rfl fun ac hs => mvv hs rfl rfl rfl fun ac hs => stp (op_callX (F := 19) (ρ := M2) hs none none [] [5, 6, 7, 8, 4] (v := fun r => .tuple #[.agg #[.slice r.a kp.length r.c, .slice r.b jp.length r.d], ni64 ep]) (S1 := [(true, cL ad5 ks.length cp6 us7), (true, .bys us7 ks), (true, cL ad9 js.length cp10 us11), (true, .bys us11 js), (true, cL ab b.length cb (bcs b))]) (bs1 := []) (E := fun r => [(true, cL ad5 ks.length cp6 us7), (true, .bys us7 ks), (true, cL ad9 js.length cp10 us11), (true, .bys us11 js), (true, cL ab b.length cb (bcs b)), (true, oW r.a kp.length r.c 34 r.vs), (true, oW r.b jp.length r.d 34 r.us), (true, .bysO r.G (r.vs ++ r.us ++ ([])) (kp ++ jp ++ ([])))]) (E1 := fun r => [(true, cL ad5 ks.length cp6 us7), (true, .bys us7 ks), (true, cL ad9 js.length cp10 us11), (true, .bys us11 js), (true, cL ab b.length cb (bcs b))]) (E2 := fun r => [oW r.a kp.length r.c 34 r.vs, oW r.b jp.length r.d 34 r.us, .bysO r.G (r.vs ++ r.us ++ ([])) (kp ++ jp ++ ([]))]) (bfA := fun r => []) (bf := fun r => []) (bf2 := fun r => []) rfl rfl rfl rfl rfl (call19 _) rfl rfl (by decide) (by decide) (fun Z X hm => push2_c ad5 cp6 us7 ad9 cp10 us11 ks js ab b.length cb b rfl hb kp jp ep (ok.mono (by decide)) (oj.mono (by decide)) hpu _ _ _ hm) (fun _ => rfl) (fun _ => rfl) (fun _ => rfl) (fun _ => rfl) (fun _ => rfl) rfl fun ⟨ad16, cp17, vs18, ad19, cp20, us21, G22⟩ ac w hs => mvv hs rfl rfl rfl fun ac hs => stp (xtr hs none rfl rfl rfl rfl rfl fun ac hs => stp (xtr hs none rfl rfl rfl rfl rfl fun ac hs => stp (op_alloc hs none none (cs := [.slice none 0 0, .slice none 0 0]) rfl rfl zeroValue24 (by kernel_rfl) rfl rfl fun g23 ac w hs => stp (stoo hs 2 ([.slice ad16 kp.length cp17, .slice ad19 jp.length cp20]) sizeOf24 rfl rfl rfl rfl rfl rfl rfl rfl rfl rfl fun w hs => asg hs rfl rfl rfl fun ac hs => ?_))))))))
  refine wpList_nil (then_n (wp_seq ?_))
  replace hs := hs.nf w0 Z noX [1, 2, 3, 6, 7, 8, 9] rfl rfl rfl rfl
  refine wp_region_lit (ldd hs 0 (.agg #[.slice am ks.length cm, .slice aa js.length ca]) isAgg24 sizeOf24 rfl rfl rfl rfl rfl fun ac hs => mvv hs rfl rfl rfl fun ac hs => ?_)
  replace hs := hs.nf w0 Z noX [1, 2, 3, 6, 7, 8, 9, 41, 42] rfl rfl rfl rfl
  refine stp (op_callS (F := 20) (ρ := MR) hs none none (v := fun r => .tuple #[.agg #[.slice r.a kp.length r.c, .slice r.b jp.length r.d], ni64 ep]) (E := fun r => [cL r.a kp.length r.c r.vs, .bys r.vs kp, cL r.b jp.length r.d r.us, .bys r.us jp]) (j := 4) rfl rfl rfl rfl (call20 _) (fun hs => rpush_c am cm vs aa ca us ks js ab cb b hb kp jp ep (ok.mono (by decide)) (oj.mono (by decide)) ((push_ref _ _ _).symm.trans hpu) _ _ (hs.all (k := 0) rfl rfl) (hs.all (k := 1) rfl rfl) (hs.all (k := 2) rfl rfl) (hs.all (k := 3) rfl rfl) (hs.all (k := 4) rfl rfl)) (fun _ => rfl) rfl rfl fun ⟨ad24, cp25, vs26, ad27, cp28, us29⟩ ac w hs => mvv hs rfl rfl rfl fun ac hs => stp (xtr hs none rfl rfl rfl rfl rfl fun ac hs => stp (xtr hs none rfl rfl rfl rfl rfl fun ac hs => stp (op_alloc hs none none (cs := [.slice none 0 0, .slice none 0 0]) rfl rfl zeroValue24 (by kernel_rfl) rfl rfl fun g30 ac w hs => stp (stoo hs 3 ([.slice ad24 kp.length cp25, .slice ad27 jp.length cp28]) sizeOf24 rfl rfl rfl rfl rfl rfl rfl rfl rfl rfl fun w hs => asg hs rfl rfl rfl fun ac hs => wpList_nil (then_n (wp_seq ?_)))))))
  replace hs := hs.nf w0 Z noX [2, 3, 6, 7, 8, 9, 10, 11] rfl rfl rfl rfl
  refine wp_region_lit (ldd hs 2 (.agg #[.slice ad16 kp.length cp17, .slice ad19 jp.length cp20]) isAgg24 sizeOf24 rfl rfl rfl rfl rfl fun ac hs => ldd hs 3 (.agg #[.slice ad24 kp.length cp25, .slice ad27 jp.length cp28]) isAgg24 sizeOf24 rfl rfl rfl rfl rfl fun ac hs => stp (op_callV (F := 13) (ρ := Unit) hs none none (v := fun r => .bool true) (E := fun r => []) (j := 0) rfl rfl rfl rfl (call13 _) (fun hs => same2_c ad16 cp17 vs18 kp ad19 cp20 us21 jp ad24 cp25 vs26 kp ad27 cp28 us29 jp true (decide_eq_true ⟨rfl, rfl⟩) _ _ (hs.celT (k := 9) rfl) (hs.mainY 11 rfl (hs.ownLen 9 rfl)) (hs.celT (k := 10) rfl) (hs.altY 11 rfl (hs.ownLen 9 rfl) (hs.ownLen 10 rfl)) (hs.celT (k := 12) rfl) (hs.rowB (k := 13) (G := noX) (.inr rfl)) (hs.celT (k := 14) rfl) (hs.rowB (k := 15) (G := noX) (.inr rfl))) (fun _ => rfl) (fun _ => rfl) rfl rfl fun _ ac w hs => mvv hs rfl rfl rfl fun ac hs => lstep (wpO_in hs rfl rfl rfl (op_move hs none rfl rfl rfl rfl fun ac hs => lstep (wpO_in hs rfl rfl rfl (op_move hs none rfl rfl rfl rfl fun ac hs => lstep (wpO_in hs rfl rfl rfl (op_bin hs none (v := .bool true) rfl rfl rfl rfl (fun _ => rfl) (fun w => dT rfl (bin_eqlN (x := ep) (y := ep) w)) rfl fun ac hs => stp (op_pickT hs none rfl rfl rfl rfl rfl fun ac hs => asg hs rfl rfl rfl fun ac hs => ?_)))))))))
  refine wpList_nil ?_
  replace hs := hs.selS [0, 1, 2, 3, 4, 5, 6, 7, 8] rfl (by decide)
  replace hs := hs.nf w0 Z noX [2, 3, 6, 7, 8, 9, 10, 11, 46, 47, 48, 49, 50, 51, 52, 53, 12] rfl rfl rfl rfl
  refine then_n (wp_seq (wp_region_lit (ldd hs 1 (.agg #[.slice ad5 ks.length cp6, .slice ad9 js.length cp10]) isAgg24 sizeOf24 rfl rfl rfl rfl rfl fun ac hs => stp (op_callX (F := 21) (ρ := M2x) hs none none [] [5, 6, 7, 8] (v := fun r => .tuple #[.slice r.x xp.length r.y, .agg #[.slice r.a ko.length r.c, .slice r.b jo.length r.d], ni64 eo]) (S1 := [(true, cL ad5 ks.length cp6 us7), (true, .bys us7 ks), (true, cL ad9 js.length cp10 us11), (true, .bys us11 js)]) (bs1 := []) (E := fun r => [(true, cL ad5 ks.length cp6 us7), (true, .bys us7 ks), (true, cL ad9 js.length cp10 us11), (true, .bys us11 js), (true, oW r.a ko.length r.c 34 r.vs), (true, oW r.b jo.length r.d 34 r.us), (true, .bysO r.G (r.vs ++ r.us ++ ([] ++ [.slice r.x xp.length r.y])) (ko ++ jo ++ ([] ++ [xp])))]) (E1 := fun r => [(true, cL ad5 ks.length cp6 us7), (true, .bys us7 ks), (true, cL ad9 js.length cp10 us11), (true, .bys us11 js)]) (E2 := fun r => [oW r.a ko.length r.c 34 r.vs, oW r.b jo.length r.d 34 r.us, .bysO r.G (r.vs ++ r.us ++ ([] ++ [.slice r.x xp.length r.y])) (ko ++ jo ++ ([] ++ [xp]))]) (bfA := fun r => []) (bf := fun r => []) (bf2 := fun r => []) rfl rfl rfl rfl rfl (call21 _) rfl rfl (by decide) (by decide) (fun Z X hm => pop2_c ad5 cp6 us7 ad9 cp10 us11 ks js xp ko jo eo (ok.mono (by decide)) (oj.mono (by decide)) hpo _ _ _ hm) (fun _ => rfl) (fun _ => rfl) (fun _ => rfl) (fun _ => rfl) (fun _ => rfl) rfl fun ⟨ad31, cp32, vs33, ad34, cp35, us36, G37, ad38, cp39⟩ ac w hs => mvv hs rfl rfl rfl fun ac hs => stp (xtr hs none rfl rfl rfl rfl rfl fun ac hs => stp (xtr hs none rfl rfl rfl rfl rfl fun ac hs => stp (xtr hs none rfl rfl rfl rfl rfl fun ac hs => asg hs rfl rfl rfl fun ac hs => stp (stoo hs 2 ([.slice ad31 ko.length cp32, .slice ad34 jo.length cp35]) sizeOf24 rfl rfl rfl rfl rfl rfl rfl rfl rfl rfl fun w hs => asg hs rfl rfl rfl fun ac hs => ?_))))))))
  refine wpList_nil (then_n (wp_seq ?_))
  replace hs := hs.nf w0 Z noX [2, 3, 6, 7, 8, 9, 10, 11, 12, 13] rfl rfl rfl rfl
  refine wp_region_lit (ldd hs 0 (.agg #[.slice am ks.length cm, .slice aa js.length ca]) isAgg24 sizeOf24 rfl rfl rfl rfl rfl fun ac hs => ?_)
  replace hs := hs.nf w0 Z noX [2, 3, 6, 7, 8, 9, 10, 11, 12, 13, 61] rfl rfl rfl rfl
  refine stp (op_callS (F := 22) (ρ := MRx) hs none none (v := fun r => .tuple #[.slice r.x xp.length r.y, .agg #[.slice r.a ko.length r.c, .slice r.b jo.length r.d], ni64 eo]) (E := fun r => [cL r.a ko.length r.c r.vs, .bys r.vs ko, cL r.b jo.length r.d r.us, .bys r.us jo, cL r.x xp.length r.y (bcs xp)]) (j := 5) rfl rfl rfl rfl (call22 _) (fun hs => rpop_c am cm vs aa ca us ks js xp ko jo eo (ok.mono (by decide)) (oj.mono (by decide)) hpo _ _ (hs.all (k := 0) rfl rfl) (hs.all (k := 1) rfl rfl) (hs.all (k := 2) rfl rfl) (hs.all (k := 3) rfl rfl)) (fun _ => rfl) rfl rfl fun ⟨ad40, cp41, vs42, ad43, cp44, us45, ad46, cp47⟩ ac w hs => mvv hs rfl rfl rfl fun ac hs => stp (xtr hs none rfl rfl rfl rfl rfl fun ac hs => stp (xtr hs none rfl rfl rfl rfl rfl fun ac hs => stp (xtr hs none rfl rfl rfl rfl rfl fun ac hs => asg hs rfl rfl rfl fun ac hs => stp (stoo hs 3 ([.slice ad40 ko.length cp41, .slice ad43 jo.length cp44]) sizeOf24 rfl rfl rfl rfl rfl rfl rfl rfl rfl rfl fun w hs => asg hs rfl rfl rfl fun ac hs => wpList_nil (then_n (wp_seq ?_)))))))
  replace hs := hs.nf w0 Z noX [2, 3, 6, 7, 8, 9, 10, 11, 12, 13, 14] rfl rfl rfl rfl
  refine wp_region_lit (mvv hs rfl rfl rfl fun ac hs => mvv hs rfl rfl rfl fun ac hs => lstep (wpO_in hs rfl rfl rfl (op_move hs none rfl rfl rfl rfl fun ac hs => lstep (wpO_in hs rfl rfl rfl (op_convBY hs none (l := xp) rfl rfl rfl (hs.itemZ (k := 11) rfl (mem_last3 (hs.bLen 11 rfl))) rfl underlying34 underlying5 underlying9 rfl fun ac hs => lstep (wpO_in hs rfl rfl rfl (op_move hs none rfl rfl rfl rfl fun ac hs => lstep (wpO_in hs rfl rfl rfl (op_convBS hs none 16 rfl rfl rfl rfl rfl underlying34 underlying5 underlying9 rfl fun ac hs => lstep (wpO_in hs rfl rfl rfl (op_bin hs none (v := .bool true) rfl rfl rfl rfl (fun _ => rfl) (bin_eqlT (decide_eq_true rfl)) rfl fun ac hs => stp (op_pickT hs none rfl rfl rfl rfl rfl fun ac hs => mvv hs rfl rfl rfl fun ac hs => ?_))))))))))))
  refine lstep (wpO_in hs rfl rfl rfl (op_load hs none 2 (v := .agg #[.slice ad31 ko.length cp32, .slice ad34 jo.length cp35]) rfl rfl rfl rfl isAgg24 sizeOf24 rfl rfl fun ac hs => lstep (wpO_in hs rfl rfl rfl (op_load hs none 3 (v := .agg #[.slice ad40 ko.length cp41, .slice ad43 jo.length cp44]) rfl rfl rfl rfl isAgg24 sizeOf24 rfl rfl fun ac hs => lstep (wpO_in hs rfl rfl rfl (op_callV (F := 13) (ρ := Unit) hs none none (v := fun r => .bool true) (E := fun r => []) (j := 0) rfl rfl rfl rfl (call13 _) (fun hs => same2_c ad31 cp32 vs33 ko ad34 cp35 us36 jo ad40 cp41 vs42 ko ad43 cp44 us45 jo true (decide_eq_true ⟨rfl, rfl⟩) _ _ (hs.celT (k := 9) rfl) (hs.mainY 11 rfl (hs.ownLen 9 rfl)) (hs.celT (k := 10) rfl) (hs.altY 11 rfl (hs.ownLen 9 rfl) (hs.ownLen 10 rfl)) (hs.celT (k := 12) rfl) (hs.rowB (k := 13) (G := noX) (.inr rfl)) (hs.celT (k := 14) rfl) (hs.rowB (k := 15) (G := noX) (.inr rfl))) (fun _ => rfl) (fun _ => rfl) rfl rfl fun _ ac w hs => stp (op_pickT hs none rfl rfl rfl rfl rfl fun ac hs => mvv hs rfl rfl rfl fun ac hs => lstep (wpO_in hs rfl rfl rfl (op_move hs none rfl rfl rfl rfl fun ac hs => lstep (wpO_in hs rfl rfl rfl (op_move hs none rfl rfl rfl rfl fun ac hs => lstep (wpO_in hs rfl rfl rfl (op_bin hs none (v := .bool true) rfl rfl rfl rfl (fun _ => rfl) (fun w => dT rfl (bin_eqlN (x := eo) (y := eo) w)) rfl fun ac hs => stp (op_pickT hs none rfl rfl rfl rfl rfl fun ac hs => asg hs rfl rfl rfl fun ac hs => ?_))))))))))))))
  refine wpList_nil ?_
  replace hs := hs.selS [0, 1, 2, 3, 4, 5, 6, 7, 8, 11] rfl (by decide)
  replace hs := hs.nf w0 Z noX [2, 3, 6, 7, 8, 9, 10, 11, 12, 13, 14, 66, 67, 68, 69, 70, 71, 72, 73, 74, 75, 76, 77, 78, 79, 80, 81, 82, 83] rfl rfl rfl rfl
  refine then_n (wp_seq (wp_region_lit (ldd hs 1 (.agg #[.slice ad5 ks.length cp6, .slice ad9 js.length cp10]) isAgg24 sizeOf24 rfl rfl rfl rfl rfl fun ac hs => mvv hs rfl rfl rfl fun ac hs => stp (op_callX (F := 23) (ρ := M2x) hs none none [] [5, 6, 7, 8] (v := fun r => .tuple #[.int .i64 zn, .agg #[.slice r.a kn.length r.c, .slice r.b jn.length r.d], ni64 en]) (S1 := [(true, cL ad5 ks.length cp6 us7), (true, .bys us7 ks), (true, cL ad9 js.length cp10 us11), (true, .bys us11 js)]) (bs1 := []) (E := fun r => [(true, cL ad5 ks.length cp6 us7), (true, .bys us7 ks), (true, cL ad9 js.length cp10 us11), (true, .bys us11 js), (true, oW r.a kn.length r.c 34 r.vs), (true, oW r.b jn.length r.d 34 r.us), (true, .bysO r.G (r.vs ++ r.us ++ ([] ++ [.slice r.x xq.length r.y])) (kn ++ jn ++ ([] ++ [xq])))]) (E1 := fun r => [(true, cL ad5 ks.length cp6 us7), (true, .bys us7 ks), (true, cL ad9 js.length cp10 us11), (true, .bys us11 js)]) (E2 := fun r => [oW r.a kn.length r.c 34 r.vs, oW r.b jn.length r.d 34 r.us, .bysO r.G (r.vs ++ r.us ++ ([] ++ [.slice r.x xq.length r.y])) (kn ++ jn ++ ([] ++ [xq]))]) (bfA := fun r => []) (bf := fun r => []) (bf2 := fun r => []) rfl rfl rfl rfl rfl (call23 _) rfl rfl (by decide) (by decide) (fun Z X hm => popn_c ad5 cp6 us7 ad9 cp10 us11 ks js most zn xq kn jn en (ok.mono (by decide)) (oj.mono (by decide)) hxq hpn _ _ _ hm) (fun _ => rfl) (fun _ => rfl) (fun _ => rfl) (fun _ => rfl) (fun _ => rfl) rfl fun ⟨ad48, cp49, vs50, ad51, cp52, us53, G54, ad55, cp56⟩ ac w hs => mvv hs rfl rfl rfl fun ac hs => stp (xtr hs none rfl rfl rfl rfl rfl fun ac hs => stp (xtr hs none rfl rfl rfl rfl rfl fun ac hs => stp (xtr hs none rfl rfl rfl rfl rfl fun ac hs => asg hs rfl rfl rfl fun ac hs => stp (stoo hs 2 ([.slice ad48 kn.length cp49, .slice ad51 jn.length cp52]) sizeOf24 rfl rfl rfl rfl rfl rfl rfl rfl rfl rfl fun w hs => ?_))))))))
  refine asg hs rfl rfl rfl fun ac hs => wpList_nil (then_n (wp_seq ?_))
  replace hs := hs.nf w0 Z noX [2, 3, 6, 7, 8, 9, 10, 11, 12, 13, 15] rfl rfl rfl rfl
  refine wp_region_lit (ldd hs 0 (.agg #[.slice am ks.length cm, .slice aa js.length ca]) isAgg24 sizeOf24 rfl rfl rfl rfl rfl fun ac hs => mvv hs rfl rfl rfl fun ac hs => ?_)
  replace hs := hs.nf w0 Z noX [2, 3, 6, 7, 8, 9, 10, 11, 12, 13, 15, 92, 93] rfl rfl rfl rfl
  refine stp (op_callS (F := 24) (ρ := MR) hs none none (v := fun r => .tuple #[.int .i64 zn, .agg #[.slice r.a kn.length r.c, .slice r.b jn.length r.d], ni64 en]) (E := fun r => [cL r.a kn.length r.c r.vs, .bys r.vs kn, cL r.b jn.length r.d r.us, .bys r.us jn]) (j := 4) rfl rfl rfl rfl (call24 _) (fun hs => rpopn_c am cm vs aa ca us ks js most zn kn jn en (ok.mono (by decide)) (oj.mono (by decide)) hpn _ _ (hs.all (k := 0) rfl rfl) (hs.all (k := 1) rfl rfl) (hs.all (k := 2) rfl rfl) (hs.all (k := 3) rfl rfl)) (fun _ => rfl) rfl rfl fun ⟨ad57, cp58, vs59, ad60, cp61, us62⟩ ac w hs => mvv hs rfl rfl rfl fun ac hs => stp (xtr hs none rfl rfl rfl rfl rfl fun ac hs => stp (xtr hs none rfl rfl rfl rfl rfl fun ac hs => stp (xtr hs none rfl rfl rfl rfl rfl fun ac hs => asg hs rfl rfl rfl fun ac hs => stp (stoo hs 3 ([.slice ad57 kn.length cp58, .slice ad60 jn.length cp61]) sizeOf24 rfl rfl rfl rfl rfl rfl rfl rfl rfl rfl fun w hs => asg hs rfl rfl rfl fun ac hs => wpList_nil (then_n (wp_seq ?_)))))))
  replace hs := hs.nf w0 Z noX [3, 6, 7, 8, 9, 10, 11, 12, 13, 15, 16] rfl rfl rfl rfl
  refine wp_region_lit (mvv hs rfl rfl rfl fun ac hs => mvv hs rfl rfl rfl fun ac hs => lstep (wpO_in hs rfl rfl rfl (op_move hs none rfl rfl rfl rfl fun ac hs => lstep (wpO_in hs rfl rfl rfl (op_move hs none rfl rfl rfl rfl fun ac hs => lstep (wpO_in hs rfl rfl rfl (op_bin hs none (v := .bool true) rfl rfl rfl rfl (fun _ => rfl) (fun w => dT rfl (bin_eqlI (x := zn) (y := zn) w)) rfl fun ac hs => stp (op_pickT hs none rfl rfl rfl rfl rfl fun ac hs => mvv hs rfl rfl rfl fun ac hs => lstep (wpO_in hs rfl rfl rfl (op_load hs none 2 (v := .agg #[.slice ad48 kn.length cp49, .slice ad51 jn.length cp52]) rfl rfl rfl rfl isAgg24 sizeOf24 rfl rfl fun ac hs => lstep (wpO_in hs rfl rfl rfl (op_load hs none 3 (v := .agg #[.slice ad57 kn.length cp58, .slice ad60 jn.length cp61]) rfl rfl rfl rfl isAgg24 sizeOf24 rfl rfl fun ac hs => ?_))))))))))))
  refine lstep (wpO_in hs rfl rfl rfl (op_callV (F := 13) (ρ := Unit) hs none none (v := fun r => .bool true) (E := fun r => []) (j := 0) rfl rfl rfl rfl (call13 _) (fun hs => same2_c ad48 cp49 vs50 kn ad51 cp52 us53 jn ad57 cp58 vs59 kn ad60 cp61 us62 jn true (decide_eq_true ⟨rfl, rfl⟩) _ _ (hs.celT (k := 10) rfl) (hs.mainY 12 rfl (hs.ownLen 10 rfl)) (hs.celT (k := 11) rfl) (hs.altY 12 rfl (hs.ownLen 10 rfl) (hs.ownLen 11 rfl)) (hs.celT (k := 13) rfl) (hs.rowB (k := 14) (G := noX) (.inr rfl)) (hs.celT (k := 15) rfl) (hs.rowB (k := 16) (G := noX) (.inr rfl))) (fun _ => rfl) (fun _ => rfl) rfl rfl fun _ ac w hs => stp (op_pickT hs none rfl rfl rfl rfl rfl fun ac hs => mvv hs rfl rfl rfl fun ac hs => lstep (wpO_in hs rfl rfl rfl (op_move hs none rfl rfl rfl rfl fun ac hs => lstep (wpO_in hs rfl rfl rfl (op_move hs none rfl rfl rfl rfl fun ac hs => lstep (wpO_in hs rfl rfl rfl (op_bin hs none (v := .bool true) rfl rfl rfl rfl (fun _ => rfl) (fun w => dT rfl (bin_eqlN (x := en) (y := en) w)) rfl fun ac hs => stp (op_pickT hs none rfl rfl rfl rfl rfl fun ac hs => asg hs rfl rfl rfl fun ac hs => wpList_nil ?_))))))))))
  replace hs := hs.selS [0, 1, 2, 3, 4, 5, 6, 7, 8, 9] rfl (by decide)
  replace hs := hs.toWrs 9 rfl
  obtain ⟨jx, al, nl, cl, hxe, hxv, hxn, hnl⟩ := hs.wrs_in (k := 9) rfl (x := .slice ad38 xp.length cp39) (by simp)
  injection hxe with hx1 hx2 hx3
  subst hx1
  subst hx2
  subst hx3
  have hnl2 : xp.length < 9223372036854775808 := Nat.lt_of_le_of_lt hnl (by decide)
  replace hs := hs.nf w0 Z noX [3, 6, 7, 8, 9, 10, 11, 12, 13, 15, 16, 98, 99, 100, 101, 102, 103, 104, 105, 106, 107, 108, 109, 110, 111, 112, 113] rfl rfl rfl rfl
  refine then_n (wp_seq (wp_seq (wp_region_lit (asg hs rfl rfl rfl fun ac hs => wpList_nil (then_n (wp_block (wp_loop_m (fun μ ac w => ∃ (i : Nat), (xp.length - i) = μ ∧ (i ≤ xp.length) ∧ St 139 ⟨w0, [], [(true, cL am ks.length cm vs), (true, .bys vs ks), (true, cL aa js.length ca us), (true, .bys us js), (true, cL ab b.length cb (bcs b)), (true, cL ad5 ks.length cp6 us7), (true, .bys us7 ks), (true, cL ad9 js.length cp10 us11), (true, .bys us11 js), (true, .wrs G37 (vs33 ++ us36 ++ ([] ++ [.slice ad38 xp.length cp39])) ((ko ++ jo ++ ([] ++ [xp])).map List.length))], Z, noX⟩ [(3, true, ptA g1 0), (7, true, ptA g13 0), (12, true, .bool true), (13, true, .slice ad38 xp.length cp39), (17, true, ni64 i)] [(true, g1, 24, [.slice am ks.length cm, .slice aa js.length ca]), (true, g13, 24, [.slice ad5 ks.length cp6, .slice ad9 js.length cp10]), (true, g23, 24, [.slice ad48 kn.length cp49, .slice ad51 jn.length cp52]), (true, g30, 24, [.slice ad57 kn.length cp58, .slice ad60 jn.length cp61])] ac w) ?_ ?_)))))))
  ·exact ⟨_, 0, rfl, (by omega), (hs.re (fs' := [(3, true, ptA g1 0), (7, true, ptA g13 0), (12, true, .bool true), (13, true, .slice ad38 xp.length cp39), (17, true, ni64 0)]) ⟨rfl, rfl, rfl, rfl, rfl, trivial⟩)⟩
  intro μ ac w ⟨i, hμ, hi, hs⟩
  refine wp_seq (wp_seq (wp_region_lit (mvv hs rfl rfl rfl fun ac hs => mvv hs rfl rfl rfl fun ac hs => stp (op_blt hs none (v := ni64 (xp.length)) rfl rfl rfl (blt_len underlying34) rfl fun ac hs => bnn hs (.bool (decide (i < xp.length))) rfl rfl rfl rfl bin_lssN fun ac hs => wpList_nil (then_n (wcs hs rfl ?_ ?_))))))
  ·intro hc
   have hp63 := of_decide_eq_true hc
   have hlt := of_decide_eq_true hc
   refine wp_skip (then_n (wp_seq (wp_block (wp_region_lit (mvv hs rfl rfl rfl fun ac hs => mvv hs rfl rfl rfl fun ac hs => stp (op_idxW hs none 9 jx (j := i) rfl rfl rfl rfl rfl hxv hxn underlying34 sizeOf5 (show i < xp.length by omega) rfl fun ac hs => stp (op_storeW hs 9 jx (j := i) (u := .int .u8 98) rfl rfl rfl rfl rfl rfl hxv hxn (show i < xp.length by omega) sizeOf5 rfl rfl fun w hs => wpList_nil (blk_n (then_n ?_)))))))))
   replace hs := hs.nf w0 Z noX [3, 7, 12, 13, 17] rfl rfl rfl rfl
   refine wp_region_lit (mvv hs rfl rfl rfl fun ac hs => bnn hs (ni64 (i + 1)) rfl rfl rfl rfl (bin_addN (y := 1) rfl (show i + 1 < 9223372036854775808 by omega)) fun ac hs => asg hs rfl rfl rfl fun ac hs => wpList_nil (then_n ?_))
   exact ⟨_, ⟨(i + 1), rfl, (by omega), (hs.re (fs' := [(3, true, ptA g1 0), (7, true, ptA g13 0), (12, true, .bool true), (13, true, .slice ad38 xp.length cp39), (17, true, ni64 ((i + 1)))]) ⟨rfl, rfl, rfl, rfl, rfl, trivial⟩)⟩, (by omega)⟩
  intro hc
  have hp64 := of_decide_eq_false hc
  refine wp_exit (then_e (then_e (blk_e (then_n (wp_seq ?_)))))
  replace hs := hs.nf w0 Z noX [3, 7, 12] rfl rfl rfl rfl
  refine region_inv [([], rgn 1 16), ([0], rgn 2 15), ([0, 1], rgn 3 14), ([0, 1, 2], rgn 4 13), (rgn 0 4, rgn 5 12), (rgn 0 5, [6, 8, 9, 10, 11, 12, 13, 14, 15, 16]), (rgn 0 6, rgn 8 9), (rgn 0 5, rgn 8 9), (rgn 0 8, rgn 9 8), (rgn 0 9, rgn 10 7), (rgn 0 10, rgn 11 6), (rgn 0 11, rgn 12 5), (rgn 0 12, [14, 15, 16]), (rgn 0 12, [14, 15, 16]), (rgn 0 14, [15, 16]), (rgn 0 15, [16]), (rgn 0 16, [])] (fun L ac w => St 139 ⟨w0, [], [(true, cL am ks.length cm vs), (true, .bys vs ks), (true, cL aa js.length ca us), (true, .bys us js), (true, cL ab b.length cb (bcs b)), (true, cL ad5 ks.length cp6 us7), (true, .bys us7 ks), (true, cL ad9 js.length cp10 us11), (true, .bys us11 js), (true, .wrs G37 (vs33 ++ us36 ++ ([] ++ [.slice ad38 xp.length cp39])) ((ko ++ jo ++ ([] ++ [xp])).map List.length))], Z, noX⟩ [(123, L 0, .bool true), (124, L 1, .bool true), (125, L 2, .bool true), (126, L 3, .bool true), (127, L 4, .bool true), (128, L 5, .agg #[.slice ad5 ks.length cp6, .slice ad9 js.length cp10]), (129, L 6, ni64 rr), (130, L 7, .agg #[.slice am ks.length cm, .slice aa js.length ca]), (131, L 8, ni64 rr), (132, L 9, .bool true), (133, L 10, .bool true), (134, L 11, .bool true), (135, L 12, .agg #[.slice ad5 ks.length cp6, .slice ad9 js.length cp10]), (136, L 13, .agg #[.slice am ks.length cm, .slice aa js.length ca]), (137, L 14, .bool true), (138, L 15, .bool true), (6, L 16, .bool true), (3, true, ptA g1 0), (7, true, ptA g13 0), (12, true, .bool true)] [(true, g1, 24, [.slice am ks.length cm, .slice aa js.length ca]), (true, g13, 24, [.slice ad5 ks.length cp6, .slice ad9 js.length cp10]), (true, g23, 24, [.slice ad48 kn.length cp49, .slice ad51 jn.length cp52]), (true, g30, 24, [.slice ad57 kn.length cp58, .slice ad60 jn.length cp61])] ac w) (by kernel_rfl) (by kernel_rfl) ?_ ?_ ?_
  ·exact hs.drew.s4.s4.s4.s4.skip
  ·refine ⟨?_, ?_, ?_, ?_, ?_, ?_, ?_, ?_, ?_, ?_, ?_, ?_, ?_, ?_, ?_, ?_, ?_, trivial⟩
   ·exact fun L ac w hs => pln (op_callV (F := 9) (ρ := Unit) hs (some 0) none (v := fun r => .bool true) (E := fun r => []) (j := 0) rfl rfl rfl rfl (call9 _) (fun hs => alive_c _ _) (fun _ => rfl) (fun _ => rfl) rfl rfl fun _ ac w hs => hs)
   ·exact fun L ac w hs => pln (omv hs 1 rfl rfl rfl fun ac hs => hs)
   ·exact fun L ac w hs => wpO_in hs rfl rfl rfl (omv hs 2 rfl rfl rfl fun ac hs => hs)
   ·exact fun L ac w hs => pln (op_pickT hs (some 3) rfl rfl rfl rfl rfl fun ac hs => hs)
   ·exact fun L ac w hs => pln (omv hs 4 rfl rfl rfl fun ac hs => hs)
   ·exact fun L ac w hs => wpO_in hs rfl rfl rfl (oldd hs 5 1 (.agg #[.slice ad5 ks.length cp6, .slice ad9 js.length cp10]) isAgg24 sizeOf24 rfl rfl rfl rfl rfl fun ac hs => hs)
   ·exact fun L ac w hs => wpO_in hs rfl rfl rfl (op_callV (F := 16) (ρ := Unit) hs (some 6) none (v := fun r => ni64 rr) (E := fun r => []) (j := 0) rfl rfl rfl rfl (call16 _) (fun hs => check_c ad5 cp6 us7 ad9 cp10 us11 ks js rr (Nat.le_trans (show OkN 8000 ks from (ok.mono (by decide))).1 (by decide)) (Nat.le_trans (show OkN 8000 js from (oj.mono (by decide))).1 (by decide)) hrr _ _ (hs.celT (k := 5) rfl) (hs.rowB (k := 6) (G := noX) (.inr rfl)) (hs.celT (k := 7) rfl) (hs.rowB (k := 8) (G := noX) (.inr rfl))) (fun _ => rfl) (fun _ => rfl) rfl rfl fun _ ac w hs => hs)
   ·exact fun L ac w hs => wpO_in hs rfl rfl rfl (oldd hs 7 0 (.agg #[.slice am ks.length cm, .slice aa js.length ca]) isAgg24 sizeOf24 rfl rfl rfl rfl rfl fun ac hs => hs)
   ·exact fun L ac w hs => wpO_in hs rfl rfl rfl (op_callV (F := 25) (ρ := Unit) hs (some 8) none (v := fun r => ni64 rr) (E := fun r => []) (j := 0) rfl rfl rfl rfl (call25 _) (fun hs => rcheck_c am cm vs aa ca us ks js rr (Nat.le_trans (show OkN 8000 ks from (ok.mono (by decide))).1 (by decide)) (Nat.le_trans (show OkN 8000 js from (oj.mono (by decide))).1 (by decide)) hrr _ _ (hs.celT (k := 0) rfl) (hs.rowB (k := 1) (G := noX) (.inr rfl)) (hs.celT (k := 2) rfl) (hs.rowB (k := 3) (G := noX) (.inr rfl))) (fun _ => rfl) (fun _ => rfl) rfl rfl fun _ ac w hs => hs)
   ·exact fun L ac w hs => wpO_in hs rfl rfl rfl (obn hs 9 (.bool true) rfl rfl rfl rfl (fun w => dT rfl (bin_eqlN w)) fun ac hs => hs)
   ·exact fun L ac w hs => pln (op_pickT hs (some 10) rfl rfl rfl rfl rfl fun ac hs => hs)
   ·exact fun L ac w hs => pln (omv hs 11 rfl rfl rfl fun ac hs => hs)
   ·exact fun L ac w hs => wpO_in hs rfl rfl rfl (oldd hs 12 1 (.agg #[.slice ad5 ks.length cp6, .slice ad9 js.length cp10]) isAgg24 sizeOf24 rfl rfl rfl rfl rfl fun ac hs => hs)
   ·exact fun L ac w hs => wpO_in hs rfl rfl rfl (oldd hs 13 0 (.agg #[.slice am ks.length cm, .slice aa js.length ca]) isAgg24 sizeOf24 rfl rfl rfl rfl rfl fun ac hs => hs)
   ·exact fun L ac w hs => wpO_in hs rfl rfl rfl (op_callV (F := 13) (ρ := Unit) hs (some 14) none (v := fun r => .bool true) (E := fun r => []) (j := 0) rfl rfl rfl rfl (call13 _) (fun hs => same2_c ad5 cp6 us7 ks ad9 cp10 us11 js am cm vs ks aa ca us js true (decide_eq_true ⟨rfl, rfl⟩) _ _ (hs.celT (k := 5) rfl) (hs.rowB (k := 6) (G := noX) (.inr rfl)) (hs.celT (k := 7) rfl) (hs.rowB (k := 8) (G := noX) (.inr rfl)) (hs.celT (k := 0) rfl) (hs.rowB (k := 1) (G := noX) (.inr rfl)) (hs.celT (k := 2) rfl) (hs.rowB (k := 3) (G := noX) (.inr rfl))) (fun _ => rfl) (fun _ => rfl) rfl rfl fun _ ac w hs => hs)
   ·exact fun L ac w hs => pln (op_pickT hs (some 15) rfl rfl rfl rfl rfl fun ac hs => hs)
   ·exact fun L ac w hs => pln (oas hs 16 rfl rfl rfl fun ac hs => hs)
  intro ac w hs
  try dsimp only [cond_true] at hs
  refine then_n (wp_ret ?_)
  exact bodyPost_ret (res1 rfl (rv_t hs rfl)) hs.defers ⟨(), rfl, hs.bel rfl, okl0⟩
 refine wp_region_lit (ldd hs 0 (.agg #[.slice am ks.length cm, .slice aa js.length ca]) isAgg24 sizeOf24 rfl rfl rfl rfl rfl fun ac hs => stp (op_callV (F := 8) (ρ := Unit) hs none none (v := fun r => .bool false) (E := fun r => []) (j := 0) rfl rfl rfl rfl (call8 _) (fun hs => small_c am cm vs aa ca us ks js false (Bool.eq_false_iff.2 hq2) _ _ (hs.celT (k := 0) rfl) (hs.rowB (k := 1) (G := noX) (.inr rfl)) (hs.celT (k := 2) rfl) (hs.rowB (k := 3) (G := noX) (.inr rfl))) (fun _ => rfl) (fun _ => rfl) rfl rfl fun _ ac w hs => stp (op_un hs none (v := .bool true) rfl rfl rfl (fun _ => rfl) rfl fun ac hs => mvv hs rfl rfl rfl fun ac hs => lstep (wpO_out hs none rfl rfl (.inl rfl) rfl rfl fun ac hs => lstep (wpO_out hs none rfl rfl (.inl rfl) rfl rfl fun ac hs => lstep (wpO_out hs none rfl rfl (.inl rfl) rfl rfl fun ac hs => stp (op_pickT hs none rfl rfl rfl rfl rfl fun ac hs => wpList_nil (then_n ?_))))))))
 refine wp_cond_true (hs.ev rfl) (wp_seq ?_)
 replace hs := hs.nf w0 Z noX [1, 2, 3, 6] rfl rfl rfl rfl
 refine wp_region_lit (stp (op_callV (F := 9) (ρ := Unit) hs none none (v := fun r => .bool true) (E := fun r => []) (j := 0) rfl rfl rfl rfl (call9 _) (fun hs => alive_c _ _) (fun _ => rfl) (fun _ => rfl) rfl rfl fun _ ac w hs => asg hs rfl rfl rfl fun ac hs => wpList_nil (then_n (wp_ret (then_r ?_)))))
 exact bodyPost_ret (res1 rfl (rv_t hs rfl)) hs.defers ⟨(), rfl, hs.bel rfl, okl0⟩
end Go.Proofs.Ytikkhkjndbicgaa

/- Arguments opened, and read again behind a call that writes nothing that was there: lemmas of whatever program. -/
namespace Go.Proofs.Ytikkhkjndbicgaa
open Go.ChangeShapes Go.WideShapes Go.ChangeAt Go.RowKit
section
variable {H : Type} {enc : TypeId × Value → H} {P : Program}
theorem trodAll_below (hl : laidOutB P = true) {W W' : World} (hb : Below W.heap.size W W') : ∀ (ts : List TypeId) (vs : List Value) (ds : List (DataW H)) (ps : List MemPlace),
    ts.all (fun t => P.readableRec t && decide (t < P.types.size)) = true → DataW.TrodAll enc P W 0 (fun _ => true) true ts vs ds ps → DataW.TrodAll enc P W' 0 (fun b => decide (b < W.heap.size)) true ts vs ds ps := by
  intro ts
  induction ts with
  | nil =>
    intro vs ds ps _ h
    obtain ⟨rfl, rfl, rfl⟩ := trodAll_nil h
    exact trodAll_mk0
  | cons t ts ih =>
    intro vs ds ps hts h
    obtain ⟨v, vs0, d, ds0, p, q, rfl, rfl, rfl, h0, r0⟩ := trodAll_cons h
    simp only [List.all_cons, Bool.and_eq_true, decide_eq_true_eq] at hts
    obtain ⟨⟨hr, ht⟩, hts⟩ := hts
    have lt0 : ∀ x ∈ p, x.block < W.heap.size := by obtain ⟨m, hm⟩ := h0; exact DataW.trod_lt m _ _ _ hm
    exact trodAll_cons_mk (Below.trod hl hr ht h0 hb lt0) (ih _ _ _ hts r0)
end
def RdN (w : World) (a : Option Addr) (l : List UInt8) : Prop :=
  l.length ≠ 0 → ∃ b off, a = some ⟨b, off, none⟩ ∧ ∀ k, k < l.length → w.cell? ⟨b, off + k, none⟩ = some (.int .u8 ((l.getD k 0).toNat : Int))
end Go.Proofs.Ytikkhkjndbicgaa

/- Arguments that lie in memory, opened as entries: byte strings, rows. -/
namespace Go.Proofs.Ytikkhkjndbicgaa
open Go.ChangeShapes Go.WideShapes Go.ChangeAt Go.RowKit
section
variable {H : Type} {enc : TypeId × Value → H} {P : Program} {w : World} {base : Nat} {sp : Nat → Bool} {held : Bool}
theorem trod_bytes {t e : TypeId} {m : Nat} {cs : List Value} {x : DataW H × List MemPlace} (ht : P.underlying t = some (.slice e)) (he : P.underlying e = some (.int .u8)) (hc : P.cellsOf e = 1)
    (h : DataW.trod enc P w base sp held m t cs = some x) : ∃ a c l, cs = [.slice a l.length c] ∧ ByV w (fun _ => True) (.slice a l.length c) l := by
  rcases open_ints ht he hc h with ⟨rfl, _⟩ | ⟨x, len, c, zs, rfl, _, hl, hm, hz, _, hcell, hwz⟩
  · exact ⟨none, 0, [], rfl, celv_nil⟩
  · have hzl : len ≤ zs.length := by rw [hz]; split <;> omega
    have hlen : ((zs.take len).map fun z => UInt8.ofNat z.toNat).length = len := by simp; omega
    refine ⟨some x, c, (zs.take len).map fun z => UInt8.ofNat z.toNat, by rw [hlen], ⟨some x, c, by rw [hlen], by rw [hlen]; exact hl, hm, (fun h => by cases h), fun j u hu => ?_⟩⟩
    have hj : j < len := by
      have := (List.getElem?_eq_some_iff.1 hu).1
      rw [bcs_length, hlen] at this; exact this
    obtain ⟨b, off, rfl, hcc⟩ := ints_at hcell (by omega)
    refine ⟨b, off, rfl, trivial, ?_⟩
    have hjz : j < zs.length := by omega
    rw [hcc j hjz]
    have hb := bounds_u8 (hwz _ (List.getElem_mem hjz))
    rw [bcs_get (by rw [hlen]; exact hj)] at hu
    have e1 : ((byt ((zs.take len).map fun z => UInt8.ofNat z.toNat) j : Nat) : Int) = zs[j] := by
      unfold byt
      rw [List.getD_eq_getElem?_getD, List.getElem?_map, List.getElem?_take_of_lt hj, List.getElem?_eq_getElem hjz]
      simp
      omega
    rw [e1] at hu
    rw [← hu]
    simp [List.getD, hjz]
theorem open_by {t e : TypeId} {v : Value} {d : DataW H} {p : List MemPlace} (ht : P.underlying t = some (.slice e)) (he : P.underlying e = some (.int .u8)) (hc : P.cellsOf e = 1)
    (hv : Value.okWide P w .any 0 t v) (h : DataW.Trod enc P w base sp held t v d p) : ∃ a c l, v = .slice a l.length c ∧ ByV w (fun _ => True) (.slice a l.length c) l := by
  obtain ⟨a, len, cap, rfl⟩ := okWide_slice ht hv
  obtain ⟨fuel, hf⟩ := h
  obtain ⟨a', c, l, h1, h2⟩ := trod_bytes ht he hc hf
  simp [Value.cells] at h1
  obtain ⟨rfl, rfl, rfl⟩ := h1
  exact ⟨_, _, _, rfl, h2⟩
theorem choose_list {α : Type} (n : Nat) (R : Nat → α → Prop) (h : ∀ i, i < n → ∃ x, R i x) : ∃ l : List α, l.length = n ∧ ∀ i x, l[i]? = some x → R i x := by
  induction n with
  | zero => exact ⟨[], rfl, fun i x hx => by simp at hx⟩
  | succ n ih =>
    obtain ⟨l, hl, hr⟩ := ih fun i hi => h i (by omega)
    obtain ⟨x, hx⟩ := h n (by omega)
    refine ⟨l ++ [x], by simp [hl], fun i y hy => ?_⟩
    by_cases hi : i < n
    · rw [List.getElem?_append_left (by omega)] at hy; exact hr i y hy
    · have := (List.getElem?_eq_some_iff.1 hy).1
      simp at this
      obtain rfl : i = n := by omega
      rw [List.getElem?_append_right (by omega), hl] at hy
      simp at hy
      subst hy; exact hx
theorem cell_spot {a : Addr} {v : Value} (h : w.cell? a = some v) : ∃ b off, a = ⟨b, off, none⟩ := by
  obtain ⟨b, off, spot⟩ := a
  have hspot : spot = none := World.cell?_spot h
  subst hspot
  exact ⟨b, off, rfl⟩
theorem trod_row {t e : TypeId} {m z : Nat} {cs : List Value} {x : DataW H × List MemPlace} (ht : P.underlying t = some (.slice e)) (hz : P.cellsOf e = z)
    (h : DataW.trod enc P w base sp held m t cs = some x) : ∃ a len c, cs = [.slice a len c] ∧ len ≤ c ∧ c ≤ maxLen ∧ (a = none → c = 0) ∧
      ∀ i, i < len → ∃ ad n ys y, a = some ad ∧ ys.length = z ∧ (∀ j, j < z → w.cell? (ad.add (i * z + j)) = ys[j]?) ∧ DataW.trod enc P w base sp held n e ys = some y := by
  rcases DataW.trod_slice ht h with ⟨rfl, _⟩ | ⟨a, len, cap, elems, rest, n, _, rfl, _, hb, hl, hm, hlen, hel, _, _⟩
  · exact ⟨none, 0, 0, rfl, Nat.le_refl _, Nat.zero_le _, fun _ => rfl, fun i hi => absurd hi (by omega)⟩
  · refine ⟨some a, len, cap, rfl, hl, hm, (fun h => by cases h), fun i hi => ?_⟩
    have h1 := hel i hi
    rw [List.getElem?_eq_getElem (by omega), hz, Option.bind_eq_some_iff] at h1
    obtain ⟨ys, hys, hy⟩ := h1
    obtain ⟨_, h2, h3⟩ := World.cells?_some hys
    refine ⟨a, n, ys, _, rfl, h2, fun j hj => ?_, hy⟩
    rw [← h3 j hj, Addr.add_add]
end
end Go.Proofs.Ytikkhkjndbicgaa

/- Arguments that are stacks, opened. -/
namespace Go.Proofs.Ytikkhkjndbicgaa
open Go.ChangeShapes Go.WideShapes Go.ChangeAt Go.RowKit
section
variable {H : Type} {enc : TypeId × Value → H} {w : World} {base : Nat} {sp : Nat → Bool} {held : Bool}
theorem trod_bys {m : Nat} {cs : List Value} {x : DataW H × List MemPlace} (h : DataW.trod enc Try.prog w base sp held m 22 cs = some x) :
    ∃ (a : Option Addr) (c : Nat) (vs : List Value) (ks : List (List UInt8)), cs = [.slice a ks.length c] ∧ CelV w (fun _ => True) (.slice a ks.length c) ks.length vs ∧ BysV w (fun _ => True) vs ks := by
  obtain ⟨a, len, c, h1, hl, hm, hn, hr⟩ := trod_row (z := 1) Try.underlying22 (by kernel_rfl) h
  have hr2 : ∀ i, i < len → ∃ x : Value × List UInt8, ByV w (fun _ => True) x.1 x.2 ∧ ∃ ad, a = some ad ∧ w.cell? (ad.add i) = some x.1 := by
    intro i hi
    obtain ⟨ad, n, ys, y, ha, hy, hc, ht⟩ := hr i hi
    obtain ⟨b, cc, l, rfl, h3⟩ := trod_bytes Try.underlying34 Try.underlying5 (by kernel_rfl) ht
    have h4 := hc 0 (by omega)
    rw [Nat.mul_one, Nat.add_zero] at h4
    exact ⟨(.slice b l.length cc, l), h3, ad, ha, h4⟩
  obtain ⟨ts, hlen, hts⟩ := choose_list len _ hr2
  refine ⟨a, c, ts.map (·.1), ts.map (·.2), by simp [hlen, h1], ⟨a, c, rfl, by simpa [hlen] using hl, hm, hn, fun j u hu => ?_⟩, ⟨by simp, fun i v l hv hl2 => ?_⟩⟩
  · rw [List.getElem?_map, Option.map_eq_some_iff] at hu
    obtain ⟨x, hx, rfl⟩ := hu
    obtain ⟨_, ad, rfl, h2⟩ := hts j x hx
    have hlen0 : 0 < ts.length := by have := (List.getElem?_eq_some_iff.1 hx).1; omega
    obtain ⟨_, ad', e, h4⟩ := hts 0 _ (List.getElem?_eq_getElem hlen0)
    obtain rfl := Option.some.inj e
    have h5 : w.cell? ad = some ts[0].1 := by simpa [Addr.add] using h4
    obtain ⟨b, off, rfl⟩ := cell_spot h5
    rw [Addr.add_mid] at h2
    exact ⟨b, off, rfl, trivial, h2⟩
  · rw [List.getElem?_map, Option.map_eq_some_iff] at hv
    obtain ⟨x, hx, rfl⟩ := hv
    rw [List.getElem?_map, hx] at hl2
    obtain rfl : x.2 = l := by simpa using hl2
    exact (hts i x hx).1
theorem trod_stk {m : Nat} {cs : List Value} {x : DataW H × List MemPlace} (h : DataW.trod enc Try.prog w base sp held m 24 cs = some x) :
    ∃ (a : Option Addr) (c : Nat) (vs : List Value) (ks : List (List UInt8)) (b : Option Addr) (d : Nat) (us : List Value) (js : List (List UInt8)), cs = [.slice a ks.length c, .slice b js.length d] ∧ CelV w (fun _ => True) (.slice a ks.length c) ks.length vs ∧ BysV w (fun _ => True) vs ks ∧ CelV w (fun _ => True) (.slice b js.length d) js.length us ∧ BysV w (fun _ => True) us js := by
  cases m with
  | zero => simp [DataW.trod] at h
  | succ m =>
    rw [DataW.trod_step] at h
    unfold DataW.trodStep at h
    have c0 : Try.prog.cellsOf 24 = 2 := by kernel_rfl
    have c1 : Try.prog.cellsOf 22 = 1 := by kernel_rfl
    simp only [Try.underlying24, c0] at h
    split at h
    · rename_i hl
      simp only [Option.map_eq_some_iff, List.mapM_cons, List.mapM_nil, bind, Option.bind_eq_some_iff, pure, Option.some.injEq] at h
      obtain ⟨ys, ⟨y0, h0, ys1, ⟨y1, h1, _⟩, _⟩, _⟩ := h
      rw [c1] at h0 h1
      obtain ⟨a, c, vs, ks, hq, hv, hy⟩ := trod_bys h0
      obtain ⟨b, d, us, js, hr, hu, hx⟩ := trod_bys h1
      refine ⟨a, c, vs, ks, b, d, us, js, ?_, hv, hy, hu, hx⟩
      match cs, hl with
      | [u, v], _ =>
        simp at hq hr
        rw [hq, hr]
    · cases h
set_option maxRecDepth 100000 in
theorem open_stacks {v : Value} {d : DataW H} {ps : List MemPlace} (hval : Value.okWide Try.prog w .any 0 24 v) (hd : DataW.Trod enc Try.prog w base sp held 24 v d ps) :
    ∃ (a : Option Addr) (c : Nat) (vs : List Value) (b : Option Addr) (d : Nat) (us : List Value) (ks js : List (List UInt8)), v = .agg #[.slice a ks.length c, .slice b js.length d] ∧ CelV w (fun _ => True) (.slice a ks.length c) ks.length vs ∧ BysV w (fun _ => True) vs ks ∧ CelV w (fun _ => True) (.slice b js.length d) js.length us ∧ BysV w (fun _ => True) us js := by
  have hu : ∃ fs, Try.prog.underlying 24 = some (.struct fs) := ⟨_, Try.underlying24⟩
  obtain ⟨fs, hu⟩ := hu
  obtain ⟨xs, rfl, _⟩ := okWide_struct hu hval
  obtain ⟨fuel, hf⟩ := hd
  obtain ⟨a, c, vs, ks, b, d, us, js, h1, h2⟩ := trod_stk hf
  exact ⟨a, c, vs, b, d, us, ks, js, congrArg Value.agg (Array.toList_inj.1 h1), h2⟩
end
end Go.Proofs.Ytikkhkjndbicgaa
