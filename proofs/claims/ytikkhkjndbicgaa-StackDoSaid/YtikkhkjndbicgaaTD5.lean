/- Several texts in one, what this law needs of them: StkR, StkS, StkRD. -/
import Derived.Test.YtikkhkjndbicgaaTD4

/- Stacks: the document's functions. -/
namespace Go.Proofs.Ytikkhkjndbicgaa
open Go.RowKit _root_.Go.Proofs.Try
set_option maxRecDepth 10000
set_option maxHeartbeats 1000000
theorem rcheck_c (am : Option Addr) (cm : Nat) (vs : List Value) (aa : Option Addr) (ca : Nat) (us : List Value) (ks js : BL) (rr : Nat) (h1 : ks.length ≤ 1000000) (h2 : js.length ≤ 1000000) (hr : chkL ks js = rr) (w0 : World) (Z : Nat → Prop) (hV : CelV w0 Z (.slice am ks.length cm) ks.length vs) (hY : BysV w0 Z vs ks) (hU : CelV w0 Z (.slice aa js.length ca) js.length us) (hX : BysV w0 Z us js): Calls prog 25 #[.agg #[.slice am ks.length cm, .slice aa js.length ca]] w0 fun e w' => Ret w0 Z (ρ := Unit) (fun r => ni64 rr) (fun r => []) e w' := by
 refine enterS (n := 41) (args := [.agg #[.slice am ks.length cm, .slice aa js.length ca]]) (S := [(true, cL am ks.length cm vs), (true, .bys vs ks), (true, cL aa js.length ca us), (true, .bys us js)]) (Z := Z) func25 rfl rfl (Nat.le_of_ble_eq_true rfl) (sokC hV (sokC hY (sokC hU (sokC hX sok0)))) rfl fun ac hs => wp_seq (wp_region_lit (stp (op_box hs none none (cs := [.slice am ks.length cm, .slice aa js.length ca]) rfl rfl rfl rfl rfl rfl fun g1 ac w hs => asg hs rfl rfl rfl fun ac hs => wpList_nil (then_n (wp_seq (wp_seq (wp_region_lit (asg hs rfl rfl rfl fun ac hs => wpList_nil (then_n (wp_block (wp_loop_m (fun μ ac w => ∃ (j : Nat), (ks.length - j) = μ ∧ (j ≤ ks.length) ∧ (longB (ks.take j) = false) ∧ St 41 ⟨w0, [], [(true, cL am ks.length cm vs), (true, .bys vs ks), (true, cL aa js.length ca us), (true, .bys us js)], Z, noX⟩ [(1, true, ptA g1 0), (2, true, .int .i64 0), (3, true, ni64 j)] [(true, g1, 24, [.slice am ks.length cm, .slice aa js.length ca])] ac w) ?_ ?_)))))))))))
 ·exact ⟨_, 0, rfl, (by omega), rfl, (hs.re (fs' := [(1, true, ptA g1 0), (2, true, .int .i64 0), (3, true, ni64 0)]) ⟨rfl, rfl, rfl, trivial⟩)⟩
 intro μ ac w ⟨j, hμ, hj, hjl, hs⟩
 refine wp_seq (wp_seq (wp_region_lit (mvv hs rfl rfl rfl fun ac hs => stp (op_fieldA hs none rfl rfl rfl underlying24 rfl sizeOf22 (by decide) rfl fun ac hs => ldd hs 0 (.slice am ks.length cm) isAgg22 sizeOf22 rfl rfl rfl rfl rfl fun ac hs => stp (op_blt hs none (v := ni64 (ks.length)) rfl rfl rfl (blt_len underlying22) rfl fun ac hs => bnn hs (.bool (decide (j < ks.length))) rfl rfl rfl rfl bin_lssN fun ac hs => wpList_nil (then_n (wcs hs rfl ?_ ?_)))))))
 ·intro hc
  have hp2 := of_decide_eq_true hc
  have hlt := of_decide_eq_true hc
  obtain ⟨li, hli⟩ : ∃ z, ks[j]? = some z := ⟨_, List.getElem?_eq_getElem hlt⟩
  obtain ⟨al, cl, hvl⟩ := bysv_at (hs.all (k := 1) rfl rfl) hli
  refine wp_skip (then_n (wp_seq (wp_block (wp_seq (wp_region_lit (stp (op_fieldA hs none rfl rfl rfl underlying24 rfl sizeOf22 (by decide) rfl fun ac hs => ldd hs 0 (.slice am ks.length cm) isAgg22 sizeOf22 rfl rfl rfl rfl rfl fun ac hs => mvv hs rfl rfl rfl fun ac hs => stp (op_idxC hs none 0 (j := j) rfl rfl rfl rfl rfl underlying22 sizeOf34 (show j < ks.length by omega) (off := j) (by omega) rfl fun ac hs => stp (op_loadC hs none 0 (u := .slice al li.length cl) rfl rfl rfl rfl isAgg34 sizeOf34 (by decide) hvl rfl fun ac hs => stp (op_blt hs none (v := ni64 (li.length)) rfl rfl rfl (blt_len underlying34) rfl fun ac hs => bnn hs (.bool (decide (520 < li.length))) rfl rfl rfl rfl (bin_gtrN (y := 520)) fun ac hs => wpList_nil (then_n (wcs hs rfl ?_ ?_))))))))))))
  ·intro hc
   have hp3 := of_decide_eq_true hc
   refine wp_seq ?_
   replace hs := hs.nf w0 Z noX [1, 2, 3] rfl rfl rfl rfl
   refine wp_region_lit (asg hs rfl rfl rfl fun ac hs => wpList_nil (then_n (wp_ret (blk_r (then_r (then_r (blk_r (then_r ?_))))))))
   exact bodyPost_ret (res1 rfl (rv_t hs rfl)) hs.defers ⟨(), by rw [← hr, chkL, if_pos (Or.inl (longB_yes hli hp3))]; rfl, hs.bel rfl, okl0⟩
  intro hc
  have hp4 := of_decide_eq_false hc
  refine wp_skip (blk_n (then_n ?_))
  replace hs := hs.nf w0 Z noX [1, 2, 3] rfl rfl rfl rfl
  refine wp_region_lit (mvv hs rfl rfl rfl fun ac hs => bnn hs (ni64 (j + 1)) rfl rfl rfl rfl (bin_addN (y := 1) rfl (show j + 1 < 9223372036854775808 by omega)) fun ac hs => asg hs rfl rfl rfl fun ac hs => wpList_nil (then_n ?_))
  exact ⟨_, ⟨(j + 1), rfl, (by omega), (longB_go hli hp4 hjl), (hs.re (fs' := [(1, true, ptA g1 0), (2, true, .int .i64 0), (3, true, ni64 ((j + 1)))]) ⟨rfl, rfl, rfl, trivial⟩)⟩, (by omega)⟩
 intro hc
 have hp5 := of_decide_eq_false hc
 have hbj : longB ks = false := longB_end (of_decide_eq_false hc) hjl
 refine wp_exit (then_e (then_e (blk_e (then_n (wp_seq (wp_seq (wp_region_lit (asg hs rfl rfl rfl fun ac hs => wpList_nil (then_n (wp_block (wp_loop_m (fun μ ac w => ∃ (k : Nat), (js.length - k) = μ ∧ (k ≤ js.length) ∧ (longB (js.take k) = false) ∧ St 41 ⟨w0, [], [(true, cL am ks.length cm vs), (true, .bys vs ks), (true, cL aa js.length ca us), (true, .bys us js)], Z, noX⟩ [(1, true, ptA g1 0), (2, true, .int .i64 0), (4, true, ni64 k)] [(true, g1, 24, [.slice am ks.length cm, .slice aa js.length ca])] ac w) ?_ ?_)))))))))))
 ·exact ⟨_, 0, rfl, (by omega), rfl, (hs.re (fs' := [(1, true, ptA g1 0), (2, true, .int .i64 0), (4, true, ni64 0)]) ⟨rfl, rfl, rfl, trivial⟩)⟩
 intro μ ac w ⟨k, hμ, hk, hkl, hs⟩
 refine wp_seq (wp_seq (wp_region_lit (mvv hs rfl rfl rfl fun ac hs => stp (op_fieldA hs none rfl rfl rfl underlying24 rfl sizeOf22 (by decide) rfl fun ac hs => ldd hs 0 (.slice aa js.length ca) isAgg22 sizeOf22 rfl rfl rfl rfl rfl fun ac hs => stp (op_blt hs none (v := ni64 (js.length)) rfl rfl rfl (blt_len underlying22) rfl fun ac hs => bnn hs (.bool (decide (k < js.length))) rfl rfl rfl rfl bin_lssN fun ac hs => wpList_nil (then_n (wcs hs rfl ?_ ?_)))))))
 ·intro hc
  have hp6 := of_decide_eq_true hc
  have hlt := of_decide_eq_true hc
  obtain ⟨li, hli⟩ : ∃ z, js[k]? = some z := ⟨_, List.getElem?_eq_getElem hlt⟩
  obtain ⟨al, cl, hvl⟩ := bysv_at (hs.all (k := 3) rfl rfl) hli
  refine wp_skip (then_n (wp_seq (wp_block (wp_seq (wp_region_lit (stp (op_fieldA hs none rfl rfl rfl underlying24 rfl sizeOf22 (by decide) rfl fun ac hs => ldd hs 0 (.slice aa js.length ca) isAgg22 sizeOf22 rfl rfl rfl rfl rfl fun ac hs => mvv hs rfl rfl rfl fun ac hs => stp (op_idxC hs none 2 (j := k) rfl rfl rfl rfl rfl underlying22 sizeOf34 (show k < js.length by omega) (off := k) (by omega) rfl fun ac hs => stp (op_loadC hs none 2 (u := .slice al li.length cl) rfl rfl rfl rfl isAgg34 sizeOf34 (by decide) hvl rfl fun ac hs => stp (op_blt hs none (v := ni64 (li.length)) rfl rfl rfl (blt_len underlying34) rfl fun ac hs => bnn hs (.bool (decide (520 < li.length))) rfl rfl rfl rfl (bin_gtrN (y := 520)) fun ac hs => wpList_nil (then_n (wcs hs rfl ?_ ?_))))))))))))
  ·intro hc
   have hp7 := of_decide_eq_true hc
   refine wp_seq ?_
   replace hs := hs.nf w0 Z noX [1, 2, 4] rfl rfl rfl rfl
   refine wp_region_lit (asg hs rfl rfl rfl fun ac hs => wpList_nil (then_n (wp_ret (blk_r (then_r (then_r (blk_r (then_r ?_))))))))
   exact bodyPost_ret (res1 rfl (rv_t hs rfl)) hs.defers ⟨(), by rw [← hr, chkL, if_pos (Or.inr (longB_yes hli hp7))]; rfl, hs.bel rfl, okl0⟩
  intro hc
  have hp8 := of_decide_eq_false hc
  refine wp_skip (blk_n (then_n ?_))
  replace hs := hs.nf w0 Z noX [1, 2, 4] rfl rfl rfl rfl
  refine wp_region_lit (mvv hs rfl rfl rfl fun ac hs => bnn hs (ni64 (k + 1)) rfl rfl rfl rfl (bin_addN (y := 1) rfl (show k + 1 < 9223372036854775808 by omega)) fun ac hs => asg hs rfl rfl rfl fun ac hs => wpList_nil (then_n ?_))
  exact ⟨_, ⟨(k + 1), rfl, (by omega), (longB_go hli hp8 hkl), (hs.re (fs' := [(1, true, ptA g1 0), (2, true, .int .i64 0), (4, true, ni64 ((k + 1)))]) ⟨rfl, rfl, rfl, trivial⟩)⟩, (by omega)⟩
 intro hc
 have hp9 := of_decide_eq_false hc
 have hbk : longB js = false := longB_end (of_decide_eq_false hc) hkl
 refine wp_exit (then_e (then_e (blk_e (then_n (wp_seq (wp_seq (wp_region_lit (stp (op_fieldA hs none rfl rfl rfl underlying24 rfl sizeOf22 (by decide) rfl fun ac hs => ldd hs 0 (.slice am ks.length cm) isAgg22 sizeOf22 rfl rfl rfl rfl rfl fun ac hs => stp (op_blt hs none (v := ni64 (ks.length)) rfl rfl rfl (blt_len underlying22) rfl fun ac hs => stp (op_fieldA hs none rfl rfl rfl underlying24 rfl sizeOf22 (by decide) rfl fun ac hs => ldd hs 0 (.slice aa js.length ca) isAgg22 sizeOf22 rfl rfl rfl rfl rfl fun ac hs => stp (op_blt hs none (v := ni64 (js.length)) rfl rfl rfl (blt_len underlying22) rfl fun ac hs => bnn hs (ni64 (ks.length + js.length)) rfl rfl rfl rfl (bin_addN rfl (show ks.length + js.length < 9223372036854775808 by omega)) fun ac hs => bnn hs (.bool (decide (100 < ks.length + js.length))) rfl rfl rfl rfl (bin_gtrN (y := 100)) fun ac hs => wpList_nil (then_n ?_)))))))))))))
 refine wcs hs rfl ?_ ?_
 ·intro hc
  have hp10 := of_decide_eq_true hc
  refine wp_seq ?_
  replace hs := hs.nf w0 Z noX [2] rfl rfl rfl rfl
  refine wp_region_lit (asg hs rfl rfl rfl fun ac hs => wpList_nil (then_n (wp_ret (then_r ?_))))
  exact bodyPost_ret (res1 rfl (rv_t hs rfl)) hs.defers ⟨(), by rw [← hr, chkL, if_neg (by simp [hbj, hbk]), if_pos hp10]; rfl, hs.bel rfl, okl0⟩
 intro hc
 have hp11 := of_decide_eq_false hc
 refine wp_skip (then_n (wp_seq ?_))
 replace hs := hs.nf w0 Z noX [2] rfl rfl rfl rfl
 refine wp_region_lit (asg hs rfl rfl rfl fun ac hs => wpList_nil (then_n (wp_ret ?_)))
 exact bodyPost_ret (res1 rfl (rv_t hs rfl)) hs.defers ⟨(), by rw [← hr, chkL, if_neg (by simp [hbj, hbk]), if_neg hp11]; rfl, hs.bel rfl, okl0⟩
theorem with_c (a1 : Option Addr) (c1 : Nat) (v1 : List Value) (k1 : BL) (a2 : Option Addr) (c2 : Nat) (v2 : List Value) (k2 : BL) (hl : k1.length + k2.length ≤ 1000000) (w0 : World) (Z : Nat → Prop) (hV1 : CelV w0 Z (.slice a1 k1.length c1) k1.length v1) (hY1 : BysV w0 Z v1 k1) (hV2 : CelV w0 Z (.slice a2 k2.length c2) k2.length v2) (hY2 : BysV w0 Z v2 k2): Calls prog 36 #[.slice a1 k1.length c1, .slice a2 k2.length c2] w0 fun e w' => Ret w0 Z (ρ := Option Addr × Nat) (fun r => .slice r.1 (k1 ++ k2).length r.2) (fun r => [oW r.1 (k1 ++ k2).length r.2 34 (v1 ++ v2)]) e w' := by
 refine enterS (n := 12) (args := [.slice a1 k1.length c1, .slice a2 k2.length c2]) (S := [(true, cL a1 k1.length c1 v1), (true, .bys v1 k1), (true, cL a2 k2.length c2 v2), (true, .bys v2 k2)]) (Z := Z) func36 rfl rfl (Nat.le_of_ble_eq_true rfl) (sokC hV1 (sokC hY1 (sokC hV2 (sokC hY2 sok0)))) rfl fun ac hs => wp_seq (wp_region_lit (asg hs rfl rfl rfl fun ac hs => wpList_nil (then_n (wp_seq (wp_region_lit (stp (op_bsO0 hs none none (size := 1) rfl rfl underlying22 inf_slice_34 rfl rfl fun ad2 ac w hs => mvv hs rfl rfl rfl fun ac hs => stp (op_appR hs none 4 0 (N' := k1.length) (ys := v1) rfl rfl rfl rfl rfl rfl underlying22 inf_slice_34 rfl (by decide) ((hs.all (k := 1) rfl rfl).1.trans (Nat.mul_one _).symm) (bysv_oneC (hs.all (k := 1) rfl rfl)) (by decide) (show 0 + k1.length ≤ 1000000 by omega) (Nat.zero_add _) rfl rfl rfl fun ad3 cp4 ac w hs => asg hs rfl rfl rfl fun ac hs => wpList_nil (then_n (wp_seq (wp_region_lit (mvv hs rfl rfl rfl fun ac hs => ?_))))))))))))
 refine mvv hs rfl rfl rfl fun ac hs => stp (op_appR hs none 4 2 (N' := (k1 ++ k2).length) (ys := v1 ++ v2) rfl rfl rfl rfl rfl rfl underlying22 inf_slice_34 rfl (by decide) ((hs.all (k := 3) rfl rfl).1.trans (Nat.mul_one _).symm) (bysv_oneC (hs.all (k := 3) rfl rfl)) (by decide) (show k1.length + k2.length ≤ 1000000 by omega) (by simp) rfl rfl rfl fun ad5 cp6 ac w hs => asg hs rfl rfl rfl fun ac hs => wpList_nil (then_n (wp_ret ?_)))
 exact bodyPost_ret (res1 rfl (rv_t hs rfl)) hs.defers ⟨⟨ad5, cp6⟩, rfl, hs.bel rfl, hs.ret1 4 rfl⟩
theorem checkedT_c (am : Option Addr) (cm : Nat) (vs : List Value) (aa : Option Addr) (ca : Nat) (us : List Value) (ks js : BL) (ok : OkN 8000 ks) (oj : OkN 8000 js) (hr : chkL ks js = 0) (w0 : World) (Z : Nat → Prop) (hV : CelV w0 Z (.slice am ks.length cm) ks.length vs) (hY : BysV w0 Z vs ks) (hU : CelV w0 Z (.slice aa js.length ca) js.length us) (hX : BysV w0 Z us js): Calls prog 35 #[.slice am ks.length cm, .slice aa js.length ca] w0 fun e w' => Ret w0 Z (ρ := Unit) (fun r => .tuple #[.agg #[.slice am ks.length cm, .slice aa js.length ca], ni64 0]) (fun r => []) e w' := by
 have hk8 : ks.length ≤ 8000 := ok.1
 have hj8 : js.length ≤ 8000 := oj.1
 refine enterS (n := 18) (args := [.slice am ks.length cm, .slice aa js.length ca]) (S := [(true, cL am ks.length cm vs), (true, .bys vs ks), (true, cL aa js.length ca us), (true, .bys us js)]) (Z := Z) func35 rfl rfl (Nat.le_of_ble_eq_true rfl) (sokC hV (sokC hY (sokC hU (sokC hX sok0)))) rfl fun ac hs => wp_seq (wp_region_lit (stp (op_alloc hs none none (cs := [.slice none 0 0, .slice none 0 0]) rfl rfl zeroValue24 (by kernel_rfl) rfl rfl fun g1 ac w hs => asg hs rfl rfl rfl fun ac hs => wpList_nil (then_n (wp_seq (wp_region_lit (mvv hs rfl rfl rfl fun ac hs => mvv hs rfl rfl rfl fun ac hs => stp (op_build hs none (qs := [(0, .slice am ks.length cm), (1, .slice aa js.length ca)]) (v := .agg #[.slice am ks.length cm, .slice aa js.length ca]) rfl rfl rfl rfl (fun _ => by kernel_rfl) rfl fun ac hs => stp (op_alloc hs none none (cs := [.slice none 0 0, .slice none 0 0]) rfl rfl zeroValue24 (by kernel_rfl) rfl rfl fun g2 ac w hs => stp (stoo hs 1 ([.slice am ks.length cm, .slice aa js.length ca]) sizeOf24 rfl rfl rfl rfl rfl rfl rfl rfl rfl rfl fun w hs => ?_))))))))))
 refine wpList_nil (then_n (wp_seq ?_))
 replace hs := hs.nf w0 Z noX [4, 5, 6] rfl rfl rfl rfl
 refine wp_region_lit (ldd hs 1 (.agg #[.slice am ks.length cm, .slice aa js.length ca]) isAgg24 sizeOf24 rfl rfl rfl rfl rfl fun ac hs => ?_)
 obtain ⟨r3, hr3⟩ := ex1 (chkL ks js)
 refine stp (op_callV (F := 25) (ρ := Unit) hs none none (v := fun r => ni64 r3) (E := fun r => []) (j := 0) rfl rfl rfl rfl (call25 _) (fun hs => rcheck_c am cm vs aa ca us ks js r3 (Nat.le_trans (show OkN 8000 ks from ok).1 (by decide)) (Nat.le_trans (show OkN 8000 js from oj).1 (by decide)) hr3 _ _ (hs.celT (k := 0) rfl) (hs.rowB (k := 1) (G := noX) (.inr rfl)) (hs.celT (k := 2) rfl) (hs.rowB (k := 3) (G := noX) (.inr rfl))) (fun _ => rfl) (fun _ => rfl) rfl rfl fun _ ac w hs => asg hs rfl rfl rfl fun ac hs => wpList_nil (then_n (wp_seq (wp_seq (wp_region_lit (mvv hs rfl rfl rfl fun ac hs => bnn hs (.bool (decide (r3 ≠ 0))) rfl rfl rfl rfl (bin_neqN (y := 0)) fun ac hs => wpList_nil (then_n (wcs hs rfl ?_ ?_))))))))
 ·intro hc
  have hp4 := of_decide_eq_true hc
  refine wp_seq (wp_region_lit (stp (op_build hs none (qs := []) (v := .agg #[.slice none 0 0, .slice none 0 0]) rfl rfl rfl rfl (fun _ => by kernel_rfl) rfl fun ac hs => mvv hs rfl rfl rfl fun ac hs => stp (stoo hs 0 ([.slice none 0 0, .slice none 0 0]) sizeOf24 rfl rfl rfl rfl rfl rfl rfl rfl rfl rfl fun w hs => asg hs rfl rfl rfl fun ac hs => wpList_nil (then_n (wp_ret (then_r ?_)))))))
  exact absurd (hr3.symm.trans hr) hp4
 intro hc
 have hp5 := of_decide_eq_false hc
 refine wp_skip (then_n (wp_seq (wp_region_lit (ldd hs 1 (.agg #[.slice am ks.length cm, .slice aa js.length ca]) isAgg24 sizeOf24 rfl rfl rfl rfl rfl fun ac hs => stp (stoo hs 0 ([.slice am ks.length cm, .slice aa js.length ca]) sizeOf24 rfl rfl rfl rfl rfl rfl rfl rfl rfl rfl fun w hs => asg hs rfl rfl rfl fun ac hs => wpList_nil (then_n (wp_ret ?_)))))))
 exact bodyPost_ret (res2 rfl (rv_c hs 0 (v := .agg #[.slice am ks.length cm, .slice aa js.length ca]) rfl rfl isAgg24 sizeOf24 rfl) (rv_t hs rfl)) hs.defers ⟨(), rfl, hs.bel rfl, okl0⟩
theorem checkedF_c (am : Option Addr) (cm : Nat) (vs : List Value) (aa : Option Addr) (ca : Nat) (us : List Value) (ks js : BL) (e1 : Nat) (he : e1 ≠ 0) (ok : OkN 8000 ks) (oj : OkN 8000 js) (hr : chkL ks js = e1) (w0 : World) (Z : Nat → Prop) (hV : CelV w0 Z (.slice am ks.length cm) ks.length vs) (hY : BysV w0 Z vs ks) (hU : CelV w0 Z (.slice aa js.length ca) js.length us) (hX : BysV w0 Z us js): Calls prog 35 #[.slice am ks.length cm, .slice aa js.length ca] w0 fun e w' => Ret w0 Z (ρ := Unit) (fun r => .tuple #[.agg #[.slice none 0 0, .slice none 0 0], ni64 e1]) (fun r => []) e w' := by
 have hk8 : ks.length ≤ 8000 := ok.1
 have hj8 : js.length ≤ 8000 := oj.1
 refine enterS (n := 18) (args := [.slice am ks.length cm, .slice aa js.length ca]) (S := [(true, cL am ks.length cm vs), (true, .bys vs ks), (true, cL aa js.length ca us), (true, .bys us js)]) (Z := Z) func35 rfl rfl (Nat.le_of_ble_eq_true rfl) (sokC hV (sokC hY (sokC hU (sokC hX sok0)))) rfl fun ac hs => wp_seq (wp_region_lit (stp (op_alloc hs none none (cs := [.slice none 0 0, .slice none 0 0]) rfl rfl zeroValue24 (by kernel_rfl) rfl rfl fun g1 ac w hs => asg hs rfl rfl rfl fun ac hs => wpList_nil (then_n (wp_seq (wp_region_lit (mvv hs rfl rfl rfl fun ac hs => mvv hs rfl rfl rfl fun ac hs => stp (op_build hs none (qs := [(0, .slice am ks.length cm), (1, .slice aa js.length ca)]) (v := .agg #[.slice am ks.length cm, .slice aa js.length ca]) rfl rfl rfl rfl (fun _ => by kernel_rfl) rfl fun ac hs => stp (op_alloc hs none none (cs := [.slice none 0 0, .slice none 0 0]) rfl rfl zeroValue24 (by kernel_rfl) rfl rfl fun g2 ac w hs => stp (stoo hs 1 ([.slice am ks.length cm, .slice aa js.length ca]) sizeOf24 rfl rfl rfl rfl rfl rfl rfl rfl rfl rfl fun w hs => ?_))))))))))
 refine wpList_nil (then_n (wp_seq ?_))
 replace hs := hs.nf w0 Z noX [4, 5, 6] rfl rfl rfl rfl
 refine wp_region_lit (ldd hs 1 (.agg #[.slice am ks.length cm, .slice aa js.length ca]) isAgg24 sizeOf24 rfl rfl rfl rfl rfl fun ac hs => ?_)
 obtain ⟨r3, hr3⟩ := ex1 (chkL ks js)
 refine stp (op_callV (F := 25) (ρ := Unit) hs none none (v := fun r => ni64 r3) (E := fun r => []) (j := 0) rfl rfl rfl rfl (call25 _) (fun hs => rcheck_c am cm vs aa ca us ks js r3 (Nat.le_trans (show OkN 8000 ks from ok).1 (by decide)) (Nat.le_trans (show OkN 8000 js from oj).1 (by decide)) hr3 _ _ (hs.celT (k := 0) rfl) (hs.rowB (k := 1) (G := noX) (.inr rfl)) (hs.celT (k := 2) rfl) (hs.rowB (k := 3) (G := noX) (.inr rfl))) (fun _ => rfl) (fun _ => rfl) rfl rfl fun _ ac w hs => asg hs rfl rfl rfl fun ac hs => wpList_nil (then_n (wp_seq (wp_seq (wp_region_lit (mvv hs rfl rfl rfl fun ac hs => bnn hs (.bool (decide (r3 ≠ 0))) rfl rfl rfl rfl (bin_neqN (y := 0)) fun ac hs => wpList_nil (then_n (wcs hs rfl ?_ ?_))))))))
 ·intro hc
  have hp4 := of_decide_eq_true hc
  refine wp_seq (wp_region_lit (stp (op_build hs none (qs := []) (v := .agg #[.slice none 0 0, .slice none 0 0]) rfl rfl rfl rfl (fun _ => by kernel_rfl) rfl fun ac hs => mvv hs rfl rfl rfl fun ac hs => stp (stoo hs 0 ([.slice none 0 0, .slice none 0 0]) sizeOf24 rfl rfl rfl rfl rfl rfl rfl rfl rfl rfl fun w hs => asg hs rfl rfl rfl fun ac hs => wpList_nil (then_n (wp_ret (then_r ?_)))))))
  exact bodyPost_ret (res2 rfl (rv_c hs 0 (v := .agg #[.slice none 0 0, .slice none 0 0]) rfl rfl isAgg24 sizeOf24 rfl) (rv_t hs rfl)) hs.defers ⟨(), by rw [show r3 = e1 from hr3.symm.trans hr], hs.bel rfl, okl0⟩
 intro hc
 have hp5 := of_decide_eq_false hc
 refine wp_skip (then_n (wp_seq (wp_region_lit (ldd hs 1 (.agg #[.slice am ks.length cm, .slice aa js.length ca]) isAgg24 sizeOf24 rfl rfl rfl rfl rfl fun ac hs => stp (stoo hs 0 ([.slice am ks.length cm, .slice aa js.length ca]) sizeOf24 rfl rfl rfl rfl rfl rfl rfl rfl rfl rfl fun w hs => asg hs rfl rfl rfl fun ac hs => wpList_nil (then_n (wp_ret ?_)))))))
 exact absurd (hr.symm.trans (hr3.trans (Classical.not_not.1 hp5))) he
theorem rpush_c (am : Option Addr) (cm : Nat) (vs : List Value) (aa : Option Addr) (ca : Nat) (us : List Value) (ks js : BL) (ab : Option Addr) (cb : Nat) (b : List UInt8) (hb : b.length ≤ 1000) (k1 j1 : BL) (e1 : Nat) (ok : OkN 1000 ks) (oj : OkN 1000 js) (hp : donL (ks ++ [b]) js 0 = (k1, j1, e1)) (w0 : World) (Z : Nat → Prop) (hV : CelV w0 Z (.slice am ks.length cm) ks.length vs) (hY : BysV w0 Z vs ks) (hU : CelV w0 Z (.slice aa js.length ca) js.length us) (hX : BysV w0 Z us js) (hW : ByV w0 Z (.slice ab b.length cb) b): Calls prog 20 #[.agg #[.slice am ks.length cm, .slice aa js.length ca], .slice ab b.length cb] w0 fun e w' => Ret w0 Z (ρ := MR) (fun r => .tuple #[.agg #[.slice r.a k1.length r.c, .slice r.b j1.length r.d], ni64 e1]) (fun r => [cL r.a k1.length r.c r.vs, .bys r.vs k1, cL r.b j1.length r.d r.us, .bys r.us j1]) e w' := by
 have hk8 : ks.length ≤ 1000 := ok.1
 have hj8 : js.length ≤ 1000 := oj.1
 refine enterS (n := 16) (args := [.agg #[.slice am ks.length cm, .slice aa js.length ca], .slice ab b.length cb]) (S := [(true, cL am ks.length cm vs), (true, .bys vs ks), (true, cL aa js.length ca us), (true, .bys us js), (true, cL ab b.length cb (bcs b))]) (Z := Z) func20 rfl rfl (Nat.le_of_ble_eq_true rfl) (sokC hV (sokC hY (sokC hU (sokC hX (sokC hW sok0))))) rfl fun ac hs => wp_seq (wp_region_lit (stp (op_box hs none none (cs := [.slice am ks.length cm, .slice aa js.length ca]) rfl rfl rfl rfl rfl rfl fun g1 ac w hs => stp (op_alloc hs none none (cs := [.slice none 0 0, .slice none 0 0]) rfl rfl zeroValue24 (by kernel_rfl) rfl rfl fun g2 ac w hs => asg hs rfl rfl rfl fun ac hs => wpList_nil (then_n (wp_seq ?_))))))
 by_cases hq3 : chkL (ks ++ [b]) js = 0
 ·replace hs := hs.nf w0 Z noX [1, 2, 4, 5] rfl rfl rfl rfl
  refine region_inv [([], [1, 4, 7, 8, 9, 10, 11]), ([0], [4, 7, 8, 9, 10, 11]), ([], [3, 4, 7, 8, 9, 10, 11]), ([2], [4, 7, 8, 9, 10, 11]), (rgn 0 4, rgn 7 5), ([], rgn 6 6), ([5], rgn 7 5), (rgn 0 7, rgn 8 4), (rgn 0 8, [10, 11]), (rgn 0 8, [10, 11]), (rgn 0 10, [11]), (rgn 0 11, [])] (fun L ac w => ∃ (ad5 : Option Addr) (ad6 : Option Addr) (cp7 : Nat), St 16 ⟨w0, [], [(true, cL am ks.length cm vs), (true, .bys vs ks), (true, cL aa js.length ca us), (true, .bys us js), (true, cL ab b.length cb (bcs b)), (L 3, oW ad5 1 1 34 ([.slice ab b.length cb])), (L 4, oW ad6 ((ks ++ [b]).length) cp7 34 (vs ++ [.slice ab b.length cb]))], Z, noX⟩ [(6, L 0, ptA g1 0), (7, L 1, .slice am ks.length cm), (8, L 2, .slice ab b.length cb), (9, L 3, .slice ad5 1 1), (10, L 4, .slice ad6 ((ks ++ [b]).length) cp7), (11, L 5, ptA g1 1), (12, L 6, .slice aa js.length ca), (13, L 7, cond (L 7) (.tuple #[.agg #[.slice ad6 ((ks ++ [b]).length) cp7, .slice aa js.length ca], .int .i64 0]) undef), (14, L 8, cond (L 8) (.agg #[.slice ad6 ((ks ++ [b]).length) cp7, .slice aa js.length ca]) undef), (15, L 9, .int .i64 0), (5, L 11, .int .i64 0), (1, true, .slice ab b.length cb), (2, true, ptA g1 0), (4, true, ptA g2 0), (5, true, .int .i64 0)] [(true, g1, 24, [.slice am ks.length cm, .slice aa js.length ca]), (true, g2, 24, (cond (L 10) [.slice ad6 ((ks ++ [b]).length) cp7, .slice aa js.length ca] [.slice none 0 0, .slice none 0 0]))] ac w) (by kernel_rfl) (by kernel_rfl) ?_ ?_ ?_
  ·exact ⟨none, none, 0, hs.drew.s4.s4.skip.skip.skip.padS.padS⟩
  ·refine ⟨?_, ?_, ?_, ?_, ?_, ?_, ?_, ?_, ?_, ?_, ?_, ?_, trivial⟩
   ·exact fun L ac w ⟨ad5, ad6, cp7, hs⟩ => pln (op_fieldA hs (some 0) rfl rfl rfl underlying24 rfl sizeOf22 (by decide) rfl fun ac hs => ⟨ad5, ad6, cp7, hs⟩)
   ·exact fun L ac w ⟨ad5, ad6, cp7, hs⟩ => pln (oldd hs 1 0 (.slice am ks.length cm) isAgg22 sizeOf22 rfl rfl rfl rfl rfl fun ac hs => ⟨ad5, ad6, cp7, hs⟩)
   ·exact fun L ac w ⟨ad5, ad6, cp7, hs⟩ => pln (omv hs 2 rfl rfl rfl fun ac hs => ⟨ad5, ad6, cp7, hs⟩)
   ·exact fun L ac w ⟨ad5, ad6, cp7, hs⟩ => pln (op_bsO hs (some 3) (some 5) (qs := [(0, .slice ab b.length cb)]) (cs := [.slice ab b.length cb]) rfl rfl rfl rfl underlying22 inf_slice_34 (by decide) (by decide) (fill_one _ _ rfl) rfl rfl rfl rfl fun ad5 ac w hs => ⟨ad5, ad6, cp7, hs⟩)
   ·exact fun L ac w ⟨ad5, ad6, cp7, hs⟩ => pln (op_callV (F := 36) (ρ := Option Addr × Nat) hs (some 4) (some 6) (v := fun r => .slice r.1 ((ks ++ [b]).length) r.2) (E := fun r => [oW r.1 ((ks ++ [b]).length) r.2 34 (vs ++ [Value.slice ab b.length cb])]) (j := 1) rfl rfl rfl rfl (call36 _) (fun hs => with_c am cm vs ks ad5 1 ([.slice ab b.length cb]) ([b]) (show ks.length + ([b]).length ≤ 1000000 by first | omega | ((try simp only [List.length_drop, List.length_take, List.length_append, List.length_cons, List.length_nil]); omega)) _ _ (hs.celT (k := 0) rfl) (hs.rowB (k := 1) (G := noX) (.inr rfl)) (hs.celT (k := 5) rfl) (bysv_snoc bysv_nil (hs.celT (k := 4) rfl))) (fun _ => rfl) (fun _ => rfl) rfl rfl fun ⟨ad6, cp7⟩ ac w hs => ⟨ad5, ad6, cp7, hs⟩)
   ·exact fun L ac w ⟨ad5, ad6, cp7, hs⟩ => pln (op_fieldA hs (some 5) rfl rfl rfl underlying24 rfl sizeOf22 (by decide) rfl fun ac hs => ⟨ad5, ad6, cp7, hs⟩)
   ·exact fun L ac w ⟨ad5, ad6, cp7, hs⟩ => pln (oldd hs 6 0 (.slice aa js.length ca) isAgg22 sizeOf22 rfl rfl rfl rfl rfl fun ac hs => ⟨ad5, ad6, cp7, hs⟩)
   ·exact fun L ac w ⟨ad5, ad6, cp7, hs⟩ => pln (op_callV (F := 35) (ρ := Unit) hs (some 7) none (v := fun r => .tuple #[.agg #[.slice ad6 ((ks ++ [b]).length) cp7, .slice aa js.length ca], .int .i64 0]) (E := fun r => []) (j := 0) rfl rfl rfl rfl (call35 _) (fun hs => checkedT_c ad6 cp7 (vs ++ [Value.slice ab b.length cb]) aa ca us (ks ++ [b]) js ((OkN.snoc ok hb).mono (by decide)) (oj.mono (by decide)) hq3 _ _ (hs.celT (k := 6) rfl) (bysv_app (hs.rowB (k := 1) (G := noX) (.inr rfl)) (bysv_snoc bysv_nil (hs.celT (k := 4) rfl))) (hs.celT (k := 2) rfl) (hs.rowB (k := 3) (G := noX) (.inr rfl))) (fun _ => rfl) (fun _ => rfl) rfl rfl fun _ ac w hs => ⟨ad5, ad6, cp7, hs⟩)
   ·exact fun L ac w ⟨ad5, ad6, cp7, hs⟩ => pln (xtr hs (some 8) rfl rfl rfl rfl rfl fun ac hs => ⟨ad5, ad6, cp7, hs⟩)
   ·exact fun L ac w ⟨ad5, ad6, cp7, hs⟩ => pln (xtr hs (some 9) rfl rfl rfl rfl rfl fun ac hs => ⟨ad5, ad6, cp7, hs⟩)
   ·exact fun L ac w ⟨ad5, ad6, cp7, hs⟩ => pln (stoo hs 1 ([.slice ad6 ((ks ++ [b]).length) cp7, .slice aa js.length ca]) sizeOf24 rfl rfl rfl rfl rfl rfl rfl rfl rfl rfl fun w hs => ⟨ad5, ad6, cp7, hs⟩)
   ·exact fun L ac w ⟨ad5, ad6, cp7, hs⟩ => pln (oas hs 10 rfl rfl rfl fun ac hs => ⟨ad5, ad6, cp7, hs⟩)
  intro ac w ⟨ad5, ad6, cp7, hs⟩
  try dsimp only [cond_true] at hs
  refine then_n (wp_ret ?_)
  have HS := hs
  have h0 := hp
  unfold donL at h0
  rw [if_pos rfl] at h0
  rw [if_pos hq3] at h0
  obtain ⟨hk, hj, he⟩ := inj3 h0
  subst hk
  subst hj
  subst he
  have hs := HS
  replace hs := hs.freeze 6 rfl
  replace hs := hs.nilBys none rfl
  replace hs := hs.snocBys (l := b) (ls' := [b]) 7 4 rfl rfl rfl
  replace hs := hs.bysEq 7 (vs' := [.slice ab b.length cb]) (ls' := [b]) rfl rfl rfl
  replace hs := hs.joinY none 1 7 rfl rfl rfl
  exact bodyPost_ret (res2 rfl (rv_c hs 1 (v := .agg #[.slice ad6 ((ks ++ [b]).length) cp7, .slice aa js.length ca]) rfl rfl isAgg24 sizeOf24 rfl) (rv_t hs rfl)) hs.defers ⟨⟨ad6, cp7, vs ++ [.slice ab b.length cb], aa, ca, us⟩, rfl, hs.bel rfl, hs.retS (ks := [6, 8, 2, 3]) rfl (by decide)⟩
 replace hs := hs.nf w0 Z noX [1, 2, 4, 5] rfl rfl rfl rfl
 refine region_inv [([], [1, 4, 7, 8, 9, 10, 11]), ([0], [4, 7, 8, 9, 10, 11]), ([], [3, 4, 7, 8, 9, 10, 11]), ([2], [4, 7, 8, 9, 10, 11]), (rgn 0 4, rgn 7 5), ([], rgn 6 6), ([5], rgn 7 5), (rgn 0 7, rgn 8 4), (rgn 0 8, [10, 11]), (rgn 0 8, [10, 11]), (rgn 0 10, [11]), (rgn 0 11, [])] (fun L ac w => ∃ (ad9 : Option Addr) (ad10 : Option Addr) (cp11 : Nat), St 16 ⟨w0, [], [(true, cL am ks.length cm vs), (true, .bys vs ks), (true, cL aa js.length ca us), (true, .bys us js), (true, cL ab b.length cb (bcs b)), (L 3, oW ad9 1 1 34 ([.slice ab b.length cb])), (L 4, oW ad10 ((ks ++ [b]).length) cp11 34 (vs ++ [.slice ab b.length cb]))], Z, noX⟩ [(6, L 0, ptA g1 0), (7, L 1, .slice am ks.length cm), (8, L 2, .slice ab b.length cb), (9, L 3, .slice ad9 1 1), (10, L 4, .slice ad10 ((ks ++ [b]).length) cp11), (11, L 5, ptA g1 1), (12, L 6, .slice aa js.length ca), (13, L 7, .tuple #[.agg #[.slice none 0 0, .slice none 0 0], ni64 (chkL (ks ++ [b]) js)]), (14, L 8, .agg #[.slice none 0 0, .slice none 0 0]), (15, L 9, ni64 (chkL (ks ++ [b]) js)), (5, L 11, ni64 (chkL (ks ++ [b]) js)), (1, true, .slice ab b.length cb), (2, true, ptA g1 0), (4, true, ptA g2 0), (5, true, .int .i64 0)] [(true, g1, 24, [.slice am ks.length cm, .slice aa js.length ca]), (true, g2, 24, (cond (L 10) [.slice none 0 0, .slice none 0 0] [.slice none 0 0, .slice none 0 0]))] ac w) (by kernel_rfl) (by kernel_rfl) ?_ ?_ ?_
 ·exact ⟨none, none, 0, hs.drew.s4.s4.skip.skip.skip.padS.padS⟩
 ·refine ⟨?_, ?_, ?_, ?_, ?_, ?_, ?_, ?_, ?_, ?_, ?_, ?_, trivial⟩
  ·exact fun L ac w ⟨ad9, ad10, cp11, hs⟩ => pln (op_fieldA hs (some 0) rfl rfl rfl underlying24 rfl sizeOf22 (by decide) rfl fun ac hs => ⟨ad9, ad10, cp11, hs⟩)
  ·exact fun L ac w ⟨ad9, ad10, cp11, hs⟩ => pln (oldd hs 1 0 (.slice am ks.length cm) isAgg22 sizeOf22 rfl rfl rfl rfl rfl fun ac hs => ⟨ad9, ad10, cp11, hs⟩)
  ·exact fun L ac w ⟨ad9, ad10, cp11, hs⟩ => pln (omv hs 2 rfl rfl rfl fun ac hs => ⟨ad9, ad10, cp11, hs⟩)
  ·exact fun L ac w ⟨ad9, ad10, cp11, hs⟩ => pln (op_bsO hs (some 3) (some 5) (qs := [(0, .slice ab b.length cb)]) (cs := [.slice ab b.length cb]) rfl rfl rfl rfl underlying22 inf_slice_34 (by decide) (by decide) (fill_one _ _ rfl) rfl rfl rfl rfl fun ad9 ac w hs => ⟨ad9, ad10, cp11, hs⟩)
  ·exact fun L ac w ⟨ad9, ad10, cp11, hs⟩ => pln (op_callV (F := 36) (ρ := Option Addr × Nat) hs (some 4) (some 6) (v := fun r => .slice r.1 ((ks ++ [b]).length) r.2) (E := fun r => [oW r.1 ((ks ++ [b]).length) r.2 34 (vs ++ [Value.slice ab b.length cb])]) (j := 1) rfl rfl rfl rfl (call36 _) (fun hs => with_c am cm vs ks ad9 1 ([.slice ab b.length cb]) ([b]) (show ks.length + ([b]).length ≤ 1000000 by first | omega | ((try simp only [List.length_drop, List.length_take, List.length_append, List.length_cons, List.length_nil]); omega)) _ _ (hs.celT (k := 0) rfl) (hs.rowB (k := 1) (G := noX) (.inr rfl)) (hs.celT (k := 5) rfl) (bysv_snoc bysv_nil (hs.celT (k := 4) rfl))) (fun _ => rfl) (fun _ => rfl) rfl rfl fun ⟨ad10, cp11⟩ ac w hs => ⟨ad9, ad10, cp11, hs⟩)
  ·exact fun L ac w ⟨ad9, ad10, cp11, hs⟩ => pln (op_fieldA hs (some 5) rfl rfl rfl underlying24 rfl sizeOf22 (by decide) rfl fun ac hs => ⟨ad9, ad10, cp11, hs⟩)
  ·exact fun L ac w ⟨ad9, ad10, cp11, hs⟩ => pln (oldd hs 6 0 (.slice aa js.length ca) isAgg22 sizeOf22 rfl rfl rfl rfl rfl fun ac hs => ⟨ad9, ad10, cp11, hs⟩)
  ·exact fun L ac w ⟨ad9, ad10, cp11, hs⟩ => pln (op_callV (F := 35) (ρ := Unit) hs (some 7) none (v := fun r => .tuple #[.agg #[.slice none 0 0, .slice none 0 0], ni64 (chkL (ks ++ [b]) js)]) (E := fun r => []) (j := 0) rfl rfl rfl rfl (call35 _) (fun hs => checkedF_c ad10 cp11 (vs ++ [Value.slice ab b.length cb]) aa ca us (ks ++ [b]) js (chkL (ks ++ [b]) js) hq3 ((OkN.snoc ok hb).mono (by decide)) (oj.mono (by decide)) rfl _ _ (hs.celT (k := 6) rfl) (bysv_app (hs.rowB (k := 1) (G := noX) (.inr rfl)) (bysv_snoc bysv_nil (hs.celT (k := 4) rfl))) (hs.celT (k := 2) rfl) (hs.rowB (k := 3) (G := noX) (.inr rfl))) (fun _ => rfl) (fun _ => rfl) rfl rfl fun _ ac w hs => ⟨ad9, ad10, cp11, hs⟩)
  ·exact fun L ac w ⟨ad9, ad10, cp11, hs⟩ => pln (xtr hs (some 8) rfl rfl rfl rfl rfl fun ac hs => ⟨ad9, ad10, cp11, hs⟩)
  ·exact fun L ac w ⟨ad9, ad10, cp11, hs⟩ => pln (xtr hs (some 9) rfl rfl rfl rfl rfl fun ac hs => ⟨ad9, ad10, cp11, hs⟩)
  ·exact fun L ac w ⟨ad9, ad10, cp11, hs⟩ => pln (stoo hs 1 ([.slice none 0 0, .slice none 0 0]) sizeOf24 rfl rfl rfl rfl rfl rfl rfl rfl rfl rfl fun w hs => ⟨ad9, ad10, cp11, hs⟩)
  ·exact fun L ac w ⟨ad9, ad10, cp11, hs⟩ => pln (oas hs 10 rfl rfl rfl fun ac hs => ⟨ad9, ad10, cp11, hs⟩)
 intro ac w ⟨ad9, ad10, cp11, hs⟩
 try dsimp only [cond_true] at hs
 refine then_n (wp_ret ?_)
 have HS := hs
 have h0 := hp
 unfold donL at h0
 rw [if_pos rfl] at h0
 rw [if_neg hq3] at h0
 obtain ⟨hk, hj, he⟩ := inj3 h0
 subst hk
 subst hj
 subst he
 have hs := HS
 replace hs := hs.nilCel none rfl
 replace hs := hs.nilBys none rfl
 replace hs := hs.nilCel none rfl
 replace hs := hs.nilBys none rfl
 exact bodyPost_ret (res2 rfl (rv_c hs 1 (v := .agg #[.slice none 0 0, .slice none 0 0]) rfl rfl isAgg24 sizeOf24 rfl) (rv_t hs rfl)) hs.defers ⟨⟨none, 0, [], none, 0, []⟩, rfl, hs.bel rfl, hs.retS (ks := [7, 8, 9, 10]) rfl (by decide)⟩
theorem rpop_c (am : Option Addr) (cm : Nat) (vs : List Value) (aa : Option Addr) (ca : Nat) (us : List Value) (ks js : BL) (x : List UInt8) (k1 j1 : BL) (e1 : Nat) (ok : OkN 1000 ks) (oj : OkN 1000 js) (hp : popS ks js = (x, k1, j1, e1)) (w0 : World) (Z : Nat → Prop) (hV : CelV w0 Z (.slice am ks.length cm) ks.length vs) (hY : BysV w0 Z vs ks) (hU : CelV w0 Z (.slice aa js.length ca) js.length us) (hX : BysV w0 Z us js): Calls prog 22 #[.agg #[.slice am ks.length cm, .slice aa js.length ca]] w0 fun e w' => Ret w0 Z (ρ := MRx) (fun r => .tuple #[.slice r.x x.length r.y, .agg #[.slice r.a k1.length r.c, .slice r.b j1.length r.d], ni64 e1]) (fun r => [cL r.a k1.length r.c r.vs, .bys r.vs k1, cL r.b j1.length r.d r.us, .bys r.us j1, cL r.x x.length r.y (bcs x)]) e w' := by
 have hk8 : ks.length ≤ 1000 := ok.1
 have hj8 : js.length ≤ 1000 := oj.1
 refine enterS (n := 26) (args := [.agg #[.slice am ks.length cm, .slice aa js.length ca]]) (S := [(true, cL am ks.length cm vs), (true, .bys vs ks), (true, cL aa js.length ca us), (true, .bys us js)]) (Z := Z) func22 rfl rfl (Nat.le_of_ble_eq_true rfl) (sokC hV (sokC hY (sokC hU (sokC hX sok0)))) rfl fun ac hs => wp_seq (wp_region_lit (stp (op_box hs none none (cs := [.slice am ks.length cm, .slice aa js.length ca]) rfl rfl rfl rfl rfl rfl fun g1 ac w hs => asg hs rfl rfl rfl fun ac hs => stp (op_alloc hs none none (cs := [.slice none 0 0, .slice none 0 0]) rfl rfl zeroValue24 (by kernel_rfl) rfl rfl fun g2 ac w hs => asg hs rfl rfl rfl fun ac hs => wpList_nil (then_n (wp_seq (wp_region_lit (stp (op_fieldA hs none rfl rfl rfl underlying24 rfl sizeOf22 (by decide) rfl fun ac hs => ldd hs 0 (.slice am ks.length cm) isAgg22 sizeOf22 rfl rfl rfl rfl rfl fun ac hs => stp (op_blt hs none (v := ni64 (ks.length)) rfl rfl rfl (blt_len underlying22) rfl fun ac hs => ?_))))))))))
 refine asg hs rfl rfl rfl fun ac hs => wpList_nil (then_n (wp_seq (wp_seq ?_)))
 replace hs := hs.nf w0 Z noX [1, 2, 3, 4, 5] rfl rfl rfl rfl
 refine wp_region_lit (mvv hs rfl rfl rfl fun ac hs => bnn hs (.bool (decide (ks.length = 0))) rfl rfl rfl rfl (bin_eqlN (y := 0)) fun ac hs => wpList_nil (then_n (wcs hs rfl ?_ ?_)))
 ·intro hc
  have hp3 := of_decide_eq_true hc
  have hk0 : ks.length = 0 := of_decide_eq_true hc
  refine wp_seq (wp_region_lit (stp (op_build hs none (qs := []) (v := .agg #[.slice none 0 0, .slice none 0 0]) rfl rfl rfl rfl (fun _ => by kernel_rfl) rfl fun ac hs => asg hs rfl rfl rfl fun ac hs => stp (stoo hs 1 ([.slice none 0 0, .slice none 0 0]) sizeOf24 rfl rfl rfl rfl rfl rfl rfl rfl rfl rfl fun w hs => asg hs rfl rfl rfl fun ac hs => wpList_nil (then_n (wp_ret (then_r ?_)))))))
  have HS := hs
  have h0 := hp
  rw [pop_ref, if_pos hk0] at h0
  obtain ⟨hx, hk, hj, he⟩ := inj4 h0
  subst hx
  subst hk
  subst hj
  subst he
  have hs := HS
  replace hs := hs.nilCel none rfl
  replace hs := hs.nilBys none rfl
  replace hs := hs.nilCel none rfl
  replace hs := hs.nilBys none rfl
  replace hs := hs.nilCel none rfl
  exact bodyPost_ret (res3 rfl (rv_t hs rfl) (rv_c hs 1 (v := .agg #[.slice none 0 0, .slice none 0 0]) rfl rfl isAgg24 sizeOf24 rfl) (rv_t hs rfl)) hs.defers ⟨⟨none, 0, [], none, 0, [], none, 0⟩, rfl, hs.bel rfl, hs.retS (ks := [4, 5, 6, 7, 8]) rfl (by decide)⟩
 intro hc
 have hp4 := of_decide_eq_false hc
 have hk0 : ¬ ks.length = 0 := of_decide_eq_false hc
 obtain ⟨li, hli⟩ : ∃ z, ks[ks.length - 1]? = some z := ⟨_, List.getElem?_eq_getElem (show ks.length - 1 < ks.length by omega)⟩
 obtain ⟨al, cl, hvl⟩ := bysv_at (hs.all (k := 1) rfl rfl) hli
 replace hs := hs.pick none 1 rfl hvl hli rfl
 refine wp_skip (then_n (wp_seq ?_))
 replace hs := hs.nf w0 Z noX [1, 2, 3, 4, 5] rfl rfl rfl rfl
 refine region_inv [([], [1, 4, 5, 14, 15, 16]), ([0], [4, 5, 14, 15, 16]), ([], [3, 4, 5, 14, 15, 16]), ([2], [4, 5, 14, 15, 16]), (rgn 0 4, [5, 14, 15, 16]), (rgn 0 5, [14, 15, 16]), ([], [7, 10, 13, 15, 16]), ([6], [10, 13, 15, 16]), ([], [9, 10, 13, 15, 16]), ([8], [10, 13, 15, 16]), (rgn 6 4, [13, 15, 16]), ([], [12, 13, 15, 16]), ([11], [13, 15, 16]), (rgn 6 7, [15, 16]), (rgn 0 6, [15, 16]), (rgn 0 15, [16]), (rgn 0 16, [])] (fun L ac w => St 26 ⟨w0, [], [(true, cL am ks.length cm vs), (true, .bys vs ks), (true, cL aa js.length ca us), (true, .bys us js), (true, cL al li.length cl (bcs li)), (L 10, cL (vsa am cm 1 0) ((ks.take (ks.length - 1)).length) (cm - 0) (vs.take (ks.length - 1)))], Z, noX⟩ [(12, L 0, ptA g1 0), (13, L 1, .slice am ks.length cm), (14, L 2, ni64 (ks.length)), (15, L 3, ni64 (ks.length - 1)), (16, L 4, vidx (.slice am ks.length cm) (ks.length - 1)), (17, L 5, .slice al li.length cl), (18, L 6, ptA g1 0), (19, L 7, .slice am ks.length cm), (20, L 8, ni64 (ks.length)), (21, L 9, ni64 (ks.length - 1)), (22, L 10, .slice (vsa am cm 1 0) ((ks.take (ks.length - 1)).length) (cm - 0)), (23, L 11, ptA g1 1), (24, L 12, .slice aa js.length ca), (25, L 13, .agg #[.slice (vsa am cm 1 0) ((ks.take (ks.length - 1)).length) (cm - 0), .slice aa js.length ca]), (2, L 14, .slice al li.length cl), (4, L 16, .int .i64 0), (1, true, ptA g1 0), (2, true, .slice none 0 0), (3, true, ptA g2 0), (4, true, .int .i64 0), (5, true, ni64 (ks.length))] [(true, g1, 24, [.slice am ks.length cm, .slice aa js.length ca]), (true, g2, 24, (cond (L 15) [.slice (vsa am cm 1 0) ((ks.take (ks.length - 1)).length) (cm - 0), .slice aa js.length ca] [.slice none 0 0, .slice none 0 0]))] ac w) (by kernel_rfl) (by kernel_rfl) ?_ ?_ ?_
 ·exact hs.drew.s4.s4.s4.s4.padS
 ·refine ⟨?_, ?_, ?_, ?_, ?_, ?_, ?_, ?_, ?_, ?_, ?_, ?_, ?_, ?_, ?_, ?_, ?_, trivial⟩
  ·exact fun L ac w hs => pln (op_fieldA hs (some 0) rfl rfl rfl underlying24 rfl sizeOf22 (by decide) rfl fun ac hs => hs)
  ·exact fun L ac w hs => pln (oldd hs 1 0 (.slice am ks.length cm) isAgg22 sizeOf22 rfl rfl rfl rfl rfl fun ac hs => hs)
  ·exact fun L ac w hs => pln (omv hs 2 rfl rfl rfl fun ac hs => hs)
  ·exact fun L ac w hs => pln (obn hs 3 (ni64 (ks.length - 1)) rfl rfl rfl rfl (bin_subN (y := 1) (by omega) (show ks.length - 1 < 9223372036854775808 by omega)) fun ac hs => hs)
  ·exact fun L ac w hs => pln (op_idxC hs (some 4) 0 (j := ks.length - 1) rfl rfl rfl rfl rfl underlying22 sizeOf34 (show ks.length - 1 < ks.length by omega) (off := ks.length - 1) (by omega) rfl fun ac hs => hs)
  ·exact fun L ac w hs => pln (op_loadC hs (some 5) 0 (u := .slice al li.length cl) rfl rfl rfl rfl isAgg34 sizeOf34 (by decide) hvl rfl fun ac hs => hs)
  ·exact fun L ac w hs => pln (op_fieldA hs (some 6) rfl rfl rfl underlying24 rfl sizeOf22 (by decide) rfl fun ac hs => hs)
  ·exact fun L ac w hs => pln (oldd hs 7 0 (.slice am ks.length cm) isAgg22 sizeOf22 rfl rfl rfl rfl rfl fun ac hs => hs)
  ·exact fun L ac w hs => pln (omv hs 8 rfl rfl rfl fun ac hs => hs)
  ·exact fun L ac w hs => pln (obn hs 9 (ni64 (ks.length - 1)) rfl rfl rfl rfl (bin_subN (y := 1) (by omega) (show ks.length - 1 < 9223372036854775808 by omega)) fun ac hs => hs)
  ·exact fun L ac w hs => pln (op_sliceR hs (some 10) (some 5) 0 0 (ks.length - 1) (N' := (ks.take (ks.length - 1)).length) (cs' := vs.take (ks.length - 1)) rfl rfl rfl rfl (.inl ⟨rfl, rfl⟩) (.inr ⟨_, _, rfl, rfl⟩) underlying22 sizeOf34 (show 0 ≤ ks.length - 1 by omega) (show ks.length - 1 ≤ ks.length by omega) (by rw [List.length_take]; omega) (by simp) rfl rfl fun ac hs => hs)
  ·exact fun L ac w hs => pln (op_fieldA hs (some 11) rfl rfl rfl underlying24 rfl sizeOf22 (by decide) rfl fun ac hs => hs)
  ·exact fun L ac w hs => pln (oldd hs 12 0 (.slice aa js.length ca) isAgg22 sizeOf22 rfl rfl rfl rfl rfl fun ac hs => hs)
  ·exact fun L ac w hs => pln (op_build hs (some 13) (qs := [(0, .slice (vsa am cm 1 0) ((ks.take (ks.length - 1)).length) (cm - 0)), (1, .slice aa js.length ca)]) (v := .agg #[.slice (vsa am cm 1 0) ((ks.take (ks.length - 1)).length) (cm - 0), .slice aa js.length ca]) rfl rfl rfl rfl (fun _ => by kernel_rfl) rfl fun ac hs => hs)
  ·exact fun L ac w hs => pln (oas hs 14 rfl rfl rfl fun ac hs => hs)
  ·exact fun L ac w hs => pln (stoo hs 1 ([.slice (vsa am cm 1 0) ((ks.take (ks.length - 1)).length) (cm - 0), .slice aa js.length ca]) sizeOf24 rfl rfl rfl rfl rfl rfl rfl rfl rfl rfl fun w hs => hs)
  ·exact fun L ac w hs => pln (oas hs 15 rfl rfl rfl fun ac hs => hs)
 intro ac w hs
 try dsimp only [cond_true] at hs
 refine then_n (wp_ret ?_)
 have HS := hs
 have h0 := hp
 rw [pop_ref, if_neg hk0] at h0
 obtain ⟨hx, hk, hj, he⟩ := inj4 h0
 have hx2 : li = x := (getD_of hli).symm.trans hx
 subst hx2
 subst hk
 subst hj
 subst he
 have hs := HS
 replace hs := hs.takeY none 1 (ks.length - 1) rfl rfl
 exact bodyPost_ret (res3 rfl (rv_t hs rfl) (rv_c hs 1 (v := .agg #[.slice (vsa am cm 1 0) ((ks.take (ks.length - 1)).length) (cm - 0), .slice aa js.length ca]) rfl rfl isAgg24 sizeOf24 rfl) (rv_t hs rfl)) hs.defers ⟨⟨(vsa am cm 1 0), cm - 0, vs.take (ks.length - 1), aa, ca, us, al, cl⟩, rfl, hs.bel rfl, hs.retS (ks := [5, 6, 2, 3, 4]) rfl (by decide)⟩
theorem rpopn_c (am : Option Addr) (cm : Nat) (vs : List Value) (aa : Option Addr) (ca : Nat) (us : List Value) (ks js : BL) (most z : Int) (k1 j1 : BL) (e1 : Nat) (ok : OkN 1000 ks) (oj : OkN 1000 js) (hp : popN most ks js = (z, k1, j1, e1)) (w0 : World) (Z : Nat → Prop) (hV : CelV w0 Z (.slice am ks.length cm) ks.length vs) (hY : BysV w0 Z vs ks) (hU : CelV w0 Z (.slice aa js.length ca) js.length us) (hX : BysV w0 Z us js): Calls prog 24 #[.agg #[.slice am ks.length cm, .slice aa js.length ca], .int .i64 most] w0 fun e w' => Ret w0 Z (ρ := MR) (fun r => .tuple #[.int .i64 z, .agg #[.slice r.a k1.length r.c, .slice r.b j1.length r.d], ni64 e1]) (fun r => [cL r.a k1.length r.c r.vs, .bys r.vs k1, cL r.b j1.length r.d r.us, .bys r.us j1]) e w' := by
 have hk8 : ks.length ≤ 1000 := ok.1
 have hj8 : js.length ≤ 1000 := oj.1
 refine enterS (n := 34) (args := [.agg #[.slice am ks.length cm, .slice aa js.length ca], .int .i64 most]) (S := [(true, cL am ks.length cm vs), (true, .bys vs ks), (true, cL aa js.length ca us), (true, .bys us js)]) (Z := Z) func24 rfl rfl (Nat.le_of_ble_eq_true rfl) (sokC hV (sokC hY (sokC hU (sokC hX sok0)))) rfl fun ac hs => wp_seq (wp_region_lit (stp (op_box hs none none (cs := [.slice am ks.length cm, .slice aa js.length ca]) rfl rfl rfl rfl rfl rfl fun g1 ac w hs => asg hs rfl rfl rfl fun ac hs => stp (op_alloc hs none none (cs := [.slice none 0 0, .slice none 0 0]) rfl rfl zeroValue24 (by kernel_rfl) rfl rfl fun g2 ac w hs => asg hs rfl rfl rfl fun ac hs => wpList_nil (then_n (wp_seq (wp_region_lit (ldd hs 0 (.agg #[.slice am ks.length cm, .slice aa js.length ca]) isAgg24 sizeOf24 rfl rfl rfl rfl rfl fun ac hs => ?_))))))))
 replace hs := hs.nf w0 Z noX [0, 1, 2, 4, 5, 6, 13] rfl rfl rfl rfl
 obtain ⟨p3, ks4, js5, e6, hks4⟩ := ex4 (popS ks js)
 obtain ⟨lp3, oks4, ojs5⟩ := popS_ok ok oj hks4
 refine stp (op_callS (F := 22) (ρ := MRx) hs none none (v := fun r => .tuple #[.slice r.x p3.length r.y, .agg #[.slice r.a ks4.length r.c, .slice r.b js5.length r.d], ni64 e6]) (E := fun r => [cL r.a ks4.length r.c r.vs, .bys r.vs ks4, cL r.b js5.length r.d r.us, .bys r.us js5, cL r.x p3.length r.y (bcs p3)]) (j := 5) rfl rfl rfl rfl (call22 _) (fun hs => rpop_c am cm vs aa ca us ks js p3 ks4 js5 e6 ok oj hks4 _ _ (hs.all (k := 0) rfl rfl) (hs.all (k := 1) rfl rfl) (hs.all (k := 2) rfl rfl) (hs.all (k := 3) rfl rfl)) (fun _ => rfl) rfl rfl fun ⟨ad7, cp8, vs9, ad10, cp11, us12, ad13, cp14⟩ ac w hs => mvv hs rfl rfl rfl fun ac hs => stp (xtr hs none rfl rfl rfl rfl rfl fun ac hs => stp (xtr hs none rfl rfl rfl rfl rfl fun ac hs => stp (xtr hs none rfl rfl rfl rfl rfl fun ac hs => stp (op_alloc hs none none (cs := [.slice none 0 0, .slice none 0 0]) rfl rfl zeroValue24 (by kernel_rfl) rfl rfl fun g15 ac w hs => asg hs rfl rfl rfl fun ac hs => stp (stoo hs 2 ([.slice ad7 ks4.length cp8, .slice ad10 js5.length cp11]) sizeOf24 rfl rfl rfl rfl rfl rfl rfl rfl rfl rfl fun w hs => asg hs rfl rfl rfl fun ac hs => wpList_nil (then_n (wp_seq (wp_seq ?_)))))))))
 replace hs := hs.nf w0 Z noX [1, 4, 5, 6, 8, 7, 9] rfl rfl rfl rfl
 refine wp_region_lit (mvv hs rfl rfl rfl fun ac hs => bnn hs (.bool (decide (e6 ≠ 0))) rfl rfl rfl rfl (bin_neqN (y := 0)) fun ac hs => wpList_nil (then_n (wcs hs rfl ?_ ?_)))
 ·intro hc
  have hp16 := of_decide_eq_true hc
  refine wp_seq (wp_region_lit (stp (op_build hs none (qs := []) (v := .agg #[.slice none 0 0, .slice none 0 0]) rfl rfl rfl rfl (fun _ => by kernel_rfl) rfl fun ac hs => mvv hs rfl rfl rfl fun ac hs => asg hs rfl rfl rfl fun ac hs => stp (stoo hs 1 ([.slice none 0 0, .slice none 0 0]) sizeOf24 rfl rfl rfl rfl rfl rfl rfl rfl rfl rfl fun w hs => asg hs rfl rfl rfl fun ac hs => wpList_nil (then_n (wp_ret (then_r ?_)))))))
  have HS := hs
  have h0 := hp
  rw [popN_err hks4 hp16] at h0
  obtain ⟨hx, hk, hj, he⟩ := inj4 h0
  subst hx
  subst hk
  subst hj
  subst he
  have hs := HS
  replace hs := hs.nilCel none rfl
  replace hs := hs.nilBys none rfl
  replace hs := hs.nilCel none rfl
  replace hs := hs.nilBys none rfl
  exact bodyPost_ret (res3 rfl (rv_t hs rfl) (rv_c hs 1 (v := .agg #[.slice none 0 0, .slice none 0 0]) rfl rfl isAgg24 sizeOf24 rfl) (rv_t hs rfl)) hs.defers ⟨⟨none, 0, [], none, 0, []⟩, rfl, hs.bel rfl, hs.retS (ks := [9, 10, 11, 12]) rfl (by decide)⟩
 intro hc
 have hp17 := of_decide_eq_false hc
 refine wp_skip (then_n (wp_seq (wp_region_lit (mvv hs rfl rfl rfl fun ac hs => mvv hs rfl rfl rfl fun ac hs => ?_))))
 obtain ⟨z18, e19, hz18⟩ := ex2 (decN p3 most)
 refine stp (op_callV (F := 41) (ρ := Unit) hs none none (v := fun r => .tuple #[.int .i64 z18, ni64 e19]) (E := fun r => []) (j := 0) rfl rfl rfl rfl (call41 _) (fun hs => rdec_c ad13 p3.length cp14 p3 (Nat.le_trans lp3 (by decide)) most z18 e19 hz18 _ _ (hs.celT (k := 8) rfl)) (fun _ => rfl) (fun _ => rfl) rfl rfl fun _ ac w hs => mvv hs rfl rfl rfl fun ac hs => stp (xtr hs none rfl rfl rfl rfl rfl fun ac hs => stp (xtr hs none rfl rfl rfl rfl rfl fun ac hs => asg hs rfl rfl rfl fun ac hs => asg hs rfl rfl rfl fun ac hs => wpList_nil (then_n (wp_seq (wp_seq ?_))))))
 replace hs := hs.nf w0 Z noX [4, 5, 6, 8, 10, 11] rfl rfl rfl rfl
 refine wp_region_lit (mvv hs rfl rfl rfl fun ac hs => bnn hs (.bool (decide (e19 ≠ 0))) rfl rfl rfl rfl (bin_neqN (y := 0)) fun ac hs => wpList_nil (then_n (wcs hs rfl ?_ ?_)))
 ·intro hc
  have hp20 := of_decide_eq_true hc
  refine wp_seq (wp_region_lit (stp (op_build hs none (qs := []) (v := .agg #[.slice none 0 0, .slice none 0 0]) rfl rfl rfl rfl (fun _ => by kernel_rfl) rfl fun ac hs => mvv hs rfl rfl rfl fun ac hs => asg hs rfl rfl rfl fun ac hs => stp (stoo hs 1 ([.slice none 0 0, .slice none 0 0]) sizeOf24 rfl rfl rfl rfl rfl rfl rfl rfl rfl rfl fun w hs => asg hs rfl rfl rfl fun ac hs => wpList_nil (then_n (wp_ret (then_r ?_)))))))
  have HS := hs
  have h0 := hp
  obtain rfl : e6 = 0 := Classical.not_not.1 hp17
  rw [popN_dec hks4 hz18, if_neg hp20] at h0
  obtain ⟨hx, hk, hj, he⟩ := inj4 h0
  subst hx
  subst hk
  subst hj
  subst he
  have hs := HS
  replace hs := hs.nilCel none rfl
  replace hs := hs.nilBys none rfl
  replace hs := hs.nilCel none rfl
  replace hs := hs.nilBys none rfl
  exact bodyPost_ret (res3 rfl (rv_t hs rfl) (rv_c hs 1 (v := .agg #[.slice none 0 0, .slice none 0 0]) rfl rfl isAgg24 sizeOf24 rfl) (rv_t hs rfl)) hs.defers ⟨⟨none, 0, [], none, 0, []⟩, rfl, hs.bel rfl, hs.retS (ks := [9, 10, 11, 12]) rfl (by decide)⟩
 intro hc
 have hp21 := of_decide_eq_false hc
 refine wp_skip (then_n (wp_seq ?_))
 replace hs := hs.nf w0 Z noX [4, 5, 6, 8, 10] rfl rfl rfl rfl
 refine region_inv [([], [2, 3, 4]), ([], [3, 4]), ([0], [3, 4]), ([0, 1, 2], [4]), (rgn 0 4, [])] (fun L ac w => St 34 ⟨w0, [], [(true, cL am ks.length cm vs), (true, .bys vs ks), (true, cL aa js.length ca us), (true, .bys us js), (true, cL ad7 ks4.length cp8 vs9), (true, .bys vs9 ks4), (true, cL ad10 js5.length cp11 us12), (true, .bys us12 js5), (true, cL ad13 p3.length cp14 (bcs p3))], Z, noX⟩ [(32, L 0, .int .i64 z18), (33, L 1, .agg #[.slice ad7 ks4.length cp8, .slice ad10 js5.length cp11]), (4, L 2, .int .i64 z18), (6, L 4, .int .i64 0), (4, true, .int .i64 0), (5, true, ptA g2 0), (6, true, .int .i64 0), (8, true, ptA g15 0), (10, true, .int .i64 z18)] [(true, g1, 24, [.slice am ks.length cm, .slice aa js.length ca]), (true, g2, 24, (cond (L 3) [.slice ad7 ks4.length cp8, .slice ad10 js5.length cp11] [.slice none 0 0, .slice none 0 0])), (true, g15, 24, [.slice ad7 ks4.length cp8, .slice ad10 js5.length cp11])] ac w) (by kernel_rfl) (by kernel_rfl) ?_ ?_ ?_
 ·exact hs.drew.s4
 ·refine ⟨?_, ?_, ?_, ?_, ?_, trivial⟩
  ·exact fun L ac w hs => pln (omv hs 0 rfl rfl rfl fun ac hs => hs)
  ·exact fun L ac w hs => pln (oldd hs 1 2 (.agg #[.slice ad7 ks4.length cp8, .slice ad10 js5.length cp11]) isAgg24 sizeOf24 rfl rfl rfl rfl rfl fun ac hs => hs)
  ·exact fun L ac w hs => pln (oas hs 2 rfl rfl rfl fun ac hs => hs)
  ·exact fun L ac w hs => pln (stoo hs 1 ([.slice ad7 ks4.length cp8, .slice ad10 js5.length cp11]) sizeOf24 rfl rfl rfl rfl rfl rfl rfl rfl rfl rfl fun w hs => hs)
  ·exact fun L ac w hs => pln (oas hs 3 rfl rfl rfl fun ac hs => hs)
 intro ac w hs
 try dsimp only [cond_true] at hs
 refine then_n (wp_ret ?_)
 have HS := hs
 have h0 := hp
 obtain rfl : e6 = 0 := Classical.not_not.1 hp17
 rw [popN_dec hks4 hz18, if_pos (Classical.not_not.1 hp21)] at h0
 obtain ⟨hx, hk, hj, he⟩ := inj4 h0
 subst hx
 subst hk
 subst hj
 subst he
 have hs := HS
 exact bodyPost_ret (res3 rfl (rv_t hs rfl) (rv_c hs 1 (v := .agg #[.slice ad7 ks4.length cp8, .slice ad10 js5.length cp11]) rfl rfl isAgg24 sizeOf24 rfl) (rv_t hs rfl)) hs.defers ⟨⟨ad7, cp8, vs9, ad10, cp11, us12⟩, rfl, hs.bel rfl, hs.retS (ks := [4, 5, 6, 7]) rfl (by decide)⟩
theorem ralts_c (am : Option Addr) (cm : Nat) (vs : List Value) (aa : Option Addr) (ca : Nat) (us : List Value) (ks js : BL) (op : Nat) (k1 j1 : BL) (e1 : Nat) (ok : OkN 1000 ks) (oj : OkN 1000 js) (hp : altP op ks js = (k1, j1, e1)) (w0 : World) (Z : Nat → Prop) (hV : CelV w0 Z (.slice am ks.length cm) ks.length vs) (hY : BysV w0 Z vs ks) (hU : CelV w0 Z (.slice aa js.length ca) js.length us) (hX : BysV w0 Z us js): Calls prog 32 #[nu8 op, .agg #[.slice am ks.length cm, .slice aa js.length ca]] w0 fun e w' => Ret w0 Z (ρ := MR) (fun r => .tuple #[.agg #[.slice r.a k1.length r.c, .slice r.b j1.length r.d], ni64 e1]) (fun r => [cL r.a k1.length r.c r.vs, .bys r.vs k1, cL r.b j1.length r.d r.us, .bys r.us j1]) e w' := by
 have hk8 : ks.length ≤ 1000 := ok.1
 have hj8 : js.length ≤ 1000 := oj.1
 refine enterS (n := 56) (args := [nu8 op, .agg #[.slice am ks.length cm, .slice aa js.length ca]]) (S := [(true, cL am ks.length cm vs), (true, .bys vs ks), (true, cL aa js.length ca us), (true, .bys us js)]) (Z := Z) func32 rfl rfl (Nat.le_of_ble_eq_true rfl) (sokC hV (sokC hY (sokC hU (sokC hX sok0)))) rfl fun ac hs => wp_seq (wp_region_lit (stp (op_box hs none none (cs := [.slice am ks.length cm, .slice aa js.length ca]) rfl rfl rfl rfl rfl rfl fun g1 ac w hs => stp (op_alloc hs none none (cs := [.slice none 0 0, .slice none 0 0]) rfl rfl zeroValue24 (by kernel_rfl) rfl rfl fun g2 ac w hs => asg hs rfl rfl rfl fun ac hs => wpList_nil (then_n (wp_seq (wp_seq (wp_region_lit (mvv hs rfl rfl rfl fun ac hs => bnn hs (.bool (decide (op = 107))) rfl rfl rfl rfl (bin_eqlN (y := 107)) fun ac hs => wpList_nil (then_n (wcs hs rfl ?_ ?_)))))))))))
 ·intro hc
  have hp3 := of_decide_eq_true hc
  refine wp_seq (wp_region_lit (ldd hs 0 (.agg #[.slice am ks.length cm, .slice aa js.length ca]) isAgg24 sizeOf24 rfl rfl rfl rfl rfl fun ac hs => ?_))
  replace hs := hs.nf w0 Z noX [0, 1, 3, 4, 5, 10, 11, 13] rfl rfl rfl rfl
  obtain ⟨p4, ks5, js6, e7, hks5⟩ := ex4 (popS ks js)
  obtain ⟨lp4, oks5, ojs6⟩ := popS_ok ok oj hks5
  refine stp (op_callS (F := 22) (ρ := MRx) hs none none (v := fun r => .tuple #[.slice r.x p4.length r.y, .agg #[.slice r.a ks5.length r.c, .slice r.b js6.length r.d], ni64 e7]) (E := fun r => [cL r.a ks5.length r.c r.vs, .bys r.vs ks5, cL r.b js6.length r.d r.us, .bys r.us js6, cL r.x p4.length r.y (bcs p4)]) (j := 5) rfl rfl rfl rfl (call22 _) (fun hs => rpop_c am cm vs aa ca us ks js p4 ks5 js6 e7 ok oj hks5 _ _ (hs.all (k := 0) rfl rfl) (hs.all (k := 1) rfl rfl) (hs.all (k := 2) rfl rfl) (hs.all (k := 3) rfl rfl)) (fun _ => rfl) rfl rfl fun ⟨ad8, cp9, vs10, ad11, cp12, us13, ad14, cp15⟩ ac w hs => mvv hs rfl rfl rfl fun ac hs => stp (xtr hs none rfl rfl rfl rfl rfl fun ac hs => stp (xtr hs none rfl rfl rfl rfl rfl fun ac hs => stp (xtr hs none rfl rfl rfl rfl rfl fun ac hs => stp (op_alloc hs none none (cs := [.slice none 0 0, .slice none 0 0]) rfl rfl zeroValue24 (by kernel_rfl) rfl rfl fun g16 ac w hs => asg hs rfl rfl rfl fun ac hs => stp (stoo hs 2 ([.slice ad8 ks5.length cp9, .slice ad11 js6.length cp12]) sizeOf24 rfl rfl rfl rfl rfl rfl rfl rfl rfl rfl fun w hs => asg hs rfl rfl rfl fun ac hs => wpList_nil (then_n (wp_seq (wp_seq ?_)))))))))
  replace hs := hs.nf w0 Z noX [3, 4, 5, 7, 6, 8] rfl rfl rfl rfl
  refine wp_region_lit (mvv hs rfl rfl rfl fun ac hs => bnn hs (.bool (decide (e7 ≠ 0))) rfl rfl rfl rfl (bin_neqN (y := 0)) fun ac hs => wpList_nil (then_n (wcs hs rfl ?_ ?_)))
  ·intro hc
   have hp17 := of_decide_eq_true hc
   refine wp_seq (wp_region_lit (stp (op_build hs none (qs := []) (v := .agg #[.slice none 0 0, .slice none 0 0]) rfl rfl rfl rfl (fun _ => by kernel_rfl) rfl fun ac hs => mvv hs rfl rfl rfl fun ac hs => stp (stoo hs 1 ([.slice none 0 0, .slice none 0 0]) sizeOf24 rfl rfl rfl rfl rfl rfl rfl rfl rfl rfl fun w hs => asg hs rfl rfl rfl fun ac hs => wpList_nil (then_n (wp_ret (then_r (then_r ?_))))))))
   have HS := hs
   have h0 := hp
   rw [altP_err hp3 hks5 hp17] at h0
   obtain ⟨hk, hj, he⟩ := inj3 h0
   subst hk
   subst hj
   subst he
   have hs := HS
   replace hs := hs.nilCel none rfl
   replace hs := hs.nilBys none rfl
   replace hs := hs.nilCel none rfl
   replace hs := hs.nilBys none rfl
   exact bodyPost_ret (res2 rfl (rv_c hs 1 (v := .agg #[.slice none 0 0, .slice none 0 0]) rfl rfl isAgg24 sizeOf24 rfl) (rv_t hs rfl)) hs.defers ⟨⟨none, 0, [], none, 0, []⟩, rfl, hs.bel rfl, hs.retS (ks := [9, 10, 11, 12]) rfl (by decide)⟩
  intro hc
  have hp18 := of_decide_eq_false hc
  obtain rfl : e7 = 0 := Classical.not_not.1 (of_decide_eq_false hc)
  refine wp_skip (then_n (wp_seq ?_))
  by_cases hq19 : chkL ks5 (js ++ [p4]) = 0
  ·replace hs := hs.nf w0 Z noX [3, 4, 5, 7, 6] rfl rfl rfl rfl
   refine region_inv [([], [1, 7, 8, 9, 10, 11]), ([0], rgn 7 5), ([], [3, 6, 7, 8, 9, 10, 11]), ([2], rgn 6 6), ([], rgn 5 7), ([4], rgn 6 6), (rgn 2 4, rgn 7 5), (rgn 0 7, rgn 8 4), (rgn 0 8, [10, 11]), (rgn 0 8, [10, 11]), (rgn 0 10, [11]), (rgn 0 11, [])] (fun L ac w => ∃ (ad21 : Option Addr) (ad22 : Option Addr) (cp23 : Nat), St 56 ⟨w0, [], [(true, cL am ks.length cm vs), (true, .bys vs ks), (true, cL aa js.length ca us), (true, .bys us js), (true, cL ad8 ks5.length cp9 vs10), (true, .bys vs10 ks5), (true, cL ad11 js6.length cp12 us13), (true, .bys us13 js6), (true, cL ad14 p4.length cp15 (bcs p4)), (L 5, oW ad21 1 1 34 ([.slice ad14 p4.length cp15])), (L 6, oW ad22 ((js ++ [p4]).length) cp23 34 (us ++ [.slice ad14 p4.length cp15]))], Z, noX⟩ [(22, L 0, ptA g16 0), (23, L 1, .slice ad8 ks5.length cp9), (24, L 2, ptA g1 1), (25, L 3, .slice aa js.length ca), (26, L 4, .slice ad14 p4.length cp15), (27, L 5, .slice ad21 1 1), (28, L 6, .slice ad22 ((js ++ [p4]).length) cp23), (29, L 7, cond (L 7) (.tuple #[.agg #[.slice ad8 ks5.length cp9, .slice ad22 ((js ++ [p4]).length) cp23], .int .i64 0]) undef), (30, L 8, cond (L 8) (.agg #[.slice ad8 ks5.length cp9, .slice ad22 ((js ++ [p4]).length) cp23]) undef), (31, L 9, .int .i64 0), (5, L 11, .int .i64 0), (3, true, ptA g1 0), (4, true, ptA g2 0), (5, true, .int .i64 0), (7, true, ptA g16 0), (6, true, .slice ad14 p4.length cp15)] [(true, g1, 24, [.slice am ks.length cm, .slice aa js.length ca]), (true, g2, 24, (cond (L 10) [.slice ad8 ks5.length cp9, .slice ad22 ((js ++ [p4]).length) cp23] [.slice none 0 0, .slice none 0 0])), (true, g16, 24, [.slice ad8 ks5.length cp9, .slice ad11 js6.length cp12])] ac w) (by kernel_rfl) (by kernel_rfl) ?_ ?_ ?_
   ·exact ⟨none, none, 0, hs.drew.s4.s4.skip.skip.skip.padS.padS⟩
   ·refine ⟨?_, ?_, ?_, ?_, ?_, ?_, ?_, ?_, ?_, ?_, ?_, ?_, trivial⟩
    ·exact fun L ac w ⟨ad21, ad22, cp23, hs⟩ => pln (op_fieldA hs (some 0) rfl rfl rfl underlying24 rfl sizeOf22 (by decide) rfl fun ac hs => ⟨ad21, ad22, cp23, hs⟩)
    ·exact fun L ac w ⟨ad21, ad22, cp23, hs⟩ => pln (oldd hs 1 2 (.slice ad8 ks5.length cp9) isAgg22 sizeOf22 rfl rfl rfl rfl rfl fun ac hs => ⟨ad21, ad22, cp23, hs⟩)
    ·exact fun L ac w ⟨ad21, ad22, cp23, hs⟩ => pln (op_fieldA hs (some 2) rfl rfl rfl underlying24 rfl sizeOf22 (by decide) rfl fun ac hs => ⟨ad21, ad22, cp23, hs⟩)
    ·exact fun L ac w ⟨ad21, ad22, cp23, hs⟩ => pln (oldd hs 3 0 (.slice aa js.length ca) isAgg22 sizeOf22 rfl rfl rfl rfl rfl fun ac hs => ⟨ad21, ad22, cp23, hs⟩)
    ·exact fun L ac w ⟨ad21, ad22, cp23, hs⟩ => pln (omv hs 4 rfl rfl rfl fun ac hs => ⟨ad21, ad22, cp23, hs⟩)
    ·exact fun L ac w ⟨ad21, ad22, cp23, hs⟩ => pln (op_bsO hs (some 5) (some 9) (qs := [(0, .slice ad14 p4.length cp15)]) (cs := [.slice ad14 p4.length cp15]) rfl rfl rfl rfl underlying22 inf_slice_34 (by decide) (by decide) (fill_one _ _ rfl) rfl rfl rfl rfl fun ad21 ac w hs => ⟨ad21, ad22, cp23, hs⟩)
    ·exact fun L ac w ⟨ad21, ad22, cp23, hs⟩ => pln (op_callV (F := 36) (ρ := Option Addr × Nat) hs (some 6) (some 10) (v := fun r => .slice r.1 ((js ++ [p4]).length) r.2) (E := fun r => [oW r.1 ((js ++ [p4]).length) r.2 34 (us ++ [Value.slice ad14 p4.length cp15])]) (j := 1) rfl rfl rfl rfl (call36 _) (fun hs => with_c aa ca us js ad21 1 ([.slice ad14 p4.length cp15]) ([p4]) (show js.length + ([p4]).length ≤ 1000000 by first | omega | ((try simp only [List.length_drop, List.length_take, List.length_append, List.length_cons, List.length_nil]); omega)) _ _ (hs.celT (k := 2) rfl) (hs.rowB (k := 3) (G := noX) (.inr rfl)) (hs.celT (k := 9) rfl) (bysv_snoc bysv_nil (hs.celT (k := 8) rfl))) (fun _ => rfl) (fun _ => rfl) rfl rfl fun ⟨ad22, cp23⟩ ac w hs => ⟨ad21, ad22, cp23, hs⟩)
    ·exact fun L ac w ⟨ad21, ad22, cp23, hs⟩ => pln (op_callV (F := 35) (ρ := Unit) hs (some 7) none (v := fun r => .tuple #[.agg #[.slice ad8 ks5.length cp9, .slice ad22 ((js ++ [p4]).length) cp23], .int .i64 0]) (E := fun r => []) (j := 0) rfl rfl rfl rfl (call35 _) (fun hs => checkedT_c ad8 cp9 vs10 ad22 cp23 (us ++ [Value.slice ad14 p4.length cp15]) ks5 (js ++ [p4]) (oks5.mono (by decide)) ((OkN.snoc oj lp4).mono (by decide)) hq19 _ _ (hs.celT (k := 4) rfl) (hs.rowB (k := 5) (G := noX) (.inr rfl)) (hs.celT (k := 10) rfl) (bysv_app (hs.rowB (k := 3) (G := noX) (.inr rfl)) (bysv_snoc bysv_nil (hs.celT (k := 8) rfl)))) (fun _ => rfl) (fun _ => rfl) rfl rfl fun _ ac w hs => ⟨ad21, ad22, cp23, hs⟩)
    ·exact fun L ac w ⟨ad21, ad22, cp23, hs⟩ => pln (xtr hs (some 8) rfl rfl rfl rfl rfl fun ac hs => ⟨ad21, ad22, cp23, hs⟩)
    ·exact fun L ac w ⟨ad21, ad22, cp23, hs⟩ => pln (xtr hs (some 9) rfl rfl rfl rfl rfl fun ac hs => ⟨ad21, ad22, cp23, hs⟩)
    ·exact fun L ac w ⟨ad21, ad22, cp23, hs⟩ => pln (stoo hs 1 ([.slice ad8 ks5.length cp9, .slice ad22 ((js ++ [p4]).length) cp23]) sizeOf24 rfl rfl rfl rfl rfl rfl rfl rfl rfl rfl fun w hs => ⟨ad21, ad22, cp23, hs⟩)
    ·exact fun L ac w ⟨ad21, ad22, cp23, hs⟩ => pln (oas hs 10 rfl rfl rfl fun ac hs => ⟨ad21, ad22, cp23, hs⟩)
   intro ac w ⟨ad21, ad22, cp23, hs⟩
   try dsimp only [cond_true] at hs
   refine then_n (wp_ret (then_r ?_))
   have HS := hs
   have h0 := hp
   rw [altP_ok hp3 hks5] at h0
   unfold donL at h0
   rw [if_pos rfl] at h0
   rw [if_pos hq19] at h0
   obtain ⟨hk, hj, he⟩ := inj3 h0
   subst hk
   subst hj
   subst he
   have hs := HS
   replace hs := hs.freeze 10 rfl
   replace hs := hs.nilBys none rfl
   replace hs := hs.snocBys (l := p4) (ls' := [p4]) 11 8 rfl rfl rfl
   replace hs := hs.bysEq 11 (vs' := [.slice ad14 p4.length cp15]) (ls' := [p4]) rfl rfl rfl
   replace hs := hs.joinY none 3 11 rfl rfl rfl
   exact bodyPost_ret (res2 rfl (rv_c hs 1 (v := .agg #[.slice ad8 ks5.length cp9, .slice ad22 ((js ++ [p4]).length) cp23]) rfl rfl isAgg24 sizeOf24 rfl) (rv_t hs rfl)) hs.defers ⟨⟨ad8, cp9, vs10, ad22, cp23, us ++ [.slice ad14 p4.length cp15]⟩, rfl, hs.bel rfl, hs.retS (ks := [4, 5, 10, 12]) rfl (by decide)⟩
  replace hs := hs.nf w0 Z noX [3, 4, 5, 7, 6] rfl rfl rfl rfl
  refine region_inv [([], [1, 7, 8, 9, 10, 11]), ([0], rgn 7 5), ([], [3, 6, 7, 8, 9, 10, 11]), ([2], rgn 6 6), ([], rgn 5 7), ([4], rgn 6 6), (rgn 2 4, rgn 7 5), (rgn 0 7, rgn 8 4), (rgn 0 8, [10, 11]), (rgn 0 8, [10, 11]), (rgn 0 10, [11]), (rgn 0 11, [])] (fun L ac w => ∃ (ad25 : Option Addr) (ad26 : Option Addr) (cp27 : Nat), St 56 ⟨w0, [], [(true, cL am ks.length cm vs), (true, .bys vs ks), (true, cL aa js.length ca us), (true, .bys us js), (true, cL ad8 ks5.length cp9 vs10), (true, .bys vs10 ks5), (true, cL ad11 js6.length cp12 us13), (true, .bys us13 js6), (true, cL ad14 p4.length cp15 (bcs p4)), (L 5, oW ad25 1 1 34 ([.slice ad14 p4.length cp15])), (L 6, oW ad26 ((js ++ [p4]).length) cp27 34 (us ++ [.slice ad14 p4.length cp15]))], Z, noX⟩ [(22, L 0, ptA g16 0), (23, L 1, .slice ad8 ks5.length cp9), (24, L 2, ptA g1 1), (25, L 3, .slice aa js.length ca), (26, L 4, .slice ad14 p4.length cp15), (27, L 5, .slice ad25 1 1), (28, L 6, .slice ad26 ((js ++ [p4]).length) cp27), (29, L 7, .tuple #[.agg #[.slice none 0 0, .slice none 0 0], ni64 (chkL ks5 (js ++ [p4]))]), (30, L 8, .agg #[.slice none 0 0, .slice none 0 0]), (31, L 9, ni64 (chkL ks5 (js ++ [p4]))), (5, L 11, ni64 (chkL ks5 (js ++ [p4]))), (3, true, ptA g1 0), (4, true, ptA g2 0), (5, true, .int .i64 0), (7, true, ptA g16 0), (6, true, .slice ad14 p4.length cp15)] [(true, g1, 24, [.slice am ks.length cm, .slice aa js.length ca]), (true, g2, 24, (cond (L 10) [.slice none 0 0, .slice none 0 0] [.slice none 0 0, .slice none 0 0])), (true, g16, 24, [.slice ad8 ks5.length cp9, .slice ad11 js6.length cp12])] ac w) (by kernel_rfl) (by kernel_rfl) ?_ ?_ ?_
  ·exact ⟨none, none, 0, hs.drew.s4.s4.skip.skip.skip.padS.padS⟩
  ·refine ⟨?_, ?_, ?_, ?_, ?_, ?_, ?_, ?_, ?_, ?_, ?_, ?_, trivial⟩
   ·exact fun L ac w ⟨ad25, ad26, cp27, hs⟩ => pln (op_fieldA hs (some 0) rfl rfl rfl underlying24 rfl sizeOf22 (by decide) rfl fun ac hs => ⟨ad25, ad26, cp27, hs⟩)
   ·exact fun L ac w ⟨ad25, ad26, cp27, hs⟩ => pln (oldd hs 1 2 (.slice ad8 ks5.length cp9) isAgg22 sizeOf22 rfl rfl rfl rfl rfl fun ac hs => ⟨ad25, ad26, cp27, hs⟩)
   ·exact fun L ac w ⟨ad25, ad26, cp27, hs⟩ => pln (op_fieldA hs (some 2) rfl rfl rfl underlying24 rfl sizeOf22 (by decide) rfl fun ac hs => ⟨ad25, ad26, cp27, hs⟩)
   ·exact fun L ac w ⟨ad25, ad26, cp27, hs⟩ => pln (oldd hs 3 0 (.slice aa js.length ca) isAgg22 sizeOf22 rfl rfl rfl rfl rfl fun ac hs => ⟨ad25, ad26, cp27, hs⟩)
   ·exact fun L ac w ⟨ad25, ad26, cp27, hs⟩ => pln (omv hs 4 rfl rfl rfl fun ac hs => ⟨ad25, ad26, cp27, hs⟩)
   ·exact fun L ac w ⟨ad25, ad26, cp27, hs⟩ => pln (op_bsO hs (some 5) (some 9) (qs := [(0, .slice ad14 p4.length cp15)]) (cs := [.slice ad14 p4.length cp15]) rfl rfl rfl rfl underlying22 inf_slice_34 (by decide) (by decide) (fill_one _ _ rfl) rfl rfl rfl rfl fun ad25 ac w hs => ⟨ad25, ad26, cp27, hs⟩)
   ·exact fun L ac w ⟨ad25, ad26, cp27, hs⟩ => pln (op_callV (F := 36) (ρ := Option Addr × Nat) hs (some 6) (some 10) (v := fun r => .slice r.1 ((js ++ [p4]).length) r.2) (E := fun r => [oW r.1 ((js ++ [p4]).length) r.2 34 (us ++ [Value.slice ad14 p4.length cp15])]) (j := 1) rfl rfl rfl rfl (call36 _) (fun hs => with_c aa ca us js ad25 1 ([.slice ad14 p4.length cp15]) ([p4]) (show js.length + ([p4]).length ≤ 1000000 by first | omega | ((try simp only [List.length_drop, List.length_take, List.length_append, List.length_cons, List.length_nil]); omega)) _ _ (hs.celT (k := 2) rfl) (hs.rowB (k := 3) (G := noX) (.inr rfl)) (hs.celT (k := 9) rfl) (bysv_snoc bysv_nil (hs.celT (k := 8) rfl))) (fun _ => rfl) (fun _ => rfl) rfl rfl fun ⟨ad26, cp27⟩ ac w hs => ⟨ad25, ad26, cp27, hs⟩)
   ·exact fun L ac w ⟨ad25, ad26, cp27, hs⟩ => pln (op_callV (F := 35) (ρ := Unit) hs (some 7) none (v := fun r => .tuple #[.agg #[.slice none 0 0, .slice none 0 0], ni64 (chkL ks5 (js ++ [p4]))]) (E := fun r => []) (j := 0) rfl rfl rfl rfl (call35 _) (fun hs => checkedF_c ad8 cp9 vs10 ad26 cp27 (us ++ [Value.slice ad14 p4.length cp15]) ks5 (js ++ [p4]) (chkL ks5 (js ++ [p4])) hq19 (oks5.mono (by decide)) ((OkN.snoc oj lp4).mono (by decide)) rfl _ _ (hs.celT (k := 4) rfl) (hs.rowB (k := 5) (G := noX) (.inr rfl)) (hs.celT (k := 10) rfl) (bysv_app (hs.rowB (k := 3) (G := noX) (.inr rfl)) (bysv_snoc bysv_nil (hs.celT (k := 8) rfl)))) (fun _ => rfl) (fun _ => rfl) rfl rfl fun _ ac w hs => ⟨ad25, ad26, cp27, hs⟩)
   ·exact fun L ac w ⟨ad25, ad26, cp27, hs⟩ => pln (xtr hs (some 8) rfl rfl rfl rfl rfl fun ac hs => ⟨ad25, ad26, cp27, hs⟩)
   ·exact fun L ac w ⟨ad25, ad26, cp27, hs⟩ => pln (xtr hs (some 9) rfl rfl rfl rfl rfl fun ac hs => ⟨ad25, ad26, cp27, hs⟩)
   ·exact fun L ac w ⟨ad25, ad26, cp27, hs⟩ => pln (stoo hs 1 ([.slice none 0 0, .slice none 0 0]) sizeOf24 rfl rfl rfl rfl rfl rfl rfl rfl rfl rfl fun w hs => ⟨ad25, ad26, cp27, hs⟩)
   ·exact fun L ac w ⟨ad25, ad26, cp27, hs⟩ => pln (oas hs 10 rfl rfl rfl fun ac hs => ⟨ad25, ad26, cp27, hs⟩)
  intro ac w ⟨ad25, ad26, cp27, hs⟩
  try dsimp only [cond_true] at hs
  refine then_n (wp_ret (then_r ?_))
  have HS := hs
  have h0 := hp
  rw [altP_ok hp3 hks5] at h0
  unfold donL at h0
  rw [if_pos rfl] at h0
  rw [if_neg hq19] at h0
  obtain ⟨hk, hj, he⟩ := inj3 h0
  subst hk
  subst hj
  subst he
  have hs := HS
  replace hs := hs.nilCel none rfl
  replace hs := hs.nilBys none rfl
  replace hs := hs.nilCel none rfl
  replace hs := hs.nilBys none rfl
  exact bodyPost_ret (res2 rfl (rv_c hs 1 (v := .agg #[.slice none 0 0, .slice none 0 0]) rfl rfl isAgg24 sizeOf24 rfl) (rv_t hs rfl)) hs.defers ⟨⟨none, 0, [], none, 0, []⟩, rfl, hs.bel rfl, hs.retS (ks := [11, 12, 13, 14]) rfl (by decide)⟩
 intro hc
 have hp28 := of_decide_eq_false hc
 refine wp_skip (then_n (wp_seq (wp_region_lit (stp (op_fieldA hs none rfl rfl rfl underlying24 rfl sizeOf22 (by decide) rfl fun ac hs => ldd hs 0 (.slice aa js.length ca) isAgg22 sizeOf22 rfl rfl rfl rfl rfl fun ac hs => stp (op_blt hs none (v := ni64 (js.length)) rfl rfl rfl (blt_len underlying22) rfl fun ac hs => asg hs rfl rfl rfl fun ac hs => wpList_nil (then_n (wp_seq (wp_seq ?_)))))))))
 replace hs := hs.nf w0 Z noX [3, 4, 5, 9] rfl rfl rfl rfl
 refine wp_region_lit (mvv hs rfl rfl rfl fun ac hs => bnn hs (.bool (decide (js.length = 0))) rfl rfl rfl rfl (bin_eqlN (y := 0)) fun ac hs => wpList_nil (then_n (wcs hs rfl ?_ ?_)))
 ·intro hc
  have hp29 := of_decide_eq_true hc
  have hj0 : js.length = 0 := of_decide_eq_true hc
  refine wp_seq (wp_region_lit (stp (op_build hs none (qs := []) (v := .agg #[.slice none 0 0, .slice none 0 0]) rfl rfl rfl rfl (fun _ => by kernel_rfl) rfl fun ac hs => stp (stoo hs 1 ([.slice none 0 0, .slice none 0 0]) sizeOf24 rfl rfl rfl rfl rfl rfl rfl rfl rfl rfl fun w hs => asg hs rfl rfl rfl fun ac hs => wpList_nil (then_n (wp_ret (then_r ?_)))))))
  have HS := hs
  have h0 := hp
  unfold altP at h0
  rw [if_neg hp28] at h0
  rw [if_pos hj0] at h0
  obtain ⟨hk, hj, he⟩ := inj3 h0
  subst hk
  subst hj
  subst he
  have hs := HS
  replace hs := hs.nilCel none rfl
  replace hs := hs.nilBys none rfl
  replace hs := hs.nilCel none rfl
  replace hs := hs.nilBys none rfl
  exact bodyPost_ret (res2 rfl (rv_c hs 1 (v := .agg #[.slice none 0 0, .slice none 0 0]) rfl rfl isAgg24 sizeOf24 rfl) (rv_t hs rfl)) hs.defers ⟨⟨none, 0, [], none, 0, []⟩, rfl, hs.bel rfl, hs.retS (ks := [4, 5, 6, 7]) rfl (by decide)⟩
 intro hc
 have hp30 := of_decide_eq_false hc
 have hj0 : ¬ js.length = 0 := of_decide_eq_false hc
 obtain ⟨li, hli⟩ : ∃ z, js[js.length - 1]? = some z := ⟨_, List.getElem?_eq_getElem (show js.length - 1 < js.length by omega)⟩
 obtain ⟨al, cl, hvl⟩ := bysv_at (hs.all (k := 3) rfl rfl) hli
 replace hs := hs.pick none 3 rfl hvl hli rfl
 have lli : li.length ≤ 1000 := oj.2 _ (List.mem_of_getElem? hli)
 refine wp_skip (then_n (wp_seq ?_))
 by_cases hq31 : chkL (ks ++ [li]) (js.take (js.length - 1)) = 0
 ·replace hs := hs.nf w0 Z noX [3, 4, 5, 9] rfl rfl rfl rfl
  refine region_inv [([], [1, 9, 15, 16, 17, 18, 19]), ([0], [9, 15, 16, 17, 18, 19]), ([], [3, 6, 7, 8, 9, 15, 16, 17, 18, 19]), ([2], [6, 7, 8, 9, 15, 16, 17, 18, 19]), ([], [5, 6, 7, 8, 9, 15, 16, 17, 18, 19]), ([4], [6, 7, 8, 9, 15, 16, 17, 18, 19]), (rgn 2 4, [7, 8, 9, 15, 16, 17, 18, 19]), (rgn 2 5, [8, 9, 15, 16, 17, 18, 19]), (rgn 2 6, [9, 15, 16, 17, 18, 19]), (rgn 0 9, rgn 15 5), ([], [11, 14, 15, 16, 17, 18, 19]), ([10], rgn 14 6), ([], rgn 13 7), ([12], rgn 14 6), (rgn 10 4, rgn 15 5), (rgn 0 15, rgn 16 4), (rgn 0 16, [18, 19]), (rgn 0 16, [18, 19]), (rgn 0 18, [19]), (rgn 0 19, [])] (fun L ac w => ∃ (ad33 : Option Addr) (ad34 : Option Addr) (cp35 : Nat), St 56 ⟨w0, [], [(true, cL am ks.length cm vs), (true, .bys vs ks), (true, cL aa js.length ca us), (true, .bys us js), (true, cL al li.length cl (bcs li)), (L 8, oW ad33 1 1 34 ([.slice al li.length cl])), (L 9, oW ad34 ((ks ++ [li]).length) cp35 34 (vs ++ [.slice al li.length cl])), (L 14, cL (vsa aa ca 1 0) ((js.take (js.length - 1)).length) (ca - 0) (us.take (js.length - 1)))], Z, noX⟩ [(38, L 0, ptA g1 0), (39, L 1, .slice am ks.length cm), (40, L 2, ptA g1 1), (41, L 3, .slice aa js.length ca), (42, L 4, ni64 (js.length)), (43, L 5, ni64 (js.length - 1)), (44, L 6, vidx (.slice aa js.length ca) (js.length - 1)), (45, L 7, .slice al li.length cl), (46, L 8, .slice ad33 1 1), (47, L 9, .slice ad34 ((ks ++ [li]).length) cp35), (48, L 10, ptA g1 1), (49, L 11, .slice aa js.length ca), (50, L 12, ni64 (js.length)), (51, L 13, ni64 (js.length - 1)), (52, L 14, .slice (vsa aa ca 1 0) ((js.take (js.length - 1)).length) (ca - 0)), (53, L 15, cond (L 15) (.tuple #[.agg #[.slice ad34 ((ks ++ [li]).length) cp35, .slice (vsa aa ca 1 0) ((js.take (js.length - 1)).length) (ca - 0)], .int .i64 0]) undef), (54, L 16, cond (L 16) (.agg #[.slice ad34 ((ks ++ [li]).length) cp35, .slice (vsa aa ca 1 0) ((js.take (js.length - 1)).length) (ca - 0)]) undef), (55, L 17, .int .i64 0), (5, L 19, .int .i64 0), (3, true, ptA g1 0), (4, true, ptA g2 0), (5, true, .int .i64 0), (9, true, ni64 (js.length))] [(true, g1, 24, [.slice am ks.length cm, .slice aa js.length ca]), (true, g2, 24, (cond (L 18) [.slice ad34 ((ks ++ [li]).length) cp35, .slice (vsa aa ca 1 0) ((js.take (js.length - 1)).length) (ca - 0)] [.slice none 0 0, .slice none 0 0]))] ac w) (by kernel_rfl) (by kernel_rfl) ?_ ?_ ?_
  ·exact ⟨none, none, 0, hs.drew.s4.s4.s4.s4.skip.skip.skip.padS.padS.padS⟩
  ·refine ⟨?_, ?_, ?_, ?_, ?_, ?_, ?_, ?_, ?_, ?_, ?_, ?_, ?_, ?_, ?_, ?_, ?_, ?_, ?_, ?_, trivial⟩
   ·exact fun L ac w ⟨ad33, ad34, cp35, hs⟩ => pln (op_fieldA hs (some 0) rfl rfl rfl underlying24 rfl sizeOf22 (by decide) rfl fun ac hs => ⟨ad33, ad34, cp35, hs⟩)
   ·exact fun L ac w ⟨ad33, ad34, cp35, hs⟩ => pln (oldd hs 1 0 (.slice am ks.length cm) isAgg22 sizeOf22 rfl rfl rfl rfl rfl fun ac hs => ⟨ad33, ad34, cp35, hs⟩)
   ·exact fun L ac w ⟨ad33, ad34, cp35, hs⟩ => pln (op_fieldA hs (some 2) rfl rfl rfl underlying24 rfl sizeOf22 (by decide) rfl fun ac hs => ⟨ad33, ad34, cp35, hs⟩)
   ·exact fun L ac w ⟨ad33, ad34, cp35, hs⟩ => pln (oldd hs 3 0 (.slice aa js.length ca) isAgg22 sizeOf22 rfl rfl rfl rfl rfl fun ac hs => ⟨ad33, ad34, cp35, hs⟩)
   ·exact fun L ac w ⟨ad33, ad34, cp35, hs⟩ => pln (omv hs 4 rfl rfl rfl fun ac hs => ⟨ad33, ad34, cp35, hs⟩)
   ·exact fun L ac w ⟨ad33, ad34, cp35, hs⟩ => pln (obn hs 5 (ni64 (js.length - 1)) rfl rfl rfl rfl (bin_subN (y := 1) (by omega) (show js.length - 1 < 9223372036854775808 by omega)) fun ac hs => ⟨ad33, ad34, cp35, hs⟩)
   ·exact fun L ac w ⟨ad33, ad34, cp35, hs⟩ => pln (op_idxC hs (some 6) 2 (j := js.length - 1) rfl rfl rfl rfl rfl underlying22 sizeOf34 (show js.length - 1 < js.length by omega) (off := js.length - 1) (by omega) rfl fun ac hs => ⟨ad33, ad34, cp35, hs⟩)
   ·exact fun L ac w ⟨ad33, ad34, cp35, hs⟩ => pln (op_loadC hs (some 7) 2 (u := .slice al li.length cl) rfl rfl rfl rfl isAgg34 sizeOf34 (by decide) hvl rfl fun ac hs => ⟨ad33, ad34, cp35, hs⟩)
   ·exact fun L ac w ⟨ad33, ad34, cp35, hs⟩ => pln (op_bsO hs (some 8) (some 5) (qs := [(0, .slice al li.length cl)]) (cs := [.slice al li.length cl]) rfl rfl rfl rfl underlying22 inf_slice_34 (by decide) (by decide) (fill_one _ _ rfl) rfl rfl rfl rfl fun ad33 ac w hs => ⟨ad33, ad34, cp35, hs⟩)
   ·exact fun L ac w ⟨ad33, ad34, cp35, hs⟩ => pln (op_callV (F := 36) (ρ := Option Addr × Nat) hs (some 9) (some 6) (v := fun r => .slice r.1 ((ks ++ [li]).length) r.2) (E := fun r => [oW r.1 ((ks ++ [li]).length) r.2 34 (vs ++ [Value.slice al li.length cl])]) (j := 1) rfl rfl rfl rfl (call36 _) (fun hs => with_c am cm vs ks ad33 1 ([.slice al li.length cl]) ([li]) (show ks.length + ([li]).length ≤ 1000000 by first | omega | ((try simp only [List.length_drop, List.length_take, List.length_append, List.length_cons, List.length_nil]); omega)) _ _ (hs.celT (k := 0) rfl) (hs.rowB (k := 1) (G := noX) (.inr rfl)) (hs.celT (k := 5) rfl) (bysv_snoc bysv_nil (hs.celT (k := 4) rfl))) (fun _ => rfl) (fun _ => rfl) rfl rfl fun ⟨ad34, cp35⟩ ac w hs => ⟨ad33, ad34, cp35, hs⟩)
   ·exact fun L ac w ⟨ad33, ad34, cp35, hs⟩ => pln (op_fieldA hs (some 10) rfl rfl rfl underlying24 rfl sizeOf22 (by decide) rfl fun ac hs => ⟨ad33, ad34, cp35, hs⟩)
   ·exact fun L ac w ⟨ad33, ad34, cp35, hs⟩ => pln (oldd hs 11 0 (.slice aa js.length ca) isAgg22 sizeOf22 rfl rfl rfl rfl rfl fun ac hs => ⟨ad33, ad34, cp35, hs⟩)
   ·exact fun L ac w ⟨ad33, ad34, cp35, hs⟩ => pln (omv hs 12 rfl rfl rfl fun ac hs => ⟨ad33, ad34, cp35, hs⟩)
   ·exact fun L ac w ⟨ad33, ad34, cp35, hs⟩ => pln (obn hs 13 (ni64 (js.length - 1)) rfl rfl rfl rfl (bin_subN (y := 1) (by omega) (show js.length - 1 < 9223372036854775808 by omega)) fun ac hs => ⟨ad33, ad34, cp35, hs⟩)
   ·exact fun L ac w ⟨ad33, ad34, cp35, hs⟩ => pln (op_sliceR hs (some 14) (some 7) 2 0 (js.length - 1) (N' := (js.take (js.length - 1)).length) (cs' := us.take (js.length - 1)) rfl rfl rfl rfl (.inl ⟨rfl, rfl⟩) (.inr ⟨_, _, rfl, rfl⟩) underlying22 sizeOf34 (show 0 ≤ js.length - 1 by omega) (show js.length - 1 ≤ js.length by omega) (by rw [List.length_take]; omega) (by simp) rfl rfl fun ac hs => ⟨ad33, ad34, cp35, hs⟩)
   ·exact fun L ac w ⟨ad33, ad34, cp35, hs⟩ => pln (op_callV (F := 35) (ρ := Unit) hs (some 15) none (v := fun r => .tuple #[.agg #[.slice ad34 ((ks ++ [li]).length) cp35, .slice (vsa aa ca 1 0) ((js.take (js.length - 1)).length) (ca - 0)], .int .i64 0]) (E := fun r => []) (j := 0) rfl rfl rfl rfl (call35 _) (fun hs => checkedT_c ad34 cp35 (vs ++ [Value.slice al li.length cl]) (vsa aa ca 1 0) (ca - 0) (us.take (js.length - 1)) (ks ++ [li]) (js.take (js.length - 1)) ((OkN.snoc ok lli).mono (by decide)) ((oj.take (js.length - 1)).mono (by decide)) hq31 _ _ (hs.celT (k := 6) rfl) (bysv_app (hs.rowB (k := 1) (G := noX) (.inr rfl)) (bysv_snoc bysv_nil (hs.celT (k := 4) rfl))) (hs.celT (k := 7) rfl) ((hs.rowB (k := 3) (G := noX) (.inr rfl)).take (js.length - 1))) (fun _ => rfl) (fun _ => rfl) rfl rfl fun _ ac w hs => ⟨ad33, ad34, cp35, hs⟩)
   ·exact fun L ac w ⟨ad33, ad34, cp35, hs⟩ => pln (xtr hs (some 16) rfl rfl rfl rfl rfl fun ac hs => ⟨ad33, ad34, cp35, hs⟩)
   ·exact fun L ac w ⟨ad33, ad34, cp35, hs⟩ => pln (xtr hs (some 17) rfl rfl rfl rfl rfl fun ac hs => ⟨ad33, ad34, cp35, hs⟩)
   ·exact fun L ac w ⟨ad33, ad34, cp35, hs⟩ => pln (stoo hs 1 ([.slice ad34 ((ks ++ [li]).length) cp35, .slice (vsa aa ca 1 0) ((js.take (js.length - 1)).length) (ca - 0)]) sizeOf24 rfl rfl rfl rfl rfl rfl rfl rfl rfl rfl fun w hs => ⟨ad33, ad34, cp35, hs⟩)
   ·exact fun L ac w ⟨ad33, ad34, cp35, hs⟩ => pln (oas hs 18 rfl rfl rfl fun ac hs => ⟨ad33, ad34, cp35, hs⟩)
  intro ac w ⟨ad33, ad34, cp35, hs⟩
  try dsimp only [cond_true] at hs
  refine then_n (wp_ret ?_)
  have HS := hs
  have h0 := hp
  unfold altP at h0
  rw [if_neg hp28] at h0
  rw [if_neg hj0, show lastB js = li from getD_of hli] at h0
  unfold donL at h0
  rw [if_pos rfl] at h0
  rw [if_pos hq31] at h0
  obtain ⟨hk, hj, he⟩ := inj3 h0
  subst hk
  subst hj
  subst he
  have hs := HS
  replace hs := hs.freeze 6 rfl
  replace hs := hs.nilBys none rfl
  replace hs := hs.snocBys (l := li) (ls' := [li]) 8 4 rfl rfl rfl
  replace hs := hs.bysEq 8 (vs' := [.slice al li.length cl]) (ls' := [li]) rfl rfl rfl
  replace hs := hs.joinY none 1 8 rfl rfl rfl
  replace hs := hs.takeY none 3 (js.length - 1) rfl rfl
  exact bodyPost_ret (res2 rfl (rv_c hs 1 (v := .agg #[.slice ad34 ((ks ++ [li]).length) cp35, .slice (vsa aa ca 1 0) ((js.take (js.length - 1)).length) (ca - 0)]) rfl rfl isAgg24 sizeOf24 rfl) (rv_t hs rfl)) hs.defers ⟨⟨ad34, cp35, vs ++ [.slice al li.length cl], (vsa aa ca 1 0), ca - 0, us.take (js.length - 1)⟩, rfl, hs.bel rfl, hs.retS (ks := [6, 9, 7, 10]) rfl (by decide)⟩
 replace hs := hs.nf w0 Z noX [3, 4, 5, 9] rfl rfl rfl rfl
 refine region_inv [([], [1, 9, 15, 16, 17, 18, 19]), ([0], [9, 15, 16, 17, 18, 19]), ([], [3, 6, 7, 8, 9, 15, 16, 17, 18, 19]), ([2], [6, 7, 8, 9, 15, 16, 17, 18, 19]), ([], [5, 6, 7, 8, 9, 15, 16, 17, 18, 19]), ([4], [6, 7, 8, 9, 15, 16, 17, 18, 19]), (rgn 2 4, [7, 8, 9, 15, 16, 17, 18, 19]), (rgn 2 5, [8, 9, 15, 16, 17, 18, 19]), (rgn 2 6, [9, 15, 16, 17, 18, 19]), (rgn 0 9, rgn 15 5), ([], [11, 14, 15, 16, 17, 18, 19]), ([10], rgn 14 6), ([], rgn 13 7), ([12], rgn 14 6), (rgn 10 4, rgn 15 5), (rgn 0 15, rgn 16 4), (rgn 0 16, [18, 19]), (rgn 0 16, [18, 19]), (rgn 0 18, [19]), (rgn 0 19, [])] (fun L ac w => ∃ (ad37 : Option Addr) (ad38 : Option Addr) (cp39 : Nat), St 56 ⟨w0, [], [(true, cL am ks.length cm vs), (true, .bys vs ks), (true, cL aa js.length ca us), (true, .bys us js), (true, cL al li.length cl (bcs li)), (L 8, oW ad37 1 1 34 ([.slice al li.length cl])), (L 9, oW ad38 ((ks ++ [li]).length) cp39 34 (vs ++ [.slice al li.length cl])), (L 14, cL (vsa aa ca 1 0) ((js.take (js.length - 1)).length) (ca - 0) (us.take (js.length - 1)))], Z, noX⟩ [(38, L 0, ptA g1 0), (39, L 1, .slice am ks.length cm), (40, L 2, ptA g1 1), (41, L 3, .slice aa js.length ca), (42, L 4, ni64 (js.length)), (43, L 5, ni64 (js.length - 1)), (44, L 6, vidx (.slice aa js.length ca) (js.length - 1)), (45, L 7, .slice al li.length cl), (46, L 8, .slice ad37 1 1), (47, L 9, .slice ad38 ((ks ++ [li]).length) cp39), (48, L 10, ptA g1 1), (49, L 11, .slice aa js.length ca), (50, L 12, ni64 (js.length)), (51, L 13, ni64 (js.length - 1)), (52, L 14, .slice (vsa aa ca 1 0) ((js.take (js.length - 1)).length) (ca - 0)), (53, L 15, .tuple #[.agg #[.slice none 0 0, .slice none 0 0], .int .i64 ((chkL (ks ++ [li]) (js.take (js.length - 1)) : Nat) : Int)]), (54, L 16, .agg #[.slice none 0 0, .slice none 0 0]), (55, L 17, .int .i64 ((chkL (ks ++ [li]) (js.take (js.length - 1)) : Nat) : Int)), (5, L 19, .int .i64 ((chkL (ks ++ [li]) (js.take (js.length - 1)) : Nat) : Int)), (3, true, ptA g1 0), (4, true, ptA g2 0), (5, true, .int .i64 0), (9, true, ni64 (js.length))] [(true, g1, 24, [.slice am ks.length cm, .slice aa js.length ca]), (true, g2, 24, (cond (L 18) [.slice none 0 0, .slice none 0 0] [.slice none 0 0, .slice none 0 0]))] ac w) (by kernel_rfl) (by kernel_rfl) ?_ ?_ ?_
 ·exact ⟨none, none, 0, hs.drew.s4.s4.s4.s4.skip.skip.skip.padS.padS.padS⟩
 ·refine ⟨?_, ?_, ?_, ?_, ?_, ?_, ?_, ?_, ?_, ?_, ?_, ?_, ?_, ?_, ?_, ?_, ?_, ?_, ?_, ?_, trivial⟩
  ·exact fun L ac w ⟨ad37, ad38, cp39, hs⟩ => pln (op_fieldA hs (some 0) rfl rfl rfl underlying24 rfl sizeOf22 (by decide) rfl fun ac hs => ⟨ad37, ad38, cp39, hs⟩)
  ·exact fun L ac w ⟨ad37, ad38, cp39, hs⟩ => pln (oldd hs 1 0 (.slice am ks.length cm) isAgg22 sizeOf22 rfl rfl rfl rfl rfl fun ac hs => ⟨ad37, ad38, cp39, hs⟩)
  ·exact fun L ac w ⟨ad37, ad38, cp39, hs⟩ => pln (op_fieldA hs (some 2) rfl rfl rfl underlying24 rfl sizeOf22 (by decide) rfl fun ac hs => ⟨ad37, ad38, cp39, hs⟩)
  ·exact fun L ac w ⟨ad37, ad38, cp39, hs⟩ => pln (oldd hs 3 0 (.slice aa js.length ca) isAgg22 sizeOf22 rfl rfl rfl rfl rfl fun ac hs => ⟨ad37, ad38, cp39, hs⟩)
  ·exact fun L ac w ⟨ad37, ad38, cp39, hs⟩ => pln (omv hs 4 rfl rfl rfl fun ac hs => ⟨ad37, ad38, cp39, hs⟩)
  ·exact fun L ac w ⟨ad37, ad38, cp39, hs⟩ => pln (obn hs 5 (ni64 (js.length - 1)) rfl rfl rfl rfl (bin_subN (y := 1) (by omega) (show js.length - 1 < 9223372036854775808 by omega)) fun ac hs => ⟨ad37, ad38, cp39, hs⟩)
  ·exact fun L ac w ⟨ad37, ad38, cp39, hs⟩ => pln (op_idxC hs (some 6) 2 (j := js.length - 1) rfl rfl rfl rfl rfl underlying22 sizeOf34 (show js.length - 1 < js.length by omega) (off := js.length - 1) (by omega) rfl fun ac hs => ⟨ad37, ad38, cp39, hs⟩)
  ·exact fun L ac w ⟨ad37, ad38, cp39, hs⟩ => pln (op_loadC hs (some 7) 2 (u := .slice al li.length cl) rfl rfl rfl rfl isAgg34 sizeOf34 (by decide) hvl rfl fun ac hs => ⟨ad37, ad38, cp39, hs⟩)
  ·exact fun L ac w ⟨ad37, ad38, cp39, hs⟩ => pln (op_bsO hs (some 8) (some 5) (qs := [(0, .slice al li.length cl)]) (cs := [.slice al li.length cl]) rfl rfl rfl rfl underlying22 inf_slice_34 (by decide) (by decide) (fill_one _ _ rfl) rfl rfl rfl rfl fun ad37 ac w hs => ⟨ad37, ad38, cp39, hs⟩)
  ·exact fun L ac w ⟨ad37, ad38, cp39, hs⟩ => pln (op_callV (F := 36) (ρ := Option Addr × Nat) hs (some 9) (some 6) (v := fun r => .slice r.1 ((ks ++ [li]).length) r.2) (E := fun r => [oW r.1 ((ks ++ [li]).length) r.2 34 (vs ++ [Value.slice al li.length cl])]) (j := 1) rfl rfl rfl rfl (call36 _) (fun hs => with_c am cm vs ks ad37 1 ([.slice al li.length cl]) ([li]) (show ks.length + ([li]).length ≤ 1000000 by first | omega | ((try simp only [List.length_drop, List.length_take, List.length_append, List.length_cons, List.length_nil]); omega)) _ _ (hs.celT (k := 0) rfl) (hs.rowB (k := 1) (G := noX) (.inr rfl)) (hs.celT (k := 5) rfl) (bysv_snoc bysv_nil (hs.celT (k := 4) rfl))) (fun _ => rfl) (fun _ => rfl) rfl rfl fun ⟨ad38, cp39⟩ ac w hs => ⟨ad37, ad38, cp39, hs⟩)
  ·exact fun L ac w ⟨ad37, ad38, cp39, hs⟩ => pln (op_fieldA hs (some 10) rfl rfl rfl underlying24 rfl sizeOf22 (by decide) rfl fun ac hs => ⟨ad37, ad38, cp39, hs⟩)
  ·exact fun L ac w ⟨ad37, ad38, cp39, hs⟩ => pln (oldd hs 11 0 (.slice aa js.length ca) isAgg22 sizeOf22 rfl rfl rfl rfl rfl fun ac hs => ⟨ad37, ad38, cp39, hs⟩)
  ·exact fun L ac w ⟨ad37, ad38, cp39, hs⟩ => pln (omv hs 12 rfl rfl rfl fun ac hs => ⟨ad37, ad38, cp39, hs⟩)
  ·exact fun L ac w ⟨ad37, ad38, cp39, hs⟩ => pln (obn hs 13 (ni64 (js.length - 1)) rfl rfl rfl rfl (bin_subN (y := 1) (by omega) (show js.length - 1 < 9223372036854775808 by omega)) fun ac hs => ⟨ad37, ad38, cp39, hs⟩)
  ·exact fun L ac w ⟨ad37, ad38, cp39, hs⟩ => pln (op_sliceR hs (some 14) (some 7) 2 0 (js.length - 1) (N' := (js.take (js.length - 1)).length) (cs' := us.take (js.length - 1)) rfl rfl rfl rfl (.inl ⟨rfl, rfl⟩) (.inr ⟨_, _, rfl, rfl⟩) underlying22 sizeOf34 (show 0 ≤ js.length - 1 by omega) (show js.length - 1 ≤ js.length by omega) (by rw [List.length_take]; omega) (by simp) rfl rfl fun ac hs => ⟨ad37, ad38, cp39, hs⟩)
  ·exact fun L ac w ⟨ad37, ad38, cp39, hs⟩ => pln (op_callV (F := 35) (ρ := Unit) hs (some 15) none (v := fun r => .tuple #[.agg #[.slice none 0 0, .slice none 0 0], .int .i64 ((chkL (ks ++ [li]) (js.take (js.length - 1)) : Nat) : Int)]) (E := fun r => []) (j := 0) rfl rfl rfl rfl (call35 _) (fun hs => checkedF_c ad38 cp39 (vs ++ [Value.slice al li.length cl]) (vsa aa ca 1 0) (ca - 0) (us.take (js.length - 1)) (ks ++ [li]) (js.take (js.length - 1)) (chkL (ks ++ [li]) (js.take (js.length - 1))) hq31 ((OkN.snoc ok lli).mono (by decide)) ((oj.take (js.length - 1)).mono (by decide)) rfl _ _ (hs.celT (k := 6) rfl) (bysv_app (hs.rowB (k := 1) (G := noX) (.inr rfl)) (bysv_snoc bysv_nil (hs.celT (k := 4) rfl))) (hs.celT (k := 7) rfl) ((hs.rowB (k := 3) (G := noX) (.inr rfl)).take (js.length - 1))) (fun _ => rfl) (fun _ => rfl) rfl rfl fun _ ac w hs => ⟨ad37, ad38, cp39, hs⟩)
  ·exact fun L ac w ⟨ad37, ad38, cp39, hs⟩ => pln (xtr hs (some 16) rfl rfl rfl rfl rfl fun ac hs => ⟨ad37, ad38, cp39, hs⟩)
  ·exact fun L ac w ⟨ad37, ad38, cp39, hs⟩ => pln (xtr hs (some 17) rfl rfl rfl rfl rfl fun ac hs => ⟨ad37, ad38, cp39, hs⟩)
  ·exact fun L ac w ⟨ad37, ad38, cp39, hs⟩ => pln (stoo hs 1 ([.slice none 0 0, .slice none 0 0]) sizeOf24 rfl rfl rfl rfl rfl rfl rfl rfl rfl rfl fun w hs => ⟨ad37, ad38, cp39, hs⟩)
  ·exact fun L ac w ⟨ad37, ad38, cp39, hs⟩ => pln (oas hs 18 rfl rfl rfl fun ac hs => ⟨ad37, ad38, cp39, hs⟩)
 intro ac w ⟨ad37, ad38, cp39, hs⟩
 try dsimp only [cond_true] at hs
 refine then_n (wp_ret ?_)
 have HS := hs
 have h0 := hp
 unfold altP at h0
 rw [if_neg hp28] at h0
 rw [if_neg hj0, show lastB js = li from getD_of hli] at h0
 unfold donL at h0
 rw [if_pos rfl] at h0
 rw [if_neg hq31] at h0
 obtain ⟨hk, hj, he⟩ := inj3 h0
 subst hk
 subst hj
 subst he
 have hs := HS
 replace hs := hs.nilCel none rfl
 replace hs := hs.nilBys none rfl
 replace hs := hs.nilCel none rfl
 replace hs := hs.nilBys none rfl
 exact bodyPost_ret (res2 rfl (rv_c hs 1 (v := .agg #[.slice none 0 0, .slice none 0 0]) rfl rfl isAgg24 sizeOf24 rfl) (rv_t hs rfl)) hs.defers ⟨⟨none, 0, [], none, 0, []⟩, rfl, hs.bel rfl, hs.retS (ks := [8, 9, 10, 11]) rfl (by decide)⟩
theorem rdeep_c (am : Option Addr) (cm : Nat) (vs : List Value) (aa : Option Addr) (ca : Nat) (us : List Value) (ks js : BL) (op : Nat) (k1 j1 : BL) (e1 : Nat) (ok : OkN 1000 ks) (oj : OkN 1000 js) (hp : deepP op ks js = (k1, j1, e1)) (w0 : World) (Z : Nat → Prop) (hV : CelV w0 Z (.slice am ks.length cm) ks.length vs) (hY : BysV w0 Z vs ks) (hU : CelV w0 Z (.slice aa js.length ca) js.length us) (hX : BysV w0 Z us js): Calls prog 31 #[nu8 op, .agg #[.slice am ks.length cm, .slice aa js.length ca]] w0 fun e w' => Ret w0 Z (ρ := MR) (fun r => .tuple #[.agg #[.slice r.a k1.length r.c, .slice r.b j1.length r.d], ni64 e1]) (fun r => [cL r.a k1.length r.c r.vs, .bys r.vs k1, cL r.b j1.length r.d r.us, .bys r.us j1]) e w' := by
 have hk8 : ks.length ≤ 1000 := ok.1
 have hj8 : js.length ≤ 1000 := oj.1
 refine enterS (n := 69) (args := [nu8 op, .agg #[.slice am ks.length cm, .slice aa js.length ca]]) (S := [(true, cL am ks.length cm vs), (true, .bys vs ks), (true, cL aa js.length ca us), (true, .bys us js)]) (Z := Z) func31 rfl rfl (Nat.le_of_ble_eq_true rfl) (sokC hV (sokC hY (sokC hU (sokC hX sok0)))) rfl fun ac hs => wp_seq (wp_region_lit (stp (op_box hs none none (cs := [.slice am ks.length cm, .slice aa js.length ca]) rfl rfl rfl rfl rfl rfl fun g1 ac w hs => stp (op_alloc hs none none (cs := [.slice none 0 0, .slice none 0 0]) rfl rfl zeroValue24 (by kernel_rfl) rfl rfl fun g2 ac w hs => asg hs rfl rfl rfl fun ac hs => wpList_nil (then_n (wp_seq (wp_region_lit (ldd hs 0 (.agg #[.slice am ks.length cm, .slice aa js.length ca]) isAgg24 sizeOf24 rfl rfl rfl rfl rfl fun ac hs => ?_))))))))
 replace hs := hs.nf w0 Z noX [0, 1, 3, 4, 5, 14] rfl rfl rfl rfl
 obtain ⟨z3, ks4, js5, e6, hks4⟩ := ex4 (popN 4 ks js)
 obtain ⟨oks4, ojs5⟩ := popN_ok ok oj hks4
 have lks4 : ks4.length ≤ 1000 := oks4.1
 refine stp (op_callS (F := 24) (ρ := MR) hs none none (v := fun r => .tuple #[.int .i64 z3, .agg #[.slice r.a ks4.length r.c, .slice r.b js5.length r.d], ni64 e6]) (E := fun r => [cL r.a ks4.length r.c r.vs, .bys r.vs ks4, cL r.b js5.length r.d r.us, .bys r.us js5]) (j := 4) rfl rfl rfl rfl (call24 _) (fun hs => rpopn_c am cm vs aa ca us ks js 4 z3 ks4 js5 e6 ok oj hks4 _ _ (hs.all (k := 0) rfl rfl) (hs.all (k := 1) rfl rfl) (hs.all (k := 2) rfl rfl) (hs.all (k := 3) rfl rfl)) (fun _ => rfl) rfl rfl fun ⟨ad7, cp8, vs9, ad10, cp11, us12⟩ ac w hs => mvv hs rfl rfl rfl fun ac hs => stp (xtr hs none rfl rfl rfl rfl rfl fun ac hs => stp (xtr hs none rfl rfl rfl rfl rfl fun ac hs => stp (xtr hs none rfl rfl rfl rfl rfl fun ac hs => stp (op_alloc hs none none (cs := [.slice none 0 0, .slice none 0 0]) rfl rfl zeroValue24 (by kernel_rfl) rfl rfl fun g13 ac w hs => asg hs rfl rfl rfl fun ac hs => stp (stoo hs 2 ([.slice ad7 ks4.length cp8, .slice ad10 js5.length cp11]) sizeOf24 rfl rfl rfl rfl rfl rfl rfl rfl rfl rfl fun w hs => asg hs rfl rfl rfl fun ac hs => wpList_nil (then_n (wp_seq (wp_seq ?_)))))))))
 replace hs := hs.nf w0 Z noX [0, 3, 4, 5, 7, 6, 8] rfl rfl rfl rfl
 refine wp_region_lit (mvv hs rfl rfl rfl fun ac hs => bnn hs (.bool (decide (e6 ≠ 0))) rfl rfl rfl rfl (bin_neqN (y := 0)) fun ac hs => wpList_nil (then_n (wcs hs rfl ?_ ?_)))
 ·intro hc
  have hp14 := of_decide_eq_true hc
  refine wp_seq (wp_region_lit (stp (op_build hs none (qs := []) (v := .agg #[.slice none 0 0, .slice none 0 0]) rfl rfl rfl rfl (fun _ => by kernel_rfl) rfl fun ac hs => mvv hs rfl rfl rfl fun ac hs => stp (stoo hs 1 ([.slice none 0 0, .slice none 0 0]) sizeOf24 rfl rfl rfl rfl rfl rfl rfl rfl rfl rfl fun w hs => asg hs rfl rfl rfl fun ac hs => wpList_nil (then_n (wp_ret (then_r ?_)))))))
  have HS := hs
  have h0 := hp
  rw [deepP_err hks4 hp14] at h0
  obtain ⟨hk, hj, he⟩ := inj3 h0
  subst hk
  subst hj
  subst he
  have hs := HS
  replace hs := hs.nilCel none rfl
  replace hs := hs.nilBys none rfl
  replace hs := hs.nilCel none rfl
  replace hs := hs.nilBys none rfl
  exact bodyPost_ret (res2 rfl (rv_c hs 1 (v := .agg #[.slice none 0 0, .slice none 0 0]) rfl rfl isAgg24 sizeOf24 rfl) (rv_t hs rfl)) hs.defers ⟨⟨none, 0, [], none, 0, []⟩, rfl, hs.bel rfl, hs.retS (ks := [8, 9, 10, 11]) rfl (by decide)⟩
 intro hc
 have hp15 := of_decide_eq_false hc
 obtain rfl : e6 = 0 := Classical.not_not.1 (of_decide_eq_false hc)
 have hjs := popN_js hks4
 refine wp_skip (then_n (wp_seq (wp_region_lit (stp (op_fieldA hs none rfl rfl rfl underlying24 rfl sizeOf22 (by decide) rfl fun ac hs => ldd hs 2 (.slice ad7 ks4.length cp8) isAgg22 sizeOf22 rfl rfl rfl rfl rfl fun ac hs => stp (op_blt hs none (v := ni64 (ks4.length)) rfl rfl rfl (blt_len underlying22) rfl fun ac hs => asg hs rfl rfl rfl fun ac hs => wpList_nil (then_n (wp_seq (wp_seq ?_)))))))))
 by_cases hq16 : z3 < 0
 ·replace hs := hs.nf w0 Z noX [0, 3, 4, 5, 7, 6, 9] rfl rfl rfl rfl
  refine wp_region_lit (mvv hs rfl rfl rfl fun ac hs => bnn hs (.bool true) rfl rfl rfl rfl (fun w => dT hq16 (bin_lssI (y := 0) w)) fun ac hs => mvv hs rfl rfl rfl fun ac hs => lstep (wpO_out hs none rfl rfl (.inl rfl) rfl rfl fun ac hs => lstep (wpO_out hs none rfl rfl (.inl rfl) rfl rfl fun ac hs => lstep (wpO_out hs none rfl rfl (.inl rfl) rfl rfl fun ac hs => stp (op_pickT hs none rfl rfl rfl rfl rfl fun ac hs => wpList_nil (then_n (wp_cond_true (hs.ev rfl) ?_)))))))
  refine wp_seq (wp_region_lit (stp (op_build hs none (qs := []) (v := .agg #[.slice none 0 0, .slice none 0 0]) rfl rfl rfl rfl (fun _ => by kernel_rfl) rfl fun ac hs => stp (stoo hs 1 ([.slice none 0 0, .slice none 0 0]) sizeOf24 rfl rfl rfl rfl rfl rfl rfl rfl rfl rfl fun w hs => asg hs rfl rfl rfl fun ac hs => wpList_nil (then_n (wp_ret (then_r ?_)))))))
  have HS := hs
  have h0 := hp
  rw [deepP_out hks4 (.inl hq16)] at h0
  obtain ⟨hk, hj, he⟩ := inj3 h0
  subst hk
  subst hj
  subst he
  have hs := HS
  replace hs := hs.nilCel none rfl
  replace hs := hs.nilBys none rfl
  replace hs := hs.nilCel none rfl
  replace hs := hs.nilBys none rfl
  exact bodyPost_ret (res2 rfl (rv_c hs 1 (v := .agg #[.slice none 0 0, .slice none 0 0]) rfl rfl isAgg24 sizeOf24 rfl) (rv_t hs rfl)) hs.defers ⟨⟨none, 0, [], none, 0, []⟩, rfl, hs.bel rfl, hs.retS (ks := [8, 9, 10, 11]) rfl (by decide)⟩
 by_cases hq17 : ((ks4.length : Nat) : Int) ≤ z3
 ·replace hs := hs.nf w0 Z noX [0, 3, 4, 5, 7, 6, 9] rfl rfl rfl rfl
  refine wp_region_lit (mvv hs rfl rfl rfl fun ac hs => bnn hs (.bool false) rfl rfl rfl rfl (fun w => dF hq16 (bin_lssI (y := 0) w)) fun ac hs => mvv hs rfl rfl rfl fun ac hs => lstep (wpO_in hs rfl rfl rfl (op_move hs none rfl rfl rfl rfl fun ac hs => lstep (wpO_in hs rfl rfl rfl (op_move hs none rfl rfl rfl rfl fun ac hs => lstep (wpO_in hs rfl rfl rfl (op_bin hs none (v := .bool true) rfl rfl rfl rfl (fun _ => rfl) (fun w => dT hq17 (bin_geqI (x := z3) (y := ((ks4.length : Nat) : Int)) w)) rfl fun ac hs => stp (op_pickF hs none rfl rfl rfl rfl rfl fun ac hs => wpList_nil (then_n (wp_cond_true (hs.ev rfl) ?_))))))))))
  refine wp_seq ?_
  replace hs := hs.nf w0 Z noX [0, 3, 4, 5, 7, 6, 9] rfl rfl rfl rfl
  refine wp_region_lit (stp (op_build hs none (qs := []) (v := .agg #[.slice none 0 0, .slice none 0 0]) rfl rfl rfl rfl (fun _ => by kernel_rfl) rfl fun ac hs => stp (stoo hs 1 ([.slice none 0 0, .slice none 0 0]) sizeOf24 rfl rfl rfl rfl rfl rfl rfl rfl rfl rfl fun w hs => asg hs rfl rfl rfl fun ac hs => wpList_nil (then_n (wp_ret (then_r ?_))))))
  have HS := hs
  have h0 := hp
  rw [deepP_out hks4 (.inr hq17)] at h0
  obtain ⟨hk, hj, he⟩ := inj3 h0
  subst hk
  subst hj
  subst he
  have hs := HS
  replace hs := hs.nilCel none rfl
  replace hs := hs.nilBys none rfl
  replace hs := hs.nilCel none rfl
  replace hs := hs.nilBys none rfl
  exact bodyPost_ret (res2 rfl (rv_c hs 1 (v := .agg #[.slice none 0 0, .slice none 0 0]) rfl rfl isAgg24 sizeOf24 rfl) (rv_t hs rfl)) hs.defers ⟨⟨none, 0, [], none, 0, []⟩, rfl, hs.bel rfl, hs.retS (ks := [8, 9, 10, 11]) rfl (by decide)⟩
 replace hs := hs.nf w0 Z noX [0, 3, 4, 5, 7, 6, 9] rfl rfl rfl rfl
 refine wp_region_lit (mvv hs rfl rfl rfl fun ac hs => bnn hs (.bool false) rfl rfl rfl rfl (fun w => dF hq16 (bin_lssI (y := 0) w)) fun ac hs => mvv hs rfl rfl rfl fun ac hs => lstep (wpO_in hs rfl rfl rfl (op_move hs none rfl rfl rfl rfl fun ac hs => lstep (wpO_in hs rfl rfl rfl (op_move hs none rfl rfl rfl rfl fun ac hs => lstep (wpO_in hs rfl rfl rfl (op_bin hs none (v := .bool false) rfl rfl rfl rfl (fun _ => rfl) (fun w => dF hq17 (bin_geqI (x := z3) (y := ((ks4.length : Nat) : Int)) w)) rfl fun ac hs => stp (op_pickF hs none rfl rfl rfl rfl rfl fun ac hs => wpList_nil (then_n (wp_cond_false (hs.ev rfl) ?_))))))))))
 refine wp_skip (then_n (wp_seq ?_))
 obtain ⟨ni, hni⟩ : ∃ ni : Nat, z3 = (ni : Int) := ⟨z3.toNat, by omega⟩
 replace hs := hs.re (fs' := [(0, true, nu8 op), (3, true, ptA g1 0), (4, true, ptA g2 0), (5, true, .int .i64 0), (7, true, ptA g13 0), (6, true, ni64 ni), (9, true, ni64 (ks4.length)), (26, true, .int .i64 z3), (27, true, .bool false), (28, true, .bool false), (29, true, .int .i64 z3), (30, true, ni64 (ks4.length)), (31, true, .bool false), (32, true, .bool false)]) ⟨rfl, rfl, rfl, rfl, rfl, congrArg some (congrArg (Value.int .i64) hni), rfl, rfl, rfl, rfl, rfl, rfl, rfl, rfl, trivial⟩
 obtain ⟨li, hli⟩ : ∃ q0, ks4[ks4.length - 1 - ni]? = some q0 := ⟨_, List.getElem?_eq_getElem (show ks4.length - 1 - ni < ks4.length by omega)⟩
 obtain ⟨al, cl, hvl⟩ := bysv_at (hs.all (k := 5) rfl rfl) hli
 replace hs := hs.pick none 5 rfl hvl hli rfl
 have lli : li.length ≤ 1000 := oks4.2 _ (List.mem_of_getElem? hli)
 have hlt1 : ni + 1 ≤ ks4.length := by omega
 replace hs := hs.nf w0 Z noX [0, 3, 4, 5, 7, 6, 9] rfl rfl rfl rfl
 refine wp_region_lit (mvv hs rfl rfl rfl fun ac hs => bnn hs (ni64 (ks4.length - 1)) rfl rfl rfl rfl (bin_subN (y := 1) (by omega) (show ks4.length - 1 < 9223372036854775808 by omega)) fun ac hs => mvv hs rfl rfl rfl fun ac hs => bnn hs (ni64 (ks4.length - 1 - ni)) rfl rfl rfl rfl (bin_subN (by omega) (show ks4.length - 1 - ni < 9223372036854775808 by omega)) fun ac hs => asg hs rfl rfl rfl fun ac hs => wpList_nil (then_n (wp_seq (wp_region_lit (stp (op_fieldA hs none rfl rfl rfl underlying24 rfl sizeOf22 (by decide) rfl fun ac hs => ldd hs 2 (.slice ad7 ks4.length cp8) isAgg22 sizeOf22 rfl rfl rfl rfl rfl fun ac hs => mvv hs rfl rfl rfl fun ac hs => ?_))))))
 refine stp (op_idxC hs none 4 (j := ks4.length - 1 - ni) rfl rfl rfl rfl rfl underlying22 sizeOf34 (show ks4.length - 1 - ni < ks4.length by omega) (off := ks4.length - 1 - ni) (by omega) rfl fun ac hs => stp (op_loadC hs none 4 (u := .slice al li.length cl) rfl rfl rfl rfl isAgg34 sizeOf34 (by decide) hvl rfl fun ac hs => asg hs rfl rfl rfl fun ac hs => wpList_nil (then_n (wp_seq (wp_seq ?_)))))
 replace hs := hs.nf w0 Z noX [0, 3, 4, 5, 7, 10, 11] rfl rfl rfl rfl
 refine wp_region_lit (mvv hs rfl rfl rfl fun ac hs => bnn hs (.bool (decide (op = 121))) rfl rfl rfl rfl (bin_eqlN (y := 121)) fun ac hs => wpList_nil (then_n (wcs hs rfl ?_ ?_)))
 ·intro hc
  have hp18 := of_decide_eq_true hc
  refine wp_seq (wp_region_lit (ldd hs 2 (.agg #[.slice ad7 ks4.length cp8, .slice ad10 js5.length cp11]) isAgg24 sizeOf24 rfl rfl rfl rfl rfl fun ac hs => mvv hs rfl rfl rfl fun ac hs => ?_))
  replace hs := hs.nf w0 Z noX [0, 3, 4, 5, 7, 10, 11, 43, 44, 45, 46] rfl rfl rfl rfl
  obtain ⟨ks19, js20, e21, hks19⟩ := ex3 (donL (ks4 ++ [li]) js5 0)
  refine stp (op_callS (F := 20) (ρ := MR) hs none none (v := fun r => .tuple #[.agg #[.slice r.a ks19.length r.c, .slice r.b js20.length r.d], ni64 e21]) (E := fun r => [cL r.a ks19.length r.c r.vs, .bys r.vs ks19, cL r.b js20.length r.d r.us, .bys r.us js20]) (j := 4) rfl rfl rfl rfl (call20 _) (fun hs => rpush_c ad7 cp8 vs9 ad10 cp11 us12 ks4 js5 al cl li lli ks19 js20 e21 oks4 ojs5 hks19 _ _ (hs.all (k := 4) rfl rfl) (hs.all (k := 5) rfl rfl) (hs.all (k := 6) rfl rfl) (hs.all (k := 7) rfl rfl) (hs.all (k := 8) rfl rfl)) (fun _ => rfl) rfl rfl fun ⟨ad22, cp23, vs24, ad25, cp26, us27⟩ ac w hs => stp (xtr hs none rfl rfl rfl rfl rfl fun ac hs => stp (xtr hs none rfl rfl rfl rfl rfl fun ac hs => stp (stoo hs 1 ([.slice ad22 ks19.length cp23, .slice ad25 js20.length cp26]) sizeOf24 rfl rfl rfl rfl rfl rfl rfl rfl rfl rfl fun w hs => asg hs rfl rfl rfl fun ac hs => wpList_nil (then_n (wp_ret (then_r ?_)))))))
  have HS := hs
  have h0 := hp
  rw [deepP_in hks4 hq16 hq17 hni hli] at h0
  rw [if_pos hp18, ← hjs, hks19] at h0
  obtain ⟨hk, hj, he⟩ := inj3 h0
  subst hk
  subst hj
  subst he
  have hs := HS
  exact bodyPost_ret (res2 rfl (rv_c hs 1 (v := .agg #[.slice ad22 ks19.length cp23, .slice ad25 js20.length cp26]) rfl rfl isAgg24 sizeOf24 rfl) (rv_t hs rfl)) hs.defers ⟨⟨ad22, cp23, vs24, ad25, cp26, us27⟩, rfl, hs.bel rfl, hs.retS (ks := [9, 10, 11, 12]) rfl (by decide)⟩
 intro hc
 have hp28 := of_decide_eq_false hc
 refine wp_skip (then_n (wp_seq ?_))
 replace hs := hs.nf w0 Z noX [3, 4, 5, 7, 10, 11] rfl rfl rfl rfl
 refine region_inv [([], [1, 3, 9, 10]), ([0], [3, 9, 10]), ([], [3, 9, 10]), ([0, 1, 2], [9, 10]), ([], [5, 8, 9, 10]), ([4], [8, 9, 10]), ([], rgn 7 4), ([6], [8, 9, 10]), (rgn 4 4, [9, 10]), (rgn 0 9, [10]), (rgn 0 10, [])] (fun L ac w => ∃ (ad29 : Option Addr) (cp30 : Nat), St 69 ⟨w0, [], [(true, cL am ks.length cm vs), (true, .bys vs ks), (true, cL aa js.length ca us), (true, .bys us js), (true, cL ad7 ks4.length cp8 vs9), (true, .bys vs9 ks4), (true, cL ad10 js5.length cp11 us12), (true, .bys us12 js5), (true, cL al li.length cl (bcs li)), (L 3, cL (vsa ad7 cp8 1 0) ((ks4.take (ks4.length - 1 - ni)).length) (cp8 - 0) (vs9.take (ks4.length - 1 - ni))), (L 8, cL (vsa ad7 cp8 1 (ks4.length - 1 - ni + 1)) ((ks4.drop (ks4.length - 1 - ni + 1)).length) (cp8 - (ks4.length - 1 - ni + 1)) (vs9.drop (ks4.length - 1 - ni + 1))), (L 9, oW ad29 (((ks4.take (ks4.length - 1 - ni)) ++ (ks4.drop (ks4.length - 1 - ni + 1))).length) cp30 34 ((vs9.take (ks4.length - 1 - ni)) ++ (vs9.drop (ks4.length - 1 - ni + 1))))], Z, noX⟩ [(50, L 0, ptA g13 0), (51, L 1, .slice ad7 ks4.length cp8), (52, L 2, ni64 (ks4.length - 1 - ni)), (53, L 3, .slice (vsa ad7 cp8 1 0) ((ks4.take (ks4.length - 1 - ni)).length) (cp8 - 0)), (54, L 4, ptA g13 0), (55, L 5, .slice ad7 ks4.length cp8), (56, L 6, ni64 (ks4.length - 1 - ni)), (57, L 7, ni64 (ks4.length - 1 - ni + 1)), (58, L 8, .slice (vsa ad7 cp8 1 (ks4.length - 1 - ni + 1)) ((ks4.drop (ks4.length - 1 - ni + 1)).length) (cp8 - (ks4.length - 1 - ni + 1))), (59, L 9, .slice ad29 (((ks4.take (ks4.length - 1 - ni)) ++ (ks4.drop (ks4.length - 1 - ni + 1))).length) cp30), (12, L 10, cond (L 10) (.slice ad29 (((ks4.take (ks4.length - 1 - ni)) ++ (ks4.drop (ks4.length - 1 - ni + 1))).length) cp30) undef), (3, true, ptA g1 0), (4, true, ptA g2 0), (5, true, .int .i64 0), (7, true, ptA g13 0), (10, true, ni64 (ks4.length - 1 - ni)), (11, true, .slice al li.length cl)] [(true, g1, 24, [.slice am ks.length cm, .slice aa js.length ca]), (true, g2, 24, [.slice none 0 0, .slice none 0 0]), (true, g13, 24, [.slice ad7 ks4.length cp8, .slice ad10 js5.length cp11])] ac w) (by kernel_rfl) (by kernel_rfl) ?_ ?_ ?_
 ·exact ⟨none, 0, hs.drew.s4.s4.skip.skip.skip.padS.padS.padS⟩
 ·refine ⟨?_, ?_, ?_, ?_, ?_, ?_, ?_, ?_, ?_, ?_, ?_, trivial⟩
  ·exact fun L ac w ⟨ad29, cp30, hs⟩ => pln (op_fieldA hs (some 0) rfl rfl rfl underlying24 rfl sizeOf22 (by decide) rfl fun ac hs => ⟨ad29, cp30, hs⟩)
  ·exact fun L ac w ⟨ad29, cp30, hs⟩ => pln (oldd hs 1 2 (.slice ad7 ks4.length cp8) isAgg22 sizeOf22 rfl rfl rfl rfl rfl fun ac hs => ⟨ad29, cp30, hs⟩)
  ·exact fun L ac w ⟨ad29, cp30, hs⟩ => pln (omv hs 2 rfl rfl rfl fun ac hs => ⟨ad29, cp30, hs⟩)
  ·exact fun L ac w ⟨ad29, cp30, hs⟩ => pln (op_sliceR hs (some 3) (some 9) 4 0 (ks4.length - 1 - ni) (N' := (ks4.take (ks4.length - 1 - ni)).length) (cs' := vs9.take (ks4.length - 1 - ni)) rfl rfl rfl rfl (.inl ⟨rfl, rfl⟩) (.inr ⟨_, _, rfl, rfl⟩) underlying22 sizeOf34 (show 0 ≤ ks4.length - 1 - ni by omega) (show ks4.length - 1 - ni ≤ ks4.length by omega) (by rw [List.length_take]; omega) (by simp) rfl rfl fun ac hs => ⟨ad29, cp30, hs⟩)
  ·exact fun L ac w ⟨ad29, cp30, hs⟩ => pln (op_fieldA hs (some 4) rfl rfl rfl underlying24 rfl sizeOf22 (by decide) rfl fun ac hs => ⟨ad29, cp30, hs⟩)
  ·exact fun L ac w ⟨ad29, cp30, hs⟩ => pln (oldd hs 5 2 (.slice ad7 ks4.length cp8) isAgg22 sizeOf22 rfl rfl rfl rfl rfl fun ac hs => ⟨ad29, cp30, hs⟩)
  ·exact fun L ac w ⟨ad29, cp30, hs⟩ => pln (omv hs 6 rfl rfl rfl fun ac hs => ⟨ad29, cp30, hs⟩)
  ·exact fun L ac w ⟨ad29, cp30, hs⟩ => pln (obn hs 7 (ni64 (ks4.length - 1 - ni + 1)) rfl rfl rfl rfl (bin_addN (y := 1) rfl (show ks4.length - 1 - ni + 1 < 9223372036854775808 by omega)) fun ac hs => ⟨ad29, cp30, hs⟩)
  ·exact fun L ac w ⟨ad29, cp30, hs⟩ => pln (op_sliceR hs (some 8) (some 10) 4 (ks4.length - 1 - ni + 1) ks4.length (N' := (ks4.drop (ks4.length - 1 - ni + 1)).length) (cs' := vs9.drop (ks4.length - 1 - ni + 1)) rfl rfl rfl rfl (.inr ⟨_, _, rfl, rfl⟩) (.inl ⟨rfl, rfl⟩) underlying22 sizeOf34 (show ks4.length - 1 - ni + 1 ≤ ks4.length by omega) (show ks4.length ≤ ks4.length by omega) (by rw [List.length_drop]) (by rw [Nat.mul_one, Nat.mul_one]; exact List.take_of_length_le (by rw [List.length_drop, (hs.rowB (k := 5) (G := noX) (.inr rfl)).1]; exact Nat.le_refl _)) rfl rfl fun ac hs => ⟨ad29, cp30, hs⟩)
  ·exact fun L ac w ⟨ad29, cp30, hs⟩ => pln (op_callV (F := 36) (ρ := Option Addr × Nat) hs (some 9) (some 11) (v := fun r => .slice r.1 (((ks4.take (ks4.length - 1 - ni)) ++ (ks4.drop (ks4.length - 1 - ni + 1))).length) r.2) (E := fun r => [oW r.1 (((ks4.take (ks4.length - 1 - ni)) ++ (ks4.drop (ks4.length - 1 - ni + 1))).length) r.2 34 ((vs9.take (ks4.length - 1 - ni)) ++ (vs9.drop (ks4.length - 1 - ni + 1)))]) (j := 1) rfl rfl rfl rfl (call36 _) (fun hs => with_c (vsa ad7 cp8 1 0) (cp8 - 0) (vs9.take (ks4.length - 1 - ni)) (ks4.take (ks4.length - 1 - ni)) (vsa ad7 cp8 1 (ks4.length - 1 - ni + 1)) (cp8 - (ks4.length - 1 - ni + 1)) (vs9.drop (ks4.length - 1 - ni + 1)) (ks4.drop (ks4.length - 1 - ni + 1)) (show (ks4.take (ks4.length - 1 - ni)).length + (ks4.drop (ks4.length - 1 - ni + 1)).length ≤ 1000000 by first | omega | ((try simp only [List.length_drop, List.length_take, List.length_append, List.length_cons, List.length_nil]); omega)) _ _ (hs.celT (k := 9) rfl) ((hs.rowB (k := 5) (G := noX) (.inr rfl)).take (ks4.length - 1 - ni)) (hs.celT (k := 10) rfl) ((hs.rowB (k := 5) (G := noX) (.inr rfl)).drop (ks4.length - 1 - ni + 1))) (fun _ => rfl) (fun _ => rfl) rfl rfl fun ⟨ad29, cp30⟩ ac w hs => ⟨ad29, cp30, hs⟩)
  ·exact fun L ac w ⟨ad29, cp30, hs⟩ => pln (oas hs 10 rfl rfl rfl fun ac hs => ⟨ad29, cp30, hs⟩)
 intro ac w ⟨ad29, cp30, hs⟩
 try dsimp only [cond_true] at hs
 refine then_n (wp_seq ?_)
 by_cases hq31 : chkL (((ks4.take (ks4.length - 1 - ni)) ++ (ks4.drop (ks4.length - 1 - ni + 1))) ++ [li]) js = 0
 ·replace hs := hs.nf w0 Z noX [3, 4, 5, 11, 12] rfl rfl rfl rfl
  refine region_inv [([], [3, 6, 7, 8, 9, 10]), ([], [2, 3, 6, 7, 8, 9, 10]), ([1], [3, 6, 7, 8, 9, 10]), ([0, 1, 2], rgn 6 5), ([], rgn 5 6), ([4], rgn 6 5), (rgn 0 6, rgn 7 4), (rgn 0 7, [9, 10]), (rgn 0 7, [9, 10]), (rgn 0 9, [10]), (rgn 0 10, [])] (fun L ac w => ∃ (ad33 : Option Addr) (ad34 : Option Addr) (cp35 : Nat), St 69 ⟨w0, [], [(true, cL am ks.length cm vs), (true, .bys vs ks), (true, cL aa js.length ca us), (true, .bys us js), (true, cL ad7 ks4.length cp8 vs9), (true, .bys vs9 ks4), (true, cL ad10 js5.length cp11 us12), (true, .bys us12 js5), (true, cL al li.length cl (bcs li)), (true, cL (vsa ad7 cp8 1 0) ((ks4.take (ks4.length - 1 - ni)).length) (cp8 - 0) (vs9.take (ks4.length - 1 - ni))), (true, cL (vsa ad7 cp8 1 (ks4.length - 1 - ni + 1)) ((ks4.drop (ks4.length - 1 - ni + 1)).length) (cp8 - (ks4.length - 1 - ni + 1)) (vs9.drop (ks4.length - 1 - ni + 1))), (true, oW ad29 (((ks4.take (ks4.length - 1 - ni)) ++ (ks4.drop (ks4.length - 1 - ni + 1))).length) cp30 34 ((vs9.take (ks4.length - 1 - ni)) ++ (vs9.drop (ks4.length - 1 - ni + 1)))), (L 2, oW ad33 1 1 34 ([.slice al li.length cl])), (L 3, oW ad34 ((((ks4.take (ks4.length - 1 - ni)) ++ (ks4.drop (ks4.length - 1 - ni + 1))) ++ [li]).length) cp35 34 (((vs9.take (ks4.length - 1 - ni)) ++ (vs9.drop (ks4.length - 1 - ni + 1))) ++ [.slice al li.length cl]))], Z, noX⟩ [(60, L 0, .slice ad29 (((ks4.take (ks4.length - 1 - ni)) ++ (ks4.drop (ks4.length - 1 - ni + 1))).length) cp30), (61, L 1, .slice al li.length cl), (62, L 2, .slice ad33 1 1), (63, L 3, .slice ad34 ((((ks4.take (ks4.length - 1 - ni)) ++ (ks4.drop (ks4.length - 1 - ni + 1))) ++ [li]).length) cp35), (64, L 4, ptA g1 1), (65, L 5, .slice aa js.length ca), (66, L 6, cond (L 6) (.tuple #[.agg #[.slice ad34 ((((ks4.take (ks4.length - 1 - ni)) ++ (ks4.drop (ks4.length - 1 - ni + 1))) ++ [li]).length) cp35, .slice aa js.length ca], .int .i64 0]) undef), (67, L 7, cond (L 7) (.agg #[.slice ad34 ((((ks4.take (ks4.length - 1 - ni)) ++ (ks4.drop (ks4.length - 1 - ni + 1))) ++ [li]).length) cp35, .slice aa js.length ca]) undef), (68, L 8, .int .i64 0), (5, L 10, .int .i64 0), (3, true, ptA g1 0), (4, true, ptA g2 0), (5, true, .int .i64 0), (11, true, .slice al li.length cl), (12, true, .slice ad29 (((ks4.take (ks4.length - 1 - ni)) ++ (ks4.drop (ks4.length - 1 - ni + 1))).length) cp30)] [(true, g1, 24, [.slice am ks.length cm, .slice aa js.length ca]), (true, g2, 24, (cond (L 9) [.slice ad34 ((((ks4.take (ks4.length - 1 - ni)) ++ (ks4.drop (ks4.length - 1 - ni + 1))) ++ [li]).length) cp35, .slice aa js.length ca] [.slice none 0 0, .slice none 0 0])), (true, g13, 24, [.slice ad7 ks4.length cp8, .slice ad10 js5.length cp11])] ac w) (by kernel_rfl) (by kernel_rfl) ?_ ?_ ?_
  ·exact ⟨none, none, 0, hs.drew.s4.s4.skip.skip.padS.padS⟩
  ·refine ⟨?_, ?_, ?_, ?_, ?_, ?_, ?_, ?_, ?_, ?_, ?_, trivial⟩
   ·exact fun L ac w ⟨ad33, ad34, cp35, hs⟩ => pln (omv hs 0 rfl rfl rfl fun ac hs => ⟨ad33, ad34, cp35, hs⟩)
   ·exact fun L ac w ⟨ad33, ad34, cp35, hs⟩ => pln (omv hs 1 rfl rfl rfl fun ac hs => ⟨ad33, ad34, cp35, hs⟩)
   ·exact fun L ac w ⟨ad33, ad34, cp35, hs⟩ => pln (op_bsO hs (some 2) (some 12) (qs := [(0, .slice al li.length cl)]) (cs := [.slice al li.length cl]) rfl rfl rfl rfl underlying22 inf_slice_34 (by decide) (by decide) (fill_one _ _ rfl) rfl rfl rfl rfl fun ad33 ac w hs => ⟨ad33, ad34, cp35, hs⟩)
   ·exact fun L ac w ⟨ad33, ad34, cp35, hs⟩ => pln (op_callV (F := 36) (ρ := Option Addr × Nat) hs (some 3) (some 13) (v := fun r => .slice r.1 ((((ks4.take (ks4.length - 1 - ni)) ++ (ks4.drop (ks4.length - 1 - ni + 1))) ++ [li]).length) r.2) (E := fun r => [oW r.1 ((((ks4.take (ks4.length - 1 - ni)) ++ (ks4.drop (ks4.length - 1 - ni + 1))) ++ [li]).length) r.2 34 (((vs9.take (ks4.length - 1 - ni)) ++ (vs9.drop (ks4.length - 1 - ni + 1))) ++ [Value.slice al li.length cl])]) (j := 1) rfl rfl rfl rfl (call36 _) (fun hs => with_c ad29 cp30 ((vs9.take (ks4.length - 1 - ni)) ++ (vs9.drop (ks4.length - 1 - ni + 1))) ((ks4.take (ks4.length - 1 - ni)) ++ (ks4.drop (ks4.length - 1 - ni + 1))) ad33 1 ([.slice al li.length cl]) ([li]) (show ((ks4.take (ks4.length - 1 - ni)) ++ (ks4.drop (ks4.length - 1 - ni + 1))).length + ([li]).length ≤ 1000000 by first | omega | ((try simp only [List.length_drop, List.length_take, List.length_append, List.length_cons, List.length_nil]); omega)) _ _ (hs.celT (k := 11) rfl) (bysv_app ((hs.rowB (k := 5) (G := noX) (.inr rfl)).take (ks4.length - 1 - ni)) ((hs.rowB (k := 5) (G := noX) (.inr rfl)).drop (ks4.length - 1 - ni + 1))) (hs.celT (k := 12) rfl) (bysv_snoc bysv_nil (hs.celT (k := 8) rfl))) (fun _ => rfl) (fun _ => rfl) rfl rfl fun ⟨ad34, cp35⟩ ac w hs => ⟨ad33, ad34, cp35, hs⟩)
   ·exact fun L ac w ⟨ad33, ad34, cp35, hs⟩ => pln (op_fieldA hs (some 4) rfl rfl rfl underlying24 rfl sizeOf22 (by decide) rfl fun ac hs => ⟨ad33, ad34, cp35, hs⟩)
   ·exact fun L ac w ⟨ad33, ad34, cp35, hs⟩ => pln (oldd hs 5 0 (.slice aa js.length ca) isAgg22 sizeOf22 rfl rfl rfl rfl rfl fun ac hs => ⟨ad33, ad34, cp35, hs⟩)
   ·exact fun L ac w ⟨ad33, ad34, cp35, hs⟩ => pln (op_callV (F := 35) (ρ := Unit) hs (some 6) none (v := fun r => .tuple #[.agg #[.slice ad34 ((((ks4.take (ks4.length - 1 - ni)) ++ (ks4.drop (ks4.length - 1 - ni + 1))) ++ [li]).length) cp35, .slice aa js.length ca], .int .i64 0]) (E := fun r => []) (j := 0) rfl rfl rfl rfl (call35 _) (fun hs => checkedT_c ad34 cp35 (((vs9.take (ks4.length - 1 - ni)) ++ (vs9.drop (ks4.length - 1 - ni + 1))) ++ [Value.slice al li.length cl]) aa ca us (((ks4.take (ks4.length - 1 - ni)) ++ (ks4.drop (ks4.length - 1 - ni + 1))) ++ [li]) js ((OkN.snoc (oks4.cut (ks4.length - 1 - ni)) lli).mono (by decide)) (oj.mono (by decide)) hq31 _ _ (hs.celT (k := 13) rfl) (bysv_app (bysv_app ((hs.rowB (k := 5) (G := noX) (.inr rfl)).take (ks4.length - 1 - ni)) ((hs.rowB (k := 5) (G := noX) (.inr rfl)).drop (ks4.length - 1 - ni + 1))) (bysv_snoc bysv_nil (hs.celT (k := 8) rfl))) (hs.celT (k := 2) rfl) (hs.rowB (k := 3) (G := noX) (.inr rfl))) (fun _ => rfl) (fun _ => rfl) rfl rfl fun _ ac w hs => ⟨ad33, ad34, cp35, hs⟩)
   ·exact fun L ac w ⟨ad33, ad34, cp35, hs⟩ => pln (xtr hs (some 7) rfl rfl rfl rfl rfl fun ac hs => ⟨ad33, ad34, cp35, hs⟩)
   ·exact fun L ac w ⟨ad33, ad34, cp35, hs⟩ => pln (xtr hs (some 8) rfl rfl rfl rfl rfl fun ac hs => ⟨ad33, ad34, cp35, hs⟩)
   ·exact fun L ac w ⟨ad33, ad34, cp35, hs⟩ => pln (stoo hs 1 ([.slice ad34 ((((ks4.take (ks4.length - 1 - ni)) ++ (ks4.drop (ks4.length - 1 - ni + 1))) ++ [li]).length) cp35, .slice aa js.length ca]) sizeOf24 rfl rfl rfl rfl rfl rfl rfl rfl rfl rfl fun w hs => ⟨ad33, ad34, cp35, hs⟩)
   ·exact fun L ac w ⟨ad33, ad34, cp35, hs⟩ => pln (oas hs 9 rfl rfl rfl fun ac hs => ⟨ad33, ad34, cp35, hs⟩)
  intro ac w ⟨ad33, ad34, cp35, hs⟩
  try dsimp only [cond_true] at hs
  refine then_n (wp_ret ?_)
  have HS := hs
  have h0 := hp
  rw [deepP_in hks4 hq16 hq17 hni hli] at h0
  rw [if_neg hp28] at h0
  unfold donL at h0
  rw [if_pos rfl] at h0
  rw [if_pos hq31] at h0
  obtain ⟨hk, hj, he⟩ := inj3 h0
  subst hk
  subst hj
  subst he
  have hs := HS
  replace hs := hs.freeze 13 rfl
  replace hs := hs.takeY none 5 (ks4.length - 1 - ni) rfl rfl
  replace hs := hs.dropY none 5 (ks4.length - 1 - ni + 1) rfl rfl
  replace hs := hs.joinY none 14 15 rfl rfl rfl
  replace hs := hs.nilBys none rfl
  replace hs := hs.snocBys (l := li) (ls' := [li]) 17 8 rfl rfl rfl
  replace hs := hs.bysEq 17 (vs' := [.slice al li.length cl]) (ls' := [li]) rfl rfl rfl
  replace hs := hs.joinY none 16 17 rfl rfl rfl
  exact bodyPost_ret (res2 rfl (rv_c hs 1 (v := .agg #[.slice ad34 ((((ks4.take (ks4.length - 1 - ni)) ++ (ks4.drop (ks4.length - 1 - ni + 1))) ++ [li]).length) cp35, .slice aa js.length ca]) rfl rfl isAgg24 sizeOf24 rfl) (rv_t hs rfl)) hs.defers ⟨⟨ad34, cp35, ((vs9.take (ks4.length - 1 - ni)) ++ (vs9.drop (ks4.length - 1 - ni + 1))) ++ [.slice al li.length cl], aa, ca, us⟩, rfl, hs.bel rfl, hs.retS (ks := [13, 18, 2, 3]) rfl (by decide)⟩
 replace hs := hs.nf w0 Z noX [3, 4, 5, 11, 12] rfl rfl rfl rfl
 refine region_inv [([], [3, 6, 7, 8, 9, 10]), ([], [2, 3, 6, 7, 8, 9, 10]), ([1], [3, 6, 7, 8, 9, 10]), ([0, 1, 2], rgn 6 5), ([], rgn 5 6), ([4], rgn 6 5), (rgn 0 6, rgn 7 4), (rgn 0 7, [9, 10]), (rgn 0 7, [9, 10]), (rgn 0 9, [10]), (rgn 0 10, [])] (fun L ac w => ∃ (ad37 : Option Addr) (ad38 : Option Addr) (cp39 : Nat), St 69 ⟨w0, [], [(true, cL am ks.length cm vs), (true, .bys vs ks), (true, cL aa js.length ca us), (true, .bys us js), (true, cL ad7 ks4.length cp8 vs9), (true, .bys vs9 ks4), (true, cL ad10 js5.length cp11 us12), (true, .bys us12 js5), (true, cL al li.length cl (bcs li)), (true, cL (vsa ad7 cp8 1 0) ((ks4.take (ks4.length - 1 - ni)).length) (cp8 - 0) (vs9.take (ks4.length - 1 - ni))), (true, cL (vsa ad7 cp8 1 (ks4.length - 1 - ni + 1)) ((ks4.drop (ks4.length - 1 - ni + 1)).length) (cp8 - (ks4.length - 1 - ni + 1)) (vs9.drop (ks4.length - 1 - ni + 1))), (true, oW ad29 (((ks4.take (ks4.length - 1 - ni)) ++ (ks4.drop (ks4.length - 1 - ni + 1))).length) cp30 34 ((vs9.take (ks4.length - 1 - ni)) ++ (vs9.drop (ks4.length - 1 - ni + 1)))), (L 2, oW ad37 1 1 34 ([.slice al li.length cl])), (L 3, oW ad38 ((((ks4.take (ks4.length - 1 - ni)) ++ (ks4.drop (ks4.length - 1 - ni + 1))) ++ [li]).length) cp39 34 (((vs9.take (ks4.length - 1 - ni)) ++ (vs9.drop (ks4.length - 1 - ni + 1))) ++ [.slice al li.length cl]))], Z, noX⟩ [(60, L 0, .slice ad29 (((ks4.take (ks4.length - 1 - ni)) ++ (ks4.drop (ks4.length - 1 - ni + 1))).length) cp30), (61, L 1, .slice al li.length cl), (62, L 2, .slice ad37 1 1), (63, L 3, .slice ad38 ((((ks4.take (ks4.length - 1 - ni)) ++ (ks4.drop (ks4.length - 1 - ni + 1))) ++ [li]).length) cp39), (64, L 4, ptA g1 1), (65, L 5, .slice aa js.length ca), (66, L 6, .tuple #[.agg #[.slice none 0 0, .slice none 0 0], .int .i64 ((chkL (((ks4.take (ks4.length - 1 - ni)) ++ (ks4.drop (ks4.length - 1 - ni + 1))) ++ [li]) js : Nat) : Int)]), (67, L 7, .agg #[.slice none 0 0, .slice none 0 0]), (68, L 8, .int .i64 ((chkL (((ks4.take (ks4.length - 1 - ni)) ++ (ks4.drop (ks4.length - 1 - ni + 1))) ++ [li]) js : Nat) : Int)), (5, L 10, .int .i64 ((chkL (((ks4.take (ks4.length - 1 - ni)) ++ (ks4.drop (ks4.length - 1 - ni + 1))) ++ [li]) js : Nat) : Int)), (3, true, ptA g1 0), (4, true, ptA g2 0), (5, true, .int .i64 0), (11, true, .slice al li.length cl), (12, true, .slice ad29 (((ks4.take (ks4.length - 1 - ni)) ++ (ks4.drop (ks4.length - 1 - ni + 1))).length) cp30)] [(true, g1, 24, [.slice am ks.length cm, .slice aa js.length ca]), (true, g2, 24, (cond (L 9) [.slice none 0 0, .slice none 0 0] [.slice none 0 0, .slice none 0 0])), (true, g13, 24, [.slice ad7 ks4.length cp8, .slice ad10 js5.length cp11])] ac w) (by kernel_rfl) (by kernel_rfl) ?_ ?_ ?_
 ·exact ⟨none, none, 0, hs.drew.s4.s4.skip.skip.padS.padS⟩
 ·refine ⟨?_, ?_, ?_, ?_, ?_, ?_, ?_, ?_, ?_, ?_, ?_, trivial⟩
  ·exact fun L ac w ⟨ad37, ad38, cp39, hs⟩ => pln (omv hs 0 rfl rfl rfl fun ac hs => ⟨ad37, ad38, cp39, hs⟩)
  ·exact fun L ac w ⟨ad37, ad38, cp39, hs⟩ => pln (omv hs 1 rfl rfl rfl fun ac hs => ⟨ad37, ad38, cp39, hs⟩)
  ·exact fun L ac w ⟨ad37, ad38, cp39, hs⟩ => pln (op_bsO hs (some 2) (some 12) (qs := [(0, .slice al li.length cl)]) (cs := [.slice al li.length cl]) rfl rfl rfl rfl underlying22 inf_slice_34 (by decide) (by decide) (fill_one _ _ rfl) rfl rfl rfl rfl fun ad37 ac w hs => ⟨ad37, ad38, cp39, hs⟩)
  ·exact fun L ac w ⟨ad37, ad38, cp39, hs⟩ => pln (op_callV (F := 36) (ρ := Option Addr × Nat) hs (some 3) (some 13) (v := fun r => .slice r.1 ((((ks4.take (ks4.length - 1 - ni)) ++ (ks4.drop (ks4.length - 1 - ni + 1))) ++ [li]).length) r.2) (E := fun r => [oW r.1 ((((ks4.take (ks4.length - 1 - ni)) ++ (ks4.drop (ks4.length - 1 - ni + 1))) ++ [li]).length) r.2 34 (((vs9.take (ks4.length - 1 - ni)) ++ (vs9.drop (ks4.length - 1 - ni + 1))) ++ [Value.slice al li.length cl])]) (j := 1) rfl rfl rfl rfl (call36 _) (fun hs => with_c ad29 cp30 ((vs9.take (ks4.length - 1 - ni)) ++ (vs9.drop (ks4.length - 1 - ni + 1))) ((ks4.take (ks4.length - 1 - ni)) ++ (ks4.drop (ks4.length - 1 - ni + 1))) ad37 1 ([.slice al li.length cl]) ([li]) (show ((ks4.take (ks4.length - 1 - ni)) ++ (ks4.drop (ks4.length - 1 - ni + 1))).length + ([li]).length ≤ 1000000 by first | omega | ((try simp only [List.length_drop, List.length_take, List.length_append, List.length_cons, List.length_nil]); omega)) _ _ (hs.celT (k := 11) rfl) (bysv_app ((hs.rowB (k := 5) (G := noX) (.inr rfl)).take (ks4.length - 1 - ni)) ((hs.rowB (k := 5) (G := noX) (.inr rfl)).drop (ks4.length - 1 - ni + 1))) (hs.celT (k := 12) rfl) (bysv_snoc bysv_nil (hs.celT (k := 8) rfl))) (fun _ => rfl) (fun _ => rfl) rfl rfl fun ⟨ad38, cp39⟩ ac w hs => ⟨ad37, ad38, cp39, hs⟩)
  ·exact fun L ac w ⟨ad37, ad38, cp39, hs⟩ => pln (op_fieldA hs (some 4) rfl rfl rfl underlying24 rfl sizeOf22 (by decide) rfl fun ac hs => ⟨ad37, ad38, cp39, hs⟩)
  ·exact fun L ac w ⟨ad37, ad38, cp39, hs⟩ => pln (oldd hs 5 0 (.slice aa js.length ca) isAgg22 sizeOf22 rfl rfl rfl rfl rfl fun ac hs => ⟨ad37, ad38, cp39, hs⟩)
  ·exact fun L ac w ⟨ad37, ad38, cp39, hs⟩ => pln (op_callV (F := 35) (ρ := Unit) hs (some 6) none (v := fun r => .tuple #[.agg #[.slice none 0 0, .slice none 0 0], .int .i64 ((chkL (((ks4.take (ks4.length - 1 - ni)) ++ (ks4.drop (ks4.length - 1 - ni + 1))) ++ [li]) js : Nat) : Int)]) (E := fun r => []) (j := 0) rfl rfl rfl rfl (call35 _) (fun hs => checkedF_c ad38 cp39 (((vs9.take (ks4.length - 1 - ni)) ++ (vs9.drop (ks4.length - 1 - ni + 1))) ++ [Value.slice al li.length cl]) aa ca us (((ks4.take (ks4.length - 1 - ni)) ++ (ks4.drop (ks4.length - 1 - ni + 1))) ++ [li]) js (chkL (((ks4.take (ks4.length - 1 - ni)) ++ (ks4.drop (ks4.length - 1 - ni + 1))) ++ [li]) js) hq31 ((OkN.snoc (oks4.cut (ks4.length - 1 - ni)) lli).mono (by decide)) (oj.mono (by decide)) rfl _ _ (hs.celT (k := 13) rfl) (bysv_app (bysv_app ((hs.rowB (k := 5) (G := noX) (.inr rfl)).take (ks4.length - 1 - ni)) ((hs.rowB (k := 5) (G := noX) (.inr rfl)).drop (ks4.length - 1 - ni + 1))) (bysv_snoc bysv_nil (hs.celT (k := 8) rfl))) (hs.celT (k := 2) rfl) (hs.rowB (k := 3) (G := noX) (.inr rfl))) (fun _ => rfl) (fun _ => rfl) rfl rfl fun _ ac w hs => ⟨ad37, ad38, cp39, hs⟩)
  ·exact fun L ac w ⟨ad37, ad38, cp39, hs⟩ => pln (xtr hs (some 7) rfl rfl rfl rfl rfl fun ac hs => ⟨ad37, ad38, cp39, hs⟩)
  ·exact fun L ac w ⟨ad37, ad38, cp39, hs⟩ => pln (xtr hs (some 8) rfl rfl rfl rfl rfl fun ac hs => ⟨ad37, ad38, cp39, hs⟩)
  ·exact fun L ac w ⟨ad37, ad38, cp39, hs⟩ => pln (stoo hs 1 ([.slice none 0 0, .slice none 0 0]) sizeOf24 rfl rfl rfl rfl rfl rfl rfl rfl rfl rfl fun w hs => ⟨ad37, ad38, cp39, hs⟩)
  ·exact fun L ac w ⟨ad37, ad38, cp39, hs⟩ => pln (oas hs 9 rfl rfl rfl fun ac hs => ⟨ad37, ad38, cp39, hs⟩)
 intro ac w ⟨ad37, ad38, cp39, hs⟩
 try dsimp only [cond_true] at hs
 refine then_n (wp_ret ?_)
 have HS := hs
 have h0 := hp
 rw [deepP_in hks4 hq16 hq17 hni hli] at h0
 rw [if_neg hp28] at h0
 unfold donL at h0
 rw [if_pos rfl] at h0
 rw [if_neg hq31] at h0
 obtain ⟨hk, hj, he⟩ := inj3 h0
 subst hk
 subst hj
 subst he
 have hs := HS
 replace hs := hs.nilCel none rfl
 replace hs := hs.nilBys none rfl
 replace hs := hs.nilCel none rfl
 replace hs := hs.nilBys none rfl
 exact bodyPost_ret (res2 rfl (rv_c hs 1 (v := .agg #[.slice none 0 0, .slice none 0 0]) rfl rfl isAgg24 sizeOf24 rfl) (rv_t hs rfl)) hs.defers ⟨⟨none, 0, [], none, 0, []⟩, rfl, hs.bel rfl, hs.retS (ks := [14, 15, 16, 17]) rfl (by decide)⟩
theorem takes_c (op : Nat) (t : Int) (ht : takeI op = t) (w0 : World) : Calls prog 33 #[nu8 op] w0 fun e w' => e = .returned (.int .i64 t) ∧ Below w0.heap.size w0 w' := by
 refine enter (n := 53) (args := [nu8 op]) func33 rfl rfl (Nat.le_of_ble_eq_true rfl) fun ac hs => wp_seq (wp_region_lit (asg hs rfl rfl rfl fun ac hs => wpList_nil (then_n (wp_seq (wp_seq (wp_region_lit (mvv hs rfl rfl rfl fun ac hs => wpList_nil (then_n (wp_block (wp_seq (wp_seq (wp_region_lit (bnn hs (.bool (decide (op = 97))) rfl rfl rfl rfl (bin_eqlN (y := 97)) fun ac hs => asg hs rfl rfl rfl fun ac hs => wpList_nil (then_n (wcs hs rfl ?_ ?_)))))))))))))))
 ·intro hc
  have hp1 := of_decide_eq_true hc
  refine wp_skip (then_n (wp_cond_true (hs.evb rfl (decide_eq_true hp1)) (wp_seq (wp_region_lit (asg hs rfl rfl rfl fun ac hs => wpList_nil (then_n (wp_ret (blk_r (then_r ?_)))))))))
  exact bodyPost_ret (res1 rfl (rv_t hs rfl)) hs.defers ⟨by have h0 := ht; rw [hp1] at h0; rw [← h0]; rfl, (hs.bel rfl)⟩
 intro hc
 have hp2 := of_decide_eq_false hc
 refine wp_region_lit (bnn hs (.bool (decide (op = 116))) rfl rfl rfl rfl (bin_eqlN (y := 116)) fun ac hs => asg hs rfl rfl rfl fun ac hs => wpList_nil (then_n (wcs hs rfl ?_ ?_)))
 ·intro hc
  have hp3 := of_decide_eq_true hc
  refine wp_seq ?_
  replace hs := hs.n0 [2] rfl rfl
  refine wp_region_lit (asg hs rfl rfl rfl fun ac hs => wpList_nil (then_n (wp_ret (blk_r (then_r ?_)))))
  exact bodyPost_ret (res1 rfl (rv_t hs rfl)) hs.defers ⟨by have h0 := ht; rw [hp3] at h0; rw [← h0]; rfl, (hs.bel rfl)⟩
 intro hc
 have hp4 := of_decide_eq_false hc
 refine wp_seq (wp_seq ?_)
 replace hs := hs.n0 [2, 3] rfl rfl
 refine wp_region_lit (bnn hs (.bool (decide (op = 105))) rfl rfl rfl rfl (bin_eqlN (y := 105)) fun ac hs => asg hs rfl rfl rfl fun ac hs => wpList_nil (then_n (wcs hs rfl ?_ ?_)))
 ·intro hc
  have hp5 := of_decide_eq_true hc
  refine wp_skip (then_n (wp_cond_true (hs.evb rfl (decide_eq_true hp5)) (wp_seq (wp_region_lit (asg hs rfl rfl rfl fun ac hs => wpList_nil (then_n (wp_ret (blk_r (then_r ?_)))))))))
  exact bodyPost_ret (res1 rfl (rv_t hs rfl)) hs.defers ⟨by have h0 := ht; rw [hp5] at h0; rw [← h0]; rfl, (hs.bel rfl)⟩
 intro hc
 have hp6 := of_decide_eq_false hc
 refine wp_seq (wp_region_lit (bnn hs (.bool (decide (op = 117))) rfl rfl rfl rfl (bin_eqlN (y := 117)) fun ac hs => asg hs rfl rfl rfl fun ac hs => wpList_nil (then_n (wcs hs rfl ?_ ?_))))
 ·intro hc
  have hp7 := of_decide_eq_true hc
  refine wp_skip (then_n (wp_cond_true (hs.evb rfl (decide_eq_true hp7)) (wp_seq (wp_region_lit (asg hs rfl rfl rfl fun ac hs => wpList_nil (then_n (wp_ret (blk_r (then_r ?_)))))))))
  exact bodyPost_ret (res1 rfl (rv_t hs rfl)) hs.defers ⟨by have h0 := ht; rw [hp7] at h0; rw [← h0]; rfl, (hs.bel rfl)⟩
 intro hc
 have hp8 := of_decide_eq_false hc
 refine wp_seq (wp_region_lit (bnn hs (.bool (decide (op = 118))) rfl rfl rfl rfl (bin_eqlN (y := 118)) fun ac hs => asg hs rfl rfl rfl fun ac hs => wpList_nil (then_n (wcs hs rfl ?_ ?_))))
 ·intro hc
  have hp9 := of_decide_eq_true hc
  refine wp_skip (then_n (wp_cond_true (hs.evb rfl (decide_eq_true hp9)) (wp_seq ?_)))
  replace hs := hs.n0 [2] rfl rfl
  refine wp_region_lit (asg hs rfl rfl rfl fun ac hs => wpList_nil (then_n (wp_ret (blk_r (then_r ?_)))))
  exact bodyPost_ret (res1 rfl (rv_t hs rfl)) hs.defers ⟨by have h0 := ht; rw [hp9] at h0; rw [← h0]; rfl, (hs.bel rfl)⟩
 intro hc
 have hp10 := of_decide_eq_false hc
 refine wp_seq ?_
 replace hs := hs.n0 [2, 3, 7] rfl rfl
 refine wp_region_lit (bnn hs (.bool (decide (op = 115))) rfl rfl rfl rfl (bin_eqlN (y := 115)) fun ac hs => asg hs rfl rfl rfl fun ac hs => wpList_nil (then_n (wcs hs rfl ?_ ?_)))
 ·intro hc
  have hp11 := of_decide_eq_true hc
  refine wp_skip (then_n (wp_cond_true (hs.evb rfl (decide_eq_true hp11)) (wp_seq (wp_region_lit (asg hs rfl rfl rfl fun ac hs => wpList_nil (then_n (wp_ret (blk_r (then_r ?_)))))))))
  exact bodyPost_ret (res1 rfl (rv_t hs rfl)) hs.defers ⟨by have h0 := ht; rw [hp11] at h0; rw [← h0]; rfl, (hs.bel rfl)⟩
 intro hc
 have hp12 := of_decide_eq_false hc
 refine wp_seq (wp_region_lit (bnn hs (.bool (decide (op = 130))) rfl rfl rfl rfl (bin_eqlN (y := 130)) fun ac hs => asg hs rfl rfl rfl fun ac hs => wpList_nil (then_n (wcs hs rfl ?_ ?_))))
 ·intro hc
  have hp13 := of_decide_eq_true hc
  refine wp_skip (then_n (wp_cond_true (hs.evb rfl (decide_eq_true hp13)) (wp_seq (wp_region_lit (asg hs rfl rfl rfl fun ac hs => wpList_nil (then_n (wp_ret (blk_r (then_r ?_)))))))))
  exact bodyPost_ret (res1 rfl (rv_t hs rfl)) hs.defers ⟨by have h0 := ht; rw [hp13] at h0; rw [← h0]; rfl, (hs.bel rfl)⟩
 intro hc
 have hp14 := of_decide_eq_false hc
 refine wp_seq (wp_region_lit (bnn hs (.bool (decide (op = 139))) rfl rfl rfl rfl (bin_eqlN (y := 139)) fun ac hs => asg hs rfl rfl rfl fun ac hs => wpList_nil (then_n (wcs hs rfl ?_ ?_))))
 ·intro hc
  have hp15 := of_decide_eq_true hc
  refine wp_skip (then_n (wp_cond_true (hs.evb rfl (decide_eq_true hp15)) (wp_seq ?_)))
  replace hs := hs.n0 [2] rfl rfl
  refine wp_region_lit (asg hs rfl rfl rfl fun ac hs => wpList_nil (then_n (wp_ret (blk_r (then_r ?_)))))
  exact bodyPost_ret (res1 rfl (rv_t hs rfl)) hs.defers ⟨by have h0 := ht; rw [hp15] at h0; rw [← h0]; rfl, (hs.bel rfl)⟩
 intro hc
 have hp16 := of_decide_eq_false hc
 refine wp_seq ?_
 replace hs := hs.n0 [2, 3, 7] rfl rfl
 refine wp_region_lit (bnn hs (.bool (decide (op = 140))) rfl rfl rfl rfl (bin_eqlN (y := 140)) fun ac hs => asg hs rfl rfl rfl fun ac hs => wpList_nil (then_n (wcs hs rfl ?_ ?_)))
 ·intro hc
  have hp17 := of_decide_eq_true hc
  refine wp_skip (then_n (wp_cond_true (hs.evb rfl (decide_eq_true hp17)) (wp_seq (wp_region_lit (asg hs rfl rfl rfl fun ac hs => wpList_nil (then_n (wp_ret (blk_r (then_r ?_)))))))))
  exact bodyPost_ret (res1 rfl (rv_t hs rfl)) hs.defers ⟨by have h0 := ht; rw [hp17] at h0; rw [← h0]; rfl, (hs.bel rfl)⟩
 intro hc
 have hp18 := of_decide_eq_false hc
 refine wp_seq (wp_region_lit (bnn hs (.bool (decide (op = 143))) rfl rfl rfl rfl (bin_eqlN (y := 143)) fun ac hs => asg hs rfl rfl rfl fun ac hs => wpList_nil (then_n (wcs hs rfl ?_ ?_))))
 ·intro hc
  have hp19 := of_decide_eq_true hc
  refine wp_skip (then_n (wp_cond_true (hs.evb rfl (decide_eq_true hp19)) (wp_seq (wp_region_lit (asg hs rfl rfl rfl fun ac hs => wpList_nil (then_n (wp_ret (blk_r (then_r ?_)))))))))
  exact bodyPost_ret (res1 rfl (rv_t hs rfl)) hs.defers ⟨by have h0 := ht; rw [hp19] at h0; rw [← h0]; rfl, (hs.bel rfl)⟩
 intro hc
 have hp20 := of_decide_eq_false hc
 refine wp_seq (wp_region_lit (bnn hs (.bool (decide (op = 144))) rfl rfl rfl rfl (bin_eqlN (y := 144)) fun ac hs => asg hs rfl rfl rfl fun ac hs => wpList_nil (then_n (wcs hs rfl ?_ ?_))))
 ·intro hc
  have hp21 := of_decide_eq_true hc
  refine wp_skip (then_n (wp_cond_true (hs.evb rfl (decide_eq_true hp21)) (wp_seq ?_)))
  replace hs := hs.n0 [2] rfl rfl
  refine wp_region_lit (asg hs rfl rfl rfl fun ac hs => wpList_nil (then_n (wp_ret (blk_r (then_r ?_)))))
  exact bodyPost_ret (res1 rfl (rv_t hs rfl)) hs.defers ⟨by have h0 := ht; rw [hp21] at h0; rw [← h0]; rfl, (hs.bel rfl)⟩
 intro hc
 have hp22 := of_decide_eq_false hc
 refine wp_seq ?_
 replace hs := hs.n0 [2, 3, 7] rfl rfl
 refine wp_region_lit (bnn hs (.bool (decide (op = 145))) rfl rfl rfl rfl (bin_eqlN (y := 145)) fun ac hs => asg hs rfl rfl rfl fun ac hs => wpList_nil (then_n (wcs hs rfl ?_ ?_)))
 ·intro hc
  have hp23 := of_decide_eq_true hc
  refine wp_skip (then_n (wp_cond_true (hs.evb rfl (decide_eq_true hp23)) (wp_seq (wp_region_lit (asg hs rfl rfl rfl fun ac hs => wpList_nil (then_n (wp_ret (blk_r (then_r ?_)))))))))
  exact bodyPost_ret (res1 rfl (rv_t hs rfl)) hs.defers ⟨by have h0 := ht; rw [hp23] at h0; rw [← h0]; rfl, (hs.bel rfl)⟩
 intro hc
 have hp24 := of_decide_eq_false hc
 refine wp_seq (wp_region_lit (bnn hs (.bool (decide (op = 146))) rfl rfl rfl rfl (bin_eqlN (y := 146)) fun ac hs => asg hs rfl rfl rfl fun ac hs => wpList_nil (then_n (wcs hs rfl ?_ ?_))))
 ·intro hc
  have hp25 := of_decide_eq_true hc
  refine wp_skip (then_n (wp_cond_true (hs.evb rfl (decide_eq_true hp25)) (wp_seq (wp_region_lit (asg hs rfl rfl rfl fun ac hs => wpList_nil (then_n (wp_ret (blk_r (then_r ?_)))))))))
  exact bodyPost_ret (res1 rfl (rv_t hs rfl)) hs.defers ⟨by have h0 := ht; rw [hp25] at h0; rw [← h0]; rfl, (hs.bel rfl)⟩
 intro hc
 have hp26 := of_decide_eq_false hc
 refine wp_seq (wp_region_lit (bnn hs (.bool (decide (op = 168))) rfl rfl rfl rfl (bin_eqlN (y := 168)) fun ac hs => asg hs rfl rfl rfl fun ac hs => wpList_nil (then_n (wcs hs rfl ?_ ?_))))
 ·intro hc
  have hp27 := of_decide_eq_true hc
  refine wp_skip (then_n (wp_cond_true (hs.evb rfl (decide_eq_true hp27)) (wp_seq ?_)))
  replace hs := hs.n0 [2] rfl rfl
  refine wp_region_lit (asg hs rfl rfl rfl fun ac hs => wpList_nil (then_n (wp_ret (blk_r (then_r ?_)))))
  exact bodyPost_ret (res1 rfl (rv_t hs rfl)) hs.defers ⟨by have h0 := ht; rw [hp27] at h0; rw [← h0]; rfl, (hs.bel rfl)⟩
 intro hc
 have hp28 := of_decide_eq_false hc
 replace hs := hs.n0 [2, 3, 7] rfl rfl
 refine wp_region_lit (bnn hs (.bool (decide (op = 170))) rfl rfl rfl rfl (bin_eqlN (y := 170)) fun ac hs => asg hs rfl rfl rfl fun ac hs => wpList_nil (then_n (wcs hs rfl ?_ ?_)))
 ·intro hc
  have hp29 := of_decide_eq_true hc
  refine wp_seq (wp_region_lit (asg hs rfl rfl rfl fun ac hs => wpList_nil (then_n (wp_ret (blk_r (then_r ?_))))))
  exact bodyPost_ret (res1 rfl (rv_t hs rfl)) hs.defers ⟨by have h0 := ht; rw [hp29] at h0; rw [← h0]; rfl, (hs.bel rfl)⟩
 intro hc
 have hp30 := of_decide_eq_false hc
 refine wp_seq (wp_seq (wp_region_lit (bnn hs (.bool (decide (op = 109))) rfl rfl rfl rfl (bin_eqlN (y := 109)) fun ac hs => asg hs rfl rfl rfl fun ac hs => wpList_nil (then_n (wcs hs rfl ?_ ?_)))))
 ·intro hc
  have hp31 := of_decide_eq_true hc
  refine wp_skip (then_n (wp_cond_true (hs.evb rfl (decide_eq_true hp31)) (wp_seq (wp_region_lit (asg hs rfl rfl rfl fun ac hs => wpList_nil (then_n (wp_ret (blk_r (then_r ?_)))))))))
  exact bodyPost_ret (res1 rfl (rv_t hs rfl)) hs.defers ⟨by have h0 := ht; rw [hp31] at h0; rw [← h0]; rfl, (hs.bel rfl)⟩
 intro hc
 have hp32 := of_decide_eq_false hc
 refine wp_seq (wp_region_lit (bnn hs (.bool (decide (op = 110))) rfl rfl rfl rfl (bin_eqlN (y := 110)) fun ac hs => asg hs rfl rfl rfl fun ac hs => wpList_nil (then_n (wcs hs rfl ?_ ?_))))
 ·intro hc
  have hp33 := of_decide_eq_true hc
  refine wp_skip (then_n (wp_cond_true (hs.evb rfl (decide_eq_true hp33)) (wp_seq ?_)))
  replace hs := hs.n0 [2] rfl rfl
  refine wp_region_lit (asg hs rfl rfl rfl fun ac hs => wpList_nil (then_n (wp_ret (blk_r (then_r ?_)))))
  exact bodyPost_ret (res1 rfl (rv_t hs rfl)) hs.defers ⟨by have h0 := ht; rw [hp33] at h0; rw [← h0]; rfl, (hs.bel rfl)⟩
 intro hc
 have hp34 := of_decide_eq_false hc
 refine wp_seq ?_
 replace hs := hs.n0 [2, 3, 21] rfl rfl
 refine wp_region_lit (bnn hs (.bool (decide (op = 119))) rfl rfl rfl rfl (bin_eqlN (y := 119)) fun ac hs => asg hs rfl rfl rfl fun ac hs => wpList_nil (then_n (wcs hs rfl ?_ ?_)))
 ·intro hc
  have hp35 := of_decide_eq_true hc
  refine wp_skip (then_n (wp_cond_true (hs.evb rfl (decide_eq_true hp35)) (wp_seq (wp_region_lit (asg hs rfl rfl rfl fun ac hs => wpList_nil (then_n (wp_ret (blk_r (then_r ?_)))))))))
  exact bodyPost_ret (res1 rfl (rv_t hs rfl)) hs.defers ⟨by have h0 := ht; rw [hp35] at h0; rw [← h0]; rfl, (hs.bel rfl)⟩
 intro hc
 have hp36 := of_decide_eq_false hc
 refine wp_seq (wp_region_lit (bnn hs (.bool (decide (op = 120))) rfl rfl rfl rfl (bin_eqlN (y := 120)) fun ac hs => asg hs rfl rfl rfl fun ac hs => wpList_nil (then_n (wcs hs rfl ?_ ?_))))
 ·intro hc
  have hp37 := of_decide_eq_true hc
  refine wp_skip (then_n (wp_cond_true (hs.evb rfl (decide_eq_true hp37)) (wp_seq (wp_region_lit (asg hs rfl rfl rfl fun ac hs => wpList_nil (then_n (wp_ret (blk_r (then_r ?_)))))))))
  exact bodyPost_ret (res1 rfl (rv_t hs rfl)) hs.defers ⟨by have h0 := ht; rw [hp37] at h0; rw [← h0]; rfl, (hs.bel rfl)⟩
 intro hc
 have hp38 := of_decide_eq_false hc
 refine wp_seq (wp_region_lit (bnn hs (.bool (decide (op = 124))) rfl rfl rfl rfl (bin_eqlN (y := 124)) fun ac hs => asg hs rfl rfl rfl fun ac hs => wpList_nil (then_n (wcs hs rfl ?_ ?_))))
 ·intro hc
  have hp39 := of_decide_eq_true hc
  refine wp_skip (then_n (wp_cond_true (hs.evb rfl (decide_eq_true hp39)) (wp_seq ?_)))
  replace hs := hs.n0 [2] rfl rfl
  refine wp_region_lit (asg hs rfl rfl rfl fun ac hs => wpList_nil (then_n (wp_ret (blk_r (then_r ?_)))))
  exact bodyPost_ret (res1 rfl (rv_t hs rfl)) hs.defers ⟨by have h0 := ht; rw [hp39] at h0; rw [← h0]; rfl, (hs.bel rfl)⟩
 intro hc
 have hp40 := of_decide_eq_false hc
 refine wp_seq ?_
 replace hs := hs.n0 [2, 3, 21] rfl rfl
 refine wp_region_lit (bnn hs (.bool (decide (op = 125))) rfl rfl rfl rfl (bin_eqlN (y := 125)) fun ac hs => asg hs rfl rfl rfl fun ac hs => wpList_nil (then_n (wcs hs rfl ?_ ?_)))
 ·intro hc
  have hp41 := of_decide_eq_true hc
  refine wp_skip (then_n (wp_cond_true (hs.evb rfl (decide_eq_true hp41)) (wp_seq (wp_region_lit (asg hs rfl rfl rfl fun ac hs => wpList_nil (then_n (wp_ret (blk_r (then_r ?_)))))))))
  exact bodyPost_ret (res1 rfl (rv_t hs rfl)) hs.defers ⟨by have h0 := ht; rw [hp41] at h0; rw [← h0]; rfl, (hs.bel rfl)⟩
 intro hc
 have hp42 := of_decide_eq_false hc
 refine wp_seq (wp_region_lit (bnn hs (.bool (decide (op = 126))) rfl rfl rfl rfl (bin_eqlN (y := 126)) fun ac hs => asg hs rfl rfl rfl fun ac hs => wpList_nil (then_n (wcs hs rfl ?_ ?_))))
 ·intro hc
  have hp43 := of_decide_eq_true hc
  refine wp_skip (then_n (wp_cond_true (hs.evb rfl (decide_eq_true hp43)) (wp_seq (wp_region_lit (asg hs rfl rfl rfl fun ac hs => wpList_nil (then_n (wp_ret (blk_r (then_r ?_)))))))))
  exact bodyPost_ret (res1 rfl (rv_t hs rfl)) hs.defers ⟨by have h0 := ht; rw [hp43] at h0; rw [← h0]; rfl, (hs.bel rfl)⟩
 intro hc
 have hp44 := of_decide_eq_false hc
 refine wp_seq (wp_region_lit (bnn hs (.bool (decide (op = 135))) rfl rfl rfl rfl (bin_eqlN (y := 135)) fun ac hs => asg hs rfl rfl rfl fun ac hs => wpList_nil (then_n (wcs hs rfl ?_ ?_))))
 ·intro hc
  have hp45 := of_decide_eq_true hc
  refine wp_skip (then_n (wp_cond_true (hs.evb rfl (decide_eq_true hp45)) (wp_seq ?_)))
  replace hs := hs.n0 [2] rfl rfl
  refine wp_region_lit (asg hs rfl rfl rfl fun ac hs => wpList_nil (then_n (wp_ret (blk_r (then_r ?_)))))
  exact bodyPost_ret (res1 rfl (rv_t hs rfl)) hs.defers ⟨by have h0 := ht; rw [hp45] at h0; rw [← h0]; rfl, (hs.bel rfl)⟩
 intro hc
 have hp46 := of_decide_eq_false hc
 refine wp_seq ?_
 replace hs := hs.n0 [2, 3, 21] rfl rfl
 refine wp_region_lit (bnn hs (.bool (decide (op = 136))) rfl rfl rfl rfl (bin_eqlN (y := 136)) fun ac hs => asg hs rfl rfl rfl fun ac hs => wpList_nil (then_n (wcs hs rfl ?_ ?_)))
 ·intro hc
  have hp47 := of_decide_eq_true hc
  refine wp_skip (then_n (wp_cond_true (hs.evb rfl (decide_eq_true hp47)) (wp_seq (wp_region_lit (asg hs rfl rfl rfl fun ac hs => wpList_nil (then_n (wp_ret (blk_r (then_r ?_)))))))))
  exact bodyPost_ret (res1 rfl (rv_t hs rfl)) hs.defers ⟨by have h0 := ht; rw [hp47] at h0; rw [← h0]; rfl, (hs.bel rfl)⟩
 intro hc
 have hp48 := of_decide_eq_false hc
 refine wp_seq (wp_region_lit (bnn hs (.bool (decide (op = 147))) rfl rfl rfl rfl (bin_eqlN (y := 147)) fun ac hs => asg hs rfl rfl rfl fun ac hs => wpList_nil (then_n (wcs hs rfl ?_ ?_))))
 ·intro hc
  have hp49 := of_decide_eq_true hc
  refine wp_skip (then_n (wp_cond_true (hs.evb rfl (decide_eq_true hp49)) (wp_seq (wp_region_lit (asg hs rfl rfl rfl fun ac hs => wpList_nil (then_n (wp_ret (blk_r (then_r ?_)))))))))
  exact bodyPost_ret (res1 rfl (rv_t hs rfl)) hs.defers ⟨by have h0 := ht; rw [hp49] at h0; rw [← h0]; rfl, (hs.bel rfl)⟩
 intro hc
 have hp50 := of_decide_eq_false hc
 refine wp_seq (wp_region_lit (bnn hs (.bool (decide (op = 148))) rfl rfl rfl rfl (bin_eqlN (y := 148)) fun ac hs => asg hs rfl rfl rfl fun ac hs => wpList_nil (then_n (wcs hs rfl ?_ ?_))))
 ·intro hc
  have hp51 := of_decide_eq_true hc
  refine wp_skip (then_n (wp_cond_true (hs.evb rfl (decide_eq_true hp51)) (wp_seq ?_)))
  replace hs := hs.n0 [2] rfl rfl
  refine wp_region_lit (asg hs rfl rfl rfl fun ac hs => wpList_nil (then_n (wp_ret (blk_r (then_r ?_)))))
  exact bodyPost_ret (res1 rfl (rv_t hs rfl)) hs.defers ⟨by have h0 := ht; rw [hp51] at h0; rw [← h0]; rfl, (hs.bel rfl)⟩
 intro hc
 have hp52 := of_decide_eq_false hc
 refine wp_seq ?_
 replace hs := hs.n0 [2, 3, 21] rfl rfl
 refine wp_region_lit (bnn hs (.bool (decide (op = 154))) rfl rfl rfl rfl (bin_eqlN (y := 154)) fun ac hs => asg hs rfl rfl rfl fun ac hs => wpList_nil (then_n (wcs hs rfl ?_ ?_)))
 ·intro hc
  have hp53 := of_decide_eq_true hc
  refine wp_skip (then_n (wp_cond_true (hs.evb rfl (decide_eq_true hp53)) (wp_seq (wp_region_lit (asg hs rfl rfl rfl fun ac hs => wpList_nil (then_n (wp_ret (blk_r (then_r ?_)))))))))
  exact bodyPost_ret (res1 rfl (rv_t hs rfl)) hs.defers ⟨by have h0 := ht; rw [hp53] at h0; rw [← h0]; rfl, (hs.bel rfl)⟩
 intro hc
 have hp54 := of_decide_eq_false hc
 refine wp_seq (wp_region_lit (bnn hs (.bool (decide (op = 155))) rfl rfl rfl rfl (bin_eqlN (y := 155)) fun ac hs => asg hs rfl rfl rfl fun ac hs => wpList_nil (then_n (wcs hs rfl ?_ ?_))))
 ·intro hc
  have hp55 := of_decide_eq_true hc
  refine wp_skip (then_n (wp_cond_true (hs.evb rfl (decide_eq_true hp55)) (wp_seq (wp_region_lit (asg hs rfl rfl rfl fun ac hs => wpList_nil (then_n (wp_ret (blk_r (then_r ?_)))))))))
  exact bodyPost_ret (res1 rfl (rv_t hs rfl)) hs.defers ⟨by have h0 := ht; rw [hp55] at h0; rw [← h0]; rfl, (hs.bel rfl)⟩
 intro hc
 have hp56 := of_decide_eq_false hc
 refine wp_seq (wp_region_lit (bnn hs (.bool (decide (op = 156))) rfl rfl rfl rfl (bin_eqlN (y := 156)) fun ac hs => asg hs rfl rfl rfl fun ac hs => wpList_nil (then_n (wcs hs rfl ?_ ?_))))
 ·intro hc
  have hp57 := of_decide_eq_true hc
  refine wp_skip (then_n (wp_cond_true (hs.evb rfl (decide_eq_true hp57)) (wp_seq ?_)))
  replace hs := hs.n0 [2] rfl rfl
  refine wp_region_lit (asg hs rfl rfl rfl fun ac hs => wpList_nil (then_n (wp_ret (blk_r (then_r ?_)))))
  exact bodyPost_ret (res1 rfl (rv_t hs rfl)) hs.defers ⟨by have h0 := ht; rw [hp57] at h0; rw [← h0]; rfl, (hs.bel rfl)⟩
 intro hc
 have hp58 := of_decide_eq_false hc
 refine wp_seq ?_
 replace hs := hs.n0 [2, 3, 21] rfl rfl
 refine wp_region_lit (bnn hs (.bool (decide (op = 157))) rfl rfl rfl rfl (bin_eqlN (y := 157)) fun ac hs => asg hs rfl rfl rfl fun ac hs => wpList_nil (then_n (wcs hs rfl ?_ ?_)))
 ·intro hc
  have hp59 := of_decide_eq_true hc
  refine wp_skip (then_n (wp_cond_true (hs.evb rfl (decide_eq_true hp59)) (wp_seq (wp_region_lit (asg hs rfl rfl rfl fun ac hs => wpList_nil (then_n (wp_ret (blk_r (then_r ?_)))))))))
  exact bodyPost_ret (res1 rfl (rv_t hs rfl)) hs.defers ⟨by have h0 := ht; rw [hp59] at h0; rw [← h0]; rfl, (hs.bel rfl)⟩
 intro hc
 have hp60 := of_decide_eq_false hc
 refine wp_seq (wp_region_lit (bnn hs (.bool (decide (op = 158))) rfl rfl rfl rfl (bin_eqlN (y := 158)) fun ac hs => asg hs rfl rfl rfl fun ac hs => wpList_nil (then_n (wcs hs rfl ?_ ?_))))
 ·intro hc
  have hp61 := of_decide_eq_true hc
  refine wp_skip (then_n (wp_cond_true (hs.evb rfl (decide_eq_true hp61)) (wp_seq (wp_region_lit (asg hs rfl rfl rfl fun ac hs => wpList_nil (then_n (wp_ret (blk_r (then_r ?_)))))))))
  exact bodyPost_ret (res1 rfl (rv_t hs rfl)) hs.defers ⟨by have h0 := ht; rw [hp61] at h0; rw [← h0]; rfl, (hs.bel rfl)⟩
 intro hc
 have hp62 := of_decide_eq_false hc
 refine wp_seq (wp_region_lit (bnn hs (.bool (decide (op = 159))) rfl rfl rfl rfl (bin_eqlN (y := 159)) fun ac hs => asg hs rfl rfl rfl fun ac hs => wpList_nil (then_n (wcs hs rfl ?_ ?_))))
 ·intro hc
  have hp63 := of_decide_eq_true hc
  refine wp_skip (then_n (wp_cond_true (hs.evb rfl (decide_eq_true hp63)) (wp_seq ?_)))
  replace hs := hs.n0 [2] rfl rfl
  refine wp_region_lit (asg hs rfl rfl rfl fun ac hs => wpList_nil (then_n (wp_ret (blk_r (then_r ?_)))))
  exact bodyPost_ret (res1 rfl (rv_t hs rfl)) hs.defers ⟨by have h0 := ht; rw [hp63] at h0; rw [← h0]; rfl, (hs.bel rfl)⟩
 intro hc
 have hp64 := of_decide_eq_false hc
 refine wp_seq ?_
 replace hs := hs.n0 [2, 3, 21] rfl rfl
 refine wp_region_lit (bnn hs (.bool (decide (op = 160))) rfl rfl rfl rfl (bin_eqlN (y := 160)) fun ac hs => asg hs rfl rfl rfl fun ac hs => wpList_nil (then_n (wcs hs rfl ?_ ?_)))
 ·intro hc
  have hp65 := of_decide_eq_true hc
  refine wp_skip (then_n (wp_cond_true (hs.evb rfl (decide_eq_true hp65)) (wp_seq (wp_region_lit (asg hs rfl rfl rfl fun ac hs => wpList_nil (then_n (wp_ret (blk_r (then_r ?_)))))))))
  exact bodyPost_ret (res1 rfl (rv_t hs rfl)) hs.defers ⟨by have h0 := ht; rw [hp65] at h0; rw [← h0]; rfl, (hs.bel rfl)⟩
 intro hc
 have hp66 := of_decide_eq_false hc
 refine wp_seq (wp_region_lit (bnn hs (.bool (decide (op = 161))) rfl rfl rfl rfl (bin_eqlN (y := 161)) fun ac hs => asg hs rfl rfl rfl fun ac hs => wpList_nil (then_n (wcs hs rfl ?_ ?_))))
 ·intro hc
  have hp67 := of_decide_eq_true hc
  refine wp_skip (then_n (wp_cond_true (hs.evb rfl (decide_eq_true hp67)) (wp_seq (wp_region_lit (asg hs rfl rfl rfl fun ac hs => wpList_nil (then_n (wp_ret (blk_r (then_r ?_)))))))))
  exact bodyPost_ret (res1 rfl (rv_t hs rfl)) hs.defers ⟨by have h0 := ht; rw [hp67] at h0; rw [← h0]; rfl, (hs.bel rfl)⟩
 intro hc
 have hp68 := of_decide_eq_false hc
 refine wp_seq (wp_region_lit (bnn hs (.bool (decide (op = 162))) rfl rfl rfl rfl (bin_eqlN (y := 162)) fun ac hs => asg hs rfl rfl rfl fun ac hs => wpList_nil (then_n (wcs hs rfl ?_ ?_))))
 ·intro hc
  have hp69 := of_decide_eq_true hc
  refine wp_skip (then_n (wp_cond_true (hs.evb rfl (decide_eq_true hp69)) (wp_seq ?_)))
  replace hs := hs.n0 [2] rfl rfl
  refine wp_region_lit (asg hs rfl rfl rfl fun ac hs => wpList_nil (then_n (wp_ret (blk_r (then_r ?_)))))
  exact bodyPost_ret (res1 rfl (rv_t hs rfl)) hs.defers ⟨by have h0 := ht; rw [hp69] at h0; rw [← h0]; rfl, (hs.bel rfl)⟩
 intro hc
 have hp70 := of_decide_eq_false hc
 refine wp_seq ?_
 replace hs := hs.n0 [2, 3, 21] rfl rfl
 refine wp_region_lit (bnn hs (.bool (decide (op = 163))) rfl rfl rfl rfl (bin_eqlN (y := 163)) fun ac hs => asg hs rfl rfl rfl fun ac hs => wpList_nil (then_n (wcs hs rfl ?_ ?_)))
 ·intro hc
  have hp71 := of_decide_eq_true hc
  refine wp_skip (then_n (wp_cond_true (hs.evb rfl (decide_eq_true hp71)) (wp_seq (wp_region_lit (asg hs rfl rfl rfl fun ac hs => wpList_nil (then_n (wp_ret (blk_r (then_r ?_)))))))))
  exact bodyPost_ret (res1 rfl (rv_t hs rfl)) hs.defers ⟨by have h0 := ht; rw [hp71] at h0; rw [← h0]; rfl, (hs.bel rfl)⟩
 intro hc
 have hp72 := of_decide_eq_false hc
 refine wp_region_lit (bnn hs (.bool (decide (op = 164))) rfl rfl rfl rfl (bin_eqlN (y := 164)) fun ac hs => asg hs rfl rfl rfl fun ac hs => wpList_nil (then_n (wcs hs rfl ?_ ?_)))
 ·intro hc
  have hp73 := of_decide_eq_true hc
  refine wp_seq (wp_region_lit (asg hs rfl rfl rfl fun ac hs => wpList_nil (then_n (wp_ret (blk_r (then_r ?_))))))
  exact bodyPost_ret (res1 rfl (rv_t hs rfl)) hs.defers ⟨by have h0 := ht; rw [hp73] at h0; rw [← h0]; rfl, (hs.bel rfl)⟩
 intro hc
 have hp74 := of_decide_eq_false hc
 refine wp_seq (wp_seq (wp_region_lit (bnn hs (.bool (decide (op = 111))) rfl rfl rfl rfl (bin_eqlN (y := 111)) fun ac hs => asg hs rfl rfl rfl fun ac hs => wpList_nil (then_n (wcs hs rfl ?_ ?_)))))
 ·intro hc
  have hp75 := of_decide_eq_true hc
  refine wp_skip (then_n (wp_cond_true (hs.evb rfl (decide_eq_true hp75)) (wp_seq ?_)))
  replace hs := hs.n0 [2] rfl rfl
  refine wp_region_lit (asg hs rfl rfl rfl fun ac hs => wpList_nil (then_n (wp_ret (blk_r (then_r ?_)))))
  exact bodyPost_ret (res1 rfl (rv_t hs rfl)) hs.defers ⟨by have h0 := ht; rw [hp75] at h0; rw [← h0]; rfl, (hs.bel rfl)⟩
 intro hc
 have hp76 := of_decide_eq_false hc
 refine wp_seq ?_
 replace hs := hs.n0 [2, 3, 44] rfl rfl
 refine wp_region_lit (bnn hs (.bool (decide (op = 123))) rfl rfl rfl rfl (bin_eqlN (y := 123)) fun ac hs => asg hs rfl rfl rfl fun ac hs => wpList_nil (then_n (wcs hs rfl ?_ ?_)))
 ·intro hc
  have hp77 := of_decide_eq_true hc
  refine wp_skip (then_n (wp_cond_true (hs.evb rfl (decide_eq_true hp77)) (wp_seq (wp_region_lit (asg hs rfl rfl rfl fun ac hs => wpList_nil (then_n (wp_ret (blk_r (then_r ?_)))))))))
  exact bodyPost_ret (res1 rfl (rv_t hs rfl)) hs.defers ⟨by have h0 := ht; rw [hp77] at h0; rw [← h0]; rfl, (hs.bel rfl)⟩
 intro hc
 have hp78 := of_decide_eq_false hc
 refine wp_region_lit (bnn hs (.bool (decide (op = 165))) rfl rfl rfl rfl (bin_eqlN (y := 165)) fun ac hs => asg hs rfl rfl rfl fun ac hs => wpList_nil (then_n (wcs hs rfl ?_ ?_)))
 ·intro hc
  have hp79 := of_decide_eq_true hc
  refine wp_seq (wp_region_lit (asg hs rfl rfl rfl fun ac hs => wpList_nil (then_n (wp_ret (blk_r (then_r ?_))))))
  exact bodyPost_ret (res1 rfl (rv_t hs rfl)) hs.defers ⟨by have h0 := ht; rw [hp79] at h0; rw [← h0]; rfl, (hs.bel rfl)⟩
 intro hc
 have hp80 := of_decide_eq_false hc
 refine wp_seq (wp_seq (wp_region_lit (bnn hs (.bool (decide (op = 112))) rfl rfl rfl rfl (bin_eqlN (y := 112)) fun ac hs => asg hs rfl rfl rfl fun ac hs => wpList_nil (then_n (wcs hs rfl ?_ ?_)))))
 ·intro hc
  have hp81 := of_decide_eq_true hc
  refine wp_skip (then_n (wp_cond_true (hs.evb rfl (decide_eq_true hp81)) (wp_seq ?_)))
  replace hs := hs.n0 [2] rfl rfl
  refine wp_region_lit (asg hs rfl rfl rfl fun ac hs => wpList_nil (then_n (wp_ret (blk_r (then_r ?_)))))
  exact bodyPost_ret (res1 rfl (rv_t hs rfl)) hs.defers ⟨by have h0 := ht; rw [hp81] at h0; rw [← h0]; rfl, (hs.bel rfl)⟩
 intro hc
 have hp82 := of_decide_eq_false hc
 replace hs := hs.n0 [2, 3, 48] rfl rfl
 refine wp_region_lit (bnn hs (.bool (decide (op = 114))) rfl rfl rfl rfl (bin_eqlN (y := 114)) fun ac hs => asg hs rfl rfl rfl fun ac hs => wpList_nil (then_n (wcs hs rfl ?_ ?_)))
 ·intro hc
  have hp83 := of_decide_eq_true hc
  refine wp_seq (wp_region_lit (asg hs rfl rfl rfl fun ac hs => wpList_nil (then_n (wp_ret (blk_r (then_r ?_))))))
  exact bodyPost_ret (res1 rfl (rv_t hs rfl)) hs.defers ⟨by have h0 := ht; rw [hp83] at h0; rw [← h0]; rfl, (hs.bel rfl)⟩
 intro hc
 have hp84 := of_decide_eq_false hc
 refine wp_seq (wp_region_lit (bnn hs (.bool (decide (op = 113))) rfl rfl rfl rfl (bin_eqlN (y := 113)) fun ac hs => asg hs rfl rfl rfl fun ac hs => wpList_nil (then_n (wcs hs rfl ?_ ?_))))
 ·intro hc
  have hp85 := of_decide_eq_true hc
  refine wp_seq (wp_region_lit (asg hs rfl rfl rfl fun ac hs => wpList_nil (then_n (wp_ret (blk_r (then_r ?_))))))
  exact bodyPost_ret (res1 rfl (rv_t hs rfl)) hs.defers ⟨by have h0 := ht; rw [hp85] at h0; rw [← h0]; rfl, (hs.bel rfl)⟩
 intro hc
 have hp86 := of_decide_eq_false hc
 refine wp_skip (blk_n (then_n (wp_seq (wp_region_lit (asg hs rfl rfl rfl fun ac hs => wpList_nil (then_n (wp_ret ?_)))))))
 exact bodyPost_ret (res1 rfl (rv_t hs rfl)) hs.defers ⟨by have h0 := ht; simp only [takeI, hp2, hp4, hp6, hp8, hp10, hp12, hp14, hp16, hp18, hp20, hp22, hp24, hp26, hp28, hp30, hp32, hp34, hp36, hp38, hp40, hp42, hp44, hp46, hp48, hp50, hp52, hp54, hp56, hp58, hp60, hp62, hp64, hp66, hp68, hp70, hp72, hp74, hp76, hp78, hp80, hp82, hp84, hp86, or_self, if_false] at h0; rw [← h0], (hs.bel rfl)⟩
theorem holds_c (op : Nat) (x y : Int) (q : Bool) (h : holdB op x y = q) (w0 : World) : Calls prog 78 #[nu8 op, .int .i64 x, .int .i64 y] w0 fun e w' => e = .returned (.bool q) ∧ Below w0.heap.size w0 w' := by
 refine enter (n := 53) (args := [nu8 op, .int .i64 x, .int .i64 y]) func78 rfl rfl (Nat.le_of_ble_eq_true rfl) fun ac hs => wp_seq (wp_region_lit (asg hs rfl rfl rfl fun ac hs => wpList_nil (then_n (wp_seq (wp_seq (wp_region_lit (mvv hs rfl rfl rfl fun ac hs => wpList_nil (then_n (wp_block (wp_seq (wp_region_lit (bnn hs (.bool (decide (op = 154))) rfl rfl rfl rfl (bin_eqlN (y := 154)) fun ac hs => asg hs rfl rfl rfl fun ac hs => wpList_nil (then_n (wcs hs rfl ?_ ?_))))))))))))))
 ·intro hc
  have hp1 := of_decide_eq_true hc
  refine wp_seq ?_
  by_cases hq2 : x ≠ 0
  ·refine wp_region_lit ?_
   refine mvv hs rfl rfl rfl fun ac hs => bnn hs (.bool true) rfl rfl rfl rfl (fun w => dT hq2 (bin_neqI (y := 0) w)) fun ac hs => mvv hs rfl rfl rfl fun ac hs => lstep (wpO_in hs rfl rfl rfl (op_move hs none rfl rfl rfl rfl fun ac hs => lstep (wpO_in hs rfl rfl rfl (op_bin hs none (v := .bool (decide (y ≠ 0))) rfl rfl rfl rfl (fun _ => rfl) (bin_neqI (x := y) (y := 0)) rfl fun ac hs => stp (op_pickT hs none rfl rfl rfl rfl rfl fun ac hs => asg hs rfl rfl rfl fun ac hs => wpList_nil (then_n (wp_ret (blk_r (then_r ?_)))))))))
   exact bodyPost_ret (res1 rfl (rv_t hs rfl)) hs.defers ⟨by have h0 := h; rw [hp1] at h0; rw [← h0]; first | rfl | simp [holdB, hq2], (hs.bel rfl)⟩
  refine wp_region_lit (mvv hs rfl rfl rfl fun ac hs => bnn hs (.bool false) rfl rfl rfl rfl (fun w => dF hq2 (bin_neqI (y := 0) w)) fun ac hs => mvv hs rfl rfl rfl fun ac hs => lstep (wpO_out hs none rfl rfl (.inl rfl) rfl rfl fun ac hs => lstep (wpO_out hs none rfl rfl (.inl rfl) rfl rfl fun ac hs => stp (op_pickF hs none rfl rfl rfl rfl rfl fun ac hs => asg hs rfl rfl rfl fun ac hs => wpList_nil (then_n (wp_ret (blk_r (then_r ?_))))))))
  exact bodyPost_ret (res1 rfl (rv_t hs rfl)) hs.defers ⟨by have h0 := h; rw [hp1] at h0; rw [← h0]; first | rfl | simp [holdB, hq2], (hs.bel rfl)⟩
 intro hc
 have hp3 := of_decide_eq_false hc
 refine wp_seq (wp_region_lit (bnn hs (.bool (decide (op = 155))) rfl rfl rfl rfl (bin_eqlN (y := 155)) fun ac hs => asg hs rfl rfl rfl fun ac hs => wpList_nil (then_n (wcs hs rfl ?_ ?_))))
 ·intro hc
  have hp4 := of_decide_eq_true hc
  refine wp_seq ?_
  by_cases hq5 : x ≠ 0
  ·replace hs := hs.n0 [1, 2, 6] rfl rfl
   refine wp_region_lit (mvv hs rfl rfl rfl fun ac hs => bnn hs (.bool true) rfl rfl rfl rfl (fun w => dT hq5 (bin_neqI (y := 0) w)) fun ac hs => mvv hs rfl rfl rfl fun ac hs => lstep (wpO_out hs none rfl rfl (.inl rfl) rfl rfl fun ac hs => lstep (wpO_out hs none rfl rfl (.inl rfl) rfl rfl fun ac hs => stp (op_pickT hs none rfl rfl rfl rfl rfl fun ac hs => asg hs rfl rfl rfl fun ac hs => wpList_nil (then_n (wp_ret (blk_r (then_r ?_))))))))
   exact bodyPost_ret (res1 rfl (rv_t hs rfl)) hs.defers ⟨by have h0 := h; rw [hp4] at h0; rw [← h0]; first | rfl | simp [holdB, hq5], (hs.bel rfl)⟩
  replace hs := hs.n0 [1, 2, 6] rfl rfl
  refine wp_region_lit (mvv hs rfl rfl rfl fun ac hs => bnn hs (.bool false) rfl rfl rfl rfl (fun w => dF hq5 (bin_neqI (y := 0) w)) fun ac hs => mvv hs rfl rfl rfl fun ac hs => lstep (wpO_in hs rfl rfl rfl (op_move hs none rfl rfl rfl rfl fun ac hs => lstep (wpO_in hs rfl rfl rfl (op_bin hs none (v := .bool (decide (y ≠ 0))) rfl rfl rfl rfl (fun _ => rfl) (bin_neqI (x := y) (y := 0)) rfl fun ac hs => stp (op_pickF hs none rfl rfl rfl rfl rfl fun ac hs => asg hs rfl rfl rfl fun ac hs => wpList_nil (then_n (wp_ret (blk_r (then_r ?_))))))))))
  exact bodyPost_ret (res1 rfl (rv_t hs rfl)) hs.defers ⟨by have h0 := h; rw [hp4] at h0; rw [← h0]; first | rfl | simp [holdB, hq5], (hs.bel rfl)⟩
 intro hc
 have hp6 := of_decide_eq_false hc
 refine wp_seq (wp_seq ?_)
 replace hs := hs.n0 [1, 2, 6, 7] rfl rfl
 refine wp_region_lit (bnn hs (.bool (decide (op = 156))) rfl rfl rfl rfl (bin_eqlN (y := 156)) fun ac hs => asg hs rfl rfl rfl fun ac hs => wpList_nil (then_n (wcs hs rfl ?_ ?_)))
 ·intro hc
  have hp7 := of_decide_eq_true hc
  refine wp_skip (then_n (wp_cond_true (hs.evb rfl (decide_eq_true hp7)) (wp_seq (wp_region_lit (mvv hs rfl rfl rfl fun ac hs => mvv hs rfl rfl rfl fun ac hs => bnn hs (.bool (decide (x = y))) rfl rfl rfl rfl bin_eqlI fun ac hs => asg hs rfl rfl rfl fun ac hs => wpList_nil (then_n (wp_ret (blk_r (then_r ?_)))))))))
  exact bodyPost_ret (res1 rfl (rv_t hs rfl)) hs.defers ⟨by have h0 := h; rw [hp7] at h0; rw [← h0]; first | rfl | simp [holdB], (hs.bel rfl)⟩
 intro hc
 have hp8 := of_decide_eq_false hc
 refine wp_region_lit (bnn hs (.bool (decide (op = 157))) rfl rfl rfl rfl (bin_eqlN (y := 157)) fun ac hs => asg hs rfl rfl rfl fun ac hs => wpList_nil (then_n (wcs hs rfl ?_ ?_)))
 ·intro hc
  have hp9 := of_decide_eq_true hc
  refine wp_seq (wp_region_lit (mvv hs rfl rfl rfl fun ac hs => mvv hs rfl rfl rfl fun ac hs => bnn hs (.bool (decide (x = y))) rfl rfl rfl rfl bin_eqlI fun ac hs => asg hs rfl rfl rfl fun ac hs => wpList_nil (then_n (wp_ret (blk_r (then_r ?_))))))
  exact bodyPost_ret (res1 rfl (rv_t hs rfl)) hs.defers ⟨by have h0 := h; rw [hp9] at h0; rw [← h0]; first | rfl | simp [holdB], (hs.bel rfl)⟩
 intro hc
 have hp10 := of_decide_eq_false hc
 refine wp_seq (wp_region_lit (bnn hs (.bool (decide (op = 158))) rfl rfl rfl rfl (bin_eqlN (y := 158)) fun ac hs => asg hs rfl rfl rfl fun ac hs => wpList_nil (then_n (wcs hs rfl ?_ ?_))))
 ·intro hc
  have hp11 := of_decide_eq_true hc
  refine wp_seq ?_
  replace hs := hs.n0 [1, 2, 6] rfl rfl
  refine wp_region_lit (mvv hs rfl rfl rfl fun ac hs => mvv hs rfl rfl rfl fun ac hs => bnn hs (.bool (decide (x ≠ y))) rfl rfl rfl rfl bin_neqI fun ac hs => asg hs rfl rfl rfl fun ac hs => wpList_nil (then_n (wp_ret (blk_r (then_r ?_)))))
  exact bodyPost_ret (res1 rfl (rv_t hs rfl)) hs.defers ⟨by have h0 := h; rw [hp11] at h0; rw [← h0]; first | rfl | simp [holdB], (hs.bel rfl)⟩
 intro hc
 have hp12 := of_decide_eq_false hc
 refine wp_seq ?_
 replace hs := hs.n0 [1, 2, 6, 7] rfl rfl
 refine wp_region_lit (bnn hs (.bool (decide (op = 159))) rfl rfl rfl rfl (bin_eqlN (y := 159)) fun ac hs => asg hs rfl rfl rfl fun ac hs => wpList_nil (then_n (wcs hs rfl ?_ ?_)))
 ·intro hc
  have hp13 := of_decide_eq_true hc
  refine wp_seq (wp_region_lit (mvv hs rfl rfl rfl fun ac hs => mvv hs rfl rfl rfl fun ac hs => bnn hs (.bool (decide (x < y))) rfl rfl rfl rfl bin_lssI fun ac hs => asg hs rfl rfl rfl fun ac hs => wpList_nil (then_n (wp_ret (blk_r (then_r ?_))))))
  exact bodyPost_ret (res1 rfl (rv_t hs rfl)) hs.defers ⟨by have h0 := h; rw [hp13] at h0; rw [← h0]; first | rfl | simp [holdB], (hs.bel rfl)⟩
 intro hc
 have hp14 := of_decide_eq_false hc
 refine wp_seq (wp_region_lit (bnn hs (.bool (decide (op = 160))) rfl rfl rfl rfl (bin_eqlN (y := 160)) fun ac hs => asg hs rfl rfl rfl fun ac hs => wpList_nil (then_n (wcs hs rfl ?_ ?_))))
 ·intro hc
  have hp15 := of_decide_eq_true hc
  refine wp_seq (wp_region_lit (mvv hs rfl rfl rfl fun ac hs => mvv hs rfl rfl rfl fun ac hs => bnn hs (.bool (decide (y < x))) rfl rfl rfl rfl bin_gtrI fun ac hs => asg hs rfl rfl rfl fun ac hs => wpList_nil (then_n (wp_ret (blk_r (then_r ?_))))))
  exact bodyPost_ret (res1 rfl (rv_t hs rfl)) hs.defers ⟨by have h0 := h; rw [hp15] at h0; rw [← h0]; first | rfl | simp [holdB], (hs.bel rfl)⟩
 intro hc
 have hp16 := of_decide_eq_false hc
 refine wp_seq (wp_region_lit (bnn hs (.bool (decide (op = 161))) rfl rfl rfl rfl (bin_eqlN (y := 161)) fun ac hs => asg hs rfl rfl rfl fun ac hs => wpList_nil (then_n (wcs hs rfl ?_ ?_))))
 ·intro hc
  have hp17 := of_decide_eq_true hc
  refine wp_seq ?_
  replace hs := hs.n0 [1, 2, 6] rfl rfl
  refine wp_region_lit (mvv hs rfl rfl rfl fun ac hs => mvv hs rfl rfl rfl fun ac hs => bnn hs (.bool (decide (x ≤ y))) rfl rfl rfl rfl bin_leqI fun ac hs => asg hs rfl rfl rfl fun ac hs => wpList_nil (then_n (wp_ret (blk_r (then_r ?_)))))
  exact bodyPost_ret (res1 rfl (rv_t hs rfl)) hs.defers ⟨by have h0 := h; rw [hp17] at h0; rw [← h0]; first | rfl | simp [holdB], (hs.bel rfl)⟩
 intro hc
 have hp18 := of_decide_eq_false hc
 refine wp_skip (blk_n (then_n (wp_seq ?_)))
 replace hs := hs.n0 [1, 2, 6] rfl rfl
 refine wp_region_lit (mvv hs rfl rfl rfl fun ac hs => mvv hs rfl rfl rfl fun ac hs => bnn hs (.bool (decide (y ≤ x))) rfl rfl rfl rfl bin_geqI fun ac hs => asg hs rfl rfl rfl fun ac hs => wpList_nil (then_n (wp_ret ?_)))
 exact bodyPost_ret (res1 rfl (rv_t hs rfl)) hs.defers ⟨by have h0 := h; simp only [holdB, hp3, hp6, hp8, hp10, hp12, hp14, hp16, hp18, or_self, if_false] at h0; rw [← h0], (hs.bel rfl)⟩
theorem one_c (op : Nat) (a z : Int) (hb : -2147483648 < a ∧ a < 2147483648) (h : oneI op a = z) (w0 : World) : Calls prog 77 #[nu8 op, .int .i64 a] w0 fun e w' => e = .returned (.int .i64 z) ∧ Below w0.heap.size w0 w' := by
 obtain ⟨hb1, hb2⟩ := hb
 refine enter (n := 29) (args := [nu8 op, .int .i64 a]) func77 rfl rfl (Nat.le_of_ble_eq_true rfl) fun ac hs => wp_seq (wp_region_lit (asg hs rfl rfl rfl fun ac hs => wpList_nil (then_n (wp_seq (wp_seq (wp_region_lit (mvv hs rfl rfl rfl fun ac hs => wpList_nil (then_n (wp_block (wp_seq (wp_region_lit (bnn hs (.bool (decide (op = 139))) rfl rfl rfl rfl (bin_eqlN (y := 139)) fun ac hs => asg hs rfl rfl rfl fun ac hs => wpList_nil (then_n (wcs hs rfl ?_ ?_))))))))))))))
 ·intro hc
  have hp1 := of_decide_eq_true hc
  refine wp_seq (wp_region_lit (mvv hs rfl rfl rfl fun ac hs => bnn hs (.int .i64 (a + 1)) rfl rfl rfl rfl (bin_addI (y := 1) (z := a + 1) rfl (by omega) (by omega)) fun ac hs => asg hs rfl rfl rfl fun ac hs => wpList_nil (then_n (wp_ret (blk_r (then_r ?_))))))
  exact bodyPost_ret (res1 rfl (rv_t hs rfl)) hs.defers ⟨by have h0 := h; rw [hp1] at h0; rw [← h0]; rfl, (hs.bel rfl)⟩
 intro hc
 have hp2 := of_decide_eq_false hc
 refine wp_seq (wp_region_lit (bnn hs (.bool (decide (op = 140))) rfl rfl rfl rfl (bin_eqlN (y := 140)) fun ac hs => asg hs rfl rfl rfl fun ac hs => wpList_nil (then_n (wcs hs rfl ?_ ?_))))
 ·intro hc
  have hp3 := of_decide_eq_true hc
  refine wp_seq ?_
  replace hs := hs.n0 [0, 1, 4] rfl rfl
  refine wp_region_lit (mvv hs rfl rfl rfl fun ac hs => bnn hs (.int .i64 (a - 1)) rfl rfl rfl rfl (bin_subI (y := 1) (z := a - 1) rfl (by omega) (by omega)) fun ac hs => asg hs rfl rfl rfl fun ac hs => wpList_nil (then_n (wp_ret (blk_r (then_r ?_)))))
  exact bodyPost_ret (res1 rfl (rv_t hs rfl)) hs.defers ⟨by have h0 := h; rw [hp3] at h0; rw [← h0]; rfl, (hs.bel rfl)⟩
 intro hc
 have hp4 := of_decide_eq_false hc
 refine wp_seq ?_
 replace hs := hs.n0 [0, 1, 4, 5] rfl rfl
 refine wp_region_lit (bnn hs (.bool (decide (op = 143))) rfl rfl rfl rfl (bin_eqlN (y := 143)) fun ac hs => asg hs rfl rfl rfl fun ac hs => wpList_nil (then_n (wcs hs rfl ?_ ?_)))
 ·intro hc
  have hp5 := of_decide_eq_true hc
  refine wp_seq (wp_region_lit (mvv hs rfl rfl rfl fun ac hs => stp (op_un hs none (v := .int .i64 (-a)) rfl rfl rfl (un_neg (by omega) (by omega)) rfl fun ac hs => asg hs rfl rfl rfl fun ac hs => wpList_nil (then_n (wp_ret (blk_r (then_r ?_)))))))
  exact bodyPost_ret (res1 rfl (rv_t hs rfl)) hs.defers ⟨by have h0 := h; rw [hp5] at h0; rw [← h0]; rfl, (hs.bel rfl)⟩
 intro hc
 have hp6 := of_decide_eq_false hc
 refine wp_seq (wp_region_lit (bnn hs (.bool (decide (op = 144))) rfl rfl rfl rfl (bin_eqlN (y := 144)) fun ac hs => asg hs rfl rfl rfl fun ac hs => wpList_nil (then_n (wcs hs rfl ?_ ?_))))
 ·intro hc
  have hp7 := of_decide_eq_true hc
  refine wp_seq (wp_region_lit (mvv hs rfl rfl rfl fun ac hs => mvv hs rfl rfl rfl fun ac hs => stp (op_un hs none (v := .int .i64 (-a)) rfl rfl rfl (un_neg (by omega) (by omega)) rfl fun ac hs => stp (op_blt hs none (v := .int .i64 (max a (-a))) rfl rfl rfl blt_maxI rfl fun ac hs => asg hs rfl rfl rfl fun ac hs => wpList_nil (then_n (wp_ret (blk_r (then_r ?_))))))))
  exact bodyPost_ret (res1 rfl (rv_t hs rfl)) hs.defers ⟨by have h0 := h; rw [hp7] at h0; rw [← h0]; rfl, (hs.bel rfl)⟩
 intro hc
 have hp8 := of_decide_eq_false hc
 refine wp_skip (blk_n (then_n (wp_seq (wp_seq ?_))))
 by_cases hq9 : a = 0
 ·by_cases hq10 : op = 145
  ·refine wp_region_lit ?_
   refine mvv hs rfl rfl rfl fun ac hs => bnn hs (.bool true) rfl rfl rfl rfl (fun w => dT hq9 (bin_eqlI (y := 0) w)) fun ac hs => mvv hs rfl rfl rfl fun ac hs => bnn hs (.bool true) rfl rfl rfl rfl (fun w => dT hq10 (bin_eqlN (y := 145) w)) fun ac hs => bnn hs (.bool true) rfl rfl rfl rfl (fun _ => by kernel_rfl) fun ac hs => wpList_nil (then_n (wp_cond_true (hs.ev rfl) (wp_seq ?_)))
   replace hs := hs.n0 [4] rfl rfl
   refine wp_region_lit (asg hs rfl rfl rfl fun ac hs => wpList_nil (then_n (wp_ret (then_r ?_))))
   exact bodyPost_ret (res1 rfl (rv_t hs rfl)) hs.defers ⟨by have h0 := h; unfold oneI at h0; rw [if_neg hp2, if_neg hp4, if_neg hp6, if_neg hp8, decide_eq_true hq9, decide_eq_true hq10] at h0; rw [← h0]; rfl, (hs.bel rfl)⟩
  refine wp_region_lit (mvv hs rfl rfl rfl fun ac hs => bnn hs (.bool true) rfl rfl rfl rfl (fun w => dT hq9 (bin_eqlI (y := 0) w)) fun ac hs => mvv hs rfl rfl rfl fun ac hs => bnn hs (.bool false) rfl rfl rfl rfl (fun w => dF hq10 (bin_eqlN (y := 145) w)) fun ac hs => bnn hs (.bool false) rfl rfl rfl rfl (fun _ => by kernel_rfl) fun ac hs => wpList_nil (then_n (wp_cond_false (hs.ev rfl) (wp_skip (then_n (wp_seq ?_))))))
  replace hs := hs.n0 [4] rfl rfl
  refine wp_region_lit (asg hs rfl rfl rfl fun ac hs => wpList_nil (then_n (wp_ret ?_)))
  exact bodyPost_ret (res1 rfl (rv_t hs rfl)) hs.defers ⟨by have h0 := h; unfold oneI at h0; rw [if_neg hp2, if_neg hp4, if_neg hp6, if_neg hp8, decide_eq_true hq9, decide_eq_false hq10] at h0; rw [← h0]; rfl, (hs.bel rfl)⟩
 by_cases hq11 : op = 145
 ·refine wp_region_lit ?_
  refine mvv hs rfl rfl rfl fun ac hs => bnn hs (.bool false) rfl rfl rfl rfl (fun w => dF hq9 (bin_eqlI (y := 0) w)) fun ac hs => mvv hs rfl rfl rfl fun ac hs => bnn hs (.bool true) rfl rfl rfl rfl (fun w => dT hq11 (bin_eqlN (y := 145) w)) fun ac hs => bnn hs (.bool false) rfl rfl rfl rfl (fun _ => by kernel_rfl) fun ac hs => wpList_nil (then_n (wp_cond_false (hs.ev rfl) (wp_skip (then_n (wp_seq ?_)))))
  replace hs := hs.n0 [4] rfl rfl
  refine wp_region_lit (asg hs rfl rfl rfl fun ac hs => wpList_nil (then_n (wp_ret ?_)))
  exact bodyPost_ret (res1 rfl (rv_t hs rfl)) hs.defers ⟨by have h0 := h; unfold oneI at h0; rw [if_neg hp2, if_neg hp4, if_neg hp6, if_neg hp8, decide_eq_false hq9, decide_eq_true hq11] at h0; rw [← h0]; rfl, (hs.bel rfl)⟩
 refine wp_region_lit (mvv hs rfl rfl rfl fun ac hs => bnn hs (.bool false) rfl rfl rfl rfl (fun w => dF hq9 (bin_eqlI (y := 0) w)) fun ac hs => mvv hs rfl rfl rfl fun ac hs => bnn hs (.bool false) rfl rfl rfl rfl (fun w => dF hq11 (bin_eqlN (y := 145) w)) fun ac hs => bnn hs (.bool true) rfl rfl rfl rfl (fun _ => by kernel_rfl) fun ac hs => wpList_nil (then_n (wp_cond_true (hs.ev rfl) (wp_seq ?_))))
 replace hs := hs.n0 [4] rfl rfl
 refine wp_region_lit (asg hs rfl rfl rfl fun ac hs => wpList_nil (then_n (wp_ret (then_r ?_))))
 exact bodyPost_ret (res1 rfl (rv_t hs rfl)) hs.defers ⟨by have h0 := h; unfold oneI at h0; rw [if_neg hp2, if_neg hp4, if_neg hp6, if_neg hp8, decide_eq_false hq9, decide_eq_false hq11] at h0; rw [← h0]; rfl, (hs.bel rfl)⟩
end Go.Proofs.Ytikkhkjndbicgaa

/- Stacks: the document's functions, further. -/
namespace Go.Proofs.Ytikkhkjndbicgaa
open Go.RowKit _root_.Go.Proofs.Try
set_option maxRecDepth 10000
set_option maxHeartbeats 1000000
theorem rkn1_c (op : Nat) (an : Option Addr) (cn : Nat) (z0 : Int) (hz0 : -2147483648 < z0 ∧ z0 < 2147483648) (w0 : World) (Z : Nat → Prop) (hV : CelV w0 Z (.slice an 1 cn) 1 [.int .i64 z0]): Calls prog 62 #[nu8 op, .slice an 1 cn] w0 fun e w' => Ret w0 Z (ρ := Option Addr × Nat) (fun r => .slice r.1 (rknL op [z0]).length r.2) (fun r => [oW r.1 (rknL op [z0]).length r.2 5 (bcs (rknL op [z0]))]) e w' := by
 refine enterS (n := 83) (args := [nu8 op, .slice an 1 cn]) (S := [(true, cL an 1 cn ([.int .i64 z0]))]) (Z := Z) func62 rfl rfl (Nat.le_of_ble_eq_true rfl) (sokC hV sok0) rfl fun ac hs => wp_seq (wp_region_lit (asg hs rfl rfl rfl fun ac hs => wpList_nil (then_n (wp_seq (wp_seq (wp_region_lit (mvv hs rfl rfl rfl fun ac hs => stp (op_blt hs none (v := .int .i64 1) rfl rfl rfl (blt_len underlying73) rfl fun ac hs => bnn hs (.bool true) rfl rfl rfl rfl (fun _ => by kernel_rfl) fun ac hs => wpList_nil (then_n (wp_cond_true (hs.ev rfl) (wp_seq (wp_region_lit ?_))))))))))))
 refine mvv hs rfl rfl rfl fun ac hs => mvv hs rfl rfl rfl fun ac hs => stp (op_idxC hs none 0 (j := 0) rfl rfl rfl rfl rfl underlying73 sizeOf2 (by decide) (off := 0) (by omega) rfl fun ac hs => stp (op_loadC hs none 0 (u := .int .i64 z0) rfl rfl rfl rfl isAgg2 sizeOf2 (by decide) rfl rfl fun ac hs => ?_))
 obtain ⟨z1, hz1⟩ : ∃ q0, oneI op z0 = q0 := ⟨_, rfl⟩
 have bz1 := one_bd hz0 hz1
 refine stp (op_call (F := 77) hs none (v := .int .i64 z1) rfl rfl rfl rfl (call77 _) (one_c op z0 z1 hz0 hz1) rfl fun ac w hs => ?_)
 have lad2 : (enc z1).length ≤ 9 := enc_len (show -9223372036854775808 ≤ z1 by omega) (show z1 < 9223372036854775808 by omega)
 refine stp (op_callV (F := 66) (ρ := Option Addr × Nat) hs none none (v := fun r => .slice r.1 ((enc z1).length) r.2) (E := fun r => [oW r.1 ((enc z1).length) r.2 5 (bcs (enc z1))]) (j := 1) rfl rfl rfl rfl (call66 _) (fun hs => renc_o z1 (show -9223372036854775808 ≤ z1 by omega) (show z1 < 9223372036854775808 by omega) _ _) (fun _ => rfl) (fun _ => rfl) rfl rfl fun ⟨ad2, cp3⟩ ac w hs => asg hs rfl rfl rfl fun ac hs => wpList_nil (then_n (wp_ret (then_r ?_))))
 have he : rknL op [z0] = enc z1 := congrArg enc hz1
 rw [← he] at hs
 exact bodyPost_ret (res1 rfl (rv_t hs rfl)) hs.defers ⟨⟨ad2, cp3⟩, (by rw [he]), hs.bel rfl, hs.ret1 1 rfl⟩
theorem rkn2_c (op : Nat) (an : Option Addr) (cn : Nat) (z0 z1 : Int) (hz0 : -2147483648 < z0 ∧ z0 < 2147483648) (hz1 : -2147483648 < z1 ∧ z1 < 2147483648) (h165 : ¬ op = 165) (w0 : World) (Z : Nat → Prop) (hV : CelV w0 Z (.slice an 2 cn) 2 [.int .i64 z0, .int .i64 z1]): Calls prog 62 #[nu8 op, .slice an 2 cn] w0 fun e w' => Ret w0 Z (ρ := Option Addr × Nat) (fun r => .slice r.1 (rknL op [z0, z1]).length r.2) (fun r => [oW r.1 (rknL op [z0, z1]).length r.2 5 (bcs (rknL op [z0, z1]))]) e w' := by
 refine enterS (n := 83) (args := [nu8 op, .slice an 2 cn]) (S := [(true, cL an 2 cn ([.int .i64 z0, .int .i64 z1]))]) (Z := Z) func62 rfl rfl (Nat.le_of_ble_eq_true rfl) (sokC hV sok0) rfl fun ac hs => wp_seq (wp_region_lit (asg hs rfl rfl rfl fun ac hs => wpList_nil (then_n (wp_seq (wp_seq (wp_region_lit (mvv hs rfl rfl rfl fun ac hs => stp (op_blt hs none (v := .int .i64 2) rfl rfl rfl (blt_len underlying73) rfl fun ac hs => bnn hs (.bool false) rfl rfl rfl rfl (fun _ => by kernel_rfl) fun ac hs => wpList_nil (then_n (wp_cond_false (hs.ev rfl) (wp_skip (then_n (wp_seq (wp_seq (wp_region_lit ?_)))))))))))))))
 refine mvv hs rfl rfl rfl fun ac hs => wpList_nil (then_n (wp_block (wp_seq (wp_region_lit (bnn hs (.bool (decide (op = 147))) rfl rfl rfl rfl (bin_eqlN (y := 147)) fun ac hs => asg hs rfl rfl rfl fun ac hs => wpList_nil (then_n (wcs hs rfl ?_ ?_)))))))
 ·intro hc
  have hp1 := of_decide_eq_true hc
  refine wp_seq ?_
  replace hs := hs.nf w0 Z noX [0, 1, 4] rfl rfl rfl rfl
  have lad2 : (enc (z0 + z1)).length ≤ 9 := enc_len (show -9223372036854775808 ≤ z0 + z1 by omega) (show z0 + z1 < 9223372036854775808 by omega)
  refine region_inv [([], [1, 2, 6, 7, 8]), ([0], [2, 6, 7, 8]), ([0, 1], [6, 7, 8]), ([], rgn 4 5), ([3], rgn 5 4), ([3, 4], [6, 7, 8]), (rgn 0 6, [7, 8]), (rgn 0 7, [8]), (rgn 0 8, [])] (fun L ac w => ∃ (ad2 : Option Addr) (cp3 : Nat), St 83 ⟨w0, [], [(true, cL an 2 cn ([.int .i64 z0, .int .i64 z1])), (L 7, oW ad2 ((enc (z0 + z1)).length) cp3 5 (bcs (enc (z0 + z1))))], Z, noX⟩ [(17, L 0, .slice an 2 cn), (18, L 1, vidx (.slice an 2 cn) 0), (19, L 2, .int .i64 z0), (20, L 3, .slice an 2 cn), (21, L 4, vidx (.slice an 2 cn) 1), (22, L 5, .int .i64 z1), (23, L 6, .int .i64 (z0 + z1)), (24, L 7, .slice ad2 ((enc (z0 + z1)).length) cp3), (4, L 8, cond (L 8) (.slice ad2 ((enc (z0 + z1)).length) cp3) undef), (0, true, nu8 op), (1, true, .slice an 2 cn), (4, true, .slice none 0 0)] [] ac w) (by kernel_rfl) (by kernel_rfl) ?_ ?_ ?_
  ·exact ⟨none, 0, hs.drew.s4.s4.skip.padS⟩
  ·refine ⟨?_, ?_, ?_, ?_, ?_, ?_, ?_, ?_, ?_, trivial⟩
   ·exact fun L ac w ⟨ad2, cp3, hs⟩ => pln (omv hs 0 rfl rfl rfl fun ac hs => ⟨ad2, cp3, hs⟩)
   ·exact fun L ac w ⟨ad2, cp3, hs⟩ => pln (op_idxC hs (some 1) 0 (j := 0) rfl rfl rfl rfl rfl underlying73 sizeOf2 (by decide) (off := 0) (by omega) rfl fun ac hs => ⟨ad2, cp3, hs⟩)
   ·exact fun L ac w ⟨ad2, cp3, hs⟩ => pln (op_loadC hs (some 2) 0 (u := .int .i64 z0) rfl rfl rfl rfl isAgg2 sizeOf2 (by decide) rfl rfl fun ac hs => ⟨ad2, cp3, hs⟩)
   ·exact fun L ac w ⟨ad2, cp3, hs⟩ => pln (omv hs 3 rfl rfl rfl fun ac hs => ⟨ad2, cp3, hs⟩)
   ·exact fun L ac w ⟨ad2, cp3, hs⟩ => pln (op_idxC hs (some 4) 0 (j := 1) rfl rfl rfl rfl rfl underlying73 sizeOf2 (by decide) (off := 1) (by omega) rfl fun ac hs => ⟨ad2, cp3, hs⟩)
   ·exact fun L ac w ⟨ad2, cp3, hs⟩ => pln (op_loadC hs (some 5) 0 (u := .int .i64 z1) rfl rfl rfl rfl isAgg2 sizeOf2 (by decide) rfl rfl fun ac hs => ⟨ad2, cp3, hs⟩)
   ·exact fun L ac w ⟨ad2, cp3, hs⟩ => pln (obn hs 6 (.int .i64 (z0 + z1)) rfl rfl rfl rfl (bin_addI (z := z0 + z1) rfl (by omega) (by omega)) fun ac hs => ⟨ad2, cp3, hs⟩)
   ·exact fun L ac w ⟨ad2, cp3, hs⟩ => pln (op_callV (F := 66) (ρ := Option Addr × Nat) hs (some 7) (some 1) (v := fun r => .slice r.1 ((enc (z0 + z1)).length) r.2) (E := fun r => [oW r.1 ((enc (z0 + z1)).length) r.2 5 (bcs (enc (z0 + z1)))]) (j := 1) rfl rfl rfl rfl (call66 _) (fun hs => renc_o (z0 + z1) (show -9223372036854775808 ≤ z0 + z1 by omega) (show z0 + z1 < 9223372036854775808 by omega) _ _) (fun _ => rfl) (fun _ => rfl) rfl rfl fun ⟨ad2, cp3⟩ ac w hs => ⟨ad2, cp3, hs⟩)
   ·exact fun L ac w ⟨ad2, cp3, hs⟩ => pln (oas hs 8 rfl rfl rfl fun ac hs => ⟨ad2, cp3, hs⟩)
  intro ac w ⟨ad2, cp3, hs⟩
  try dsimp only [cond_true] at hs
  refine then_n (wp_ret (blk_r (then_r ?_)))
  have he : rknL op [z0, z1] = enc (z0 + z1) := by unfold rknL; rw [if_neg (show ¬ ([z0, z1] : List Int).length = 1 by simp), if_pos hp1]; rfl
  rw [← he] at hs
  exact bodyPost_ret (res1 rfl (rv_t hs rfl)) hs.defers ⟨⟨ad2, cp3⟩, (by rw [he]), hs.bel rfl, hs.ret1 1 rfl⟩
 intro hc
 have hp4 := of_decide_eq_false hc
 refine wp_seq ?_
 replace hs := hs.nf w0 Z noX [0, 1, 4, 14] rfl rfl rfl rfl
 refine wp_region_lit (bnn hs (.bool (decide (op = 148))) rfl rfl rfl rfl (bin_eqlN (y := 148)) fun ac hs => asg hs rfl rfl rfl fun ac hs => wpList_nil (then_n (wcs hs rfl ?_ ?_)))
 ·intro hc
  have hp5 := of_decide_eq_true hc
  refine wp_seq ?_
  replace hs := hs.nf w0 Z noX [0, 1, 4] rfl rfl rfl rfl
  have lad6 : (enc (z0 - z1)).length ≤ 9 := enc_len (show -9223372036854775808 ≤ z0 - z1 by omega) (show z0 - z1 < 9223372036854775808 by omega)
  refine region_inv [([], [1, 2, 6, 7, 8]), ([0], [2, 6, 7, 8]), ([0, 1], [6, 7, 8]), ([], rgn 4 5), ([3], rgn 5 4), ([3, 4], [6, 7, 8]), (rgn 0 6, [7, 8]), (rgn 0 7, [8]), (rgn 0 8, [])] (fun L ac w => ∃ (ad6 : Option Addr) (cp7 : Nat), St 83 ⟨w0, [], [(true, cL an 2 cn ([.int .i64 z0, .int .i64 z1])), (L 7, oW ad6 ((enc (z0 - z1)).length) cp7 5 (bcs (enc (z0 - z1))))], Z, noX⟩ [(27, L 0, .slice an 2 cn), (28, L 1, vidx (.slice an 2 cn) 0), (29, L 2, .int .i64 z0), (30, L 3, .slice an 2 cn), (31, L 4, vidx (.slice an 2 cn) 1), (32, L 5, .int .i64 z1), (33, L 6, .int .i64 (z0 - z1)), (34, L 7, .slice ad6 ((enc (z0 - z1)).length) cp7), (4, L 8, cond (L 8) (.slice ad6 ((enc (z0 - z1)).length) cp7) undef), (0, true, nu8 op), (1, true, .slice an 2 cn), (4, true, .slice none 0 0)] [] ac w) (by kernel_rfl) (by kernel_rfl) ?_ ?_ ?_
  ·exact ⟨none, 0, hs.drew.s4.s4.skip.padS⟩
  ·refine ⟨?_, ?_, ?_, ?_, ?_, ?_, ?_, ?_, ?_, trivial⟩
   ·exact fun L ac w ⟨ad6, cp7, hs⟩ => pln (omv hs 0 rfl rfl rfl fun ac hs => ⟨ad6, cp7, hs⟩)
   ·exact fun L ac w ⟨ad6, cp7, hs⟩ => pln (op_idxC hs (some 1) 0 (j := 0) rfl rfl rfl rfl rfl underlying73 sizeOf2 (by decide) (off := 0) (by omega) rfl fun ac hs => ⟨ad6, cp7, hs⟩)
   ·exact fun L ac w ⟨ad6, cp7, hs⟩ => pln (op_loadC hs (some 2) 0 (u := .int .i64 z0) rfl rfl rfl rfl isAgg2 sizeOf2 (by decide) rfl rfl fun ac hs => ⟨ad6, cp7, hs⟩)
   ·exact fun L ac w ⟨ad6, cp7, hs⟩ => pln (omv hs 3 rfl rfl rfl fun ac hs => ⟨ad6, cp7, hs⟩)
   ·exact fun L ac w ⟨ad6, cp7, hs⟩ => pln (op_idxC hs (some 4) 0 (j := 1) rfl rfl rfl rfl rfl underlying73 sizeOf2 (by decide) (off := 1) (by omega) rfl fun ac hs => ⟨ad6, cp7, hs⟩)
   ·exact fun L ac w ⟨ad6, cp7, hs⟩ => pln (op_loadC hs (some 5) 0 (u := .int .i64 z1) rfl rfl rfl rfl isAgg2 sizeOf2 (by decide) rfl rfl fun ac hs => ⟨ad6, cp7, hs⟩)
   ·exact fun L ac w ⟨ad6, cp7, hs⟩ => pln (obn hs 6 (.int .i64 (z0 - z1)) rfl rfl rfl rfl (bin_subI (z := z0 - z1) rfl (by omega) (by omega)) fun ac hs => ⟨ad6, cp7, hs⟩)
   ·exact fun L ac w ⟨ad6, cp7, hs⟩ => pln (op_callV (F := 66) (ρ := Option Addr × Nat) hs (some 7) (some 1) (v := fun r => .slice r.1 ((enc (z0 - z1)).length) r.2) (E := fun r => [oW r.1 ((enc (z0 - z1)).length) r.2 5 (bcs (enc (z0 - z1)))]) (j := 1) rfl rfl rfl rfl (call66 _) (fun hs => renc_o (z0 - z1) (show -9223372036854775808 ≤ z0 - z1 by omega) (show z0 - z1 < 9223372036854775808 by omega) _ _) (fun _ => rfl) (fun _ => rfl) rfl rfl fun ⟨ad6, cp7⟩ ac w hs => ⟨ad6, cp7, hs⟩)
   ·exact fun L ac w ⟨ad6, cp7, hs⟩ => pln (oas hs 8 rfl rfl rfl fun ac hs => ⟨ad6, cp7, hs⟩)
  intro ac w ⟨ad6, cp7, hs⟩
  try dsimp only [cond_true] at hs
  refine then_n (wp_ret (blk_r (then_r ?_)))
  have he : rknL op [z0, z1] = enc (z0 - z1) := by unfold rknL; rw [if_neg (show ¬ ([z0, z1] : List Int).length = 1 by simp), if_neg hp4, if_pos hp5]; rfl
  rw [← he] at hs
  exact bodyPost_ret (res1 rfl (rv_t hs rfl)) hs.defers ⟨⟨ad6, cp7⟩, (by rw [he]), hs.bel rfl, hs.ret1 1 rfl⟩
 intro hc
 have hp8 := of_decide_eq_false hc
 refine wp_seq (wp_region_lit (bnn hs (.bool (decide (op = 163))) rfl rfl rfl rfl (bin_eqlN (y := 163)) fun ac hs => asg hs rfl rfl rfl fun ac hs => wpList_nil (then_n (wcs hs rfl ?_ ?_))))
 ·intro hc
  have hp9 := of_decide_eq_true hc
  refine wp_seq ?_
  replace hs := hs.nf w0 Z noX [0, 1, 4] rfl rfl rfl rfl
  have lad10 : (enc (min z0 z1)).length ≤ 9 := enc_len (show -9223372036854775808 ≤ min z0 z1 by omega) (show min z0 z1 < 9223372036854775808 by omega)
  refine region_inv [([], [1, 2, 6, 7, 8]), ([0], [2, 6, 7, 8]), ([0, 1], [6, 7, 8]), ([], rgn 4 5), ([3], rgn 5 4), ([3, 4], [6, 7, 8]), (rgn 0 6, [7, 8]), (rgn 0 7, [8]), (rgn 0 8, [])] (fun L ac w => ∃ (ad10 : Option Addr) (cp11 : Nat), St 83 ⟨w0, [], [(true, cL an 2 cn ([.int .i64 z0, .int .i64 z1])), (L 7, oW ad10 ((enc (min z0 z1)).length) cp11 5 (bcs (enc (min z0 z1))))], Z, noX⟩ [(37, L 0, .slice an 2 cn), (38, L 1, vidx (.slice an 2 cn) 0), (39, L 2, .int .i64 z0), (40, L 3, .slice an 2 cn), (41, L 4, vidx (.slice an 2 cn) 1), (42, L 5, .int .i64 z1), (43, L 6, .int .i64 (min z0 z1)), (44, L 7, .slice ad10 ((enc (min z0 z1)).length) cp11), (4, L 8, cond (L 8) (.slice ad10 ((enc (min z0 z1)).length) cp11) undef), (0, true, nu8 op), (1, true, .slice an 2 cn), (4, true, .slice none 0 0)] [] ac w) (by kernel_rfl) (by kernel_rfl) ?_ ?_ ?_
  ·exact ⟨none, 0, hs.drew.s4.s4.skip.padS⟩
  ·refine ⟨?_, ?_, ?_, ?_, ?_, ?_, ?_, ?_, ?_, trivial⟩
   ·exact fun L ac w ⟨ad10, cp11, hs⟩ => pln (omv hs 0 rfl rfl rfl fun ac hs => ⟨ad10, cp11, hs⟩)
   ·exact fun L ac w ⟨ad10, cp11, hs⟩ => pln (op_idxC hs (some 1) 0 (j := 0) rfl rfl rfl rfl rfl underlying73 sizeOf2 (by decide) (off := 0) (by omega) rfl fun ac hs => ⟨ad10, cp11, hs⟩)
   ·exact fun L ac w ⟨ad10, cp11, hs⟩ => pln (op_loadC hs (some 2) 0 (u := .int .i64 z0) rfl rfl rfl rfl isAgg2 sizeOf2 (by decide) rfl rfl fun ac hs => ⟨ad10, cp11, hs⟩)
   ·exact fun L ac w ⟨ad10, cp11, hs⟩ => pln (omv hs 3 rfl rfl rfl fun ac hs => ⟨ad10, cp11, hs⟩)
   ·exact fun L ac w ⟨ad10, cp11, hs⟩ => pln (op_idxC hs (some 4) 0 (j := 1) rfl rfl rfl rfl rfl underlying73 sizeOf2 (by decide) (off := 1) (by omega) rfl fun ac hs => ⟨ad10, cp11, hs⟩)
   ·exact fun L ac w ⟨ad10, cp11, hs⟩ => pln (op_loadC hs (some 5) 0 (u := .int .i64 z1) rfl rfl rfl rfl isAgg2 sizeOf2 (by decide) rfl rfl fun ac hs => ⟨ad10, cp11, hs⟩)
   ·exact fun L ac w ⟨ad10, cp11, hs⟩ => pln (op_blt hs (some 6) (v := .int .i64 (min z0 z1)) rfl rfl rfl blt_minI rfl fun ac hs => ⟨ad10, cp11, hs⟩)
   ·exact fun L ac w ⟨ad10, cp11, hs⟩ => pln (op_callV (F := 66) (ρ := Option Addr × Nat) hs (some 7) (some 1) (v := fun r => .slice r.1 ((enc (min z0 z1)).length) r.2) (E := fun r => [oW r.1 ((enc (min z0 z1)).length) r.2 5 (bcs (enc (min z0 z1)))]) (j := 1) rfl rfl rfl rfl (call66 _) (fun hs => renc_o (min z0 z1) (show -9223372036854775808 ≤ min z0 z1 by omega) (show min z0 z1 < 9223372036854775808 by omega) _ _) (fun _ => rfl) (fun _ => rfl) rfl rfl fun ⟨ad10, cp11⟩ ac w hs => ⟨ad10, cp11, hs⟩)
   ·exact fun L ac w ⟨ad10, cp11, hs⟩ => pln (oas hs 8 rfl rfl rfl fun ac hs => ⟨ad10, cp11, hs⟩)
  intro ac w ⟨ad10, cp11, hs⟩
  try dsimp only [cond_true] at hs
  refine then_n (wp_ret (blk_r (then_r ?_)))
  have he : rknL op [z0, z1] = enc (min z0 z1) := by unfold rknL; rw [if_neg (show ¬ ([z0, z1] : List Int).length = 1 by simp), if_neg hp4, if_neg hp8, if_pos hp9]; rfl
  rw [← he] at hs
  exact bodyPost_ret (res1 rfl (rv_t hs rfl)) hs.defers ⟨⟨ad10, cp11⟩, (by rw [he]), hs.bel rfl, hs.ret1 1 rfl⟩
 intro hc
 have hp12 := of_decide_eq_false hc
 refine wp_seq (wp_region_lit (bnn hs (.bool (decide (op = 164))) rfl rfl rfl rfl (bin_eqlN (y := 164)) fun ac hs => asg hs rfl rfl rfl fun ac hs => wpList_nil (then_n (wcs hs rfl ?_ ?_))))
 ·intro hc
  have hp13 := of_decide_eq_true hc
  refine wp_seq ?_
  replace hs := hs.nf w0 Z noX [0, 1, 4] rfl rfl rfl rfl
  have lad14 : (enc (max z0 z1)).length ≤ 9 := enc_len (show -9223372036854775808 ≤ max z0 z1 by omega) (show max z0 z1 < 9223372036854775808 by omega)
  refine region_inv [([], [1, 2, 6, 7, 8]), ([0], [2, 6, 7, 8]), ([0, 1], [6, 7, 8]), ([], rgn 4 5), ([3], rgn 5 4), ([3, 4], [6, 7, 8]), (rgn 0 6, [7, 8]), (rgn 0 7, [8]), (rgn 0 8, [])] (fun L ac w => ∃ (ad14 : Option Addr) (cp15 : Nat), St 83 ⟨w0, [], [(true, cL an 2 cn ([.int .i64 z0, .int .i64 z1])), (L 7, oW ad14 ((enc (max z0 z1)).length) cp15 5 (bcs (enc (max z0 z1))))], Z, noX⟩ [(47, L 0, .slice an 2 cn), (48, L 1, vidx (.slice an 2 cn) 0), (49, L 2, .int .i64 z0), (50, L 3, .slice an 2 cn), (51, L 4, vidx (.slice an 2 cn) 1), (52, L 5, .int .i64 z1), (53, L 6, .int .i64 (max z0 z1)), (54, L 7, .slice ad14 ((enc (max z0 z1)).length) cp15), (4, L 8, cond (L 8) (.slice ad14 ((enc (max z0 z1)).length) cp15) undef), (0, true, nu8 op), (1, true, .slice an 2 cn), (4, true, .slice none 0 0)] [] ac w) (by kernel_rfl) (by kernel_rfl) ?_ ?_ ?_
  ·exact ⟨none, 0, hs.drew.s4.s4.skip.padS⟩
  ·refine ⟨?_, ?_, ?_, ?_, ?_, ?_, ?_, ?_, ?_, trivial⟩
   ·exact fun L ac w ⟨ad14, cp15, hs⟩ => pln (omv hs 0 rfl rfl rfl fun ac hs => ⟨ad14, cp15, hs⟩)
   ·exact fun L ac w ⟨ad14, cp15, hs⟩ => pln (op_idxC hs (some 1) 0 (j := 0) rfl rfl rfl rfl rfl underlying73 sizeOf2 (by decide) (off := 0) (by omega) rfl fun ac hs => ⟨ad14, cp15, hs⟩)
   ·exact fun L ac w ⟨ad14, cp15, hs⟩ => pln (op_loadC hs (some 2) 0 (u := .int .i64 z0) rfl rfl rfl rfl isAgg2 sizeOf2 (by decide) rfl rfl fun ac hs => ⟨ad14, cp15, hs⟩)
   ·exact fun L ac w ⟨ad14, cp15, hs⟩ => pln (omv hs 3 rfl rfl rfl fun ac hs => ⟨ad14, cp15, hs⟩)
   ·exact fun L ac w ⟨ad14, cp15, hs⟩ => pln (op_idxC hs (some 4) 0 (j := 1) rfl rfl rfl rfl rfl underlying73 sizeOf2 (by decide) (off := 1) (by omega) rfl fun ac hs => ⟨ad14, cp15, hs⟩)
   ·exact fun L ac w ⟨ad14, cp15, hs⟩ => pln (op_loadC hs (some 5) 0 (u := .int .i64 z1) rfl rfl rfl rfl isAgg2 sizeOf2 (by decide) rfl rfl fun ac hs => ⟨ad14, cp15, hs⟩)
   ·exact fun L ac w ⟨ad14, cp15, hs⟩ => pln (op_blt hs (some 6) (v := .int .i64 (max z0 z1)) rfl rfl rfl blt_maxI rfl fun ac hs => ⟨ad14, cp15, hs⟩)
   ·exact fun L ac w ⟨ad14, cp15, hs⟩ => pln (op_callV (F := 66) (ρ := Option Addr × Nat) hs (some 7) (some 1) (v := fun r => .slice r.1 ((enc (max z0 z1)).length) r.2) (E := fun r => [oW r.1 ((enc (max z0 z1)).length) r.2 5 (bcs (enc (max z0 z1)))]) (j := 1) rfl rfl rfl rfl (call66 _) (fun hs => renc_o (max z0 z1) (show -9223372036854775808 ≤ max z0 z1 by omega) (show max z0 z1 < 9223372036854775808 by omega) _ _) (fun _ => rfl) (fun _ => rfl) rfl rfl fun ⟨ad14, cp15⟩ ac w hs => ⟨ad14, cp15, hs⟩)
   ·exact fun L ac w ⟨ad14, cp15, hs⟩ => pln (oas hs 8 rfl rfl rfl fun ac hs => ⟨ad14, cp15, hs⟩)
  intro ac w ⟨ad14, cp15, hs⟩
  try dsimp only [cond_true] at hs
  refine then_n (wp_ret (blk_r (then_r ?_)))
  have he : rknL op [z0, z1] = enc (max z0 z1) := by unfold rknL; rw [if_neg (show ¬ ([z0, z1] : List Int).length = 1 by simp), if_neg hp4, if_neg hp8, if_neg hp12, if_pos hp13]; rfl
  rw [← he] at hs
  exact bodyPost_ret (res1 rfl (rv_t hs rfl)) hs.defers ⟨⟨ad14, cp15⟩, (by rw [he]), hs.bel rfl, hs.ret1 1 rfl⟩
 intro hc
 have hp16 := of_decide_eq_false hc
 refine wp_seq ?_
 replace hs := hs.nf w0 Z noX [0, 1, 4, 14] rfl rfl rfl rfl
 refine wp_region_lit (bnn hs (.bool (decide (op = 165))) rfl rfl rfl rfl (bin_eqlN (y := 165)) fun ac hs => asg hs rfl rfl rfl fun ac hs => wpList_nil (then_n (wp_cond_false (hs.evb rfl (decide_eq_false h165)) (wp_skip (blk_n (then_n (wp_seq ?_)))))))
 replace hs := hs.nf w0 Z noX [0, 1, 4] rfl rfl rfl rfl
 obtain ⟨q17, hq17⟩ : ∃ q0, holdB op z0 z1 = q0 := ⟨_, rfl⟩
 have lad18 : (flagL q17).length ≤ 1 := flagL_len _
 refine region_inv [([], [7, 8, 9]), ([], [2, 3, 7, 8, 9]), ([1], [3, 7, 8, 9]), ([1, 2], [7, 8, 9]), ([], rgn 5 5), ([4], rgn 6 4), ([4, 5], [7, 8, 9]), (rgn 0 7, [8, 9]), (rgn 0 8, [9]), (rgn 0 9, [])] (fun L ac w => ∃ (ad18 : Option Addr) (cp19 : Nat), St 83 ⟨w0, [], [(true, cL an 2 cn ([.int .i64 z0, .int .i64 z1])), (L 8, oW ad18 ((flagL q17).length) cp19 5 (bcs (flagL q17)))], Z, noX⟩ [(74, L 0, nu8 op), (75, L 1, .slice an 2 cn), (76, L 2, vidx (.slice an 2 cn) 0), (77, L 3, .int .i64 z0), (78, L 4, .slice an 2 cn), (79, L 5, vidx (.slice an 2 cn) 1), (80, L 6, .int .i64 z1), (81, L 7, .bool q17), (82, L 8, .slice ad18 ((flagL q17).length) cp19), (4, L 9, cond (L 9) (.slice ad18 ((flagL q17).length) cp19) undef), (0, true, nu8 op), (1, true, .slice an 2 cn), (4, true, .slice none 0 0)] [] ac w) (by kernel_rfl) (by kernel_rfl) ?_ ?_ ?_
 ·exact ⟨none, 0, hs.drew.s4.s4.skip.skip.padS⟩
 ·refine ⟨?_, ?_, ?_, ?_, ?_, ?_, ?_, ?_, ?_, ?_, trivial⟩
  ·exact fun L ac w ⟨ad18, cp19, hs⟩ => pln (omv hs 0 rfl rfl rfl fun ac hs => ⟨ad18, cp19, hs⟩)
  ·exact fun L ac w ⟨ad18, cp19, hs⟩ => pln (omv hs 1 rfl rfl rfl fun ac hs => ⟨ad18, cp19, hs⟩)
  ·exact fun L ac w ⟨ad18, cp19, hs⟩ => pln (op_idxC hs (some 2) 0 (j := 0) rfl rfl rfl rfl rfl underlying73 sizeOf2 (by decide) (off := 0) (by omega) rfl fun ac hs => ⟨ad18, cp19, hs⟩)
  ·exact fun L ac w ⟨ad18, cp19, hs⟩ => pln (op_loadC hs (some 3) 0 (u := .int .i64 z0) rfl rfl rfl rfl isAgg2 sizeOf2 (by decide) rfl rfl fun ac hs => ⟨ad18, cp19, hs⟩)
  ·exact fun L ac w ⟨ad18, cp19, hs⟩ => pln (omv hs 4 rfl rfl rfl fun ac hs => ⟨ad18, cp19, hs⟩)
  ·exact fun L ac w ⟨ad18, cp19, hs⟩ => pln (op_idxC hs (some 5) 0 (j := 1) rfl rfl rfl rfl rfl underlying73 sizeOf2 (by decide) (off := 1) (by omega) rfl fun ac hs => ⟨ad18, cp19, hs⟩)
  ·exact fun L ac w ⟨ad18, cp19, hs⟩ => pln (op_loadC hs (some 6) 0 (u := .int .i64 z1) rfl rfl rfl rfl isAgg2 sizeOf2 (by decide) rfl rfl fun ac hs => ⟨ad18, cp19, hs⟩)
  ·exact fun L ac w ⟨ad18, cp19, hs⟩ => pln (op_call (F := 78) hs (some 7) (v := .bool q17) rfl rfl rfl rfl (call78 _) (holds_c op z0 z1 q17 hq17) rfl fun ac w hs => ⟨ad18, cp19, hs⟩)
  ·exact fun L ac w ⟨ad18, cp19, hs⟩ => pln (op_callV (F := 74) (ρ := Option Addr × Nat) hs (some 8) (some 1) (v := fun r => .slice r.1 ((flagL q17).length) r.2) (E := fun r => [oW r.1 ((flagL q17).length) r.2 5 (bcs (flagL q17))]) (j := 1) rfl rfl rfl rfl (call74 _) (fun hs => rflag_o q17 _ _) (fun _ => rfl) (fun _ => rfl) rfl rfl fun ⟨ad18, cp19⟩ ac w hs => ⟨ad18, cp19, hs⟩)
  ·exact fun L ac w ⟨ad18, cp19, hs⟩ => pln (oas hs 9 rfl rfl rfl fun ac hs => ⟨ad18, cp19, hs⟩)
 intro ac w ⟨ad18, cp19, hs⟩
 try dsimp only [cond_true] at hs
 refine then_n (wp_ret ?_)
 have he : rknL op [z0, z1] = flagL q17 := by unfold rknL; rw [if_neg (show ¬ ([z0, z1] : List Int).length = 1 by simp), if_neg hp4, if_neg hp8, if_neg hp12, if_neg hp16, if_neg h165]; exact congrArg flagL hq17
 rw [← he] at hs
 exact bodyPost_ret (res1 rfl (rv_t hs rfl)) hs.defers ⟨⟨ad18, cp19⟩, (by rw [he]), hs.bel rfl, hs.ret1 1 rfl⟩
theorem rkn3_c (op : Nat) (an : Option Addr) (cn : Nat) (z0 z1 z2 : Int) (hz0 : -2147483648 < z0 ∧ z0 < 2147483648) (hz1 : -2147483648 < z1 ∧ z1 < 2147483648) (hz2 : -2147483648 < z2 ∧ z2 < 2147483648) (h165 : op = 165) (w0 : World) (Z : Nat → Prop) (hV : CelV w0 Z (.slice an 3 cn) 3 [.int .i64 z0, .int .i64 z1, .int .i64 z2]): Calls prog 62 #[nu8 op, .slice an 3 cn] w0 fun e w' => Ret w0 Z (ρ := Option Addr × Nat) (fun r => .slice r.1 (rknL op [z0, z1, z2]).length r.2) (fun r => [oW r.1 (rknL op [z0, z1, z2]).length r.2 5 (bcs (rknL op [z0, z1, z2]))]) e w' := by
 refine enterS (n := 83) (args := [nu8 op, .slice an 3 cn]) (S := [(true, cL an 3 cn ([.int .i64 z0, .int .i64 z1, .int .i64 z2]))]) (Z := Z) func62 rfl rfl (Nat.le_of_ble_eq_true rfl) (sokC hV sok0) rfl fun ac hs => wp_seq (wp_region_lit (asg hs rfl rfl rfl fun ac hs => wpList_nil (then_n (wp_seq (wp_seq (wp_region_lit (mvv hs rfl rfl rfl fun ac hs => stp (op_blt hs none (v := .int .i64 3) rfl rfl rfl (blt_len underlying73) rfl fun ac hs => bnn hs (.bool false) rfl rfl rfl rfl (fun _ => by kernel_rfl) fun ac hs => wpList_nil (then_n (wp_cond_false (hs.ev rfl) (wp_skip (then_n (wp_seq (wp_seq (wp_region_lit ?_)))))))))))))))
 refine mvv hs rfl rfl rfl fun ac hs => wpList_nil (then_n (wp_block (wp_seq (wp_region_lit (bnn hs (.bool (decide (op = 147))) rfl rfl rfl rfl (bin_eqlN (y := 147)) fun ac hs => asg hs rfl rfl rfl fun ac hs => wpList_nil (then_n (wp_cond_false (hs.evb rfl (decide_eq_false (show ¬ op = 147 by omega))) (wp_seq ?_))))))))
 replace hs := hs.nf w0 Z noX [0, 1, 4, 14] rfl rfl rfl rfl
 refine wp_region_lit (bnn hs (.bool (decide (op = 148))) rfl rfl rfl rfl (bin_eqlN (y := 148)) fun ac hs => asg hs rfl rfl rfl fun ac hs => wpList_nil (then_n (wp_cond_false (hs.evb rfl (decide_eq_false (show ¬ op = 148 by omega))) (wp_seq (wp_region_lit (bnn hs (.bool (decide (op = 163))) rfl rfl rfl rfl (bin_eqlN (y := 163)) fun ac hs => asg hs rfl rfl rfl fun ac hs => wpList_nil (then_n (wp_cond_false (hs.evb rfl (decide_eq_false (show ¬ op = 163 by omega))) ?_))))))))
 refine wp_seq (wp_region_lit (bnn hs (.bool (decide (op = 164))) rfl rfl rfl rfl (bin_eqlN (y := 164)) fun ac hs => asg hs rfl rfl rfl fun ac hs => wpList_nil (then_n (wp_cond_false (hs.evb rfl (decide_eq_false (show ¬ op = 164 by omega))) (wp_seq ?_)))))
 replace hs := hs.nf w0 Z noX [0, 1, 4, 14] rfl rfl rfl rfl
 refine wp_region_lit (bnn hs (.bool (decide (op = 165))) rfl rfl rfl rfl (bin_eqlN (y := 165)) fun ac hs => asg hs rfl rfl rfl fun ac hs => wpList_nil (then_n (wp_cond_true (hs.evb rfl (decide_eq_true h165)) (wp_seq ?_))))
 by_cases hq1 : z1 ≤ z0
 ·replace hs := hs.nf w0 Z noX [0, 1, 4] rfl rfl rfl rfl
  have lad2 : (flagL (decide (z0 < z2))).length ≤ 1 := flagL_len _
  refine region_inv [([], [1, 2, 6, 7, 8, 9, 10, 11, 12, 13, 14, 15, 16, 17]), ([0], [2, 6, 7, 8, 9, 10, 11, 12, 13, 14, 15, 16, 17]), ([0, 1], rgn 6 12), ([], rgn 4 14), ([3], rgn 5 13), ([3, 4], rgn 6 12), (rgn 0 6, rgn 7 11), (rgn 0 7, rgn 8 10), (rgn 0 8, [9, 10, 14, 15, 16, 17]), (rgn 0 9, [10, 14, 15, 16, 17]), (rgn 0 10, rgn 14 4), (rgn 0 8, rgn 12 6), ([0, 1, 2, 3, 4, 5, 6, 7, 11], rgn 13 5), ([0, 1, 2, 3, 4, 5, 6, 7, 11, 12], rgn 14 4), (rgn 0 14, [15, 16, 17]), (rgn 0 15, [16, 17]), (rgn 0 16, [17]), (rgn 0 17, [])] (fun L ac w => ∃ (ad2 : Option Addr) (cp3 : Nat), St 83 ⟨w0, [], [(true, cL an 3 cn ([.int .i64 z0, .int .i64 z1, .int .i64 z2])), (L 16, oW ad2 ((flagL (decide (z0 < z2))).length) cp3 5 (bcs (flagL (decide (z0 < z2)))))], Z, noX⟩ [(57, L 0, .slice an 3 cn), (58, L 1, vidx (.slice an 3 cn) 0), (59, L 2, .int .i64 z0), (60, L 3, .slice an 3 cn), (61, L 4, vidx (.slice an 3 cn) 1), (62, L 5, .int .i64 z1), (63, L 6, .bool true), (64, L 7, .bool true), (65, L 8, .slice an 3 cn), (66, L 9, vidx (.slice an 3 cn) 0), (67, L 10, .int .i64 z0), (68, L 11, .slice an 3 cn), (69, L 12, vidx (.slice an 3 cn) 2), (70, L 13, .int .i64 z2), (71, L 14, .bool (decide (z0 < z2))), (72, L 15, .bool (decide (z0 < z2))), (73, L 16, .slice ad2 ((flagL (decide (z0 < z2))).length) cp3), (4, L 17, cond (L 17) (.slice ad2 ((flagL (decide (z0 < z2))).length) cp3) undef), (0, true, nu8 op), (1, true, .slice an 3 cn), (4, true, .slice none 0 0)] [] ac w) (by kernel_rfl) (by kernel_rfl) ?_ ?_ ?_
  ·exact ⟨none, 0, hs.drew.s4.s4.s4.s4.skip.skip.padS⟩
  ·refine ⟨?_, ?_, ?_, ?_, ?_, ?_, ?_, ?_, ?_, ?_, ?_, ?_, ?_, ?_, ?_, ?_, ?_, ?_, trivial⟩
   ·exact fun L ac w ⟨ad2, cp3, hs⟩ => pln (omv hs 0 rfl rfl rfl fun ac hs => ⟨ad2, cp3, hs⟩)
   ·exact fun L ac w ⟨ad2, cp3, hs⟩ => pln (op_idxC hs (some 1) 0 (j := 0) rfl rfl rfl rfl rfl underlying73 sizeOf2 (by decide) (off := 0) (by omega) rfl fun ac hs => ⟨ad2, cp3, hs⟩)
   ·exact fun L ac w ⟨ad2, cp3, hs⟩ => pln (op_loadC hs (some 2) 0 (u := .int .i64 z0) rfl rfl rfl rfl isAgg2 sizeOf2 (by decide) rfl rfl fun ac hs => ⟨ad2, cp3, hs⟩)
   ·exact fun L ac w ⟨ad2, cp3, hs⟩ => pln (omv hs 3 rfl rfl rfl fun ac hs => ⟨ad2, cp3, hs⟩)
   ·exact fun L ac w ⟨ad2, cp3, hs⟩ => pln (op_idxC hs (some 4) 0 (j := 1) rfl rfl rfl rfl rfl underlying73 sizeOf2 (by decide) (off := 1) (by omega) rfl fun ac hs => ⟨ad2, cp3, hs⟩)
   ·exact fun L ac w ⟨ad2, cp3, hs⟩ => pln (op_loadC hs (some 5) 0 (u := .int .i64 z1) rfl rfl rfl rfl isAgg2 sizeOf2 (by decide) rfl rfl fun ac hs => ⟨ad2, cp3, hs⟩)
   ·exact fun L ac w ⟨ad2, cp3, hs⟩ => pln (obn hs 6 (.bool true) rfl rfl rfl rfl (fun w => dT hq1 (bin_geqI w)) fun ac hs => ⟨ad2, cp3, hs⟩)
   ·exact fun L ac w ⟨ad2, cp3, hs⟩ => pln (omv hs 7 rfl rfl rfl fun ac hs => ⟨ad2, cp3, hs⟩)
   ·exact fun L ac w ⟨ad2, cp3, hs⟩ => wpO_in hs rfl rfl rfl (omv hs 8 rfl rfl rfl fun ac hs => ⟨ad2, cp3, hs⟩)
   ·exact fun L ac w ⟨ad2, cp3, hs⟩ => wpO_in hs rfl rfl rfl (op_idxC hs (some 9) 0 (j := 0) rfl rfl rfl rfl rfl underlying73 sizeOf2 (by decide) (off := 0) (by omega) rfl fun ac hs => ⟨ad2, cp3, hs⟩)
   ·exact fun L ac w ⟨ad2, cp3, hs⟩ => wpO_in hs rfl rfl rfl (op_loadC hs (some 10) 0 (u := .int .i64 z0) rfl rfl rfl rfl isAgg2 sizeOf2 (by decide) rfl rfl fun ac hs => ⟨ad2, cp3, hs⟩)
   ·exact fun L ac w ⟨ad2, cp3, hs⟩ => wpO_in hs rfl rfl rfl (omv hs 11 rfl rfl rfl fun ac hs => ⟨ad2, cp3, hs⟩)
   ·exact fun L ac w ⟨ad2, cp3, hs⟩ => wpO_in hs rfl rfl rfl (op_idxC hs (some 12) 0 (j := 2) rfl rfl rfl rfl rfl underlying73 sizeOf2 (by decide) (off := 2) (by omega) rfl fun ac hs => ⟨ad2, cp3, hs⟩)
   ·exact fun L ac w ⟨ad2, cp3, hs⟩ => wpO_in hs rfl rfl rfl (op_loadC hs (some 13) 0 (u := .int .i64 z2) rfl rfl rfl rfl isAgg2 sizeOf2 (by decide) rfl rfl fun ac hs => ⟨ad2, cp3, hs⟩)
   ·exact fun L ac w ⟨ad2, cp3, hs⟩ => wpO_in hs rfl rfl rfl (obn hs 14 (.bool (decide (z0 < z2))) rfl rfl rfl rfl bin_lssI fun ac hs => ⟨ad2, cp3, hs⟩)
   ·exact fun L ac w ⟨ad2, cp3, hs⟩ => pln (op_pickT hs (some 15) rfl rfl rfl rfl rfl fun ac hs => ⟨ad2, cp3, hs⟩)
   ·exact fun L ac w ⟨ad2, cp3, hs⟩ => pln (op_callV (F := 74) (ρ := Option Addr × Nat) hs (some 16) (some 1) (v := fun r => .slice r.1 ((flagL (decide (z0 < z2))).length) r.2) (E := fun r => [oW r.1 ((flagL (decide (z0 < z2))).length) r.2 5 (bcs (flagL (decide (z0 < z2))))]) (j := 1) rfl rfl rfl rfl (call74 _) (fun hs => rflag_o (decide (z0 < z2)) _ _) (fun _ => rfl) (fun _ => rfl) rfl rfl fun ⟨ad2, cp3⟩ ac w hs => ⟨ad2, cp3, hs⟩)
   ·exact fun L ac w ⟨ad2, cp3, hs⟩ => pln (oas hs 17 rfl rfl rfl fun ac hs => ⟨ad2, cp3, hs⟩)
  intro ac w ⟨ad2, cp3, hs⟩
  try dsimp only [cond_true] at hs
  refine then_n (wp_ret (blk_r (then_r ?_)))
  have he : rknL op [z0, z1, z2] = flagL (decide (z0 < z2)) := by subst h165; simp [rknL, wthB, hq1]
  rw [← he] at hs
  exact bodyPost_ret (res1 rfl (rv_t hs rfl)) hs.defers ⟨⟨ad2, cp3⟩, (by rw [he]), hs.bel rfl, hs.ret1 1 rfl⟩
 replace hs := hs.nf w0 Z noX [0, 1, 4] rfl rfl rfl rfl
 have lad4 : (flagL false).length ≤ 1 := flagL_len _
 refine region_inv [([], [1, 2, 6, 7, 8, 9, 10, 11, 12, 13, 14, 15, 16, 17]), ([0], [2, 6, 7, 8, 9, 10, 11, 12, 13, 14, 15, 16, 17]), ([0, 1], rgn 6 12), ([], rgn 4 14), ([3], rgn 5 13), ([3, 4], rgn 6 12), (rgn 0 6, rgn 7 11), (rgn 0 7, rgn 8 10), (rgn 0 8, [9, 10, 14, 15, 16, 17]), (rgn 0 9, [10, 14, 15, 16, 17]), (rgn 0 10, rgn 14 4), (rgn 0 8, rgn 12 6), ([0, 1, 2, 3, 4, 5, 6, 7, 11], rgn 13 5), ([0, 1, 2, 3, 4, 5, 6, 7, 11, 12], rgn 14 4), (rgn 0 14, [15, 16, 17]), (rgn 0 15, [16, 17]), (rgn 0 16, [17]), (rgn 0 17, [])] (fun L ac w => ∃ (ad4 : Option Addr) (cp5 : Nat), St 83 ⟨w0, [], [(true, cL an 3 cn ([.int .i64 z0, .int .i64 z1, .int .i64 z2])), (L 16, oW ad4 ((flagL false).length) cp5 5 (bcs (flagL false)))], Z, noX⟩ [(57, L 0, .slice an 3 cn), (58, L 1, vidx (.slice an 3 cn) 0), (59, L 2, .int .i64 z0), (60, L 3, .slice an 3 cn), (61, L 4, vidx (.slice an 3 cn) 1), (62, L 5, .int .i64 z1), (63, L 6, .bool false), (64, L 7, .bool false), (65, L 8, undef), (66, L 9, undef), (67, L 10, undef), (68, L 11, undef), (69, L 12, undef), (70, L 13, undef), (71, L 14, undef), (72, L 15, .bool false), (73, L 16, .slice ad4 ((flagL false).length) cp5), (4, L 17, cond (L 17) (.slice ad4 ((flagL false).length) cp5) undef), (0, true, nu8 op), (1, true, .slice an 3 cn), (4, true, .slice none 0 0)] [] ac w) (by kernel_rfl) (by kernel_rfl) ?_ ?_ ?_
 ·exact ⟨none, 0, hs.drew.s4.s4.s4.s4.skip.skip.padS⟩
 ·refine ⟨?_, ?_, ?_, ?_, ?_, ?_, ?_, ?_, ?_, ?_, ?_, ?_, ?_, ?_, ?_, ?_, ?_, ?_, trivial⟩
  ·exact fun L ac w ⟨ad4, cp5, hs⟩ => pln (omv hs 0 rfl rfl rfl fun ac hs => ⟨ad4, cp5, hs⟩)
  ·exact fun L ac w ⟨ad4, cp5, hs⟩ => pln (op_idxC hs (some 1) 0 (j := 0) rfl rfl rfl rfl rfl underlying73 sizeOf2 (by decide) (off := 0) (by omega) rfl fun ac hs => ⟨ad4, cp5, hs⟩)
  ·exact fun L ac w ⟨ad4, cp5, hs⟩ => pln (op_loadC hs (some 2) 0 (u := .int .i64 z0) rfl rfl rfl rfl isAgg2 sizeOf2 (by decide) rfl rfl fun ac hs => ⟨ad4, cp5, hs⟩)
  ·exact fun L ac w ⟨ad4, cp5, hs⟩ => pln (omv hs 3 rfl rfl rfl fun ac hs => ⟨ad4, cp5, hs⟩)
  ·exact fun L ac w ⟨ad4, cp5, hs⟩ => pln (op_idxC hs (some 4) 0 (j := 1) rfl rfl rfl rfl rfl underlying73 sizeOf2 (by decide) (off := 1) (by omega) rfl fun ac hs => ⟨ad4, cp5, hs⟩)
  ·exact fun L ac w ⟨ad4, cp5, hs⟩ => pln (op_loadC hs (some 5) 0 (u := .int .i64 z1) rfl rfl rfl rfl isAgg2 sizeOf2 (by decide) rfl rfl fun ac hs => ⟨ad4, cp5, hs⟩)
  ·exact fun L ac w ⟨ad4, cp5, hs⟩ => pln (obn hs 6 (.bool false) rfl rfl rfl rfl (fun w => dF hq1 (bin_geqI w)) fun ac hs => ⟨ad4, cp5, hs⟩)
  ·exact fun L ac w ⟨ad4, cp5, hs⟩ => pln (omv hs 7 rfl rfl rfl fun ac hs => ⟨ad4, cp5, hs⟩)
  ·intro L ac w ⟨ad4, cp5, hs⟩
   refine wpO_out hs (some 8) rfl rfl (.inl rfl) rfl rfl fun ac hs => ?_
   exact ⟨ad4, cp5, hs⟩
  ·intro L ac w ⟨ad4, cp5, hs⟩
   refine wpO_out hs (some 9) rfl rfl (.inl rfl) rfl rfl fun ac hs => ?_
   exact ⟨ad4, cp5, hs⟩
  ·intro L ac w ⟨ad4, cp5, hs⟩
   refine wpO_out hs (some 10) rfl rfl (.inl rfl) rfl rfl fun ac hs => ?_
   exact ⟨ad4, cp5, hs⟩
  ·intro L ac w ⟨ad4, cp5, hs⟩
   refine wpO_out hs (some 11) rfl rfl (.inl rfl) rfl rfl fun ac hs => ?_
   exact ⟨ad4, cp5, hs⟩
  ·intro L ac w ⟨ad4, cp5, hs⟩
   refine wpO_out hs (some 12) rfl rfl (.inl rfl) rfl rfl fun ac hs => ?_
   exact ⟨ad4, cp5, hs⟩
  ·intro L ac w ⟨ad4, cp5, hs⟩
   refine wpO_out hs (some 13) rfl rfl (.inl rfl) rfl rfl fun ac hs => ?_
   exact ⟨ad4, cp5, hs⟩
  ·intro L ac w ⟨ad4, cp5, hs⟩
   refine wpO_out hs (some 14) rfl rfl (.inl rfl) rfl rfl fun ac hs => ?_
   exact ⟨ad4, cp5, hs⟩
  ·exact fun L ac w ⟨ad4, cp5, hs⟩ => pln (op_pickF hs (some 15) rfl rfl rfl rfl rfl fun ac hs => ⟨ad4, cp5, hs⟩)
  ·exact fun L ac w ⟨ad4, cp5, hs⟩ => pln (op_callV (F := 74) (ρ := Option Addr × Nat) hs (some 16) (some 1) (v := fun r => .slice r.1 ((flagL false).length) r.2) (E := fun r => [oW r.1 ((flagL false).length) r.2 5 (bcs (flagL false))]) (j := 1) rfl rfl rfl rfl (call74 _) (fun hs => rflag_o false _ _) (fun _ => rfl) (fun _ => rfl) rfl rfl fun ⟨ad4, cp5⟩ ac w hs => ⟨ad4, cp5, hs⟩)
  ·exact fun L ac w ⟨ad4, cp5, hs⟩ => pln (oas hs 17 rfl rfl rfl fun ac hs => ⟨ad4, cp5, hs⟩)
 intro ac w ⟨ad4, cp5, hs⟩
 try dsimp only [cond_true] at hs
 refine then_n (wp_ret (blk_r (then_r ?_)))
 have he : rknL op [z0, z1, z2] = flagL false := by subst h165; simp [rknL, wthB, hq1]
 rw [← he] at hs
 exact bodyPost_ret (res1 rfl (rv_t hs rfl)) hs.defers ⟨⟨ad4, cp5⟩, (by rw [he]), hs.bel rfl, hs.ret1 1 rfl⟩
end Go.Proofs.Ytikkhkjndbicgaa

/- Stacks: what the walks of the document's last functions want. -/
namespace Go.Proofs.Ytikkhkjndbicgaa
open Go.RowKit
def pickV (vs : List Value) (ps : List Nat) : List Value := ps.map fun p => vs.getD p (.slice none 0 0)
theorem pickV_snoc {vs : List Value} {ps : List Nat} {i p : Nat} {v : Value} (hp : ps[i]? = some p) (hv : vs[p]? = some v) : pickV vs (ps.take i) ++ [v] = pickV vs (ps.take (i + 1)) := by
  rw [List.take_add_one, hp]
  simp [pickV, hv]
theorem pickL_snoc1 {ks : BL} {ps : List Nat} {i p : Nat} {y : List UInt8} (hp : ps[i]? = some p) (hy : ks[p]? = some y) : pickL ks (ps.take i) ++ [y] = pickL ks (ps.take (i + 1)) := by
  rw [List.take_add_one, hp]
  simp [pickL, ← getD_of hy]
theorem bysv_pick {w : World} {Z : Nat → Prop} {vs : List Value} {ks : BL} (h : BysV w Z vs ks) (ps : List Nat) (hp : ∀ p ∈ ps, p < ks.length) : BysV w Z (pickV vs ps) (pickL ks ps) := by
  refine ⟨by simp [pickV, pickL], fun i v l hv hl => ?_⟩
  simp only [pickV, pickL, List.getElem?_map, Option.map_eq_some_iff] at hv hl
  obtain ⟨p, hp1, rfl⟩ := hv
  obtain ⟨q, hq1, rfl⟩ := hl
  obtain rfl : p = q := by rw [hp1] at hq1; exact Option.some.inj hq1
  have hlt := hp p (List.mem_of_getElem? hp1)
  have h1 : ks[p]? = some (ks.getD p []) := by rw [List.getD_eq_getElem?_getD, List.getElem?_eq_getElem hlt]; rfl
  have h2 : vs[p]? = some (vs.getD p (.slice none 0 0)) := by rw [List.getD_eq_getElem?_getD, List.getElem?_eq_getElem (by rw [h.1]; exact hlt)]; rfl
  exact h.2 p _ _ h2 h1
section
variable {n : Nat} {w0 : Bs} {fs : List Sl} {bs : List Bl} {a : Act} {w : World}
theorem St.pickY (hs : St n w0 fs bs a w) (m : Option Nat) (i : Nat) {vs : List Value} {ls : BL} (ps : List Nat) (h1 : w0.S[i]? = some (true, .bys vs ls)) (hp : ∀ p ∈ ps, p < ls.length) (hok : okS m w0.S 1 = true) : St n (w0.withS (putS m w0.S [.bys (pickV vs ps) (pickL ls ps)])) fs bs a w :=
  hs.pushS m hok (okl1 (bysv_pick (hs.all h1 rfl) ps hp))
end
theorem mov_cases {op : Nat} {ps : List Nat} {q : Bool} (h : movP op = (ps, q)) : ps = [] ∨ (op = 110 ∧ ps = [0, 1, 0, 1]) ∨ (op = 111 ∧ ps = [0, 1, 2, 0, 1, 2]) ∨ (op = 118 ∧ ps = [0, 0]) ∨ (op = 112 ∧ ps = [0, 1, 2, 3, 0, 1]) ∨ (op = 120 ∧ ps = [0, 1, 0]) ∨ (op = 113 ∧ ps = [2, 3, 4, 5, 0, 1]) ∨ (op = 123 ∧ ps = [1, 2, 0]) ∨ (op = 114 ∧ ps = [2, 3, 0, 1]) ∨ (op = 124 ∧ ps = [1, 0]) ∨ (op = 119 ∧ ps = [1]) ∨ (op = 125 ∧ ps = [1, 0, 1]) := by
  unfold movP at h
  by_cases h0 : op = 97 ∨ op = 109 ∨ op = 117
  · rw [if_pos h0] at h; exact .inl (Prod.mk.inj h).1.symm
  rw [if_neg h0] at h
  by_cases h1 : op = 110
  · rw [if_pos h1] at h; exact .inr (.inl ⟨h1, (Prod.mk.inj h).1.symm⟩)
  rw [if_neg h1] at h
  by_cases h2 : op = 111
  · rw [if_pos h2] at h; exact .inr (.inr (.inl ⟨h2, (Prod.mk.inj h).1.symm⟩))
  rw [if_neg h2] at h
  by_cases h3 : op = 118
  · rw [if_pos h3] at h; exact .inr (.inr (.inr (.inl ⟨h3, (Prod.mk.inj h).1.symm⟩)))
  rw [if_neg h3] at h
  by_cases h4 : op = 112
  · rw [if_pos h4] at h; exact .inr (.inr (.inr (.inr (.inl ⟨h4, (Prod.mk.inj h).1.symm⟩))))
  rw [if_neg h4] at h
  by_cases h5 : op = 120
  · rw [if_pos h5] at h; exact .inr (.inr (.inr (.inr (.inr (.inl ⟨h5, (Prod.mk.inj h).1.symm⟩)))))
  rw [if_neg h5] at h
  by_cases h6 : op = 113
  · rw [if_pos h6] at h; exact .inr (.inr (.inr (.inr (.inr (.inr (.inl ⟨h6, (Prod.mk.inj h).1.symm⟩))))))
  rw [if_neg h6] at h
  by_cases h7 : op = 123
  · rw [if_pos h7] at h; exact .inr (.inr (.inr (.inr (.inr (.inr (.inr (.inl ⟨h7, (Prod.mk.inj h).1.symm⟩)))))))
  rw [if_neg h7] at h
  by_cases h8 : op = 114
  · rw [if_pos h8] at h; exact .inr (.inr (.inr (.inr (.inr (.inr (.inr (.inr (.inl ⟨h8, (Prod.mk.inj h).1.symm⟩))))))))
  rw [if_neg h8] at h
  by_cases h9 : op = 124
  · rw [if_pos h9] at h; exact .inr (.inr (.inr (.inr (.inr (.inr (.inr (.inr (.inr (.inl ⟨h9, (Prod.mk.inj h).1.symm⟩)))))))))
  rw [if_neg h9] at h
  by_cases h10 : op = 119
  · rw [if_pos h10] at h; exact .inr (.inr (.inr (.inr (.inr (.inr (.inr (.inr (.inr (.inr (.inl ⟨h10, (Prod.mk.inj h).1.symm⟩))))))))))
  rw [if_neg h10] at h
  by_cases h11 : op = 125
  · rw [if_pos h11] at h; exact .inr (.inr (.inr (.inr (.inr (.inr (.inr (.inr (.inr (.inr (.inr ⟨h11, (Prod.mk.inj h).1.symm⟩))))))))))
  rw [if_neg h11] at h
  exact .inl (Prod.mk.inj h).1.symm
theorem mov_lt {op n : Nat} {ps : List Nat} {q : Bool} (h : movP op = (ps, q)) (ht : takeI op = (n : Int)) : ∀ p ∈ ps, p < n := by
  intro p hp
  rcases mov_cases h with rfl | ⟨rfl, rfl⟩ | ⟨rfl, rfl⟩ | ⟨rfl, rfl⟩ | ⟨rfl, rfl⟩ | ⟨rfl, rfl⟩ | ⟨rfl, rfl⟩ | ⟨rfl, rfl⟩ | ⟨rfl, rfl⟩ | ⟨rfl, rfl⟩ | ⟨rfl, rfl⟩ | ⟨rfl, rfl⟩
  · cases hp
  all_goals
    simp only [List.mem_cons, List.not_mem_nil, or_false] at hp
    simp [takeI] at ht
    omega
theorem mov_len {op : Nat} {ps : List Nat} {q : Bool} (h : movP op = (ps, q)) : ps.length ≤ 6 := by
  rcases mov_cases h with rfl | ⟨rfl, rfl⟩ | ⟨rfl, rfl⟩ | ⟨rfl, rfl⟩ | ⟨rfl, rfl⟩ | ⟨rfl, rfl⟩ | ⟨rfl, rfl⟩ | ⟨rfl, rfl⟩ | ⟨rfl, rfl⟩ | ⟨rfl, rfl⟩ | ⟨rfl, rfl⟩ | ⟨rfl, rfl⟩ <;> decide
theorem num_kind {op n : Nat} {ps : List Nat} {xs ys : BL} {d : Nat} (h : movP op = (ps, false)) (hb : bytP op xs d = (ys, false)) (ht : takeI op = (n : Int)) : n = 1 ∨ (n = 2 ∧ ¬ op = 165) ∨ (n = 3 ∧ op = 165) := by
  have h1 : (movP op).2 = false := by rw [h]
  have h2 : (bytP op xs d).2 = false := by rw [hb]
  clear h hb
  unfold takeI at ht
  repeat' split at ht
  · rename_i hh; rcases hh with rfl | rfl
    · simp [movP] at h1
    · simp [bytP] at h2
  · left; omega
  · rename_i hh
    right; left
    refine ⟨by omega, fun e => ?_⟩
    subst e
    simp at hh
  · rename_i hh
    rcases hh with rfl | rfl | rfl
    · simp [movP] at h1
    · simp [movP] at h1
    · right; right; exact ⟨by omega, rfl⟩
  · rename_i hh
    rcases hh with rfl | rfl
    · simp [movP] at h1
    · simp [movP] at h1
  · rename_i hh
    subst hh
    simp [movP] at h1
  · omega
theorem put_mov {op : Nat} {ps : List Nat} {xs : BL} {d : Nat} (h : movP op = (ps, true)) : putP op xs d = (pickL xs ps, 0) := by simp [putP, h, pickL]
theorem put_byt {op : Nat} {ps : List Nat} {xs ys : BL} {d : Nat} (h : movP op = (ps, false)) (h2 : bytP op xs d = (ys, true)) : putP op xs d = (ys, 0) := by simp [putP, h, h2]
theorem put_num {op : Nat} {ps : List Nat} {xs ys : BL} {zs : List Int} {d : Nat} (h : movP op = (ps, false)) (h2 : bytP op xs d = (ys, false)) (h3 : numsP xs = (zs, 0)) : putP op xs d = ([rknL op zs], 0) := by simp [putP, h, h2, h3]
theorem put_bad {op : Nat} {ps : List Nat} {xs ys : BL} {d : Nat} (h : movP op = (ps, false)) (h2 : bytP op xs d = (ys, false)) (h3 : (numsP xs).2 = 15) : putP op xs d = ([], 15) := by simp [putP, h, h2, h3]
theorem nums_go {xs : BL} {i : Nat} {x : List UInt8} {z : Int} {zs : List Int} (h : numsP (xs.take i) = (zs, 0)) (hx : xs[i]? = some x) (hd : decN x 4 = (z, 0)) : numsP (xs.take (i + 1)) = (zs ++ [z], 0) := by
  rw [← take_snocB hx]
  obtain ⟨s1, s2⟩ := nums_snoc (xs.take i) x
  rw [hd, if_pos rfl, h] at s1
  have s3 := s2 s1
  rw [hd, h] at s3
  exact Prod.ext s3 s1
theorem nums_any : ∀ {xs : BL} {x : List UInt8}, x ∈ xs → (decN x 4).2 ≠ 0 → (numsP xs).2 = 15
  | y :: ys, x, hx, h => by
    unfold numsP
    rcases List.mem_cons.1 hx with rfl | hx
    · rw [if_neg h]
    · have := nums_any hx h
      split
      · rw [this]; rfl
      · rfl
theorem nums_stop {xs : BL} {i : Nat} {x : List UInt8} {z : Int} {e : Nat} (hx : xs[i]? = some x) (hd : decN x 4 = (z, e)) (he : e ≠ 0) : e = 15 ∧ (numsP xs).2 = 15 := by
  have h1 : (decN x 4).2 = e := by rw [hd]
  refine ⟨?_, nums_any (List.mem_of_getElem? hx) (by rw [h1]; exact he)⟩
  rcases dec_code x 4 with h | h
  · exact absurd (h1.symm.trans h) he
  · exact h1.symm.trans h
theorem nums_bd : ∀ {xs : BL} {zs : List Int}, numsP xs = (zs, 0) → ∀ z ∈ zs, -2147483648 < z ∧ z < 2147483648
  | [], zs, h, z, hz => by
    obtain ⟨rfl, _⟩ := Prod.mk.inj h
    cases hz
  | x :: xs, zs, h, z, hz => by
    unfold numsP at h
    split at h
    · rename_i h1
      split at h
      · rename_i h2
        obtain ⟨rfl, _⟩ := Prod.mk.inj h
        rcases List.mem_cons.1 hz with rfl | hz
        · exact dec4 (x := x) (n := (decN x 4).1) (er := 0) (Prod.ext rfl h1)
        · exact nums_bd (xs := xs) (Prod.ext rfl h2) z hz
      · exact absurd (Prod.mk.inj h).2 (by decide)
    · exact absurd (Prod.mk.inj h).2 (by decide)
def intZ (zs : List Int) : List Value := zs.map fun z => .int .i64 z
section
variable {n : Nat} {w0 : Bs} {fs : List Sl} {bs : List Bl} {a : Act} {w : World}
theorem St.oneY (hs : St n w0 fs bs a w) (m : Option Nat) (kp : Nat) {v : Value} {N : Nat} {l : List UInt8} (hp : w0.S[kp]? = some (true, .cel v N (bcs l))) (hN : N = l.length) (hok : okS m w0.S 1 = true) : St n (w0.withS (putS m w0.S [.bys [v] [l]])) fs bs a w := by
  subst hN
  exact hs.pushS m hok (okl1 (bysv_snoc bysv_nil (hs.all hp rfl)))
end
theorem OkN.app {A B : BL} (h : OkN 1000 A) (h2 : OkN 2000 B) : OkN 8000 (A ++ B) := by
  refine ⟨by have := h.1; have := h2.1; rw [List.length_append]; omega, fun x hx => ?_⟩
  rcases List.mem_append.1 hx with hx | hx
  · have := h.2 x hx; omega
  · have := h2.2 x hx; omega
theorem getD_bd {zs : List Int} (h : ∀ z ∈ zs, -2147483648 < z ∧ z < 2147483648) (i : Nat) : -2147483648 < zs.getD i 0 ∧ zs.getD i 0 < 2147483648 := by
  rw [List.getD_eq_getElem?_getD]
  cases hi : zs[i]? with
  | none => simp
  | some z => exact h z (List.mem_of_getElem? hi)
theorem rkn_len {op : Nat} {zs : List Int} (h : ∀ z ∈ zs, -2147483648 < z ∧ z < 2147483648) : (rknL op zs).length ≤ 2000 := by
  have h0 := getD_bd h 0
  have h1 := getD_bd h 1
  have h2 := one_bd (op := op) (z := oneI op (zs.getD 0 0)) h0 rfl
  have f : ∀ b, (flagL b).length ≤ 2000 := fun b => Nat.le_trans (flagL_len b) (by decide)
  have e : ∀ z : Int, -9223372036854775808 ≤ z → z < 9223372036854775808 → (enc z).length ≤ 2000 := fun z a b => Nat.le_trans (enc_len a b) (by decide)
  unfold rknL
  split
  · exact e _ (by omega) (by omega)
  split
  · exact e _ (by omega) (by omega)
  split
  · exact e _ (by omega) (by omega)
  split
  · exact e _ (by omega) (by omega)
  split
  · exact e _ (by omega) (by omega)
  split
  · exact f _
  · exact f _
theorem OkN.one {B : Nat} {x : List UInt8} (hB : 1 ≤ B) (h : x.length ≤ B) : OkN B [x] := ⟨hB, fun y hy => by rw [List.mem_singleton.1 hy]; exact h⟩
theorem OkN.two {B : Nat} {x y : List UInt8} (hB : 2 ≤ B) (h : x.length ≤ B) (h2 : y.length ≤ B) : OkN B [x, y] := ⟨hB, fun z hz => by rcases List.mem_cons.1 hz with rfl | hz; exact h; rw [List.mem_singleton.1 hz]; exact h2⟩
theorem byt_ok {op d : Nat} {xs ys : BL} {q : Bool} (ok : OkN 1000 xs) (hd : d ≤ 8000) (h : bytP op xs d = (ys, q)) : OkN 2000 ys := by
  have x0 := ok.at 0
  have x1 := ok.at 1
  have f : ∀ b, (flagL b).length ≤ 2000 := fun b => Nat.le_trans (flagL_len b) (by decide)
  have e : ∀ n : Nat, n ≤ 8000 → (enc (n : Int)).length ≤ 2000 := fun n a => Nat.le_trans (enc_len (by omega) (by omega)) (by decide)
  unfold bytP at h
  repeat' split at h
  all_goals
    obtain ⟨rfl, _⟩ := Prod.mk.inj h
    first
    | exact OkN.nil
    | exact ok.mono (by decide)
    | exact OkN.two (by decide) (by omega) (by omega)
    | exact OkN.two (by decide) (by omega) (e _ (by omega))
    | exact OkN.one (by decide) (e _ hd)
    | exact OkN.one (by decide) (f _)
    | exact OkN.one (by decide) (by rw [List.length_append]; omega)
    | exact OkN.one (by decide) (Nat.le_trans (Nat.le_of_eq (btl_len 32 _)) (by decide))
theorem put_ok {op d e : Nat} {xs ys : BL} (ok : OkN 1000 xs) (hd : d ≤ 8000) (h : putP op xs d = (ys, e)) : OkN 2000 ys := by
  obtain ⟨ps, q, hm⟩ : ∃ ps q, movP op = (ps, q) := ⟨_, _, rfl⟩
  cases q with
  | true =>
    rw [put_mov hm] at h
    obtain ⟨rfl, _⟩ := Prod.mk.inj h
    refine ⟨by have := mov_len hm; simp [pickL]; omega, fun x hx => ?_⟩
    simp only [pickL, List.mem_map] at hx
    obtain ⟨p, _, rfl⟩ := hx
    exact Nat.le_trans (ok.at p) (by decide)
  | false =>
    obtain ⟨zs, q, hb⟩ : ∃ zs q, bytP op xs d = (zs, q) := ⟨_, _, rfl⟩
    cases q with
    | true =>
      rw [put_byt hm hb] at h
      obtain ⟨rfl, _⟩ := Prod.mk.inj h
      exact byt_ok ok hd hb
    | false =>
      rcases nums_code xs with h0 | h0
      · rw [put_num (zs := (numsP xs).1) hm hb (Prod.ext rfl h0)] at h
        obtain ⟨rfl, _⟩ := Prod.mk.inj h
        exact OkN.one (by decide) (rkn_len (nums_bd (xs := xs) (Prod.ext rfl h0)))
      · rw [put_bad hm hb h0] at h
        obtain ⟨rfl, _⟩ := Prod.mk.inj h
        exact OkN.nil
theorem put_ne {op d : Nat} {xs ys : BL} (ho : op = 105 ∨ op = 136 ∨ op = 157) (h : putP op xs d = (ys, 0)) : ∃ y, ys = [y] := by
  have hm : (movP op).2 = false := by rcases ho with rfl | rfl | rfl <;> simp [movP]
  unfold putP at h
  rw [if_neg (by rw [hm]; decide)] at h
  split at h
  · rename_i hb
    rcases ho with rfl | rfl | rfl
    · exact ⟨flagL (truthL (xs.getD 0 [])), by simpa [bytP] using (Prod.mk.inj h).1.symm⟩
    · exact ⟨flagL (decide (xs.getD 0 [] = xs.getD 1 [])), by simpa [bytP] using (Prod.mk.inj h).1.symm⟩
    · simp [bytP] at hb
  · split at h
    · exact ⟨_, (Prod.mk.inj h).1.symm⟩
    · exact absurd (Prod.mk.inj h).2 (by decide)
theorem take_bd {op : Nat} {t : Int} (h : takeI op = t) : -1 ≤ t ∧ t ≤ 6 := by
  subst h
  unfold takeI
  repeat' split
  all_goals omega
theorem do_deep {op : Nat} {ks js : BL} (h : op = 121 ∨ op = 122) : doP op ks js = deepP op ks js := by unfold doP; rw [if_pos h]
theorem do_alt {op : Nat} {ks js : BL} (h : ¬ (op = 121 ∨ op = 122)) (h2 : op = 107 ∨ op = 108) : doP op ks js = altP op ks js := by unfold doP; rw [if_neg h, if_pos h2]
section
variable {op n : Nat} {ks js : BL} (h : ¬ (op = 121 ∨ op = 122)) (h2 : ¬ (op = 107 ∨ op = 108))
include h h2
theorem do_neg (ht : takeI op < 0) : doP op ks js = ([], [], 10) := by unfold doP; rw [if_neg h, if_neg h2, if_pos ht]
theorem do_few (ht : ¬ takeI op < 0) (hl : (ks.length : Int) < takeI op) : doP op ks js = ([], [], 12) := by unfold doP; rw [if_neg h, if_neg h2, if_neg ht, if_pos hl]
theorem do_bad {ys : BL} {e : Nat} (ht : takeI op = (n : Int)) (hn : n ≤ ks.length) (hp : putP op (ks.drop (ks.length - n)) ks.length = (ys, e)) (he : e ≠ 0) : doP op ks js = ([], [], e) := by
  unfold doP
  rw [if_neg h, if_neg h2, ht, if_neg (by omega), if_neg (by omega)]
  simp only [Int.toNat_natCast, hp, he, if_false]
theorem do_ver {ys : BL} {y : List UInt8} (ht : takeI op = (n : Int)) (hn : n ≤ ks.length) (hp : putP op (ks.drop (ks.length - n)) ks.length = (ys, 0)) (hv : op = 105 ∨ op = 136 ∨ op = 157) (hy : ys[0]? = some y) : doP op ks js = if y.length = 0 then ([], [], 16) else donL (ks.take (ks.length - n) ++ []) js 0 := by
  unfold doP
  rw [if_neg h, if_neg h2, ht, if_neg (by omega), if_neg (by omega)]
  simp only [Int.toNat_natCast, hp, if_true, if_pos hv, getD_of hy, List.append_nil]
theorem do_put {ys : BL} (ht : takeI op = (n : Int)) (hn : n ≤ ks.length) (hp : putP op (ks.drop (ks.length - n)) ks.length = (ys, 0)) (hv : ¬ (op = 105 ∨ op = 136 ∨ op = 157)) : doP op ks js = donL (ks.take (ks.length - n) ++ ys) js 0 := by
  unfold doP
  rw [if_neg h, if_neg h2, ht, if_neg (by omega), if_neg (by omega)]
  simp only [Int.toNat_natCast, hp, if_true, if_neg hv]
end
end Go.Proofs.Ytikkhkjndbicgaa
