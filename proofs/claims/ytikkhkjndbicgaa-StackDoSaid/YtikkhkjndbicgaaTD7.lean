/- Several texts in one, what this law needs of them: StkW, Frame, FrameN, FrameE, FrameK. -/
import Derived.Test.YtikkhkjndbicgaaTD6
import Derived.Test.YtikkhkjndbicgaaRows
import Derived.WalkKit
import Derived.ProofKit
import Derived.OpenShut
import Derived.ChangeOld
import Derived.Below

/- Stacks: the laws with the document's answer. -/
namespace Go.Proofs.Ytikkhkjndbicgaa
open Go.RowKit _root_.Go.Proofs.Try
set_option maxRecDepth 10000
set_option maxHeartbeats 1000000
theorem cop_c (ad : Option Addr) (c : Nat) (vs : List Value) (ls : BL) (hB : OkN 8000 ls) (w0 : World) (Z : Nat → Prop) (hV : CelV w0 Z (.slice ad ls.length c) ls.length vs) (hY : BysV w0 Z vs ls): Calls prog 10 #[.slice ad ls.length c] w0 fun e w' => Ret w0 Z (ρ := M1) (fun r => .slice r.a ls.length r.c) (fun r => [oW r.a ls.length r.c 34 r.vs, .bysO r.G r.vs ls]) e w' := by
 have hl8 : ls.length ≤ 8000 := hB.1
 refine enterS (n := 22) (args := [.slice ad ls.length c]) (S := [(true, cL ad ls.length c vs), (true, .bys vs ls)]) (Z := Z) func10 rfl rfl (Nat.le_of_ble_eq_true rfl) (sokC hV (sokC hY sok0)) rfl fun ac hs => wp_seq (wp_region_lit (asg hs rfl rfl rfl fun ac hs => wpList_nil (then_n (wp_seq (wp_region_lit (stp (op_bsO0 hs none none (size := 1) rfl rfl underlying22 inf_slice_34 rfl rfl fun ad2 ac w hs => asg hs rfl rfl rfl fun ac hs => wpList_nil (then_n (wp_seq (wp_seq (wp_region_lit (asg hs rfl rfl rfl fun ac hs => wpList_nil (then_n (wp_block ?_))))))))))))))
 replace hs := hs.nilBysO none rfl
 refine wp_loop_m (fun μ ac w => ∃ (i : Nat) (ao : Option Addr) (co : Nat) (vo : List Value) (G : Nat → Prop), (ls.length - i) = μ ∧ (i ≤ ls.length) ∧ St 22 ⟨w0, [], [(true, cL ad ls.length c vs), (true, .bys vs ls), (true, oW ao ((ls.take i).length) co 34 vo), (true, .bysO G vo (ls.take i))], Z, noX⟩ [(0, true, .slice ad ls.length c), (3, true, .slice ao ((ls.take i).length) co), (4, true, ni64 i)] [] ac w) ?_ ?_
 ·exact ⟨_, 0, ad2, 0, ([]), noX, rfl, (by omega), (hs.re (fs' := [(0, true, .slice ad ls.length c), (3, true, .slice ad2 ((ls.take 0).length) 0), (4, true, ni64 0)]) ⟨rfl, rfl, rfl, trivial⟩)⟩
 intro μ ac w ⟨i, ao, co, vo, G, hμ, hi, hs⟩
 have htl : (ls.take i).length ≤ 8000 := (hB.take i).1
 refine wp_seq (wp_seq (wp_region_lit (mvv hs rfl rfl rfl fun ac hs => mvv hs rfl rfl rfl fun ac hs => stp (op_blt hs none (v := ni64 (ls.length)) rfl rfl rfl (blt_len underlying22) rfl fun ac hs => bnn hs (.bool (decide (i < ls.length))) rfl rfl rfl rfl bin_lssN fun ac hs => wpList_nil (then_n (wcs hs rfl ?_ ?_))))))
 ·intro hc
  have hp3 := of_decide_eq_true hc
  have hlt := of_decide_eq_true hc
  obtain ⟨li, hli⟩ : ∃ z, ls[i]? = some z := ⟨_, List.getElem?_eq_getElem hlt⟩
  obtain ⟨al, cl, hvl⟩ := bysv_at (hs.all (k := 1) rfl rfl) hli
  have lli : li.length ≤ 8000 := hB.2 _ (List.mem_of_getElem? hli)
  replace hs := hs.pick none 1 rfl hvl hli rfl
  refine wp_skip (then_n (wp_seq (wp_block (wp_region_lit (mvv hs rfl rfl rfl fun ac hs => stp (op_bsO0 hs none none (size := 1) rfl rfl underlying34 inf_u8_5 rfl rfl fun ad5 ac w hs => mvv hs rfl rfl rfl fun ac hs => mvv hs rfl rfl rfl fun ac hs => stp (op_idxC hs none 0 (j := i) rfl rfl rfl rfl rfl underlying22 sizeOf34 (show i < ls.length by omega) (off := i) (by omega) rfl fun ac hs => stp (op_loadC hs none 0 (u := .slice al li.length cl) rfl rfl rfl rfl isAgg34 sizeOf34 (by decide) hvl rfl fun ac hs => stp (op_appR hs none 5 4 (N' := li.length) (ys := bcs li) rfl rfl rfl rfl rfl rfl underlying34 inf_u8_5 rfl (by decide) (bcs_len1 rfl) (bcs_one _) (by decide) (show 0 + li.length ≤ 1000000 by omega) (Nat.zero_add _) rfl rfl rfl fun ad6 cp7 ac w hs => stp (op_bsO hs none none (qs := [(0, .slice ad6 li.length cp7)]) (cs := [.slice ad6 li.length cp7]) rfl rfl rfl rfl underlying22 inf_slice_34 (by decide) (by decide) (fill_one _ _ rfl) rfl rfl rfl rfl fun ad9 ac w hs => stp (op_appR hs none 2 6 (N' := ((ls.take i) ++ [li]).length) (ys := vo ++ [Value.slice ad6 li.length cp7]) rfl rfl rfl rfl rfl rfl underlying22 inf_slice_34 rfl (by decide) rfl (by intro u hu; obtain rfl := List.mem_singleton.1 hu; rfl) (by decide) (show (ls.take i).length + 1 ≤ 1000000 by first | omega | ((try simp only [List.length_drop, List.length_take, List.length_append, List.length_cons, List.length_nil]); omega)) (by simp) rfl rfl rfl fun ad10 cp11 ac w hs => ?_)))))))))))
  refine asg hs rfl rfl rfl fun ac hs => wpList_nil (blk_n (then_n ?_))
  replace hs := hs.nf w0 Z noX [0, 3, 4] rfl rfl rfl rfl
  refine wp_region_lit (mvv hs rfl rfl rfl fun ac hs => bnn hs (ni64 (i + 1)) rfl rfl rfl rfl (bin_addN (y := 1) rfl (show i + 1 < 9223372036854775808 by omega)) fun ac hs => asg hs rfl rfl rfl fun ac hs => wpList_nil (then_n ?_))
  replace hs := hs.snocOwn (ls' := ls.take i ++ [li]) 3 5 rfl rfl rfl
  rw [show ls.take i ++ [li] = ls.take (i + 1) from take_snocB hli] at hs
  replace hs := hs.selS [0, 1, 2, 3] rfl (by decide)
  exact ⟨_, ⟨(i + 1), ad10, cp11, (vo ++ [.slice ad6 li.length cp7]), (GU G (.slice ad6 li.length cp7)), rfl, (by omega), (hs.re (fs' := [(0, true, .slice ad ls.length c), (3, true, .slice ad10 ((ls.take (i + 1)).length) cp11), (4, true, ni64 ((i + 1)))]) ⟨rfl, rfl, rfl, trivial⟩)⟩, (by omega)⟩
 intro hc
 have hp12 := of_decide_eq_false hc
 have hge := of_decide_eq_false hc
 rw [List.take_of_length_le (show ls.length ≤ i by omega)] at hs
 refine wp_exit (then_e (then_e (blk_e (then_n (wp_seq (wp_region_lit (mvv hs rfl rfl rfl fun ac hs => asg hs rfl rfl rfl fun ac hs => wpList_nil (then_n (wp_ret ?_)))))))))
 exact bodyPost_ret (res1 rfl (rv_t hs rfl)) hs.defers ⟨⟨ao, co, vo, G⟩, rfl, hs.bel rfl, hs.ret2 2 3 rfl rfl (by decide)⟩
theorem spoil_c (ar : Option Addr) (nr cr : Nat) (vr : List Value) (G : Nat → Prop) (vs : List Value) (ns : List Nat) (hn8 : nr ≤ 1000000) (hlv : vr.length = nr) (hin : ∀ x ∈ vr, x ∈ vs) (w0 : World) (Z X : Nat → Prop) (hm : Mem ⟨w0, [], [(true, cL ar nr cr vr), (true, .wrs G vs ns)], Z, X⟩ [] w0) : Calls prog 14 #[.slice ar nr cr] w0 fun e w' => PostX w0 Z X (ρ := Unit) (fun r => .tuple #[]) (fun r => []) (fun r => [(true, cL ar nr cr vr), (true, .wrs G vs ns)]) e w' := by
 refine enterX (n := 25) (args := [.slice ar nr cr]) func14 rfl rfl (Nat.le_of_ble_eq_true rfl) hm fun ac hs => wp_seq (wp_region_lit (asg hs rfl rfl rfl fun ac hs => wpList_nil (then_n (wp_block (wp_loop_m (fun μ ac w => ∃ (i : Nat), (nr - i) = μ ∧ (i ≤ nr) ∧ St 25 ⟨w0, [], [(true, cL ar nr cr vr), (true, .wrs G vs ns)], Z, X⟩ [(0, true, .slice ar nr cr), (2, true, ni64 i)] [] ac w) ?_ ?_)))))
 ·exact ⟨_, 0, rfl, (by omega), (hs.re (fs' := [(0, true, .slice ar nr cr), (2, true, ni64 0)]) ⟨rfl, rfl, trivial⟩)⟩
 intro μ ac w ⟨i, hμ, hi, hs⟩
 refine wp_seq (wp_seq (wp_region_lit (mvv hs rfl rfl rfl fun ac hs => mvv hs rfl rfl rfl fun ac hs => stp (op_blt hs none (v := ni64 nr) rfl rfl rfl (blt_len underlying22) rfl fun ac hs => bnn hs (.bool (decide (i < nr))) rfl rfl rfl rfl bin_lssN fun ac hs => wpList_nil (then_n (wcs hs rfl ?_ ?_))))))
 ·intro hc
  have hp1 := of_decide_eq_true hc
  have hlt := of_decide_eq_true hc
  obtain ⟨x, hvl⟩ : ∃ z, vr[i]? = some z := ⟨_, List.getElem?_eq_getElem (show i < vr.length by omega)⟩
  obtain ⟨jx, al, nl, cl, hxe, hxv, hxn, hnl⟩ := hs.wrs_in (k := 1) rfl (hin x (List.mem_of_getElem? hvl))
  subst hxe
  have hnl2 : nl < 9223372036854775808 := Nat.lt_of_le_of_lt hnl (by decide)
  refine wp_skip (then_n (wp_seq (wp_block (wp_seq (wp_region_lit (asg hs rfl rfl rfl fun ac hs => wpList_nil (then_n (wp_block (wp_loop_m (fun μ ac w => ∃ (j : Nat), (nl - j) = μ ∧ (j ≤ nl) ∧ St 25 ⟨w0, [], [(true, cL ar nr cr vr), (true, .wrs G vs ns)], Z, X⟩ [(0, true, .slice ar nr cr), (2, true, ni64 i), (3, true, ni64 j)] [] ac w) ?_ ?_)))))))))
  ·exact ⟨_, 0, rfl, (by omega), (hs.re (fs' := [(0, true, .slice ar nr cr), (2, true, ni64 i), (3, true, ni64 0)]) ⟨rfl, rfl, rfl, trivial⟩)⟩
  intro μ ac w ⟨j, hμ, hj, hs⟩
  refine wp_seq (wp_seq (wp_region_lit (mvv hs rfl rfl rfl fun ac hs => mvv hs rfl rfl rfl fun ac hs => mvv hs rfl rfl rfl fun ac hs => stp (op_idxC hs none 0 (j := i) rfl rfl rfl rfl rfl underlying22 sizeOf34 (show i < nr by omega) (off := i) (by omega) rfl fun ac hs => stp (op_loadC hs none 0 (u := .slice al nl cl) rfl rfl rfl rfl isAgg34 sizeOf34 (by decide) (by simpa [ldv] using hvl) rfl fun ac hs => stp (op_blt hs none (v := ni64 nl) rfl rfl rfl (blt_len underlying34) rfl fun ac hs => bnn hs (.bool (decide (j < nl))) rfl rfl rfl rfl bin_lssN fun ac hs => wpList_nil (then_n (wcs hs rfl ?_ ?_))))))))
  ·intro hc
   have hp2 := of_decide_eq_true hc
   refine wp_skip (then_n (wp_seq (wp_block ?_)))
   replace hs := hs.nf w0 Z X [0, 2, 3] rfl rfl rfl rfl
   refine wp_region_lit (mvv hs rfl rfl rfl fun ac hs => mvv hs rfl rfl rfl fun ac hs => stp (op_idxC hs none 0 (j := i) rfl rfl rfl rfl rfl underlying22 sizeOf34 (show i < nr by omega) (off := i) (by omega) rfl fun ac hs => stp (op_loadC hs none 0 (u := .slice al nl cl) rfl rfl rfl rfl isAgg34 sizeOf34 (by decide) (by simpa [ldv] using hvl) rfl fun ac hs => mvv hs rfl rfl rfl fun ac hs => stp (op_idxW hs none 1 jx (j := j) rfl rfl rfl rfl rfl hxv hxn underlying34 sizeOf5 (show j < nl by omega) rfl fun ac hs => stp (op_storeW hs 1 jx (j := j) (u := .int .u8 99) rfl rfl rfl rfl rfl rfl hxv hxn (show j < nl by omega) sizeOf5 rfl rfl fun w hs => wpList_nil (blk_n (then_n ?_)))))))
   replace hs := hs.nf w0 Z X [0, 2, 3] rfl rfl rfl rfl
   refine wp_region_lit (mvv hs rfl rfl rfl fun ac hs => bnn hs (ni64 (j + 1)) rfl rfl rfl rfl (bin_addN (y := 1) rfl (show j + 1 < 9223372036854775808 by omega)) fun ac hs => asg hs rfl rfl rfl fun ac hs => wpList_nil (then_n ?_))
   exact ⟨_, ⟨(j + 1), rfl, (by omega), (hs.re (fs' := [(0, true, .slice ar nr cr), (2, true, ni64 i), (3, true, ni64 ((j + 1)))]) ⟨rfl, rfl, rfl, trivial⟩)⟩, (by omega)⟩
  intro hc
  have hp3 := of_decide_eq_false hc
  refine wp_exit (then_e (then_e (blk_e (blk_n (then_n ?_)))))
  replace hs := hs.nf w0 Z X [0, 2] rfl rfl rfl rfl
  refine wp_region_lit (mvv hs rfl rfl rfl fun ac hs => bnn hs (ni64 (i + 1)) rfl rfl rfl rfl (bin_addN (y := 1) rfl (show i + 1 < 9223372036854775808 by omega)) fun ac hs => asg hs rfl rfl rfl fun ac hs => wpList_nil (then_n ?_))
  exact ⟨_, ⟨(i + 1), rfl, (by omega), (hs.re (fs' := [(0, true, .slice ar nr cr), (2, true, ni64 ((i + 1)))]) ⟨rfl, rfl, trivial⟩)⟩, (by omega)⟩
 intro hc
 have hp4 := of_decide_eq_false hc
 refine wp_exit (then_e (then_e (blk_e ?_)))
 exact bodyPost_end (res0 rfl) hs.defers ⟨(), rfl, ((hs.selS [0, 1] rfl (by decide)).selB [] rfl (by decide)).mem⟩
theorem do_law (op : Nat) (am : Option Addr) (cm : Nat) (vs : List Value) (aa : Option Addr) (ca : Nat) (us : List Value) (ks js : BL) (w0 : World) (Z : Nat → Prop) (hV : CelV w0 Z (.slice am ks.length cm) ks.length vs) (hY : BysV w0 Z vs ks) (hU : CelV w0 Z (.slice aa js.length ca) js.length us) (hX : BysV w0 Z us js): Calls prog 3 #[nu8 op, .agg #[.slice am ks.length cm, .slice aa js.length ca]] w0 fun e w' => Ret w0 Z (ρ := Unit) (fun r => .bool true) (fun r => []) e w' := by
 refine enterS (n := 57) (args := [nu8 op, .agg #[.slice am ks.length cm, .slice aa js.length ca]]) (S := [(true, cL am ks.length cm vs), (true, .bys vs ks), (true, cL aa js.length ca us), (true, .bys us js)]) (Z := Z) func3 rfl rfl (Nat.le_of_ble_eq_true rfl) (sokC hV (sokC hY (sokC hU (sokC hX sok0)))) rfl fun ac hs => wp_seq (wp_region_lit (stp (op_box hs none none (cs := [.slice am ks.length cm, .slice aa js.length ca]) rfl rfl rfl rfl rfl rfl fun g1 ac w hs => asg hs rfl rfl rfl fun ac hs => wpList_nil (then_n (wp_seq (wp_seq (wp_region_lit (ldd hs 0 (.agg #[.slice am ks.length cm, .slice aa js.length ca]) isAgg24 sizeOf24 rfl rfl rfl rfl rfl fun ac hs => ?_))))))))
 obtain ⟨q2, hq2⟩ := ex1 (smallS ks js)
 refine stp (op_callV (F := 8) (ρ := Unit) hs none none (v := fun r => .bool q2) (E := fun r => []) (j := 0) rfl rfl rfl rfl (call8 _) (fun hs => small_c am cm vs aa ca us ks js q2 hq2 _ _ (hs.celT (k := 0) rfl) (hs.rowB (k := 1) (G := noX) (.inr rfl)) (hs.celT (k := 2) rfl) (hs.rowB (k := 3) (G := noX) (.inr rfl))) (fun _ => rfl) (fun _ => rfl) rfl rfl fun _ ac w hs => stp (op_un hs none (v := .bool (!q2)) rfl rfl rfl (fun _ => rfl) rfl fun ac hs => wpList_nil (then_n (wcs hs rfl ?_ ?_))))
 ·intro hc
  refine wp_seq (wp_region_lit (stp (op_callV (F := 9) (ρ := Unit) hs none none (v := fun r => .bool true) (E := fun r => []) (j := 0) rfl rfl rfl rfl (call9 _) (fun hs => alive_c _ _) (fun _ => rfl) (fun _ => rfl) rfl rfl fun _ ac w hs => asg hs rfl rfl rfl fun ac hs => wpList_nil (then_n (wp_ret (then_r ?_))))))
  exact bodyPost_ret (res1 rfl (rv_t hs rfl)) hs.defers ⟨(), rfl, hs.bel rfl, okl0⟩
 intro hc
 obtain ⟨ok, oj⟩ := small_ok (hq2.trans (show q2 = true by simpa using hc))
 have hkl : ks.length ≤ 600 := ok.1
 obtain ⟨kk, jj, ee, hdo⟩ := ex3 (doL op ks js)
 obtain ⟨okk, ojj⟩ := do_okE hdo
 refine wp_skip (then_n (wp_seq ?_))
 replace hs := hs.nf w0 Z noX [0, 3, 4] rfl rfl rfl rfl
 refine region_inv [([], [1, 2, 5, 6, 8]), ([0], [2, 5, 6, 8]), ([0, 1], [5, 6, 8]), ([], [4, 5, 6, 8]), ([3], [5, 6, 8]), (rgn 0 5, [6, 8]), (rgn 0 6, [8]), ([], [8]), (rgn 0 8, [])] (fun L ac w => ∃ (g11 : Nat) (ad3 : Option Addr) (cp4 : Nat) (us5 : List Value) (G6 : Nat → Prop) (ad7 : Option Addr) (cp8 : Nat) (us9 : List Value) (G10 : Nat → Prop), St 57 ⟨w0, [], [(true, cL am ks.length cm vs), (true, .bys vs ks), (true, cL aa js.length ca us), (true, .bys us js), (L 2, oW ad3 ks.length cp4 34 us5), (L 2, .bysO G6 us5 ks), (L 5, oW ad7 js.length cp8 34 us9), (L 5, .bysO G10 us9 js)], Z, noX⟩ [(15, L 0, ptA g1 0), (16, L 1, .slice am ks.length cm), (17, L 2, .slice ad3 ks.length cp4), (18, L 3, ptA g1 1), (19, L 4, .slice aa js.length ca), (20, L 5, .slice ad7 js.length cp8), (21, L 6, cond (L 6) (.agg #[.slice ad3 ks.length cp4, .slice ad7 js.length cp8]) undef), (5, L 7, ptA g11 0), (0, true, nu8 op), (3, true, ptA g1 0), (4, true, .bool false)] [(true, g1, 24, [.slice am ks.length cm, .slice aa js.length ca]), (L 7, g11, 24, (cond (L 8) [.slice ad3 ks.length cp4, .slice ad7 js.length cp8] [.slice none 0 0, .slice none 0 0]))] ac w) (by kernel_rfl) (by kernel_rfl) ?_ ?_ ?_
 ·exact ⟨0, none, 0, [], noX, none, 0, [], noX, hs.drew.s4.s4.pad.padS.padS.padS.padS⟩
 ·refine ⟨?_, ?_, ?_, ?_, ?_, ?_, ?_, ?_, ?_, trivial⟩
  ·exact fun L ac w ⟨g11, ad3, cp4, us5, G6, ad7, cp8, us9, G10, hs⟩ => pln (op_fieldA hs (some 0) rfl rfl rfl underlying24 rfl sizeOf22 (by decide) rfl fun ac hs => ⟨g11, ad3, cp4, us5, G6, ad7, cp8, us9, G10, hs⟩)
  ·exact fun L ac w ⟨g11, ad3, cp4, us5, G6, ad7, cp8, us9, G10, hs⟩ => pln (oldd hs 1 0 (.slice am ks.length cm) isAgg22 sizeOf22 rfl rfl rfl rfl rfl fun ac hs => ⟨g11, ad3, cp4, us5, G6, ad7, cp8, us9, G10, hs⟩)
  ·exact fun L ac w ⟨g11, ad3, cp4, us5, G6, ad7, cp8, us9, G10, hs⟩ => pln (op_callV (F := 10) (ρ := M1) hs (some 2) (some 4) (v := fun r => .slice r.a ks.length r.c) (E := fun r => [oW r.a ks.length r.c 34 r.vs, .bysO r.G r.vs ks]) (j := 2) rfl rfl rfl rfl (call10 _) (fun hs => cop_c am cm vs ks (ok.mono (by decide)) _ _ (hs.celT (k := 0) rfl) (hs.rowB (k := 1) (G := noX) (.inr rfl))) (fun _ => rfl) (fun _ => rfl) rfl rfl fun ⟨ad3, cp4, us5, G6⟩ ac w hs => ⟨g11, ad3, cp4, us5, G6, ad7, cp8, us9, G10, hs⟩)
  ·exact fun L ac w ⟨g11, ad3, cp4, us5, G6, ad7, cp8, us9, G10, hs⟩ => pln (op_fieldA hs (some 3) rfl rfl rfl underlying24 rfl sizeOf22 (by decide) rfl fun ac hs => ⟨g11, ad3, cp4, us5, G6, ad7, cp8, us9, G10, hs⟩)
  ·exact fun L ac w ⟨g11, ad3, cp4, us5, G6, ad7, cp8, us9, G10, hs⟩ => pln (oldd hs 4 0 (.slice aa js.length ca) isAgg22 sizeOf22 rfl rfl rfl rfl rfl fun ac hs => ⟨g11, ad3, cp4, us5, G6, ad7, cp8, us9, G10, hs⟩)
  ·exact fun L ac w ⟨g11, ad3, cp4, us5, G6, ad7, cp8, us9, G10, hs⟩ => pln (op_callV (F := 10) (ρ := M1) hs (some 5) (some 6) (v := fun r => .slice r.a js.length r.c) (E := fun r => [oW r.a js.length r.c 34 r.vs, .bysO r.G r.vs js]) (j := 2) rfl rfl rfl rfl (call10 _) (fun hs => cop_c aa ca us js (oj.mono (by decide)) _ _ (hs.celT (k := 2) rfl) (hs.rowB (k := 3) (G := noX) (.inr rfl))) (fun _ => rfl) (fun _ => rfl) rfl rfl fun ⟨ad7, cp8, us9, G10⟩ ac w hs => ⟨g11, ad3, cp4, us5, G6, ad7, cp8, us9, G10, hs⟩)
  ·exact fun L ac w ⟨g11, ad3, cp4, us5, G6, ad7, cp8, us9, G10, hs⟩ => pln (op_build hs (some 6) (qs := [(0, .slice ad3 ks.length cp4), (1, .slice ad7 js.length cp8)]) (v := .agg #[.slice ad3 ks.length cp4, .slice ad7 js.length cp8]) rfl rfl rfl rfl (fun _ => by kernel_rfl) rfl fun ac hs => ⟨g11, ad3, cp4, us5, G6, ad7, cp8, us9, G10, hs⟩)
  ·exact fun L ac w ⟨g11, ad3, cp4, us5, G6, ad7, cp8, us9, G10, hs⟩ => pln (op_alloc hs (some 7) (some 1) (cs := [.slice none 0 0, .slice none 0 0]) rfl rfl zeroValue24 (by kernel_rfl) rfl rfl fun g11 ac w hs => ⟨g11, ad3, cp4, us5, G6, ad7, cp8, us9, G10, hs⟩)
  ·exact fun L ac w ⟨g11, ad3, cp4, us5, G6, ad7, cp8, us9, G10, hs⟩ => pln (stoo hs 1 ([.slice ad3 ks.length cp4, .slice ad7 js.length cp8]) sizeOf24 rfl rfl rfl rfl rfl rfl rfl rfl rfl rfl fun w hs => ⟨g11, ad3, cp4, us5, G6, ad7, cp8, us9, G10, hs⟩)
 intro ac w ⟨g11, ad3, cp4, us5, G6, ad7, cp8, us9, G10, hs⟩
 try dsimp only [cond_true] at hs
 replace hs := hs.nf w0 Z noX [0, 3, 4, 15, 16, 17, 18, 19, 20, 21, 5] rfl rfl rfl rfl
 have hl12 := hs.ownLen 4 rfl
 replace hs := hs.freeze 4 rfl
 have hl13 := hs.ownLen 6 rfl
 replace hs := hs.freeze 6 rfl
 replace hs := hs.freezeB 5 rfl
 replace hs := hs.freezeB 7 rfl
 replace hs := hs.nf w0 Z noX [0, 3, 4, 15, 16, 17, 18, 19, 20, 21, 5] rfl rfl rfl rfl
 refine then_n (wp_seq (wp_region_lit (mvv hs rfl rfl rfl fun ac hs => ldd hs 1 (.agg #[.slice ad3 ks.length cp4, .slice ad7 js.length cp8]) isAgg24 sizeOf24 rfl rfl rfl rfl rfl fun ac hs => stp (op_callX (F := 11) (ρ := M2) hs none none [] [4, 5, 6, 7] (v := fun r => .tuple #[.agg #[.slice r.a kk.length r.c, .slice r.b jj.length r.d], ni64 ee]) (S1 := [(true, cL ad3 ks.length cp4 us5), (true, .bys us5 ks), (true, cL ad7 js.length cp8 us9), (true, .bys us9 js)]) (bs1 := []) (E := fun r => [(true, cL ad3 ks.length cp4 us5), (true, .bys us5 ks), (true, cL ad7 js.length cp8 us9), (true, .bys us9 js), (true, oW r.a kk.length r.c 34 r.vs), (true, oW r.b jj.length r.d 34 r.us), (true, .bysO r.G (r.vs ++ r.us ++ ([])) (kk ++ jj ++ ([])))]) (E1 := fun r => [(true, cL ad3 ks.length cp4 us5), (true, .bys us5 ks), (true, cL ad7 js.length cp8 us9), (true, .bys us9 js)]) (E2 := fun r => [oW r.a kk.length r.c 34 r.vs, oW r.b jj.length r.d 34 r.us, .bysO r.G (r.vs ++ r.us ++ ([])) (kk ++ jj ++ ([]))]) (bfA := fun r => []) (bf := fun r => []) (bf2 := fun r => []) rfl rfl rfl rfl rfl (call11 _) rfl rfl (by decide) (by decide) (fun Z X hm => do_c ad3 cp4 us5 ad7 cp8 us9 ks js op kk jj ee (ok.mono (by decide)) (oj.mono (by decide)) hdo _ _ _ hm) (fun _ => rfl) (fun _ => rfl) (fun _ => rfl) (fun _ => rfl) (fun _ => rfl) rfl fun ⟨ad17, cp18, vs19, ad20, cp21, us22, G23⟩ ac w hs => mvv hs rfl rfl rfl fun ac hs => stp (xtr hs none rfl rfl rfl rfl rfl fun ac hs => stp (xtr hs none rfl rfl rfl rfl rfl fun ac hs => stp (op_alloc hs none none (cs := [.slice none 0 0, .slice none 0 0]) rfl rfl zeroValue24 (by kernel_rfl) rfl rfl fun g24 ac w hs => stp (stoo hs 2 ([.slice ad17 kk.length cp18, .slice ad20 jj.length cp21]) sizeOf24 rfl rfl rfl rfl rfl rfl rfl rfl rfl rfl fun w hs => asg hs rfl rfl rfl fun ac hs => ?_))))))))
 refine wpList_nil (then_n (wp_seq ?_))
 replace hs := hs.nf w0 Z noX [0, 3, 4, 5, 6, 7] rfl rfl rfl rfl
 refine wp_region_lit (mvv hs rfl rfl rfl fun ac hs => ldd hs 0 (.agg #[.slice am ks.length cm, .slice aa js.length ca]) isAgg24 sizeOf24 rfl rfl rfl rfl rfl fun ac hs => ?_)
 replace hs := hs.nf w0 Z noX [0, 3, 4, 5, 6, 7, 29, 30] rfl rfl rfl rfl
 refine stp (op_callS (F := 12) (ρ := MR) hs none none (v := fun r => .tuple #[.agg #[.slice r.a kk.length r.c, .slice r.b jj.length r.d], ni64 ee]) (E := fun r => [cL r.a kk.length r.c r.vs, .bys r.vs kk, cL r.b jj.length r.d r.us, .bys r.us jj]) (j := 4) rfl rfl rfl rfl (call12 _) (fun hs => rdo_c am cm vs aa ca us ks js op kk jj ee (ok.mono (by decide)) (oj.mono (by decide)) ((do_ref _ _ _).trans hdo) _ _ (hs.all (k := 0) rfl rfl) (hs.all (k := 1) rfl rfl) (hs.all (k := 2) rfl rfl) (hs.all (k := 3) rfl rfl)) (fun _ => rfl) rfl rfl fun ⟨ad34, cp35, vs36, ad37, cp38, us39⟩ ac w hs => mvv hs rfl rfl rfl fun ac hs => stp (xtr hs none rfl rfl rfl rfl rfl fun ac hs => stp (xtr hs none rfl rfl rfl rfl rfl fun ac hs => stp (op_alloc hs none none (cs := [.slice none 0 0, .slice none 0 0]) rfl rfl zeroValue24 (by kernel_rfl) rfl rfl fun g40 ac w hs => stp (stoo hs 3 ([.slice ad34 kk.length cp35, .slice ad37 jj.length cp38]) sizeOf24 rfl rfl rfl rfl rfl rfl rfl rfl rfl rfl fun w hs => asg hs rfl rfl rfl fun ac hs => wpList_nil (then_n (wp_seq ?_)))))))
 replace hs := hs.nf w0 Z noX [3, 4, 5, 6, 7, 8, 9] rfl rfl rfl rfl
 refine wp_region_lit (ldd hs 2 (.agg #[.slice ad17 kk.length cp18, .slice ad20 jj.length cp21]) isAgg24 sizeOf24 rfl rfl rfl rfl rfl fun ac hs => ldd hs 3 (.agg #[.slice ad34 kk.length cp35, .slice ad37 jj.length cp38]) isAgg24 sizeOf24 rfl rfl rfl rfl rfl fun ac hs => stp (op_callV (F := 13) (ρ := Unit) hs none none (v := fun r => .bool true) (E := fun r => []) (j := 0) rfl rfl rfl rfl (call13 _) (fun hs => same2_c ad17 cp18 vs19 kk ad20 cp21 us22 jj ad34 cp35 vs36 kk ad37 cp38 us39 jj true (decide_eq_true ⟨rfl, rfl⟩) _ _ (hs.celT (k := 8) rfl) (hs.mainY 10 rfl (hs.ownLen 8 rfl)) (hs.celT (k := 9) rfl) (hs.altY 10 rfl (hs.ownLen 8 rfl) (hs.ownLen 9 rfl)) (hs.celT (k := 11) rfl) (hs.rowB (k := 12) (G := noX) (.inr rfl)) (hs.celT (k := 13) rfl) (hs.rowB (k := 14) (G := noX) (.inr rfl))) (fun _ => rfl) (fun _ => rfl) rfl rfl fun _ ac w hs => mvv hs rfl rfl rfl fun ac hs => lstep (wpO_in hs rfl rfl rfl (op_move hs none rfl rfl rfl rfl fun ac hs => lstep (wpO_in hs rfl rfl rfl (op_move hs none rfl rfl rfl rfl fun ac hs => lstep (wpO_in hs rfl rfl rfl (op_bin hs none (v := .bool true) rfl rfl rfl rfl (fun _ => rfl) (fun w => dT rfl (bin_eqlN (x := ee) (y := ee) w)) rfl fun ac hs => stp (op_pickT hs none rfl rfl rfl rfl rfl fun ac hs => asg hs rfl rfl rfl fun ac hs => ?_)))))))))
 refine wpList_nil (then_n (wp_seq ?_))
 replace hs := hs.nf w0 Z noX [3, 4, 5, 6, 10] rfl rfl rfl rfl
 refine wp_region_lit (stp (op_fieldA hs none rfl rfl rfl underlying24 rfl sizeOf22 (by decide) rfl fun ac hs => ldd hs 2 (.slice ad17 kk.length cp18) isAgg22 sizeOf22 rfl rfl rfl rfl rfl fun ac hs => ?_))
 have hl41 := hs.ownLen 8 rfl
 replace hs := hs.freeze 8 rfl
 replace hs := hs.toWrs 10 rfl
 replace hs := hs.nf w0 Z noX [3, 4, 5, 6, 10, 42, 43] rfl rfl rfl rfl
 refine stp (op_callX (F := 14) (ρ := Unit) hs none none [] [8, 10] (v := fun r => .tuple #[]) (S1 := [(true, cL ad17 kk.length cp18 vs19), (true, .wrs G23 (vs19 ++ us22 ++ ([])) ((kk ++ jj ++ ([])).map List.length))]) (bs1 := []) (E := fun r => [(true, cL ad17 kk.length cp18 vs19), (true, .wrs G23 (vs19 ++ us22 ++ ([])) ((kk ++ jj ++ ([])).map List.length))]) (E1 := fun r => [(true, cL ad17 kk.length cp18 vs19), (true, .wrs G23 (vs19 ++ us22 ++ ([])) ((kk ++ jj ++ ([])).map List.length))]) (E2 := fun r => []) (bfA := fun r => []) (bf := fun r => []) (bf2 := fun r => []) rfl rfl rfl rfl rfl (call14 _) rfl rfl (by decide) (by decide) (fun Z X hm => spoil_c ad17 kk.length cp18 vs19 G23 (vs19 ++ us22 ++ ([])) ((kk ++ jj ++ ([])).map List.length) (Nat.le_trans (show OkN 1000 kk from okk).1 (by decide)) hl41 (fun x hx => by simp [hx]) _ _ _ hm) (fun _ => rfl) (fun _ => rfl) (fun _ => rfl) (fun _ => rfl) (fun _ => rfl) rfl fun _ ac w hs => wpList_nil (then_n (wp_seq (wp_region_lit (stp (op_fieldA hs none rfl rfl rfl underlying24 rfl sizeOf22 (by decide) rfl fun ac hs => ldd hs 2 (.slice ad20 jj.length cp21) isAgg22 sizeOf22 rfl rfl rfl rfl rfl fun ac hs => ?_))))))
 have hl42 := hs.ownLen 9 rfl
 replace hs := hs.freeze 9 rfl
 replace hs := hs.nf w0 Z noX [3, 4, 5, 6, 10, 42, 43, 44, 45, 46] rfl rfl rfl rfl
 refine stp (op_callX (F := 14) (ρ := Unit) hs none none [] [9, 10] (v := fun r => .tuple #[]) (S1 := [(true, cL ad20 jj.length cp21 us22), (true, .wrs G23 (vs19 ++ us22 ++ ([])) ((kk ++ jj ++ ([])).map List.length))]) (bs1 := []) (E := fun r => [(true, cL ad20 jj.length cp21 us22), (true, .wrs G23 (vs19 ++ us22 ++ ([])) ((kk ++ jj ++ ([])).map List.length))]) (E1 := fun r => [(true, cL ad20 jj.length cp21 us22), (true, .wrs G23 (vs19 ++ us22 ++ ([])) ((kk ++ jj ++ ([])).map List.length))]) (E2 := fun r => []) (bfA := fun r => []) (bf := fun r => []) (bf2 := fun r => []) rfl rfl rfl rfl rfl (call14 _) rfl rfl (by decide) (by decide) (fun Z X hm => spoil_c ad20 jj.length cp21 us22 G23 (vs19 ++ us22 ++ ([])) ((kk ++ jj ++ ([])).map List.length) (Nat.le_trans (show OkN 1000 jj from ojj).1 (by decide)) hl42 (fun x hx => by simp [hx]) _ _ _ hm) (fun _ => rfl) (fun _ => rfl) (fun _ => rfl) (fun _ => rfl) (fun _ => rfl) rfl fun _ ac w hs => wpList_nil (then_n (wp_seq (wp_region_lit (stp (op_callV (F := 9) (ρ := Unit) hs none none (v := fun r => .bool true) (E := fun r => []) (j := 0) rfl rfl rfl rfl (call9 _) (fun hs => alive_c _ _) (fun _ => rfl) (fun _ => rfl) rfl rfl fun _ ac w hs => mvv hs rfl rfl rfl fun ac hs => lstep (wpO_in hs rfl rfl rfl (op_move hs none rfl rfl rfl rfl fun ac hs => stp (op_pickT hs none rfl rfl rfl rfl rfl fun ac hs => mvv hs rfl rfl rfl fun ac hs => lstep (wpO_in hs rfl rfl rfl (op_load hs none 1 (v := .agg #[.slice ad3 ks.length cp4, .slice ad7 js.length cp8]) rfl rfl rfl rfl isAgg24 sizeOf24 rfl rfl fun ac hs => lstep (wpO_in hs rfl rfl rfl (op_load hs none 0 (v := .agg #[.slice am ks.length cm, .slice aa js.length ca]) rfl rfl rfl rfl isAgg24 sizeOf24 rfl rfl fun ac hs => lstep (wpO_in hs rfl rfl rfl (op_callV (F := 13) (ρ := Unit) hs none none (v := fun r => .bool true) (E := fun r => []) (j := 0) rfl rfl rfl rfl (call13 _) (fun hs => same2_c ad3 cp4 us5 ks ad7 cp8 us9 js am cm vs ks aa ca us js true (decide_eq_true ⟨rfl, rfl⟩) _ _ (hs.celT (k := 4) rfl) (hs.rowB (k := 5) (G := noX) (.inr rfl)) (hs.celT (k := 6) rfl) (hs.rowB (k := 7) (G := noX) (.inr rfl)) (hs.celT (k := 0) rfl) (hs.rowB (k := 1) (G := noX) (.inr rfl)) (hs.celT (k := 2) rfl) (hs.rowB (k := 3) (G := noX) (.inr rfl))) (fun _ => rfl) (fun _ => rfl) rfl rfl fun _ ac w hs => ?_)))))))))))))))
 refine stp (op_pickT hs none rfl rfl rfl rfl rfl fun ac hs => asg hs rfl rfl rfl fun ac hs => wpList_nil (then_n (wp_ret ?_)))
 exact bodyPost_ret (res1 rfl (rv_t hs rfl)) hs.defers ⟨(), rfl, hs.bel rfl, okl0⟩
end Go.Proofs.Ytikkhkjndbicgaa

/- Arguments opened, and read again behind a call that writes nothing that was there: lemmas of whatever program. -/
namespace Go.Proofs.Ytikkhkjndbicgaa
open Go.ChangeShapes Go.WideShapes Go.ChangeAt Go.RowKit
section
variable {H : Type} {enc : TypeId × Value → H} {P : Program}
theorem trodAll_below (hl : laidOutB P = true) {W W' : World} (hb : Below W.heap.size W W') : ∀ (ts : List TypeId) (vs : List Value) (ds : List (DataW H)) (ps : List MemPlace),
    ts.all (fun t => P.readableRec t && decide (t < P.types.size)) = true → DataW.TrodAll enc P W 0 (fun _ => true) true ts vs ds ps → DataW.TrodAll enc P W' 0 (fun b => decide (b < W.heap.size)) true ts vs ds ps := by
  intro ts
  induction ts with
  | nil =>
    intro vs ds ps _ h
    obtain ⟨rfl, rfl, rfl⟩ := trodAll_nil h
    exact trodAll_mk0
  | cons t ts ih =>
    intro vs ds ps hts h
    obtain ⟨v, vs0, d, ds0, p, q, rfl, rfl, rfl, h0, r0⟩ := trodAll_cons h
    simp only [List.all_cons, Bool.and_eq_true, decide_eq_true_eq] at hts
    obtain ⟨⟨hr, ht⟩, hts⟩ := hts
    have lt0 : ∀ x ∈ p, x.block < W.heap.size := by obtain ⟨m, hm⟩ := h0; exact DataW.trod_lt m _ _ _ hm
    exact trodAll_cons_mk (Below.trod hl hr ht h0 hb lt0) (ih _ _ _ hts r0)
end
def RdN (w : World) (a : Option Addr) (l : List UInt8) : Prop :=
  l.length ≠ 0 → ∃ b off, a = some ⟨b, off, none⟩ ∧ ∀ k, k < l.length → w.cell? ⟨b, off + k, none⟩ = some (.int .u8 ((l.getD k 0).toNat : Int))
end Go.Proofs.Ytikkhkjndbicgaa

/- Arguments that are natural numbers of 32 bits, whole numbers of 64 bits. -/
namespace Go.Proofs.Ytikkhkjndbicgaa
open Go.ChangeShapes Go.WideShapes Go.ChangeAt Go.RowKit
theorem nat_u8 {a : Int} (w : (Lit.int .u8 a).wf = true) : ∃ n : Nat, a = (n : Int) ∧ n < 256 := by
  have c := bounds_u8 w
  obtain ⟨y, rfl⟩ := Int.eq_ofNat_of_zero_le c.1
  exact ⟨y, rfl, by omega⟩
end Go.Proofs.Ytikkhkjndbicgaa

/- Arguments that lie in memory, opened as entries: byte strings, rows. -/
namespace Go.Proofs.Ytikkhkjndbicgaa
open Go.ChangeShapes Go.WideShapes Go.ChangeAt Go.RowKit
section
variable {H : Type} {enc : TypeId × Value → H} {P : Program} {w : World} {base : Nat} {sp : Nat → Bool} {held : Bool}
theorem trod_bytes {t e : TypeId} {m : Nat} {cs : List Value} {x : DataW H × List MemPlace} (ht : P.underlying t = some (.slice e)) (he : P.underlying e = some (.int .u8)) (hc : P.cellsOf e = 1)
    (h : DataW.trod enc P w base sp held m t cs = some x) : ∃ a c l, cs = [.slice a l.length c] ∧ ByV w (fun _ => True) (.slice a l.length c) l := by
  rcases open_ints ht he hc h with ⟨rfl, _⟩ | ⟨x, len, c, zs, rfl, _, hl, hm, hz, _, hcell, hwz⟩
  · exact ⟨none, 0, [], rfl, celv_nil⟩
  · have hzl : len ≤ zs.length := by rw [hz]; split <;> omega
    have hlen : ((zs.take len).map fun z => UInt8.ofNat z.toNat).length = len := by simp; omega
    refine ⟨some x, c, (zs.take len).map fun z => UInt8.ofNat z.toNat, by rw [hlen], ⟨some x, c, by rw [hlen], by rw [hlen]; exact hl, hm, (fun h => by cases h), fun j u hu => ?_⟩⟩
    have hj : j < len := by
      have := (List.getElem?_eq_some_iff.1 hu).1
      rw [bcs_length, hlen] at this; exact this
    obtain ⟨b, off, rfl, hcc⟩ := ints_at hcell (by omega)
    refine ⟨b, off, rfl, trivial, ?_⟩
    have hjz : j < zs.length := by omega
    rw [hcc j hjz]
    have hb := bounds_u8 (hwz _ (List.getElem_mem hjz))
    rw [bcs_get (by rw [hlen]; exact hj)] at hu
    have e1 : ((byt ((zs.take len).map fun z => UInt8.ofNat z.toNat) j : Nat) : Int) = zs[j] := by
      unfold byt
      rw [List.getD_eq_getElem?_getD, List.getElem?_map, List.getElem?_take_of_lt hj, List.getElem?_eq_getElem hjz]
      simp
      omega
    rw [e1] at hu
    rw [← hu]
    simp [List.getD, hjz]
theorem choose_list {α : Type} (n : Nat) (R : Nat → α → Prop) (h : ∀ i, i < n → ∃ x, R i x) : ∃ l : List α, l.length = n ∧ ∀ i x, l[i]? = some x → R i x := by
  induction n with
  | zero => exact ⟨[], rfl, fun i x hx => by simp at hx⟩
  | succ n ih =>
    obtain ⟨l, hl, hr⟩ := ih fun i hi => h i (by omega)
    obtain ⟨x, hx⟩ := h n (by omega)
    refine ⟨l ++ [x], by simp [hl], fun i y hy => ?_⟩
    by_cases hi : i < n
    · rw [List.getElem?_append_left (by omega)] at hy; exact hr i y hy
    · have := (List.getElem?_eq_some_iff.1 hy).1
      simp at this
      obtain rfl : i = n := by omega
      rw [List.getElem?_append_right (by omega), hl] at hy
      simp at hy
      subst hy; exact hx
theorem cell_spot {a : Addr} {v : Value} (h : w.cell? a = some v) : ∃ b off, a = ⟨b, off, none⟩ := by
  obtain ⟨b, off, spot⟩ := a
  have hspot : spot = none := World.cell?_spot h
  subst hspot
  exact ⟨b, off, rfl⟩
theorem trod_row {t e : TypeId} {m z : Nat} {cs : List Value} {x : DataW H × List MemPlace} (ht : P.underlying t = some (.slice e)) (hz : P.cellsOf e = z)
    (h : DataW.trod enc P w base sp held m t cs = some x) : ∃ a len c, cs = [.slice a len c] ∧ len ≤ c ∧ c ≤ maxLen ∧ (a = none → c = 0) ∧
      ∀ i, i < len → ∃ ad n ys y, a = some ad ∧ ys.length = z ∧ (∀ j, j < z → w.cell? (ad.add (i * z + j)) = ys[j]?) ∧ DataW.trod enc P w base sp held n e ys = some y := by
  rcases DataW.trod_slice ht h with ⟨rfl, _⟩ | ⟨a, len, cap, elems, rest, n, _, rfl, _, hb, hl, hm, hlen, hel, _, _⟩
  · exact ⟨none, 0, 0, rfl, Nat.le_refl _, Nat.zero_le _, fun _ => rfl, fun i hi => absurd hi (by omega)⟩
  · refine ⟨some a, len, cap, rfl, hl, hm, (fun h => by cases h), fun i hi => ?_⟩
    have h1 := hel i hi
    rw [List.getElem?_eq_getElem (by omega), hz, Option.bind_eq_some_iff] at h1
    obtain ⟨ys, hys, hy⟩ := h1
    obtain ⟨_, h2, h3⟩ := World.cells?_some hys
    refine ⟨a, n, ys, _, rfl, h2, fun j hj => ?_, hy⟩
    rw [← h3 j hj, Addr.add_add]
end
end Go.Proofs.Ytikkhkjndbicgaa

/- Arguments that are stacks, opened. -/
namespace Go.Proofs.Ytikkhkjndbicgaa
open Go.ChangeShapes Go.WideShapes Go.ChangeAt Go.RowKit
section
variable {H : Type} {enc : TypeId × Value → H} {w : World} {base : Nat} {sp : Nat → Bool} {held : Bool}
theorem trod_bys {m : Nat} {cs : List Value} {x : DataW H × List MemPlace} (h : DataW.trod enc Try.prog w base sp held m 22 cs = some x) :
    ∃ (a : Option Addr) (c : Nat) (vs : List Value) (ks : List (List UInt8)), cs = [.slice a ks.length c] ∧ CelV w (fun _ => True) (.slice a ks.length c) ks.length vs ∧ BysV w (fun _ => True) vs ks := by
  obtain ⟨a, len, c, h1, hl, hm, hn, hr⟩ := trod_row (z := 1) Try.underlying22 (by kernel_rfl) h
  have hr2 : ∀ i, i < len → ∃ x : Value × List UInt8, ByV w (fun _ => True) x.1 x.2 ∧ ∃ ad, a = some ad ∧ w.cell? (ad.add i) = some x.1 := by
    intro i hi
    obtain ⟨ad, n, ys, y, ha, hy, hc, ht⟩ := hr i hi
    obtain ⟨b, cc, l, rfl, h3⟩ := trod_bytes Try.underlying34 Try.underlying5 (by kernel_rfl) ht
    have h4 := hc 0 (by omega)
    rw [Nat.mul_one, Nat.add_zero] at h4
    exact ⟨(.slice b l.length cc, l), h3, ad, ha, h4⟩
  obtain ⟨ts, hlen, hts⟩ := choose_list len _ hr2
  refine ⟨a, c, ts.map (·.1), ts.map (·.2), by simp [hlen, h1], ⟨a, c, rfl, by simpa [hlen] using hl, hm, hn, fun j u hu => ?_⟩, ⟨by simp, fun i v l hv hl2 => ?_⟩⟩
  · rw [List.getElem?_map, Option.map_eq_some_iff] at hu
    obtain ⟨x, hx, rfl⟩ := hu
    obtain ⟨_, ad, rfl, h2⟩ := hts j x hx
    have hlen0 : 0 < ts.length := by have := (List.getElem?_eq_some_iff.1 hx).1; omega
    obtain ⟨_, ad', e, h4⟩ := hts 0 _ (List.getElem?_eq_getElem hlen0)
    obtain rfl := Option.some.inj e
    have h5 : w.cell? ad = some ts[0].1 := by simpa [Addr.add] using h4
    obtain ⟨b, off, rfl⟩ := cell_spot h5
    rw [Addr.add_mid] at h2
    exact ⟨b, off, rfl, trivial, h2⟩
  · rw [List.getElem?_map, Option.map_eq_some_iff] at hv
    obtain ⟨x, hx, rfl⟩ := hv
    rw [List.getElem?_map, hx] at hl2
    obtain rfl : x.2 = l := by simpa using hl2
    exact (hts i x hx).1
theorem trod_stk {m : Nat} {cs : List Value} {x : DataW H × List MemPlace} (h : DataW.trod enc Try.prog w base sp held m 24 cs = some x) :
    ∃ (a : Option Addr) (c : Nat) (vs : List Value) (ks : List (List UInt8)) (b : Option Addr) (d : Nat) (us : List Value) (js : List (List UInt8)), cs = [.slice a ks.length c, .slice b js.length d] ∧ CelV w (fun _ => True) (.slice a ks.length c) ks.length vs ∧ BysV w (fun _ => True) vs ks ∧ CelV w (fun _ => True) (.slice b js.length d) js.length us ∧ BysV w (fun _ => True) us js := by
  cases m with
  | zero => simp [DataW.trod] at h
  | succ m =>
    rw [DataW.trod_step] at h
    unfold DataW.trodStep at h
    have c0 : Try.prog.cellsOf 24 = 2 := by kernel_rfl
    have c1 : Try.prog.cellsOf 22 = 1 := by kernel_rfl
    simp only [Try.underlying24, c0] at h
    split at h
    · rename_i hl
      simp only [Option.map_eq_some_iff, List.mapM_cons, List.mapM_nil, bind, Option.bind_eq_some_iff, pure, Option.some.injEq] at h
      obtain ⟨ys, ⟨y0, h0, ys1, ⟨y1, h1, _⟩, _⟩, _⟩ := h
      rw [c1] at h0 h1
      obtain ⟨a, c, vs, ks, hq, hv, hy⟩ := trod_bys h0
      obtain ⟨b, d, us, js, hr, hu, hx⟩ := trod_bys h1
      refine ⟨a, c, vs, ks, b, d, us, js, ?_, hv, hy, hu, hx⟩
      match cs, hl with
      | [u, v], _ =>
        simp at hq hr
        rw [hq, hr]
    · cases h
set_option maxRecDepth 100000 in
theorem open_stacks {v : Value} {d : DataW H} {ps : List MemPlace} (hval : Value.okWide Try.prog w .any 0 24 v) (hd : DataW.Trod enc Try.prog w base sp held 24 v d ps) :
    ∃ (a : Option Addr) (c : Nat) (vs : List Value) (b : Option Addr) (d : Nat) (us : List Value) (ks js : List (List UInt8)), v = .agg #[.slice a ks.length c, .slice b js.length d] ∧ CelV w (fun _ => True) (.slice a ks.length c) ks.length vs ∧ BysV w (fun _ => True) vs ks ∧ CelV w (fun _ => True) (.slice b js.length d) js.length us ∧ BysV w (fun _ => True) us js := by
  have hu : ∃ fs, Try.prog.underlying 24 = some (.struct fs) := ⟨_, Try.underlying24⟩
  obtain ⟨fs, hu⟩ := hu
  obtain ⟨xs, rfl, _⟩ := okWide_struct hu hval
  obtain ⟨fuel, hf⟩ := hd
  obtain ⟨a, c, vs, ks, b, d, us, js, h1, h2⟩ := trod_stk hf
  exact ⟨a, c, vs, b, d, us, ks, js, congrArg Value.agg (Array.toList_inj.1 h1), h2⟩
end
end Go.Proofs.Ytikkhkjndbicgaa
