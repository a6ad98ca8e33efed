/- Several texts in one, what this law needs of them: StkB. -/
import Derived.Test.YtikkhkjndbicgaaTD2

/- Stacks: things moved, joined, held against each other, hashed; numbers of them. -/
namespace Go.Proofs.Ytikkhkjndbicgaa
open Go.RowKit _root_.Go.Proofs.Try
set_option maxRecDepth 10000
set_option maxHeartbeats 1000000
theorem shuffle_c (gm : Nat) (am : Option Addr) (cm : Nat) (vs : List Value) (aa : Option Addr) (ca : Nat) (us : List Value) (G : Nat → Prop) (xs : List Value) (ts : BL) (ks js : BL) (er : Nat) (n : Nat) (ps : List Nat) (ap : Option Addr) (cp : Nat) (k1 : BL) (e1 : Nat) (ok : OkN 7000 ks) (hpl : ps.length ≤ 6) (hps : ∀ p ∈ ps, p < n) (hp : shufL n ps ks er = (k1, e1)) (w0 : World) (Z X : Nat → Prop) (hm : Mem ⟨w0, [], [(true, oW am ks.length cm 34 vs), (true, oW aa js.length ca 34 us), (true, .bysO G (vs ++ us ++ xs) (ks ++ js ++ ts)), (true, cL ap ps.length cp (intL ps))], Z, X⟩ [(true, gm, 61, [.slice am ks.length cm, .slice aa js.length ca, ni64 er])] w0) : Calls prog 44 #[ptA gm 0, ni64 n, .slice ap ps.length cp] w0 fun e w' => PostX w0 Z X (ρ := M1) (fun r => .tuple #[]) (fun r => [(true, gm, 61, [.slice r.a k1.length r.c, .slice aa js.length ca, ni64 e1])]) (fun r => [(true, oW r.a k1.length r.c 34 r.vs), (true, oW aa js.length ca 34 us), (true, .bysO r.G (r.vs ++ us ++ xs) (k1 ++ js ++ ts)), (true, cL ap ps.length cp (intL ps))]) e w' := by
 have hk8 : ks.length ≤ 7000 := ok.1
 refine enterX (n := 51) (args := [ptA gm 0, ni64 n, .slice ap ps.length cp]) func44 rfl rfl (Nat.le_of_ble_eq_true rfl) hm fun ac hs => ?_
 have hv := hs.ownLen 0 rfl
 have hu := hs.ownLen 1 rfl
 refine wp_seq (wp_seq (wp_region_lit (mvv hs rfl rfl rfl fun ac hs => mvv hs rfl rfl rfl fun ac hs => ?_)))
 obtain ⟨e1, he1⟩ := ex1 (needE ks.length n er)
 refine stp (op_callX (F := 48) (ρ := Unit) hs none none [0] [] (v := fun r => .bool (decide (e1 = 0))) (S1 := []) (bs1 := [(true, gm, 61, [.slice am ks.length cm, .slice aa js.length ca, ni64 er])]) (E := fun r => []) (E1 := fun r => []) (E2 := fun r => []) (bfA := fun r => [(true, gm, 61, [.slice am ks.length cm, .slice aa js.length ca, ni64 e1])]) (bf := fun r => [(true, gm, 61, [.slice am ks.length cm, .slice aa js.length ca, ni64 e1])]) (bf2 := fun r => []) rfl rfl rfl rfl rfl (call48 _) rfl rfl (by decide) (by decide) (fun Z X hm => needs_c gm am ks.length cm (.slice aa js.length ca) er n e1 (decide (e1 = 0)) he1 rfl _ _ _ hm) (fun _ => rfl) (fun _ => rfl) (fun _ => rfl) (fun _ => rfl) (fun _ => rfl) rfl fun _ ac w hs => stp (op_un hs none (v := .bool (!(decide (e1 = 0)))) rfl rfl rfl (fun _ => rfl) rfl fun ac hs => wpList_nil (then_n (wcs hs rfl ?_ ?_))))
 ·intro hc
  have ze1 : ¬ e1 = 0 := by simpa using hc
  refine wp_ret (then_r ?_)
  have HS := hs
  obtain ⟨rfl, rfl⟩ := Prod.mk.inj ((if_neg (by rw [he1]; exact ze1) : shufL n ps ks er = _).symm.trans hp)
  rw [← he1] at HS
  have hs := HS
  exact bodyPost_ret (res0 rfl) hs.defers ⟨⟨am, cm, vs, G⟩, rfl, ((hs.selS [0, 1, 2, 3] rfl (by decide)).selB [0] rfl (by decide)).mem⟩
 intro hc
 have ze1 : e1 = 0 := by simpa using hc
 have hnl := need_len (he1.trans ze1)
 have hl0 := hnl.1
 refine wp_skip (then_n (wp_seq (wp_region_lit (mvv hs rfl rfl rfl fun ac hs => stp (op_nilCheck hs none rfl rfl rfl rfl fun ac hs => stp (op_fieldA hs none rfl rfl rfl underlying61 rfl sizeOf22 (by decide) rfl fun ac hs => ldd hs 0 (.slice am ks.length cm) isAgg22 sizeOf22 rfl rfl rfl rfl rfl fun ac hs => stp (op_blt hs none (v := ni64 (ks.length)) rfl rfl rfl (blt_len underlying22) rfl fun ac hs => mvv hs rfl rfl rfl fun ac hs => bnn hs (ni64 (ks.length - n)) rfl rfl rfl rfl (bin_subN (by omega) (show ks.length - n < 9223372036854775808 by omega)) fun ac hs => asg hs rfl rfl rfl fun ac hs => wpList_nil (then_n (wp_seq ?_)))))))))
 replace hs := hs.nf w0 Z X [0, 2, 6] rfl rfl rfl rfl
 refine wp_region_lit (mvv hs rfl rfl rfl fun ac hs => stp (op_nilCheck hs none rfl rfl rfl rfl fun ac hs => stp (op_fieldA hs none rfl rfl rfl underlying61 rfl sizeOf22 (by decide) rfl fun ac hs => ldd hs 0 (.slice am ks.length cm) isAgg22 sizeOf22 rfl rfl rfl rfl rfl fun ac hs => mvv hs rfl rfl rfl fun ac hs => stp (op_sliceV hs none 0 (ks.length - n) ks.length (v' := .slice (vsa am cm 1 (ks.length - n)) (ks.length - (ks.length - n)) (cm - (ks.length - n))) rfl rfl rfl rfl (.inr ⟨_, _, rfl, rfl⟩) (.inl ⟨rfl, rfl⟩) underlying22 sizeOf34 (show ks.length - n ≤ ks.length by omega) (show ks.length ≤ ks.length by omega) vsl_lo rfl fun ac hs => stp (op_callV (F := 42) (ρ := M1) hs none none (v := fun r => .slice r.a ((ks.drop (ks.length - n)).length) r.c) (E := fun r => [oW r.a ((ks.drop (ks.length - n)).length) r.c 34 r.vs, .bysO r.G r.vs (ks.drop (ks.length - n))]) (j := 2) rfl rfl rfl rfl (call42 _) (fun hs => own_c (vsa am cm 1 (ks.length - n)) (ks.length - (ks.length - n)) (cm - (ks.length - n)) (vs.drop (ks.length - n)) (ks.drop (ks.length - n)) ((ok.mono (by decide)).drop (ks.length - n)) _ _ (hs.partO 0 (ks.length - n) rfl (show (ks.length - n) ≤ ks.length by omega)) (by simp) ((hs.mainY 2 rfl (hs.ownLen 0 rfl)).drop (ks.length - n))) (fun _ => rfl) (fun _ => rfl) rfl rfl fun ⟨ad2, cp3, us4, G5⟩ ac w hs => asg hs rfl rfl rfl fun ac hs => wpList_nil ?_)))))
 replace hs := hs.freeze 4 rfl
 replace hs := hs.freezeB 5 rfl
 obtain ⟨dk, hdk⟩ := ex1 (ks.drop (ks.length - n))
 have hdl : dk.length = n := by rw [← hdk, List.length_drop]; omega
 rw [show ks.drop (ks.length - n) = dk from hdk] at hs
 refine then_n (wp_seq ?_)
 replace hs := hs.nf w0 Z X [0, 2, 6, 7] rfl rfl rfl rfl
 refine wp_region_lit (mvv hs rfl rfl rfl fun ac hs => mvv hs rfl rfl rfl fun ac hs => stp (op_nilCheck hs none rfl rfl rfl rfl fun ac hs => stp (op_fieldA hs none rfl rfl rfl underlying61 rfl sizeOf22 (by decide) rfl fun ac hs => ldd hs 0 (.slice am ks.length cm) isAgg22 sizeOf22 rfl rfl rfl rfl rfl fun ac hs => mvv hs rfl rfl rfl fun ac hs => stp (op_sliceV hs none 0 0 (ks.length - n) (v' := .slice am (ks.length - n) cm) rfl rfl rfl rfl (.inl ⟨rfl, rfl⟩) (.inr ⟨_, _, rfl, rfl⟩) underlying22 sizeOf34 (show 0 ≤ ks.length - n by omega) (show ks.length - n ≤ ks.length by omega) vsl_hi rfl fun ac hs => stp (op_nilCheck hs none rfl rfl rfl rfl fun ac hs => stp (op_fieldA hs none rfl rfl rfl underlying61 rfl sizeOf22 (by decide) rfl fun ac hs => ?_))))))
 refine stp (stoo hs 0 ([.slice am (ks.length - n) cm]) sizeOf22 rfl rfl rfl rfl rfl rfl rfl rfl rfl rfl fun w hs => wpList_nil ?_)
 replace hs := hs.truncO 0 (ks.length - n) rfl (by omega) rfl
 replace hs := hs.cutB (j := ks.length - n) 2 hv hu rfl
 obtain ⟨k0, hk0, hl1⟩ : ∃ z, ks.take (ks.length - n) = z ∧ ks.length - n = z.length := ⟨_, rfl, by simp⟩
 rw [hk0] at hs
 rw [hl1] at hs
 have ok0 : OkN 7000 k0 := hk0 ▸ ok.take _
 refine then_n (wp_seq ?_)
 replace hs := hs.nf w0 Z X [0, 2, 7] rfl rfl rfl rfl
 refine wp_region_lit (mvv hs rfl rfl rfl fun ac hs => stp (op_blt hs none (v := ni64 (ps.length)) rfl rfl rfl (blt_len underlying78) rfl fun ac hs => mvv hs rfl rfl rfl fun ac hs => wpList_nil (then_n (wp_block ?_))))
 rw [show k0 = k0 ++ pickL dk (ps.take 0) from (List.append_nil _).symm] at hs
 refine wp_loop_m (fun μ ac w => ∃ (i : Nat) (a1 : Option Addr) (c1 : Nat) (v1 : List Value) (G1 : Nat → Prop), (ps.length - i) = μ ∧ (i ≤ ps.length) ∧ St 51 ⟨w0, [], [(true, oW a1 ((k0 ++ pickL dk (ps.take i)).length) c1 34 v1), (true, oW aa js.length ca 34 us), (true, .bysO G1 (v1 ++ us ++ xs) ((k0 ++ pickL dk (ps.take i)) ++ js ++ ts)), (true, cL ap ps.length cp (intL ps)), (true, cL ad2 dk.length cp3 us4), (true, .bys us4 dk)], Z, X⟩ [(0, true, ptA gm 0), (7, true, .slice ad2 dk.length cp3), (37, true, .slice ap ps.length cp), (38, true, ni64 (ps.length)), (39, true, ni64 i)] [(true, gm, 61, [.slice a1 ((k0 ++ pickL dk (ps.take i)).length) c1, .slice aa js.length ca, ni64 e1])] ac w) ?_ ?_
 ·exact ⟨_, 0, am, cm, (vs.take (k0 ++ pickL dk (ps.take 0)).length), G, rfl, (by omega), (hs.re (fs' := [(0, true, ptA gm 0), (7, true, .slice ad2 dk.length cp3), (37, true, .slice ap ps.length cp), (38, true, ni64 (ps.length)), (39, true, ni64 0)]) ⟨rfl, rfl, rfl, rfl, rfl, trivial⟩)⟩
 intro μ ac w ⟨i, a1, c1, v1, G1, hμ, hi, hs⟩
 have okn : OkN 8000 (k0 ++ pickL dk (ps.take i)) := by rw [← hk0, ← hdk]; exact pick_ok ok hpl
 refine wp_seq (wp_region_lit (bnn hs (.bool (decide (i < ps.length))) rfl rfl rfl rfl bin_lssN fun ac hs => wpList_nil (then_n (wp_seq (wcs hs rfl ?_ ?_)))))
 ·intro hc
  have hp6 := of_decide_eq_true hc
  have hlt := of_decide_eq_true hc
  obtain ⟨pi, hpi⟩ : ∃ z, ps[i]? = some z := ⟨_, List.getElem?_eq_getElem hlt⟩
  have hpn : pi < n := hps _ (List.mem_of_getElem? hpi)
  have hpd : pi < dk.length := by omega
  obtain ⟨yi, hyi⟩ : ∃ z, dk[pi]? = some z := ⟨_, List.getElem?_eq_getElem hpd⟩
  obtain ⟨al, cl, hvl⟩ := bysv_at (hs.all (k := 5) rfl rfl) hyi
  have lyi : yi.length ≤ 8000 := by have := (ok.drop (ks.length - n)).2 yi (by rw [hdk]; exact List.mem_of_getElem? hyi); omega
  replace hs := hs.pick none 5 rfl hvl hyi rfl
  refine wp_skip (then_n (wp_seq (wp_block (wp_seq (wp_region_lit (stp (op_idxC hs none 3 (j := i) rfl rfl rfl rfl rfl underlying78 sizeOf3 (show i < ps.length by omega) (off := i) (by omega) rfl fun ac hs => stp (op_loadC hs none 3 (u := ni64 pi) rfl rfl rfl rfl isAgg3 sizeOf3 (by decide) (intL_get hpi) rfl fun ac hs => asg hs rfl rfl rfl fun ac hs => wpList_nil (then_n (wp_region_lit (mvv hs rfl rfl rfl fun ac hs => mvv hs rfl rfl rfl fun ac hs => mvv hs rfl rfl rfl fun ac hs => stp (op_idxC hs none 4 (j := pi) rfl rfl rfl rfl rfl underlying22 sizeOf34 (show pi < dk.length by omega) (off := pi) (by omega) rfl fun ac hs => stp (op_loadC hs none 4 (u := .slice al yi.length cl) rfl rfl rfl rfl isAgg34 sizeOf34 (by decide) hvl rfl fun ac hs => ?_)))))))))))))
  refine stp (op_bsO hs none none (qs := [(0, .slice al yi.length cl)]) (cs := [.slice al yi.length cl]) rfl rfl rfl rfl underlying22 inf_slice_34 (by decide) (by decide) (fill_one _ _ rfl) rfl rfl rfl rfl fun ad8 ac w hs => ?_)
  replace hs := hs.freeze 7 rfl
  refine stp (op_callX (F := 38) (ρ := M1) hs none none [0] [0, 1, 2, 7, 6] (v := fun r => .tuple #[]) (S1 := [(true, oW a1 ((k0 ++ pickL dk (ps.take i)).length) c1 34 v1), (true, oW aa js.length ca 34 us), (true, .bysO G1 (v1 ++ us ++ xs) ((k0 ++ pickL dk (ps.take i)) ++ js ++ ts)), (true, cL ad8 1 1 ([.slice al yi.length cl])), (true, cL al yi.length cl (bcs yi))]) (bs1 := [(true, gm, 61, [.slice a1 ((k0 ++ pickL dk (ps.take i)).length) c1, .slice aa js.length ca, ni64 e1])]) (E := fun r => [(true, oW r.a (((k0 ++ pickL dk (ps.take i)) ++ [yi]).length) r.c 34 r.vs), (true, oW aa js.length ca 34 us), (true, .bysO r.G (r.vs ++ us ++ xs) (((k0 ++ pickL dk (ps.take i)) ++ [yi]) ++ js ++ ts)), (true, cL ad8 1 1 ([.slice al yi.length cl])), (true, cL al yi.length cl (bcs yi))]) (E1 := fun r => [(true, oW r.a (((k0 ++ pickL dk (ps.take i)) ++ [yi]).length) r.c 34 r.vs), (true, oW aa js.length ca 34 us), (true, .bysO r.G (r.vs ++ us ++ xs) (((k0 ++ pickL dk (ps.take i)) ++ [yi]) ++ js ++ ts)), (true, cL ad8 1 1 ([.slice al yi.length cl])), (true, cL al yi.length cl (bcs yi))]) (E2 := fun r => []) (bfA := fun r => [(true, gm, 61, [.slice r.a (((k0 ++ pickL dk (ps.take i)) ++ [yi]).length) r.c, .slice aa js.length ca, ni64 e1])]) (bf := fun r => [(true, gm, 61, [.slice r.a (((k0 ++ pickL dk (ps.take i)) ++ [yi]).length) r.c, .slice aa js.length ca, ni64 e1])]) (bf2 := fun r => []) rfl rfl rfl rfl rfl (call38 _) rfl rfl (by decide) (by decide) (fun Z X hm => pushC_c gm a1 c1 v1 aa ca us G1 xs ts (k0 ++ pickL dk (ps.take i)) js e1 ad8 1 al cl yi lyi okn yi.length rfl _ _ _ hm) (fun _ => rfl) (fun _ => rfl) (fun _ => rfl) (fun _ => rfl) (fun _ => rfl) rfl fun ⟨ad9, cp10, vs11, G12⟩ ac w hs => wpList_nil (blk_n (then_n ?_)))
  replace hs := hs.nf w0 Z X [0, 7, 37, 38, 39] rfl rfl rfl rfl
  refine wp_region_lit (bnn hs (ni64 (i + 1)) rfl rfl rfl rfl (bin_addN (y := 1) rfl (show i + 1 < 9223372036854775808 by omega)) fun ac hs => mvv hs rfl rfl rfl fun ac hs => wpList_nil (then_n ?_))
  rw [show (k0 ++ pickL dk (ps.take i)) ++ [yi] = k0 ++ pickL dk (ps.take (i + 1)) from pickL_snoc hpi hyi] at hs
  replace hs := hs.selS [0, 1, 2, 3, 4, 5] rfl (by decide)
  exact ⟨_, ⟨(i + 1), ad9, cp10, vs11, G12, rfl, (by omega), (hs.re (fs' := [(0, true, ptA gm 0), (7, true, .slice ad2 dk.length cp3), (37, true, .slice ap ps.length cp), (38, true, ni64 (ps.length)), (39, true, ni64 ((i + 1)))]) ⟨rfl, rfl, rfl, rfl, rfl, trivial⟩)⟩, (by omega)⟩
 intro hc
 have hp13 := of_decide_eq_false hc
 have hge := of_decide_eq_false hc
 refine wp_exit (then_e (then_e (blk_e ?_)))
 have HS := hs
 subst ze1
 obtain ⟨hk1, rfl⟩ := Prod.mk.inj ((if_pos he1 : shufL n ps ks er = _).symm.trans hp)
 rw [List.take_of_length_le (show ps.length ≤ i by omega)] at HS
 rw [hk0, hdk] at hk1
 replace hk1 : k0 ++ pickL dk ps = k1 := hk1
 subst hk1
 have hs := HS
 exact bodyPost_end (res0 rfl) hs.defers ⟨⟨a1, c1, v1, G1⟩, rfl, ((hs.selS [0, 1, 2, 3] rfl (by decide)).selB [0] rfl (by decide)).mem⟩
theorem back_c (gm : Nat) (am : Option Addr) (cm : Nat) (vs : List Value) (aa : Option Addr) (ca : Nat) (us : List Value) (G : Nat → Prop) (xs : List Value) (ts : BL) (ks js : BL) (er : Nat) (k1 j1 : BL) (e1 : Nat) (ok : OkN 3000 ks) (oj : OkN 3000 js) (hp : backL ks js er = (k1, j1, e1)) (w0 : World) (Z X : Nat → Prop) (hm : Mem ⟨w0, [], [(true, oW am ks.length cm 34 vs), (true, oW aa js.length ca 34 us), (true, .bysO G (vs ++ us ++ xs) (ks ++ js ++ ts))], Z, X⟩ [(true, gm, 61, [.slice am ks.length cm, .slice aa js.length ca, ni64 er])] w0) : Calls prog 43 #[ptA gm 0] w0 fun e w' => PostX w0 Z X (ρ := M2) (fun r => .tuple #[]) (fun r => [(true, gm, 61, [.slice r.a k1.length r.c, .slice r.b j1.length r.d, ni64 e1])]) (fun r => [(true, oW r.a k1.length r.c 34 r.vs), (true, oW r.b j1.length r.d 34 r.us), (true, .bysO r.G (r.vs ++ r.us ++ xs) (k1 ++ j1 ++ ts))]) e w' := by
 have hk8 : ks.length ≤ 3000 := ok.1
 have hj8 : js.length ≤ 3000 := oj.1
 refine enterX (n := 33) (args := [ptA gm 0]) func43 rfl rfl (Nat.le_of_ble_eq_true rfl) hm fun ac hs => ?_
 have hv := hs.ownLen 0 rfl
 have hu := hs.ownLen 1 rfl
 refine wp_seq (wp_region_lit (mvv hs rfl rfl rfl fun ac hs => stp (op_nilCheck hs none rfl rfl rfl rfl fun ac hs => stp (op_fieldA hs none rfl rfl rfl underlying61 rfl sizeOf22 (by decide) rfl fun ac hs => ldd hs 0 (.slice aa js.length ca) isAgg22 sizeOf22 rfl rfl rfl rfl rfl fun ac hs => stp (op_blt hs none (v := ni64 (js.length)) rfl rfl rfl (blt_len underlying22) rfl fun ac hs => asg hs rfl rfl rfl fun ac hs => wpList_nil (then_n (wp_seq (wp_seq ?_))))))))
 replace hs := hs.nf w0 Z X [0, 2] rfl rfl rfl rfl
 refine wp_region_lit (mvv hs rfl rfl rfl fun ac hs => bnn hs (.bool (decide (js.length = 0))) rfl rfl rfl rfl (bin_eqlN (y := 0)) fun ac hs => wpList_nil (then_n (wcs hs rfl ?_ ?_)))
 ·intro hc
  have hp1 := of_decide_eq_true hc
  refine wp_seq (wp_region_lit (mvv hs rfl rfl rfl fun ac hs => ?_))
  obtain ⟨e2, he2⟩ := ex1 (failE er 12)
  refine stp (op_callX (F := 65) (ρ := Unit) hs none none [0] [] (v := fun r => .tuple #[]) (S1 := []) (bs1 := [(true, gm, 61, [.slice am ks.length cm, .slice aa js.length ca, ni64 er])]) (E := fun r => []) (E1 := fun r => []) (E2 := fun r => []) (bfA := fun r => [(true, gm, 61, [.slice am ks.length cm, .slice aa js.length ca, ni64 e2])]) (bf := fun r => [(true, gm, 61, [.slice am ks.length cm, .slice aa js.length ca, ni64 e2])]) (bf2 := fun r => []) rfl rfl rfl rfl rfl (call65 _) rfl rfl (by decide) (by decide) (fun Z X hm => fail_c gm (.slice am ks.length cm) (.slice aa js.length ca) er 12 e2 he2 _ _ _ hm) (fun _ => rfl) (fun _ => rfl) (fun _ => rfl) (fun _ => rfl) (fun _ => rfl) rfl fun _ ac w hs => wpList_nil (then_n (wp_ret (then_r ?_))))
  have HS := hs
  obtain ⟨rfl, rfl, rfl⟩ := inj3 ((if_pos hp1 : backL ks js er = _).symm.trans hp)
  rw [← he2] at HS
  have hs := HS
  exact bodyPost_ret (res0 rfl) hs.defers ⟨⟨am, cm, vs, aa, ca, us, G⟩, rfl, ((hs.selS [0, 1, 2] rfl (by decide)).selB [0] rfl (by decide)).mem⟩
 intro hc
 have hp3 := of_decide_eq_false hc
 have hj0 : ¬ js.length = 0 := of_decide_eq_false hc
 obtain ⟨yj, hyj⟩ : ∃ z, js[js.length - 1]? = some z := ⟨_, List.getElem?_eq_getElem (by omega)⟩
 obtain ⟨al, cl, kyj⟩ := hs.poolAtA 2 rfl hv hu hyj
 have mj := zip_get kyj hyj
 have lyj : yj.length ≤ 8000 := Nat.le_trans (oj.2 _ (List.mem_of_getElem? hyj)) (by decide)
 have hlj : lastB js = yj := getD_of hyj
 refine wp_skip (then_n (wp_seq (wp_region_lit (mvv hs rfl rfl rfl fun ac hs => mvv hs rfl rfl rfl fun ac hs => stp (op_nilCheck hs none rfl rfl rfl rfl fun ac hs => stp (op_fieldA hs none rfl rfl rfl underlying61 rfl sizeOf22 (by decide) rfl fun ac hs => ldd hs 0 (.slice aa js.length ca) isAgg22 sizeOf22 rfl rfl rfl rfl rfl fun ac hs => mvv hs rfl rfl rfl fun ac hs => bnn hs (ni64 (js.length - 1)) rfl rfl rfl rfl (bin_subN (y := 1) (by omega) (show js.length - 1 < 9223372036854775808 by omega)) fun ac hs => stp (op_idxC hs none 1 (j := js.length - 1) rfl rfl rfl rfl rfl underlying22 sizeOf34 (show js.length - 1 < js.length by omega) (off := js.length - 1) (by omega) rfl fun ac hs => stp (op_loadC hs none 1 (u := .slice al yj.length cl) rfl rfl rfl rfl isAgg34 sizeOf34 (by decide) kyj rfl fun ac hs => ?_))))))))
 refine stp (op_bsO hs none none (qs := [(0, .slice al yj.length cl)]) (cs := [.slice al yj.length cl]) rfl rfl rfl rfl underlying22 inf_slice_34 (by decide) (by decide) (fill_one _ _ rfl) rfl rfl rfl rfl fun ad5 ac w hs => ?_)
 replace hs := hs.freeze 3 rfl
 refine stp (op_callX (F := 38) (ρ := M1) hs none none [0] [0, 1, 2, 3] (v := fun r => .tuple #[]) (S1 := [(true, oW am ks.length cm 34 vs), (true, oW aa js.length ca 34 us), (true, .bysO G (vs ++ us ++ xs) (ks ++ js ++ ts)), (true, cL ad5 1 1 ([.slice al yj.length cl]))]) (bs1 := [(true, gm, 61, [.slice am ks.length cm, .slice aa js.length ca, ni64 er])]) (E := fun r => [(true, oW r.a ((ks ++ [yj]).length) r.c 34 r.vs), (true, oW aa js.length ca 34 us), (true, .bysO r.G (r.vs ++ us ++ xs) ((ks ++ [yj]) ++ js ++ ts)), (true, cL ad5 1 1 ([.slice al yj.length cl]))]) (E1 := fun r => [(true, oW r.a ((ks ++ [yj]).length) r.c 34 r.vs), (true, oW aa js.length ca 34 us), (true, .bysO r.G (r.vs ++ us ++ xs) ((ks ++ [yj]) ++ js ++ ts)), (true, cL ad5 1 1 ([.slice al yj.length cl]))]) (E2 := fun r => []) (bfA := fun r => [(true, gm, 61, [.slice r.a ((ks ++ [yj]).length) r.c, .slice aa js.length ca, ni64 er])]) (bf := fun r => [(true, gm, 61, [.slice r.a ((ks ++ [yj]).length) r.c, .slice aa js.length ca, ni64 er])]) (bf2 := fun r => []) rfl rfl rfl rfl rfl (call38 _) rfl rfl (by decide) (by decide) (fun Z X hm => pushP_c gm am cm vs aa ca us G xs ts ks js er ad5 1 al cl yj lyj (ok.mono (by decide)) (mem_alt (hs.ownLen 0 rfl) (hs.ownLen 1 rfl) mj) _ _ _ hm) (fun _ => rfl) (fun _ => rfl) (fun _ => rfl) (fun _ => rfl) (fun _ => rfl) rfl fun ⟨ad6, cp7, vs8, G9⟩ ac w hs => wpList_nil (then_n ?_))
 replace hs := hs.nf w0 Z X [0, 2] rfl rfl rfl rfl
 refine wp_region_lit (mvv hs rfl rfl rfl fun ac hs => mvv hs rfl rfl rfl fun ac hs => stp (op_nilCheck hs none rfl rfl rfl rfl fun ac hs => stp (op_fieldA hs none rfl rfl rfl underlying61 rfl sizeOf22 (by decide) rfl fun ac hs => ldd hs 0 (.slice aa js.length ca) isAgg22 sizeOf22 rfl rfl rfl rfl rfl fun ac hs => mvv hs rfl rfl rfl fun ac hs => bnn hs (ni64 (js.length - 1)) rfl rfl rfl rfl (bin_subN (y := 1) (by omega) (show js.length - 1 < 9223372036854775808 by omega)) fun ac hs => stp (op_sliceV hs none 1 0 (js.length - 1) (v' := .slice aa (js.length - 1) ca) rfl rfl rfl rfl (.inl ⟨rfl, rfl⟩) (.inr ⟨_, _, rfl, rfl⟩) underlying22 sizeOf34 (show 0 ≤ js.length - 1 by omega) (show js.length - 1 ≤ js.length by omega) vsl_hi rfl fun ac hs => stp (op_nilCheck hs none rfl rfl rfl rfl fun ac hs => ?_)))))
 refine stp (op_fieldA hs none rfl rfl rfl underlying61 rfl sizeOf22 (by decide) rfl fun ac hs => stp (stoo hs 0 ([.slice aa (js.length - 1) ca]) sizeOf22 rfl rfl rfl rfl rfl rfl rfl rfl rfl rfl fun w hs => wpList_nil ?_))
 obtain ⟨hk1, hj1, rfl⟩ := inj3 ((if_neg hj0 : backL ks js er = _).symm.trans hp)
 rw [hlj] at hk1
 replace hs := hs.truncO 1 (js.length - 1) rfl (by omega) rfl
 have hv2 := hs.ownLen 0 rfl
 replace hs := hs.cutA (j := js.length - 1) 2 hv2 hu rfl
 have hl1 : js.length - 1 = j1.length := by rw [← hj1]; simp
 rw [hj1] at hs
 rw [hl1] at hs
 subst hk1
 exact bodyPost_end (res0 rfl) hs.defers ⟨⟨ad6, cp7, vs8, aa, ca, us.take j1.length, G9⟩, rfl, ((hs.selS [0, 1, 2] rfl (by decide)).selB [0] rfl (by decide)).mem⟩
theorem deepF_c (gm : Nat) (am : Option Addr) (cm : Nat) (vs : List Value) (aa : Option Addr) (ca : Nat) (us : List Value) (G : Nat → Prop) (xs : List Value) (ts : BL) (ks js : BL) (er : Nat) (k1 : BL) (e1 : Nat) (ok : OkN 3000 ks) (hp : deepL false ks er = (k1, e1)) (w0 : World) (Z X : Nat → Prop) (hm : Mem ⟨w0, [], [(true, oW am ks.length cm 34 vs), (true, oW aa js.length ca 34 us), (true, .bysO G (vs ++ us ++ xs) (ks ++ js ++ ts))], Z, X⟩ [(true, gm, 61, [.slice am ks.length cm, .slice aa js.length ca, ni64 er])] w0) : Calls prog 45 #[ptA gm 0, .bool false] w0 fun e w' => PostX w0 Z X (ρ := M1) (fun r => .tuple #[]) (fun r => [(true, gm, 61, [.slice r.a k1.length r.c, .slice aa js.length ca, ni64 e1])]) (fun r => [(true, oW r.a k1.length r.c 34 r.vs), (true, oW aa js.length ca 34 us), (true, .bysO r.G (r.vs ++ us ++ xs) (k1 ++ js ++ ts))]) e w' := by
 have hk8 : ks.length ≤ 3000 := ok.1
 refine enterX (n := 66) (args := [ptA gm 0, .bool false]) func45 rfl rfl (Nat.le_of_ble_eq_true rfl) hm fun ac hs => ?_
 have hv := hs.ownLen 0 rfl
 have hu := hs.ownLen 1 rfl
 refine wp_seq (wp_region_lit (mvv hs rfl rfl rfl fun ac hs => mvv hs rfl rfl rfl fun ac hs => ?_))
 obtain ⟨p1, ks2, e3, hks2⟩ := ex3 (popL ks er)
 obtain ⟨oks2, lp1⟩ := pop_ok ok hks2
 replace lp1 : p1.length ≤ 8000 := Nat.le_trans lp1 (by decide)
 refine stp (op_callX (F := 39) (ρ := M1x) hs none none [0] [0, 1, 2] (v := fun r => .slice r.x p1.length r.y) (S1 := [(true, oW am ks.length cm 34 vs), (true, oW aa js.length ca 34 us), (true, .bysO G (vs ++ us ++ xs) (ks ++ js ++ ts))]) (bs1 := [(true, gm, 61, [.slice am ks.length cm, .slice aa js.length ca, ni64 er])]) (E := fun r => [(true, oW r.a ks2.length r.c 34 r.vs), (true, oW aa js.length ca 34 us), (true, .bysO G (r.vs ++ us ++ (xs ++ [.slice r.x p1.length r.y])) (ks2 ++ js ++ (ts ++ [p1])))]) (E1 := fun r => [(true, oW r.a ks2.length r.c 34 r.vs), (true, oW aa js.length ca 34 us), (true, .bysO G (r.vs ++ us ++ (xs ++ [.slice r.x p1.length r.y])) (ks2 ++ js ++ (ts ++ [p1])))]) (E2 := fun r => []) (bfA := fun r => [(true, gm, 61, [.slice r.a ks2.length r.c, .slice aa js.length ca, ni64 e3])]) (bf := fun r => [(true, gm, 61, [.slice r.a ks2.length r.c, .slice aa js.length ca, ni64 e3])]) (bf2 := fun r => []) rfl rfl rfl rfl rfl (call39 _) rfl rfl (by decide) (by decide) (fun Z X hm => pop_c gm am cm vs aa ca us G xs ts ks js er p1 ks2 e3 (ok.mono (by decide)) hks2 _ _ _ hm) (fun _ => rfl) (fun _ => rfl) (fun _ => rfl) (fun _ => rfl) (fun _ => rfl) rfl fun ⟨ad4, cp5, vs6, ad7, cp8⟩ ac w hs => ?_)
 obtain ⟨z9, e10, hz9⟩ := ex2 (readL p1 4 e3)
 have xz9 := (mem_last3 (hs.bLen 2 rfl))
 refine stp (op_callX (F := 40) (ρ := Unit) hs none none [0] [2] (v := fun r => .int .i64 z9) (S1 := [(true, .bysO G (vs6 ++ us ++ (xs ++ [.slice ad7 p1.length cp8])) (ks2 ++ js ++ (ts ++ [p1])))]) (bs1 := [(true, gm, 61, [.slice ad4 ks2.length cp5, .slice aa js.length ca, ni64 e3])]) (E := fun r => [(true, .bysO G (vs6 ++ us ++ (xs ++ [.slice ad7 p1.length cp8])) (ks2 ++ js ++ (ts ++ [p1])))]) (E1 := fun r => [(true, .bysO G (vs6 ++ us ++ (xs ++ [.slice ad7 p1.length cp8])) (ks2 ++ js ++ (ts ++ [p1])))]) (E2 := fun r => []) (bfA := fun r => [(true, gm, 61, [.slice ad4 ks2.length cp5, .slice aa js.length ca, ni64 e10])]) (bf := fun r => [(true, gm, 61, [.slice ad4 ks2.length cp5, .slice aa js.length ca, ni64 e10])]) (bf2 := fun r => []) rfl rfl rfl rfl rfl (call40 _) rfl rfl (by decide) (by decide) (fun Z X hm => read_c gm (.slice ad4 ks2.length cp5) (.slice aa js.length ca) G _ _ ad7 cp8 p1 4 e3 z9 e10 lp1 xz9 hz9 _ _ _ hm) (fun _ => rfl) (fun _ => rfl) (fun _ => rfl) (fun _ => rfl) (fun _ => rfl) rfl fun _ ac w hs => asg hs rfl rfl rfl fun ac hs => wpList_nil (then_n (wp_seq (wp_seq (wp_region_lit (mvv hs rfl rfl rfl fun ac hs => stp (op_nilCheck hs none rfl rfl rfl rfl fun ac hs => stp (op_fieldA hs none rfl rfl rfl underlying61 rfl sizeOf28 (by decide) rfl fun ac hs => ldd hs 0 (ni64 e10) isAgg28 sizeOf28 rfl rfl rfl rfl rfl fun ac hs => bnn hs (.bool (decide (e10 ≠ 0))) rfl rfl rfl rfl (bin_neqN (y := 0)) fun ac hs => wpList_nil (then_n (wcs hs rfl ?_ ?_))))))))))
 ·intro hc
  have hp11 := of_decide_eq_true hc
  refine wp_ret (then_r ?_)
  have HS := hs
  have ez : ¬ e10 = 0 := hp11
  obtain ⟨rfl, rfl⟩ := Prod.mk.inj ((deep_no hks2 hz9 ez).symm.trans hp)
  have hs := HS
  replace hs := hs.dropB (zs := [.slice ad7 p1.length cp8]) (rs := [p1]) 2 (hs.xsLen 2 rfl (hs.ownLen 0 rfl) (hs.ownLen 1 rfl)) rfl (hs.ownLen 0 rfl) (hs.ownLen 1 rfl)
  exact bodyPost_ret (res0 rfl) hs.defers ⟨⟨ad4, cp5, vs6, G⟩, rfl, ((hs.selS [0, 1, 2] rfl (by decide)).selB [0] rfl (by decide)).mem⟩
 intro hc
 have hp12 := of_decide_eq_false hc
 refine wp_skip (then_n (wp_seq (wp_seq ?_)))
 by_cases hq13 : z9 < 0
 ·replace hs := hs.nf w0 Z X [0, 1, 4] rfl rfl rfl rfl
  refine wp_region_lit (mvv hs rfl rfl rfl fun ac hs => bnn hs (.bool true) rfl rfl rfl rfl (fun w => dT hq13 (bin_lssI (y := 0) w)) fun ac hs => mvv hs rfl rfl rfl fun ac hs => lstep (wpO_out hs none rfl rfl (.inl rfl) rfl rfl fun ac hs => lstep (wpO_out hs none rfl rfl (.inl rfl) rfl rfl fun ac hs => lstep (wpO_out hs none rfl rfl (.inl rfl) rfl rfl fun ac hs => lstep (wpO_out hs none rfl rfl (.inl rfl) rfl rfl fun ac hs => lstep (wpO_out hs none rfl rfl (.inl rfl) rfl rfl fun ac hs => lstep (wpO_out hs none rfl rfl (.inl rfl) rfl rfl fun ac hs => ?_)))))))
  refine lstep (wpO_out hs none rfl rfl (.inl rfl) rfl rfl fun ac hs => stp (op_pickT hs none rfl rfl rfl rfl rfl fun ac hs => wpList_nil (then_n (wp_cond_true (hs.ev rfl) (wp_seq (wp_region_lit (mvv hs rfl rfl rfl fun ac hs => ?_)))))))
  obtain ⟨e14, he14⟩ := ex1 (failE e10 12)
  refine stp (op_callX (F := 65) (ρ := Unit) hs none none [0] [] (v := fun r => .tuple #[]) (S1 := []) (bs1 := [(true, gm, 61, [.slice ad4 ks2.length cp5, .slice aa js.length ca, ni64 e10])]) (E := fun r => []) (E1 := fun r => []) (E2 := fun r => []) (bfA := fun r => [(true, gm, 61, [.slice ad4 ks2.length cp5, .slice aa js.length ca, ni64 e14])]) (bf := fun r => [(true, gm, 61, [.slice ad4 ks2.length cp5, .slice aa js.length ca, ni64 e14])]) (bf2 := fun r => []) rfl rfl rfl rfl rfl (call65 _) rfl rfl (by decide) (by decide) (fun Z X hm => fail_c gm (.slice ad4 ks2.length cp5) (.slice aa js.length ca) e10 12 e14 he14 _ _ _ hm) (fun _ => rfl) (fun _ => rfl) (fun _ => rfl) (fun _ => rfl) (fun _ => rfl) rfl fun _ ac w hs => wpList_nil (then_n (wp_ret (then_r ?_))))
  have HS := hs
  have ez : e10 = 0 := Classical.not_not.1 hp12
  subst ez
  obtain ⟨rfl, rfl⟩ := Prod.mk.inj ((deep_far (r := false) hks2 hz9 (.inl hq13)).symm.trans hp)
  obtain rfl : 12 = e14 := he14
  have hs := HS
  replace hs := hs.dropB (zs := [.slice ad7 p1.length cp8]) (rs := [p1]) 2 (hs.xsLen 2 rfl (hs.ownLen 0 rfl) (hs.ownLen 1 rfl)) rfl (hs.ownLen 0 rfl) (hs.ownLen 1 rfl)
  exact bodyPost_ret (res0 rfl) hs.defers ⟨⟨ad4, cp5, vs6, G⟩, rfl, ((hs.selS [0, 1, 2] rfl (by decide)).selB [0] rfl (by decide)).mem⟩
 replace hs := hs.nf w0 Z X [0, 1, 4] rfl rfl rfl rfl
 refine wp_region_lit (mvv hs rfl rfl rfl fun ac hs => bnn hs (.bool false) rfl rfl rfl rfl (fun w => dF hq13 (bin_lssI (y := 0) w)) fun ac hs => mvv hs rfl rfl rfl fun ac hs => lstep (wpO_in hs rfl rfl rfl (op_move hs none rfl rfl rfl rfl fun ac hs => lstep (wpO_in hs rfl rfl rfl (op_move hs none rfl rfl rfl rfl fun ac hs => lstep (wpO_in hs rfl rfl rfl (op_nilCheck hs none rfl rfl rfl rfl fun ac hs => lstep (wpO_in hs rfl rfl rfl (op_fieldA hs none rfl rfl rfl underlying61 rfl sizeOf22 (by decide) rfl fun ac hs => lstep (wpO_in hs rfl rfl rfl (op_load hs none 0 (v := .slice ad4 ks2.length cp5) rfl rfl rfl rfl isAgg22 sizeOf22 rfl rfl fun ac hs => lstep (wpO_in hs rfl rfl rfl (op_blt hs none (v := ni64 (ks2.length)) rfl rfl rfl (blt_len underlying22) rfl fun ac hs => ?_)))))))))))))
 refine lstep (wpO_in hs rfl rfl rfl (op_bin hs none (v := .bool (decide (((ks2.length : Nat) : Int) ≤ z9))) rfl rfl rfl rfl (fun _ => rfl) (bin_geqI (x := z9) (y := ((ks2.length : Nat) : Int))) rfl fun ac hs => stp (op_pickF hs none rfl rfl rfl rfl rfl fun ac hs => wpList_nil (then_n (wcs hs rfl ?_ ?_)))))
 ·intro hc
  have hp15 := of_decide_eq_true hc
  refine wp_seq ?_
  replace hs := hs.nf w0 Z X [0, 1, 4] rfl rfl rfl rfl
  refine wp_region_lit (mvv hs rfl rfl rfl fun ac hs => ?_)
  obtain ⟨e16, he16⟩ := ex1 (failE e10 12)
  refine stp (op_callX (F := 65) (ρ := Unit) hs none none [0] [] (v := fun r => .tuple #[]) (S1 := []) (bs1 := [(true, gm, 61, [.slice ad4 ks2.length cp5, .slice aa js.length ca, ni64 e10])]) (E := fun r => []) (E1 := fun r => []) (E2 := fun r => []) (bfA := fun r => [(true, gm, 61, [.slice ad4 ks2.length cp5, .slice aa js.length ca, ni64 e16])]) (bf := fun r => [(true, gm, 61, [.slice ad4 ks2.length cp5, .slice aa js.length ca, ni64 e16])]) (bf2 := fun r => []) rfl rfl rfl rfl rfl (call65 _) rfl rfl (by decide) (by decide) (fun Z X hm => fail_c gm (.slice ad4 ks2.length cp5) (.slice aa js.length ca) e10 12 e16 he16 _ _ _ hm) (fun _ => rfl) (fun _ => rfl) (fun _ => rfl) (fun _ => rfl) (fun _ => rfl) rfl fun _ ac w hs => wpList_nil (then_n (wp_ret (then_r ?_))))
  have HS := hs
  have ez : e10 = 0 := Classical.not_not.1 hp12
  subst ez
  obtain ⟨rfl, rfl⟩ := Prod.mk.inj ((deep_far (r := false) hks2 hz9 (.inr hp15)).symm.trans hp)
  obtain rfl : 12 = e16 := he16
  have hs := HS
  replace hs := hs.dropB (zs := [.slice ad7 p1.length cp8]) (rs := [p1]) 2 (hs.xsLen 2 rfl (hs.ownLen 0 rfl) (hs.ownLen 1 rfl)) rfl (hs.ownLen 0 rfl) (hs.ownLen 1 rfl)
  exact bodyPost_ret (res0 rfl) hs.defers ⟨⟨ad4, cp5, vs6, G⟩, rfl, ((hs.selS [0, 1, 2] rfl (by decide)).selB [0] rfl (by decide)).mem⟩
 intro hc
 have hp17 := of_decide_eq_false hc
 have hge : ¬ ((ks2.length : Nat) : Int) ≤ z9 := of_decide_eq_false hc
 obtain ⟨d, hd⟩ : ∃ d : Nat, z9 = (d : Int) := ⟨z9.toNat, by omega⟩
 rw [hd] at hs
 have hdk : d < ks2.length := by omega
 have hk9 : ks2.length ≤ 3000 := oks2.1
 obtain ⟨yd, hyd⟩ : ∃ z, ks2[ks2.length - 1 - d]? = some z := ⟨_, List.getElem?_eq_getElem (by omega)⟩
 obtain ⟨ad0, cp0, kyd⟩ := hs.poolAt 2 rfl (hs.ownLen 0 rfl) hyd
 have md := zip_get kyd hyd
 have lyd : yd.length ≤ 8000 := Nat.le_trans (oks2.2 _ (List.mem_of_getElem? hyd)) (by decide)
 have ddy : ks2.getD (ks2.length - 1 - d) [] = yd := getD_of hyd
 refine wp_skip (then_n (wp_seq ?_))
 replace hs := hs.nf w0 Z X [0, 1, 4] rfl rfl rfl rfl
 refine wp_region_lit (mvv hs rfl rfl rfl fun ac hs => stp (op_nilCheck hs none rfl rfl rfl rfl fun ac hs => stp (op_fieldA hs none rfl rfl rfl underlying61 rfl sizeOf22 (by decide) rfl fun ac hs => ldd hs 0 (.slice ad4 ks2.length cp5) isAgg22 sizeOf22 rfl rfl rfl rfl rfl fun ac hs => stp (op_blt hs none (v := ni64 (ks2.length)) rfl rfl rfl (blt_len underlying22) rfl fun ac hs => bnn hs (ni64 (ks2.length - 1)) rfl rfl rfl rfl (bin_subN (y := 1) (by omega) (show ks2.length - 1 < 9223372036854775808 by omega)) fun ac hs => mvv hs rfl rfl rfl fun ac hs => bnn hs (ni64 (ks2.length - 1 - d)) rfl rfl rfl rfl (bin_subN (by omega) (show ks2.length - 1 - d < 9223372036854775808 by omega)) fun ac hs => asg hs rfl rfl rfl fun ac hs => ?_))))
 refine wpList_nil (then_n (wp_seq ?_))
 replace hs := hs.nf w0 Z X [0, 1, 5] rfl rfl rfl rfl
 refine wp_region_lit (mvv hs rfl rfl rfl fun ac hs => stp (op_nilCheck hs none rfl rfl rfl rfl fun ac hs => stp (op_fieldA hs none rfl rfl rfl underlying61 rfl sizeOf22 (by decide) rfl fun ac hs => ldd hs 0 (.slice ad4 ks2.length cp5) isAgg22 sizeOf22 rfl rfl rfl rfl rfl fun ac hs => mvv hs rfl rfl rfl fun ac hs => stp (op_idxC hs none 0 (j := ks2.length - 1 - d) rfl rfl rfl rfl rfl underlying22 sizeOf34 (show ks2.length - 1 - d < ks2.length by omega) (off := ks2.length - 1 - d) (by omega) rfl fun ac hs => stp (op_loadC hs none 0 (u := .slice ad0 yd.length cp0) rfl rfl rfl rfl isAgg34 sizeOf34 (by decide) kyd rfl fun ac hs => asg hs rfl rfl rfl fun ac hs => wpList_nil (then_n (wp_seq (wp_seq ?_))))))))
 replace hs := hs.nf w0 Z X [0, 1, 5, 6] rfl rfl rfl rfl
 refine wp_region_lit (mvv hs rfl rfl rfl fun ac hs => wpList_nil (then_n (wp_cond_false (hs.ev rfl) (wp_skip (then_n (wp_region_lit (mvv hs rfl rfl rfl fun ac hs => mvv hs rfl rfl rfl fun ac hs => stp (op_bsO hs none none (qs := [(0, .slice ad0 yd.length cp0)]) (cs := [.slice ad0 yd.length cp0]) rfl rfl rfl rfl underlying22 inf_slice_34 (by decide) (by decide) (fill_one _ _ rfl) rfl rfl rfl rfl fun ad19 ac w hs => ?_))))))))
 replace hs := hs.freeze 3 rfl
 refine stp (op_callX (F := 38) (ρ := M1) hs none none [0] [0, 1, 2, 3] (v := fun r => .tuple #[]) (S1 := [(true, oW ad4 ks2.length cp5 34 vs6), (true, oW aa js.length ca 34 us), (true, .bysO G (vs6 ++ us ++ (xs ++ [.slice ad7 p1.length cp8])) (ks2 ++ js ++ (ts ++ [p1]))), (true, cL ad19 1 1 ([.slice ad0 yd.length cp0]))]) (bs1 := [(true, gm, 61, [.slice ad4 ks2.length cp5, .slice aa js.length ca, ni64 e10])]) (E := fun r => [(true, oW r.a ((ks2 ++ [yd]).length) r.c 34 r.vs), (true, oW aa js.length ca 34 us), (true, .bysO r.G (r.vs ++ us ++ (xs ++ [.slice ad7 p1.length cp8])) ((ks2 ++ [yd]) ++ js ++ (ts ++ [p1]))), (true, cL ad19 1 1 ([.slice ad0 yd.length cp0]))]) (E1 := fun r => [(true, oW r.a ((ks2 ++ [yd]).length) r.c 34 r.vs), (true, oW aa js.length ca 34 us), (true, .bysO r.G (r.vs ++ us ++ (xs ++ [.slice ad7 p1.length cp8])) ((ks2 ++ [yd]) ++ js ++ (ts ++ [p1]))), (true, cL ad19 1 1 ([.slice ad0 yd.length cp0]))]) (E2 := fun r => []) (bfA := fun r => [(true, gm, 61, [.slice r.a ((ks2 ++ [yd]).length) r.c, .slice aa js.length ca, ni64 e10])]) (bf := fun r => [(true, gm, 61, [.slice r.a ((ks2 ++ [yd]).length) r.c, .slice aa js.length ca, ni64 e10])]) (bf2 := fun r => []) rfl rfl rfl rfl rfl (call38 _) rfl rfl (by decide) (by decide) (fun Z X hm => pushP_c gm ad4 cp5 vs6 aa ca us G (xs ++ [.slice ad7 p1.length cp8]) (ts ++ [p1]) ks2 js e10 ad19 1 ad0 cp0 yd lyd (oks2.mono (by decide)) (mem_main (hs.ownLen 0 rfl) md) _ _ _ hm) (fun _ => rfl) (fun _ => rfl) (fun _ => rfl) (fun _ => rfl) (fun _ => rfl) rfl fun ⟨ad20, cp21, vs22, G23⟩ ac w hs => wpList_nil ?_)
 have HS := hs
 have ez : e10 = 0 := Classical.not_not.1 hp12
 subst ez
 obtain ⟨hk1, rfl⟩ := Prod.mk.inj ((deep_at (r := false) hks2 (hd ▸ hz9) hdk).symm.trans hp)
 rw [ddy] at hk1
 replace hk1 : ks2 ++ [yd] = k1 := hk1
 subst hk1
 have hs := HS
 replace hs := hs.dropB (zs := [.slice ad7 p1.length cp8]) (rs := [p1]) 2 (hs.xsLen 2 rfl (hs.ownLen 0 rfl) (hs.ownLen 1 rfl)) rfl (hs.ownLen 0 rfl) (hs.ownLen 1 rfl)
 exact bodyPost_end (res0 rfl) hs.defers ⟨⟨ad20, cp21, vs22, G23⟩, rfl, ((hs.selS [0, 1, 2] rfl (by decide)).selB [0] rfl (by decide)).mem⟩
theorem deepT_c (gm : Nat) (am : Option Addr) (cm : Nat) (vs : List Value) (aa : Option Addr) (ca : Nat) (us : List Value) (G : Nat → Prop) (xs : List Value) (ts : BL) (ks js : BL) (er : Nat) (k1 : BL) (e1 : Nat) (ok : OkN 3000 ks) (hp : deepL true ks er = (k1, e1)) (w0 : World) (Z X : Nat → Prop) (hm : Mem ⟨w0, [], [(true, oW am ks.length cm 34 vs), (true, oW aa js.length ca 34 us), (true, .bysO G (vs ++ us ++ xs) (ks ++ js ++ ts))], Z, X⟩ [(true, gm, 61, [.slice am ks.length cm, .slice aa js.length ca, ni64 er])] w0) : Calls prog 45 #[ptA gm 0, .bool true] w0 fun e w' => PostX w0 Z X (ρ := M1) (fun r => .tuple #[]) (fun r => [(true, gm, 61, [.slice r.a k1.length r.c, .slice aa js.length ca, ni64 e1])]) (fun r => [(true, oW r.a k1.length r.c 34 r.vs), (true, oW aa js.length ca 34 us), (true, .bysO r.G (r.vs ++ us ++ xs) (k1 ++ js ++ ts))]) e w' := by
 have hk8 : ks.length ≤ 3000 := ok.1
 refine enterX (n := 66) (args := [ptA gm 0, .bool true]) func45 rfl rfl (Nat.le_of_ble_eq_true rfl) hm fun ac hs => ?_
 have hv := hs.ownLen 0 rfl
 have hu := hs.ownLen 1 rfl
 refine wp_seq (wp_region_lit (mvv hs rfl rfl rfl fun ac hs => mvv hs rfl rfl rfl fun ac hs => ?_))
 obtain ⟨p1, ks2, e3, hks2⟩ := ex3 (popL ks er)
 obtain ⟨oks2, lp1⟩ := pop_ok ok hks2
 replace lp1 : p1.length ≤ 8000 := Nat.le_trans lp1 (by decide)
 refine stp (op_callX (F := 39) (ρ := M1x) hs none none [0] [0, 1, 2] (v := fun r => .slice r.x p1.length r.y) (S1 := [(true, oW am ks.length cm 34 vs), (true, oW aa js.length ca 34 us), (true, .bysO G (vs ++ us ++ xs) (ks ++ js ++ ts))]) (bs1 := [(true, gm, 61, [.slice am ks.length cm, .slice aa js.length ca, ni64 er])]) (E := fun r => [(true, oW r.a ks2.length r.c 34 r.vs), (true, oW aa js.length ca 34 us), (true, .bysO G (r.vs ++ us ++ (xs ++ [.slice r.x p1.length r.y])) (ks2 ++ js ++ (ts ++ [p1])))]) (E1 := fun r => [(true, oW r.a ks2.length r.c 34 r.vs), (true, oW aa js.length ca 34 us), (true, .bysO G (r.vs ++ us ++ (xs ++ [.slice r.x p1.length r.y])) (ks2 ++ js ++ (ts ++ [p1])))]) (E2 := fun r => []) (bfA := fun r => [(true, gm, 61, [.slice r.a ks2.length r.c, .slice aa js.length ca, ni64 e3])]) (bf := fun r => [(true, gm, 61, [.slice r.a ks2.length r.c, .slice aa js.length ca, ni64 e3])]) (bf2 := fun r => []) rfl rfl rfl rfl rfl (call39 _) rfl rfl (by decide) (by decide) (fun Z X hm => pop_c gm am cm vs aa ca us G xs ts ks js er p1 ks2 e3 (ok.mono (by decide)) hks2 _ _ _ hm) (fun _ => rfl) (fun _ => rfl) (fun _ => rfl) (fun _ => rfl) (fun _ => rfl) rfl fun ⟨ad4, cp5, vs6, ad7, cp8⟩ ac w hs => ?_)
 obtain ⟨z9, e10, hz9⟩ := ex2 (readL p1 4 e3)
 have xz9 := (mem_last3 (hs.bLen 2 rfl))
 refine stp (op_callX (F := 40) (ρ := Unit) hs none none [0] [2] (v := fun r => .int .i64 z9) (S1 := [(true, .bysO G (vs6 ++ us ++ (xs ++ [.slice ad7 p1.length cp8])) (ks2 ++ js ++ (ts ++ [p1])))]) (bs1 := [(true, gm, 61, [.slice ad4 ks2.length cp5, .slice aa js.length ca, ni64 e3])]) (E := fun r => [(true, .bysO G (vs6 ++ us ++ (xs ++ [.slice ad7 p1.length cp8])) (ks2 ++ js ++ (ts ++ [p1])))]) (E1 := fun r => [(true, .bysO G (vs6 ++ us ++ (xs ++ [.slice ad7 p1.length cp8])) (ks2 ++ js ++ (ts ++ [p1])))]) (E2 := fun r => []) (bfA := fun r => [(true, gm, 61, [.slice ad4 ks2.length cp5, .slice aa js.length ca, ni64 e10])]) (bf := fun r => [(true, gm, 61, [.slice ad4 ks2.length cp5, .slice aa js.length ca, ni64 e10])]) (bf2 := fun r => []) rfl rfl rfl rfl rfl (call40 _) rfl rfl (by decide) (by decide) (fun Z X hm => read_c gm (.slice ad4 ks2.length cp5) (.slice aa js.length ca) G _ _ ad7 cp8 p1 4 e3 z9 e10 lp1 xz9 hz9 _ _ _ hm) (fun _ => rfl) (fun _ => rfl) (fun _ => rfl) (fun _ => rfl) (fun _ => rfl) rfl fun _ ac w hs => asg hs rfl rfl rfl fun ac hs => wpList_nil (then_n (wp_seq (wp_seq (wp_region_lit (mvv hs rfl rfl rfl fun ac hs => stp (op_nilCheck hs none rfl rfl rfl rfl fun ac hs => stp (op_fieldA hs none rfl rfl rfl underlying61 rfl sizeOf28 (by decide) rfl fun ac hs => ldd hs 0 (ni64 e10) isAgg28 sizeOf28 rfl rfl rfl rfl rfl fun ac hs => bnn hs (.bool (decide (e10 ≠ 0))) rfl rfl rfl rfl (bin_neqN (y := 0)) fun ac hs => wpList_nil (then_n (wcs hs rfl ?_ ?_))))))))))
 ·intro hc
  have hp11 := of_decide_eq_true hc
  refine wp_ret (then_r ?_)
  have HS := hs
  have ez : ¬ e10 = 0 := hp11
  obtain ⟨rfl, rfl⟩ := Prod.mk.inj ((deep_no hks2 hz9 ez).symm.trans hp)
  have hs := HS
  replace hs := hs.dropB (zs := [.slice ad7 p1.length cp8]) (rs := [p1]) 2 (hs.xsLen 2 rfl (hs.ownLen 0 rfl) (hs.ownLen 1 rfl)) rfl (hs.ownLen 0 rfl) (hs.ownLen 1 rfl)
  exact bodyPost_ret (res0 rfl) hs.defers ⟨⟨ad4, cp5, vs6, G⟩, rfl, ((hs.selS [0, 1, 2] rfl (by decide)).selB [0] rfl (by decide)).mem⟩
 intro hc
 have hp12 := of_decide_eq_false hc
 refine wp_skip (then_n (wp_seq (wp_seq ?_)))
 by_cases hq13 : z9 < 0
 ·replace hs := hs.nf w0 Z X [0, 1, 4] rfl rfl rfl rfl
  refine wp_region_lit (mvv hs rfl rfl rfl fun ac hs => bnn hs (.bool true) rfl rfl rfl rfl (fun w => dT hq13 (bin_lssI (y := 0) w)) fun ac hs => mvv hs rfl rfl rfl fun ac hs => lstep (wpO_out hs none rfl rfl (.inl rfl) rfl rfl fun ac hs => lstep (wpO_out hs none rfl rfl (.inl rfl) rfl rfl fun ac hs => lstep (wpO_out hs none rfl rfl (.inl rfl) rfl rfl fun ac hs => lstep (wpO_out hs none rfl rfl (.inl rfl) rfl rfl fun ac hs => lstep (wpO_out hs none rfl rfl (.inl rfl) rfl rfl fun ac hs => lstep (wpO_out hs none rfl rfl (.inl rfl) rfl rfl fun ac hs => ?_)))))))
  refine lstep (wpO_out hs none rfl rfl (.inl rfl) rfl rfl fun ac hs => stp (op_pickT hs none rfl rfl rfl rfl rfl fun ac hs => wpList_nil (then_n (wp_cond_true (hs.ev rfl) (wp_seq (wp_region_lit (mvv hs rfl rfl rfl fun ac hs => ?_)))))))
  obtain ⟨e14, he14⟩ := ex1 (failE e10 12)
  refine stp (op_callX (F := 65) (ρ := Unit) hs none none [0] [] (v := fun r => .tuple #[]) (S1 := []) (bs1 := [(true, gm, 61, [.slice ad4 ks2.length cp5, .slice aa js.length ca, ni64 e10])]) (E := fun r => []) (E1 := fun r => []) (E2 := fun r => []) (bfA := fun r => [(true, gm, 61, [.slice ad4 ks2.length cp5, .slice aa js.length ca, ni64 e14])]) (bf := fun r => [(true, gm, 61, [.slice ad4 ks2.length cp5, .slice aa js.length ca, ni64 e14])]) (bf2 := fun r => []) rfl rfl rfl rfl rfl (call65 _) rfl rfl (by decide) (by decide) (fun Z X hm => fail_c gm (.slice ad4 ks2.length cp5) (.slice aa js.length ca) e10 12 e14 he14 _ _ _ hm) (fun _ => rfl) (fun _ => rfl) (fun _ => rfl) (fun _ => rfl) (fun _ => rfl) rfl fun _ ac w hs => wpList_nil (then_n (wp_ret (then_r ?_))))
  have HS := hs
  have ez : e10 = 0 := Classical.not_not.1 hp12
  subst ez
  obtain ⟨rfl, rfl⟩ := Prod.mk.inj ((deep_far (r := true) hks2 hz9 (.inl hq13)).symm.trans hp)
  obtain rfl : 12 = e14 := he14
  have hs := HS
  replace hs := hs.dropB (zs := [.slice ad7 p1.length cp8]) (rs := [p1]) 2 (hs.xsLen 2 rfl (hs.ownLen 0 rfl) (hs.ownLen 1 rfl)) rfl (hs.ownLen 0 rfl) (hs.ownLen 1 rfl)
  exact bodyPost_ret (res0 rfl) hs.defers ⟨⟨ad4, cp5, vs6, G⟩, rfl, ((hs.selS [0, 1, 2] rfl (by decide)).selB [0] rfl (by decide)).mem⟩
 replace hs := hs.nf w0 Z X [0, 1, 4] rfl rfl rfl rfl
 refine wp_region_lit (mvv hs rfl rfl rfl fun ac hs => bnn hs (.bool false) rfl rfl rfl rfl (fun w => dF hq13 (bin_lssI (y := 0) w)) fun ac hs => mvv hs rfl rfl rfl fun ac hs => lstep (wpO_in hs rfl rfl rfl (op_move hs none rfl rfl rfl rfl fun ac hs => lstep (wpO_in hs rfl rfl rfl (op_move hs none rfl rfl rfl rfl fun ac hs => lstep (wpO_in hs rfl rfl rfl (op_nilCheck hs none rfl rfl rfl rfl fun ac hs => lstep (wpO_in hs rfl rfl rfl (op_fieldA hs none rfl rfl rfl underlying61 rfl sizeOf22 (by decide) rfl fun ac hs => lstep (wpO_in hs rfl rfl rfl (op_load hs none 0 (v := .slice ad4 ks2.length cp5) rfl rfl rfl rfl isAgg22 sizeOf22 rfl rfl fun ac hs => lstep (wpO_in hs rfl rfl rfl (op_blt hs none (v := ni64 (ks2.length)) rfl rfl rfl (blt_len underlying22) rfl fun ac hs => ?_)))))))))))))
 refine lstep (wpO_in hs rfl rfl rfl (op_bin hs none (v := .bool (decide (((ks2.length : Nat) : Int) ≤ z9))) rfl rfl rfl rfl (fun _ => rfl) (bin_geqI (x := z9) (y := ((ks2.length : Nat) : Int))) rfl fun ac hs => stp (op_pickF hs none rfl rfl rfl rfl rfl fun ac hs => wpList_nil (then_n (wcs hs rfl ?_ ?_)))))
 ·intro hc
  have hp15 := of_decide_eq_true hc
  refine wp_seq ?_
  replace hs := hs.nf w0 Z X [0, 1, 4] rfl rfl rfl rfl
  refine wp_region_lit (mvv hs rfl rfl rfl fun ac hs => ?_)
  obtain ⟨e16, he16⟩ := ex1 (failE e10 12)
  refine stp (op_callX (F := 65) (ρ := Unit) hs none none [0] [] (v := fun r => .tuple #[]) (S1 := []) (bs1 := [(true, gm, 61, [.slice ad4 ks2.length cp5, .slice aa js.length ca, ni64 e10])]) (E := fun r => []) (E1 := fun r => []) (E2 := fun r => []) (bfA := fun r => [(true, gm, 61, [.slice ad4 ks2.length cp5, .slice aa js.length ca, ni64 e16])]) (bf := fun r => [(true, gm, 61, [.slice ad4 ks2.length cp5, .slice aa js.length ca, ni64 e16])]) (bf2 := fun r => []) rfl rfl rfl rfl rfl (call65 _) rfl rfl (by decide) (by decide) (fun Z X hm => fail_c gm (.slice ad4 ks2.length cp5) (.slice aa js.length ca) e10 12 e16 he16 _ _ _ hm) (fun _ => rfl) (fun _ => rfl) (fun _ => rfl) (fun _ => rfl) (fun _ => rfl) rfl fun _ ac w hs => wpList_nil (then_n (wp_ret (then_r ?_))))
  have HS := hs
  have ez : e10 = 0 := Classical.not_not.1 hp12
  subst ez
  obtain ⟨rfl, rfl⟩ := Prod.mk.inj ((deep_far (r := true) hks2 hz9 (.inr hp15)).symm.trans hp)
  obtain rfl : 12 = e16 := he16
  have hs := HS
  replace hs := hs.dropB (zs := [.slice ad7 p1.length cp8]) (rs := [p1]) 2 (hs.xsLen 2 rfl (hs.ownLen 0 rfl) (hs.ownLen 1 rfl)) rfl (hs.ownLen 0 rfl) (hs.ownLen 1 rfl)
  exact bodyPost_ret (res0 rfl) hs.defers ⟨⟨ad4, cp5, vs6, G⟩, rfl, ((hs.selS [0, 1, 2] rfl (by decide)).selB [0] rfl (by decide)).mem⟩
 intro hc
 have hp17 := of_decide_eq_false hc
 have hge : ¬ ((ks2.length : Nat) : Int) ≤ z9 := of_decide_eq_false hc
 obtain ⟨d, hd⟩ : ∃ d : Nat, z9 = (d : Int) := ⟨z9.toNat, by omega⟩
 rw [hd] at hs
 have hdk : d < ks2.length := by omega
 have hk9 : ks2.length ≤ 3000 := oks2.1
 obtain ⟨yd, hyd⟩ : ∃ z, ks2[ks2.length - 1 - d]? = some z := ⟨_, List.getElem?_eq_getElem (by omega)⟩
 obtain ⟨ad0, cp0, kyd⟩ := hs.poolAt 2 rfl (hs.ownLen 0 rfl) hyd
 have md := zip_get kyd hyd
 have lyd : yd.length ≤ 8000 := Nat.le_trans (oks2.2 _ (List.mem_of_getElem? hyd)) (by decide)
 have ddy : ks2.getD (ks2.length - 1 - d) [] = yd := getD_of hyd
 refine wp_skip (then_n (wp_seq ?_))
 replace hs := hs.nf w0 Z X [0, 1, 4] rfl rfl rfl rfl
 refine wp_region_lit (mvv hs rfl rfl rfl fun ac hs => stp (op_nilCheck hs none rfl rfl rfl rfl fun ac hs => stp (op_fieldA hs none rfl rfl rfl underlying61 rfl sizeOf22 (by decide) rfl fun ac hs => ldd hs 0 (.slice ad4 ks2.length cp5) isAgg22 sizeOf22 rfl rfl rfl rfl rfl fun ac hs => stp (op_blt hs none (v := ni64 (ks2.length)) rfl rfl rfl (blt_len underlying22) rfl fun ac hs => bnn hs (ni64 (ks2.length - 1)) rfl rfl rfl rfl (bin_subN (y := 1) (by omega) (show ks2.length - 1 < 9223372036854775808 by omega)) fun ac hs => mvv hs rfl rfl rfl fun ac hs => bnn hs (ni64 (ks2.length - 1 - d)) rfl rfl rfl rfl (bin_subN (by omega) (show ks2.length - 1 - d < 9223372036854775808 by omega)) fun ac hs => asg hs rfl rfl rfl fun ac hs => ?_))))
 refine wpList_nil (then_n (wp_seq ?_))
 replace hs := hs.nf w0 Z X [0, 1, 5] rfl rfl rfl rfl
 refine wp_region_lit (mvv hs rfl rfl rfl fun ac hs => stp (op_nilCheck hs none rfl rfl rfl rfl fun ac hs => stp (op_fieldA hs none rfl rfl rfl underlying61 rfl sizeOf22 (by decide) rfl fun ac hs => ldd hs 0 (.slice ad4 ks2.length cp5) isAgg22 sizeOf22 rfl rfl rfl rfl rfl fun ac hs => mvv hs rfl rfl rfl fun ac hs => stp (op_idxC hs none 0 (j := ks2.length - 1 - d) rfl rfl rfl rfl rfl underlying22 sizeOf34 (show ks2.length - 1 - d < ks2.length by omega) (off := ks2.length - 1 - d) (by omega) rfl fun ac hs => stp (op_loadC hs none 0 (u := .slice ad0 yd.length cp0) rfl rfl rfl rfl isAgg34 sizeOf34 (by decide) kyd rfl fun ac hs => asg hs rfl rfl rfl fun ac hs => wpList_nil ?_)))))
 replace hs := hs.addB 2 (hs.ownLen 0 rfl) (hs.ownLen 1 rfl) kyd hyd rfl
 have hone := hs.mainOne 2 rfl (hs.ownLen 0 rfl)
 have hvl0 : vs6.length = ks2.length := (hs.ownLen 0 rfl)
 refine then_n (wp_seq (wp_seq ?_))
 replace hs := hs.nf w0 Z X [0, 1, 5, 6] rfl rfl rfl rfl
 refine wp_region_lit (mvv hs rfl rfl rfl fun ac hs => wpList_nil (then_n (wp_cond_true (hs.ev rfl) ?_)))
 replace hs := hs.nf w0 Z X [0, 5, 6] rfl rfl rfl rfl
 refine region_inv [([], [15, 16, 17]), ([], [2, 3, 4, 6, 14, 15, 16, 17]), ([1], [3, 4, 6, 14, 15, 16, 17]), ([1, 2], [4, 6, 14, 15, 16, 17]), ([1, 2, 3], [6, 14, 15, 16, 17]), ([], [6, 14, 15, 16, 17]), (rgn 1 5, rgn 14 4), ([], [8, 9, 10, 13, 14, 15, 16, 17]), ([7], [9, 10, 13, 14, 15, 16, 17]), ([7, 8], [10, 13, 14, 15, 16, 17]), ([7, 8, 9], rgn 13 5), ([], rgn 12 6), ([11], rgn 13 5), (rgn 7 6, rgn 14 4), (rgn 1 13, [15, 16, 17]), (rgn 0 15, [16, 17]), (rgn 0 16, [17]), (rgn 0 17, [])] (fun L ac w => ∃ (ad18 : Option Addr) (cp19 : Nat), St 66 ⟨w0, [], [(true, cond (L 14) (oW ad18 ((ks2.eraseIdx (ks2.length - 1 - d)).length) cp19 34 (vs6.eraseIdx (ks2.length - 1 - d))) (oW ad4 ks2.length cp5 34 vs6)), (true, oW aa js.length ca 34 us), (true, .bysO G (vs6 ++ us ++ ((xs ++ [.slice ad7 p1.length cp8]) ++ [.slice ad0 yd.length cp0])) (ks2 ++ js ++ ((ts ++ [p1]) ++ [yd])))], Z, X⟩ [(45, L 0, ptA gm 0), (46, L 1, ptA gm 0), (47, L 2, ptA gm 0), (48, L 3, ptA gm 0), (49, L 4, .slice ad4 ks2.length cp5), (50, L 5, ni64 (ks2.length - 1 - d)), (51, L 6, .slice ad4 (ks2.length - 1 - d) cp5), (52, L 7, ptA gm 0), (53, L 8, ptA gm 0), (54, L 9, ptA gm 0), (55, L 10, .slice ad4 ks2.length cp5), (56, L 11, ni64 (ks2.length - 1 - d)), (57, L 12, ni64 (ks2.length - 1 - d + 1)), (58, L 13, .slice (vsa ad4 cp5 1 (ks2.length - 1 - d + 1)) (ks2.length - (ks2.length - 1 - d + 1)) (cp5 - (ks2.length - 1 - d + 1))), (59, L 14, .slice ad18 ((ks2.eraseIdx (ks2.length - 1 - d)).length) cp19), (60, L 15, ptA gm 0), (61, L 16, ptA gm 0), (0, true, ptA gm 0), (5, true, ni64 (ks2.length - 1 - d)), (6, true, .slice ad0 yd.length cp0)] [(true, gm, 61, (cond (L 17) [.slice ad18 ((ks2.eraseIdx (ks2.length - 1 - d)).length) cp19, .slice aa js.length ca, ni64 e10] [.slice ad4 ks2.length cp5, .slice aa js.length ca, ni64 e10]))] ac w) (by kernel_rfl) (by kernel_rfl) ?_ ?_ ?_
 ·exact ⟨none, 0, hs.drew.s4.s4.s4.s4.skip⟩
 ·refine ⟨?_, ?_, ?_, ?_, ?_, ?_, ?_, ?_, ?_, ?_, ?_, ?_, ?_, ?_, ?_, ?_, ?_, ?_, trivial⟩
  ·exact fun L ac w ⟨ad18, cp19, hs⟩ => pln (omv hs 0 rfl rfl rfl fun ac hs => ⟨ad18, cp19, hs⟩)
  ·exact fun L ac w ⟨ad18, cp19, hs⟩ => pln (omv hs 1 rfl rfl rfl fun ac hs => ⟨ad18, cp19, hs⟩)
  ·exact fun L ac w ⟨ad18, cp19, hs⟩ => pln (op_nilCheck hs (some 2) rfl rfl rfl rfl fun ac hs => ⟨ad18, cp19, hs⟩)
  ·exact fun L ac w ⟨ad18, cp19, hs⟩ => pln (op_fieldA hs (some 3) rfl rfl rfl underlying61 rfl sizeOf22 (by decide) rfl fun ac hs => ⟨ad18, cp19, hs⟩)
  ·exact fun L ac w ⟨ad18, cp19, hs⟩ => pln (oldd hs 4 0 (.slice ad4 ks2.length cp5) isAgg22 sizeOf22 rfl rfl rfl rfl rfl fun ac hs => ⟨ad18, cp19, hs⟩)
  ·exact fun L ac w ⟨ad18, cp19, hs⟩ => pln (omv hs 5 rfl rfl rfl fun ac hs => ⟨ad18, cp19, hs⟩)
  ·exact fun L ac w ⟨ad18, cp19, hs⟩ => pln (op_sliceV hs (some 6) 0 0 (ks2.length - 1 - d) (v' := .slice ad4 (ks2.length - 1 - d) cp5) rfl rfl rfl rfl (.inl ⟨rfl, rfl⟩) (.inr ⟨_, _, rfl, rfl⟩) underlying22 sizeOf34 (show 0 ≤ ks2.length - 1 - d by omega) (show ks2.length - 1 - d ≤ ks2.length by omega) vsl_hi rfl fun ac hs => ⟨ad18, cp19, hs⟩)
  ·exact fun L ac w ⟨ad18, cp19, hs⟩ => pln (omv hs 7 rfl rfl rfl fun ac hs => ⟨ad18, cp19, hs⟩)
  ·exact fun L ac w ⟨ad18, cp19, hs⟩ => pln (op_nilCheck hs (some 8) rfl rfl rfl rfl fun ac hs => ⟨ad18, cp19, hs⟩)
  ·exact fun L ac w ⟨ad18, cp19, hs⟩ => pln (op_fieldA hs (some 9) rfl rfl rfl underlying61 rfl sizeOf22 (by decide) rfl fun ac hs => ⟨ad18, cp19, hs⟩)
  ·exact fun L ac w ⟨ad18, cp19, hs⟩ => pln (oldd hs 10 0 (.slice ad4 ks2.length cp5) isAgg22 sizeOf22 rfl rfl rfl rfl rfl fun ac hs => ⟨ad18, cp19, hs⟩)
  ·exact fun L ac w ⟨ad18, cp19, hs⟩ => pln (omv hs 11 rfl rfl rfl fun ac hs => ⟨ad18, cp19, hs⟩)
  ·exact fun L ac w ⟨ad18, cp19, hs⟩ => pln (obn hs 12 (ni64 (ks2.length - 1 - d + 1)) rfl rfl rfl rfl (bin_addN (y := 1) rfl (show ks2.length - 1 - d + 1 < 9223372036854775808 by omega)) fun ac hs => ⟨ad18, cp19, hs⟩)
  ·exact fun L ac w ⟨ad18, cp19, hs⟩ => pln (op_sliceV hs (some 13) 0 (ks2.length - 1 - d + 1) ks2.length (v' := .slice (vsa ad4 cp5 1 (ks2.length - 1 - d + 1)) (ks2.length - (ks2.length - 1 - d + 1)) (cp5 - (ks2.length - 1 - d + 1))) rfl rfl rfl rfl (.inr ⟨_, _, rfl, rfl⟩) (.inl ⟨rfl, rfl⟩) underlying22 sizeOf34 (show ks2.length - 1 - d + 1 ≤ ks2.length by omega) (show ks2.length ≤ ks2.length by omega) vsl_lo rfl fun ac hs => ⟨ad18, cp19, hs⟩)
  ·exact fun L ac w ⟨ad18, cp19, hs⟩ => pln (op_eraseO hs (some 14) 0 (ks2.length - 1 - d) (N' := (ks2.eraseIdx (ks2.length - 1 - d)).length) (xs' := vs6.eraseIdx (ks2.length - 1 - d)) rfl rfl rfl rfl rfl rfl underlying22 inf_slice_34 rfl hone (by decide) (by omega) (by omega) (by rw [List.length_eraseIdx, if_pos (by omega)]) rfl rfl fun ad18 cp19 ac w hs => ⟨ad18, cp19, hs⟩)
  ·exact fun L ac w ⟨ad18, cp19, hs⟩ => pln (op_nilCheck hs (some 15) rfl rfl rfl rfl fun ac hs => ⟨ad18, cp19, hs⟩)
  ·exact fun L ac w ⟨ad18, cp19, hs⟩ => pln (op_fieldA hs (some 16) rfl rfl rfl underlying61 rfl sizeOf22 (by decide) rfl fun ac hs => ⟨ad18, cp19, hs⟩)
  ·exact fun L ac w ⟨ad18, cp19, hs⟩ => pln (stoo hs 0 ([.slice ad18 ((ks2.eraseIdx (ks2.length - 1 - d)).length) cp19]) sizeOf22 rfl rfl rfl rfl rfl rfl rfl rfl rfl rfl fun w hs => ⟨ad18, cp19, hs⟩)
 intro ac w ⟨ad18, cp19, hs⟩
 try dsimp only [cond_true] at hs
 replace hs := hs.eraB (j := ks2.length - 1 - d) 2 hvl0 hu rfl
 have oke := OkN.erase oks2 (ks2.length - 1 - d)
 refine then_n (wp_region_lit (mvv hs rfl rfl rfl fun ac hs => mvv hs rfl rfl rfl fun ac hs => stp (op_bsO hs none none (qs := [(0, .slice ad0 yd.length cp0)]) (cs := [.slice ad0 yd.length cp0]) rfl rfl rfl rfl underlying22 inf_slice_34 (by decide) (by decide) (fill_one _ _ rfl) rfl rfl rfl rfl fun ad21 ac w hs => ?_)))
 replace hs := hs.freeze 3 rfl
 refine stp (op_callX (F := 38) (ρ := M1) hs none none [0] [0, 1, 2, 3] (v := fun r => .tuple #[]) (S1 := [(true, oW ad18 ((ks2.eraseIdx (ks2.length - 1 - d)).length) cp19 34 (vs6.eraseIdx (ks2.length - 1 - d))), (true, oW aa js.length ca 34 us), (true, .bysO G ((vs6.eraseIdx (ks2.length - 1 - d)) ++ us ++ ((xs ++ [.slice ad7 p1.length cp8]) ++ [.slice ad0 yd.length cp0])) ((ks2.eraseIdx (ks2.length - 1 - d)) ++ js ++ ((ts ++ [p1]) ++ [yd]))), (true, cL ad21 1 1 ([.slice ad0 yd.length cp0]))]) (bs1 := [(true, gm, 61, [.slice ad18 ((ks2.eraseIdx (ks2.length - 1 - d)).length) cp19, .slice aa js.length ca, ni64 e10])]) (E := fun r => [(true, oW r.a (((ks2.eraseIdx (ks2.length - 1 - d)) ++ [yd]).length) r.c 34 r.vs), (true, oW aa js.length ca 34 us), (true, .bysO r.G (r.vs ++ us ++ ((xs ++ [.slice ad7 p1.length cp8]) ++ [.slice ad0 yd.length cp0])) (((ks2.eraseIdx (ks2.length - 1 - d)) ++ [yd]) ++ js ++ ((ts ++ [p1]) ++ [yd]))), (true, cL ad21 1 1 ([.slice ad0 yd.length cp0]))]) (E1 := fun r => [(true, oW r.a (((ks2.eraseIdx (ks2.length - 1 - d)) ++ [yd]).length) r.c 34 r.vs), (true, oW aa js.length ca 34 us), (true, .bysO r.G (r.vs ++ us ++ ((xs ++ [.slice ad7 p1.length cp8]) ++ [.slice ad0 yd.length cp0])) (((ks2.eraseIdx (ks2.length - 1 - d)) ++ [yd]) ++ js ++ ((ts ++ [p1]) ++ [yd]))), (true, cL ad21 1 1 ([.slice ad0 yd.length cp0]))]) (E2 := fun r => []) (bfA := fun r => [(true, gm, 61, [.slice r.a (((ks2.eraseIdx (ks2.length - 1 - d)) ++ [yd]).length) r.c, .slice aa js.length ca, ni64 e10])]) (bf := fun r => [(true, gm, 61, [.slice r.a (((ks2.eraseIdx (ks2.length - 1 - d)) ++ [yd]).length) r.c, .slice aa js.length ca, ni64 e10])]) (bf2 := fun r => []) rfl rfl rfl rfl rfl (call38 _) rfl rfl (by decide) (by decide) (fun Z X hm => pushP_c gm ad18 cp19 (vs6.eraseIdx (ks2.length - 1 - d)) aa ca us G ((xs ++ [.slice ad7 p1.length cp8]) ++ [.slice ad0 yd.length cp0]) ((ts ++ [p1]) ++ [yd]) (ks2.eraseIdx (ks2.length - 1 - d)) js e10 ad21 1 ad0 cp0 yd lyd (oke.mono (by decide)) (mem_last3 (hs.bLen 2 rfl)) _ _ _ hm) (fun _ => rfl) (fun _ => rfl) (fun _ => rfl) (fun _ => rfl) (fun _ => rfl) rfl fun ⟨ad22, cp23, vs24, G25⟩ ac w hs => wpList_nil ?_)
 have HS := hs
 have ez : e10 = 0 := Classical.not_not.1 hp12
 subst ez
 obtain ⟨hk1, rfl⟩ := Prod.mk.inj ((deep_at (r := true) hks2 (hd ▸ hz9) hdk).symm.trans hp)
 rw [ddy] at hk1
 replace hk1 : ks2.eraseIdx (ks2.length - 1 - d) ++ [yd] = k1 := hk1
 subst hk1
 have hs := HS
 replace hs := hs.dropB (zs := [.slice ad0 yd.length cp0]) (rs := [yd]) 2 (hs.xsLen 2 rfl (hs.ownLen 0 rfl) (hs.ownLen 1 rfl)) rfl (hs.ownLen 0 rfl) (hs.ownLen 1 rfl)
 replace hs := hs.dropB (zs := [.slice ad7 p1.length cp8]) (rs := [p1]) 2 (hs.xsLen 2 rfl (hs.ownLen 0 rfl) (hs.ownLen 1 rfl)) rfl (hs.ownLen 0 rfl) (hs.ownLen 1 rfl)
 exact bodyPost_end (res0 rfl) hs.defers ⟨⟨ad22, cp23, vs24, G25⟩, rfl, ((hs.selS [0, 1, 2] rfl (by decide)).selB [0] rfl (by decide)).mem⟩
theorem join_c (gm : Nat) (am : Option Addr) (cm : Nat) (vs : List Value) (aa : Option Addr) (ca : Nat) (us : List Value) (G : Nat → Prop) (xs : List Value) (ts : BL) (ks js : BL) (er : Nat) (k1 : BL) (e1 : Nat) (ok : OkN 3000 ks) (hp : joinL ks er = (k1, e1)) (w0 : World) (Z X : Nat → Prop) (hm : Mem ⟨w0, [], [(true, oW am ks.length cm 34 vs), (true, oW aa js.length ca 34 us), (true, .bysO G (vs ++ us ++ xs) (ks ++ js ++ ts))], Z, X⟩ [(true, gm, 61, [.slice am ks.length cm, .slice aa js.length ca, ni64 er])] w0) : Calls prog 51 #[ptA gm 0] w0 fun e w' => PostX w0 Z X (ρ := M1) (fun r => .tuple #[]) (fun r => [(true, gm, 61, [.slice r.a k1.length r.c, .slice aa js.length ca, ni64 e1])]) (fun r => [(true, oW r.a k1.length r.c 34 r.vs), (true, oW aa js.length ca 34 us), (true, .bysO r.G (r.vs ++ us ++ xs) (k1 ++ js ++ ts))]) e w' := by
 have hk8 : ks.length ≤ 3000 := ok.1
 refine enterX (n := 18) (args := [ptA gm 0]) func51 rfl rfl (Nat.le_of_ble_eq_true rfl) hm fun ac hs => ?_
 have hv := hs.ownLen 0 rfl
 have hu := hs.ownLen 1 rfl
 refine wp_seq (wp_seq (wp_region_lit (mvv hs rfl rfl rfl fun ac hs => ?_)))
 obtain ⟨e1, he1⟩ := ex1 (needE ks.length 2 er)
 refine stp (op_callX (F := 48) (ρ := Unit) hs none none [0] [] (v := fun r => .bool (decide (e1 = 0))) (S1 := []) (bs1 := [(true, gm, 61, [.slice am ks.length cm, .slice aa js.length ca, ni64 er])]) (E := fun r => []) (E1 := fun r => []) (E2 := fun r => []) (bfA := fun r => [(true, gm, 61, [.slice am ks.length cm, .slice aa js.length ca, ni64 e1])]) (bf := fun r => [(true, gm, 61, [.slice am ks.length cm, .slice aa js.length ca, ni64 e1])]) (bf2 := fun r => []) rfl rfl rfl rfl rfl (call48 _) rfl rfl (by decide) (by decide) (fun Z X hm => needs_c gm am ks.length cm (.slice aa js.length ca) er 2 e1 (decide (e1 = 0)) he1 rfl _ _ _ hm) (fun _ => rfl) (fun _ => rfl) (fun _ => rfl) (fun _ => rfl) (fun _ => rfl) rfl fun _ ac w hs => stp (op_un hs none (v := .bool (!(decide (e1 = 0)))) rfl rfl rfl (fun _ => rfl) rfl fun ac hs => wpList_nil (then_n (wcs hs rfl ?_ ?_))))
 ·intro hc
  have ze1 : ¬ e1 = 0 := by simpa using hc
  refine wp_ret (then_r ?_)
  have HS := hs
  obtain ⟨rfl, rfl⟩ := Prod.mk.inj ((if_neg (by rw [he1]; exact ze1) : joinL ks er = _).symm.trans hp)
  rw [← he1] at HS
  have hs := HS
  exact bodyPost_ret (res0 rfl) hs.defers ⟨⟨am, cm, vs, G⟩, rfl, ((hs.selS [0, 1, 2] rfl (by decide)).selB [0] rfl (by decide)).mem⟩
 intro hc
 have ze1 : e1 = 0 := by simpa using hc
 have hnl := need_len (he1.trans ze1)
 have hl0 := hnl.1
 refine wp_skip (then_n (wp_seq (wp_region_lit (mvv hs rfl rfl rfl fun ac hs => ?_))))
 obtain ⟨y2, hy2⟩ : ∃ z0, ks[ks.length - 1 - 1]? = some z0 := ⟨_, List.getElem?_eq_getElem (show ks.length - 1 - 1 < ks.length by omega)⟩
 obtain ⟨ad3, cp4, ky2⟩ := hs.poolAt 2 rfl (hs.ownLen 0 rfl) hy2
 have my2 := zip_get ky2 hy2
 have ly2 : y2.length ≤ 8000 := (ok.mono (by decide)).2 _ (List.mem_of_getElem? hy2)
 have dy2 : ks.getD (ks.length - 1 - 1) [] = y2 := getD_of hy2
 have l3y2 : y2.length ≤ 3000 := ok.2 _ (List.mem_of_getElem? hy2)
 refine stp (op_callX (F := 49) (ρ := Unit) hs none none [0] [0] (v := fun r => .slice ad3 y2.length cp4) (S1 := [(true, oW am ks.length cm 34 vs)]) (bs1 := [(true, gm, 61, [.slice am ks.length cm, .slice aa js.length ca, ni64 e1])]) (E := fun r => [(true, oW am ks.length cm 34 vs)]) (E1 := fun r => [(true, oW am ks.length cm 34 vs)]) (E2 := fun r => []) (bfA := fun r => [(true, gm, 61, [.slice am ks.length cm, .slice aa js.length ca, ni64 e1])]) (bf := fun r => [(true, gm, 61, [.slice am ks.length cm, .slice aa js.length ca, ni64 e1])]) (bf2 := fun r => []) rfl rfl rfl rfl rfl (call49 _) rfl rfl (by decide) (by decide) (fun Z X hm => top_c gm am cm vs ks (.slice aa js.length ca) e1 1 (.slice ad3 y2.length cp4) (show 1 < ks.length by omega) ky2 (ok.mono (by decide)) _ _ _ hm) (fun _ => rfl) (fun _ => rfl) (fun _ => rfl) (fun _ => rfl) (fun _ => rfl) rfl fun _ ac w hs => stp (op_callV (F := 63) (ρ := Option Addr × Nat) hs none none (v := fun r => .slice r.1 y2.length r.2) (E := fun r => [oW r.1 y2.length r.2 5 (bcs y2)]) (j := 1) rfl rfl rfl rfl (call63 _) (fun hs => clone_o ad3 y2.length cp4 y2 (Nat.le_trans ly2 (by decide)) _ _ (hs.itemZ (k := 2) rfl (mem_main (hs.ownLen 0 rfl) my2))) (fun _ => rfl) (fun _ => rfl) rfl rfl fun ⟨ad5, cp6⟩ ac w hs => mvv hs rfl rfl rfl fun ac hs => ?_))
 obtain ⟨y7, hy7⟩ : ∃ z0, ks[ks.length - 1 - 0]? = some z0 := ⟨_, List.getElem?_eq_getElem (show ks.length - 1 - 0 < ks.length by omega)⟩
 obtain ⟨ad8, cp9, ky7⟩ := hs.poolAt 2 rfl (hs.ownLen 0 rfl) hy7
 have my7 := zip_get ky7 hy7
 have ly7 : y7.length ≤ 8000 := (ok.mono (by decide)).2 _ (List.mem_of_getElem? hy7)
 have dy7 : ks.getD (ks.length - 1 - 0) [] = y7 := getD_of hy7
 have l3y7 : y7.length ≤ 3000 := ok.2 _ (List.mem_of_getElem? hy7)
 refine stp (op_callX (F := 49) (ρ := Unit) hs none none [0] [0] (v := fun r => .slice ad8 y7.length cp9) (S1 := [(true, oW am ks.length cm 34 vs)]) (bs1 := [(true, gm, 61, [.slice am ks.length cm, .slice aa js.length ca, ni64 e1])]) (E := fun r => [(true, oW am ks.length cm 34 vs)]) (E1 := fun r => [(true, oW am ks.length cm 34 vs)]) (E2 := fun r => []) (bfA := fun r => [(true, gm, 61, [.slice am ks.length cm, .slice aa js.length ca, ni64 e1])]) (bf := fun r => [(true, gm, 61, [.slice am ks.length cm, .slice aa js.length ca, ni64 e1])]) (bf2 := fun r => []) rfl rfl rfl rfl rfl (call49 _) rfl rfl (by decide) (by decide) (fun Z X hm => top_c gm am cm vs ks (.slice aa js.length ca) e1 0 (.slice ad8 y7.length cp9) (show 0 < ks.length by omega) ky7 (ok.mono (by decide)) _ _ _ hm) (fun _ => rfl) (fun _ => rfl) (fun _ => rfl) (fun _ => rfl) (fun _ => rfl) rfl fun _ ac w hs => ?_)
 have lboth : (y2 ++ y7).length ≤ 8000 := by have h1 := l3y2; have h2 := l3y7; rw [List.length_append]; omega
 refine stp (op_appV hs none 3 (N' := (y2 ++ y7).length) (cs := bcs y7) (ys := bcs (y2 ++ y7)) rfl rfl rfl rfl rfl rfl (fun hs => (hs.itemZ (k := 2) rfl (mem_main (hs.ownLen 0 rfl) my7))) underlying34 inf_u8_5 rfl (by decide) (bcs_len1 rfl) (bcs_one _) (by decide) (show y2.length + y7.length ≤ 1000000 by have h1 := l3y2; have h2 := l3y7; omega) (by rw [List.length_append]) (bcs_append _ _) rfl fun ad10 cp11 ac w hs => asg hs rfl rfl rfl fun ac hs => wpList_nil (then_n (wp_seq ?_)))
 replace hs := hs.nf w0 Z X [0, 2] rfl rfl rfl rfl
 refine wp_region_lit (mvv hs rfl rfl rfl fun ac hs => ?_)
 replace hs := hs.nilCel none rfl
 replace hs := hs.celEq 4 (N' := ([] : List Nat).length) (cs' := intL []) rfl rfl rfl
 obtain ⟨ks12, e13, hks12⟩ := ex2 (shufL 2 ([]) ks e1)
 have oks12 := shuf_ok ok (show ([] : List Nat).length ≤ 6 by decide) hks12
 refine stp (op_callX (F := 44) (ρ := M1) hs none none [0] [0, 1, 2, 4] (v := fun r => .tuple #[]) (S1 := [(true, oW am ks.length cm 34 vs), (true, oW aa js.length ca 34 us), (true, .bysO G (vs ++ us ++ xs) (ks ++ js ++ ts)), (true, cL none (([] : List Nat).length) 0 (intL []))]) (bs1 := [(true, gm, 61, [.slice am ks.length cm, .slice aa js.length ca, ni64 e1])]) (E := fun r => [(true, oW r.a ks12.length r.c 34 r.vs), (true, oW aa js.length ca 34 us), (true, .bysO r.G (r.vs ++ us ++ xs) (ks12 ++ js ++ ts)), (true, cL none (([] : List Nat).length) 0 (intL []))]) (E1 := fun r => [(true, oW r.a ks12.length r.c 34 r.vs), (true, oW aa js.length ca 34 us), (true, .bysO r.G (r.vs ++ us ++ xs) (ks12 ++ js ++ ts)), (true, cL none (([] : List Nat).length) 0 (intL []))]) (E2 := fun r => []) (bfA := fun r => [(true, gm, 61, [.slice r.a ks12.length r.c, .slice aa js.length ca, ni64 e13])]) (bf := fun r => [(true, gm, 61, [.slice r.a ks12.length r.c, .slice aa js.length ca, ni64 e13])]) (bf2 := fun r => []) rfl rfl rfl rfl rfl (call44 _) rfl rfl (by decide) (by decide) (fun Z X hm => shuffle_c gm am cm vs aa ca us G xs ts ks js e1 2 ([]) none 0 ks12 e13 (ok.mono (by decide)) (by decide) (by decide) hks12 _ _ _ hm) (fun _ => rfl) (fun _ => rfl) (fun _ => rfl) (fun _ => rfl) (fun _ => rfl) rfl fun ⟨ad14, cp15, vs16, G17⟩ ac w hs => wpList_nil (then_n (wp_region_lit (mvv hs rfl rfl rfl fun ac hs => mvv hs rfl rfl rfl fun ac hs => stp (op_bsO hs none none (qs := [(0, .slice ad10 ((y2 ++ y7).length) cp11)]) (cs := [.slice ad10 ((y2 ++ y7).length) cp11]) rfl rfl rfl rfl underlying22 inf_slice_34 (by decide) (by decide) (fill_one _ _ rfl) rfl rfl rfl rfl fun ad19 ac w hs => ?_)))))
 replace hs := hs.freeze 5 rfl
 replace hs := hs.freeze 3 rfl
 refine stp (op_callX (F := 38) (ρ := M1) hs none none [0] [0, 1, 2, 5, 3] (v := fun r => .tuple #[]) (S1 := [(true, oW ad14 ks12.length cp15 34 vs16), (true, oW aa js.length ca 34 us), (true, .bysO G17 (vs16 ++ us ++ xs) (ks12 ++ js ++ ts)), (true, cL ad19 1 1 ([.slice ad10 ((y2 ++ y7).length) cp11])), (true, cL ad10 ((y2 ++ y7).length) cp11 (bcs (y2 ++ y7)))]) (bs1 := [(true, gm, 61, [.slice ad14 ks12.length cp15, .slice aa js.length ca, ni64 e13])]) (E := fun r => [(true, oW r.a ((ks12 ++ [y2 ++ y7]).length) r.c 34 r.vs), (true, oW aa js.length ca 34 us), (true, .bysO r.G (r.vs ++ us ++ xs) ((ks12 ++ [y2 ++ y7]) ++ js ++ ts)), (true, cL ad19 1 1 ([.slice ad10 ((y2 ++ y7).length) cp11])), (true, cL ad10 ((y2 ++ y7).length) cp11 (bcs (y2 ++ y7)))]) (E1 := fun r => [(true, oW r.a ((ks12 ++ [y2 ++ y7]).length) r.c 34 r.vs), (true, oW aa js.length ca 34 us), (true, .bysO r.G (r.vs ++ us ++ xs) ((ks12 ++ [y2 ++ y7]) ++ js ++ ts)), (true, cL ad19 1 1 ([.slice ad10 ((y2 ++ y7).length) cp11])), (true, cL ad10 ((y2 ++ y7).length) cp11 (bcs (y2 ++ y7)))]) (E2 := fun r => []) (bfA := fun r => [(true, gm, 61, [.slice r.a ((ks12 ++ [y2 ++ y7]).length) r.c, .slice aa js.length ca, ni64 e13])]) (bf := fun r => [(true, gm, 61, [.slice r.a ((ks12 ++ [y2 ++ y7]).length) r.c, .slice aa js.length ca, ni64 e13])]) (bf2 := fun r => []) rfl rfl rfl rfl rfl (call38 _) rfl rfl (by decide) (by decide) (fun Z X hm => pushC_c gm ad14 cp15 vs16 aa ca us G17 xs ts ks12 js e13 ad19 1 ad10 cp11 (y2 ++ y7) lboth (oks12.mono (by decide)) ((y2 ++ y7).length) rfl _ _ _ hm) (fun _ => rfl) (fun _ => rfl) (fun _ => rfl) (fun _ => rfl) (fun _ => rfl) rfl fun ⟨ad20, cp21, vs22, G23⟩ ac w hs => wpList_nil ?_)
 have HS := hs
 subst ze1
 have hsh := shuf2 (n := 2) hl0 hks12
 obtain ⟨hk1, rfl⟩ := Prod.mk.inj ((if_pos he1 : joinL ks er = _).symm.trans hp)
 have hd1 : ks.getD (ks.length - 2) [] = y2 := (show ks.length - 1 - 1 = ks.length - 2 by omega) ▸ dy2
 have hd0 : ks.getD (ks.length - 1) [] = y7 := dy7
 rw [hd1, hd0, ← hsh.1] at hk1
 subst hk1
 obtain rfl : e13 = 0 := hsh.2
 have hs := HS
 exact bodyPost_end (res0 rfl) hs.defers ⟨⟨ad20, cp21, vs22, G23⟩, rfl, ((hs.selS [0, 1, 2] rfl (by decide)).selB [0] rfl (by decide)).mem⟩
theorem alike_c (gm : Nat) (am : Option Addr) (cm : Nat) (vs : List Value) (aa : Option Addr) (ca : Nat) (us : List Value) (G : Nat → Prop) (xs : List Value) (ts : BL) (ks js : BL) (er : Nat) (q : Bool) (k1 : BL) (e1 : Nat) (ok : OkN 3000 ks) (hp : alikL ks er = (q, k1, e1)) (w0 : World) (Z X : Nat → Prop) (hm : Mem ⟨w0, [], [(true, oW am ks.length cm 34 vs), (true, oW aa js.length ca 34 us), (true, .bysO G (vs ++ us ++ xs) (ks ++ js ++ ts))], Z, X⟩ [(true, gm, 61, [.slice am ks.length cm, .slice aa js.length ca, ni64 er])] w0) : Calls prog 53 #[ptA gm 0] w0 fun e w' => PostX w0 Z X (ρ := M1) (fun r => .bool q) (fun r => [(true, gm, 61, [.slice r.a k1.length r.c, .slice aa js.length ca, ni64 e1])]) (fun r => [(true, oW r.a k1.length r.c 34 r.vs), (true, oW aa js.length ca 34 us), (true, .bysO r.G (r.vs ++ us ++ xs) (k1 ++ js ++ ts))]) e w' := by
 have hk8 : ks.length ≤ 3000 := ok.1
 refine enterX (n := 15) (args := [ptA gm 0]) func53 rfl rfl (Nat.le_of_ble_eq_true rfl) hm fun ac hs => ?_
 have hv := hs.ownLen 0 rfl
 have hu := hs.ownLen 1 rfl
 refine wp_seq (wp_region_lit (asg hs rfl rfl rfl fun ac hs => wpList_nil (then_n (wp_seq (wp_seq (wp_region_lit (mvv hs rfl rfl rfl fun ac hs => ?_)))))))
 obtain ⟨e1, he1⟩ := ex1 (needE ks.length 2 er)
 refine stp (op_callX (F := 48) (ρ := Unit) hs none none [0] [] (v := fun r => .bool (decide (e1 = 0))) (S1 := []) (bs1 := [(true, gm, 61, [.slice am ks.length cm, .slice aa js.length ca, ni64 er])]) (E := fun r => []) (E1 := fun r => []) (E2 := fun r => []) (bfA := fun r => [(true, gm, 61, [.slice am ks.length cm, .slice aa js.length ca, ni64 e1])]) (bf := fun r => [(true, gm, 61, [.slice am ks.length cm, .slice aa js.length ca, ni64 e1])]) (bf2 := fun r => []) rfl rfl rfl rfl rfl (call48 _) rfl rfl (by decide) (by decide) (fun Z X hm => needs_c gm am ks.length cm (.slice aa js.length ca) er 2 e1 (decide (e1 = 0)) he1 rfl _ _ _ hm) (fun _ => rfl) (fun _ => rfl) (fun _ => rfl) (fun _ => rfl) (fun _ => rfl) rfl fun _ ac w hs => stp (op_un hs none (v := .bool (!(decide (e1 = 0)))) rfl rfl rfl (fun _ => rfl) rfl fun ac hs => wpList_nil (then_n (wcs hs rfl ?_ ?_))))
 ·intro hc
  have ze1 : ¬ e1 = 0 := by simpa using hc
  refine wp_seq (wp_region_lit (asg hs rfl rfl rfl fun ac hs => wpList_nil (then_n (wp_ret (then_r ?_)))))
  have HS := hs
  obtain ⟨rfl, rfl, rfl⟩ := inj3 ((if_neg (by rw [he1]; exact ze1) : alikL ks er = _).symm.trans hp)
  rw [← he1] at HS
  have hs := HS
  exact bodyPost_ret (res1 rfl (rv_t hs rfl)) hs.defers ⟨⟨am, cm, vs, G⟩, rfl, ((hs.selS [0, 1, 2] rfl (by decide)).selB [0] rfl (by decide)).mem⟩
 intro hc
 have ze1 : e1 = 0 := by simpa using hc
 have hnl := need_len (he1.trans ze1)
 have hl0 := hnl.1
 refine wp_skip (then_n (wp_seq (wp_region_lit (mvv hs rfl rfl rfl fun ac hs => ?_))))
 obtain ⟨y2, hy2⟩ : ∃ z0, ks[ks.length - 1 - 0]? = some z0 := ⟨_, List.getElem?_eq_getElem (show ks.length - 1 - 0 < ks.length by omega)⟩
 obtain ⟨ad3, cp4, ky2⟩ := hs.poolAt 2 rfl (hs.ownLen 0 rfl) hy2
 have my2 := zip_get ky2 hy2
 have ly2 : y2.length ≤ 8000 := (ok.mono (by decide)).2 _ (List.mem_of_getElem? hy2)
 have dy2 : ks.getD (ks.length - 1 - 0) [] = y2 := getD_of hy2
 refine stp (op_callX (F := 49) (ρ := Unit) hs none none [0] [0] (v := fun r => .slice ad3 y2.length cp4) (S1 := [(true, oW am ks.length cm 34 vs)]) (bs1 := [(true, gm, 61, [.slice am ks.length cm, .slice aa js.length ca, ni64 e1])]) (E := fun r => [(true, oW am ks.length cm 34 vs)]) (E1 := fun r => [(true, oW am ks.length cm 34 vs)]) (E2 := fun r => []) (bfA := fun r => [(true, gm, 61, [.slice am ks.length cm, .slice aa js.length ca, ni64 e1])]) (bf := fun r => [(true, gm, 61, [.slice am ks.length cm, .slice aa js.length ca, ni64 e1])]) (bf2 := fun r => []) rfl rfl rfl rfl rfl (call49 _) rfl rfl (by decide) (by decide) (fun Z X hm => top_c gm am cm vs ks (.slice aa js.length ca) e1 0 (.slice ad3 y2.length cp4) (show 0 < ks.length by omega) ky2 (ok.mono (by decide)) _ _ _ hm) (fun _ => rfl) (fun _ => rfl) (fun _ => rfl) (fun _ => rfl) (fun _ => rfl) rfl fun _ ac w hs => mvv hs rfl rfl rfl fun ac hs => ?_)
 obtain ⟨y5, hy5⟩ : ∃ z0, ks[ks.length - 1 - 1]? = some z0 := ⟨_, List.getElem?_eq_getElem (show ks.length - 1 - 1 < ks.length by omega)⟩
 obtain ⟨ad6, cp7, ky5⟩ := hs.poolAt 2 rfl (hs.ownLen 0 rfl) hy5
 have my5 := zip_get ky5 hy5
 have ly5 : y5.length ≤ 8000 := (ok.mono (by decide)).2 _ (List.mem_of_getElem? hy5)
 have dy5 : ks.getD (ks.length - 1 - 1) [] = y5 := getD_of hy5
 refine stp (op_callX (F := 49) (ρ := Unit) hs none none [0] [0] (v := fun r => .slice ad6 y5.length cp7) (S1 := [(true, oW am ks.length cm 34 vs)]) (bs1 := [(true, gm, 61, [.slice am ks.length cm, .slice aa js.length ca, ni64 e1])]) (E := fun r => [(true, oW am ks.length cm 34 vs)]) (E1 := fun r => [(true, oW am ks.length cm 34 vs)]) (E2 := fun r => []) (bfA := fun r => [(true, gm, 61, [.slice am ks.length cm, .slice aa js.length ca, ni64 e1])]) (bf := fun r => [(true, gm, 61, [.slice am ks.length cm, .slice aa js.length ca, ni64 e1])]) (bf2 := fun r => []) rfl rfl rfl rfl rfl (call49 _) rfl rfl (by decide) (by decide) (fun Z X hm => top_c gm am cm vs ks (.slice aa js.length ca) e1 1 (.slice ad6 y5.length cp7) (show 1 < ks.length by omega) ky5 (ok.mono (by decide)) _ _ _ hm) (fun _ => rfl) (fun _ => rfl) (fun _ => rfl) (fun _ => rfl) (fun _ => rfl) rfl fun _ ac w hs => stp (op_callV (F := 67) (ρ := Unit) hs none none (v := fun r => .bool (decide (y2 = y5))) (E := fun r => []) (j := 0) rfl rfl rfl rfl (call67 _) (fun hs => bequal_c ad3 y2.length cp4 y2 ad6 y5.length cp7 y5 (decide (y2 = y5)) rfl _ _ (hs.itemZ (k := 2) rfl (mem_main (hs.ownLen 0 rfl) my2)) (hs.itemZ (k := 2) rfl (mem_main (hs.ownLen 0 rfl) my5))) (fun _ => rfl) (fun _ => rfl) rfl rfl fun _ ac w hs => asg hs rfl rfl rfl fun ac hs => wpList_nil (then_n (wp_seq ?_))))
 replace hs := hs.nf w0 Z X [0, 2, 3] rfl rfl rfl rfl
 refine wp_region_lit (mvv hs rfl rfl rfl fun ac hs => ?_)
 replace hs := hs.nilCel none rfl
 replace hs := hs.celEq 3 (N' := ([] : List Nat).length) (cs' := intL []) rfl rfl rfl
 obtain ⟨ks8, e9, hks8⟩ := ex2 (shufL 2 ([]) ks e1)
 have oks8 := shuf_ok ok (show ([] : List Nat).length ≤ 6 by decide) hks8
 refine stp (op_callX (F := 44) (ρ := M1) hs none none [0] [0, 1, 2, 3] (v := fun r => .tuple #[]) (S1 := [(true, oW am ks.length cm 34 vs), (true, oW aa js.length ca 34 us), (true, .bysO G (vs ++ us ++ xs) (ks ++ js ++ ts)), (true, cL none (([] : List Nat).length) 0 (intL []))]) (bs1 := [(true, gm, 61, [.slice am ks.length cm, .slice aa js.length ca, ni64 e1])]) (E := fun r => [(true, oW r.a ks8.length r.c 34 r.vs), (true, oW aa js.length ca 34 us), (true, .bysO r.G (r.vs ++ us ++ xs) (ks8 ++ js ++ ts)), (true, cL none (([] : List Nat).length) 0 (intL []))]) (E1 := fun r => [(true, oW r.a ks8.length r.c 34 r.vs), (true, oW aa js.length ca 34 us), (true, .bysO r.G (r.vs ++ us ++ xs) (ks8 ++ js ++ ts)), (true, cL none (([] : List Nat).length) 0 (intL []))]) (E2 := fun r => []) (bfA := fun r => [(true, gm, 61, [.slice r.a ks8.length r.c, .slice aa js.length ca, ni64 e9])]) (bf := fun r => [(true, gm, 61, [.slice r.a ks8.length r.c, .slice aa js.length ca, ni64 e9])]) (bf2 := fun r => []) rfl rfl rfl rfl rfl (call44 _) rfl rfl (by decide) (by decide) (fun Z X hm => shuffle_c gm am cm vs aa ca us G xs ts ks js e1 2 ([]) none 0 ks8 e9 (ok.mono (by decide)) (by decide) (by decide) hks8 _ _ _ hm) (fun _ => rfl) (fun _ => rfl) (fun _ => rfl) (fun _ => rfl) (fun _ => rfl) rfl fun ⟨ad10, cp11, vs12, G13⟩ ac w hs => wpList_nil (then_n (wp_seq (wp_region_lit (mvv hs rfl rfl rfl fun ac hs => asg hs rfl rfl rfl fun ac hs => wpList_nil (then_n (wp_ret ?_)))))))
 have HS := hs
 subst ze1
 have hsh := shuf2 (n := 2) hl0 hks8
 obtain ⟨hq, hk1, rfl⟩ := inj3 ((if_pos he1 : alikL ks er = _).symm.trans hp)
 have hd1 : ks.getD (ks.length - 2) [] = y5 := (show ks.length - 1 - 1 = ks.length - 2 by omega) ▸ dy5
 have hd0 : ks.getD (ks.length - 1) [] = y2 := dy2
 rw [hd1, hd0] at hq
 rw [← hsh.1] at hk1
 subst hk1
 subst hq
 obtain rfl : e9 = 0 := hsh.2
 have hs := HS
 exact bodyPost_ret (res1 rfl (rv_t hs rfl)) hs.defers ⟨⟨ad10, cp11, vs12, G13⟩, rfl, ((hs.selS [0, 1, 2] rfl (by decide)).selB [0] rfl (by decide)).mem⟩
theorem hashS_c (gm : Nat) (am : Option Addr) (cm : Nat) (vs : List Value) (aa : Option Addr) (ca : Nat) (us : List Value) (G : Nat → Prop) (xs : List Value) (ts : BL) (ks js : BL) (er : Nat) (k1 : BL) (e1 : Nat) (ok : OkN 3000 ks) (hp : hashL shaV ks er = (k1, e1)) (w0 : World) (Z X : Nat → Prop) (hm : Mem ⟨w0, [], [(true, oW am ks.length cm 34 vs), (true, oW aa js.length ca 34 us), (true, .bysO G (vs ++ us ++ xs) (ks ++ js ++ ts))], Z, X⟩ [(true, gm, 61, [.slice am ks.length cm, .slice aa js.length ca, ni64 er])] w0) : Calls prog 54 #[ptA gm 0, .func (.func 55) #[] #[]] w0 fun e w' => PostX w0 Z X (ρ := M1) (fun r => .tuple #[]) (fun r => [(true, gm, 61, [.slice r.a k1.length r.c, .slice aa js.length ca, ni64 e1])]) (fun r => [(true, oW r.a k1.length r.c 34 r.vs), (true, oW aa js.length ca 34 us), (true, .bysO r.G (r.vs ++ us ++ xs) (k1 ++ js ++ ts))]) e w' := by
 have hk8 : ks.length ≤ 3000 := ok.1
 refine enterX (n := 16) (args := [ptA gm 0, .func (.func 55) #[] #[]]) func54 rfl rfl (Nat.le_of_ble_eq_true rfl) hm fun ac hs => ?_
 have hv := hs.ownLen 0 rfl
 have hu := hs.ownLen 1 rfl
 refine wp_seq (wp_seq (wp_region_lit (mvv hs rfl rfl rfl fun ac hs => ?_)))
 obtain ⟨e1, he1⟩ := ex1 (needE ks.length 1 er)
 refine stp (op_callX (F := 48) (ρ := Unit) hs none none [0] [] (v := fun r => .bool (decide (e1 = 0))) (S1 := []) (bs1 := [(true, gm, 61, [.slice am ks.length cm, .slice aa js.length ca, ni64 er])]) (E := fun r => []) (E1 := fun r => []) (E2 := fun r => []) (bfA := fun r => [(true, gm, 61, [.slice am ks.length cm, .slice aa js.length ca, ni64 e1])]) (bf := fun r => [(true, gm, 61, [.slice am ks.length cm, .slice aa js.length ca, ni64 e1])]) (bf2 := fun r => []) rfl rfl rfl rfl rfl (call48 _) rfl rfl (by decide) (by decide) (fun Z X hm => needs_c gm am ks.length cm (.slice aa js.length ca) er 1 e1 (decide (e1 = 0)) he1 rfl _ _ _ hm) (fun _ => rfl) (fun _ => rfl) (fun _ => rfl) (fun _ => rfl) (fun _ => rfl) rfl fun _ ac w hs => stp (op_un hs none (v := .bool (!(decide (e1 = 0)))) rfl rfl rfl (fun _ => rfl) rfl fun ac hs => wpList_nil (then_n (wcs hs rfl ?_ ?_))))
 ·intro hc
  have ze1 : ¬ e1 = 0 := by simpa using hc
  refine wp_ret (then_r ?_)
  have HS := hs
  obtain ⟨rfl, rfl⟩ := Prod.mk.inj ((if_neg (by rw [he1]; exact ze1) : hashL shaV ks er = _).symm.trans hp)
  rw [← he1] at HS
  have hs := HS
  exact bodyPost_ret (res0 rfl) hs.defers ⟨⟨am, cm, vs, G⟩, rfl, ((hs.selS [0, 1, 2] rfl (by decide)).selB [0] rfl (by decide)).mem⟩
 intro hc
 have ze1 : e1 = 0 := by simpa using hc
 have hnl := need_len (he1.trans ze1)
 have hl0 := hnl.1
 refine wp_skip (then_n (wp_seq (wp_region_lit (mvv hs rfl rfl rfl fun ac hs => mvv hs rfl rfl rfl fun ac hs => ?_))))
 obtain ⟨p2, ks3, e4, hks3⟩ := ex3 (popL ks e1)
 obtain ⟨oks3, lp2⟩ := pop_ok ok hks3
 replace lp2 : p2.length ≤ 8000 := Nat.le_trans lp2 (by decide)
 refine stp (op_callX (F := 39) (ρ := M1x) hs none none [0] [0, 1, 2] (v := fun r => .slice r.x p2.length r.y) (S1 := [(true, oW am ks.length cm 34 vs), (true, oW aa js.length ca 34 us), (true, .bysO G (vs ++ us ++ xs) (ks ++ js ++ ts))]) (bs1 := [(true, gm, 61, [.slice am ks.length cm, .slice aa js.length ca, ni64 e1])]) (E := fun r => [(true, oW r.a ks3.length r.c 34 r.vs), (true, oW aa js.length ca 34 us), (true, .bysO G (r.vs ++ us ++ (xs ++ [.slice r.x p2.length r.y])) (ks3 ++ js ++ (ts ++ [p2])))]) (E1 := fun r => [(true, oW r.a ks3.length r.c 34 r.vs), (true, oW aa js.length ca 34 us), (true, .bysO G (r.vs ++ us ++ (xs ++ [.slice r.x p2.length r.y])) (ks3 ++ js ++ (ts ++ [p2])))]) (E2 := fun r => []) (bfA := fun r => [(true, gm, 61, [.slice r.a ks3.length r.c, .slice aa js.length ca, ni64 e4])]) (bf := fun r => [(true, gm, 61, [.slice r.a ks3.length r.c, .slice aa js.length ca, ni64 e4])]) (bf2 := fun r => []) rfl rfl rfl rfl rfl (call39 _) rfl rfl (by decide) (by decide) (fun Z X hm => pop_c gm am cm vs aa ca us G xs ts ks js e1 p2 ks3 e4 (ok.mono (by decide)) hks3 _ _ _ hm) (fun _ => rfl) (fun _ => rfl) (fun _ => rfl) (fun _ => rfl) (fun _ => rfl) rfl fun ⟨ad5, cp6, vs7, ad8, cp9⟩ ac w hs => stp (op_callV (F := 55) (ρ := Unit) hs none none (v := fun r => At .u8 32 (sha p2)) (E := fun r => []) (j := 0) rfl rfl rfl rfl (call55 _) (fun hs => sum_c ad8 p2.length cp9 p2 (Nat.le_trans (show p2.length ≤ 100000 from (Nat.le_trans lp2 (by decide))) (by decide)) _ _ (hs.itemZ (k := 2) rfl (mem_last3 (hs.bLen 2 rfl)))) (fun _ => rfl) (fun _ => rfl) rfl rfl fun _ ac w hs => stp (op_alloc hs none none (cs := (tab .u8 32 (fun _ => 0))) rfl rfl zeroValue89 (by kernel_rfl) rfl rfl fun g10 ac w hs => stp (stoo hs 1 ((tab .u8 32 (sha p2))) sizeOf89 rfl rfl rfl rfl rfl (by kernel_rfl) tab_length' (tab_one _ _ _) tab_leA wr_tab fun w hs => wpList_nil (then_n ?_)))))
 replace hs := hs.nf w0 Z X [0, 4] rfl rfl rfl rfl
 refine wp_region_lit (mvv hs rfl rfl rfl fun ac hs => ?_)
 replace hs := hs.arrCel none 1 (n0 := 32) (f := sha p2) rfl (fun j hj => sha_lt p2 j) (by decide) rfl
 replace hs := hs.selB [0] rfl (by decide)
 refine stp (op_val hs none (v := .slice (some ⟨g10, 0, none⟩) 32 32) rfl rfl (run_slA rfl (hs.ev rfl) underlying89 sizeOf5) fun ac hs => stp (op_bsO hs none none (qs := [(0, .slice (some ⟨g10, 0, none⟩) 32 32)]) (cs := [.slice (some ⟨g10, 0, none⟩) 32 32]) rfl rfl rfl rfl underlying22 inf_slice_34 (by decide) (by decide) (fill_one _ _ rfl) rfl rfl rfl rfl fun ad12 ac w hs => ?_))
 replace hs := hs.freeze 4 rfl
 refine stp (op_callX (F := 38) (ρ := M1) hs none none [0] [0, 1, 2, 4, 3] (v := fun r => .tuple #[]) (S1 := [(true, oW ad5 ks3.length cp6 34 vs7), (true, oW aa js.length ca 34 us), (true, .bysO G (vs7 ++ us ++ (xs ++ [.slice ad8 p2.length cp9])) (ks3 ++ js ++ (ts ++ [p2]))), (true, cL ad12 1 1 ([.slice (some ⟨g10, 0, none⟩) 32 32])), (true, cL (some ⟨g10, 0, none⟩) 32 32 (bcs (btl 32 (sha p2))))]) (bs1 := [(true, gm, 61, [.slice ad5 ks3.length cp6, .slice aa js.length ca, ni64 e4])]) (E := fun r => [(true, oW r.a ((ks3 ++ [btl 32 (sha p2)]).length) r.c 34 r.vs), (true, oW aa js.length ca 34 us), (true, .bysO r.G (r.vs ++ us ++ (xs ++ [.slice ad8 p2.length cp9])) ((ks3 ++ [btl 32 (sha p2)]) ++ js ++ (ts ++ [p2]))), (true, cL ad12 1 1 ([.slice (some ⟨g10, 0, none⟩) 32 32])), (true, cL (some ⟨g10, 0, none⟩) 32 32 (bcs (btl 32 (sha p2))))]) (E1 := fun r => [(true, oW r.a ((ks3 ++ [btl 32 (sha p2)]).length) r.c 34 r.vs), (true, oW aa js.length ca 34 us), (true, .bysO r.G (r.vs ++ us ++ (xs ++ [.slice ad8 p2.length cp9])) ((ks3 ++ [btl 32 (sha p2)]) ++ js ++ (ts ++ [p2]))), (true, cL ad12 1 1 ([.slice (some ⟨g10, 0, none⟩) 32 32])), (true, cL (some ⟨g10, 0, none⟩) 32 32 (bcs (btl 32 (sha p2))))]) (E2 := fun r => []) (bfA := fun r => [(true, gm, 61, [.slice r.a ((ks3 ++ [btl 32 (sha p2)]).length) r.c, .slice aa js.length ca, ni64 e4])]) (bf := fun r => [(true, gm, 61, [.slice r.a ((ks3 ++ [btl 32 (sha p2)]).length) r.c, .slice aa js.length ca, ni64 e4])]) (bf2 := fun r => []) rfl rfl rfl rfl rfl (call38 _) rfl rfl (by decide) (by decide) (fun Z X hm => pushC_c gm ad5 cp6 vs7 aa ca us G (xs ++ [.slice ad8 p2.length cp9]) (ts ++ [p2]) ks3 js e4 ad12 1 (some ⟨g10, 0, none⟩) 32 (btl 32 (sha p2)) (Nat.le_trans (Nat.le_of_eq (btl_len 32 _)) (by decide)) (oks3.mono (by decide)) 32 (btl_len 32 _).symm _ _ _ hm) (fun _ => rfl) (fun _ => rfl) (fun _ => rfl) (fun _ => rfl) (fun _ => rfl) rfl fun ⟨ad13, cp14, vs15, G16⟩ ac w hs => wpList_nil ?_)
 have HS := hs
 subst ze1
 obtain ⟨hx1, hk2, he2⟩ := inj3 ((pop_at hl0).symm.trans hks3)
 obtain ⟨hk1, rfl⟩ := Prod.mk.inj ((if_pos he1 : hashL shaV ks er = _).symm.trans hp)
 rw [hx1, hk2] at hk1
 replace hk1 : ks3 ++ [btl 32 (sha p2)] = k1 := hk1
 subst hk1
 obtain rfl : 0 = e4 := he2
 have hs := HS
 replace hs := hs.dropB (zs := [.slice ad8 p2.length cp9]) (rs := [p2]) 2 (hs.xsLen 2 rfl (hs.ownLen 0 rfl) (hs.ownLen 1 rfl)) rfl (hs.ownLen 0 rfl) (hs.ownLen 1 rfl)
 exact bodyPost_end (res0 rfl) hs.defers ⟨⟨ad13, cp14, vs15, G16⟩, rfl, ((hs.selS [0, 1, 2] rfl (by decide)).selB [0] rfl (by decide)).mem⟩
theorem hashD_c (gm : Nat) (am : Option Addr) (cm : Nat) (vs : List Value) (aa : Option Addr) (ca : Nat) (us : List Value) (G : Nat → Prop) (xs : List Value) (ts : BL) (ks js : BL) (er : Nat) (k1 : BL) (e1 : Nat) (ok : OkN 3000 ks) (hp : hashL dblV ks er = (k1, e1)) (w0 : World) (Z X : Nat → Prop) (hm : Mem ⟨w0, [], [(true, oW am ks.length cm 34 vs), (true, oW aa js.length ca 34 us), (true, .bysO G (vs ++ us ++ xs) (ks ++ js ++ ts))], Z, X⟩ [(true, gm, 61, [.slice am ks.length cm, .slice aa js.length ca, ni64 er])] w0) : Calls prog 54 #[ptA gm 0, .func (.func 56) #[] #[]] w0 fun e w' => PostX w0 Z X (ρ := M1) (fun r => .tuple #[]) (fun r => [(true, gm, 61, [.slice r.a k1.length r.c, .slice aa js.length ca, ni64 e1])]) (fun r => [(true, oW r.a k1.length r.c 34 r.vs), (true, oW aa js.length ca 34 us), (true, .bysO r.G (r.vs ++ us ++ xs) (k1 ++ js ++ ts))]) e w' := by
 have hk8 : ks.length ≤ 3000 := ok.1
 refine enterX (n := 16) (args := [ptA gm 0, .func (.func 56) #[] #[]]) func54 rfl rfl (Nat.le_of_ble_eq_true rfl) hm fun ac hs => ?_
 have hv := hs.ownLen 0 rfl
 have hu := hs.ownLen 1 rfl
 refine wp_seq (wp_seq (wp_region_lit (mvv hs rfl rfl rfl fun ac hs => ?_)))
 obtain ⟨e1, he1⟩ := ex1 (needE ks.length 1 er)
 refine stp (op_callX (F := 48) (ρ := Unit) hs none none [0] [] (v := fun r => .bool (decide (e1 = 0))) (S1 := []) (bs1 := [(true, gm, 61, [.slice am ks.length cm, .slice aa js.length ca, ni64 er])]) (E := fun r => []) (E1 := fun r => []) (E2 := fun r => []) (bfA := fun r => [(true, gm, 61, [.slice am ks.length cm, .slice aa js.length ca, ni64 e1])]) (bf := fun r => [(true, gm, 61, [.slice am ks.length cm, .slice aa js.length ca, ni64 e1])]) (bf2 := fun r => []) rfl rfl rfl rfl rfl (call48 _) rfl rfl (by decide) (by decide) (fun Z X hm => needs_c gm am ks.length cm (.slice aa js.length ca) er 1 e1 (decide (e1 = 0)) he1 rfl _ _ _ hm) (fun _ => rfl) (fun _ => rfl) (fun _ => rfl) (fun _ => rfl) (fun _ => rfl) rfl fun _ ac w hs => stp (op_un hs none (v := .bool (!(decide (e1 = 0)))) rfl rfl rfl (fun _ => rfl) rfl fun ac hs => wpList_nil (then_n (wcs hs rfl ?_ ?_))))
 ·intro hc
  have ze1 : ¬ e1 = 0 := by simpa using hc
  refine wp_ret (then_r ?_)
  have HS := hs
  obtain ⟨rfl, rfl⟩ := Prod.mk.inj ((if_neg (by rw [he1]; exact ze1) : hashL dblV ks er = _).symm.trans hp)
  rw [← he1] at HS
  have hs := HS
  exact bodyPost_ret (res0 rfl) hs.defers ⟨⟨am, cm, vs, G⟩, rfl, ((hs.selS [0, 1, 2] rfl (by decide)).selB [0] rfl (by decide)).mem⟩
 intro hc
 have ze1 : e1 = 0 := by simpa using hc
 have hnl := need_len (he1.trans ze1)
 have hl0 := hnl.1
 refine wp_skip (then_n (wp_seq (wp_region_lit (mvv hs rfl rfl rfl fun ac hs => mvv hs rfl rfl rfl fun ac hs => ?_))))
 obtain ⟨p2, ks3, e4, hks3⟩ := ex3 (popL ks e1)
 obtain ⟨oks3, lp2⟩ := pop_ok ok hks3
 replace lp2 : p2.length ≤ 8000 := Nat.le_trans lp2 (by decide)
 refine stp (op_callX (F := 39) (ρ := M1x) hs none none [0] [0, 1, 2] (v := fun r => .slice r.x p2.length r.y) (S1 := [(true, oW am ks.length cm 34 vs), (true, oW aa js.length ca 34 us), (true, .bysO G (vs ++ us ++ xs) (ks ++ js ++ ts))]) (bs1 := [(true, gm, 61, [.slice am ks.length cm, .slice aa js.length ca, ni64 e1])]) (E := fun r => [(true, oW r.a ks3.length r.c 34 r.vs), (true, oW aa js.length ca 34 us), (true, .bysO G (r.vs ++ us ++ (xs ++ [.slice r.x p2.length r.y])) (ks3 ++ js ++ (ts ++ [p2])))]) (E1 := fun r => [(true, oW r.a ks3.length r.c 34 r.vs), (true, oW aa js.length ca 34 us), (true, .bysO G (r.vs ++ us ++ (xs ++ [.slice r.x p2.length r.y])) (ks3 ++ js ++ (ts ++ [p2])))]) (E2 := fun r => []) (bfA := fun r => [(true, gm, 61, [.slice r.a ks3.length r.c, .slice aa js.length ca, ni64 e4])]) (bf := fun r => [(true, gm, 61, [.slice r.a ks3.length r.c, .slice aa js.length ca, ni64 e4])]) (bf2 := fun r => []) rfl rfl rfl rfl rfl (call39 _) rfl rfl (by decide) (by decide) (fun Z X hm => pop_c gm am cm vs aa ca us G xs ts ks js e1 p2 ks3 e4 (ok.mono (by decide)) hks3 _ _ _ hm) (fun _ => rfl) (fun _ => rfl) (fun _ => rfl) (fun _ => rfl) (fun _ => rfl) rfl fun ⟨ad5, cp6, vs7, ad8, cp9⟩ ac w hs => stp (op_callV (F := 56) (ρ := Unit) hs none none (v := fun r => At .u8 32 (dbl p2)) (E := fun r => []) (j := 0) rfl rfl rfl rfl (call56 _) (fun hs => double_c ad8 p2.length cp9 p2 (Nat.le_trans (show p2.length ≤ 100000 from (Nat.le_trans lp2 (by decide))) (by decide)) _ _ (hs.itemZ (k := 2) rfl (mem_last3 (hs.bLen 2 rfl)))) (fun _ => rfl) (fun _ => rfl) rfl rfl fun _ ac w hs => stp (op_alloc hs none none (cs := (tab .u8 32 (fun _ => 0))) rfl rfl zeroValue89 (by kernel_rfl) rfl rfl fun g10 ac w hs => stp (stoo hs 1 ((tab .u8 32 (dbl p2))) sizeOf89 rfl rfl rfl rfl rfl (by kernel_rfl) tab_length' (tab_one _ _ _) tab_leA wr_tab fun w hs => wpList_nil (then_n ?_)))))
 replace hs := hs.nf w0 Z X [0, 4] rfl rfl rfl rfl
 refine wp_region_lit (mvv hs rfl rfl rfl fun ac hs => ?_)
 replace hs := hs.arrCel none 1 (n0 := 32) (f := dbl p2) rfl (fun j hj => dbl_lt p2 j) (by decide) rfl
 replace hs := hs.selB [0] rfl (by decide)
 refine stp (op_val hs none (v := .slice (some ⟨g10, 0, none⟩) 32 32) rfl rfl (run_slA rfl (hs.ev rfl) underlying89 sizeOf5) fun ac hs => stp (op_bsO hs none none (qs := [(0, .slice (some ⟨g10, 0, none⟩) 32 32)]) (cs := [.slice (some ⟨g10, 0, none⟩) 32 32]) rfl rfl rfl rfl underlying22 inf_slice_34 (by decide) (by decide) (fill_one _ _ rfl) rfl rfl rfl rfl fun ad12 ac w hs => ?_))
 replace hs := hs.freeze 4 rfl
 refine stp (op_callX (F := 38) (ρ := M1) hs none none [0] [0, 1, 2, 4, 3] (v := fun r => .tuple #[]) (S1 := [(true, oW ad5 ks3.length cp6 34 vs7), (true, oW aa js.length ca 34 us), (true, .bysO G (vs7 ++ us ++ (xs ++ [.slice ad8 p2.length cp9])) (ks3 ++ js ++ (ts ++ [p2]))), (true, cL ad12 1 1 ([.slice (some ⟨g10, 0, none⟩) 32 32])), (true, cL (some ⟨g10, 0, none⟩) 32 32 (bcs (btl 32 (dbl p2))))]) (bs1 := [(true, gm, 61, [.slice ad5 ks3.length cp6, .slice aa js.length ca, ni64 e4])]) (E := fun r => [(true, oW r.a ((ks3 ++ [btl 32 (dbl p2)]).length) r.c 34 r.vs), (true, oW aa js.length ca 34 us), (true, .bysO r.G (r.vs ++ us ++ (xs ++ [.slice ad8 p2.length cp9])) ((ks3 ++ [btl 32 (dbl p2)]) ++ js ++ (ts ++ [p2]))), (true, cL ad12 1 1 ([.slice (some ⟨g10, 0, none⟩) 32 32])), (true, cL (some ⟨g10, 0, none⟩) 32 32 (bcs (btl 32 (dbl p2))))]) (E1 := fun r => [(true, oW r.a ((ks3 ++ [btl 32 (dbl p2)]).length) r.c 34 r.vs), (true, oW aa js.length ca 34 us), (true, .bysO r.G (r.vs ++ us ++ (xs ++ [.slice ad8 p2.length cp9])) ((ks3 ++ [btl 32 (dbl p2)]) ++ js ++ (ts ++ [p2]))), (true, cL ad12 1 1 ([.slice (some ⟨g10, 0, none⟩) 32 32])), (true, cL (some ⟨g10, 0, none⟩) 32 32 (bcs (btl 32 (dbl p2))))]) (E2 := fun r => []) (bfA := fun r => [(true, gm, 61, [.slice r.a ((ks3 ++ [btl 32 (dbl p2)]).length) r.c, .slice aa js.length ca, ni64 e4])]) (bf := fun r => [(true, gm, 61, [.slice r.a ((ks3 ++ [btl 32 (dbl p2)]).length) r.c, .slice aa js.length ca, ni64 e4])]) (bf2 := fun r => []) rfl rfl rfl rfl rfl (call38 _) rfl rfl (by decide) (by decide) (fun Z X hm => pushC_c gm ad5 cp6 vs7 aa ca us G (xs ++ [.slice ad8 p2.length cp9]) (ts ++ [p2]) ks3 js e4 ad12 1 (some ⟨g10, 0, none⟩) 32 (btl 32 (dbl p2)) (Nat.le_trans (Nat.le_of_eq (btl_len 32 _)) (by decide)) (oks3.mono (by decide)) 32 (btl_len 32 _).symm _ _ _ hm) (fun _ => rfl) (fun _ => rfl) (fun _ => rfl) (fun _ => rfl) (fun _ => rfl) rfl fun ⟨ad13, cp14, vs15, G16⟩ ac w hs => wpList_nil ?_)
 have HS := hs
 subst ze1
 obtain ⟨hx1, hk2, he2⟩ := inj3 ((pop_at hl0).symm.trans hks3)
 obtain ⟨hk1, rfl⟩ := Prod.mk.inj ((if_pos he1 : hashL dblV ks er = _).symm.trans hp)
 rw [hx1, hk2] at hk1
 replace hk1 : ks3 ++ [btl 32 (dbl p2)] = k1 := hk1
 subst hk1
 obtain rfl : 0 = e4 := he2
 have hs := HS
 replace hs := hs.dropB (zs := [.slice ad8 p2.length cp9]) (rs := [p2]) 2 (hs.xsLen 2 rfl (hs.ownLen 0 rfl) (hs.ownLen 1 rfl)) rfl (hs.ownLen 0 rfl) (hs.ownLen 1 rfl)
 exact bodyPost_end (res0 rfl) hs.defers ⟨⟨ad13, cp14, vs15, G16⟩, rfl, ((hs.selS [0, 1, 2] rfl (by decide)).selB [0] rfl (by decide)).mem⟩
theorem truI_c (b : Bool) (w0 : World) : Calls prog 71 #[.bool b] w0 fun e w' => e = .returned (.int .i64 (truI b)) ∧ Below w0.heap.size w0 w' := by
 refine enter (n := 4) (args := [.bool b]) func71 rfl rfl (Nat.le_of_ble_eq_true rfl) fun ac hs => wp_seq (wp_region_lit (asg hs rfl rfl rfl fun ac hs => wpList_nil (then_n (wp_seq (wp_seq (wp_region_lit (mvv hs rfl rfl rfl fun ac hs => wpList_nil (then_n (wcs hs rfl ?_ ?_)))))))))
 ·intro hc
  obtain rfl : b = true := hc
  refine wp_seq (wp_region_lit (asg hs rfl rfl rfl fun ac hs => wpList_nil (then_n (wp_ret (then_r ?_)))))
  exact bodyPost_ret (res1 rfl (rv_t hs rfl)) hs.defers ⟨rfl, (hs.bel rfl)⟩
 intro hc
 obtain rfl : b = false := hc
 refine wp_skip (then_n (wp_seq (wp_region_lit (asg hs rfl rfl rfl fun ac hs => wpList_nil (then_n (wp_ret ?_))))))
 exact bodyPost_ret (res1 rfl (rv_t hs rfl)) hs.defers ⟨rfl, (hs.bel rfl)⟩
theorem unary_c (op : Nat) (x z : Int) (q : Bool) (hb : -2147483648 < x ∧ x < 2147483648) (h : unL op x = (z, q)) (w0 : World) : Calls prog 58 #[nu8 op, .int .i64 x] w0 fun e w' => e = .returned (.tuple #[.int .i64 z, .bool q]) ∧ Below w0.heap.size w0 w' := by
 obtain ⟨hb1, hb2⟩ := hb
 refine enter (n := 35) (args := [nu8 op, .int .i64 x]) func58 rfl rfl (Nat.le_of_ble_eq_true rfl) fun ac hs => wp_seq (wp_region_lit (asg hs rfl rfl rfl fun ac hs => asg hs rfl rfl rfl fun ac hs => wpList_nil (then_n (wp_seq (wp_seq (wp_region_lit (mvv hs rfl rfl rfl fun ac hs => wpList_nil (then_n (wp_block (wp_seq (wp_region_lit (bnn hs (.bool (decide (op = 139))) rfl rfl rfl rfl (bin_eqlN (y := 139)) fun ac hs => asg hs rfl rfl rfl fun ac hs => wpList_nil (then_n ?_)))))))))))))
 refine wcs hs rfl ?_ ?_
 ·intro hc
  have hp1 := of_decide_eq_true hc
  refine wp_seq (wp_region_lit (mvv hs rfl rfl rfl fun ac hs => bnn hs (.int .i64 (x + 1)) rfl rfl rfl rfl (bin_addI (y := 1) (z := x + 1) rfl (by omega) (by omega)) fun ac hs => asg hs rfl rfl rfl fun ac hs => asg hs rfl rfl rfl fun ac hs => wpList_nil (then_n (wp_ret (blk_r (then_r ?_))))))
  exact bodyPost_ret (res2 rfl (rv_t hs rfl) (rv_t hs rfl)) hs.defers ⟨by obtain ⟨rfl, rfl⟩ := Prod.mk.inj ((show unL op x = (x + 1, true) from by unfold unL; rw [if_pos hp1]).symm.trans h); rfl, (hs.bel rfl)⟩
 intro hc
 have hp2 := of_decide_eq_false hc
 refine wp_seq (wp_region_lit (bnn hs (.bool (decide (op = 140))) rfl rfl rfl rfl (bin_eqlN (y := 140)) fun ac hs => asg hs rfl rfl rfl fun ac hs => wpList_nil (then_n (wcs hs rfl ?_ ?_))))
 ·intro hc
  have hp3 := of_decide_eq_true hc
  refine wp_seq ?_
  replace hs := hs.n0 [1, 4, 5] rfl rfl
  refine wp_region_lit (mvv hs rfl rfl rfl fun ac hs => bnn hs (.int .i64 (x - 1)) rfl rfl rfl rfl (bin_subI (y := 1) (z := x - 1) rfl (by omega) (by omega)) fun ac hs => asg hs rfl rfl rfl fun ac hs => asg hs rfl rfl rfl fun ac hs => wpList_nil (then_n (wp_ret (blk_r (then_r ?_)))))
  exact bodyPost_ret (res2 rfl (rv_t hs rfl) (rv_t hs rfl)) hs.defers ⟨by obtain ⟨rfl, rfl⟩ := Prod.mk.inj ((show unL op x = (x - 1, true) from by unfold unL; rw [if_neg hp2, if_pos hp3]).symm.trans h); rfl, (hs.bel rfl)⟩
 intro hc
 have hp4 := of_decide_eq_false hc
 refine wp_seq ?_
 replace hs := hs.n0 [1, 4, 5, 6] rfl rfl
 refine wp_region_lit (bnn hs (.bool (decide (op = 143))) rfl rfl rfl rfl (bin_eqlN (y := 143)) fun ac hs => asg hs rfl rfl rfl fun ac hs => wpList_nil (then_n (wcs hs rfl ?_ ?_)))
 ·intro hc
  have hp5 := of_decide_eq_true hc
  refine wp_seq (wp_region_lit (mvv hs rfl rfl rfl fun ac hs => stp (op_un hs none (v := .int .i64 (-x)) rfl rfl rfl (un_neg (by omega) (by omega)) rfl fun ac hs => asg hs rfl rfl rfl fun ac hs => asg hs rfl rfl rfl fun ac hs => wpList_nil (then_n (wp_ret (blk_r (then_r ?_)))))))
  exact bodyPost_ret (res2 rfl (rv_t hs rfl) (rv_t hs rfl)) hs.defers ⟨by obtain ⟨rfl, rfl⟩ := Prod.mk.inj ((show unL op x = (-x, true) from by unfold unL; rw [if_neg hp2, if_neg hp4, if_pos hp5]).symm.trans h); rfl, (hs.bel rfl)⟩
 intro hc
 have hp6 := of_decide_eq_false hc
 refine wp_seq (wp_region_lit (bnn hs (.bool (decide (op = 144))) rfl rfl rfl rfl (bin_eqlN (y := 144)) fun ac hs => asg hs rfl rfl rfl fun ac hs => wpList_nil (then_n (wcs hs rfl ?_ ?_))))
 ·intro hc
  have hp7 := of_decide_eq_true hc
  refine wp_seq (wp_region_lit (mvv hs rfl rfl rfl fun ac hs => mvv hs rfl rfl rfl fun ac hs => stp (op_un hs none (v := .int .i64 (-x)) rfl rfl rfl (un_neg (by omega) (by omega)) rfl fun ac hs => stp (op_blt hs none (v := .int .i64 (max x (-x))) rfl rfl rfl blt_maxI rfl fun ac hs => asg hs rfl rfl rfl fun ac hs => asg hs rfl rfl rfl fun ac hs => wpList_nil (then_n (wp_ret (blk_r (then_r ?_))))))))
  exact bodyPost_ret (res2 rfl (rv_t hs rfl) (rv_t hs rfl)) hs.defers ⟨by obtain ⟨rfl, rfl⟩ := Prod.mk.inj ((show unL op x = (max x (-x), true) from by unfold unL; rw [if_neg hp2, if_neg hp4, if_neg hp6, if_pos hp7]).symm.trans h); rfl, (hs.bel rfl)⟩
 intro hc
 have hp8 := of_decide_eq_false hc
 refine wp_seq (wp_region_lit (bnn hs (.bool (decide (op = 145))) rfl rfl rfl rfl (bin_eqlN (y := 145)) fun ac hs => asg hs rfl rfl rfl fun ac hs => wpList_nil (then_n (wcs hs rfl ?_ ?_))))
 ·intro hc
  have hp9 := of_decide_eq_true hc
  refine wp_seq ?_
  replace hs := hs.n0 [1, 4, 5] rfl rfl
  refine wp_region_lit (mvv hs rfl rfl rfl fun ac hs => bnn hs (.bool (decide (x = 0))) rfl rfl rfl rfl (bin_eqlI (y := 0)) fun ac hs => stp (op_call (F := 71) hs none (v := .int .i64 (truI (decide (x = 0)))) rfl rfl rfl rfl (call71 _) (truI_c (decide (x = 0))) rfl fun ac w hs => asg hs rfl rfl rfl fun ac hs => asg hs rfl rfl rfl fun ac hs => wpList_nil (then_n (wp_ret (blk_r (then_r ?_))))))
  exact bodyPost_ret (res2 rfl (rv_t hs rfl) (rv_t hs rfl)) hs.defers ⟨by obtain ⟨rfl, rfl⟩ := Prod.mk.inj ((show unL op x = (truI (decide (x = 0)), true) from by unfold unL; rw [if_neg hp2, if_neg hp4, if_neg hp6, if_neg hp8, if_pos hp9]).symm.trans h); rfl, (hs.bel rfl)⟩
 intro hc
 have hp10 := of_decide_eq_false hc
 refine wp_seq ?_
 replace hs := hs.n0 [1, 4, 5, 6] rfl rfl
 refine wp_region_lit (bnn hs (.bool (decide (op = 146))) rfl rfl rfl rfl (bin_eqlN (y := 146)) fun ac hs => asg hs rfl rfl rfl fun ac hs => wpList_nil (then_n (wcs hs rfl ?_ ?_)))
 ·intro hc
  have hp11 := of_decide_eq_true hc
  refine wp_seq (wp_region_lit (mvv hs rfl rfl rfl fun ac hs => bnn hs (.bool (decide (x ≠ 0))) rfl rfl rfl rfl (bin_neqI (y := 0)) fun ac hs => stp (op_call (F := 71) hs none (v := .int .i64 (truI (decide (x ≠ 0)))) rfl rfl rfl rfl (call71 _) (truI_c (decide (x ≠ 0))) rfl fun ac w hs => asg hs rfl rfl rfl fun ac hs => asg hs rfl rfl rfl fun ac hs => wpList_nil (then_n (wp_ret (blk_r (then_r ?_)))))))
  exact bodyPost_ret (res2 rfl (rv_t hs rfl) (rv_t hs rfl)) hs.defers ⟨by obtain ⟨rfl, rfl⟩ := Prod.mk.inj ((show unL op x = (truI (decide (x ≠ 0)), true) from by unfold unL; rw [if_neg hp2, if_neg hp4, if_neg hp6, if_neg hp8, if_neg hp10, if_pos hp11]).symm.trans h); rfl, (hs.bel rfl)⟩
 intro hc
 have hp12 := of_decide_eq_false hc
 refine wp_skip (blk_n (then_n (wp_seq (wp_region_lit (asg hs rfl rfl rfl fun ac hs => asg hs rfl rfl rfl fun ac hs => wpList_nil (then_n (wp_ret ?_)))))))
 exact bodyPost_ret (res2 rfl (rv_t hs rfl) (rv_t hs rfl)) hs.defers ⟨by obtain ⟨rfl, rfl⟩ := Prod.mk.inj ((show unL op x = (0, false) from by unfold unL; rw [if_neg hp2, if_neg hp4, if_neg hp6, if_neg hp8, if_neg hp10, if_neg hp12]).symm.trans h); rfl, (hs.bel rfl)⟩
theorem compares_c (op : Nat) (x y : Int) (b q : Bool) (h : cmpL op x y = (b, q)) (w0 : World) : Calls prog 72 #[nu8 op, .int .i64 x, .int .i64 y] w0 fun e w' => e = .returned (.tuple #[.bool b, .bool q]) ∧ Below w0.heap.size w0 w' := by
 refine enter (n := 56) (args := [nu8 op, .int .i64 x, .int .i64 y]) func72 rfl rfl (Nat.le_of_ble_eq_true rfl) fun ac hs => wp_seq (wp_region_lit (asg hs rfl rfl rfl fun ac hs => asg hs rfl rfl rfl fun ac hs => wpList_nil (then_n (wp_seq (wp_seq (wp_region_lit (mvv hs rfl rfl rfl fun ac hs => wpList_nil (then_n (wp_block (wp_seq (wp_region_lit (bnn hs (.bool (decide (op = 154))) rfl rfl rfl rfl (bin_eqlN (y := 154)) fun ac hs => asg hs rfl rfl rfl fun ac hs => wpList_nil (then_n ?_)))))))))))))
 refine wcs hs rfl ?_ ?_
 ·intro hc
  have hp1 := of_decide_eq_true hc
  refine wp_seq ?_
  by_cases hq2 : x ≠ 0
  ·refine wp_region_lit ?_
   refine mvv hs rfl rfl rfl fun ac hs => bnn hs (.bool true) rfl rfl rfl rfl (fun w => dT hq2 (bin_neqI (y := 0) w)) fun ac hs => mvv hs rfl rfl rfl fun ac hs => lstep (wpO_in hs rfl rfl rfl (op_move hs none rfl rfl rfl rfl fun ac hs => lstep (wpO_in hs rfl rfl rfl (op_bin hs none (v := .bool (decide (y ≠ 0))) rfl rfl rfl rfl (fun _ => rfl) (bin_neqI (x := y) (y := 0)) rfl fun ac hs => stp (op_pickT hs none rfl rfl rfl rfl rfl fun ac hs => asg hs rfl rfl rfl fun ac hs => asg hs rfl rfl rfl fun ac hs => wpList_nil (then_n (wp_ret (blk_r (then_r ?_)))))))))
   exact bodyPost_ret (res2 rfl (rv_t hs rfl) (rv_t hs rfl)) hs.defers ⟨by have h0 := h; unfold cmpL at h0; rw [if_pos hp1] at h0; obtain ⟨rfl, rfl⟩ := Prod.mk.inj h0; first | rfl | simp [hq2], (hs.bel rfl)⟩
  refine wp_region_lit (mvv hs rfl rfl rfl fun ac hs => bnn hs (.bool false) rfl rfl rfl rfl (fun w => dF hq2 (bin_neqI (y := 0) w)) fun ac hs => mvv hs rfl rfl rfl fun ac hs => lstep (wpO_out hs none rfl rfl (.inl rfl) rfl rfl fun ac hs => lstep (wpO_out hs none rfl rfl (.inl rfl) rfl rfl fun ac hs => stp (op_pickF hs none rfl rfl rfl rfl rfl fun ac hs => asg hs rfl rfl rfl fun ac hs => asg hs rfl rfl rfl fun ac hs => wpList_nil (then_n (wp_ret (blk_r (then_r ?_))))))))
  exact bodyPost_ret (res2 rfl (rv_t hs rfl) (rv_t hs rfl)) hs.defers ⟨by have h0 := h; unfold cmpL at h0; rw [if_pos hp1] at h0; obtain ⟨rfl, rfl⟩ := Prod.mk.inj h0; first | rfl | simp [hq2], (hs.bel rfl)⟩
 intro hc
 have hp3 := of_decide_eq_false hc
 refine wp_seq (wp_region_lit (bnn hs (.bool (decide (op = 155))) rfl rfl rfl rfl (bin_eqlN (y := 155)) fun ac hs => asg hs rfl rfl rfl fun ac hs => wpList_nil (then_n (wcs hs rfl ?_ ?_))))
 ·intro hc
  have hp4 := of_decide_eq_true hc
  refine wp_seq ?_
  by_cases hq5 : x ≠ 0
  ·replace hs := hs.n0 [1, 2, 6, 7] rfl rfl
   refine wp_region_lit (mvv hs rfl rfl rfl fun ac hs => bnn hs (.bool true) rfl rfl rfl rfl (fun w => dT hq5 (bin_neqI (y := 0) w)) fun ac hs => mvv hs rfl rfl rfl fun ac hs => lstep (wpO_out hs none rfl rfl (.inl rfl) rfl rfl fun ac hs => lstep (wpO_out hs none rfl rfl (.inl rfl) rfl rfl fun ac hs => stp (op_pickT hs none rfl rfl rfl rfl rfl fun ac hs => asg hs rfl rfl rfl fun ac hs => asg hs rfl rfl rfl fun ac hs => wpList_nil (then_n (wp_ret (blk_r (then_r ?_))))))))
   exact bodyPost_ret (res2 rfl (rv_t hs rfl) (rv_t hs rfl)) hs.defers ⟨by have h0 := h; unfold cmpL at h0; rw [if_neg hp3, if_pos hp4] at h0; obtain ⟨rfl, rfl⟩ := Prod.mk.inj h0; first | rfl | simp [hq5], (hs.bel rfl)⟩
  replace hs := hs.n0 [1, 2, 6, 7] rfl rfl
  refine wp_region_lit (mvv hs rfl rfl rfl fun ac hs => bnn hs (.bool false) rfl rfl rfl rfl (fun w => dF hq5 (bin_neqI (y := 0) w)) fun ac hs => mvv hs rfl rfl rfl fun ac hs => lstep (wpO_in hs rfl rfl rfl (op_move hs none rfl rfl rfl rfl fun ac hs => lstep (wpO_in hs rfl rfl rfl (op_bin hs none (v := .bool (decide (y ≠ 0))) rfl rfl rfl rfl (fun _ => rfl) (bin_neqI (x := y) (y := 0)) rfl fun ac hs => stp (op_pickF hs none rfl rfl rfl rfl rfl fun ac hs => asg hs rfl rfl rfl fun ac hs => asg hs rfl rfl rfl fun ac hs => wpList_nil (then_n (wp_ret (blk_r (then_r ?_))))))))))
  exact bodyPost_ret (res2 rfl (rv_t hs rfl) (rv_t hs rfl)) hs.defers ⟨by have h0 := h; unfold cmpL at h0; rw [if_neg hp3, if_pos hp4] at h0; obtain ⟨rfl, rfl⟩ := Prod.mk.inj h0; first | rfl | simp [hq5], (hs.bel rfl)⟩
 intro hc
 have hp6 := of_decide_eq_false hc
 refine wp_seq (wp_seq ?_)
 replace hs := hs.n0 [1, 2, 6, 7, 8] rfl rfl
 refine wp_region_lit (bnn hs (.bool (decide (op = 156))) rfl rfl rfl rfl (bin_eqlN (y := 156)) fun ac hs => asg hs rfl rfl rfl fun ac hs => wpList_nil (then_n (wcs hs rfl ?_ ?_)))
 ·intro hc
  have hp7 := of_decide_eq_true hc
  refine wp_skip (then_n (wp_cond_true (hs.evb rfl (decide_eq_true hp7)) (wp_seq (wp_region_lit (mvv hs rfl rfl rfl fun ac hs => mvv hs rfl rfl rfl fun ac hs => bnn hs (.bool (decide (x = y))) rfl rfl rfl rfl bin_eqlI fun ac hs => asg hs rfl rfl rfl fun ac hs => asg hs rfl rfl rfl fun ac hs => wpList_nil (then_n (wp_ret (blk_r (then_r ?_)))))))))
  exact bodyPost_ret (res2 rfl (rv_t hs rfl) (rv_t hs rfl)) hs.defers ⟨by have h0 := h; unfold cmpL at h0; rw [if_neg hp3, if_neg hp6, if_pos hp7] at h0; obtain ⟨rfl, rfl⟩ := Prod.mk.inj h0; first | rfl | simp [], (hs.bel rfl)⟩
 intro hc
 have hp8 := of_decide_eq_false hc
 refine wp_region_lit (bnn hs (.bool (decide (op = 157))) rfl rfl rfl rfl (bin_eqlN (y := 157)) fun ac hs => asg hs rfl rfl rfl fun ac hs => wpList_nil (then_n (wcs hs rfl ?_ ?_)))
 ·intro hc
  have hp9 := of_decide_eq_true hc
  refine wp_seq (wp_region_lit (mvv hs rfl rfl rfl fun ac hs => mvv hs rfl rfl rfl fun ac hs => bnn hs (.bool (decide (x = y))) rfl rfl rfl rfl bin_eqlI fun ac hs => asg hs rfl rfl rfl fun ac hs => asg hs rfl rfl rfl fun ac hs => wpList_nil (then_n (wp_ret (blk_r (then_r ?_))))))
  exact bodyPost_ret (res2 rfl (rv_t hs rfl) (rv_t hs rfl)) hs.defers ⟨by have h0 := h; unfold cmpL at h0; rw [if_neg hp3, if_neg hp6, if_neg hp8, if_pos hp9] at h0; obtain ⟨rfl, rfl⟩ := Prod.mk.inj h0; first | rfl | simp [], (hs.bel rfl)⟩
 intro hc
 have hp10 := of_decide_eq_false hc
 refine wp_seq (wp_region_lit (bnn hs (.bool (decide (op = 158))) rfl rfl rfl rfl (bin_eqlN (y := 158)) fun ac hs => asg hs rfl rfl rfl fun ac hs => wpList_nil (then_n (wcs hs rfl ?_ ?_))))
 ·intro hc
  have hp11 := of_decide_eq_true hc
  refine wp_seq ?_
  replace hs := hs.n0 [1, 2, 6, 7] rfl rfl
  refine wp_region_lit (mvv hs rfl rfl rfl fun ac hs => mvv hs rfl rfl rfl fun ac hs => bnn hs (.bool (decide (x ≠ y))) rfl rfl rfl rfl bin_neqI fun ac hs => asg hs rfl rfl rfl fun ac hs => asg hs rfl rfl rfl fun ac hs => wpList_nil (then_n (wp_ret (blk_r (then_r ?_)))))
  exact bodyPost_ret (res2 rfl (rv_t hs rfl) (rv_t hs rfl)) hs.defers ⟨by have h0 := h; unfold cmpL at h0; rw [if_neg hp3, if_neg hp6, if_neg hp8, if_neg hp10, if_pos hp11] at h0; obtain ⟨rfl, rfl⟩ := Prod.mk.inj h0; first | rfl | simp [], (hs.bel rfl)⟩
 intro hc
 have hp12 := of_decide_eq_false hc
 refine wp_seq ?_
 replace hs := hs.n0 [1, 2, 6, 7, 8] rfl rfl
 refine wp_region_lit (bnn hs (.bool (decide (op = 159))) rfl rfl rfl rfl (bin_eqlN (y := 159)) fun ac hs => asg hs rfl rfl rfl fun ac hs => wpList_nil (then_n (wcs hs rfl ?_ ?_)))
 ·intro hc
  have hp13 := of_decide_eq_true hc
  refine wp_seq (wp_region_lit (mvv hs rfl rfl rfl fun ac hs => mvv hs rfl rfl rfl fun ac hs => bnn hs (.bool (decide (x < y))) rfl rfl rfl rfl bin_lssI fun ac hs => asg hs rfl rfl rfl fun ac hs => asg hs rfl rfl rfl fun ac hs => wpList_nil (then_n (wp_ret (blk_r (then_r ?_))))))
  exact bodyPost_ret (res2 rfl (rv_t hs rfl) (rv_t hs rfl)) hs.defers ⟨by have h0 := h; unfold cmpL at h0; rw [if_neg hp3, if_neg hp6, if_neg hp8, if_neg hp10, if_neg hp12, if_pos hp13] at h0; obtain ⟨rfl, rfl⟩ := Prod.mk.inj h0; first | rfl | simp [], (hs.bel rfl)⟩
 intro hc
 have hp14 := of_decide_eq_false hc
 refine wp_seq (wp_region_lit (bnn hs (.bool (decide (op = 160))) rfl rfl rfl rfl (bin_eqlN (y := 160)) fun ac hs => asg hs rfl rfl rfl fun ac hs => wpList_nil (then_n (wcs hs rfl ?_ ?_))))
 ·intro hc
  have hp15 := of_decide_eq_true hc
  refine wp_seq (wp_region_lit (mvv hs rfl rfl rfl fun ac hs => mvv hs rfl rfl rfl fun ac hs => bnn hs (.bool (decide (y < x))) rfl rfl rfl rfl bin_gtrI fun ac hs => asg hs rfl rfl rfl fun ac hs => asg hs rfl rfl rfl fun ac hs => wpList_nil (then_n (wp_ret (blk_r (then_r ?_))))))
  exact bodyPost_ret (res2 rfl (rv_t hs rfl) (rv_t hs rfl)) hs.defers ⟨by have h0 := h; unfold cmpL at h0; rw [if_neg hp3, if_neg hp6, if_neg hp8, if_neg hp10, if_neg hp12, if_neg hp14, if_pos hp15] at h0; obtain ⟨rfl, rfl⟩ := Prod.mk.inj h0; first | rfl | simp [], (hs.bel rfl)⟩
 intro hc
 have hp16 := of_decide_eq_false hc
 refine wp_seq (wp_region_lit (bnn hs (.bool (decide (op = 161))) rfl rfl rfl rfl (bin_eqlN (y := 161)) fun ac hs => asg hs rfl rfl rfl fun ac hs => wpList_nil (then_n (wcs hs rfl ?_ ?_))))
 ·intro hc
  have hp17 := of_decide_eq_true hc
  refine wp_seq ?_
  replace hs := hs.n0 [1, 2, 6, 7] rfl rfl
  refine wp_region_lit (mvv hs rfl rfl rfl fun ac hs => mvv hs rfl rfl rfl fun ac hs => bnn hs (.bool (decide (x ≤ y))) rfl rfl rfl rfl bin_leqI fun ac hs => asg hs rfl rfl rfl fun ac hs => asg hs rfl rfl rfl fun ac hs => wpList_nil (then_n (wp_ret (blk_r (then_r ?_)))))
  exact bodyPost_ret (res2 rfl (rv_t hs rfl) (rv_t hs rfl)) hs.defers ⟨by have h0 := h; unfold cmpL at h0; rw [if_neg hp3, if_neg hp6, if_neg hp8, if_neg hp10, if_neg hp12, if_neg hp14, if_neg hp16, if_pos hp17] at h0; obtain ⟨rfl, rfl⟩ := Prod.mk.inj h0; first | rfl | simp [], (hs.bel rfl)⟩
 intro hc
 have hp18 := of_decide_eq_false hc
 refine wp_seq ?_
 replace hs := hs.n0 [1, 2, 6, 7, 8] rfl rfl
 refine wp_region_lit (bnn hs (.bool (decide (op = 162))) rfl rfl rfl rfl (bin_eqlN (y := 162)) fun ac hs => asg hs rfl rfl rfl fun ac hs => wpList_nil (then_n (wcs hs rfl ?_ ?_)))
 ·intro hc
  have hp19 := of_decide_eq_true hc
  refine wp_seq (wp_region_lit (mvv hs rfl rfl rfl fun ac hs => mvv hs rfl rfl rfl fun ac hs => bnn hs (.bool (decide (y ≤ x))) rfl rfl rfl rfl bin_geqI fun ac hs => asg hs rfl rfl rfl fun ac hs => asg hs rfl rfl rfl fun ac hs => wpList_nil (then_n (wp_ret (blk_r (then_r ?_))))))
  exact bodyPost_ret (res2 rfl (rv_t hs rfl) (rv_t hs rfl)) hs.defers ⟨by have h0 := h; unfold cmpL at h0; rw [if_neg hp3, if_neg hp6, if_neg hp8, if_neg hp10, if_neg hp12, if_neg hp14, if_neg hp16, if_neg hp18, if_pos hp19] at h0; obtain ⟨rfl, rfl⟩ := Prod.mk.inj h0; first | rfl | simp [], (hs.bel rfl)⟩
 intro hc
 have hp20 := of_decide_eq_false hc
 refine wp_skip (blk_n (then_n (wp_seq (wp_region_lit (asg hs rfl rfl rfl fun ac hs => asg hs rfl rfl rfl fun ac hs => wpList_nil (then_n (wp_ret ?_)))))))
 exact bodyPost_ret (res2 rfl (rv_t hs rfl) (rv_t hs rfl)) hs.defers ⟨by have h0 := h; unfold cmpL at h0; rw [if_neg hp3, if_neg hp6, if_neg hp8, if_neg hp10, if_neg hp12, if_neg hp14, if_neg hp16, if_neg hp18, if_neg hp20] at h0; obtain ⟨rfl, rfl⟩ := Prod.mk.inj h0; first | rfl | simp [], (hs.bel rfl)⟩
theorem binary_c (op : Nat) (x y z : Int) (q : Bool) (hb : -2147483648 < x ∧ x < 2147483648) (hb' : -2147483648 < y ∧ y < 2147483648) (h : binL op x y = (z, q)) (w0 : World) : Calls prog 59 #[nu8 op, .int .i64 x, .int .i64 y] w0 fun e w' => e = .returned (.tuple #[.int .i64 z, .bool q]) ∧ Below w0.heap.size w0 w' := by
 obtain ⟨hb1, hb2⟩ := hb
 obtain ⟨hb3, hb4⟩ := hb'
 refine enter (n := 41) (args := [nu8 op, .int .i64 x, .int .i64 y]) func59 rfl rfl (Nat.le_of_ble_eq_true rfl) fun ac hs => wp_seq (wp_region_lit (asg hs rfl rfl rfl fun ac hs => asg hs rfl rfl rfl fun ac hs => wpList_nil (then_n (wp_seq (wp_seq (wp_region_lit (mvv hs rfl rfl rfl fun ac hs => wpList_nil (then_n (wp_block (wp_seq (wp_region_lit (bnn hs (.bool (decide (op = 147))) rfl rfl rfl rfl (bin_eqlN (y := 147)) fun ac hs => asg hs rfl rfl rfl fun ac hs => wpList_nil (then_n ?_)))))))))))))
 refine wcs hs rfl ?_ ?_
 ·intro hc
  have hp1 := of_decide_eq_true hc
  refine wp_seq (wp_region_lit (mvv hs rfl rfl rfl fun ac hs => mvv hs rfl rfl rfl fun ac hs => bnn hs (.int .i64 (x + y)) rfl rfl rfl rfl (bin_addI (z := x + y) rfl (by omega) (by omega)) fun ac hs => asg hs rfl rfl rfl fun ac hs => asg hs rfl rfl rfl fun ac hs => wpList_nil (then_n (wp_ret (blk_r (then_r ?_))))))
  exact bodyPost_ret (res2 rfl (rv_t hs rfl) (rv_t hs rfl)) hs.defers ⟨by have h0 := h; unfold binL at h0; rw [if_pos hp1] at h0; obtain ⟨rfl, rfl⟩ := Prod.mk.inj h0; rfl, (hs.bel rfl)⟩
 intro hc
 have hp2 := of_decide_eq_false hc
 refine wp_seq (wp_region_lit (bnn hs (.bool (decide (op = 148))) rfl rfl rfl rfl (bin_eqlN (y := 148)) fun ac hs => asg hs rfl rfl rfl fun ac hs => wpList_nil (then_n (wcs hs rfl ?_ ?_))))
 ·intro hc
  have hp3 := of_decide_eq_true hc
  refine wp_seq ?_
  replace hs := hs.n0 [0, 1, 2, 6, 7] rfl rfl
  refine wp_region_lit (mvv hs rfl rfl rfl fun ac hs => mvv hs rfl rfl rfl fun ac hs => bnn hs (.int .i64 (x - y)) rfl rfl rfl rfl (bin_subI (z := x - y) rfl (by omega) (by omega)) fun ac hs => asg hs rfl rfl rfl fun ac hs => asg hs rfl rfl rfl fun ac hs => wpList_nil (then_n (wp_ret (blk_r (then_r ?_)))))
  exact bodyPost_ret (res2 rfl (rv_t hs rfl) (rv_t hs rfl)) hs.defers ⟨by have h0 := h; unfold binL at h0; rw [if_neg hp2, if_pos hp3] at h0; obtain ⟨rfl, rfl⟩ := Prod.mk.inj h0; rfl, (hs.bel rfl)⟩
 intro hc
 have hp4 := of_decide_eq_false hc
 refine wp_seq ?_
 replace hs := hs.n0 [0, 1, 2, 6, 7, 10] rfl rfl
 refine wp_region_lit (bnn hs (.bool (decide (op = 163))) rfl rfl rfl rfl (bin_eqlN (y := 163)) fun ac hs => asg hs rfl rfl rfl fun ac hs => wpList_nil (then_n (wcs hs rfl ?_ ?_)))
 ·intro hc
  have hp5 := of_decide_eq_true hc
  refine wp_seq (wp_region_lit (mvv hs rfl rfl rfl fun ac hs => mvv hs rfl rfl rfl fun ac hs => stp (op_blt hs none (v := .int .i64 (min x y)) rfl rfl rfl blt_minI rfl fun ac hs => asg hs rfl rfl rfl fun ac hs => asg hs rfl rfl rfl fun ac hs => wpList_nil (then_n (wp_ret (blk_r (then_r ?_)))))))
  exact bodyPost_ret (res2 rfl (rv_t hs rfl) (rv_t hs rfl)) hs.defers ⟨by have h0 := h; unfold binL at h0; rw [if_neg hp2, if_neg hp4, if_pos hp5] at h0; obtain ⟨rfl, rfl⟩ := Prod.mk.inj h0; rfl, (hs.bel rfl)⟩
 intro hc
 have hp6 := of_decide_eq_false hc
 refine wp_seq (wp_region_lit (bnn hs (.bool (decide (op = 164))) rfl rfl rfl rfl (bin_eqlN (y := 164)) fun ac hs => asg hs rfl rfl rfl fun ac hs => wpList_nil (then_n (wcs hs rfl ?_ ?_))))
 ·intro hc
  have hp7 := of_decide_eq_true hc
  refine wp_seq (wp_region_lit (mvv hs rfl rfl rfl fun ac hs => mvv hs rfl rfl rfl fun ac hs => stp (op_blt hs none (v := .int .i64 (max x y)) rfl rfl rfl blt_maxI rfl fun ac hs => asg hs rfl rfl rfl fun ac hs => asg hs rfl rfl rfl fun ac hs => wpList_nil (then_n (wp_ret (blk_r (then_r ?_)))))))
  exact bodyPost_ret (res2 rfl (rv_t hs rfl) (rv_t hs rfl)) hs.defers ⟨by have h0 := h; unfold binL at h0; rw [if_neg hp2, if_neg hp4, if_neg hp6, if_pos hp7] at h0; obtain ⟨rfl, rfl⟩ := Prod.mk.inj h0; rfl, (hs.bel rfl)⟩
 intro hc
 have hp8 := of_decide_eq_false hc
 refine wp_skip (blk_n (then_n (wp_seq (wp_region_lit (mvv hs rfl rfl rfl fun ac hs => mvv hs rfl rfl rfl fun ac hs => mvv hs rfl rfl rfl fun ac hs => ?_)))))
 obtain ⟨z9, q10, hz9⟩ := ex2 (cmpL op x y)
 refine stp (op_call (F := 72) hs none (v := .tuple #[.bool z9, .bool q10]) rfl rfl rfl rfl (call72 _) (compares_c op x y z9 q10 hz9) rfl fun ac w hs => mvv hs rfl rfl rfl fun ac hs => stp (xtr hs none rfl rfl rfl rfl rfl fun ac hs => stp (xtr hs none rfl rfl rfl rfl rfl fun ac hs => asg hs rfl rfl rfl fun ac hs => asg hs rfl rfl rfl fun ac hs => wpList_nil (then_n (wp_seq ?_)))))
 replace hs := hs.n0 [6, 7, 8, 9] rfl rfl
 refine wp_region_lit (mvv hs rfl rfl rfl fun ac hs => stp (op_call (F := 71) hs none (v := .int .i64 (truI z9)) rfl rfl rfl rfl (call71 _) (truI_c z9) rfl fun ac w hs => mvv hs rfl rfl rfl fun ac hs => asg hs rfl rfl rfl fun ac hs => asg hs rfl rfl rfl fun ac hs => wpList_nil (then_n (wp_ret ?_))))
 exact bodyPost_ret (res2 rfl (rv_t hs rfl) (rv_t hs rfl)) hs.defers ⟨by have h0 := h; unfold binL at h0; rw [if_neg hp2, if_neg hp4, if_neg hp6, if_neg hp8, hz9] at h0; obtain ⟨rfl, rfl⟩ := Prod.mk.inj h0; rfl, (hs.bel rfl)⟩
theorem ops1_c (gm : Nat) (am : Option Addr) (cm : Nat) (vs : List Value) (aa : Option Addr) (ca : Nat) (us : List Value) (G : Nat → Prop) (xs : List Value) (ts : BL) (ks js : BL) (er : Nat) (y0 : Int) (k1 : BL) (e1 : Nat) (ok : OkN 3000 ks) (hp : opsL 1 ks er = ([y0], k1, e1)) (w0 : World) (Z X : Nat → Prop) (hm : Mem ⟨w0, [], [(true, oW am ks.length cm 34 vs), (true, oW aa js.length ca 34 us), (true, .bysO G (vs ++ us ++ xs) (ks ++ js ++ ts))], Z, X⟩ [(true, gm, 61, [.slice am ks.length cm, .slice aa js.length ca, ni64 er])] w0) : Calls prog 57 #[ptA gm 0, .int .i64 1] w0 fun e w' => PostX w0 Z X (ρ := M1o) (fun r => .slice (some ⟨r.o, 0, none⟩) 1 1) (fun r => [(true, gm, 61, [.slice r.a k1.length r.c, .slice aa js.length ca, ni64 e1]), (true, r.o, 2, [.int .i64 y0])]) (fun r => [(true, oW r.a k1.length r.c 34 r.vs), (true, oW aa js.length ca 34 us), (true, .bysO G (r.vs ++ us ++ xs) (k1 ++ js ++ ts))]) e w' := by
 have hk8 : ks.length ≤ 3000 := ok.1
 refine enterX (n := 28) (args := [ptA gm 0, .int .i64 1]) func57 rfl rfl (Nat.le_of_ble_eq_true rfl) hm fun ac hs => ?_
 have hv := hs.ownLen 0 rfl
 have hu := hs.ownLen 1 rfl
 refine wp_seq (wp_region_lit (asg hs rfl rfl rfl fun ac hs => wpList_nil (then_n (wp_seq (wp_region_lit (mvv hs rfl rfl rfl fun ac hs => stp (op_makeS hs none none (l := 1) rfl rfl rfl rfl underlying73 inf_i64_2 (show 1 ≤ 1000000 by omega) (by decide) rfl rfl fun g1 ac w hs => asg hs rfl rfl rfl fun ac hs => wpList_nil ?_)))))))
 replace hs := hs.setb 1 (cs' := [.int .i64 0]) rfl rfl
 refine then_n (wp_seq (wp_seq (wp_region_lit (mvv hs rfl rfl rfl fun ac hs => mvv hs rfl rfl rfl fun ac hs => ?_))))
 obtain ⟨e2, he2⟩ := ex1 (needE ks.length 1 er)
 refine stp (op_callX (F := 48) (ρ := Unit) hs none none [0] [] (v := fun r => .bool (decide (e2 = 0))) (S1 := []) (bs1 := [(true, gm, 61, [.slice am ks.length cm, .slice aa js.length ca, ni64 er])]) (E := fun r => []) (E1 := fun r => []) (E2 := fun r => []) (bfA := fun r => [(true, gm, 61, [.slice am ks.length cm, .slice aa js.length ca, ni64 e2])]) (bf := fun r => [(true, gm, 61, [.slice am ks.length cm, .slice aa js.length ca, ni64 e2])]) (bf2 := fun r => []) rfl rfl rfl rfl rfl (call48 _) rfl rfl (by decide) (by decide) (fun Z X hm => needs_c gm am ks.length cm (.slice aa js.length ca) er 1 e2 (decide (e2 = 0)) he2 rfl _ _ _ hm) (fun _ => rfl) (fun _ => rfl) (fun _ => rfl) (fun _ => rfl) (fun _ => rfl) rfl fun _ ac w hs => stp (op_un hs none (v := .bool (!(decide (e2 = 0)))) rfl rfl rfl (fun _ => rfl) rfl fun ac hs => wpList_nil (then_n (wcs hs rfl ?_ ?_))))
 ·intro hc
  have ze2 : ¬ e2 = 0 := by simpa using hc
  refine wp_seq ?_
  replace hs := hs.nf w0 Z X [0, 1, 4, 5] rfl rfl rfl rfl
  refine wp_region_lit (mvv hs rfl rfl rfl fun ac hs => asg hs rfl rfl rfl fun ac hs => wpList_nil (then_n (wp_ret (then_r ?_))))
  have HS := hs
  obtain ⟨hz0, rfl, rfl⟩ := inj3 ((if_neg (by rw [he2]; exact ze2) : opsL 1 ks er = _).symm.trans hp)
  obtain rfl : 0 = y0 := by simpa using hz0
  rw [← he2] at HS
  have hs := HS
  exact bodyPost_ret (res1 rfl (rv_t hs rfl)) hs.defers ⟨⟨am, cm, vs, g1⟩, rfl, ((hs.selS [0, 1, 2] rfl (by decide)).selB [0, 1] rfl (by decide)).mem⟩
 intro hc
 have ze2 : e2 = 0 := by simpa using hc
 have hnl := need_len (he2.trans ze2)
 have hl0 := hnl.1
 refine wp_skip (then_n (wp_seq (wp_seq ?_)))
 replace hs := hs.nf w0 Z X [0, 1, 4, 5] rfl rfl rfl rfl
 refine wp_region_lit (mvv hs rfl rfl rfl fun ac hs => bnn hs (.int .i64 0) rfl rfl rfl rfl (fun _ => by kernel_rfl) fun ac hs => asg hs rfl rfl rfl fun ac hs => wpList_nil (then_n (wp_block ?_)))
 rw [ze2] at hs
 refine wp_loop_m (fun μ ac w => (1 = μ ∧ St 28 ⟨w0, [], [(true, oW am ks.length cm 34 vs), (true, oW aa js.length ca 34 us), (true, .bysO G (vs ++ us ++ xs) (ks ++ js ++ ts))], Z, X⟩ [(0, true, ptA gm 0), (5, true, .slice (some ⟨g1, 0, none⟩) 1 1), (6, true, .int .i64 0)] [(true, gm, 61, [.slice am ks.length cm, .slice aa js.length ca, .int .i64 0]), (true, g1, 2, [.int .i64 0])] ac w) ∨ (∃ (a1 : Option Addr) (c1 : Nat) (v1 : List Value) (kk : BL) (ee : Nat) (z0 : Int), 0 = μ ∧ (OkN 3000 kk) ∧ (opsR 1 ks 0 = ((opsR 0 kk ee).1 ++ [z0], (opsR 0 kk ee).2)) ∧ St 28 ⟨w0, [], [(true, oW a1 kk.length c1 34 v1), (true, oW aa js.length ca 34 us), (true, .bysO G (v1 ++ us ++ xs) (kk ++ js ++ ts))], Z, X⟩ [(0, true, ptA gm 0), (5, true, .slice (some ⟨g1, 0, none⟩) 1 1), (6, true, .int .i64 (-1))] [(true, gm, 61, [.slice a1 kk.length c1, .slice aa js.length ca, ni64 ee]), (true, g1, 2, [.int .i64 z0])] ac w)) ?_ ?_
 ·exact ⟨_, .inl ⟨rfl, (hs.re (fs' := [(0, true, ptA gm 0), (5, true, .slice (some ⟨g1, 0, none⟩) 1 1), (6, true, .int .i64 0)]) ⟨rfl, rfl, rfl, trivial⟩)⟩⟩
 intro μ ac w hJ
 rcases hJ with hJ | hJ
 ·obtain ⟨rfl, hs⟩ := hJ
  refine wp_seq (wp_seq (wp_region_lit (mvv hs rfl rfl rfl fun ac hs => bnn hs (.bool true) rfl rfl rfl rfl (fun _ => by kernel_rfl) fun ac hs => wpList_nil (then_n (wp_cond_true (hs.ev rfl) (wp_skip (then_n (wp_seq (wp_block (wp_region_lit (mvv hs rfl rfl rfl fun ac hs => mvv hs rfl rfl rfl fun ac hs => mvv hs rfl rfl rfl fun ac hs => mvv hs rfl rfl rfl fun ac hs => ?_)))))))))))
  obtain ⟨p3, ks4, e5, hks4⟩ := ex3 (popL ks 0)
  obtain ⟨oks4, lp3⟩ := pop_ok ok hks4
  replace lp3 : p3.length ≤ 8000 := Nat.le_trans lp3 (by decide)
  refine stp (op_callX (F := 39) (ρ := M1x) hs none none [0] [0, 1, 2] (v := fun r => .slice r.x p3.length r.y) (S1 := [(true, oW am ks.length cm 34 vs), (true, oW aa js.length ca 34 us), (true, .bysO G (vs ++ us ++ xs) (ks ++ js ++ ts))]) (bs1 := [(true, gm, 61, [.slice am ks.length cm, .slice aa js.length ca, .int .i64 0])]) (E := fun r => [(true, oW r.a ks4.length r.c 34 r.vs), (true, oW aa js.length ca 34 us), (true, .bysO G (r.vs ++ us ++ (xs ++ [.slice r.x p3.length r.y])) (ks4 ++ js ++ (ts ++ [p3])))]) (E1 := fun r => [(true, oW r.a ks4.length r.c 34 r.vs), (true, oW aa js.length ca 34 us), (true, .bysO G (r.vs ++ us ++ (xs ++ [.slice r.x p3.length r.y])) (ks4 ++ js ++ (ts ++ [p3])))]) (E2 := fun r => []) (bfA := fun r => [(true, gm, 61, [.slice r.a ks4.length r.c, .slice aa js.length ca, ni64 e5])]) (bf := fun r => [(true, gm, 61, [.slice r.a ks4.length r.c, .slice aa js.length ca, ni64 e5])]) (bf2 := fun r => []) rfl rfl rfl rfl rfl (call39 _) rfl rfl (by decide) (by decide) (fun Z X hm => pop_c gm am cm vs aa ca us G xs ts ks js 0 p3 ks4 e5 (ok.mono (by decide)) hks4 _ _ _ hm) (fun _ => rfl) (fun _ => rfl) (fun _ => rfl) (fun _ => rfl) (fun _ => rfl) rfl fun ⟨ad6, cp7, vs8, ad9, cp10⟩ ac w hs => ?_)
  obtain ⟨z11, e12, hz11⟩ := ex2 (readL p3 4 e5)
  have xz11 := (mem_last3 (hs.bLen 2 rfl))
  refine stp (op_callX (F := 40) (ρ := Unit) hs none none [0] [2] (v := fun r => .int .i64 z11) (S1 := [(true, .bysO G (vs8 ++ us ++ (xs ++ [.slice ad9 p3.length cp10])) (ks4 ++ js ++ (ts ++ [p3])))]) (bs1 := [(true, gm, 61, [.slice ad6 ks4.length cp7, .slice aa js.length ca, ni64 e5])]) (E := fun r => [(true, .bysO G (vs8 ++ us ++ (xs ++ [.slice ad9 p3.length cp10])) (ks4 ++ js ++ (ts ++ [p3])))]) (E1 := fun r => [(true, .bysO G (vs8 ++ us ++ (xs ++ [.slice ad9 p3.length cp10])) (ks4 ++ js ++ (ts ++ [p3])))]) (E2 := fun r => []) (bfA := fun r => [(true, gm, 61, [.slice ad6 ks4.length cp7, .slice aa js.length ca, ni64 e12])]) (bf := fun r => [(true, gm, 61, [.slice ad6 ks4.length cp7, .slice aa js.length ca, ni64 e12])]) (bf2 := fun r => []) rfl rfl rfl rfl rfl (call40 _) rfl rfl (by decide) (by decide) (fun Z X hm => read_c gm (.slice ad6 ks4.length cp7) (.slice aa js.length ca) G _ _ ad9 cp10 p3 4 e5 z11 e12 lp3 xz11 hz11 _ _ _ hm) (fun _ => rfl) (fun _ => rfl) (fun _ => rfl) (fun _ => rfl) (fun _ => rfl) rfl fun _ ac w hs => stp (op_idxS hs none (j := 0) rfl rfl rfl rfl underlying73 sizeOf2 (by decide) (off := 0) rfl rfl fun ac hs => stp (stoo hs 1 ([.int .i64 z11]) sizeOf2 rfl rfl rfl rfl rfl rfl rfl rfl rfl rfl fun w hs => wpList_nil (blk_n (then_n ?_)))))
  replace hs := hs.nf w0 Z X [0, 5, 6] rfl rfl rfl rfl
  refine wp_region_lit (mvv hs rfl rfl rfl fun ac hs => bnn hs (.int .i64 (-1)) rfl rfl rfl rfl (bin_subI (x := 0) (y := 1) (z := -1) rfl (by decide) (by decide)) fun ac hs => asg hs rfl rfl rfl fun ac hs => wpList_nil (then_n ?_))
  replace hs := hs.dropB (zs := [.slice ad9 p3.length cp10]) (rs := [p3]) 2 (hs.xsLen 2 rfl (hs.ownLen 0 rfl) (hs.ownLen 1 rfl)) rfl (hs.ownLen 0 rfl) (hs.ownLen 1 rfl)
  exact ⟨_, .inr (⟨ad6, cp7, vs8, ks4, e12, z11, rfl, oks4, (opsR_step (n := 0) hks4 hz11), (hs.re (fs' := [(0, true, ptA gm 0), (5, true, .slice (some ⟨g1, 0, none⟩) 1 1), (6, true, .int .i64 (-1))]) ⟨rfl, rfl, rfl, trivial⟩)⟩), by omega⟩
 ·obtain ⟨a1, c1, v1, kk, ee, z0, rfl, okk, hops, hs⟩ := hJ
  have hv1 := hs.ownLen 0 rfl
  refine wp_seq (wp_seq (wp_region_lit (mvv hs rfl rfl rfl fun ac hs => bnn hs (.bool false) rfl rfl rfl rfl (fun w => dF (show ¬ ((0 : Int) ≤ -1) by decide) (bin_geqI (y := 0) w)) fun ac hs => wpList_nil (then_n (wp_cond_false (hs.ev rfl) (wp_exit (then_e (then_e (blk_e (then_n (wp_seq (wp_region_lit (mvv hs rfl rfl rfl fun ac hs => asg hs rfl rfl rfl fun ac hs => wpList_nil (then_n (wp_ret ?_)))))))))))))))
  have HS := hs
  obtain ⟨hz0, rfl, rfl⟩ := inj3 ((ops_end (he2.trans ze2) hops).symm.trans hp)
  obtain rfl : z0 = y0 := by simpa using hz0
  have hs := HS
  exact bodyPost_ret (res1 rfl (rv_t hs rfl)) hs.defers ⟨⟨a1, c1, v1, g1⟩, rfl, ((hs.selS [0, 1, 2] rfl (by decide)).selB [0, 1] rfl (by decide)).mem⟩
theorem ops2_c (gm : Nat) (am : Option Addr) (cm : Nat) (vs : List Value) (aa : Option Addr) (ca : Nat) (us : List Value) (G : Nat → Prop) (xs : List Value) (ts : BL) (ks js : BL) (er : Nat) (y0 : Int) (y1 : Int) (k1 : BL) (e1 : Nat) (ok : OkN 3000 ks) (hp : opsL 2 ks er = ([y0, y1], k1, e1)) (w0 : World) (Z X : Nat → Prop) (hm : Mem ⟨w0, [], [(true, oW am ks.length cm 34 vs), (true, oW aa js.length ca 34 us), (true, .bysO G (vs ++ us ++ xs) (ks ++ js ++ ts))], Z, X⟩ [(true, gm, 61, [.slice am ks.length cm, .slice aa js.length ca, ni64 er])] w0) : Calls prog 57 #[ptA gm 0, .int .i64 2] w0 fun e w' => PostX w0 Z X (ρ := M1o) (fun r => .slice (some ⟨r.o, 0, none⟩) 2 2) (fun r => [(true, gm, 61, [.slice r.a k1.length r.c, .slice aa js.length ca, ni64 e1]), (true, r.o, 2, [.int .i64 y0, .int .i64 y1])]) (fun r => [(true, oW r.a k1.length r.c 34 r.vs), (true, oW aa js.length ca 34 us), (true, .bysO G (r.vs ++ us ++ xs) (k1 ++ js ++ ts))]) e w' := by
 have hk8 : ks.length ≤ 3000 := ok.1
 refine enterX (n := 28) (args := [ptA gm 0, .int .i64 2]) func57 rfl rfl (Nat.le_of_ble_eq_true rfl) hm fun ac hs => ?_
 have hv := hs.ownLen 0 rfl
 have hu := hs.ownLen 1 rfl
 refine wp_seq (wp_region_lit (asg hs rfl rfl rfl fun ac hs => wpList_nil (then_n (wp_seq (wp_region_lit (mvv hs rfl rfl rfl fun ac hs => stp (op_makeS hs none none (l := 2) rfl rfl rfl rfl underlying73 inf_i64_2 (show 2 ≤ 1000000 by omega) (by decide) rfl rfl fun g1 ac w hs => asg hs rfl rfl rfl fun ac hs => wpList_nil ?_)))))))
 replace hs := hs.setb 1 (cs' := [.int .i64 0, .int .i64 0]) rfl rfl
 refine then_n (wp_seq (wp_seq (wp_region_lit (mvv hs rfl rfl rfl fun ac hs => mvv hs rfl rfl rfl fun ac hs => ?_))))
 obtain ⟨e2, he2⟩ := ex1 (needE ks.length 2 er)
 refine stp (op_callX (F := 48) (ρ := Unit) hs none none [0] [] (v := fun r => .bool (decide (e2 = 0))) (S1 := []) (bs1 := [(true, gm, 61, [.slice am ks.length cm, .slice aa js.length ca, ni64 er])]) (E := fun r => []) (E1 := fun r => []) (E2 := fun r => []) (bfA := fun r => [(true, gm, 61, [.slice am ks.length cm, .slice aa js.length ca, ni64 e2])]) (bf := fun r => [(true, gm, 61, [.slice am ks.length cm, .slice aa js.length ca, ni64 e2])]) (bf2 := fun r => []) rfl rfl rfl rfl rfl (call48 _) rfl rfl (by decide) (by decide) (fun Z X hm => needs_c gm am ks.length cm (.slice aa js.length ca) er 2 e2 (decide (e2 = 0)) he2 rfl _ _ _ hm) (fun _ => rfl) (fun _ => rfl) (fun _ => rfl) (fun _ => rfl) (fun _ => rfl) rfl fun _ ac w hs => stp (op_un hs none (v := .bool (!(decide (e2 = 0)))) rfl rfl rfl (fun _ => rfl) rfl fun ac hs => wpList_nil (then_n (wcs hs rfl ?_ ?_))))
 ·intro hc
  have ze2 : ¬ e2 = 0 := by simpa using hc
  refine wp_seq ?_
  replace hs := hs.nf w0 Z X [0, 1, 4, 5] rfl rfl rfl rfl
  refine wp_region_lit (mvv hs rfl rfl rfl fun ac hs => asg hs rfl rfl rfl fun ac hs => wpList_nil (then_n (wp_ret (then_r ?_))))
  have HS := hs
  obtain ⟨hz0, rfl, rfl⟩ := inj3 ((if_neg (by rw [he2]; exact ze2) : opsL 2 ks er = _).symm.trans hp)
  obtain ⟨rfl, rfl⟩ : 0 = y0 ∧ 0 = y1 := by simpa using hz0
  rw [← he2] at HS
  have hs := HS
  exact bodyPost_ret (res1 rfl (rv_t hs rfl)) hs.defers ⟨⟨am, cm, vs, g1⟩, rfl, ((hs.selS [0, 1, 2] rfl (by decide)).selB [0, 1] rfl (by decide)).mem⟩
 intro hc
 have ze2 : e2 = 0 := by simpa using hc
 have hnl := need_len (he2.trans ze2)
 have hl0 := hnl.1
 refine wp_skip (then_n (wp_seq (wp_seq ?_)))
 replace hs := hs.nf w0 Z X [0, 1, 4, 5] rfl rfl rfl rfl
 refine wp_region_lit (mvv hs rfl rfl rfl fun ac hs => bnn hs (.int .i64 1) rfl rfl rfl rfl (fun _ => by kernel_rfl) fun ac hs => asg hs rfl rfl rfl fun ac hs => wpList_nil (then_n (wp_block ?_)))
 rw [ze2] at hs
 refine wp_loop_m (fun μ ac w => (2 = μ ∧ St 28 ⟨w0, [], [(true, oW am ks.length cm 34 vs), (true, oW aa js.length ca 34 us), (true, .bysO G (vs ++ us ++ xs) (ks ++ js ++ ts))], Z, X⟩ [(0, true, ptA gm 0), (5, true, .slice (some ⟨g1, 0, none⟩) 2 2), (6, true, .int .i64 1)] [(true, gm, 61, [.slice am ks.length cm, .slice aa js.length ca, .int .i64 0]), (true, g1, 2, [.int .i64 0, .int .i64 0])] ac w) ∨ (∃ (a1 : Option Addr) (c1 : Nat) (v1 : List Value) (kk : BL) (ee : Nat) (z1 : Int), 1 = μ ∧ (OkN 3000 kk) ∧ (opsR 2 ks 0 = ((opsR 1 kk ee).1 ++ [z1], (opsR 1 kk ee).2)) ∧ St 28 ⟨w0, [], [(true, oW a1 kk.length c1 34 v1), (true, oW aa js.length ca 34 us), (true, .bysO G (v1 ++ us ++ xs) (kk ++ js ++ ts))], Z, X⟩ [(0, true, ptA gm 0), (5, true, .slice (some ⟨g1, 0, none⟩) 2 2), (6, true, .int .i64 0)] [(true, gm, 61, [.slice a1 kk.length c1, .slice aa js.length ca, ni64 ee]), (true, g1, 2, [.int .i64 0, .int .i64 z1])] ac w) ∨ (∃ (a1 : Option Addr) (c1 : Nat) (v1 : List Value) (kk : BL) (ee : Nat) (z0 : Int) (z1 : Int), 0 = μ ∧ (OkN 3000 kk) ∧ (opsR 2 ks 0 = ((opsR 0 kk ee).1 ++ [z0, z1], (opsR 0 kk ee).2)) ∧ St 28 ⟨w0, [], [(true, oW a1 kk.length c1 34 v1), (true, oW aa js.length ca 34 us), (true, .bysO G (v1 ++ us ++ xs) (kk ++ js ++ ts))], Z, X⟩ [(0, true, ptA gm 0), (5, true, .slice (some ⟨g1, 0, none⟩) 2 2), (6, true, .int .i64 (-1))] [(true, gm, 61, [.slice a1 kk.length c1, .slice aa js.length ca, ni64 ee]), (true, g1, 2, [.int .i64 z0, .int .i64 z1])] ac w)) ?_ ?_
 ·exact ⟨_, .inl ⟨rfl, (hs.re (fs' := [(0, true, ptA gm 0), (5, true, .slice (some ⟨g1, 0, none⟩) 2 2), (6, true, .int .i64 1)]) ⟨rfl, rfl, rfl, trivial⟩)⟩⟩
 intro μ ac w hJ
 rcases hJ with hJ | hJ | hJ
 ·obtain ⟨rfl, hs⟩ := hJ
  refine wp_seq (wp_seq (wp_region_lit (mvv hs rfl rfl rfl fun ac hs => bnn hs (.bool true) rfl rfl rfl rfl (fun _ => by kernel_rfl) fun ac hs => wpList_nil (then_n (wp_cond_true (hs.ev rfl) (wp_skip (then_n (wp_seq (wp_block (wp_region_lit (mvv hs rfl rfl rfl fun ac hs => mvv hs rfl rfl rfl fun ac hs => mvv hs rfl rfl rfl fun ac hs => mvv hs rfl rfl rfl fun ac hs => ?_)))))))))))
  obtain ⟨p3, ks4, e5, hks4⟩ := ex3 (popL ks 0)
  obtain ⟨oks4, lp3⟩ := pop_ok ok hks4
  replace lp3 : p3.length ≤ 8000 := Nat.le_trans lp3 (by decide)
  refine stp (op_callX (F := 39) (ρ := M1x) hs none none [0] [0, 1, 2] (v := fun r => .slice r.x p3.length r.y) (S1 := [(true, oW am ks.length cm 34 vs), (true, oW aa js.length ca 34 us), (true, .bysO G (vs ++ us ++ xs) (ks ++ js ++ ts))]) (bs1 := [(true, gm, 61, [.slice am ks.length cm, .slice aa js.length ca, .int .i64 0])]) (E := fun r => [(true, oW r.a ks4.length r.c 34 r.vs), (true, oW aa js.length ca 34 us), (true, .bysO G (r.vs ++ us ++ (xs ++ [.slice r.x p3.length r.y])) (ks4 ++ js ++ (ts ++ [p3])))]) (E1 := fun r => [(true, oW r.a ks4.length r.c 34 r.vs), (true, oW aa js.length ca 34 us), (true, .bysO G (r.vs ++ us ++ (xs ++ [.slice r.x p3.length r.y])) (ks4 ++ js ++ (ts ++ [p3])))]) (E2 := fun r => []) (bfA := fun r => [(true, gm, 61, [.slice r.a ks4.length r.c, .slice aa js.length ca, ni64 e5])]) (bf := fun r => [(true, gm, 61, [.slice r.a ks4.length r.c, .slice aa js.length ca, ni64 e5])]) (bf2 := fun r => []) rfl rfl rfl rfl rfl (call39 _) rfl rfl (by decide) (by decide) (fun Z X hm => pop_c gm am cm vs aa ca us G xs ts ks js 0 p3 ks4 e5 (ok.mono (by decide)) hks4 _ _ _ hm) (fun _ => rfl) (fun _ => rfl) (fun _ => rfl) (fun _ => rfl) (fun _ => rfl) rfl fun ⟨ad6, cp7, vs8, ad9, cp10⟩ ac w hs => ?_)
  obtain ⟨z11, e12, hz11⟩ := ex2 (readL p3 4 e5)
  have xz11 := (mem_last3 (hs.bLen 2 rfl))
  refine stp (op_callX (F := 40) (ρ := Unit) hs none none [0] [2] (v := fun r => .int .i64 z11) (S1 := [(true, .bysO G (vs8 ++ us ++ (xs ++ [.slice ad9 p3.length cp10])) (ks4 ++ js ++ (ts ++ [p3])))]) (bs1 := [(true, gm, 61, [.slice ad6 ks4.length cp7, .slice aa js.length ca, ni64 e5])]) (E := fun r => [(true, .bysO G (vs8 ++ us ++ (xs ++ [.slice ad9 p3.length cp10])) (ks4 ++ js ++ (ts ++ [p3])))]) (E1 := fun r => [(true, .bysO G (vs8 ++ us ++ (xs ++ [.slice ad9 p3.length cp10])) (ks4 ++ js ++ (ts ++ [p3])))]) (E2 := fun r => []) (bfA := fun r => [(true, gm, 61, [.slice ad6 ks4.length cp7, .slice aa js.length ca, ni64 e12])]) (bf := fun r => [(true, gm, 61, [.slice ad6 ks4.length cp7, .slice aa js.length ca, ni64 e12])]) (bf2 := fun r => []) rfl rfl rfl rfl rfl (call40 _) rfl rfl (by decide) (by decide) (fun Z X hm => read_c gm (.slice ad6 ks4.length cp7) (.slice aa js.length ca) G _ _ ad9 cp10 p3 4 e5 z11 e12 lp3 xz11 hz11 _ _ _ hm) (fun _ => rfl) (fun _ => rfl) (fun _ => rfl) (fun _ => rfl) (fun _ => rfl) rfl fun _ ac w hs => stp (op_idxS hs none (j := 1) rfl rfl rfl rfl underlying73 sizeOf2 (by decide) (off := 1) rfl rfl fun ac hs => stp (stoo hs 1 ([.int .i64 z11]) sizeOf2 rfl rfl rfl rfl rfl rfl rfl rfl rfl rfl fun w hs => wpList_nil (blk_n (then_n ?_)))))
  replace hs := hs.nf w0 Z X [0, 5, 6] rfl rfl rfl rfl
  refine wp_region_lit (mvv hs rfl rfl rfl fun ac hs => bnn hs (.int .i64 0) rfl rfl rfl rfl (fun _ => by kernel_rfl) fun ac hs => asg hs rfl rfl rfl fun ac hs => wpList_nil (then_n ?_))
  replace hs := hs.dropB (zs := [.slice ad9 p3.length cp10]) (rs := [p3]) 2 (hs.xsLen 2 rfl (hs.ownLen 0 rfl) (hs.ownLen 1 rfl)) rfl (hs.ownLen 0 rfl) (hs.ownLen 1 rfl)
  exact ⟨_, .inr (.inl ⟨ad6, cp7, vs8, ks4, e12, z11, rfl, oks4, (opsR_step (n := 1) hks4 hz11), (hs.re (fs' := [(0, true, ptA gm 0), (5, true, .slice (some ⟨g1, 0, none⟩) 2 2), (6, true, .int .i64 0)]) ⟨rfl, rfl, rfl, trivial⟩)⟩), by omega⟩
 ·obtain ⟨a1, c1, v1, kk, ee, z1, rfl, okk, hops, hs⟩ := hJ
  have hv1 := hs.ownLen 0 rfl
  refine wp_seq (wp_seq (wp_region_lit (mvv hs rfl rfl rfl fun ac hs => bnn hs (.bool true) rfl rfl rfl rfl (fun _ => by kernel_rfl) fun ac hs => wpList_nil (then_n (wp_cond_true (hs.ev rfl) (wp_skip (then_n (wp_seq (wp_block (wp_region_lit (mvv hs rfl rfl rfl fun ac hs => mvv hs rfl rfl rfl fun ac hs => mvv hs rfl rfl rfl fun ac hs => mvv hs rfl rfl rfl fun ac hs => ?_)))))))))))
  obtain ⟨p13, ks14, e15, hks14⟩ := ex3 (popL kk ee)
  obtain ⟨oks14, lp13⟩ := pop_ok okk hks14
  replace lp13 : p13.length ≤ 8000 := Nat.le_trans lp13 (by decide)
  refine stp (op_callX (F := 39) (ρ := M1x) hs none none [0] [0, 1, 2] (v := fun r => .slice r.x p13.length r.y) (S1 := [(true, oW a1 kk.length c1 34 v1), (true, oW aa js.length ca 34 us), (true, .bysO G (v1 ++ us ++ xs) (kk ++ js ++ ts))]) (bs1 := [(true, gm, 61, [.slice a1 kk.length c1, .slice aa js.length ca, ni64 ee])]) (E := fun r => [(true, oW r.a ks14.length r.c 34 r.vs), (true, oW aa js.length ca 34 us), (true, .bysO G (r.vs ++ us ++ (xs ++ [.slice r.x p13.length r.y])) (ks14 ++ js ++ (ts ++ [p13])))]) (E1 := fun r => [(true, oW r.a ks14.length r.c 34 r.vs), (true, oW aa js.length ca 34 us), (true, .bysO G (r.vs ++ us ++ (xs ++ [.slice r.x p13.length r.y])) (ks14 ++ js ++ (ts ++ [p13])))]) (E2 := fun r => []) (bfA := fun r => [(true, gm, 61, [.slice r.a ks14.length r.c, .slice aa js.length ca, ni64 e15])]) (bf := fun r => [(true, gm, 61, [.slice r.a ks14.length r.c, .slice aa js.length ca, ni64 e15])]) (bf2 := fun r => []) rfl rfl rfl rfl rfl (call39 _) rfl rfl (by decide) (by decide) (fun Z X hm => pop_c gm a1 c1 v1 aa ca us G xs ts kk js ee p13 ks14 e15 (okk.mono (by decide)) hks14 _ _ _ hm) (fun _ => rfl) (fun _ => rfl) (fun _ => rfl) (fun _ => rfl) (fun _ => rfl) rfl fun ⟨ad16, cp17, vs18, ad19, cp20⟩ ac w hs => ?_)
  obtain ⟨z21, e22, hz21⟩ := ex2 (readL p13 4 e15)
  have xz21 := (mem_last3 (hs.bLen 2 rfl))
  refine stp (op_callX (F := 40) (ρ := Unit) hs none none [0] [2] (v := fun r => .int .i64 z21) (S1 := [(true, .bysO G (vs18 ++ us ++ (xs ++ [.slice ad19 p13.length cp20])) (ks14 ++ js ++ (ts ++ [p13])))]) (bs1 := [(true, gm, 61, [.slice ad16 ks14.length cp17, .slice aa js.length ca, ni64 e15])]) (E := fun r => [(true, .bysO G (vs18 ++ us ++ (xs ++ [.slice ad19 p13.length cp20])) (ks14 ++ js ++ (ts ++ [p13])))]) (E1 := fun r => [(true, .bysO G (vs18 ++ us ++ (xs ++ [.slice ad19 p13.length cp20])) (ks14 ++ js ++ (ts ++ [p13])))]) (E2 := fun r => []) (bfA := fun r => [(true, gm, 61, [.slice ad16 ks14.length cp17, .slice aa js.length ca, ni64 e22])]) (bf := fun r => [(true, gm, 61, [.slice ad16 ks14.length cp17, .slice aa js.length ca, ni64 e22])]) (bf2 := fun r => []) rfl rfl rfl rfl rfl (call40 _) rfl rfl (by decide) (by decide) (fun Z X hm => read_c gm (.slice ad16 ks14.length cp17) (.slice aa js.length ca) G _ _ ad19 cp20 p13 4 e15 z21 e22 lp13 xz21 hz21 _ _ _ hm) (fun _ => rfl) (fun _ => rfl) (fun _ => rfl) (fun _ => rfl) (fun _ => rfl) rfl fun _ ac w hs => stp (op_idxS hs none (j := 0) rfl rfl rfl rfl underlying73 sizeOf2 (by decide) (off := 0) rfl rfl fun ac hs => stp (stoo hs 1 ([.int .i64 z21]) sizeOf2 rfl rfl rfl rfl rfl rfl rfl rfl rfl rfl fun w hs => wpList_nil (blk_n (then_n ?_)))))
  replace hs := hs.nf w0 Z X [0, 5, 6] rfl rfl rfl rfl
  refine wp_region_lit (mvv hs rfl rfl rfl fun ac hs => bnn hs (.int .i64 (-1)) rfl rfl rfl rfl (bin_subI (x := 0) (y := 1) (z := -1) rfl (by decide) (by decide)) fun ac hs => asg hs rfl rfl rfl fun ac hs => wpList_nil (then_n ?_))
  replace hs := hs.dropB (zs := [.slice ad19 p13.length cp20]) (rs := [p13]) 2 (hs.xsLen 2 rfl (hs.ownLen 0 rfl) (hs.ownLen 1 rfl)) rfl (hs.ownLen 0 rfl) (hs.ownLen 1 rfl)
  exact ⟨_, .inr (.inr (⟨ad16, cp17, vs18, ks14, e22, z21, z1, rfl, oks14, (by rw [hops, opsR_step (n := 0) hks14 hz21]; simp), (hs.re (fs' := [(0, true, ptA gm 0), (5, true, .slice (some ⟨g1, 0, none⟩) 2 2), (6, true, .int .i64 (-1))]) ⟨rfl, rfl, rfl, trivial⟩)⟩)), by omega⟩
 ·obtain ⟨a1, c1, v1, kk, ee, z0, z1, rfl, okk, hops, hs⟩ := hJ
  have hv1 := hs.ownLen 0 rfl
  refine wp_seq (wp_seq (wp_region_lit (mvv hs rfl rfl rfl fun ac hs => bnn hs (.bool false) rfl rfl rfl rfl (fun w => dF (show ¬ ((0 : Int) ≤ -1) by decide) (bin_geqI (y := 0) w)) fun ac hs => wpList_nil (then_n (wp_cond_false (hs.ev rfl) (wp_exit (then_e (then_e (blk_e (then_n (wp_seq (wp_region_lit (mvv hs rfl rfl rfl fun ac hs => asg hs rfl rfl rfl fun ac hs => wpList_nil (then_n (wp_ret ?_)))))))))))))))
  have HS := hs
  obtain ⟨hz0, rfl, rfl⟩ := inj3 ((ops_end (he2.trans ze2) hops).symm.trans hp)
  obtain ⟨rfl, rfl⟩ : z0 = y0 ∧ z1 = y1 := by simpa using hz0
  have hs := HS
  exact bodyPost_ret (res1 rfl (rv_t hs rfl)) hs.defers ⟨⟨a1, c1, v1, g1⟩, rfl, ((hs.selS [0, 1, 2] rfl (by decide)).selB [0, 1] rfl (by decide)).mem⟩
theorem ops3_c (gm : Nat) (am : Option Addr) (cm : Nat) (vs : List Value) (aa : Option Addr) (ca : Nat) (us : List Value) (G : Nat → Prop) (xs : List Value) (ts : BL) (ks js : BL) (er : Nat) (y0 : Int) (y1 : Int) (y2 : Int) (k1 : BL) (e1 : Nat) (ok : OkN 3000 ks) (hp : opsL 3 ks er = ([y0, y1, y2], k1, e1)) (w0 : World) (Z X : Nat → Prop) (hm : Mem ⟨w0, [], [(true, oW am ks.length cm 34 vs), (true, oW aa js.length ca 34 us), (true, .bysO G (vs ++ us ++ xs) (ks ++ js ++ ts))], Z, X⟩ [(true, gm, 61, [.slice am ks.length cm, .slice aa js.length ca, ni64 er])] w0) : Calls prog 57 #[ptA gm 0, .int .i64 3] w0 fun e w' => PostX w0 Z X (ρ := M1o) (fun r => .slice (some ⟨r.o, 0, none⟩) 3 3) (fun r => [(true, gm, 61, [.slice r.a k1.length r.c, .slice aa js.length ca, ni64 e1]), (true, r.o, 2, [.int .i64 y0, .int .i64 y1, .int .i64 y2])]) (fun r => [(true, oW r.a k1.length r.c 34 r.vs), (true, oW aa js.length ca 34 us), (true, .bysO G (r.vs ++ us ++ xs) (k1 ++ js ++ ts))]) e w' := by
 have hk8 : ks.length ≤ 3000 := ok.1
 refine enterX (n := 28) (args := [ptA gm 0, .int .i64 3]) func57 rfl rfl (Nat.le_of_ble_eq_true rfl) hm fun ac hs => ?_
 have hv := hs.ownLen 0 rfl
 have hu := hs.ownLen 1 rfl
 refine wp_seq (wp_region_lit (asg hs rfl rfl rfl fun ac hs => wpList_nil (then_n (wp_seq (wp_region_lit (mvv hs rfl rfl rfl fun ac hs => stp (op_makeS hs none none (l := 3) rfl rfl rfl rfl underlying73 inf_i64_2 (show 3 ≤ 1000000 by omega) (by decide) rfl rfl fun g1 ac w hs => asg hs rfl rfl rfl fun ac hs => wpList_nil ?_)))))))
 replace hs := hs.setb 1 (cs' := [.int .i64 0, .int .i64 0, .int .i64 0]) rfl rfl
 refine then_n (wp_seq (wp_seq (wp_region_lit (mvv hs rfl rfl rfl fun ac hs => mvv hs rfl rfl rfl fun ac hs => ?_))))
 obtain ⟨e2, he2⟩ := ex1 (needE ks.length 3 er)
 refine stp (op_callX (F := 48) (ρ := Unit) hs none none [0] [] (v := fun r => .bool (decide (e2 = 0))) (S1 := []) (bs1 := [(true, gm, 61, [.slice am ks.length cm, .slice aa js.length ca, ni64 er])]) (E := fun r => []) (E1 := fun r => []) (E2 := fun r => []) (bfA := fun r => [(true, gm, 61, [.slice am ks.length cm, .slice aa js.length ca, ni64 e2])]) (bf := fun r => [(true, gm, 61, [.slice am ks.length cm, .slice aa js.length ca, ni64 e2])]) (bf2 := fun r => []) rfl rfl rfl rfl rfl (call48 _) rfl rfl (by decide) (by decide) (fun Z X hm => needs_c gm am ks.length cm (.slice aa js.length ca) er 3 e2 (decide (e2 = 0)) he2 rfl _ _ _ hm) (fun _ => rfl) (fun _ => rfl) (fun _ => rfl) (fun _ => rfl) (fun _ => rfl) rfl fun _ ac w hs => stp (op_un hs none (v := .bool (!(decide (e2 = 0)))) rfl rfl rfl (fun _ => rfl) rfl fun ac hs => wpList_nil (then_n (wcs hs rfl ?_ ?_))))
 ·intro hc
  have ze2 : ¬ e2 = 0 := by simpa using hc
  refine wp_seq ?_
  replace hs := hs.nf w0 Z X [0, 1, 4, 5] rfl rfl rfl rfl
  refine wp_region_lit (mvv hs rfl rfl rfl fun ac hs => asg hs rfl rfl rfl fun ac hs => wpList_nil (then_n (wp_ret (then_r ?_))))
  have HS := hs
  obtain ⟨hz0, rfl, rfl⟩ := inj3 ((if_neg (by rw [he2]; exact ze2) : opsL 3 ks er = _).symm.trans hp)
  obtain ⟨rfl, rfl, rfl⟩ : 0 = y0 ∧ 0 = y1 ∧ 0 = y2 := by simpa using hz0
  rw [← he2] at HS
  have hs := HS
  exact bodyPost_ret (res1 rfl (rv_t hs rfl)) hs.defers ⟨⟨am, cm, vs, g1⟩, rfl, ((hs.selS [0, 1, 2] rfl (by decide)).selB [0, 1] rfl (by decide)).mem⟩
 intro hc
 have ze2 : e2 = 0 := by simpa using hc
 have hnl := need_len (he2.trans ze2)
 have hl0 := hnl.1
 refine wp_skip (then_n (wp_seq (wp_seq ?_)))
 replace hs := hs.nf w0 Z X [0, 1, 4, 5] rfl rfl rfl rfl
 refine wp_region_lit (mvv hs rfl rfl rfl fun ac hs => bnn hs (.int .i64 2) rfl rfl rfl rfl (fun _ => by kernel_rfl) fun ac hs => asg hs rfl rfl rfl fun ac hs => wpList_nil (then_n (wp_block ?_)))
 rw [ze2] at hs
 refine wp_loop_m (fun μ ac w => (3 = μ ∧ St 28 ⟨w0, [], [(true, oW am ks.length cm 34 vs), (true, oW aa js.length ca 34 us), (true, .bysO G (vs ++ us ++ xs) (ks ++ js ++ ts))], Z, X⟩ [(0, true, ptA gm 0), (5, true, .slice (some ⟨g1, 0, none⟩) 3 3), (6, true, .int .i64 2)] [(true, gm, 61, [.slice am ks.length cm, .slice aa js.length ca, .int .i64 0]), (true, g1, 2, [.int .i64 0, .int .i64 0, .int .i64 0])] ac w) ∨ (∃ (a1 : Option Addr) (c1 : Nat) (v1 : List Value) (kk : BL) (ee : Nat) (z2 : Int), 2 = μ ∧ (OkN 3000 kk) ∧ (opsR 3 ks 0 = ((opsR 2 kk ee).1 ++ [z2], (opsR 2 kk ee).2)) ∧ St 28 ⟨w0, [], [(true, oW a1 kk.length c1 34 v1), (true, oW aa js.length ca 34 us), (true, .bysO G (v1 ++ us ++ xs) (kk ++ js ++ ts))], Z, X⟩ [(0, true, ptA gm 0), (5, true, .slice (some ⟨g1, 0, none⟩) 3 3), (6, true, .int .i64 1)] [(true, gm, 61, [.slice a1 kk.length c1, .slice aa js.length ca, ni64 ee]), (true, g1, 2, [.int .i64 0, .int .i64 0, .int .i64 z2])] ac w) ∨ (∃ (a1 : Option Addr) (c1 : Nat) (v1 : List Value) (kk : BL) (ee : Nat) (z1 : Int) (z2 : Int), 1 = μ ∧ (OkN 3000 kk) ∧ (opsR 3 ks 0 = ((opsR 1 kk ee).1 ++ [z1, z2], (opsR 1 kk ee).2)) ∧ St 28 ⟨w0, [], [(true, oW a1 kk.length c1 34 v1), (true, oW aa js.length ca 34 us), (true, .bysO G (v1 ++ us ++ xs) (kk ++ js ++ ts))], Z, X⟩ [(0, true, ptA gm 0), (5, true, .slice (some ⟨g1, 0, none⟩) 3 3), (6, true, .int .i64 0)] [(true, gm, 61, [.slice a1 kk.length c1, .slice aa js.length ca, ni64 ee]), (true, g1, 2, [.int .i64 0, .int .i64 z1, .int .i64 z2])] ac w) ∨ (∃ (a1 : Option Addr) (c1 : Nat) (v1 : List Value) (kk : BL) (ee : Nat) (z0 : Int) (z1 : Int) (z2 : Int), 0 = μ ∧ (OkN 3000 kk) ∧ (opsR 3 ks 0 = ((opsR 0 kk ee).1 ++ [z0, z1, z2], (opsR 0 kk ee).2)) ∧ St 28 ⟨w0, [], [(true, oW a1 kk.length c1 34 v1), (true, oW aa js.length ca 34 us), (true, .bysO G (v1 ++ us ++ xs) (kk ++ js ++ ts))], Z, X⟩ [(0, true, ptA gm 0), (5, true, .slice (some ⟨g1, 0, none⟩) 3 3), (6, true, .int .i64 (-1))] [(true, gm, 61, [.slice a1 kk.length c1, .slice aa js.length ca, ni64 ee]), (true, g1, 2, [.int .i64 z0, .int .i64 z1, .int .i64 z2])] ac w)) ?_ ?_
 ·exact ⟨_, .inl ⟨rfl, (hs.re (fs' := [(0, true, ptA gm 0), (5, true, .slice (some ⟨g1, 0, none⟩) 3 3), (6, true, .int .i64 2)]) ⟨rfl, rfl, rfl, trivial⟩)⟩⟩
 intro μ ac w hJ
 rcases hJ with hJ | hJ | hJ | hJ
 ·obtain ⟨rfl, hs⟩ := hJ
  refine wp_seq (wp_seq (wp_region_lit (mvv hs rfl rfl rfl fun ac hs => bnn hs (.bool true) rfl rfl rfl rfl (fun _ => by kernel_rfl) fun ac hs => wpList_nil (then_n (wp_cond_true (hs.ev rfl) (wp_skip (then_n (wp_seq (wp_block (wp_region_lit (mvv hs rfl rfl rfl fun ac hs => mvv hs rfl rfl rfl fun ac hs => mvv hs rfl rfl rfl fun ac hs => mvv hs rfl rfl rfl fun ac hs => ?_)))))))))))
  obtain ⟨p3, ks4, e5, hks4⟩ := ex3 (popL ks 0)
  obtain ⟨oks4, lp3⟩ := pop_ok ok hks4
  replace lp3 : p3.length ≤ 8000 := Nat.le_trans lp3 (by decide)
  refine stp (op_callX (F := 39) (ρ := M1x) hs none none [0] [0, 1, 2] (v := fun r => .slice r.x p3.length r.y) (S1 := [(true, oW am ks.length cm 34 vs), (true, oW aa js.length ca 34 us), (true, .bysO G (vs ++ us ++ xs) (ks ++ js ++ ts))]) (bs1 := [(true, gm, 61, [.slice am ks.length cm, .slice aa js.length ca, .int .i64 0])]) (E := fun r => [(true, oW r.a ks4.length r.c 34 r.vs), (true, oW aa js.length ca 34 us), (true, .bysO G (r.vs ++ us ++ (xs ++ [.slice r.x p3.length r.y])) (ks4 ++ js ++ (ts ++ [p3])))]) (E1 := fun r => [(true, oW r.a ks4.length r.c 34 r.vs), (true, oW aa js.length ca 34 us), (true, .bysO G (r.vs ++ us ++ (xs ++ [.slice r.x p3.length r.y])) (ks4 ++ js ++ (ts ++ [p3])))]) (E2 := fun r => []) (bfA := fun r => [(true, gm, 61, [.slice r.a ks4.length r.c, .slice aa js.length ca, ni64 e5])]) (bf := fun r => [(true, gm, 61, [.slice r.a ks4.length r.c, .slice aa js.length ca, ni64 e5])]) (bf2 := fun r => []) rfl rfl rfl rfl rfl (call39 _) rfl rfl (by decide) (by decide) (fun Z X hm => pop_c gm am cm vs aa ca us G xs ts ks js 0 p3 ks4 e5 (ok.mono (by decide)) hks4 _ _ _ hm) (fun _ => rfl) (fun _ => rfl) (fun _ => rfl) (fun _ => rfl) (fun _ => rfl) rfl fun ⟨ad6, cp7, vs8, ad9, cp10⟩ ac w hs => ?_)
  obtain ⟨z11, e12, hz11⟩ := ex2 (readL p3 4 e5)
  have xz11 := (mem_last3 (hs.bLen 2 rfl))
  refine stp (op_callX (F := 40) (ρ := Unit) hs none none [0] [2] (v := fun r => .int .i64 z11) (S1 := [(true, .bysO G (vs8 ++ us ++ (xs ++ [.slice ad9 p3.length cp10])) (ks4 ++ js ++ (ts ++ [p3])))]) (bs1 := [(true, gm, 61, [.slice ad6 ks4.length cp7, .slice aa js.length ca, ni64 e5])]) (E := fun r => [(true, .bysO G (vs8 ++ us ++ (xs ++ [.slice ad9 p3.length cp10])) (ks4 ++ js ++ (ts ++ [p3])))]) (E1 := fun r => [(true, .bysO G (vs8 ++ us ++ (xs ++ [.slice ad9 p3.length cp10])) (ks4 ++ js ++ (ts ++ [p3])))]) (E2 := fun r => []) (bfA := fun r => [(true, gm, 61, [.slice ad6 ks4.length cp7, .slice aa js.length ca, ni64 e12])]) (bf := fun r => [(true, gm, 61, [.slice ad6 ks4.length cp7, .slice aa js.length ca, ni64 e12])]) (bf2 := fun r => []) rfl rfl rfl rfl rfl (call40 _) rfl rfl (by decide) (by decide) (fun Z X hm => read_c gm (.slice ad6 ks4.length cp7) (.slice aa js.length ca) G _ _ ad9 cp10 p3 4 e5 z11 e12 lp3 xz11 hz11 _ _ _ hm) (fun _ => rfl) (fun _ => rfl) (fun _ => rfl) (fun _ => rfl) (fun _ => rfl) rfl fun _ ac w hs => stp (op_idxS hs none (j := 2) rfl rfl rfl rfl underlying73 sizeOf2 (by decide) (off := 2) rfl rfl fun ac hs => stp (stoo hs 1 ([.int .i64 z11]) sizeOf2 rfl rfl rfl rfl rfl rfl rfl rfl rfl rfl fun w hs => wpList_nil (blk_n (then_n ?_)))))
  replace hs := hs.nf w0 Z X [0, 5, 6] rfl rfl rfl rfl
  refine wp_region_lit (mvv hs rfl rfl rfl fun ac hs => bnn hs (.int .i64 1) rfl rfl rfl rfl (fun _ => by kernel_rfl) fun ac hs => asg hs rfl rfl rfl fun ac hs => wpList_nil (then_n ?_))
  replace hs := hs.dropB (zs := [.slice ad9 p3.length cp10]) (rs := [p3]) 2 (hs.xsLen 2 rfl (hs.ownLen 0 rfl) (hs.ownLen 1 rfl)) rfl (hs.ownLen 0 rfl) (hs.ownLen 1 rfl)
  exact ⟨_, .inr (.inl ⟨ad6, cp7, vs8, ks4, e12, z11, rfl, oks4, (opsR_step (n := 2) hks4 hz11), (hs.re (fs' := [(0, true, ptA gm 0), (5, true, .slice (some ⟨g1, 0, none⟩) 3 3), (6, true, .int .i64 1)]) ⟨rfl, rfl, rfl, trivial⟩)⟩), by omega⟩
 ·obtain ⟨a1, c1, v1, kk, ee, z2, rfl, okk, hops, hs⟩ := hJ
  have hv1 := hs.ownLen 0 rfl
  refine wp_seq (wp_seq (wp_region_lit (mvv hs rfl rfl rfl fun ac hs => bnn hs (.bool true) rfl rfl rfl rfl (fun _ => by kernel_rfl) fun ac hs => wpList_nil (then_n (wp_cond_true (hs.ev rfl) (wp_skip (then_n (wp_seq (wp_block (wp_region_lit (mvv hs rfl rfl rfl fun ac hs => mvv hs rfl rfl rfl fun ac hs => mvv hs rfl rfl rfl fun ac hs => mvv hs rfl rfl rfl fun ac hs => ?_)))))))))))
  obtain ⟨p13, ks14, e15, hks14⟩ := ex3 (popL kk ee)
  obtain ⟨oks14, lp13⟩ := pop_ok okk hks14
  replace lp13 : p13.length ≤ 8000 := Nat.le_trans lp13 (by decide)
  refine stp (op_callX (F := 39) (ρ := M1x) hs none none [0] [0, 1, 2] (v := fun r => .slice r.x p13.length r.y) (S1 := [(true, oW a1 kk.length c1 34 v1), (true, oW aa js.length ca 34 us), (true, .bysO G (v1 ++ us ++ xs) (kk ++ js ++ ts))]) (bs1 := [(true, gm, 61, [.slice a1 kk.length c1, .slice aa js.length ca, ni64 ee])]) (E := fun r => [(true, oW r.a ks14.length r.c 34 r.vs), (true, oW aa js.length ca 34 us), (true, .bysO G (r.vs ++ us ++ (xs ++ [.slice r.x p13.length r.y])) (ks14 ++ js ++ (ts ++ [p13])))]) (E1 := fun r => [(true, oW r.a ks14.length r.c 34 r.vs), (true, oW aa js.length ca 34 us), (true, .bysO G (r.vs ++ us ++ (xs ++ [.slice r.x p13.length r.y])) (ks14 ++ js ++ (ts ++ [p13])))]) (E2 := fun r => []) (bfA := fun r => [(true, gm, 61, [.slice r.a ks14.length r.c, .slice aa js.length ca, ni64 e15])]) (bf := fun r => [(true, gm, 61, [.slice r.a ks14.length r.c, .slice aa js.length ca, ni64 e15])]) (bf2 := fun r => []) rfl rfl rfl rfl rfl (call39 _) rfl rfl (by decide) (by decide) (fun Z X hm => pop_c gm a1 c1 v1 aa ca us G xs ts kk js ee p13 ks14 e15 (okk.mono (by decide)) hks14 _ _ _ hm) (fun _ => rfl) (fun _ => rfl) (fun _ => rfl) (fun _ => rfl) (fun _ => rfl) rfl fun ⟨ad16, cp17, vs18, ad19, cp20⟩ ac w hs => ?_)
  obtain ⟨z21, e22, hz21⟩ := ex2 (readL p13 4 e15)
  have xz21 := (mem_last3 (hs.bLen 2 rfl))
  refine stp (op_callX (F := 40) (ρ := Unit) hs none none [0] [2] (v := fun r => .int .i64 z21) (S1 := [(true, .bysO G (vs18 ++ us ++ (xs ++ [.slice ad19 p13.length cp20])) (ks14 ++ js ++ (ts ++ [p13])))]) (bs1 := [(true, gm, 61, [.slice ad16 ks14.length cp17, .slice aa js.length ca, ni64 e15])]) (E := fun r => [(true, .bysO G (vs18 ++ us ++ (xs ++ [.slice ad19 p13.length cp20])) (ks14 ++ js ++ (ts ++ [p13])))]) (E1 := fun r => [(true, .bysO G (vs18 ++ us ++ (xs ++ [.slice ad19 p13.length cp20])) (ks14 ++ js ++ (ts ++ [p13])))]) (E2 := fun r => []) (bfA := fun r => [(true, gm, 61, [.slice ad16 ks14.length cp17, .slice aa js.length ca, ni64 e22])]) (bf := fun r => [(true, gm, 61, [.slice ad16 ks14.length cp17, .slice aa js.length ca, ni64 e22])]) (bf2 := fun r => []) rfl rfl rfl rfl rfl (call40 _) rfl rfl (by decide) (by decide) (fun Z X hm => read_c gm (.slice ad16 ks14.length cp17) (.slice aa js.length ca) G _ _ ad19 cp20 p13 4 e15 z21 e22 lp13 xz21 hz21 _ _ _ hm) (fun _ => rfl) (fun _ => rfl) (fun _ => rfl) (fun _ => rfl) (fun _ => rfl) rfl fun _ ac w hs => stp (op_idxS hs none (j := 1) rfl rfl rfl rfl underlying73 sizeOf2 (by decide) (off := 1) rfl rfl fun ac hs => stp (stoo hs 1 ([.int .i64 z21]) sizeOf2 rfl rfl rfl rfl rfl rfl rfl rfl rfl rfl fun w hs => wpList_nil (blk_n (then_n ?_)))))
  replace hs := hs.nf w0 Z X [0, 5, 6] rfl rfl rfl rfl
  refine wp_region_lit (mvv hs rfl rfl rfl fun ac hs => bnn hs (.int .i64 0) rfl rfl rfl rfl (fun _ => by kernel_rfl) fun ac hs => asg hs rfl rfl rfl fun ac hs => wpList_nil (then_n ?_))
  replace hs := hs.dropB (zs := [.slice ad19 p13.length cp20]) (rs := [p13]) 2 (hs.xsLen 2 rfl (hs.ownLen 0 rfl) (hs.ownLen 1 rfl)) rfl (hs.ownLen 0 rfl) (hs.ownLen 1 rfl)
  exact ⟨_, .inr (.inr (.inl ⟨ad16, cp17, vs18, ks14, e22, z21, z2, rfl, oks14, (by rw [hops, opsR_step (n := 1) hks14 hz21]; simp), (hs.re (fs' := [(0, true, ptA gm 0), (5, true, .slice (some ⟨g1, 0, none⟩) 3 3), (6, true, .int .i64 0)]) ⟨rfl, rfl, rfl, trivial⟩)⟩)), by omega⟩
 ·obtain ⟨a1, c1, v1, kk, ee, z1, z2, rfl, okk, hops, hs⟩ := hJ
  have hv1 := hs.ownLen 0 rfl
  refine wp_seq (wp_seq (wp_region_lit (mvv hs rfl rfl rfl fun ac hs => bnn hs (.bool true) rfl rfl rfl rfl (fun _ => by kernel_rfl) fun ac hs => wpList_nil (then_n (wp_cond_true (hs.ev rfl) (wp_skip (then_n (wp_seq (wp_block (wp_region_lit (mvv hs rfl rfl rfl fun ac hs => mvv hs rfl rfl rfl fun ac hs => mvv hs rfl rfl rfl fun ac hs => mvv hs rfl rfl rfl fun ac hs => ?_)))))))))))
  obtain ⟨p23, ks24, e25, hks24⟩ := ex3 (popL kk ee)
  obtain ⟨oks24, lp23⟩ := pop_ok okk hks24
  replace lp23 : p23.length ≤ 8000 := Nat.le_trans lp23 (by decide)
  refine stp (op_callX (F := 39) (ρ := M1x) hs none none [0] [0, 1, 2] (v := fun r => .slice r.x p23.length r.y) (S1 := [(true, oW a1 kk.length c1 34 v1), (true, oW aa js.length ca 34 us), (true, .bysO G (v1 ++ us ++ xs) (kk ++ js ++ ts))]) (bs1 := [(true, gm, 61, [.slice a1 kk.length c1, .slice aa js.length ca, ni64 ee])]) (E := fun r => [(true, oW r.a ks24.length r.c 34 r.vs), (true, oW aa js.length ca 34 us), (true, .bysO G (r.vs ++ us ++ (xs ++ [.slice r.x p23.length r.y])) (ks24 ++ js ++ (ts ++ [p23])))]) (E1 := fun r => [(true, oW r.a ks24.length r.c 34 r.vs), (true, oW aa js.length ca 34 us), (true, .bysO G (r.vs ++ us ++ (xs ++ [.slice r.x p23.length r.y])) (ks24 ++ js ++ (ts ++ [p23])))]) (E2 := fun r => []) (bfA := fun r => [(true, gm, 61, [.slice r.a ks24.length r.c, .slice aa js.length ca, ni64 e25])]) (bf := fun r => [(true, gm, 61, [.slice r.a ks24.length r.c, .slice aa js.length ca, ni64 e25])]) (bf2 := fun r => []) rfl rfl rfl rfl rfl (call39 _) rfl rfl (by decide) (by decide) (fun Z X hm => pop_c gm a1 c1 v1 aa ca us G xs ts kk js ee p23 ks24 e25 (okk.mono (by decide)) hks24 _ _ _ hm) (fun _ => rfl) (fun _ => rfl) (fun _ => rfl) (fun _ => rfl) (fun _ => rfl) rfl fun ⟨ad26, cp27, vs28, ad29, cp30⟩ ac w hs => ?_)
  obtain ⟨z31, e32, hz31⟩ := ex2 (readL p23 4 e25)
  have xz31 := (mem_last3 (hs.bLen 2 rfl))
  refine stp (op_callX (F := 40) (ρ := Unit) hs none none [0] [2] (v := fun r => .int .i64 z31) (S1 := [(true, .bysO G (vs28 ++ us ++ (xs ++ [.slice ad29 p23.length cp30])) (ks24 ++ js ++ (ts ++ [p23])))]) (bs1 := [(true, gm, 61, [.slice ad26 ks24.length cp27, .slice aa js.length ca, ni64 e25])]) (E := fun r => [(true, .bysO G (vs28 ++ us ++ (xs ++ [.slice ad29 p23.length cp30])) (ks24 ++ js ++ (ts ++ [p23])))]) (E1 := fun r => [(true, .bysO G (vs28 ++ us ++ (xs ++ [.slice ad29 p23.length cp30])) (ks24 ++ js ++ (ts ++ [p23])))]) (E2 := fun r => []) (bfA := fun r => [(true, gm, 61, [.slice ad26 ks24.length cp27, .slice aa js.length ca, ni64 e32])]) (bf := fun r => [(true, gm, 61, [.slice ad26 ks24.length cp27, .slice aa js.length ca, ni64 e32])]) (bf2 := fun r => []) rfl rfl rfl rfl rfl (call40 _) rfl rfl (by decide) (by decide) (fun Z X hm => read_c gm (.slice ad26 ks24.length cp27) (.slice aa js.length ca) G _ _ ad29 cp30 p23 4 e25 z31 e32 lp23 xz31 hz31 _ _ _ hm) (fun _ => rfl) (fun _ => rfl) (fun _ => rfl) (fun _ => rfl) (fun _ => rfl) rfl fun _ ac w hs => stp (op_idxS hs none (j := 0) rfl rfl rfl rfl underlying73 sizeOf2 (by decide) (off := 0) rfl rfl fun ac hs => stp (stoo hs 1 ([.int .i64 z31]) sizeOf2 rfl rfl rfl rfl rfl rfl rfl rfl rfl rfl fun w hs => wpList_nil (blk_n (then_n ?_)))))
  replace hs := hs.nf w0 Z X [0, 5, 6] rfl rfl rfl rfl
  refine wp_region_lit (mvv hs rfl rfl rfl fun ac hs => bnn hs (.int .i64 (-1)) rfl rfl rfl rfl (bin_subI (x := 0) (y := 1) (z := -1) rfl (by decide) (by decide)) fun ac hs => asg hs rfl rfl rfl fun ac hs => wpList_nil (then_n ?_))
  replace hs := hs.dropB (zs := [.slice ad29 p23.length cp30]) (rs := [p23]) 2 (hs.xsLen 2 rfl (hs.ownLen 0 rfl) (hs.ownLen 1 rfl)) rfl (hs.ownLen 0 rfl) (hs.ownLen 1 rfl)
  exact ⟨_, .inr (.inr (.inr (⟨ad26, cp27, vs28, ks24, e32, z31, z1, z2, rfl, oks24, (by rw [hops, opsR_step (n := 0) hks24 hz31]; simp), (hs.re (fs' := [(0, true, ptA gm 0), (5, true, .slice (some ⟨g1, 0, none⟩) 3 3), (6, true, .int .i64 (-1))]) ⟨rfl, rfl, rfl, trivial⟩)⟩))), by omega⟩
 ·obtain ⟨a1, c1, v1, kk, ee, z0, z1, z2, rfl, okk, hops, hs⟩ := hJ
  have hv1 := hs.ownLen 0 rfl
  refine wp_seq (wp_seq (wp_region_lit (mvv hs rfl rfl rfl fun ac hs => bnn hs (.bool false) rfl rfl rfl rfl (fun w => dF (show ¬ ((0 : Int) ≤ -1) by decide) (bin_geqI (y := 0) w)) fun ac hs => wpList_nil (then_n (wp_cond_false (hs.ev rfl) (wp_exit (then_e (then_e (blk_e (then_n (wp_seq (wp_region_lit (mvv hs rfl rfl rfl fun ac hs => asg hs rfl rfl rfl fun ac hs => wpList_nil (then_n (wp_ret ?_)))))))))))))))
  have HS := hs
  obtain ⟨hz0, rfl, rfl⟩ := inj3 ((ops_end (he2.trans ze2) hops).symm.trans hp)
  obtain ⟨rfl, rfl, rfl⟩ : z0 = y0 ∧ z1 = y1 ∧ z2 = y2 := by simpa using hz0
  have hs := HS
  exact bodyPost_ret (res1 rfl (rv_t hs rfl)) hs.defers ⟨⟨a1, c1, v1, g1⟩, rfl, ((hs.selS [0, 1, 2] rfl (by decide)).selB [0, 1] rfl (by decide)).mem⟩
end Go.Proofs.Ytikkhkjndbicgaa
