/- Several texts in one, what this law needs of them: StkC, StkD, StkQ, StkV, StkL, StkB2, StkM, NumE, StkN0, StkR0, StkR1, StkRC. -/
import Derived.Test.YtikkhkjndbicgaaTD3

/- Stacks: each operation. -/
namespace Go.Proofs.Ytikkhkjndbicgaa
open Go.RowKit _root_.Go.Proofs.Try
set_option maxRecDepth 10000
set_option maxHeartbeats 1000000
theorem moves_c (gm : Nat) (am : Option Addr) (cm : Nat) (vs : List Value) (aa : Option Addr) (ca : Nat) (us : List Value) (G : Nat → Prop) (xs : List Value) (ts : BL) (ks js : BL) (er : Nat) (op : Nat) (q : Bool) (k1 j1 : BL) (e1 : Nat) (ok : OkN 2900 ks) (oj : OkN 2900 js) (hp : movL op ks js er = (q, k1, j1, e1)) (w0 : World) (Z X : Nat → Prop) (hm : Mem ⟨w0, [], [(true, oW am ks.length cm 34 vs), (true, oW aa js.length ca 34 us), (true, .bysO G (vs ++ us ++ xs) (ks ++ js ++ ts))], Z, X⟩ [(true, gm, 61, [.slice am ks.length cm, .slice aa js.length ca, ni64 er])] w0) : Calls prog 27 #[ptA gm 0, nu8 op] w0 fun e w' => PostX w0 Z X (ρ := M2) (fun r => .bool q) (fun r => [(true, gm, 61, [.slice r.a k1.length r.c, .slice r.b j1.length r.d, ni64 e1])]) (fun r => [(true, oW r.a k1.length r.c 34 r.vs), (true, oW r.b j1.length r.d 34 r.us), (true, .bysO r.G (r.vs ++ r.us ++ xs) (k1 ++ j1 ++ ts))]) e w' := by
 have hk8 : ks.length ≤ 2900 := ok.1
 have hj8 : js.length ≤ 2900 := oj.1
 refine enterX (n := 90) (args := [ptA gm 0, nu8 op]) func27 rfl rfl (Nat.le_of_ble_eq_true rfl) hm fun ac hs => ?_
 have hv := hs.ownLen 0 rfl
 have hu := hs.ownLen 1 rfl
 refine wp_seq (wp_region_lit (asg hs rfl rfl rfl fun ac hs => wpList_nil (then_n (wp_seq (wp_seq (wp_region_lit (mvv hs rfl rfl rfl fun ac hs => wpList_nil (then_n (wp_block (wp_seq (wp_region_lit (bnn hs (.bool (decide (op = 97))) rfl rfl rfl rfl (bin_eqlN (y := 97)) fun ac hs => asg hs rfl rfl rfl fun ac hs => wpList_nil (then_n (wcs hs rfl ?_ ?_))))))))))))))
 ·intro hc
  have hp1 := of_decide_eq_true hc
  refine wp_skip (blk_n (then_n (wp_seq (wp_region_lit (asg hs rfl rfl rfl fun ac hs => wpList_nil (then_n (wp_ret ?_)))))))
  have HS := hs
  have h0 := hp
  unfold movL at h0
  rw [if_pos hp1] at h0
  obtain ⟨hq, hk, hj, he⟩ := inj4 h0
  subst hq
  subst hk
  subst hj
  subst he
  have hs := HS
  exact bodyPost_ret (res1 rfl (rv_t hs rfl)) hs.defers ⟨⟨am, cm, vs, aa, ca, us, G⟩, rfl, ((hs.selS [0, 1, 2] rfl (by decide)).selB [0] rfl (by decide)).mem⟩
 intro hc
 have hp2 := of_decide_eq_false hc
 refine wp_seq (wp_region_lit (bnn hs (.bool (decide (op = 107))) rfl rfl rfl rfl (bin_eqlN (y := 107)) fun ac hs => asg hs rfl rfl rfl fun ac hs => wpList_nil (then_n (wcs hs rfl ?_ ?_))))
 ·intro hc
  have hp3 := of_decide_eq_true hc
  refine wp_seq ?_
  replace hs := hs.nf w0 Z X [0, 4] rfl rfl rfl rfl
  refine wp_region_lit (mvv hs rfl rfl rfl fun ac hs => ?_)
  obtain ⟨p4, ks5, e6, hks5⟩ := ex3 (popL ks er)
  obtain ⟨oks5, lp4⟩ := pop_ok ok hks5
  replace lp4 : p4.length ≤ 8000 := Nat.le_trans lp4 (by decide)
  refine stp (op_callX (F := 39) (ρ := M1x) hs none none [0] [0, 1, 2] (v := fun r => .slice r.x p4.length r.y) (S1 := [(true, oW am ks.length cm 34 vs), (true, oW aa js.length ca 34 us), (true, .bysO G (vs ++ us ++ xs) (ks ++ js ++ ts))]) (bs1 := [(true, gm, 61, [.slice am ks.length cm, .slice aa js.length ca, ni64 er])]) (E := fun r => [(true, oW r.a ks5.length r.c 34 r.vs), (true, oW aa js.length ca 34 us), (true, .bysO G (r.vs ++ us ++ (xs ++ [.slice r.x p4.length r.y])) (ks5 ++ js ++ (ts ++ [p4])))]) (E1 := fun r => [(true, oW r.a ks5.length r.c 34 r.vs), (true, oW aa js.length ca 34 us), (true, .bysO G (r.vs ++ us ++ (xs ++ [.slice r.x p4.length r.y])) (ks5 ++ js ++ (ts ++ [p4])))]) (E2 := fun r => []) (bfA := fun r => [(true, gm, 61, [.slice r.a ks5.length r.c, .slice aa js.length ca, ni64 e6])]) (bf := fun r => [(true, gm, 61, [.slice r.a ks5.length r.c, .slice aa js.length ca, ni64 e6])]) (bf2 := fun r => []) rfl rfl rfl rfl rfl (call39 _) rfl rfl (by decide) (by decide) (fun Z X hm => pop_c gm am cm vs aa ca us G xs ts ks js er p4 ks5 e6 (ok.mono (by decide)) hks5 _ _ _ hm) (fun _ => rfl) (fun _ => rfl) (fun _ => rfl) (fun _ => rfl) (fun _ => rfl) rfl fun ⟨ad7, cp8, vs9, ad10, cp11⟩ ac w hs => asg hs rfl rfl rfl fun ac hs => wpList_nil (then_n (wp_region_lit (mvv hs rfl rfl rfl fun ac hs => mvv hs rfl rfl rfl fun ac hs => stp (op_nilCheck hs none rfl rfl rfl rfl fun ac hs => stp (op_fieldA hs none rfl rfl rfl underlying61 rfl sizeOf22 (by decide) rfl fun ac hs => ldd hs 0 (.slice aa js.length ca) isAgg22 sizeOf22 rfl rfl rfl rfl rfl fun ac hs => mvv hs rfl rfl rfl fun ac hs => stp (op_bsO hs none none (qs := [(0, .slice ad10 p4.length cp11)]) (cs := [.slice ad10 p4.length cp11]) rfl rfl rfl rfl underlying22 inf_slice_34 (by decide) (by decide) (fill_one _ _ rfl) rfl rfl rfl rfl fun ad13 ac w hs => ?_)))))))
  refine stp (op_appR hs none 1 3 (N' := (js ++ [p4]).length) (ys := us ++ [Value.slice ad10 p4.length cp11]) rfl rfl rfl rfl rfl rfl underlying22 inf_slice_34 rfl (by decide) rfl (by intro u hu; obtain rfl := List.mem_singleton.1 hu; rfl) (by decide) (show js.length + 1 ≤ 1000000 by omega) (by simp) rfl rfl rfl fun ad14 cp15 ac w hs => stp (op_nilCheck hs none rfl rfl rfl rfl fun ac hs => stp (op_fieldA hs none rfl rfl rfl underlying61 rfl sizeOf22 (by decide) rfl fun ac hs => stp (stoo hs 0 ([.slice ad14 ((js ++ [p4]).length) cp15]) sizeOf22 rfl rfl rfl rfl rfl rfl rfl rfl rfl rfl fun w hs => wpList_nil ?_))))
  replace hs := hs.altB 2 (hs.ownLen 0 rfl) hu rfl
  refine blk_n (then_n (wp_seq ?_))
  replace hs := hs.nf w0 Z X [4] rfl rfl rfl rfl
  refine wp_region_lit (asg hs rfl rfl rfl fun ac hs => wpList_nil (then_n (wp_ret ?_)))
  have HS := hs
  have h0 := hp
  unfold movL at h0
  rw [if_neg hp2, if_pos hp3] at h0
  simp only [hks5] at h0
  obtain ⟨hq, hk, hj, he⟩ := inj4 h0
  subst hq
  subst hk
  subst hj
  subst he
  have hs := HS
  exact bodyPost_ret (res1 rfl (rv_t hs rfl)) hs.defers ⟨⟨ad7, cp8, vs9, ad14, cp15, us ++ [.slice ad10 p4.length cp11], G⟩, rfl, ((hs.selS [0, 1, 2] rfl (by decide)).selB [0] rfl (by decide)).mem⟩
 intro hc
 have hp16 := of_decide_eq_false hc
 refine wp_seq ?_
 replace hs := hs.nf w0 Z X [0, 4, 6] rfl rfl rfl rfl
 refine wp_region_lit (bnn hs (.bool (decide (op = 108))) rfl rfl rfl rfl (bin_eqlN (y := 108)) fun ac hs => asg hs rfl rfl rfl fun ac hs => wpList_nil (then_n (wcs hs rfl ?_ ?_)))
 ·intro hc
  have hp17 := of_decide_eq_true hc
  refine wp_region_lit (mvv hs rfl rfl rfl fun ac hs => ?_)
  obtain ⟨ks18, js19, e20, hks18⟩ := ex3 (backL ks js er)
  obtain ⟨oks18, ojs19⟩ := back_ok ok oj hks18
  refine stp (op_callX (F := 43) (ρ := M2) hs none none [0] [0, 1, 2] (v := fun r => .tuple #[]) (S1 := [(true, oW am ks.length cm 34 vs), (true, oW aa js.length ca 34 us), (true, .bysO G (vs ++ us ++ xs) (ks ++ js ++ ts))]) (bs1 := [(true, gm, 61, [.slice am ks.length cm, .slice aa js.length ca, ni64 er])]) (E := fun r => [(true, oW r.a ks18.length r.c 34 r.vs), (true, oW r.b js19.length r.d 34 r.us), (true, .bysO r.G (r.vs ++ r.us ++ xs) (ks18 ++ js19 ++ ts))]) (E1 := fun r => [(true, oW r.a ks18.length r.c 34 r.vs), (true, oW r.b js19.length r.d 34 r.us), (true, .bysO r.G (r.vs ++ r.us ++ xs) (ks18 ++ js19 ++ ts))]) (E2 := fun r => []) (bfA := fun r => [(true, gm, 61, [.slice r.a ks18.length r.c, .slice r.b js19.length r.d, ni64 e20])]) (bf := fun r => [(true, gm, 61, [.slice r.a ks18.length r.c, .slice r.b js19.length r.d, ni64 e20])]) (bf2 := fun r => []) rfl rfl rfl rfl rfl (call43 _) rfl rfl (by decide) (by decide) (fun Z X hm => back_c gm am cm vs aa ca us G xs ts ks js er ks18 js19 e20 (ok.mono (by decide)) (oj.mono (by decide)) hks18 _ _ _ hm) (fun _ => rfl) (fun _ => rfl) (fun _ => rfl) (fun _ => rfl) (fun _ => rfl) rfl fun ⟨ad21, cp22, vs23, ad24, cp25, us26, G27⟩ ac w hs => wpList_nil (blk_n (then_n (wp_seq (wp_region_lit (asg hs rfl rfl rfl fun ac hs => wpList_nil (then_n (wp_ret ?_))))))))
  have HS := hs
  have h0 := hp
  unfold movL at h0
  rw [if_neg hp2, if_neg hp16, if_pos hp17] at h0
  simp only [hks18] at h0
  obtain ⟨hq, hk, hj, he⟩ := inj4 h0
  subst hq
  subst hk
  subst hj
  subst he
  have hs := HS
  exact bodyPost_ret (res1 rfl (rv_t hs rfl)) hs.defers ⟨⟨ad21, cp22, vs23, ad24, cp25, us26, G27⟩, rfl, ((hs.selS [0, 1, 2] rfl (by decide)).selB [0] rfl (by decide)).mem⟩
 intro hc
 have hp28 := of_decide_eq_false hc
 refine wp_seq (wp_region_lit (bnn hs (.bool (decide (op = 109))) rfl rfl rfl rfl (bin_eqlN (y := 109)) fun ac hs => asg hs rfl rfl rfl fun ac hs => wpList_nil (then_n (wcs hs rfl ?_ ?_))))
 ·intro hc
  have hp29 := of_decide_eq_true hc
  refine wp_region_lit (mvv hs rfl rfl rfl fun ac hs => ?_)
  replace hs := hs.nilCel none rfl
  replace hs := hs.celEq 3 (N' := ([] : List Nat).length) (cs' := intL []) rfl rfl rfl
  obtain ⟨ks30, e31, hks30⟩ := ex2 (shufL 2 ([]) ks er)
  have oks30 := shuf_ok ok (show ([] : List Nat).length ≤ 6 by decide) hks30
  refine stp (op_callX (F := 44) (ρ := M1) hs none none [0] [0, 1, 2, 3] (v := fun r => .tuple #[]) (S1 := [(true, oW am ks.length cm 34 vs), (true, oW aa js.length ca 34 us), (true, .bysO G (vs ++ us ++ xs) (ks ++ js ++ ts)), (true, cL none (([] : List Nat).length) 0 (intL []))]) (bs1 := [(true, gm, 61, [.slice am ks.length cm, .slice aa js.length ca, ni64 er])]) (E := fun r => [(true, oW r.a ks30.length r.c 34 r.vs), (true, oW aa js.length ca 34 us), (true, .bysO r.G (r.vs ++ us ++ xs) (ks30 ++ js ++ ts)), (true, cL none (([] : List Nat).length) 0 (intL []))]) (E1 := fun r => [(true, oW r.a ks30.length r.c 34 r.vs), (true, oW aa js.length ca 34 us), (true, .bysO r.G (r.vs ++ us ++ xs) (ks30 ++ js ++ ts)), (true, cL none (([] : List Nat).length) 0 (intL []))]) (E2 := fun r => []) (bfA := fun r => [(true, gm, 61, [.slice r.a ks30.length r.c, .slice aa js.length ca, ni64 e31])]) (bf := fun r => [(true, gm, 61, [.slice r.a ks30.length r.c, .slice aa js.length ca, ni64 e31])]) (bf2 := fun r => []) rfl rfl rfl rfl rfl (call44 _) rfl rfl (by decide) (by decide) (fun Z X hm => shuffle_c gm am cm vs aa ca us G xs ts ks js er 2 ([]) none 0 ks30 e31 (ok.mono (by decide)) (by decide) (by decide) hks30 _ _ _ hm) (fun _ => rfl) (fun _ => rfl) (fun _ => rfl) (fun _ => rfl) (fun _ => rfl) rfl fun ⟨ad32, cp33, vs34, G35⟩ ac w hs => wpList_nil (blk_n (then_n (wp_seq ?_))))
  replace hs := hs.nf w0 Z X [4] rfl rfl rfl rfl
  refine wp_region_lit (asg hs rfl rfl rfl fun ac hs => wpList_nil (then_n (wp_ret ?_)))
  have HS := hs
  have h0 := hp
  unfold movL at h0
  rw [if_neg hp2, if_neg hp16, if_neg hp28, if_pos hp29] at h0
  simp only [hks30] at h0
  obtain ⟨hq, hk, hj, he⟩ := inj4 h0
  subst hq
  subst hk
  subst hj
  subst he
  have hs := HS
  exact bodyPost_ret (res1 rfl (rv_t hs rfl)) hs.defers ⟨⟨ad32, cp33, vs34, aa, ca, us, G35⟩, rfl, ((hs.selS [0, 1, 2] rfl (by decide)).selB [0] rfl (by decide)).mem⟩
 intro hc
 have hp36 := of_decide_eq_false hc
 refine wp_seq (wp_region_lit (bnn hs (.bool (decide (op = 110))) rfl rfl rfl rfl (bin_eqlN (y := 110)) fun ac hs => asg hs rfl rfl rfl fun ac hs => wpList_nil (then_n (wcs hs rfl ?_ ?_))))
 ·intro hc
  have hp37 := of_decide_eq_true hc
  replace hs := hs.nf w0 Z X [0, 4] rfl rfl rfl rfl
  refine wp_region_lit (mvv hs rfl rfl rfl fun ac hs => stp (op_bsO hs none none (qs := [(0, .int .i64 0), (1, .int .i64 1), (2, .int .i64 0), (3, .int .i64 1)]) (cs := [.int .i64 0, .int .i64 1, .int .i64 0, .int .i64 1]) rfl rfl rfl rfl underlying78 inf_i64_3 (by decide) (by decide) (by kernel_rfl) rfl rfl rfl rfl fun ad39 ac w hs => ?_))
  replace hs := hs.freeze 3 rfl
  replace hs := hs.celEq 3 (N' := ([0, 1, 0, 1] : List Nat).length) (cs' := intL [0, 1, 0, 1]) rfl rfl rfl
  obtain ⟨ks40, e41, hks40⟩ := ex2 (shufL 2 ([0, 1, 0, 1]) ks er)
  have oks40 := shuf_ok ok (show ([0, 1, 0, 1] : List Nat).length ≤ 6 by decide) hks40
  refine stp (op_callX (F := 44) (ρ := M1) hs none none [0] [0, 1, 2, 3] (v := fun r => .tuple #[]) (S1 := [(true, oW am ks.length cm 34 vs), (true, oW aa js.length ca 34 us), (true, .bysO G (vs ++ us ++ xs) (ks ++ js ++ ts)), (true, cL ad39 (([0, 1, 0, 1] : List Nat).length) 4 (intL [0, 1, 0, 1]))]) (bs1 := [(true, gm, 61, [.slice am ks.length cm, .slice aa js.length ca, ni64 er])]) (E := fun r => [(true, oW r.a ks40.length r.c 34 r.vs), (true, oW aa js.length ca 34 us), (true, .bysO r.G (r.vs ++ us ++ xs) (ks40 ++ js ++ ts)), (true, cL ad39 (([0, 1, 0, 1] : List Nat).length) 4 (intL [0, 1, 0, 1]))]) (E1 := fun r => [(true, oW r.a ks40.length r.c 34 r.vs), (true, oW aa js.length ca 34 us), (true, .bysO r.G (r.vs ++ us ++ xs) (ks40 ++ js ++ ts)), (true, cL ad39 (([0, 1, 0, 1] : List Nat).length) 4 (intL [0, 1, 0, 1]))]) (E2 := fun r => []) (bfA := fun r => [(true, gm, 61, [.slice r.a ks40.length r.c, .slice aa js.length ca, ni64 e41])]) (bf := fun r => [(true, gm, 61, [.slice r.a ks40.length r.c, .slice aa js.length ca, ni64 e41])]) (bf2 := fun r => []) rfl rfl rfl rfl rfl (call44 _) rfl rfl (by decide) (by decide) (fun Z X hm => shuffle_c gm am cm vs aa ca us G xs ts ks js er 2 ([0, 1, 0, 1]) ad39 4 ks40 e41 (ok.mono (by decide)) (by decide) (by decide) hks40 _ _ _ hm) (fun _ => rfl) (fun _ => rfl) (fun _ => rfl) (fun _ => rfl) (fun _ => rfl) rfl fun ⟨ad42, cp43, vs44, G45⟩ ac w hs => wpList_nil (blk_n (then_n (wp_seq (wp_region_lit (asg hs rfl rfl rfl fun ac hs => wpList_nil (then_n (wp_ret ?_))))))))
  have HS := hs
  have h0 := hp
  unfold movL at h0
  rw [if_neg hp2, if_neg hp16, if_neg hp28, if_neg hp36, if_pos hp37] at h0
  simp only [hks40] at h0
  obtain ⟨hq, hk, hj, he⟩ := inj4 h0
  subst hq
  subst hk
  subst hj
  subst he
  have hs := HS
  exact bodyPost_ret (res1 rfl (rv_t hs rfl)) hs.defers ⟨⟨ad42, cp43, vs44, aa, ca, us, G45⟩, rfl, ((hs.selS [0, 1, 2] rfl (by decide)).selB [0] rfl (by decide)).mem⟩
 intro hc
 have hp46 := of_decide_eq_false hc
 refine wp_seq ?_
 replace hs := hs.nf w0 Z X [0, 4, 6] rfl rfl rfl rfl
 refine wp_region_lit (bnn hs (.bool (decide (op = 111))) rfl rfl rfl rfl (bin_eqlN (y := 111)) fun ac hs => asg hs rfl rfl rfl fun ac hs => wpList_nil (then_n (wcs hs rfl ?_ ?_)))
 ·intro hc
  have hp47 := of_decide_eq_true hc
  refine wp_region_lit (mvv hs rfl rfl rfl fun ac hs => stp (op_bsO hs none none (qs := [(0, .int .i64 0), (1, .int .i64 1), (2, .int .i64 2), (3, .int .i64 0), (4, .int .i64 1), (5, .int .i64 2)]) (cs := [.int .i64 0, .int .i64 1, .int .i64 2, .int .i64 0, .int .i64 1, .int .i64 2]) rfl rfl rfl rfl underlying78 inf_i64_3 (by decide) (by decide) (by kernel_rfl) rfl rfl rfl rfl fun ad49 ac w hs => ?_))
  replace hs := hs.freeze 3 rfl
  replace hs := hs.celEq 3 (N' := ([0, 1, 2, 0, 1, 2] : List Nat).length) (cs' := intL [0, 1, 2, 0, 1, 2]) rfl rfl rfl
  obtain ⟨ks50, e51, hks50⟩ := ex2 (shufL 3 ([0, 1, 2, 0, 1, 2]) ks er)
  have oks50 := shuf_ok ok (show ([0, 1, 2, 0, 1, 2] : List Nat).length ≤ 6 by decide) hks50
  refine stp (op_callX (F := 44) (ρ := M1) hs none none [0] [0, 1, 2, 3] (v := fun r => .tuple #[]) (S1 := [(true, oW am ks.length cm 34 vs), (true, oW aa js.length ca 34 us), (true, .bysO G (vs ++ us ++ xs) (ks ++ js ++ ts)), (true, cL ad49 (([0, 1, 2, 0, 1, 2] : List Nat).length) 6 (intL [0, 1, 2, 0, 1, 2]))]) (bs1 := [(true, gm, 61, [.slice am ks.length cm, .slice aa js.length ca, ni64 er])]) (E := fun r => [(true, oW r.a ks50.length r.c 34 r.vs), (true, oW aa js.length ca 34 us), (true, .bysO r.G (r.vs ++ us ++ xs) (ks50 ++ js ++ ts)), (true, cL ad49 (([0, 1, 2, 0, 1, 2] : List Nat).length) 6 (intL [0, 1, 2, 0, 1, 2]))]) (E1 := fun r => [(true, oW r.a ks50.length r.c 34 r.vs), (true, oW aa js.length ca 34 us), (true, .bysO r.G (r.vs ++ us ++ xs) (ks50 ++ js ++ ts)), (true, cL ad49 (([0, 1, 2, 0, 1, 2] : List Nat).length) 6 (intL [0, 1, 2, 0, 1, 2]))]) (E2 := fun r => []) (bfA := fun r => [(true, gm, 61, [.slice r.a ks50.length r.c, .slice aa js.length ca, ni64 e51])]) (bf := fun r => [(true, gm, 61, [.slice r.a ks50.length r.c, .slice aa js.length ca, ni64 e51])]) (bf2 := fun r => []) rfl rfl rfl rfl rfl (call44 _) rfl rfl (by decide) (by decide) (fun Z X hm => shuffle_c gm am cm vs aa ca us G xs ts ks js er 3 ([0, 1, 2, 0, 1, 2]) ad49 6 ks50 e51 (ok.mono (by decide)) (by decide) (by decide) hks50 _ _ _ hm) (fun _ => rfl) (fun _ => rfl) (fun _ => rfl) (fun _ => rfl) (fun _ => rfl) rfl fun ⟨ad52, cp53, vs54, G55⟩ ac w hs => wpList_nil (blk_n (then_n (wp_seq (wp_region_lit (asg hs rfl rfl rfl fun ac hs => wpList_nil (then_n (wp_ret ?_))))))))
  have HS := hs
  have h0 := hp
  unfold movL at h0
  rw [if_neg hp2, if_neg hp16, if_neg hp28, if_neg hp36, if_neg hp46, if_pos hp47] at h0
  simp only [hks50] at h0
  obtain ⟨hq, hk, hj, he⟩ := inj4 h0
  subst hq
  subst hk
  subst hj
  subst he
  have hs := HS
  exact bodyPost_ret (res1 rfl (rv_t hs rfl)) hs.defers ⟨⟨ad52, cp53, vs54, aa, ca, us, G55⟩, rfl, ((hs.selS [0, 1, 2] rfl (by decide)).selB [0] rfl (by decide)).mem⟩
 intro hc
 have hp56 := of_decide_eq_false hc
 refine wp_seq (wp_region_lit (bnn hs (.bool (decide (op = 112))) rfl rfl rfl rfl (bin_eqlN (y := 112)) fun ac hs => asg hs rfl rfl rfl fun ac hs => wpList_nil (then_n (wcs hs rfl ?_ ?_))))
 ·intro hc
  have hp57 := of_decide_eq_true hc
  refine wp_region_lit (mvv hs rfl rfl rfl fun ac hs => stp (op_bsO hs none none (qs := [(0, .int .i64 0), (1, .int .i64 1), (2, .int .i64 2), (3, .int .i64 3), (4, .int .i64 0), (5, .int .i64 1)]) (cs := [.int .i64 0, .int .i64 1, .int .i64 2, .int .i64 3, .int .i64 0, .int .i64 1]) rfl rfl rfl rfl underlying78 inf_i64_3 (by decide) (by decide) (by kernel_rfl) rfl rfl rfl rfl fun ad59 ac w hs => ?_))
  replace hs := hs.freeze 3 rfl
  replace hs := hs.celEq 3 (N' := ([0, 1, 2, 3, 0, 1] : List Nat).length) (cs' := intL [0, 1, 2, 3, 0, 1]) rfl rfl rfl
  obtain ⟨ks60, e61, hks60⟩ := ex2 (shufL 4 ([0, 1, 2, 3, 0, 1]) ks er)
  have oks60 := shuf_ok ok (show ([0, 1, 2, 3, 0, 1] : List Nat).length ≤ 6 by decide) hks60
  refine stp (op_callX (F := 44) (ρ := M1) hs none none [0] [0, 1, 2, 3] (v := fun r => .tuple #[]) (S1 := [(true, oW am ks.length cm 34 vs), (true, oW aa js.length ca 34 us), (true, .bysO G (vs ++ us ++ xs) (ks ++ js ++ ts)), (true, cL ad59 (([0, 1, 2, 3, 0, 1] : List Nat).length) 6 (intL [0, 1, 2, 3, 0, 1]))]) (bs1 := [(true, gm, 61, [.slice am ks.length cm, .slice aa js.length ca, ni64 er])]) (E := fun r => [(true, oW r.a ks60.length r.c 34 r.vs), (true, oW aa js.length ca 34 us), (true, .bysO r.G (r.vs ++ us ++ xs) (ks60 ++ js ++ ts)), (true, cL ad59 (([0, 1, 2, 3, 0, 1] : List Nat).length) 6 (intL [0, 1, 2, 3, 0, 1]))]) (E1 := fun r => [(true, oW r.a ks60.length r.c 34 r.vs), (true, oW aa js.length ca 34 us), (true, .bysO r.G (r.vs ++ us ++ xs) (ks60 ++ js ++ ts)), (true, cL ad59 (([0, 1, 2, 3, 0, 1] : List Nat).length) 6 (intL [0, 1, 2, 3, 0, 1]))]) (E2 := fun r => []) (bfA := fun r => [(true, gm, 61, [.slice r.a ks60.length r.c, .slice aa js.length ca, ni64 e61])]) (bf := fun r => [(true, gm, 61, [.slice r.a ks60.length r.c, .slice aa js.length ca, ni64 e61])]) (bf2 := fun r => []) rfl rfl rfl rfl rfl (call44 _) rfl rfl (by decide) (by decide) (fun Z X hm => shuffle_c gm am cm vs aa ca us G xs ts ks js er 4 ([0, 1, 2, 3, 0, 1]) ad59 6 ks60 e61 (ok.mono (by decide)) (by decide) (by decide) hks60 _ _ _ hm) (fun _ => rfl) (fun _ => rfl) (fun _ => rfl) (fun _ => rfl) (fun _ => rfl) rfl fun ⟨ad62, cp63, vs64, G65⟩ ac w hs => wpList_nil (blk_n (then_n (wp_seq ?_))))
  replace hs := hs.nf w0 Z X [4] rfl rfl rfl rfl
  refine wp_region_lit (asg hs rfl rfl rfl fun ac hs => wpList_nil (then_n (wp_ret ?_)))
  have HS := hs
  have h0 := hp
  unfold movL at h0
  rw [if_neg hp2, if_neg hp16, if_neg hp28, if_neg hp36, if_neg hp46, if_neg hp56, if_pos hp57] at h0
  simp only [hks60] at h0
  obtain ⟨hq, hk, hj, he⟩ := inj4 h0
  subst hq
  subst hk
  subst hj
  subst he
  have hs := HS
  exact bodyPost_ret (res1 rfl (rv_t hs rfl)) hs.defers ⟨⟨ad62, cp63, vs64, aa, ca, us, G65⟩, rfl, ((hs.selS [0, 1, 2] rfl (by decide)).selB [0] rfl (by decide)).mem⟩
 intro hc
 have hp66 := of_decide_eq_false hc
 refine wp_seq (wp_region_lit (bnn hs (.bool (decide (op = 113))) rfl rfl rfl rfl (bin_eqlN (y := 113)) fun ac hs => asg hs rfl rfl rfl fun ac hs => wpList_nil (then_n (wcs hs rfl ?_ ?_))))
 ·intro hc
  have hp67 := of_decide_eq_true hc
  replace hs := hs.nf w0 Z X [0, 4] rfl rfl rfl rfl
  refine wp_region_lit (mvv hs rfl rfl rfl fun ac hs => stp (op_bsO hs none none (qs := [(0, .int .i64 2), (1, .int .i64 3), (2, .int .i64 4), (3, .int .i64 5), (4, .int .i64 0), (5, .int .i64 1)]) (cs := [.int .i64 2, .int .i64 3, .int .i64 4, .int .i64 5, .int .i64 0, .int .i64 1]) rfl rfl rfl rfl underlying78 inf_i64_3 (by decide) (by decide) (by kernel_rfl) rfl rfl rfl rfl fun ad69 ac w hs => ?_))
  replace hs := hs.freeze 3 rfl
  replace hs := hs.celEq 3 (N' := ([2, 3, 4, 5, 0, 1] : List Nat).length) (cs' := intL [2, 3, 4, 5, 0, 1]) rfl rfl rfl
  obtain ⟨ks70, e71, hks70⟩ := ex2 (shufL 6 ([2, 3, 4, 5, 0, 1]) ks er)
  have oks70 := shuf_ok ok (show ([2, 3, 4, 5, 0, 1] : List Nat).length ≤ 6 by decide) hks70
  refine stp (op_callX (F := 44) (ρ := M1) hs none none [0] [0, 1, 2, 3] (v := fun r => .tuple #[]) (S1 := [(true, oW am ks.length cm 34 vs), (true, oW aa js.length ca 34 us), (true, .bysO G (vs ++ us ++ xs) (ks ++ js ++ ts)), (true, cL ad69 (([2, 3, 4, 5, 0, 1] : List Nat).length) 6 (intL [2, 3, 4, 5, 0, 1]))]) (bs1 := [(true, gm, 61, [.slice am ks.length cm, .slice aa js.length ca, ni64 er])]) (E := fun r => [(true, oW r.a ks70.length r.c 34 r.vs), (true, oW aa js.length ca 34 us), (true, .bysO r.G (r.vs ++ us ++ xs) (ks70 ++ js ++ ts)), (true, cL ad69 (([2, 3, 4, 5, 0, 1] : List Nat).length) 6 (intL [2, 3, 4, 5, 0, 1]))]) (E1 := fun r => [(true, oW r.a ks70.length r.c 34 r.vs), (true, oW aa js.length ca 34 us), (true, .bysO r.G (r.vs ++ us ++ xs) (ks70 ++ js ++ ts)), (true, cL ad69 (([2, 3, 4, 5, 0, 1] : List Nat).length) 6 (intL [2, 3, 4, 5, 0, 1]))]) (E2 := fun r => []) (bfA := fun r => [(true, gm, 61, [.slice r.a ks70.length r.c, .slice aa js.length ca, ni64 e71])]) (bf := fun r => [(true, gm, 61, [.slice r.a ks70.length r.c, .slice aa js.length ca, ni64 e71])]) (bf2 := fun r => []) rfl rfl rfl rfl rfl (call44 _) rfl rfl (by decide) (by decide) (fun Z X hm => shuffle_c gm am cm vs aa ca us G xs ts ks js er 6 ([2, 3, 4, 5, 0, 1]) ad69 6 ks70 e71 (ok.mono (by decide)) (by decide) (by decide) hks70 _ _ _ hm) (fun _ => rfl) (fun _ => rfl) (fun _ => rfl) (fun _ => rfl) (fun _ => rfl) rfl fun ⟨ad72, cp73, vs74, G75⟩ ac w hs => wpList_nil (blk_n (then_n (wp_seq (wp_region_lit (asg hs rfl rfl rfl fun ac hs => wpList_nil (then_n (wp_ret ?_))))))))
  have HS := hs
  have h0 := hp
  unfold movL at h0
  rw [if_neg hp2, if_neg hp16, if_neg hp28, if_neg hp36, if_neg hp46, if_neg hp56, if_neg hp66, if_pos hp67] at h0
  simp only [hks70] at h0
  obtain ⟨hq, hk, hj, he⟩ := inj4 h0
  subst hq
  subst hk
  subst hj
  subst he
  have hs := HS
  exact bodyPost_ret (res1 rfl (rv_t hs rfl)) hs.defers ⟨⟨ad72, cp73, vs74, aa, ca, us, G75⟩, rfl, ((hs.selS [0, 1, 2] rfl (by decide)).selB [0] rfl (by decide)).mem⟩
 intro hc
 have hp76 := of_decide_eq_false hc
 refine wp_seq ?_
 replace hs := hs.nf w0 Z X [0, 4, 6] rfl rfl rfl rfl
 refine wp_region_lit (bnn hs (.bool (decide (op = 114))) rfl rfl rfl rfl (bin_eqlN (y := 114)) fun ac hs => asg hs rfl rfl rfl fun ac hs => wpList_nil (then_n (wcs hs rfl ?_ ?_)))
 ·intro hc
  have hp77 := of_decide_eq_true hc
  refine wp_region_lit (mvv hs rfl rfl rfl fun ac hs => stp (op_bsO hs none none (qs := [(0, .int .i64 2), (1, .int .i64 3), (2, .int .i64 0), (3, .int .i64 1)]) (cs := [.int .i64 2, .int .i64 3, .int .i64 0, .int .i64 1]) rfl rfl rfl rfl underlying78 inf_i64_3 (by decide) (by decide) (by kernel_rfl) rfl rfl rfl rfl fun ad79 ac w hs => ?_))
  replace hs := hs.freeze 3 rfl
  replace hs := hs.celEq 3 (N' := ([2, 3, 0, 1] : List Nat).length) (cs' := intL [2, 3, 0, 1]) rfl rfl rfl
  obtain ⟨ks80, e81, hks80⟩ := ex2 (shufL 4 ([2, 3, 0, 1]) ks er)
  have oks80 := shuf_ok ok (show ([2, 3, 0, 1] : List Nat).length ≤ 6 by decide) hks80
  refine stp (op_callX (F := 44) (ρ := M1) hs none none [0] [0, 1, 2, 3] (v := fun r => .tuple #[]) (S1 := [(true, oW am ks.length cm 34 vs), (true, oW aa js.length ca 34 us), (true, .bysO G (vs ++ us ++ xs) (ks ++ js ++ ts)), (true, cL ad79 (([2, 3, 0, 1] : List Nat).length) 4 (intL [2, 3, 0, 1]))]) (bs1 := [(true, gm, 61, [.slice am ks.length cm, .slice aa js.length ca, ni64 er])]) (E := fun r => [(true, oW r.a ks80.length r.c 34 r.vs), (true, oW aa js.length ca 34 us), (true, .bysO r.G (r.vs ++ us ++ xs) (ks80 ++ js ++ ts)), (true, cL ad79 (([2, 3, 0, 1] : List Nat).length) 4 (intL [2, 3, 0, 1]))]) (E1 := fun r => [(true, oW r.a ks80.length r.c 34 r.vs), (true, oW aa js.length ca 34 us), (true, .bysO r.G (r.vs ++ us ++ xs) (ks80 ++ js ++ ts)), (true, cL ad79 (([2, 3, 0, 1] : List Nat).length) 4 (intL [2, 3, 0, 1]))]) (E2 := fun r => []) (bfA := fun r => [(true, gm, 61, [.slice r.a ks80.length r.c, .slice aa js.length ca, ni64 e81])]) (bf := fun r => [(true, gm, 61, [.slice r.a ks80.length r.c, .slice aa js.length ca, ni64 e81])]) (bf2 := fun r => []) rfl rfl rfl rfl rfl (call44 _) rfl rfl (by decide) (by decide) (fun Z X hm => shuffle_c gm am cm vs aa ca us G xs ts ks js er 4 ([2, 3, 0, 1]) ad79 4 ks80 e81 (ok.mono (by decide)) (by decide) (by decide) hks80 _ _ _ hm) (fun _ => rfl) (fun _ => rfl) (fun _ => rfl) (fun _ => rfl) (fun _ => rfl) rfl fun ⟨ad82, cp83, vs84, G85⟩ ac w hs => wpList_nil (blk_n (then_n (wp_seq (wp_region_lit (asg hs rfl rfl rfl fun ac hs => wpList_nil (then_n (wp_ret ?_))))))))
  have HS := hs
  have h0 := hp
  unfold movL at h0
  rw [if_neg hp2, if_neg hp16, if_neg hp28, if_neg hp36, if_neg hp46, if_neg hp56, if_neg hp66, if_neg hp76, if_pos hp77] at h0
  simp only [hks80] at h0
  obtain ⟨hq, hk, hj, he⟩ := inj4 h0
  subst hq
  subst hk
  subst hj
  subst he
  have hs := HS
  exact bodyPost_ret (res1 rfl (rv_t hs rfl)) hs.defers ⟨⟨ad82, cp83, vs84, aa, ca, us, G85⟩, rfl, ((hs.selS [0, 1, 2] rfl (by decide)).selB [0] rfl (by decide)).mem⟩
 intro hc
 have hp86 := of_decide_eq_false hc
 refine wp_seq (wp_region_lit (bnn hs (.bool (decide (op = 117))) rfl rfl rfl rfl (bin_eqlN (y := 117)) fun ac hs => asg hs rfl rfl rfl fun ac hs => wpList_nil (then_n (wcs hs rfl ?_ ?_))))
 ·intro hc
  have hp87 := of_decide_eq_true hc
  refine wp_region_lit (mvv hs rfl rfl rfl fun ac hs => ?_)
  replace hs := hs.nilCel none rfl
  replace hs := hs.celEq 3 (N' := ([] : List Nat).length) (cs' := intL []) rfl rfl rfl
  obtain ⟨ks88, e89, hks88⟩ := ex2 (shufL 1 ([]) ks er)
  have oks88 := shuf_ok ok (show ([] : List Nat).length ≤ 6 by decide) hks88
  refine stp (op_callX (F := 44) (ρ := M1) hs none none [0] [0, 1, 2, 3] (v := fun r => .tuple #[]) (S1 := [(true, oW am ks.length cm 34 vs), (true, oW aa js.length ca 34 us), (true, .bysO G (vs ++ us ++ xs) (ks ++ js ++ ts)), (true, cL none (([] : List Nat).length) 0 (intL []))]) (bs1 := [(true, gm, 61, [.slice am ks.length cm, .slice aa js.length ca, ni64 er])]) (E := fun r => [(true, oW r.a ks88.length r.c 34 r.vs), (true, oW aa js.length ca 34 us), (true, .bysO r.G (r.vs ++ us ++ xs) (ks88 ++ js ++ ts)), (true, cL none (([] : List Nat).length) 0 (intL []))]) (E1 := fun r => [(true, oW r.a ks88.length r.c 34 r.vs), (true, oW aa js.length ca 34 us), (true, .bysO r.G (r.vs ++ us ++ xs) (ks88 ++ js ++ ts)), (true, cL none (([] : List Nat).length) 0 (intL []))]) (E2 := fun r => []) (bfA := fun r => [(true, gm, 61, [.slice r.a ks88.length r.c, .slice aa js.length ca, ni64 e89])]) (bf := fun r => [(true, gm, 61, [.slice r.a ks88.length r.c, .slice aa js.length ca, ni64 e89])]) (bf2 := fun r => []) rfl rfl rfl rfl rfl (call44 _) rfl rfl (by decide) (by decide) (fun Z X hm => shuffle_c gm am cm vs aa ca us G xs ts ks js er 1 ([]) none 0 ks88 e89 (ok.mono (by decide)) (by decide) (by decide) hks88 _ _ _ hm) (fun _ => rfl) (fun _ => rfl) (fun _ => rfl) (fun _ => rfl) (fun _ => rfl) rfl fun ⟨ad90, cp91, vs92, G93⟩ ac w hs => wpList_nil (blk_n (then_n (wp_seq ?_))))
  replace hs := hs.nf w0 Z X [4] rfl rfl rfl rfl
  refine wp_region_lit (asg hs rfl rfl rfl fun ac hs => wpList_nil (then_n (wp_ret ?_)))
  have HS := hs
  have h0 := hp
  unfold movL at h0
  rw [if_neg hp2, if_neg hp16, if_neg hp28, if_neg hp36, if_neg hp46, if_neg hp56, if_neg hp66, if_neg hp76, if_neg hp86, if_pos hp87] at h0
  simp only [hks88] at h0
  obtain ⟨hq, hk, hj, he⟩ := inj4 h0
  subst hq
  subst hk
  subst hj
  subst he
  have hs := HS
  exact bodyPost_ret (res1 rfl (rv_t hs rfl)) hs.defers ⟨⟨ad90, cp91, vs92, aa, ca, us, G93⟩, rfl, ((hs.selS [0, 1, 2] rfl (by decide)).selB [0] rfl (by decide)).mem⟩
 intro hc
 have hp94 := of_decide_eq_false hc
 refine wp_seq (wp_region_lit (bnn hs (.bool (decide (op = 118))) rfl rfl rfl rfl (bin_eqlN (y := 118)) fun ac hs => asg hs rfl rfl rfl fun ac hs => wpList_nil (then_n (wcs hs rfl ?_ ?_))))
 ·intro hc
  have hp95 := of_decide_eq_true hc
  replace hs := hs.nf w0 Z X [0, 4] rfl rfl rfl rfl
  refine wp_region_lit (mvv hs rfl rfl rfl fun ac hs => stp (op_bsO hs none none (qs := [(0, .int .i64 0), (1, .int .i64 0)]) (cs := [.int .i64 0, .int .i64 0]) rfl rfl rfl rfl underlying78 inf_i64_3 (by decide) (by decide) (by kernel_rfl) rfl rfl rfl rfl fun ad97 ac w hs => ?_))
  replace hs := hs.freeze 3 rfl
  replace hs := hs.celEq 3 (N' := ([0, 0] : List Nat).length) (cs' := intL [0, 0]) rfl rfl rfl
  obtain ⟨ks98, e99, hks98⟩ := ex2 (shufL 1 ([0, 0]) ks er)
  have oks98 := shuf_ok ok (show ([0, 0] : List Nat).length ≤ 6 by decide) hks98
  refine stp (op_callX (F := 44) (ρ := M1) hs none none [0] [0, 1, 2, 3] (v := fun r => .tuple #[]) (S1 := [(true, oW am ks.length cm 34 vs), (true, oW aa js.length ca 34 us), (true, .bysO G (vs ++ us ++ xs) (ks ++ js ++ ts)), (true, cL ad97 (([0, 0] : List Nat).length) 2 (intL [0, 0]))]) (bs1 := [(true, gm, 61, [.slice am ks.length cm, .slice aa js.length ca, ni64 er])]) (E := fun r => [(true, oW r.a ks98.length r.c 34 r.vs), (true, oW aa js.length ca 34 us), (true, .bysO r.G (r.vs ++ us ++ xs) (ks98 ++ js ++ ts)), (true, cL ad97 (([0, 0] : List Nat).length) 2 (intL [0, 0]))]) (E1 := fun r => [(true, oW r.a ks98.length r.c 34 r.vs), (true, oW aa js.length ca 34 us), (true, .bysO r.G (r.vs ++ us ++ xs) (ks98 ++ js ++ ts)), (true, cL ad97 (([0, 0] : List Nat).length) 2 (intL [0, 0]))]) (E2 := fun r => []) (bfA := fun r => [(true, gm, 61, [.slice r.a ks98.length r.c, .slice aa js.length ca, ni64 e99])]) (bf := fun r => [(true, gm, 61, [.slice r.a ks98.length r.c, .slice aa js.length ca, ni64 e99])]) (bf2 := fun r => []) rfl rfl rfl rfl rfl (call44 _) rfl rfl (by decide) (by decide) (fun Z X hm => shuffle_c gm am cm vs aa ca us G xs ts ks js er 1 ([0, 0]) ad97 2 ks98 e99 (ok.mono (by decide)) (by decide) (by decide) hks98 _ _ _ hm) (fun _ => rfl) (fun _ => rfl) (fun _ => rfl) (fun _ => rfl) (fun _ => rfl) rfl fun ⟨ad100, cp101, vs102, G103⟩ ac w hs => wpList_nil (blk_n (then_n (wp_seq (wp_region_lit (asg hs rfl rfl rfl fun ac hs => wpList_nil (then_n (wp_ret ?_))))))))
  have HS := hs
  have h0 := hp
  unfold movL at h0
  rw [if_neg hp2, if_neg hp16, if_neg hp28, if_neg hp36, if_neg hp46, if_neg hp56, if_neg hp66, if_neg hp76, if_neg hp86, if_neg hp94, if_pos hp95] at h0
  simp only [hks98] at h0
  obtain ⟨hq, hk, hj, he⟩ := inj4 h0
  subst hq
  subst hk
  subst hj
  subst he
  have hs := HS
  exact bodyPost_ret (res1 rfl (rv_t hs rfl)) hs.defers ⟨⟨ad100, cp101, vs102, aa, ca, us, G103⟩, rfl, ((hs.selS [0, 1, 2] rfl (by decide)).selB [0] rfl (by decide)).mem⟩
 intro hc
 have hp104 := of_decide_eq_false hc
 refine wp_seq ?_
 replace hs := hs.nf w0 Z X [0, 4, 6] rfl rfl rfl rfl
 refine wp_region_lit (bnn hs (.bool (decide (op = 119))) rfl rfl rfl rfl (bin_eqlN (y := 119)) fun ac hs => asg hs rfl rfl rfl fun ac hs => wpList_nil (then_n (wcs hs rfl ?_ ?_)))
 ·intro hc
  have hp105 := of_decide_eq_true hc
  refine wp_region_lit (mvv hs rfl rfl rfl fun ac hs => stp (op_bsO hs none none (qs := [(0, .int .i64 1)]) (cs := [.int .i64 1]) rfl rfl rfl rfl underlying78 inf_i64_3 (by decide) (by decide) (by kernel_rfl) rfl rfl rfl rfl fun ad107 ac w hs => ?_))
  replace hs := hs.freeze 3 rfl
  replace hs := hs.celEq 3 (N' := ([1] : List Nat).length) (cs' := intL [1]) rfl rfl rfl
  obtain ⟨ks108, e109, hks108⟩ := ex2 (shufL 2 ([1]) ks er)
  have oks108 := shuf_ok ok (show ([1] : List Nat).length ≤ 6 by decide) hks108
  refine stp (op_callX (F := 44) (ρ := M1) hs none none [0] [0, 1, 2, 3] (v := fun r => .tuple #[]) (S1 := [(true, oW am ks.length cm 34 vs), (true, oW aa js.length ca 34 us), (true, .bysO G (vs ++ us ++ xs) (ks ++ js ++ ts)), (true, cL ad107 (([1] : List Nat).length) 1 (intL [1]))]) (bs1 := [(true, gm, 61, [.slice am ks.length cm, .slice aa js.length ca, ni64 er])]) (E := fun r => [(true, oW r.a ks108.length r.c 34 r.vs), (true, oW aa js.length ca 34 us), (true, .bysO r.G (r.vs ++ us ++ xs) (ks108 ++ js ++ ts)), (true, cL ad107 (([1] : List Nat).length) 1 (intL [1]))]) (E1 := fun r => [(true, oW r.a ks108.length r.c 34 r.vs), (true, oW aa js.length ca 34 us), (true, .bysO r.G (r.vs ++ us ++ xs) (ks108 ++ js ++ ts)), (true, cL ad107 (([1] : List Nat).length) 1 (intL [1]))]) (E2 := fun r => []) (bfA := fun r => [(true, gm, 61, [.slice r.a ks108.length r.c, .slice aa js.length ca, ni64 e109])]) (bf := fun r => [(true, gm, 61, [.slice r.a ks108.length r.c, .slice aa js.length ca, ni64 e109])]) (bf2 := fun r => []) rfl rfl rfl rfl rfl (call44 _) rfl rfl (by decide) (by decide) (fun Z X hm => shuffle_c gm am cm vs aa ca us G xs ts ks js er 2 ([1]) ad107 1 ks108 e109 (ok.mono (by decide)) (by decide) (by decide) hks108 _ _ _ hm) (fun _ => rfl) (fun _ => rfl) (fun _ => rfl) (fun _ => rfl) (fun _ => rfl) rfl fun ⟨ad110, cp111, vs112, G113⟩ ac w hs => wpList_nil (blk_n (then_n (wp_seq (wp_region_lit (asg hs rfl rfl rfl fun ac hs => wpList_nil (then_n (wp_ret ?_))))))))
  have HS := hs
  have h0 := hp
  unfold movL at h0
  rw [if_neg hp2, if_neg hp16, if_neg hp28, if_neg hp36, if_neg hp46, if_neg hp56, if_neg hp66, if_neg hp76, if_neg hp86, if_neg hp94, if_neg hp104, if_pos hp105] at h0
  simp only [hks108] at h0
  obtain ⟨hq, hk, hj, he⟩ := inj4 h0
  subst hq
  subst hk
  subst hj
  subst he
  have hs := HS
  exact bodyPost_ret (res1 rfl (rv_t hs rfl)) hs.defers ⟨⟨ad110, cp111, vs112, aa, ca, us, G113⟩, rfl, ((hs.selS [0, 1, 2] rfl (by decide)).selB [0] rfl (by decide)).mem⟩
 intro hc
 have hp114 := of_decide_eq_false hc
 refine wp_seq (wp_region_lit (bnn hs (.bool (decide (op = 120))) rfl rfl rfl rfl (bin_eqlN (y := 120)) fun ac hs => asg hs rfl rfl rfl fun ac hs => wpList_nil (then_n (wcs hs rfl ?_ ?_))))
 ·intro hc
  have hp115 := of_decide_eq_true hc
  refine wp_region_lit (mvv hs rfl rfl rfl fun ac hs => stp (op_bsO hs none none (qs := [(0, .int .i64 0), (1, .int .i64 1), (2, .int .i64 0)]) (cs := [.int .i64 0, .int .i64 1, .int .i64 0]) rfl rfl rfl rfl underlying78 inf_i64_3 (by decide) (by decide) (by kernel_rfl) rfl rfl rfl rfl fun ad117 ac w hs => ?_))
  replace hs := hs.freeze 3 rfl
  replace hs := hs.celEq 3 (N' := ([0, 1, 0] : List Nat).length) (cs' := intL [0, 1, 0]) rfl rfl rfl
  obtain ⟨ks118, e119, hks118⟩ := ex2 (shufL 2 ([0, 1, 0]) ks er)
  have oks118 := shuf_ok ok (show ([0, 1, 0] : List Nat).length ≤ 6 by decide) hks118
  refine stp (op_callX (F := 44) (ρ := M1) hs none none [0] [0, 1, 2, 3] (v := fun r => .tuple #[]) (S1 := [(true, oW am ks.length cm 34 vs), (true, oW aa js.length ca 34 us), (true, .bysO G (vs ++ us ++ xs) (ks ++ js ++ ts)), (true, cL ad117 (([0, 1, 0] : List Nat).length) 3 (intL [0, 1, 0]))]) (bs1 := [(true, gm, 61, [.slice am ks.length cm, .slice aa js.length ca, ni64 er])]) (E := fun r => [(true, oW r.a ks118.length r.c 34 r.vs), (true, oW aa js.length ca 34 us), (true, .bysO r.G (r.vs ++ us ++ xs) (ks118 ++ js ++ ts)), (true, cL ad117 (([0, 1, 0] : List Nat).length) 3 (intL [0, 1, 0]))]) (E1 := fun r => [(true, oW r.a ks118.length r.c 34 r.vs), (true, oW aa js.length ca 34 us), (true, .bysO r.G (r.vs ++ us ++ xs) (ks118 ++ js ++ ts)), (true, cL ad117 (([0, 1, 0] : List Nat).length) 3 (intL [0, 1, 0]))]) (E2 := fun r => []) (bfA := fun r => [(true, gm, 61, [.slice r.a ks118.length r.c, .slice aa js.length ca, ni64 e119])]) (bf := fun r => [(true, gm, 61, [.slice r.a ks118.length r.c, .slice aa js.length ca, ni64 e119])]) (bf2 := fun r => []) rfl rfl rfl rfl rfl (call44 _) rfl rfl (by decide) (by decide) (fun Z X hm => shuffle_c gm am cm vs aa ca us G xs ts ks js er 2 ([0, 1, 0]) ad117 3 ks118 e119 (ok.mono (by decide)) (by decide) (by decide) hks118 _ _ _ hm) (fun _ => rfl) (fun _ => rfl) (fun _ => rfl) (fun _ => rfl) (fun _ => rfl) rfl fun ⟨ad120, cp121, vs122, G123⟩ ac w hs => wpList_nil (blk_n (then_n (wp_seq ?_))))
  replace hs := hs.nf w0 Z X [4] rfl rfl rfl rfl
  refine wp_region_lit (asg hs rfl rfl rfl fun ac hs => wpList_nil (then_n (wp_ret ?_)))
  have HS := hs
  have h0 := hp
  unfold movL at h0
  rw [if_neg hp2, if_neg hp16, if_neg hp28, if_neg hp36, if_neg hp46, if_neg hp56, if_neg hp66, if_neg hp76, if_neg hp86, if_neg hp94, if_neg hp104, if_neg hp114, if_pos hp115] at h0
  simp only [hks118] at h0
  obtain ⟨hq, hk, hj, he⟩ := inj4 h0
  subst hq
  subst hk
  subst hj
  subst he
  have hs := HS
  exact bodyPost_ret (res1 rfl (rv_t hs rfl)) hs.defers ⟨⟨ad120, cp121, vs122, aa, ca, us, G123⟩, rfl, ((hs.selS [0, 1, 2] rfl (by decide)).selB [0] rfl (by decide)).mem⟩
 intro hc
 have hp124 := of_decide_eq_false hc
 refine wp_seq (wp_region_lit (bnn hs (.bool (decide (op = 123))) rfl rfl rfl rfl (bin_eqlN (y := 123)) fun ac hs => asg hs rfl rfl rfl fun ac hs => wpList_nil (then_n (wcs hs rfl ?_ ?_))))
 ·intro hc
  have hp125 := of_decide_eq_true hc
  replace hs := hs.nf w0 Z X [0, 4] rfl rfl rfl rfl
  refine wp_region_lit (mvv hs rfl rfl rfl fun ac hs => stp (op_bsO hs none none (qs := [(0, .int .i64 1), (1, .int .i64 2), (2, .int .i64 0)]) (cs := [.int .i64 1, .int .i64 2, .int .i64 0]) rfl rfl rfl rfl underlying78 inf_i64_3 (by decide) (by decide) (by kernel_rfl) rfl rfl rfl rfl fun ad127 ac w hs => ?_))
  replace hs := hs.freeze 3 rfl
  replace hs := hs.celEq 3 (N' := ([1, 2, 0] : List Nat).length) (cs' := intL [1, 2, 0]) rfl rfl rfl
  obtain ⟨ks128, e129, hks128⟩ := ex2 (shufL 3 ([1, 2, 0]) ks er)
  have oks128 := shuf_ok ok (show ([1, 2, 0] : List Nat).length ≤ 6 by decide) hks128
  refine stp (op_callX (F := 44) (ρ := M1) hs none none [0] [0, 1, 2, 3] (v := fun r => .tuple #[]) (S1 := [(true, oW am ks.length cm 34 vs), (true, oW aa js.length ca 34 us), (true, .bysO G (vs ++ us ++ xs) (ks ++ js ++ ts)), (true, cL ad127 (([1, 2, 0] : List Nat).length) 3 (intL [1, 2, 0]))]) (bs1 := [(true, gm, 61, [.slice am ks.length cm, .slice aa js.length ca, ni64 er])]) (E := fun r => [(true, oW r.a ks128.length r.c 34 r.vs), (true, oW aa js.length ca 34 us), (true, .bysO r.G (r.vs ++ us ++ xs) (ks128 ++ js ++ ts)), (true, cL ad127 (([1, 2, 0] : List Nat).length) 3 (intL [1, 2, 0]))]) (E1 := fun r => [(true, oW r.a ks128.length r.c 34 r.vs), (true, oW aa js.length ca 34 us), (true, .bysO r.G (r.vs ++ us ++ xs) (ks128 ++ js ++ ts)), (true, cL ad127 (([1, 2, 0] : List Nat).length) 3 (intL [1, 2, 0]))]) (E2 := fun r => []) (bfA := fun r => [(true, gm, 61, [.slice r.a ks128.length r.c, .slice aa js.length ca, ni64 e129])]) (bf := fun r => [(true, gm, 61, [.slice r.a ks128.length r.c, .slice aa js.length ca, ni64 e129])]) (bf2 := fun r => []) rfl rfl rfl rfl rfl (call44 _) rfl rfl (by decide) (by decide) (fun Z X hm => shuffle_c gm am cm vs aa ca us G xs ts ks js er 3 ([1, 2, 0]) ad127 3 ks128 e129 (ok.mono (by decide)) (by decide) (by decide) hks128 _ _ _ hm) (fun _ => rfl) (fun _ => rfl) (fun _ => rfl) (fun _ => rfl) (fun _ => rfl) rfl fun ⟨ad130, cp131, vs132, G133⟩ ac w hs => wpList_nil (blk_n (then_n (wp_seq (wp_region_lit (asg hs rfl rfl rfl fun ac hs => wpList_nil (then_n (wp_ret ?_))))))))
  have HS := hs
  have h0 := hp
  unfold movL at h0
  rw [if_neg hp2, if_neg hp16, if_neg hp28, if_neg hp36, if_neg hp46, if_neg hp56, if_neg hp66, if_neg hp76, if_neg hp86, if_neg hp94, if_neg hp104, if_neg hp114, if_neg hp124, if_pos hp125] at h0
  simp only [hks128] at h0
  obtain ⟨hq, hk, hj, he⟩ := inj4 h0
  subst hq
  subst hk
  subst hj
  subst he
  have hs := HS
  exact bodyPost_ret (res1 rfl (rv_t hs rfl)) hs.defers ⟨⟨ad130, cp131, vs132, aa, ca, us, G133⟩, rfl, ((hs.selS [0, 1, 2] rfl (by decide)).selB [0] rfl (by decide)).mem⟩
 intro hc
 have hp134 := of_decide_eq_false hc
 refine wp_seq ?_
 replace hs := hs.nf w0 Z X [0, 4, 6] rfl rfl rfl rfl
 refine wp_region_lit (bnn hs (.bool (decide (op = 124))) rfl rfl rfl rfl (bin_eqlN (y := 124)) fun ac hs => asg hs rfl rfl rfl fun ac hs => wpList_nil (then_n (wcs hs rfl ?_ ?_)))
 ·intro hc
  have hp135 := of_decide_eq_true hc
  refine wp_region_lit (mvv hs rfl rfl rfl fun ac hs => stp (op_bsO hs none none (qs := [(0, .int .i64 1), (1, .int .i64 0)]) (cs := [.int .i64 1, .int .i64 0]) rfl rfl rfl rfl underlying78 inf_i64_3 (by decide) (by decide) (by kernel_rfl) rfl rfl rfl rfl fun ad137 ac w hs => ?_))
  replace hs := hs.freeze 3 rfl
  replace hs := hs.celEq 3 (N' := ([1, 0] : List Nat).length) (cs' := intL [1, 0]) rfl rfl rfl
  obtain ⟨ks138, e139, hks138⟩ := ex2 (shufL 2 ([1, 0]) ks er)
  have oks138 := shuf_ok ok (show ([1, 0] : List Nat).length ≤ 6 by decide) hks138
  refine stp (op_callX (F := 44) (ρ := M1) hs none none [0] [0, 1, 2, 3] (v := fun r => .tuple #[]) (S1 := [(true, oW am ks.length cm 34 vs), (true, oW aa js.length ca 34 us), (true, .bysO G (vs ++ us ++ xs) (ks ++ js ++ ts)), (true, cL ad137 (([1, 0] : List Nat).length) 2 (intL [1, 0]))]) (bs1 := [(true, gm, 61, [.slice am ks.length cm, .slice aa js.length ca, ni64 er])]) (E := fun r => [(true, oW r.a ks138.length r.c 34 r.vs), (true, oW aa js.length ca 34 us), (true, .bysO r.G (r.vs ++ us ++ xs) (ks138 ++ js ++ ts)), (true, cL ad137 (([1, 0] : List Nat).length) 2 (intL [1, 0]))]) (E1 := fun r => [(true, oW r.a ks138.length r.c 34 r.vs), (true, oW aa js.length ca 34 us), (true, .bysO r.G (r.vs ++ us ++ xs) (ks138 ++ js ++ ts)), (true, cL ad137 (([1, 0] : List Nat).length) 2 (intL [1, 0]))]) (E2 := fun r => []) (bfA := fun r => [(true, gm, 61, [.slice r.a ks138.length r.c, .slice aa js.length ca, ni64 e139])]) (bf := fun r => [(true, gm, 61, [.slice r.a ks138.length r.c, .slice aa js.length ca, ni64 e139])]) (bf2 := fun r => []) rfl rfl rfl rfl rfl (call44 _) rfl rfl (by decide) (by decide) (fun Z X hm => shuffle_c gm am cm vs aa ca us G xs ts ks js er 2 ([1, 0]) ad137 2 ks138 e139 (ok.mono (by decide)) (by decide) (by decide) hks138 _ _ _ hm) (fun _ => rfl) (fun _ => rfl) (fun _ => rfl) (fun _ => rfl) (fun _ => rfl) rfl fun ⟨ad140, cp141, vs142, G143⟩ ac w hs => wpList_nil (blk_n (then_n (wp_seq (wp_region_lit (asg hs rfl rfl rfl fun ac hs => wpList_nil (then_n (wp_ret ?_))))))))
  have HS := hs
  have h0 := hp
  unfold movL at h0
  rw [if_neg hp2, if_neg hp16, if_neg hp28, if_neg hp36, if_neg hp46, if_neg hp56, if_neg hp66, if_neg hp76, if_neg hp86, if_neg hp94, if_neg hp104, if_neg hp114, if_neg hp124, if_neg hp134, if_pos hp135] at h0
  simp only [hks138] at h0
  obtain ⟨hq, hk, hj, he⟩ := inj4 h0
  subst hq
  subst hk
  subst hj
  subst he
  have hs := HS
  exact bodyPost_ret (res1 rfl (rv_t hs rfl)) hs.defers ⟨⟨ad140, cp141, vs142, aa, ca, us, G143⟩, rfl, ((hs.selS [0, 1, 2] rfl (by decide)).selB [0] rfl (by decide)).mem⟩
 intro hc
 have hp144 := of_decide_eq_false hc
 refine wp_seq (wp_region_lit (bnn hs (.bool (decide (op = 125))) rfl rfl rfl rfl (bin_eqlN (y := 125)) fun ac hs => asg hs rfl rfl rfl fun ac hs => wpList_nil (then_n (wcs hs rfl ?_ ?_))))
 ·intro hc
  have hp145 := of_decide_eq_true hc
  refine wp_region_lit (mvv hs rfl rfl rfl fun ac hs => stp (op_bsO hs none none (qs := [(0, .int .i64 1), (1, .int .i64 0), (2, .int .i64 1)]) (cs := [.int .i64 1, .int .i64 0, .int .i64 1]) rfl rfl rfl rfl underlying78 inf_i64_3 (by decide) (by decide) (by kernel_rfl) rfl rfl rfl rfl fun ad147 ac w hs => ?_))
  replace hs := hs.freeze 3 rfl
  replace hs := hs.celEq 3 (N' := ([1, 0, 1] : List Nat).length) (cs' := intL [1, 0, 1]) rfl rfl rfl
  obtain ⟨ks148, e149, hks148⟩ := ex2 (shufL 2 ([1, 0, 1]) ks er)
  have oks148 := shuf_ok ok (show ([1, 0, 1] : List Nat).length ≤ 6 by decide) hks148
  refine stp (op_callX (F := 44) (ρ := M1) hs none none [0] [0, 1, 2, 3] (v := fun r => .tuple #[]) (S1 := [(true, oW am ks.length cm 34 vs), (true, oW aa js.length ca 34 us), (true, .bysO G (vs ++ us ++ xs) (ks ++ js ++ ts)), (true, cL ad147 (([1, 0, 1] : List Nat).length) 3 (intL [1, 0, 1]))]) (bs1 := [(true, gm, 61, [.slice am ks.length cm, .slice aa js.length ca, ni64 er])]) (E := fun r => [(true, oW r.a ks148.length r.c 34 r.vs), (true, oW aa js.length ca 34 us), (true, .bysO r.G (r.vs ++ us ++ xs) (ks148 ++ js ++ ts)), (true, cL ad147 (([1, 0, 1] : List Nat).length) 3 (intL [1, 0, 1]))]) (E1 := fun r => [(true, oW r.a ks148.length r.c 34 r.vs), (true, oW aa js.length ca 34 us), (true, .bysO r.G (r.vs ++ us ++ xs) (ks148 ++ js ++ ts)), (true, cL ad147 (([1, 0, 1] : List Nat).length) 3 (intL [1, 0, 1]))]) (E2 := fun r => []) (bfA := fun r => [(true, gm, 61, [.slice r.a ks148.length r.c, .slice aa js.length ca, ni64 e149])]) (bf := fun r => [(true, gm, 61, [.slice r.a ks148.length r.c, .slice aa js.length ca, ni64 e149])]) (bf2 := fun r => []) rfl rfl rfl rfl rfl (call44 _) rfl rfl (by decide) (by decide) (fun Z X hm => shuffle_c gm am cm vs aa ca us G xs ts ks js er 2 ([1, 0, 1]) ad147 3 ks148 e149 (ok.mono (by decide)) (by decide) (by decide) hks148 _ _ _ hm) (fun _ => rfl) (fun _ => rfl) (fun _ => rfl) (fun _ => rfl) (fun _ => rfl) rfl fun ⟨ad150, cp151, vs152, G153⟩ ac w hs => wpList_nil (blk_n (then_n (wp_seq ?_))))
  replace hs := hs.nf w0 Z X [4] rfl rfl rfl rfl
  refine wp_region_lit (asg hs rfl rfl rfl fun ac hs => wpList_nil (then_n (wp_ret ?_)))
  have HS := hs
  have h0 := hp
  unfold movL at h0
  rw [if_neg hp2, if_neg hp16, if_neg hp28, if_neg hp36, if_neg hp46, if_neg hp56, if_neg hp66, if_neg hp76, if_neg hp86, if_neg hp94, if_neg hp104, if_neg hp114, if_neg hp124, if_neg hp134, if_neg hp144, if_pos hp145] at h0
  simp only [hks148] at h0
  obtain ⟨hq, hk, hj, he⟩ := inj4 h0
  subst hq
  subst hk
  subst hj
  subst he
  have hs := HS
  exact bodyPost_ret (res1 rfl (rv_t hs rfl)) hs.defers ⟨⟨ad150, cp151, vs152, aa, ca, us, G153⟩, rfl, ((hs.selS [0, 1, 2] rfl (by decide)).selB [0] rfl (by decide)).mem⟩
 intro hc
 have hp154 := of_decide_eq_false hc
 refine wp_seq (wp_region_lit (asg hs rfl rfl rfl fun ac hs => wpList_nil (then_n (wp_ret (blk_r (then_r ?_))))))
 have HS := hs
 have h0 := hp
 unfold movL at h0
 rw [if_neg hp2, if_neg hp16, if_neg hp28, if_neg hp36, if_neg hp46, if_neg hp56, if_neg hp66, if_neg hp76, if_neg hp86, if_neg hp94, if_neg hp104, if_neg hp114, if_neg hp124, if_neg hp134, if_neg hp144, if_neg hp154] at h0
 obtain ⟨hq, hk, hj, he⟩ := inj4 h0
 subst hq
 subst hk
 subst hj
 subst he
 have hs := HS
 exact bodyPost_ret (res1 rfl (rv_t hs rfl)) hs.defers ⟨⟨am, cm, vs, aa, ca, us, G⟩, rfl, ((hs.selS [0, 1, 2] rfl (by decide)).selB [0] rfl (by decide)).mem⟩
theorem reads_c (gm : Nat) (am : Option Addr) (cm : Nat) (vs : List Value) (aa : Option Addr) (ca : Nat) (us : List Value) (G : Nat → Prop) (xs : List Value) (ts : BL) (ks js : BL) (er : Nat) (op : Nat) (q : Bool) (k1 : BL) (e1 : Nat) (ok : OkN 2900 ks) (hp : redL op ks er = (q, k1, e1)) (w0 : World) (Z X : Nat → Prop) (hm : Mem ⟨w0, [], [(true, oW am ks.length cm 34 vs), (true, oW aa js.length ca 34 us), (true, .bysO G (vs ++ us ++ xs) (ks ++ js ++ ts))], Z, X⟩ [(true, gm, 61, [.slice am ks.length cm, .slice aa js.length ca, ni64 er])] w0) : Calls prog 28 #[ptA gm 0, nu8 op] w0 fun e w' => PostX w0 Z X (ρ := M1) (fun r => .bool q) (fun r => [(true, gm, 61, [.slice r.a k1.length r.c, .slice aa js.length ca, ni64 e1])]) (fun r => [(true, oW r.a k1.length r.c 34 r.vs), (true, oW aa js.length ca 34 us), (true, .bysO r.G (r.vs ++ us ++ xs) (k1 ++ js ++ ts))]) e w' := by
 have hk8 : ks.length ≤ 2900 := ok.1
 refine enterX (n := 85) (args := [ptA gm 0, nu8 op]) func28 rfl rfl (Nat.le_of_ble_eq_true rfl) hm fun ac hs => ?_
 have hv := hs.ownLen 0 rfl
 have hu := hs.ownLen 1 rfl
 refine wp_seq (wp_region_lit (asg hs rfl rfl rfl fun ac hs => wpList_nil (then_n (wp_seq (wp_seq (wp_region_lit (mvv hs rfl rfl rfl fun ac hs => wpList_nil (then_n (wp_block (wp_seq (wp_region_lit (bnn hs (.bool (decide (op = 121))) rfl rfl rfl rfl (bin_eqlN (y := 121)) fun ac hs => asg hs rfl rfl rfl fun ac hs => wpList_nil (then_n (wcs hs rfl ?_ ?_))))))))))))))
 ·intro hc
  have hp1 := of_decide_eq_true hc
  refine wp_region_lit (mvv hs rfl rfl rfl fun ac hs => ?_)
  obtain ⟨ks2, e3, hks2⟩ := ex2 (deepL false ks er)
  have oks2 := deep_ok ok hks2
  refine stp (op_callX (F := 45) (ρ := M1) hs none none [0] [0, 1, 2] (v := fun r => .tuple #[]) (S1 := [(true, oW am ks.length cm 34 vs), (true, oW aa js.length ca 34 us), (true, .bysO G (vs ++ us ++ xs) (ks ++ js ++ ts))]) (bs1 := [(true, gm, 61, [.slice am ks.length cm, .slice aa js.length ca, ni64 er])]) (E := fun r => [(true, oW r.a ks2.length r.c 34 r.vs), (true, oW aa js.length ca 34 us), (true, .bysO r.G (r.vs ++ us ++ xs) (ks2 ++ js ++ ts))]) (E1 := fun r => [(true, oW r.a ks2.length r.c 34 r.vs), (true, oW aa js.length ca 34 us), (true, .bysO r.G (r.vs ++ us ++ xs) (ks2 ++ js ++ ts))]) (E2 := fun r => []) (bfA := fun r => [(true, gm, 61, [.slice r.a ks2.length r.c, .slice aa js.length ca, ni64 e3])]) (bf := fun r => [(true, gm, 61, [.slice r.a ks2.length r.c, .slice aa js.length ca, ni64 e3])]) (bf2 := fun r => []) rfl rfl rfl rfl rfl (call45 _) rfl rfl (by decide) (by decide) (fun Z X hm => deepF_c gm am cm vs aa ca us G xs ts ks js er ks2 e3 (ok.mono (by decide)) hks2 _ _ _ hm) (fun _ => rfl) (fun _ => rfl) (fun _ => rfl) (fun _ => rfl) (fun _ => rfl) rfl fun ⟨ad4, cp5, vs6, G7⟩ ac w hs => wpList_nil (blk_n (then_n (wp_seq ?_))))
  replace hs := hs.nf w0 Z X [4] rfl rfl rfl rfl
  refine wp_region_lit (asg hs rfl rfl rfl fun ac hs => wpList_nil (then_n (wp_ret ?_)))
  have HS := hs
  have h0 := hp
  unfold redL at h0
  rw [if_pos hp1] at h0
  simp only [hks2] at h0
  obtain ⟨hq, hk, he⟩ := inj3 h0
  subst hq
  subst hk
  subst he
  have hs := HS
  exact bodyPost_ret (res1 rfl (rv_t hs rfl)) hs.defers ⟨⟨ad4, cp5, vs6, G7⟩, rfl, ((hs.selS [0, 1, 2] rfl (by decide)).selB [0] rfl (by decide)).mem⟩
 intro hc
 have hp8 := of_decide_eq_false hc
 refine wp_seq (wp_region_lit (bnn hs (.bool (decide (op = 122))) rfl rfl rfl rfl (bin_eqlN (y := 122)) fun ac hs => asg hs rfl rfl rfl fun ac hs => wpList_nil (then_n (wcs hs rfl ?_ ?_))))
 ·intro hc
  have hp9 := of_decide_eq_true hc
  replace hs := hs.nf w0 Z X [0, 4] rfl rfl rfl rfl
  refine wp_region_lit (mvv hs rfl rfl rfl fun ac hs => ?_)
  obtain ⟨ks10, e11, hks10⟩ := ex2 (deepL true ks er)
  have oks10 := deep_ok ok hks10
  refine stp (op_callX (F := 45) (ρ := M1) hs none none [0] [0, 1, 2] (v := fun r => .tuple #[]) (S1 := [(true, oW am ks.length cm 34 vs), (true, oW aa js.length ca 34 us), (true, .bysO G (vs ++ us ++ xs) (ks ++ js ++ ts))]) (bs1 := [(true, gm, 61, [.slice am ks.length cm, .slice aa js.length ca, ni64 er])]) (E := fun r => [(true, oW r.a ks10.length r.c 34 r.vs), (true, oW aa js.length ca 34 us), (true, .bysO r.G (r.vs ++ us ++ xs) (ks10 ++ js ++ ts))]) (E1 := fun r => [(true, oW r.a ks10.length r.c 34 r.vs), (true, oW aa js.length ca 34 us), (true, .bysO r.G (r.vs ++ us ++ xs) (ks10 ++ js ++ ts))]) (E2 := fun r => []) (bfA := fun r => [(true, gm, 61, [.slice r.a ks10.length r.c, .slice aa js.length ca, ni64 e11])]) (bf := fun r => [(true, gm, 61, [.slice r.a ks10.length r.c, .slice aa js.length ca, ni64 e11])]) (bf2 := fun r => []) rfl rfl rfl rfl rfl (call45 _) rfl rfl (by decide) (by decide) (fun Z X hm => deepT_c gm am cm vs aa ca us G xs ts ks js er ks10 e11 (ok.mono (by decide)) hks10 _ _ _ hm) (fun _ => rfl) (fun _ => rfl) (fun _ => rfl) (fun _ => rfl) (fun _ => rfl) rfl fun ⟨ad12, cp13, vs14, G15⟩ ac w hs => wpList_nil (blk_n (then_n (wp_seq (wp_region_lit (asg hs rfl rfl rfl fun ac hs => wpList_nil (then_n (wp_ret ?_))))))))
  have HS := hs
  have h0 := hp
  unfold redL at h0
  rw [if_neg hp8, if_pos hp9] at h0
  simp only [hks10] at h0
  obtain ⟨hq, hk, he⟩ := inj3 h0
  subst hq
  subst hk
  subst he
  have hs := HS
  exact bodyPost_ret (res1 rfl (rv_t hs rfl)) hs.defers ⟨⟨ad12, cp13, vs14, G15⟩, rfl, ((hs.selS [0, 1, 2] rfl (by decide)).selB [0] rfl (by decide)).mem⟩
 intro hc
 have hp16 := of_decide_eq_false hc
 refine wp_seq ?_
 replace hs := hs.nf w0 Z X [0, 4, 6] rfl rfl rfl rfl
 refine wp_region_lit (bnn hs (.bool (decide (op = 105))) rfl rfl rfl rfl (bin_eqlN (y := 105)) fun ac hs => asg hs rfl rfl rfl fun ac hs => wpList_nil (then_n (wcs hs rfl ?_ ?_)))
 ·intro hc
  have hp17 := of_decide_eq_true hc
  refine wp_seq (wp_region_lit (mvv hs rfl rfl rfl fun ac hs => ?_))
  obtain ⟨p18, ks19, e20, hks19⟩ := ex3 (popL ks er)
  obtain ⟨oks19, lp18⟩ := pop_ok ok hks19
  replace lp18 : p18.length ≤ 8000 := Nat.le_trans lp18 (by decide)
  refine stp (op_callX (F := 39) (ρ := M1x) hs none none [0] [0, 1, 2] (v := fun r => .slice r.x p18.length r.y) (S1 := [(true, oW am ks.length cm 34 vs), (true, oW aa js.length ca 34 us), (true, .bysO G (vs ++ us ++ xs) (ks ++ js ++ ts))]) (bs1 := [(true, gm, 61, [.slice am ks.length cm, .slice aa js.length ca, ni64 er])]) (E := fun r => [(true, oW r.a ks19.length r.c 34 r.vs), (true, oW aa js.length ca 34 us), (true, .bysO G (r.vs ++ us ++ (xs ++ [.slice r.x p18.length r.y])) (ks19 ++ js ++ (ts ++ [p18])))]) (E1 := fun r => [(true, oW r.a ks19.length r.c 34 r.vs), (true, oW aa js.length ca 34 us), (true, .bysO G (r.vs ++ us ++ (xs ++ [.slice r.x p18.length r.y])) (ks19 ++ js ++ (ts ++ [p18])))]) (E2 := fun r => []) (bfA := fun r => [(true, gm, 61, [.slice r.a ks19.length r.c, .slice aa js.length ca, ni64 e20])]) (bf := fun r => [(true, gm, 61, [.slice r.a ks19.length r.c, .slice aa js.length ca, ni64 e20])]) (bf2 := fun r => []) rfl rfl rfl rfl rfl (call39 _) rfl rfl (by decide) (by decide) (fun Z X hm => pop_c gm am cm vs aa ca us G xs ts ks js er p18 ks19 e20 (ok.mono (by decide)) hks19 _ _ _ hm) (fun _ => rfl) (fun _ => rfl) (fun _ => rfl) (fun _ => rfl) (fun _ => rfl) rfl fun ⟨ad21, cp22, vs23, ad24, cp25⟩ ac w hs => asg hs rfl rfl rfl fun ac hs => wpList_nil (then_n (wp_region_lit (mvv hs rfl rfl rfl fun ac hs => mvv hs rfl rfl rfl fun ac hs => ?_))))
  obtain ⟨q26, hq26⟩ := ex1 (truthL p18)
  refine stp (op_callV (F := 47) (ρ := Unit) hs none none (v := fun r => .bool q26) (E := fun r => []) (j := 0) rfl rfl rfl rfl (call47 _) (fun hs => truth_c ad24 p18.length cp25 p18 (Nat.le_trans lp18 (by decide)) q26 hq26 _ _ (hs.itemZ (k := 2) rfl (mem_last3 (hs.bLen 2 rfl)))) (fun _ => rfl) (fun _ => rfl) rfl rfl fun _ ac w hs => ?_)
  obtain ⟨e27, he27⟩ := ex1 (mustE q26 e20)
  refine stp (op_callX (F := 46) (ρ := Unit) hs none none [0] [] (v := fun r => .tuple #[]) (S1 := []) (bs1 := [(true, gm, 61, [.slice ad21 ks19.length cp22, .slice aa js.length ca, ni64 e20])]) (E := fun r => []) (E1 := fun r => []) (E2 := fun r => []) (bfA := fun r => [(true, gm, 61, [.slice ad21 ks19.length cp22, .slice aa js.length ca, ni64 e27])]) (bf := fun r => [(true, gm, 61, [.slice ad21 ks19.length cp22, .slice aa js.length ca, ni64 e27])]) (bf2 := fun r => []) rfl rfl rfl rfl rfl (call46 _) rfl rfl (by decide) (by decide) (fun Z X hm => must_c gm (.slice ad21 ks19.length cp22) (.slice aa js.length ca) e20 q26 e27 he27 _ _ _ hm) (fun _ => rfl) (fun _ => rfl) (fun _ => rfl) (fun _ => rfl) (fun _ => rfl) rfl fun _ ac w hs => wpList_nil (blk_n (then_n (wp_seq ?_))))
  replace hs := hs.nf w0 Z X [4] rfl rfl rfl rfl
  refine wp_region_lit (asg hs rfl rfl rfl fun ac hs => wpList_nil (then_n (wp_ret ?_)))
  have HS := hs
  have h0 := hp
  unfold redL at h0
  rw [if_neg hp8, if_neg hp16, if_pos hp17] at h0
  simp only [hks19, hq26, he27] at h0
  obtain ⟨hq, hk, he⟩ := inj3 h0
  subst hq
  subst hk
  subst he
  have hs := HS
  replace hs := hs.dropB (zs := [.slice ad24 p18.length cp25]) (rs := [p18]) 2 (hs.xsLen 2 rfl (hs.ownLen 0 rfl) (hs.ownLen 1 rfl)) rfl (hs.ownLen 0 rfl) (hs.ownLen 1 rfl)
  exact bodyPost_ret (res1 rfl (rv_t hs rfl)) hs.defers ⟨⟨ad21, cp22, vs23, G⟩, rfl, ((hs.selS [0, 1, 2] rfl (by decide)).selB [0] rfl (by decide)).mem⟩
 intro hc
 have hp28 := of_decide_eq_false hc
 refine wp_seq (wp_region_lit (bnn hs (.bool (decide (op = 115))) rfl rfl rfl rfl (bin_eqlN (y := 115)) fun ac hs => asg hs rfl rfl rfl fun ac hs => wpList_nil (then_n (wcs hs rfl ?_ ?_))))
 ·intro hc
  have hp29 := of_decide_eq_true hc
  refine wp_seq ?_
  by_cases hq30 : needE ks.length 1 er = 0
  ·refine wp_region_lit ?_
   refine mvv hs rfl rfl rfl fun ac hs => ?_
   obtain ⟨e31, he31⟩ := ex1 (needE ks.length 1 er)
   have hl0 := (need_len hq30).1
   refine stp (op_callX (F := 48) (ρ := Unit) hs none none [0] [] (v := fun r => .bool true) (S1 := []) (bs1 := [(true, gm, 61, [.slice am ks.length cm, .slice aa js.length ca, ni64 er])]) (E := fun r => []) (E1 := fun r => []) (E2 := fun r => []) (bfA := fun r => [(true, gm, 61, [.slice am ks.length cm, .slice aa js.length ca, ni64 e31])]) (bf := fun r => [(true, gm, 61, [.slice am ks.length cm, .slice aa js.length ca, ni64 e31])]) (bf2 := fun r => []) rfl rfl rfl rfl rfl (call48 _) rfl rfl (by decide) (by decide) (fun Z X hm => needs_c gm am ks.length cm (.slice aa js.length ca) er 1 e31 true he31 (decide_eq_true (by rw [← he31]; exact hq30)) _ _ _ hm) (fun _ => rfl) (fun _ => rfl) (fun _ => rfl) (fun _ => rfl) (fun _ => rfl) rfl fun _ ac w hs => mvv hs rfl rfl rfl fun ac hs => lstep (wpO_in hs rfl rfl rfl (op_move hs none rfl rfl rfl rfl fun ac hs => ?_)))
   obtain ⟨y32, hy32⟩ : ∃ z0, ks[ks.length - 1 - 0]? = some z0 := ⟨_, List.getElem?_eq_getElem (show ks.length - 1 - 0 < ks.length by omega)⟩
   obtain ⟨ad33, cp34, ky32⟩ := hs.poolAt 2 rfl (hs.ownLen 0 rfl) hy32
   have my32 := zip_get ky32 hy32
   have ly32 : y32.length ≤ 8000 := (ok.mono (by decide)).2 _ (List.mem_of_getElem? hy32)
   have dy32 : ks.getD (ks.length - 1 - 0) [] = y32 := getD_of hy32
   refine lstep (wpO_in hs rfl rfl rfl (op_callX (F := 49) (ρ := Unit) hs none none [0] [0] (v := fun r => .slice ad33 y32.length cp34) (S1 := [(true, oW am ks.length cm 34 vs)]) (bs1 := [(true, gm, 61, [.slice am ks.length cm, .slice aa js.length ca, ni64 e31])]) (E := fun r => [(true, oW am ks.length cm 34 vs)]) (E1 := fun r => [(true, oW am ks.length cm 34 vs)]) (E2 := fun r => []) (bfA := fun r => [(true, gm, 61, [.slice am ks.length cm, .slice aa js.length ca, ni64 e31])]) (bf := fun r => [(true, gm, 61, [.slice am ks.length cm, .slice aa js.length ca, ni64 e31])]) (bf2 := fun r => []) rfl rfl rfl rfl rfl (call49 _) rfl rfl (by decide) (by decide) (fun Z X hm => top_c gm am cm vs ks (.slice aa js.length ca) e31 0 (.slice ad33 y32.length cp34) (show 0 < ks.length by omega) ky32 (ok.mono (by decide)) _ _ _ hm) (fun _ => rfl) (fun _ => rfl) (fun _ => rfl) (fun _ => rfl) (fun _ => rfl) rfl fun _ ac w hs => ?_))
   obtain ⟨q35, hq35⟩ := ex1 (truthL y32)
   refine lstep (wpO_in hs rfl rfl rfl (op_callV (F := 47) (ρ := Unit) hs none none (v := fun r => .bool q35) (E := fun r => []) (j := 0) rfl rfl rfl rfl (call47 _) (fun hs => truth_c ad33 y32.length cp34 y32 (Nat.le_trans ly32 (by decide)) q35 hq35 _ _ (hs.itemZ (k := 2) rfl (mem_main (hs.ownLen 0 rfl) my32))) (fun _ => rfl) (fun _ => rfl) rfl rfl fun _ ac w hs => stp (op_pickT hs none rfl rfl rfl rfl rfl fun ac hs => wpList_nil (then_n (wcs hs rfl ?_ ?_)))))
   ·intro hc
    replace hs := hs.nf w0 Z X [0, 4] rfl rfl rfl rfl
    refine wp_region_lit (mvv hs rfl rfl rfl fun ac hs => mvv hs rfl rfl rfl fun ac hs => ?_)
    obtain ⟨y36, hy36⟩ : ∃ z0, ks[ks.length - 1 - 0]? = some z0 := ⟨_, List.getElem?_eq_getElem (show ks.length - 1 - 0 < ks.length by omega)⟩
    obtain ⟨ad37, cp38, ky36⟩ := hs.poolAt 2 rfl (hs.ownLen 0 rfl) hy36
    have my36 := zip_get ky36 hy36
    have ly36 : y36.length ≤ 8000 := (ok.mono (by decide)).2 _ (List.mem_of_getElem? hy36)
    have dy36 : ks.getD (ks.length - 1 - 0) [] = y36 := getD_of hy36
    refine stp (op_callX (F := 49) (ρ := Unit) hs none none [0] [0] (v := fun r => .slice ad37 y36.length cp38) (S1 := [(true, oW am ks.length cm 34 vs)]) (bs1 := [(true, gm, 61, [.slice am ks.length cm, .slice aa js.length ca, ni64 e31])]) (E := fun r => [(true, oW am ks.length cm 34 vs)]) (E1 := fun r => [(true, oW am ks.length cm 34 vs)]) (E2 := fun r => []) (bfA := fun r => [(true, gm, 61, [.slice am ks.length cm, .slice aa js.length ca, ni64 e31])]) (bf := fun r => [(true, gm, 61, [.slice am ks.length cm, .slice aa js.length ca, ni64 e31])]) (bf2 := fun r => []) rfl rfl rfl rfl rfl (call49 _) rfl rfl (by decide) (by decide) (fun Z X hm => top_c gm am cm vs ks (.slice aa js.length ca) e31 0 (.slice ad37 y36.length cp38) (show 0 < ks.length by omega) ky36 (ok.mono (by decide)) _ _ _ hm) (fun _ => rfl) (fun _ => rfl) (fun _ => rfl) (fun _ => rfl) (fun _ => rfl) rfl fun _ ac w hs => stp (op_bsO hs none none (qs := [(0, .slice ad37 y36.length cp38)]) (cs := [.slice ad37 y36.length cp38]) rfl rfl rfl rfl underlying22 inf_slice_34 (by decide) (by decide) (fill_one _ _ rfl) rfl rfl rfl rfl fun ad40 ac w hs => ?_))
    replace hs := hs.freeze 3 rfl
    refine stp (op_callX (F := 38) (ρ := M1) hs none none [0] [0, 1, 2, 3] (v := fun r => .tuple #[]) (S1 := [(true, oW am ks.length cm 34 vs), (true, oW aa js.length ca 34 us), (true, .bysO G (vs ++ us ++ xs) (ks ++ js ++ ts)), (true, cL ad40 1 1 ([.slice ad37 y36.length cp38]))]) (bs1 := [(true, gm, 61, [.slice am ks.length cm, .slice aa js.length ca, ni64 e31])]) (E := fun r => [(true, oW r.a ((ks ++ [y36]).length) r.c 34 r.vs), (true, oW aa js.length ca 34 us), (true, .bysO r.G (r.vs ++ us ++ xs) ((ks ++ [y36]) ++ js ++ ts)), (true, cL ad40 1 1 ([.slice ad37 y36.length cp38]))]) (E1 := fun r => [(true, oW r.a ((ks ++ [y36]).length) r.c 34 r.vs), (true, oW aa js.length ca 34 us), (true, .bysO r.G (r.vs ++ us ++ xs) ((ks ++ [y36]) ++ js ++ ts)), (true, cL ad40 1 1 ([.slice ad37 y36.length cp38]))]) (E2 := fun r => []) (bfA := fun r => [(true, gm, 61, [.slice r.a ((ks ++ [y36]).length) r.c, .slice aa js.length ca, ni64 e31])]) (bf := fun r => [(true, gm, 61, [.slice r.a ((ks ++ [y36]).length) r.c, .slice aa js.length ca, ni64 e31])]) (bf2 := fun r => []) rfl rfl rfl rfl rfl (call38 _) rfl rfl (by decide) (by decide) (fun Z X hm => pushP_c gm am cm vs aa ca us G xs ts ks js e31 ad40 1 ad37 cp38 y36 ly36 (ok.mono (by decide)) (mem_main (hs.ownLen 0 rfl) my36) _ _ _ hm) (fun _ => rfl) (fun _ => rfl) (fun _ => rfl) (fun _ => rfl) (fun _ => rfl) rfl fun ⟨ad41, cp42, vs43, G44⟩ ac w hs => wpList_nil (blk_n (then_n (wp_seq (wp_region_lit (asg hs rfl rfl rfl fun ac hs => wpList_nil (then_n (wp_ret ?_))))))))
    have HS := hs
    obtain rfl : y32 = y36 := dy32.symm.trans dy36
    obtain rfl : e31 = 0 := he31.symm.trans hq30
    have h0 := hp
    unfold redL at h0
    rw [if_neg hp8, if_neg hp16, if_neg hp28, if_pos hp29] at h0
    simp only [ifd_yes hq30 (dy32 : lastB ks = y32) (hq35.trans hc)] at h0
    obtain ⟨hq, hk, he⟩ := inj3 h0
    subst hq
    subst hk
    subst he
    have hs := HS
    exact bodyPost_ret (res1 rfl (rv_t hs rfl)) hs.defers ⟨⟨ad41, cp42, vs43, G44⟩, rfl, ((hs.selS [0, 1, 2] rfl (by decide)).selB [0] rfl (by decide)).mem⟩
   intro hc
   refine wp_skip (blk_n (then_n (wp_seq ?_)))
   replace hs := hs.nf w0 Z X [4] rfl rfl rfl rfl
   refine wp_region_lit (asg hs rfl rfl rfl fun ac hs => wpList_nil (then_n (wp_ret ?_)))
   have HS := hs
   obtain rfl : e31 = 0 := he31.symm.trans hq30
   have h0 := hp
   unfold redL at h0
   rw [if_neg hp8, if_neg hp16, if_neg hp28, if_pos hp29] at h0
   simp only [ifd_un (dy32 : lastB ks = y32) (hq35.trans hc), hq30] at h0
   obtain ⟨hq, hk, he⟩ := inj3 h0
   subst hq
   subst hk
   subst he
   have hs := HS
   exact bodyPost_ret (res1 rfl (rv_t hs rfl)) hs.defers ⟨⟨am, cm, vs, G⟩, rfl, ((hs.selS [0, 1, 2] rfl (by decide)).selB [0] rfl (by decide)).mem⟩
  refine wp_region_lit (mvv hs rfl rfl rfl fun ac hs => ?_)
  obtain ⟨e45, he45⟩ := ex1 (needE ks.length 1 er)
  refine stp (op_callX (F := 48) (ρ := Unit) hs none none [0] [] (v := fun r => .bool false) (S1 := []) (bs1 := [(true, gm, 61, [.slice am ks.length cm, .slice aa js.length ca, ni64 er])]) (E := fun r => []) (E1 := fun r => []) (E2 := fun r => []) (bfA := fun r => [(true, gm, 61, [.slice am ks.length cm, .slice aa js.length ca, ni64 e45])]) (bf := fun r => [(true, gm, 61, [.slice am ks.length cm, .slice aa js.length ca, ni64 e45])]) (bf2 := fun r => []) rfl rfl rfl rfl rfl (call48 _) rfl rfl (by decide) (by decide) (fun Z X hm => needs_c gm am ks.length cm (.slice aa js.length ca) er 1 e45 false he45 (decide_eq_false (by rw [← he45]; exact hq30)) _ _ _ hm) (fun _ => rfl) (fun _ => rfl) (fun _ => rfl) (fun _ => rfl) (fun _ => rfl) rfl fun _ ac w hs => mvv hs rfl rfl rfl fun ac hs => lstep (wpO_out hs none rfl rfl (.inl rfl) rfl rfl fun ac hs => lstep (wpO_out hs none rfl rfl (.inl rfl) rfl rfl fun ac hs => lstep (wpO_out hs none rfl rfl (.inl rfl) rfl rfl fun ac hs => stp (op_pickF hs none rfl rfl rfl rfl rfl fun ac hs => wpList_nil (then_n (wp_cond_false (hs.ev rfl) (wp_skip (blk_n (then_n (wp_seq ?_)))))))))))
  replace hs := hs.nf w0 Z X [4] rfl rfl rfl rfl
  refine wp_region_lit (asg hs rfl rfl rfl fun ac hs => wpList_nil (then_n (wp_ret ?_)))
  have HS := hs
  have h0 := hp
  unfold redL at h0
  rw [if_neg hp8, if_neg hp16, if_neg hp28, if_pos hp29] at h0
  simp only [ifd_no hq30] at h0
  rw [he45] at h0
  obtain ⟨hq, hk, he⟩ := inj3 h0
  subst hq
  subst hk
  subst he
  have hs := HS
  exact bodyPost_ret (res1 rfl (rv_t hs rfl)) hs.defers ⟨⟨am, cm, vs, G⟩, rfl, ((hs.selS [0, 1, 2] rfl (by decide)).selB [0] rfl (by decide)).mem⟩
 intro hc
 have hp46 := of_decide_eq_false hc
 refine wp_seq (wp_region_lit (bnn hs (.bool (decide (op = 116))) rfl rfl rfl rfl (bin_eqlN (y := 116)) fun ac hs => asg hs rfl rfl rfl fun ac hs => wpList_nil (then_n (wcs hs rfl ?_ ?_))))
 ·intro hc
  have hp47 := of_decide_eq_true hc
  replace hs := hs.nf w0 Z X [0, 4] rfl rfl rfl rfl
  refine wp_region_lit (mvv hs rfl rfl rfl fun ac hs => mvv hs rfl rfl rfl fun ac hs => stp (op_nilCheck hs none rfl rfl rfl rfl fun ac hs => stp (op_fieldA hs none rfl rfl rfl underlying61 rfl sizeOf22 (by decide) rfl fun ac hs => ldd hs 0 (.slice am ks.length cm) isAgg22 sizeOf22 rfl rfl rfl rfl rfl fun ac hs => stp (op_blt hs none (v := ni64 (ks.length)) rfl rfl rfl (blt_len underlying22) rfl fun ac hs => ?_))))
  have lad48 : (enc ((ks.length : Nat) : Int)).length ≤ 9 := enc_len (show -9223372036854775808 ≤ ((ks.length : Nat) : Int) by omega) (show ((ks.length : Nat) : Int) < 9223372036854775808 by omega)
  refine stp (op_callV (F := 50) (ρ := Option Addr × Nat) hs none none (v := fun r => .slice r.1 ((enc ((ks.length : Nat) : Int)).length) r.2) (E := fun r => [oW r.1 ((enc ((ks.length : Nat) : Int)).length) r.2 5 (bcs (enc ((ks.length : Nat) : Int)))]) (j := 1) rfl rfl rfl rfl (call50 _) (fun hs => enc_o ((ks.length : Nat) : Int) (show -9223372036854775808 ≤ ((ks.length : Nat) : Int) by omega) (show ((ks.length : Nat) : Int) < 9223372036854775808 by omega) _ _) (fun _ => rfl) (fun _ => rfl) rfl rfl fun ⟨ad48, cp49⟩ ac w hs => stp (op_bsO hs none none (qs := [(0, .slice ad48 ((enc ((ks.length : Nat) : Int)).length) cp49)]) (cs := [.slice ad48 ((enc ((ks.length : Nat) : Int)).length) cp49]) rfl rfl rfl rfl underlying22 inf_slice_34 (by decide) (by decide) (fill_one _ _ rfl) rfl rfl rfl rfl fun ad51 ac w hs => ?_))
  replace hs := hs.freeze 4 rfl
  replace hs := hs.freeze 3 rfl
  refine stp (op_callX (F := 38) (ρ := M1) hs none none [0] [0, 1, 2, 4, 3] (v := fun r => .tuple #[]) (S1 := [(true, oW am ks.length cm 34 vs), (true, oW aa js.length ca 34 us), (true, .bysO G (vs ++ us ++ xs) (ks ++ js ++ ts)), (true, cL ad51 1 1 ([.slice ad48 ((enc ((ks.length : Nat) : Int)).length) cp49])), (true, cL ad48 ((enc ((ks.length : Nat) : Int)).length) cp49 (bcs (enc ((ks.length : Nat) : Int))))]) (bs1 := [(true, gm, 61, [.slice am ks.length cm, .slice aa js.length ca, ni64 er])]) (E := fun r => [(true, oW r.a ((ks ++ [enc ((ks.length : Nat) : Int)]).length) r.c 34 r.vs), (true, oW aa js.length ca 34 us), (true, .bysO r.G (r.vs ++ us ++ xs) ((ks ++ [enc ((ks.length : Nat) : Int)]) ++ js ++ ts)), (true, cL ad51 1 1 ([.slice ad48 ((enc ((ks.length : Nat) : Int)).length) cp49])), (true, cL ad48 ((enc ((ks.length : Nat) : Int)).length) cp49 (bcs (enc ((ks.length : Nat) : Int))))]) (E1 := fun r => [(true, oW r.a ((ks ++ [enc ((ks.length : Nat) : Int)]).length) r.c 34 r.vs), (true, oW aa js.length ca 34 us), (true, .bysO r.G (r.vs ++ us ++ xs) ((ks ++ [enc ((ks.length : Nat) : Int)]) ++ js ++ ts)), (true, cL ad51 1 1 ([.slice ad48 ((enc ((ks.length : Nat) : Int)).length) cp49])), (true, cL ad48 ((enc ((ks.length : Nat) : Int)).length) cp49 (bcs (enc ((ks.length : Nat) : Int))))]) (E2 := fun r => []) (bfA := fun r => [(true, gm, 61, [.slice r.a ((ks ++ [enc ((ks.length : Nat) : Int)]).length) r.c, .slice aa js.length ca, ni64 er])]) (bf := fun r => [(true, gm, 61, [.slice r.a ((ks ++ [enc ((ks.length : Nat) : Int)]).length) r.c, .slice aa js.length ca, ni64 er])]) (bf2 := fun r => []) rfl rfl rfl rfl rfl (call38 _) rfl rfl (by decide) (by decide) (fun Z X hm => pushC_c gm am cm vs aa ca us G xs ts ks js er ad51 1 ad48 cp49 (enc ((ks.length : Nat) : Int)) (show (enc ((ks.length : Nat) : Int)).length ≤ 8000 by omega) (ok.mono (by decide)) ((enc ((ks.length : Nat) : Int)).length) rfl _ _ _ hm) (fun _ => rfl) (fun _ => rfl) (fun _ => rfl) (fun _ => rfl) (fun _ => rfl) rfl fun ⟨ad52, cp53, vs54, G55⟩ ac w hs => wpList_nil (blk_n (then_n (wp_seq ?_))))
  replace hs := hs.nf w0 Z X [4] rfl rfl rfl rfl
  refine wp_region_lit (asg hs rfl rfl rfl fun ac hs => wpList_nil (then_n (wp_ret ?_)))
  have HS := hs
  have h0 := hp
  unfold redL at h0
  rw [if_neg hp8, if_neg hp16, if_neg hp28, if_neg hp46, if_pos hp47] at h0
  obtain ⟨hq, hk, he⟩ := inj3 h0
  subst hq
  subst hk
  subst he
  have hs := HS
  exact bodyPost_ret (res1 rfl (rv_t hs rfl)) hs.defers ⟨⟨ad52, cp53, vs54, G55⟩, rfl, ((hs.selS [0, 1, 2] rfl (by decide)).selB [0] rfl (by decide)).mem⟩
 intro hc
 have hp56 := of_decide_eq_false hc
 refine wp_seq ?_
 replace hs := hs.nf w0 Z X [0, 4, 6] rfl rfl rfl rfl
 refine wp_region_lit (bnn hs (.bool (decide (op = 126))) rfl rfl rfl rfl (bin_eqlN (y := 126)) fun ac hs => asg hs rfl rfl rfl fun ac hs => wpList_nil (then_n (wcs hs rfl ?_ ?_)))
 ·intro hc
  have hp57 := of_decide_eq_true hc
  refine wp_region_lit (mvv hs rfl rfl rfl fun ac hs => ?_)
  obtain ⟨ks58, e59, hks58⟩ := ex2 (joinL ks er)
  have oks58 := join_ok ok hks58
  refine stp (op_callX (F := 51) (ρ := M1) hs none none [0] [0, 1, 2] (v := fun r => .tuple #[]) (S1 := [(true, oW am ks.length cm 34 vs), (true, oW aa js.length ca 34 us), (true, .bysO G (vs ++ us ++ xs) (ks ++ js ++ ts))]) (bs1 := [(true, gm, 61, [.slice am ks.length cm, .slice aa js.length ca, ni64 er])]) (E := fun r => [(true, oW r.a ks58.length r.c 34 r.vs), (true, oW aa js.length ca 34 us), (true, .bysO r.G (r.vs ++ us ++ xs) (ks58 ++ js ++ ts))]) (E1 := fun r => [(true, oW r.a ks58.length r.c 34 r.vs), (true, oW aa js.length ca 34 us), (true, .bysO r.G (r.vs ++ us ++ xs) (ks58 ++ js ++ ts))]) (E2 := fun r => []) (bfA := fun r => [(true, gm, 61, [.slice r.a ks58.length r.c, .slice aa js.length ca, ni64 e59])]) (bf := fun r => [(true, gm, 61, [.slice r.a ks58.length r.c, .slice aa js.length ca, ni64 e59])]) (bf2 := fun r => []) rfl rfl rfl rfl rfl (call51 _) rfl rfl (by decide) (by decide) (fun Z X hm => join_c gm am cm vs aa ca us G xs ts ks js er ks58 e59 (ok.mono (by decide)) hks58 _ _ _ hm) (fun _ => rfl) (fun _ => rfl) (fun _ => rfl) (fun _ => rfl) (fun _ => rfl) rfl fun ⟨ad60, cp61, vs62, G63⟩ ac w hs => wpList_nil (blk_n (then_n (wp_seq (wp_region_lit (asg hs rfl rfl rfl fun ac hs => wpList_nil (then_n (wp_ret ?_))))))))
  have HS := hs
  have h0 := hp
  unfold redL at h0
  rw [if_neg hp8, if_neg hp16, if_neg hp28, if_neg hp46, if_neg hp56, if_pos hp57] at h0
  simp only [hks58] at h0
  obtain ⟨hq, hk, he⟩ := inj3 h0
  subst hq
  subst hk
  subst he
  have hs := HS
  exact bodyPost_ret (res1 rfl (rv_t hs rfl)) hs.defers ⟨⟨ad60, cp61, vs62, G63⟩, rfl, ((hs.selS [0, 1, 2] rfl (by decide)).selB [0] rfl (by decide)).mem⟩
 intro hc
 have hp64 := of_decide_eq_false hc
 refine wp_seq (wp_region_lit (bnn hs (.bool (decide (op = 130))) rfl rfl rfl rfl (bin_eqlN (y := 130)) fun ac hs => asg hs rfl rfl rfl fun ac hs => wpList_nil (then_n (wcs hs rfl ?_ ?_))))
 ·intro hc
  have hp65 := of_decide_eq_true hc
  refine wp_seq (wp_region_lit (mvv hs rfl rfl rfl fun ac hs => ?_))
  obtain ⟨e66, he66⟩ := ex1 (needE ks.length 1 er)
  refine stp (op_callX (F := 48) (ρ := Unit) hs none none [0] [] (v := fun r => .bool (decide (e66 = 0))) (S1 := []) (bs1 := [(true, gm, 61, [.slice am ks.length cm, .slice aa js.length ca, ni64 er])]) (E := fun r => []) (E1 := fun r => []) (E2 := fun r => []) (bfA := fun r => [(true, gm, 61, [.slice am ks.length cm, .slice aa js.length ca, ni64 e66])]) (bf := fun r => [(true, gm, 61, [.slice am ks.length cm, .slice aa js.length ca, ni64 e66])]) (bf2 := fun r => []) rfl rfl rfl rfl rfl (call48 _) rfl rfl (by decide) (by decide) (fun Z X hm => needs_c gm am ks.length cm (.slice aa js.length ca) er 1 e66 (decide (e66 = 0)) he66 rfl _ _ _ hm) (fun _ => rfl) (fun _ => rfl) (fun _ => rfl) (fun _ => rfl) (fun _ => rfl) rfl fun _ ac w hs => wpList_nil (then_n (wcs hs rfl ?_ ?_)))
  ·intro hc
   have hp67 := of_decide_eq_true hc
   have hl0 := (need_len (he66.trans hp67)).1
   replace hs := hs.nf w0 Z X [0, 4] rfl rfl rfl rfl
   refine wp_region_lit (mvv hs rfl rfl rfl fun ac hs => mvv hs rfl rfl rfl fun ac hs => ?_)
   obtain ⟨y68, hy68⟩ : ∃ z0, ks[ks.length - 1 - 0]? = some z0 := ⟨_, List.getElem?_eq_getElem (show ks.length - 1 - 0 < ks.length by omega)⟩
   obtain ⟨ad69, cp70, ky68⟩ := hs.poolAt 2 rfl (hs.ownLen 0 rfl) hy68
   have my68 := zip_get ky68 hy68
   have ly68 : y68.length ≤ 8000 := (ok.mono (by decide)).2 _ (List.mem_of_getElem? hy68)
   have dy68 : ks.getD (ks.length - 1 - 0) [] = y68 := getD_of hy68
   refine stp (op_callX (F := 49) (ρ := Unit) hs none none [0] [0] (v := fun r => .slice ad69 y68.length cp70) (S1 := [(true, oW am ks.length cm 34 vs)]) (bs1 := [(true, gm, 61, [.slice am ks.length cm, .slice aa js.length ca, ni64 e66])]) (E := fun r => [(true, oW am ks.length cm 34 vs)]) (E1 := fun r => [(true, oW am ks.length cm 34 vs)]) (E2 := fun r => []) (bfA := fun r => [(true, gm, 61, [.slice am ks.length cm, .slice aa js.length ca, ni64 e66])]) (bf := fun r => [(true, gm, 61, [.slice am ks.length cm, .slice aa js.length ca, ni64 e66])]) (bf2 := fun r => []) rfl rfl rfl rfl rfl (call49 _) rfl rfl (by decide) (by decide) (fun Z X hm => top_c gm am cm vs ks (.slice aa js.length ca) e66 0 (.slice ad69 y68.length cp70) (show 0 < ks.length by omega) ky68 (ok.mono (by decide)) _ _ _ hm) (fun _ => rfl) (fun _ => rfl) (fun _ => rfl) (fun _ => rfl) (fun _ => rfl) rfl fun _ ac w hs => stp (op_blt hs none (v := ni64 (y68.length)) rfl rfl rfl (blt_len underlying34) rfl fun ac hs => ?_))
   have lad71 : (enc ((y68.length : Nat) : Int)).length ≤ 9 := enc_len (show -9223372036854775808 ≤ ((y68.length : Nat) : Int) by omega) (show ((y68.length : Nat) : Int) < 9223372036854775808 by omega)
   refine stp (op_callV (F := 50) (ρ := Option Addr × Nat) hs none none (v := fun r => .slice r.1 ((enc ((y68.length : Nat) : Int)).length) r.2) (E := fun r => [oW r.1 ((enc ((y68.length : Nat) : Int)).length) r.2 5 (bcs (enc ((y68.length : Nat) : Int)))]) (j := 1) rfl rfl rfl rfl (call50 _) (fun hs => enc_o ((y68.length : Nat) : Int) (show -9223372036854775808 ≤ ((y68.length : Nat) : Int) by omega) (show ((y68.length : Nat) : Int) < 9223372036854775808 by omega) _ _) (fun _ => rfl) (fun _ => rfl) rfl rfl fun ⟨ad71, cp72⟩ ac w hs => stp (op_bsO hs none none (qs := [(0, .slice ad71 ((enc ((y68.length : Nat) : Int)).length) cp72)]) (cs := [.slice ad71 ((enc ((y68.length : Nat) : Int)).length) cp72]) rfl rfl rfl rfl underlying22 inf_slice_34 (by decide) (by decide) (fill_one _ _ rfl) rfl rfl rfl rfl fun ad74 ac w hs => ?_))
   replace hs := hs.freeze 4 rfl
   replace hs := hs.freeze 3 rfl
   refine stp (op_callX (F := 38) (ρ := M1) hs none none [0] [0, 1, 2, 4, 3] (v := fun r => .tuple #[]) (S1 := [(true, oW am ks.length cm 34 vs), (true, oW aa js.length ca 34 us), (true, .bysO G (vs ++ us ++ xs) (ks ++ js ++ ts)), (true, cL ad74 1 1 ([.slice ad71 ((enc ((y68.length : Nat) : Int)).length) cp72])), (true, cL ad71 ((enc ((y68.length : Nat) : Int)).length) cp72 (bcs (enc ((y68.length : Nat) : Int))))]) (bs1 := [(true, gm, 61, [.slice am ks.length cm, .slice aa js.length ca, ni64 e66])]) (E := fun r => [(true, oW r.a ((ks ++ [enc ((y68.length : Nat) : Int)]).length) r.c 34 r.vs), (true, oW aa js.length ca 34 us), (true, .bysO r.G (r.vs ++ us ++ xs) ((ks ++ [enc ((y68.length : Nat) : Int)]) ++ js ++ ts)), (true, cL ad74 1 1 ([.slice ad71 ((enc ((y68.length : Nat) : Int)).length) cp72])), (true, cL ad71 ((enc ((y68.length : Nat) : Int)).length) cp72 (bcs (enc ((y68.length : Nat) : Int))))]) (E1 := fun r => [(true, oW r.a ((ks ++ [enc ((y68.length : Nat) : Int)]).length) r.c 34 r.vs), (true, oW aa js.length ca 34 us), (true, .bysO r.G (r.vs ++ us ++ xs) ((ks ++ [enc ((y68.length : Nat) : Int)]) ++ js ++ ts)), (true, cL ad74 1 1 ([.slice ad71 ((enc ((y68.length : Nat) : Int)).length) cp72])), (true, cL ad71 ((enc ((y68.length : Nat) : Int)).length) cp72 (bcs (enc ((y68.length : Nat) : Int))))]) (E2 := fun r => []) (bfA := fun r => [(true, gm, 61, [.slice r.a ((ks ++ [enc ((y68.length : Nat) : Int)]).length) r.c, .slice aa js.length ca, ni64 e66])]) (bf := fun r => [(true, gm, 61, [.slice r.a ((ks ++ [enc ((y68.length : Nat) : Int)]).length) r.c, .slice aa js.length ca, ni64 e66])]) (bf2 := fun r => []) rfl rfl rfl rfl rfl (call38 _) rfl rfl (by decide) (by decide) (fun Z X hm => pushC_c gm am cm vs aa ca us G xs ts ks js e66 ad74 1 ad71 cp72 (enc ((y68.length : Nat) : Int)) (show (enc ((y68.length : Nat) : Int)).length ≤ 8000 by omega) (ok.mono (by decide)) ((enc ((y68.length : Nat) : Int)).length) rfl _ _ _ hm) (fun _ => rfl) (fun _ => rfl) (fun _ => rfl) (fun _ => rfl) (fun _ => rfl) rfl fun ⟨ad75, cp76, vs77, G78⟩ ac w hs => wpList_nil (blk_n (then_n (wp_seq ?_))))
   replace hs := hs.nf w0 Z X [4] rfl rfl rfl rfl
   refine wp_region_lit (asg hs rfl rfl rfl fun ac hs => wpList_nil (then_n (wp_ret ?_)))
   have HS := hs
   obtain rfl : e66 = 0 := hp67
   have h0 := hp
   unfold redL at h0
   rw [if_neg hp8, if_neg hp16, if_neg hp28, if_neg hp46, if_neg hp56, if_neg hp64, if_pos hp65] at h0
   simp only [siz_yes he66 (dy68 : lastB ks = y68)] at h0
   obtain ⟨hq, hk, he⟩ := inj3 h0
   subst hq
   subst hk
   subst he
   have hs := HS
   exact bodyPost_ret (res1 rfl (rv_t hs rfl)) hs.defers ⟨⟨ad75, cp76, vs77, G78⟩, rfl, ((hs.selS [0, 1, 2] rfl (by decide)).selB [0] rfl (by decide)).mem⟩
  intro hc
  have hp79 := of_decide_eq_false hc
  refine wp_skip (blk_n (then_n (wp_seq ?_)))
  replace hs := hs.nf w0 Z X [4] rfl rfl rfl rfl
  refine wp_region_lit (asg hs rfl rfl rfl fun ac hs => wpList_nil (then_n (wp_ret ?_)))
  have HS := hs
  have h0 := hp
  unfold redL at h0
  rw [if_neg hp8, if_neg hp16, if_neg hp28, if_neg hp46, if_neg hp56, if_neg hp64, if_pos hp65] at h0
  simp only [siz_no (by rw [he66]; exact hp79)] at h0
  rw [he66] at h0
  obtain ⟨hq, hk, he⟩ := inj3 h0
  subst hq
  subst hk
  subst he
  have hs := HS
  exact bodyPost_ret (res1 rfl (rv_t hs rfl)) hs.defers ⟨⟨am, cm, vs, G⟩, rfl, ((hs.selS [0, 1, 2] rfl (by decide)).selB [0] rfl (by decide)).mem⟩
 intro hc
 have hp80 := of_decide_eq_false hc
 refine wp_seq (wp_region_lit (bnn hs (.bool (decide (op = 135))) rfl rfl rfl rfl (bin_eqlN (y := 135)) fun ac hs => asg hs rfl rfl rfl fun ac hs => wpList_nil (then_n (wcs hs rfl ?_ ?_))))
 ·intro hc
  have hp81 := of_decide_eq_true hc
  replace hs := hs.nf w0 Z X [0, 4] rfl rfl rfl rfl
  refine wp_region_lit (mvv hs rfl rfl rfl fun ac hs => mvv hs rfl rfl rfl fun ac hs => ?_)
  obtain ⟨q88, ks82, e83, hks82⟩ := ex3 (alikL ks er)
  have oks82 := alik_ok ok hks82
  refine stp (op_callX (F := 53) (ρ := M1) hs none none [0] [0, 1, 2] (v := fun r => .bool q88) (S1 := [(true, oW am ks.length cm 34 vs), (true, oW aa js.length ca 34 us), (true, .bysO G (vs ++ us ++ xs) (ks ++ js ++ ts))]) (bs1 := [(true, gm, 61, [.slice am ks.length cm, .slice aa js.length ca, ni64 er])]) (E := fun r => [(true, oW r.a ks82.length r.c 34 r.vs), (true, oW aa js.length ca 34 us), (true, .bysO r.G (r.vs ++ us ++ xs) (ks82 ++ js ++ ts))]) (E1 := fun r => [(true, oW r.a ks82.length r.c 34 r.vs), (true, oW aa js.length ca 34 us), (true, .bysO r.G (r.vs ++ us ++ xs) (ks82 ++ js ++ ts))]) (E2 := fun r => []) (bfA := fun r => [(true, gm, 61, [.slice r.a ks82.length r.c, .slice aa js.length ca, ni64 e83])]) (bf := fun r => [(true, gm, 61, [.slice r.a ks82.length r.c, .slice aa js.length ca, ni64 e83])]) (bf2 := fun r => []) rfl rfl rfl rfl rfl (call53 _) rfl rfl (by decide) (by decide) (fun Z X hm => alike_c gm am cm vs aa ca us G xs ts ks js er q88 ks82 e83 (ok.mono (by decide)) hks82 _ _ _ hm) (fun _ => rfl) (fun _ => rfl) (fun _ => rfl) (fun _ => rfl) (fun _ => rfl) rfl fun ⟨ad84, cp85, vs86, G87⟩ ac w hs => ?_)
  have lad89 : (flagL q88).length ≤ 1 := flagL_len _
  refine stp (op_callV (F := 52) (ρ := Option Addr × Nat) hs none none (v := fun r => .slice r.1 ((flagL q88).length) r.2) (E := fun r => [oW r.1 ((flagL q88).length) r.2 5 (bcs (flagL q88))]) (j := 1) rfl rfl rfl rfl (call52 _) (fun hs => flag_o q88 _ _) (fun _ => rfl) (fun _ => rfl) rfl rfl fun ⟨ad89, cp90⟩ ac w hs => stp (op_bsO hs none none (qs := [(0, .slice ad89 ((flagL q88).length) cp90)]) (cs := [.slice ad89 ((flagL q88).length) cp90]) rfl rfl rfl rfl underlying22 inf_slice_34 (by decide) (by decide) (fill_one _ _ rfl) rfl rfl rfl rfl fun ad92 ac w hs => ?_))
  replace hs := hs.freeze 4 rfl
  replace hs := hs.freeze 3 rfl
  refine stp (op_callX (F := 38) (ρ := M1) hs none none [0] [0, 1, 2, 4, 3] (v := fun r => .tuple #[]) (S1 := [(true, oW ad84 ks82.length cp85 34 vs86), (true, oW aa js.length ca 34 us), (true, .bysO G87 (vs86 ++ us ++ xs) (ks82 ++ js ++ ts)), (true, cL ad92 1 1 ([.slice ad89 ((flagL q88).length) cp90])), (true, cL ad89 ((flagL q88).length) cp90 (bcs (flagL q88)))]) (bs1 := [(true, gm, 61, [.slice ad84 ks82.length cp85, .slice aa js.length ca, ni64 e83])]) (E := fun r => [(true, oW r.a ((ks82 ++ [flagL q88]).length) r.c 34 r.vs), (true, oW aa js.length ca 34 us), (true, .bysO r.G (r.vs ++ us ++ xs) ((ks82 ++ [flagL q88]) ++ js ++ ts)), (true, cL ad92 1 1 ([.slice ad89 ((flagL q88).length) cp90])), (true, cL ad89 ((flagL q88).length) cp90 (bcs (flagL q88)))]) (E1 := fun r => [(true, oW r.a ((ks82 ++ [flagL q88]).length) r.c 34 r.vs), (true, oW aa js.length ca 34 us), (true, .bysO r.G (r.vs ++ us ++ xs) ((ks82 ++ [flagL q88]) ++ js ++ ts)), (true, cL ad92 1 1 ([.slice ad89 ((flagL q88).length) cp90])), (true, cL ad89 ((flagL q88).length) cp90 (bcs (flagL q88)))]) (E2 := fun r => []) (bfA := fun r => [(true, gm, 61, [.slice r.a ((ks82 ++ [flagL q88]).length) r.c, .slice aa js.length ca, ni64 e83])]) (bf := fun r => [(true, gm, 61, [.slice r.a ((ks82 ++ [flagL q88]).length) r.c, .slice aa js.length ca, ni64 e83])]) (bf2 := fun r => []) rfl rfl rfl rfl rfl (call38 _) rfl rfl (by decide) (by decide) (fun Z X hm => pushC_c gm ad84 cp85 vs86 aa ca us G87 xs ts ks82 js e83 ad92 1 ad89 cp90 (flagL q88) (show (flagL q88).length ≤ 8000 by omega) (oks82.mono (by decide)) ((flagL q88).length) rfl _ _ _ hm) (fun _ => rfl) (fun _ => rfl) (fun _ => rfl) (fun _ => rfl) (fun _ => rfl) rfl fun ⟨ad93, cp94, vs95, G96⟩ ac w hs => wpList_nil (blk_n (then_n (wp_seq ?_))))
  replace hs := hs.nf w0 Z X [4] rfl rfl rfl rfl
  refine wp_region_lit (asg hs rfl rfl rfl fun ac hs => wpList_nil (then_n (wp_ret ?_)))
  have HS := hs
  have h0 := hp
  unfold redL at h0
  rw [if_neg hp8, if_neg hp16, if_neg hp28, if_neg hp46, if_neg hp56, if_neg hp64, if_neg hp80, if_pos hp81] at h0
  simp only [hks82] at h0
  obtain ⟨hq, hk, he⟩ := inj3 h0
  subst hq
  subst hk
  subst he
  have hs := HS
  exact bodyPost_ret (res1 rfl (rv_t hs rfl)) hs.defers ⟨⟨ad93, cp94, vs95, G96⟩, rfl, ((hs.selS [0, 1, 2] rfl (by decide)).selB [0] rfl (by decide)).mem⟩
 intro hc
 have hp97 := of_decide_eq_false hc
 refine wp_seq ?_
 replace hs := hs.nf w0 Z X [0, 4, 6] rfl rfl rfl rfl
 refine wp_region_lit (bnn hs (.bool (decide (op = 136))) rfl rfl rfl rfl (bin_eqlN (y := 136)) fun ac hs => asg hs rfl rfl rfl fun ac hs => wpList_nil (then_n (wcs hs rfl ?_ ?_)))
 ·intro hc
  have hp98 := of_decide_eq_true hc
  refine wp_region_lit (mvv hs rfl rfl rfl fun ac hs => mvv hs rfl rfl rfl fun ac hs => ?_)
  obtain ⟨q105, ks99, e100, hks99⟩ := ex3 (alikL ks er)
  have oks99 := alik_ok ok hks99
  refine stp (op_callX (F := 53) (ρ := M1) hs none none [0] [0, 1, 2] (v := fun r => .bool q105) (S1 := [(true, oW am ks.length cm 34 vs), (true, oW aa js.length ca 34 us), (true, .bysO G (vs ++ us ++ xs) (ks ++ js ++ ts))]) (bs1 := [(true, gm, 61, [.slice am ks.length cm, .slice aa js.length ca, ni64 er])]) (E := fun r => [(true, oW r.a ks99.length r.c 34 r.vs), (true, oW aa js.length ca 34 us), (true, .bysO r.G (r.vs ++ us ++ xs) (ks99 ++ js ++ ts))]) (E1 := fun r => [(true, oW r.a ks99.length r.c 34 r.vs), (true, oW aa js.length ca 34 us), (true, .bysO r.G (r.vs ++ us ++ xs) (ks99 ++ js ++ ts))]) (E2 := fun r => []) (bfA := fun r => [(true, gm, 61, [.slice r.a ks99.length r.c, .slice aa js.length ca, ni64 e100])]) (bf := fun r => [(true, gm, 61, [.slice r.a ks99.length r.c, .slice aa js.length ca, ni64 e100])]) (bf2 := fun r => []) rfl rfl rfl rfl rfl (call53 _) rfl rfl (by decide) (by decide) (fun Z X hm => alike_c gm am cm vs aa ca us G xs ts ks js er q105 ks99 e100 (ok.mono (by decide)) hks99 _ _ _ hm) (fun _ => rfl) (fun _ => rfl) (fun _ => rfl) (fun _ => rfl) (fun _ => rfl) rfl fun ⟨ad101, cp102, vs103, G104⟩ ac w hs => ?_)
  obtain ⟨e106, he106⟩ := ex1 (mustE q105 e100)
  refine stp (op_callX (F := 46) (ρ := Unit) hs none none [0] [] (v := fun r => .tuple #[]) (S1 := []) (bs1 := [(true, gm, 61, [.slice ad101 ks99.length cp102, .slice aa js.length ca, ni64 e100])]) (E := fun r => []) (E1 := fun r => []) (E2 := fun r => []) (bfA := fun r => [(true, gm, 61, [.slice ad101 ks99.length cp102, .slice aa js.length ca, ni64 e106])]) (bf := fun r => [(true, gm, 61, [.slice ad101 ks99.length cp102, .slice aa js.length ca, ni64 e106])]) (bf2 := fun r => []) rfl rfl rfl rfl rfl (call46 _) rfl rfl (by decide) (by decide) (fun Z X hm => must_c gm (.slice ad101 ks99.length cp102) (.slice aa js.length ca) e100 q105 e106 he106 _ _ _ hm) (fun _ => rfl) (fun _ => rfl) (fun _ => rfl) (fun _ => rfl) (fun _ => rfl) rfl fun _ ac w hs => wpList_nil (blk_n (then_n (wp_seq ?_))))
  replace hs := hs.nf w0 Z X [4] rfl rfl rfl rfl
  refine wp_region_lit (asg hs rfl rfl rfl fun ac hs => wpList_nil (then_n (wp_ret ?_)))
  have HS := hs
  have h0 := hp
  unfold redL at h0
  rw [if_neg hp8, if_neg hp16, if_neg hp28, if_neg hp46, if_neg hp56, if_neg hp64, if_neg hp80, if_neg hp97, if_pos hp98] at h0
  simp only [hks99, he106] at h0
  obtain ⟨hq, hk, he⟩ := inj3 h0
  subst hq
  subst hk
  subst he
  have hs := HS
  exact bodyPost_ret (res1 rfl (rv_t hs rfl)) hs.defers ⟨⟨ad101, cp102, vs103, G104⟩, rfl, ((hs.selS [0, 1, 2] rfl (by decide)).selB [0] rfl (by decide)).mem⟩
 intro hc
 have hp107 := of_decide_eq_false hc
 refine wp_seq (wp_region_lit (bnn hs (.bool (decide (op = 168))) rfl rfl rfl rfl (bin_eqlN (y := 168)) fun ac hs => asg hs rfl rfl rfl fun ac hs => wpList_nil (then_n (wcs hs rfl ?_ ?_))))
 ·intro hc
  have hp108 := of_decide_eq_true hc
  refine wp_region_lit (mvv hs rfl rfl rfl fun ac hs => ?_)
  obtain ⟨ks109, e110, hks109⟩ := ex2 (hashL shaV ks er)
  have oks109 := hash_ok (fun _ => btl32 _) (by decide) ok hks109
  refine stp (op_callX (F := 54) (ρ := M1) hs none none [0] [0, 1, 2] (v := fun r => .tuple #[]) (S1 := [(true, oW am ks.length cm 34 vs), (true, oW aa js.length ca 34 us), (true, .bysO G (vs ++ us ++ xs) (ks ++ js ++ ts))]) (bs1 := [(true, gm, 61, [.slice am ks.length cm, .slice aa js.length ca, ni64 er])]) (E := fun r => [(true, oW r.a ks109.length r.c 34 r.vs), (true, oW aa js.length ca 34 us), (true, .bysO r.G (r.vs ++ us ++ xs) (ks109 ++ js ++ ts))]) (E1 := fun r => [(true, oW r.a ks109.length r.c 34 r.vs), (true, oW aa js.length ca 34 us), (true, .bysO r.G (r.vs ++ us ++ xs) (ks109 ++ js ++ ts))]) (E2 := fun r => []) (bfA := fun r => [(true, gm, 61, [.slice r.a ks109.length r.c, .slice aa js.length ca, ni64 e110])]) (bf := fun r => [(true, gm, 61, [.slice r.a ks109.length r.c, .slice aa js.length ca, ni64 e110])]) (bf2 := fun r => []) rfl rfl rfl rfl rfl (call54 _) rfl rfl (by decide) (by decide) (fun Z X hm => hashS_c gm am cm vs aa ca us G xs ts ks js er ks109 e110 (ok.mono (by decide)) hks109 _ _ _ hm) (fun _ => rfl) (fun _ => rfl) (fun _ => rfl) (fun _ => rfl) (fun _ => rfl) rfl fun ⟨ad111, cp112, vs113, G114⟩ ac w hs => wpList_nil (blk_n (then_n (wp_seq ?_))))
  replace hs := hs.nf w0 Z X [4] rfl rfl rfl rfl
  refine wp_region_lit (asg hs rfl rfl rfl fun ac hs => wpList_nil (then_n (wp_ret ?_)))
  have HS := hs
  have h0 := hp
  unfold redL at h0
  rw [if_neg hp8, if_neg hp16, if_neg hp28, if_neg hp46, if_neg hp56, if_neg hp64, if_neg hp80, if_neg hp97, if_neg hp107, if_pos hp108] at h0
  simp only [hks109] at h0
  obtain ⟨hq, hk, he⟩ := inj3 h0
  subst hq
  subst hk
  subst he
  have hs := HS
  exact bodyPost_ret (res1 rfl (rv_t hs rfl)) hs.defers ⟨⟨ad111, cp112, vs113, G114⟩, rfl, ((hs.selS [0, 1, 2] rfl (by decide)).selB [0] rfl (by decide)).mem⟩
 intro hc
 have hp115 := of_decide_eq_false hc
 refine wp_seq (wp_region_lit (bnn hs (.bool (decide (op = 170))) rfl rfl rfl rfl (bin_eqlN (y := 170)) fun ac hs => asg hs rfl rfl rfl fun ac hs => wpList_nil (then_n (wcs hs rfl ?_ ?_))))
 ·intro hc
  have hp116 := of_decide_eq_true hc
  replace hs := hs.nf w0 Z X [0, 4] rfl rfl rfl rfl
  refine wp_region_lit (mvv hs rfl rfl rfl fun ac hs => ?_)
  obtain ⟨ks117, e118, hks117⟩ := ex2 (hashL dblV ks er)
  have oks117 := hash_ok (fun _ => btl32 _) (by decide) ok hks117
  refine stp (op_callX (F := 54) (ρ := M1) hs none none [0] [0, 1, 2] (v := fun r => .tuple #[]) (S1 := [(true, oW am ks.length cm 34 vs), (true, oW aa js.length ca 34 us), (true, .bysO G (vs ++ us ++ xs) (ks ++ js ++ ts))]) (bs1 := [(true, gm, 61, [.slice am ks.length cm, .slice aa js.length ca, ni64 er])]) (E := fun r => [(true, oW r.a ks117.length r.c 34 r.vs), (true, oW aa js.length ca 34 us), (true, .bysO r.G (r.vs ++ us ++ xs) (ks117 ++ js ++ ts))]) (E1 := fun r => [(true, oW r.a ks117.length r.c 34 r.vs), (true, oW aa js.length ca 34 us), (true, .bysO r.G (r.vs ++ us ++ xs) (ks117 ++ js ++ ts))]) (E2 := fun r => []) (bfA := fun r => [(true, gm, 61, [.slice r.a ks117.length r.c, .slice aa js.length ca, ni64 e118])]) (bf := fun r => [(true, gm, 61, [.slice r.a ks117.length r.c, .slice aa js.length ca, ni64 e118])]) (bf2 := fun r => []) rfl rfl rfl rfl rfl (call54 _) rfl rfl (by decide) (by decide) (fun Z X hm => hashD_c gm am cm vs aa ca us G xs ts ks js er ks117 e118 (ok.mono (by decide)) hks117 _ _ _ hm) (fun _ => rfl) (fun _ => rfl) (fun _ => rfl) (fun _ => rfl) (fun _ => rfl) rfl fun ⟨ad119, cp120, vs121, G122⟩ ac w hs => wpList_nil (blk_n (then_n (wp_seq (wp_region_lit (asg hs rfl rfl rfl fun ac hs => wpList_nil (then_n (wp_ret ?_))))))))
  have HS := hs
  have h0 := hp
  unfold redL at h0
  rw [if_neg hp8, if_neg hp16, if_neg hp28, if_neg hp46, if_neg hp56, if_neg hp64, if_neg hp80, if_neg hp97, if_neg hp107, if_neg hp115, if_pos hp116] at h0
  simp only [hks117] at h0
  obtain ⟨hq, hk, he⟩ := inj3 h0
  subst hq
  subst hk
  subst he
  have hs := HS
  exact bodyPost_ret (res1 rfl (rv_t hs rfl)) hs.defers ⟨⟨ad119, cp120, vs121, G122⟩, rfl, ((hs.selS [0, 1, 2] rfl (by decide)).selB [0] rfl (by decide)).mem⟩
 intro hc
 have hp123 := of_decide_eq_false hc
 refine wp_seq ?_
 replace hs := hs.nf w0 Z X [4] rfl rfl rfl rfl
 refine wp_region_lit (asg hs rfl rfl rfl fun ac hs => wpList_nil (then_n (wp_ret (blk_r (then_r ?_)))))
 have HS := hs
 have h0 := hp
 unfold redL at h0
 rw [if_neg hp8, if_neg hp16, if_neg hp28, if_neg hp46, if_neg hp56, if_neg hp64, if_neg hp80, if_neg hp97, if_neg hp107, if_neg hp115, if_neg hp123] at h0
 obtain ⟨hq, hk, he⟩ := inj3 h0
 subst hq
 subst hk
 subst he
 have hs := HS
 exact bodyPost_ret (res1 rfl (rv_t hs rfl)) hs.defers ⟨⟨am, cm, vs, G⟩, rfl, ((hs.selS [0, 1, 2] rfl (by decide)).selB [0] rfl (by decide)).mem⟩
theorem reckons_c (gm : Nat) (am : Option Addr) (cm : Nat) (vs : List Value) (aa : Option Addr) (ca : Nat) (us : List Value) (G : Nat → Prop) (xs : List Value) (ts : BL) (ks js : BL) (er : Nat) (op : Nat) (q : Bool) (k1 : BL) (e1 : Nat) (ok : OkN 2900 ks) (hp : recL op ks er = (q, k1, e1)) (w0 : World) (Z X : Nat → Prop) (hm : Mem ⟨w0, [], [(true, oW am ks.length cm 34 vs), (true, oW aa js.length ca 34 us), (true, .bysO G (vs ++ us ++ xs) (ks ++ js ++ ts))], Z, X⟩ [(true, gm, 61, [.slice am ks.length cm, .slice aa js.length ca, ni64 er])] w0) : Calls prog 29 #[ptA gm 0, nu8 op] w0 fun e w' => PostX w0 Z X (ρ := M1) (fun r => .bool q) (fun r => [(true, gm, 61, [.slice r.a k1.length r.c, .slice aa js.length ca, ni64 e1])]) (fun r => [(true, oW r.a k1.length r.c 34 r.vs), (true, oW aa js.length ca 34 us), (true, .bysO r.G (r.vs ++ us ++ xs) (k1 ++ js ++ ts))]) e w' := by
 have hk8 : ks.length ≤ 2900 := ok.1
 refine enterX (n := 90) (args := [ptA gm 0, nu8 op]) func29 rfl rfl (Nat.le_of_ble_eq_true rfl) hm fun ac hs => ?_
 have hv := hs.ownLen 0 rfl
 have hu := hs.ownLen 1 rfl
 refine wp_seq (wp_region_lit (asg hs rfl rfl rfl fun ac hs => wpList_nil (then_n (wp_seq (wp_seq (wp_region_lit (mvv hs rfl rfl rfl fun ac hs => bnn hs (.bool (decide (op = 165))) rfl rfl rfl rfl (bin_eqlN (y := 165)) fun ac hs => wpList_nil (then_n (wcs hs rfl ?_ ?_)))))))))
 ·intro hc
  have hp1 := of_decide_eq_true hc
  refine wp_seq (wp_region_lit (mvv hs rfl rfl rfl fun ac hs => ?_))
  obtain ⟨zs7, ks2, e3, hks2⟩ := ex3 (opsL 3 ks er)
  obtain ⟨oks2, lzs7, bzs7⟩ := ops_ok ok hks2
  obtain ⟨z4, z5, z6, rfl⟩ := len3 lzs7
  have bz4 := bzs7 z4 (by simp)
  have bz5 := bzs7 z5 (by simp)
  have bz6 := bzs7 z6 (by simp)
  refine stp (op_callX (F := 57) (ρ := M1o) hs none none [0] [0, 1, 2] (v := fun r => .slice (some ⟨r.o, 0, none⟩) 3 3) (S1 := [(true, oW am ks.length cm 34 vs), (true, oW aa js.length ca 34 us), (true, .bysO G (vs ++ us ++ xs) (ks ++ js ++ ts))]) (bs1 := [(true, gm, 61, [.slice am ks.length cm, .slice aa js.length ca, ni64 er])]) (E := fun r => [(true, oW r.a ks2.length r.c 34 r.vs), (true, oW aa js.length ca 34 us), (true, .bysO G (r.vs ++ us ++ xs) (ks2 ++ js ++ ts))]) (E1 := fun r => [(true, oW r.a ks2.length r.c 34 r.vs), (true, oW aa js.length ca 34 us), (true, .bysO G (r.vs ++ us ++ xs) (ks2 ++ js ++ ts))]) (E2 := fun r => []) (bfA := fun r => [(true, gm, 61, [.slice r.a ks2.length r.c, .slice aa js.length ca, ni64 e3]), (true, r.o, 2, [.int .i64 z4, .int .i64 z5, .int .i64 z6])]) (bf := fun r => [(true, gm, 61, [.slice r.a ks2.length r.c, .slice aa js.length ca, ni64 e3])]) (bf2 := fun r => [(true, r.o, 2, [.int .i64 z4, .int .i64 z5, .int .i64 z6])]) rfl rfl rfl rfl rfl (call57 _) rfl rfl (by decide) (by decide) (fun Z X hm => ops3_c gm am cm vs aa ca us G xs ts ks js er z4 z5 z6 ks2 e3 (ok.mono (by decide)) hks2 _ _ _ hm) (fun _ => rfl) (fun _ => rfl) (fun _ => rfl) (fun _ => rfl) (fun _ => rfl) rfl fun ⟨ad8, cp9, vs10, g11⟩ ac w hs => asg hs rfl rfl rfl fun ac hs => wpList_nil (then_n (wp_seq ?_)))
  by_cases hq12 : z5 ≤ z4
  ·replace hs := hs.nf w0 Z X [0, 1, 4, 5] rfl rfl rfl rfl
   have lad13 : (flagL (decide (z4 < z6))).length ≤ 1 := flagL_len _
   refine region_inv [([], [19]), ([], [2, 3, 7, 8, 9, 10, 11, 12, 13, 14, 15, 16, 17, 18, 19]), ([1], [3, 7, 8, 9, 10, 11, 12, 13, 14, 15, 16, 17, 18, 19]), ([1, 2], rgn 7 13), ([], rgn 5 15), ([4], rgn 6 14), ([4, 5], rgn 7 13), (rgn 1 6, rgn 8 12), (rgn 1 7, rgn 9 11), (rgn 1 8, [10, 11, 15, 16, 17, 18, 19]), (rgn 1 9, [11, 15, 16, 17, 18, 19]), (rgn 1 10, rgn 15 5), (rgn 1 8, rgn 13 7), ([1, 2, 3, 4, 5, 6, 7, 8, 12], rgn 14 6), ([1, 2, 3, 4, 5, 6, 7, 8, 12, 13], rgn 15 5), (rgn 1 14, rgn 16 4), (rgn 1 15, [17, 18, 19]), (rgn 1 16, [18, 19]), (rgn 1 17, [19]), (rgn 0 19, [])] (fun L ac w => ∃ (ad13 : Option Addr) (cp14 : Nat) (ad16 : Option Addr) (ad17 : Option Addr) (cp18 : Nat) (vs19 : List Value) (G20 : Nat → Prop), St 90 ⟨w0, [], [(true, cond (L 19) (oW ad17 ((ks2 ++ [flagL (decide (z4 < z6))]).length) cp18 34 vs19) (oW ad8 ks2.length cp9 34 vs10)), (true, oW aa js.length ca 34 us), (true, cond (L 19) (.bysO G20 (vs19 ++ us ++ xs) ((ks2 ++ [flagL (decide (z4 < z6))]) ++ js ++ ts)) (.bysO G (vs10 ++ us ++ xs) (ks2 ++ js ++ ts))), (L 17, cond (L 19) (cL ad13 ((flagL (decide (z4 < z6))).length) cp14 (bcs (flagL (decide (z4 < z6))))) (oW ad13 ((flagL (decide (z4 < z6))).length) cp14 5 (bcs (flagL (decide (z4 < z6)))))), (L 18, cond (L 19) (cL ad16 1 1 ([.slice ad13 ((flagL (decide (z4 < z6))).length) cp14])) (cond (L 18) (oW ad16 1 1 34 ([.slice ad13 ((flagL (decide (z4 < z6))).length) cp14])) (.bys [] [])))], Z, X⟩ [(19, L 0, ptA gm 0), (20, L 1, .slice (some ⟨g11, 0, none⟩) 3 3), (21, L 2, ptA g11 0), (22, L 3, .int .i64 z4), (23, L 4, .slice (some ⟨g11, 0, none⟩) 3 3), (24, L 5, ptA g11 1), (25, L 6, .int .i64 z5), (26, L 7, .bool true), (27, L 8, .bool true), (28, L 9, .slice (some ⟨g11, 0, none⟩) 3 3), (29, L 10, ptA g11 0), (30, L 11, .int .i64 z4), (31, L 12, .slice (some ⟨g11, 0, none⟩) 3 3), (32, L 13, ptA g11 2), (33, L 14, .int .i64 z6), (34, L 15, .bool (decide (z4 < z6))), (35, L 16, .bool (decide (z4 < z6))), (36, L 17, .slice ad13 ((flagL (decide (z4 < z6))).length) cp14), (37, L 18, .slice ad16 1 1), (38, L 19, .tuple #[]), (0, true, ptA gm 0), (1, true, nu8 op), (4, true, .bool false), (5, true, .slice (some ⟨g11, 0, none⟩) 3 3)] [(true, gm, 61, (cond (L 19) [.slice ad17 ((ks2 ++ [flagL (decide (z4 < z6))]).length) cp18, .slice aa js.length ca, ni64 e3] [.slice ad8 ks2.length cp9, .slice aa js.length ca, ni64 e3])), (true, g11, 2, [.int .i64 z4, .int .i64 z5, .int .i64 z6])] ac w) (by kernel_rfl) (by kernel_rfl) ?_ ?_ ?_
   ·exact ⟨none, 0, none, none, 0, [], noX, hs.drew.s4.s4.s4.s4.s4.padS.padS⟩
   ·refine ⟨?_, ?_, ?_, ?_, ?_, ?_, ?_, ?_, ?_, ?_, ?_, ?_, ?_, ?_, ?_, ?_, ?_, ?_, ?_, ?_, trivial⟩
    ·exact fun L ac w ⟨ad13, cp14, ad16, ad17, cp18, vs19, G20, hs⟩ => pln (omv hs 0 rfl rfl rfl fun ac hs => ⟨ad13, cp14, ad16, ad17, cp18, vs19, G20, hs⟩)
    ·exact fun L ac w ⟨ad13, cp14, ad16, ad17, cp18, vs19, G20, hs⟩ => pln (omv hs 1 rfl rfl rfl fun ac hs => ⟨ad13, cp14, ad16, ad17, cp18, vs19, G20, hs⟩)
    ·exact fun L ac w ⟨ad13, cp14, ad16, ad17, cp18, vs19, G20, hs⟩ => pln (op_idxS hs (some 2) (j := 0) rfl rfl rfl rfl underlying73 sizeOf2 (by decide) (off := 0) rfl rfl fun ac hs => ⟨ad13, cp14, ad16, ad17, cp18, vs19, G20, hs⟩)
    ·exact fun L ac w ⟨ad13, cp14, ad16, ad17, cp18, vs19, G20, hs⟩ => pln (oldd hs 3 1 (.int .i64 z4) isAgg2 sizeOf2 rfl rfl rfl rfl rfl fun ac hs => ⟨ad13, cp14, ad16, ad17, cp18, vs19, G20, hs⟩)
    ·exact fun L ac w ⟨ad13, cp14, ad16, ad17, cp18, vs19, G20, hs⟩ => pln (omv hs 4 rfl rfl rfl fun ac hs => ⟨ad13, cp14, ad16, ad17, cp18, vs19, G20, hs⟩)
    ·exact fun L ac w ⟨ad13, cp14, ad16, ad17, cp18, vs19, G20, hs⟩ => pln (op_idxS hs (some 5) (j := 1) rfl rfl rfl rfl underlying73 sizeOf2 (by decide) (off := 1) rfl rfl fun ac hs => ⟨ad13, cp14, ad16, ad17, cp18, vs19, G20, hs⟩)
    ·exact fun L ac w ⟨ad13, cp14, ad16, ad17, cp18, vs19, G20, hs⟩ => pln (oldd hs 6 1 (.int .i64 z5) isAgg2 sizeOf2 rfl rfl rfl rfl rfl fun ac hs => ⟨ad13, cp14, ad16, ad17, cp18, vs19, G20, hs⟩)
    ·exact fun L ac w ⟨ad13, cp14, ad16, ad17, cp18, vs19, G20, hs⟩ => pln (obn hs 7 (.bool true) rfl rfl rfl rfl (fun w => dT hq12 (bin_geqI w)) fun ac hs => ⟨ad13, cp14, ad16, ad17, cp18, vs19, G20, hs⟩)
    ·exact fun L ac w ⟨ad13, cp14, ad16, ad17, cp18, vs19, G20, hs⟩ => pln (omv hs 8 rfl rfl rfl fun ac hs => ⟨ad13, cp14, ad16, ad17, cp18, vs19, G20, hs⟩)
    ·exact fun L ac w ⟨ad13, cp14, ad16, ad17, cp18, vs19, G20, hs⟩ => wpO_in hs rfl rfl rfl (omv hs 9 rfl rfl rfl fun ac hs => ⟨ad13, cp14, ad16, ad17, cp18, vs19, G20, hs⟩)
    ·exact fun L ac w ⟨ad13, cp14, ad16, ad17, cp18, vs19, G20, hs⟩ => wpO_in hs rfl rfl rfl (op_idxS hs (some 10) (j := 0) rfl rfl rfl rfl underlying73 sizeOf2 (by decide) (off := 0) rfl rfl fun ac hs => ⟨ad13, cp14, ad16, ad17, cp18, vs19, G20, hs⟩)
    ·exact fun L ac w ⟨ad13, cp14, ad16, ad17, cp18, vs19, G20, hs⟩ => wpO_in hs rfl rfl rfl (oldd hs 11 1 (.int .i64 z4) isAgg2 sizeOf2 rfl rfl rfl rfl rfl fun ac hs => ⟨ad13, cp14, ad16, ad17, cp18, vs19, G20, hs⟩)
    ·exact fun L ac w ⟨ad13, cp14, ad16, ad17, cp18, vs19, G20, hs⟩ => wpO_in hs rfl rfl rfl (omv hs 12 rfl rfl rfl fun ac hs => ⟨ad13, cp14, ad16, ad17, cp18, vs19, G20, hs⟩)
    ·exact fun L ac w ⟨ad13, cp14, ad16, ad17, cp18, vs19, G20, hs⟩ => wpO_in hs rfl rfl rfl (op_idxS hs (some 13) (j := 2) rfl rfl rfl rfl underlying73 sizeOf2 (by decide) (off := 2) rfl rfl fun ac hs => ⟨ad13, cp14, ad16, ad17, cp18, vs19, G20, hs⟩)
    ·exact fun L ac w ⟨ad13, cp14, ad16, ad17, cp18, vs19, G20, hs⟩ => wpO_in hs rfl rfl rfl (oldd hs 14 1 (.int .i64 z6) isAgg2 sizeOf2 rfl rfl rfl rfl rfl fun ac hs => ⟨ad13, cp14, ad16, ad17, cp18, vs19, G20, hs⟩)
    ·exact fun L ac w ⟨ad13, cp14, ad16, ad17, cp18, vs19, G20, hs⟩ => wpO_in hs rfl rfl rfl (obn hs 15 (.bool (decide (z4 < z6))) rfl rfl rfl rfl bin_lssI fun ac hs => ⟨ad13, cp14, ad16, ad17, cp18, vs19, G20, hs⟩)
    ·exact fun L ac w ⟨ad13, cp14, ad16, ad17, cp18, vs19, G20, hs⟩ => pln (op_pickT hs (some 16) rfl rfl rfl rfl rfl fun ac hs => ⟨ad13, cp14, ad16, ad17, cp18, vs19, G20, hs⟩)
    ·exact fun L ac w ⟨ad13, cp14, ad16, ad17, cp18, vs19, G20, hs⟩ => pln (op_callV (F := 52) (ρ := Option Addr × Nat) hs (some 17) (some 3) (v := fun r => .slice r.1 ((flagL (decide (z4 < z6))).length) r.2) (E := fun r => [oW r.1 ((flagL (decide (z4 < z6))).length) r.2 5 (bcs (flagL (decide (z4 < z6))))]) (j := 1) rfl rfl rfl rfl (call52 _) (fun hs => flag_o (decide (z4 < z6)) _ _) (fun _ => rfl) (fun _ => rfl) rfl rfl fun ⟨ad13, cp14⟩ ac w hs => ⟨ad13, cp14, ad16, ad17, cp18, vs19, G20, hs⟩)
    ·exact fun L ac w ⟨ad13, cp14, ad16, ad17, cp18, vs19, G20, hs⟩ => pln (op_bsO hs (some 18) (some 4) (qs := [(0, .slice ad13 ((flagL (decide (z4 < z6))).length) cp14)]) (cs := [.slice ad13 ((flagL (decide (z4 < z6))).length) cp14]) rfl rfl rfl rfl underlying22 inf_slice_34 (by decide) (by decide) (fill_one _ _ rfl) rfl rfl rfl rfl fun ad16 ac w hs => ⟨ad13, cp14, ad16, ad17, cp18, vs19, G20, hs⟩)
    ·exact fun L ac w ⟨ad13, cp14, ad16, ad17, cp18, vs19, G20, hs⟩ => pln (op_callX (F := 38) (ρ := M1) hs (some 19) none [0] [0, 1, 2, 4, 3] (v := fun r => .tuple #[]) (S1 := [(true, oW ad8 ks2.length cp9 34 vs10), (true, oW aa js.length ca 34 us), (true, .bysO G (vs10 ++ us ++ xs) (ks2 ++ js ++ ts)), (true, oW ad16 1 1 34 ([.slice ad13 ((flagL (decide (z4 < z6))).length) cp14])), (true, oW ad13 ((flagL (decide (z4 < z6))).length) cp14 5 (bcs (flagL (decide (z4 < z6)))))]) (bs1 := [(true, gm, 61, [.slice ad8 ks2.length cp9, .slice aa js.length ca, ni64 e3])]) (E := fun r => [(true, oW r.a ((ks2 ++ [flagL (decide (z4 < z6))]).length) r.c 34 r.vs), (true, oW aa js.length ca 34 us), (true, .bysO r.G (r.vs ++ us ++ xs) ((ks2 ++ [flagL (decide (z4 < z6))]) ++ js ++ ts)), (true, cL ad16 1 1 ([.slice ad13 ((flagL (decide (z4 < z6))).length) cp14])), (true, cL ad13 ((flagL (decide (z4 < z6))).length) cp14 (bcs (flagL (decide (z4 < z6)))))]) (E1 := fun r => [(true, oW r.a ((ks2 ++ [flagL (decide (z4 < z6))]).length) r.c 34 r.vs), (true, oW aa js.length ca 34 us), (true, .bysO r.G (r.vs ++ us ++ xs) ((ks2 ++ [flagL (decide (z4 < z6))]) ++ js ++ ts)), (true, cL ad16 1 1 ([.slice ad13 ((flagL (decide (z4 < z6))).length) cp14])), (true, cL ad13 ((flagL (decide (z4 < z6))).length) cp14 (bcs (flagL (decide (z4 < z6)))))]) (E2 := fun r => []) (bfA := fun r => [(true, gm, 61, [.slice r.a ((ks2 ++ [flagL (decide (z4 < z6))]).length) r.c, .slice aa js.length ca, ni64 e3])]) (bf := fun r => [(true, gm, 61, [.slice r.a ((ks2 ++ [flagL (decide (z4 < z6))]).length) r.c, .slice aa js.length ca, ni64 e3])]) (bf2 := fun r => []) rfl rfl rfl rfl rfl (call38 _) rfl rfl (by decide) (by decide) (fun Z X hm => pushO_c gm ad8 cp9 vs10 aa ca us G xs ts ks2 js e3 ad16 1 ad13 cp14 (flagL (decide (z4 < z6))) (show (flagL (decide (z4 < z6))).length ≤ 8000 by omega) (oks2.mono (by decide)) ((flagL (decide (z4 < z6))).length) rfl _ _ _ hm) (fun _ => rfl) (fun _ => rfl) (fun _ => rfl) (fun _ => rfl) (fun _ => rfl) rfl fun ⟨ad17, cp18, vs19, G20⟩ ac w hs => ⟨ad13, cp14, ad16, ad17, cp18, vs19, G20, hs⟩)
   intro ac w ⟨ad13, cp14, ad16, ad17, cp18, vs19, G20, hs⟩
   try dsimp only [cond_true] at hs
   refine then_n (wp_seq (wp_region_lit (asg hs rfl rfl rfl fun ac hs => wpList_nil (then_n (wp_ret (then_r ?_))))))
   have HS := hs
   have h0 := hp
   unfold recL at h0
   rw [if_pos hp1, hks2] at h0
   dsimp only at h0
   rw [wth_yes hq12] at h0
   obtain ⟨hq, hk, he⟩ := inj3 h0
   subst hq
   subst hk
   subst he
   have hs := HS
   exact bodyPost_ret (res1 rfl (rv_t hs rfl)) hs.defers ⟨⟨ad17, cp18, vs19, G20⟩, rfl, ((hs.selS [0, 1, 2] rfl (by decide)).selB [0] rfl (by decide)).mem⟩
  replace hs := hs.nf w0 Z X [0, 1, 4, 5] rfl rfl rfl rfl
  have lad21 : (flagL false).length ≤ 1 := flagL_len _
  refine region_inv [([], [19]), ([], [2, 3, 7, 8, 9, 10, 11, 12, 13, 14, 15, 16, 17, 18, 19]), ([1], [3, 7, 8, 9, 10, 11, 12, 13, 14, 15, 16, 17, 18, 19]), ([1, 2], rgn 7 13), ([], rgn 5 15), ([4], rgn 6 14), ([4, 5], rgn 7 13), (rgn 1 6, rgn 8 12), (rgn 1 7, rgn 9 11), (rgn 1 8, [10, 11, 15, 16, 17, 18, 19]), (rgn 1 9, [11, 15, 16, 17, 18, 19]), (rgn 1 10, rgn 15 5), (rgn 1 8, rgn 13 7), ([1, 2, 3, 4, 5, 6, 7, 8, 12], rgn 14 6), ([1, 2, 3, 4, 5, 6, 7, 8, 12, 13], rgn 15 5), (rgn 1 14, rgn 16 4), (rgn 1 15, [17, 18, 19]), (rgn 1 16, [18, 19]), (rgn 1 17, [19]), (rgn 0 19, [])] (fun L ac w => ∃ (ad21 : Option Addr) (cp22 : Nat) (ad24 : Option Addr) (ad25 : Option Addr) (cp26 : Nat) (vs27 : List Value) (G28 : Nat → Prop), St 90 ⟨w0, [], [(true, cond (L 19) (oW ad25 ((ks2 ++ [flagL false]).length) cp26 34 vs27) (oW ad8 ks2.length cp9 34 vs10)), (true, oW aa js.length ca 34 us), (true, cond (L 19) (.bysO G28 (vs27 ++ us ++ xs) ((ks2 ++ [flagL false]) ++ js ++ ts)) (.bysO G (vs10 ++ us ++ xs) (ks2 ++ js ++ ts))), (L 17, cond (L 19) (cL ad21 ((flagL false).length) cp22 (bcs (flagL false))) (oW ad21 ((flagL false).length) cp22 5 (bcs (flagL false)))), (L 18, cond (L 19) (cL ad24 1 1 ([.slice ad21 ((flagL false).length) cp22])) (cond (L 18) (oW ad24 1 1 34 ([.slice ad21 ((flagL false).length) cp22])) (.bys [] [])))], Z, X⟩ [(19, L 0, ptA gm 0), (20, L 1, .slice (some ⟨g11, 0, none⟩) 3 3), (21, L 2, ptA g11 0), (22, L 3, .int .i64 z4), (23, L 4, .slice (some ⟨g11, 0, none⟩) 3 3), (24, L 5, ptA g11 1), (25, L 6, .int .i64 z5), (26, L 7, .bool false), (27, L 8, .bool false), (28, L 9, undef), (29, L 10, undef), (30, L 11, undef), (31, L 12, undef), (32, L 13, undef), (33, L 14, undef), (34, L 15, undef), (35, L 16, .bool false), (36, L 17, .slice ad21 ((flagL false).length) cp22), (37, L 18, .slice ad24 1 1), (38, L 19, .tuple #[]), (0, true, ptA gm 0), (1, true, nu8 op), (4, true, .bool false), (5, true, .slice (some ⟨g11, 0, none⟩) 3 3)] [(true, gm, 61, (cond (L 19) [.slice ad25 ((ks2 ++ [flagL false]).length) cp26, .slice aa js.length ca, ni64 e3] [.slice ad8 ks2.length cp9, .slice aa js.length ca, ni64 e3])), (true, g11, 2, [.int .i64 z4, .int .i64 z5, .int .i64 z6])] ac w) (by kernel_rfl) (by kernel_rfl) ?_ ?_ ?_
  ·exact ⟨none, 0, none, none, 0, [], noX, hs.drew.s4.s4.s4.s4.s4.padS.padS⟩
  ·refine ⟨?_, ?_, ?_, ?_, ?_, ?_, ?_, ?_, ?_, ?_, ?_, ?_, ?_, ?_, ?_, ?_, ?_, ?_, ?_, ?_, trivial⟩
   ·exact fun L ac w ⟨ad21, cp22, ad24, ad25, cp26, vs27, G28, hs⟩ => pln (omv hs 0 rfl rfl rfl fun ac hs => ⟨ad21, cp22, ad24, ad25, cp26, vs27, G28, hs⟩)
   ·exact fun L ac w ⟨ad21, cp22, ad24, ad25, cp26, vs27, G28, hs⟩ => pln (omv hs 1 rfl rfl rfl fun ac hs => ⟨ad21, cp22, ad24, ad25, cp26, vs27, G28, hs⟩)
   ·exact fun L ac w ⟨ad21, cp22, ad24, ad25, cp26, vs27, G28, hs⟩ => pln (op_idxS hs (some 2) (j := 0) rfl rfl rfl rfl underlying73 sizeOf2 (by decide) (off := 0) rfl rfl fun ac hs => ⟨ad21, cp22, ad24, ad25, cp26, vs27, G28, hs⟩)
   ·exact fun L ac w ⟨ad21, cp22, ad24, ad25, cp26, vs27, G28, hs⟩ => pln (oldd hs 3 1 (.int .i64 z4) isAgg2 sizeOf2 rfl rfl rfl rfl rfl fun ac hs => ⟨ad21, cp22, ad24, ad25, cp26, vs27, G28, hs⟩)
   ·exact fun L ac w ⟨ad21, cp22, ad24, ad25, cp26, vs27, G28, hs⟩ => pln (omv hs 4 rfl rfl rfl fun ac hs => ⟨ad21, cp22, ad24, ad25, cp26, vs27, G28, hs⟩)
   ·exact fun L ac w ⟨ad21, cp22, ad24, ad25, cp26, vs27, G28, hs⟩ => pln (op_idxS hs (some 5) (j := 1) rfl rfl rfl rfl underlying73 sizeOf2 (by decide) (off := 1) rfl rfl fun ac hs => ⟨ad21, cp22, ad24, ad25, cp26, vs27, G28, hs⟩)
   ·exact fun L ac w ⟨ad21, cp22, ad24, ad25, cp26, vs27, G28, hs⟩ => pln (oldd hs 6 1 (.int .i64 z5) isAgg2 sizeOf2 rfl rfl rfl rfl rfl fun ac hs => ⟨ad21, cp22, ad24, ad25, cp26, vs27, G28, hs⟩)
   ·exact fun L ac w ⟨ad21, cp22, ad24, ad25, cp26, vs27, G28, hs⟩ => pln (obn hs 7 (.bool false) rfl rfl rfl rfl (fun w => dF hq12 (bin_geqI w)) fun ac hs => ⟨ad21, cp22, ad24, ad25, cp26, vs27, G28, hs⟩)
   ·exact fun L ac w ⟨ad21, cp22, ad24, ad25, cp26, vs27, G28, hs⟩ => pln (omv hs 8 rfl rfl rfl fun ac hs => ⟨ad21, cp22, ad24, ad25, cp26, vs27, G28, hs⟩)
   ·intro L ac w ⟨ad21, cp22, ad24, ad25, cp26, vs27, G28, hs⟩
    refine wpO_out hs (some 9) rfl rfl (.inl rfl) rfl rfl fun ac hs => ?_
    exact ⟨ad21, cp22, ad24, ad25, cp26, vs27, G28, hs⟩
   ·intro L ac w ⟨ad21, cp22, ad24, ad25, cp26, vs27, G28, hs⟩
    refine wpO_out hs (some 10) rfl rfl (.inl rfl) rfl rfl fun ac hs => ?_
    exact ⟨ad21, cp22, ad24, ad25, cp26, vs27, G28, hs⟩
   ·intro L ac w ⟨ad21, cp22, ad24, ad25, cp26, vs27, G28, hs⟩
    refine wpO_out hs (some 11) rfl rfl (.inl rfl) rfl rfl fun ac hs => ?_
    exact ⟨ad21, cp22, ad24, ad25, cp26, vs27, G28, hs⟩
   ·intro L ac w ⟨ad21, cp22, ad24, ad25, cp26, vs27, G28, hs⟩
    refine wpO_out hs (some 12) rfl rfl (.inl rfl) rfl rfl fun ac hs => ?_
    exact ⟨ad21, cp22, ad24, ad25, cp26, vs27, G28, hs⟩
   ·intro L ac w ⟨ad21, cp22, ad24, ad25, cp26, vs27, G28, hs⟩
    refine wpO_out hs (some 13) rfl rfl (.inl rfl) rfl rfl fun ac hs => ?_
    exact ⟨ad21, cp22, ad24, ad25, cp26, vs27, G28, hs⟩
   ·intro L ac w ⟨ad21, cp22, ad24, ad25, cp26, vs27, G28, hs⟩
    refine wpO_out hs (some 14) rfl rfl (.inl rfl) rfl rfl fun ac hs => ?_
    exact ⟨ad21, cp22, ad24, ad25, cp26, vs27, G28, hs⟩
   ·intro L ac w ⟨ad21, cp22, ad24, ad25, cp26, vs27, G28, hs⟩
    refine wpO_out hs (some 15) rfl rfl (.inl rfl) rfl rfl fun ac hs => ?_
    exact ⟨ad21, cp22, ad24, ad25, cp26, vs27, G28, hs⟩
   ·exact fun L ac w ⟨ad21, cp22, ad24, ad25, cp26, vs27, G28, hs⟩ => pln (op_pickF hs (some 16) rfl rfl rfl rfl rfl fun ac hs => ⟨ad21, cp22, ad24, ad25, cp26, vs27, G28, hs⟩)
   ·exact fun L ac w ⟨ad21, cp22, ad24, ad25, cp26, vs27, G28, hs⟩ => pln (op_callV (F := 52) (ρ := Option Addr × Nat) hs (some 17) (some 3) (v := fun r => .slice r.1 ((flagL false).length) r.2) (E := fun r => [oW r.1 ((flagL false).length) r.2 5 (bcs (flagL false))]) (j := 1) rfl rfl rfl rfl (call52 _) (fun hs => flag_o false _ _) (fun _ => rfl) (fun _ => rfl) rfl rfl fun ⟨ad21, cp22⟩ ac w hs => ⟨ad21, cp22, ad24, ad25, cp26, vs27, G28, hs⟩)
   ·exact fun L ac w ⟨ad21, cp22, ad24, ad25, cp26, vs27, G28, hs⟩ => pln (op_bsO hs (some 18) (some 4) (qs := [(0, .slice ad21 ((flagL false).length) cp22)]) (cs := [.slice ad21 ((flagL false).length) cp22]) rfl rfl rfl rfl underlying22 inf_slice_34 (by decide) (by decide) (fill_one _ _ rfl) rfl rfl rfl rfl fun ad24 ac w hs => ⟨ad21, cp22, ad24, ad25, cp26, vs27, G28, hs⟩)
   ·exact fun L ac w ⟨ad21, cp22, ad24, ad25, cp26, vs27, G28, hs⟩ => pln (op_callX (F := 38) (ρ := M1) hs (some 19) none [0] [0, 1, 2, 4, 3] (v := fun r => .tuple #[]) (S1 := [(true, oW ad8 ks2.length cp9 34 vs10), (true, oW aa js.length ca 34 us), (true, .bysO G (vs10 ++ us ++ xs) (ks2 ++ js ++ ts)), (true, oW ad24 1 1 34 ([.slice ad21 ((flagL false).length) cp22])), (true, oW ad21 ((flagL false).length) cp22 5 (bcs (flagL false)))]) (bs1 := [(true, gm, 61, [.slice ad8 ks2.length cp9, .slice aa js.length ca, ni64 e3])]) (E := fun r => [(true, oW r.a ((ks2 ++ [flagL false]).length) r.c 34 r.vs), (true, oW aa js.length ca 34 us), (true, .bysO r.G (r.vs ++ us ++ xs) ((ks2 ++ [flagL false]) ++ js ++ ts)), (true, cL ad24 1 1 ([.slice ad21 ((flagL false).length) cp22])), (true, cL ad21 ((flagL false).length) cp22 (bcs (flagL false)))]) (E1 := fun r => [(true, oW r.a ((ks2 ++ [flagL false]).length) r.c 34 r.vs), (true, oW aa js.length ca 34 us), (true, .bysO r.G (r.vs ++ us ++ xs) ((ks2 ++ [flagL false]) ++ js ++ ts)), (true, cL ad24 1 1 ([.slice ad21 ((flagL false).length) cp22])), (true, cL ad21 ((flagL false).length) cp22 (bcs (flagL false)))]) (E2 := fun r => []) (bfA := fun r => [(true, gm, 61, [.slice r.a ((ks2 ++ [flagL false]).length) r.c, .slice aa js.length ca, ni64 e3])]) (bf := fun r => [(true, gm, 61, [.slice r.a ((ks2 ++ [flagL false]).length) r.c, .slice aa js.length ca, ni64 e3])]) (bf2 := fun r => []) rfl rfl rfl rfl rfl (call38 _) rfl rfl (by decide) (by decide) (fun Z X hm => pushO_c gm ad8 cp9 vs10 aa ca us G xs ts ks2 js e3 ad24 1 ad21 cp22 (flagL false) (show (flagL false).length ≤ 8000 by omega) (oks2.mono (by decide)) ((flagL false).length) rfl _ _ _ hm) (fun _ => rfl) (fun _ => rfl) (fun _ => rfl) (fun _ => rfl) (fun _ => rfl) rfl fun ⟨ad25, cp26, vs27, G28⟩ ac w hs => ⟨ad21, cp22, ad24, ad25, cp26, vs27, G28, hs⟩)
  intro ac w ⟨ad21, cp22, ad24, ad25, cp26, vs27, G28, hs⟩
  try dsimp only [cond_true] at hs
  refine then_n (wp_seq (wp_region_lit (asg hs rfl rfl rfl fun ac hs => wpList_nil (then_n (wp_ret (then_r ?_))))))
  have HS := hs
  have h0 := hp
  unfold recL at h0
  rw [if_pos hp1, hks2] at h0
  dsimp only at h0
  rw [wth_no hq12] at h0
  obtain ⟨hq, hk, he⟩ := inj3 h0
  subst hq
  subst hk
  subst he
  have hs := HS
  exact bodyPost_ret (res1 rfl (rv_t hs rfl)) hs.defers ⟨⟨ad25, cp26, vs27, G28⟩, rfl, ((hs.selS [0, 1, 2] rfl (by decide)).selB [0] rfl (by decide)).mem⟩
 intro hc
 have hp29 := of_decide_eq_false hc
 refine wp_skip (then_n (wp_seq (wp_seq (wp_region_lit (mvv hs rfl rfl rfl fun ac hs => ?_)))))
 obtain ⟨z30, q31, hz30⟩ := ex2 (unL op 0)
 have bz30 := unL_bd (show -2147483648 < 0 ∧ 0 < 2147483648 by omega) hz30
 refine stp (op_call (F := 58) hs none (v := .tuple #[.int .i64 z30, .bool q31]) rfl rfl rfl rfl (call58 _) (unary_c op 0 z30 q31 (show -2147483648 < 0 ∧ 0 < 2147483648 by omega) hz30) rfl fun ac w hs => mvv hs rfl rfl rfl fun ac hs => stp (xtr hs none rfl rfl rfl rfl rfl fun ac hs => stp (xtr hs none rfl rfl rfl rfl rfl fun ac hs => asg hs rfl rfl rfl fun ac hs => asg hs rfl rfl rfl fun ac hs => wpList_nil (then_n (wp_seq ?_)))))
 replace hs := hs.nf w0 Z X [0, 1, 4, 7] rfl rfl rfl rfl
 refine wp_region_lit (mvv hs rfl rfl rfl fun ac hs => wpList_nil (then_n (wcs hs rfl ?_ ?_)))
 ·intro hc
  have hcu := hc
  refine wp_seq (wp_region_lit (mvv hs rfl rfl rfl fun ac hs => mvv hs rfl rfl rfl fun ac hs => ?_))
  obtain ⟨zs35, ks32, e33, hks32⟩ := ex3 (opsL 1 ks er)
  obtain ⟨oks32, lzs35, bzs35⟩ := ops_ok ok hks32
  obtain ⟨z34, rfl⟩ := len1 lzs35
  have bz34 := bzs35 z34 (by simp)
  refine stp (op_callX (F := 57) (ρ := M1o) hs none none [0] [0, 1, 2] (v := fun r => .slice (some ⟨r.o, 0, none⟩) 1 1) (S1 := [(true, oW am ks.length cm 34 vs), (true, oW aa js.length ca 34 us), (true, .bysO G (vs ++ us ++ xs) (ks ++ js ++ ts))]) (bs1 := [(true, gm, 61, [.slice am ks.length cm, .slice aa js.length ca, ni64 er])]) (E := fun r => [(true, oW r.a ks32.length r.c 34 r.vs), (true, oW aa js.length ca 34 us), (true, .bysO G (r.vs ++ us ++ xs) (ks32 ++ js ++ ts))]) (E1 := fun r => [(true, oW r.a ks32.length r.c 34 r.vs), (true, oW aa js.length ca 34 us), (true, .bysO G (r.vs ++ us ++ xs) (ks32 ++ js ++ ts))]) (E2 := fun r => []) (bfA := fun r => [(true, gm, 61, [.slice r.a ks32.length r.c, .slice aa js.length ca, ni64 e33]), (true, r.o, 2, [.int .i64 z34])]) (bf := fun r => [(true, gm, 61, [.slice r.a ks32.length r.c, .slice aa js.length ca, ni64 e33])]) (bf2 := fun r => [(true, r.o, 2, [.int .i64 z34])]) rfl rfl rfl rfl rfl (call57 _) rfl rfl (by decide) (by decide) (fun Z X hm => ops1_c gm am cm vs aa ca us G xs ts ks js er z34 ks32 e33 (ok.mono (by decide)) hks32 _ _ _ hm) (fun _ => rfl) (fun _ => rfl) (fun _ => rfl) (fun _ => rfl) (fun _ => rfl) rfl fun ⟨ad36, cp37, vs38, g39⟩ ac w hs => stp (op_idxS hs none (j := 0) rfl rfl rfl rfl underlying73 sizeOf2 (by decide) (off := 0) rfl rfl fun ac hs => ldd hs 1 (.int .i64 z34) isAgg2 sizeOf2 rfl rfl rfl rfl rfl fun ac hs => ?_))
  obtain ⟨z40, q41, hz40⟩ := ex2 (unL op z34)
  have bz40 := unL_bd (show -2147483648 < z34 ∧ z34 < 2147483648 by omega) hz40
  refine stp (op_call (F := 58) hs none (v := .tuple #[.int .i64 z40, .bool q41]) rfl rfl rfl rfl (call58 _) (unary_c op z34 z40 q41 (show -2147483648 < z34 ∧ z34 < 2147483648 by omega) hz40) rfl fun ac w hs => mvv hs rfl rfl rfl fun ac hs => stp (xtr hs none rfl rfl rfl rfl rfl fun ac hs => stp (xtr hs none rfl rfl rfl rfl rfl fun ac hs => asg hs rfl rfl rfl fun ac hs => asg hs rfl rfl rfl fun ac hs => wpList_nil (then_n (wp_seq ?_)))))
  replace hs := hs.nf w0 Z X [0, 1, 4, 8] rfl rfl rfl rfl
  refine wp_region_lit (mvv hs rfl rfl rfl fun ac hs => mvv hs rfl rfl rfl fun ac hs => ?_)
  have lad42 : (enc z40).length ≤ 9 := enc_len (show -9223372036854775808 ≤ z40 by omega) (show z40 < 9223372036854775808 by omega)
  refine stp (op_callV (F := 50) (ρ := Option Addr × Nat) hs none none (v := fun r => .slice r.1 ((enc z40).length) r.2) (E := fun r => [oW r.1 ((enc z40).length) r.2 5 (bcs (enc z40))]) (j := 1) rfl rfl rfl rfl (call50 _) (fun hs => enc_o z40 (show -9223372036854775808 ≤ z40 by omega) (show z40 < 9223372036854775808 by omega) _ _) (fun _ => rfl) (fun _ => rfl) rfl rfl fun ⟨ad42, cp43⟩ ac w hs => stp (op_bsO hs none none (qs := [(0, .slice ad42 ((enc z40).length) cp43)]) (cs := [.slice ad42 ((enc z40).length) cp43]) rfl rfl rfl rfl underlying22 inf_slice_34 (by decide) (by decide) (fill_one _ _ rfl) rfl rfl rfl rfl fun ad45 ac w hs => ?_))
  replace hs := hs.freeze 4 rfl
  replace hs := hs.freeze 3 rfl
  refine stp (op_callX (F := 38) (ρ := M1) hs none none [0] [0, 1, 2, 4, 3] (v := fun r => .tuple #[]) (S1 := [(true, oW ad36 ks32.length cp37 34 vs38), (true, oW aa js.length ca 34 us), (true, .bysO G (vs38 ++ us ++ xs) (ks32 ++ js ++ ts)), (true, cL ad45 1 1 ([.slice ad42 ((enc z40).length) cp43])), (true, cL ad42 ((enc z40).length) cp43 (bcs (enc z40)))]) (bs1 := [(true, gm, 61, [.slice ad36 ks32.length cp37, .slice aa js.length ca, ni64 e33])]) (E := fun r => [(true, oW r.a ((ks32 ++ [enc z40]).length) r.c 34 r.vs), (true, oW aa js.length ca 34 us), (true, .bysO r.G (r.vs ++ us ++ xs) ((ks32 ++ [enc z40]) ++ js ++ ts)), (true, cL ad45 1 1 ([.slice ad42 ((enc z40).length) cp43])), (true, cL ad42 ((enc z40).length) cp43 (bcs (enc z40)))]) (E1 := fun r => [(true, oW r.a ((ks32 ++ [enc z40]).length) r.c 34 r.vs), (true, oW aa js.length ca 34 us), (true, .bysO r.G (r.vs ++ us ++ xs) ((ks32 ++ [enc z40]) ++ js ++ ts)), (true, cL ad45 1 1 ([.slice ad42 ((enc z40).length) cp43])), (true, cL ad42 ((enc z40).length) cp43 (bcs (enc z40)))]) (E2 := fun r => []) (bfA := fun r => [(true, gm, 61, [.slice r.a ((ks32 ++ [enc z40]).length) r.c, .slice aa js.length ca, ni64 e33])]) (bf := fun r => [(true, gm, 61, [.slice r.a ((ks32 ++ [enc z40]).length) r.c, .slice aa js.length ca, ni64 e33])]) (bf2 := fun r => []) rfl rfl rfl rfl rfl (call38 _) rfl rfl (by decide) (by decide) (fun Z X hm => pushC_c gm ad36 cp37 vs38 aa ca us G xs ts ks32 js e33 ad45 1 ad42 cp43 (enc z40) (show (enc z40).length ≤ 8000 by omega) (oks32.mono (by decide)) ((enc z40).length) rfl _ _ _ hm) (fun _ => rfl) (fun _ => rfl) (fun _ => rfl) (fun _ => rfl) (fun _ => rfl) rfl fun ⟨ad46, cp47, vs48, G49⟩ ac w hs => wpList_nil (then_n (wp_seq (wp_region_lit (asg hs rfl rfl rfl fun ac hs => wpList_nil (then_n (wp_ret (then_r ?_))))))))
  have HS := hs
  have h0 := hp
  unfold recL at h0
  rw [if_neg hp29] at h0
  simp only [hz30, if_pos hcu] at h0
  rw [hks32] at h0
  simp only [List.getD_cons_zero, hz40] at h0
  obtain ⟨hq, hk, he⟩ := inj3 h0
  subst hq
  subst hk
  subst he
  have hs := HS
  exact bodyPost_ret (res1 rfl (rv_t hs rfl)) hs.defers ⟨⟨ad46, cp47, vs48, G49⟩, rfl, ((hs.selS [0, 1, 2] rfl (by decide)).selB [0] rfl (by decide)).mem⟩
 intro hc
 have hcu : ¬ q31 = true := by simpa using hc
 refine wp_skip (then_n (wp_seq (wp_seq (wp_region_lit (mvv hs rfl rfl rfl fun ac hs => ?_)))))
 obtain ⟨z50, q51, hz50⟩ := ex2 (binL op 0 0)
 have bz50 := binL_bd (show -2147483648 < 0 ∧ 0 < 2147483648 by omega) (show -2147483648 < 0 ∧ 0 < 2147483648 by omega) hz50
 refine stp (op_call (F := 59) hs none (v := .tuple #[.int .i64 z50, .bool q51]) rfl rfl rfl rfl (call59 _) (binary_c op 0 0 z50 q51 (show -2147483648 < 0 ∧ 0 < 2147483648 by omega) (show -2147483648 < 0 ∧ 0 < 2147483648 by omega) hz50) rfl fun ac w hs => mvv hs rfl rfl rfl fun ac hs => stp (xtr hs none rfl rfl rfl rfl rfl fun ac hs => stp (xtr hs none rfl rfl rfl rfl rfl fun ac hs => asg hs rfl rfl rfl fun ac hs => asg hs rfl rfl rfl fun ac hs => wpList_nil (then_n (wp_seq ?_)))))
 replace hs := hs.nf w0 Z X [0, 1, 4, 11] rfl rfl rfl rfl
 refine wp_region_lit (mvv hs rfl rfl rfl fun ac hs => stp (op_un hs none (v := .bool (!q51)) rfl rfl rfl (fun _ => rfl) rfl fun ac hs => wpList_nil (then_n (wcs hs rfl ?_ ?_))))
 ·intro hc
  have hcb : q51 = false := by simpa using hc
  refine wp_seq (wp_region_lit (asg hs rfl rfl rfl fun ac hs => wpList_nil (then_n (wp_ret (then_r ?_)))))
  have HS := hs
  have h0 := hp
  unfold recL at h0
  rw [if_neg hp29] at h0
  simp only [hz30, if_neg hcu] at h0
  simp only [hz50, if_pos hcb] at h0
  obtain ⟨hq, hk, he⟩ := inj3 h0
  subst hq
  subst hk
  subst he
  have hs := HS
  exact bodyPost_ret (res1 rfl (rv_t hs rfl)) hs.defers ⟨⟨am, cm, vs, G⟩, rfl, ((hs.selS [0, 1, 2] rfl (by decide)).selB [0] rfl (by decide)).mem⟩
 intro hc
 have hcb : ¬ q51 = false := by simpa using hc
 refine wp_skip (then_n (wp_seq (wp_region_lit (mvv hs rfl rfl rfl fun ac hs => ?_))))
 obtain ⟨zs56, ks52, e53, hks52⟩ := ex3 (opsL 2 ks er)
 obtain ⟨oks52, lzs56, bzs56⟩ := ops_ok ok hks52
 obtain ⟨z54, z55, rfl⟩ := len2 lzs56
 have bz54 := bzs56 z54 (by simp)
 have bz55 := bzs56 z55 (by simp)
 refine stp (op_callX (F := 57) (ρ := M1o) hs none none [0] [0, 1, 2] (v := fun r => .slice (some ⟨r.o, 0, none⟩) 2 2) (S1 := [(true, oW am ks.length cm 34 vs), (true, oW aa js.length ca 34 us), (true, .bysO G (vs ++ us ++ xs) (ks ++ js ++ ts))]) (bs1 := [(true, gm, 61, [.slice am ks.length cm, .slice aa js.length ca, ni64 er])]) (E := fun r => [(true, oW r.a ks52.length r.c 34 r.vs), (true, oW aa js.length ca 34 us), (true, .bysO G (r.vs ++ us ++ xs) (ks52 ++ js ++ ts))]) (E1 := fun r => [(true, oW r.a ks52.length r.c 34 r.vs), (true, oW aa js.length ca 34 us), (true, .bysO G (r.vs ++ us ++ xs) (ks52 ++ js ++ ts))]) (E2 := fun r => []) (bfA := fun r => [(true, gm, 61, [.slice r.a ks52.length r.c, .slice aa js.length ca, ni64 e53]), (true, r.o, 2, [.int .i64 z54, .int .i64 z55])]) (bf := fun r => [(true, gm, 61, [.slice r.a ks52.length r.c, .slice aa js.length ca, ni64 e53])]) (bf2 := fun r => [(true, r.o, 2, [.int .i64 z54, .int .i64 z55])]) rfl rfl rfl rfl rfl (call57 _) rfl rfl (by decide) (by decide) (fun Z X hm => ops2_c gm am cm vs aa ca us G xs ts ks js er z54 z55 ks52 e53 (ok.mono (by decide)) hks52 _ _ _ hm) (fun _ => rfl) (fun _ => rfl) (fun _ => rfl) (fun _ => rfl) (fun _ => rfl) rfl fun ⟨ad57, cp58, vs59, g60⟩ ac w hs => asg hs rfl rfl rfl fun ac hs => wpList_nil (then_n (wp_seq ?_)))
 replace hs := hs.nf w0 Z X [0, 1, 4, 12] rfl rfl rfl rfl
 obtain ⟨z61, q62, hz61⟩ := ex2 (binL op z54 z55)
 have bz61 := binL_bd (show -2147483648 < z54 ∧ z54 < 2147483648 by omega) (show -2147483648 < z55 ∧ z55 < 2147483648 by omega) hz61
 refine region_inv [([], rgn 7 6), ([], [2, 3, 7, 8, 9, 10, 11, 12]), ([1], [3, 7, 8, 9, 10, 11, 12]), ([1, 2], rgn 7 6), ([], rgn 5 8), ([4], rgn 6 7), ([4, 5], rgn 7 6), (rgn 0 7, rgn 8 5), (rgn 0 8, rgn 9 4), (rgn 0 9, [11, 12]), (rgn 0 9, [12]), (rgn 0 10, [12]), (rgn 0 12, [])] (fun L ac w => St 90 ⟨w0, [], [(true, oW ad57 ks52.length cp58 34 vs59), (true, oW aa js.length ca 34 us), (true, .bysO G (vs59 ++ us ++ xs) (ks52 ++ js ++ ts))], Z, X⟩ [(69, L 0, nu8 op), (70, L 1, .slice (some ⟨g60, 0, none⟩) 2 2), (71, L 2, ptA g60 0), (72, L 3, .int .i64 z54), (73, L 4, .slice (some ⟨g60, 0, none⟩) 2 2), (74, L 5, ptA g60 1), (75, L 6, .int .i64 z55), (76, L 7, .tuple #[.int .i64 z61, .bool q62]), (68, L 8, .tuple #[.int .i64 z61, .bool q62]), (77, L 9, .int .i64 z61), (78, L 10, .bool q62), (13, L 11, .int .i64 z61), (14, L 12, .bool q62), (0, true, ptA gm 0), (1, true, nu8 op), (4, true, .bool false), (12, true, .slice (some ⟨g60, 0, none⟩) 2 2)] [(true, gm, 61, [.slice ad57 ks52.length cp58, .slice aa js.length ca, ni64 e53]), (true, g60, 2, [.int .i64 z54, .int .i64 z55])] ac w) (by kernel_rfl) (by kernel_rfl) ?_ ?_ ?_
 ·exact hs.drew.s4.s4.s4.skip
 ·refine ⟨?_, ?_, ?_, ?_, ?_, ?_, ?_, ?_, ?_, ?_, ?_, ?_, ?_, trivial⟩
  ·exact fun L ac w hs => pln (omv hs 0 rfl rfl rfl fun ac hs => hs)
  ·exact fun L ac w hs => pln (omv hs 1 rfl rfl rfl fun ac hs => hs)
  ·exact fun L ac w hs => pln (op_idxS hs (some 2) (j := 0) rfl rfl rfl rfl underlying73 sizeOf2 (by decide) (off := 0) rfl rfl fun ac hs => hs)
  ·exact fun L ac w hs => pln (oldd hs 3 1 (.int .i64 z54) isAgg2 sizeOf2 rfl rfl rfl rfl rfl fun ac hs => hs)
  ·exact fun L ac w hs => pln (omv hs 4 rfl rfl rfl fun ac hs => hs)
  ·exact fun L ac w hs => pln (op_idxS hs (some 5) (j := 1) rfl rfl rfl rfl underlying73 sizeOf2 (by decide) (off := 1) rfl rfl fun ac hs => hs)
  ·exact fun L ac w hs => pln (oldd hs 6 1 (.int .i64 z55) isAgg2 sizeOf2 rfl rfl rfl rfl rfl fun ac hs => hs)
  ·exact fun L ac w hs => pln (op_call (F := 59) hs (some 7) (v := .tuple #[.int .i64 z61, .bool q62]) rfl rfl rfl rfl (call59 _) (binary_c op z54 z55 z61 q62 (show -2147483648 < z54 ∧ z54 < 2147483648 by omega) (show -2147483648 < z55 ∧ z55 < 2147483648 by omega) hz61) rfl fun ac w hs => hs)
  ·exact fun L ac w hs => pln (omv hs 8 rfl rfl rfl fun ac hs => hs)
  ·exact fun L ac w hs => pln (xtr hs (some 9) rfl rfl rfl rfl rfl fun ac hs => hs)
  ·exact fun L ac w hs => pln (xtr hs (some 10) rfl rfl rfl rfl rfl fun ac hs => hs)
  ·exact fun L ac w hs => pln (oas hs 11 rfl rfl rfl fun ac hs => hs)
  ·exact fun L ac w hs => pln (oas hs 12 rfl rfl rfl fun ac hs => hs)
 intro ac w hs
 try dsimp only [cond_true] at hs
 refine then_n (wp_seq (wp_seq (wp_region_lit (mvv hs rfl rfl rfl fun ac hs => bnn hs (.bool (decide (op = 157))) rfl rfl rfl rfl (bin_eqlN (y := 157)) fun ac hs => wpList_nil (then_n (wcs hs rfl ?_ ?_))))))
 ·intro hc
  have hp63 := of_decide_eq_true hc
  refine wp_seq (wp_region_lit (mvv hs rfl rfl rfl fun ac hs => mvv hs rfl rfl rfl fun ac hs => bnn hs (.bool (decide (z61 ≠ 0))) rfl rfl rfl rfl (bin_neqI (y := 0)) fun ac hs => ?_))
  obtain ⟨e64, he64⟩ := ex1 (mustE (decide (z61 ≠ 0)) e53)
  refine stp (op_callX (F := 46) (ρ := Unit) hs none none [0] [] (v := fun r => .tuple #[]) (S1 := []) (bs1 := [(true, gm, 61, [.slice ad57 ks52.length cp58, .slice aa js.length ca, ni64 e53])]) (E := fun r => []) (E1 := fun r => []) (E2 := fun r => []) (bfA := fun r => [(true, gm, 61, [.slice ad57 ks52.length cp58, .slice aa js.length ca, ni64 e64])]) (bf := fun r => [(true, gm, 61, [.slice ad57 ks52.length cp58, .slice aa js.length ca, ni64 e64])]) (bf2 := fun r => []) rfl rfl rfl rfl rfl (call46 _) rfl rfl (by decide) (by decide) (fun Z X hm => must_c gm (.slice ad57 ks52.length cp58) (.slice aa js.length ca) e53 (decide (z61 ≠ 0)) e64 he64 _ _ _ hm) (fun _ => rfl) (fun _ => rfl) (fun _ => rfl) (fun _ => rfl) (fun _ => rfl) rfl fun _ ac w hs => wpList_nil (then_n (wp_seq ?_)))
  replace hs := hs.nf w0 Z X [0, 4, 13] rfl rfl rfl rfl
  refine wp_region_lit (asg hs rfl rfl rfl fun ac hs => wpList_nil (then_n (wp_ret (then_r ?_))))
  have HS := hs
  have h0 := hp
  unfold recL at h0
  rw [if_neg hp29] at h0
  simp only [hz30, if_neg hcu] at h0
  simp only [hz50, if_neg hcb] at h0
  rw [if_pos hp63, hks52] at h0
  simp only [List.getD_cons_zero, List.getD_cons_succ, hz61] at h0
  rw [he64] at h0
  obtain ⟨hq, hk, he⟩ := inj3 h0
  subst hq
  subst hk
  subst he
  have hs := HS
  exact bodyPost_ret (res1 rfl (rv_t hs rfl)) hs.defers ⟨⟨ad57, cp58, vs59, G⟩, rfl, ((hs.selS [0, 1, 2] rfl (by decide)).selB [0] rfl (by decide)).mem⟩
 intro hc
 have hp65 := of_decide_eq_false hc
 refine wp_skip (then_n (wp_seq (wp_region_lit (mvv hs rfl rfl rfl fun ac hs => mvv hs rfl rfl rfl fun ac hs => ?_))))
 have lad66 : (enc z61).length ≤ 9 := enc_len (show -9223372036854775808 ≤ z61 by omega) (show z61 < 9223372036854775808 by omega)
 refine stp (op_callV (F := 50) (ρ := Option Addr × Nat) hs none none (v := fun r => .slice r.1 ((enc z61).length) r.2) (E := fun r => [oW r.1 ((enc z61).length) r.2 5 (bcs (enc z61))]) (j := 1) rfl rfl rfl rfl (call50 _) (fun hs => enc_o z61 (show -9223372036854775808 ≤ z61 by omega) (show z61 < 9223372036854775808 by omega) _ _) (fun _ => rfl) (fun _ => rfl) rfl rfl fun ⟨ad66, cp67⟩ ac w hs => stp (op_bsO hs none none (qs := [(0, .slice ad66 ((enc z61).length) cp67)]) (cs := [.slice ad66 ((enc z61).length) cp67]) rfl rfl rfl rfl underlying22 inf_slice_34 (by decide) (by decide) (fill_one _ _ rfl) rfl rfl rfl rfl fun ad69 ac w hs => ?_))
 replace hs := hs.freeze 4 rfl
 replace hs := hs.freeze 3 rfl
 refine stp (op_callX (F := 38) (ρ := M1) hs none none [0] [0, 1, 2, 4, 3] (v := fun r => .tuple #[]) (S1 := [(true, oW ad57 ks52.length cp58 34 vs59), (true, oW aa js.length ca 34 us), (true, .bysO G (vs59 ++ us ++ xs) (ks52 ++ js ++ ts)), (true, cL ad69 1 1 ([.slice ad66 ((enc z61).length) cp67])), (true, cL ad66 ((enc z61).length) cp67 (bcs (enc z61)))]) (bs1 := [(true, gm, 61, [.slice ad57 ks52.length cp58, .slice aa js.length ca, ni64 e53])]) (E := fun r => [(true, oW r.a ((ks52 ++ [enc z61]).length) r.c 34 r.vs), (true, oW aa js.length ca 34 us), (true, .bysO r.G (r.vs ++ us ++ xs) ((ks52 ++ [enc z61]) ++ js ++ ts)), (true, cL ad69 1 1 ([.slice ad66 ((enc z61).length) cp67])), (true, cL ad66 ((enc z61).length) cp67 (bcs (enc z61)))]) (E1 := fun r => [(true, oW r.a ((ks52 ++ [enc z61]).length) r.c 34 r.vs), (true, oW aa js.length ca 34 us), (true, .bysO r.G (r.vs ++ us ++ xs) ((ks52 ++ [enc z61]) ++ js ++ ts)), (true, cL ad69 1 1 ([.slice ad66 ((enc z61).length) cp67])), (true, cL ad66 ((enc z61).length) cp67 (bcs (enc z61)))]) (E2 := fun r => []) (bfA := fun r => [(true, gm, 61, [.slice r.a ((ks52 ++ [enc z61]).length) r.c, .slice aa js.length ca, ni64 e53])]) (bf := fun r => [(true, gm, 61, [.slice r.a ((ks52 ++ [enc z61]).length) r.c, .slice aa js.length ca, ni64 e53])]) (bf2 := fun r => []) rfl rfl rfl rfl rfl (call38 _) rfl rfl (by decide) (by decide) (fun Z X hm => pushC_c gm ad57 cp58 vs59 aa ca us G xs ts ks52 js e53 ad69 1 ad66 cp67 (enc z61) (show (enc z61).length ≤ 8000 by omega) (oks52.mono (by decide)) ((enc z61).length) rfl _ _ _ hm) (fun _ => rfl) (fun _ => rfl) (fun _ => rfl) (fun _ => rfl) (fun _ => rfl) rfl fun ⟨ad70, cp71, vs72, G73⟩ ac w hs => wpList_nil (then_n (wp_seq ?_)))
 replace hs := hs.nf w0 Z X [4] rfl rfl rfl rfl
 refine wp_region_lit (asg hs rfl rfl rfl fun ac hs => wpList_nil (then_n (wp_ret ?_)))
 have HS := hs
 have h0 := hp
 unfold recL at h0
 rw [if_neg hp29] at h0
 simp only [hz30, if_neg hcu] at h0
 simp only [hz50, if_neg hcb] at h0
 rw [if_neg hp65, hks52] at h0
 simp only [List.getD_cons_zero, List.getD_cons_succ, hz61] at h0
 obtain ⟨hq, hk, he⟩ := inj3 h0
 subst hq
 subst hk
 subst he
 have hs := HS
 exact bodyPost_ret (res1 rfl (rv_t hs rfl)) hs.defers ⟨⟨ad70, cp71, vs72, G73⟩, rfl, ((hs.selS [0, 1, 2] rfl (by decide)).selB [0] rfl (by decide)).mem⟩
end Go.Proofs.Ytikkhkjndbicgaa

/- Stacks: the functions that all layers call. -/
namespace Go.Proofs.Ytikkhkjndbicgaa
open Go.RowKit _root_.Go.Proofs.Try
set_option maxRecDepth 10000
set_option maxHeartbeats 1000000
theorem load_c (am : Option Addr) (cm : Nat) (vs : List Value) (aa : Option Addr) (ca : Nat) (us : List Value) (ks js : BL)  (ok : OkN 8000 ks) (oj : OkN 8000 js)  (w0 : World) (Z X : Nat → Prop) (hm : Mem ⟨w0, [], [(true, cL am ks.length cm vs), (true, .bys vs ks), (true, cL aa js.length ca us), (true, .bys us js)], Z, X⟩ [] w0) : Calls prog 26 #[.agg #[.slice am ks.length cm, .slice aa js.length ca]] w0 fun e w' => PostX w0 Z X (ρ := M2g) (fun r => .pointer (some ⟨r.o, 0, none⟩)) (fun r => [(true, r.o, 61, [.slice r.a ks.length r.c, .slice r.b js.length r.d, ni64 0])]) (fun r => [(true, cL am ks.length cm vs), (true, .bys vs ks), (true, cL aa js.length ca us), (true, .bys us js), (true, oW r.a ks.length r.c 34 r.vs), (true, oW r.b js.length r.d 34 r.us), (true, .bysO r.G (r.vs ++ r.us ++ []) (ks ++ js ++ []))]) e w' := by
 have hk8 : ks.length ≤ 8000 := ok.1
 have hj8 : js.length ≤ 8000 := oj.1
 refine enterX (n := 11) (args := [.agg #[.slice am ks.length cm, .slice aa js.length ca]]) func26 rfl rfl (Nat.le_of_ble_eq_true rfl) hm fun ac hs => wp_seq (wp_region_lit (stp (op_box hs none none (cs := [.slice am ks.length cm, .slice aa js.length ca]) rfl rfl rfl rfl rfl rfl fun g1 ac w hs => asg hs rfl rfl rfl fun ac hs => wpList_nil (then_n (wp_seq ?_)))))
 replace hs := hs.nf w0 Z X [1, 2] rfl rfl rfl rfl
 refine region_inv [([], [1, 2, 5, 6, 7, 8]), ([0], [2, 5, 6, 7, 8]), ([0, 1], rgn 5 4), ([], rgn 4 5), ([3], rgn 5 4), (rgn 0 5, [6, 7, 8]), (rgn 0 6, [7, 8]), (rgn 0 7, [8]), (rgn 0 8, [])] (fun L ac w => ∃ (g10 : Nat) (ad2 : Option Addr) (cp3 : Nat) (us4 : List Value) (G5 : Nat → Prop) (ad6 : Option Addr) (cp7 : Nat) (us8 : List Value) (G9 : Nat → Prop), St 11 ⟨w0, [], [(true, cL am ks.length cm vs), (true, .bys vs ks), (true, cL aa js.length ca us), (true, .bys us js), (L 2, oW ad2 ks.length cp3 34 us4), (L 2, .bysO G5 us4 ks), (L 5, oW ad6 js.length cp7 34 us8), (L 5, .bysO G9 us8 js)], Z, X⟩ [(3, L 0, ptA g1 0), (4, L 1, .slice am ks.length cm), (5, L 2, .slice ad2 ks.length cp3), (6, L 3, ptA g1 1), (7, L 4, .slice aa js.length ca), (8, L 5, .slice ad6 js.length cp7), (9, L 6, cond (L 6) (.agg #[.slice ad2 ks.length cp3, .slice ad6 js.length cp7, .int .i64 0]) undef), (10, L 7, ptA g10 0), (2, L 8, cond (L 8) (ptA g10 0) undef), (1, true, ptA g1 0), (2, true, .pointer none)] [(true, g1, 24, [.slice am ks.length cm, .slice aa js.length ca]), (L 7, g10, 61, (cond (L 7) [.slice ad2 ks.length cp3, .slice ad6 js.length cp7, .int .i64 0] []))] ac w) (by kernel_rfl) (by kernel_rfl) ?_ ?_ ?_
 ·exact ⟨0, none, 0, [], noX, none, 0, [], noX, hs.drew.s4.s4.skip.pad.padS.padS.padS.padS⟩
 ·refine ⟨?_, ?_, ?_, ?_, ?_, ?_, ?_, ?_, ?_, trivial⟩
  ·exact fun L ac w ⟨g10, ad2, cp3, us4, G5, ad6, cp7, us8, G9, hs⟩ => pln (op_fieldA hs (some 0) rfl rfl rfl underlying24 rfl sizeOf22 (by decide) rfl fun ac hs => ⟨g10, ad2, cp3, us4, G5, ad6, cp7, us8, G9, hs⟩)
  ·exact fun L ac w ⟨g10, ad2, cp3, us4, G5, ad6, cp7, us8, G9, hs⟩ => pln (oldd hs 1 0 (.slice am ks.length cm) isAgg22 sizeOf22 rfl rfl rfl rfl rfl fun ac hs => ⟨g10, ad2, cp3, us4, G5, ad6, cp7, us8, G9, hs⟩)
  ·exact fun L ac w ⟨g10, ad2, cp3, us4, G5, ad6, cp7, us8, G9, hs⟩ => pln (op_callV (F := 42) (ρ := M1) hs (some 2) (some 4) (v := fun r => .slice r.a ks.length r.c) (E := fun r => [oW r.a ks.length r.c 34 r.vs, .bysO r.G r.vs ks]) (j := 2) rfl rfl rfl rfl (call42 _) (fun hs => own_c am ks.length cm vs ks ok _ _ (hs.celT (k := 0) rfl) rfl (hs.rowB (k := 1) (G := noX) (.inr rfl))) (fun _ => rfl) (fun _ => rfl) rfl rfl fun ⟨ad2, cp3, us4, G5⟩ ac w hs => ⟨g10, ad2, cp3, us4, G5, ad6, cp7, us8, G9, hs⟩)
  ·exact fun L ac w ⟨g10, ad2, cp3, us4, G5, ad6, cp7, us8, G9, hs⟩ => pln (op_fieldA hs (some 3) rfl rfl rfl underlying24 rfl sizeOf22 (by decide) rfl fun ac hs => ⟨g10, ad2, cp3, us4, G5, ad6, cp7, us8, G9, hs⟩)
  ·exact fun L ac w ⟨g10, ad2, cp3, us4, G5, ad6, cp7, us8, G9, hs⟩ => pln (oldd hs 4 0 (.slice aa js.length ca) isAgg22 sizeOf22 rfl rfl rfl rfl rfl fun ac hs => ⟨g10, ad2, cp3, us4, G5, ad6, cp7, us8, G9, hs⟩)
  ·exact fun L ac w ⟨g10, ad2, cp3, us4, G5, ad6, cp7, us8, G9, hs⟩ => pln (op_callV (F := 42) (ρ := M1) hs (some 5) (some 6) (v := fun r => .slice r.a js.length r.c) (E := fun r => [oW r.a js.length r.c 34 r.vs, .bysO r.G r.vs js]) (j := 2) rfl rfl rfl rfl (call42 _) (fun hs => own_c aa js.length ca us js oj _ _ (hs.celT (k := 2) rfl) rfl (hs.rowB (k := 3) (G := noX) (.inr rfl))) (fun _ => rfl) (fun _ => rfl) rfl rfl fun ⟨ad6, cp7, us8, G9⟩ ac w hs => ⟨g10, ad2, cp3, us4, G5, ad6, cp7, us8, G9, hs⟩)
  ·exact fun L ac w ⟨g10, ad2, cp3, us4, G5, ad6, cp7, us8, G9, hs⟩ => pln (op_build hs (some 6) (qs := [(0, .slice ad2 ks.length cp3), (1, .slice ad6 js.length cp7)]) (v := .agg #[.slice ad2 ks.length cp3, .slice ad6 js.length cp7, .int .i64 0]) rfl rfl rfl rfl (fun _ => by kernel_rfl) rfl fun ac hs => ⟨g10, ad2, cp3, us4, G5, ad6, cp7, us8, G9, hs⟩)
  ·exact fun L ac w ⟨g10, ad2, cp3, us4, G5, ad6, cp7, us8, G9, hs⟩ => pln (op_box hs (some 7) (some 1) (cs := [.slice ad2 ks.length cp3, .slice ad6 js.length cp7, .int .i64 0]) rfl rfl rfl rfl rfl rfl fun g10 ac w hs => ⟨g10, ad2, cp3, us4, G5, ad6, cp7, us8, G9, hs⟩)
  ·exact fun L ac w ⟨g10, ad2, cp3, us4, G5, ad6, cp7, us8, G9, hs⟩ => pln (oas hs 8 rfl rfl rfl fun ac hs => ⟨g10, ad2, cp3, us4, G5, ad6, cp7, us8, G9, hs⟩)
 intro ac w ⟨g10, ad2, cp3, us4, G5, ad6, cp7, us8, G9, hs⟩
 try dsimp only [cond_true] at hs
 replace hs := hs.merge3 5 7 (by decide) rfl rfl
 refine then_n (wp_ret ?_)
 exact bodyPost_ret (res1 rfl (rv_t hs rfl)) hs.defers ⟨⟨ad2, cp3, us4, ad6, cp7, us8, GV G5 G9, g10⟩, rfl, ((hs.selS [0, 1, 2, 3, 4, 6, 5] rfl (by decide)).selB [1] rfl (by decide)).mem⟩
theorem done_c (gm : Nat) (am : Option Addr) (cm : Nat) (vs : List Value) (aa : Option Addr) (ca : Nat) (us : List Value) (G : Nat → Prop) (xs : List Value) (ts : BL) (ks js : BL) (er : Nat) (k1 j1 : BL) (e1 : Nat) (ok : OkN 8000 ks) (oj : OkN 8000 js) (hp : donL ks js er = (k1, j1, e1)) (w0 : World) (Z X : Nat → Prop) (hm : Mem ⟨w0, [], [(true, oW am ks.length cm 34 vs), (true, oW aa js.length ca 34 us), (true, .bysO G (vs ++ us ++ xs) (ks ++ js ++ ts))], Z, X⟩ [(true, gm, 61, [.slice am ks.length cm, .slice aa js.length ca, ni64 er])] w0) : Calls prog 30 #[ptA gm 0] w0 fun e w' => PostX w0 Z X (ρ := M2) (fun r => .tuple #[.agg #[.slice r.a k1.length r.c, .slice r.b j1.length r.d], ni64 e1]) (fun r => [(true, gm, 61, [.slice am ks.length cm, .slice aa js.length ca, ni64 e1])]) (fun r => [(true, oW r.a k1.length r.c 34 r.vs), (true, oW r.b j1.length r.d 34 r.us), (true, .bysO r.G (r.vs ++ r.us ++ xs) (k1 ++ j1 ++ ts))]) e w' := by
 have hk8 : ks.length ≤ 8000 := ok.1
 have hj8 : js.length ≤ 8000 := oj.1
 refine enterX (n := 35) (args := [ptA gm 0]) func30 rfl rfl (Nat.le_of_ble_eq_true rfl) hm fun ac hs => ?_
 have hv := hs.ownLen 0 rfl
 have hu := hs.ownLen 1 rfl
 refine wp_seq (wp_region_lit (stp (op_alloc hs none none (cs := [.slice none 0 0, .slice none 0 0]) rfl rfl zeroValue24 (by kernel_rfl) rfl rfl fun g1 ac w hs => asg hs rfl rfl rfl fun ac hs => wpList_nil (then_n (wp_seq ?_)))))
 replace hs := hs.nf w0 Z X [0, 2, 3] rfl rfl rfl rfl
 refine region_inv [([], [1, 2, 3, 8, 10]), ([0], [2, 3, 8, 10]), ([0, 1], [3, 8, 10]), ([0, 1, 2], [8, 10]), ([], [5, 6, 7, 8, 10]), ([4], [6, 7, 8, 10]), ([4, 5], [7, 8, 10]), ([4, 5, 6], [8, 10]), (rgn 0 8, [10]), ([], [10]), (rgn 0 10, [])] (fun L ac w => ∃ (g2 : Nat), St 35 ⟨w0, [], [(true, oW am ks.length cm 34 vs), (true, oW aa js.length ca 34 us), (true, .bysO G (vs ++ us ++ xs) (ks ++ js ++ ts))], Z, X⟩ [(5, L 0, ptA gm 0), (6, L 1, ptA gm 0), (7, L 2, ptA gm 0), (8, L 3, .slice am ks.length cm), (9, L 4, ptA gm 0), (10, L 5, ptA gm 0), (11, L 6, ptA gm 1), (12, L 7, .slice aa js.length ca), (13, L 8, .agg #[.slice am ks.length cm, .slice aa js.length ca]), (4, L 9, ptA g2 0), (0, true, ptA gm 0), (2, true, ptA g1 0), (3, true, .int .i64 0)] [(true, gm, 61, [.slice am ks.length cm, .slice aa js.length ca, ni64 er]), (true, g1, 24, [.slice none 0 0, .slice none 0 0]), (L 9, g2, 24, (cond (L 10) [.slice am ks.length cm, .slice aa js.length ca] [.slice none 0 0, .slice none 0 0]))] ac w) (by kernel_rfl) (by kernel_rfl) ?_ ?_ ?_
 ·exact ⟨0, hs.drew.s4.s4.skip.skip.pad⟩
 ·refine ⟨?_, ?_, ?_, ?_, ?_, ?_, ?_, ?_, ?_, ?_, ?_, trivial⟩
  ·exact fun L ac w ⟨g2, hs⟩ => pln (omv hs 0 rfl rfl rfl fun ac hs => ⟨g2, hs⟩)
  ·exact fun L ac w ⟨g2, hs⟩ => pln (op_nilCheck hs (some 1) rfl rfl rfl rfl fun ac hs => ⟨g2, hs⟩)
  ·exact fun L ac w ⟨g2, hs⟩ => pln (op_fieldA hs (some 2) rfl rfl rfl underlying61 rfl sizeOf22 (by decide) rfl fun ac hs => ⟨g2, hs⟩)
  ·exact fun L ac w ⟨g2, hs⟩ => pln (oldd hs 3 0 (.slice am ks.length cm) isAgg22 sizeOf22 rfl rfl rfl rfl rfl fun ac hs => ⟨g2, hs⟩)
  ·exact fun L ac w ⟨g2, hs⟩ => pln (omv hs 4 rfl rfl rfl fun ac hs => ⟨g2, hs⟩)
  ·exact fun L ac w ⟨g2, hs⟩ => pln (op_nilCheck hs (some 5) rfl rfl rfl rfl fun ac hs => ⟨g2, hs⟩)
  ·exact fun L ac w ⟨g2, hs⟩ => pln (op_fieldA hs (some 6) rfl rfl rfl underlying61 rfl sizeOf22 (by decide) rfl fun ac hs => ⟨g2, hs⟩)
  ·exact fun L ac w ⟨g2, hs⟩ => pln (oldd hs 7 0 (.slice aa js.length ca) isAgg22 sizeOf22 rfl rfl rfl rfl rfl fun ac hs => ⟨g2, hs⟩)
  ·exact fun L ac w ⟨g2, hs⟩ => pln (op_build hs (some 8) (qs := [(0, .slice am ks.length cm), (1, .slice aa js.length ca)]) (v := .agg #[.slice am ks.length cm, .slice aa js.length ca]) rfl rfl rfl rfl (fun _ => by kernel_rfl) rfl fun ac hs => ⟨g2, hs⟩)
  ·exact fun L ac w ⟨g2, hs⟩ => pln (op_alloc hs (some 9) (some 2) (cs := [.slice none 0 0, .slice none 0 0]) rfl rfl zeroValue24 (by kernel_rfl) rfl rfl fun g2 ac w hs => ⟨g2, hs⟩)
  ·exact fun L ac w ⟨g2, hs⟩ => pln (stoo hs 2 ([.slice am ks.length cm, .slice aa js.length ca]) sizeOf24 rfl rfl rfl rfl rfl rfl rfl rfl rfl rfl fun w hs => ⟨g2, hs⟩)
 intro ac w ⟨g2, hs⟩
 try dsimp only [cond_true] at hs
 refine then_n (wp_seq (wp_seq (wp_region_lit (mvv hs rfl rfl rfl fun ac hs => stp (op_nilCheck hs none rfl rfl rfl rfl fun ac hs => stp (op_fieldA hs none rfl rfl rfl underlying61 rfl sizeOf28 (by decide) rfl fun ac hs => ldd hs 0 (ni64 er) isAgg28 sizeOf28 rfl rfl rfl rfl rfl fun ac hs => bnn hs (.bool (decide (er = 0))) rfl rfl rfl rfl (bin_eqlN (y := 0)) fun ac hs => wpList_nil (then_n (wcs hs rfl ?_ ?_))))))))
 ·intro hc
  have hp3 := of_decide_eq_true hc
  refine wp_region_lit (mvv hs rfl rfl rfl fun ac hs => ldd hs 2 (.agg #[.slice am ks.length cm, .slice aa js.length ca]) isAgg24 sizeOf24 rfl rfl rfl rfl rfl fun ac hs => ?_)
  obtain ⟨r4, hr4⟩ := ex1 (chkL ks js)
  refine stp (op_callV (F := 16) (ρ := Unit) hs none none (v := fun r => ni64 r4) (E := fun r => []) (j := 0) rfl rfl rfl rfl (call16 _) (fun hs => check_c am cm vs aa ca us ks js r4 (Nat.le_trans (show OkN 8000 ks from ok).1 (by decide)) (Nat.le_trans (show OkN 8000 js from oj).1 (by decide)) hr4 _ _ (hs.celT (k := 0) rfl) (hs.mainY 2 rfl (hs.ownLen 0 rfl)) (hs.celT (k := 1) rfl) (hs.altY 2 rfl (hs.ownLen 0 rfl) (hs.ownLen 1 rfl))) (fun _ => rfl) (fun _ => rfl) rfl rfl fun _ ac w hs => stp (op_nilCheck hs none rfl rfl rfl rfl fun ac hs => stp (op_fieldA hs none rfl rfl rfl underlying61 rfl sizeOf28 (by decide) rfl fun ac hs => stp (stoo hs 0 ([ni64 r4]) sizeOf28 rfl rfl rfl rfl rfl rfl rfl rfl rfl rfl fun w hs => wpList_nil (then_n (wp_seq (wp_seq ?_)))))))
  replace hs := hs.nf w0 Z X [0, 2, 3, 4] rfl rfl rfl rfl
  refine wp_region_lit (mvv hs rfl rfl rfl fun ac hs => stp (op_nilCheck hs none rfl rfl rfl rfl fun ac hs => stp (op_fieldA hs none rfl rfl rfl underlying61 rfl sizeOf28 (by decide) rfl fun ac hs => ldd hs 0 (ni64 r4) isAgg28 sizeOf28 rfl rfl rfl rfl rfl fun ac hs => bnn hs (.bool (decide (r4 ≠ 0))) rfl rfl rfl rfl (bin_neqN (y := 0)) fun ac hs => wpList_nil (then_n (wcs hs rfl ?_ ?_)))))
  ·intro hc
   have hp5 := of_decide_eq_true hc
   refine wp_seq ?_
   replace hs := hs.nf w0 Z X [0, 2, 3, 4] rfl rfl rfl rfl
   refine region_inv [([], [5, 6]), ([], [2, 3, 4, 6]), ([1], [3, 4, 6]), ([1, 2], [4, 6]), ([1, 2, 3], [6]), ([0], [6]), (rgn 0 6, [])] (fun L ac w => St 35 ⟨w0, [], [(true, oW am ks.length cm 34 vs), (true, oW aa js.length ca 34 us), (true, .bysO G (vs ++ us ++ xs) (ks ++ js ++ ts))], Z, X⟩ [(29, L 0, .agg #[.slice none 0 0, .slice none 0 0]), (30, L 1, ptA gm 0), (31, L 2, ptA gm 0), (32, L 3, ptA gm 2), (33, L 4, ni64 r4), (3, L 6, ni64 r4), (0, true, ptA gm 0), (2, true, ptA g1 0), (3, true, .int .i64 0), (4, true, ptA g2 0)] [(true, gm, 61, [.slice am ks.length cm, .slice aa js.length ca, ni64 r4]), (true, g1, 24, (cond (L 5) [.slice none 0 0, .slice none 0 0] [.slice none 0 0, .slice none 0 0])), (true, g2, 24, [.slice am ks.length cm, .slice aa js.length ca])] ac w) (by kernel_rfl) (by kernel_rfl) ?_ ?_ ?_
   ·exact hs.drew.s4.skip.skip
   ·refine ⟨?_, ?_, ?_, ?_, ?_, ?_, ?_, trivial⟩
    ·exact fun L ac w hs => pln (op_build hs (some 0) (qs := []) (v := .agg #[.slice none 0 0, .slice none 0 0]) rfl rfl rfl rfl (fun _ => by kernel_rfl) rfl fun ac hs => hs)
    ·exact fun L ac w hs => pln (omv hs 1 rfl rfl rfl fun ac hs => hs)
    ·exact fun L ac w hs => pln (op_nilCheck hs (some 2) rfl rfl rfl rfl fun ac hs => hs)
    ·exact fun L ac w hs => pln (op_fieldA hs (some 3) rfl rfl rfl underlying61 rfl sizeOf28 (by decide) rfl fun ac hs => hs)
    ·exact fun L ac w hs => pln (oldd hs 4 0 (ni64 r4) isAgg28 sizeOf28 rfl rfl rfl rfl rfl fun ac hs => hs)
    ·exact fun L ac w hs => pln (stoo hs 1 ([.slice none 0 0, .slice none 0 0]) sizeOf24 rfl rfl rfl rfl rfl rfl rfl rfl rfl rfl fun w hs => hs)
    ·exact fun L ac w hs => pln (oas hs 5 rfl rfl rfl fun ac hs => hs)
   intro ac w hs
   try dsimp only [cond_true] at hs
   refine then_n (wp_ret (then_r ?_))
   have HS := hs
   have h0 := hp
   unfold donL at h0
   subst hp3
   rw [if_pos rfl, hr4] at h0
   rw [if_neg hp5] at h0
   obtain ⟨hk, hj, he⟩ := inj3 h0
   subst hk
   subst hj
   subst he
   have hs := HS
   replace hs := hs.nilOwn none 34 1 rfl
   replace hs := hs.nilOwn none 34 1 rfl
   have hlv := (hs.ownLen 0 rfl)
   have hlu := (hs.ownLen 1 rfl)
   replace hs := hs.cutB (j := 0) 2 hlv hlu rfl
   replace hs := hs.cutA (j := 0) 2 rfl hlu rfl
   exact bodyPost_ret (res2 rfl (rv_c hs 1 (v := .agg #[.slice none 0 0, .slice none 0 0]) rfl rfl isAgg24 sizeOf24 rfl) (rv_t hs rfl)) hs.defers ⟨⟨none, 0, [], none, 0, [], G⟩, rfl, ((hs.selS [3, 4, 2] rfl (by decide)).selB [0] rfl (by decide)).mem⟩
  intro hc
  have hp6 := of_decide_eq_false hc
  refine wp_skip (then_n (wp_seq (wp_region_lit (ldd hs 2 (.agg #[.slice am ks.length cm, .slice aa js.length ca]) isAgg24 sizeOf24 rfl rfl rfl rfl rfl fun ac hs => stp (stoo hs 1 ([.slice am ks.length cm, .slice aa js.length ca]) sizeOf24 rfl rfl rfl rfl rfl rfl rfl rfl rfl rfl fun w hs => asg hs rfl rfl rfl fun ac hs => wpList_nil (then_n (wp_ret ?_)))))))
  have HS := hs
  have h0 := hp
  unfold donL at h0
  subst hp3
  rw [if_pos rfl, hr4] at h0
  rw [if_pos (Classical.not_not.1 hp6)] at h0
  obtain ⟨hk, hj, he⟩ := inj3 h0
  subst hk
  subst hj
  subst he
  obtain rfl : r4 = 0 := Classical.not_not.1 hp6
  have hs := HS
  exact bodyPost_ret (res2 rfl (rv_c hs 1 (v := .agg #[.slice am ks.length cm, .slice aa js.length ca]) rfl rfl isAgg24 sizeOf24 rfl) (rv_t hs rfl)) hs.defers ⟨⟨am, cm, vs, aa, ca, us, G⟩, rfl, ((hs.selS [0, 1, 2] rfl (by decide)).selB [0] rfl (by decide)).mem⟩
 intro hc
 have hp7 := of_decide_eq_false hc
 refine wp_skip (then_n (wp_seq (wp_seq (wp_region_lit (mvv hs rfl rfl rfl fun ac hs => stp (op_nilCheck hs none rfl rfl rfl rfl fun ac hs => stp (op_fieldA hs none rfl rfl rfl underlying61 rfl sizeOf28 (by decide) rfl fun ac hs => ldd hs 0 (ni64 er) isAgg28 sizeOf28 rfl rfl rfl rfl rfl fun ac hs => bnn hs (.bool (decide (er ≠ 0))) rfl rfl rfl rfl (bin_neqN (y := 0)) fun ac hs => wpList_nil (then_n (wcs hs rfl ?_ ?_)))))))))
 ·intro hc
  have hp8 := of_decide_eq_true hc
  refine wp_seq ?_
  replace hs := hs.nf w0 Z X [0, 2, 3, 4] rfl rfl rfl rfl
  refine region_inv [([], [5, 6]), ([], [2, 3, 4, 6]), ([1], [3, 4, 6]), ([1, 2], [4, 6]), ([1, 2, 3], [6]), ([0], [6]), (rgn 0 6, [])] (fun L ac w => St 35 ⟨w0, [], [(true, oW am ks.length cm 34 vs), (true, oW aa js.length ca 34 us), (true, .bysO G (vs ++ us ++ xs) (ks ++ js ++ ts))], Z, X⟩ [(29, L 0, .agg #[.slice none 0 0, .slice none 0 0]), (30, L 1, ptA gm 0), (31, L 2, ptA gm 0), (32, L 3, ptA gm 2), (33, L 4, ni64 er), (3, L 6, ni64 er), (0, true, ptA gm 0), (2, true, ptA g1 0), (3, true, .int .i64 0), (4, true, ptA g2 0)] [(true, gm, 61, [.slice am ks.length cm, .slice aa js.length ca, ni64 er]), (true, g1, 24, (cond (L 5) [.slice none 0 0, .slice none 0 0] [.slice none 0 0, .slice none 0 0])), (true, g2, 24, [.slice am ks.length cm, .slice aa js.length ca])] ac w) (by kernel_rfl) (by kernel_rfl) ?_ ?_ ?_
  ·exact hs.drew.s4.skip.skip
  ·refine ⟨?_, ?_, ?_, ?_, ?_, ?_, ?_, trivial⟩
   ·exact fun L ac w hs => pln (op_build hs (some 0) (qs := []) (v := .agg #[.slice none 0 0, .slice none 0 0]) rfl rfl rfl rfl (fun _ => by kernel_rfl) rfl fun ac hs => hs)
   ·exact fun L ac w hs => pln (omv hs 1 rfl rfl rfl fun ac hs => hs)
   ·exact fun L ac w hs => pln (op_nilCheck hs (some 2) rfl rfl rfl rfl fun ac hs => hs)
   ·exact fun L ac w hs => pln (op_fieldA hs (some 3) rfl rfl rfl underlying61 rfl sizeOf28 (by decide) rfl fun ac hs => hs)
   ·exact fun L ac w hs => pln (oldd hs 4 0 (ni64 er) isAgg28 sizeOf28 rfl rfl rfl rfl rfl fun ac hs => hs)
   ·exact fun L ac w hs => pln (stoo hs 1 ([.slice none 0 0, .slice none 0 0]) sizeOf24 rfl rfl rfl rfl rfl rfl rfl rfl rfl rfl fun w hs => hs)
   ·exact fun L ac w hs => pln (oas hs 5 rfl rfl rfl fun ac hs => hs)
  intro ac w hs
  try dsimp only [cond_true] at hs
  refine then_n (wp_ret (then_r ?_))
  have HS := hs
  have h0 := hp
  unfold donL at h0
  rw [if_neg hp7] at h0
  rw [if_neg hp8] at h0
  obtain ⟨hk, hj, he⟩ := inj3 h0
  subst hk
  subst hj
  subst he
  have hs := HS
  replace hs := hs.nilOwn none 34 1 rfl
  replace hs := hs.nilOwn none 34 1 rfl
  have hlv := (hs.ownLen 0 rfl)
  have hlu := (hs.ownLen 1 rfl)
  replace hs := hs.cutB (j := 0) 2 hlv hlu rfl
  replace hs := hs.cutA (j := 0) 2 rfl hlu rfl
  exact bodyPost_ret (res2 rfl (rv_c hs 1 (v := .agg #[.slice none 0 0, .slice none 0 0]) rfl rfl isAgg24 sizeOf24 rfl) (rv_t hs rfl)) hs.defers ⟨⟨none, 0, [], none, 0, [], G⟩, rfl, ((hs.selS [3, 4, 2] rfl (by decide)).selB [0] rfl (by decide)).mem⟩
 intro hc
 have hp9 := of_decide_eq_false hc
 refine wp_skip (then_n (wp_seq ?_))
 replace hs := hs.nf w0 Z X [2, 3, 4] rfl rfl rfl rfl
 refine wp_region_lit (ldd hs 2 (.agg #[.slice am ks.length cm, .slice aa js.length ca]) isAgg24 sizeOf24 rfl rfl rfl rfl rfl fun ac hs => stp (stoo hs 1 ([.slice am ks.length cm, .slice aa js.length ca]) sizeOf24 rfl rfl rfl rfl rfl rfl rfl rfl rfl rfl fun w hs => asg hs rfl rfl rfl fun ac hs => wpList_nil (then_n (wp_ret ?_))))
 exact absurd (Classical.not_not.1 hp9) hp7
theorem do_c (am : Option Addr) (cm : Nat) (vs : List Value) (aa : Option Addr) (ca : Nat) (us : List Value) (ks js : BL) (op : Nat) (k1 j1 : BL) (e1 : Nat) (ok : OkN 1000 ks) (oj : OkN 1000 js) (hp : doL op ks js = (k1, j1, e1)) (w0 : World) (Z X : Nat → Prop) (hm : Mem ⟨w0, [], [(true, cL am ks.length cm vs), (true, .bys vs ks), (true, cL aa js.length ca us), (true, .bys us js)], Z, X⟩ [] w0) : Calls prog 11 #[nu8 op, .agg #[.slice am ks.length cm, .slice aa js.length ca]] w0 fun e w' => PostX w0 Z X (ρ := M2) (fun r => .tuple #[.agg #[.slice r.a k1.length r.c, .slice r.b j1.length r.d], ni64 e1]) (fun r => []) (fun r => [(true, cL am ks.length cm vs), (true, .bys vs ks), (true, cL aa js.length ca us), (true, .bys us js), (true, oW r.a k1.length r.c 34 r.vs), (true, oW r.b j1.length r.d 34 r.us), (true, .bysO r.G (r.vs ++ r.us ++ []) (k1 ++ j1 ++ []))]) e w' := by
 have hk8 : ks.length ≤ 1000 := ok.1
 have hj8 : js.length ≤ 1000 := oj.1
 refine enterX (n := 24) (args := [nu8 op, .agg #[.slice am ks.length cm, .slice aa js.length ca]]) func11 rfl rfl (Nat.le_of_ble_eq_true rfl) hm fun ac hs => wp_seq (wp_region_lit (stp (op_box hs none none (cs := [.slice am ks.length cm, .slice aa js.length ca]) rfl rfl rfl rfl rfl rfl fun g1 ac w hs => stp (op_alloc hs none none (cs := [.slice none 0 0, .slice none 0 0]) rfl rfl zeroValue24 (by kernel_rfl) rfl rfl fun g2 ac w hs => asg hs rfl rfl rfl fun ac hs => wpList_nil (then_n (wp_seq (wp_region_lit (ldd hs 0 (.agg #[.slice am ks.length cm, .slice aa js.length ca]) isAgg24 sizeOf24 rfl rfl rfl rfl rfl fun ac hs => stp (op_callX (F := 26) (ρ := M2g) hs none none [] [0, 1, 2, 3] (v := fun r => .pointer (some ⟨r.o, 0, none⟩)) (S1 := [(true, cL am ks.length cm vs), (true, .bys vs ks), (true, cL aa js.length ca us), (true, .bys us js)]) (bs1 := []) (E := fun r => [(true, cL am ks.length cm vs), (true, .bys vs ks), (true, cL aa js.length ca us), (true, .bys us js), (true, oW r.a ks.length r.c 34 r.vs), (true, oW r.b js.length r.d 34 r.us), (true, .bysO r.G (r.vs ++ r.us ++ ([])) (ks ++ js ++ ([])))]) (E1 := fun r => [(true, cL am ks.length cm vs), (true, .bys vs ks), (true, cL aa js.length ca us), (true, .bys us js)]) (E2 := fun r => [oW r.a ks.length r.c 34 r.vs, oW r.b js.length r.d 34 r.us, .bysO r.G (r.vs ++ r.us ++ ([])) (ks ++ js ++ ([]))]) (bfA := fun r => [(true, r.o, 61, [.slice r.a ks.length r.c, .slice r.b js.length r.d, .int .i64 0])]) (bf := fun r => []) (bf2 := fun r => [(true, r.o, 61, [.slice r.a ks.length r.c, .slice r.b js.length r.d, .int .i64 0])]) rfl rfl rfl rfl rfl (call26 _) rfl rfl (by decide) (by decide) (fun Z X hm => load_c am cm vs aa ca us ks js (ok.mono (by decide)) (oj.mono (by decide)) _ _ _ hm) (fun _ => rfl) (fun _ => rfl) (fun _ => rfl) (fun _ => rfl) (fun _ => rfl) rfl fun ⟨ad3, cp4, vs5, ad6, cp7, us8, G9, gm10⟩ ac w hs => asg hs rfl rfl rfl fun ac hs => wpList_nil (then_n (wp_seq (wp_block (wp_seq (wp_seq ?_))))))))))))))
 replace hs := hs.nf w0 Z X [0, 4, 5, 6] rfl rfl rfl rfl
 refine wp_region_lit (mvv hs rfl rfl rfl fun ac hs => mvv hs rfl rfl rfl fun ac hs => ?_)
 obtain ⟨q11, ks12, js13, e14, hks12⟩ := ex4 (movL op ks js 0)
 obtain ⟨oks12, ojs13⟩ := mov_ok ok oj hks12
 refine stp (op_callX (F := 27) (ρ := M2) hs none none [2] [4, 5, 6] (v := fun r => .bool q11) (S1 := [(true, oW ad3 ks.length cp4 34 vs5), (true, oW ad6 js.length cp7 34 us8), (true, .bysO G9 (vs5 ++ us8 ++ ([])) (ks ++ js ++ ([])))]) (bs1 := [(true, gm10, 61, [.slice ad3 ks.length cp4, .slice ad6 js.length cp7, .int .i64 0])]) (E := fun r => [(true, oW r.a ks12.length r.c 34 r.vs), (true, oW r.b js13.length r.d 34 r.us), (true, .bysO r.G (r.vs ++ r.us ++ ([])) (ks12 ++ js13 ++ ([])))]) (E1 := fun r => [(true, oW r.a ks12.length r.c 34 r.vs), (true, oW r.b js13.length r.d 34 r.us), (true, .bysO r.G (r.vs ++ r.us ++ ([])) (ks12 ++ js13 ++ ([])))]) (E2 := fun r => []) (bfA := fun r => [(true, gm10, 61, [.slice r.a ks12.length r.c, .slice r.b js13.length r.d, ni64 e14])]) (bf := fun r => [(true, gm10, 61, [.slice r.a ks12.length r.c, .slice r.b js13.length r.d, ni64 e14])]) (bf2 := fun r => []) rfl rfl rfl rfl rfl (call27 _) rfl rfl (by decide) (by decide) (fun Z X hm => moves_c gm10 ad3 cp4 vs5 ad6 cp7 us8 G9 ([]) ([]) ks js 0 op q11 ks12 js13 e14 (ok.mono (by decide)) (oj.mono (by decide)) hks12 _ _ _ hm) (fun _ => rfl) (fun _ => rfl) (fun _ => rfl) (fun _ => rfl) (fun _ => rfl) rfl fun ⟨ad15, cp16, vs17, ad18, cp19, us20, G21⟩ ac w hs => asg hs rfl rfl rfl fun ac hs => wpList_nil (then_n (wcs hs rfl ?_ ?_)))
 ·intro hc
  have hQ0 : q11 = true := hc
  refine wp_skip (then_n (wp_cond_true (hs.evb rfl hQ0) (wp_seq (wp_region_lit (mvv hs rfl rfl rfl fun ac hs => ?_)))))
  obtain ⟨ks22, js23, e24, hks22⟩ := ex3 (donL ks12 js13 e14)
  refine stp (op_callX (F := 30) (ρ := M2) hs none none [2] [4, 5, 6] (v := fun r => .tuple #[.agg #[.slice r.a ks22.length r.c, .slice r.b js23.length r.d], ni64 e24]) (S1 := [(true, oW ad15 ks12.length cp16 34 vs17), (true, oW ad18 js13.length cp19 34 us20), (true, .bysO G21 (vs17 ++ us20 ++ ([])) (ks12 ++ js13 ++ ([])))]) (bs1 := [(true, gm10, 61, [.slice ad15 ks12.length cp16, .slice ad18 js13.length cp19, ni64 e14])]) (E := fun r => [(true, oW r.a ks22.length r.c 34 r.vs), (true, oW r.b js23.length r.d 34 r.us), (true, .bysO r.G (r.vs ++ r.us ++ ([])) (ks22 ++ js23 ++ ([])))]) (E1 := fun r => [(true, oW r.a ks22.length r.c 34 r.vs), (true, oW r.b js23.length r.d 34 r.us), (true, .bysO r.G (r.vs ++ r.us ++ ([])) (ks22 ++ js23 ++ ([])))]) (E2 := fun r => []) (bfA := fun r => [(true, gm10, 61, [.slice ad15 ks12.length cp16, .slice ad18 js13.length cp19, ni64 e24])]) (bf := fun r => [(true, gm10, 61, [.slice ad15 ks12.length cp16, .slice ad18 js13.length cp19, ni64 e24])]) (bf2 := fun r => []) rfl rfl rfl rfl rfl (call30 _) rfl rfl (by decide) (by decide) (fun Z X hm => done_c gm10 ad15 cp16 vs17 ad18 cp19 us20 G21 ([]) ([]) ks12 js13 e14 ks22 js23 e24 (oks12.mono (by decide)) (ojs13.mono (by decide)) hks22 _ _ _ hm) (fun _ => rfl) (fun _ => rfl) (fun _ => rfl) (fun _ => rfl) (fun _ => rfl) rfl fun ⟨ad25, cp26, vs27, ad28, cp29, us30, G31⟩ ac w hs => stp (xtr hs none rfl rfl rfl rfl rfl fun ac hs => stp (xtr hs none rfl rfl rfl rfl rfl fun ac hs => stp (stoo hs 1 ([.slice ad25 ks22.length cp26, .slice ad28 js23.length cp29]) sizeOf24 rfl rfl rfl rfl rfl rfl rfl rfl rfl rfl fun w hs => asg hs rfl rfl rfl fun ac hs => wpList_nil (then_n (wp_ret (blk_r (then_r ?_))))))))
  have HS := hs
  have h0 := hp
  unfold doL at h0
  simp only [hks12, hQ0, if_true, hks22] at h0
  obtain ⟨hk, hj, he⟩ := inj3 h0
  subst hk
  subst hj
  subst he
  have hs := HS
  exact bodyPost_ret (res2 rfl (rv_c hs 1 (v := .agg #[.slice ad25 ks22.length cp26, .slice ad28 js23.length cp29]) rfl rfl isAgg24 sizeOf24 rfl) (rv_t hs rfl)) hs.defers ⟨⟨ad25, cp26, vs27, ad28, cp29, us30, G31⟩, rfl, ((hs.selS [0, 1, 2, 3, 4, 5, 6] rfl (by decide)).selB [] rfl (by decide)).mem⟩
 intro hc
 have hQ0 : q11 = false := hc
 refine wp_seq (wp_region_lit (mvv hs rfl rfl rfl fun ac hs => mvv hs rfl rfl rfl fun ac hs => ?_))
 obtain ⟨q32, ks33, e35, hks33⟩ := ex3 (redL op ks12 e14)
 have oks33 := red_ok (by decide) (by decide) oks12 hks33
 refine stp (op_callX (F := 28) (ρ := M1) hs none none [2] [4, 5, 6] (v := fun r => .bool q32) (S1 := [(true, oW ad15 ks12.length cp16 34 vs17), (true, oW ad18 js13.length cp19 34 us20), (true, .bysO G21 (vs17 ++ us20 ++ ([])) (ks12 ++ js13 ++ ([])))]) (bs1 := [(true, gm10, 61, [.slice ad15 ks12.length cp16, .slice ad18 js13.length cp19, ni64 e14])]) (E := fun r => [(true, oW r.a ks33.length r.c 34 r.vs), (true, oW ad18 js13.length cp19 34 us20), (true, .bysO r.G (r.vs ++ us20 ++ ([])) (ks33 ++ js13 ++ ([])))]) (E1 := fun r => [(true, oW r.a ks33.length r.c 34 r.vs), (true, oW ad18 js13.length cp19 34 us20), (true, .bysO r.G (r.vs ++ us20 ++ ([])) (ks33 ++ js13 ++ ([])))]) (E2 := fun r => []) (bfA := fun r => [(true, gm10, 61, [.slice r.a ks33.length r.c, .slice ad18 js13.length cp19, ni64 e35])]) (bf := fun r => [(true, gm10, 61, [.slice r.a ks33.length r.c, .slice ad18 js13.length cp19, ni64 e35])]) (bf2 := fun r => []) rfl rfl rfl rfl rfl (call28 _) rfl rfl (by decide) (by decide) (fun Z X hm => reads_c gm10 ad15 cp16 vs17 ad18 cp19 us20 G21 ([]) ([]) ks12 js13 e14 op q32 ks33 e35 (oks12.mono (by decide)) hks33 _ _ _ hm) (fun _ => rfl) (fun _ => rfl) (fun _ => rfl) (fun _ => rfl) (fun _ => rfl) rfl fun ⟨ad36, cp37, vs38, G39⟩ ac w hs => asg hs rfl rfl rfl fun ac hs => wpList_nil (then_n (wcs hs rfl ?_ ?_)))
 ·intro hc
  have hQ1 : q32 = true := hc
  refine wp_skip (then_n (wp_cond_true (hs.evb rfl hQ1) (wp_seq ?_)))
  replace hs := hs.nf w0 Z X [4, 5, 6] rfl rfl rfl rfl
  refine wp_region_lit (mvv hs rfl rfl rfl fun ac hs => ?_)
  obtain ⟨ks40, js41, e42, hks40⟩ := ex3 (donL ks33 js13 e35)
  refine stp (op_callX (F := 30) (ρ := M2) hs none none [2] [4, 5, 6] (v := fun r => .tuple #[.agg #[.slice r.a ks40.length r.c, .slice r.b js41.length r.d], ni64 e42]) (S1 := [(true, oW ad36 ks33.length cp37 34 vs38), (true, oW ad18 js13.length cp19 34 us20), (true, .bysO G39 (vs38 ++ us20 ++ ([])) (ks33 ++ js13 ++ ([])))]) (bs1 := [(true, gm10, 61, [.slice ad36 ks33.length cp37, .slice ad18 js13.length cp19, ni64 e35])]) (E := fun r => [(true, oW r.a ks40.length r.c 34 r.vs), (true, oW r.b js41.length r.d 34 r.us), (true, .bysO r.G (r.vs ++ r.us ++ ([])) (ks40 ++ js41 ++ ([])))]) (E1 := fun r => [(true, oW r.a ks40.length r.c 34 r.vs), (true, oW r.b js41.length r.d 34 r.us), (true, .bysO r.G (r.vs ++ r.us ++ ([])) (ks40 ++ js41 ++ ([])))]) (E2 := fun r => []) (bfA := fun r => [(true, gm10, 61, [.slice ad36 ks33.length cp37, .slice ad18 js13.length cp19, ni64 e42])]) (bf := fun r => [(true, gm10, 61, [.slice ad36 ks33.length cp37, .slice ad18 js13.length cp19, ni64 e42])]) (bf2 := fun r => []) rfl rfl rfl rfl rfl (call30 _) rfl rfl (by decide) (by decide) (fun Z X hm => done_c gm10 ad36 cp37 vs38 ad18 cp19 us20 G39 ([]) ([]) ks33 js13 e35 ks40 js41 e42 (oks33.mono (by decide)) (ojs13.mono (by decide)) hks40 _ _ _ hm) (fun _ => rfl) (fun _ => rfl) (fun _ => rfl) (fun _ => rfl) (fun _ => rfl) rfl fun ⟨ad43, cp44, vs45, ad46, cp47, us48, G49⟩ ac w hs => stp (xtr hs none rfl rfl rfl rfl rfl fun ac hs => stp (xtr hs none rfl rfl rfl rfl rfl fun ac hs => stp (stoo hs 1 ([.slice ad43 ks40.length cp44, .slice ad46 js41.length cp47]) sizeOf24 rfl rfl rfl rfl rfl rfl rfl rfl rfl rfl fun w hs => asg hs rfl rfl rfl fun ac hs => wpList_nil (then_n (wp_ret (blk_r (then_r ?_))))))))
  have HS := hs
  have h0 := hp
  unfold doL at h0
  simp only [hks12, hks33, hQ0, hQ1, if_true, Bool.false_eq_true, if_false, hks40] at h0
  obtain ⟨hk, hj, he⟩ := inj3 h0
  subst hk
  subst hj
  subst he
  have hs := HS
  exact bodyPost_ret (res2 rfl (rv_c hs 1 (v := .agg #[.slice ad43 ks40.length cp44, .slice ad46 js41.length cp47]) rfl rfl isAgg24 sizeOf24 rfl) (rv_t hs rfl)) hs.defers ⟨⟨ad43, cp44, vs45, ad46, cp47, us48, G49⟩, rfl, ((hs.selS [0, 1, 2, 3, 4, 5, 6] rfl (by decide)).selB [] rfl (by decide)).mem⟩
 intro hc
 have hQ1 : q32 = false := hc
 replace hs := hs.nf w0 Z X [0, 4, 5, 6, 9] rfl rfl rfl rfl
 refine wp_region_lit (mvv hs rfl rfl rfl fun ac hs => mvv hs rfl rfl rfl fun ac hs => ?_)
 obtain ⟨q50, ks51, e53, hks51⟩ := ex3 (recL op ks33 e35)
 have oks51 := rec_ok (by decide) oks33 hks51
 refine stp (op_callX (F := 29) (ρ := M1) hs none none [2] [4, 5, 6] (v := fun r => .bool q50) (S1 := [(true, oW ad36 ks33.length cp37 34 vs38), (true, oW ad18 js13.length cp19 34 us20), (true, .bysO G39 (vs38 ++ us20 ++ ([])) (ks33 ++ js13 ++ ([])))]) (bs1 := [(true, gm10, 61, [.slice ad36 ks33.length cp37, .slice ad18 js13.length cp19, ni64 e35])]) (E := fun r => [(true, oW r.a ks51.length r.c 34 r.vs), (true, oW ad18 js13.length cp19 34 us20), (true, .bysO r.G (r.vs ++ us20 ++ ([])) (ks51 ++ js13 ++ ([])))]) (E1 := fun r => [(true, oW r.a ks51.length r.c 34 r.vs), (true, oW ad18 js13.length cp19 34 us20), (true, .bysO r.G (r.vs ++ us20 ++ ([])) (ks51 ++ js13 ++ ([])))]) (E2 := fun r => []) (bfA := fun r => [(true, gm10, 61, [.slice r.a ks51.length r.c, .slice ad18 js13.length cp19, ni64 e53])]) (bf := fun r => [(true, gm10, 61, [.slice r.a ks51.length r.c, .slice ad18 js13.length cp19, ni64 e53])]) (bf2 := fun r => []) rfl rfl rfl rfl rfl (call29 _) rfl rfl (by decide) (by decide) (fun Z X hm => reckons_c gm10 ad36 cp37 vs38 ad18 cp19 us20 G39 ([]) ([]) ks33 js13 e35 op q50 ks51 e53 (oks33.mono (by decide)) hks51 _ _ _ hm) (fun _ => rfl) (fun _ => rfl) (fun _ => rfl) (fun _ => rfl) (fun _ => rfl) rfl fun ⟨ad54, cp55, vs56, G57⟩ ac w hs => asg hs rfl rfl rfl fun ac hs => wpList_nil (then_n (wcs hs rfl ?_ ?_)))
 ·intro hc
  have hQ2 : q50 = true := hc
  refine wp_seq (wp_region_lit (mvv hs rfl rfl rfl fun ac hs => ?_))
  obtain ⟨ks58, js59, e60, hks58⟩ := ex3 (donL ks51 js13 e53)
  refine stp (op_callX (F := 30) (ρ := M2) hs none none [2] [4, 5, 6] (v := fun r => .tuple #[.agg #[.slice r.a ks58.length r.c, .slice r.b js59.length r.d], ni64 e60]) (S1 := [(true, oW ad54 ks51.length cp55 34 vs56), (true, oW ad18 js13.length cp19 34 us20), (true, .bysO G57 (vs56 ++ us20 ++ ([])) (ks51 ++ js13 ++ ([])))]) (bs1 := [(true, gm10, 61, [.slice ad54 ks51.length cp55, .slice ad18 js13.length cp19, ni64 e53])]) (E := fun r => [(true, oW r.a ks58.length r.c 34 r.vs), (true, oW r.b js59.length r.d 34 r.us), (true, .bysO r.G (r.vs ++ r.us ++ ([])) (ks58 ++ js59 ++ ([])))]) (E1 := fun r => [(true, oW r.a ks58.length r.c 34 r.vs), (true, oW r.b js59.length r.d 34 r.us), (true, .bysO r.G (r.vs ++ r.us ++ ([])) (ks58 ++ js59 ++ ([])))]) (E2 := fun r => []) (bfA := fun r => [(true, gm10, 61, [.slice ad54 ks51.length cp55, .slice ad18 js13.length cp19, ni64 e60])]) (bf := fun r => [(true, gm10, 61, [.slice ad54 ks51.length cp55, .slice ad18 js13.length cp19, ni64 e60])]) (bf2 := fun r => []) rfl rfl rfl rfl rfl (call30 _) rfl rfl (by decide) (by decide) (fun Z X hm => done_c gm10 ad54 cp55 vs56 ad18 cp19 us20 G57 ([]) ([]) ks51 js13 e53 ks58 js59 e60 (oks51.mono (by decide)) (ojs13.mono (by decide)) hks58 _ _ _ hm) (fun _ => rfl) (fun _ => rfl) (fun _ => rfl) (fun _ => rfl) (fun _ => rfl) rfl fun ⟨ad61, cp62, vs63, ad64, cp65, us66, G67⟩ ac w hs => stp (xtr hs none rfl rfl rfl rfl rfl fun ac hs => stp (xtr hs none rfl rfl rfl rfl rfl fun ac hs => stp (stoo hs 1 ([.slice ad61 ks58.length cp62, .slice ad64 js59.length cp65]) sizeOf24 rfl rfl rfl rfl rfl rfl rfl rfl rfl rfl fun w hs => asg hs rfl rfl rfl fun ac hs => wpList_nil (then_n (wp_ret (blk_r (then_r ?_))))))))
  have HS := hs
  have h0 := hp
  unfold doL at h0
  simp only [hks12, hks33, hks51, hQ0, hQ1, hQ2, if_true, Bool.false_eq_true, if_false, hks58] at h0
  obtain ⟨hk, hj, he⟩ := inj3 h0
  subst hk
  subst hj
  subst he
  have hs := HS
  exact bodyPost_ret (res2 rfl (rv_c hs 1 (v := .agg #[.slice ad61 ks58.length cp62, .slice ad64 js59.length cp65]) rfl rfl isAgg24 sizeOf24 rfl) (rv_t hs rfl)) hs.defers ⟨⟨ad61, cp62, vs63, ad64, cp65, us66, G67⟩, rfl, ((hs.selS [0, 1, 2, 3, 4, 5, 6] rfl (by decide)).selB [] rfl (by decide)).mem⟩
 intro hc
 have hQ2 : q50 = false := hc
 refine wp_skip (blk_n (then_n (wp_seq (wp_region_lit (stp (op_build hs none (qs := []) (v := .agg #[.slice none 0 0, .slice none 0 0]) rfl rfl rfl rfl (fun _ => by kernel_rfl) rfl fun ac hs => stp (stoo hs 1 ([.slice none 0 0, .slice none 0 0]) sizeOf24 rfl rfl rfl rfl rfl rfl rfl rfl rfl rfl fun w hs => asg hs rfl rfl rfl fun ac hs => wpList_nil (then_n (wp_ret ?_)))))))))
 have HS := hs
 have h0 := hp
 unfold doL at h0
 simp only [hks12, hks33, hks51, hQ0, hQ1, hQ2, Bool.false_eq_true, if_false] at h0
 obtain ⟨hk, hj, he⟩ := inj3 h0
 subst hk
 subst hj
 subst he
 have hs := HS
 replace hs := hs.nilOwn none 34 1 rfl
 replace hs := hs.nilOwn none 34 1 rfl
 have hlv := (hs.ownLen 4 rfl)
 have hlu := (hs.ownLen 5 rfl)
 replace hs := hs.cutB (j := 0) 6 hlv hlu rfl
 replace hs := hs.cutA (j := 0) 6 rfl hlu rfl
 exact bodyPost_ret (res2 rfl (rv_c hs 1 (v := .agg #[.slice none 0 0, .slice none 0 0]) rfl rfl isAgg24 sizeOf24 rfl) (rv_t hs rfl)) hs.defers ⟨⟨none, 0, [], none, 0, [], G57⟩, rfl, ((hs.selS [0, 1, 2, 3, 7, 8, 6] rfl (by decide)).selB [] rfl (by decide)).mem⟩
end Go.Proofs.Ytikkhkjndbicgaa

/- Stacks: the laws of the operations, in plain Lean. -/
namespace Go.Proofs.Ytikkhkjndbicgaa
open Go.RowKit
def allB (n : Nat) (ks : BL) : Bool := ks.all fun x => decide (x.length ≤ n)
def smallS (ks js : BL) : Bool := decide (ks.length ≤ 110) && decide (js.length ≤ 110) && allB 600 ks && allB 600 js
def timesL : List UInt8 → BL → BL → BL × BL × Bool
  | [], ks, js => (ks, js, true)
  | o :: l, ks, js => if (doL o.toNat ks js).2.2 = 0 then timesL l (doL o.toNat ks js).1 (doL o.toNat ks js).2.1 else (ks, js, false)
theorem small_ok {ks js : BL} (h : smallS ks js = true) : OkN 600 ks ∧ OkN 600 js := by
  unfold smallS allB at h
  simp only [Bool.and_eq_true, decide_eq_true_eq, List.all_eq_true] at h
  exact ⟨⟨by omega, h.1.2⟩, ⟨by omega, h.2⟩⟩
theorem chk_ok {ks js : BL} (h : chkL ks js = 0) : OkN 520 ks ∧ OkN 520 js ∧ ks.length + js.length ≤ 100 := by
  unfold chkL at h
  split at h
  · cases h
  · rename_i hn
    split at h
    · cases h
    · have f : ∀ l : BL, ¬ longB l = true → ∀ x ∈ l, x.length ≤ 520 := fun l hl x hx => by
        unfold longB at hl
        rw [List.any_eq_true] at hl
        by_cases hx2 : x.length ≤ 520
        · exact hx2
        · exact absurd ⟨x, hx, by simpa using hx2⟩ hl
      exact ⟨⟨by omega, f _ fun h => hn (.inl h)⟩, ⟨by omega, f _ fun h => hn (.inr h)⟩, by omega⟩
theorem don_inv {ks js k j : BL} {e : Nat} (h : donL ks js e = (k, j, 0)) : e = 0 ∧ k = ks ∧ j = js ∧ chkL ks js = 0 := by
  unfold donL at h
  by_cases h0 : (if e = 0 then chkL ks js else e) = 0
  · rw [if_pos h0] at h
    obtain ⟨h1, h2, _⟩ := inj3 h
    by_cases he : e = 0
    · rw [if_pos he] at h0; exact ⟨he, h1.symm, h2.symm, h0⟩
    · rw [if_neg he] at h0; exact absurd h0 he
  · rw [if_neg h0] at h
    exact absurd (inj3 h).2.2 h0
theorem don_err {ks js k j : BL} {e e1 : Nat} (h : donL ks js e = (k, j, e1)) (h1 : e1 ≠ 0) : k = [] ∧ j = [] := by
  unfold donL at h
  by_cases h0 : (if e = 0 then chkL ks js else e) = 0
  · rw [if_pos h0] at h
    exact absurd (inj3 h).2.2.symm h1
  · rw [if_neg h0] at h
    exact ⟨(inj3 h).1.symm, (inj3 h).2.1.symm⟩
theorem do_err {op : Nat} {ks js k j : BL} {e1 : Nat} (h : doL op ks js = (k, j, e1)) (h1 : e1 ≠ 0) : k = [] ∧ j = [] := by
  unfold doL at h
  dsimp only at h
  split at h
  · exact don_err h h1
  · split at h
    · exact don_err h h1
    · split at h
      · exact don_err h h1
      · exact ⟨(inj3 h).1.symm, (inj3 h).2.1.symm⟩
theorem do_inv {op : Nat} {ks js k j : BL} (h : doL op ks js = (k, j, 0)) :
    (movL op ks js 0 = (true, k, j, 0) ∨ (∃ k1 e1, movL op ks js 0 = (false, k1, j, e1) ∧ (redL op k1 e1 = (true, k, 0) ∨ ∃ k2 e2, redL op k1 e1 = (false, k2, e2) ∧ recL op k2 e2 = (true, k, 0)))) ∧ chkL k j = 0 := by
  obtain ⟨q, k1, j1, e1, h1⟩ : ∃ a b c d, movL op ks js 0 = (a, b, c, d) := ⟨_, _, _, _, rfl⟩
  unfold doL at h
  simp only [h1] at h
  split at h
  · rename_i hq
    obtain ⟨rfl, rfl, rfl, hc⟩ := don_inv h
    exact ⟨.inl (by rw [h1, hq]), hc⟩
  · rename_i hq
    obtain ⟨q2, k2, e2, h2⟩ : ∃ a b c, redL op k1 e1 = (a, b, c) := ⟨_, _, _, rfl⟩
    simp only [h2] at h
    have hq' : q = false := by simpa using hq
    split at h
    · rename_i hq2
      obtain ⟨rfl, rfl, rfl, hc⟩ := don_inv h
      exact ⟨.inr ⟨k1, e1, by rw [h1, hq'], .inl (by rw [h2, hq2])⟩, hc⟩
    · rename_i hq2
      obtain ⟨q3, k3, e3, h3⟩ : ∃ a b c, recL op k2 e2 = (a, b, c) := ⟨_, _, _, rfl⟩
      simp only [h3] at h
      have hq2' : q2 = false := by simpa using hq2
      split at h
      · rename_i hq3
        obtain ⟨rfl, rfl, rfl, hc⟩ := don_inv h
        exact ⟨.inr ⟨k1, e1, by rw [h1, hq'], .inr ⟨k2, e2, by rw [h2, hq2'], by rw [h3, hq3]⟩⟩, hc⟩
      · exact absurd (inj3 h).2.2 (by decide)
theorem do_chk {op : Nat} {ks js k j : BL} (h : doL op ks js = (k, j, 0)) : chkL k j = 0 := (do_inv h).2
theorem do_ok {op : Nat} {ks js k j : BL} (h : doL op ks js = (k, j, 0)) : OkN 1000 k ∧ OkN 1000 j := by
  obtain ⟨h1, h2, _⟩ := chk_ok (do_chk h)
  exact ⟨h1.mono (by decide), h2.mono (by decide)⟩
def shufT (op : Nat) : Option (Nat × List Nat) :=
  if op = 109 then some (2, []) else if op = 110 then some (2, [0, 1, 0, 1]) else if op = 111 then some (3, [0, 1, 2, 0, 1, 2]) else if op = 112 then some (4, [0, 1, 2, 3, 0, 1])
  else if op = 113 then some (6, [2, 3, 4, 5, 0, 1]) else if op = 114 then some (4, [2, 3, 0, 1]) else if op = 117 then some (1, []) else if op = 118 then some (1, [0, 0])
  else if op = 119 then some (2, [1]) else if op = 120 then some (2, [0, 1, 0]) else if op = 123 then some (3, [1, 2, 0]) else if op = 124 then some (2, [1, 0]) else if op = 125 then some (2, [1, 0, 1]) else none
theorem pop_snoc {A : BL} {x : List UInt8} : popL (A ++ [x]) 0 = (x, A, 0) := by
  rw [pop_at (by simp)]
  simp [lastB]
theorem pop_less {ks : BL} (h : ks.length = 0) : popL ks 0 = ([], ks, 12) := by
  have h1 : needE ks.length 1 0 = 12 := by unfold needE; rw [if_pos (by omega)]; rfl
  unfold popL
  rw [if_neg (by rw [h1]; decide), h1]
def twRows : BL := [[97], [124, 124], [114, 114], [123, 123, 123], [113, 113, 113], [107, 108], [118, 117], [120, 117], [110, 109], [111, 109, 117], [112, 109], [130, 117], [116, 117], [125, 117, 124]]
end Go.Proofs.Ytikkhkjndbicgaa

/- Stacks that stay as they are: copies of entries, literals. -/
namespace Go.Proofs.Ytikkhkjndbicgaa
open Go.RowKit
section
variable {P : Program} {a : Act} {w : World} {n : Nat} {w0 : Bs} {fs : List Sl} {bs : List Bl} {vs us xs : List Value} {ks js ts : BL} {G : Nat → Prop}
theorem St.splitY (hs : St n w0 fs bs a w) (k : Nat) (h : w0.S[k]? = some (true, .bys (vs ++ us ++ xs) (ks ++ js ++ ts))) (hl : vs.length = ks.length) (hu : us.length = js.length) :
    St n (w0.withS (putS none (putS none w0.S [.bys vs ks]) [.bys us js])) fs bs a w := by
  have h1 := hs.all h rfl
  have f : ∀ vs' ks', vs'.length = ks'.length → (∀ p ∈ vs'.zip ks', p ∈ (vs ++ us ++ xs).zip (ks ++ js ++ ts)) → BysV w (Zall w0 bs) vs' ks' := fun vs' ks' hl' hp => bysv_iff.2 ⟨hl', fun p h => (bysv_iff.1 h1).2 p (hp p h)⟩
  have hs1 := hs.pushS none (L := [.bys vs ks]) rfl (okl1 (f vs ks hl fun p hp => mem_main hl hp))
  have h2 : (w0.withS (putS none w0.S [.bys vs ks])).S[k]? = some (true, .bys (vs ++ us ++ xs) (ks ++ js ++ ts)) := by
    simp only [putS]
    rw [List.getElem?_append_left (List.getElem?_eq_some_iff.1 h).1]; exact h
  have h3 := hs1.all h2 rfl
  exact hs1.pushS none rfl (okl1 (bysv_iff.2 ⟨hu, fun p hp => (bysv_iff.1 h3).2 p (mem_alt hl hu hp)⟩))
end
theorem le_one {n : Nat} (h0 : 0 < n) (h : n < 256) : le n = [UInt8.ofNat n] := by
  rw [le_pos n (by omega), Nat.mod_eq_of_lt h, Nat.div_eq_of_lt h, le_zero]
theorem enc_one {n : Nat} (h0 : 0 < n) (h : n < 128) : enc (n : Int) = [UInt8.ofNat n] := by
  unfold enc
  rw [show (n : Int).natAbs = n from Int.natAbs_natCast n, le_one h0 (by omega), decide_eq_false (by omega)]
  have h1 : (UInt8.ofNat n).toNat = n := by simp; omega
  have h2 := sgn_low (xs := [UInt8.ofNat n]) (N := 0) (c := n) false rfl h1 h
  rw [h2]; rfl
theorem dec_one {n : Nat} (h0 : 0 < n) (h : n < 128) : decN [UInt8.ofNat n] 4 = ((n : Int), 0) := by
  have h1 : (UInt8.ofNat n).toNat = n := by simp; omega
  have hv : val [UInt8.ofNat n] = (n : Int) := by
    rw [val_low [UInt8.ofNat n] 0 n rfl h1 h]
    simp [vl]
  unfold decN decOk
  rw [hv, enc_one h0 h]
  simp
theorem do_147 : doL 147 [[UInt8.ofNat 2], [UInt8.ofNat 3]] [] = ([[UInt8.ofNat 5]], [], 0) := by
  have h2 := dec_one (n := 2) (by decide) (by decide)
  have h3 := dec_one (n := 3) (by decide) (by decide)
  have h5 := enc_one (n := 5) (by decide) (by decide)
  have hm : movL 147 [[UInt8.ofNat 2], [UInt8.ofNat 3]] [] 0 = (false, [[UInt8.ofNat 2], [UInt8.ofNat 3]], [], 0) := by simp [movL]
  have hr : redL 147 [[UInt8.ofNat 2], [UInt8.ofNat 3]] 0 = (false, [[UInt8.ofNat 2], [UInt8.ofNat 3]], 0) := by simp [redL]
  have ho : opsL 2 [[UInt8.ofNat 2], [UInt8.ofNat 3]] 0 = ([2, 3], [], 0) := by
    have p1 : popL [[UInt8.ofNat 2], [UInt8.ofNat 3]] 0 = ([UInt8.ofNat 3], [[UInt8.ofNat 2]], 0) := pop_snoc (A := [[UInt8.ofNat 2]])
    have p2 : popL [[UInt8.ofNat 2]] 0 = ([UInt8.ofNat 2], [], 0) := pop_snoc (A := [])
    have r1 : readL [UInt8.ofNat 3] 4 0 = (3, 0) := h3
    have r2 : readL [UInt8.ofNat 2] 4 0 = (2, 0) := h2
    unfold opsL
    rw [if_pos (by decide), opsR_step (n := 1) p1 r1, opsR_step (n := 0) p2 r2]
    rfl
  have hc : recL 147 [[UInt8.ofNat 2], [UInt8.ofNat 3]] 0 = (true, [[UInt8.ofNat 5]], 0) := by
    unfold recL
    rw [if_neg (by decide), if_neg (by decide), if_neg (by decide), if_neg (by decide), ho]
    show (true, ([] : BL) ++ [enc ((5 : Nat) : Int)], 0) = _
    rw [h5]; rfl
  unfold doL
  simp only [hm, hr, hc, Bool.false_eq_true, if_false, if_true]
  decide
theorem do_255 : doL 255 [] [] = ([], [], 10) := by decide
theorem do_126 : doL 126 [[UInt8.ofNat 1], [UInt8.ofNat 2]] [] = ([[UInt8.ofNat 1, UInt8.ofNat 2]], [], 0) := by decide
theorem St.bysEq {a : Act} {w : World} {n : Nat} {w0 : Bs} {fs : List Sl} {bs : List Bl} (hs : St n w0 fs bs a w) (k : Nat) {vs vs' : List Value} {ls ls' : BL} (h : w0.S[k]? = some (true, .bys vs ls)) (hv : vs = vs') (hl : ls = ls') : St n (w0.withS (w0.S.set k (true, .bys vs' ls'))) fs bs a w := by
  subst hv; subst hl
  exact hs.conS k h (fun Z hz => hz) (fun g hg => hg)
theorem celv_max {w : World} {Z : Nat → Prop} {a : Option Addr} {n c : Nat} {cs : List Value} (h : CelV w Z (.slice a n c) n cs) : n ≤ 9223372036854775807 := by
  obtain ⟨a', c', e, h1, h2, _⟩ := h
  have hm : maxLen = 9223372036854775807 := rfl
  omega
theorem bysv_nil {w : World} {Z : Nat → Prop} : BysV w Z [] [] := ⟨rfl, fun i v l h => by simp at h⟩
theorem allB_go {ks : BL} {i : Nat} {y : List UInt8} (h : ks[i]? = some y) (hy : ¬ 600 < y.length) (h0 : allB 600 (ks.take i) = true) : allB 600 (ks.take (i + 1)) = true := by
  rw [← take_snocB h]
  unfold allB at h0 ⊢
  rw [List.all_append, h0]
  simp; omega
theorem allB_end {ks : BL} {i : Nat} (h : ¬ i < ks.length) (h0 : allB 600 (ks.take i) = true) : allB 600 ks = true := by rwa [List.take_of_length_le (by omega)] at h0
theorem allB_no {ks : BL} {i : Nat} {y : List UInt8} (h : ks[i]? = some y) (hy : 600 < y.length) : allB 600 ks = false := by
  cases hb : allB 600 ks with
  | false => rfl
  | true =>
    unfold allB at hb
    rw [List.all_eq_true] at hb
    have := hb y (List.mem_of_getElem? h)
    simp at this; omega
theorem small_len {ks js : BL} (h : 110 < ks.length ∨ 110 < js.length) : smallS ks js = false := by
  unfold smallS
  rcases h with h | h
  · rw [decide_eq_false (by omega)]; rfl
  · rw [decide_eq_false (show ¬ js.length ≤ 110 by omega), Bool.and_false]; rfl
theorem small_no1 {ks js : BL} (h : allB 600 ks = false) : smallS ks js = false := by unfold smallS; rw [h, Bool.and_false]; rfl
theorem small_no2 {ks js : BL} (h : allB 600 js = false) : smallS ks js = false := by unfold smallS; rw [h, Bool.and_false]
theorem small_yes {ks js : BL} (h1 : ¬ 110 < ks.length) (h2 : ¬ 110 < js.length) (h3 : allB 600 ks = true) (h4 : allB 600 js = true) : smallS ks js = true := by
  unfold smallS
  rw [h3, h4, decide_eq_true (by omega), decide_eq_true (by omega)]; rfl
theorem same_go {ks js : BL} {i : Nat} {y z : List UInt8} (hy : ks[i]? = some y) (hz : js[i]? = some z) (h : y = z) (h0 : ks.take i = js.take i) : ks.take (i + 1) = js.take (i + 1) := by
  rw [← take_snocB hy, ← take_snocB hz, h0, h]
theorem same_no {ks js : BL} {i : Nat} {y z : List UInt8} (hy : ks[i]? = some y) (hz : js[i]? = some z) (h : ¬ y = z) : ¬ ks = js := fun e => by
  subst e
  rw [hy] at hz
  exact h (Option.some.inj hz)
theorem same_end {ks js : BL} {i : Nat} (h : ¬ i < ks.length) (hl : ks.length = js.length) (h0 : ks.take i = js.take i) : ks = js := by
  rwa [List.take_of_length_le (by omega), List.take_of_length_le (by omega)] at h0
end Go.Proofs.Ytikkhkjndbicgaa

/- Stacks: the laws' own functions. -/
namespace Go.Proofs.Ytikkhkjndbicgaa
open Go.RowKit _root_.Go.Proofs.Try
set_option maxRecDepth 10000
set_option maxHeartbeats 1000000
theorem same1_c (a1 : Option Addr) (c1 : Nat) (v1 : List Value) (k1 : BL) (a2 : Option Addr) (c2 : Nat) (v2 : List Value) (k2 : BL) (q : Bool) (hq : decide (k1 = k2) = q) (w0 : World) (Z : Nat → Prop) (hV1 : CelV w0 Z (.slice a1 k1.length c1) k1.length v1) (hY1 : BysV w0 Z v1 k1) (hV2 : CelV w0 Z (.slice a2 k2.length c2) k2.length v2) (hY2 : BysV w0 Z v2 k2): Calls prog 17 #[.slice a1 k1.length c1, .slice a2 k2.length c2] w0 fun e w' => Ret w0 Z (ρ := Unit) (fun r => .bool q) (fun r => []) e w' := by
 have hm1 := celv_max hV1
 refine enterS (n := 28) (args := [.slice a1 k1.length c1, .slice a2 k2.length c2]) (S := [(true, cL a1 k1.length c1 v1), (true, .bys v1 k1), (true, cL a2 k2.length c2 v2), (true, .bys v2 k2)]) (Z := Z) func17 rfl rfl (Nat.le_of_ble_eq_true rfl) (sokC hV1 (sokC hY1 (sokC hV2 (sokC hY2 sok0)))) rfl fun ac hs => wp_seq (wp_region_lit (asg hs rfl rfl rfl fun ac hs => wpList_nil (then_n (wp_seq (wp_seq (wp_region_lit (mvv hs rfl rfl rfl fun ac hs => stp (op_blt hs none (v := ni64 (k1.length)) rfl rfl rfl (blt_len underlying22) rfl fun ac hs => mvv hs rfl rfl rfl fun ac hs => stp (op_blt hs none (v := ni64 (k2.length)) rfl rfl rfl (blt_len underlying22) rfl fun ac hs => bnn hs (.bool (decide (k1.length ≠ k2.length))) rfl rfl rfl rfl bin_neqN fun ac hs => wpList_nil (then_n ?_))))))))))
 refine wcs hs rfl ?_ ?_
 ·intro hc
  have hp1 := of_decide_eq_true hc
  have hne : ¬ k1 = k2 := fun e => of_decide_eq_true hc (congrArg List.length e)
  refine wp_seq ?_
  replace hs := hs.nf w0 Z noX [0, 1, 4] rfl rfl rfl rfl
  refine wp_region_lit (asg hs rfl rfl rfl fun ac hs => wpList_nil (then_n (wp_ret (then_r ?_))))
  exact bodyPost_ret (res1 rfl (rv_t hs rfl)) hs.defers ⟨(), by rw [← hq, decide_eq_false hne], hs.bel rfl, okl0⟩
 intro hc
 have hp2 := of_decide_eq_false hc
 have hlen : k1.length = k2.length := Classical.not_not.1 (of_decide_eq_false hc)
 refine wp_skip (then_n (wp_seq (wp_seq ?_)))
 replace hs := hs.nf w0 Z noX [0, 1, 4] rfl rfl rfl rfl
 refine wp_region_lit (asg hs rfl rfl rfl fun ac hs => wpList_nil (then_n (wp_block (wp_loop_m (fun μ ac w => ∃ (i : Nat), (k1.length - i) = μ ∧ (i ≤ k1.length) ∧ (k1.take i = k2.take i) ∧ St 28 ⟨w0, [], [(true, cL a1 k1.length c1 v1), (true, .bys v1 k1), (true, cL a2 k2.length c2 v2), (true, .bys v2 k2)], Z, noX⟩ [(0, true, .slice a1 k1.length c1), (1, true, .slice a2 k2.length c2), (4, true, .bool false), (5, true, ni64 i)] [] ac w) ?_ ?_))))
 ·exact ⟨_, 0, rfl, (by omega), rfl, (hs.re (fs' := [(0, true, .slice a1 k1.length c1), (1, true, .slice a2 k2.length c2), (4, true, .bool false), (5, true, ni64 0)]) ⟨rfl, rfl, rfl, rfl, trivial⟩)⟩
 intro μ ac w ⟨i, hμ, hi, hti, hs⟩
 refine wp_seq (wp_seq (wp_region_lit (mvv hs rfl rfl rfl fun ac hs => mvv hs rfl rfl rfl fun ac hs => stp (op_blt hs none (v := ni64 (k1.length)) rfl rfl rfl (blt_len underlying22) rfl fun ac hs => bnn hs (.bool (decide (i < k1.length))) rfl rfl rfl rfl bin_lssN fun ac hs => wpList_nil (then_n (wcs hs rfl ?_ ?_))))))
 ·intro hc
  have hp3 := of_decide_eq_true hc
  have hlt := of_decide_eq_true hc
  obtain ⟨y, hy⟩ : ∃ q, k1[i]? = some q := ⟨_, List.getElem?_eq_getElem hlt⟩
  obtain ⟨z, hz⟩ : ∃ q, k2[i]? = some q := ⟨_, List.getElem?_eq_getElem (by omega)⟩
  obtain ⟨ay, cy, hvy⟩ := bysv_at (hs.all (k := 1) rfl rfl) hy
  obtain ⟨az, cz, hvz⟩ := bysv_at (hs.all (k := 3) rfl rfl) hz
  replace hs := hs.pick none 1 rfl hvy hy rfl
  replace hs := hs.pick none 3 rfl hvz hz rfl
  refine wp_skip (then_n (wp_seq (wp_block (wp_seq ?_))))
  replace hs := hs.nf w0 Z noX [0, 1, 4, 5] rfl rfl rfl rfl
  refine region_inv [([], [2, 3, 4, 10]), ([], [2, 3, 4, 10]), ([0, 1], [3, 4, 10]), ([0, 1, 2], [4, 10]), (rgn 0 4, [10]), ([], rgn 7 4), ([], rgn 7 4), ([5, 6], [8, 9, 10]), ([5, 6, 7], [9, 10]), (rgn 5 4, [10]), (rgn 0 10, [])] (fun L ac w => St 28 ⟨w0, [], [(true, cL a1 k1.length c1 v1), (true, .bys v1 k1), (true, cL a2 k2.length c2 v2), (true, .bys v2 k2), (true, cL ay y.length cy (bcs y)), (true, cL az z.length cz (bcs z))], Z, noX⟩ [(17, L 0, .slice a1 k1.length c1), (18, L 1, ni64 i), (19, L 2, vidx (.slice a1 k1.length c1) i), (20, L 3, .slice ay y.length cy), (21, L 4, .string (txt y)), (22, L 5, .slice a2 k2.length c2), (23, L 6, ni64 i), (24, L 7, vidx (.slice a2 k2.length c2) i), (25, L 8, .slice az z.length cz), (26, L 9, .string (txt z)), (27, L 10, .bool (!decide (y = z))), (0, true, .slice a1 k1.length c1), (1, true, .slice a2 k2.length c2), (4, true, .bool false), (5, true, ni64 i)] [] ac w) (by kernel_rfl) (by kernel_rfl) ?_ ?_ ?_
  ·exact hs.drew.s4.s4.skip.skip.skip
  ·refine ⟨?_, ?_, ?_, ?_, ?_, ?_, ?_, ?_, ?_, ?_, ?_, trivial⟩
   ·exact fun L ac w hs => pln (omv hs 0 rfl rfl rfl fun ac hs => hs)
   ·exact fun L ac w hs => pln (omv hs 1 rfl rfl rfl fun ac hs => hs)
   ·exact fun L ac w hs => pln (op_idxC hs (some 2) 0 (j := i) rfl rfl rfl rfl rfl underlying22 sizeOf34 (show i < k1.length by omega) (off := i) (by omega) rfl fun ac hs => hs)
   ·exact fun L ac w hs => pln (op_loadC hs (some 3) 0 (u := .slice ay y.length cy) rfl rfl rfl rfl isAgg34 sizeOf34 (by decide) hvy rfl fun ac hs => hs)
   ·exact fun L ac w hs => pln (op_convBS hs (some 4) 4 rfl rfl rfl rfl rfl underlying34 underlying5 underlying9 rfl fun ac hs => hs)
   ·exact fun L ac w hs => pln (omv hs 5 rfl rfl rfl fun ac hs => hs)
   ·exact fun L ac w hs => pln (omv hs 6 rfl rfl rfl fun ac hs => hs)
   ·exact fun L ac w hs => pln (op_idxC hs (some 7) 2 (j := i) rfl rfl rfl rfl rfl underlying22 sizeOf34 (show i < k2.length by omega) (off := i) (by omega) rfl fun ac hs => hs)
   ·exact fun L ac w hs => pln (op_loadC hs (some 8) 2 (u := .slice az z.length cz) rfl rfl rfl rfl isAgg34 sizeOf34 (by decide) hvz rfl fun ac hs => hs)
   ·exact fun L ac w hs => pln (op_convBS hs (some 9) 5 rfl rfl rfl rfl rfl underlying34 underlying5 underlying9 rfl fun ac hs => hs)
   ·exact fun L ac w hs => pln (obn hs 10 (.bool (!decide (y = z))) rfl rfl rfl rfl (bin_neqT (by simp)) fun ac hs => hs)
  intro ac w hs
  try dsimp only [cond_true] at hs
  refine then_n (wcs hs rfl ?_ ?_)
  ·intro hc
   have hyz : ¬ y = z := by simpa using hc
   refine wp_seq (wp_region_lit (asg hs rfl rfl rfl fun ac hs => wpList_nil (then_n (wp_ret (blk_r (then_r (then_r (blk_r (then_r ?_)))))))))
   exact bodyPost_ret (res1 rfl (rv_t hs rfl)) hs.defers ⟨(), by rw [← hq, decide_eq_false (same_no hy hz hyz)], hs.bel rfl, okl0⟩
  intro hc
  have hyz : y = z := by simpa using hc
  refine wp_skip (blk_n (then_n (wp_region_lit (mvv hs rfl rfl rfl fun ac hs => bnn hs (ni64 (i + 1)) rfl rfl rfl rfl (bin_addN (y := 1) rfl (show i + 1 < 9223372036854775808 by omega)) fun ac hs => asg hs rfl rfl rfl fun ac hs => wpList_nil (then_n ?_)))))
  replace hs := hs.selS [0, 1, 2, 3] rfl (by decide)
  exact ⟨_, ⟨(i + 1), rfl, (by omega), (same_go hy hz hyz hti), (hs.re (fs' := [(0, true, .slice a1 k1.length c1), (1, true, .slice a2 k2.length c2), (4, true, .bool false), (5, true, ni64 ((i + 1)))]) ⟨rfl, rfl, rfl, rfl, trivial⟩)⟩, (by omega)⟩
 intro hc
 have hp4 := of_decide_eq_false hc
 have hge := of_decide_eq_false hc
 refine wp_exit (then_e (then_e (blk_e (then_n (wp_seq (wp_region_lit (asg hs rfl rfl rfl fun ac hs => wpList_nil (then_n (wp_ret ?_)))))))))
 exact bodyPost_ret (res1 rfl (rv_t hs rfl)) hs.defers ⟨(), by rw [← hq, decide_eq_true (same_end hge hlen hti)], hs.bel rfl, okl0⟩
theorem same2_c (a1 : Option Addr) (c1 : Nat) (v1 : List Value) (k1 : BL) (a2 : Option Addr) (c2 : Nat) (v2 : List Value) (k2 : BL) (a3 : Option Addr) (c3 : Nat) (v3 : List Value) (k3 : BL) (a4 : Option Addr) (c4 : Nat) (v4 : List Value) (k4 : BL) (q : Bool) (hq : decide (k1 = k3 ∧ k2 = k4) = q) (w0 : World) (Z : Nat → Prop) (hV1 : CelV w0 Z (.slice a1 k1.length c1) k1.length v1) (hY1 : BysV w0 Z v1 k1) (hV2 : CelV w0 Z (.slice a2 k2.length c2) k2.length v2) (hY2 : BysV w0 Z v2 k2) (hV3 : CelV w0 Z (.slice a3 k3.length c3) k3.length v3) (hY3 : BysV w0 Z v3 k3) (hV4 : CelV w0 Z (.slice a4 k4.length c4) k4.length v4) (hY4 : BysV w0 Z v4 k4): Calls prog 13 #[.agg #[.slice a1 k1.length c1, .slice a2 k2.length c2], .agg #[.slice a3 k3.length c3, .slice a4 k4.length c4]] w0 fun e w' => Ret w0 Z (ρ := Unit) (fun r => .bool q) (fun r => []) e w' := by
 refine enterS (n := 17) (args := [.agg #[.slice a1 k1.length c1, .slice a2 k2.length c2], .agg #[.slice a3 k3.length c3, .slice a4 k4.length c4]]) (S := [(true, cL a1 k1.length c1 v1), (true, .bys v1 k1), (true, cL a2 k2.length c2 v2), (true, .bys v2 k2), (true, cL a3 k3.length c3 v3), (true, .bys v3 k3), (true, cL a4 k4.length c4 v4), (true, .bys v4 k4)]) (Z := Z) func13 rfl rfl (Nat.le_of_ble_eq_true rfl) (sokC hV1 (sokC hY1 (sokC hV2 (sokC hY2 (sokC hV3 (sokC hY3 (sokC hV4 (sokC hY4 sok0)))))))) rfl fun ac hs => wp_seq (wp_region_lit (stp (op_box hs none none (cs := [.slice a1 k1.length c1, .slice a2 k2.length c2]) rfl rfl rfl rfl rfl rfl fun g1 ac w hs => stp (op_box hs none none (cs := [.slice a3 k3.length c3, .slice a4 k4.length c4]) rfl rfl rfl rfl rfl rfl fun g2 ac w hs => asg hs rfl rfl rfl fun ac hs => wpList_nil (then_n (wp_seq ?_))))))
 by_cases hq3 : k1 = k3
 ·refine wp_region_lit ?_
  refine stp (op_fieldA hs none rfl rfl rfl underlying24 rfl sizeOf22 (by decide) rfl fun ac hs => ldd hs 0 (.slice a1 k1.length c1) isAgg22 sizeOf22 rfl rfl rfl rfl rfl fun ac hs => stp (op_fieldA hs none rfl rfl rfl underlying24 rfl sizeOf22 (by decide) rfl fun ac hs => ldd hs 1 (.slice a3 k3.length c3) isAgg22 sizeOf22 rfl rfl rfl rfl rfl fun ac hs => stp (op_callV (F := 17) (ρ := Unit) hs none none (v := fun r => .bool true) (E := fun r => []) (j := 0) rfl rfl rfl rfl (call17 _) (fun hs => same1_c a1 c1 v1 k1 a3 c3 v3 k3 true (decide_eq_true hq3) _ _ (hs.celT (k := 0) rfl) (hs.rowB (k := 1) (G := noX) (.inr rfl)) (hs.celT (k := 4) rfl) (hs.rowB (k := 5) (G := noX) (.inr rfl))) (fun _ => rfl) (fun _ => rfl) rfl rfl fun _ ac w hs => mvv hs rfl rfl rfl fun ac hs => lstep (wpO_in hs rfl rfl rfl (op_fieldA hs none rfl rfl rfl underlying24 rfl sizeOf22 (by decide) rfl fun ac hs => lstep (wpO_in hs rfl rfl rfl (op_load hs none 0 (v := .slice a2 k2.length c2) rfl rfl rfl rfl isAgg22 sizeOf22 rfl rfl fun ac hs => lstep (wpO_in hs rfl rfl rfl (op_fieldA hs none rfl rfl rfl underlying24 rfl sizeOf22 (by decide) rfl fun ac hs => lstep (wpO_in hs rfl rfl rfl (op_load hs none 1 (v := .slice a4 k4.length c4) rfl rfl rfl rfl isAgg22 sizeOf22 rfl rfl fun ac hs => ?_)))))))))))
  refine lstep (wpO_in hs rfl rfl rfl (op_callV (F := 17) (ρ := Unit) hs none none (v := fun r => .bool (decide (k2 = k4))) (E := fun r => []) (j := 0) rfl rfl rfl rfl (call17 _) (fun hs => same1_c a2 c2 v2 k2 a4 c4 v4 k4 (decide (k2 = k4)) rfl _ _ (hs.celT (k := 2) rfl) (hs.rowB (k := 3) (G := noX) (.inr rfl)) (hs.celT (k := 6) rfl) (hs.rowB (k := 7) (G := noX) (.inr rfl))) (fun _ => rfl) (fun _ => rfl) rfl rfl fun _ ac w hs => stp (op_pickT hs none rfl rfl rfl rfl rfl fun ac hs => asg hs rfl rfl rfl fun ac hs => wpList_nil (then_n (wp_ret ?_)))))
  exact bodyPost_ret (res1 rfl (rv_t hs rfl)) hs.defers ⟨(), by rw [← hq]; exact congrArg (fun b => Ending.returned (.bool b)) (decide_eq_decide.2 ⟨fun e => ⟨hq3, e⟩, fun e => e.2⟩), hs.bel rfl, okl0⟩
 refine wp_region_lit (stp (op_fieldA hs none rfl rfl rfl underlying24 rfl sizeOf22 (by decide) rfl fun ac hs => ldd hs 0 (.slice a1 k1.length c1) isAgg22 sizeOf22 rfl rfl rfl rfl rfl fun ac hs => stp (op_fieldA hs none rfl rfl rfl underlying24 rfl sizeOf22 (by decide) rfl fun ac hs => ldd hs 1 (.slice a3 k3.length c3) isAgg22 sizeOf22 rfl rfl rfl rfl rfl fun ac hs => stp (op_callV (F := 17) (ρ := Unit) hs none none (v := fun r => .bool false) (E := fun r => []) (j := 0) rfl rfl rfl rfl (call17 _) (fun hs => same1_c a1 c1 v1 k1 a3 c3 v3 k3 false (decide_eq_false hq3) _ _ (hs.celT (k := 0) rfl) (hs.rowB (k := 1) (G := noX) (.inr rfl)) (hs.celT (k := 4) rfl) (hs.rowB (k := 5) (G := noX) (.inr rfl))) (fun _ => rfl) (fun _ => rfl) rfl rfl fun _ ac w hs => mvv hs rfl rfl rfl fun ac hs => lstep (wpO_out hs none rfl rfl (.inl rfl) rfl rfl fun ac hs => lstep (wpO_out hs none rfl rfl (.inl rfl) rfl rfl fun ac hs => lstep (wpO_out hs none rfl rfl (.inl rfl) rfl rfl fun ac hs => ?_)))))))
 refine lstep (wpO_out hs none rfl rfl (.inl rfl) rfl rfl fun ac hs => lstep (wpO_out hs none rfl rfl (.inl rfl) rfl rfl fun ac hs => stp (op_pickF hs none rfl rfl rfl rfl rfl fun ac hs => asg hs rfl rfl rfl fun ac hs => wpList_nil (then_n (wp_ret ?_)))))
 exact bodyPost_ret (res1 rfl (rv_t hs rfl)) hs.defers ⟨(), by rw [← hq, decide_eq_false (fun e => hq3 e.1)], hs.bel rfl, okl0⟩
theorem small_c (am : Option Addr) (cm : Nat) (vs : List Value) (aa : Option Addr) (ca : Nat) (us : List Value) (ks js : BL) (q : Bool) (hq : smallS ks js = q) (w0 : World) (Z : Nat → Prop) (hV : CelV w0 Z (.slice am ks.length cm) ks.length vs) (hY : BysV w0 Z vs ks) (hU : CelV w0 Z (.slice aa js.length ca) js.length us) (hX : BysV w0 Z us js): Calls prog 8 #[.agg #[.slice am ks.length cm, .slice aa js.length ca]] w0 fun e w' => Ret w0 Z (ρ := Unit) (fun r => .bool q) (fun r => []) e w' := by
 have hm1 := celv_max hV
 have hm2 := celv_max hU
 refine enterS (n := 43) (args := [.agg #[.slice am ks.length cm, .slice aa js.length ca]]) (S := [(true, cL am ks.length cm vs), (true, .bys vs ks), (true, cL aa js.length ca us), (true, .bys us js)]) (Z := Z) func8 rfl rfl (Nat.le_of_ble_eq_true rfl) (sokC hV (sokC hY (sokC hU (sokC hX sok0)))) rfl fun ac hs => wp_seq (wp_region_lit (stp (op_box hs none none (cs := [.slice am ks.length cm, .slice aa js.length ca]) rfl rfl rfl rfl rfl rfl fun g1 ac w hs => asg hs rfl rfl rfl fun ac hs => wpList_nil (then_n (wp_seq (wp_seq ?_))))))
 by_cases hq2 : 110 < ks.length
 ·refine wp_region_lit ?_
  refine stp (op_fieldA hs none rfl rfl rfl underlying24 rfl sizeOf22 (by decide) rfl fun ac hs => ldd hs 0 (.slice am ks.length cm) isAgg22 sizeOf22 rfl rfl rfl rfl rfl fun ac hs => stp (op_blt hs none (v := ni64 (ks.length)) rfl rfl rfl (blt_len underlying22) rfl fun ac hs => bnn hs (.bool true) rfl rfl rfl rfl (fun w => dT hq2 (bin_gtrN (y := 110) w)) fun ac hs => mvv hs rfl rfl rfl fun ac hs => lstep (wpO_out hs none rfl rfl (.inl rfl) rfl rfl fun ac hs => lstep (wpO_out hs none rfl rfl (.inl rfl) rfl rfl fun ac hs => lstep (wpO_out hs none rfl rfl (.inl rfl) rfl rfl fun ac hs => lstep (wpO_out hs none rfl rfl (.inl rfl) rfl rfl fun ac hs => stp (op_pickT hs none rfl rfl rfl rfl rfl fun ac hs => ?_)))))))
  refine wpList_nil (then_n (wp_cond_true (hs.ev rfl) (wp_seq ?_)))
  replace hs := hs.nf w0 Z noX [1, 2] rfl rfl rfl rfl
  refine wp_region_lit (asg hs rfl rfl rfl fun ac hs => wpList_nil (then_n (wp_ret (then_r ?_))))
  exact bodyPost_ret (res1 rfl (rv_t hs rfl)) hs.defers ⟨(), by rw [← hq, small_len (.inl hq2)], hs.bel rfl, okl0⟩
 refine wp_region_lit (stp (op_fieldA hs none rfl rfl rfl underlying24 rfl sizeOf22 (by decide) rfl fun ac hs => ldd hs 0 (.slice am ks.length cm) isAgg22 sizeOf22 rfl rfl rfl rfl rfl fun ac hs => stp (op_blt hs none (v := ni64 (ks.length)) rfl rfl rfl (blt_len underlying22) rfl fun ac hs => bnn hs (.bool false) rfl rfl rfl rfl (fun w => dF hq2 (bin_gtrN (y := 110) w)) fun ac hs => mvv hs rfl rfl rfl fun ac hs => lstep (wpO_in hs rfl rfl rfl (op_fieldA hs none rfl rfl rfl underlying24 rfl sizeOf22 (by decide) rfl fun ac hs => lstep (wpO_in hs rfl rfl rfl (op_load hs none 0 (v := .slice aa js.length ca) rfl rfl rfl rfl isAgg22 sizeOf22 rfl rfl fun ac hs => lstep (wpO_in hs rfl rfl rfl (op_blt hs none (v := ni64 (js.length)) rfl rfl rfl (blt_len underlying22) rfl fun ac hs => lstep (wpO_in hs rfl rfl rfl (op_bin hs none (v := .bool (decide (110 < js.length))) rfl rfl rfl rfl (fun _ => rfl) (bin_gtrN (x := js.length) (y := 110)) rfl fun ac hs => ?_)))))))))))
 refine stp (op_pickF hs none rfl rfl rfl rfl rfl fun ac hs => wpList_nil (then_n (wcs hs rfl ?_ ?_)))
 ·intro hc
  have hp3 := of_decide_eq_true hc
  refine wp_seq ?_
  replace hs := hs.nf w0 Z noX [1, 2] rfl rfl rfl rfl
  refine wp_region_lit (asg hs rfl rfl rfl fun ac hs => wpList_nil (then_n (wp_ret (then_r ?_))))
  exact bodyPost_ret (res1 rfl (rv_t hs rfl)) hs.defers ⟨(), by rw [← hq, small_len (.inr hp3)], hs.bel rfl, okl0⟩
 intro hc
 have hp4 := of_decide_eq_false hc
 refine wp_skip (then_n (wp_seq (wp_seq ?_)))
 replace hs := hs.nf w0 Z noX [1, 2] rfl rfl rfl rfl
 refine wp_region_lit (asg hs rfl rfl rfl fun ac hs => wpList_nil (then_n (wp_block (wp_loop_m (fun μ ac w => ∃ (i : Nat), (ks.length - i) = μ ∧ (i ≤ ks.length) ∧ (allB 600 (ks.take i) = true) ∧ St 43 ⟨w0, [], [(true, cL am ks.length cm vs), (true, .bys vs ks), (true, cL aa js.length ca us), (true, .bys us js)], Z, noX⟩ [(1, true, ptA g1 0), (2, true, .bool false), (3, true, ni64 i)] [(true, g1, 24, [.slice am ks.length cm, .slice aa js.length ca])] ac w) ?_ ?_))))
 ·exact ⟨_, 0, rfl, (by omega), rfl, (hs.re (fs' := [(1, true, ptA g1 0), (2, true, .bool false), (3, true, ni64 0)]) ⟨rfl, rfl, rfl, trivial⟩)⟩
 intro μ ac w ⟨i, hμ, hi, hti, hs⟩
 refine wp_seq (wp_seq (wp_region_lit (mvv hs rfl rfl rfl fun ac hs => stp (op_fieldA hs none rfl rfl rfl underlying24 rfl sizeOf22 (by decide) rfl fun ac hs => ldd hs 0 (.slice am ks.length cm) isAgg22 sizeOf22 rfl rfl rfl rfl rfl fun ac hs => stp (op_blt hs none (v := ni64 (ks.length)) rfl rfl rfl (blt_len underlying22) rfl fun ac hs => bnn hs (.bool (decide (i < ks.length))) rfl rfl rfl rfl bin_lssN fun ac hs => wpList_nil (then_n (wcs hs rfl ?_ ?_)))))))
 ·intro hc
  have hp5 := of_decide_eq_true hc
  have hlt := of_decide_eq_true hc
  obtain ⟨y, hy⟩ : ∃ q, ks[i]? = some q := ⟨_, List.getElem?_eq_getElem hlt⟩
  obtain ⟨ay, cy, hvy⟩ := bysv_at (hs.all (k := 1) rfl rfl) hy
  refine wp_skip (then_n (wp_seq (wp_block (wp_seq (wp_region_lit (stp (op_fieldA hs none rfl rfl rfl underlying24 rfl sizeOf22 (by decide) rfl fun ac hs => ldd hs 0 (.slice am ks.length cm) isAgg22 sizeOf22 rfl rfl rfl rfl rfl fun ac hs => mvv hs rfl rfl rfl fun ac hs => stp (op_idxC hs none 0 (j := i) rfl rfl rfl rfl rfl underlying22 sizeOf34 (show i < ks.length by omega) (off := i) (by omega) rfl fun ac hs => stp (op_loadC hs none 0 (u := .slice ay y.length cy) rfl rfl rfl rfl isAgg34 sizeOf34 (by decide) hvy rfl fun ac hs => stp (op_blt hs none (v := ni64 (y.length)) rfl rfl rfl (blt_len underlying34) rfl fun ac hs => bnn hs (.bool (decide (600 < y.length))) rfl rfl rfl rfl (bin_gtrN (y := 600)) fun ac hs => wpList_nil (then_n (wcs hs rfl ?_ ?_))))))))))))
  ·intro hc
   have hp6 := of_decide_eq_true hc
   refine wp_seq ?_
   replace hs := hs.nf w0 Z noX [1, 2, 3] rfl rfl rfl rfl
   refine wp_region_lit (asg hs rfl rfl rfl fun ac hs => wpList_nil (then_n (wp_ret (blk_r (then_r (then_r (blk_r (then_r ?_))))))))
   exact bodyPost_ret (res1 rfl (rv_t hs rfl)) hs.defers ⟨(), by rw [← hq, small_no1 (allB_no hy hp6)], hs.bel rfl, okl0⟩
  intro hc
  have hp7 := of_decide_eq_false hc
  refine wp_skip (blk_n (then_n ?_))
  replace hs := hs.nf w0 Z noX [1, 2, 3] rfl rfl rfl rfl
  refine wp_region_lit (mvv hs rfl rfl rfl fun ac hs => bnn hs (ni64 (i + 1)) rfl rfl rfl rfl (bin_addN (y := 1) rfl (show i + 1 < 9223372036854775808 by omega)) fun ac hs => asg hs rfl rfl rfl fun ac hs => wpList_nil (then_n ?_))
  exact ⟨_, ⟨(i + 1), rfl, (by omega), (allB_go hy hp7 hti), (hs.re (fs' := [(1, true, ptA g1 0), (2, true, .bool false), (3, true, ni64 ((i + 1)))]) ⟨rfl, rfl, rfl, trivial⟩)⟩, (by omega)⟩
 intro hc
 have hp8 := of_decide_eq_false hc
 refine wp_exit (then_e (then_e (blk_e (then_n (wp_seq (wp_seq (wp_region_lit (asg hs rfl rfl rfl fun ac hs => wpList_nil (then_n (wp_block (wp_loop_m (fun μ ac w => ∃ (i : Nat), (js.length - i) = μ ∧ (i ≤ js.length) ∧ (allB 600 (js.take i) = true) ∧ (allB 600 ks = true) ∧ St 43 ⟨w0, [], [(true, cL am ks.length cm vs), (true, .bys vs ks), (true, cL aa js.length ca us), (true, .bys us js)], Z, noX⟩ [(1, true, ptA g1 0), (2, true, .bool false), (4, true, ni64 i)] [(true, g1, 24, [.slice am ks.length cm, .slice aa js.length ca])] ac w) ?_ ?_)))))))))))
 ·exact ⟨_, 0, rfl, (by omega), rfl, (allB_end hp8 hti), (hs.re (fs' := [(1, true, ptA g1 0), (2, true, .bool false), (4, true, ni64 0)]) ⟨rfl, rfl, rfl, trivial⟩)⟩
 intro μ ac w ⟨i, hμ, hi, hti, hall, hs⟩
 refine wp_seq (wp_seq (wp_region_lit (mvv hs rfl rfl rfl fun ac hs => stp (op_fieldA hs none rfl rfl rfl underlying24 rfl sizeOf22 (by decide) rfl fun ac hs => ldd hs 0 (.slice aa js.length ca) isAgg22 sizeOf22 rfl rfl rfl rfl rfl fun ac hs => stp (op_blt hs none (v := ni64 (js.length)) rfl rfl rfl (blt_len underlying22) rfl fun ac hs => bnn hs (.bool (decide (i < js.length))) rfl rfl rfl rfl bin_lssN fun ac hs => wpList_nil (then_n (wcs hs rfl ?_ ?_)))))))
 ·intro hc
  have hp9 := of_decide_eq_true hc
  have hlt := of_decide_eq_true hc
  obtain ⟨y, hy⟩ : ∃ q, js[i]? = some q := ⟨_, List.getElem?_eq_getElem hlt⟩
  obtain ⟨ay, cy, hvy⟩ := bysv_at (hs.all (k := 3) rfl rfl) hy
  refine wp_skip (then_n (wp_seq (wp_block (wp_seq (wp_region_lit (stp (op_fieldA hs none rfl rfl rfl underlying24 rfl sizeOf22 (by decide) rfl fun ac hs => ldd hs 0 (.slice aa js.length ca) isAgg22 sizeOf22 rfl rfl rfl rfl rfl fun ac hs => mvv hs rfl rfl rfl fun ac hs => stp (op_idxC hs none 2 (j := i) rfl rfl rfl rfl rfl underlying22 sizeOf34 (show i < js.length by omega) (off := i) (by omega) rfl fun ac hs => stp (op_loadC hs none 2 (u := .slice ay y.length cy) rfl rfl rfl rfl isAgg34 sizeOf34 (by decide) hvy rfl fun ac hs => stp (op_blt hs none (v := ni64 (y.length)) rfl rfl rfl (blt_len underlying34) rfl fun ac hs => bnn hs (.bool (decide (600 < y.length))) rfl rfl rfl rfl (bin_gtrN (y := 600)) fun ac hs => wpList_nil (then_n (wcs hs rfl ?_ ?_))))))))))))
  ·intro hc
   have hp10 := of_decide_eq_true hc
   refine wp_seq ?_
   replace hs := hs.nf w0 Z noX [1, 2, 4] rfl rfl rfl rfl
   refine wp_region_lit (asg hs rfl rfl rfl fun ac hs => wpList_nil (then_n (wp_ret (blk_r (then_r (then_r (blk_r (then_r ?_))))))))
   exact bodyPost_ret (res1 rfl (rv_t hs rfl)) hs.defers ⟨(), by rw [← hq, small_no2 (allB_no hy hp10)], hs.bel rfl, okl0⟩
  intro hc
  have hp11 := of_decide_eq_false hc
  refine wp_skip (blk_n (then_n ?_))
  replace hs := hs.nf w0 Z noX [1, 2, 4] rfl rfl rfl rfl
  refine wp_region_lit (mvv hs rfl rfl rfl fun ac hs => bnn hs (ni64 (i + 1)) rfl rfl rfl rfl (bin_addN (y := 1) rfl (show i + 1 < 9223372036854775808 by omega)) fun ac hs => asg hs rfl rfl rfl fun ac hs => wpList_nil (then_n ?_))
  exact ⟨_, ⟨(i + 1), rfl, (by omega), (allB_go hy hp11 hti), hall, (hs.re (fs' := [(1, true, ptA g1 0), (2, true, .bool false), (4, true, ni64 ((i + 1)))]) ⟨rfl, rfl, rfl, trivial⟩)⟩, (by omega)⟩
 intro hc
 have hp12 := of_decide_eq_false hc
 refine wp_exit (then_e (then_e (blk_e (then_n (wp_seq (wp_region_lit (asg hs rfl rfl rfl fun ac hs => wpList_nil (then_n (wp_ret ?_)))))))))
 exact bodyPost_ret (res1 rfl (rv_t hs rfl)) hs.defers ⟨(), by rw [← hq, small_yes hq2 hp4 hall (allB_end hp12 hti)], hs.bel rfl, okl0⟩
theorem alive_c  (w0 : World) (Z : Nat → Prop) : Calls prog 9 #[] w0 fun e w' => Ret w0 Z (ρ := Unit) (fun r => .bool true) (fun r => []) e w' := by
 refine enterS (n := 66) (args := []) (S := []) (Z := Z) func9 rfl rfl (Nat.le_of_ble_eq_true rfl) sok0 rfl fun ac hs => wp_seq (wp_region_lit (asg hs rfl rfl rfl fun ac hs => wpList_nil (then_n (wp_seq (wp_region_lit (stp (op_bsO hs none none (qs := [(0, .int .u8 2)]) (cs := [.int .u8 2]) (cs' := bcs [UInt8.ofNat 2]) rfl rfl rfl rfl underlying34 inf_u8_5 (by decide) (by decide) (fill_one _ _ rfl ) rfl (bcs_cons (by decide) rfl) rfl rfl fun ad2 ac w hs => stp (op_bsO hs none none (qs := [(0, .int .u8 3)]) (cs := [.int .u8 3]) (cs' := bcs [UInt8.ofNat 3]) rfl rfl rfl rfl underlying34 inf_u8_5 (by decide) (by decide) (fill_one _ _ rfl ) rfl (bcs_cons (by decide) rfl) rfl rfl fun ad4 ac w hs => stp (op_bsO hs none none (qs := [(0, .slice ad2 1 1), (1, .slice ad4 1 1)]) (cs := [.slice ad2 1 1, .slice ad4 1 1]) rfl rfl rfl rfl underlying22 inf_slice_34 (by decide) (by decide) (fill_two _ _ _ rfl rfl) rfl rfl rfl rfl fun ad6 ac w hs => stp (op_build hs none (qs := [(0, .slice ad6 2 2)]) (v := .agg #[.slice ad6 2 2, .slice none 0 0]) rfl rfl rfl rfl (fun _ => by kernel_rfl) rfl fun ac hs => ?_))))))))))
 replace hs := hs.freeze 2 rfl
 replace hs := hs.nilBys none rfl
 replace hs := hs.freeze 0 rfl
 replace hs := hs.snocBys (l := [UInt8.ofNat 2]) (ls' := [[UInt8.ofNat 2]]) 3 0 rfl rfl rfl
 replace hs := hs.freeze 1 rfl
 replace hs := hs.snocBys (l := [UInt8.ofNat 3]) (ls' := [[UInt8.ofNat 2], [UInt8.ofNat 3]]) 3 1 rfl rfl rfl
 replace hs := hs.bysEq 3 (vs' := [.slice ad2 1 1, .slice ad4 1 1]) (ls' := [[UInt8.ofNat 2], [UInt8.ofNat 3]]) rfl rfl rfl
 replace hs := hs.nf w0 Z noX [0, 8, 9, 10, 11] rfl rfl rfl rfl
 replace hs := hs.nilCel none rfl
 replace hs := hs.nilBys none rfl
 replace hs := hs.nf w0 Z noX [0, 8, 9, 10, 11] rfl rfl rfl rfl
 refine stp (op_callX (F := 11) (ρ := M2) hs none none [] [2, 3, 4, 5] (v := fun r => .tuple #[.agg #[.slice r.a (([[UInt8.ofNat 5]]).length) r.c, .slice r.b (([]).length) r.d], .int .i64 0]) (S1 := [(true, cL ad6 2 2 ([.slice ad2 1 1, .slice ad4 1 1])), (true, .bys ([.slice ad2 1 1, .slice ad4 1 1]) ([[UInt8.ofNat 2], [UInt8.ofNat 3]])), (true, cL none 0 0 ([])), (true, .bys ([]) ([]))]) (bs1 := []) (E := fun r => [(true, cL ad6 2 2 ([.slice ad2 1 1, .slice ad4 1 1])), (true, .bys ([.slice ad2 1 1, .slice ad4 1 1]) ([[UInt8.ofNat 2], [UInt8.ofNat 3]])), (true, cL none 0 0 ([])), (true, .bys ([]) ([])), (true, oW r.a (([[UInt8.ofNat 5]]).length) r.c 34 r.vs), (true, oW r.b (([]).length) r.d 34 r.us), (true, .bysO r.G (r.vs ++ r.us ++ ([])) (([[UInt8.ofNat 5]]) ++ ([]) ++ ([])))]) (E1 := fun r => [(true, cL ad6 2 2 ([.slice ad2 1 1, .slice ad4 1 1])), (true, .bys ([.slice ad2 1 1, .slice ad4 1 1]) ([[UInt8.ofNat 2], [UInt8.ofNat 3]])), (true, cL none 0 0 ([])), (true, .bys ([]) ([]))]) (E2 := fun r => [oW r.a (([[UInt8.ofNat 5]]).length) r.c 34 r.vs, oW r.b (([]).length) r.d 34 r.us, .bysO r.G (r.vs ++ r.us ++ ([])) (([[UInt8.ofNat 5]]) ++ ([]) ++ ([]))]) (bfA := fun r => []) (bf := fun r => []) (bf2 := fun r => []) rfl rfl rfl rfl rfl (call11 _) rfl rfl (by decide) (by decide) (fun Z X hm => do_c ad6 2 ([.slice ad2 1 1, .slice ad4 1 1]) none 0 ([]) ([[UInt8.ofNat 2], [UInt8.ofNat 3]]) ([]) 147 ([[UInt8.ofNat 5]]) ([]) 0 (show OkN 1000 [[UInt8.ofNat 2], [UInt8.ofNat 3]] from ⟨by decide, by decide⟩) OkN.nil do_147 _ _ _ hm) (fun _ => rfl) (fun _ => rfl) (fun _ => rfl) (fun _ => rfl) (fun _ => rfl) rfl fun ⟨ad10, cp11, vs12, ad13, cp14, us15, G16⟩ ac w hs => mvv hs rfl rfl rfl fun ac hs => stp (xtr hs none rfl rfl rfl rfl rfl fun ac hs => stp (xtr hs none rfl rfl rfl rfl rfl fun ac hs => stp (op_alloc hs none none (cs := [.slice none 0 0, .slice none 0 0]) rfl rfl zeroValue24 (by kernel_rfl) rfl rfl fun g17 ac w hs => stp (stoo hs 0 ([.slice ad10 (([[UInt8.ofNat 5]]).length) cp11, .slice ad13 (([]).length) cp14]) sizeOf24 rfl rfl rfl rfl rfl rfl rfl rfl rfl rfl fun w hs => asg hs rfl rfl rfl fun ac hs => wpList_nil ?_)))))
 replace hs := hs.nf w0 Z noX [0, 8, 9, 10, 11, 12, 7, 13, 14, 1, 2] rfl rfl rfl rfl
 have hl18 := hs.ownLen 6 rfl
 replace hs := hs.freeze 6 rfl
 have hl19 := hs.ownLen 7 rfl
 replace hs := hs.freeze 7 rfl
 replace hs := hs.freezeB 8 rfl
 replace hs := hs.splitY 8 rfl hl18 hl19
 replace hs := hs.nf w0 Z noX [0, 8, 9, 10, 11, 12, 7, 13, 14, 1, 2] rfl rfl rfl rfl
 obtain ⟨al20, cl21, hv22⟩ := bysv_at (l := [UInt8.ofNat 5]) (i := 0) (hs.all (k := 9) rfl rfl) rfl
 replace hs := hs.pick none 9 (i := 0) (l := [UInt8.ofNat 5]) rfl hv22 rfl rfl
 refine then_n (wp_seq (wp_region_lit (stp (op_build hs none (qs := []) (v := .agg #[.slice none 0 0, .slice none 0 0]) rfl rfl rfl rfl (fun _ => by kernel_rfl) rfl fun ac hs => ?_))))
 replace hs := hs.nilCel none rfl
 replace hs := hs.nilBys none rfl
 replace hs := hs.nf w0 Z noX [0, 8, 9, 10, 11, 12, 7, 13, 14, 1, 2, 16] rfl rfl rfl rfl
 replace hs := hs.nilCel none rfl
 replace hs := hs.nilBys none rfl
 replace hs := hs.nf w0 Z noX [0, 8, 9, 10, 11, 12, 7, 13, 14, 1, 2, 16] rfl rfl rfl rfl
 refine stp (op_callX (F := 11) (ρ := M2) hs none none [] [12, 13, 14, 15] (v := fun r => .tuple #[.agg #[.slice r.a (([]).length) r.c, .slice r.b (([]).length) r.d], .int .i64 10]) (S1 := [(true, cL none 0 0 ([])), (true, .bys ([]) ([])), (true, cL none 0 0 ([])), (true, .bys ([]) ([]))]) (bs1 := []) (E := fun r => [(true, cL none 0 0 ([])), (true, .bys ([]) ([])), (true, cL none 0 0 ([])), (true, .bys ([]) ([])), (true, oW r.a (([]).length) r.c 34 r.vs), (true, oW r.b (([]).length) r.d 34 r.us), (true, .bysO r.G (r.vs ++ r.us ++ ([])) (([]) ++ ([]) ++ ([])))]) (E1 := fun r => [(true, cL none 0 0 ([])), (true, .bys ([]) ([])), (true, cL none 0 0 ([])), (true, .bys ([]) ([]))]) (E2 := fun r => [oW r.a (([]).length) r.c 34 r.vs, oW r.b (([]).length) r.d 34 r.us, .bysO r.G (r.vs ++ r.us ++ ([])) (([]) ++ ([]) ++ ([]))]) (bfA := fun r => []) (bf := fun r => []) (bf2 := fun r => []) rfl rfl rfl rfl rfl (call11 _) rfl rfl (by decide) (by decide) (fun Z X hm => do_c none 0 ([]) none 0 ([]) ([]) ([]) 255 ([]) ([]) 10 OkN.nil OkN.nil do_255 _ _ _ hm) (fun _ => rfl) (fun _ => rfl) (fun _ => rfl) (fun _ => rfl) (fun _ => rfl) rfl fun ⟨ad26, cp27, vs28, ad29, cp30, us31, G32⟩ ac w hs => mvv hs rfl rfl rfl fun ac hs => stp (xtr hs none rfl rfl rfl rfl rfl fun ac hs => stp (xtr hs none rfl rfl rfl rfl rfl fun ac hs => stp (op_alloc hs none none (cs := [.slice none 0 0, .slice none 0 0]) rfl rfl zeroValue24 (by kernel_rfl) rfl rfl fun g33 ac w hs => stp (stoo hs 1 ([.slice ad26 (([]).length) cp27, .slice ad29 (([]).length) cp30]) sizeOf24 rfl rfl rfl rfl rfl rfl rfl rfl rfl rfl fun w hs => asg hs rfl rfl rfl fun ac hs => wpList_nil ?_)))))
 replace hs := hs.nf w0 Z noX [0, 1, 2, 16, 17, 15, 18, 19, 3, 4] rfl rfl rfl rfl
 have hl34 := hs.ownLen 16 rfl
 replace hs := hs.freeze 16 rfl
 have hl35 := hs.ownLen 17 rfl
 replace hs := hs.freeze 17 rfl
 replace hs := hs.freezeB 18 rfl
 replace hs := hs.splitY 18 rfl hl34 hl35
 replace hs := hs.nf w0 Z noX [0, 1, 2, 16, 17, 15, 18, 19, 3, 4] rfl rfl rfl rfl
 refine then_n (wp_seq (wp_region_lit (stp (op_bsO hs none none (qs := [(0, .int .u8 1)]) (cs := [.int .u8 1]) (cs' := bcs [UInt8.ofNat 1]) rfl rfl rfl rfl underlying34 inf_u8_5 (by decide) (by decide) (fill_one _ _ rfl ) rfl (bcs_cons (by decide) rfl) rfl rfl fun ad37 ac w hs => stp (op_bsO hs none none (qs := [(0, .int .u8 2)]) (cs := [.int .u8 2]) (cs' := bcs [UInt8.ofNat 2]) rfl rfl rfl rfl underlying34 inf_u8_5 (by decide) (by decide) (fill_one _ _ rfl ) rfl (bcs_cons (by decide) rfl) rfl rfl fun ad39 ac w hs => stp (op_bsO hs none none (qs := [(0, .slice ad37 1 1), (1, .slice ad39 1 1)]) (cs := [.slice ad37 1 1, .slice ad39 1 1]) rfl rfl rfl rfl underlying22 inf_slice_34 (by decide) (by decide) (fill_two _ _ _ rfl rfl) rfl rfl rfl rfl fun ad41 ac w hs => stp (op_build hs none (qs := [(0, .slice ad41 2 2)]) (v := .agg #[.slice ad41 2 2, .slice none 0 0]) rfl rfl rfl rfl (fun _ => by kernel_rfl) rfl fun ac hs => ?_)))))))
 replace hs := hs.freeze 23 rfl
 replace hs := hs.nilBys none rfl
 replace hs := hs.freeze 21 rfl
 replace hs := hs.snocBys (l := [UInt8.ofNat 1]) (ls' := [[UInt8.ofNat 1]]) 24 21 rfl rfl rfl
 replace hs := hs.freeze 22 rfl
 replace hs := hs.snocBys (l := [UInt8.ofNat 2]) (ls' := [[UInt8.ofNat 1], [UInt8.ofNat 2]]) 24 22 rfl rfl rfl
 replace hs := hs.bysEq 24 (vs' := [.slice ad37 1 1, .slice ad39 1 1]) (ls' := [[UInt8.ofNat 1], [UInt8.ofNat 2]]) rfl rfl rfl
 replace hs := hs.nf w0 Z noX [0, 1, 2, 16, 17, 15, 18, 19, 3, 4, 21, 22, 23, 24] rfl rfl rfl rfl
 replace hs := hs.nilCel none rfl
 replace hs := hs.nilBys none rfl
 replace hs := hs.nf w0 Z noX [0, 1, 2, 16, 17, 15, 18, 19, 3, 4, 21, 22, 23, 24] rfl rfl rfl rfl
 refine stp (op_callX (F := 11) (ρ := M2) hs none none [] [23, 24, 25, 26] (v := fun r => .tuple #[.agg #[.slice r.a (([[UInt8.ofNat 1, UInt8.ofNat 2]]).length) r.c, .slice r.b (([]).length) r.d], .int .i64 0]) (S1 := [(true, cL ad41 2 2 ([.slice ad37 1 1, .slice ad39 1 1])), (true, .bys ([.slice ad37 1 1, .slice ad39 1 1]) ([[UInt8.ofNat 1], [UInt8.ofNat 2]])), (true, cL none 0 0 ([])), (true, .bys ([]) ([]))]) (bs1 := []) (E := fun r => [(true, cL ad41 2 2 ([.slice ad37 1 1, .slice ad39 1 1])), (true, .bys ([.slice ad37 1 1, .slice ad39 1 1]) ([[UInt8.ofNat 1], [UInt8.ofNat 2]])), (true, cL none 0 0 ([])), (true, .bys ([]) ([])), (true, oW r.a (([[UInt8.ofNat 1, UInt8.ofNat 2]]).length) r.c 34 r.vs), (true, oW r.b (([]).length) r.d 34 r.us), (true, .bysO r.G (r.vs ++ r.us ++ ([])) (([[UInt8.ofNat 1, UInt8.ofNat 2]]) ++ ([]) ++ ([])))]) (E1 := fun r => [(true, cL ad41 2 2 ([.slice ad37 1 1, .slice ad39 1 1])), (true, .bys ([.slice ad37 1 1, .slice ad39 1 1]) ([[UInt8.ofNat 1], [UInt8.ofNat 2]])), (true, cL none 0 0 ([])), (true, .bys ([]) ([]))]) (E2 := fun r => [oW r.a (([[UInt8.ofNat 1, UInt8.ofNat 2]]).length) r.c 34 r.vs, oW r.b (([]).length) r.d 34 r.us, .bysO r.G (r.vs ++ r.us ++ ([])) (([[UInt8.ofNat 1, UInt8.ofNat 2]]) ++ ([]) ++ ([]))]) (bfA := fun r => []) (bf := fun r => []) (bf2 := fun r => []) rfl rfl rfl rfl rfl (call11 _) rfl rfl (by decide) (by decide) (fun Z X hm => do_c ad41 2 ([.slice ad37 1 1, .slice ad39 1 1]) none 0 ([]) ([[UInt8.ofNat 1], [UInt8.ofNat 2]]) ([]) 126 ([[UInt8.ofNat 1, UInt8.ofNat 2]]) ([]) 0 (show OkN 1000 [[UInt8.ofNat 1], [UInt8.ofNat 2]] from ⟨by decide, by decide⟩) OkN.nil do_126 _ _ _ hm) (fun _ => rfl) (fun _ => rfl) (fun _ => rfl) (fun _ => rfl) (fun _ => rfl) rfl fun ⟨ad45, cp46, vs47, ad48, cp49, us50, G51⟩ ac w hs => mvv hs rfl rfl rfl fun ac hs => stp (xtr hs none rfl rfl rfl rfl rfl fun ac hs => stp (xtr hs none rfl rfl rfl rfl rfl fun ac hs => stp (op_alloc hs none none (cs := [.slice none 0 0, .slice none 0 0]) rfl rfl zeroValue24 (by kernel_rfl) rfl rfl fun g52 ac w hs => stp (stoo hs 2 ([.slice ad45 (([[UInt8.ofNat 1, UInt8.ofNat 2]]).length) cp46, .slice ad48 (([]).length) cp49]) sizeOf24 rfl rfl rfl rfl rfl rfl rfl rfl rfl rfl fun w hs => asg hs rfl rfl rfl fun ac hs => wpList_nil ?_)))))
 replace hs := hs.nf w0 Z noX [0, 1, 2, 4, 21, 22, 23, 24, 25, 20, 26, 27, 5, 6] rfl rfl rfl rfl
 have hl53 := hs.ownLen 27 rfl
 replace hs := hs.freeze 27 rfl
 have hl54 := hs.ownLen 28 rfl
 replace hs := hs.freeze 28 rfl
 replace hs := hs.freezeB 29 rfl
 replace hs := hs.splitY 29 rfl hl53 hl54
 replace hs := hs.nf w0 Z noX [0, 1, 2, 4, 21, 22, 23, 24, 25, 20, 26, 27, 5, 6] rfl rfl rfl rfl
 obtain ⟨al55, cl56, hv57⟩ := bysv_at (l := [UInt8.ofNat 1, UInt8.ofNat 2]) (i := 0) (hs.all (k := 30) rfl rfl) rfl
 replace hs := hs.pick none 30 (i := 0) (l := [UInt8.ofNat 1, UInt8.ofNat 2]) rfl hv57 rfl rfl
 refine then_n (wp_seq (wp_region_lit (mvv hs rfl rfl rfl fun ac hs => bnn hs (.bool true) rfl rfl rfl rfl (fun _ => by kernel_rfl) fun ac hs => mvv hs rfl rfl rfl fun ac hs => lstep (wpO_in hs rfl rfl rfl (op_fieldA hs none rfl rfl rfl underlying24 rfl sizeOf22 (by decide) rfl fun ac hs => lstep (wpO_in hs rfl rfl rfl (op_load hs none 0 (v := .slice ad10 (([[UInt8.ofNat 5]]).length) cp11) rfl rfl rfl rfl isAgg22 sizeOf22 rfl rfl fun ac hs => lstep (wpO_in hs rfl rfl rfl (op_blt hs none (v := ni64 (([[UInt8.ofNat 5]]).length)) rfl rfl rfl (blt_len underlying22) rfl fun ac hs => lstep (wpO_in hs rfl rfl rfl (op_bin hs none (v := .bool true) rfl rfl rfl rfl (fun _ => rfl) (fun w => dT rfl (bin_eqlN (x := ([[UInt8.ofNat 5]]).length) (y := 1) w)) rfl fun ac hs => stp (op_pickT hs none rfl rfl rfl rfl rfl fun ac hs => mvv hs rfl rfl rfl fun ac hs => ?_))))))))))))
 refine lstep (wpO_in hs rfl rfl rfl (op_fieldA hs none rfl rfl rfl underlying24 rfl sizeOf22 (by decide) rfl fun ac hs => lstep (wpO_in hs rfl rfl rfl (op_load hs none 0 (v := .slice ad10 (([[UInt8.ofNat 5]]).length) cp11) rfl rfl rfl rfl isAgg22 sizeOf22 rfl rfl fun ac hs => lstep (wpO_in hs rfl rfl rfl (op_idxC hs none 6 (j := 0) rfl rfl rfl rfl rfl underlying22 sizeOf34 (show 0 < ([[UInt8.ofNat 5]]).length by first | omega | ((try simp only [List.length_drop, List.length_take, List.length_append, List.length_cons, List.length_nil]); omega)) (off := 0) (by omega) rfl fun ac hs => lstep (wpO_in hs rfl rfl rfl (op_loadC hs none 6 (u := .slice al20 (([UInt8.ofNat 5]).length) cl21) rfl rfl rfl rfl isAgg34 sizeOf34 (by decide) hv22 rfl fun ac hs => lstep (wpO_in hs rfl rfl rfl (op_convBS hs none 11 rfl rfl rfl rfl rfl underlying34 underlying5 underlying9 rfl fun ac hs => lstep (wpO_in hs rfl rfl rfl (op_bin hs none (v := .bool true) rfl rfl rfl rfl (fun _ => rfl) (fun _ => by kernel_rfl) rfl fun ac hs => stp (op_pickT hs none rfl rfl rfl rfl rfl fun ac hs => mvv hs rfl rfl rfl fun ac hs => lstep (wpO_in hs rfl rfl rfl (op_move hs none rfl rfl rfl rfl fun ac hs => lstep (wpO_in hs rfl rfl rfl (op_bin hs none (v := .bool true) rfl rfl rfl rfl (fun _ => rfl) (fun _ => by kernel_rfl) rfl fun ac hs => ?_)))))))))))))))))
 refine stp (op_pickT hs none rfl rfl rfl rfl rfl fun ac hs => mvv hs rfl rfl rfl fun ac hs => lstep (wpO_in hs rfl rfl rfl (op_move hs none rfl rfl rfl rfl fun ac hs => lstep (wpO_in hs rfl rfl rfl (op_bin hs none (v := .bool true) rfl rfl rfl rfl (fun _ => rfl) (fun _ => by kernel_rfl) rfl fun ac hs => stp (op_pickT hs none rfl rfl rfl rfl rfl fun ac hs => mvv hs rfl rfl rfl fun ac hs => lstep (wpO_in hs rfl rfl rfl (op_fieldA hs none rfl rfl rfl underlying24 rfl sizeOf22 (by decide) rfl fun ac hs => lstep (wpO_in hs rfl rfl rfl (op_load hs none 2 (v := .slice ad45 (([[UInt8.ofNat 1, UInt8.ofNat 2]]).length) cp46) rfl rfl rfl rfl isAgg22 sizeOf22 rfl rfl fun ac hs => lstep (wpO_in hs rfl rfl rfl (op_blt hs none (v := ni64 (([[UInt8.ofNat 1, UInt8.ofNat 2]]).length)) rfl rfl rfl (blt_len underlying22) rfl fun ac hs => lstep (wpO_in hs rfl rfl rfl (op_bin hs none (v := .bool true) rfl rfl rfl rfl (fun _ => rfl) (fun w => dT rfl (bin_eqlN (x := ([[UInt8.ofNat 1, UInt8.ofNat 2]]).length) (y := 1) w)) rfl fun ac hs => ?_))))))))))))))
 refine stp (op_pickT hs none rfl rfl rfl rfl rfl fun ac hs => mvv hs rfl rfl rfl fun ac hs => lstep (wpO_in hs rfl rfl rfl (op_fieldA hs none rfl rfl rfl underlying24 rfl sizeOf22 (by decide) rfl fun ac hs => lstep (wpO_in hs rfl rfl rfl (op_load hs none 2 (v := .slice ad45 (([[UInt8.ofNat 1, UInt8.ofNat 2]]).length) cp46) rfl rfl rfl rfl isAgg22 sizeOf22 rfl rfl fun ac hs => lstep (wpO_in hs rfl rfl rfl (op_idxC hs none 27 (j := 0) rfl rfl rfl rfl rfl underlying22 sizeOf34 (show 0 < ([[UInt8.ofNat 1, UInt8.ofNat 2]]).length by first | omega | ((try simp only [List.length_drop, List.length_take, List.length_append, List.length_cons, List.length_nil]); omega)) (off := 0) (by omega) rfl fun ac hs => lstep (wpO_in hs rfl rfl rfl (op_loadC hs none 27 (u := .slice al55 (([UInt8.ofNat 1, UInt8.ofNat 2]).length) cl56) rfl rfl rfl rfl isAgg34 sizeOf34 (by decide) hv57 rfl fun ac hs => lstep (wpO_in hs rfl rfl rfl (op_convBS hs none 32 rfl rfl rfl rfl rfl underlying34 underlying5 underlying9 rfl fun ac hs => lstep (wpO_in hs rfl rfl rfl (op_bin hs none (v := .bool true) rfl rfl rfl rfl (fun _ => rfl) (fun _ => by kernel_rfl) rfl fun ac hs => stp (op_pickT hs none rfl rfl rfl rfl rfl fun ac hs => asg hs rfl rfl rfl fun ac hs => ?_))))))))))))))
 refine wpList_nil (then_n (wp_ret ?_))
 exact bodyPost_ret (res1 rfl (rv_t hs rfl)) hs.defers ⟨(), rfl, hs.bel rfl, okl0⟩
end Go.Proofs.Ytikkhkjndbicgaa

/- Stacks: what lies below the six upper things stays, in plain Lean. -/
namespace Go.Proofs.Ytikkhkjndbicgaa
open Go.RowKit
def Kp (n : Nat) (ks k : BL) : Prop := ks.length - n ≤ k.length ∧ k.take (ks.length - n) = ks.take (ks.length - n)
theorem Kp.of {n m : Nat} {ks : BL} (hm : ks.length - n ≤ m) (hl : m ≤ ks.length) (s : BL) : Kp n ks (ks.take m ++ s) := by
  have h1 : (ks.take m).length = m := by rw [List.length_take]; omega
  refine ⟨by rw [List.length_append, h1]; omega, ?_⟩
  rw [List.take_append_of_le_length (by omega), List.take_take, Nat.min_eq_left hm]
theorem Kp.same {n : Nat} {ks : BL} (s : BL) : Kp n ks (ks ++ s) := by
  have := Kp.of (n := n) (ks := ks) (m := ks.length) (by omega) (Nat.le_refl _) s
  rwa [List.take_length] at this
theorem Kp.self {n : Nat} {ks : BL} : Kp n ks ks := by
  have := Kp.same (n := n) (ks := ks) []
  rwa [List.append_nil] at this
theorem Kp.mono {n m : Nat} {ks k : BL} (h : Kp n ks k) (hnm : n ≤ m) : Kp m ks k := by
  refine ⟨by have := h.1; omega, ?_⟩
  have := congrArg (List.take (ks.length - m)) h.2
  rwa [List.take_take, List.take_take, Nat.min_eq_left (by omega)] at this
theorem Kp.trans {n m : Nat} {ks k l : BL} (h : Kp n ks k) (h2 : Kp m k l) : Kp (n + m) ks l := by
  obtain ⟨a1, a2⟩ := h
  obtain ⟨b1, b2⟩ := h2
  refine ⟨by omega, ?_⟩
  have c1 := congrArg (List.take (ks.length - (n + m))) a2
  have c2 := congrArg (List.take (ks.length - (n + m))) b2
  rw [List.take_take, List.take_take, Nat.min_eq_left (by omega)] at c1 c2
  exact c2.trans c1
theorem kp_snoc {n : Nat} {ks k : BL} (h : Kp n ks k) (s : BL) : Kp n ks (k ++ s) := by
  obtain ⟨a1, a2⟩ := h
  refine ⟨by rw [List.length_append]; omega, ?_⟩
  rw [List.take_append_of_le_length a1, a2]
theorem kp_pop {ks : BL} {e : Nat} : Kp 1 ks (popL ks e).2.1 := by
  unfold popL
  split
  · have := Kp.of (n := 1) (ks := ks) (m := ks.length - 1) (by omega) (by omega) []
    rwa [List.append_nil] at this
  · exact Kp.self
theorem kp_shuf {n : Nat} {ps : List Nat} {ks : BL} {e : Nat} : Kp n ks (shufL n ps ks e).1 := by
  unfold shufL
  split
  · exact Kp.of (by omega) (by omega) _
  · exact Kp.self
theorem kp_opsR : ∀ (n : Nat) {ks : BL} {e : Nat}, Kp n ks (opsR n ks e).2.1
  | 0, _, _ => Kp.self
  | n + 1, ks, e => by
    rw [opsR]
    have := Kp.trans (kp_pop (ks := ks) (e := e)) (kp_opsR n (ks := (popL ks e).2.1) (e := (readL (popL ks e).1 4 (popL ks e).2.2).2))
    rwa [Nat.add_comm] at this
theorem kp_ops {n : Nat} {ks : BL} {e : Nat} : Kp n ks (opsL n ks e).2.1 := by
  unfold opsL
  split
  · exact kp_opsR n
  · exact Kp.self
theorem kp_deep {ks : BL} {e : Nat} : Kp 1 ks (deepL false ks e).1 := by
  unfold deepL
  split
  · unfold deepR
    split
    · exact kp_pop
    · exact kp_snoc kp_pop _
  · exact kp_pop
theorem kp_rec {op : Nat} {ks : BL} {e : Nat} : Kp 3 ks (recL op ks e).2.1 := by
  unfold recL
  split
  · exact kp_snoc kp_ops _
  · split
    · exact (kp_snoc kp_ops _).mono (by decide)
    · split
      · exact Kp.self
      · split
        · exact kp_ops.mono (by decide)
        · exact (kp_snoc kp_ops _).mono (by decide)
theorem kp_alik {ks : BL} {e : Nat} : Kp 2 ks (alikL ks e).2.1 := by
  unfold alikL
  split
  · have := Kp.of (n := 2) (ks := ks) (m := ks.length - 2) (by omega) (by omega) []
    rwa [List.append_nil] at this
  · exact Kp.self
theorem kp_join {ks : BL} {e : Nat} : Kp 2 ks (joinL ks e).1 := by
  unfold joinL
  split
  · exact Kp.of (by omega) (by omega) _
  · exact Kp.self
theorem kp_hash {f : List UInt8 → List UInt8} {ks : BL} {e : Nat} : Kp 1 ks (hashL f ks e).1 := by
  unfold hashL
  split
  · exact Kp.of (by omega) (by omega) _
  · exact Kp.self
theorem kp_ifd {ks : BL} {e : Nat} : Kp 0 ks (ifdL ks e).1 := by
  unfold ifdL
  split
  · exact Kp.same _
  · exact Kp.self
theorem kp_siz {ks : BL} {e : Nat} : Kp 0 ks (sizL ks e).1 := by
  unfold sizL
  split
  · exact Kp.same _
  · exact Kp.self
theorem kp_back {ks js : BL} {e : Nat} : Kp 0 ks (backL ks js e).1 := by
  unfold backL
  split
  · exact Kp.self
  · exact Kp.same _
theorem kp_mov {op : Nat} {ks js : BL} {e : Nat} : Kp 6 ks (movL op ks js e).2.1 := by
  unfold movL
  by_cases c : op = 97
  · rw [if_pos c]; exact Kp.self
  rw [if_neg c]; clear c
  by_cases c : op = 107
  · rw [if_pos c]; exact kp_pop.mono (by decide)
  rw [if_neg c]; clear c
  by_cases c : op = 108
  · rw [if_pos c]; exact kp_back.mono (by decide)
  rw [if_neg c]; clear c
  by_cases c : op = 109
  · rw [if_pos c]; exact kp_shuf.mono (by decide)
  rw [if_neg c]; clear c
  by_cases c : op = 110
  · rw [if_pos c]; exact kp_shuf.mono (by decide)
  rw [if_neg c]; clear c
  by_cases c : op = 111
  · rw [if_pos c]; exact kp_shuf.mono (by decide)
  rw [if_neg c]; clear c
  by_cases c : op = 112
  · rw [if_pos c]; exact kp_shuf.mono (by decide)
  rw [if_neg c]; clear c
  by_cases c : op = 113
  · rw [if_pos c]; exact kp_shuf.mono (by decide)
  rw [if_neg c]; clear c
  by_cases c : op = 114
  · rw [if_pos c]; exact kp_shuf.mono (by decide)
  rw [if_neg c]; clear c
  by_cases c : op = 117
  · rw [if_pos c]; exact kp_shuf.mono (by decide)
  rw [if_neg c]; clear c
  by_cases c : op = 118
  · rw [if_pos c]; exact kp_shuf.mono (by decide)
  rw [if_neg c]; clear c
  by_cases c : op = 119
  · rw [if_pos c]; exact kp_shuf.mono (by decide)
  rw [if_neg c]; clear c
  by_cases c : op = 120
  · rw [if_pos c]; exact kp_shuf.mono (by decide)
  rw [if_neg c]; clear c
  by_cases c : op = 123
  · rw [if_pos c]; exact kp_shuf.mono (by decide)
  rw [if_neg c]; clear c
  by_cases c : op = 124
  · rw [if_pos c]; exact kp_shuf.mono (by decide)
  rw [if_neg c]; clear c
  by_cases c : op = 125
  · rw [if_pos c]; exact kp_shuf.mono (by decide)
  rw [if_neg c]; clear c
  exact Kp.self
theorem kp_red {op : Nat} {ks : BL} {e : Nat} (h : op ≠ 122) : Kp 6 ks (redL op ks e).2.1 := by
  unfold redL
  by_cases c : op = 121
  · rw [if_pos c]; exact kp_deep.mono (by decide)
  rw [if_neg c]; clear c
  by_cases c : op = 122
  · rw [if_pos c]; exact absurd c h
  rw [if_neg c]; clear c
  by_cases c : op = 105
  · rw [if_pos c]; exact kp_pop.mono (by decide)
  rw [if_neg c]; clear c
  by_cases c : op = 115
  · rw [if_pos c]; exact kp_ifd.mono (by decide)
  rw [if_neg c]; clear c
  by_cases c : op = 116
  · rw [if_pos c]; exact Kp.same _
  rw [if_neg c]; clear c
  by_cases c : op = 126
  · rw [if_pos c]; exact kp_join.mono (by decide)
  rw [if_neg c]; clear c
  by_cases c : op = 130
  · rw [if_pos c]; exact kp_siz.mono (by decide)
  rw [if_neg c]; clear c
  by_cases c : op = 135
  · rw [if_pos c]; exact (kp_snoc kp_alik _).mono (by decide)
  rw [if_neg c]; clear c
  by_cases c : op = 136
  · rw [if_pos c]; exact kp_alik.mono (by decide)
  rw [if_neg c]; clear c
  by_cases c : op = 168
  · rw [if_pos c]; exact kp_hash.mono (by decide)
  rw [if_neg c]; clear c
  by_cases c : op = 170
  · rw [if_pos c]; exact kp_hash.mono (by decide)
  rw [if_neg c]; clear c
  exact Kp.self
theorem mov_no {op : Nat} {ks js k1 j1 : BL} {e e1 : Nat} (h : movL op ks js e = (false, k1, j1, e1)) : k1 = ks ∧ j1 = js ∧ e1 = e := by
  unfold movL at h
  by_cases c : op = 97
  · rw [if_pos c] at h; exact absurd (congrArg Prod.fst h) (fun h => by cases h)
  rw [if_neg c] at h; clear c
  by_cases c : op = 107
  · rw [if_pos c] at h; exact absurd (congrArg Prod.fst h) (fun h => by cases h)
  rw [if_neg c] at h; clear c
  by_cases c : op = 108
  · rw [if_pos c] at h; exact absurd (congrArg Prod.fst h) (fun h => by cases h)
  rw [if_neg c] at h; clear c
  by_cases c : op = 109
  · rw [if_pos c] at h; exact absurd (congrArg Prod.fst h) (fun h => by cases h)
  rw [if_neg c] at h; clear c
  by_cases c : op = 110
  · rw [if_pos c] at h; exact absurd (congrArg Prod.fst h) (fun h => by cases h)
  rw [if_neg c] at h; clear c
  by_cases c : op = 111
  · rw [if_pos c] at h; exact absurd (congrArg Prod.fst h) (fun h => by cases h)
  rw [if_neg c] at h; clear c
  by_cases c : op = 112
  · rw [if_pos c] at h; exact absurd (congrArg Prod.fst h) (fun h => by cases h)
  rw [if_neg c] at h; clear c
  by_cases c : op = 113
  · rw [if_pos c] at h; exact absurd (congrArg Prod.fst h) (fun h => by cases h)
  rw [if_neg c] at h; clear c
  by_cases c : op = 114
  · rw [if_pos c] at h; exact absurd (congrArg Prod.fst h) (fun h => by cases h)
  rw [if_neg c] at h; clear c
  by_cases c : op = 117
  · rw [if_pos c] at h; exact absurd (congrArg Prod.fst h) (fun h => by cases h)
  rw [if_neg c] at h; clear c
  by_cases c : op = 118
  · rw [if_pos c] at h; exact absurd (congrArg Prod.fst h) (fun h => by cases h)
  rw [if_neg c] at h; clear c
  by_cases c : op = 119
  · rw [if_pos c] at h; exact absurd (congrArg Prod.fst h) (fun h => by cases h)
  rw [if_neg c] at h; clear c
  by_cases c : op = 120
  · rw [if_pos c] at h; exact absurd (congrArg Prod.fst h) (fun h => by cases h)
  rw [if_neg c] at h; clear c
  by_cases c : op = 123
  · rw [if_pos c] at h; exact absurd (congrArg Prod.fst h) (fun h => by cases h)
  rw [if_neg c] at h; clear c
  by_cases c : op = 124
  · rw [if_pos c] at h; exact absurd (congrArg Prod.fst h) (fun h => by cases h)
  rw [if_neg c] at h; clear c
  by_cases c : op = 125
  · rw [if_pos c] at h; exact absurd (congrArg Prod.fst h) (fun h => by cases h)
  rw [if_neg c] at h; clear c
  obtain ⟨_, h1, h2, h3⟩ := inj4 h
  exact ⟨h1.symm, h2.symm, h3.symm⟩
theorem red_no {op : Nat} {ks k1 : BL} {e e1 : Nat} (h : redL op ks e = (false, k1, e1)) : k1 = ks ∧ e1 = e := by
  unfold redL at h
  by_cases c : op = 121
  · rw [if_pos c] at h; exact absurd (congrArg Prod.fst h) (fun h => by cases h)
  rw [if_neg c] at h; clear c
  by_cases c : op = 122
  · rw [if_pos c] at h; exact absurd (congrArg Prod.fst h) (fun h => by cases h)
  rw [if_neg c] at h; clear c
  by_cases c : op = 105
  · rw [if_pos c] at h; exact absurd (congrArg Prod.fst h) (fun h => by cases h)
  rw [if_neg c] at h; clear c
  by_cases c : op = 115
  · rw [if_pos c] at h; exact absurd (congrArg Prod.fst h) (fun h => by cases h)
  rw [if_neg c] at h; clear c
  by_cases c : op = 116
  · rw [if_pos c] at h; exact absurd (congrArg Prod.fst h) (fun h => by cases h)
  rw [if_neg c] at h; clear c
  by_cases c : op = 126
  · rw [if_pos c] at h; exact absurd (congrArg Prod.fst h) (fun h => by cases h)
  rw [if_neg c] at h; clear c
  by_cases c : op = 130
  · rw [if_pos c] at h; exact absurd (congrArg Prod.fst h) (fun h => by cases h)
  rw [if_neg c] at h; clear c
  by_cases c : op = 135
  · rw [if_pos c] at h; exact absurd (congrArg Prod.fst h) (fun h => by cases h)
  rw [if_neg c] at h; clear c
  by_cases c : op = 136
  · rw [if_pos c] at h; exact absurd (congrArg Prod.fst h) (fun h => by cases h)
  rw [if_neg c] at h; clear c
  by_cases c : op = 168
  · rw [if_pos c] at h; exact absurd (congrArg Prod.fst h) (fun h => by cases h)
  rw [if_neg c] at h; clear c
  by_cases c : op = 170
  · rw [if_pos c] at h; exact absurd (congrArg Prod.fst h) (fun h => by cases h)
  rw [if_neg c] at h; clear c
  obtain ⟨_, h1, h2⟩ := inj3 h
  exact ⟨h1.symm, h2.symm⟩
theorem below {op : Nat} {ks js k j : BL} (h : doL op ks js = (k, j, 0)) (ho : op ≠ 122) : ks.length - 6 ≤ k.length ∧ k.take (ks.length - 6) = ks.take (ks.length - 6) := by
  obtain ⟨h1, _⟩ := do_inv h
  rcases h1 with h1 | ⟨k1, e1, h1, h2⟩
  · have := kp_mov (op := op) (ks := ks) (js := js) (e := 0)
    rw [h1] at this
    exact this
  · obtain ⟨rfl, _, rfl⟩ := mov_no h1
    rcases h2 with h2 | ⟨k2, e2, h2, h3⟩
    · have := kp_red (ks := k1) (e := 0) ho
      rw [h2] at this
      exact this
    · obtain ⟨rfl, rfl⟩ := red_no h2
      have := (kp_rec (op := op) (ks := k2) (e := 0)).mono (m := 6) (by decide)
      rw [h3] at this
      exact this
end Go.Proofs.Ytikkhkjndbicgaa

/- Stacks: the laws of what lies below, and of numbers. -/
namespace Go.Proofs.Ytikkhkjndbicgaa
open Go.RowKit _root_.Go.Proofs.Try
set_option maxRecDepth 10000
set_option maxHeartbeats 1000000
theorem BysV.take {w : World} {Z : Nat → Prop} {vs : List Value} {ks : BL} (h : BysV w Z vs ks) (n : Nat) : BysV w Z (vs.take n) (ks.take n) :=
 bysv_iff.2 ⟨by simp [h.1], fun p hp => (bysv_iff.1 h).2 p (zip_take n p hp)⟩
end Go.Proofs.Ytikkhkjndbicgaa

/- What is written is read as it was (the plain part of XNumPlain). -/
namespace Go.Proofs.Ytikkhkjndbicgaa
end Go.Proofs.Ytikkhkjndbicgaa

/- Stacks: numbers, in plain Lean. -/
namespace Go.Proofs.Ytikkhkjndbicgaa
open Go.RowKit
def numOp (op : Nat) : Bool := decide (op = 147) || decide (op = 148) || decide (op = 156) || decide (op = 158) || decide (op = 159) || decide (op = 160) || decide (op = 161) || decide (op = 162) || decide (op = 163) || decide (op = 164)
end Go.Proofs.Ytikkhkjndbicgaa

/- Stacks: the document's answer, in plain Lean, and that it is the program's. -/
namespace Go.Proofs.Ytikkhkjndbicgaa
open Go.RowKit
def takeI (op : Nat) : Int :=
  if op = 97 ∨ op = 116 then 0
  else if op = 105 ∨ op = 117 ∨ op = 118 ∨ op = 115 ∨ op = 130 ∨ op = 139 ∨ op = 140 ∨ op = 143 ∨ op = 144 ∨ op = 145 ∨ op = 146 ∨ op = 168 ∨ op = 170 then 1
  else if op = 109 ∨ op = 110 ∨ op = 119 ∨ op = 120 ∨ op = 124 ∨ op = 125 ∨ op = 126 ∨ op = 135 ∨ op = 136 ∨ op = 147 ∨ op = 148 ∨ op = 154 ∨ op = 155 ∨ op = 156 ∨ op = 157 ∨ op = 158 ∨ op = 159 ∨ op = 160 ∨ op = 161 ∨ op = 162 ∨ op = 163 ∨ op = 164 then 2
  else if op = 111 ∨ op = 123 ∨ op = 165 then 3
  else if op = 112 ∨ op = 114 then 4
  else if op = 113 then 6
  else -1
def movP (op : Nat) : List Nat × Bool :=
  if op = 97 ∨ op = 109 ∨ op = 117 then ([], true)
  else if op = 110 then ([0, 1, 0, 1], true)
  else if op = 111 then ([0, 1, 2, 0, 1, 2], true)
  else if op = 118 then ([0, 0], true)
  else if op = 112 then ([0, 1, 2, 3, 0, 1], true)
  else if op = 120 then ([0, 1, 0], true)
  else if op = 113 then ([2, 3, 4, 5, 0, 1], true)
  else if op = 123 then ([1, 2, 0], true)
  else if op = 114 then ([2, 3, 0, 1], true)
  else if op = 124 then ([1, 0], true)
  else if op = 119 then ([1], true)
  else if op = 125 then ([1, 0, 1], true)
  else ([], false)
def bytP (op : Nat) (xs : BL) (deep : Nat) : BL × Bool :=
  if op = 115 then (if truthL (xs.getD 0 []) = true then ([xs.getD 0 [], xs.getD 0 []], true) else (xs, true))
  else if op = 116 then ([enc (deep : Int)], true)
  else if op = 126 then ([xs.getD 0 [] ++ xs.getD 1 []], true)
  else if op = 130 then ([xs.getD 0 [], enc ((xs.getD 0 []).length : Int)], true)
  else if op = 135 ∨ op = 136 then ([flagL (decide (xs.getD 0 [] = xs.getD 1 []))], true)
  else if op = 105 then ([flagL (truthL (xs.getD 0 []))], true)
  else if op = 168 then ([shaV (xs.getD 0 [])], true)
  else if op = 170 then ([dblV (xs.getD 0 [])], true)
  else ([], false)
def oneI (op : Nat) (a : Int) : Int :=
  if op = 139 then a + 1 else if op = 140 then a - 1 else if op = 143 then -a else if op = 144 then max a (-a)
  else if decide (a = 0) = decide (op = 145) then 1 else 0
def holdB (op : Nat) (a b : Int) : Bool :=
  if op = 154 then decide (a ≠ 0) && decide (b ≠ 0) else if op = 155 then decide (a ≠ 0) || decide (b ≠ 0)
  else if op = 156 ∨ op = 157 then decide (a = b) else if op = 158 then decide (a ≠ b) else if op = 159 then decide (a < b)
  else if op = 160 then decide (b < a) else if op = 161 then decide (a ≤ b) else decide (b ≤ a)
def rknL (op : Nat) (zs : List Int) : List UInt8 :=
  if zs.length = 1 then enc (oneI op (zs.getD 0 0))
  else if op = 147 then enc (zs.getD 0 0 + zs.getD 1 0)
  else if op = 148 then enc (zs.getD 0 0 - zs.getD 1 0)
  else if op = 163 then enc (min (zs.getD 0 0) (zs.getD 1 0))
  else if op = 164 then enc (max (zs.getD 0 0) (zs.getD 1 0))
  else if op = 165 then flagL (wthB zs)
  else flagL (holdB op (zs.getD 0 0) (zs.getD 1 0))
def numsP : BL → List Int × Nat
  | [] => ([], 0)
  | x :: xs => if (decN x 4).2 = 0 then (if (numsP xs).2 = 0 then ((decN x 4).1 :: (numsP xs).1, 0) else ([], 15)) else ([], 15)
def putP (op : Nat) (xs : BL) (deep : Nat) : BL × Nat :=
  if (movP op).2 = true then ((movP op).1.map (fun p => xs.getD p []), 0)
  else if (bytP op xs deep).2 = true then ((bytP op xs deep).1, 0)
  else if (numsP xs).2 = 0 then ([rknL op (numsP xs).1], 0) else ([], 15)
def deepP (op : Nat) (ks js : BL) : BL × BL × Nat :=
  if (popN 4 ks js).2.2.2 = 0 then
    (let n := (popN 4 ks js).1
     let k := (popN 4 ks js).2.1
     if n < 0 ∨ (k.length : Int) ≤ n then ([], [], 12)
     else if op = 121 then donL (k ++ [k.getD (k.length - 1 - n.toNat) []]) js 0
     else donL ((k.take (k.length - 1 - n.toNat) ++ k.drop (k.length - 1 - n.toNat + 1)) ++ [k.getD (k.length - 1 - n.toNat) []]) js 0)
  else ([], [], (popN 4 ks js).2.2.2)
def altP (op : Nat) (ks js : BL) : BL × BL × Nat :=
  if op = 107 then (if ks.length = 0 then ([], [], 12) else donL (ks.take (ks.length - 1)) (js ++ [lastB ks]) 0)
  else if js.length = 0 then ([], [], 12) else donL (ks ++ [lastB js]) (js.take (js.length - 1)) 0
def doP (op : Nat) (ks js : BL) : BL × BL × Nat :=
  if op = 121 ∨ op = 122 then deepP op ks js
  else if op = 107 ∨ op = 108 then altP op ks js
  else if takeI op < 0 then ([], [], 10)
  else if (ks.length : Int) < takeI op then ([], [], 12)
  else
    let p := putP op (ks.drop (ks.length - (takeI op).toNat)) ks.length
    if p.2 = 0 then
      (if op = 105 ∨ op = 136 ∨ op = 157 then (if (p.1.getD 0 []).length = 0 then ([], [], 16) else donL (ks.take (ks.length - (takeI op).toNat)) js 0)
       else donL (ks.take (ks.length - (takeI op).toNat) ++ p.1) js 0)
    else ([], [], p.2)
theorem don_bad {k j : BL} {e : Nat} (h : e ≠ 0) : donL k j e = ([], [], e) := by
  unfold donL; simp [h]
theorem must_bad {b : Bool} {e : Nat} (h : e ≠ 0) : mustE b e = e := by
  unfold mustE failE; simp [h]
theorem cutEnd {ks : BL} {n : Nat} (h : n ≤ ks.length) : ∃ A B, ks = A ++ B ∧ B.length = n := ⟨ks.take (ks.length - n), ks.drop (ks.length - n), (List.take_append_drop _ _).symm, by simp; omega⟩
theorem at_cut {A B : BL} {n : Nat} (h : B.length = n) : (A ++ B).drop ((A ++ B).length - n) = B ∧ (A ++ B).take ((A ++ B).length - n) = A := by
  subst h
  simp
theorem p_mov {op n : Nat} {ps : List Nat} {ks js : BL} (hm : ∀ ks, movL op ks js 0 = (true, (shufL n ps ks 0).1, js, (shufL n ps ks 0).2)) (ht : takeI op = (n : Int)) (hp : movP op = (ps, true))
    (h1 : ¬ (op = 121 ∨ op = 122)) (h2 : ¬ (op = 107 ∨ op = 108)) (h3 : ¬ (op = 105 ∨ op = 136 ∨ op = 157)) : doP op ks js = doL op ks js := by
  unfold doP doL
  rw [if_neg h1, if_neg h2, ht, if_neg (by omega)]
  simp only [hm, if_true, Int.toNat_natCast]
  unfold shufL needE failE
  by_cases hl : ks.length < n
  · rw [if_pos (by omega)]
    simp only [hl, if_true]
    rw [if_neg (by decide), don_bad (show (12 : Nat) ≠ 0 by decide)]
  · rw [if_neg (by omega)]
    simp only [hl, if_false, if_true, putP, hp, if_neg h3]
theorem dec_code (x : List UInt8) (m : Int) : (decN x m).2 = 0 ∨ (decN x m).2 = 15 := by
  unfold decN; split <;> simp
theorem opsR_err : ∀ (n : Nat) (ks : BL) (e : Nat), e ≠ 0 → (opsR n ks e).2.2 = e
  | 0, ks, e, h => rfl
  | n + 1, ks, e, h => by
    unfold opsR
    have h1 : popL ks e = ([], ks, e) ∨ popL ks e = ([], ks, needE ks.length 1 e) := by
      unfold popL; right; rw [if_neg (by unfold needE failE; split <;> simp_all)]
    have h2 : (popL ks e).2.2 = e := by
      unfold popL; rw [if_neg (by unfold needE failE; split <;> simp_all)]
      unfold needE failE; split <;> simp_all
    simp only [h2, readL, if_neg h]
    exact opsR_err n _ e h
theorem nums_code : ∀ (xs : BL), (numsP xs).2 = 0 ∨ (numsP xs).2 = 15
  | [] => .inl rfl
  | x :: xs => by
    unfold numsP
    split
    · split <;> simp
    · simp
theorem nums_snoc : ∀ (xs : BL) (x : List UInt8), (numsP (xs ++ [x])).2 = (if (decN x 4).2 = 0 then (numsP xs).2 else 15) ∧ ((numsP (xs ++ [x])).2 = 0 → (numsP (xs ++ [x])).1 = (numsP xs).1 ++ [(decN x 4).1])
  | [], x => by
    unfold numsP
    rcases dec_code x 4 with h | h <;> simp [h, numsP]
  | y :: ys, x => by
    obtain ⟨h1, h2⟩ := nums_snoc ys x
    rw [List.cons_append, numsP, numsP]
    rcases dec_code y 4 with hy | hy <;> rcases dec_code x 4 with hx | hx <;> rcases nums_code ys with hn | hn <;> simp_all
theorem nums_ops : ∀ (xs A : BL), (opsR xs.length (A ++ xs) 0).2.2 = (numsP xs).2 ∧ ((numsP xs).2 = 0 → opsR xs.length (A ++ xs) 0 = ((numsP xs).1, A, 0)) := by
  intro xs
  induction h : xs.length generalizing xs with
  | zero =>
    intro A
    obtain rfl := List.length_eq_zero_iff.1 h
    simp [opsR, numsP]
  | succ n ih =>
    intro A
    obtain ⟨ys, x, rfl⟩ : ∃ ys x, xs = ys ++ [x] := ⟨xs.dropLast, xs.getLast (by intro e; rw [e] at h; cases h), (List.dropLast_concat_getLast _).symm⟩
    have hy : ys.length = n := by simpa using h
    obtain ⟨s1, s2⟩ := nums_snoc ys x
    obtain ⟨i1, i2⟩ := ih ys hy A
    rw [← List.append_assoc, opsR_step (n := n) (z := (decN x 4).1) (e2 := (decN x 4).2) pop_snoc (by unfold readL; rw [if_pos rfl])]
    rcases dec_code x 4 with hx | hx
    · rw [hx] at s1 ⊢
      rw [if_pos rfl] at s1
      refine ⟨by rw [s1]; exact i1, fun h0 => ?_⟩
      rw [i2 (by rw [← s1]; exact h0), s2 h0]
    · rw [hx] at s1 ⊢
      rw [if_neg (by decide)] at s1
      refine ⟨by rw [s1]; exact opsR_err _ _ _ (by decide), fun h0 => ?_⟩
      rw [s1] at h0; cases h0
theorem nums_len : ∀ (xs : BL), (numsP xs).2 = 0 → (numsP xs).1.length = xs.length
  | [], _ => rfl
  | x :: xs, h => by
    unfold numsP at h ⊢
    split at h
    · split at h
      · rename_i h1 h2
        simp [h1, h2, nums_len xs h2]
      · cases h
    · cases h
theorem enc_truI (b : Bool) : enc (truI b) = flagL b := by
  cases b
  · show enc 0 = []
    unfold enc; rw [show (0 : Int).natAbs = 0 from rfl, le_zero]; rfl
  · exact enc_one (n := 1) (by decide) (by decide)
theorem p_num {op n : Nat} {f : List Int → List UInt8} {ks js : BL} (hm : movL op ks js 0 = (false, ks, js, 0)) (hr : redL op ks 0 = (false, ks, 0))
    (hc : recL op ks 0 = (true, (opsL n ks 0).2.1 ++ [f (opsL n ks 0).1], (opsL n ks 0).2.2)) (ht : takeI op = (n : Int)) (hp : (movP op).2 = false) (hb : ∀ xs d, (bytP op xs d).2 = false)
    (hf : ∀ zs : List Int, zs.length = n → rknL op zs = f zs)
    (h1 : ¬ (op = 121 ∨ op = 122)) (h2 : ¬ (op = 107 ∨ op = 108)) (h3 : ¬ (op = 105 ∨ op = 136 ∨ op = 157)) : doP op ks js = doL op ks js := by
  unfold doP doL
  rw [if_neg h1, if_neg h2, ht, if_neg (by omega)]
  simp only [hm, hr, hc, if_true, Bool.false_eq_true, if_false, Int.toNat_natCast]
  by_cases hl : ks.length < n
  · rw [if_pos (by omega)]
    have hn : needE ks.length n 0 = 12 := by unfold needE failE; rw [if_pos hl]; rfl
    unfold opsL
    rw [hn, if_neg (by decide), don_bad (show (12 : Nat) ≠ 0 by decide)]
  · rw [if_neg (by omega)]
    obtain ⟨A, B, rfl, hB⟩ := cutEnd (Nat.le_of_not_lt hl)
    obtain ⟨c1, c2⟩ := at_cut (A := A) hB
    rw [c1, c2]
    obtain ⟨o1, o2⟩ := nums_ops B A
    rw [hB] at o1 o2
    have hop : opsL n (A ++ B) 0 = opsR n (A ++ B) 0 := by unfold opsL needE; rw [if_neg hl, if_pos rfl]
    rw [hop]
    simp only [putP, hp, hb, Bool.false_eq_true, if_false]
    rcases nums_code B with h0 | h0
    · rw [o2 h0]
      simp only [h0, if_true, if_neg h3, hf _ ((nums_len B h0).trans hB)]
    · simp only [h0, show ¬ (15 : Nat) = 0 by decide, if_false]
      rw [o1, h0, don_bad (by decide)]
theorem p_157 {ks js : BL} : doP 157 ks js = doL 157 ks js := by
  have hm : movL 157 ks js 0 = (false, ks, js, 0) := by simp [movL]
  have hr : redL 157 ks 0 = (false, ks, 0) := by simp [redL]
  have hc : recL 157 ks 0 = (true, (opsL 2 ks 0).2.1, mustE (decide ((opsL 2 ks 0).1.getD 0 0 = (opsL 2 ks 0).1.getD 1 0)) (opsL 2 ks 0).2.2) := by
    simp [recL, unL, binL, cmpL, truI]
  unfold doP doL
  rw [if_neg (by decide), if_neg (by decide), if_neg (by decide)]
  simp only [hm, hr, hc, if_true, Bool.false_eq_true, if_false, show takeI 157 = 2 from by decide, show Int.toNat 2 = 2 from rfl]
  by_cases hl : ks.length < 2
  · rw [if_pos (by omega)]
    have hn : needE ks.length 2 0 = 12 := by unfold needE failE; rw [if_pos hl]; rfl
    unfold opsL
    rw [hn, if_neg (by decide)]
    simp only []
    rw [must_bad (by decide), don_bad (by decide)]
  · rw [if_neg (by omega)]
    obtain ⟨A, B, rfl, hB⟩ := cutEnd (Nat.le_of_not_lt hl)
    obtain ⟨c1, c2⟩ := at_cut (A := A) hB
    rw [c1, c2]
    obtain ⟨o1, o2⟩ := nums_ops B A
    rw [hB] at o1 o2
    have hop : opsL 2 (A ++ B) 0 = opsR 2 (A ++ B) 0 := by unfold opsL needE; rw [if_neg hl, if_pos rfl]
    rw [hop]
    have hp : (movP 157).2 = false := by decide
    have hb : ∀ xs d, (bytP 157 xs d).2 = false := fun xs d => by simp [bytP]
    simp only [putP, hp, hb, Bool.false_eq_true, if_false]
    rcases nums_code B with h0 | h0
    · rw [o2 h0]
      have hk : rknL 157 (numsP B).1 = flagL (decide ((numsP B).1.getD 0 0 = (numsP B).1.getD 1 0)) := by
        have := (nums_len B h0).trans hB
        simp [rknL, holdB, this]
      simp only [h0, if_true, hk, mustE]
      obtain ⟨b, hb1⟩ : ∃ b, decide ((numsP B).1.getD 0 0 = (numsP B).1.getD 1 0) = b := ⟨_, rfl⟩
      rw [hb1]
      cases b
      · exact (don_bad (e := 16) (by decide)).symm
      · rfl
    · simp only [h0, show ¬ (15 : Nat) = 0 by decide, if_false]
      rw [o1, h0, must_bad (by decide), don_bad (by decide)]
theorem p_109 {ks js : BL} : doP 109 ks js = doL 109 ks js := p_mov (n := 2) (ps := []) (fun ks => by simp [movL]) (by decide) (by decide) (by decide) (by decide) (by decide)
theorem p_110 {ks js : BL} : doP 110 ks js = doL 110 ks js := p_mov (n := 2) (ps := [0, 1, 0, 1]) (fun ks => by simp [movL]) (by decide) (by decide) (by decide) (by decide) (by decide)
theorem p_111 {ks js : BL} : doP 111 ks js = doL 111 ks js := p_mov (n := 3) (ps := [0, 1, 2, 0, 1, 2]) (fun ks => by simp [movL]) (by decide) (by decide) (by decide) (by decide) (by decide)
theorem p_112 {ks js : BL} : doP 112 ks js = doL 112 ks js := p_mov (n := 4) (ps := [0, 1, 2, 3, 0, 1]) (fun ks => by simp [movL]) (by decide) (by decide) (by decide) (by decide) (by decide)
theorem p_113 {ks js : BL} : doP 113 ks js = doL 113 ks js := p_mov (n := 6) (ps := [2, 3, 4, 5, 0, 1]) (fun ks => by simp [movL]) (by decide) (by decide) (by decide) (by decide) (by decide)
theorem p_114 {ks js : BL} : doP 114 ks js = doL 114 ks js := p_mov (n := 4) (ps := [2, 3, 0, 1]) (fun ks => by simp [movL]) (by decide) (by decide) (by decide) (by decide) (by decide)
theorem p_117 {ks js : BL} : doP 117 ks js = doL 117 ks js := p_mov (n := 1) (ps := []) (fun ks => by simp [movL]) (by decide) (by decide) (by decide) (by decide) (by decide)
theorem p_118 {ks js : BL} : doP 118 ks js = doL 118 ks js := p_mov (n := 1) (ps := [0, 0]) (fun ks => by simp [movL]) (by decide) (by decide) (by decide) (by decide) (by decide)
theorem p_119 {ks js : BL} : doP 119 ks js = doL 119 ks js := p_mov (n := 2) (ps := [1]) (fun ks => by simp [movL]) (by decide) (by decide) (by decide) (by decide) (by decide)
theorem p_120 {ks js : BL} : doP 120 ks js = doL 120 ks js := p_mov (n := 2) (ps := [0, 1, 0]) (fun ks => by simp [movL]) (by decide) (by decide) (by decide) (by decide) (by decide)
theorem p_123 {ks js : BL} : doP 123 ks js = doL 123 ks js := p_mov (n := 3) (ps := [1, 2, 0]) (fun ks => by simp [movL]) (by decide) (by decide) (by decide) (by decide) (by decide)
theorem p_124 {ks js : BL} : doP 124 ks js = doL 124 ks js := p_mov (n := 2) (ps := [1, 0]) (fun ks => by simp [movL]) (by decide) (by decide) (by decide) (by decide) (by decide)
theorem p_125 {ks js : BL} : doP 125 ks js = doL 125 ks js := p_mov (n := 2) (ps := [1, 0, 1]) (fun ks => by simp [movL]) (by decide) (by decide) (by decide) (by decide) (by decide)
theorem p_139 {ks js : BL} : doP 139 ks js = doL 139 ks js := p_num (n := 1) (f := fun zs => enc (unL 139 (zs.getD 0 0)).1) (by simp [movL]) (by simp [redL]) (by simp [recL, unL]) (by decide) (by decide) (fun xs d => by simp [bytP]) (fun zs h => by simp [rknL, h, oneI, unL, truI]) (by decide) (by decide) (by decide)
theorem p_140 {ks js : BL} : doP 140 ks js = doL 140 ks js := p_num (n := 1) (f := fun zs => enc (unL 140 (zs.getD 0 0)).1) (by simp [movL]) (by simp [redL]) (by simp [recL, unL]) (by decide) (by decide) (fun xs d => by simp [bytP]) (fun zs h => by simp [rknL, h, oneI, unL, truI]) (by decide) (by decide) (by decide)
theorem p_143 {ks js : BL} : doP 143 ks js = doL 143 ks js := p_num (n := 1) (f := fun zs => enc (unL 143 (zs.getD 0 0)).1) (by simp [movL]) (by simp [redL]) (by simp [recL, unL]) (by decide) (by decide) (fun xs d => by simp [bytP]) (fun zs h => by simp [rknL, h, oneI, unL, truI]) (by decide) (by decide) (by decide)
theorem p_144 {ks js : BL} : doP 144 ks js = doL 144 ks js := p_num (n := 1) (f := fun zs => enc (unL 144 (zs.getD 0 0)).1) (by simp [movL]) (by simp [redL]) (by simp [recL, unL]) (by decide) (by decide) (fun xs d => by simp [bytP]) (fun zs h => by simp [rknL, h, oneI, unL, truI]) (by decide) (by decide) (by decide)
theorem p_145 {ks js : BL} : doP 145 ks js = doL 145 ks js := p_num (n := 1) (f := fun zs => enc (unL 145 (zs.getD 0 0)).1) (by simp [movL]) (by simp [redL]) (by simp [recL, unL]) (by decide) (by decide) (fun xs d => by simp [bytP]) (fun zs h => by simp [rknL, h, oneI, unL, truI]) (by decide) (by decide) (by decide)
theorem p_146 {ks js : BL} : doP 146 ks js = doL 146 ks js := p_num (n := 1) (f := fun zs => enc (unL 146 (zs.getD 0 0)).1) (by simp [movL]) (by simp [redL]) (by simp [recL, unL]) (by decide) (by decide) (fun xs d => by simp [bytP]) (fun zs h => by simp [rknL, h, oneI, unL, truI]) (by decide) (by decide) (by decide)
theorem p_147 {ks js : BL} : doP 147 ks js = doL 147 ks js := p_num (n := 2) (f := fun zs => enc (binL 147 (zs.getD 0 0) (zs.getD 1 0)).1) (by simp [movL]) (by simp [redL]) (by simp [recL, unL, binL, cmpL]) (by decide) (by decide) (fun xs d => by simp [bytP]) (fun zs h => by simp [rknL, h, binL, cmpL, holdB]) (by decide) (by decide) (by decide)
theorem p_148 {ks js : BL} : doP 148 ks js = doL 148 ks js := p_num (n := 2) (f := fun zs => enc (binL 148 (zs.getD 0 0) (zs.getD 1 0)).1) (by simp [movL]) (by simp [redL]) (by simp [recL, unL, binL, cmpL]) (by decide) (by decide) (fun xs d => by simp [bytP]) (fun zs h => by simp [rknL, h, binL, cmpL, holdB]) (by decide) (by decide) (by decide)
theorem p_154 {ks js : BL} : doP 154 ks js = doL 154 ks js := p_num (n := 2) (f := fun zs => enc (binL 154 (zs.getD 0 0) (zs.getD 1 0)).1) (by simp [movL]) (by simp [redL]) (by simp [recL, unL, binL, cmpL]) (by decide) (by decide) (fun xs d => by simp [bytP]) (fun zs h => by simp [rknL, h, binL, cmpL, holdB, enc_truI]) (by decide) (by decide) (by decide)
theorem p_155 {ks js : BL} : doP 155 ks js = doL 155 ks js := p_num (n := 2) (f := fun zs => enc (binL 155 (zs.getD 0 0) (zs.getD 1 0)).1) (by simp [movL]) (by simp [redL]) (by simp [recL, unL, binL, cmpL]) (by decide) (by decide) (fun xs d => by simp [bytP]) (fun zs h => by simp [rknL, h, binL, cmpL, holdB, enc_truI]) (by decide) (by decide) (by decide)
theorem p_156 {ks js : BL} : doP 156 ks js = doL 156 ks js := p_num (n := 2) (f := fun zs => enc (binL 156 (zs.getD 0 0) (zs.getD 1 0)).1) (by simp [movL]) (by simp [redL]) (by simp [recL, unL, binL, cmpL]) (by decide) (by decide) (fun xs d => by simp [bytP]) (fun zs h => by simp [rknL, h, binL, cmpL, holdB, enc_truI]) (by decide) (by decide) (by decide)
theorem p_158 {ks js : BL} : doP 158 ks js = doL 158 ks js := p_num (n := 2) (f := fun zs => enc (binL 158 (zs.getD 0 0) (zs.getD 1 0)).1) (by simp [movL]) (by simp [redL]) (by simp [recL, unL, binL, cmpL]) (by decide) (by decide) (fun xs d => by simp [bytP]) (fun zs h => by simp [rknL, h, binL, cmpL, holdB, enc_truI]) (by decide) (by decide) (by decide)
theorem p_159 {ks js : BL} : doP 159 ks js = doL 159 ks js := p_num (n := 2) (f := fun zs => enc (binL 159 (zs.getD 0 0) (zs.getD 1 0)).1) (by simp [movL]) (by simp [redL]) (by simp [recL, unL, binL, cmpL]) (by decide) (by decide) (fun xs d => by simp [bytP]) (fun zs h => by simp [rknL, h, binL, cmpL, holdB, enc_truI]) (by decide) (by decide) (by decide)
theorem p_160 {ks js : BL} : doP 160 ks js = doL 160 ks js := p_num (n := 2) (f := fun zs => enc (binL 160 (zs.getD 0 0) (zs.getD 1 0)).1) (by simp [movL]) (by simp [redL]) (by simp [recL, unL, binL, cmpL]) (by decide) (by decide) (fun xs d => by simp [bytP]) (fun zs h => by simp [rknL, h, binL, cmpL, holdB, enc_truI]) (by decide) (by decide) (by decide)
theorem p_161 {ks js : BL} : doP 161 ks js = doL 161 ks js := p_num (n := 2) (f := fun zs => enc (binL 161 (zs.getD 0 0) (zs.getD 1 0)).1) (by simp [movL]) (by simp [redL]) (by simp [recL, unL, binL, cmpL]) (by decide) (by decide) (fun xs d => by simp [bytP]) (fun zs h => by simp [rknL, h, binL, cmpL, holdB, enc_truI]) (by decide) (by decide) (by decide)
theorem p_162 {ks js : BL} : doP 162 ks js = doL 162 ks js := p_num (n := 2) (f := fun zs => enc (binL 162 (zs.getD 0 0) (zs.getD 1 0)).1) (by simp [movL]) (by simp [redL]) (by simp [recL, unL, binL, cmpL]) (by decide) (by decide) (fun xs d => by simp [bytP]) (fun zs h => by simp [rknL, h, binL, cmpL, holdB, enc_truI]) (by decide) (by decide) (by decide)
theorem p_163 {ks js : BL} : doP 163 ks js = doL 163 ks js := p_num (n := 2) (f := fun zs => enc (binL 163 (zs.getD 0 0) (zs.getD 1 0)).1) (by simp [movL]) (by simp [redL]) (by simp [recL, unL, binL, cmpL]) (by decide) (by decide) (fun xs d => by simp [bytP]) (fun zs h => by simp [rknL, h, binL, cmpL, holdB]) (by decide) (by decide) (by decide)
theorem p_164 {ks js : BL} : doP 164 ks js = doL 164 ks js := p_num (n := 2) (f := fun zs => enc (binL 164 (zs.getD 0 0) (zs.getD 1 0)).1) (by simp [movL]) (by simp [redL]) (by simp [recL, unL, binL, cmpL]) (by decide) (by decide) (fun xs d => by simp [bytP]) (fun zs h => by simp [rknL, h, binL, cmpL, holdB]) (by decide) (by decide) (by decide)
theorem p_165 {ks js : BL} : doP 165 ks js = doL 165 ks js := p_num (n := 3) (f := fun zs => flagL (wthB zs)) (by simp [movL]) (by simp [redL]) (by simp [recL]) (by decide) (by decide) (fun xs d => by simp [bytP]) (fun zs h => by simp [rknL, h]) (by decide) (by decide) (by decide)
end Go.Proofs.Ytikkhkjndbicgaa

/- Stacks: the document's answer is the program's: what reads, what goes deep, all operations. -/
namespace Go.Proofs.Ytikkhkjndbicgaa
open Go.RowKit
theorem lastB_snoc {A : BL} {x : List UInt8} : lastB (A ++ [x]) = x := by simp [lastB]
theorem need_fit {N n : Nat} (h : n ≤ N) : needE N n 0 = 0 := by unfold needE; rw [if_neg (by omega)]
theorem need_lack {N n : Nat} (h : N < n) : needE N n 0 = 12 := by unfold needE failE; rw [if_pos h]; rfl
theorem two_at {A : BL} {x y : List UInt8} : (A ++ [x, y]).getD ((A ++ [x, y]).length - 2) [] = x ∧ (A ++ [x, y]).getD ((A ++ [x, y]).length - 1) [] = y ∧ (A ++ [x, y]).take ((A ++ [x, y]).length - 2) = A := by
  have h2 : (A ++ [x, y]).length - 2 = A.length := by simp
  have h1 : (A ++ [x, y]).length - 1 = A.length + 1 := by simp
  rw [h1, h2]
  refine ⟨by simp, by simp, by simp⟩
theorem p_rd {op n : Nat} {ks js : BL} (hm : ∀ ks, movL op ks js 0 = (false, ks, js, 0)) (hr : ∀ (A B : BL), B.length = n → redL op (A ++ B) 0 = (true, A ++ (bytP op B (A ++ B).length).1, 0)) (hl : ∀ ks : BL, ks.length < n → ∃ k1, redL op ks 0 = (true, k1, 12))
    (ht : takeI op = (n : Int)) (hp : (movP op).2 = false) (hb : ∀ xs d, (bytP op xs d).2 = true)
    (h1 : ¬ (op = 121 ∨ op = 122)) (h2 : ¬ (op = 107 ∨ op = 108)) (h3 : ¬ (op = 105 ∨ op = 136 ∨ op = 157)) : doP op ks js = doL op ks js := by
  unfold doP doL
  rw [if_neg h1, if_neg h2, ht, if_neg (by omega)]
  simp only [hm, Bool.false_eq_true, if_false, Int.toNat_natCast]
  by_cases hlt : ks.length < n
  · obtain ⟨k1, h⟩ := hl ks hlt
    rw [if_pos (by omega), h]
    simp only [if_true]
    rw [don_bad (by decide)]
  · rw [if_neg (by omega)]
    obtain ⟨A, B, rfl, hB⟩ := cutEnd (Nat.le_of_not_lt hlt)
    obtain ⟨c1, c2⟩ := at_cut (A := A) hB
    rw [c1, c2, hr A B hB]
    simp only [putP, hp, hb, Bool.false_eq_true, if_false, if_true, if_neg h3]
theorem p_vf {op n : Nat} {f : BL → Bool} {ks js : BL} (hm : ∀ ks, movL op ks js 0 = (false, ks, js, 0)) (hr : ∀ (A B : BL), B.length = n → redL op (A ++ B) 0 = (true, A, mustE (f B) 0)) (hl : ∀ ks : BL, ks.length < n → ∃ k1, redL op ks 0 = (true, k1, 12))
    (ht : takeI op = (n : Int)) (hp : (movP op).2 = false) (hb : ∀ xs d, bytP op xs d = ([flagL (f xs)], true))
    (h1 : ¬ (op = 121 ∨ op = 122)) (h2 : ¬ (op = 107 ∨ op = 108)) (h3 : op = 105 ∨ op = 136 ∨ op = 157) : doP op ks js = doL op ks js := by
  unfold doP doL
  rw [if_neg h1, if_neg h2, ht, if_neg (by omega)]
  simp only [hm, Bool.false_eq_true, if_false, Int.toNat_natCast]
  by_cases hlt : ks.length < n
  · obtain ⟨k1, h⟩ := hl ks hlt
    rw [if_pos (by omega), h]
    simp only [if_true]
    rw [don_bad (by decide)]
  · rw [if_neg (by omega)]
    obtain ⟨A, B, rfl, hB⟩ := cutEnd (Nat.le_of_not_lt hlt)
    obtain ⟨c1, c2⟩ := at_cut (A := A) hB
    rw [c1, c2, hr A B hB]
    simp only [putP, hp, hb, Bool.false_eq_true, if_false, if_true, if_pos h3]
    cases f B
    · exact (don_bad (e := 16) (by decide)).symm
    · rfl
theorem one_of {B : BL} (h : B.length = 1) : ∃ x, B = [x] := List.length_eq_one_iff.1 h
theorem two_of {B : BL} (h : B.length = 2) : ∃ x y, B = [x, y] := by
  match B, h with
  | [x, y], _ => exact ⟨x, y, rfl⟩
theorem p_97 {ks js : BL} : doP 97 ks js = doL 97 ks js := by
  unfold doP doL
  simp [movL, takeI, putP, movP, show ¬ ((ks.length : Int) < 0) by omega]
theorem p_116 {ks js : BL} : doP 116 ks js = doL 116 ks js := by
  unfold doP doL
  simp [movL, takeI, putP, movP, bytP, redL, show ¬ ((ks.length : Int) < 0) by omega]
theorem p_105 {ks js : BL} : doP 105 ks js = doL 105 ks js :=
  p_vf (n := 1) (f := fun B => truthL (B.getD 0 [])) (fun ks => by simp [movL]) (fun A B hB => by
    obtain ⟨x, rfl⟩ := one_of hB
    simp [redL, pop_snoc]) (fun ks h => ⟨_, by
    simp only [redL]
    have hp : popL ks 0 = ([], ks, 12) := pop_less (by omega)
    simp [hp, must_bad]; rfl⟩) (by decide) (by decide) (fun xs d => by simp [bytP]) (by decide) (by decide) (by decide)
theorem p_115 {ks js : BL} : doP 115 ks js = doL 115 ks js :=
  p_rd (n := 1) (fun ks => by simp [movL]) (fun A B hB => by
    obtain ⟨x, rfl⟩ := one_of hB
    have hn : needE (A ++ [x]).length 1 0 = 0 := need_fit (by simp)
    simp only [redL, ifdL, hn, lastB_snoc, bytP]
    by_cases ht : truthL x = true <;> simp [ht]) (fun ks h => ⟨_, by
    simp [redL, ifdL, need_lack h]; rfl⟩) (by decide) (by decide) (fun xs d => by simp only [bytP, if_true]; split <;> rfl) (by decide) (by decide) (by decide)
theorem p_130 {ks js : BL} : doP 130 ks js = doL 130 ks js :=
  p_rd (n := 1) (fun ks => by simp [movL]) (fun A B hB => by
    obtain ⟨x, rfl⟩ := one_of hB
    have hn2 : needE (A.length + 1) 1 0 = 0 := need_fit (by omega)
    simp [redL, sizL, hn2, lastB_snoc, bytP]) (fun ks h => ⟨_, by
    simp [redL, sizL, need_lack h]; rfl⟩) (by decide) (by decide) (fun xs d => by simp [bytP]) (by decide) (by decide) (by decide)
theorem p_168 {ks js : BL} : doP 168 ks js = doL 168 ks js :=
  p_rd (n := 1) (fun ks => by simp [movL]) (fun A B hB => by
    obtain ⟨x, rfl⟩ := one_of hB
    have hn2 : needE (A.length + 1) 1 0 = 0 := need_fit (by omega)
    simp [redL, hashL, hn2, lastB_snoc, bytP]) (fun ks h => ⟨_, by
    simp [redL, hashL, need_lack h]; rfl⟩) (by decide) (by decide) (fun xs d => by simp [bytP]) (by decide) (by decide) (by decide)
theorem p_170 {ks js : BL} : doP 170 ks js = doL 170 ks js :=
  p_rd (n := 1) (fun ks => by simp [movL]) (fun A B hB => by
    obtain ⟨x, rfl⟩ := one_of hB
    have hn2 : needE (A.length + 1) 1 0 = 0 := need_fit (by omega)
    simp [redL, hashL, hn2, lastB_snoc, bytP]) (fun ks h => ⟨_, by
    simp [redL, hashL, need_lack h]; rfl⟩) (by decide) (by decide) (fun xs d => by simp [bytP]) (by decide) (by decide) (by decide)
theorem p_126 {ks js : BL} : doP 126 ks js = doL 126 ks js :=
  p_rd (n := 2) (fun ks => by simp [movL]) (fun A B hB => by
    obtain ⟨x, y, rfl⟩ := two_of hB
    have hn : needE (A ++ [x, y]).length 2 0 = 0 := need_fit (by simp)
    obtain ⟨t1, t2, t3⟩ := two_at (A := A) (x := x) (y := y)
    simp only [redL, joinL, hn, t1, t2, t3, bytP]
    simp) (fun ks h => ⟨_, by
    simp [redL, joinL, need_lack h]; rfl⟩) (by decide) (by decide) (fun xs d => by simp [bytP]) (by decide) (by decide) (by decide)
theorem dec_symm (x y : List UInt8) : decide (x = y) = decide (y = x) := by
  by_cases h : x = y
  · subst h; rfl
  · rw [decide_eq_false h, decide_eq_false (fun e => h e.symm)]
theorem p_135 {ks js : BL} : doP 135 ks js = doL 135 ks js :=
  p_rd (n := 2) (fun ks => by simp [movL]) (fun A B hB => by
    obtain ⟨x, y, rfl⟩ := two_of hB
    have hn : needE (A ++ [x, y]).length 2 0 = 0 := need_fit (by simp)
    obtain ⟨t1, t2, t3⟩ := two_at (A := A) (x := x) (y := y)
    simp only [redL, alikL, hn, t1, t2, t3, bytP, dec_symm y x]
    simp) (fun ks h => ⟨_, by
    simp [redL, alikL, need_lack h]; rfl⟩) (by decide) (by decide) (fun xs d => by simp [bytP]) (by decide) (by decide) (by decide)
theorem p_136 {ks js : BL} : doP 136 ks js = doL 136 ks js :=
  p_vf (n := 2) (f := fun B => decide (B.getD 0 [] = B.getD 1 [])) (fun ks => by simp [movL]) (fun A B hB => by
    obtain ⟨x, y, rfl⟩ := two_of hB
    have hn : needE (A ++ [x, y]).length 2 0 = 0 := need_fit (by simp)
    obtain ⟨t1, t2, t3⟩ := two_at (A := A) (x := x) (y := y)
    simp only [redL, alikL, hn, t1, t2, t3, dec_symm y x]
    simp) (fun ks h => ⟨_, by
    simp [redL, alikL, need_lack h, must_bad]; rfl⟩) (by decide) (by decide) (fun xs d => by simp [bytP]) (by decide) (by decide) (by decide)
theorem p_107 {ks js : BL} : doP 107 ks js = doL 107 ks js := by
  unfold doP doL altP
  rw [if_neg (by decide), if_pos (by decide), if_pos rfl]
  simp only [movL, show ¬ (107 : Nat) = 97 by decide, if_false, if_true]
  by_cases h : ks.length = 0
  · rw [if_pos h, pop_less h]
    exact (don_bad (e := 12) (by decide)).symm
  · rw [if_neg h]
    have hn : needE ks.length 1 0 = 0 := need_fit (by omega)
    unfold popL
    simp only [hn, if_true]
theorem p_108 {ks js : BL} : doP 108 ks js = doL 108 ks js := by
  unfold doP doL altP
  rw [if_neg (by decide), if_pos (by decide), if_neg (by decide)]
  simp only [movL, show ¬ (108 : Nat) = 97 by decide, show ¬ (108 : Nat) = 107 by decide, if_false, if_true, backL]
  by_cases h : js.length = 0
  · rw [if_pos h, if_pos h]
    exact (don_bad (e := 12) (by decide)).symm
  · rw [if_neg h, if_neg h]
theorem eraseIdx_cut (k : BL) (i : Nat) : k.take i ++ k.drop (i + 1) = k.eraseIdx i := (List.eraseIdx_eq_take_drop_succ k i).symm
theorem p_deep {op : Nat} {r : Bool} {ks js : BL} (hop : op = 121 ∧ r = false ∨ op = 122 ∧ r = true) (hr : ∀ ks, redL op ks 0 = (true, deepL r ks 0)) (hm : ∀ ks, movL op ks js 0 = (false, ks, js, 0)) : doP op ks js = doL op ks js := by
  have h1 : op = 121 ∨ op = 122 := by rcases hop with h | h <;> simp [h.1]
  unfold doP doL
  rw [if_pos h1]
  simp only [hm, hr, Bool.false_eq_true, if_false, if_true]
  obtain ⟨x, k1, e1, hp⟩ : ∃ x k1 e1, popL ks 0 = (x, k1, e1) := ⟨_, _, _, rfl⟩
  obtain ⟨z, e2, hz⟩ : ∃ z e2, readL x 4 e1 = (z, e2) := ⟨_, _, rfl⟩
  unfold deepP deepL popN
  simp only [hp, hz]
  by_cases h0 : e2 = 0
  · simp only [h0, if_true]
    unfold deepR
    by_cases hb : z < 0 ∨ (k1.length : Int) ≤ z
    · rw [if_pos hb, if_pos hb]
      exact (don_bad (e := 12) (by decide)).symm
    · rw [if_neg hb, if_neg hb]
      rcases hop with ⟨rfl, rfl⟩ | ⟨rfl, rfl⟩
      · rfl
      · rw [if_neg (by decide), eraseIdx_cut]; rfl
  · simp only [h0, if_false]
    exact (don_bad h0).symm
theorem p_121 {ks js : BL} : doP 121 ks js = doL 121 ks js := p_deep (.inl ⟨rfl, rfl⟩) (fun ks => by simp [redL]) (fun ks => by simp [movL])
theorem p_122 {ks js : BL} : doP 122 ks js = doL 122 ks js := p_deep (.inr ⟨rfl, rfl⟩) (fun ks => by simp [redL]) (fun ks => by simp [movL])
theorem do_ref (op : Nat) (ks js : BL) : doP op ks js = doL op ks js := by
  by_cases h97 : op = 97
  · subst h97; exact p_97
  by_cases h105 : op = 105
  · subst h105; exact p_105
  by_cases h107 : op = 107
  · subst h107; exact p_107
  by_cases h108 : op = 108
  · subst h108; exact p_108
  by_cases h109 : op = 109
  · subst h109; exact p_109
  by_cases h110 : op = 110
  · subst h110; exact p_110
  by_cases h111 : op = 111
  · subst h111; exact p_111
  by_cases h112 : op = 112
  · subst h112; exact p_112
  by_cases h113 : op = 113
  · subst h113; exact p_113
  by_cases h114 : op = 114
  · subst h114; exact p_114
  by_cases h115 : op = 115
  · subst h115; exact p_115
  by_cases h116 : op = 116
  · subst h116; exact p_116
  by_cases h117 : op = 117
  · subst h117; exact p_117
  by_cases h118 : op = 118
  · subst h118; exact p_118
  by_cases h119 : op = 119
  · subst h119; exact p_119
  by_cases h120 : op = 120
  · subst h120; exact p_120
  by_cases h121 : op = 121
  · subst h121; exact p_121
  by_cases h122 : op = 122
  · subst h122; exact p_122
  by_cases h123 : op = 123
  · subst h123; exact p_123
  by_cases h124 : op = 124
  · subst h124; exact p_124
  by_cases h125 : op = 125
  · subst h125; exact p_125
  by_cases h126 : op = 126
  · subst h126; exact p_126
  by_cases h130 : op = 130
  · subst h130; exact p_130
  by_cases h135 : op = 135
  · subst h135; exact p_135
  by_cases h136 : op = 136
  · subst h136; exact p_136
  by_cases h139 : op = 139
  · subst h139; exact p_139
  by_cases h140 : op = 140
  · subst h140; exact p_140
  by_cases h143 : op = 143
  · subst h143; exact p_143
  by_cases h144 : op = 144
  · subst h144; exact p_144
  by_cases h145 : op = 145
  · subst h145; exact p_145
  by_cases h146 : op = 146
  · subst h146; exact p_146
  by_cases h147 : op = 147
  · subst h147; exact p_147
  by_cases h148 : op = 148
  · subst h148; exact p_148
  by_cases h154 : op = 154
  · subst h154; exact p_154
  by_cases h155 : op = 155
  · subst h155; exact p_155
  by_cases h156 : op = 156
  · subst h156; exact p_156
  by_cases h157 : op = 157
  · subst h157; exact p_157
  by_cases h158 : op = 158
  · subst h158; exact p_158
  by_cases h159 : op = 159
  · subst h159; exact p_159
  by_cases h160 : op = 160
  · subst h160; exact p_160
  by_cases h161 : op = 161
  · subst h161; exact p_161
  by_cases h162 : op = 162
  · subst h162; exact p_162
  by_cases h163 : op = 163
  · subst h163; exact p_163
  by_cases h164 : op = 164
  · subst h164; exact p_164
  by_cases h165 : op = 165
  · subst h165; exact p_165
  by_cases h168 : op = 168
  · subst h168; exact p_168
  by_cases h170 : op = 170
  · subst h170; exact p_170
  have ht : takeI op = -1 := by simp only [takeI, h97, h105, h107, h108, h109, h110, h111, h112, h113, h114, h115, h116, h117, h118, h119, h120, h121, h122, h123, h124, h125, h126, h130, h135, h136, h139, h140, h143, h144, h145, h146, h147, h148, h154, h155, h156, h157, h158, h159, h160, h161, h162, h163, h164, h165, h168, h170, or_self, if_false]
  unfold doP doL
  rw [if_neg (by omega), if_neg (by omega), ht, if_pos (by decide)]
  simp only [movL, redL, recL, unL, binL, cmpL, h97, h105, h107, h108, h109, h110, h111, h112, h113, h114, h115, h116, h117, h118, h119, h120, h121, h122, h123, h124, h125, h126, h130, h135, h136, h139, h140, h143, h144, h145, h146, h147, h148, h154, h155, h156, h157, h158, h159, h160, h161, h162, h163, h164, h165, h168, h170, if_false, Bool.false_eq_true, if_true]
theorem pop_ref (ks js : BL) : popS ks js = if ks.length = 0 then ([], [], [], 12) else (lastB ks, ks.take (ks.length - 1), js, 0) := by
  unfold popS
  by_cases h : ks.length = 0
  · rw [if_pos h, pop_less h]; rfl
  · rw [if_neg h]
    have hn : needE ks.length 1 0 = 0 := need_fit (by omega)
    unfold popL
    simp only [hn, if_true]
end Go.Proofs.Ytikkhkjndbicgaa

/- Stacks: what the walks of the document's answer want. -/
namespace Go.Proofs.Ytikkhkjndbicgaa
open Go.RowKit
structure MR where
  a : Option Addr
  c : Nat
  vs : List Value
  b : Option Addr
  d : Nat
  us : List Value
structure MRx where
  a : Option Addr
  c : Nat
  vs : List Value
  b : Option Addr
  d : Nat
  us : List Value
  x : Option Addr
  y : Nat
section
variable {n : Nat} {w0 : Bs} {fs : List Sl} {bs : List Bl} {a : Act} {w : World}
theorem St.retS (hs : St n w0 fs bs a w) {ks : List Nat} {L : List Fz} (h : selL w0.S ks = some (L.map fun e => (true, e))) (hnd : ks.Nodup) : OkL w w0.Z w0.B L := by
  intro i e he
  obtain ⟨k, hk, hS⟩ := selL_get h i (true, e) (by simp [he])
  refine Fz.ok_mono (fun _ _ h => h) (fun g hg _ => ⟨⟨hg.1, fun j e' hj he' => ?_⟩, rfl⟩) (hs.fz k _ hS rfl)
  obtain ⟨k', hk', hS'⟩ := selL_get h j (true, e') (by simp [he'])
  refine hg.2.2 k' (true, e') (fun e1 => hj ?_) hS' rfl
  subst e1
  have hlt : j < ks.length := (List.getElem?_eq_some_iff.1 hk').1
  exact (List.getElem?_inj hlt hnd).1 (hk'.trans hk.symm)
theorem bysv_oneC {Z : Nat → Prop} {vs : List Value} {ks : BL} (h : BysV w Z vs ks) : ∀ u ∈ vs, u.oneCell' = true := by
  intro u hu
  obtain ⟨i, hi⟩ := List.mem_iff_getElem?.1 hu
  have hlt : i < vs.length := (List.getElem?_eq_some_iff.1 hi).1
  obtain ⟨l, hl⟩ : ∃ l, ks[i]? = some l := ⟨_, List.getElem?_eq_getElem (by rw [← h.1]; exact hlt)⟩
  obtain ⟨ad, c, rfl, _⟩ := h.2 i u l hi hl
  rfl
theorem St.joinY (hs : St n w0 fs bs a w) (m : Option Nat) (i j : Nat) {vs us : List Value} {ls ks : BL} (h1 : w0.S[i]? = some (true, .bys vs ls)) (h2 : w0.S[j]? = some (true, .bys us ks)) (hok : okS m w0.S 1 = true) : St n (w0.withS (putS m w0.S [.bys (vs ++ us) (ls ++ ks)])) fs bs a w :=
  hs.pushS m hok (okl1 (bysv_app (hs.all h1 rfl) (hs.all h2 rfl)))
theorem St.takeY (hs : St n w0 fs bs a w) (m : Option Nat) (i j : Nat) {vs : List Value} {ls : BL} (h1 : w0.S[i]? = some (true, .bys vs ls)) (hok : okS m w0.S 1 = true) : St n (w0.withS (putS m w0.S [.bys (vs.take j) (ls.take j)])) fs bs a w :=
  hs.pushS m hok (okl1 ((hs.all h1 rfl).take j))
theorem St.dropY (hs : St n w0 fs bs a w) (m : Option Nat) (i j : Nat) {vs : List Value} {ls : BL} (h1 : w0.S[i]? = some (true, .bys vs ls)) (hok : okS m w0.S 1 = true) : St n (w0.withS (putS m w0.S [.bys (vs.drop j) (ls.drop j)])) fs bs a w :=
  hs.pushS m hok (okl1 ((hs.all h1 rfl).drop j))
end
theorem popN_err {ks js k1 j1 : BL} {x : List UInt8} {e : Nat} {most : Int} (h : popS ks js = (x, k1, j1, e)) (he : e ≠ 0) : popN most ks js = (0, [], [], e) := by
  rw [pop_ref] at h
  by_cases h0 : ks.length = 0
  · rw [if_pos h0] at h
    obtain ⟨_, _, _, rfl⟩ := inj4 h
    unfold popN
    rw [pop_less h0]
    rfl
  · rw [if_neg h0] at h
    exact absurd (inj4 h).2.2.2.symm he
theorem popN_dec {ks js k1 j1 : BL} {x : List UInt8} {e2 : Nat} {z most : Int} (h : popS ks js = (x, k1, j1, 0)) (hd : decN x most = (z, e2)) : popN most ks js = if e2 = 0 then (z, k1, j1, 0) else (0, [], [], e2) := by
  rw [pop_ref] at h
  by_cases h0 : ks.length = 0
  · rw [if_pos h0] at h
    exact absurd (inj4 h).2.2.2 (by decide)
  · rw [if_neg h0] at h
    obtain ⟨rfl, rfl, rfl, _⟩ := inj4 h
    have hp : popL ks 0 = (lastB ks, ks.take (ks.length - 1), 0) := by unfold popL; rw [need_fit (by omega), if_pos rfl]
    unfold popN
    rw [hp]
    simp only [readL, if_true, hd]
theorem popS_ok {B : Nat} {ks js k1 j1 : BL} {x : List UInt8} {e : Nat} (ok : OkN B ks) (oj : OkN B js) (h : popS ks js = (x, k1, j1, e)) : x.length ≤ B ∧ OkN B k1 ∧ OkN B j1 := by
  rw [pop_ref] at h
  by_cases h0 : ks.length = 0
  · rw [if_pos h0] at h
    obtain ⟨rfl, rfl, rfl, _⟩ := inj4 h
    exact ⟨Nat.zero_le _, OkN.nil, OkN.nil⟩
  · rw [if_neg h0] at h
    obtain ⟨rfl, rfl, rfl, _⟩ := inj4 h
    exact ⟨ok.at _, ok.take _, oj⟩
theorem altP_err {op : Nat} {ks js k1 j1 : BL} {x : List UInt8} {e : Nat} (ho : op = 107) (h : popS ks js = (x, k1, j1, e)) (he : e ≠ 0) : altP op ks js = ([], [], e) := by
  rw [pop_ref] at h
  unfold altP
  rw [if_pos ho]
  by_cases h0 : ks.length = 0
  · rw [if_pos h0] at h ⊢
    obtain ⟨_, _, _, rfl⟩ := inj4 h
    rfl
  · rw [if_neg h0] at h
    exact absurd (inj4 h).2.2.2.symm he
theorem altP_ok {op : Nat} {ks js k1 j1 : BL} {x : List UInt8} (ho : op = 107) (h : popS ks js = (x, k1, j1, 0)) : altP op ks js = donL k1 (js ++ [x]) 0 := by
  rw [pop_ref] at h
  unfold altP
  rw [if_pos ho]
  by_cases h0 : ks.length = 0
  · rw [if_pos h0] at h
    exact absurd (inj4 h).2.2.2 (by decide)
  · rw [if_neg h0] at h ⊢
    obtain ⟨rfl, rfl, _, _⟩ := inj4 h
    rfl
theorem popN_js {ks js k1 j1 : BL} {z most : Int} (h : popN most ks js = (z, k1, j1, 0)) : j1 = js := by
  unfold popN at h
  split at h
  · exact (inj4 h).2.2.1.symm
  · rename_i h1
    exact absurd (inj4 h).2.2.2 h1
theorem popN_ok {B : Nat} {ks js k1 j1 : BL} {z most : Int} {e : Nat} (ok : OkN B ks) (oj : OkN B js) (h : popN most ks js = (z, k1, j1, e)) : OkN B k1 ∧ OkN B j1 := by
  obtain ⟨x, k2, j2, e2, h2⟩ : ∃ x k2 j2 e2, popS ks js = (x, k2, j2, e2) := ⟨_, _, _, _, rfl⟩
  obtain ⟨_, o1, o2⟩ := popS_ok ok oj h2
  by_cases h0 : e2 = 0
  · subst h0
    obtain ⟨z3, e3, hd⟩ : ∃ z3 e3, decN x most = (z3, e3) := ⟨_, _, rfl⟩
    rw [popN_dec h2 hd] at h
    split at h
    · obtain ⟨_, rfl, rfl, _⟩ := inj4 h
      exact ⟨o1, o2⟩
    · obtain ⟨_, rfl, rfl, _⟩ := inj4 h
      exact ⟨OkN.nil, OkN.nil⟩
  · rw [popN_err h2 h0] at h
    obtain ⟨_, rfl, rfl, _⟩ := inj4 h
    exact ⟨OkN.nil, OkN.nil⟩
theorem OkN.cut {B : Nat} {k : BL} (ok : OkN B k) (i : Nat) : OkN B (k.take i ++ k.drop (i + 1)) := by
  rw [eraseIdx_cut]; exact ok.erase i
theorem deepP_err {op : Nat} {ks js k j : BL} {z : Int} {e : Nat} (h : popN 4 ks js = (z, k, j, e)) (he : e ≠ 0) : deepP op ks js = ([], [], e) := by
  unfold deepP
  simp only [h, he, if_false]
theorem deepP_out {op : Nat} {ks js k j : BL} {z : Int} (h : popN 4 ks js = (z, k, j, 0)) (hz : z < 0 ∨ (k.length : Int) ≤ z) : deepP op ks js = ([], [], 12) := by
  unfold deepP
  simp only [h, if_true, if_pos hz]
theorem deepP_in {op ni : Nat} {ks js k j : BL} {z : Int} {li : List UInt8} (h : popN 4 ks js = (z, k, j, 0)) (h1 : ¬ z < 0) (h2 : ¬ (k.length : Int) ≤ z) (hn : z = (ni : Int)) (hl : k[k.length - 1 - ni]? = some li) :
    deepP op ks js = if op = 121 then donL (k ++ [li]) js 0 else donL ((k.take (k.length - 1 - ni) ++ k.drop (k.length - 1 - ni + 1)) ++ [li]) js 0 := by
  subst hn
  unfold deepP
  simp only [h, if_true, if_neg (show ¬ ((ni : Int) < 0 ∨ (k.length : Int) ≤ ni) from fun e => e.elim h1 h2), Int.toNat_natCast, getD_of hl]
theorem one_bd {op : Nat} {a z : Int} (hb : -2147483648 < a ∧ a < 2147483648) (h : oneI op a = z) : -4294967296 < z ∧ z < 4294967296 := by
  rw [← h]
  unfold oneI
  split
  · omega
  · split
    · omega
    · split
      · omega
      · split
        · omega
        · split <;> omega
theorem renc_o (n : Int) (hn1 : -9223372036854775808 ≤ n) (hn2 : n < 9223372036854775808) (w0 : World) (Z : Nat → Prop) : Calls Try.prog 66 #[.int .i64 n] w0 (Ret w0 Z (ρ := Option Addr × Nat) (fun r => .slice r.1 (enc n).length r.2) (fun r => [.own (.slice r.1 (enc n).length r.2) 5 1 (enc n).length (bcs (enc n))])) :=
  (encodeR_any w0 n hn1 hn2).mono fun _ _ h => enc_retO h
theorem rflag_o (v : Bool) (w0 : World) (Z : Nat → Prop) : Calls Try.prog 74 #[.bool v] w0 (Ret w0 Z (ρ := Option Addr × Nat) (fun r => .slice r.1 (flagL v).length r.2) (fun r => [.own (.slice r.1 (flagL v).length r.2) 5 1 (flagL v).length (bcs (flagL v))])) :=
  (flagR_any w0 v).mono fun _ _ h => enc_retO h
end Go.Proofs.Ytikkhkjndbicgaa
