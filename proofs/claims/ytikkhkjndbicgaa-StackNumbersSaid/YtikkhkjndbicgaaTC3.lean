/- Several texts in one, what this law needs of them: StkA. -/
import Derived.Test.YtikkhkjndbicgaaTC2

/- Stacks: one's own copy, the limits, what a machine's small operations do. -/
namespace Go.Proofs.Ytikkhkjndbicgaa
open Go.RowKit
set_option maxRecDepth 10000
set_option maxHeartbeats 1000000
theorem inf_slice_34 : Inf Try.prog 34 (.slice none 0 0) 1 24 := inf_of (by kernel_rfl)
theorem clone_o (ad : Option Addr) (nl c : Nat) (l : List UInt8) (hlen : l.length ≤ 100000) (w0 : World) (Z : Nat → Prop) (hl : ByV w0 Z (.slice ad nl c) l): Calls Try.prog 63 #[.slice ad nl c] w0 fun e w' => Ret w0 Z (ρ := Option Addr × Nat) (fun r => .slice r.1 l.length r.2) (fun r => [.own (.slice r.1 l.length r.2) 5 1 l.length (bcs l)]) e w' := by
  obtain rfl := byv_len hl
  refine enterS (n := 8) (args := [.slice ad l.length c]) (S := [(true, .cel (.slice ad l.length c) l.length (bcs l))]) (Z := Z) Try.func63 rfl rfl (Nat.le_of_ble_eq_true rfl) (sokC hl sok0) rfl fun ac hs => ?_
  refine wp_seq ?_
  refine wp_region_lit ?_
  refine lstep (wpO_plain rfl (op_assign hs none rfl rfl rfl rfl fun ac hs => ?_))
  refine wpList_nil ?_
  refine then_n ?_
  refine wp_seq ?_
  refine wp_seq ?_
  refine wp_region_lit ?_
  refine lstep (wpO_plain rfl (op_move hs none rfl rfl rfl rfl fun ac hs => ?_))
  refine lstep (wpO_plain rfl (op_bin hs none (v := .bool ad.isNone) rfl rfl rfl rfl (fun _ => rfl) (bin_eqlNil Try.underlying34) rfl fun ac hs => ?_))
  refine wpList_nil ?_
  refine then_n ?_
  refine wp_cond_split (hs.ev rfl) (fun hc => ?_) (fun hc => ?_)
  · skip
    refine wp_seq ?_
    refine wp_region_lit ?_
    refine lstep (wpO_plain rfl (op_assign hs none rfl rfl rfl rfl fun ac hs => ?_))
    refine wpList_nil ?_
    refine then_n ?_
    refine wp_ret ?_
    refine then_r ?_
    exact bodyPost_ret (res1 rfl (rv_t hs rfl)) hs.defers ⟨⟨none, 0⟩, congrArg Ending.returned (ret_nil (byv_none hl hc)), hs.bel rfl, okl_nilO (byv_none hl hc)⟩
  · skip
    refine wp_skip ?_
    refine then_n ?_
    refine wp_seq ?_
    refine wp_region_lit ?_
    refine lstep (wpO_plain rfl (op_bsO0 hs none none (size := 1) rfl rfl Try.underlying34 inf_u8_5 rfl rfl fun ad2 ac w hs => ?_))
    refine lstep (wpO_plain rfl (op_move hs none rfl rfl rfl rfl fun ac hs => ?_))
    refine lstep (wpO_plain rfl (op_appR hs none 1 0 (N' := l.length) (ys := bcs l) rfl rfl rfl rfl rfl rfl Try.underlying34 inf_u8_5 rfl (by decide) (bcs_len1 rfl) (bcs_one _) (by decide) (show 0 + l.length ≤ 1000000 by omega) (Nat.zero_add _) rfl rfl rfl fun ad3 cp4 ac w hs => ?_))
    refine lstep (wpO_plain rfl (op_assign hs none rfl rfl rfl rfl fun ac hs => ?_))
    refine wpList_nil ?_
    refine then_n ?_
    refine wp_ret ?_
    exact bodyPost_ret (res1 rfl (rv_t hs rfl)) hs.defers ⟨⟨ad3, cp4⟩, rfl, hs.bel rfl, hs.ret1 1 rfl⟩
theorem own_c (ad : Option Addr) (nl c : Nat) (vs : List Value) (ls : BL) (hB : OkN 8000 ls) (w0 : World) (Z : Nat → Prop) (hV : CelV w0 Z (.slice ad nl c) nl vs) (hn : nl = ls.length) (hY : BysV w0 Z vs ls): Calls Try.prog 42 #[.slice ad nl c] w0 fun e w' => Ret w0 Z (ρ := M1) (fun r => .slice r.a ls.length r.c) (fun r => [.own (.slice r.a ls.length r.c) 34 1 ls.length r.vs, .bysO r.G r.vs ls]) e w' := by
  subst hn
  have hl8 : ls.length ≤ 8000 := hB.1
  refine enterS (n := 23) (args := [.slice ad ls.length c]) (S := [(true, .cel (.slice ad ls.length c) ls.length vs), (true, .bys vs ls)]) (Z := Z) Try.func42 rfl rfl (Nat.le_of_ble_eq_true rfl) (sokC hV (sokC hY sok0)) rfl fun ac hs => ?_
  refine wp_seq ?_
  refine wp_region_lit ?_
  refine lstep (wpO_plain rfl (op_assign hs none rfl rfl rfl rfl fun ac hs => ?_))
  refine wpList_nil ?_
  refine then_n ?_
  refine wp_seq ?_
  refine wp_region_lit ?_
  refine lstep (wpO_plain rfl (op_move hs none rfl rfl rfl rfl fun ac hs => ?_))
  refine lstep (wpO_plain rfl (op_blt hs none (v := .int .i64 ((ls.length : Nat) : Int)) rfl rfl rfl (blt_len Try.underlying22) rfl fun ac hs => ?_))
  refine lstep (wpO_plain rfl (op_bin hs none (v := .int .i64 ((ls.length + 4 : Nat) : Int)) rfl rfl rfl rfl (fun _ => rfl) (bin_addN (x := ls.length) (y := 4) (z := ls.length + 4) rfl (show ls.length + 4 < 9223372036854775808 by omega)) rfl fun ac hs => ?_))
  refine lstep (wpO_plain rfl (op_makeO hs none none (c := ls.length + 4) rfl rfl rfl rfl Try.underlying22 inf_slice_34 (show ls.length + 4 ≤ 10000 by omega) rfl (by decide) (by decide) (by decide) rfl rfl fun ad1 ac w hs => ?_))
  refine lstep (wpO_plain rfl (op_assign hs none rfl rfl rfl rfl fun ac hs => ?_))
  refine wpList_nil ?_
  refine then_n ?_
  refine wp_seq ?_
  refine wp_seq ?_
  replace hs : St 23 ⟨w0, [], [(true, .cel (.slice ad ls.length c) ls.length vs), (true, .bys vs ls), (true, .own (.slice ad1 0 (ls.length + 4)) 34 1 0 ([]))], Z, noX⟩ [(0, true, .slice ad ls.length c), (2, true, .slice none 0 0), (3, true, .slice ad1 0 (ls.length + 4))] [] ac _ := hs.re ⟨rfl, rfl, rfl, trivial⟩
  refine wp_region_lit ?_
  refine lstep (wpO_plain rfl (op_move hs none rfl rfl rfl rfl fun ac hs => ?_))
  refine lstep (wpO_plain rfl (op_blt hs none (v := .int .i64 ((ls.length : Nat) : Int)) rfl rfl rfl (blt_len Try.underlying22) rfl fun ac hs => ?_))
  refine lstep (wpO_plain rfl (op_move hs none rfl rfl rfl rfl fun ac hs => ?_))
  refine wpList_nil ?_
  refine then_n ?_
  refine wp_block ?_
  replace hs := hs.nilBysO none rfl
  refine wp_loop_m (fun μ ac w => ∃ (i : Nat) (ao : Option Addr) (co : Nat) (vo : List Value) (G : Nat → Prop), (ls.length - i) = μ ∧ (i ≤ ls.length) ∧ St 23 ⟨w0, [], [(true, .cel (.slice ad ls.length c) ls.length vs), (true, .bys vs ls), (true, .own (.slice ao ((ls.take i).length) co) 34 1 ((ls.take i).length) vo), (true, .bysO G vo (ls.take i))], Z, noX⟩ [(2, true, .slice none 0 0), (10, true, .slice ad ls.length c), (11, true, .int .i64 ((ls.length : Nat) : Int)), (3, true, .slice ao ((ls.take i).length) co), (12, true, .int .i64 ((i : Nat) : Int))] [] ac w) ?_ ?_
  · exact ⟨_, 0, ad1, (ls.length + 4), ([]), noX, rfl, (by omega), (hs.re (fs' := [(2, true, .slice none 0 0), (10, true, .slice ad ls.length c), (11, true, .int .i64 ((ls.length : Nat) : Int)), (3, true, .slice ad1 ((ls.take 0).length) (ls.length + 4)), (12, true, .int .i64 ((0 : Nat) : Int))]) ⟨rfl, rfl, rfl, rfl, rfl, trivial⟩)⟩
  intro μ ac w ⟨i, ao, co, vo, G, hμ, hi, hs⟩
  have htl : (ls.take i).length ≤ 8000 := (hB.take i).1
  refine wp_seq ?_
  refine wp_region_lit ?_
  refine lstep (wpO_plain rfl (op_bin hs none (v := .bool (decide (i < ls.length))) rfl rfl rfl rfl (fun _ => rfl) (bin_lssN (x := i) (y := ls.length)) rfl fun ac hs => ?_))
  refine wpList_nil ?_
  refine then_n ?_
  refine wp_seq ?_
  refine wp_cond_split (hs.ev rfl) (fun hc => ?_) (fun hc => ?_)
  · skip
    have hp2 := of_decide_eq_true hc
    have hlt := of_decide_eq_true hc
    obtain ⟨li, hli⟩ : ∃ z, ls[i]? = some z := ⟨_, List.getElem?_eq_getElem hlt⟩
    obtain ⟨al, cl, hvl⟩ := bysv_at (hs.all (k := 1) rfl rfl) hli
    have lli : li.length ≤ 8000 := hB.2 _ (List.mem_of_getElem? hli)
    replace hs := hs.pick none 1 rfl hvl hli rfl
    refine wp_skip ?_
    refine then_n ?_
    refine wp_seq ?_
    refine wp_block ?_
    refine wp_seq ?_
    refine wp_region_lit ?_
    refine lstep (wpO_plain rfl (op_idxC hs none 0 (j := i) rfl rfl rfl rfl rfl Try.underlying22 Try.sizeOf34 (show i < ls.length by omega) (off := i) (by omega) rfl fun ac hs => ?_))
    refine lstep (wpO_plain rfl (op_loadC hs none 0 (u := .slice al li.length cl) rfl rfl rfl rfl Try.isAgg34 Try.sizeOf34 (by decide) hvl rfl fun ac hs => ?_))
    refine lstep (wpO_plain rfl (op_assign hs none rfl rfl rfl rfl fun ac hs => ?_))
    refine wpList_nil ?_
    refine then_n ?_
    refine wp_region_lit ?_
    refine lstep (wpO_plain rfl (op_move hs none rfl rfl rfl rfl fun ac hs => ?_))
    refine lstep (wpO_plain rfl (op_move hs none rfl rfl rfl rfl fun ac hs => ?_))
    refine lstep (wpO_plain rfl (op_callV (F := 63) (ρ := Option Addr × Nat) hs none none (v := fun r => .slice r.1 li.length r.2) (E := fun r => [.own (.slice r.1 li.length r.2) 5 1 li.length (bcs li)]) (j := 1) rfl rfl rfl rfl (Try.call63 _) (fun hs => clone_o al li.length cl li (Nat.le_trans lli (by decide)) _ _ (hs.celT (k := 4) rfl)) (fun _ => rfl) (fun _ => rfl) rfl rfl fun ⟨ad3, cp4⟩ ac w hs => ?_))
    refine lstep (wpO_plain rfl (op_bsO hs none none (qs := [(0, .slice ad3 li.length cp4)]) (cs := [.slice ad3 li.length cp4]) rfl rfl rfl rfl Try.underlying22 inf_slice_34 (by decide) (by decide) (fill_one _ _ rfl) rfl rfl rfl rfl fun ad6 ac w hs => ?_))
    refine lstep (wpO_plain rfl (op_appR hs none 2 6 (N' := ((ls.take i) ++ [li]).length) (ys := vo ++ [.slice ad3 li.length cp4]) rfl rfl rfl rfl rfl rfl Try.underlying22 inf_slice_34 rfl (by decide) rfl (by intro u hu; obtain rfl := List.mem_singleton.1 hu; rfl) (by decide) (show (ls.take i).length + 1 ≤ 1000000 by first | omega | ((try simp only [List.length_drop, List.length_take, List.length_append, List.length_cons, List.length_nil]); omega)) (by simp) rfl rfl rfl fun ad7 cp8 ac w hs => ?_))
    refine lstep (wpO_plain rfl (op_assign hs none rfl rfl rfl rfl fun ac hs => ?_))
    refine wpList_nil ?_
    refine blk_n ?_
    refine then_n ?_
    replace hs : St 23 ⟨w0, [], [(true, .cel (.slice ad ls.length c) ls.length vs), (true, .bys vs ls), (true, .own (.slice ad7 (((ls.take i) ++ [li]).length) cp8) 34 1 (((ls.take i) ++ [li]).length) (vo ++ [.slice ad3 li.length cp4])), (true, .bysO G vo (ls.take i)), (true, .cel (.slice al li.length cl) li.length (bcs li)), (true, .own (.slice ad3 li.length cp4) 5 1 li.length (bcs li)), (true, .own (.slice ad6 1 1) 34 1 1 ([.slice ad3 li.length cp4]))], Z, noX⟩ [(2, true, .slice none 0 0), (10, true, .slice ad ls.length c), (11, true, .int .i64 ((ls.length : Nat) : Int)), (3, true, .slice ad7 (((ls.take i) ++ [li]).length) cp8), (12, true, .int .i64 ((i : Nat) : Int))] [] ac _ := hs.re ⟨rfl, rfl, rfl, rfl, rfl, trivial⟩
    refine wp_region_lit ?_
    refine lstep (wpO_plain rfl (op_bin hs none (v := .int .i64 ((i + 1 : Nat) : Int)) rfl rfl rfl rfl (fun _ => rfl) (bin_addN (x := i) (y := 1) (z := i + 1) rfl (show i + 1 < 9223372036854775808 by omega)) rfl fun ac hs => ?_))
    refine lstep (wpO_plain rfl (op_move hs none rfl rfl rfl rfl fun ac hs => ?_))
    refine wpList_nil ?_
    refine then_n ?_
    replace hs := hs.snocOwn (ls' := ls.take i ++ [li]) 3 5 rfl rfl rfl
    rw [show ls.take i ++ [li] = ls.take (i + 1) from take_snocB hli] at hs
    replace hs := hs.selS [0, 1, 2, 3] rfl (by decide)
    exact ⟨_, ⟨(i + 1), ad7, cp8, (vo ++ [.slice ad3 li.length cp4]), (GU G (.slice ad3 li.length cp4)), rfl, (by omega), (hs.re (fs' := [(2, true, .slice none 0 0), (10, true, .slice ad ls.length c), (11, true, .int .i64 ((ls.length : Nat) : Int)), (3, true, .slice ad7 ((ls.take (i + 1)).length) cp8), (12, true, .int .i64 (((i + 1) : Nat) : Int))]) ⟨rfl, rfl, rfl, rfl, rfl, trivial⟩)⟩, (by omega)⟩
  · skip
    have hp9 := of_decide_eq_false hc
    have hge := of_decide_eq_false hc
    rw [List.take_of_length_le (show ls.length ≤ i by omega)] at hs
    refine wp_exit ?_
    refine then_e ?_
    refine then_e ?_
    refine blk_e ?_
    refine then_n ?_
    refine wp_seq ?_
    refine wp_region_lit ?_
    refine lstep (wpO_plain rfl (op_move hs none rfl rfl rfl rfl fun ac hs => ?_))
    refine lstep (wpO_plain rfl (op_assign hs none rfl rfl rfl rfl fun ac hs => ?_))
    refine wpList_nil ?_
    refine then_n ?_
    refine wp_ret ?_
    exact bodyPost_ret (res1 rfl (rv_t hs rfl)) hs.defers ⟨⟨ao, co, vo, G⟩, rfl, hs.bel rfl, hs.ret2 2 3 rfl rfl (by decide)⟩
theorem check_c (am : Option Addr) (cm : Nat) (vs : List Value) (aa : Option Addr) (ca : Nat) (us : List Value) (ks js : BL) (rr : Nat) (h1 : ks.length ≤ 1000000) (h2 : js.length ≤ 1000000) (hr : chkL ks js = rr) (w0 : World) (Z : Nat → Prop) (hV : CelV w0 Z (.slice am ks.length cm) ks.length vs) (hY : BysV w0 Z vs ks) (hU : CelV w0 Z (.slice aa js.length ca) js.length us) (hX : BysV w0 Z us js): Calls Try.prog 16 #[.agg #[.slice am ks.length cm, .slice aa js.length ca]] w0 fun e w' => Ret w0 Z (ρ := Unit) (fun r => .int .i64 ((rr : Nat) : Int)) (fun r => []) e w' := by
  refine enterS (n := 34) (args := [.agg #[.slice am ks.length cm, .slice aa js.length ca]]) (S := [(true, .cel (.slice am ks.length cm) ks.length vs), (true, .bys vs ks), (true, .cel (.slice aa js.length ca) js.length us), (true, .bys us js)]) (Z := Z) Try.func16 rfl rfl (Nat.le_of_ble_eq_true rfl) (sokC hV (sokC hY (sokC hU (sokC hX sok0)))) rfl fun ac hs => ?_
  refine wp_seq ?_
  refine wp_region_lit ?_
  refine lstep (wpO_plain rfl (op_box hs none none (cs := [.slice am ks.length cm, .slice aa js.length ca]) rfl rfl rfl rfl rfl rfl fun g1 ac w hs => ?_))
  refine lstep (wpO_plain rfl (op_assign hs none rfl rfl rfl rfl fun ac hs => ?_))
  refine wpList_nil ?_
  refine then_n ?_
  refine wp_seq ?_
  refine wp_seq ?_
  refine wp_region_lit ?_
  refine lstep (wpO_plain rfl (op_fieldA hs none rfl rfl rfl Try.underlying24 rfl Try.sizeOf22 (by decide) rfl fun ac hs => ?_))
  refine lstep (wpO_plain rfl (op_load hs none 0 (v := .slice am ks.length cm) rfl rfl rfl rfl Try.isAgg22 Try.sizeOf22 rfl rfl fun ac hs => ?_))
  refine lstep (wpO_plain rfl (op_fieldA hs none rfl rfl rfl Try.underlying24 rfl Try.sizeOf22 (by decide) rfl fun ac hs => ?_))
  refine lstep (wpO_plain rfl (op_load hs none 0 (v := .slice aa js.length ca) rfl rfl rfl rfl Try.isAgg22 Try.sizeOf22 rfl rfl fun ac hs => ?_))
  refine lstep (wpO_plain rfl (op_build hs none (qs := [(0, .slice am ks.length cm), (1, .slice aa js.length ca)]) (v := .agg #[.slice am ks.length cm, .slice aa js.length ca]) rfl rfl rfl rfl (fun _ => by kernel_rfl) rfl fun ac hs => ?_))
  refine lstep (wpO_plain rfl (op_move hs none rfl rfl rfl rfl fun ac hs => ?_))
  refine wpList_nil ?_
  refine then_n ?_
  refine wp_block ?_
  refine wp_loop_m (fun μ ac w => (2 = μ ∧ St 34 ⟨w0, [], [(true, .cel (.slice am ks.length cm) ks.length vs), (true, .bys vs ks), (true, .cel (.slice aa js.length ca) js.length us), (true, .bys us js)], Z, noX⟩ [(1, true, .pointer (some ⟨g1, 0, none⟩)), (2, true, .int .i64 0), (11, true, .agg #[.slice am ks.length cm, .slice aa js.length ca]), (12, true, .int .i64 0)] [(true, g1, 24, [.slice am ks.length cm, .slice aa js.length ca])] ac w) ∨ (1 = μ ∧ (longB ks = false) ∧ St 34 ⟨w0, [], [(true, .cel (.slice am ks.length cm) ks.length vs), (true, .bys vs ks), (true, .cel (.slice aa js.length ca) js.length us), (true, .bys us js)], Z, noX⟩ [(1, true, .pointer (some ⟨g1, 0, none⟩)), (2, true, .int .i64 0), (11, true, .agg #[.slice am ks.length cm, .slice aa js.length ca]), (12, true, .int .i64 1)] [(true, g1, 24, [.slice am ks.length cm, .slice aa js.length ca])] ac w) ∨ (0 = μ ∧ (longB ks = false) ∧ (longB js = false) ∧ St 34 ⟨w0, [], [(true, .cel (.slice am ks.length cm) ks.length vs), (true, .bys vs ks), (true, .cel (.slice aa js.length ca) js.length us), (true, .bys us js)], Z, noX⟩ [(1, true, .pointer (some ⟨g1, 0, none⟩)), (2, true, .int .i64 0), (11, true, .agg #[.slice am ks.length cm, .slice aa js.length ca]), (12, true, .int .i64 2)] [(true, g1, 24, [.slice am ks.length cm, .slice aa js.length ca])] ac w)) ?_ ?_
  · exact ⟨_, .inl ⟨rfl, (hs.re (fs' := [(1, true, .pointer (some ⟨g1, 0, none⟩)), (2, true, .int .i64 0), (11, true, .agg #[.slice am ks.length cm, .slice aa js.length ca]), (12, true, .int .i64 0)]) ⟨rfl, rfl, rfl, rfl, trivial⟩)⟩⟩
  intro μ ac w hJ
  rcases hJ with hJ | hJ | hJ
  · obtain ⟨rfl, hs⟩ := hJ
    refine wp_seq ?_
    refine wp_region_lit ?_
    refine lstep (wpO_plain rfl (op_bin hs none (v := .bool true) rfl rfl rfl rfl (fun _ => rfl) (fun _ => by kernel_rfl) rfl fun ac hs => ?_))
    refine wpList_nil ?_
    refine then_n ?_
    refine wp_seq ?_
    refine wp_cond_true (hs.ev rfl) ?_
    refine wp_skip ?_
    refine then_n ?_
    refine wp_seq ?_
    refine wp_block ?_
    refine wp_seq ?_
    refine wp_region_lit ?_
    refine lstep (wpO_plain rfl (op_index hs none (v := .slice am ks.length cm) rfl rfl rfl rfl (fun _ => by kernel_rfl) rfl fun ac hs => ?_))
    refine lstep (wpO_plain rfl (op_assign hs none rfl rfl rfl rfl fun ac hs => ?_))
    refine wpList_nil ?_
    refine then_n ?_
    refine wp_seq ?_
    refine wp_region_lit ?_
    refine lstep (wpO_plain rfl (op_move hs none rfl rfl rfl rfl fun ac hs => ?_))
    refine lstep (wpO_plain rfl (op_blt hs none (v := .int .i64 ((ks.length : Nat) : Int)) rfl rfl rfl (blt_len Try.underlying22) rfl fun ac hs => ?_))
    refine lstep (wpO_plain rfl (op_move hs none rfl rfl rfl rfl fun ac hs => ?_))
    refine wpList_nil ?_
    refine then_n ?_
    refine wp_block ?_
    refine wp_loop_m (fun μ ac w => ∃ (j : Nat), (ks.length - j) = μ ∧ (j ≤ ks.length) ∧ (longB (ks.take j) = false) ∧ St 34 ⟨w0, [], [(true, .cel (.slice am ks.length cm) ks.length vs), (true, .bys vs ks), (true, .cel (.slice aa js.length ca) js.length us), (true, .bys us js)], Z, noX⟩ [(1, true, .pointer (some ⟨g1, 0, none⟩)), (2, true, .int .i64 0), (11, true, .agg #[.slice am ks.length cm, .slice aa js.length ca]), (12, true, .int .i64 0), (15, true, .slice am ks.length cm), (16, true, .int .i64 ((ks.length : Nat) : Int)), (17, true, .int .i64 ((j : Nat) : Int))] [(true, g1, 24, [.slice am ks.length cm, .slice aa js.length ca])] ac w) ?_ ?_
    · exact ⟨_, 0, rfl, (by omega), rfl, (hs.re (fs' := [(1, true, .pointer (some ⟨g1, 0, none⟩)), (2, true, .int .i64 0), (11, true, .agg #[.slice am ks.length cm, .slice aa js.length ca]), (12, true, .int .i64 0), (15, true, .slice am ks.length cm), (16, true, .int .i64 ((ks.length : Nat) : Int)), (17, true, .int .i64 ((0 : Nat) : Int))]) ⟨rfl, rfl, rfl, rfl, rfl, rfl, rfl, trivial⟩)⟩
    intro μ ac w ⟨j, hμ, hj, hlj, hs⟩
    refine wp_seq ?_
    refine wp_region_lit ?_
    refine lstep (wpO_plain rfl (op_bin hs none (v := .bool (decide (j < ks.length))) rfl rfl rfl rfl (fun _ => rfl) (bin_lssN (x := j) (y := ks.length)) rfl fun ac hs => ?_))
    refine wpList_nil ?_
    refine then_n ?_
    refine wp_seq ?_
    refine wp_cond_split (hs.ev rfl) (fun hc => ?_) (fun hc => ?_)
    · skip
      have hp2 := of_decide_eq_true hc
      have hlt := of_decide_eq_true hc
      obtain ⟨li, hli⟩ : ∃ z, ks[j]? = some z := ⟨_, List.getElem?_eq_getElem hlt⟩
      obtain ⟨al, cl, hvl⟩ := bysv_at (hs.all (k := 1) rfl rfl) hli
      refine wp_skip ?_
      refine then_n ?_
      refine wp_seq ?_
      refine wp_block ?_
      refine wp_seq ?_
      refine wp_region_lit ?_
      refine lstep (wpO_plain rfl (op_idxC hs none 0 (j := j) rfl rfl rfl rfl rfl Try.underlying22 Try.sizeOf34 (show j < ks.length by omega) (off := j) (by omega) rfl fun ac hs => ?_))
      refine lstep (wpO_plain rfl (op_loadC hs none 0 (u := .slice al li.length cl) rfl rfl rfl rfl Try.isAgg34 Try.sizeOf34 (by decide) hvl rfl fun ac hs => ?_))
      refine lstep (wpO_plain rfl (op_assign hs none rfl rfl rfl rfl fun ac hs => ?_))
      refine wpList_nil ?_
      refine then_n ?_
      refine wp_seq ?_
      refine wp_region_lit ?_
      refine lstep (wpO_plain rfl (op_move hs none rfl rfl rfl rfl fun ac hs => ?_))
      refine lstep (wpO_plain rfl (op_blt hs none (v := .int .i64 ((li.length : Nat) : Int)) rfl rfl rfl (blt_len Try.underlying34) rfl fun ac hs => ?_))
      refine lstep (wpO_plain rfl (op_bin hs none (v := .bool (decide (520 < li.length))) rfl rfl rfl rfl (fun _ => rfl) (bin_gtrN (x := li.length) (y := 520)) rfl fun ac hs => ?_))
      refine wpList_nil ?_
      refine then_n ?_
      refine wp_cond_split (hs.ev rfl) (fun hc => ?_) (fun hc => ?_)
      · skip
        have hp3 := of_decide_eq_true hc
        refine wp_seq ?_
        replace hs : St 34 ⟨w0, [], [(true, .cel (.slice am ks.length cm) ks.length vs), (true, .bys vs ks), (true, .cel (.slice aa js.length ca) js.length us), (true, .bys us js)], Z, noX⟩ [(1, true, .pointer (some ⟨g1, 0, none⟩)), (2, true, .int .i64 0), (11, true, .agg #[.slice am ks.length cm, .slice aa js.length ca]), (12, true, .int .i64 0), (15, true, .slice am ks.length cm), (16, true, .int .i64 ((ks.length : Nat) : Int)), (17, true, .int .i64 ((j : Nat) : Int))] [(true, g1, 24, [.slice am ks.length cm, .slice aa js.length ca])] ac _ := hs.re ⟨rfl, rfl, rfl, rfl, rfl, rfl, rfl, trivial⟩
        refine wp_region_lit ?_
        refine lstep (wpO_plain rfl (op_assign hs none rfl rfl rfl rfl fun ac hs => ?_))
        refine wpList_nil ?_
        refine then_n ?_
        refine wp_ret ?_
        refine blk_r ?_
        refine then_r ?_
        refine then_r ?_
        refine blk_r ?_
        refine blk_r ?_
        refine then_r ?_
        refine then_r ?_
        refine blk_r ?_
        refine then_r ?_
        exact bodyPost_ret (res1 rfl (rv_t hs rfl)) hs.defers ⟨(), by rw [← hr, chkL, if_pos (Or.inl (longB_yes hli hp3))]; rfl, hs.bel rfl, okl0⟩
      · skip
        have hp4 := of_decide_eq_false hc
        refine wp_skip ?_
        refine blk_n ?_
        refine then_n ?_
        replace hs : St 34 ⟨w0, [], [(true, .cel (.slice am ks.length cm) ks.length vs), (true, .bys vs ks), (true, .cel (.slice aa js.length ca) js.length us), (true, .bys us js)], Z, noX⟩ [(1, true, .pointer (some ⟨g1, 0, none⟩)), (2, true, .int .i64 0), (11, true, .agg #[.slice am ks.length cm, .slice aa js.length ca]), (12, true, .int .i64 0), (15, true, .slice am ks.length cm), (16, true, .int .i64 ((ks.length : Nat) : Int)), (17, true, .int .i64 ((j : Nat) : Int))] [(true, g1, 24, [.slice am ks.length cm, .slice aa js.length ca])] ac _ := hs.re ⟨rfl, rfl, rfl, rfl, rfl, rfl, rfl, trivial⟩
        refine wp_region_lit ?_
        refine lstep (wpO_plain rfl (op_bin hs none (v := .int .i64 ((j + 1 : Nat) : Int)) rfl rfl rfl rfl (fun _ => rfl) (bin_addN (x := j) (y := 1) (z := j + 1) rfl (show j + 1 < 9223372036854775808 by omega)) rfl fun ac hs => ?_))
        refine lstep (wpO_plain rfl (op_move hs none rfl rfl rfl rfl fun ac hs => ?_))
        refine wpList_nil ?_
        refine then_n ?_
        exact ⟨_, ⟨(j + 1), rfl, (by omega), (longB_go hli hp4 hlj), (hs.re (fs' := [(1, true, .pointer (some ⟨g1, 0, none⟩)), (2, true, .int .i64 0), (11, true, .agg #[.slice am ks.length cm, .slice aa js.length ca]), (12, true, .int .i64 0), (15, true, .slice am ks.length cm), (16, true, .int .i64 ((ks.length : Nat) : Int)), (17, true, .int .i64 (((j + 1) : Nat) : Int))]) ⟨rfl, rfl, rfl, rfl, rfl, rfl, rfl, trivial⟩)⟩, (by omega)⟩
    · skip
      have hp5 := of_decide_eq_false hc
      refine wp_exit ?_
      refine then_e ?_
      refine then_e ?_
      refine blk_e ?_
      refine blk_n ?_
      refine then_n ?_
      refine wp_region_lit ?_
      refine lstep (wpO_plain rfl (op_bin hs none (v := .int .i64 1) rfl rfl rfl rfl (fun _ => rfl) (fun _ => by kernel_rfl) rfl fun ac hs => ?_))
      refine lstep (wpO_plain rfl (op_move hs none rfl rfl rfl rfl fun ac hs => ?_))
      refine wpList_nil ?_
      refine then_n ?_
      exact ⟨_, .inr (.inl ⟨rfl, (longB_end hp5 hlj), (hs.re (fs' := [(1, true, .pointer (some ⟨g1, 0, none⟩)), (2, true, .int .i64 0), (11, true, .agg #[.slice am ks.length cm, .slice aa js.length ca]), (12, true, .int .i64 1)]) ⟨rfl, rfl, rfl, rfl, trivial⟩)⟩), by omega⟩
  · obtain ⟨rfl, hb1, hs⟩ := hJ
    refine wp_seq ?_
    refine wp_region_lit ?_
    refine lstep (wpO_plain rfl (op_bin hs none (v := .bool true) rfl rfl rfl rfl (fun _ => rfl) (fun _ => by kernel_rfl) rfl fun ac hs => ?_))
    refine wpList_nil ?_
    refine then_n ?_
    refine wp_seq ?_
    refine wp_cond_true (hs.ev rfl) ?_
    refine wp_skip ?_
    refine then_n ?_
    refine wp_seq ?_
    refine wp_block ?_
    refine wp_seq ?_
    refine wp_region_lit ?_
    refine lstep (wpO_plain rfl (op_index hs none (v := .slice aa js.length ca) rfl rfl rfl rfl (fun _ => by kernel_rfl) rfl fun ac hs => ?_))
    refine lstep (wpO_plain rfl (op_assign hs none rfl rfl rfl rfl fun ac hs => ?_))
    refine wpList_nil ?_
    refine then_n ?_
    refine wp_seq ?_
    refine wp_region_lit ?_
    refine lstep (wpO_plain rfl (op_move hs none rfl rfl rfl rfl fun ac hs => ?_))
    refine lstep (wpO_plain rfl (op_blt hs none (v := .int .i64 ((js.length : Nat) : Int)) rfl rfl rfl (blt_len Try.underlying22) rfl fun ac hs => ?_))
    refine lstep (wpO_plain rfl (op_move hs none rfl rfl rfl rfl fun ac hs => ?_))
    refine wpList_nil ?_
    refine then_n ?_
    refine wp_block ?_
    refine wp_loop_m (fun μ ac w => ∃ (j : Nat), (js.length - j) = μ ∧ (j ≤ js.length) ∧ (longB (js.take j) = false) ∧ St 34 ⟨w0, [], [(true, .cel (.slice am ks.length cm) ks.length vs), (true, .bys vs ks), (true, .cel (.slice aa js.length ca) js.length us), (true, .bys us js)], Z, noX⟩ [(1, true, .pointer (some ⟨g1, 0, none⟩)), (2, true, .int .i64 0), (11, true, .agg #[.slice am ks.length cm, .slice aa js.length ca]), (12, true, .int .i64 1), (15, true, .slice aa js.length ca), (16, true, .int .i64 ((js.length : Nat) : Int)), (17, true, .int .i64 ((j : Nat) : Int))] [(true, g1, 24, [.slice am ks.length cm, .slice aa js.length ca])] ac w) ?_ ?_
    · exact ⟨_, 0, rfl, (by omega), rfl, (hs.re (fs' := [(1, true, .pointer (some ⟨g1, 0, none⟩)), (2, true, .int .i64 0), (11, true, .agg #[.slice am ks.length cm, .slice aa js.length ca]), (12, true, .int .i64 1), (15, true, .slice aa js.length ca), (16, true, .int .i64 ((js.length : Nat) : Int)), (17, true, .int .i64 ((0 : Nat) : Int))]) ⟨rfl, rfl, rfl, rfl, rfl, rfl, rfl, trivial⟩)⟩
    intro μ ac w ⟨j, hμ, hj, hlj, hs⟩
    refine wp_seq ?_
    refine wp_region_lit ?_
    refine lstep (wpO_plain rfl (op_bin hs none (v := .bool (decide (j < js.length))) rfl rfl rfl rfl (fun _ => rfl) (bin_lssN (x := j) (y := js.length)) rfl fun ac hs => ?_))
    refine wpList_nil ?_
    refine then_n ?_
    refine wp_seq ?_
    refine wp_cond_split (hs.ev rfl) (fun hc => ?_) (fun hc => ?_)
    · skip
      have hp6 := of_decide_eq_true hc
      have hlt := of_decide_eq_true hc
      obtain ⟨li, hli⟩ : ∃ z, js[j]? = some z := ⟨_, List.getElem?_eq_getElem hlt⟩
      obtain ⟨al, cl, hvl⟩ := bysv_at (hs.all (k := 3) rfl rfl) hli
      refine wp_skip ?_
      refine then_n ?_
      refine wp_seq ?_
      refine wp_block ?_
      refine wp_seq ?_
      refine wp_region_lit ?_
      refine lstep (wpO_plain rfl (op_idxC hs none 2 (j := j) rfl rfl rfl rfl rfl Try.underlying22 Try.sizeOf34 (show j < js.length by omega) (off := j) (by omega) rfl fun ac hs => ?_))
      refine lstep (wpO_plain rfl (op_loadC hs none 2 (u := .slice al li.length cl) rfl rfl rfl rfl Try.isAgg34 Try.sizeOf34 (by decide) hvl rfl fun ac hs => ?_))
      refine lstep (wpO_plain rfl (op_assign hs none rfl rfl rfl rfl fun ac hs => ?_))
      refine wpList_nil ?_
      refine then_n ?_
      refine wp_seq ?_
      refine wp_region_lit ?_
      refine lstep (wpO_plain rfl (op_move hs none rfl rfl rfl rfl fun ac hs => ?_))
      refine lstep (wpO_plain rfl (op_blt hs none (v := .int .i64 ((li.length : Nat) : Int)) rfl rfl rfl (blt_len Try.underlying34) rfl fun ac hs => ?_))
      refine lstep (wpO_plain rfl (op_bin hs none (v := .bool (decide (520 < li.length))) rfl rfl rfl rfl (fun _ => rfl) (bin_gtrN (x := li.length) (y := 520)) rfl fun ac hs => ?_))
      refine wpList_nil ?_
      refine then_n ?_
      refine wp_cond_split (hs.ev rfl) (fun hc => ?_) (fun hc => ?_)
      · skip
        have hp7 := of_decide_eq_true hc
        refine wp_seq ?_
        replace hs : St 34 ⟨w0, [], [(true, .cel (.slice am ks.length cm) ks.length vs), (true, .bys vs ks), (true, .cel (.slice aa js.length ca) js.length us), (true, .bys us js)], Z, noX⟩ [(1, true, .pointer (some ⟨g1, 0, none⟩)), (2, true, .int .i64 0), (11, true, .agg #[.slice am ks.length cm, .slice aa js.length ca]), (12, true, .int .i64 1), (15, true, .slice aa js.length ca), (16, true, .int .i64 ((js.length : Nat) : Int)), (17, true, .int .i64 ((j : Nat) : Int))] [(true, g1, 24, [.slice am ks.length cm, .slice aa js.length ca])] ac _ := hs.re ⟨rfl, rfl, rfl, rfl, rfl, rfl, rfl, trivial⟩
        refine wp_region_lit ?_
        refine lstep (wpO_plain rfl (op_assign hs none rfl rfl rfl rfl fun ac hs => ?_))
        refine wpList_nil ?_
        refine then_n ?_
        refine wp_ret ?_
        refine blk_r ?_
        refine then_r ?_
        refine then_r ?_
        refine blk_r ?_
        refine blk_r ?_
        refine then_r ?_
        refine then_r ?_
        refine blk_r ?_
        refine then_r ?_
        exact bodyPost_ret (res1 rfl (rv_t hs rfl)) hs.defers ⟨(), by rw [← hr, chkL, if_pos (Or.inr (longB_yes hli hp7))]; rfl, hs.bel rfl, okl0⟩
      · skip
        have hp8 := of_decide_eq_false hc
        refine wp_skip ?_
        refine blk_n ?_
        refine then_n ?_
        replace hs : St 34 ⟨w0, [], [(true, .cel (.slice am ks.length cm) ks.length vs), (true, .bys vs ks), (true, .cel (.slice aa js.length ca) js.length us), (true, .bys us js)], Z, noX⟩ [(1, true, .pointer (some ⟨g1, 0, none⟩)), (2, true, .int .i64 0), (11, true, .agg #[.slice am ks.length cm, .slice aa js.length ca]), (12, true, .int .i64 1), (15, true, .slice aa js.length ca), (16, true, .int .i64 ((js.length : Nat) : Int)), (17, true, .int .i64 ((j : Nat) : Int))] [(true, g1, 24, [.slice am ks.length cm, .slice aa js.length ca])] ac _ := hs.re ⟨rfl, rfl, rfl, rfl, rfl, rfl, rfl, trivial⟩
        refine wp_region_lit ?_
        refine lstep (wpO_plain rfl (op_bin hs none (v := .int .i64 ((j + 1 : Nat) : Int)) rfl rfl rfl rfl (fun _ => rfl) (bin_addN (x := j) (y := 1) (z := j + 1) rfl (show j + 1 < 9223372036854775808 by omega)) rfl fun ac hs => ?_))
        refine lstep (wpO_plain rfl (op_move hs none rfl rfl rfl rfl fun ac hs => ?_))
        refine wpList_nil ?_
        refine then_n ?_
        exact ⟨_, ⟨(j + 1), rfl, (by omega), (longB_go hli hp8 hlj), (hs.re (fs' := [(1, true, .pointer (some ⟨g1, 0, none⟩)), (2, true, .int .i64 0), (11, true, .agg #[.slice am ks.length cm, .slice aa js.length ca]), (12, true, .int .i64 1), (15, true, .slice aa js.length ca), (16, true, .int .i64 ((js.length : Nat) : Int)), (17, true, .int .i64 (((j + 1) : Nat) : Int))]) ⟨rfl, rfl, rfl, rfl, rfl, rfl, rfl, trivial⟩)⟩, (by omega)⟩
    · skip
      have hp9 := of_decide_eq_false hc
      refine wp_exit ?_
      refine then_e ?_
      refine then_e ?_
      refine blk_e ?_
      refine blk_n ?_
      refine then_n ?_
      refine wp_region_lit ?_
      refine lstep (wpO_plain rfl (op_bin hs none (v := .int .i64 2) rfl rfl rfl rfl (fun _ => rfl) (fun _ => by kernel_rfl) rfl fun ac hs => ?_))
      refine lstep (wpO_plain rfl (op_move hs none rfl rfl rfl rfl fun ac hs => ?_))
      refine wpList_nil ?_
      refine then_n ?_
      exact ⟨_, .inr (.inr (⟨rfl, hb1, (longB_end hp9 hlj), (hs.re (fs' := [(1, true, .pointer (some ⟨g1, 0, none⟩)), (2, true, .int .i64 0), (11, true, .agg #[.slice am ks.length cm, .slice aa js.length ca]), (12, true, .int .i64 2)]) ⟨rfl, rfl, rfl, rfl, trivial⟩)⟩)), by omega⟩
  · obtain ⟨rfl, hb1, hb2, hs⟩ := hJ
    refine wp_seq ?_
    refine wp_region_lit ?_
    refine lstep (wpO_plain rfl (op_bin hs none (v := .bool false) rfl rfl rfl rfl (fun _ => rfl) (fun _ => by kernel_rfl) rfl fun ac hs => ?_))
    refine wpList_nil ?_
    refine then_n ?_
    refine wp_seq ?_
    refine wp_cond_false (hs.ev rfl) ?_
    refine wp_exit ?_
    refine then_e ?_
    refine then_e ?_
    refine blk_e ?_
    refine then_n ?_
    refine wp_seq ?_
    refine wp_seq ?_
    refine wp_region_lit ?_
    refine lstep (wpO_plain rfl (op_fieldA hs none rfl rfl rfl Try.underlying24 rfl Try.sizeOf22 (by decide) rfl fun ac hs => ?_))
    refine lstep (wpO_plain rfl (op_load hs none 0 (v := .slice am ks.length cm) rfl rfl rfl rfl Try.isAgg22 Try.sizeOf22 rfl rfl fun ac hs => ?_))
    refine lstep (wpO_plain rfl (op_blt hs none (v := .int .i64 ((ks.length : Nat) : Int)) rfl rfl rfl (blt_len Try.underlying22) rfl fun ac hs => ?_))
    refine lstep (wpO_plain rfl (op_fieldA hs none rfl rfl rfl Try.underlying24 rfl Try.sizeOf22 (by decide) rfl fun ac hs => ?_))
    refine lstep (wpO_plain rfl (op_load hs none 0 (v := .slice aa js.length ca) rfl rfl rfl rfl Try.isAgg22 Try.sizeOf22 rfl rfl fun ac hs => ?_))
    refine lstep (wpO_plain rfl (op_blt hs none (v := .int .i64 ((js.length : Nat) : Int)) rfl rfl rfl (blt_len Try.underlying22) rfl fun ac hs => ?_))
    refine lstep (wpO_plain rfl (op_bin hs none (v := .int .i64 ((ks.length + js.length : Nat) : Int)) rfl rfl rfl rfl (fun _ => rfl) (bin_addN (x := ks.length) (y := js.length) (z := ks.length + js.length) rfl (show ks.length + js.length < 9223372036854775808 by omega)) rfl fun ac hs => ?_))
    refine lstep (wpO_plain rfl (op_bin hs none (v := .bool (decide (100 < ks.length + js.length))) rfl rfl rfl rfl (fun _ => rfl) (bin_gtrN (x := ks.length + js.length) (y := 100)) rfl fun ac hs => ?_))
    refine wpList_nil ?_
    refine then_n ?_
    refine wp_cond_split (hs.ev rfl) (fun hc => ?_) (fun hc => ?_)
    · skip
      have hp10 := of_decide_eq_true hc
      refine wp_seq ?_
      replace hs : St 34 ⟨w0, [], [(true, .cel (.slice am ks.length cm) ks.length vs), (true, .bys vs ks), (true, .cel (.slice aa js.length ca) js.length us), (true, .bys us js)], Z, noX⟩ [(2, true, .int .i64 0)] [(true, g1, 24, [.slice am ks.length cm, .slice aa js.length ca])] ac _ := hs.re ⟨rfl, trivial⟩
      refine wp_region_lit ?_
      refine lstep (wpO_plain rfl (op_assign hs none rfl rfl rfl rfl fun ac hs => ?_))
      refine wpList_nil ?_
      refine then_n ?_
      refine wp_ret ?_
      refine then_r ?_
      exact bodyPost_ret (res1 rfl (rv_t hs rfl)) hs.defers ⟨(), by rw [← hr, chkL, if_neg (by simp [hb1, hb2]), if_pos hp10]; rfl, hs.bel rfl, okl0⟩
    · skip
      have hp11 := of_decide_eq_false hc
      refine wp_skip ?_
      refine then_n ?_
      refine wp_seq ?_
      replace hs : St 34 ⟨w0, [], [(true, .cel (.slice am ks.length cm) ks.length vs), (true, .bys vs ks), (true, .cel (.slice aa js.length ca) js.length us), (true, .bys us js)], Z, noX⟩ [(2, true, .int .i64 0)] [(true, g1, 24, [.slice am ks.length cm, .slice aa js.length ca])] ac _ := hs.re ⟨rfl, trivial⟩
      refine wp_region_lit ?_
      refine lstep (wpO_plain rfl (op_assign hs none rfl rfl rfl rfl fun ac hs => ?_))
      refine wpList_nil ?_
      refine then_n ?_
      refine wp_ret ?_
      exact bodyPost_ret (res1 rfl (rv_t hs rfl)) hs.defers ⟨(), by rw [← hr, chkL, if_neg (by simp [hb1, hb2]), if_neg hp11]; rfl, hs.bel rfl, okl0⟩
theorem fail_c (gm : Nat) (v1 v2 : Value) (er kk e1 : Nat) (hr : failE er kk = e1) (w0 : World) (Z X : Nat → Prop) (hm : Mem ⟨w0, [], [], Z, X⟩ [(true, gm, 61, [v1, v2, .int .i64 ((er : Nat) : Int)])] w0) : Calls Try.prog 65 #[.pointer (some ⟨gm, 0, none⟩), .int .i64 ((kk : Nat) : Int)] w0 fun e w' => PostX w0 Z X (ρ := Unit) (fun r => .tuple #[]) (fun r => [(true, gm, 61, [v1, v2, .int .i64 ((e1 : Nat) : Int)])]) (fun r => []) e w' := by
  refine enterX (n := 13) (args := [.pointer (some ⟨gm, 0, none⟩), .int .i64 ((kk : Nat) : Int)]) Try.func65 rfl rfl (Nat.le_of_ble_eq_true rfl) hm fun ac hs => ?_
  refine wp_seq ?_
  refine wp_region_lit ?_
  refine lstep (wpO_plain rfl (op_move hs none rfl rfl rfl rfl fun ac hs => ?_))
  refine lstep (wpO_plain rfl (op_nilCheck hs none rfl rfl rfl rfl fun ac hs => ?_))
  refine lstep (wpO_plain rfl (op_fieldA hs none rfl rfl rfl Try.underlying61 rfl Try.sizeOf28 (by decide) rfl fun ac hs => ?_))
  refine lstep (wpO_plain rfl (op_load hs none 0 (v := .int .i64 ((er : Nat) : Int)) rfl rfl rfl rfl Try.isAgg28 Try.sizeOf28 rfl rfl fun ac hs => ?_))
  refine lstep (wpO_plain rfl (op_bin hs none (v := .bool (decide (er = 0))) rfl rfl rfl rfl (fun _ => rfl) (bin_eqlN (x := er) (y := 0)) rfl fun ac hs => ?_))
  refine wpList_nil ?_
  refine then_n ?_
  refine wp_cond_split (hs.ev rfl) (fun hc => ?_) (fun hc => ?_)
  · skip
    have hp1 := of_decide_eq_true hc
    refine wp_region_lit ?_
    refine lstep (wpO_plain rfl (op_move hs none rfl rfl rfl rfl fun ac hs => ?_))
    refine lstep (wpO_plain rfl (op_move hs none rfl rfl rfl rfl fun ac hs => ?_))
    refine lstep (wpO_plain rfl (op_nilCheck hs none rfl rfl rfl rfl fun ac hs => ?_))
    refine lstep (wpO_plain rfl (op_fieldA hs none rfl rfl rfl Try.underlying61 rfl Try.sizeOf28 (by decide) rfl fun ac hs => ?_))
    refine lstep (wpO_plain rfl (op_store hs 0 (vs := [.int .i64 ((kk : Nat) : Int)]) rfl rfl rfl rfl rfl Try.sizeOf28 rfl rfl rfl rfl rfl fun w hs => ?_))
    refine wpList_nil ?_
    obtain rfl := (if_pos hp1 : failE er kk = _).symm.trans hr
    exact bodyPost_end (res0 rfl) hs.defers ⟨(), rfl, ((hs.selS [] rfl (by decide)).selB [0] rfl (by decide)).mem⟩
  · skip
    have hp2 := of_decide_eq_false hc
    refine wp_skip ?_
    obtain rfl := (if_neg hp2 : failE er kk = _).symm.trans hr
    exact bodyPost_end (res0 rfl) hs.defers ⟨(), rfl, ((hs.selS [] rfl (by decide)).selB [0] rfl (by decide)).mem⟩
theorem needs_c (gm : Nat) (am : Option Addr) (N cm : Nat) (v2 : Value) (er n e1 : Nat) (q : Bool) (hr : needE N n er = e1) (hq : decide (e1 = 0) = q) (w0 : World) (Z X : Nat → Prop) (hm : Mem ⟨w0, [], [], Z, X⟩ [(true, gm, 61, [.slice am N cm, v2, .int .i64 ((er : Nat) : Int)])] w0) : Calls Try.prog 48 #[.pointer (some ⟨gm, 0, none⟩), .int .i64 ((n : Nat) : Int)] w0 fun e w' => PostX w0 Z X (ρ := Unit) (fun r => .bool q) (fun r => [(true, gm, 61, [.slice am N cm, v2, .int .i64 ((e1 : Nat) : Int)])]) (fun r => []) e w' := by
  refine enterX (n := 19) (args := [.pointer (some ⟨gm, 0, none⟩), .int .i64 ((n : Nat) : Int)]) Try.func48 rfl rfl (Nat.le_of_ble_eq_true rfl) hm fun ac hs => ?_
  refine wp_seq ?_
  refine wp_region_lit ?_
  refine lstep (wpO_plain rfl (op_assign hs none rfl rfl rfl rfl fun ac hs => ?_))
  refine wpList_nil ?_
  refine then_n ?_
  refine wp_seq ?_
  refine wp_seq ?_
  refine wp_region_lit ?_
  refine lstep (wpO_plain rfl (op_move hs none rfl rfl rfl rfl fun ac hs => ?_))
  refine lstep (wpO_plain rfl (op_nilCheck hs none rfl rfl rfl rfl fun ac hs => ?_))
  refine lstep (wpO_plain rfl (op_fieldA hs none rfl rfl rfl Try.underlying61 rfl Try.sizeOf22 (by decide) rfl fun ac hs => ?_))
  refine lstep (wpO_plain rfl (op_load hs none 0 (v := .slice am N cm) rfl rfl rfl rfl Try.isAgg22 Try.sizeOf22 rfl rfl fun ac hs => ?_))
  refine lstep (wpO_plain rfl (op_blt hs none (v := .int .i64 ((N : Nat) : Int)) rfl rfl rfl (blt_len Try.underlying22) rfl fun ac hs => ?_))
  refine lstep (wpO_plain rfl (op_move hs none rfl rfl rfl rfl fun ac hs => ?_))
  refine lstep (wpO_plain rfl (op_bin hs none (v := .bool (decide (N < n))) rfl rfl rfl rfl (fun _ => rfl) (bin_lssN (x := N) (y := n)) rfl fun ac hs => ?_))
  refine wpList_nil ?_
  refine then_n ?_
  refine wp_cond_split (hs.ev rfl) (fun hc => ?_) (fun hc => ?_)
  · skip
    have hp1 := of_decide_eq_true hc
    replace hs : St 19 ⟨w0, [], [], Z, X⟩ [(0, true, .pointer (some ⟨gm, 0, none⟩)), (4, true, .bool false)] [(true, gm, 61, [.slice am N cm, v2, .int .i64 ((er : Nat) : Int)])] ac _ := hs.re ⟨rfl, rfl, trivial⟩
    refine wp_region_lit ?_
    refine lstep (wpO_plain rfl (op_move hs none rfl rfl rfl rfl fun ac hs => ?_))
    obtain ⟨e2, he2⟩ : ∃ z0, failE er 12 = z0 := ⟨_, rfl⟩
    refine lstep (wpO_plain rfl (op_callX (F := 65) (ρ := Unit) hs none none [0] [] (v := fun r => .tuple #[]) (S1 := []) (bs1 := [(true, gm, 61, [.slice am N cm, v2, .int .i64 ((er : Nat) : Int)])]) (E := fun r => []) (E1 := fun r => []) (E2 := fun r => []) (bfA := fun r => [(true, gm, 61, [.slice am N cm, v2, .int .i64 ((e2 : Nat) : Int)])]) (bf := fun r => [(true, gm, 61, [.slice am N cm, v2, .int .i64 ((e2 : Nat) : Int)])]) (bf2 := fun r => []) rfl rfl rfl rfl rfl (Try.call65 _) rfl rfl (by decide) (by decide) (fun Z X hm => fail_c gm (.slice am N cm) v2 er 12 e2 he2 _ _ _ hm) (fun _ => rfl) (fun _ => rfl) (fun _ => rfl) (fun _ => rfl) (fun _ => rfl) rfl fun _ ac w hs => ?_))
    refine wpList_nil ?_
    refine then_n ?_
    refine wp_seq ?_
    refine wp_region_lit ?_
    refine lstep (wpO_plain rfl (op_move hs none rfl rfl rfl rfl fun ac hs => ?_))
    refine lstep (wpO_plain rfl (op_nilCheck hs none rfl rfl rfl rfl fun ac hs => ?_))
    refine lstep (wpO_plain rfl (op_fieldA hs none rfl rfl rfl Try.underlying61 rfl Try.sizeOf28 (by decide) rfl fun ac hs => ?_))
    refine lstep (wpO_plain rfl (op_load hs none 0 (v := .int .i64 ((e2 : Nat) : Int)) rfl rfl rfl rfl Try.isAgg28 Try.sizeOf28 rfl rfl fun ac hs => ?_))
    refine lstep (wpO_plain rfl (op_bin hs none (v := .bool (decide (e2 = 0))) rfl rfl rfl rfl (fun _ => rfl) (bin_eqlN (x := e2) (y := 0)) rfl fun ac hs => ?_))
    refine lstep (wpO_plain rfl (op_assign hs none rfl rfl rfl rfl fun ac hs => ?_))
    refine wpList_nil ?_
    refine then_n ?_
    refine wp_ret ?_
    obtain rfl := ((if_pos hp1 : needE N n er = _).symm.trans hr)
    rw [show e2 = failE er 12 from he2.symm] at hs
    subst hq
    exact bodyPost_ret (res1 rfl (rv_t hs rfl)) hs.defers ⟨(), rfl, ((hs.selS [] rfl (by decide)).selB [0] rfl (by decide)).mem⟩
  · skip
    have hp3 := of_decide_eq_false hc
    refine wp_skip ?_
    refine then_n ?_
    refine wp_seq ?_
    replace hs : St 19 ⟨w0, [], [], Z, X⟩ [(0, true, .pointer (some ⟨gm, 0, none⟩)), (4, true, .bool false)] [(true, gm, 61, [.slice am N cm, v2, .int .i64 ((er : Nat) : Int)])] ac _ := hs.re ⟨rfl, rfl, trivial⟩
    refine wp_region_lit ?_
    refine lstep (wpO_plain rfl (op_move hs none rfl rfl rfl rfl fun ac hs => ?_))
    refine lstep (wpO_plain rfl (op_nilCheck hs none rfl rfl rfl rfl fun ac hs => ?_))
    refine lstep (wpO_plain rfl (op_fieldA hs none rfl rfl rfl Try.underlying61 rfl Try.sizeOf28 (by decide) rfl fun ac hs => ?_))
    refine lstep (wpO_plain rfl (op_load hs none 0 (v := .int .i64 ((er : Nat) : Int)) rfl rfl rfl rfl Try.isAgg28 Try.sizeOf28 rfl rfl fun ac hs => ?_))
    refine lstep (wpO_plain rfl (op_bin hs none (v := .bool (decide (er = 0))) rfl rfl rfl rfl (fun _ => rfl) (bin_eqlN (x := er) (y := 0)) rfl fun ac hs => ?_))
    refine lstep (wpO_plain rfl (op_assign hs none rfl rfl rfl rfl fun ac hs => ?_))
    refine wpList_nil ?_
    refine then_n ?_
    refine wp_ret ?_
    obtain rfl := ((if_neg hp3 : needE N n er = _).symm.trans hr)
    subst hq
    exact bodyPost_ret (res1 rfl (rv_t hs rfl)) hs.defers ⟨(), rfl, ((hs.selS [] rfl (by decide)).selB [0] rfl (by decide)).mem⟩
theorem must_c (gm : Nat) (v1 v2 : Value) (er : Nat) (b : Bool) (e1 : Nat) (hr : mustE b er = e1) (w0 : World) (Z X : Nat → Prop) (hm : Mem ⟨w0, [], [], Z, X⟩ [(true, gm, 61, [v1, v2, .int .i64 ((er : Nat) : Int)])] w0) : Calls Try.prog 46 #[.pointer (some ⟨gm, 0, none⟩), .bool b] w0 fun e w' => PostX w0 Z X (ρ := Unit) (fun r => .tuple #[]) (fun r => [(true, gm, 61, [v1, v2, .int .i64 ((e1 : Nat) : Int)])]) (fun r => []) e w' := by
  refine enterX (n := 8) (args := [.pointer (some ⟨gm, 0, none⟩), .bool b]) Try.func46 rfl rfl (Nat.le_of_ble_eq_true rfl) hm fun ac hs => ?_
  refine wp_seq ?_
  refine wp_region_lit ?_
  refine lstep (wpO_plain rfl (op_move hs none rfl rfl rfl rfl fun ac hs => ?_))
  refine lstep (wpO_plain rfl (op_un hs none (v := .bool (!b)) rfl rfl rfl (fun _ => rfl) rfl fun ac hs => ?_))
  refine wpList_nil ?_
  refine then_n ?_
  refine wp_cond_split (hs.ev rfl) (fun hc => ?_) (fun hc => ?_)
  · skip
    refine wp_region_lit ?_
    refine lstep (wpO_plain rfl (op_move hs none rfl rfl rfl rfl fun ac hs => ?_))
    obtain ⟨e1, he1⟩ : ∃ z0, failE er 16 = z0 := ⟨_, rfl⟩
    refine lstep (wpO_plain rfl (op_callX (F := 65) (ρ := Unit) hs none none [0] [] (v := fun r => .tuple #[]) (S1 := []) (bs1 := [(true, gm, 61, [v1, v2, .int .i64 ((er : Nat) : Int)])]) (E := fun r => []) (E1 := fun r => []) (E2 := fun r => []) (bfA := fun r => [(true, gm, 61, [v1, v2, .int .i64 ((e1 : Nat) : Int)])]) (bf := fun r => [(true, gm, 61, [v1, v2, .int .i64 ((e1 : Nat) : Int)])]) (bf2 := fun r => []) rfl rfl rfl rfl rfl (Try.call65 _) rfl rfl (by decide) (by decide) (fun Z X hm => fail_c gm v1 v2 er 16 e1 he1 _ _ _ hm) (fun _ => rfl) (fun _ => rfl) (fun _ => rfl) (fun _ => rfl) (fun _ => rfl) rfl fun _ ac w hs => ?_))
    refine wpList_nil ?_
    obtain rfl : b = false := by simpa using hc
    obtain rfl := (rfl : mustE false er = failE er 16).symm.trans hr
    rw [show e1 = failE er 16 from he1.symm] at hs
    exact bodyPost_end (res0 rfl) hs.defers ⟨(), rfl, ((hs.selS [] rfl (by decide)).selB [0] rfl (by decide)).mem⟩
  · skip
    refine wp_skip ?_
    obtain rfl : b = true := by simpa using hc
    obtain rfl := (rfl : mustE true er = er).symm.trans hr
    exact bodyPost_end (res0 rfl) hs.defers ⟨(), rfl, ((hs.selS [] rfl (by decide)).selB [0] rfl (by decide)).mem⟩
theorem top_c (gm : Nat) (am : Option Addr) (cm : Nat) (vs : List Value) (ks : BL) (v2 : Value) (er n : Nat) (v : Value) (hn : n < ks.length) (hv : vs[ks.length - 1 - n]? = some v) (ok : OkN 8000 ks) (w0 : World) (Z X : Nat → Prop) (hm : Mem ⟨w0, [], [(true, .own (.slice am ks.length cm) 34 1 ks.length vs)], Z, X⟩ [(true, gm, 61, [.slice am ks.length cm, v2, .int .i64 ((er : Nat) : Int)])] w0) : Calls Try.prog 49 #[.pointer (some ⟨gm, 0, none⟩), .int .i64 ((n : Nat) : Int)] w0 fun e w' => PostX w0 Z X (ρ := Unit) (fun r => v) (fun r => [(true, gm, 61, [.slice am ks.length cm, v2, .int .i64 ((er : Nat) : Int)])]) (fun r => [(true, .own (.slice am ks.length cm) 34 1 ks.length vs)]) e w' := by
  have hk8 : ks.length ≤ 8000 := ok.1
  refine enterX (n := 19) (args := [.pointer (some ⟨gm, 0, none⟩), .int .i64 ((n : Nat) : Int)]) Try.func49 rfl rfl (Nat.le_of_ble_eq_true rfl) hm fun ac hs => ?_
  refine wp_seq ?_
  refine wp_region_lit ?_
  refine lstep (wpO_plain rfl (op_assign hs none rfl rfl rfl rfl fun ac hs => ?_))
  refine wpList_nil ?_
  refine then_n ?_
  refine wp_seq ?_
  replace hs : St 19 ⟨w0, [], [(true, .own (.slice am ks.length cm) 34 1 ks.length vs)], Z, X⟩ [(0, true, .pointer (some ⟨gm, 0, none⟩)), (1, true, .int .i64 ((n : Nat) : Int)), (4, true, .slice none 0 0)] [(true, gm, 61, [.slice am ks.length cm, v2, .int .i64 ((er : Nat) : Int)])] ac _ := hs.re ⟨rfl, rfl, rfl, trivial⟩
  refine region_inv [([], [1, 2, 3, 12, 13, 14]), ([0], [2, 3, 12, 13, 14]), ([0, 1], [3, 12, 13, 14]), ([0, 1, 2], [12, 13, 14]), ([], [5, 6, 7, 8, 9, 11, 12, 13, 14]), ([4], [6, 7, 8, 9, 11, 12, 13, 14]), ([4, 5], [7, 8, 9, 11, 12, 13, 14]), ([4, 5, 6], [8, 9, 11, 12, 13, 14]), ([4, 5, 6, 7], [9, 11, 12, 13, 14]), ([4, 5, 6, 7, 8], [11, 12, 13, 14]), ([], [11, 12, 13, 14]), ([4, 5, 6, 7, 8, 9, 10], [12, 13, 14]), ([0, 1, 2, 3, 4, 5, 6, 7, 8, 9, 10, 11], [13, 14]), ([0, 1, 2, 3, 4, 5, 6, 7, 8, 9, 10, 11, 12], [14]), ([0, 1, 2, 3, 4, 5, 6, 7, 8, 9, 10, 11, 12, 13], [])] (fun L ac w => St 19 ⟨w0, [], [(true, .own (.slice am ks.length cm) 34 1 ks.length vs)], Z, X⟩ [(5, L 0, .pointer (some ⟨gm, 0, none⟩)), (6, L 1, .pointer (some ⟨gm, 0, none⟩)), (7, L 2, .pointer (some ⟨gm, 0, none⟩)), (8, L 3, .slice am ks.length cm), (9, L 4, .pointer (some ⟨gm, 0, none⟩)), (10, L 5, .pointer (some ⟨gm, 0, none⟩)), (11, L 6, .pointer (some ⟨gm, 0, none⟩)), (12, L 7, .slice am ks.length cm), (13, L 8, .int .i64 ((ks.length : Nat) : Int)), (14, L 9, .int .i64 ((ks.length - 1 : Nat) : Int)), (15, L 10, .int .i64 ((n : Nat) : Int)), (16, L 11, .int .i64 ((ks.length - 1 - n : Nat) : Int)), (17, L 12, vidx (.slice am ks.length cm) (ks.length - 1 - n)), (18, L 13, v), (4, L 14, v), (0, true, .pointer (some ⟨gm, 0, none⟩)), (1, true, .int .i64 ((n : Nat) : Int)), (4, true, .slice none 0 0)] [(true, gm, 61, [.slice am ks.length cm, v2, .int .i64 ((er : Nat) : Int)])] ac w) (by kernel_rfl) (by kernel_rfl) ?_ ?_ ?_
  · exact hs.drew.skip.skip.skip.skip.skip.skip.skip.skip.skip.skip.skip.skip.skip.skip.skip
  · refine ⟨?_, ?_, ?_, ?_, ?_, ?_, ?_, ?_, ?_, ?_, ?_, ?_, ?_, ?_, ?_, trivial⟩
    · intro L ac w hJ
      have hs := hJ
      refine wpO_plain rfl (op_move hs (some 0) rfl rfl rfl rfl fun ac hs => ?_)
      exact hs
    · intro L ac w hJ
      have hs := hJ
      refine wpO_plain rfl (op_nilCheck hs (some 1) rfl rfl rfl rfl fun ac hs => ?_)
      exact hs
    · intro L ac w hJ
      have hs := hJ
      refine wpO_plain rfl (op_fieldA hs (some 2) rfl rfl rfl Try.underlying61 rfl Try.sizeOf22 (by decide) rfl fun ac hs => ?_)
      exact hs
    · intro L ac w hJ
      have hs := hJ
      refine wpO_plain rfl (op_load hs (some 3) 0 (v := .slice am ks.length cm) rfl rfl rfl rfl Try.isAgg22 Try.sizeOf22 rfl rfl fun ac hs => ?_)
      exact hs
    · intro L ac w hJ
      have hs := hJ
      refine wpO_plain rfl (op_move hs (some 4) rfl rfl rfl rfl fun ac hs => ?_)
      exact hs
    · intro L ac w hJ
      have hs := hJ
      refine wpO_plain rfl (op_nilCheck hs (some 5) rfl rfl rfl rfl fun ac hs => ?_)
      exact hs
    · intro L ac w hJ
      have hs := hJ
      refine wpO_plain rfl (op_fieldA hs (some 6) rfl rfl rfl Try.underlying61 rfl Try.sizeOf22 (by decide) rfl fun ac hs => ?_)
      exact hs
    · intro L ac w hJ
      have hs := hJ
      refine wpO_plain rfl (op_load hs (some 7) 0 (v := .slice am ks.length cm) rfl rfl rfl rfl Try.isAgg22 Try.sizeOf22 rfl rfl fun ac hs => ?_)
      exact hs
    · intro L ac w hJ
      have hs := hJ
      refine wpO_plain rfl (op_blt hs (some 8) (v := .int .i64 ((ks.length : Nat) : Int)) rfl rfl rfl (blt_len Try.underlying22) rfl fun ac hs => ?_)
      exact hs
    · intro L ac w hJ
      have hs := hJ
      refine wpO_plain rfl (op_bin hs (some 9) (v := .int .i64 ((ks.length - 1 : Nat) : Int)) rfl rfl rfl rfl (fun _ => rfl) (bin_subN (x := ks.length) (y := 1) (z := ks.length - 1) (by omega) (show ks.length - 1 < 9223372036854775808 by omega)) rfl fun ac hs => ?_)
      exact hs
    · intro L ac w hJ
      have hs := hJ
      refine wpO_plain rfl (op_move hs (some 10) rfl rfl rfl rfl fun ac hs => ?_)
      exact hs
    · intro L ac w hJ
      have hs := hJ
      refine wpO_plain rfl (op_bin hs (some 11) (v := .int .i64 ((ks.length - 1 - n : Nat) : Int)) rfl rfl rfl rfl (fun _ => rfl) (bin_subN (x := ks.length - 1) (y := n) (z := ks.length - 1 - n) (by omega) (show ks.length - 1 - n < 9223372036854775808 by omega)) rfl fun ac hs => ?_)
      exact hs
    · intro L ac w hJ
      have hs := hJ
      refine wpO_plain rfl (op_idxC hs (some 12) 0 (j := ks.length - 1 - n) rfl rfl rfl rfl rfl Try.underlying22 Try.sizeOf34 (show ks.length - 1 - n < ks.length by omega) (off := ks.length - 1 - n) (by omega) rfl fun ac hs => ?_)
      exact hs
    · intro L ac w hJ
      have hs := hJ
      refine wpO_plain rfl (op_loadC hs (some 13) 0 (u := v) rfl rfl rfl rfl Try.isAgg34 Try.sizeOf34 (by decide) hv rfl fun ac hs => ?_)
      exact hs
    · intro L ac w hJ
      have hs := hJ
      refine wpO_plain rfl (op_assign hs (some 14) rfl rfl rfl rfl fun ac hs => ?_)
      exact hs
  intro ac w hJ
  replace hs : St 19 ⟨w0, [], [(true, .own (.slice am ks.length cm) 34 1 ks.length vs)], Z, X⟩ [(5, true, .pointer (some ⟨gm, 0, none⟩)), (6, true, .pointer (some ⟨gm, 0, none⟩)), (7, true, .pointer (some ⟨gm, 0, none⟩)), (8, true, .slice am ks.length cm), (9, true, .pointer (some ⟨gm, 0, none⟩)), (10, true, .pointer (some ⟨gm, 0, none⟩)), (11, true, .pointer (some ⟨gm, 0, none⟩)), (12, true, .slice am ks.length cm), (13, true, .int .i64 ((ks.length : Nat) : Int)), (14, true, .int .i64 ((ks.length - 1 : Nat) : Int)), (15, true, .int .i64 ((n : Nat) : Int)), (16, true, .int .i64 ((ks.length - 1 - n : Nat) : Int)), (17, true, vidx (.slice am ks.length cm) (ks.length - 1 - n)), (18, true, v), (4, true, v), (0, true, .pointer (some ⟨gm, 0, none⟩)), (1, true, .int .i64 ((n : Nat) : Int)), (4, true, .slice none 0 0)] [(true, gm, 61, [.slice am ks.length cm, v2, .int .i64 ((er : Nat) : Int)])] ac w := hJ
  refine then_n ?_
  refine wp_ret ?_
  exact bodyPost_ret (res1 rfl (rv_t hs rfl)) hs.defers ⟨(), rfl, ((hs.selS [0] rfl (by decide)).selB [0] rfl (by decide)).mem⟩
theorem read_c (gm : Nat) (v1 v2 : Value) (G : Nat → Prop) (VS : List Value) (LS : BL) (ax : Option Addr) (cx : Nat) (x : List UInt8) (most : Int) (er : Nat) (z : Int) (e1 : Nat) (hx : x.length ≤ 8000) (hxm : (Value.slice ax x.length cx, x) ∈ VS.zip LS) (hz : readL x most er = (z, e1)) (w0 : World) (Z X : Nat → Prop) (hm : Mem ⟨w0, [], [(true, .bysO G VS LS)], Z, X⟩ [(true, gm, 61, [v1, v2, .int .i64 ((er : Nat) : Int)])] w0) : Calls Try.prog 40 #[.pointer (some ⟨gm, 0, none⟩), .slice ax x.length cx, .int .i64 most] w0 fun e w' => PostX w0 Z X (ρ := Unit) (fun r => .int .i64 z) (fun r => [(true, gm, 61, [v1, v2, .int .i64 ((e1 : Nat) : Int)])]) (fun r => [(true, .bysO G VS LS)]) e w' := by
  refine enterX (n := 24) (args := [.pointer (some ⟨gm, 0, none⟩), .slice ax x.length cx, .int .i64 most]) Try.func40 rfl rfl (Nat.le_of_ble_eq_true rfl) hm fun ac hs => ?_
  refine wp_seq ?_
  refine wp_region_lit ?_
  refine lstep (wpO_plain rfl (op_assign hs none rfl rfl rfl rfl fun ac hs => ?_))
  refine wpList_nil ?_
  refine then_n ?_
  refine wp_seq ?_
  refine wp_seq ?_
  refine wp_region_lit ?_
  refine lstep (wpO_plain rfl (op_move hs none rfl rfl rfl rfl fun ac hs => ?_))
  refine lstep (wpO_plain rfl (op_nilCheck hs none rfl rfl rfl rfl fun ac hs => ?_))
  refine lstep (wpO_plain rfl (op_fieldA hs none rfl rfl rfl Try.underlying61 rfl Try.sizeOf28 (by decide) rfl fun ac hs => ?_))
  refine lstep (wpO_plain rfl (op_load hs none 0 (v := .int .i64 ((er : Nat) : Int)) rfl rfl rfl rfl Try.isAgg28 Try.sizeOf28 rfl rfl fun ac hs => ?_))
  refine lstep (wpO_plain rfl (op_bin hs none (v := .bool (decide (er ≠ 0))) rfl rfl rfl rfl (fun _ => rfl) (bin_neqN (x := er) (y := 0)) rfl fun ac hs => ?_))
  refine wpList_nil ?_
  refine then_n ?_
  refine wp_cond_split (hs.ev rfl) (fun hc => ?_) (fun hc => ?_)
  · skip
    have hp1 := of_decide_eq_true hc
    refine wp_seq ?_
    replace hs : St 24 ⟨w0, [], [(true, .bysO G VS LS)], Z, X⟩ [(0, true, .pointer (some ⟨gm, 0, none⟩)), (1, true, .slice ax x.length cx), (2, true, .int .i64 most), (6, true, .int .i64 0)] [(true, gm, 61, [v1, v2, .int .i64 ((er : Nat) : Int)])] ac _ := hs.re ⟨rfl, rfl, rfl, rfl, trivial⟩
    refine wp_region_lit ?_
    refine lstep (wpO_plain rfl (op_assign hs none rfl rfl rfl rfl fun ac hs => ?_))
    refine wpList_nil ?_
    refine then_n ?_
    refine wp_ret ?_
    refine then_r ?_
    obtain ⟨rfl, rfl⟩ := Prod.mk.inj ((if_neg hp1 : readL x most er = _).symm.trans hz)
    exact bodyPost_ret (res1 rfl (rv_t hs rfl)) hs.defers ⟨(), rfl, ((hs.selS [0] rfl (by decide)).selB [0] rfl (by decide)).mem⟩
  · skip
    have hp2 := of_decide_eq_false hc
    refine wp_skip ?_
    refine then_n ?_
    refine wp_seq ?_
    replace hs : St 24 ⟨w0, [], [(true, .bysO G VS LS)], Z, X⟩ [(0, true, .pointer (some ⟨gm, 0, none⟩)), (1, true, .slice ax x.length cx), (2, true, .int .i64 most), (6, true, .int .i64 0)] [(true, gm, 61, [v1, v2, .int .i64 ((er : Nat) : Int)])] ac _ := hs.re ⟨rfl, rfl, rfl, rfl, trivial⟩
    refine wp_region_lit ?_
    refine lstep (wpO_plain rfl (op_move hs none rfl rfl rfl rfl fun ac hs => ?_))
    refine lstep (wpO_plain rfl (op_move hs none rfl rfl rfl rfl fun ac hs => ?_))
    obtain ⟨z3, e4, hz3⟩ : ∃ z0 z1, decN x most = (z0, z1) := ⟨_, _, rfl⟩
    refine lstep (wpO_plain rfl (op_callV (F := 64) (ρ := Unit) hs none none (v := fun r => .tuple #[.int .i64 z3, .int .i64 ((e4 : Nat) : Int)]) (E := fun r => []) (j := 0) rfl rfl rfl rfl (Try.call64 _) (fun hs => dec_c ax x.length cx x (Nat.le_trans hx (by decide)) most z3 e4 hz3 _ _ (hs.itemZ (k := 0) rfl hxm)) (fun _ => rfl) (fun _ => rfl) rfl rfl fun _ ac w hs => ?_))
    refine lstep (wpO_plain rfl (op_move hs none rfl rfl rfl rfl fun ac hs => ?_))
    refine lstep (wpO_plain rfl (op_extract hs none rfl rfl rfl rfl rfl fun ac hs => ?_))
    refine lstep (wpO_plain rfl (op_extract hs none rfl rfl rfl rfl rfl fun ac hs => ?_))
    refine lstep (wpO_plain rfl (op_assign hs none rfl rfl rfl rfl fun ac hs => ?_))
    refine lstep (wpO_plain rfl (op_assign hs none rfl rfl rfl rfl fun ac hs => ?_))
    refine wpList_nil ?_
    refine then_n ?_
    refine wp_seq ?_
    replace hs : St 24 ⟨w0, [], [(true, .bysO G VS LS)], Z, X⟩ [(0, true, .pointer (some ⟨gm, 0, none⟩)), (6, true, .int .i64 0), (7, true, .int .i64 z3), (8, true, .int .i64 ((e4 : Nat) : Int))] [(true, gm, 61, [v1, v2, .int .i64 ((er : Nat) : Int)])] ac _ := hs.re ⟨rfl, rfl, rfl, rfl, trivial⟩
    refine wp_region_lit ?_
    refine lstep (wpO_plain rfl (op_move hs none rfl rfl rfl rfl fun ac hs => ?_))
    refine lstep (wpO_plain rfl (op_move hs none rfl rfl rfl rfl fun ac hs => ?_))
    obtain ⟨e5, he5⟩ : ∃ z0, failE er e4 = z0 := ⟨_, rfl⟩
    refine lstep (wpO_plain rfl (op_callX (F := 65) (ρ := Unit) hs none none [0] [] (v := fun r => .tuple #[]) (S1 := []) (bs1 := [(true, gm, 61, [v1, v2, .int .i64 ((er : Nat) : Int)])]) (E := fun r => []) (E1 := fun r => []) (E2 := fun r => []) (bfA := fun r => [(true, gm, 61, [v1, v2, .int .i64 ((e5 : Nat) : Int)])]) (bf := fun r => [(true, gm, 61, [v1, v2, .int .i64 ((e5 : Nat) : Int)])]) (bf2 := fun r => []) rfl rfl rfl rfl rfl (Try.call65 _) rfl rfl (by decide) (by decide) (fun Z X hm => fail_c gm v1 v2 er e4 e5 he5 _ _ _ hm) (fun _ => rfl) (fun _ => rfl) (fun _ => rfl) (fun _ => rfl) (fun _ => rfl) rfl fun _ ac w hs => ?_))
    refine wpList_nil ?_
    refine then_n ?_
    refine wp_seq ?_
    refine wp_region_lit ?_
    refine lstep (wpO_plain rfl (op_move hs none rfl rfl rfl rfl fun ac hs => ?_))
    refine lstep (wpO_plain rfl (op_assign hs none rfl rfl rfl rfl fun ac hs => ?_))
    refine wpList_nil ?_
    refine then_n ?_
    refine wp_ret ?_
    obtain rfl : er = 0 := by omega
    rw [show failE 0 e4 = e4 from rfl] at he5
    subst he5
    obtain ⟨rfl, rfl⟩ := Prod.mk.inj ((hz3 : readL x most 0 = _).symm.trans hz)
    exact bodyPost_ret (res1 rfl (rv_t hs rfl)) hs.defers ⟨(), rfl, ((hs.selS [0] rfl (by decide)).selB [0] rfl (by decide)).mem⟩
theorem pushP_c (gm : Nat) (am : Option Addr) (cm : Nat) (vs : List Value) (aa : Option Addr) (ca : Nat) (us : List Value) (G : Nat → Prop) (xs : List Value) (ts : BL) (ks js : BL) (er : Nat) (al : Option Addr) (cl : Nat) (ax : Option Addr) (cx : Nat) (x : List UInt8) (hx : x.length ≤ 8000) (ok : OkN 8000 ks) (hxm : (Value.slice ax x.length cx, x) ∈ (vs ++ us ++ xs).zip (ks ++ js ++ ts)) (w0 : World) (Z X : Nat → Prop) (hm : Mem ⟨w0, [], [(true, .own (.slice am ks.length cm) 34 1 ks.length vs), (true, .own (.slice aa js.length ca) 34 1 js.length us), (true, .bysO G (vs ++ us ++ xs) (ks ++ js ++ ts)), (true, .cel (.slice al 1 cl) 1 ([.slice ax x.length cx]))], Z, X⟩ [(true, gm, 61, [.slice am ks.length cm, .slice aa js.length ca, .int .i64 ((er : Nat) : Int)])] w0) : Calls Try.prog 38 #[.pointer (some ⟨gm, 0, none⟩), .slice al 1 cl] w0 fun e w' => PostX w0 Z X (ρ := M1) (fun r => .tuple #[]) (fun r => [(true, gm, 61, [.slice r.a (ks ++ [x]).length r.c, .slice aa js.length ca, .int .i64 ((er : Nat) : Int)])]) (fun r => [(true, .own (.slice r.a (ks ++ [x]).length r.c) 34 1 (ks ++ [x]).length r.vs), (true, .own (.slice aa js.length ca) 34 1 js.length us), (true, .bysO r.G (r.vs ++ us ++ xs) ((ks ++ [x]) ++ js ++ ts)), (true, .cel (.slice al 1 cl) 1 [.slice ax x.length cx])]) e w' := by
  have hk8 : ks.length ≤ 8000 := ok.1
  refine enterX (n := 24) (args := [.pointer (some ⟨gm, 0, none⟩), .slice al 1 cl]) Try.func38 rfl rfl (Nat.le_of_ble_eq_true rfl) hm fun ac hs => ?_
  have hv := hs.ownLen 0 rfl
  have hu := hs.ownLen 1 rfl
  refine wp_seq ?_
  refine wp_region_lit ?_
  refine lstep (wpO_plain rfl (op_move hs none rfl rfl rfl rfl fun ac hs => ?_))
  refine lstep (wpO_plain rfl (op_blt hs none (v := .int .i64 1) rfl rfl rfl (blt_len Try.underlying22) rfl fun ac hs => ?_))
  refine lstep (wpO_plain rfl (op_move hs none rfl rfl rfl rfl fun ac hs => ?_))
  refine wpList_nil ?_
  refine then_n ?_
  refine wp_block ?_
  refine wp_loop_m (fun μ ac w => (1 = μ ∧ St 24 ⟨w0, [], [(true, .own (.slice am ks.length cm) 34 1 ks.length vs), (true, .own (.slice aa js.length ca) 34 1 js.length us), (true, .bysO G (vs ++ us ++ xs) (ks ++ js ++ ts)), (true, .cel (.slice al 1 cl) 1 ([.slice ax x.length cx]))], Z, X⟩ [(0, true, .pointer (some ⟨gm, 0, none⟩)), (6, true, .slice al 1 cl), (7, true, .int .i64 1), (8, true, .int .i64 0)] [(true, gm, 61, [.slice am ks.length cm, .slice aa js.length ca, .int .i64 ((er : Nat) : Int)])] ac w) ∨ (∃ (a1 : Option Addr) (c1 : Nat) (v1 : List Value) (G1 : Nat → Prop), 0 = μ ∧ St 24 ⟨w0, [], [(true, .own (.slice a1 ((ks ++ [x]).length) c1) 34 1 ((ks ++ [x]).length) v1), (true, .own (.slice aa js.length ca) 34 1 js.length us), (true, .bysO G1 (v1 ++ us ++ xs) ((ks ++ [x]) ++ js ++ ts)), (true, .cel (.slice al 1 cl) 1 ([.slice ax x.length cx]))], Z, X⟩ [(0, true, .pointer (some ⟨gm, 0, none⟩)), (6, true, .slice al 1 cl), (7, true, .int .i64 1), (8, true, .int .i64 1)] [(true, gm, 61, [.slice a1 ((ks ++ [x]).length) c1, .slice aa js.length ca, .int .i64 ((er : Nat) : Int)])] ac w)) ?_ ?_
  · exact ⟨_, .inl ⟨rfl, (hs.re (fs' := [(0, true, .pointer (some ⟨gm, 0, none⟩)), (6, true, .slice al 1 cl), (7, true, .int .i64 1), (8, true, .int .i64 0)]) ⟨rfl, rfl, rfl, rfl, trivial⟩)⟩⟩
  intro μ ac w hJ
  rcases hJ with hJ | hJ
  · obtain ⟨rfl, hs⟩ := hJ
    refine wp_seq ?_
    refine wp_region_lit ?_
    refine lstep (wpO_plain rfl (op_bin hs none (v := .bool true) rfl rfl rfl rfl (fun _ => rfl) (fun _ => by kernel_rfl) rfl fun ac hs => ?_))
    refine wpList_nil ?_
    refine then_n ?_
    refine wp_seq ?_
    refine wp_cond_true (hs.ev rfl) ?_
    refine wp_skip ?_
    refine then_n ?_
    refine wp_seq ?_
    refine wp_block ?_
    refine wp_seq ?_
    refine wp_region_lit ?_
    refine lstep (wpO_plain rfl (op_idxC hs none 3 (j := 0) rfl rfl rfl rfl rfl Try.underlying22 Try.sizeOf34 (by decide) (off := 0) (by omega) rfl fun ac hs => ?_))
    refine lstep (wpO_plain rfl (op_loadC hs none 3 (u := .slice ax x.length cx) rfl rfl rfl rfl Try.isAgg34 Try.sizeOf34 (by decide) rfl rfl fun ac hs => ?_))
    refine lstep (wpO_plain rfl (op_assign hs none rfl rfl rfl rfl fun ac hs => ?_))
    refine wpList_nil ?_
    refine then_n ?_
    replace hs : St 24 ⟨w0, [], [(true, .own (.slice am ks.length cm) 34 1 ks.length vs), (true, .own (.slice aa js.length ca) 34 1 js.length us), (true, .bysO G (vs ++ us ++ xs) (ks ++ js ++ ts)), (true, .cel (.slice al 1 cl) 1 ([.slice ax x.length cx]))], Z, X⟩ [(0, true, .pointer (some ⟨gm, 0, none⟩)), (6, true, .slice al 1 cl), (7, true, .int .i64 1), (8, true, .int .i64 0), (5, true, .slice ax x.length cx)] [(true, gm, 61, [.slice am ks.length cm, .slice aa js.length ca, .int .i64 ((er : Nat) : Int)])] ac _ := hs.re ⟨rfl, rfl, rfl, rfl, rfl, trivial⟩
    refine region_inv [([], [9, 10, 11]), ([], [2, 3, 4, 8, 9, 10, 11]), ([1], [3, 4, 8, 9, 10, 11]), ([1, 2], [4, 8, 9, 10, 11]), ([1, 2, 3], [8, 9, 10, 11]), ([], [6, 7, 8, 9, 10, 11]), ([5], [7, 8, 9, 10, 11]), ([5, 6], [8, 9, 10, 11]), ([1, 2, 3, 4, 5, 6, 7], [9, 10, 11]), ([0, 1, 2, 3, 4, 5, 6, 7, 8], [10, 11]), ([0, 1, 2, 3, 4, 5, 6, 7, 8, 9], [11]), ([0, 1, 2, 3, 4, 5, 6, 7, 8, 9, 10], [])] (fun L ac w => ∃ (ad1 : Option Addr) (cp2 : Nat) (ad4 : Option Addr) (ad5 : Option Addr) (cp6 : Nat), St 24 ⟨w0, [], [(true, cond (L 8) (.own (.slice ad5 ((ks ++ [x]).length) cp6) 34 1 ((ks ++ [x]).length) (vs ++ [.slice ad1 x.length cp2])) (.own (.slice am ks.length cm) 34 1 ks.length vs)), (true, .own (.slice aa js.length ca) 34 1 js.length us), (true, .bysO G (vs ++ us ++ xs) (ks ++ js ++ ts)), (true, .cel (.slice al 1 cl) 1 ([.slice ax x.length cx])), (L 6, .own (.slice ad1 x.length cp2) 5 1 x.length (bcs x)), (L 7, cond (L 7) (.own (.slice ad4 1 1) 34 1 1 ([.slice ad1 x.length cp2])) (.bys [] []))], Z, X⟩ [(12, L 0, .pointer (some ⟨gm, 0, none⟩)), (13, L 1, .pointer (some ⟨gm, 0, none⟩)), (14, L 2, .pointer (some ⟨gm, 0, none⟩)), (15, L 3, .pointer (some ⟨gm, 0, none⟩)), (16, L 4, .slice am ks.length cm), (17, L 5, .slice ax x.length cx), (18, L 6, .slice ad1 x.length cp2), (19, L 7, .slice ad4 1 1), (20, L 8, .slice ad5 ((ks ++ [x]).length) cp6), (21, L 9, .pointer (some ⟨gm, 0, none⟩)), (22, L 10, .pointer (some ⟨gm, 0, none⟩)), (0, true, .pointer (some ⟨gm, 0, none⟩)), (6, true, .slice al 1 cl), (7, true, .int .i64 1), (8, true, .int .i64 0), (5, true, .slice ax x.length cx)] [(true, gm, 61, (cond (L 11) [.slice ad5 ((ks ++ [x]).length) cp6, .slice aa js.length ca, .int .i64 ((er : Nat) : Int)] [.slice am ks.length cm, .slice aa js.length ca, .int .i64 ((er : Nat) : Int)]))] ac w) (by kernel_rfl) (by kernel_rfl) ?_ ?_ ?_
    · exact ⟨none, 0, none, none, 0, hs.drew.skip.skip.skip.skip.skip.skip.skip.skip.skip.skip.skip.padS.padS⟩
    · refine ⟨?_, ?_, ?_, ?_, ?_, ?_, ?_, ?_, ?_, ?_, ?_, ?_, trivial⟩
      · intro L ac w hJ
        obtain ⟨ad1, cp2, ad4, ad5, cp6, hs⟩ := hJ
        refine wpO_plain rfl (op_move hs (some 0) rfl rfl rfl rfl fun ac hs => ?_)
        exact ⟨ad1, cp2, ad4, ad5, cp6, hs⟩
      · intro L ac w hJ
        obtain ⟨ad1, cp2, ad4, ad5, cp6, hs⟩ := hJ
        refine wpO_plain rfl (op_move hs (some 1) rfl rfl rfl rfl fun ac hs => ?_)
        exact ⟨ad1, cp2, ad4, ad5, cp6, hs⟩
      · intro L ac w hJ
        obtain ⟨ad1, cp2, ad4, ad5, cp6, hs⟩ := hJ
        refine wpO_plain rfl (op_nilCheck hs (some 2) rfl rfl rfl rfl fun ac hs => ?_)
        exact ⟨ad1, cp2, ad4, ad5, cp6, hs⟩
      · intro L ac w hJ
        obtain ⟨ad1, cp2, ad4, ad5, cp6, hs⟩ := hJ
        refine wpO_plain rfl (op_fieldA hs (some 3) rfl rfl rfl Try.underlying61 rfl Try.sizeOf22 (by decide) rfl fun ac hs => ?_)
        exact ⟨ad1, cp2, ad4, ad5, cp6, hs⟩
      · intro L ac w hJ
        obtain ⟨ad1, cp2, ad4, ad5, cp6, hs⟩ := hJ
        refine wpO_plain rfl (op_load hs (some 4) 0 (v := .slice am ks.length cm) rfl rfl rfl rfl Try.isAgg22 Try.sizeOf22 rfl rfl fun ac hs => ?_)
        exact ⟨ad1, cp2, ad4, ad5, cp6, hs⟩
      · intro L ac w hJ
        obtain ⟨ad1, cp2, ad4, ad5, cp6, hs⟩ := hJ
        refine wpO_plain rfl (op_move hs (some 5) rfl rfl rfl rfl fun ac hs => ?_)
        exact ⟨ad1, cp2, ad4, ad5, cp6, hs⟩
      · intro L ac w hJ
        obtain ⟨ad1, cp2, ad4, ad5, cp6, hs⟩ := hJ
        refine wpO_plain rfl (op_callV (F := 63) (ρ := Option Addr × Nat) hs (some 6) (some 4) (v := fun r => .slice r.1 x.length r.2) (E := fun r => [.own (.slice r.1 x.length r.2) 5 1 x.length (bcs x)]) (j := 1) rfl rfl rfl rfl (Try.call63 _) (fun hs => clone_o ax x.length cx x (Nat.le_trans hx (by decide)) _ _ (hs.itemZ (k := 2) rfl hxm)) (fun _ => rfl) (fun _ => rfl) rfl rfl fun ⟨ad1, cp2⟩ ac w hs => ?_)
        exact ⟨ad1, cp2, ad4, ad5, cp6, hs⟩
      · intro L ac w hJ
        obtain ⟨ad1, cp2, ad4, ad5, cp6, hs⟩ := hJ
        refine wpO_plain rfl (op_bsO hs (some 7) (some 5) (qs := [(0, .slice ad1 x.length cp2)]) (cs := [.slice ad1 x.length cp2]) rfl rfl rfl rfl Try.underlying22 inf_slice_34 (by decide) (by decide) (fill_one _ _ rfl) rfl rfl rfl rfl fun ad4 ac w hs => ?_)
        exact ⟨ad1, cp2, ad4, ad5, cp6, hs⟩
      · intro L ac w hJ
        obtain ⟨ad1, cp2, ad4, ad5, cp6, hs⟩ := hJ
        refine wpO_plain rfl (op_appR hs (some 8) 0 5 (N' := (ks ++ [x]).length) (ys := vs ++ [.slice ad1 x.length cp2]) rfl rfl rfl rfl rfl rfl Try.underlying22 inf_slice_34 rfl (by decide) rfl (by intro u hu; obtain rfl := List.mem_singleton.1 hu; rfl) (by decide) (show ks.length + 1 ≤ 1000000 by omega) (by simp) rfl rfl rfl fun ad5 cp6 ac w hs => ?_)
        exact ⟨ad1, cp2, ad4, ad5, cp6, hs⟩
      · intro L ac w hJ
        obtain ⟨ad1, cp2, ad4, ad5, cp6, hs⟩ := hJ
        refine wpO_plain rfl (op_nilCheck hs (some 9) rfl rfl rfl rfl fun ac hs => ?_)
        exact ⟨ad1, cp2, ad4, ad5, cp6, hs⟩
      · intro L ac w hJ
        obtain ⟨ad1, cp2, ad4, ad5, cp6, hs⟩ := hJ
        refine wpO_plain rfl (op_fieldA hs (some 10) rfl rfl rfl Try.underlying61 rfl Try.sizeOf22 (by decide) rfl fun ac hs => ?_)
        exact ⟨ad1, cp2, ad4, ad5, cp6, hs⟩
      · intro L ac w hJ
        obtain ⟨ad1, cp2, ad4, ad5, cp6, hs⟩ := hJ
        refine wpO_plain rfl (op_store hs 0 (vs := [.slice ad5 ((ks ++ [x]).length) cp6]) rfl rfl rfl rfl rfl Try.sizeOf22 rfl rfl rfl rfl rfl fun w hs => ?_)
        exact ⟨ad1, cp2, ad4, ad5, cp6, hs⟩
    intro ac w hJ
    obtain ⟨ad1, cp2, ad4, ad5, cp6, hs⟩ := hJ
    replace hs : St 24 ⟨w0, [], [(true, .own (.slice ad5 ((ks ++ [x]).length) cp6) 34 1 ((ks ++ [x]).length) (vs ++ [.slice ad1 x.length cp2])), (true, .own (.slice aa js.length ca) 34 1 js.length us), (true, .bysO G (vs ++ us ++ xs) (ks ++ js ++ ts)), (true, .cel (.slice al 1 cl) 1 ([.slice ax x.length cx])), (true, .own (.slice ad1 x.length cp2) 5 1 x.length (bcs x)), (true, .own (.slice ad4 1 1) 34 1 1 ([.slice ad1 x.length cp2]))], Z, X⟩ [(12, true, .pointer (some ⟨gm, 0, none⟩)), (13, true, .pointer (some ⟨gm, 0, none⟩)), (14, true, .pointer (some ⟨gm, 0, none⟩)), (15, true, .pointer (some ⟨gm, 0, none⟩)), (16, true, .slice am ks.length cm), (17, true, .slice ax x.length cx), (18, true, .slice ad1 x.length cp2), (19, true, .slice ad4 1 1), (20, true, .slice ad5 ((ks ++ [x]).length) cp6), (21, true, .pointer (some ⟨gm, 0, none⟩)), (22, true, .pointer (some ⟨gm, 0, none⟩)), (0, true, .pointer (some ⟨gm, 0, none⟩)), (6, true, .slice al 1 cl), (7, true, .int .i64 1), (8, true, .int .i64 0), (5, true, .slice ax x.length cx)] [(true, gm, 61, [.slice ad5 ((ks ++ [x]).length) cp6, .slice aa js.length ca, .int .i64 ((er : Nat) : Int)])] ac w := hs
    refine blk_n ?_
    refine then_n ?_
    refine wp_region_lit ?_
    refine lstep (wpO_plain rfl (op_bin hs none (v := .int .i64 1) rfl rfl rfl rfl (fun _ => rfl) (fun _ => by kernel_rfl) rfl fun ac hs => ?_))
    refine lstep (wpO_plain rfl (op_move hs none rfl rfl rfl rfl fun ac hs => ?_))
    refine wpList_nil ?_
    refine then_n ?_
    replace hs := hs.snocOwn (ls' := (ks ++ js ++ ts) ++ [x]) 2 4 rfl rfl rfl
    replace hs := hs.pushB 2 hv hu rfl
    replace hs := hs.selS [0, 1, 2, 3] rfl (by decide)
    exact ⟨_, .inr (⟨ad5, cp6, (vs ++ [.slice ad1 x.length cp2]), (GU G (.slice ad1 x.length cp2)), rfl, (hs.re (fs' := [(0, true, .pointer (some ⟨gm, 0, none⟩)), (6, true, .slice al 1 cl), (7, true, .int .i64 1), (8, true, .int .i64 1)]) ⟨rfl, rfl, rfl, rfl, trivial⟩)⟩), by omega⟩
  · obtain ⟨a1, c1, v1, G1, rfl, hs⟩ := hJ
    refine wp_seq ?_
    refine wp_region_lit ?_
    refine lstep (wpO_plain rfl (op_bin hs none (v := .bool false) rfl rfl rfl rfl (fun _ => rfl) (fun _ => by kernel_rfl) rfl fun ac hs => ?_))
    refine wpList_nil ?_
    refine then_n ?_
    refine wp_seq ?_
    refine wp_cond_false (hs.ev rfl) ?_
    refine wp_exit ?_
    refine then_e ?_
    refine then_e ?_
    refine blk_e ?_
    exact bodyPost_end (res0 rfl) hs.defers ⟨⟨a1, c1, v1, G1⟩, rfl, ((hs.selS [0, 1, 2, 3] rfl (by decide)).selB [0] rfl (by decide)).mem⟩
theorem pushC_c (gm : Nat) (am : Option Addr) (cm : Nat) (vs : List Value) (aa : Option Addr) (ca : Nat) (us : List Value) (G : Nat → Prop) (xs : List Value) (ts : BL) (ks js : BL) (er : Nat) (al : Option Addr) (cl : Nat) (ax : Option Addr) (cx : Nat) (x : List UInt8) (hx : x.length ≤ 8000) (ok : OkN 8000 ks) (nx : Nat) (hnx : nx = x.length) (w0 : World) (Z X : Nat → Prop) (hm : Mem ⟨w0, [], [(true, .own (.slice am ks.length cm) 34 1 ks.length vs), (true, .own (.slice aa js.length ca) 34 1 js.length us), (true, .bysO G (vs ++ us ++ xs) (ks ++ js ++ ts)), (true, .cel (.slice al 1 cl) 1 ([.slice ax nx cx])), (true, .cel (.slice ax nx cx) nx (bcs x))], Z, X⟩ [(true, gm, 61, [.slice am ks.length cm, .slice aa js.length ca, .int .i64 ((er : Nat) : Int)])] w0) : Calls Try.prog 38 #[.pointer (some ⟨gm, 0, none⟩), .slice al 1 cl] w0 fun e w' => PostX w0 Z X (ρ := M1) (fun r => .tuple #[]) (fun r => [(true, gm, 61, [.slice r.a (ks ++ [x]).length r.c, .slice aa js.length ca, .int .i64 ((er : Nat) : Int)])]) (fun r => [(true, .own (.slice r.a (ks ++ [x]).length r.c) 34 1 (ks ++ [x]).length r.vs), (true, .own (.slice aa js.length ca) 34 1 js.length us), (true, .bysO r.G (r.vs ++ us ++ xs) ((ks ++ [x]) ++ js ++ ts)), (true, .cel (.slice al 1 cl) 1 [.slice ax nx cx]), (true, .cel (.slice ax nx cx) nx (bcs x))]) e w' := by
  subst hnx
  have hk8 : ks.length ≤ 8000 := ok.1
  refine enterX (n := 24) (args := [.pointer (some ⟨gm, 0, none⟩), .slice al 1 cl]) Try.func38 rfl rfl (Nat.le_of_ble_eq_true rfl) hm fun ac hs => ?_
  have hv := hs.ownLen 0 rfl
  have hu := hs.ownLen 1 rfl
  refine wp_seq ?_
  refine wp_region_lit ?_
  refine lstep (wpO_plain rfl (op_move hs none rfl rfl rfl rfl fun ac hs => ?_))
  refine lstep (wpO_plain rfl (op_blt hs none (v := .int .i64 1) rfl rfl rfl (blt_len Try.underlying22) rfl fun ac hs => ?_))
  refine lstep (wpO_plain rfl (op_move hs none rfl rfl rfl rfl fun ac hs => ?_))
  refine wpList_nil ?_
  refine then_n ?_
  refine wp_block ?_
  refine wp_loop_m (fun μ ac w => (1 = μ ∧ St 24 ⟨w0, [], [(true, .own (.slice am ks.length cm) 34 1 ks.length vs), (true, .own (.slice aa js.length ca) 34 1 js.length us), (true, .bysO G (vs ++ us ++ xs) (ks ++ js ++ ts)), (true, .cel (.slice al 1 cl) 1 ([.slice ax x.length cx])), (true, .cel (.slice ax x.length cx) x.length (bcs x))], Z, X⟩ [(0, true, .pointer (some ⟨gm, 0, none⟩)), (6, true, .slice al 1 cl), (7, true, .int .i64 1), (8, true, .int .i64 0)] [(true, gm, 61, [.slice am ks.length cm, .slice aa js.length ca, .int .i64 ((er : Nat) : Int)])] ac w) ∨ (∃ (a1 : Option Addr) (c1 : Nat) (v1 : List Value) (G1 : Nat → Prop), 0 = μ ∧ St 24 ⟨w0, [], [(true, .own (.slice a1 ((ks ++ [x]).length) c1) 34 1 ((ks ++ [x]).length) v1), (true, .own (.slice aa js.length ca) 34 1 js.length us), (true, .bysO G1 (v1 ++ us ++ xs) ((ks ++ [x]) ++ js ++ ts)), (true, .cel (.slice al 1 cl) 1 ([.slice ax x.length cx])), (true, .cel (.slice ax x.length cx) x.length (bcs x))], Z, X⟩ [(0, true, .pointer (some ⟨gm, 0, none⟩)), (6, true, .slice al 1 cl), (7, true, .int .i64 1), (8, true, .int .i64 1)] [(true, gm, 61, [.slice a1 ((ks ++ [x]).length) c1, .slice aa js.length ca, .int .i64 ((er : Nat) : Int)])] ac w)) ?_ ?_
  · exact ⟨_, .inl ⟨rfl, (hs.re (fs' := [(0, true, .pointer (some ⟨gm, 0, none⟩)), (6, true, .slice al 1 cl), (7, true, .int .i64 1), (8, true, .int .i64 0)]) ⟨rfl, rfl, rfl, rfl, trivial⟩)⟩⟩
  intro μ ac w hJ
  rcases hJ with hJ | hJ
  · obtain ⟨rfl, hs⟩ := hJ
    refine wp_seq ?_
    refine wp_region_lit ?_
    refine lstep (wpO_plain rfl (op_bin hs none (v := .bool true) rfl rfl rfl rfl (fun _ => rfl) (fun _ => by kernel_rfl) rfl fun ac hs => ?_))
    refine wpList_nil ?_
    refine then_n ?_
    refine wp_seq ?_
    refine wp_cond_true (hs.ev rfl) ?_
    refine wp_skip ?_
    refine then_n ?_
    refine wp_seq ?_
    refine wp_block ?_
    refine wp_seq ?_
    refine wp_region_lit ?_
    refine lstep (wpO_plain rfl (op_idxC hs none 3 (j := 0) rfl rfl rfl rfl rfl Try.underlying22 Try.sizeOf34 (by decide) (off := 0) (by omega) rfl fun ac hs => ?_))
    refine lstep (wpO_plain rfl (op_loadC hs none 3 (u := .slice ax x.length cx) rfl rfl rfl rfl Try.isAgg34 Try.sizeOf34 (by decide) rfl rfl fun ac hs => ?_))
    refine lstep (wpO_plain rfl (op_assign hs none rfl rfl rfl rfl fun ac hs => ?_))
    refine wpList_nil ?_
    refine then_n ?_
    replace hs : St 24 ⟨w0, [], [(true, .own (.slice am ks.length cm) 34 1 ks.length vs), (true, .own (.slice aa js.length ca) 34 1 js.length us), (true, .bysO G (vs ++ us ++ xs) (ks ++ js ++ ts)), (true, .cel (.slice al 1 cl) 1 ([.slice ax x.length cx])), (true, .cel (.slice ax x.length cx) x.length (bcs x))], Z, X⟩ [(0, true, .pointer (some ⟨gm, 0, none⟩)), (6, true, .slice al 1 cl), (7, true, .int .i64 1), (8, true, .int .i64 0), (5, true, .slice ax x.length cx)] [(true, gm, 61, [.slice am ks.length cm, .slice aa js.length ca, .int .i64 ((er : Nat) : Int)])] ac _ := hs.re ⟨rfl, rfl, rfl, rfl, rfl, trivial⟩
    refine region_inv [([], [9, 10, 11]), ([], [2, 3, 4, 8, 9, 10, 11]), ([1], [3, 4, 8, 9, 10, 11]), ([1, 2], [4, 8, 9, 10, 11]), ([1, 2, 3], [8, 9, 10, 11]), ([], [6, 7, 8, 9, 10, 11]), ([5], [7, 8, 9, 10, 11]), ([5, 6], [8, 9, 10, 11]), ([1, 2, 3, 4, 5, 6, 7], [9, 10, 11]), ([0, 1, 2, 3, 4, 5, 6, 7, 8], [10, 11]), ([0, 1, 2, 3, 4, 5, 6, 7, 8, 9], [11]), ([0, 1, 2, 3, 4, 5, 6, 7, 8, 9, 10], [])] (fun L ac w => ∃ (ad1 : Option Addr) (cp2 : Nat) (ad4 : Option Addr) (ad5 : Option Addr) (cp6 : Nat), St 24 ⟨w0, [], [(true, cond (L 8) (.own (.slice ad5 ((ks ++ [x]).length) cp6) 34 1 ((ks ++ [x]).length) (vs ++ [.slice ad1 x.length cp2])) (.own (.slice am ks.length cm) 34 1 ks.length vs)), (true, .own (.slice aa js.length ca) 34 1 js.length us), (true, .bysO G (vs ++ us ++ xs) (ks ++ js ++ ts)), (true, .cel (.slice al 1 cl) 1 ([.slice ax x.length cx])), (true, .cel (.slice ax x.length cx) x.length (bcs x)), (L 6, .own (.slice ad1 x.length cp2) 5 1 x.length (bcs x)), (L 7, cond (L 7) (.own (.slice ad4 1 1) 34 1 1 ([.slice ad1 x.length cp2])) (.bys [] []))], Z, X⟩ [(12, L 0, .pointer (some ⟨gm, 0, none⟩)), (13, L 1, .pointer (some ⟨gm, 0, none⟩)), (14, L 2, .pointer (some ⟨gm, 0, none⟩)), (15, L 3, .pointer (some ⟨gm, 0, none⟩)), (16, L 4, .slice am ks.length cm), (17, L 5, .slice ax x.length cx), (18, L 6, .slice ad1 x.length cp2), (19, L 7, .slice ad4 1 1), (20, L 8, .slice ad5 ((ks ++ [x]).length) cp6), (21, L 9, .pointer (some ⟨gm, 0, none⟩)), (22, L 10, .pointer (some ⟨gm, 0, none⟩)), (0, true, .pointer (some ⟨gm, 0, none⟩)), (6, true, .slice al 1 cl), (7, true, .int .i64 1), (8, true, .int .i64 0), (5, true, .slice ax x.length cx)] [(true, gm, 61, (cond (L 11) [.slice ad5 ((ks ++ [x]).length) cp6, .slice aa js.length ca, .int .i64 ((er : Nat) : Int)] [.slice am ks.length cm, .slice aa js.length ca, .int .i64 ((er : Nat) : Int)]))] ac w) (by kernel_rfl) (by kernel_rfl) ?_ ?_ ?_
    · exact ⟨none, 0, none, none, 0, hs.drew.skip.skip.skip.skip.skip.skip.skip.skip.skip.skip.skip.padS.padS⟩
    · refine ⟨?_, ?_, ?_, ?_, ?_, ?_, ?_, ?_, ?_, ?_, ?_, ?_, trivial⟩
      · intro L ac w hJ
        obtain ⟨ad1, cp2, ad4, ad5, cp6, hs⟩ := hJ
        refine wpO_plain rfl (op_move hs (some 0) rfl rfl rfl rfl fun ac hs => ?_)
        exact ⟨ad1, cp2, ad4, ad5, cp6, hs⟩
      · intro L ac w hJ
        obtain ⟨ad1, cp2, ad4, ad5, cp6, hs⟩ := hJ
        refine wpO_plain rfl (op_move hs (some 1) rfl rfl rfl rfl fun ac hs => ?_)
        exact ⟨ad1, cp2, ad4, ad5, cp6, hs⟩
      · intro L ac w hJ
        obtain ⟨ad1, cp2, ad4, ad5, cp6, hs⟩ := hJ
        refine wpO_plain rfl (op_nilCheck hs (some 2) rfl rfl rfl rfl fun ac hs => ?_)
        exact ⟨ad1, cp2, ad4, ad5, cp6, hs⟩
      · intro L ac w hJ
        obtain ⟨ad1, cp2, ad4, ad5, cp6, hs⟩ := hJ
        refine wpO_plain rfl (op_fieldA hs (some 3) rfl rfl rfl Try.underlying61 rfl Try.sizeOf22 (by decide) rfl fun ac hs => ?_)
        exact ⟨ad1, cp2, ad4, ad5, cp6, hs⟩
      · intro L ac w hJ
        obtain ⟨ad1, cp2, ad4, ad5, cp6, hs⟩ := hJ
        refine wpO_plain rfl (op_load hs (some 4) 0 (v := .slice am ks.length cm) rfl rfl rfl rfl Try.isAgg22 Try.sizeOf22 rfl rfl fun ac hs => ?_)
        exact ⟨ad1, cp2, ad4, ad5, cp6, hs⟩
      · intro L ac w hJ
        obtain ⟨ad1, cp2, ad4, ad5, cp6, hs⟩ := hJ
        refine wpO_plain rfl (op_move hs (some 5) rfl rfl rfl rfl fun ac hs => ?_)
        exact ⟨ad1, cp2, ad4, ad5, cp6, hs⟩
      · intro L ac w hJ
        obtain ⟨ad1, cp2, ad4, ad5, cp6, hs⟩ := hJ
        refine wpO_plain rfl (op_callV (F := 63) (ρ := Option Addr × Nat) hs (some 6) (some 5) (v := fun r => .slice r.1 x.length r.2) (E := fun r => [.own (.slice r.1 x.length r.2) 5 1 x.length (bcs x)]) (j := 1) rfl rfl rfl rfl (Try.call63 _) (fun hs => clone_o ax x.length cx x (Nat.le_trans hx (by decide)) _ _ (hs.celT (k := 4) rfl)) (fun _ => rfl) (fun _ => rfl) rfl rfl fun ⟨ad1, cp2⟩ ac w hs => ?_)
        exact ⟨ad1, cp2, ad4, ad5, cp6, hs⟩
      · intro L ac w hJ
        obtain ⟨ad1, cp2, ad4, ad5, cp6, hs⟩ := hJ
        refine wpO_plain rfl (op_bsO hs (some 7) (some 6) (qs := [(0, .slice ad1 x.length cp2)]) (cs := [.slice ad1 x.length cp2]) rfl rfl rfl rfl Try.underlying22 inf_slice_34 (by decide) (by decide) (fill_one _ _ rfl) rfl rfl rfl rfl fun ad4 ac w hs => ?_)
        exact ⟨ad1, cp2, ad4, ad5, cp6, hs⟩
      · intro L ac w hJ
        obtain ⟨ad1, cp2, ad4, ad5, cp6, hs⟩ := hJ
        refine wpO_plain rfl (op_appR hs (some 8) 0 6 (N' := (ks ++ [x]).length) (ys := vs ++ [.slice ad1 x.length cp2]) rfl rfl rfl rfl rfl rfl Try.underlying22 inf_slice_34 rfl (by decide) rfl (by intro u hu; obtain rfl := List.mem_singleton.1 hu; rfl) (by decide) (show ks.length + 1 ≤ 1000000 by omega) (by simp) rfl rfl rfl fun ad5 cp6 ac w hs => ?_)
        exact ⟨ad1, cp2, ad4, ad5, cp6, hs⟩
      · intro L ac w hJ
        obtain ⟨ad1, cp2, ad4, ad5, cp6, hs⟩ := hJ
        refine wpO_plain rfl (op_nilCheck hs (some 9) rfl rfl rfl rfl fun ac hs => ?_)
        exact ⟨ad1, cp2, ad4, ad5, cp6, hs⟩
      · intro L ac w hJ
        obtain ⟨ad1, cp2, ad4, ad5, cp6, hs⟩ := hJ
        refine wpO_plain rfl (op_fieldA hs (some 10) rfl rfl rfl Try.underlying61 rfl Try.sizeOf22 (by decide) rfl fun ac hs => ?_)
        exact ⟨ad1, cp2, ad4, ad5, cp6, hs⟩
      · intro L ac w hJ
        obtain ⟨ad1, cp2, ad4, ad5, cp6, hs⟩ := hJ
        refine wpO_plain rfl (op_store hs 0 (vs := [.slice ad5 ((ks ++ [x]).length) cp6]) rfl rfl rfl rfl rfl Try.sizeOf22 rfl rfl rfl rfl rfl fun w hs => ?_)
        exact ⟨ad1, cp2, ad4, ad5, cp6, hs⟩
    intro ac w hJ
    obtain ⟨ad1, cp2, ad4, ad5, cp6, hs⟩ := hJ
    replace hs : St 24 ⟨w0, [], [(true, .own (.slice ad5 ((ks ++ [x]).length) cp6) 34 1 ((ks ++ [x]).length) (vs ++ [.slice ad1 x.length cp2])), (true, .own (.slice aa js.length ca) 34 1 js.length us), (true, .bysO G (vs ++ us ++ xs) (ks ++ js ++ ts)), (true, .cel (.slice al 1 cl) 1 ([.slice ax x.length cx])), (true, .cel (.slice ax x.length cx) x.length (bcs x)), (true, .own (.slice ad1 x.length cp2) 5 1 x.length (bcs x)), (true, .own (.slice ad4 1 1) 34 1 1 ([.slice ad1 x.length cp2]))], Z, X⟩ [(12, true, .pointer (some ⟨gm, 0, none⟩)), (13, true, .pointer (some ⟨gm, 0, none⟩)), (14, true, .pointer (some ⟨gm, 0, none⟩)), (15, true, .pointer (some ⟨gm, 0, none⟩)), (16, true, .slice am ks.length cm), (17, true, .slice ax x.length cx), (18, true, .slice ad1 x.length cp2), (19, true, .slice ad4 1 1), (20, true, .slice ad5 ((ks ++ [x]).length) cp6), (21, true, .pointer (some ⟨gm, 0, none⟩)), (22, true, .pointer (some ⟨gm, 0, none⟩)), (0, true, .pointer (some ⟨gm, 0, none⟩)), (6, true, .slice al 1 cl), (7, true, .int .i64 1), (8, true, .int .i64 0), (5, true, .slice ax x.length cx)] [(true, gm, 61, [.slice ad5 ((ks ++ [x]).length) cp6, .slice aa js.length ca, .int .i64 ((er : Nat) : Int)])] ac w := hs
    refine blk_n ?_
    refine then_n ?_
    refine wp_region_lit ?_
    refine lstep (wpO_plain rfl (op_bin hs none (v := .int .i64 1) rfl rfl rfl rfl (fun _ => rfl) (fun _ => by kernel_rfl) rfl fun ac hs => ?_))
    refine lstep (wpO_plain rfl (op_move hs none rfl rfl rfl rfl fun ac hs => ?_))
    refine wpList_nil ?_
    refine then_n ?_
    replace hs := hs.snocOwn (ls' := (ks ++ js ++ ts) ++ [x]) 2 5 rfl rfl rfl
    replace hs := hs.pushB 2 hv hu rfl
    replace hs := hs.selS [0, 1, 2, 3, 4] rfl (by decide)
    exact ⟨_, .inr (⟨ad5, cp6, (vs ++ [.slice ad1 x.length cp2]), (GU G (.slice ad1 x.length cp2)), rfl, (hs.re (fs' := [(0, true, .pointer (some ⟨gm, 0, none⟩)), (6, true, .slice al 1 cl), (7, true, .int .i64 1), (8, true, .int .i64 1)]) ⟨rfl, rfl, rfl, rfl, trivial⟩)⟩), by omega⟩
  · obtain ⟨a1, c1, v1, G1, rfl, hs⟩ := hJ
    refine wp_seq ?_
    refine wp_region_lit ?_
    refine lstep (wpO_plain rfl (op_bin hs none (v := .bool false) rfl rfl rfl rfl (fun _ => rfl) (fun _ => by kernel_rfl) rfl fun ac hs => ?_))
    refine wpList_nil ?_
    refine then_n ?_
    refine wp_seq ?_
    refine wp_cond_false (hs.ev rfl) ?_
    refine wp_exit ?_
    refine then_e ?_
    refine then_e ?_
    refine blk_e ?_
    exact bodyPost_end (res0 rfl) hs.defers ⟨⟨a1, c1, v1, G1⟩, rfl, ((hs.selS [0, 1, 2, 3, 4] rfl (by decide)).selB [0] rfl (by decide)).mem⟩
theorem pushO_c (gm : Nat) (am : Option Addr) (cm : Nat) (vs : List Value) (aa : Option Addr) (ca : Nat) (us : List Value) (G : Nat → Prop) (xs : List Value) (ts : BL) (ks js : BL) (er : Nat) (al : Option Addr) (cl : Nat) (ax : Option Addr) (cx : Nat) (x : List UInt8) (hx : x.length ≤ 8000) (ok : OkN 8000 ks) (nx : Nat) (hnx : nx = x.length) (w0 : World) (Z X : Nat → Prop) (hm : Mem ⟨w0, [], [(true, .own (.slice am ks.length cm) 34 1 ks.length vs), (true, .own (.slice aa js.length ca) 34 1 js.length us), (true, .bysO G (vs ++ us ++ xs) (ks ++ js ++ ts)), (true, .own (.slice al 1 cl) 34 1 1 ([.slice ax nx cx])), (true, .own (.slice ax nx cx) 5 1 nx (bcs x))], Z, X⟩ [(true, gm, 61, [.slice am ks.length cm, .slice aa js.length ca, .int .i64 ((er : Nat) : Int)])] w0) : Calls Try.prog 38 #[.pointer (some ⟨gm, 0, none⟩), .slice al 1 cl] w0 fun e w' => PostX w0 Z X (ρ := M1) (fun r => .tuple #[]) (fun r => [(true, gm, 61, [.slice r.a (ks ++ [x]).length r.c, .slice aa js.length ca, .int .i64 ((er : Nat) : Int)])]) (fun r => [(true, .own (.slice r.a (ks ++ [x]).length r.c) 34 1 (ks ++ [x]).length r.vs), (true, .own (.slice aa js.length ca) 34 1 js.length us), (true, .bysO r.G (r.vs ++ us ++ xs) ((ks ++ [x]) ++ js ++ ts)), (true, .cel (.slice al 1 cl) 1 [.slice ax nx cx]), (true, .cel (.slice ax nx cx) nx (bcs x))]) e w' := by
  subst hnx
  have hk8 : ks.length ≤ 8000 := ok.1
  refine enterX (n := 24) (args := [.pointer (some ⟨gm, 0, none⟩), .slice al 1 cl]) Try.func38 rfl rfl (Nat.le_of_ble_eq_true rfl) hm fun ac hs => ?_
  replace hs := hs.freeze 3 rfl
  replace hs := hs.freeze 4 rfl
  have hv := hs.ownLen 0 rfl
  have hu := hs.ownLen 1 rfl
  refine wp_seq ?_
  refine wp_region_lit ?_
  refine lstep (wpO_plain rfl (op_move hs none rfl rfl rfl rfl fun ac hs => ?_))
  refine lstep (wpO_plain rfl (op_blt hs none (v := .int .i64 1) rfl rfl rfl (blt_len Try.underlying22) rfl fun ac hs => ?_))
  refine lstep (wpO_plain rfl (op_move hs none rfl rfl rfl rfl fun ac hs => ?_))
  refine wpList_nil ?_
  refine then_n ?_
  refine wp_block ?_
  refine wp_loop_m (fun μ ac w => (1 = μ ∧ St 24 ⟨w0, [], [(true, .own (.slice am ks.length cm) 34 1 ks.length vs), (true, .own (.slice aa js.length ca) 34 1 js.length us), (true, .bysO G (vs ++ us ++ xs) (ks ++ js ++ ts)), (true, .cel (.slice al 1 cl) 1 ([.slice ax x.length cx])), (true, .cel (.slice ax x.length cx) x.length (bcs x))], Z, X⟩ [(0, true, .pointer (some ⟨gm, 0, none⟩)), (6, true, .slice al 1 cl), (7, true, .int .i64 1), (8, true, .int .i64 0)] [(true, gm, 61, [.slice am ks.length cm, .slice aa js.length ca, .int .i64 ((er : Nat) : Int)])] ac w) ∨ (∃ (a1 : Option Addr) (c1 : Nat) (v1 : List Value) (G1 : Nat → Prop), 0 = μ ∧ St 24 ⟨w0, [], [(true, .own (.slice a1 ((ks ++ [x]).length) c1) 34 1 ((ks ++ [x]).length) v1), (true, .own (.slice aa js.length ca) 34 1 js.length us), (true, .bysO G1 (v1 ++ us ++ xs) ((ks ++ [x]) ++ js ++ ts)), (true, .cel (.slice al 1 cl) 1 ([.slice ax x.length cx])), (true, .cel (.slice ax x.length cx) x.length (bcs x))], Z, X⟩ [(0, true, .pointer (some ⟨gm, 0, none⟩)), (6, true, .slice al 1 cl), (7, true, .int .i64 1), (8, true, .int .i64 1)] [(true, gm, 61, [.slice a1 ((ks ++ [x]).length) c1, .slice aa js.length ca, .int .i64 ((er : Nat) : Int)])] ac w)) ?_ ?_
  · exact ⟨_, .inl ⟨rfl, (hs.re (fs' := [(0, true, .pointer (some ⟨gm, 0, none⟩)), (6, true, .slice al 1 cl), (7, true, .int .i64 1), (8, true, .int .i64 0)]) ⟨rfl, rfl, rfl, rfl, trivial⟩)⟩⟩
  intro μ ac w hJ
  rcases hJ with hJ | hJ
  · obtain ⟨rfl, hs⟩ := hJ
    refine wp_seq ?_
    refine wp_region_lit ?_
    refine lstep (wpO_plain rfl (op_bin hs none (v := .bool true) rfl rfl rfl rfl (fun _ => rfl) (fun _ => by kernel_rfl) rfl fun ac hs => ?_))
    refine wpList_nil ?_
    refine then_n ?_
    refine wp_seq ?_
    refine wp_cond_true (hs.ev rfl) ?_
    refine wp_skip ?_
    refine then_n ?_
    refine wp_seq ?_
    refine wp_block ?_
    refine wp_seq ?_
    refine wp_region_lit ?_
    refine lstep (wpO_plain rfl (op_idxC hs none 3 (j := 0) rfl rfl rfl rfl rfl Try.underlying22 Try.sizeOf34 (by decide) (off := 0) (by omega) rfl fun ac hs => ?_))
    refine lstep (wpO_plain rfl (op_loadC hs none 3 (u := .slice ax x.length cx) rfl rfl rfl rfl Try.isAgg34 Try.sizeOf34 (by decide) rfl rfl fun ac hs => ?_))
    refine lstep (wpO_plain rfl (op_assign hs none rfl rfl rfl rfl fun ac hs => ?_))
    refine wpList_nil ?_
    refine then_n ?_
    replace hs : St 24 ⟨w0, [], [(true, .own (.slice am ks.length cm) 34 1 ks.length vs), (true, .own (.slice aa js.length ca) 34 1 js.length us), (true, .bysO G (vs ++ us ++ xs) (ks ++ js ++ ts)), (true, .cel (.slice al 1 cl) 1 ([.slice ax x.length cx])), (true, .cel (.slice ax x.length cx) x.length (bcs x))], Z, X⟩ [(0, true, .pointer (some ⟨gm, 0, none⟩)), (6, true, .slice al 1 cl), (7, true, .int .i64 1), (8, true, .int .i64 0), (5, true, .slice ax x.length cx)] [(true, gm, 61, [.slice am ks.length cm, .slice aa js.length ca, .int .i64 ((er : Nat) : Int)])] ac _ := hs.re ⟨rfl, rfl, rfl, rfl, rfl, trivial⟩
    refine region_inv [([], [9, 10, 11]), ([], [2, 3, 4, 8, 9, 10, 11]), ([1], [3, 4, 8, 9, 10, 11]), ([1, 2], [4, 8, 9, 10, 11]), ([1, 2, 3], [8, 9, 10, 11]), ([], [6, 7, 8, 9, 10, 11]), ([5], [7, 8, 9, 10, 11]), ([5, 6], [8, 9, 10, 11]), ([1, 2, 3, 4, 5, 6, 7], [9, 10, 11]), ([0, 1, 2, 3, 4, 5, 6, 7, 8], [10, 11]), ([0, 1, 2, 3, 4, 5, 6, 7, 8, 9], [11]), ([0, 1, 2, 3, 4, 5, 6, 7, 8, 9, 10], [])] (fun L ac w => ∃ (ad1 : Option Addr) (cp2 : Nat) (ad4 : Option Addr) (ad5 : Option Addr) (cp6 : Nat), St 24 ⟨w0, [], [(true, cond (L 8) (.own (.slice ad5 ((ks ++ [x]).length) cp6) 34 1 ((ks ++ [x]).length) (vs ++ [.slice ad1 x.length cp2])) (.own (.slice am ks.length cm) 34 1 ks.length vs)), (true, .own (.slice aa js.length ca) 34 1 js.length us), (true, .bysO G (vs ++ us ++ xs) (ks ++ js ++ ts)), (true, .cel (.slice al 1 cl) 1 ([.slice ax x.length cx])), (true, .cel (.slice ax x.length cx) x.length (bcs x)), (L 6, .own (.slice ad1 x.length cp2) 5 1 x.length (bcs x)), (L 7, cond (L 7) (.own (.slice ad4 1 1) 34 1 1 ([.slice ad1 x.length cp2])) (.bys [] []))], Z, X⟩ [(12, L 0, .pointer (some ⟨gm, 0, none⟩)), (13, L 1, .pointer (some ⟨gm, 0, none⟩)), (14, L 2, .pointer (some ⟨gm, 0, none⟩)), (15, L 3, .pointer (some ⟨gm, 0, none⟩)), (16, L 4, .slice am ks.length cm), (17, L 5, .slice ax x.length cx), (18, L 6, .slice ad1 x.length cp2), (19, L 7, .slice ad4 1 1), (20, L 8, .slice ad5 ((ks ++ [x]).length) cp6), (21, L 9, .pointer (some ⟨gm, 0, none⟩)), (22, L 10, .pointer (some ⟨gm, 0, none⟩)), (0, true, .pointer (some ⟨gm, 0, none⟩)), (6, true, .slice al 1 cl), (7, true, .int .i64 1), (8, true, .int .i64 0), (5, true, .slice ax x.length cx)] [(true, gm, 61, (cond (L 11) [.slice ad5 ((ks ++ [x]).length) cp6, .slice aa js.length ca, .int .i64 ((er : Nat) : Int)] [.slice am ks.length cm, .slice aa js.length ca, .int .i64 ((er : Nat) : Int)]))] ac w) (by kernel_rfl) (by kernel_rfl) ?_ ?_ ?_
    · exact ⟨none, 0, none, none, 0, hs.drew.skip.skip.skip.skip.skip.skip.skip.skip.skip.skip.skip.padS.padS⟩
    · refine ⟨?_, ?_, ?_, ?_, ?_, ?_, ?_, ?_, ?_, ?_, ?_, ?_, trivial⟩
      · intro L ac w hJ
        obtain ⟨ad1, cp2, ad4, ad5, cp6, hs⟩ := hJ
        refine wpO_plain rfl (op_move hs (some 0) rfl rfl rfl rfl fun ac hs => ?_)
        exact ⟨ad1, cp2, ad4, ad5, cp6, hs⟩
      · intro L ac w hJ
        obtain ⟨ad1, cp2, ad4, ad5, cp6, hs⟩ := hJ
        refine wpO_plain rfl (op_move hs (some 1) rfl rfl rfl rfl fun ac hs => ?_)
        exact ⟨ad1, cp2, ad4, ad5, cp6, hs⟩
      · intro L ac w hJ
        obtain ⟨ad1, cp2, ad4, ad5, cp6, hs⟩ := hJ
        refine wpO_plain rfl (op_nilCheck hs (some 2) rfl rfl rfl rfl fun ac hs => ?_)
        exact ⟨ad1, cp2, ad4, ad5, cp6, hs⟩
      · intro L ac w hJ
        obtain ⟨ad1, cp2, ad4, ad5, cp6, hs⟩ := hJ
        refine wpO_plain rfl (op_fieldA hs (some 3) rfl rfl rfl Try.underlying61 rfl Try.sizeOf22 (by decide) rfl fun ac hs => ?_)
        exact ⟨ad1, cp2, ad4, ad5, cp6, hs⟩
      · intro L ac w hJ
        obtain ⟨ad1, cp2, ad4, ad5, cp6, hs⟩ := hJ
        refine wpO_plain rfl (op_load hs (some 4) 0 (v := .slice am ks.length cm) rfl rfl rfl rfl Try.isAgg22 Try.sizeOf22 rfl rfl fun ac hs => ?_)
        exact ⟨ad1, cp2, ad4, ad5, cp6, hs⟩
      · intro L ac w hJ
        obtain ⟨ad1, cp2, ad4, ad5, cp6, hs⟩ := hJ
        refine wpO_plain rfl (op_move hs (some 5) rfl rfl rfl rfl fun ac hs => ?_)
        exact ⟨ad1, cp2, ad4, ad5, cp6, hs⟩
      · intro L ac w hJ
        obtain ⟨ad1, cp2, ad4, ad5, cp6, hs⟩ := hJ
        refine wpO_plain rfl (op_callV (F := 63) (ρ := Option Addr × Nat) hs (some 6) (some 5) (v := fun r => .slice r.1 x.length r.2) (E := fun r => [.own (.slice r.1 x.length r.2) 5 1 x.length (bcs x)]) (j := 1) rfl rfl rfl rfl (Try.call63 _) (fun hs => clone_o ax x.length cx x (Nat.le_trans hx (by decide)) _ _ (hs.celT (k := 4) rfl)) (fun _ => rfl) (fun _ => rfl) rfl rfl fun ⟨ad1, cp2⟩ ac w hs => ?_)
        exact ⟨ad1, cp2, ad4, ad5, cp6, hs⟩
      · intro L ac w hJ
        obtain ⟨ad1, cp2, ad4, ad5, cp6, hs⟩ := hJ
        refine wpO_plain rfl (op_bsO hs (some 7) (some 6) (qs := [(0, .slice ad1 x.length cp2)]) (cs := [.slice ad1 x.length cp2]) rfl rfl rfl rfl Try.underlying22 inf_slice_34 (by decide) (by decide) (fill_one _ _ rfl) rfl rfl rfl rfl fun ad4 ac w hs => ?_)
        exact ⟨ad1, cp2, ad4, ad5, cp6, hs⟩
      · intro L ac w hJ
        obtain ⟨ad1, cp2, ad4, ad5, cp6, hs⟩ := hJ
        refine wpO_plain rfl (op_appR hs (some 8) 0 6 (N' := (ks ++ [x]).length) (ys := vs ++ [.slice ad1 x.length cp2]) rfl rfl rfl rfl rfl rfl Try.underlying22 inf_slice_34 rfl (by decide) rfl (by intro u hu; obtain rfl := List.mem_singleton.1 hu; rfl) (by decide) (show ks.length + 1 ≤ 1000000 by omega) (by simp) rfl rfl rfl fun ad5 cp6 ac w hs => ?_)
        exact ⟨ad1, cp2, ad4, ad5, cp6, hs⟩
      · intro L ac w hJ
        obtain ⟨ad1, cp2, ad4, ad5, cp6, hs⟩ := hJ
        refine wpO_plain rfl (op_nilCheck hs (some 9) rfl rfl rfl rfl fun ac hs => ?_)
        exact ⟨ad1, cp2, ad4, ad5, cp6, hs⟩
      · intro L ac w hJ
        obtain ⟨ad1, cp2, ad4, ad5, cp6, hs⟩ := hJ
        refine wpO_plain rfl (op_fieldA hs (some 10) rfl rfl rfl Try.underlying61 rfl Try.sizeOf22 (by decide) rfl fun ac hs => ?_)
        exact ⟨ad1, cp2, ad4, ad5, cp6, hs⟩
      · intro L ac w hJ
        obtain ⟨ad1, cp2, ad4, ad5, cp6, hs⟩ := hJ
        refine wpO_plain rfl (op_store hs 0 (vs := [.slice ad5 ((ks ++ [x]).length) cp6]) rfl rfl rfl rfl rfl Try.sizeOf22 rfl rfl rfl rfl rfl fun w hs => ?_)
        exact ⟨ad1, cp2, ad4, ad5, cp6, hs⟩
    intro ac w hJ
    obtain ⟨ad1, cp2, ad4, ad5, cp6, hs⟩ := hJ
    replace hs : St 24 ⟨w0, [], [(true, .own (.slice ad5 ((ks ++ [x]).length) cp6) 34 1 ((ks ++ [x]).length) (vs ++ [.slice ad1 x.length cp2])), (true, .own (.slice aa js.length ca) 34 1 js.length us), (true, .bysO G (vs ++ us ++ xs) (ks ++ js ++ ts)), (true, .cel (.slice al 1 cl) 1 ([.slice ax x.length cx])), (true, .cel (.slice ax x.length cx) x.length (bcs x)), (true, .own (.slice ad1 x.length cp2) 5 1 x.length (bcs x)), (true, .own (.slice ad4 1 1) 34 1 1 ([.slice ad1 x.length cp2]))], Z, X⟩ [(12, true, .pointer (some ⟨gm, 0, none⟩)), (13, true, .pointer (some ⟨gm, 0, none⟩)), (14, true, .pointer (some ⟨gm, 0, none⟩)), (15, true, .pointer (some ⟨gm, 0, none⟩)), (16, true, .slice am ks.length cm), (17, true, .slice ax x.length cx), (18, true, .slice ad1 x.length cp2), (19, true, .slice ad4 1 1), (20, true, .slice ad5 ((ks ++ [x]).length) cp6), (21, true, .pointer (some ⟨gm, 0, none⟩)), (22, true, .pointer (some ⟨gm, 0, none⟩)), (0, true, .pointer (some ⟨gm, 0, none⟩)), (6, true, .slice al 1 cl), (7, true, .int .i64 1), (8, true, .int .i64 0), (5, true, .slice ax x.length cx)] [(true, gm, 61, [.slice ad5 ((ks ++ [x]).length) cp6, .slice aa js.length ca, .int .i64 ((er : Nat) : Int)])] ac w := hs
    refine blk_n ?_
    refine then_n ?_
    refine wp_region_lit ?_
    refine lstep (wpO_plain rfl (op_bin hs none (v := .int .i64 1) rfl rfl rfl rfl (fun _ => rfl) (fun _ => by kernel_rfl) rfl fun ac hs => ?_))
    refine lstep (wpO_plain rfl (op_move hs none rfl rfl rfl rfl fun ac hs => ?_))
    refine wpList_nil ?_
    refine then_n ?_
    replace hs := hs.snocOwn (ls' := (ks ++ js ++ ts) ++ [x]) 2 5 rfl rfl rfl
    replace hs := hs.pushB 2 hv hu rfl
    replace hs := hs.selS [0, 1, 2, 3, 4] rfl (by decide)
    exact ⟨_, .inr (⟨ad5, cp6, (vs ++ [.slice ad1 x.length cp2]), (GU G (.slice ad1 x.length cp2)), rfl, (hs.re (fs' := [(0, true, .pointer (some ⟨gm, 0, none⟩)), (6, true, .slice al 1 cl), (7, true, .int .i64 1), (8, true, .int .i64 1)]) ⟨rfl, rfl, rfl, rfl, trivial⟩)⟩), by omega⟩
  · obtain ⟨a1, c1, v1, G1, rfl, hs⟩ := hJ
    refine wp_seq ?_
    refine wp_region_lit ?_
    refine lstep (wpO_plain rfl (op_bin hs none (v := .bool false) rfl rfl rfl rfl (fun _ => rfl) (fun _ => by kernel_rfl) rfl fun ac hs => ?_))
    refine wpList_nil ?_
    refine then_n ?_
    refine wp_seq ?_
    refine wp_cond_false (hs.ev rfl) ?_
    refine wp_exit ?_
    refine then_e ?_
    refine then_e ?_
    refine blk_e ?_
    exact bodyPost_end (res0 rfl) hs.defers ⟨⟨a1, c1, v1, G1⟩, rfl, ((hs.selS [0, 1, 2, 3, 4] rfl (by decide)).selB [0] rfl (by decide)).mem⟩
theorem pop_c (gm : Nat) (am : Option Addr) (cm : Nat) (vs : List Value) (aa : Option Addr) (ca : Nat) (us : List Value) (G : Nat → Prop) (xs : List Value) (ts : BL) (ks js : BL) (er : Nat) (x : List UInt8) (k1 : BL) (e1 : Nat) (ok : OkN 8000 ks) (hp : popL ks er = (x, k1, e1)) (w0 : World) (Z X : Nat → Prop) (hm : Mem ⟨w0, [], [(true, .own (.slice am ks.length cm) 34 1 ks.length vs), (true, .own (.slice aa js.length ca) 34 1 js.length us), (true, .bysO G (vs ++ us ++ xs) (ks ++ js ++ ts))], Z, X⟩ [(true, gm, 61, [.slice am ks.length cm, .slice aa js.length ca, .int .i64 ((er : Nat) : Int)])] w0) : Calls Try.prog 39 #[.pointer (some ⟨gm, 0, none⟩)] w0 fun e w' => PostX w0 Z X (ρ := M1x) (fun r => .slice r.x x.length r.y) (fun r => [(true, gm, 61, [.slice r.a k1.length r.c, .slice aa js.length ca, .int .i64 ((e1 : Nat) : Int)])]) (fun r => [(true, .own (.slice r.a k1.length r.c) 34 1 k1.length r.vs), (true, .own (.slice aa js.length ca) 34 1 js.length us), (true, .bysO G (r.vs ++ us ++ (xs ++ [.slice r.x x.length r.y])) (k1 ++ js ++ (ts ++ [x])))]) e w' := by
  have hk8 : ks.length ≤ 8000 := ok.1
  refine enterX (n := 24) (args := [.pointer (some ⟨gm, 0, none⟩)]) Try.func39 rfl rfl (Nat.le_of_ble_eq_true rfl) hm fun ac hs => ?_
  have hv := hs.ownLen 0 rfl
  have hu := hs.ownLen 1 rfl
  refine wp_seq ?_
  refine wp_region_lit ?_
  refine lstep (wpO_plain rfl (op_assign hs none rfl rfl rfl rfl fun ac hs => ?_))
  refine wpList_nil ?_
  refine then_n ?_
  refine wp_seq ?_
  refine wp_seq ?_
  refine wp_region_lit ?_
  refine lstep (wpO_plain rfl (op_move hs none rfl rfl rfl rfl fun ac hs => ?_))
  obtain ⟨e1, he1⟩ : ∃ z0, needE ks.length 1 er = z0 := ⟨_, rfl⟩
  refine lstep (wpO_plain rfl (op_callX (F := 48) (ρ := Unit) hs none none [0] [] (v := fun r => .bool (decide (e1 = 0))) (S1 := []) (bs1 := [(true, gm, 61, [.slice am ks.length cm, .slice aa js.length ca, .int .i64 ((er : Nat) : Int)])]) (E := fun r => []) (E1 := fun r => []) (E2 := fun r => []) (bfA := fun r => [(true, gm, 61, [.slice am ks.length cm, .slice aa js.length ca, .int .i64 ((e1 : Nat) : Int)])]) (bf := fun r => [(true, gm, 61, [.slice am ks.length cm, .slice aa js.length ca, .int .i64 ((e1 : Nat) : Int)])]) (bf2 := fun r => []) rfl rfl rfl rfl rfl (Try.call48 _) rfl rfl (by decide) (by decide) (fun Z X hm => needs_c gm am ks.length cm (.slice aa js.length ca) er 1 e1 (decide (e1 = 0)) he1 rfl _ _ _ hm) (fun _ => rfl) (fun _ => rfl) (fun _ => rfl) (fun _ => rfl) (fun _ => rfl) rfl fun _ ac w hs => ?_))
  refine lstep (wpO_plain rfl (op_un hs none (v := .bool (!(decide (e1 = 0)))) rfl rfl rfl (fun _ => rfl) rfl fun ac hs => ?_))
  refine wpList_nil ?_
  refine then_n ?_
  refine wp_cond_split (hs.ev rfl) (fun hc => ?_) (fun hc => ?_)
  · skip
    refine wp_seq ?_
    refine wp_region_lit ?_
    refine lstep (wpO_plain rfl (op_assign hs none rfl rfl rfl rfl fun ac hs => ?_))
    refine wpList_nil ?_
    refine then_n ?_
    refine wp_ret ?_
    refine then_r ?_
    have hne : ¬ needE ks.length 1 er = 0 := by rw [he1]; simpa using hc
    obtain ⟨rfl, rfl, rfl⟩ := inj3 ((if_neg hne : popL ks er = _).symm.trans hp)
    rw [← he1] at hs
    replace hs := hs.nilB 2 rfl
    exact bodyPost_ret (res1 rfl (rv_t hs rfl)) hs.defers ⟨⟨am, cm, vs, none, 0⟩, rfl, ((hs.selS [0, 1, 2] rfl (by decide)).selB [0] rfl (by decide)).mem⟩
  · skip
    have hnl := need_len (he1.trans (show e1 = 0 by simpa using hc))
    have hl0 := hnl.1
    refine wp_skip ?_
    refine then_n ?_
    refine wp_seq ?_
    refine wp_region_lit ?_
    refine lstep (wpO_plain rfl (op_move hs none rfl rfl rfl rfl fun ac hs => ?_))
    obtain ⟨y2, hy2⟩ : ∃ z0, ks[ks.length - 1 - 0]? = some z0 := ⟨_, List.getElem?_eq_getElem (show ks.length - 1 - 0 < ks.length by omega)⟩
    obtain ⟨ad3, cp4, ky2⟩ := hs.poolAt 2 rfl (hs.ownLen 0 rfl) hy2
    have my2 := zip_get ky2 hy2
    have ly2 : y2.length ≤ 8000 := ok.2 _ (List.mem_of_getElem? hy2)
    have dy2 : ks.getD (ks.length - 1 - 0) [] = y2 := getD_of hy2
    refine lstep (wpO_plain rfl (op_callX (F := 49) (ρ := Unit) hs none none [0] [0] (v := fun r => .slice ad3 y2.length cp4) (S1 := [(true, .own (.slice am ks.length cm) 34 1 ks.length vs)]) (bs1 := [(true, gm, 61, [.slice am ks.length cm, .slice aa js.length ca, .int .i64 ((e1 : Nat) : Int)])]) (E := fun r => [(true, .own (.slice am ks.length cm) 34 1 ks.length vs)]) (E1 := fun r => [(true, .own (.slice am ks.length cm) 34 1 ks.length vs)]) (E2 := fun r => []) (bfA := fun r => [(true, gm, 61, [.slice am ks.length cm, .slice aa js.length ca, .int .i64 ((e1 : Nat) : Int)])]) (bf := fun r => [(true, gm, 61, [.slice am ks.length cm, .slice aa js.length ca, .int .i64 ((e1 : Nat) : Int)])]) (bf2 := fun r => []) rfl rfl rfl rfl rfl (Try.call49 _) rfl rfl (by decide) (by decide) (fun Z X hm => top_c gm am cm vs ks (.slice aa js.length ca) e1 0 (.slice ad3 y2.length cp4) (show 0 < ks.length by omega) ky2 ok _ _ _ hm) (fun _ => rfl) (fun _ => rfl) (fun _ => rfl) (fun _ => rfl) (fun _ => rfl) rfl fun _ ac w hs => ?_))
    refine lstep (wpO_plain rfl (op_assign hs none rfl rfl rfl rfl fun ac hs => ?_))
    refine wpList_nil ?_
    refine then_n ?_
    refine wp_seq ?_
    replace hs : St 24 ⟨w0, [], [(true, .own (.slice am ks.length cm) 34 1 ks.length vs), (true, .own (.slice aa js.length ca) 34 1 js.length us), (true, .bysO G (vs ++ us ++ xs) (ks ++ js ++ ts))], Z, X⟩ [(0, true, .pointer (some ⟨gm, 0, none⟩)), (2, true, .slice none 0 0), (3, true, .slice ad3 y2.length cp4)] [(true, gm, 61, [.slice am ks.length cm, .slice aa js.length ca, .int .i64 ((e1 : Nat) : Int)])] ac _ := hs.re ⟨rfl, rfl, rfl, trivial⟩
    refine region_inv [([], [12, 13, 14]), ([], [2, 3, 4, 11, 12, 13, 14]), ([1], [3, 4, 11, 12, 13, 14]), ([1, 2], [4, 11, 12, 13, 14]), ([1, 2, 3], [11, 12, 13, 14]), ([], [6, 7, 8, 9, 10, 11, 12, 13, 14]), ([5], [7, 8, 9, 10, 11, 12, 13, 14]), ([5, 6], [8, 9, 10, 11, 12, 13, 14]), ([5, 6, 7], [9, 10, 11, 12, 13, 14]), ([5, 6, 7, 8], [10, 11, 12, 13, 14]), ([5, 6, 7, 8, 9], [11, 12, 13, 14]), ([1, 2, 3, 4, 5, 6, 7, 8, 9, 10], [12, 13, 14]), ([0, 1, 2, 3, 4, 5, 6, 7, 8, 9, 10, 11], [13, 14]), ([0, 1, 2, 3, 4, 5, 6, 7, 8, 9, 10, 11, 12], [14]), ([0, 1, 2, 3, 4, 5, 6, 7, 8, 9, 10, 11, 12, 13], [])] (fun L ac w => St 24 ⟨w0, [], [(true, .own (.slice am ks.length cm) 34 1 ks.length vs), (true, .own (.slice aa js.length ca) 34 1 js.length us), (true, .bysO G (vs ++ us ++ xs) (ks ++ js ++ ts))], Z, X⟩ [(9, L 0, .pointer (some ⟨gm, 0, none⟩)), (10, L 1, .pointer (some ⟨gm, 0, none⟩)), (11, L 2, .pointer (some ⟨gm, 0, none⟩)), (12, L 3, .pointer (some ⟨gm, 0, none⟩)), (13, L 4, .slice am ks.length cm), (14, L 5, .pointer (some ⟨gm, 0, none⟩)), (15, L 6, .pointer (some ⟨gm, 0, none⟩)), (16, L 7, .pointer (some ⟨gm, 0, none⟩)), (17, L 8, .slice am ks.length cm), (18, L 9, .int .i64 ((ks.length : Nat) : Int)), (19, L 10, .int .i64 ((ks.length - 1 : Nat) : Int)), (20, L 11, .slice am (ks.length - 1) cm), (21, L 12, .pointer (some ⟨gm, 0, none⟩)), (22, L 13, .pointer (some ⟨gm, 0, none⟩)), (0, true, .pointer (some ⟨gm, 0, none⟩)), (2, true, .slice none 0 0), (3, true, .slice ad3 y2.length cp4)] [(true, gm, 61, (cond (L 14) [.slice am (ks.length - 1) cm, .slice aa js.length ca, .int .i64 ((e1 : Nat) : Int)] [.slice am ks.length cm, .slice aa js.length ca, .int .i64 ((e1 : Nat) : Int)]))] ac w) (by kernel_rfl) (by kernel_rfl) ?_ ?_ ?_
    · exact hs.drew.skip.skip.skip.skip.skip.skip.skip.skip.skip.skip.skip.skip.skip.skip
    · refine ⟨?_, ?_, ?_, ?_, ?_, ?_, ?_, ?_, ?_, ?_, ?_, ?_, ?_, ?_, ?_, trivial⟩
      · intro L ac w hJ
        have hs := hJ
        refine wpO_plain rfl (op_move hs (some 0) rfl rfl rfl rfl fun ac hs => ?_)
        exact hs
      · intro L ac w hJ
        have hs := hJ
        refine wpO_plain rfl (op_move hs (some 1) rfl rfl rfl rfl fun ac hs => ?_)
        exact hs
      · intro L ac w hJ
        have hs := hJ
        refine wpO_plain rfl (op_nilCheck hs (some 2) rfl rfl rfl rfl fun ac hs => ?_)
        exact hs
      · intro L ac w hJ
        have hs := hJ
        refine wpO_plain rfl (op_fieldA hs (some 3) rfl rfl rfl Try.underlying61 rfl Try.sizeOf22 (by decide) rfl fun ac hs => ?_)
        exact hs
      · intro L ac w hJ
        have hs := hJ
        refine wpO_plain rfl (op_load hs (some 4) 0 (v := .slice am ks.length cm) rfl rfl rfl rfl Try.isAgg22 Try.sizeOf22 rfl rfl fun ac hs => ?_)
        exact hs
      · intro L ac w hJ
        have hs := hJ
        refine wpO_plain rfl (op_move hs (some 5) rfl rfl rfl rfl fun ac hs => ?_)
        exact hs
      · intro L ac w hJ
        have hs := hJ
        refine wpO_plain rfl (op_nilCheck hs (some 6) rfl rfl rfl rfl fun ac hs => ?_)
        exact hs
      · intro L ac w hJ
        have hs := hJ
        refine wpO_plain rfl (op_fieldA hs (some 7) rfl rfl rfl Try.underlying61 rfl Try.sizeOf22 (by decide) rfl fun ac hs => ?_)
        exact hs
      · intro L ac w hJ
        have hs := hJ
        refine wpO_plain rfl (op_load hs (some 8) 0 (v := .slice am ks.length cm) rfl rfl rfl rfl Try.isAgg22 Try.sizeOf22 rfl rfl fun ac hs => ?_)
        exact hs
      · intro L ac w hJ
        have hs := hJ
        refine wpO_plain rfl (op_blt hs (some 9) (v := .int .i64 ((ks.length : Nat) : Int)) rfl rfl rfl (blt_len Try.underlying22) rfl fun ac hs => ?_)
        exact hs
      · intro L ac w hJ
        have hs := hJ
        refine wpO_plain rfl (op_bin hs (some 10) (v := .int .i64 ((ks.length - 1 : Nat) : Int)) rfl rfl rfl rfl (fun _ => rfl) (bin_subN (x := ks.length) (y := 1) (z := ks.length - 1) (by omega) (show ks.length - 1 < 9223372036854775808 by omega)) rfl fun ac hs => ?_)
        exact hs
      · intro L ac w hJ
        have hs := hJ
        refine wpO_plain rfl (op_sliceV hs (some 11) 0 0 (ks.length - 1) (v' := .slice am (ks.length - 1) cm) rfl rfl rfl rfl (.inl ⟨rfl, rfl⟩) (.inr ⟨_, _, rfl, rfl⟩) Try.underlying22 Try.sizeOf34 (show 0 ≤ ks.length - 1 by omega) (show ks.length - 1 ≤ ks.length by omega) vsl_hi rfl fun ac hs => ?_)
        exact hs
      · intro L ac w hJ
        have hs := hJ
        refine wpO_plain rfl (op_nilCheck hs (some 12) rfl rfl rfl rfl fun ac hs => ?_)
        exact hs
      · intro L ac w hJ
        have hs := hJ
        refine wpO_plain rfl (op_fieldA hs (some 13) rfl rfl rfl Try.underlying61 rfl Try.sizeOf22 (by decide) rfl fun ac hs => ?_)
        exact hs
      · intro L ac w hJ
        have hs := hJ
        refine wpO_plain rfl (op_store hs 0 (vs := [.slice am (ks.length - 1) cm]) rfl rfl rfl rfl rfl Try.sizeOf22 rfl rfl rfl rfl rfl fun w hs => ?_)
        exact hs
    intro ac w hJ
    replace hs : St 24 ⟨w0, [], [(true, .own (.slice am ks.length cm) 34 1 ks.length vs), (true, .own (.slice aa js.length ca) 34 1 js.length us), (true, .bysO G (vs ++ us ++ xs) (ks ++ js ++ ts))], Z, X⟩ [(9, true, .pointer (some ⟨gm, 0, none⟩)), (10, true, .pointer (some ⟨gm, 0, none⟩)), (11, true, .pointer (some ⟨gm, 0, none⟩)), (12, true, .pointer (some ⟨gm, 0, none⟩)), (13, true, .slice am ks.length cm), (14, true, .pointer (some ⟨gm, 0, none⟩)), (15, true, .pointer (some ⟨gm, 0, none⟩)), (16, true, .pointer (some ⟨gm, 0, none⟩)), (17, true, .slice am ks.length cm), (18, true, .int .i64 ((ks.length : Nat) : Int)), (19, true, .int .i64 ((ks.length - 1 : Nat) : Int)), (20, true, .slice am (ks.length - 1) cm), (21, true, .pointer (some ⟨gm, 0, none⟩)), (22, true, .pointer (some ⟨gm, 0, none⟩)), (0, true, .pointer (some ⟨gm, 0, none⟩)), (2, true, .slice none 0 0), (3, true, .slice ad3 y2.length cp4)] [(true, gm, 61, [.slice am (ks.length - 1) cm, .slice aa js.length ca, .int .i64 ((e1 : Nat) : Int)])] ac w := hJ
    refine then_n ?_
    refine wp_seq ?_
    refine wp_region_lit ?_
    refine lstep (wpO_plain rfl (op_move hs none rfl rfl rfl rfl fun ac hs => ?_))
    refine lstep (wpO_plain rfl (op_assign hs none rfl rfl rfl rfl fun ac hs => ?_))
    refine wpList_nil ?_
    refine then_n ?_
    refine wp_ret ?_
    obtain ⟨rfl, rfl, rfl⟩ := inj3 ((if_pos (he1.trans (by simpa using hc)) : popL ks er = _).symm.trans hp)
    obtain rfl : e1 = 0 := by simpa using hc
    have hly : lastB ks = y2 := dy2
    replace hs := hs.truncO 0 (ks.length - 1) rfl (by omega) rfl
    replace hs := hs.popB (i := ks.length - 1) (j := ks.length - 1) 2 hv hu ky2 hy2 rfl
    obtain ⟨k1, hk1, hl1⟩ : ∃ z, ks.take (ks.length - 1) = z ∧ ks.length - 1 = z.length := ⟨_, rfl, by simp⟩
    rw [hk1] at hs
    rw [hl1] at hs
    rw [hly, hk1]
    exact bodyPost_ret (res1 rfl (rv_t hs rfl)) hs.defers ⟨⟨am, cm, vs.take k1.length, ad3, cp4⟩, rfl, ((hs.selS [0, 1, 2] rfl (by decide)).selB [0] rfl (by decide)).mem⟩
end Go.Proofs.Ytikkhkjndbicgaa
