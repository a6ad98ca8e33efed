/- The laws of words. -/
import Derived.Test.YtbjnlcblaonccaaWords5
import Derived.Test.YtbjnlcblaonccaaWlO
namespace Go.Proofs.Ytbjnlcblaonccaa
open Go.RowKit
set_option maxRecDepth 10000

theorem alive_c  (w0 : World) (Z : Nat → Prop) : Calls Try.prog 9 #[] w0 fun e w' => Ret w0 Z (ρ := Unit) (fun r => .bool true) (fun r => []) e w' := by
  refine enterS (n := 48) (args := []) (S := []) (Z := Z) Try.func9 rfl rfl (Nat.le_of_ble_eq_true rfl) sok0 rfl fun ac hs => ?_
  refine wp_seq ?_
  refine wp_region_lit ?_
  refine lstep (wpO_plain rfl (op_assign hs none rfl rfl rfl rfl fun ac hs => ?_))
  refine wpList_nil ?_
  refine then_n ?_
  refine wp_seq ?_
  refine wp_region_lit ?_
  refine lstep (wpO_plain rfl (op_bsO hs none none (qs := [(0, .int .u8 81), (1, .int .u8 1), (2, .int .u8 7), (3, .int .u8 76), (4, .int .u8 1), (5, .int .u8 8)]) (cs := [.int .u8 81, .int .u8 1, .int .u8 7, .int .u8 76, .int .u8 1, .int .u8 8]) (cs' := bcs [UInt8.ofNat 81, UInt8.ofNat 1, UInt8.ofNat 7, UInt8.ofNat 76, UInt8.ofNat 1, UInt8.ofNat 8]) rfl rfl rfl rfl Try.underlying22 inf_u8_5 (by decide) (by decide) (fill_six _ _ _ _ _ _ _ rfl rfl rfl rfl rfl rfl ) rfl (bcs_cons (by decide) (bcs_cons (by decide) (bcs_cons (by decide) (bcs_cons (by decide) (bcs_cons (by decide) (bcs_cons (by decide) rfl)))))) rfl rfl fun ad2 ac w hs => ?_))
  replace hs := hs.freeze 0 rfl
  refine lstep (wpO_plain rfl (op_callS (F := 12) (ρ := Option Addr × Nat × List Value) hs none none (v := fun r => .tuple #[.slice r.1 (([(81, []), (1, [7]), (76, [8])] : List Wd).length) r.2.1, .int .i64 0]) (E := fun r => [.cel (.slice r.1 (([(81, []), (1, [7]), (76, [8])] : List Wd).length) r.2.1) (([(81, []), (1, [7]), (76, [8])] : List Wd).length) (wcl ([(81, []), (1, [7]), (76, [8])] : List Wd) r.2.2), .bys r.2.2 (([(81, []), (1, [7]), (76, [8])] : List Wd).map Prod.snd)]) (j := 2) rfl rfl rfl rfl (Try.call12 _) (fun hs => all_c ad2 6 6 ([UInt8.ofNat 81, UInt8.ofNat 1, UInt8.ofNat 7, UInt8.ofNat 76, UInt8.ofNat 1, UInt8.ofNat 8]) ([(81, []), (1, [7]), (76, [8])] : List Wd) 0 (show ([UInt8.ofNat 81, UInt8.ofNat 1, UInt8.ofNat 7, UInt8.ofNat 76, UInt8.ofNat 1, UInt8.ofNat 8]).length ≤ 100000 by (try simp only [List.length_drop, List.length_take, List.length_append, List.length_cons, List.length_nil]); omega) (by decide) _ _ (hs.all (k := 0) rfl rfl)) (fun _ => rfl) rfl rfl fun ⟨ad3, cp4, vs5⟩ ac w hs => ?_))
  refine lstep (wpO_plain rfl (op_move hs none rfl rfl rfl rfl fun ac hs => ?_))
  refine lstep (wpO_plain rfl (op_extract hs none rfl rfl rfl rfl rfl fun ac hs => ?_))
  refine lstep (wpO_plain rfl (op_extract hs none rfl rfl rfl rfl rfl fun ac hs => ?_))
  refine lstep (wpO_plain rfl (op_assign hs none rfl rfl rfl rfl fun ac hs => ?_))
  refine lstep (wpO_plain rfl (op_assign hs none rfl rfl rfl rfl fun ac hs => ?_))
  refine wpList_nil ?_
  refine then_n ?_
  refine wp_seq ?_
  replace hs : St 48 ⟨w0, [], [(true, .cel (.slice ad2 6 6) 6 (bcs ([UInt8.ofNat 81, UInt8.ofNat 1, UInt8.ofNat 7, UInt8.ofNat 76, UInt8.ofNat 1, UInt8.ofNat 8]))), (true, .cel (.slice ad3 (([(81, []), (1, [7]), (76, [8])] : List Wd).length) cp4) (([(81, []), (1, [7]), (76, [8])] : List Wd).length) (wcl ([(81, []), (1, [7]), (76, [8])] : List Wd) vs5)), (true, .bys vs5 (([(81, []), (1, [7]), (76, [8])] : List Wd).map Prod.snd))], Z, noX⟩ [(0, true, .bool false), (1, true, .slice ad3 (([(81, []), (1, [7]), (76, [8])] : List Wd).length) cp4), (2, true, .int .i64 0)] [] ac _ := hs.re ⟨rfl, rfl, rfl, trivial⟩
  refine wp_region_lit ?_
  refine lstep (wpO_plain rfl (op_bsO hs none none (qs := [(0, .int .u8 2), (1, .int .u8 1)]) (cs := [.int .u8 2, .int .u8 1]) (cs' := bcs [UInt8.ofNat 2, UInt8.ofNat 1]) rfl rfl rfl rfl Try.underlying22 inf_u8_5 (by decide) (by decide) (fill_two _ _ _ rfl rfl ) rfl (bcs_cons (by decide) (bcs_cons (by decide) rfl)) rfl rfl fun ad7 ac w hs => ?_))
  replace hs := hs.freeze 3 rfl
  refine lstep (wpO_plain rfl (op_callS (F := 12) (ρ := Option Addr × Nat × List Value) hs none none (v := fun r => .tuple #[.slice r.1 (([]).length) r.2.1, .int .i64 2]) (E := fun r => [.cel (.slice r.1 (([]).length) r.2.1) (([]).length) (wcl ([]) r.2.2), .bys r.2.2 (([]).map Prod.snd)]) (j := 2) rfl rfl rfl rfl (Try.call12 _) (fun hs => all_c ad7 2 2 ([UInt8.ofNat 2, UInt8.ofNat 1]) ([]) 2 (show ([UInt8.ofNat 2, UInt8.ofNat 1]).length ≤ 100000 by (try simp only [List.length_drop, List.length_take, List.length_append, List.length_cons, List.length_nil]); omega) (by decide) _ _ (hs.all (k := 3) rfl rfl)) (fun _ => rfl) rfl rfl fun ⟨ad8, cp9, vs10⟩ ac w hs => ?_))
  refine lstep (wpO_plain rfl (op_move hs none rfl rfl rfl rfl fun ac hs => ?_))
  refine lstep (wpO_plain rfl (op_extract hs none rfl rfl rfl rfl rfl fun ac hs => ?_))
  refine lstep (wpO_plain rfl (op_extract hs none rfl rfl rfl rfl rfl fun ac hs => ?_))
  refine lstep (wpO_plain rfl (op_assign hs none rfl rfl rfl rfl fun ac hs => ?_))
  refine lstep (wpO_plain rfl (op_assign hs none rfl rfl rfl rfl fun ac hs => ?_))
  refine wpList_nil ?_
  have hw0 : ([(81, []), (1, [7]), (76, [8])] : List Wd)[0]? = some (81, []) := rfl
  obtain ⟨aw_0, cw_0, hv0⟩ := bysv_at (hs.all (k := 2) rfl rfl) (i := 0) (l := []) (by simp [hw0])
  replace hs := hs.pick none 2 (l := []) rfl hv0 (by simp [hw0]) rfl
  have hw2 : ([(81, []), (1, [7]), (76, [8])] : List Wd)[2]? = some (76, [8]) := rfl
  obtain ⟨aw_2, cw_2, hv2⟩ := bysv_at (hs.all (k := 2) rfl rfl) (i := 2) (l := [8]) (by simp [hw2])
  replace hs := hs.pick none 2 (l := [8]) rfl hv2 (by simp [hw2]) rfl
  refine then_n ?_
  refine wp_seq ?_
  replace hs : St 48 ⟨w0, [], [(true, .cel (.slice ad2 6 6) 6 (bcs ([UInt8.ofNat 81, UInt8.ofNat 1, UInt8.ofNat 7, UInt8.ofNat 76, UInt8.ofNat 1, UInt8.ofNat 8]))), (true, .cel (.slice ad3 (([(81, []), (1, [7]), (76, [8])] : List Wd).length) cp4) (([(81, []), (1, [7]), (76, [8])] : List Wd).length) (wcl ([(81, []), (1, [7]), (76, [8])] : List Wd) vs5)), (true, .bys vs5 (([(81, []), (1, [7]), (76, [8])] : List Wd).map Prod.snd)), (true, .cel (.slice ad7 2 2) 2 (bcs ([UInt8.ofNat 2, UInt8.ofNat 1]))), (true, .cel (.slice ad8 (([]).length) cp9) (([]).length) (wcl ([]) vs10)), (true, .bys vs10 (([]).map Prod.snd)), (true, .cel (.slice aw_0 (([]).length) cw_0) (([]).length) (bcs ([]))), (true, .cel (.slice aw_2 (([8]).length) cw_2) (([8]).length) (bcs ([8])))], Z, noX⟩ [(0, true, .bool false), (1, true, .slice ad3 (([(81, []), (1, [7]), (76, [8])] : List Wd).length) cp4), (2, true, .int .i64 0), (4, true, .int .i64 2)] [] ac _ := hs.re ⟨rfl, rfl, rfl, rfl, trivial⟩
  refine wp_region_lit ?_
  refine lstep (wpO_plain rfl (op_move hs none rfl rfl rfl rfl fun ac hs => ?_))
  refine lstep (wpO_plain rfl (op_bin hs none (v := .bool true) rfl rfl rfl rfl (fun _ => rfl) (fun _ => by kernel_rfl) rfl fun ac hs => ?_))
  refine lstep (wpO_plain rfl (op_move hs none rfl rfl rfl rfl fun ac hs => ?_))
  refine lstep (wpO_in hs rfl rfl rfl (op_move hs none rfl rfl rfl rfl fun ac hs => ?_))
  refine lstep (wpO_in hs rfl rfl rfl (op_blt hs none (v := .int .i64 ((([(81, []), (1, [7]), (76, [8])] : List Wd).length : Nat) : Int)) rfl rfl rfl (blt_len Try.underlying29) rfl fun ac hs => ?_))
  refine lstep (wpO_in hs rfl rfl rfl (op_bin hs none (v := .bool true) rfl rfl rfl rfl (fun _ => rfl) (fun w => dT rfl (bin_eqlN (x := ([(81, []), (1, [7]), (76, [8])] : List Wd).length) (y := 3) w)) rfl fun ac hs => ?_))
  refine lstep (wpO_plain rfl (op_pickT hs none rfl rfl rfl rfl rfl fun ac hs => ?_))
  refine lstep (wpO_plain rfl (op_move hs none rfl rfl rfl rfl fun ac hs => ?_))
  refine lstep (wpO_in hs rfl rfl rfl (op_move hs none rfl rfl rfl rfl fun ac hs => ?_))
  refine lstep (wpO_in hs rfl rfl rfl (op_idxC hs none 1 (j := 0) rfl rfl rfl rfl rfl Try.underlying29 Try.sizeOf25 (show 0 < ([(81, []), (1, [7]), (76, [8])] : List Wd).length by decide) (off := 0) (by omega) rfl fun ac hs => ?_))
  refine lstep (wpO_in hs rfl rfl rfl (op_fieldC hs none 1 rfl rfl rfl rfl (wcl_lt (i := 0) hw0 hv0) Try.underlying25 rfl Try.sizeOf5 (by decide) (off' := 0) rfl rfl fun ac hs => ?_))
  refine lstep (wpO_in hs rfl rfl rfl (op_loadC hs none 1 (u := .int .u8 81) rfl rfl rfl rfl Try.isAgg5 Try.sizeOf5 (by decide) (wcl_f0 (i := 0) hw0 hv0) rfl fun ac hs => ?_))
  refine lstep (wpO_in hs rfl rfl rfl (op_bin hs none (v := .bool true) rfl rfl rfl rfl (fun _ => rfl) (fun _ => by kernel_rfl) rfl fun ac hs => ?_))
  refine lstep (wpO_plain rfl (op_pickT hs none rfl rfl rfl rfl rfl fun ac hs => ?_))
  refine lstep (wpO_plain rfl (op_move hs none rfl rfl rfl rfl fun ac hs => ?_))
  refine lstep (wpO_in hs rfl rfl rfl (op_move hs none rfl rfl rfl rfl fun ac hs => ?_))
  refine lstep (wpO_in hs rfl rfl rfl (op_idxC hs none 1 (j := 2) rfl rfl rfl rfl rfl Try.underlying29 Try.sizeOf25 (show 2 < ([(81, []), (1, [7]), (76, [8])] : List Wd).length by decide) (off := 4) (by omega) rfl fun ac hs => ?_))
  refine lstep (wpO_in hs rfl rfl rfl (op_fieldC hs none 1 rfl rfl rfl rfl (wcl_lt (i := 2) hw2 hv2) Try.underlying25 rfl Try.sizeOf22 (by decide) (off' := 5) rfl rfl fun ac hs => ?_))
  refine lstep (wpO_in hs rfl rfl rfl (op_loadC hs none 1 (u := .slice aw_2 (([8]).length) cw_2) rfl rfl rfl rfl Try.isAgg22 Try.sizeOf22 (by decide) (wcl_f1 (i := 2) hw2 hv2) rfl fun ac hs => ?_))
  refine lstep (wpO_in hs rfl rfl rfl (op_convBS hs none 7 rfl rfl rfl rfl rfl Try.underlying22 Try.underlying5 Try.underlying9 rfl fun ac hs => ?_))
  refine lstep (wpO_in hs rfl rfl rfl (op_bin hs none (v := .bool true) rfl rfl rfl rfl (fun _ => rfl) (bin_eqlT (l := ([8])) (k := ([8])) (decide_eq_true rfl)) rfl fun ac hs => ?_))
  refine lstep (wpO_plain rfl (op_pickT hs none rfl rfl rfl rfl rfl fun ac hs => ?_))
  refine lstep (wpO_plain rfl (op_move hs none rfl rfl rfl rfl fun ac hs => ?_))
  refine lstep (wpO_in hs rfl rfl rfl (op_move hs none rfl rfl rfl rfl fun ac hs => ?_))
  refine lstep (wpO_in hs rfl rfl rfl (op_idxC hs none 1 (j := 2) rfl rfl rfl rfl rfl Try.underlying29 Try.sizeOf25 (show 2 < ([(81, []), (1, [7]), (76, [8])] : List Wd).length by decide) (off := 4) (by omega) rfl fun ac hs => ?_))
  refine lstep (wpO_in hs rfl rfl rfl (op_loadC hs none 1 (u := .agg #[.int .u8 76, .slice aw_2 (([8]).length) cw_2]) rfl rfl rfl rfl Try.isAgg25 Try.sizeOf25 (by decide) (wcl_ldv (i := 2) hw2 hv2) rfl fun ac hs => ?_))
  refine lstep (wpO_in hs rfl rfl rfl (op_callS (F := 20) (ρ := Unit) hs none none (v := fun r => .bool false) (E := fun r => []) (j := 0) rfl rfl rfl rfl (Try.call20 _) (fun hs => short_c 76 aw_2 (([8]).length) cw_2 ([8]) false (by decide) (show ([8]).length ≤ 50000 by (try simp only [List.length_drop, List.length_take, List.length_append, List.length_cons, List.length_nil]); omega) (by decide) _ _ (hs.all (k := 7) rfl rfl)) (fun _ => rfl) rfl rfl fun _ ac w hs => ?_))
  refine lstep (wpO_in hs rfl rfl rfl (op_un hs none (v := .bool true) rfl rfl rfl (fun _ => rfl) rfl fun ac hs => ?_))
  refine lstep (wpO_plain rfl (op_pickT hs none rfl rfl rfl rfl rfl fun ac hs => ?_))
  refine lstep (wpO_plain rfl (op_move hs none rfl rfl rfl rfl fun ac hs => ?_))
  refine lstep (wpO_in hs rfl rfl rfl (op_move hs none rfl rfl rfl rfl fun ac hs => ?_))
  refine lstep (wpO_in hs rfl rfl rfl (op_bin hs none (v := .bool true) rfl rfl rfl rfl (fun _ => rfl) (fun _ => by kernel_rfl) rfl fun ac hs => ?_))
  refine lstep (wpO_plain rfl (op_pickT hs none rfl rfl rfl rfl rfl fun ac hs => ?_))
  refine lstep (wpO_plain rfl (op_assign hs none rfl rfl rfl rfl fun ac hs => ?_))
  refine wpList_nil ?_
  refine then_n ?_
  refine wp_ret ?_
  exact bodyPost_ret (res1 rfl (rv_t hs rfl)) hs.defers ⟨(), rfl, hs.bel rfl, okl0⟩
theorem small_c (ad : Option Addr) (c : Nat) (ws : List Wd) (vs : List Value) (q : Bool) (hq : smallQ ws = q) (h256 : ∀ x ∈ ws, x.1 < 256) (w0 : World) (Z : Nat → Prop) (hws : CelV w0 Z (.slice ad ws.length c) ws.length (wcl ws vs)) (hbws : BysV w0 Z vs (ws.map Prod.snd)): Calls Try.prog 24 #[.slice ad ws.length c] w0 fun e w' => Ret w0 Z (ρ := Unit) (fun r => .bool q) (fun r => []) e w' := by
  refine enterS (n := 21) (args := [.slice ad ws.length c]) (S := [(true, .cel (.slice ad ws.length c) ws.length (wcl ws vs)), (true, .bys vs (ws.map Prod.snd))]) (Z := Z) Try.func24 rfl rfl (Nat.le_of_ble_eq_true rfl) (sokC hws (sokC hbws sok0)) rfl fun ac hs => ?_
  refine wp_seq ?_
  refine wp_region_lit ?_
  refine lstep (wpO_plain rfl (op_assign hs none rfl rfl rfl rfl fun ac hs => ?_))
  refine wpList_nil ?_
  refine then_n ?_
  refine wp_seq ?_
  refine wp_seq ?_
  refine wp_region_lit ?_
  refine lstep (wpO_plain rfl (op_assign hs none rfl rfl rfl rfl fun ac hs => ?_))
  refine wpList_nil ?_
  refine then_n ?_
  refine wp_block ?_
  refine wp_loop_m (fun μ ac w => ∃ (i : Nat), (ws.length - i) = μ ∧ (i ≤ ws.length) ∧ (i ≤ 40) ∧ (∀ j, j < i → ∀ w, ws[j]? = some w → w.2.length ≤ 400) ∧ St 21 ⟨w0, [], [(true, .cel (.slice ad ws.length c) ws.length (wcl ws vs)), (true, .bys vs (ws.map Prod.snd))], Z, noX⟩ [(0, true, .slice ad ws.length c), (3, true, .int .i64 ((i : Nat) : Int)), (2, true, .bool false)] [] ac w) ?_ ?_
  · exact ⟨_, 0, rfl, (by omega), (by omega), (fun j hj => by omega), (hs.re (fs' := [(0, true, .slice ad ws.length c), (3, true, .int .i64 ((0 : Nat) : Int)), (2, true, .bool false)]) ⟨rfl, rfl, rfl, trivial⟩)⟩
  intro μ ac w ⟨i, hμ, hi, h40, ha, hs⟩
  refine wp_seq ?_
  refine wp_seq ?_
  refine wp_region_lit ?_
  refine lstep (wpO_plain rfl (op_move hs none rfl rfl rfl rfl fun ac hs => ?_))
  refine lstep (wpO_plain rfl (op_move hs none rfl rfl rfl rfl fun ac hs => ?_))
  refine lstep (wpO_plain rfl (op_blt hs none (v := .int .i64 ((ws.length : Nat) : Int)) rfl rfl rfl (blt_len Try.underlying29) rfl fun ac hs => ?_))
  refine lstep (wpO_plain rfl (op_bin hs none (v := .bool (decide (i < ws.length))) rfl rfl rfl rfl (fun _ => rfl) (bin_lssN (x := i) (y := ws.length)) rfl fun ac hs => ?_))
  refine wpList_nil ?_
  refine then_n ?_
  refine wp_cond_split (hs.ev rfl) (fun hc => ?_) (fun hc => ?_)
  · skip
    have hp1 := of_decide_eq_true hc
    have hlt := hp1
    obtain ⟨⟨ow1, pw1⟩, hw1⟩ : ∃ z, ws[i]? = some z := ⟨_, List.getElem?_eq_getElem (show i < ws.length by omega)⟩
    obtain ⟨aw_1, cw_1, hv1⟩ := bysv_at (hs.all (k := 1) rfl rfl) (i := i) (l := pw1) (by simp [hw1])
    replace hs := hs.pick none 1 (l := pw1) rfl hv1 (by simp [hw1]) rfl
    refine wp_skip ?_
    refine then_n ?_
    refine wp_seq ?_
    refine wp_block ?_
    refine wp_seq ?_
    by_cases hq2 : i = 40
    · skip
      refine wp_region_lit ?_
      refine lstep (wpO_plain rfl (op_move hs none rfl rfl rfl rfl fun ac hs => ?_))
      refine lstep (wpO_plain rfl (op_bin hs none (v := .bool true) rfl rfl rfl rfl (fun _ => rfl) (fun w => dT hq2 (bin_eqlN (x := i) (y := 40) w)) rfl fun ac hs => ?_))
      refine lstep (wpO_plain rfl (op_move hs none rfl rfl rfl rfl fun ac hs => ?_))
      refine lstep (wpO_out hs none rfl rfl (.inl rfl) rfl rfl fun ac hs => ?_)
      refine lstep (wpO_out hs none rfl rfl (.inl rfl) rfl rfl fun ac hs => ?_)
      refine lstep (wpO_out hs none rfl rfl (.inl rfl) rfl rfl fun ac hs => ?_)
      refine lstep (wpO_out hs none rfl rfl (.inl rfl) rfl rfl fun ac hs => ?_)
      refine lstep (wpO_out hs none rfl rfl (.inl rfl) rfl rfl fun ac hs => ?_)
      refine lstep (wpO_out hs none rfl rfl (.inl rfl) rfl rfl fun ac hs => ?_)
      refine lstep (wpO_out hs none rfl rfl (.inl rfl) rfl rfl fun ac hs => ?_)
      refine lstep (wpO_plain rfl (op_pickT hs none rfl rfl rfl rfl rfl fun ac hs => ?_))
      refine wpList_nil ?_
      refine then_n ?_
      refine wp_cond_true (hs.ev rfl) ?_
      refine wp_seq ?_
      replace hs : St 21 ⟨w0, [], [(true, .cel (.slice ad ws.length c) ws.length (wcl ws vs)), (true, .bys vs (ws.map Prod.snd)), (true, .cel (.slice aw_1 pw1.length cw_1) pw1.length (bcs pw1))], Z, noX⟩ [(0, true, .slice ad ws.length c), (3, true, .int .i64 ((i : Nat) : Int)), (2, true, .bool false)] [] ac _ := hs.re ⟨rfl, rfl, rfl, trivial⟩
      refine wp_region_lit ?_
      refine lstep (wpO_plain rfl (op_assign hs none rfl rfl rfl rfl fun ac hs => ?_))
      refine wpList_nil ?_
      refine then_n ?_
      refine wp_ret ?_
      refine blk_r ?_
      refine then_r ?_
      refine then_r ?_
      refine blk_r ?_
      refine then_r ?_
      exact bodyPost_ret (res1 rfl (rv_t hs rfl)) hs.defers ⟨(), by rw [← hq, smallQ_no1 hlt hq2], hs.bel rfl, okl0⟩
    · skip
      by_cases hq3 : 400 < pw1.length
      · skip
        refine wp_region_lit ?_
        refine lstep (wpO_plain rfl (op_move hs none rfl rfl rfl rfl fun ac hs => ?_))
        refine lstep (wpO_plain rfl (op_bin hs none (v := .bool false) rfl rfl rfl rfl (fun _ => rfl) (fun w => dF hq2 (bin_eqlN (x := i) (y := 40) w)) rfl fun ac hs => ?_))
        refine lstep (wpO_plain rfl (op_move hs none rfl rfl rfl rfl fun ac hs => ?_))
        refine lstep (wpO_in hs rfl rfl rfl (op_move hs none rfl rfl rfl rfl fun ac hs => ?_))
        refine lstep (wpO_in hs rfl rfl rfl (op_move hs none rfl rfl rfl rfl fun ac hs => ?_))
        refine lstep (wpO_in hs rfl rfl rfl (op_idxC hs none 0 (j := i) rfl rfl rfl rfl rfl Try.underlying29 Try.sizeOf25 (show i < ws.length by omega) (off := i * 2) (by omega) rfl fun ac hs => ?_))
        refine lstep (wpO_in hs rfl rfl rfl (op_fieldC hs none 0 rfl rfl rfl rfl (wcl_lt (i := i) hw1 hv1) Try.underlying25 rfl Try.sizeOf22 (by decide) (off' := i * 2 + 1) rfl rfl fun ac hs => ?_))
        refine lstep (wpO_in hs rfl rfl rfl (op_loadC hs none 0 (u := .slice aw_1 pw1.length cw_1) rfl rfl rfl rfl Try.isAgg22 Try.sizeOf22 (by decide) (wcl_f1 (i := i) hw1 hv1) rfl fun ac hs => ?_))
        refine lstep (wpO_in hs rfl rfl rfl (op_blt hs none (v := .int .i64 ((pw1.length : Nat) : Int)) rfl rfl rfl (blt_len Try.underlying22) rfl fun ac hs => ?_))
        refine lstep (wpO_in hs rfl rfl rfl (op_bin hs none (v := .bool true) rfl rfl rfl rfl (fun _ => rfl) (fun w => dT hq3 (bin_gtrN (x := pw1.length) (y := 400) w)) rfl fun ac hs => ?_))
        refine lstep (wpO_plain rfl (op_pickF hs none rfl rfl rfl rfl rfl fun ac hs => ?_))
        refine wpList_nil ?_
        refine then_n ?_
        refine wp_cond_true (hs.ev rfl) ?_
        refine wp_seq ?_
        replace hs : St 21 ⟨w0, [], [(true, .cel (.slice ad ws.length c) ws.length (wcl ws vs)), (true, .bys vs (ws.map Prod.snd)), (true, .cel (.slice aw_1 pw1.length cw_1) pw1.length (bcs pw1))], Z, noX⟩ [(0, true, .slice ad ws.length c), (3, true, .int .i64 ((i : Nat) : Int)), (2, true, .bool false)] [] ac _ := hs.re ⟨rfl, rfl, rfl, trivial⟩
        refine wp_region_lit ?_
        refine lstep (wpO_plain rfl (op_assign hs none rfl rfl rfl rfl fun ac hs => ?_))
        refine wpList_nil ?_
        refine then_n ?_
        refine wp_ret ?_
        refine blk_r ?_
        refine then_r ?_
        refine then_r ?_
        refine blk_r ?_
        refine then_r ?_
        exact bodyPost_ret (res1 rfl (rv_t hs rfl)) hs.defers ⟨(), by rw [← hq, smallQ_no2 hw1 hq3], hs.bel rfl, okl0⟩
      · skip
        refine wp_region_lit ?_
        refine lstep (wpO_plain rfl (op_move hs none rfl rfl rfl rfl fun ac hs => ?_))
        refine lstep (wpO_plain rfl (op_bin hs none (v := .bool false) rfl rfl rfl rfl (fun _ => rfl) (fun w => dF hq2 (bin_eqlN (x := i) (y := 40) w)) rfl fun ac hs => ?_))
        refine lstep (wpO_plain rfl (op_move hs none rfl rfl rfl rfl fun ac hs => ?_))
        refine lstep (wpO_in hs rfl rfl rfl (op_move hs none rfl rfl rfl rfl fun ac hs => ?_))
        refine lstep (wpO_in hs rfl rfl rfl (op_move hs none rfl rfl rfl rfl fun ac hs => ?_))
        refine lstep (wpO_in hs rfl rfl rfl (op_idxC hs none 0 (j := i) rfl rfl rfl rfl rfl Try.underlying29 Try.sizeOf25 (show i < ws.length by omega) (off := i * 2) (by omega) rfl fun ac hs => ?_))
        refine lstep (wpO_in hs rfl rfl rfl (op_fieldC hs none 0 rfl rfl rfl rfl (wcl_lt (i := i) hw1 hv1) Try.underlying25 rfl Try.sizeOf22 (by decide) (off' := i * 2 + 1) rfl rfl fun ac hs => ?_))
        refine lstep (wpO_in hs rfl rfl rfl (op_loadC hs none 0 (u := .slice aw_1 pw1.length cw_1) rfl rfl rfl rfl Try.isAgg22 Try.sizeOf22 (by decide) (wcl_f1 (i := i) hw1 hv1) rfl fun ac hs => ?_))
        refine lstep (wpO_in hs rfl rfl rfl (op_blt hs none (v := .int .i64 ((pw1.length : Nat) : Int)) rfl rfl rfl (blt_len Try.underlying22) rfl fun ac hs => ?_))
        refine lstep (wpO_in hs rfl rfl rfl (op_bin hs none (v := .bool false) rfl rfl rfl rfl (fun _ => rfl) (fun w => dF hq3 (bin_gtrN (x := pw1.length) (y := 400) w)) rfl fun ac hs => ?_))
        refine lstep (wpO_plain rfl (op_pickF hs none rfl rfl rfl rfl rfl fun ac hs => ?_))
        refine wpList_nil ?_
        refine then_n ?_
        refine wp_cond_false (hs.ev rfl) ?_
        refine wp_skip ?_
        refine blk_n ?_
        refine then_n ?_
        replace hs : St 21 ⟨w0, [], [(true, .cel (.slice ad ws.length c) ws.length (wcl ws vs)), (true, .bys vs (ws.map Prod.snd)), (true, .cel (.slice aw_1 pw1.length cw_1) pw1.length (bcs pw1))], Z, noX⟩ [(0, true, .slice ad ws.length c), (3, true, .int .i64 ((i : Nat) : Int)), (2, true, .bool false)] [] ac _ := hs.re ⟨rfl, rfl, rfl, trivial⟩
        refine wp_region_lit ?_
        refine lstep (wpO_plain rfl (op_move hs none rfl rfl rfl rfl fun ac hs => ?_))
        refine lstep (wpO_plain rfl (op_bin hs none (v := .int .i64 ((i + 1 : Nat) : Int)) rfl rfl rfl rfl (fun _ => rfl) (bin_addN (x := i) (y := 1) (z := i + 1) rfl (show i + 1 < 9223372036854775808 by omega)) rfl fun ac hs => ?_))
        refine lstep (wpO_plain rfl (op_assign hs none rfl rfl rfl rfl fun ac hs => ?_))
        refine wpList_nil ?_
        refine then_n ?_
        replace hs := hs.selS [0, 1] rfl (by decide)
        exact ⟨_, ⟨(i + 1), rfl, (by omega), (by omega), (smallQ_step ha hw1 (by omega)), (hs.re (fs' := [(0, true, .slice ad ws.length c), (3, true, .int .i64 (((i + 1) : Nat) : Int)), (2, true, .bool false)]) ⟨rfl, rfl, rfl, trivial⟩)⟩, (by omega)⟩
  · skip
    have hp4 := of_decide_eq_false hc
    refine wp_exit ?_
    refine then_e ?_
    refine then_e ?_
    refine blk_e ?_
    refine then_n ?_
    refine wp_seq ?_
    refine wp_region_lit ?_
    refine lstep (wpO_plain rfl (op_assign hs none rfl rfl rfl rfl fun ac hs => ?_))
    refine wpList_nil ?_
    refine then_n ?_
    refine wp_ret ?_
    exact bodyPost_ret (res1 rfl (rv_t hs rfl)) hs.defers ⟨(), by rw [← hq, smallQ_yes (by omega) h40 hi ha], hs.bel rfl, okl0⟩
end Go.Proofs.Ytbjnlcblaonccaa
