/- The contracts of words: all words. -/
import Derived.Test.YtbjnlcblaonccaaWords
namespace Go.Proofs.Ytbjnlcblaonccaa
open Go.RowKit
set_option maxRecDepth 10000

theorem inf_struct_25 : Inf Try.prog 25 (.agg #[.int .u8 0, .slice none 0 0]) 2 32 := inf_of (by kernel_rfl)
theorem all_c (ad : Option Addr) (nl c : Nat) (l : List UInt8) (ws' : List Wd) (er : Nat) (hlen : l.length ≤ 100000) (hA : AW l = (ws', er)) (w0 : World) (Z : Nat → Prop) (hl : ByV w0 Z (.slice ad nl c) l): Calls Try.prog 12 #[.slice ad nl c] w0 fun e w' => Ret w0 Z (ρ := Option Addr × Nat × List Value) (fun r => .tuple #[.slice r.1 ws'.length r.2.1, .int .i64 ((er : Nat) : Int)]) (fun r => [.cel (.slice r.1 ws'.length r.2.1) ws'.length (wcl ws' r.2.2), .bys r.2.2 (ws'.map Prod.snd)]) e w' := by
  obtain rfl := byv_len hl
  refine enterS (n := 29) (args := [.slice ad l.length c]) (S := [(true, .cel (.slice ad l.length c) l.length (bcs l))]) (Z := Z) Try.func12 rfl rfl (Nat.le_of_ble_eq_true rfl) (sokC hl sok0) rfl fun ac hs => ?_
  refine wp_seq ?_
  refine wp_region_lit ?_
  refine lstep (wpO_plain rfl (op_assign hs none rfl rfl rfl rfl fun ac hs => ?_))
  refine lstep (wpO_plain rfl (op_assign hs none rfl rfl rfl rfl fun ac hs => ?_))
  refine wpList_nil ?_
  refine then_n ?_
  refine wp_seq ?_
  refine wp_region_lit ?_
  replace hs := hs.nilOwn none 25 2 rfl
  refine lstep (wpO_plain rfl (op_assign hs none (v := .slice none 0 0) rfl rfl rfl rfl fun ac hs => ?_))
  refine wpList_nil ?_
  refine then_n ?_
  refine wp_seq ?_
  refine wp_seq ?_
  refine wp_region_lit ?_
  refine lstep (wpO_plain rfl (op_assign hs none rfl rfl rfl rfl fun ac hs => ?_))
  refine wpList_nil ?_
  refine then_n ?_
  refine wp_block ?_
  replace hs := hs.nilBys none rfl
  refine wp_loop_m (fun μ ac w => ∃ (i : Nat) (ws : List Wd) (vs : List Value) (aw : Option Addr) (cw : Nat) (f : Nat), (l.length - i) = μ ∧ (i ≤ l.length) ∧ (vs.length = ws.length) ∧ (ws.length ≤ i) ∧ (l.length - i ≤ f) ∧ (AW l = glue ws (parseF l f i)) ∧ St 29 ⟨w0, [], [(true, .cel (.slice ad l.length c) l.length (bcs l)), (true, .own (.slice aw ws.length cw) 25 2 ws.length (wcl ws vs)), (true, .bys vs (ws.map Prod.snd))], Z, noX⟩ [(0, true, .slice ad l.length c), (4, true, .slice aw ws.length cw), (5, true, .int .i64 ((i : Nat) : Int)), (2, true, .slice none 0 0), (3, true, .int .i64 0)] [] ac w) ?_ ?_
  · exact ⟨_, 0, ([]), ([]), none, 0, l.length, rfl, (by omega), rfl, (by simp), (by omega), parse_start, (hs.re (fs' := [(0, true, .slice ad l.length c), (4, true, .slice none ([]).length 0), (5, true, .int .i64 ((0 : Nat) : Int)), (2, true, .slice none 0 0), (3, true, .int .i64 0)]) ⟨rfl, rfl, rfl, rfl, rfl, trivial⟩)⟩
  intro μ ac w ⟨i, ws, vs, aw, cw, f, hμ, hi, hvs, hwi, hf, hR, hs⟩
  refine wp_seq ?_
  refine wp_seq ?_
  refine wp_region_lit ?_
  refine lstep (wpO_plain rfl (op_move hs none rfl rfl rfl rfl fun ac hs => ?_))
  refine lstep (wpO_plain rfl (op_move hs none rfl rfl rfl rfl fun ac hs => ?_))
  refine lstep (wpO_plain rfl (op_blt hs none (v := .int .i64 ((l.length : Nat) : Int)) rfl rfl rfl (blt_len Try.underlying22) rfl fun ac hs => ?_))
  refine lstep (wpO_plain rfl (op_bin hs none (v := .bool (decide (i < l.length))) rfl rfl rfl rfl (fun _ => rfl) (bin_lssN (x := i) (y := l.length)) rfl fun ac hs => ?_))
  refine wpList_nil ?_
  refine then_n ?_
  refine wp_cond_split (hs.ev rfl) (fun hc => ?_) (fun hc => ?_)
  · skip
    have hp1 := of_decide_eq_true hc
    have hlt := hp1
    refine wp_skip ?_
    refine then_n ?_
    refine wp_block ?_
    refine wp_seq ?_
    refine wp_region_lit ?_
    refine lstep (wpO_plain rfl (op_move hs none rfl rfl rfl rfl fun ac hs => ?_))
    refine lstep (wpO_plain rfl (op_move hs none rfl rfl rfl rfl fun ac hs => ?_))
    obtain ⟨o2, p3, k4, er5, ho2⟩ : ∃ z0 z1 z2 z3, NX l ((i : Nat) : Int) = (z0, z1, z2, z3) := ⟨_, _, _, _, rfl⟩
    refine lstep (wpO_plain rfl (op_callS (F := 10) (ρ := Option Addr × Nat) hs none none (v := fun r => .tuple #[.agg #[.int .u8 ((o2 : Nat) : Int), .slice r.1 p3.length r.2], .int .i64 ((k4 : Nat) : Int), .int .i64 ((er5 : Nat) : Int)]) (E := fun r => [.cel (.slice r.1 p3.length r.2) p3.length (bcs p3)]) (j := 1) rfl rfl rfl rfl (Try.call10 _) (fun hs => next_c ad l.length c l ((i : Nat) : Int) o2 p3 k4 er5 (show l.length ≤ 100000 by omega) ho2 _ _ (hs.all (k := 0) rfl rfl)) (fun _ => rfl) rfl rfl fun ⟨ad6, cp7⟩ ac w hs => ?_))
    refine lstep (wpO_plain rfl (op_move hs none rfl rfl rfl rfl fun ac hs => ?_))
    refine lstep (wpO_plain rfl (op_extract hs none rfl rfl rfl rfl rfl fun ac hs => ?_))
    refine lstep (wpO_plain rfl (op_extract hs none rfl rfl rfl rfl rfl fun ac hs => ?_))
    refine lstep (wpO_plain rfl (op_extract hs none rfl rfl rfl rfl rfl fun ac hs => ?_))
    refine lstep (wpO_plain rfl (op_alloc hs none none (cs := [.int .u8 0, .slice none 0 0]) rfl rfl Try.zeroValue25 (by kernel_rfl) rfl rfl fun g8 ac w hs => ?_))
    refine lstep (wpO_plain rfl (op_store hs 0 (vs := [.int .u8 ((o2 : Nat) : Int), .slice ad6 p3.length cp7]) rfl rfl rfl rfl rfl Try.sizeOf25 rfl rfl rfl rfl rfl fun w hs => ?_))
    refine lstep (wpO_plain rfl (op_assign hs none rfl rfl rfl rfl fun ac hs => ?_))
    refine lstep (wpO_plain rfl (op_assign hs none rfl rfl rfl rfl fun ac hs => ?_))
    refine wpList_nil ?_
    refine then_n ?_
    refine wp_seq ?_
    refine wp_seq ?_
    replace hs : St 29 ⟨w0, [], [(true, .cel (.slice ad l.length c) l.length (bcs l)), (true, .own (.slice aw ws.length cw) 25 2 ws.length (wcl ws vs)), (true, .bys vs (ws.map Prod.snd)), (true, .cel (.slice ad6 p3.length cp7) p3.length (bcs p3))], Z, noX⟩ [(0, true, .slice ad l.length c), (4, true, .slice aw ws.length cw), (5, true, .int .i64 ((i : Nat) : Int)), (2, true, .slice none 0 0), (3, true, .int .i64 0), (6, true, .pointer (some ⟨g8, 0, none⟩)), (7, true, .int .i64 ((k4 : Nat) : Int)), (8, true, .int .i64 ((er5 : Nat) : Int))] [(true, g8, 25, [.int .u8 ((o2 : Nat) : Int), .slice ad6 p3.length cp7])] ac _ := hs.re ⟨rfl, rfl, rfl, rfl, rfl, rfl, rfl, rfl, trivial⟩
    refine wp_region_lit ?_
    refine lstep (wpO_plain rfl (op_move hs none rfl rfl rfl rfl fun ac hs => ?_))
    refine lstep (wpO_plain rfl (op_bin hs none (v := .bool (decide (er5 ≠ 0))) rfl rfl rfl rfl (fun _ => rfl) (bin_neqN (x := er5) (y := 0)) rfl fun ac hs => ?_))
    refine wpList_nil ?_
    refine then_n ?_
    refine wp_cond_split (hs.ev rfl) (fun hc => ?_) (fun hc => ?_)
    · skip
      have hp9 := of_decide_eq_true hc
      refine wp_seq ?_
      refine wp_region_lit ?_
      refine lstep (wpO_plain rfl (op_move hs none rfl rfl rfl rfl fun ac hs => ?_))
      refine lstep (wpO_plain rfl (op_assign hs none rfl rfl rfl rfl fun ac hs => ?_))
      refine lstep (wpO_plain rfl (op_assign hs none rfl rfl rfl rfl fun ac hs => ?_))
      refine wpList_nil ?_
      refine then_n ?_
      refine wp_ret ?_
      refine then_r ?_
      refine blk_r ?_
      refine then_r ?_
      refine blk_r ?_
      refine then_r ?_
      exact bodyPost_ret (res2 rfl (rv_t hs rfl) (rv_t hs rfl)) hs.defers ⟨⟨none, 0, []⟩, by obtain ⟨rfl, rfl⟩ := Prod.mk.inj ((parse_err hlt hf ho2 hp9 hR).symm.trans hA); rfl, hs.bel rfl, by obtain ⟨rfl, rfl⟩ := Prod.mk.inj ((parse_err hlt hf ho2 hp9 hR).symm.trans hA); exact okl_words rfl⟩
    · skip
      have hp10 := of_decide_eq_false hc
      have hN1 : NX l (i : Int) = (o2, p3, k4, 0) := by rw [ho2]; simp only [Prod.mk.injEq, true_and]; exact Classical.not_not.1 hp10
      have hnx := NX_next hlt hN1
      refine wp_skip ?_
      refine then_n ?_
      refine wp_seq ?_
      refine wp_region_lit ?_
      refine lstep (wpO_plain rfl (op_move hs none rfl rfl rfl rfl fun ac hs => ?_))
      refine lstep (wpO_plain rfl (op_load hs none 0 (v := .agg #[.int .u8 ((o2 : Nat) : Int), .slice ad6 p3.length cp7]) rfl rfl rfl rfl Try.isAgg25 Try.sizeOf25 rfl rfl fun ac hs => ?_))
      refine lstep (wpO_plain rfl (op_bsO hs none none (qs := [(0, .agg #[.int .u8 ((o2 : Nat) : Int), .slice ad6 p3.length cp7])]) (cs := [.int .u8 ((o2 : Nat) : Int), .slice ad6 p3.length cp7]) rfl rfl rfl rfl Try.underlying29 inf_struct_25 (by decide) (by decide) (fill_pair _ _ _) rfl rfl rfl rfl fun ad12 ac w hs => ?_))
      refine lstep (wpO_plain rfl (op_appR hs none 1 4 (N' := (ws ++ [(o2, p3)]).length) (ys := wcl (ws ++ [(o2, p3)]) (vs ++ [.slice ad6 p3.length cp7])) rfl rfl rfl rfl rfl rfl Try.underlying29 inf_struct_25 rfl (by decide) rfl (by intro u hu; simp at hu; rcases hu with rfl | rfl <;> rfl) (by decide) (show ws.length + 1 ≤ 1000000 by omega) (by simp) (wcl_snoc _ _ _ _ _ hvs) rfl rfl fun ad13 cp14 ac w hs => ?_))
      refine lstep (wpO_plain rfl (op_assign hs none rfl rfl rfl rfl fun ac hs => ?_))
      refine wpList_nil ?_
      refine then_n ?_
      replace hs : St 29 ⟨w0, [], [(true, .cel (.slice ad l.length c) l.length (bcs l)), (true, .own (.slice ad13 ((ws ++ [(o2, p3)]).length) cp14) 25 2 ((ws ++ [(o2, p3)]).length) (wcl (ws ++ [(o2, p3)]) (vs ++ [.slice ad6 p3.length cp7]))), (true, .bys vs (ws.map Prod.snd)), (true, .cel (.slice ad6 p3.length cp7) p3.length (bcs p3)), (true, .own (.slice ad12 1 1) 25 2 1 ([.int .u8 ((o2 : Nat) : Int), .slice ad6 p3.length cp7]))], Z, noX⟩ [(0, true, .slice ad l.length c), (4, true, .slice ad13 ((ws ++ [(o2, p3)]).length) cp14), (5, true, .int .i64 ((i : Nat) : Int)), (2, true, .slice none 0 0), (3, true, .int .i64 0), (7, true, .int .i64 ((k4 : Nat) : Int))] [(true, g8, 25, [.int .u8 ((o2 : Nat) : Int), .slice ad6 p3.length cp7])] ac _ := hs.re ⟨rfl, rfl, rfl, rfl, rfl, rfl, trivial⟩
      refine wp_region_lit ?_
      refine lstep (wpO_plain rfl (op_move hs none rfl rfl rfl rfl fun ac hs => ?_))
      refine lstep (wpO_plain rfl (op_assign hs none rfl rfl rfl rfl fun ac hs => ?_))
      refine wpList_nil ?_
      refine blk_n ?_
      refine then_n ?_
      replace hs := hs.snocBys (vs := vs) (ls' := (ws ++ [(o2, p3)]).map Prod.snd) 2 3 rfl rfl (by simp)
      replace hs := (hs.takeb 0).selS [0, 1, 2] rfl (by decide)
      exact ⟨_, ⟨k4, (ws ++ [(o2, p3)]), (vs ++ [.slice ad6 p3.length cp7]), ad13, cp14, (f - 1), rfl, hnx.2.1, (by simp; omega), (by simp; omega), (by have := hnx.1; omega), (parse_step hlt hf hN1 hR), (hs.re (fs' := [(0, true, .slice ad l.length c), (4, true, .slice ad13 (ws ++ [(o2, p3)]).length cp14), (5, true, .int .i64 ((k4 : Nat) : Int)), (2, true, .slice none 0 0), (3, true, .int .i64 0)]) ⟨rfl, rfl, rfl, rfl, rfl, trivial⟩)⟩, (by have := hnx.1; omega)⟩
  · skip
    have hp15 := of_decide_eq_false hc
    refine wp_exit ?_
    refine then_e ?_
    refine then_e ?_
    refine blk_e ?_
    refine then_n ?_
    refine wp_seq ?_
    refine wp_region_lit ?_
    refine lstep (wpO_plain rfl (op_move hs none rfl rfl rfl rfl fun ac hs => ?_))
    refine lstep (wpO_plain rfl (op_assign hs none rfl rfl rfl rfl fun ac hs => ?_))
    refine lstep (wpO_plain rfl (op_assign hs none rfl rfl rfl rfl fun ac hs => ?_))
    refine wpList_nil ?_
    refine then_n ?_
    refine wp_ret ?_
    replace hs := hs.freeze 1 rfl
    exact bodyPost_ret (res2 rfl (rv_t hs rfl) (rv_t hs rfl)) hs.defers ⟨⟨aw, cw, vs⟩, by obtain ⟨rfl, rfl⟩ := Prod.mk.inj ((parse_end hp15 hR).symm.trans hA); rfl, hs.bel rfl, by obtain ⟨rfl, rfl⟩ := Prod.mk.inj ((parse_end hp15 hR).symm.trans hA); exact hs.ret2 1 2 rfl rfl (by decide)⟩
theorem rall_c (ad : Option Addr) (nl c : Nat) (l : List UInt8) (ws' : List Wd) (er : Nat) (hlen : l.length ≤ 100000) (hA : AW l = (ws', er)) (w0 : World) (Z : Nat → Prop) (hl : ByV w0 Z (.slice ad nl c) l): Calls Try.prog 13 #[.slice ad nl c] w0 fun e w' => Ret w0 Z (ρ := Option Addr × Nat × List Value) (fun r => .tuple #[.slice r.1 ws'.length r.2.1, .int .i64 ((er : Nat) : Int)]) (fun r => [.cel (.slice r.1 ws'.length r.2.1) ws'.length (wcl ws' r.2.2), .bys r.2.2 (ws'.map Prod.snd)]) e w' := by
  obtain rfl := byv_len hl
  refine enterS (n := 30) (args := [.slice ad l.length c]) (S := [(true, .cel (.slice ad l.length c) l.length (bcs l))]) (Z := Z) Try.func13 rfl rfl (Nat.le_of_ble_eq_true rfl) (sokC hl sok0) rfl fun ac hs => ?_
  refine wp_seq ?_
  refine wp_region_lit ?_
  refine lstep (wpO_plain rfl (op_assign hs none rfl rfl rfl rfl fun ac hs => ?_))
  refine lstep (wpO_plain rfl (op_assign hs none rfl rfl rfl rfl fun ac hs => ?_))
  refine wpList_nil ?_
  refine then_n ?_
  refine wp_seq ?_
  refine wp_region_lit ?_
  refine lstep (wpO_plain rfl (op_bsO0 hs none none (size := 2) rfl rfl Try.underlying29 inf_struct_25 rfl rfl fun ad2 ac w hs => ?_))
  refine lstep (wpO_plain rfl (op_assign hs none rfl rfl rfl rfl fun ac hs => ?_))
  refine wpList_nil ?_
  refine then_n ?_
  refine wp_seq ?_
  refine wp_seq ?_
  refine wp_region_lit ?_
  refine lstep (wpO_plain rfl (op_assign hs none rfl rfl rfl rfl fun ac hs => ?_))
  refine wpList_nil ?_
  refine then_n ?_
  refine wp_block ?_
  replace hs := hs.nilBys none rfl
  refine wp_loop_m (fun μ ac w => ∃ (i : Nat) (ws : List Wd) (vs : List Value) (aw : Option Addr) (cw : Nat) (f : Nat), (l.length - i) = μ ∧ (i ≤ l.length) ∧ (vs.length = ws.length) ∧ (ws.length ≤ i) ∧ (l.length - i ≤ f) ∧ (AW l = glue ws (parseF l f i)) ∧ St 30 ⟨w0, [], [(true, .cel (.slice ad l.length c) l.length (bcs l)), (true, .own (.slice aw ws.length cw) 25 2 ws.length (wcl ws vs)), (true, .bys vs (ws.map Prod.snd))], Z, noX⟩ [(0, true, .slice ad l.length c), (4, true, .slice aw ws.length cw), (5, true, .int .i64 ((i : Nat) : Int)), (2, true, .slice none 0 0), (3, true, .int .i64 0)] [] ac w) ?_ ?_
  · exact ⟨_, 0, ([]), ([]), ad2, 0, l.length, rfl, (by omega), rfl, (by simp), (by omega), parse_start, (hs.re (fs' := [(0, true, .slice ad l.length c), (4, true, .slice ad2 ([]).length 0), (5, true, .int .i64 ((0 : Nat) : Int)), (2, true, .slice none 0 0), (3, true, .int .i64 0)]) ⟨rfl, rfl, rfl, rfl, rfl, trivial⟩)⟩
  intro μ ac w ⟨i, ws, vs, aw, cw, f, hμ, hi, hvs, hwi, hf, hR, hs⟩
  refine wp_seq ?_
  refine wp_seq ?_
  refine wp_region_lit ?_
  refine lstep (wpO_plain rfl (op_move hs none rfl rfl rfl rfl fun ac hs => ?_))
  refine lstep (wpO_plain rfl (op_move hs none rfl rfl rfl rfl fun ac hs => ?_))
  refine lstep (wpO_plain rfl (op_blt hs none (v := .int .i64 ((l.length : Nat) : Int)) rfl rfl rfl (blt_len Try.underlying22) rfl fun ac hs => ?_))
  refine lstep (wpO_plain rfl (op_bin hs none (v := .bool (decide (i < l.length))) rfl rfl rfl rfl (fun _ => rfl) (bin_lssN (x := i) (y := l.length)) rfl fun ac hs => ?_))
  refine wpList_nil ?_
  refine then_n ?_
  refine wp_cond_split (hs.ev rfl) (fun hc => ?_) (fun hc => ?_)
  · skip
    have hp3 := of_decide_eq_true hc
    have hlt := hp3
    refine wp_skip ?_
    refine then_n ?_
    refine wp_block ?_
    refine wp_seq ?_
    refine wp_region_lit ?_
    refine lstep (wpO_plain rfl (op_move hs none rfl rfl rfl rfl fun ac hs => ?_))
    refine lstep (wpO_plain rfl (op_move hs none rfl rfl rfl rfl fun ac hs => ?_))
    obtain ⟨o4, p5, k6, er7, ho4⟩ : ∃ z0 z1 z2 z3, NX l ((i : Nat) : Int) = (z0, z1, z2, z3) := ⟨_, _, _, _, rfl⟩
    refine lstep (wpO_plain rfl (op_callS (F := 11) (ρ := Option Addr × Nat) hs none none (v := fun r => .tuple #[.agg #[.int .u8 ((o4 : Nat) : Int), .slice r.1 p5.length r.2], .int .i64 ((k6 : Nat) : Int), .int .i64 ((er7 : Nat) : Int)]) (E := fun r => [.cel (.slice r.1 p5.length r.2) p5.length (bcs p5)]) (j := 1) rfl rfl rfl rfl (Try.call11 _) (fun hs => rnext_c ad l.length c l ((i : Nat) : Int) o4 p5 k6 er7 (show l.length ≤ 100000 by omega) ho4 _ _ (hs.all (k := 0) rfl rfl)) (fun _ => rfl) rfl rfl fun ⟨ad8, cp9⟩ ac w hs => ?_))
    refine lstep (wpO_plain rfl (op_move hs none rfl rfl rfl rfl fun ac hs => ?_))
    refine lstep (wpO_plain rfl (op_extract hs none rfl rfl rfl rfl rfl fun ac hs => ?_))
    refine lstep (wpO_plain rfl (op_extract hs none rfl rfl rfl rfl rfl fun ac hs => ?_))
    refine lstep (wpO_plain rfl (op_extract hs none rfl rfl rfl rfl rfl fun ac hs => ?_))
    refine lstep (wpO_plain rfl (op_alloc hs none none (cs := [.int .u8 0, .slice none 0 0]) rfl rfl Try.zeroValue25 (by kernel_rfl) rfl rfl fun g10 ac w hs => ?_))
    refine lstep (wpO_plain rfl (op_store hs 0 (vs := [.int .u8 ((o4 : Nat) : Int), .slice ad8 p5.length cp9]) rfl rfl rfl rfl rfl Try.sizeOf25 rfl rfl rfl rfl rfl fun w hs => ?_))
    refine lstep (wpO_plain rfl (op_assign hs none rfl rfl rfl rfl fun ac hs => ?_))
    refine lstep (wpO_plain rfl (op_assign hs none rfl rfl rfl rfl fun ac hs => ?_))
    refine wpList_nil ?_
    refine then_n ?_
    refine wp_seq ?_
    refine wp_seq ?_
    replace hs : St 30 ⟨w0, [], [(true, .cel (.slice ad l.length c) l.length (bcs l)), (true, .own (.slice aw ws.length cw) 25 2 ws.length (wcl ws vs)), (true, .bys vs (ws.map Prod.snd)), (true, .cel (.slice ad8 p5.length cp9) p5.length (bcs p5))], Z, noX⟩ [(0, true, .slice ad l.length c), (4, true, .slice aw ws.length cw), (5, true, .int .i64 ((i : Nat) : Int)), (2, true, .slice none 0 0), (3, true, .int .i64 0), (6, true, .pointer (some ⟨g10, 0, none⟩)), (7, true, .int .i64 ((k6 : Nat) : Int)), (8, true, .int .i64 ((er7 : Nat) : Int))] [(true, g10, 25, [.int .u8 ((o4 : Nat) : Int), .slice ad8 p5.length cp9])] ac _ := hs.re ⟨rfl, rfl, rfl, rfl, rfl, rfl, rfl, rfl, trivial⟩
    refine wp_region_lit ?_
    refine lstep (wpO_plain rfl (op_move hs none rfl rfl rfl rfl fun ac hs => ?_))
    refine lstep (wpO_plain rfl (op_bin hs none (v := .bool (decide (er7 ≠ 0))) rfl rfl rfl rfl (fun _ => rfl) (bin_neqN (x := er7) (y := 0)) rfl fun ac hs => ?_))
    refine wpList_nil ?_
    refine then_n ?_
    refine wp_cond_split (hs.ev rfl) (fun hc => ?_) (fun hc => ?_)
    · skip
      have hp11 := of_decide_eq_true hc
      refine wp_seq ?_
      refine wp_region_lit ?_
      refine lstep (wpO_plain rfl (op_move hs none rfl rfl rfl rfl fun ac hs => ?_))
      refine lstep (wpO_plain rfl (op_assign hs none rfl rfl rfl rfl fun ac hs => ?_))
      refine lstep (wpO_plain rfl (op_assign hs none rfl rfl rfl rfl fun ac hs => ?_))
      refine wpList_nil ?_
      refine then_n ?_
      refine wp_ret ?_
      refine then_r ?_
      refine blk_r ?_
      refine then_r ?_
      refine blk_r ?_
      refine then_r ?_
      exact bodyPost_ret (res2 rfl (rv_t hs rfl) (rv_t hs rfl)) hs.defers ⟨⟨none, 0, []⟩, by obtain ⟨rfl, rfl⟩ := Prod.mk.inj ((parse_err hlt hf ho4 hp11 hR).symm.trans hA); rfl, hs.bel rfl, by obtain ⟨rfl, rfl⟩ := Prod.mk.inj ((parse_err hlt hf ho4 hp11 hR).symm.trans hA); exact okl_words rfl⟩
    · skip
      have hp12 := of_decide_eq_false hc
      have hN1 : NX l (i : Int) = (o4, p5, k6, 0) := by rw [ho4]; simp only [Prod.mk.injEq, true_and]; exact Classical.not_not.1 hp12
      have hnx := NX_next hlt hN1
      refine wp_skip ?_
      refine then_n ?_
      refine wp_seq ?_
      refine wp_region_lit ?_
      refine lstep (wpO_plain rfl (op_move hs none rfl rfl rfl rfl fun ac hs => ?_))
      refine lstep (wpO_plain rfl (op_load hs none 0 (v := .agg #[.int .u8 ((o4 : Nat) : Int), .slice ad8 p5.length cp9]) rfl rfl rfl rfl Try.isAgg25 Try.sizeOf25 rfl rfl fun ac hs => ?_))
      refine lstep (wpO_plain rfl (op_bsO hs none none (qs := [(0, .agg #[.int .u8 ((o4 : Nat) : Int), .slice ad8 p5.length cp9])]) (cs := [.int .u8 ((o4 : Nat) : Int), .slice ad8 p5.length cp9]) rfl rfl rfl rfl Try.underlying29 inf_struct_25 (by decide) (by decide) (fill_pair _ _ _) rfl rfl rfl rfl fun ad14 ac w hs => ?_))
      refine lstep (wpO_plain rfl (op_appR hs none 1 4 (N' := (ws ++ [(o4, p5)]).length) (ys := wcl (ws ++ [(o4, p5)]) (vs ++ [.slice ad8 p5.length cp9])) rfl rfl rfl rfl rfl rfl Try.underlying29 inf_struct_25 rfl (by decide) rfl (by intro u hu; simp at hu; rcases hu with rfl | rfl <;> rfl) (by decide) (show ws.length + 1 ≤ 1000000 by omega) (by simp) (wcl_snoc _ _ _ _ _ hvs) rfl rfl fun ad15 cp16 ac w hs => ?_))
      refine lstep (wpO_plain rfl (op_assign hs none rfl rfl rfl rfl fun ac hs => ?_))
      refine wpList_nil ?_
      refine then_n ?_
      replace hs : St 30 ⟨w0, [], [(true, .cel (.slice ad l.length c) l.length (bcs l)), (true, .own (.slice ad15 ((ws ++ [(o4, p5)]).length) cp16) 25 2 ((ws ++ [(o4, p5)]).length) (wcl (ws ++ [(o4, p5)]) (vs ++ [.slice ad8 p5.length cp9]))), (true, .bys vs (ws.map Prod.snd)), (true, .cel (.slice ad8 p5.length cp9) p5.length (bcs p5)), (true, .own (.slice ad14 1 1) 25 2 1 ([.int .u8 ((o4 : Nat) : Int), .slice ad8 p5.length cp9]))], Z, noX⟩ [(0, true, .slice ad l.length c), (4, true, .slice ad15 ((ws ++ [(o4, p5)]).length) cp16), (5, true, .int .i64 ((i : Nat) : Int)), (2, true, .slice none 0 0), (3, true, .int .i64 0), (7, true, .int .i64 ((k6 : Nat) : Int))] [(true, g10, 25, [.int .u8 ((o4 : Nat) : Int), .slice ad8 p5.length cp9])] ac _ := hs.re ⟨rfl, rfl, rfl, rfl, rfl, rfl, trivial⟩
      refine wp_region_lit ?_
      refine lstep (wpO_plain rfl (op_move hs none rfl rfl rfl rfl fun ac hs => ?_))
      refine lstep (wpO_plain rfl (op_assign hs none rfl rfl rfl rfl fun ac hs => ?_))
      refine wpList_nil ?_
      refine blk_n ?_
      refine then_n ?_
      replace hs := hs.snocBys (vs := vs) (ls' := (ws ++ [(o4, p5)]).map Prod.snd) 2 3 rfl rfl (by simp)
      replace hs := (hs.takeb 0).selS [0, 1, 2] rfl (by decide)
      exact ⟨_, ⟨k6, (ws ++ [(o4, p5)]), (vs ++ [.slice ad8 p5.length cp9]), ad15, cp16, (f - 1), rfl, hnx.2.1, (by simp; omega), (by simp; omega), (by have := hnx.1; omega), (parse_step hlt hf hN1 hR), (hs.re (fs' := [(0, true, .slice ad l.length c), (4, true, .slice ad15 (ws ++ [(o4, p5)]).length cp16), (5, true, .int .i64 ((k6 : Nat) : Int)), (2, true, .slice none 0 0), (3, true, .int .i64 0)]) ⟨rfl, rfl, rfl, rfl, rfl, trivial⟩)⟩, (by have := hnx.1; omega)⟩
  · skip
    have hp17 := of_decide_eq_false hc
    refine wp_exit ?_
    refine then_e ?_
    refine then_e ?_
    refine blk_e ?_
    refine then_n ?_
    refine wp_seq ?_
    refine wp_region_lit ?_
    refine lstep (wpO_plain rfl (op_move hs none rfl rfl rfl rfl fun ac hs => ?_))
    refine lstep (wpO_plain rfl (op_assign hs none rfl rfl rfl rfl fun ac hs => ?_))
    refine lstep (wpO_plain rfl (op_assign hs none rfl rfl rfl rfl fun ac hs => ?_))
    refine wpList_nil ?_
    refine then_n ?_
    refine wp_ret ?_
    replace hs := hs.freeze 1 rfl
    exact bodyPost_ret (res2 rfl (rv_t hs rfl) (rv_t hs rfl)) hs.defers ⟨⟨aw, cw, vs⟩, by obtain ⟨rfl, rfl⟩ := Prod.mk.inj ((parse_end hp17 hR).symm.trans hA); rfl, hs.bel rfl, by obtain ⟨rfl, rfl⟩ := Prod.mk.inj ((parse_end hp17 hR).symm.trans hA); exact hs.ret2 1 2 rfl rfl (by decide)⟩
theorem same_c (o : Nat) (a1 : Option Addr) (nl c1 : Nat) (l : List UInt8) (y : Nat) (a2 : Option Addr) (nk c2 : Nat) (k : List UInt8) (q : Bool) (hq : decide (o = y ∧ l = k) = q) (w0 : World) (Z : Nat → Prop) (hl : ByV w0 Z (.slice a1 nl c1) l) (hk : ByV w0 Z (.slice a2 nk c2) k): Calls Try.prog 14 #[.agg #[.int .u8 ((o : Nat) : Int), .slice a1 nl c1], .agg #[.int .u8 ((y : Nat) : Int), .slice a2 nk c2]] w0 fun e w' => Ret w0 Z (ρ := Unit) (fun r => .bool q) (fun r => []) e w' := by
  obtain rfl := byv_len hl
  obtain rfl := byv_len hk
  refine enterS (n := 19) (args := [.agg #[.int .u8 ((o : Nat) : Int), .slice a1 l.length c1], .agg #[.int .u8 ((y : Nat) : Int), .slice a2 k.length c2]]) (S := [(true, .cel (.slice a1 l.length c1) l.length (bcs l)), (true, .cel (.slice a2 k.length c2) k.length (bcs k))]) (Z := Z) Try.func14 rfl rfl (Nat.le_of_ble_eq_true rfl) (sokC hl (sokC hk sok0)) rfl fun ac hs => ?_
  refine wp_seq ?_
  refine wp_region_lit ?_
  refine lstep (wpO_plain rfl (op_box hs none none (cs := [.int .u8 ((o : Nat) : Int), .slice a1 l.length c1]) rfl rfl rfl rfl rfl rfl fun g1 ac w hs => ?_))
  refine lstep (wpO_plain rfl (op_box hs none none (cs := [.int .u8 ((y : Nat) : Int), .slice a2 k.length c2]) rfl rfl rfl rfl rfl rfl fun g2 ac w hs => ?_))
  refine lstep (wpO_plain rfl (op_assign hs none rfl rfl rfl rfl fun ac hs => ?_))
  refine wpList_nil ?_
  refine then_n ?_
  refine wp_seq ?_
  by_cases hq3 : o = y
  · skip
    refine wp_region_lit ?_
    refine lstep (wpO_plain rfl (op_fieldA hs none rfl rfl rfl Try.underlying25 rfl Try.sizeOf5 (by decide) rfl fun ac hs => ?_))
    refine lstep (wpO_plain rfl (op_load hs none 0 (v := .int .u8 ((o : Nat) : Int)) rfl rfl rfl rfl Try.isAgg5 Try.sizeOf5 rfl rfl fun ac hs => ?_))
    refine lstep (wpO_plain rfl (op_fieldA hs none rfl rfl rfl Try.underlying25 rfl Try.sizeOf5 (by decide) rfl fun ac hs => ?_))
    refine lstep (wpO_plain rfl (op_load hs none 1 (v := .int .u8 ((y : Nat) : Int)) rfl rfl rfl rfl Try.isAgg5 Try.sizeOf5 rfl rfl fun ac hs => ?_))
    refine lstep (wpO_plain rfl (op_bin hs none (v := .bool true) rfl rfl rfl rfl (fun _ => rfl) (fun w => dT hq3 (bin_eqlN (x := o) (y := y) w)) rfl fun ac hs => ?_))
    refine lstep (wpO_plain rfl (op_move hs none rfl rfl rfl rfl fun ac hs => ?_))
    refine lstep (wpO_in hs rfl rfl rfl (op_fieldA hs none rfl rfl rfl Try.underlying25 rfl Try.sizeOf22 (by decide) rfl fun ac hs => ?_))
    refine lstep (wpO_in hs rfl rfl rfl (op_load hs none 0 (v := .slice a1 l.length c1) rfl rfl rfl rfl Try.isAgg22 Try.sizeOf22 rfl rfl fun ac hs => ?_))
    refine lstep (wpO_in hs rfl rfl rfl (op_convBS hs none 0 rfl rfl rfl rfl rfl Try.underlying22 Try.underlying5 Try.underlying9 rfl fun ac hs => ?_))
    refine lstep (wpO_in hs rfl rfl rfl (op_fieldA hs none rfl rfl rfl Try.underlying25 rfl Try.sizeOf22 (by decide) rfl fun ac hs => ?_))
    refine lstep (wpO_in hs rfl rfl rfl (op_load hs none 1 (v := .slice a2 k.length c2) rfl rfl rfl rfl Try.isAgg22 Try.sizeOf22 rfl rfl fun ac hs => ?_))
    refine lstep (wpO_in hs rfl rfl rfl (op_convBS hs none 1 rfl rfl rfl rfl rfl Try.underlying22 Try.underlying5 Try.underlying9 rfl fun ac hs => ?_))
    refine lstep (wpO_in hs rfl rfl rfl (op_bin hs none (v := .bool (decide (l = k))) rfl rfl rfl rfl (fun _ => rfl) (bin_eqlT rfl) rfl fun ac hs => ?_))
    refine lstep (wpO_plain rfl (op_pickT hs none rfl rfl rfl rfl rfl fun ac hs => ?_))
    refine lstep (wpO_plain rfl (op_assign hs none rfl rfl rfl rfl fun ac hs => ?_))
    refine wpList_nil ?_
    refine then_n ?_
    refine wp_ret ?_
    exact bodyPost_ret (res1 rfl (rv_t hs rfl)) hs.defers ⟨(), by rw [← hq]; exact congrArg (fun b => Ending.returned (.bool b)) (decide_eq_decide.2 ⟨fun hh => ⟨hq3, hh⟩, fun hh => hh.2⟩), hs.bel rfl, okl0⟩
  · skip
    refine wp_region_lit ?_
    refine lstep (wpO_plain rfl (op_fieldA hs none rfl rfl rfl Try.underlying25 rfl Try.sizeOf5 (by decide) rfl fun ac hs => ?_))
    refine lstep (wpO_plain rfl (op_load hs none 0 (v := .int .u8 ((o : Nat) : Int)) rfl rfl rfl rfl Try.isAgg5 Try.sizeOf5 rfl rfl fun ac hs => ?_))
    refine lstep (wpO_plain rfl (op_fieldA hs none rfl rfl rfl Try.underlying25 rfl Try.sizeOf5 (by decide) rfl fun ac hs => ?_))
    refine lstep (wpO_plain rfl (op_load hs none 1 (v := .int .u8 ((y : Nat) : Int)) rfl rfl rfl rfl Try.isAgg5 Try.sizeOf5 rfl rfl fun ac hs => ?_))
    refine lstep (wpO_plain rfl (op_bin hs none (v := .bool false) rfl rfl rfl rfl (fun _ => rfl) (fun w => dF hq3 (bin_eqlN (x := o) (y := y) w)) rfl fun ac hs => ?_))
    refine lstep (wpO_plain rfl (op_move hs none rfl rfl rfl rfl fun ac hs => ?_))
    refine lstep (wpO_out hs none rfl rfl (.inl rfl) rfl rfl fun ac hs => ?_)
    refine lstep (wpO_out hs none rfl rfl (.inl rfl) rfl rfl fun ac hs => ?_)
    refine lstep (wpO_out hs none rfl rfl (.inl rfl) rfl rfl fun ac hs => ?_)
    refine lstep (wpO_out hs none rfl rfl (.inl rfl) rfl rfl fun ac hs => ?_)
    refine lstep (wpO_out hs none rfl rfl (.inl rfl) rfl rfl fun ac hs => ?_)
    refine lstep (wpO_out hs none rfl rfl (.inl rfl) rfl rfl fun ac hs => ?_)
    refine lstep (wpO_out hs none rfl rfl (.inl rfl) rfl rfl fun ac hs => ?_)
    refine lstep (wpO_plain rfl (op_pickF hs none rfl rfl rfl rfl rfl fun ac hs => ?_))
    refine lstep (wpO_plain rfl (op_assign hs none rfl rfl rfl rfl fun ac hs => ?_))
    refine wpList_nil ?_
    refine then_n ?_
    refine wp_ret ?_
    exact bodyPost_ret (res1 rfl (rv_t hs rfl)) hs.defers ⟨(), by rw [← hq, decide_eq_false (fun hh => hq3 hh.1)], hs.bel rfl, okl0⟩
end Go.Proofs.Ytbjnlcblaonccaa
