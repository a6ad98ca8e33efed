/- The contracts of words: rows compared, built; short; numbers. -/
import Derived.Test.YtbjnlcblaonccaaWords3
import Derived.Test.YtbjnlcblaonccaaEncC
namespace Go.Proofs.Ytbjnlcblaonccaa
open Go.RowKit
set_option maxRecDepth 10000
theorem layB_plain {o : Nat} (p : List UInt8) (h2 : ¬ o = 76) (h3 : ¬ o = 77) (hq : layQ o p = true) : layB o p = [UInt8.ofNat o] ++ p := by
  by_cases h : 0 < o ∧ o ≤ 75
  · exact (layB_1 h.1 h.2).1
  · obtain ⟨a, b⟩ := layB_4 (p := p) h h2 h3
    rw [b] at hq
    have : p = [] := List.length_eq_zero_iff.1 (of_decide_eq_true hq)
    rw [a, this]; rfl

theorem sames_c (a1 : Option Addr) (c1 : Nat) (ws : List Wd) (vs : List Value) (a2 : Option Addr) (c2 : Nat) (xs : List Wd) (us : List Value) (q : Bool) (hl1 : ws.length ≤ 100000) (hl2 : xs.length ≤ 100000) (hq : decide (ws = xs) = q) (w0 : World) (Z : Nat → Prop) (hws : CelV w0 Z (.slice a1 ws.length c1) ws.length (wcl ws vs)) (hbws : BysV w0 Z vs (ws.map Prod.snd)) (hxs : CelV w0 Z (.slice a2 xs.length c2) xs.length (wcl xs us)) (hbxs : BysV w0 Z us (xs.map Prod.snd)): Calls Try.prog 15 #[.slice a1 ws.length c1, .slice a2 xs.length c2] w0 fun e w' => Ret w0 Z (ρ := Unit) (fun r => .bool q) (fun r => []) e w' := by
  refine enterS (n := 27) (args := [.slice a1 ws.length c1, .slice a2 xs.length c2]) (S := [(true, .cel (.slice a1 ws.length c1) ws.length (wcl ws vs)), (true, .bys vs (ws.map Prod.snd)), (true, .cel (.slice a2 xs.length c2) xs.length (wcl xs us)), (true, .bys us (xs.map Prod.snd))]) (Z := Z) Try.func15 rfl rfl (Nat.le_of_ble_eq_true rfl) (sokC hws (sokC hbws (sokC hxs (sokC hbxs sok0)))) rfl fun ac hs => ?_
  refine wp_seq ?_
  refine wp_region_lit ?_
  refine lstep (wpO_plain rfl (op_assign hs none rfl rfl rfl rfl fun ac hs => ?_))
  refine wpList_nil ?_
  refine then_n ?_
  refine wp_seq ?_
  refine wp_seq ?_
  refine wp_region_lit ?_
  refine lstep (wpO_plain rfl (op_move hs none rfl rfl rfl rfl fun ac hs => ?_))
  refine lstep (wpO_plain rfl (op_blt hs none (v := .int .i64 ((ws.length : Nat) : Int)) rfl rfl rfl (blt_len Try.underlying29) rfl fun ac hs => ?_))
  refine lstep (wpO_plain rfl (op_move hs none rfl rfl rfl rfl fun ac hs => ?_))
  refine lstep (wpO_plain rfl (op_blt hs none (v := .int .i64 ((xs.length : Nat) : Int)) rfl rfl rfl (blt_len Try.underlying29) rfl fun ac hs => ?_))
  refine lstep (wpO_plain rfl (op_bin hs none (v := .bool (decide (ws.length ≠ xs.length))) rfl rfl rfl rfl (fun _ => rfl) (bin_neqN (x := ws.length) (y := xs.length)) rfl fun ac hs => ?_))
  refine wpList_nil ?_
  refine then_n ?_
  refine wp_cond_split (hs.ev rfl) (fun hc => ?_) (fun hc => ?_)
  · skip
    have hp1 := of_decide_eq_true hc
    refine wp_seq ?_
    replace hs : St 27 ⟨w0, [], [(true, .cel (.slice a1 ws.length c1) ws.length (wcl ws vs)), (true, .bys vs (ws.map Prod.snd)), (true, .cel (.slice a2 xs.length c2) xs.length (wcl xs us)), (true, .bys us (xs.map Prod.snd))], Z, noX⟩ [(0, true, .slice a1 ws.length c1), (1, true, .slice a2 xs.length c2), (4, true, .bool false)] [] ac _ := hs.re ⟨rfl, rfl, rfl, trivial⟩
    refine wp_region_lit ?_
    refine lstep (wpO_plain rfl (op_assign hs none rfl rfl rfl rfl fun ac hs => ?_))
    refine wpList_nil ?_
    refine then_n ?_
    refine wp_ret ?_
    refine then_r ?_
    exact bodyPost_ret (res1 rfl (rv_t hs rfl)) hs.defers ⟨(), by rw [← hq, decide_eq_false (fun e => hp1 (by rw [e]))], hs.bel rfl, okl0⟩
  · skip
    have hp2 := of_decide_eq_false hc
    refine wp_skip ?_
    refine then_n ?_
    refine wp_seq ?_
    refine wp_seq ?_
    replace hs : St 27 ⟨w0, [], [(true, .cel (.slice a1 ws.length c1) ws.length (wcl ws vs)), (true, .bys vs (ws.map Prod.snd)), (true, .cel (.slice a2 xs.length c2) xs.length (wcl xs us)), (true, .bys us (xs.map Prod.snd))], Z, noX⟩ [(0, true, .slice a1 ws.length c1), (1, true, .slice a2 xs.length c2), (4, true, .bool false)] [] ac _ := hs.re ⟨rfl, rfl, rfl, trivial⟩
    refine wp_region_lit ?_
    refine lstep (wpO_plain rfl (op_assign hs none rfl rfl rfl rfl fun ac hs => ?_))
    refine wpList_nil ?_
    refine then_n ?_
    refine wp_block ?_
    refine wp_loop_m (fun μ ac w => ∃ (i : Nat), (ws.length - i) = μ ∧ (i ≤ ws.length) ∧ (∀ j, j < i → ws[j]? = xs[j]?) ∧ St 27 ⟨w0, [], [(true, .cel (.slice a1 ws.length c1) ws.length (wcl ws vs)), (true, .bys vs (ws.map Prod.snd)), (true, .cel (.slice a2 xs.length c2) xs.length (wcl xs us)), (true, .bys us (xs.map Prod.snd))], Z, noX⟩ [(0, true, .slice a1 ws.length c1), (1, true, .slice a2 xs.length c2), (5, true, .int .i64 ((i : Nat) : Int)), (4, true, .bool false)] [] ac w) ?_ ?_
    · exact ⟨_, 0, rfl, (by omega), (fun j hj => by omega), (hs.re (fs' := [(0, true, .slice a1 ws.length c1), (1, true, .slice a2 xs.length c2), (5, true, .int .i64 ((0 : Nat) : Int)), (4, true, .bool false)]) ⟨rfl, rfl, rfl, rfl, trivial⟩)⟩
    intro μ ac w ⟨i, hμ, hi, ha, hs⟩
    refine wp_seq ?_
    refine wp_seq ?_
    refine wp_region_lit ?_
    refine lstep (wpO_plain rfl (op_move hs none rfl rfl rfl rfl fun ac hs => ?_))
    refine lstep (wpO_plain rfl (op_move hs none rfl rfl rfl rfl fun ac hs => ?_))
    refine lstep (wpO_plain rfl (op_blt hs none (v := .int .i64 ((ws.length : Nat) : Int)) rfl rfl rfl (blt_len Try.underlying29) rfl fun ac hs => ?_))
    refine lstep (wpO_plain rfl (op_bin hs none (v := .bool (decide (i < ws.length))) rfl rfl rfl rfl (fun _ => rfl) (bin_lssN (x := i) (y := ws.length)) rfl fun ac hs => ?_))
    refine wpList_nil ?_
    refine then_n ?_
    refine wp_cond_split (hs.ev rfl) (fun hc => ?_) (fun hc => ?_)
    · skip
      have hp3 := of_decide_eq_true hc
      have hlt := hp3
      obtain ⟨⟨ow1, pw1⟩, hw1⟩ : ∃ z, ws[i]? = some z := ⟨_, List.getElem?_eq_getElem (show i < ws.length by omega)⟩
      obtain ⟨aw_1, cw_1, hv1⟩ := bysv_at (hs.all (k := 1) rfl rfl) (i := i) (l := pw1) (by simp [hw1])
      replace hs := hs.pick none 1 (l := pw1) rfl hv1 (by simp [hw1]) rfl
      obtain ⟨⟨ow2, pw2⟩, hw2⟩ : ∃ z, xs[i]? = some z := ⟨_, List.getElem?_eq_getElem (show i < xs.length by omega)⟩
      obtain ⟨aw_2, cw_2, hv2⟩ := bysv_at (hs.all (k := 3) rfl rfl) (i := i) (l := pw2) (by simp [hw2])
      replace hs := hs.pick none 3 (l := pw2) rfl hv2 (by simp [hw2]) rfl
      refine wp_skip ?_
      refine then_n ?_
      refine wp_seq ?_
      refine wp_block ?_
      refine wp_seq ?_
      replace hs : St 27 ⟨w0, [], [(true, .cel (.slice a1 ws.length c1) ws.length (wcl ws vs)), (true, .bys vs (ws.map Prod.snd)), (true, .cel (.slice a2 xs.length c2) xs.length (wcl xs us)), (true, .bys us (xs.map Prod.snd)), (true, .cel (.slice aw_1 pw1.length cw_1) pw1.length (bcs pw1)), (true, .cel (.slice aw_2 pw2.length cw_2) pw2.length (bcs pw2))], Z, noX⟩ [(0, true, .slice a1 ws.length c1), (1, true, .slice a2 xs.length c2), (5, true, .int .i64 ((i : Nat) : Int)), (4, true, .bool false)] [] ac _ := hs.re ⟨rfl, rfl, rfl, rfl, trivial⟩
      refine region_inv [([], [2, 3, 8, 9]), ([], [2, 3, 8, 9]), ([0, 1], [3, 8, 9]), ([0, 1, 2], [8, 9]), ([], [6, 7, 8, 9]), ([], [6, 7, 8, 9]), ([4, 5], [7, 8, 9]), ([4, 5, 6], [8, 9]), ([0, 1, 2, 3, 4, 5, 6, 7], [9]), ([0, 1, 2, 3, 4, 5, 6, 7, 8], [])] (fun L ac w => St 27 ⟨w0, [], [(true, .cel (.slice a1 ws.length c1) ws.length (wcl ws vs)), (true, .bys vs (ws.map Prod.snd)), (true, .cel (.slice a2 xs.length c2) xs.length (wcl xs us)), (true, .bys us (xs.map Prod.snd)), (true, .cel (.slice aw_1 pw1.length cw_1) pw1.length (bcs pw1)), (true, .cel (.slice aw_2 pw2.length cw_2) pw2.length (bcs pw2))], Z, noX⟩ [(17, L 0, .slice a1 ws.length c1), (18, L 1, .int .i64 ((i : Nat) : Int)), (19, L 2, vidx (.slice a1 ws.length c1) (i * 2)), (20, L 3, .agg #[.int .u8 ((ow1 : Nat) : Int), .slice aw_1 pw1.length cw_1]), (21, L 4, .slice a2 xs.length c2), (22, L 5, .int .i64 ((i : Nat) : Int)), (23, L 6, vidx (.slice a2 xs.length c2) (i * 2)), (24, L 7, .agg #[.int .u8 ((ow2 : Nat) : Int), .slice aw_2 pw2.length cw_2]), (25, L 8, .bool (decide (ow1 = ow2 ∧ pw1 = pw2))), (26, L 9, .bool (!(decide (ow1 = ow2 ∧ pw1 = pw2)))), (0, true, .slice a1 ws.length c1), (1, true, .slice a2 xs.length c2), (5, true, .int .i64 ((i : Nat) : Int)), (4, true, .bool false)] [] ac w) (by kernel_rfl) (by kernel_rfl) ?_ ?_ ?_
      · exact hs.drew.skip.skip.skip.skip.skip.skip.skip.skip.skip.skip
      · refine ⟨?_, ?_, ?_, ?_, ?_, ?_, ?_, ?_, ?_, ?_, trivial⟩
        · intro L ac w hJ
          have hs := hJ
          refine wpO_plain rfl (op_move hs (some 0) rfl rfl rfl rfl fun ac hs => ?_)
          exact hs
        · intro L ac w hJ
          have hs := hJ
          refine wpO_plain rfl (op_move hs (some 1) rfl rfl rfl rfl fun ac hs => ?_)
          exact hs
        · intro L ac w hJ
          have hs := hJ
          refine wpO_plain rfl (op_idxC hs (some 2) 0 (j := i) rfl rfl rfl rfl rfl Try.underlying29 Try.sizeOf25 (show i < ws.length by omega) (off := i * 2) (by omega) rfl fun ac hs => ?_)
          exact hs
        · intro L ac w hJ
          have hs := hJ
          refine wpO_plain rfl (op_loadC hs (some 3) 0 (u := .agg #[.int .u8 ((ow1 : Nat) : Int), .slice aw_1 pw1.length cw_1]) rfl rfl rfl rfl Try.isAgg25 Try.sizeOf25 (by decide) (wcl_ldv hw1 hv1) rfl fun ac hs => ?_)
          exact hs
        · intro L ac w hJ
          have hs := hJ
          refine wpO_plain rfl (op_move hs (some 4) rfl rfl rfl rfl fun ac hs => ?_)
          exact hs
        · intro L ac w hJ
          have hs := hJ
          refine wpO_plain rfl (op_move hs (some 5) rfl rfl rfl rfl fun ac hs => ?_)
          exact hs
        · intro L ac w hJ
          have hs := hJ
          refine wpO_plain rfl (op_idxC hs (some 6) 2 (j := i) rfl rfl rfl rfl rfl Try.underlying29 Try.sizeOf25 (show i < xs.length by omega) (off := i * 2) (by omega) rfl fun ac hs => ?_)
          exact hs
        · intro L ac w hJ
          have hs := hJ
          refine wpO_plain rfl (op_loadC hs (some 7) 2 (u := .agg #[.int .u8 ((ow2 : Nat) : Int), .slice aw_2 pw2.length cw_2]) rfl rfl rfl rfl Try.isAgg25 Try.sizeOf25 (by decide) (wcl_ldv hw2 hv2) rfl fun ac hs => ?_)
          exact hs
        · intro L ac w hJ
          have hs := hJ
          refine wpO_plain rfl (op_callS (F := 14) (ρ := Unit) hs (some 8) none (v := fun r => .bool (decide (ow1 = ow2 ∧ pw1 = pw2))) (E := fun r => []) (j := 0) rfl rfl rfl rfl (Try.call14 _) (fun hs => same_c ow1 aw_1 pw1.length cw_1 pw1 ow2 aw_2 pw2.length cw_2 pw2 (decide (ow1 = ow2 ∧ pw1 = pw2)) rfl _ _ (hs.all (k := 4) rfl rfl) (hs.all (k := 5) rfl rfl)) (fun _ => rfl) rfl rfl fun _ ac w hs => ?_)
          exact hs
        · intro L ac w hJ
          have hs := hJ
          refine wpO_plain rfl (op_un hs (some 9) (v := .bool (!(decide (ow1 = ow2 ∧ pw1 = pw2)))) rfl rfl rfl (fun _ => rfl) rfl fun ac hs => ?_)
          exact hs
      intro ac w hJ
      replace hs : St 27 ⟨w0, [], [(true, .cel (.slice a1 ws.length c1) ws.length (wcl ws vs)), (true, .bys vs (ws.map Prod.snd)), (true, .cel (.slice a2 xs.length c2) xs.length (wcl xs us)), (true, .bys us (xs.map Prod.snd)), (true, .cel (.slice aw_1 pw1.length cw_1) pw1.length (bcs pw1)), (true, .cel (.slice aw_2 pw2.length cw_2) pw2.length (bcs pw2))], Z, noX⟩ [(17, true, .slice a1 ws.length c1), (18, true, .int .i64 ((i : Nat) : Int)), (19, true, vidx (.slice a1 ws.length c1) (i * 2)), (20, true, .agg #[.int .u8 ((ow1 : Nat) : Int), .slice aw_1 pw1.length cw_1]), (21, true, .slice a2 xs.length c2), (22, true, .int .i64 ((i : Nat) : Int)), (23, true, vidx (.slice a2 xs.length c2) (i * 2)), (24, true, .agg #[.int .u8 ((ow2 : Nat) : Int), .slice aw_2 pw2.length cw_2]), (25, true, .bool (decide (ow1 = ow2 ∧ pw1 = pw2))), (26, true, .bool (!(decide (ow1 = ow2 ∧ pw1 = pw2)))), (0, true, .slice a1 ws.length c1), (1, true, .slice a2 xs.length c2), (5, true, .int .i64 ((i : Nat) : Int)), (4, true, .bool false)] [] ac w := hJ
      refine then_n ?_
      refine wp_cond_split (hs.ev rfl) (fun hc => ?_) (fun hc => ?_)
      · skip
        refine wp_seq ?_
        refine wp_region_lit ?_
        refine lstep (wpO_plain rfl (op_assign hs none rfl rfl rfl rfl fun ac hs => ?_))
        refine wpList_nil ?_
        refine then_n ?_
        refine wp_ret ?_
        refine blk_r ?_
        refine then_r ?_
        refine then_r ?_
        refine blk_r ?_
        refine then_r ?_
        exact bodyPost_ret (res1 rfl (rv_t hs rfl)) hs.defers ⟨(), by rw [← hq, decide_eq_false (sames_no hw1 hw2 (fun hh => by rw [decide_eq_true hh] at hc; cases hc))], hs.bel rfl, okl0⟩
      · skip
        refine wp_skip ?_
        refine blk_n ?_
        refine then_n ?_
        refine wp_region_lit ?_
        refine lstep (wpO_plain rfl (op_move hs none rfl rfl rfl rfl fun ac hs => ?_))
        refine lstep (wpO_plain rfl (op_bin hs none (v := .int .i64 ((i + 1 : Nat) : Int)) rfl rfl rfl rfl (fun _ => rfl) (bin_addN (x := i) (y := 1) (z := i + 1) rfl (show i + 1 < 9223372036854775808 by omega)) rfl fun ac hs => ?_))
        refine lstep (wpO_plain rfl (op_assign hs none rfl rfl rfl rfl fun ac hs => ?_))
        refine wpList_nil ?_
        refine then_n ?_
        replace hs := hs.selS [0, 1, 2, 3] rfl (by decide)
        exact ⟨_, ⟨(i + 1), rfl, (by omega), (sames_step ha hw1 hw2 (by simpa using hc)), (hs.re (fs' := [(0, true, .slice a1 ws.length c1), (1, true, .slice a2 xs.length c2), (5, true, .int .i64 (((i + 1) : Nat) : Int)), (4, true, .bool false)]) ⟨rfl, rfl, rfl, rfl, trivial⟩)⟩, (by omega)⟩
    · skip
      have hp4 := of_decide_eq_false hc
      refine wp_exit ?_
      refine then_e ?_
      refine then_e ?_
      refine blk_e ?_
      refine then_n ?_
      refine wp_seq ?_
      refine wp_region_lit ?_
      refine lstep (wpO_plain rfl (op_assign hs none rfl rfl rfl rfl fun ac hs => ?_))
      refine wpList_nil ?_
      refine then_n ?_
      refine wp_ret ?_
      exact bodyPost_ret (res1 rfl (rv_t hs rfl)) hs.defers ⟨(), by rw [← hq, decide_eq_true (sames_yes (by omega) ha hp4)], hs.bel rfl, okl0⟩
theorem build_c (ad : Option Addr) (c : Nat) (ws : List Wd) (vs : List Value) (b : List UInt8) (er : Nat) (hsm : Small ws) (hB : BW ws = (b, er)) (w0 : World) (Z : Nat → Prop) (hws : CelV w0 Z (.slice ad ws.length c) ws.length (wcl ws vs)) (hbws : BysV w0 Z vs (ws.map Prod.snd)): Calls Try.prog 25 #[.slice ad ws.length c] w0 fun e w' => Ret w0 Z (ρ := Option Addr × Nat) (fun r => .tuple #[.slice r.1 b.length r.2, .int .i64 ((er : Nat) : Int)]) (fun r => [.cel (.slice r.1 b.length r.2) b.length (bcs b)]) e w' := by
  refine enterS (n := 27) (args := [.slice ad ws.length c]) (S := [(true, .cel (.slice ad ws.length c) ws.length (wcl ws vs)), (true, .bys vs (ws.map Prod.snd))]) (Z := Z) Try.func25 rfl rfl (Nat.le_of_ble_eq_true rfl) (sokC hws (sokC hbws sok0)) rfl fun ac hs => ?_
  refine wp_seq ?_
  refine wp_region_lit ?_
  refine lstep (wpO_plain rfl (op_assign hs none rfl rfl rfl rfl fun ac hs => ?_))
  refine lstep (wpO_plain rfl (op_assign hs none rfl rfl rfl rfl fun ac hs => ?_))
  refine wpList_nil ?_
  refine then_n ?_
  refine wp_seq ?_
  refine wp_region_lit ?_
  replace hs := hs.nilOwn none 5 1 rfl
  refine lstep (wpO_plain rfl (op_assign hs none (v := .slice none 0 0) rfl rfl rfl rfl fun ac hs => ?_))
  refine wpList_nil ?_
  refine then_n ?_
  refine wp_seq ?_
  refine wp_seq ?_
  refine wp_region_lit ?_
  refine lstep (wpO_plain rfl (op_move hs none rfl rfl rfl rfl fun ac hs => ?_))
  refine lstep (wpO_plain rfl (op_blt hs none (v := .int .i64 ((ws.length : Nat) : Int)) rfl rfl rfl (blt_len Try.underlying29) rfl fun ac hs => ?_))
  refine lstep (wpO_plain rfl (op_move hs none rfl rfl rfl rfl fun ac hs => ?_))
  refine wpList_nil ?_
  refine then_n ?_
  refine wp_block ?_
  refine wp_loop_m (fun μ ac w => ∃ (i : Nat) (ao : Option Addr) (co : Nat), (ws.length - i) = μ ∧ (i ≤ ws.length) ∧ (bldQ (ws.take i) = true) ∧ St 27 ⟨w0, [], [(true, .cel (.slice ad ws.length c) ws.length (wcl ws vs)), (true, .bys vs (ws.map Prod.snd)), (true, .own (.slice ao ((bld (ws.take i)).length) co) 5 1 ((bld (ws.take i)).length) (bcs (bld (ws.take i))))], Z, noX⟩ [(9, true, .slice ad ws.length c), (10, true, .int .i64 ((ws.length : Nat) : Int)), (2, true, .slice none 0 0), (3, true, .int .i64 0), (4, true, .slice ao ((bld (ws.take i)).length) co), (11, true, .int .i64 ((i : Nat) : Int))] [] ac w) ?_ ?_
  · exact ⟨_, 0, none, 0, rfl, (by omega), rfl, (hs.re (fs' := [(9, true, .slice ad ws.length c), (10, true, .int .i64 ((ws.length : Nat) : Int)), (2, true, .slice none 0 0), (3, true, .int .i64 0), (4, true, .slice none ((bld (ws.take 0)).length) 0), (11, true, .int .i64 ((0 : Nat) : Int))]) ⟨rfl, rfl, rfl, rfl, rfl, rfl, trivial⟩)⟩
  intro μ ac w ⟨i, ao, co, hμ, hi, hQ, hs⟩
  have hbl := bld_len (fun w hw => (hsm.2 w hw).1) i
  have hwl := hsm.1
  refine wp_seq ?_
  refine wp_region_lit ?_
  refine lstep (wpO_plain rfl (op_bin hs none (v := .bool (decide (i < ws.length))) rfl rfl rfl rfl (fun _ => rfl) (bin_lssN (x := i) (y := ws.length)) rfl fun ac hs => ?_))
  refine wpList_nil ?_
  refine then_n ?_
  refine wp_seq ?_
  refine wp_cond_split (hs.ev rfl) (fun hc => ?_) (fun hc => ?_)
  · skip
    have hp1 := of_decide_eq_true hc
    have hlt := hp1
    obtain ⟨⟨ow1, pw1⟩, hw1⟩ : ∃ z, ws[i]? = some z := ⟨_, List.getElem?_eq_getElem (show i < ws.length by omega)⟩
    obtain ⟨aw_1, cw_1, hv1⟩ := bysv_at (hs.all (k := 1) rfl rfl) (i := i) (l := pw1) (by simp [hw1])
    replace hs := hs.pick none 1 (l := pw1) rfl hv1 (by simp [hw1]) rfl
    have hsa := hsm.at hw1
    refine wp_skip ?_
    refine then_n ?_
    refine wp_seq ?_
    refine wp_block ?_
    refine wp_seq ?_
    refine wp_region_lit ?_
    refine lstep (wpO_plain rfl (op_idxC hs none 0 (j := i) rfl rfl rfl rfl rfl Try.underlying29 Try.sizeOf25 (show i < ws.length by omega) (off := i * 2) (by omega) rfl fun ac hs => ?_))
    refine lstep (wpO_plain rfl (op_loadC hs none 0 (u := .agg #[.int .u8 ((ow1 : Nat) : Int), .slice aw_1 pw1.length cw_1]) rfl rfl rfl rfl Try.isAgg25 Try.sizeOf25 (by decide) (wcl_ldv hw1 hv1) rfl fun ac hs => ?_))
    refine lstep (wpO_plain rfl (op_alloc hs none none (cs := [.int .u8 0, .slice none 0 0]) rfl rfl Try.zeroValue25 (by kernel_rfl) rfl rfl fun g2 ac w hs => ?_))
    refine lstep (wpO_plain rfl (op_store hs 0 (vs := [.int .u8 ((ow1 : Nat) : Int), .slice aw_1 pw1.length cw_1]) rfl rfl rfl rfl rfl Try.sizeOf25 rfl rfl rfl rfl rfl fun w hs => ?_))
    refine wpList_nil ?_
    refine then_n ?_
    refine wp_seq ?_
    refine wp_region_lit ?_
    refine lstep (wpO_plain rfl (op_load hs none 0 (v := .agg #[.int .u8 ((ow1 : Nat) : Int), .slice aw_1 pw1.length cw_1]) rfl rfl rfl rfl Try.isAgg25 Try.sizeOf25 rfl rfl fun ac hs => ?_))
    obtain ⟨b3, hb3⟩ : ∃ z0, layB ow1 pw1 = z0 := ⟨_, rfl⟩
    obtain ⟨q4, hq4⟩ : ∃ z0, layQ ow1 pw1 = z0 := ⟨_, rfl⟩
    have lb3 : b3.length ≤ pw1.length + 3 := hb3 ▸ layB_len
    refine lstep (wpO_plain rfl (op_callS (F := 33) (ρ := Option Addr × Nat) hs none none (v := fun r => .tuple #[.slice r.1 b3.length r.2, .bool q4]) (E := fun r => [.cel (.slice r.1 b3.length r.2) b3.length (bcs b3)]) (j := 1) rfl rfl rfl rfl (Try.call33 _) (fun hs => lay_c ow1 aw_1 pw1.length cw_1 pw1 b3 q4 (show ow1 < 256 by omega) (show pw1.length ≤ 100000 by omega) hb3 hq4 _ _ (hs.all (k := 3) rfl rfl)) (fun _ => rfl) rfl rfl fun ⟨ad5, cp6⟩ ac w hs => ?_))
    refine lstep (wpO_plain rfl (op_move hs none rfl rfl rfl rfl fun ac hs => ?_))
    refine lstep (wpO_plain rfl (op_extract hs none rfl rfl rfl rfl rfl fun ac hs => ?_))
    refine lstep (wpO_plain rfl (op_extract hs none rfl rfl rfl rfl rfl fun ac hs => ?_))
    refine lstep (wpO_plain rfl (op_assign hs none rfl rfl rfl rfl fun ac hs => ?_))
    refine lstep (wpO_plain rfl (op_assign hs none rfl rfl rfl rfl fun ac hs => ?_))
    refine wpList_nil ?_
    refine then_n ?_
    refine wp_seq ?_
    refine wp_seq ?_
    replace hs : St 27 ⟨w0, [], [(true, .cel (.slice ad ws.length c) ws.length (wcl ws vs)), (true, .bys vs (ws.map Prod.snd)), (true, .own (.slice ao ((bld (ws.take i)).length) co) 5 1 ((bld (ws.take i)).length) (bcs (bld (ws.take i)))), (true, .cel (.slice aw_1 pw1.length cw_1) pw1.length (bcs pw1)), (true, .cel (.slice ad5 b3.length cp6) b3.length (bcs b3))], Z, noX⟩ [(9, true, .slice ad ws.length c), (10, true, .int .i64 ((ws.length : Nat) : Int)), (2, true, .slice none 0 0), (3, true, .int .i64 0), (4, true, .slice ao ((bld (ws.take i)).length) co), (11, true, .int .i64 ((i : Nat) : Int)), (7, true, .slice ad5 b3.length cp6), (8, true, .bool q4)] [(true, g2, 25, [.int .u8 ((ow1 : Nat) : Int), .slice aw_1 pw1.length cw_1])] ac _ := hs.re ⟨rfl, rfl, rfl, rfl, rfl, rfl, rfl, rfl, trivial⟩
    refine wp_region_lit ?_
    refine lstep (wpO_plain rfl (op_move hs none rfl rfl rfl rfl fun ac hs => ?_))
    refine lstep (wpO_plain rfl (op_un hs none (v := .bool (!q4)) rfl rfl rfl (fun _ => rfl) rfl fun ac hs => ?_))
    refine wpList_nil ?_
    refine then_n ?_
    refine wp_cond_split (hs.ev rfl) (fun hc => ?_) (fun hc => ?_)
    · skip
      have hc_ := hc
      refine wp_seq ?_
      refine wp_region_lit ?_
      refine lstep (wpO_plain rfl (op_assign hs none rfl rfl rfl rfl fun ac hs => ?_))
      refine lstep (wpO_plain rfl (op_assign hs none rfl rfl rfl rfl fun ac hs => ?_))
      refine wpList_nil ?_
      refine then_n ?_
      refine wp_ret ?_
      refine then_r ?_
      refine blk_r ?_
      refine then_r ?_
      refine then_r ?_
      refine blk_r ?_
      refine then_r ?_
      exact bodyPost_ret (res2 rfl (rv_t hs rfl) (rv_t hs rfl)) hs.defers ⟨⟨none, 0⟩, by obtain ⟨rfl, rfl⟩ := Prod.mk.inj ((BW_err hw1 (by rw [show layQ (ow1, pw1).1 (ow1, pw1).2 = _ from hq4]; simpa using hc_)).symm.trans hB); rfl, hs.bel rfl, by obtain ⟨rfl, rfl⟩ := Prod.mk.inj ((BW_err hw1 (by rw [show layQ (ow1, pw1).1 (ow1, pw1).2 = _ from hq4]; simpa using hc_)).symm.trans hB); exact okl1 celv_nil⟩
    · skip
      have hc_ := hc
      refine wp_skip ?_
      refine then_n ?_
      refine wp_region_lit ?_
      refine lstep (wpO_plain rfl (op_move hs none rfl rfl rfl rfl fun ac hs => ?_))
      refine lstep (wpO_plain rfl (op_move hs none rfl rfl rfl rfl fun ac hs => ?_))
      refine lstep (wpO_plain rfl (op_appR hs none 2 4 (N' := (bld (ws.take i) ++ b3).length) (ys := bcs (bld (ws.take i) ++ b3)) rfl rfl rfl rfl rfl rfl Try.underlying22 inf_u8_5 rfl (by decide) (bcs_len1 rfl) (bcs_one _) (by decide) (show (bld (ws.take i)).length + b3.length ≤ 1000000 by (try simp only [List.length_drop, List.length_take, List.length_append, List.length_cons, List.length_nil]); omega) (by simp only [List.length_append, List.length_cons, List.length_nil] <;> omega) (bcs_append _ _) rfl rfl fun ad7 cp8 ac w hs => ?_))
      refine lstep (wpO_plain rfl (op_assign hs none rfl rfl rfl rfl fun ac hs => ?_))
      refine wpList_nil ?_
      refine blk_n ?_
      refine then_n ?_
      replace hs : St 27 ⟨w0, [], [(true, .cel (.slice ad ws.length c) ws.length (wcl ws vs)), (true, .bys vs (ws.map Prod.snd)), (true, .own (.slice ad7 ((bld (ws.take i) ++ b3).length) cp8) 5 1 ((bld (ws.take i) ++ b3).length) (bcs (bld (ws.take i) ++ b3))), (true, .cel (.slice aw_1 pw1.length cw_1) pw1.length (bcs pw1)), (true, .cel (.slice ad5 b3.length cp6) b3.length (bcs b3))], Z, noX⟩ [(9, true, .slice ad ws.length c), (10, true, .int .i64 ((ws.length : Nat) : Int)), (2, true, .slice none 0 0), (3, true, .int .i64 0), (4, true, .slice ad7 ((bld (ws.take i) ++ b3).length) cp8), (11, true, .int .i64 ((i : Nat) : Int))] [(true, g2, 25, [.int .u8 ((ow1 : Nat) : Int), .slice aw_1 pw1.length cw_1])] ac _ := hs.re ⟨rfl, rfl, rfl, rfl, rfl, rfl, trivial⟩
      refine wp_region_lit ?_
      refine lstep (wpO_plain rfl (op_bin hs none (v := .int .i64 ((i + 1 : Nat) : Int)) rfl rfl rfl rfl (fun _ => rfl) (bin_addN (x := i) (y := 1) (z := i + 1) rfl (show i + 1 < 9223372036854775808 by omega)) rfl fun ac hs => ?_))
      refine lstep (wpO_plain rfl (op_move hs none rfl rfl rfl rfl fun ac hs => ?_))
      refine wpList_nil ?_
      refine then_n ?_
      have hbe : bld (ws.take i) ++ b3 = bld (ws.take (i + 1)) := by rw [(bld_snoc hw1).1, hb3]
      rw [hbe] at hs
      replace hs := (hs.takeb 0).selS [0, 1, 2] rfl (by decide)
      exact ⟨_, ⟨(i + 1), ad7, cp8, rfl, (by omega), (by rw [(bld_snoc hw1).2, hQ, hq4]; simpa using hc_), (hs.re (fs' := [(9, true, .slice ad ws.length c), (10, true, .int .i64 ((ws.length : Nat) : Int)), (2, true, .slice none 0 0), (3, true, .int .i64 0), (4, true, .slice ad7 ((bld (ws.take (i + 1))).length) cp8), (11, true, .int .i64 (((i + 1) : Nat) : Int))]) ⟨rfl, rfl, rfl, rfl, rfl, rfl, trivial⟩)⟩, (by omega)⟩
  · skip
    have hp9 := of_decide_eq_false hc
    refine wp_exit ?_
    refine then_e ?_
    refine then_e ?_
    refine blk_e ?_
    refine then_n ?_
    refine wp_seq ?_
    refine wp_region_lit ?_
    refine lstep (wpO_plain rfl (op_move hs none rfl rfl rfl rfl fun ac hs => ?_))
    refine lstep (wpO_plain rfl (op_assign hs none rfl rfl rfl rfl fun ac hs => ?_))
    refine lstep (wpO_plain rfl (op_assign hs none rfl rfl rfl rfl fun ac hs => ?_))
    refine wpList_nil ?_
    refine then_n ?_
    refine wp_ret ?_
    replace hs := hs.freeze 2 rfl
    exact bodyPost_ret (res2 rfl (rv_t hs rfl) (rv_t hs rfl)) hs.defers ⟨⟨ao, co⟩, by obtain ⟨rfl, rfl⟩ := Prod.mk.inj ((BW_end hp9 hQ).symm.trans hB); rfl, hs.bel rfl, by obtain ⟨rfl, rfl⟩ := Prod.mk.inj ((BW_end hp9 hQ).symm.trans hB); exact hs.ret1 2 rfl⟩
theorem rbuild_c (ad : Option Addr) (c : Nat) (ws : List Wd) (vs : List Value) (b : List UInt8) (er : Nat) (hsm : Small ws) (hB : BW ws = (b, er)) (w0 : World) (Z : Nat → Prop) (hws : CelV w0 Z (.slice ad ws.length c) ws.length (wcl ws vs)) (hbws : BysV w0 Z vs (ws.map Prod.snd)): Calls Try.prog 26 #[.slice ad ws.length c] w0 fun e w' => Ret w0 Z (ρ := Option Addr × Nat) (fun r => .tuple #[.slice r.1 b.length r.2, .int .i64 ((er : Nat) : Int)]) (fun r => [.cel (.slice r.1 b.length r.2) b.length (bcs b)]) e w' := by
  refine enterS (n := 57) (args := [.slice ad ws.length c]) (S := [(true, .cel (.slice ad ws.length c) ws.length (wcl ws vs)), (true, .bys vs (ws.map Prod.snd))]) (Z := Z) Try.func26 rfl rfl (Nat.le_of_ble_eq_true rfl) (sokC hws (sokC hbws sok0)) rfl fun ac hs => ?_
  refine wp_seq ?_
  refine wp_region_lit ?_
  refine lstep (wpO_plain rfl (op_assign hs none rfl rfl rfl rfl fun ac hs => ?_))
  refine lstep (wpO_plain rfl (op_assign hs none rfl rfl rfl rfl fun ac hs => ?_))
  refine wpList_nil ?_
  refine then_n ?_
  refine wp_seq ?_
  refine wp_region_lit ?_
  refine lstep (wpO_plain rfl (op_bsO0 hs none none (size := 1) rfl rfl Try.underlying22 inf_u8_5 rfl rfl fun ad2 ac w hs => ?_))
  refine lstep (wpO_plain rfl (op_assign hs none rfl rfl rfl rfl fun ac hs => ?_))
  refine wpList_nil ?_
  refine then_n ?_
  refine wp_seq ?_
  refine wp_seq ?_
  refine wp_region_lit ?_
  refine lstep (wpO_plain rfl (op_assign hs none rfl rfl rfl rfl fun ac hs => ?_))
  refine wpList_nil ?_
  refine then_n ?_
  refine wp_block ?_
  refine wp_loop_m (fun μ ac w => ∃ (i : Nat) (ao : Option Addr) (co : Nat), (ws.length - i) = μ ∧ (i ≤ ws.length) ∧ (bldQ (ws.take i) = true) ∧ St 57 ⟨w0, [], [(true, .cel (.slice ad ws.length c) ws.length (wcl ws vs)), (true, .bys vs (ws.map Prod.snd)), (true, .own (.slice ao ((bld (ws.take i)).length) co) 5 1 ((bld (ws.take i)).length) (bcs (bld (ws.take i))))], Z, noX⟩ [(0, true, .slice ad ws.length c), (2, true, .slice none 0 0), (3, true, .int .i64 0), (4, true, .slice ao ((bld (ws.take i)).length) co), (5, true, .int .i64 ((i : Nat) : Int))] [] ac w) ?_ ?_
  · exact ⟨_, 0, ad2, 0, rfl, (by omega), rfl, (hs.re (fs' := [(0, true, .slice ad ws.length c), (2, true, .slice none 0 0), (3, true, .int .i64 0), (4, true, .slice ad2 ((bld (ws.take 0)).length) 0), (5, true, .int .i64 ((0 : Nat) : Int))]) ⟨rfl, rfl, rfl, rfl, rfl, trivial⟩)⟩
  intro μ ac w ⟨i, ao, co, hμ, hi, hQ, hs⟩
  have hbl := bld_len (fun w hw => (hsm.2 w hw).1) i
  have hwl := hsm.1
  refine wp_seq ?_
  refine wp_seq ?_
  refine wp_region_lit ?_
  refine lstep (wpO_plain rfl (op_move hs none rfl rfl rfl rfl fun ac hs => ?_))
  refine lstep (wpO_plain rfl (op_move hs none rfl rfl rfl rfl fun ac hs => ?_))
  refine lstep (wpO_plain rfl (op_blt hs none (v := .int .i64 ((ws.length : Nat) : Int)) rfl rfl rfl (blt_len Try.underlying29) rfl fun ac hs => ?_))
  refine lstep (wpO_plain rfl (op_bin hs none (v := .bool (decide (i < ws.length))) rfl rfl rfl rfl (fun _ => rfl) (bin_lssN (x := i) (y := ws.length)) rfl fun ac hs => ?_))
  refine wpList_nil ?_
  refine then_n ?_
  refine wp_cond_split (hs.ev rfl) (fun hc => ?_) (fun hc => ?_)
  · skip
    have hp3 := of_decide_eq_true hc
    have hlt := hp3
    obtain ⟨⟨ow1, pw1⟩, hw1⟩ : ∃ z, ws[i]? = some z := ⟨_, List.getElem?_eq_getElem (show i < ws.length by omega)⟩
    obtain ⟨aw_1, cw_1, hv1⟩ := bysv_at (hs.all (k := 1) rfl rfl) (i := i) (l := pw1) (by simp [hw1])
    replace hs := hs.pick none 1 (l := pw1) rfl hv1 (by simp [hw1]) rfl
    have hsa := hsm.at hw1
    refine wp_skip ?_
    refine then_n ?_
    refine wp_seq ?_
    refine wp_block ?_
    refine wp_seq ?_
    refine wp_region_lit ?_
    refine lstep (wpO_plain rfl (op_move hs none rfl rfl rfl rfl fun ac hs => ?_))
    refine lstep (wpO_plain rfl (op_move hs none rfl rfl rfl rfl fun ac hs => ?_))
    refine lstep (wpO_plain rfl (op_idxC hs none 0 (j := i) rfl rfl rfl rfl rfl Try.underlying29 Try.sizeOf25 (show i < ws.length by omega) (off := i * 2) (by omega) rfl fun ac hs => ?_))
    refine lstep (wpO_plain rfl (op_loadC hs none 0 (u := .agg #[.int .u8 ((ow1 : Nat) : Int), .slice aw_1 pw1.length cw_1]) rfl rfl rfl rfl Try.isAgg25 Try.sizeOf25 (by decide) (wcl_ldv hw1 hv1) rfl fun ac hs => ?_))
    refine lstep (wpO_plain rfl (op_alloc hs none none (cs := [.int .u8 0, .slice none 0 0]) rfl rfl Try.zeroValue25 (by kernel_rfl) rfl rfl fun g4 ac w hs => ?_))
    refine lstep (wpO_plain rfl (op_store hs 0 (vs := [.int .u8 ((ow1 : Nat) : Int), .slice aw_1 pw1.length cw_1]) rfl rfl rfl rfl rfl Try.sizeOf25 rfl rfl rfl rfl rfl fun w hs => ?_))
    refine wpList_nil ?_
    refine then_n ?_
    refine wp_seq ?_
    refine wp_seq ?_
    replace hs : St 57 ⟨w0, [], [(true, .cel (.slice ad ws.length c) ws.length (wcl ws vs)), (true, .bys vs (ws.map Prod.snd)), (true, .own (.slice ao ((bld (ws.take i)).length) co) 5 1 ((bld (ws.take i)).length) (bcs (bld (ws.take i)))), (true, .cel (.slice aw_1 pw1.length cw_1) pw1.length (bcs pw1))], Z, noX⟩ [(0, true, .slice ad ws.length c), (2, true, .slice none 0 0), (3, true, .int .i64 0), (4, true, .slice ao ((bld (ws.take i)).length) co), (5, true, .int .i64 ((i : Nat) : Int)), (6, true, .pointer (some ⟨g4, 0, none⟩))] [(true, g4, 25, [.int .u8 ((ow1 : Nat) : Int), .slice aw_1 pw1.length cw_1])] ac _ := hs.re ⟨rfl, rfl, rfl, rfl, rfl, rfl, trivial⟩
    refine wp_region_lit ?_
    refine lstep (wpO_plain rfl (op_load hs none 0 (v := .agg #[.int .u8 ((ow1 : Nat) : Int), .slice aw_1 pw1.length cw_1]) rfl rfl rfl rfl Try.isAgg25 Try.sizeOf25 rfl rfl fun ac hs => ?_))
    obtain ⟨q5, hq5⟩ : ∃ z0, layQ ow1 pw1 = z0 := ⟨_, rfl⟩
    refine lstep (wpO_plain rfl (op_callS (F := 34) (ρ := Unit) hs none none (v := fun r => .bool q5) (E := fun r => []) (j := 0) rfl rfl rfl rfl (Try.call34 _) (fun hs => may_c ow1 aw_1 pw1.length cw_1 pw1 q5 (show ow1 < 256 by omega) (show pw1.length ≤ 100000 by omega) hq5 _ _ (hs.all (k := 3) rfl rfl)) (fun _ => rfl) rfl rfl fun _ ac w hs => ?_))
    refine lstep (wpO_plain rfl (op_un hs none (v := .bool (!q5)) rfl rfl rfl (fun _ => rfl) rfl fun ac hs => ?_))
    refine wpList_nil ?_
    refine then_n ?_
    refine wp_cond_split (hs.ev rfl) (fun hc => ?_) (fun hc => ?_)
    · skip
      have hc_ := hc
      refine wp_seq ?_
      refine wp_region_lit ?_
      refine lstep (wpO_plain rfl (op_assign hs none rfl rfl rfl rfl fun ac hs => ?_))
      refine lstep (wpO_plain rfl (op_assign hs none rfl rfl rfl rfl fun ac hs => ?_))
      refine wpList_nil ?_
      refine then_n ?_
      refine wp_ret ?_
      refine then_r ?_
      refine blk_r ?_
      refine then_r ?_
      refine then_r ?_
      refine blk_r ?_
      refine then_r ?_
      exact bodyPost_ret (res2 rfl (rv_t hs rfl) (rv_t hs rfl)) hs.defers ⟨⟨none, 0⟩, by obtain ⟨rfl, rfl⟩ := Prod.mk.inj ((BW_err hw1 (by rw [show layQ (ow1, pw1).1 (ow1, pw1).2 = _ from hq5]; simpa using hc_)).symm.trans hB); rfl, hs.bel rfl, by obtain ⟨rfl, rfl⟩ := Prod.mk.inj ((BW_err hw1 (by rw [show layQ (ow1, pw1).1 (ow1, pw1).2 = _ from hq5]; simpa using hc_)).symm.trans hB); exact okl1 celv_nil⟩
    · skip
      have hc_ := hc
      refine wp_skip ?_
      refine then_n ?_
      refine wp_seq ?_
      refine wp_region_lit ?_
      refine lstep (wpO_plain rfl (op_move hs none rfl rfl rfl rfl fun ac hs => ?_))
      refine lstep (wpO_plain rfl (op_fieldA hs none rfl rfl rfl Try.underlying25 rfl Try.sizeOf5 (by decide) rfl fun ac hs => ?_))
      refine lstep (wpO_plain rfl (op_load hs none 0 (v := .int .u8 ((ow1 : Nat) : Int)) rfl rfl rfl rfl Try.isAgg5 Try.sizeOf5 rfl rfl fun ac hs => ?_))
      refine lstep (wpO_plain rfl (op_bsO hs none none (qs := [(0, .int .u8 ((ow1 : Nat) : Int))]) (cs := [.int .u8 ((ow1 : Nat) : Int)]) (cs' := bcs [UInt8.ofNat ow1]) rfl rfl rfl rfl Try.underlying22 inf_u8_5 (by decide) (by decide) (fill_one _ _ rfl ) rfl (bcs_cons (show ow1 < 256 by omega) rfl) rfl rfl fun ad7 ac w hs => ?_))
      refine lstep (wpO_plain rfl (op_appR hs none 2 4 (N' := (bld (ws.take i) ++ [UInt8.ofNat ow1]).length) (ys := bcs (bld (ws.take i) ++ [UInt8.ofNat ow1])) rfl rfl rfl rfl rfl rfl Try.underlying22 inf_u8_5 rfl (by decide) (bcs_len1 rfl) (bcs_one _) (by decide) (show (bld (ws.take i)).length + 1 ≤ 1000000 by (try simp only [List.length_drop, List.length_take, List.length_append, List.length_cons, List.length_nil]); omega) (by simp only [List.length_append, List.length_cons, List.length_nil] <;> omega) (bcs_append _ _) rfl rfl fun ad8 cp9 ac w hs => ?_))
      refine lstep (wpO_plain rfl (op_assign hs none rfl rfl rfl rfl fun ac hs => ?_))
      refine wpList_nil ?_
      refine then_n ?_
      refine wp_seq ?_
      refine wp_seq ?_
      by_cases hq10 : ow1 = 76
      · skip
        replace hs : St 57 ⟨w0, [], [(true, .cel (.slice ad ws.length c) ws.length (wcl ws vs)), (true, .bys vs (ws.map Prod.snd)), (true, .own (.slice ad8 ((bld (ws.take i) ++ [UInt8.ofNat ow1]).length) cp9) 5 1 ((bld (ws.take i) ++ [UInt8.ofNat ow1]).length) (bcs (bld (ws.take i) ++ [UInt8.ofNat ow1]))), (true, .cel (.slice aw_1 pw1.length cw_1) pw1.length (bcs pw1)), (true, .own (.slice ad7 1 1) 5 1 1 (bcs ([UInt8.ofNat ow1])))], Z, noX⟩ [(0, true, .slice ad ws.length c), (2, true, .slice none 0 0), (3, true, .int .i64 0), (4, true, .slice ad8 ((bld (ws.take i) ++ [UInt8.ofNat ow1]).length) cp9), (5, true, .int .i64 ((i : Nat) : Int)), (6, true, .pointer (some ⟨g4, 0, none⟩))] [(true, g4, 25, [.int .u8 ((ow1 : Nat) : Int), .slice aw_1 pw1.length cw_1])] ac _ := hs.re ⟨rfl, rfl, rfl, rfl, rfl, rfl, trivial⟩
        refine wp_region_lit ?_
        refine lstep (wpO_plain rfl (op_fieldA hs none rfl rfl rfl Try.underlying25 rfl Try.sizeOf5 (by decide) rfl fun ac hs => ?_))
        refine lstep (wpO_plain rfl (op_load hs none 0 (v := .int .u8 ((ow1 : Nat) : Int)) rfl rfl rfl rfl Try.isAgg5 Try.sizeOf5 rfl rfl fun ac hs => ?_))
        refine lstep (wpO_plain rfl (op_bin hs none (v := .bool true) rfl rfl rfl rfl (fun _ => rfl) (fun w => dT hq10 (bin_eqlN (x := ow1) (y := 76) w)) rfl fun ac hs => ?_))
        refine lstep (wpO_plain rfl (op_move hs none rfl rfl rfl rfl fun ac hs => ?_))
        refine lstep (wpO_out hs none rfl rfl (.inl rfl) rfl rfl fun ac hs => ?_)
        refine lstep (wpO_out hs none rfl rfl (.inl rfl) rfl rfl fun ac hs => ?_)
        refine lstep (wpO_out hs none rfl rfl (.inl rfl) rfl rfl fun ac hs => ?_)
        refine lstep (wpO_plain rfl (op_pickT hs none rfl rfl rfl rfl rfl fun ac hs => ?_))
        refine wpList_nil ?_
        refine then_n ?_
        refine wp_cond_true (hs.ev rfl) ?_
        refine wp_region_lit ?_
        refine lstep (wpO_plain rfl (op_move hs none rfl rfl rfl rfl fun ac hs => ?_))
        refine lstep (wpO_plain rfl (op_fieldA hs none rfl rfl rfl Try.underlying25 rfl Try.sizeOf22 (by decide) rfl fun ac hs => ?_))
        refine lstep (wpO_plain rfl (op_load hs none 0 (v := .slice aw_1 pw1.length cw_1) rfl rfl rfl rfl Try.isAgg22 Try.sizeOf22 rfl rfl fun ac hs => ?_))
        refine lstep (wpO_plain rfl (op_blt hs none (v := .int .i64 ((pw1.length : Nat) : Int)) rfl rfl rfl (blt_len Try.underlying22) rfl fun ac hs => ?_))
        refine lstep (wpO_plain rfl (op_convert hs none (v := .int .u8 ((pw1.length % 256 : Nat) : Int)) rfl rfl rfl (conv_M (z := pw1.length % 256) rfl Try.underlying3 Try.underlying5 rfl) rfl fun ac hs => ?_))
        refine lstep (wpO_plain rfl (op_bsO hs none none (qs := [(0, .int .u8 ((pw1.length % 256 : Nat) : Int))]) (cs := [.int .u8 ((pw1.length % 256 : Nat) : Int)]) (cs' := bcs [UInt8.ofNat (pw1.length % 256)]) rfl rfl rfl rfl Try.underlying22 inf_u8_5 (by decide) (by decide) (fill_one _ _ rfl ) rfl (bcs_cons (show pw1.length % 256 < 256 by omega) rfl) rfl rfl fun ad12 ac w hs => ?_))
        refine lstep (wpO_plain rfl (op_appR hs none 2 5 (N' := (bld (ws.take i) ++ [UInt8.ofNat ow1] ++ [UInt8.ofNat (pw1.length % 256)]).length) (ys := bcs (bld (ws.take i) ++ [UInt8.ofNat ow1] ++ [UInt8.ofNat (pw1.length % 256)])) rfl rfl rfl rfl rfl rfl Try.underlying22 inf_u8_5 rfl (by decide) (bcs_len1 rfl) (bcs_one _) (by decide) (show (bld (ws.take i) ++ [UInt8.ofNat ow1]).length + 1 ≤ 1000000 by (try simp only [List.length_drop, List.length_take, List.length_append, List.length_cons, List.length_nil]); omega) (by simp only [List.length_append, List.length_cons, List.length_nil] <;> omega) (bcs_append _ _) rfl rfl fun ad13 cp14 ac w hs => ?_))
        refine lstep (wpO_plain rfl (op_assign hs none rfl rfl rfl rfl fun ac hs => ?_))
        refine wpList_nil ?_
        refine then_n ?_
        refine wp_seq ?_
        refine wp_seq ?_
        replace hs : St 57 ⟨w0, [], [(true, .cel (.slice ad ws.length c) ws.length (wcl ws vs)), (true, .bys vs (ws.map Prod.snd)), (true, .own (.slice ad13 ((bld (ws.take i) ++ [UInt8.ofNat ow1] ++ [UInt8.ofNat (pw1.length % 256)]).length) cp14) 5 1 ((bld (ws.take i) ++ [UInt8.ofNat ow1] ++ [UInt8.ofNat (pw1.length % 256)]).length) (bcs (bld (ws.take i) ++ [UInt8.ofNat ow1] ++ [UInt8.ofNat (pw1.length % 256)]))), (true, .cel (.slice aw_1 pw1.length cw_1) pw1.length (bcs pw1)), (true, .own (.slice ad7 1 1) 5 1 1 (bcs ([UInt8.ofNat ow1]))), (true, .own (.slice ad12 1 1) 5 1 1 (bcs ([UInt8.ofNat (pw1.length % 256)])))], Z, noX⟩ [(0, true, .slice ad ws.length c), (2, true, .slice none 0 0), (3, true, .int .i64 0), (4, true, .slice ad13 ((bld (ws.take i) ++ [UInt8.ofNat ow1] ++ [UInt8.ofNat (pw1.length % 256)]).length) cp14), (5, true, .int .i64 ((i : Nat) : Int)), (6, true, .pointer (some ⟨g4, 0, none⟩))] [(true, g4, 25, [.int .u8 ((ow1 : Nat) : Int), .slice aw_1 pw1.length cw_1])] ac _ := hs.re ⟨rfl, rfl, rfl, rfl, rfl, rfl, trivial⟩
        refine wp_region_lit ?_
        refine lstep (wpO_plain rfl (op_fieldA hs none rfl rfl rfl Try.underlying25 rfl Try.sizeOf5 (by decide) rfl fun ac hs => ?_))
        refine lstep (wpO_plain rfl (op_load hs none 0 (v := .int .u8 ((ow1 : Nat) : Int)) rfl rfl rfl rfl Try.isAgg5 Try.sizeOf5 rfl rfl fun ac hs => ?_))
        refine lstep (wpO_plain rfl (op_bin hs none (v := .bool (decide (ow1 = 77))) rfl rfl rfl rfl (fun _ => rfl) (bin_eqlN (x := ow1) (y := 77)) rfl fun ac hs => ?_))
        refine wpList_nil ?_
        refine then_n ?_
        refine wp_cond_split (hs.ev rfl) (fun hc => ?_) (fun hc => ?_)
        · skip
          have hp15 := of_decide_eq_true hc
          refine wp_region_lit ?_
          refine lstep (wpO_plain rfl (op_move hs none rfl rfl rfl rfl fun ac hs => ?_))
          refine lstep (wpO_plain rfl (op_fieldA hs none rfl rfl rfl Try.underlying25 rfl Try.sizeOf22 (by decide) rfl fun ac hs => ?_))
          refine lstep (wpO_plain rfl (op_load hs none 0 (v := .slice aw_1 pw1.length cw_1) rfl rfl rfl rfl Try.isAgg22 Try.sizeOf22 rfl rfl fun ac hs => ?_))
          refine lstep (wpO_plain rfl (op_blt hs none (v := .int .i64 ((pw1.length : Nat) : Int)) rfl rfl rfl (blt_len Try.underlying22) rfl fun ac hs => ?_))
          refine lstep (wpO_plain rfl (op_bin hs none (v := .int .i64 ((pw1.length / 256 : Nat) : Int)) rfl rfl rfl rfl (fun _ => rfl) (bin_quoN (x := pw1.length) (y := 256) (z := pw1.length / 256) rfl (by decide) (show pw1.length < 9223372036854775808 by omega)) rfl fun ac hs => ?_))
          refine lstep (wpO_plain rfl (op_convert hs none (v := .int .u8 (((pw1.length / 256) % 256 : Nat) : Int)) rfl rfl rfl (conv_M (z := (pw1.length / 256) % 256) rfl Try.underlying3 Try.underlying5 rfl) rfl fun ac hs => ?_))
          refine lstep (wpO_plain rfl (op_bsO hs none none (qs := [(0, .int .u8 (((pw1.length / 256) % 256 : Nat) : Int))]) (cs := [.int .u8 (((pw1.length / 256) % 256 : Nat) : Int)]) (cs' := bcs [UInt8.ofNat ((pw1.length / 256) % 256)]) rfl rfl rfl rfl Try.underlying22 inf_u8_5 (by decide) (by decide) (fill_one _ _ rfl ) rfl (bcs_cons (show (pw1.length / 256) % 256 < 256 by omega) rfl) rfl rfl fun ad17 ac w hs => ?_))
          refine lstep (wpO_plain rfl (op_appR hs none 2 6 (N' := (bld (ws.take i) ++ [UInt8.ofNat ow1] ++ [UInt8.ofNat (pw1.length % 256)] ++ [UInt8.ofNat ((pw1.length / 256) % 256)]).length) (ys := bcs (bld (ws.take i) ++ [UInt8.ofNat ow1] ++ [UInt8.ofNat (pw1.length % 256)] ++ [UInt8.ofNat ((pw1.length / 256) % 256)])) rfl rfl rfl rfl rfl rfl Try.underlying22 inf_u8_5 rfl (by decide) (bcs_len1 rfl) (bcs_one _) (by decide) (show (bld (ws.take i) ++ [UInt8.ofNat ow1] ++ [UInt8.ofNat (pw1.length % 256)]).length + 1 ≤ 1000000 by (try simp only [List.length_drop, List.length_take, List.length_append, List.length_cons, List.length_nil]); omega) (by simp only [List.length_append, List.length_cons, List.length_nil] <;> omega) (bcs_append _ _) rfl rfl fun ad18 cp19 ac w hs => ?_))
          refine lstep (wpO_plain rfl (op_assign hs none rfl rfl rfl rfl fun ac hs => ?_))
          refine wpList_nil ?_
          refine then_n ?_
          replace hs : St 57 ⟨w0, [], [(true, .cel (.slice ad ws.length c) ws.length (wcl ws vs)), (true, .bys vs (ws.map Prod.snd)), (true, .own (.slice ad18 ((bld (ws.take i) ++ [UInt8.ofNat ow1] ++ [UInt8.ofNat (pw1.length % 256)] ++ [UInt8.ofNat ((pw1.length / 256) % 256)]).length) cp19) 5 1 ((bld (ws.take i) ++ [UInt8.ofNat ow1] ++ [UInt8.ofNat (pw1.length % 256)] ++ [UInt8.ofNat ((pw1.length / 256) % 256)]).length) (bcs (bld (ws.take i) ++ [UInt8.ofNat ow1] ++ [UInt8.ofNat (pw1.length % 256)] ++ [UInt8.ofNat ((pw1.length / 256) % 256)]))), (true, .cel (.slice aw_1 pw1.length cw_1) pw1.length (bcs pw1)), (true, .own (.slice ad7 1 1) 5 1 1 (bcs ([UInt8.ofNat ow1]))), (true, .own (.slice ad12 1 1) 5 1 1 (bcs ([UInt8.ofNat (pw1.length % 256)]))), (true, .own (.slice ad17 1 1) 5 1 1 (bcs ([UInt8.ofNat ((pw1.length / 256) % 256)])))], Z, noX⟩ [(0, true, .slice ad ws.length c), (2, true, .slice none 0 0), (3, true, .int .i64 0), (4, true, .slice ad18 ((bld (ws.take i) ++ [UInt8.ofNat ow1] ++ [UInt8.ofNat (pw1.length % 256)] ++ [UInt8.ofNat ((pw1.length / 256) % 256)]).length) cp19), (5, true, .int .i64 ((i : Nat) : Int)), (6, true, .pointer (some ⟨g4, 0, none⟩))] [(true, g4, 25, [.int .u8 ((ow1 : Nat) : Int), .slice aw_1 pw1.length cw_1])] ac _ := hs.re ⟨rfl, rfl, rfl, rfl, rfl, rfl, trivial⟩
          refine wp_region_lit ?_
          refine lstep (wpO_plain rfl (op_move hs none rfl rfl rfl rfl fun ac hs => ?_))
          refine lstep (wpO_plain rfl (op_fieldA hs none rfl rfl rfl Try.underlying25 rfl Try.sizeOf22 (by decide) rfl fun ac hs => ?_))
          refine lstep (wpO_plain rfl (op_load hs none 0 (v := .slice aw_1 pw1.length cw_1) rfl rfl rfl rfl Try.isAgg22 Try.sizeOf22 rfl rfl fun ac hs => ?_))
          refine lstep (wpO_plain rfl (op_appR hs none 2 3 (N' := (bld (ws.take i) ++ [UInt8.ofNat ow1] ++ [UInt8.ofNat (pw1.length % 256)] ++ [UInt8.ofNat ((pw1.length / 256) % 256)] ++ pw1).length) (ys := bcs (bld (ws.take i) ++ [UInt8.ofNat ow1] ++ [UInt8.ofNat (pw1.length % 256)] ++ [UInt8.ofNat ((pw1.length / 256) % 256)] ++ pw1)) rfl rfl rfl rfl rfl rfl Try.underlying22 inf_u8_5 rfl (by decide) (bcs_len1 rfl) (bcs_one _) (by decide) (show (bld (ws.take i) ++ [UInt8.ofNat ow1] ++ [UInt8.ofNat (pw1.length % 256)] ++ [UInt8.ofNat ((pw1.length / 256) % 256)]).length + pw1.length ≤ 1000000 by (try simp only [List.length_drop, List.length_take, List.length_append, List.length_cons, List.length_nil]); omega) (by simp only [List.length_append, List.length_cons, List.length_nil] <;> omega) (bcs_append _ _) rfl rfl fun ad20 cp21 ac w hs => ?_))
          refine lstep (wpO_plain rfl (op_assign hs none rfl rfl rfl rfl fun ac hs => ?_))
          refine wpList_nil ?_
          refine blk_n ?_
          refine then_n ?_
          refine wp_region_lit ?_
          refine lstep (wpO_plain rfl (op_move hs none rfl rfl rfl rfl fun ac hs => ?_))
          refine lstep (wpO_plain rfl (op_bin hs none (v := .int .i64 ((i + 1 : Nat) : Int)) rfl rfl rfl rfl (fun _ => rfl) (bin_addN (x := i) (y := 1) (z := i + 1) rfl (show i + 1 < 9223372036854775808 by omega)) rfl fun ac hs => ?_))
          refine lstep (wpO_plain rfl (op_assign hs none rfl rfl rfl rfl fun ac hs => ?_))
          refine wpList_nil ?_
          refine then_n ?_
          have hbe : bld (ws.take i) ++ [UInt8.ofNat ow1] ++ [UInt8.ofNat (pw1.length % 256)] ++ [UInt8.ofNat ((pw1.length / 256) % 256)] ++ pw1 = bld (ws.take (i + 1)) := by first | (exfalso; omega) | (rw [(bld_snoc hw1).1, (layB_3 (p := pw1) (by omega)).1]; simp)
          rw [hbe] at hs
          replace hs := (hs.takeb 0).selS [0, 1, 2] rfl (by decide)
          exact ⟨_, ⟨(i + 1), ad20, cp21, rfl, (by omega), (by rw [(bld_snoc hw1).2, hQ, hq5]; simpa using hc_), (hs.re (fs' := [(0, true, .slice ad ws.length c), (2, true, .slice none 0 0), (3, true, .int .i64 0), (4, true, .slice ad20 ((bld (ws.take (i + 1))).length) cp21), (5, true, .int .i64 (((i + 1) : Nat) : Int))]) ⟨rfl, rfl, rfl, rfl, rfl, trivial⟩)⟩, (by omega)⟩
        · skip
          have hp22 := of_decide_eq_false hc
          refine wp_skip ?_
          refine then_n ?_
          refine wp_region_lit ?_
          refine lstep (wpO_plain rfl (op_move hs none rfl rfl rfl rfl fun ac hs => ?_))
          refine lstep (wpO_plain rfl (op_fieldA hs none rfl rfl rfl Try.underlying25 rfl Try.sizeOf22 (by decide) rfl fun ac hs => ?_))
          refine lstep (wpO_plain rfl (op_load hs none 0 (v := .slice aw_1 pw1.length cw_1) rfl rfl rfl rfl Try.isAgg22 Try.sizeOf22 rfl rfl fun ac hs => ?_))
          refine lstep (wpO_plain rfl (op_appR hs none 2 3 (N' := (bld (ws.take i) ++ [UInt8.ofNat ow1] ++ [UInt8.ofNat (pw1.length % 256)] ++ pw1).length) (ys := bcs (bld (ws.take i) ++ [UInt8.ofNat ow1] ++ [UInt8.ofNat (pw1.length % 256)] ++ pw1)) rfl rfl rfl rfl rfl rfl Try.underlying22 inf_u8_5 rfl (by decide) (bcs_len1 rfl) (bcs_one _) (by decide) (show (bld (ws.take i) ++ [UInt8.ofNat ow1] ++ [UInt8.ofNat (pw1.length % 256)]).length + pw1.length ≤ 1000000 by (try simp only [List.length_drop, List.length_take, List.length_append, List.length_cons, List.length_nil]); omega) (by simp only [List.length_append, List.length_cons, List.length_nil] <;> omega) (bcs_append _ _) rfl rfl fun ad23 cp24 ac w hs => ?_))
          refine lstep (wpO_plain rfl (op_assign hs none rfl rfl rfl rfl fun ac hs => ?_))
          refine wpList_nil ?_
          refine blk_n ?_
          refine then_n ?_
          replace hs : St 57 ⟨w0, [], [(true, .cel (.slice ad ws.length c) ws.length (wcl ws vs)), (true, .bys vs (ws.map Prod.snd)), (true, .own (.slice ad23 ((bld (ws.take i) ++ [UInt8.ofNat ow1] ++ [UInt8.ofNat (pw1.length % 256)] ++ pw1).length) cp24) 5 1 ((bld (ws.take i) ++ [UInt8.ofNat ow1] ++ [UInt8.ofNat (pw1.length % 256)] ++ pw1).length) (bcs (bld (ws.take i) ++ [UInt8.ofNat ow1] ++ [UInt8.ofNat (pw1.length % 256)] ++ pw1))), (true, .cel (.slice aw_1 pw1.length cw_1) pw1.length (bcs pw1)), (true, .own (.slice ad7 1 1) 5 1 1 (bcs ([UInt8.ofNat ow1]))), (true, .own (.slice ad12 1 1) 5 1 1 (bcs ([UInt8.ofNat (pw1.length % 256)])))], Z, noX⟩ [(0, true, .slice ad ws.length c), (2, true, .slice none 0 0), (3, true, .int .i64 0), (4, true, .slice ad23 ((bld (ws.take i) ++ [UInt8.ofNat ow1] ++ [UInt8.ofNat (pw1.length % 256)] ++ pw1).length) cp24), (5, true, .int .i64 ((i : Nat) : Int))] [(true, g4, 25, [.int .u8 ((ow1 : Nat) : Int), .slice aw_1 pw1.length cw_1])] ac _ := hs.re ⟨rfl, rfl, rfl, rfl, rfl, trivial⟩
          refine wp_region_lit ?_
          refine lstep (wpO_plain rfl (op_move hs none rfl rfl rfl rfl fun ac hs => ?_))
          refine lstep (wpO_plain rfl (op_bin hs none (v := .int .i64 ((i + 1 : Nat) : Int)) rfl rfl rfl rfl (fun _ => rfl) (bin_addN (x := i) (y := 1) (z := i + 1) rfl (show i + 1 < 9223372036854775808 by omega)) rfl fun ac hs => ?_))
          refine lstep (wpO_plain rfl (op_assign hs none rfl rfl rfl rfl fun ac hs => ?_))
          refine wpList_nil ?_
          refine then_n ?_
          have hbe : bld (ws.take i) ++ [UInt8.ofNat ow1] ++ [UInt8.ofNat (pw1.length % 256)] ++ pw1 = bld (ws.take (i + 1)) := by first | (exfalso; omega) | (rw [(bld_snoc hw1).1, (layB_2 (p := pw1) (by omega)).1]; simp)
          rw [hbe] at hs
          replace hs := (hs.takeb 0).selS [0, 1, 2] rfl (by decide)
          exact ⟨_, ⟨(i + 1), ad23, cp24, rfl, (by omega), (by rw [(bld_snoc hw1).2, hQ, hq5]; simpa using hc_), (hs.re (fs' := [(0, true, .slice ad ws.length c), (2, true, .slice none 0 0), (3, true, .int .i64 0), (4, true, .slice ad23 ((bld (ws.take (i + 1))).length) cp24), (5, true, .int .i64 (((i + 1) : Nat) : Int))]) ⟨rfl, rfl, rfl, rfl, rfl, trivial⟩)⟩, (by omega)⟩
      · skip
        replace hs : St 57 ⟨w0, [], [(true, .cel (.slice ad ws.length c) ws.length (wcl ws vs)), (true, .bys vs (ws.map Prod.snd)), (true, .own (.slice ad8 ((bld (ws.take i) ++ [UInt8.ofNat ow1]).length) cp9) 5 1 ((bld (ws.take i) ++ [UInt8.ofNat ow1]).length) (bcs (bld (ws.take i) ++ [UInt8.ofNat ow1]))), (true, .cel (.slice aw_1 pw1.length cw_1) pw1.length (bcs pw1)), (true, .own (.slice ad7 1 1) 5 1 1 (bcs ([UInt8.ofNat ow1])))], Z, noX⟩ [(0, true, .slice ad ws.length c), (2, true, .slice none 0 0), (3, true, .int .i64 0), (4, true, .slice ad8 ((bld (ws.take i) ++ [UInt8.ofNat ow1]).length) cp9), (5, true, .int .i64 ((i : Nat) : Int)), (6, true, .pointer (some ⟨g4, 0, none⟩))] [(true, g4, 25, [.int .u8 ((ow1 : Nat) : Int), .slice aw_1 pw1.length cw_1])] ac _ := hs.re ⟨rfl, rfl, rfl, rfl, rfl, rfl, trivial⟩
        refine wp_region_lit ?_
        refine lstep (wpO_plain rfl (op_fieldA hs none rfl rfl rfl Try.underlying25 rfl Try.sizeOf5 (by decide) rfl fun ac hs => ?_))
        refine lstep (wpO_plain rfl (op_load hs none 0 (v := .int .u8 ((ow1 : Nat) : Int)) rfl rfl rfl rfl Try.isAgg5 Try.sizeOf5 rfl rfl fun ac hs => ?_))
        refine lstep (wpO_plain rfl (op_bin hs none (v := .bool false) rfl rfl rfl rfl (fun _ => rfl) (fun w => dF hq10 (bin_eqlN (x := ow1) (y := 76) w)) rfl fun ac hs => ?_))
        refine lstep (wpO_plain rfl (op_move hs none rfl rfl rfl rfl fun ac hs => ?_))
        refine lstep (wpO_in hs rfl rfl rfl (op_fieldA hs none rfl rfl rfl Try.underlying25 rfl Try.sizeOf5 (by decide) rfl fun ac hs => ?_))
        refine lstep (wpO_in hs rfl rfl rfl (op_load hs none 0 (v := .int .u8 ((ow1 : Nat) : Int)) rfl rfl rfl rfl Try.isAgg5 Try.sizeOf5 rfl rfl fun ac hs => ?_))
        refine lstep (wpO_in hs rfl rfl rfl (op_bin hs none (v := .bool (decide (ow1 = 77))) rfl rfl rfl rfl (fun _ => rfl) (bin_eqlN (x := ow1) (y := 77)) rfl fun ac hs => ?_))
        refine lstep (wpO_plain rfl (op_pickF hs none rfl rfl rfl rfl rfl fun ac hs => ?_))
        refine wpList_nil ?_
        refine then_n ?_
        refine wp_cond_split (hs.ev rfl) (fun hc => ?_) (fun hc => ?_)
        · skip
          have hp25 := of_decide_eq_true hc
          replace hs : St 57 ⟨w0, [], [(true, .cel (.slice ad ws.length c) ws.length (wcl ws vs)), (true, .bys vs (ws.map Prod.snd)), (true, .own (.slice ad8 ((bld (ws.take i) ++ [UInt8.ofNat ow1]).length) cp9) 5 1 ((bld (ws.take i) ++ [UInt8.ofNat ow1]).length) (bcs (bld (ws.take i) ++ [UInt8.ofNat ow1]))), (true, .cel (.slice aw_1 pw1.length cw_1) pw1.length (bcs pw1)), (true, .own (.slice ad7 1 1) 5 1 1 (bcs ([UInt8.ofNat ow1])))], Z, noX⟩ [(0, true, .slice ad ws.length c), (2, true, .slice none 0 0), (3, true, .int .i64 0), (4, true, .slice ad8 ((bld (ws.take i) ++ [UInt8.ofNat ow1]).length) cp9), (5, true, .int .i64 ((i : Nat) : Int)), (6, true, .pointer (some ⟨g4, 0, none⟩))] [(true, g4, 25, [.int .u8 ((ow1 : Nat) : Int), .slice aw_1 pw1.length cw_1])] ac _ := hs.re ⟨rfl, rfl, rfl, rfl, rfl, rfl, trivial⟩
          refine wp_region_lit ?_
          refine lstep (wpO_plain rfl (op_move hs none rfl rfl rfl rfl fun ac hs => ?_))
          refine lstep (wpO_plain rfl (op_fieldA hs none rfl rfl rfl Try.underlying25 rfl Try.sizeOf22 (by decide) rfl fun ac hs => ?_))
          refine lstep (wpO_plain rfl (op_load hs none 0 (v := .slice aw_1 pw1.length cw_1) rfl rfl rfl rfl Try.isAgg22 Try.sizeOf22 rfl rfl fun ac hs => ?_))
          refine lstep (wpO_plain rfl (op_blt hs none (v := .int .i64 ((pw1.length : Nat) : Int)) rfl rfl rfl (blt_len Try.underlying22) rfl fun ac hs => ?_))
          refine lstep (wpO_plain rfl (op_convert hs none (v := .int .u8 ((pw1.length % 256 : Nat) : Int)) rfl rfl rfl (conv_M (z := pw1.length % 256) rfl Try.underlying3 Try.underlying5 rfl) rfl fun ac hs => ?_))
          refine lstep (wpO_plain rfl (op_bsO hs none none (qs := [(0, .int .u8 ((pw1.length % 256 : Nat) : Int))]) (cs := [.int .u8 ((pw1.length % 256 : Nat) : Int)]) (cs' := bcs [UInt8.ofNat (pw1.length % 256)]) rfl rfl rfl rfl Try.underlying22 inf_u8_5 (by decide) (by decide) (fill_one _ _ rfl ) rfl (bcs_cons (show pw1.length % 256 < 256 by omega) rfl) rfl rfl fun ad27 ac w hs => ?_))
          refine lstep (wpO_plain rfl (op_appR hs none 2 5 (N' := (bld (ws.take i) ++ [UInt8.ofNat ow1] ++ [UInt8.ofNat (pw1.length % 256)]).length) (ys := bcs (bld (ws.take i) ++ [UInt8.ofNat ow1] ++ [UInt8.ofNat (pw1.length % 256)])) rfl rfl rfl rfl rfl rfl Try.underlying22 inf_u8_5 rfl (by decide) (bcs_len1 rfl) (bcs_one _) (by decide) (show (bld (ws.take i) ++ [UInt8.ofNat ow1]).length + 1 ≤ 1000000 by (try simp only [List.length_drop, List.length_take, List.length_append, List.length_cons, List.length_nil]); omega) (by simp only [List.length_append, List.length_cons, List.length_nil] <;> omega) (bcs_append _ _) rfl rfl fun ad28 cp29 ac w hs => ?_))
          refine lstep (wpO_plain rfl (op_assign hs none rfl rfl rfl rfl fun ac hs => ?_))
          refine wpList_nil ?_
          refine then_n ?_
          refine wp_seq ?_
          refine wp_seq ?_
          replace hs : St 57 ⟨w0, [], [(true, .cel (.slice ad ws.length c) ws.length (wcl ws vs)), (true, .bys vs (ws.map Prod.snd)), (true, .own (.slice ad28 ((bld (ws.take i) ++ [UInt8.ofNat ow1] ++ [UInt8.ofNat (pw1.length % 256)]).length) cp29) 5 1 ((bld (ws.take i) ++ [UInt8.ofNat ow1] ++ [UInt8.ofNat (pw1.length % 256)]).length) (bcs (bld (ws.take i) ++ [UInt8.ofNat ow1] ++ [UInt8.ofNat (pw1.length % 256)]))), (true, .cel (.slice aw_1 pw1.length cw_1) pw1.length (bcs pw1)), (true, .own (.slice ad7 1 1) 5 1 1 (bcs ([UInt8.ofNat ow1]))), (true, .own (.slice ad27 1 1) 5 1 1 (bcs ([UInt8.ofNat (pw1.length % 256)])))], Z, noX⟩ [(0, true, .slice ad ws.length c), (2, true, .slice none 0 0), (3, true, .int .i64 0), (4, true, .slice ad28 ((bld (ws.take i) ++ [UInt8.ofNat ow1] ++ [UInt8.ofNat (pw1.length % 256)]).length) cp29), (5, true, .int .i64 ((i : Nat) : Int)), (6, true, .pointer (some ⟨g4, 0, none⟩))] [(true, g4, 25, [.int .u8 ((ow1 : Nat) : Int), .slice aw_1 pw1.length cw_1])] ac _ := hs.re ⟨rfl, rfl, rfl, rfl, rfl, rfl, trivial⟩
          refine wp_region_lit ?_
          refine lstep (wpO_plain rfl (op_fieldA hs none rfl rfl rfl Try.underlying25 rfl Try.sizeOf5 (by decide) rfl fun ac hs => ?_))
          refine lstep (wpO_plain rfl (op_load hs none 0 (v := .int .u8 ((ow1 : Nat) : Int)) rfl rfl rfl rfl Try.isAgg5 Try.sizeOf5 rfl rfl fun ac hs => ?_))
          refine lstep (wpO_plain rfl (op_bin hs none (v := .bool (decide (ow1 = 77))) rfl rfl rfl rfl (fun _ => rfl) (bin_eqlN (x := ow1) (y := 77)) rfl fun ac hs => ?_))
          refine wpList_nil ?_
          refine then_n ?_
          refine wp_cond_split (hs.ev rfl) (fun hc => ?_) (fun hc => ?_)
          · skip
            have hp30 := of_decide_eq_true hc
            refine wp_region_lit ?_
            refine lstep (wpO_plain rfl (op_move hs none rfl rfl rfl rfl fun ac hs => ?_))
            refine lstep (wpO_plain rfl (op_fieldA hs none rfl rfl rfl Try.underlying25 rfl Try.sizeOf22 (by decide) rfl fun ac hs => ?_))
            refine lstep (wpO_plain rfl (op_load hs none 0 (v := .slice aw_1 pw1.length cw_1) rfl rfl rfl rfl Try.isAgg22 Try.sizeOf22 rfl rfl fun ac hs => ?_))
            refine lstep (wpO_plain rfl (op_blt hs none (v := .int .i64 ((pw1.length : Nat) : Int)) rfl rfl rfl (blt_len Try.underlying22) rfl fun ac hs => ?_))
            refine lstep (wpO_plain rfl (op_bin hs none (v := .int .i64 ((pw1.length / 256 : Nat) : Int)) rfl rfl rfl rfl (fun _ => rfl) (bin_quoN (x := pw1.length) (y := 256) (z := pw1.length / 256) rfl (by decide) (show pw1.length < 9223372036854775808 by omega)) rfl fun ac hs => ?_))
            refine lstep (wpO_plain rfl (op_convert hs none (v := .int .u8 (((pw1.length / 256) % 256 : Nat) : Int)) rfl rfl rfl (conv_M (z := (pw1.length / 256) % 256) rfl Try.underlying3 Try.underlying5 rfl) rfl fun ac hs => ?_))
            refine lstep (wpO_plain rfl (op_bsO hs none none (qs := [(0, .int .u8 (((pw1.length / 256) % 256 : Nat) : Int))]) (cs := [.int .u8 (((pw1.length / 256) % 256 : Nat) : Int)]) (cs' := bcs [UInt8.ofNat ((pw1.length / 256) % 256)]) rfl rfl rfl rfl Try.underlying22 inf_u8_5 (by decide) (by decide) (fill_one _ _ rfl ) rfl (bcs_cons (show (pw1.length / 256) % 256 < 256 by omega) rfl) rfl rfl fun ad32 ac w hs => ?_))
            refine lstep (wpO_plain rfl (op_appR hs none 2 6 (N' := (bld (ws.take i) ++ [UInt8.ofNat ow1] ++ [UInt8.ofNat (pw1.length % 256)] ++ [UInt8.ofNat ((pw1.length / 256) % 256)]).length) (ys := bcs (bld (ws.take i) ++ [UInt8.ofNat ow1] ++ [UInt8.ofNat (pw1.length % 256)] ++ [UInt8.ofNat ((pw1.length / 256) % 256)])) rfl rfl rfl rfl rfl rfl Try.underlying22 inf_u8_5 rfl (by decide) (bcs_len1 rfl) (bcs_one _) (by decide) (show (bld (ws.take i) ++ [UInt8.ofNat ow1] ++ [UInt8.ofNat (pw1.length % 256)]).length + 1 ≤ 1000000 by (try simp only [List.length_drop, List.length_take, List.length_append, List.length_cons, List.length_nil]); omega) (by simp only [List.length_append, List.length_cons, List.length_nil] <;> omega) (bcs_append _ _) rfl rfl fun ad33 cp34 ac w hs => ?_))
            refine lstep (wpO_plain rfl (op_assign hs none rfl rfl rfl rfl fun ac hs => ?_))
            refine wpList_nil ?_
            refine then_n ?_
            replace hs : St 57 ⟨w0, [], [(true, .cel (.slice ad ws.length c) ws.length (wcl ws vs)), (true, .bys vs (ws.map Prod.snd)), (true, .own (.slice ad33 ((bld (ws.take i) ++ [UInt8.ofNat ow1] ++ [UInt8.ofNat (pw1.length % 256)] ++ [UInt8.ofNat ((pw1.length / 256) % 256)]).length) cp34) 5 1 ((bld (ws.take i) ++ [UInt8.ofNat ow1] ++ [UInt8.ofNat (pw1.length % 256)] ++ [UInt8.ofNat ((pw1.length / 256) % 256)]).length) (bcs (bld (ws.take i) ++ [UInt8.ofNat ow1] ++ [UInt8.ofNat (pw1.length % 256)] ++ [UInt8.ofNat ((pw1.length / 256) % 256)]))), (true, .cel (.slice aw_1 pw1.length cw_1) pw1.length (bcs pw1)), (true, .own (.slice ad7 1 1) 5 1 1 (bcs ([UInt8.ofNat ow1]))), (true, .own (.slice ad27 1 1) 5 1 1 (bcs ([UInt8.ofNat (pw1.length % 256)]))), (true, .own (.slice ad32 1 1) 5 1 1 (bcs ([UInt8.ofNat ((pw1.length / 256) % 256)])))], Z, noX⟩ [(0, true, .slice ad ws.length c), (2, true, .slice none 0 0), (3, true, .int .i64 0), (4, true, .slice ad33 ((bld (ws.take i) ++ [UInt8.ofNat ow1] ++ [UInt8.ofNat (pw1.length % 256)] ++ [UInt8.ofNat ((pw1.length / 256) % 256)]).length) cp34), (5, true, .int .i64 ((i : Nat) : Int)), (6, true, .pointer (some ⟨g4, 0, none⟩))] [(true, g4, 25, [.int .u8 ((ow1 : Nat) : Int), .slice aw_1 pw1.length cw_1])] ac _ := hs.re ⟨rfl, rfl, rfl, rfl, rfl, rfl, trivial⟩
            refine wp_region_lit ?_
            refine lstep (wpO_plain rfl (op_move hs none rfl rfl rfl rfl fun ac hs => ?_))
            refine lstep (wpO_plain rfl (op_fieldA hs none rfl rfl rfl Try.underlying25 rfl Try.sizeOf22 (by decide) rfl fun ac hs => ?_))
            refine lstep (wpO_plain rfl (op_load hs none 0 (v := .slice aw_1 pw1.length cw_1) rfl rfl rfl rfl Try.isAgg22 Try.sizeOf22 rfl rfl fun ac hs => ?_))
            refine lstep (wpO_plain rfl (op_appR hs none 2 3 (N' := (bld (ws.take i) ++ [UInt8.ofNat ow1] ++ [UInt8.ofNat (pw1.length % 256)] ++ [UInt8.ofNat ((pw1.length / 256) % 256)] ++ pw1).length) (ys := bcs (bld (ws.take i) ++ [UInt8.ofNat ow1] ++ [UInt8.ofNat (pw1.length % 256)] ++ [UInt8.ofNat ((pw1.length / 256) % 256)] ++ pw1)) rfl rfl rfl rfl rfl rfl Try.underlying22 inf_u8_5 rfl (by decide) (bcs_len1 rfl) (bcs_one _) (by decide) (show (bld (ws.take i) ++ [UInt8.ofNat ow1] ++ [UInt8.ofNat (pw1.length % 256)] ++ [UInt8.ofNat ((pw1.length / 256) % 256)]).length + pw1.length ≤ 1000000 by (try simp only [List.length_drop, List.length_take, List.length_append, List.length_cons, List.length_nil]); omega) (by simp only [List.length_append, List.length_cons, List.length_nil] <;> omega) (bcs_append _ _) rfl rfl fun ad35 cp36 ac w hs => ?_))
            refine lstep (wpO_plain rfl (op_assign hs none rfl rfl rfl rfl fun ac hs => ?_))
            refine wpList_nil ?_
            refine blk_n ?_
            refine then_n ?_
            refine wp_region_lit ?_
            refine lstep (wpO_plain rfl (op_move hs none rfl rfl rfl rfl fun ac hs => ?_))
            refine lstep (wpO_plain rfl (op_bin hs none (v := .int .i64 ((i + 1 : Nat) : Int)) rfl rfl rfl rfl (fun _ => rfl) (bin_addN (x := i) (y := 1) (z := i + 1) rfl (show i + 1 < 9223372036854775808 by omega)) rfl fun ac hs => ?_))
            refine lstep (wpO_plain rfl (op_assign hs none rfl rfl rfl rfl fun ac hs => ?_))
            refine wpList_nil ?_
            refine then_n ?_
            have hbe : bld (ws.take i) ++ [UInt8.ofNat ow1] ++ [UInt8.ofNat (pw1.length % 256)] ++ [UInt8.ofNat ((pw1.length / 256) % 256)] ++ pw1 = bld (ws.take (i + 1)) := by first | (exfalso; omega) | (rw [(bld_snoc hw1).1, (layB_3 (p := pw1) (by omega)).1]; simp)
            rw [hbe] at hs
            replace hs := (hs.takeb 0).selS [0, 1, 2] rfl (by decide)
            exact ⟨_, ⟨(i + 1), ad35, cp36, rfl, (by omega), (by rw [(bld_snoc hw1).2, hQ, hq5]; simpa using hc_), (hs.re (fs' := [(0, true, .slice ad ws.length c), (2, true, .slice none 0 0), (3, true, .int .i64 0), (4, true, .slice ad35 ((bld (ws.take (i + 1))).length) cp36), (5, true, .int .i64 (((i + 1) : Nat) : Int))]) ⟨rfl, rfl, rfl, rfl, rfl, trivial⟩)⟩, (by omega)⟩
          · skip
            have hp37 := of_decide_eq_false hc
            refine wp_skip ?_
            refine then_n ?_
            refine wp_region_lit ?_
            refine lstep (wpO_plain rfl (op_move hs none rfl rfl rfl rfl fun ac hs => ?_))
            refine lstep (wpO_plain rfl (op_fieldA hs none rfl rfl rfl Try.underlying25 rfl Try.sizeOf22 (by decide) rfl fun ac hs => ?_))
            refine lstep (wpO_plain rfl (op_load hs none 0 (v := .slice aw_1 pw1.length cw_1) rfl rfl rfl rfl Try.isAgg22 Try.sizeOf22 rfl rfl fun ac hs => ?_))
            refine lstep (wpO_plain rfl (op_appR hs none 2 3 (N' := (bld (ws.take i) ++ [UInt8.ofNat ow1] ++ [UInt8.ofNat (pw1.length % 256)] ++ pw1).length) (ys := bcs (bld (ws.take i) ++ [UInt8.ofNat ow1] ++ [UInt8.ofNat (pw1.length % 256)] ++ pw1)) rfl rfl rfl rfl rfl rfl Try.underlying22 inf_u8_5 rfl (by decide) (bcs_len1 rfl) (bcs_one _) (by decide) (show (bld (ws.take i) ++ [UInt8.ofNat ow1] ++ [UInt8.ofNat (pw1.length % 256)]).length + pw1.length ≤ 1000000 by (try simp only [List.length_drop, List.length_take, List.length_append, List.length_cons, List.length_nil]); omega) (by simp only [List.length_append, List.length_cons, List.length_nil] <;> omega) (bcs_append _ _) rfl rfl fun ad38 cp39 ac w hs => ?_))
            refine lstep (wpO_plain rfl (op_assign hs none rfl rfl rfl rfl fun ac hs => ?_))
            refine wpList_nil ?_
            refine blk_n ?_
            refine then_n ?_
            replace hs : St 57 ⟨w0, [], [(true, .cel (.slice ad ws.length c) ws.length (wcl ws vs)), (true, .bys vs (ws.map Prod.snd)), (true, .own (.slice ad38 ((bld (ws.take i) ++ [UInt8.ofNat ow1] ++ [UInt8.ofNat (pw1.length % 256)] ++ pw1).length) cp39) 5 1 ((bld (ws.take i) ++ [UInt8.ofNat ow1] ++ [UInt8.ofNat (pw1.length % 256)] ++ pw1).length) (bcs (bld (ws.take i) ++ [UInt8.ofNat ow1] ++ [UInt8.ofNat (pw1.length % 256)] ++ pw1))), (true, .cel (.slice aw_1 pw1.length cw_1) pw1.length (bcs pw1)), (true, .own (.slice ad7 1 1) 5 1 1 (bcs ([UInt8.ofNat ow1]))), (true, .own (.slice ad27 1 1) 5 1 1 (bcs ([UInt8.ofNat (pw1.length % 256)])))], Z, noX⟩ [(0, true, .slice ad ws.length c), (2, true, .slice none 0 0), (3, true, .int .i64 0), (4, true, .slice ad38 ((bld (ws.take i) ++ [UInt8.ofNat ow1] ++ [UInt8.ofNat (pw1.length % 256)] ++ pw1).length) cp39), (5, true, .int .i64 ((i : Nat) : Int))] [(true, g4, 25, [.int .u8 ((ow1 : Nat) : Int), .slice aw_1 pw1.length cw_1])] ac _ := hs.re ⟨rfl, rfl, rfl, rfl, rfl, trivial⟩
            refine wp_region_lit ?_
            refine lstep (wpO_plain rfl (op_move hs none rfl rfl rfl rfl fun ac hs => ?_))
            refine lstep (wpO_plain rfl (op_bin hs none (v := .int .i64 ((i + 1 : Nat) : Int)) rfl rfl rfl rfl (fun _ => rfl) (bin_addN (x := i) (y := 1) (z := i + 1) rfl (show i + 1 < 9223372036854775808 by omega)) rfl fun ac hs => ?_))
            refine lstep (wpO_plain rfl (op_assign hs none rfl rfl rfl rfl fun ac hs => ?_))
            refine wpList_nil ?_
            refine then_n ?_
            have hbe : bld (ws.take i) ++ [UInt8.ofNat ow1] ++ [UInt8.ofNat (pw1.length % 256)] ++ pw1 = bld (ws.take (i + 1)) := by first | (exfalso; omega) | (rw [(bld_snoc hw1).1, (layB_2 (p := pw1) (by omega)).1]; simp)
            rw [hbe] at hs
            replace hs := (hs.takeb 0).selS [0, 1, 2] rfl (by decide)
            exact ⟨_, ⟨(i + 1), ad38, cp39, rfl, (by omega), (by rw [(bld_snoc hw1).2, hQ, hq5]; simpa using hc_), (hs.re (fs' := [(0, true, .slice ad ws.length c), (2, true, .slice none 0 0), (3, true, .int .i64 0), (4, true, .slice ad38 ((bld (ws.take (i + 1))).length) cp39), (5, true, .int .i64 (((i + 1) : Nat) : Int))]) ⟨rfl, rfl, rfl, rfl, rfl, trivial⟩)⟩, (by omega)⟩
        · skip
          have hp40 := of_decide_eq_false hc
          refine wp_skip ?_
          refine then_n ?_
          refine wp_seq ?_
          refine wp_seq ?_
          replace hs : St 57 ⟨w0, [], [(true, .cel (.slice ad ws.length c) ws.length (wcl ws vs)), (true, .bys vs (ws.map Prod.snd)), (true, .own (.slice ad8 ((bld (ws.take i) ++ [UInt8.ofNat ow1]).length) cp9) 5 1 ((bld (ws.take i) ++ [UInt8.ofNat ow1]).length) (bcs (bld (ws.take i) ++ [UInt8.ofNat ow1]))), (true, .cel (.slice aw_1 pw1.length cw_1) pw1.length (bcs pw1)), (true, .own (.slice ad7 1 1) 5 1 1 (bcs ([UInt8.ofNat ow1])))], Z, noX⟩ [(0, true, .slice ad ws.length c), (2, true, .slice none 0 0), (3, true, .int .i64 0), (4, true, .slice ad8 ((bld (ws.take i) ++ [UInt8.ofNat ow1]).length) cp9), (5, true, .int .i64 ((i : Nat) : Int)), (6, true, .pointer (some ⟨g4, 0, none⟩))] [(true, g4, 25, [.int .u8 ((ow1 : Nat) : Int), .slice aw_1 pw1.length cw_1])] ac _ := hs.re ⟨rfl, rfl, rfl, rfl, rfl, rfl, trivial⟩
          refine wp_region_lit ?_
          refine lstep (wpO_plain rfl (op_fieldA hs none rfl rfl rfl Try.underlying25 rfl Try.sizeOf5 (by decide) rfl fun ac hs => ?_))
          refine lstep (wpO_plain rfl (op_load hs none 0 (v := .int .u8 ((ow1 : Nat) : Int)) rfl rfl rfl rfl Try.isAgg5 Try.sizeOf5 rfl rfl fun ac hs => ?_))
          refine lstep (wpO_plain rfl (op_bin hs none (v := .bool (decide (ow1 = 77))) rfl rfl rfl rfl (fun _ => rfl) (bin_eqlN (x := ow1) (y := 77)) rfl fun ac hs => ?_))
          refine wpList_nil ?_
          refine then_n ?_
          refine wp_cond_split (hs.ev rfl) (fun hc => ?_) (fun hc => ?_)
          · skip
            have hp41 := of_decide_eq_true hc
            refine wp_region_lit ?_
            refine lstep (wpO_plain rfl (op_move hs none rfl rfl rfl rfl fun ac hs => ?_))
            refine lstep (wpO_plain rfl (op_fieldA hs none rfl rfl rfl Try.underlying25 rfl Try.sizeOf22 (by decide) rfl fun ac hs => ?_))
            refine lstep (wpO_plain rfl (op_load hs none 0 (v := .slice aw_1 pw1.length cw_1) rfl rfl rfl rfl Try.isAgg22 Try.sizeOf22 rfl rfl fun ac hs => ?_))
            refine lstep (wpO_plain rfl (op_blt hs none (v := .int .i64 ((pw1.length : Nat) : Int)) rfl rfl rfl (blt_len Try.underlying22) rfl fun ac hs => ?_))
            refine lstep (wpO_plain rfl (op_bin hs none (v := .int .i64 ((pw1.length / 256 : Nat) : Int)) rfl rfl rfl rfl (fun _ => rfl) (bin_quoN (x := pw1.length) (y := 256) (z := pw1.length / 256) rfl (by decide) (show pw1.length < 9223372036854775808 by omega)) rfl fun ac hs => ?_))
            refine lstep (wpO_plain rfl (op_convert hs none (v := .int .u8 (((pw1.length / 256) % 256 : Nat) : Int)) rfl rfl rfl (conv_M (z := (pw1.length / 256) % 256) rfl Try.underlying3 Try.underlying5 rfl) rfl fun ac hs => ?_))
            refine lstep (wpO_plain rfl (op_bsO hs none none (qs := [(0, .int .u8 (((pw1.length / 256) % 256 : Nat) : Int))]) (cs := [.int .u8 (((pw1.length / 256) % 256 : Nat) : Int)]) (cs' := bcs [UInt8.ofNat ((pw1.length / 256) % 256)]) rfl rfl rfl rfl Try.underlying22 inf_u8_5 (by decide) (by decide) (fill_one _ _ rfl ) rfl (bcs_cons (show (pw1.length / 256) % 256 < 256 by omega) rfl) rfl rfl fun ad43 ac w hs => ?_))
            refine lstep (wpO_plain rfl (op_appR hs none 2 5 (N' := (bld (ws.take i) ++ [UInt8.ofNat ow1] ++ [UInt8.ofNat ((pw1.length / 256) % 256)]).length) (ys := bcs (bld (ws.take i) ++ [UInt8.ofNat ow1] ++ [UInt8.ofNat ((pw1.length / 256) % 256)])) rfl rfl rfl rfl rfl rfl Try.underlying22 inf_u8_5 rfl (by decide) (bcs_len1 rfl) (bcs_one _) (by decide) (show (bld (ws.take i) ++ [UInt8.ofNat ow1]).length + 1 ≤ 1000000 by (try simp only [List.length_drop, List.length_take, List.length_append, List.length_cons, List.length_nil]); omega) (by simp only [List.length_append, List.length_cons, List.length_nil] <;> omega) (bcs_append _ _) rfl rfl fun ad44 cp45 ac w hs => ?_))
            refine lstep (wpO_plain rfl (op_assign hs none rfl rfl rfl rfl fun ac hs => ?_))
            refine wpList_nil ?_
            refine then_n ?_
            replace hs : St 57 ⟨w0, [], [(true, .cel (.slice ad ws.length c) ws.length (wcl ws vs)), (true, .bys vs (ws.map Prod.snd)), (true, .own (.slice ad44 ((bld (ws.take i) ++ [UInt8.ofNat ow1] ++ [UInt8.ofNat ((pw1.length / 256) % 256)]).length) cp45) 5 1 ((bld (ws.take i) ++ [UInt8.ofNat ow1] ++ [UInt8.ofNat ((pw1.length / 256) % 256)]).length) (bcs (bld (ws.take i) ++ [UInt8.ofNat ow1] ++ [UInt8.ofNat ((pw1.length / 256) % 256)]))), (true, .cel (.slice aw_1 pw1.length cw_1) pw1.length (bcs pw1)), (true, .own (.slice ad7 1 1) 5 1 1 (bcs ([UInt8.ofNat ow1]))), (true, .own (.slice ad43 1 1) 5 1 1 (bcs ([UInt8.ofNat ((pw1.length / 256) % 256)])))], Z, noX⟩ [(0, true, .slice ad ws.length c), (2, true, .slice none 0 0), (3, true, .int .i64 0), (4, true, .slice ad44 ((bld (ws.take i) ++ [UInt8.ofNat ow1] ++ [UInt8.ofNat ((pw1.length / 256) % 256)]).length) cp45), (5, true, .int .i64 ((i : Nat) : Int)), (6, true, .pointer (some ⟨g4, 0, none⟩))] [(true, g4, 25, [.int .u8 ((ow1 : Nat) : Int), .slice aw_1 pw1.length cw_1])] ac _ := hs.re ⟨rfl, rfl, rfl, rfl, rfl, rfl, trivial⟩
            refine wp_region_lit ?_
            refine lstep (wpO_plain rfl (op_move hs none rfl rfl rfl rfl fun ac hs => ?_))
            refine lstep (wpO_plain rfl (op_fieldA hs none rfl rfl rfl Try.underlying25 rfl Try.sizeOf22 (by decide) rfl fun ac hs => ?_))
            refine lstep (wpO_plain rfl (op_load hs none 0 (v := .slice aw_1 pw1.length cw_1) rfl rfl rfl rfl Try.isAgg22 Try.sizeOf22 rfl rfl fun ac hs => ?_))
            refine lstep (wpO_plain rfl (op_appR hs none 2 3 (N' := (bld (ws.take i) ++ [UInt8.ofNat ow1] ++ [UInt8.ofNat ((pw1.length / 256) % 256)] ++ pw1).length) (ys := bcs (bld (ws.take i) ++ [UInt8.ofNat ow1] ++ [UInt8.ofNat ((pw1.length / 256) % 256)] ++ pw1)) rfl rfl rfl rfl rfl rfl Try.underlying22 inf_u8_5 rfl (by decide) (bcs_len1 rfl) (bcs_one _) (by decide) (show (bld (ws.take i) ++ [UInt8.ofNat ow1] ++ [UInt8.ofNat ((pw1.length / 256) % 256)]).length + pw1.length ≤ 1000000 by (try simp only [List.length_drop, List.length_take, List.length_append, List.length_cons, List.length_nil]); omega) (by simp only [List.length_append, List.length_cons, List.length_nil] <;> omega) (bcs_append _ _) rfl rfl fun ad46 cp47 ac w hs => ?_))
            refine lstep (wpO_plain rfl (op_assign hs none rfl rfl rfl rfl fun ac hs => ?_))
            refine wpList_nil ?_
            refine blk_n ?_
            refine then_n ?_
            refine wp_region_lit ?_
            refine lstep (wpO_plain rfl (op_move hs none rfl rfl rfl rfl fun ac hs => ?_))
            refine lstep (wpO_plain rfl (op_bin hs none (v := .int .i64 ((i + 1 : Nat) : Int)) rfl rfl rfl rfl (fun _ => rfl) (bin_addN (x := i) (y := 1) (z := i + 1) rfl (show i + 1 < 9223372036854775808 by omega)) rfl fun ac hs => ?_))
            refine lstep (wpO_plain rfl (op_assign hs none rfl rfl rfl rfl fun ac hs => ?_))
            refine wpList_nil ?_
            refine then_n ?_
            have hbe : bld (ws.take i) ++ [UInt8.ofNat ow1] ++ [UInt8.ofNat ((pw1.length / 256) % 256)] ++ pw1 = bld (ws.take (i + 1)) := by first | (exfalso; omega) | (rw [(bld_snoc hw1).1, (layB_2 (p := pw1) (by omega)).1]; simp)
            rw [hbe] at hs
            replace hs := (hs.takeb 0).selS [0, 1, 2] rfl (by decide)
            exact ⟨_, ⟨(i + 1), ad46, cp47, rfl, (by omega), (by rw [(bld_snoc hw1).2, hQ, hq5]; simpa using hc_), (hs.re (fs' := [(0, true, .slice ad ws.length c), (2, true, .slice none 0 0), (3, true, .int .i64 0), (4, true, .slice ad46 ((bld (ws.take (i + 1))).length) cp47), (5, true, .int .i64 (((i + 1) : Nat) : Int))]) ⟨rfl, rfl, rfl, rfl, rfl, trivial⟩)⟩, (by omega)⟩
          · skip
            have hp48 := of_decide_eq_false hc
            refine wp_skip ?_
            refine then_n ?_
            refine wp_region_lit ?_
            refine lstep (wpO_plain rfl (op_move hs none rfl rfl rfl rfl fun ac hs => ?_))
            refine lstep (wpO_plain rfl (op_fieldA hs none rfl rfl rfl Try.underlying25 rfl Try.sizeOf22 (by decide) rfl fun ac hs => ?_))
            refine lstep (wpO_plain rfl (op_load hs none 0 (v := .slice aw_1 pw1.length cw_1) rfl rfl rfl rfl Try.isAgg22 Try.sizeOf22 rfl rfl fun ac hs => ?_))
            refine lstep (wpO_plain rfl (op_appR hs none 2 3 (N' := (bld (ws.take i) ++ [UInt8.ofNat ow1] ++ pw1).length) (ys := bcs (bld (ws.take i) ++ [UInt8.ofNat ow1] ++ pw1)) rfl rfl rfl rfl rfl rfl Try.underlying22 inf_u8_5 rfl (by decide) (bcs_len1 rfl) (bcs_one _) (by decide) (show (bld (ws.take i) ++ [UInt8.ofNat ow1]).length + pw1.length ≤ 1000000 by (try simp only [List.length_drop, List.length_take, List.length_append, List.length_cons, List.length_nil]); omega) (by simp only [List.length_append, List.length_cons, List.length_nil] <;> omega) (bcs_append _ _) rfl rfl fun ad49 cp50 ac w hs => ?_))
            refine lstep (wpO_plain rfl (op_assign hs none rfl rfl rfl rfl fun ac hs => ?_))
            refine wpList_nil ?_
            refine blk_n ?_
            refine then_n ?_
            replace hs : St 57 ⟨w0, [], [(true, .cel (.slice ad ws.length c) ws.length (wcl ws vs)), (true, .bys vs (ws.map Prod.snd)), (true, .own (.slice ad49 ((bld (ws.take i) ++ [UInt8.ofNat ow1] ++ pw1).length) cp50) 5 1 ((bld (ws.take i) ++ [UInt8.ofNat ow1] ++ pw1).length) (bcs (bld (ws.take i) ++ [UInt8.ofNat ow1] ++ pw1))), (true, .cel (.slice aw_1 pw1.length cw_1) pw1.length (bcs pw1)), (true, .own (.slice ad7 1 1) 5 1 1 (bcs ([UInt8.ofNat ow1])))], Z, noX⟩ [(0, true, .slice ad ws.length c), (2, true, .slice none 0 0), (3, true, .int .i64 0), (4, true, .slice ad49 ((bld (ws.take i) ++ [UInt8.ofNat ow1] ++ pw1).length) cp50), (5, true, .int .i64 ((i : Nat) : Int))] [(true, g4, 25, [.int .u8 ((ow1 : Nat) : Int), .slice aw_1 pw1.length cw_1])] ac _ := hs.re ⟨rfl, rfl, rfl, rfl, rfl, trivial⟩
            refine wp_region_lit ?_
            refine lstep (wpO_plain rfl (op_move hs none rfl rfl rfl rfl fun ac hs => ?_))
            refine lstep (wpO_plain rfl (op_bin hs none (v := .int .i64 ((i + 1 : Nat) : Int)) rfl rfl rfl rfl (fun _ => rfl) (bin_addN (x := i) (y := 1) (z := i + 1) rfl (show i + 1 < 9223372036854775808 by omega)) rfl fun ac hs => ?_))
            refine lstep (wpO_plain rfl (op_assign hs none rfl rfl rfl rfl fun ac hs => ?_))
            refine wpList_nil ?_
            refine then_n ?_
            have hbe : bld (ws.take i) ++ [UInt8.ofNat ow1] ++ pw1 = bld (ws.take (i + 1)) := by rw [(bld_snoc hw1).1, layB_plain pw1 (by omega) (by omega) (by rw [hq5]; simpa using hc_)]; simp
            rw [hbe] at hs
            replace hs := (hs.takeb 0).selS [0, 1, 2] rfl (by decide)
            exact ⟨_, ⟨(i + 1), ad49, cp50, rfl, (by omega), (by rw [(bld_snoc hw1).2, hQ, hq5]; simpa using hc_), (hs.re (fs' := [(0, true, .slice ad ws.length c), (2, true, .slice none 0 0), (3, true, .int .i64 0), (4, true, .slice ad49 ((bld (ws.take (i + 1))).length) cp50), (5, true, .int .i64 (((i + 1) : Nat) : Int))]) ⟨rfl, rfl, rfl, rfl, rfl, trivial⟩)⟩, (by omega)⟩
  · skip
    have hp51 := of_decide_eq_false hc
    refine wp_exit ?_
    refine then_e ?_
    refine then_e ?_
    refine blk_e ?_
    refine then_n ?_
    refine wp_seq ?_
    refine wp_region_lit ?_
    refine lstep (wpO_plain rfl (op_move hs none rfl rfl rfl rfl fun ac hs => ?_))
    refine lstep (wpO_plain rfl (op_assign hs none rfl rfl rfl rfl fun ac hs => ?_))
    refine lstep (wpO_plain rfl (op_assign hs none rfl rfl rfl rfl fun ac hs => ?_))
    refine wpList_nil ?_
    refine then_n ?_
    refine wp_ret ?_
    replace hs := hs.freeze 2 rfl
    exact bodyPost_ret (res2 rfl (rv_t hs rfl) (rv_t hs rfl)) hs.defers ⟨⟨ao, co⟩, by obtain ⟨rfl, rfl⟩ := Prod.mk.inj ((BW_end hp51 hQ).symm.trans hB); rfl, hs.bel rfl, by obtain ⟨rfl, rfl⟩ := Prod.mk.inj ((BW_end hp51 hQ).symm.trans hB); exact hs.ret1 2 rfl⟩
theorem short_c (o : Nat) (ad : Option Addr) (nl c : Nat) (l : List UInt8) (q : Bool) (ho : o < 256) (hlen : l.length ≤ 50000) (hS : shortB o l = q) (w0 : World) (Z : Nat → Prop) (hl : ByV w0 Z (.slice ad nl c) l): Calls Try.prog 20 #[.agg #[.int .u8 ((o : Nat) : Int), .slice ad nl c]] w0 fun e w' => Ret w0 Z (ρ := Unit) (fun r => .bool q) (fun r => []) e w' := by
  obtain rfl := byv_len hl
  refine enterS (n := 27) (args := [.agg #[.int .u8 ((o : Nat) : Int), .slice ad l.length c]]) (S := [(true, .cel (.slice ad l.length c) l.length (bcs l))]) (Z := Z) Try.func20 rfl rfl (Nat.le_of_ble_eq_true rfl) (sokC hl sok0) rfl fun ac hs => ?_
  refine wp_seq ?_
  refine wp_region_lit ?_
  refine lstep (wpO_plain rfl (op_box hs none none (cs := [.int .u8 ((o : Nat) : Int), .slice ad l.length c]) rfl rfl rfl rfl rfl rfl fun g1 ac w hs => ?_))
  refine lstep (wpO_plain rfl (op_assign hs none rfl rfl rfl rfl fun ac hs => ?_))
  refine wpList_nil ?_
  refine then_n ?_
  refine wp_seq ?_
  refine wp_region_lit ?_
  refine lstep (wpO_plain rfl (op_load hs none 0 (v := .agg #[.int .u8 ((o : Nat) : Int), .slice ad l.length c]) rfl rfl rfl rfl Try.isAgg25 Try.sizeOf25 rfl rfl fun ac hs => ?_))
  obtain ⟨b2, hb2⟩ : ∃ z0, pshB o l = z0 := ⟨_, rfl⟩
  obtain ⟨q3, hq3⟩ : ∃ z0, pshQ o = z0 := ⟨_, rfl⟩
  have lb2 : b2.length ≤ l.length + 1 := hb2 ▸ pshB_len
  refine lstep (wpO_plain rfl (op_callS (F := 16) (ρ := Option Addr × Nat) hs none none (v := fun r => .tuple #[.slice r.1 b2.length r.2, .bool q3]) (E := fun r => [.cel (.slice r.1 b2.length r.2) b2.length (bcs b2)]) (j := 1) rfl rfl rfl rfl (Try.call16 _) (fun hs => pushes_c o ad l.length c l b2 q3 (show o < 256 by omega) (show l.length ≤ 100000 by omega) hb2 hq3 _ _ (hs.all (k := 0) rfl rfl)) (fun _ => rfl) rfl rfl fun ⟨ad4, cp5⟩ ac w hs => ?_))
  refine lstep (wpO_plain rfl (op_move hs none rfl rfl rfl rfl fun ac hs => ?_))
  refine lstep (wpO_plain rfl (op_extract hs none rfl rfl rfl rfl rfl fun ac hs => ?_))
  refine lstep (wpO_plain rfl (op_extract hs none rfl rfl rfl rfl rfl fun ac hs => ?_))
  refine lstep (wpO_plain rfl (op_assign hs none rfl rfl rfl rfl fun ac hs => ?_))
  refine lstep (wpO_plain rfl (op_assign hs none rfl rfl rfl rfl fun ac hs => ?_))
  refine wpList_nil ?_
  refine then_n ?_
  refine wp_seq ?_
  refine wp_seq ?_
  replace hs : St 27 ⟨w0, [], [(true, .cel (.slice ad l.length c) l.length (bcs l)), (true, .cel (.slice ad4 b2.length cp5) b2.length (bcs b2))], Z, noX⟩ [(1, true, .pointer (some ⟨g1, 0, none⟩)), (2, true, .bool false), (3, true, .slice ad4 b2.length cp5), (4, true, .bool q3)] [(true, g1, 25, [.int .u8 ((o : Nat) : Int), .slice ad l.length c])] ac _ := hs.re ⟨rfl, rfl, rfl, rfl, trivial⟩
  refine wp_region_lit ?_
  refine lstep (wpO_plain rfl (op_move hs none rfl rfl rfl rfl fun ac hs => ?_))
  refine lstep (wpO_plain rfl (op_un hs none (v := .bool (!q3)) rfl rfl rfl (fun _ => rfl) rfl fun ac hs => ?_))
  refine wpList_nil ?_
  refine then_n ?_
  refine wp_cond_split (hs.ev rfl) (fun hc => ?_) (fun hc => ?_)
  · skip
    refine wp_seq ?_
    refine wp_region_lit ?_
    refine lstep (wpO_plain rfl (op_assign hs none rfl rfl rfl rfl fun ac hs => ?_))
    refine wpList_nil ?_
    refine then_n ?_
    refine wp_ret ?_
    refine then_r ?_
    exact bodyPost_ret (res1 rfl (rv_t hs rfl)) hs.defers ⟨(), by rw [← hS, shortB, hq3, hc]; rfl, hs.bel rfl, okl0⟩
  · skip
    refine wp_skip ?_
    refine then_n ?_
    refine wp_seq ?_
    refine wp_region_lit ?_
    refine lstep (wpO_plain rfl (op_move hs none rfl rfl rfl rfl fun ac hs => ?_))
    obtain ⟨⟨o6, p7⟩, ho6⟩ : ∃ z0, pushW b2 = z0 := ⟨_, rfl⟩
    have lo6 := pushW_lt b2
    rw [ho6] at lo6
    obtain ⟨lo6, lp7⟩ := lo6
    replace lo6 : o6 < 256 := lo6
    replace lp7 : p7.length ≤ b2.length := lp7
    refine lstep (wpO_plain rfl (op_callS (F := 18) (ρ := Option Addr × Nat) hs none none (v := fun r => .agg #[.int .u8 ((o6 : Nat) : Int), .slice r.1 p7.length r.2]) (E := fun r => [.cel (.slice r.1 p7.length r.2) p7.length (bcs p7)]) (j := 1) rfl rfl rfl rfl (Try.call18 _) (fun hs => push_c ad4 b2.length cp5 b2 o6 p7 (show b2.length ≤ 100000 by omega) ho6 _ _ (hs.all (k := 1) rfl rfl)) (fun _ => rfl) rfl rfl fun ⟨ad8, cp9⟩ ac w hs => ?_))
    refine lstep (wpO_plain rfl (op_alloc hs none none (cs := [.int .u8 0, .slice none 0 0]) rfl rfl Try.zeroValue25 (by kernel_rfl) rfl rfl fun g10 ac w hs => ?_))
    refine lstep (wpO_plain rfl (op_store hs 1 (vs := [.int .u8 ((o6 : Nat) : Int), .slice ad8 p7.length cp9]) rfl rfl rfl rfl rfl Try.sizeOf25 rfl rfl rfl rfl rfl fun w hs => ?_))
    refine wpList_nil ?_
    refine then_n ?_
    refine wp_seq ?_
    by_cases hq11 : o6 = o
    · skip
      replace hs : St 27 ⟨w0, [], [(true, .cel (.slice ad l.length c) l.length (bcs l)), (true, .cel (.slice ad4 b2.length cp5) b2.length (bcs b2)), (true, .cel (.slice ad8 p7.length cp9) p7.length (bcs p7))], Z, noX⟩ [(1, true, .pointer (some ⟨g1, 0, none⟩)), (2, true, .bool false), (5, true, .pointer (some ⟨g10, 0, none⟩))] [(true, g1, 25, [.int .u8 ((o : Nat) : Int), .slice ad l.length c]), (true, g10, 25, [.int .u8 ((o6 : Nat) : Int), .slice ad8 p7.length cp9])] ac _ := hs.re ⟨rfl, rfl, rfl, trivial⟩
      refine wp_region_lit ?_
      refine lstep (wpO_plain rfl (op_fieldA hs none rfl rfl rfl Try.underlying25 rfl Try.sizeOf5 (by decide) rfl fun ac hs => ?_))
      refine lstep (wpO_plain rfl (op_load hs none 1 (v := .int .u8 ((o6 : Nat) : Int)) rfl rfl rfl rfl Try.isAgg5 Try.sizeOf5 rfl rfl fun ac hs => ?_))
      refine lstep (wpO_plain rfl (op_fieldA hs none rfl rfl rfl Try.underlying25 rfl Try.sizeOf5 (by decide) rfl fun ac hs => ?_))
      refine lstep (wpO_plain rfl (op_load hs none 0 (v := .int .u8 ((o : Nat) : Int)) rfl rfl rfl rfl Try.isAgg5 Try.sizeOf5 rfl rfl fun ac hs => ?_))
      refine lstep (wpO_plain rfl (op_bin hs none (v := .bool true) rfl rfl rfl rfl (fun _ => rfl) (fun w => dT hq11 (bin_eqlN (x := o6) (y := o) w)) rfl fun ac hs => ?_))
      refine lstep (wpO_plain rfl (op_move hs none rfl rfl rfl rfl fun ac hs => ?_))
      refine lstep (wpO_in hs rfl rfl rfl (op_fieldA hs none rfl rfl rfl Try.underlying25 rfl Try.sizeOf22 (by decide) rfl fun ac hs => ?_))
      refine lstep (wpO_in hs rfl rfl rfl (op_load hs none 1 (v := .slice ad8 p7.length cp9) rfl rfl rfl rfl Try.isAgg22 Try.sizeOf22 rfl rfl fun ac hs => ?_))
      refine lstep (wpO_in hs rfl rfl rfl (op_fieldA hs none rfl rfl rfl Try.underlying25 rfl Try.sizeOf22 (by decide) rfl fun ac hs => ?_))
      refine lstep (wpO_in hs rfl rfl rfl (op_load hs none 0 (v := .slice ad l.length c) rfl rfl rfl rfl Try.isAgg22 Try.sizeOf22 rfl rfl fun ac hs => ?_))
      refine lstep (wpO_in hs rfl rfl rfl (op_callS (F := 30) (ρ := Unit) hs none none (v := fun r => .bool (decide (p7 = l))) (E := fun r => []) (j := 0) rfl rfl rfl rfl (Try.call30 _) (fun hs => bequal_c ad8 p7.length cp9 p7 ad l.length c l (decide (p7 = l)) rfl _ _ (hs.all (k := 2) rfl rfl) (hs.all (k := 0) rfl rfl)) (fun _ => rfl) rfl rfl fun _ ac w hs => ?_))
      refine lstep (wpO_plain rfl (op_pickT hs none rfl rfl rfl rfl rfl fun ac hs => ?_))
      refine lstep (wpO_plain rfl (op_assign hs none rfl rfl rfl rfl fun ac hs => ?_))
      refine wpList_nil ?_
      refine then_n ?_
      refine wp_ret ?_
      exact bodyPost_ret (res1 rfl (rv_t hs rfl)) hs.defers ⟨(), by rw [← hS, shortB, show pshQ o = true from hq3.trans (by simpa using hc), hb2, ho6]; exact congrArg (fun b => Ending.returned (.bool b)) (by simp [hq11]), hs.bel rfl, okl0⟩
    · skip
      replace hs : St 27 ⟨w0, [], [(true, .cel (.slice ad l.length c) l.length (bcs l)), (true, .cel (.slice ad4 b2.length cp5) b2.length (bcs b2)), (true, .cel (.slice ad8 p7.length cp9) p7.length (bcs p7))], Z, noX⟩ [(1, true, .pointer (some ⟨g1, 0, none⟩)), (2, true, .bool false), (5, true, .pointer (some ⟨g10, 0, none⟩))] [(true, g1, 25, [.int .u8 ((o : Nat) : Int), .slice ad l.length c]), (true, g10, 25, [.int .u8 ((o6 : Nat) : Int), .slice ad8 p7.length cp9])] ac _ := hs.re ⟨rfl, rfl, rfl, trivial⟩
      refine wp_region_lit ?_
      refine lstep (wpO_plain rfl (op_fieldA hs none rfl rfl rfl Try.underlying25 rfl Try.sizeOf5 (by decide) rfl fun ac hs => ?_))
      refine lstep (wpO_plain rfl (op_load hs none 1 (v := .int .u8 ((o6 : Nat) : Int)) rfl rfl rfl rfl Try.isAgg5 Try.sizeOf5 rfl rfl fun ac hs => ?_))
      refine lstep (wpO_plain rfl (op_fieldA hs none rfl rfl rfl Try.underlying25 rfl Try.sizeOf5 (by decide) rfl fun ac hs => ?_))
      refine lstep (wpO_plain rfl (op_load hs none 0 (v := .int .u8 ((o : Nat) : Int)) rfl rfl rfl rfl Try.isAgg5 Try.sizeOf5 rfl rfl fun ac hs => ?_))
      refine lstep (wpO_plain rfl (op_bin hs none (v := .bool false) rfl rfl rfl rfl (fun _ => rfl) (fun w => dF hq11 (bin_eqlN (x := o6) (y := o) w)) rfl fun ac hs => ?_))
      refine lstep (wpO_plain rfl (op_move hs none rfl rfl rfl rfl fun ac hs => ?_))
      refine lstep (wpO_out hs none rfl rfl (.inl rfl) rfl rfl fun ac hs => ?_)
      refine lstep (wpO_out hs none rfl rfl (.inl rfl) rfl rfl fun ac hs => ?_)
      refine lstep (wpO_out hs none rfl rfl (.inl rfl) rfl rfl fun ac hs => ?_)
      refine lstep (wpO_out hs none rfl rfl (.inl rfl) rfl rfl fun ac hs => ?_)
      refine lstep (wpO_out hs none rfl rfl (.inl rfl) rfl rfl fun ac hs => ?_)
      refine lstep (wpO_plain rfl (op_pickF hs none rfl rfl rfl rfl rfl fun ac hs => ?_))
      refine lstep (wpO_plain rfl (op_assign hs none rfl rfl rfl rfl fun ac hs => ?_))
      refine wpList_nil ?_
      refine then_n ?_
      refine wp_ret ?_
      exact bodyPost_ret (res1 rfl (rv_t hs rfl)) hs.defers ⟨(), by rw [← hS, shortB, show pshQ o = true from hq3.trans (by simpa using hc), hb2, ho6]; exact congrArg (fun b => Ending.returned (.bool b)) (by simp [hq11]), hs.bel rfl, okl0⟩
theorem rshort_c (o : Nat) (ad : Option Addr) (nl c : Nat) (l : List UInt8) (q : Bool) (ho : o < 256) (hlen : l.length ≤ 50000) (hS : shortB o l = q) (w0 : World) (Z : Nat → Prop) (hl : ByV w0 Z (.slice ad nl c) l): Calls Try.prog 21 #[.agg #[.int .u8 ((o : Nat) : Int), .slice ad nl c]] w0 fun e w' => Ret w0 Z (ρ := Unit) (fun r => .bool q) (fun r => []) e w' := by
  obtain rfl := byv_len hl
  refine enterS (n := 18) (args := [.agg #[.int .u8 ((o : Nat) : Int), .slice ad l.length c]]) (S := [(true, .cel (.slice ad l.length c) l.length (bcs l))]) (Z := Z) Try.func21 rfl rfl (Nat.le_of_ble_eq_true rfl) (sokC hl sok0) rfl fun ac hs => ?_
  refine wp_seq ?_
  refine wp_region_lit ?_
  refine lstep (wpO_plain rfl (op_box hs none none (cs := [.int .u8 ((o : Nat) : Int), .slice ad l.length c]) rfl rfl rfl rfl rfl rfl fun g1 ac w hs => ?_))
  refine lstep (wpO_plain rfl (op_assign hs none rfl rfl rfl rfl fun ac hs => ?_))
  refine wpList_nil ?_
  refine then_n ?_
  refine wp_seq ?_
  refine wp_region_lit ?_
  refine lstep (wpO_plain rfl (op_load hs none 0 (v := .agg #[.int .u8 ((o : Nat) : Int), .slice ad l.length c]) rfl rfl rfl rfl Try.isAgg25 Try.sizeOf25 rfl rfl fun ac hs => ?_))
  obtain ⟨b2, hb2⟩ : ∃ z0, pshB o l = z0 := ⟨_, rfl⟩
  obtain ⟨q3, hq3⟩ : ∃ z0, pshQ o = z0 := ⟨_, rfl⟩
  have lb2 : b2.length ≤ l.length + 1 := hb2 ▸ pshB_len
  refine lstep (wpO_plain rfl (op_callS (F := 17) (ρ := Option Addr × Nat) hs none none (v := fun r => .tuple #[.slice r.1 b2.length r.2, .bool q3]) (E := fun r => [.cel (.slice r.1 b2.length r.2) b2.length (bcs b2)]) (j := 1) rfl rfl rfl rfl (Try.call17 _) (fun hs => rpushes_c o ad l.length c l b2 q3 (show o < 256 by omega) (show l.length ≤ 100000 by omega) hb2 hq3 _ _ (hs.all (k := 0) rfl rfl)) (fun _ => rfl) rfl rfl fun ⟨ad4, cp5⟩ ac w hs => ?_))
  refine lstep (wpO_plain rfl (op_move hs none rfl rfl rfl rfl fun ac hs => ?_))
  refine lstep (wpO_plain rfl (op_extract hs none rfl rfl rfl rfl rfl fun ac hs => ?_))
  refine lstep (wpO_plain rfl (op_extract hs none rfl rfl rfl rfl rfl fun ac hs => ?_))
  refine lstep (wpO_plain rfl (op_assign hs none rfl rfl rfl rfl fun ac hs => ?_))
  refine lstep (wpO_plain rfl (op_assign hs none rfl rfl rfl rfl fun ac hs => ?_))
  refine wpList_nil ?_
  refine then_n ?_
  refine wp_seq ?_
  by_cases hq6 : q3 = true
  · skip
    replace hs := hs.re (fs' := [(0, true, .agg #[.int .u8 ((o : Nat) : Int), .slice ad l.length c]), (1, true, .pointer (some ⟨g1, 0, none⟩)), (2, true, .bool false), (6, true, .agg #[.int .u8 ((o : Nat) : Int), .slice ad l.length c]), (7, true, .tuple #[.slice ad4 b2.length cp5, .bool q3]), (5, true, .tuple #[.slice ad4 b2.length cp5, .bool q3]), (8, true, .slice ad4 b2.length cp5), (9, true, .bool q3), (3, true, .slice ad4 b2.length cp5), (4, true, .bool true)]) ⟨rfl, rfl, rfl, rfl, rfl, rfl, rfl, rfl, rfl, congrArg some (congrArg Value.bool hq6), trivial⟩
    replace hs : St 18 ⟨w0, [], [(true, .cel (.slice ad l.length c) l.length (bcs l)), (true, .cel (.slice ad4 b2.length cp5) b2.length (bcs b2))], Z, noX⟩ [(1, true, .pointer (some ⟨g1, 0, none⟩)), (2, true, .bool false), (3, true, .slice ad4 b2.length cp5), (4, true, .bool true)] [(true, g1, 25, [.int .u8 ((o : Nat) : Int), .slice ad l.length c])] ac _ := hs.re ⟨rfl, rfl, rfl, rfl, trivial⟩
    obtain ⟨⟨o7, p8⟩, ho7⟩ : ∃ z0, pushW b2 = z0 := ⟨_, rfl⟩
    have lo7 := pushW_lt b2
    rw [ho7] at lo7
    obtain ⟨lo7, lp8⟩ := lo7
    replace lo7 : o7 < 256 := lo7
    replace lp8 : p8.length ≤ b2.length := lp8
    refine region_inv [([], [1, 2, 3, 4, 5, 6, 7, 8]), ([0], [2, 3, 4, 5, 6, 7, 8]), ([0, 1], [3, 4, 5, 6, 7, 8]), ([0, 1, 2], [4, 6, 7, 8]), ([0, 1, 2, 3], [6, 7, 8]), ([0, 1, 2], [6, 7, 8]), ([0, 1, 2, 3, 4, 5], [7, 8]), ([0, 1, 2, 3, 4, 5, 6], [8]), ([0, 1, 2, 3, 4, 5, 6, 7], [])] (fun L ac w => ∃ (ad9 : Option Addr) (cp10 : Nat), St 18 ⟨w0, [], [(true, .cel (.slice ad l.length c) l.length (bcs l)), (true, .cel (.slice ad4 b2.length cp5) b2.length (bcs b2)), (L 4, .cel (.slice ad9 p8.length cp10) p8.length (bcs p8))], Z, noX⟩ [(10, L 0, .bool true), (11, L 1, .bool false), (12, L 2, .bool false), (13, L 3, .slice ad4 b2.length cp5), (14, L 4, .agg #[.int .u8 ((o7 : Nat) : Int), .slice ad9 p8.length cp10]), (15, L 5, .agg #[.int .u8 ((o : Nat) : Int), .slice ad l.length c]), (16, L 6, .bool (decide (o7 = o ∧ p8 = l))), (17, L 7, .bool (decide (o7 = o ∧ p8 = l))), (2, L 8, .bool (decide (o7 = o ∧ p8 = l))), (1, true, .pointer (some ⟨g1, 0, none⟩)), (2, true, .bool false), (3, true, .slice ad4 b2.length cp5), (4, true, .bool true)] [(true, g1, 25, [.int .u8 ((o : Nat) : Int), .slice ad l.length c])] ac w) (by kernel_rfl) (by kernel_rfl) ?_ ?_ ?_
    · exact ⟨none, 0, hs.drew.skip.skip.skip.skip.skip.skip.skip.skip.skip.padS⟩
    · refine ⟨?_, ?_, ?_, ?_, ?_, ?_, ?_, ?_, ?_, trivial⟩
      · intro L ac w hJ
        obtain ⟨ad9, cp10, hs⟩ := hJ
        refine wpO_plain rfl (op_move hs (some 0) rfl rfl rfl rfl fun ac hs => ?_)
        exact ⟨ad9, cp10, hs⟩
      · intro L ac w hJ
        obtain ⟨ad9, cp10, hs⟩ := hJ
        refine wpO_plain rfl (op_un hs (some 1) (v := .bool false) rfl rfl rfl (fun _ => rfl) rfl fun ac hs => ?_)
        exact ⟨ad9, cp10, hs⟩
      · intro L ac w hJ
        obtain ⟨ad9, cp10, hs⟩ := hJ
        refine wpO_plain rfl (op_move hs (some 2) rfl rfl rfl rfl fun ac hs => ?_)
        exact ⟨ad9, cp10, hs⟩
      · intro L ac w hJ
        obtain ⟨ad9, cp10, hs⟩ := hJ
        refine wpO_in hs rfl rfl rfl (op_move hs (some 3) rfl rfl rfl rfl fun ac hs => ?_)
        exact ⟨ad9, cp10, hs⟩
      · intro L ac w hJ
        obtain ⟨ad9, cp10, hs⟩ := hJ
        refine wpO_in hs rfl rfl rfl (op_callS (F := 19) (ρ := Option Addr × Nat) hs (some 4) (some 2) (v := fun r => .agg #[.int .u8 ((o7 : Nat) : Int), .slice r.1 p8.length r.2]) (E := fun r => [.cel (.slice r.1 p8.length r.2) p8.length (bcs p8)]) (j := 1) rfl rfl rfl rfl (Try.call19 _) (fun hs => rpush_c ad4 b2.length cp5 b2 o7 p8 (show b2.length ≤ 100000 by omega) ho7 _ _ (hs.all (k := 1) rfl rfl)) (fun _ => rfl) rfl rfl fun ⟨ad9, cp10⟩ ac w hs => ?_)
        exact ⟨ad9, cp10, hs⟩
      · intro L ac w hJ
        obtain ⟨ad9, cp10, hs⟩ := hJ
        refine wpO_in hs rfl rfl rfl (op_load hs (some 5) 0 (v := .agg #[.int .u8 ((o : Nat) : Int), .slice ad l.length c]) rfl rfl rfl rfl Try.isAgg25 Try.sizeOf25 rfl rfl fun ac hs => ?_)
        exact ⟨ad9, cp10, hs⟩
      · intro L ac w hJ
        obtain ⟨ad9, cp10, hs⟩ := hJ
        refine wpO_in hs rfl rfl rfl (op_callS (F := 14) (ρ := Unit) hs (some 6) none (v := fun r => .bool (decide (o7 = o ∧ p8 = l))) (E := fun r => []) (j := 0) rfl rfl rfl rfl (Try.call14 _) (fun hs => same_c o7 ad9 p8.length cp10 p8 o ad l.length c l (decide (o7 = o ∧ p8 = l)) rfl _ _ (hs.all (k := 2) rfl rfl) (hs.all (k := 0) rfl rfl)) (fun _ => rfl) rfl rfl fun _ ac w hs => ?_)
        exact ⟨ad9, cp10, hs⟩
      · intro L ac w hJ
        obtain ⟨ad9, cp10, hs⟩ := hJ
        refine wpO_plain rfl (op_pickF hs (some 7) rfl rfl rfl rfl rfl fun ac hs => ?_)
        exact ⟨ad9, cp10, hs⟩
      · intro L ac w hJ
        obtain ⟨ad9, cp10, hs⟩ := hJ
        refine wpO_plain rfl (op_assign hs (some 8) rfl rfl rfl rfl fun ac hs => ?_)
        exact ⟨ad9, cp10, hs⟩
    intro ac w hJ
    obtain ⟨ad9, cp10, hs⟩ := hJ
    replace hs : St 18 ⟨w0, [], [(true, .cel (.slice ad l.length c) l.length (bcs l)), (true, .cel (.slice ad4 b2.length cp5) b2.length (bcs b2)), (true, .cel (.slice ad9 p8.length cp10) p8.length (bcs p8))], Z, noX⟩ [(10, true, .bool true), (11, true, .bool false), (12, true, .bool false), (13, true, .slice ad4 b2.length cp5), (14, true, .agg #[.int .u8 ((o7 : Nat) : Int), .slice ad9 p8.length cp10]), (15, true, .agg #[.int .u8 ((o : Nat) : Int), .slice ad l.length c]), (16, true, .bool (decide (o7 = o ∧ p8 = l))), (17, true, .bool (decide (o7 = o ∧ p8 = l))), (2, true, .bool (decide (o7 = o ∧ p8 = l))), (1, true, .pointer (some ⟨g1, 0, none⟩)), (2, true, .bool false), (3, true, .slice ad4 b2.length cp5), (4, true, .bool true)] [(true, g1, 25, [.int .u8 ((o : Nat) : Int), .slice ad l.length c])] ac w := hs
    refine then_n ?_
    refine wp_ret ?_
    exact bodyPost_ret (res1 rfl (rv_t hs rfl)) hs.defers ⟨(), by rw [← hS, shortB, hq3, hq6, hb2, ho7]; exact congrArg (fun b => Ending.returned (.bool b)) (by simp), hs.bel rfl, okl0⟩
  · skip
    replace hs := hs.re (fs' := [(0, true, .agg #[.int .u8 ((o : Nat) : Int), .slice ad l.length c]), (1, true, .pointer (some ⟨g1, 0, none⟩)), (2, true, .bool false), (6, true, .agg #[.int .u8 ((o : Nat) : Int), .slice ad l.length c]), (7, true, .tuple #[.slice ad4 b2.length cp5, .bool q3]), (5, true, .tuple #[.slice ad4 b2.length cp5, .bool q3]), (8, true, .slice ad4 b2.length cp5), (9, true, .bool q3), (3, true, .slice ad4 b2.length cp5), (4, true, .bool false)]) ⟨rfl, rfl, rfl, rfl, rfl, rfl, rfl, rfl, rfl, congrArg some (congrArg Value.bool (Bool.eq_false_iff.2 hq6)), trivial⟩
    replace hs : St 18 ⟨w0, [], [(true, .cel (.slice ad l.length c) l.length (bcs l)), (true, .cel (.slice ad4 b2.length cp5) b2.length (bcs b2))], Z, noX⟩ [(1, true, .pointer (some ⟨g1, 0, none⟩)), (2, true, .bool false), (3, true, .slice ad4 b2.length cp5), (4, true, .bool false)] [(true, g1, 25, [.int .u8 ((o : Nat) : Int), .slice ad l.length c])] ac _ := hs.re ⟨rfl, rfl, rfl, rfl, trivial⟩
    refine region_inv [([], [1, 2, 3, 4, 5, 6, 7, 8]), ([0], [2, 3, 4, 5, 6, 7, 8]), ([0, 1], [3, 4, 5, 6, 7, 8]), ([0, 1, 2], [4, 6, 7, 8]), ([0, 1, 2, 3], [6, 7, 8]), ([0, 1, 2], [6, 7, 8]), ([0, 1, 2, 3, 4, 5], [7, 8]), ([0, 1, 2, 3, 4, 5, 6], [8]), ([0, 1, 2, 3, 4, 5, 6, 7], [])] (fun L ac w => St 18 ⟨w0, [], [(true, .cel (.slice ad l.length c) l.length (bcs l)), (true, .cel (.slice ad4 b2.length cp5) b2.length (bcs b2))], Z, noX⟩ [(10, L 0, .bool false), (11, L 1, .bool true), (12, L 2, .bool true), (13, L 3, undef), (14, L 4, undef), (15, L 5, undef), (16, L 6, undef), (17, L 7, .bool true), (2, L 8, .bool true), (1, true, .pointer (some ⟨g1, 0, none⟩)), (2, true, .bool false), (3, true, .slice ad4 b2.length cp5), (4, true, .bool false)] [(true, g1, 25, [.int .u8 ((o : Nat) : Int), .slice ad l.length c])] ac w) (by kernel_rfl) (by kernel_rfl) ?_ ?_ ?_
    · exact hs.drew.skip.skip.skip.skip.skip.skip.skip.skip.skip
    · refine ⟨?_, ?_, ?_, ?_, ?_, ?_, ?_, ?_, ?_, trivial⟩
      · intro L ac w hJ
        have hs := hJ
        refine wpO_plain rfl (op_move hs (some 0) rfl rfl rfl rfl fun ac hs => ?_)
        exact hs
      · intro L ac w hJ
        have hs := hJ
        refine wpO_plain rfl (op_un hs (some 1) (v := .bool true) rfl rfl rfl (fun _ => rfl) rfl fun ac hs => ?_)
        exact hs
      · intro L ac w hJ
        have hs := hJ
        refine wpO_plain rfl (op_move hs (some 2) rfl rfl rfl rfl fun ac hs => ?_)
        exact hs
      · intro L ac w hJ
        have hs := hJ
        refine wpO_out hs (some 3) rfl rfl (.inl rfl) rfl rfl fun ac hs => ?_
        exact hs
      · intro L ac w hJ
        have hs := hJ
        refine wpO_out hs (some 4) rfl rfl (.inl rfl) rfl rfl fun ac hs => ?_
        exact hs
      · intro L ac w hJ
        have hs := hJ
        refine wpO_out hs (some 5) rfl rfl (.inl rfl) rfl rfl fun ac hs => ?_
        exact hs
      · intro L ac w hJ
        have hs := hJ
        refine wpO_out hs (some 6) rfl rfl (.inl rfl) rfl rfl fun ac hs => ?_
        exact hs
      · intro L ac w hJ
        have hs := hJ
        refine wpO_plain rfl (op_pickT hs (some 7) rfl rfl rfl rfl rfl fun ac hs => ?_)
        exact hs
      · intro L ac w hJ
        have hs := hJ
        refine wpO_plain rfl (op_assign hs (some 8) rfl rfl rfl rfl fun ac hs => ?_)
        exact hs
    intro ac w hJ
    replace hs : St 18 ⟨w0, [], [(true, .cel (.slice ad l.length c) l.length (bcs l)), (true, .cel (.slice ad4 b2.length cp5) b2.length (bcs b2))], Z, noX⟩ [(10, true, .bool false), (11, true, .bool true), (12, true, .bool true), (13, true, undef), (14, true, undef), (15, true, undef), (16, true, undef), (17, true, .bool true), (2, true, .bool true), (1, true, .pointer (some ⟨g1, 0, none⟩)), (2, true, .bool false), (3, true, .slice ad4 b2.length cp5), (4, true, .bool false)] [(true, g1, 25, [.int .u8 ((o : Nat) : Int), .slice ad l.length c])] ac w := hJ
    refine then_n ?_
    refine wp_ret ?_
    exact bodyPost_ret (res1 rfl (rv_t hs rfl)) hs.defers ⟨(), by rw [← hS, shortB, hq3, Bool.eq_false_iff.2 hq6]; rfl, hs.bel rfl, okl0⟩
theorem number_c (n : Int) (o : Nat) (p : List UInt8) (hn1 : -9223372036854775808 ≤ n) (hn2 : n < 9223372036854775808) (hW : pushW (enc n) = (o, p)) (w0 : World) (Z : Nat → Prop) : Calls Try.prog 22 #[.int .i64 n] w0 fun e w' => Ret w0 Z (ρ := Option Addr × Nat) (fun r => .agg #[.int .u8 ((o : Nat) : Int), .slice r.1 p.length r.2]) (fun r => [.cel (.slice r.1 p.length r.2) p.length (bcs p)]) e w' := by
  refine enterS (n := 6) (args := [.int .i64 n]) (S := []) (Z := Z) Try.func22 rfl rfl (Nat.le_of_ble_eq_true rfl) sok0 rfl fun ac hs => ?_
  refine wp_seq ?_
  refine wp_region_lit ?_
  refine lstep (wpO_plain rfl (op_alloc hs none none (cs := [.int .u8 0, .slice none 0 0]) rfl rfl Try.zeroValue25 (by kernel_rfl) rfl rfl fun g1 ac w hs => ?_))
  refine wpList_nil ?_
  refine then_n ?_
  refine wp_seq ?_
  refine wp_region_lit ?_
  refine lstep (wpO_plain rfl (op_move hs none rfl rfl rfl rfl fun ac hs => ?_))
  have hel := enc_len hn1 hn2
  refine lstep (wpO_plain rfl (op_callS (F := 31) (ρ := Option Addr × Nat) hs none none (v := fun r => .slice r.1 ((enc n).length) r.2) (E := fun r => [.cel (.slice r.1 ((enc n).length) r.2) ((enc n).length) (bcs (enc n))]) (j := 1) rfl rfl rfl rfl (Try.call31 _) (fun hs => enc_c n hn1 hn2 _ _) (fun _ => rfl) rfl rfl fun ⟨ad2, cp3⟩ ac w hs => ?_))
  obtain ⟨⟨o4, p5⟩, ho4⟩ : ∃ z0, pushW (enc n) = z0 := ⟨_, rfl⟩
  have lo4 := pushW_lt (enc n)
  rw [ho4] at lo4
  obtain ⟨lo4, lp5⟩ := lo4
  replace lo4 : o4 < 256 := lo4
  replace lp5 : p5.length ≤ (enc n).length := lp5
  refine lstep (wpO_plain rfl (op_callS (F := 18) (ρ := Option Addr × Nat) hs none none (v := fun r => .agg #[.int .u8 ((o4 : Nat) : Int), .slice r.1 p5.length r.2]) (E := fun r => [.cel (.slice r.1 p5.length r.2) p5.length (bcs p5)]) (j := 1) rfl rfl rfl rfl (Try.call18 _) (fun hs => push_c ad2 ((enc n).length) cp3 (enc n) o4 p5 (show (enc n).length ≤ 100000 by omega) ho4 _ _ (hs.all (k := 0) rfl rfl)) (fun _ => rfl) rfl rfl fun ⟨ad6, cp7⟩ ac w hs => ?_))
  refine lstep (wpO_plain rfl (op_store hs 0 (vs := [.int .u8 ((o4 : Nat) : Int), .slice ad6 p5.length cp7]) rfl rfl rfl rfl rfl Try.sizeOf25 rfl rfl rfl rfl rfl fun w hs => ?_))
  refine wpList_nil ?_
  refine then_n ?_
  refine wp_ret ?_
  exact bodyPost_ret (res1 rfl (rv_c hs 0 (v := .agg #[.int .u8 ((o4 : Nat) : Int), .slice ad6 p5.length cp7]) rfl rfl Try.isAgg25 Try.sizeOf25 rfl)) hs.defers ⟨⟨ad6, cp7⟩, by obtain ⟨rfl, rfl⟩ := Prod.mk.inj (ho4.symm.trans hW); rfl, hs.bel rfl, by obtain ⟨rfl, rfl⟩ := Prod.mk.inj (ho4.symm.trans hW); exact hs.ret1 1 rfl⟩
theorem rnumber_c (n : Int) (o : Nat) (p : List UInt8) (hn1 : -9223372036854775808 ≤ n) (hn2 : n < 9223372036854775808) (hW : pushW (enc n) = (o, p)) (w0 : World) (Z : Nat → Prop) : Calls Try.prog 23 #[.int .i64 n] w0 fun e w' => Ret w0 Z (ρ := Option Addr × Nat) (fun r => .agg #[.int .u8 ((o : Nat) : Int), .slice r.1 p.length r.2]) (fun r => [.cel (.slice r.1 p.length r.2) p.length (bcs p)]) e w' := by
  refine enterS (n := 6) (args := [.int .i64 n]) (S := []) (Z := Z) Try.func23 rfl rfl (Nat.le_of_ble_eq_true rfl) sok0 rfl fun ac hs => ?_
  refine wp_seq ?_
  refine wp_region_lit ?_
  refine lstep (wpO_plain rfl (op_alloc hs none none (cs := [.int .u8 0, .slice none 0 0]) rfl rfl Try.zeroValue25 (by kernel_rfl) rfl rfl fun g1 ac w hs => ?_))
  refine wpList_nil ?_
  refine then_n ?_
  refine wp_seq ?_
  refine wp_region_lit ?_
  refine lstep (wpO_plain rfl (op_move hs none rfl rfl rfl rfl fun ac hs => ?_))
  have hel := enc_len hn1 hn2
  refine lstep (wpO_plain rfl (op_callS (F := 32) (ρ := Option Addr × Nat) hs none none (v := fun r => .slice r.1 ((enc n).length) r.2) (E := fun r => [.cel (.slice r.1 ((enc n).length) r.2) ((enc n).length) (bcs (enc n))]) (j := 1) rfl rfl rfl rfl (Try.call32 _) (fun hs => renc_c n hn1 hn2 _ _) (fun _ => rfl) rfl rfl fun ⟨ad2, cp3⟩ ac w hs => ?_))
  obtain ⟨⟨o4, p5⟩, ho4⟩ : ∃ z0, pushW (enc n) = z0 := ⟨_, rfl⟩
  have lo4 := pushW_lt (enc n)
  rw [ho4] at lo4
  obtain ⟨lo4, lp5⟩ := lo4
  replace lo4 : o4 < 256 := lo4
  replace lp5 : p5.length ≤ (enc n).length := lp5
  refine lstep (wpO_plain rfl (op_callS (F := 19) (ρ := Option Addr × Nat) hs none none (v := fun r => .agg #[.int .u8 ((o4 : Nat) : Int), .slice r.1 p5.length r.2]) (E := fun r => [.cel (.slice r.1 p5.length r.2) p5.length (bcs p5)]) (j := 1) rfl rfl rfl rfl (Try.call19 _) (fun hs => rpush_c ad2 ((enc n).length) cp3 (enc n) o4 p5 (show (enc n).length ≤ 100000 by omega) ho4 _ _ (hs.all (k := 0) rfl rfl)) (fun _ => rfl) rfl rfl fun ⟨ad6, cp7⟩ ac w hs => ?_))
  refine lstep (wpO_plain rfl (op_store hs 0 (vs := [.int .u8 ((o4 : Nat) : Int), .slice ad6 p5.length cp7]) rfl rfl rfl rfl rfl Try.sizeOf25 rfl rfl rfl rfl rfl fun w hs => ?_))
  refine wpList_nil ?_
  refine then_n ?_
  refine wp_ret ?_
  exact bodyPost_ret (res1 rfl (rv_c hs 0 (v := .agg #[.int .u8 ((o4 : Nat) : Int), .slice ad6 p5.length cp7]) rfl rfl Try.isAgg25 Try.sizeOf25 rfl)) hs.defers ⟨⟨ad6, cp7⟩, by obtain ⟨rfl, rfl⟩ := Prod.mk.inj (ho4.symm.trans hW); rfl, hs.bel rfl, by obtain ⟨rfl, rfl⟩ := Prod.mk.inj (ho4.symm.trans hW); exact hs.ret1 1 rfl⟩
end Go.Proofs.Ytbjnlcblaonccaa
