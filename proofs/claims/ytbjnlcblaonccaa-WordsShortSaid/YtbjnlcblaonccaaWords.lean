/- The contracts of words: one word. -/
import Derived.Test.YtbjnlcblaonccaaBytes
import Derived.Test.YtbjnlcblaonccaaWdP
namespace Go.Proofs.Ytbjnlcblaonccaa
open Go.RowKit
set_option maxRecDepth 10000

theorem told_c (ad : Option Addr) (nl c : Nat) (l : List UInt8) (n h : Nat) (q : Bool) (hb : 0 < l.length) (hT : tld l = (n, h, q)) (w0 : World) (Z : Nat → Prop) (hl : ByV w0 Z (.slice ad nl c) l): Calls Try.prog 27 #[.slice ad nl c] w0 fun e w' => Ret w0 Z (ρ := Unit) (fun r => .tuple #[.int .i64 ((n : Nat) : Int), .int .i64 ((h : Nat) : Int), .bool q]) (fun r => []) e w' := by
  obtain rfl := byv_len hl
  refine enterS (n := 55) (args := [.slice ad l.length c]) (S := [(true, .cel (.slice ad l.length c) l.length (bcs l))]) (Z := Z) Try.func27 rfl rfl (Nat.le_of_ble_eq_true rfl) (sokC hl sok0) rfl fun ac hs => ?_
  refine wp_seq ?_
  refine wp_region_lit ?_
  refine lstep (wpO_plain rfl (op_assign hs none rfl rfl rfl rfl fun ac hs => ?_))
  refine lstep (wpO_plain rfl (op_assign hs none rfl rfl rfl rfl fun ac hs => ?_))
  refine lstep (wpO_plain rfl (op_assign hs none rfl rfl rfl rfl fun ac hs => ?_))
  refine wpList_nil ?_
  refine then_n ?_
  refine wp_seq ?_
  refine wp_seq ?_
  refine wp_region_lit ?_
  refine lstep (wpO_plain rfl (op_move hs none rfl rfl rfl rfl fun ac hs => ?_))
  refine lstep (wpO_plain rfl (op_idxC hs none 0 (j := 0) rfl rfl rfl rfl rfl Try.underlying22 Try.sizeOf5 (show 0 < l.length by omega) (off := 0) (by omega) rfl fun ac hs => ?_))
  have l1 := byt_lt l 0
  refine lstep (wpO_plain rfl (op_loadC hs none 0 (u := .int .u8 ((byt l 0 : Nat) : Int)) rfl rfl rfl rfl Try.isAgg5 Try.sizeOf5 (by decide) (bcs_get (show 0 < l.length by omega)) rfl fun ac hs => ?_))
  refine lstep (wpO_plain rfl (op_assign hs none rfl rfl rfl rfl fun ac hs => ?_))
  refine wpList_nil ?_
  refine then_n ?_
  refine wp_block ?_
  refine wp_seq ?_
  by_cases hq2 : 0 < byt l 0
  · skip
    replace hs : St 55 ⟨w0, [], [(true, .cel (.slice ad l.length c) l.length (bcs l))], Z, noX⟩ [(0, true, .slice ad l.length c), (2, true, .int .i64 0), (3, true, .int .i64 0), (4, true, .bool false), (5, true, .int .u8 ((byt l 0 : Nat) : Int))] [] ac _ := hs.re ⟨rfl, rfl, rfl, rfl, rfl, trivial⟩
    refine wp_region_lit ?_
    refine lstep (wpO_plain rfl (op_move hs none rfl rfl rfl rfl fun ac hs => ?_))
    refine lstep (wpO_plain rfl (op_bin hs none (v := .bool true) rfl rfl rfl rfl (fun _ => rfl) (fun w => dT hq2 (bin_gtrN (x := byt l 0) (y := 0) w)) rfl fun ac hs => ?_))
    refine lstep (wpO_plain rfl (op_move hs none rfl rfl rfl rfl fun ac hs => ?_))
    refine lstep (wpO_in hs rfl rfl rfl (op_move hs none rfl rfl rfl rfl fun ac hs => ?_))
    refine lstep (wpO_in hs rfl rfl rfl (op_bin hs none (v := .bool (decide (byt l 0 ≤ 75))) rfl rfl rfl rfl (fun _ => rfl) (bin_leqN (x := byt l 0) (y := 75)) rfl fun ac hs => ?_))
    refine lstep (wpO_plain rfl (op_pickT hs none rfl rfl rfl rfl rfl fun ac hs => ?_))
    refine lstep (wpO_plain rfl (op_assign hs none rfl rfl rfl rfl fun ac hs => ?_))
    refine wpList_nil ?_
    refine then_n ?_
    refine wp_cond_split (hs.ev rfl) (fun hc => ?_) (fun hc => ?_)
    · skip
      have hp3 := of_decide_eq_true hc
      refine wp_seq ?_
      replace hs : St 55 ⟨w0, [], [(true, .cel (.slice ad l.length c) l.length (bcs l))], Z, noX⟩ [(2, true, .int .i64 0), (3, true, .int .i64 0), (4, true, .bool false), (5, true, .int .u8 ((byt l 0 : Nat) : Int))] [] ac _ := hs.re ⟨rfl, rfl, rfl, rfl, trivial⟩
      refine wp_region_lit ?_
      refine lstep (wpO_plain rfl (op_move hs none rfl rfl rfl rfl fun ac hs => ?_))
      refine lstep (wpO_plain rfl (op_convert hs none (v := .int .i64 ((byt l 0 : Nat) : Int)) rfl rfl rfl (conv_N Try.underlying5 Try.underlying3 (show byt l 0 < 9223372036854775808 by omega)) rfl fun ac hs => ?_))
      refine lstep (wpO_plain rfl (op_assign hs none rfl rfl rfl rfl fun ac hs => ?_))
      refine lstep (wpO_plain rfl (op_assign hs none rfl rfl rfl rfl fun ac hs => ?_))
      refine lstep (wpO_plain rfl (op_assign hs none rfl rfl rfl rfl fun ac hs => ?_))
      refine wpList_nil ?_
      refine then_n ?_
      refine wp_ret ?_
      refine blk_r ?_
      refine then_r ?_
      exact bodyPost_ret (res3 rfl (rv_t hs rfl) (rv_t hs rfl) (rv_t hs rfl)) hs.defers ⟨(), by obtain ⟨rfl, rfl, rfl⟩ := t3 ((tld_1 (by omega) (by omega)).symm.trans hT); rfl, hs.bel rfl, okl0⟩
    · skip
      have hp4 := of_decide_eq_false hc
      refine wp_seq ?_
      by_cases hq5 : byt l 0 = 76
      · skip
        replace hs : St 55 ⟨w0, [], [(true, .cel (.slice ad l.length c) l.length (bcs l))], Z, noX⟩ [(0, true, .slice ad l.length c), (2, true, .int .i64 0), (3, true, .int .i64 0), (4, true, .bool false), (5, true, .int .u8 ((byt l 0 : Nat) : Int))] [] ac _ := hs.re ⟨rfl, rfl, rfl, rfl, rfl, trivial⟩
        refine wp_region_lit ?_
        refine lstep (wpO_plain rfl (op_move hs none rfl rfl rfl rfl fun ac hs => ?_))
        refine lstep (wpO_plain rfl (op_bin hs none (v := .bool true) rfl rfl rfl rfl (fun _ => rfl) (fun w => dT hq5 (bin_eqlN (x := byt l 0) (y := 76) w)) rfl fun ac hs => ?_))
        refine lstep (wpO_plain rfl (op_move hs none rfl rfl rfl rfl fun ac hs => ?_))
        refine lstep (wpO_in hs rfl rfl rfl (op_move hs none rfl rfl rfl rfl fun ac hs => ?_))
        refine lstep (wpO_in hs rfl rfl rfl (op_blt hs none (v := .int .i64 ((l.length : Nat) : Int)) rfl rfl rfl (blt_len Try.underlying22) rfl fun ac hs => ?_))
        refine lstep (wpO_in hs rfl rfl rfl (op_bin hs none (v := .bool (decide (1 < l.length))) rfl rfl rfl rfl (fun _ => rfl) (bin_gtrN (x := l.length) (y := 1)) rfl fun ac hs => ?_))
        refine lstep (wpO_plain rfl (op_pickT hs none rfl rfl rfl rfl rfl fun ac hs => ?_))
        refine lstep (wpO_plain rfl (op_assign hs none rfl rfl rfl rfl fun ac hs => ?_))
        refine wpList_nil ?_
        refine then_n ?_
        refine wp_cond_split (hs.ev rfl) (fun hc => ?_) (fun hc => ?_)
        · skip
          have hp6 := of_decide_eq_true hc
          refine wp_seq ?_
          replace hs : St 55 ⟨w0, [], [(true, .cel (.slice ad l.length c) l.length (bcs l))], Z, noX⟩ [(0, true, .slice ad l.length c), (2, true, .int .i64 0), (3, true, .int .i64 0), (4, true, .bool false)] [] ac _ := hs.re ⟨rfl, rfl, rfl, rfl, trivial⟩
          refine wp_region_lit ?_
          refine lstep (wpO_plain rfl (op_move hs none rfl rfl rfl rfl fun ac hs => ?_))
          refine lstep (wpO_plain rfl (op_idxC hs none 0 (j := 1) rfl rfl rfl rfl rfl Try.underlying22 Try.sizeOf5 (show 1 < l.length by omega) (off := 1) (by omega) rfl fun ac hs => ?_))
          have l7 := byt_lt l 1
          refine lstep (wpO_plain rfl (op_loadC hs none 0 (u := .int .u8 ((byt l 1 : Nat) : Int)) rfl rfl rfl rfl Try.isAgg5 Try.sizeOf5 (by decide) (bcs_get (show 1 < l.length by omega)) rfl fun ac hs => ?_))
          refine lstep (wpO_plain rfl (op_convert hs none (v := .int .i64 ((byt l 1 : Nat) : Int)) rfl rfl rfl (conv_N Try.underlying5 Try.underlying3 (show byt l 1 < 9223372036854775808 by omega)) rfl fun ac hs => ?_))
          refine lstep (wpO_plain rfl (op_assign hs none rfl rfl rfl rfl fun ac hs => ?_))
          refine lstep (wpO_plain rfl (op_assign hs none rfl rfl rfl rfl fun ac hs => ?_))
          refine lstep (wpO_plain rfl (op_assign hs none rfl rfl rfl rfl fun ac hs => ?_))
          refine wpList_nil ?_
          refine then_n ?_
          refine wp_ret ?_
          refine blk_r ?_
          refine then_r ?_
          exact bodyPost_ret (res3 rfl (rv_t hs rfl) (rv_t hs rfl) (rv_t hs rfl)) hs.defers ⟨(), by obtain ⟨rfl, rfl, rfl⟩ := t3 ((tld_2 (by omega) (by omega)).symm.trans hT); rfl, hs.bel rfl, okl0⟩
        · skip
          have hp8 := of_decide_eq_false hc
          refine wp_seq ?_
          by_cases hq9 : byt l 0 = 77
          · skip
            replace hs : St 55 ⟨w0, [], [(true, .cel (.slice ad l.length c) l.length (bcs l))], Z, noX⟩ [(0, true, .slice ad l.length c), (2, true, .int .i64 0), (3, true, .int .i64 0), (4, true, .bool false), (5, true, .int .u8 ((byt l 0 : Nat) : Int))] [] ac _ := hs.re ⟨rfl, rfl, rfl, rfl, rfl, trivial⟩
            refine wp_region_lit ?_
            refine lstep (wpO_plain rfl (op_move hs none rfl rfl rfl rfl fun ac hs => ?_))
            refine lstep (wpO_plain rfl (op_bin hs none (v := .bool true) rfl rfl rfl rfl (fun _ => rfl) (fun w => dT hq9 (bin_eqlN (x := byt l 0) (y := 77) w)) rfl fun ac hs => ?_))
            refine lstep (wpO_plain rfl (op_move hs none rfl rfl rfl rfl fun ac hs => ?_))
            refine lstep (wpO_in hs rfl rfl rfl (op_move hs none rfl rfl rfl rfl fun ac hs => ?_))
            refine lstep (wpO_in hs rfl rfl rfl (op_blt hs none (v := .int .i64 ((l.length : Nat) : Int)) rfl rfl rfl (blt_len Try.underlying22) rfl fun ac hs => ?_))
            refine lstep (wpO_in hs rfl rfl rfl (op_bin hs none (v := .bool (decide (2 < l.length))) rfl rfl rfl rfl (fun _ => rfl) (bin_gtrN (x := l.length) (y := 2)) rfl fun ac hs => ?_))
            refine lstep (wpO_plain rfl (op_pickT hs none rfl rfl rfl rfl rfl fun ac hs => ?_))
            refine lstep (wpO_plain rfl (op_assign hs none rfl rfl rfl rfl fun ac hs => ?_))
            refine wpList_nil ?_
            refine then_n ?_
            refine wp_cond_split (hs.ev rfl) (fun hc => ?_) (fun hc => ?_)
            · skip
              have hp10 := of_decide_eq_true hc
              refine wp_seq ?_
              replace hs : St 55 ⟨w0, [], [(true, .cel (.slice ad l.length c) l.length (bcs l))], Z, noX⟩ [(0, true, .slice ad l.length c), (2, true, .int .i64 0), (3, true, .int .i64 0), (4, true, .bool false)] [] ac _ := hs.re ⟨rfl, rfl, rfl, rfl, trivial⟩
              have l11 := byt_lt l 1
              have l12 := byt_lt l 2
              refine region_inv [([], [1, 2, 3, 9, 10, 11, 12]), ([0], [2, 3, 9, 10, 11, 12]), ([0, 1], [3, 9, 10, 11, 12]), ([0, 1, 2], [9, 10, 11, 12]), ([], [5, 6, 7, 8, 9, 10, 11, 12]), ([4], [6, 7, 8, 9, 10, 11, 12]), ([4, 5], [7, 8, 9, 10, 11, 12]), ([4, 5, 6], [8, 9, 10, 11, 12]), ([4, 5, 6, 7], [9, 10, 11, 12]), ([0, 1, 2, 3, 4, 5, 6, 7, 8], [10, 11, 12]), ([0, 1, 2, 3, 4, 5, 6, 7, 8, 9], [11, 12]), ([0, 1, 2, 3, 4, 5, 6, 7, 8, 9, 10], [12]), ([0, 1, 2, 3, 4, 5, 6, 7, 8, 9, 10, 11], [])] (fun L ac w => St 55 ⟨w0, [], [(true, .cel (.slice ad l.length c) l.length (bcs l))], Z, noX⟩ [(38, L 0, .slice ad l.length c), (39, L 1, vidx (.slice ad l.length c) 1), (40, L 2, .int .u8 ((byt l 1 : Nat) : Int)), (41, L 3, .int .i64 ((byt l 1 : Nat) : Int)), (42, L 4, .slice ad l.length c), (43, L 5, vidx (.slice ad l.length c) 2), (44, L 6, .int .u8 ((byt l 2 : Nat) : Int)), (45, L 7, .int .i64 ((byt l 2 : Nat) : Int)), (46, L 8, .int .i64 (((byt l 2) * 2 ^ 8 : Nat) : Int)), (47, L 9, .int .i64 ((byt l 1 + 256 * (byt l 2) : Nat) : Int)), (2, L 10, .int .i64 ((byt l 1 + 256 * (byt l 2) : Nat) : Int)), (3, L 11, .int .i64 3), (4, L 12, .bool true), (0, true, .slice ad l.length c), (2, true, .int .i64 0), (3, true, .int .i64 0), (4, true, .bool false)] [] ac w) (by kernel_rfl) (by kernel_rfl) ?_ ?_ ?_
              · exact hs.drew.skip.skip.skip.skip.skip.skip.skip.skip.skip.skip.skip.skip.skip
              · refine ⟨?_, ?_, ?_, ?_, ?_, ?_, ?_, ?_, ?_, ?_, ?_, ?_, ?_, trivial⟩
                · intro L ac w hJ
                  have hs := hJ
                  refine wpO_plain rfl (op_move hs (some 0) rfl rfl rfl rfl fun ac hs => ?_)
                  exact hs
                · intro L ac w hJ
                  have hs := hJ
                  refine wpO_plain rfl (op_idxC hs (some 1) 0 (j := 1) rfl rfl rfl rfl rfl Try.underlying22 Try.sizeOf5 (show 1 < l.length by omega) (off := 1) (by omega) rfl fun ac hs => ?_)
                  exact hs
                · intro L ac w hJ
                  have hs := hJ
                  refine wpO_plain rfl (op_loadC hs (some 2) 0 (u := .int .u8 ((byt l 1 : Nat) : Int)) rfl rfl rfl rfl Try.isAgg5 Try.sizeOf5 (by decide) (bcs_get (show 1 < l.length by omega)) rfl fun ac hs => ?_)
                  exact hs
                · intro L ac w hJ
                  have hs := hJ
                  refine wpO_plain rfl (op_convert hs (some 3) (v := .int .i64 ((byt l 1 : Nat) : Int)) rfl rfl rfl (conv_N Try.underlying5 Try.underlying3 (show byt l 1 < 9223372036854775808 by omega)) rfl fun ac hs => ?_)
                  exact hs
                · intro L ac w hJ
                  have hs := hJ
                  refine wpO_plain rfl (op_move hs (some 4) rfl rfl rfl rfl fun ac hs => ?_)
                  exact hs
                · intro L ac w hJ
                  have hs := hJ
                  refine wpO_plain rfl (op_idxC hs (some 5) 0 (j := 2) rfl rfl rfl rfl rfl Try.underlying22 Try.sizeOf5 (show 2 < l.length by omega) (off := 2) (by omega) rfl fun ac hs => ?_)
                  exact hs
                · intro L ac w hJ
                  have hs := hJ
                  refine wpO_plain rfl (op_loadC hs (some 6) 0 (u := .int .u8 ((byt l 2 : Nat) : Int)) rfl rfl rfl rfl Try.isAgg5 Try.sizeOf5 (by decide) (bcs_get (show 2 < l.length by omega)) rfl fun ac hs => ?_)
                  exact hs
                · intro L ac w hJ
                  have hs := hJ
                  refine wpO_plain rfl (op_convert hs (some 7) (v := .int .i64 ((byt l 2 : Nat) : Int)) rfl rfl rfl (conv_N Try.underlying5 Try.underlying3 (show byt l 2 < 9223372036854775808 by omega)) rfl fun ac hs => ?_)
                  exact hs
                · intro L ac w hJ
                  have hs := hJ
                  refine wpO_plain rfl (op_bin hs (some 8) (v := .int .i64 (((byt l 2) * 2 ^ 8 : Nat) : Int)) rfl rfl rfl rfl (fun _ => rfl) (bin_shlN (x := byt l 2) (y := 8) (z := (byt l 2) * 2 ^ 8) rfl (by decide) (show (byt l 2) * 2 ^ 8 < 9223372036854775808 by omega)) rfl fun ac hs => ?_)
                  exact hs
                · intro L ac w hJ
                  have hs := hJ
                  refine wpO_plain rfl (op_bin hs (some 9) (v := .int .i64 ((byt l 1 + 256 * (byt l 2) : Nat) : Int)) rfl rfl rfl rfl (fun _ => rfl) (bin_orN (x := byt l 1) (y := (byt l 2) * 2 ^ 8) (z := byt l 1 + 256 * (byt l 2)) (or_256 (byt_lt _ _)) (show byt l 1 < 2 ^ 64 by omega) (show (byt l 2) * 2 ^ 8 < 2 ^ 64 by omega) (show byt l 1 + 256 * (byt l 2) < 9223372036854775808 by omega)) rfl fun ac hs => ?_)
                  exact hs
                · intro L ac w hJ
                  have hs := hJ
                  refine wpO_plain rfl (op_assign hs (some 10) rfl rfl rfl rfl fun ac hs => ?_)
                  exact hs
                · intro L ac w hJ
                  have hs := hJ
                  refine wpO_plain rfl (op_assign hs (some 11) rfl rfl rfl rfl fun ac hs => ?_)
                  exact hs
                · intro L ac w hJ
                  have hs := hJ
                  refine wpO_plain rfl (op_assign hs (some 12) rfl rfl rfl rfl fun ac hs => ?_)
                  exact hs
              intro ac w hJ
              replace hs : St 55 ⟨w0, [], [(true, .cel (.slice ad l.length c) l.length (bcs l))], Z, noX⟩ [(38, true, .slice ad l.length c), (39, true, vidx (.slice ad l.length c) 1), (40, true, .int .u8 ((byt l 1 : Nat) : Int)), (41, true, .int .i64 ((byt l 1 : Nat) : Int)), (42, true, .slice ad l.length c), (43, true, vidx (.slice ad l.length c) 2), (44, true, .int .u8 ((byt l 2 : Nat) : Int)), (45, true, .int .i64 ((byt l 2 : Nat) : Int)), (46, true, .int .i64 (((byt l 2) * 2 ^ 8 : Nat) : Int)), (47, true, .int .i64 ((byt l 1 + 256 * (byt l 2) : Nat) : Int)), (2, true, .int .i64 ((byt l 1 + 256 * (byt l 2) : Nat) : Int)), (3, true, .int .i64 3), (4, true, .bool true), (0, true, .slice ad l.length c), (2, true, .int .i64 0), (3, true, .int .i64 0), (4, true, .bool false)] [] ac w := hJ
              refine then_n ?_
              refine wp_ret ?_
              refine blk_r ?_
              refine then_r ?_
              exact bodyPost_ret (res3 rfl (rv_t hs rfl) (rv_t hs rfl) (rv_t hs rfl)) hs.defers ⟨(), by obtain ⟨rfl, rfl, rfl⟩ := t3 ((tld_3 (by omega) (by omega)).symm.trans hT); rfl, hs.bel rfl, okl0⟩
            · skip
              have hp13 := of_decide_eq_false hc
              refine wp_seq ?_
              replace hs : St 55 ⟨w0, [], [(true, .cel (.slice ad l.length c) l.length (bcs l))], Z, noX⟩ [(2, true, .int .i64 0), (3, true, .int .i64 0), (4, true, .bool false), (5, true, .int .u8 ((byt l 0 : Nat) : Int))] [] ac _ := hs.re ⟨rfl, rfl, rfl, rfl, trivial⟩
              refine wp_region_lit ?_
              refine lstep (wpO_plain rfl (op_move hs none rfl rfl rfl rfl fun ac hs => ?_))
              refine lstep (wpO_plain rfl (op_bin hs none (v := .bool true) rfl rfl rfl rfl (fun _ => rfl) (fun w => dT hq5 (bin_eqlN (x := byt l 0) (y := 76) w)) rfl fun ac hs => ?_))
              refine lstep (wpO_plain rfl (op_move hs none rfl rfl rfl rfl fun ac hs => ?_))
              refine lstep (wpO_out hs none rfl rfl (.inl rfl) rfl rfl fun ac hs => ?_)
              refine lstep (wpO_out hs none rfl rfl (.inl rfl) rfl rfl fun ac hs => ?_)
              refine lstep (wpO_plain rfl (op_pickT hs none rfl rfl rfl rfl rfl fun ac hs => ?_))
              refine lstep (wpO_plain rfl (op_assign hs none rfl rfl rfl rfl fun ac hs => ?_))
              refine wpList_nil ?_
              refine then_n ?_
              refine wp_cond_true (hs.ev rfl) ?_
              refine wp_seq ?_
              refine wp_region_lit ?_
              refine lstep (wpO_plain rfl (op_assign hs none rfl rfl rfl rfl fun ac hs => ?_))
              refine lstep (wpO_plain rfl (op_assign hs none rfl rfl rfl rfl fun ac hs => ?_))
              refine lstep (wpO_plain rfl (op_assign hs none rfl rfl rfl rfl fun ac hs => ?_))
              refine wpList_nil ?_
              refine then_n ?_
              refine wp_ret ?_
              refine blk_r ?_
              refine then_r ?_
              exact bodyPost_ret (res3 rfl (rv_t hs rfl) (rv_t hs rfl) (rv_t hs rfl)) hs.defers ⟨(), by obtain ⟨rfl, rfl, rfl⟩ := t3 ((tld_4 (by omega)).symm.trans hT); rfl, hs.bel rfl, okl0⟩
          · skip
            replace hs : St 55 ⟨w0, [], [(true, .cel (.slice ad l.length c) l.length (bcs l))], Z, noX⟩ [(0, true, .slice ad l.length c), (2, true, .int .i64 0), (3, true, .int .i64 0), (4, true, .bool false), (5, true, .int .u8 ((byt l 0 : Nat) : Int))] [] ac _ := hs.re ⟨rfl, rfl, rfl, rfl, rfl, trivial⟩
            refine wp_region_lit ?_
            refine lstep (wpO_plain rfl (op_move hs none rfl rfl rfl rfl fun ac hs => ?_))
            refine lstep (wpO_plain rfl (op_bin hs none (v := .bool false) rfl rfl rfl rfl (fun _ => rfl) (fun w => dF hq9 (bin_eqlN (x := byt l 0) (y := 77) w)) rfl fun ac hs => ?_))
            refine lstep (wpO_plain rfl (op_move hs none rfl rfl rfl rfl fun ac hs => ?_))
            refine lstep (wpO_out hs none rfl rfl (.inl rfl) rfl rfl fun ac hs => ?_)
            refine lstep (wpO_out hs none rfl rfl (.inl rfl) rfl rfl fun ac hs => ?_)
            refine lstep (wpO_out hs none rfl rfl (.inl rfl) rfl rfl fun ac hs => ?_)
            refine lstep (wpO_plain rfl (op_pickF hs none rfl rfl rfl rfl rfl fun ac hs => ?_))
            refine lstep (wpO_plain rfl (op_assign hs none rfl rfl rfl rfl fun ac hs => ?_))
            refine wpList_nil ?_
            refine then_n ?_
            refine wp_cond_false (hs.ev rfl) ?_
            refine wp_seq ?_
            refine wp_region_lit ?_
            refine lstep (wpO_plain rfl (op_move hs none rfl rfl rfl rfl fun ac hs => ?_))
            refine lstep (wpO_plain rfl (op_bin hs none (v := .bool true) rfl rfl rfl rfl (fun _ => rfl) (fun w => dT hq5 (bin_eqlN (x := byt l 0) (y := 76) w)) rfl fun ac hs => ?_))
            refine lstep (wpO_plain rfl (op_move hs none rfl rfl rfl rfl fun ac hs => ?_))
            refine lstep (wpO_out hs none rfl rfl (.inl rfl) rfl rfl fun ac hs => ?_)
            refine lstep (wpO_out hs none rfl rfl (.inl rfl) rfl rfl fun ac hs => ?_)
            refine lstep (wpO_plain rfl (op_pickT hs none rfl rfl rfl rfl rfl fun ac hs => ?_))
            refine lstep (wpO_plain rfl (op_assign hs none rfl rfl rfl rfl fun ac hs => ?_))
            refine wpList_nil ?_
            refine then_n ?_
            refine wp_cond_true (hs.ev rfl) ?_
            refine wp_seq ?_
            replace hs : St 55 ⟨w0, [], [(true, .cel (.slice ad l.length c) l.length (bcs l))], Z, noX⟩ [(2, true, .int .i64 0), (3, true, .int .i64 0), (4, true, .bool false)] [] ac _ := hs.re ⟨rfl, rfl, rfl, trivial⟩
            refine wp_region_lit ?_
            refine lstep (wpO_plain rfl (op_assign hs none rfl rfl rfl rfl fun ac hs => ?_))
            refine lstep (wpO_plain rfl (op_assign hs none rfl rfl rfl rfl fun ac hs => ?_))
            refine lstep (wpO_plain rfl (op_assign hs none rfl rfl rfl rfl fun ac hs => ?_))
            refine wpList_nil ?_
            refine then_n ?_
            refine wp_ret ?_
            refine blk_r ?_
            refine then_r ?_
            exact bodyPost_ret (res3 rfl (rv_t hs rfl) (rv_t hs rfl) (rv_t hs rfl)) hs.defers ⟨(), by obtain ⟨rfl, rfl, rfl⟩ := t3 ((tld_4 (by omega)).symm.trans hT); rfl, hs.bel rfl, okl0⟩
      · skip
        replace hs : St 55 ⟨w0, [], [(true, .cel (.slice ad l.length c) l.length (bcs l))], Z, noX⟩ [(0, true, .slice ad l.length c), (2, true, .int .i64 0), (3, true, .int .i64 0), (4, true, .bool false), (5, true, .int .u8 ((byt l 0 : Nat) : Int))] [] ac _ := hs.re ⟨rfl, rfl, rfl, rfl, rfl, trivial⟩
        refine wp_region_lit ?_
        refine lstep (wpO_plain rfl (op_move hs none rfl rfl rfl rfl fun ac hs => ?_))
        refine lstep (wpO_plain rfl (op_bin hs none (v := .bool false) rfl rfl rfl rfl (fun _ => rfl) (fun w => dF hq5 (bin_eqlN (x := byt l 0) (y := 76) w)) rfl fun ac hs => ?_))
        refine lstep (wpO_plain rfl (op_move hs none rfl rfl rfl rfl fun ac hs => ?_))
        refine lstep (wpO_out hs none rfl rfl (.inl rfl) rfl rfl fun ac hs => ?_)
        refine lstep (wpO_out hs none rfl rfl (.inl rfl) rfl rfl fun ac hs => ?_)
        refine lstep (wpO_out hs none rfl rfl (.inl rfl) rfl rfl fun ac hs => ?_)
        refine lstep (wpO_plain rfl (op_pickF hs none rfl rfl rfl rfl rfl fun ac hs => ?_))
        refine lstep (wpO_plain rfl (op_assign hs none rfl rfl rfl rfl fun ac hs => ?_))
        refine wpList_nil ?_
        refine then_n ?_
        refine wp_cond_false (hs.ev rfl) ?_
        refine wp_seq ?_
        by_cases hq14 : byt l 0 = 77
        · skip
          refine wp_region_lit ?_
          refine lstep (wpO_plain rfl (op_move hs none rfl rfl rfl rfl fun ac hs => ?_))
          refine lstep (wpO_plain rfl (op_bin hs none (v := .bool true) rfl rfl rfl rfl (fun _ => rfl) (fun w => dT hq14 (bin_eqlN (x := byt l 0) (y := 77) w)) rfl fun ac hs => ?_))
          refine lstep (wpO_plain rfl (op_move hs none rfl rfl rfl rfl fun ac hs => ?_))
          refine lstep (wpO_in hs rfl rfl rfl (op_move hs none rfl rfl rfl rfl fun ac hs => ?_))
          refine lstep (wpO_in hs rfl rfl rfl (op_blt hs none (v := .int .i64 ((l.length : Nat) : Int)) rfl rfl rfl (blt_len Try.underlying22) rfl fun ac hs => ?_))
          refine lstep (wpO_in hs rfl rfl rfl (op_bin hs none (v := .bool (decide (2 < l.length))) rfl rfl rfl rfl (fun _ => rfl) (bin_gtrN (x := l.length) (y := 2)) rfl fun ac hs => ?_))
          refine lstep (wpO_plain rfl (op_pickT hs none rfl rfl rfl rfl rfl fun ac hs => ?_))
          refine lstep (wpO_plain rfl (op_assign hs none rfl rfl rfl rfl fun ac hs => ?_))
          refine wpList_nil ?_
          refine then_n ?_
          refine wp_cond_split (hs.ev rfl) (fun hc => ?_) (fun hc => ?_)
          · skip
            have hp15 := of_decide_eq_true hc
            refine wp_seq ?_
            replace hs : St 55 ⟨w0, [], [(true, .cel (.slice ad l.length c) l.length (bcs l))], Z, noX⟩ [(0, true, .slice ad l.length c), (2, true, .int .i64 0), (3, true, .int .i64 0), (4, true, .bool false)] [] ac _ := hs.re ⟨rfl, rfl, rfl, rfl, trivial⟩
            have l16 := byt_lt l 1
            have l17 := byt_lt l 2
            refine region_inv [([], [1, 2, 3, 9, 10, 11, 12]), ([0], [2, 3, 9, 10, 11, 12]), ([0, 1], [3, 9, 10, 11, 12]), ([0, 1, 2], [9, 10, 11, 12]), ([], [5, 6, 7, 8, 9, 10, 11, 12]), ([4], [6, 7, 8, 9, 10, 11, 12]), ([4, 5], [7, 8, 9, 10, 11, 12]), ([4, 5, 6], [8, 9, 10, 11, 12]), ([4, 5, 6, 7], [9, 10, 11, 12]), ([0, 1, 2, 3, 4, 5, 6, 7, 8], [10, 11, 12]), ([0, 1, 2, 3, 4, 5, 6, 7, 8, 9], [11, 12]), ([0, 1, 2, 3, 4, 5, 6, 7, 8, 9, 10], [12]), ([0, 1, 2, 3, 4, 5, 6, 7, 8, 9, 10, 11], [])] (fun L ac w => St 55 ⟨w0, [], [(true, .cel (.slice ad l.length c) l.length (bcs l))], Z, noX⟩ [(38, L 0, .slice ad l.length c), (39, L 1, vidx (.slice ad l.length c) 1), (40, L 2, .int .u8 ((byt l 1 : Nat) : Int)), (41, L 3, .int .i64 ((byt l 1 : Nat) : Int)), (42, L 4, .slice ad l.length c), (43, L 5, vidx (.slice ad l.length c) 2), (44, L 6, .int .u8 ((byt l 2 : Nat) : Int)), (45, L 7, .int .i64 ((byt l 2 : Nat) : Int)), (46, L 8, .int .i64 (((byt l 2) * 2 ^ 8 : Nat) : Int)), (47, L 9, .int .i64 ((byt l 1 + 256 * (byt l 2) : Nat) : Int)), (2, L 10, .int .i64 ((byt l 1 + 256 * (byt l 2) : Nat) : Int)), (3, L 11, .int .i64 3), (4, L 12, .bool true), (0, true, .slice ad l.length c), (2, true, .int .i64 0), (3, true, .int .i64 0), (4, true, .bool false)] [] ac w) (by kernel_rfl) (by kernel_rfl) ?_ ?_ ?_
            · exact hs.drew.skip.skip.skip.skip.skip.skip.skip.skip.skip.skip.skip.skip.skip
            · refine ⟨?_, ?_, ?_, ?_, ?_, ?_, ?_, ?_, ?_, ?_, ?_, ?_, ?_, trivial⟩
              · intro L ac w hJ
                have hs := hJ
                refine wpO_plain rfl (op_move hs (some 0) rfl rfl rfl rfl fun ac hs => ?_)
                exact hs
              · intro L ac w hJ
                have hs := hJ
                refine wpO_plain rfl (op_idxC hs (some 1) 0 (j := 1) rfl rfl rfl rfl rfl Try.underlying22 Try.sizeOf5 (show 1 < l.length by omega) (off := 1) (by omega) rfl fun ac hs => ?_)
                exact hs
              · intro L ac w hJ
                have hs := hJ
                refine wpO_plain rfl (op_loadC hs (some 2) 0 (u := .int .u8 ((byt l 1 : Nat) : Int)) rfl rfl rfl rfl Try.isAgg5 Try.sizeOf5 (by decide) (bcs_get (show 1 < l.length by omega)) rfl fun ac hs => ?_)
                exact hs
              · intro L ac w hJ
                have hs := hJ
                refine wpO_plain rfl (op_convert hs (some 3) (v := .int .i64 ((byt l 1 : Nat) : Int)) rfl rfl rfl (conv_N Try.underlying5 Try.underlying3 (show byt l 1 < 9223372036854775808 by omega)) rfl fun ac hs => ?_)
                exact hs
              · intro L ac w hJ
                have hs := hJ
                refine wpO_plain rfl (op_move hs (some 4) rfl rfl rfl rfl fun ac hs => ?_)
                exact hs
              · intro L ac w hJ
                have hs := hJ
                refine wpO_plain rfl (op_idxC hs (some 5) 0 (j := 2) rfl rfl rfl rfl rfl Try.underlying22 Try.sizeOf5 (show 2 < l.length by omega) (off := 2) (by omega) rfl fun ac hs => ?_)
                exact hs
              · intro L ac w hJ
                have hs := hJ
                refine wpO_plain rfl (op_loadC hs (some 6) 0 (u := .int .u8 ((byt l 2 : Nat) : Int)) rfl rfl rfl rfl Try.isAgg5 Try.sizeOf5 (by decide) (bcs_get (show 2 < l.length by omega)) rfl fun ac hs => ?_)
                exact hs
              · intro L ac w hJ
                have hs := hJ
                refine wpO_plain rfl (op_convert hs (some 7) (v := .int .i64 ((byt l 2 : Nat) : Int)) rfl rfl rfl (conv_N Try.underlying5 Try.underlying3 (show byt l 2 < 9223372036854775808 by omega)) rfl fun ac hs => ?_)
                exact hs
              · intro L ac w hJ
                have hs := hJ
                refine wpO_plain rfl (op_bin hs (some 8) (v := .int .i64 (((byt l 2) * 2 ^ 8 : Nat) : Int)) rfl rfl rfl rfl (fun _ => rfl) (bin_shlN (x := byt l 2) (y := 8) (z := (byt l 2) * 2 ^ 8) rfl (by decide) (show (byt l 2) * 2 ^ 8 < 9223372036854775808 by omega)) rfl fun ac hs => ?_)
                exact hs
              · intro L ac w hJ
                have hs := hJ
                refine wpO_plain rfl (op_bin hs (some 9) (v := .int .i64 ((byt l 1 + 256 * (byt l 2) : Nat) : Int)) rfl rfl rfl rfl (fun _ => rfl) (bin_orN (x := byt l 1) (y := (byt l 2) * 2 ^ 8) (z := byt l 1 + 256 * (byt l 2)) (or_256 (byt_lt _ _)) (show byt l 1 < 2 ^ 64 by omega) (show (byt l 2) * 2 ^ 8 < 2 ^ 64 by omega) (show byt l 1 + 256 * (byt l 2) < 9223372036854775808 by omega)) rfl fun ac hs => ?_)
                exact hs
              · intro L ac w hJ
                have hs := hJ
                refine wpO_plain rfl (op_assign hs (some 10) rfl rfl rfl rfl fun ac hs => ?_)
                exact hs
              · intro L ac w hJ
                have hs := hJ
                refine wpO_plain rfl (op_assign hs (some 11) rfl rfl rfl rfl fun ac hs => ?_)
                exact hs
              · intro L ac w hJ
                have hs := hJ
                refine wpO_plain rfl (op_assign hs (some 12) rfl rfl rfl rfl fun ac hs => ?_)
                exact hs
            intro ac w hJ
            replace hs : St 55 ⟨w0, [], [(true, .cel (.slice ad l.length c) l.length (bcs l))], Z, noX⟩ [(38, true, .slice ad l.length c), (39, true, vidx (.slice ad l.length c) 1), (40, true, .int .u8 ((byt l 1 : Nat) : Int)), (41, true, .int .i64 ((byt l 1 : Nat) : Int)), (42, true, .slice ad l.length c), (43, true, vidx (.slice ad l.length c) 2), (44, true, .int .u8 ((byt l 2 : Nat) : Int)), (45, true, .int .i64 ((byt l 2 : Nat) : Int)), (46, true, .int .i64 (((byt l 2) * 2 ^ 8 : Nat) : Int)), (47, true, .int .i64 ((byt l 1 + 256 * (byt l 2) : Nat) : Int)), (2, true, .int .i64 ((byt l 1 + 256 * (byt l 2) : Nat) : Int)), (3, true, .int .i64 3), (4, true, .bool true), (0, true, .slice ad l.length c), (2, true, .int .i64 0), (3, true, .int .i64 0), (4, true, .bool false)] [] ac w := hJ
            refine then_n ?_
            refine wp_ret ?_
            refine blk_r ?_
            refine then_r ?_
            exact bodyPost_ret (res3 rfl (rv_t hs rfl) (rv_t hs rfl) (rv_t hs rfl)) hs.defers ⟨(), by obtain ⟨rfl, rfl, rfl⟩ := t3 ((tld_3 (by omega) (by omega)).symm.trans hT); rfl, hs.bel rfl, okl0⟩
          · skip
            have hp18 := of_decide_eq_false hc
            refine wp_seq ?_
            replace hs : St 55 ⟨w0, [], [(true, .cel (.slice ad l.length c) l.length (bcs l))], Z, noX⟩ [(2, true, .int .i64 0), (3, true, .int .i64 0), (4, true, .bool false), (5, true, .int .u8 ((byt l 0 : Nat) : Int))] [] ac _ := hs.re ⟨rfl, rfl, rfl, rfl, trivial⟩
            refine wp_region_lit ?_
            refine lstep (wpO_plain rfl (op_move hs none rfl rfl rfl rfl fun ac hs => ?_))
            refine lstep (wpO_plain rfl (op_bin hs none (v := .bool false) rfl rfl rfl rfl (fun _ => rfl) (fun w => dF hq5 (bin_eqlN (x := byt l 0) (y := 76) w)) rfl fun ac hs => ?_))
            refine lstep (wpO_plain rfl (op_move hs none rfl rfl rfl rfl fun ac hs => ?_))
            refine lstep (wpO_in hs rfl rfl rfl (op_move hs none rfl rfl rfl rfl fun ac hs => ?_))
            refine lstep (wpO_in hs rfl rfl rfl (op_bin hs none (v := .bool true) rfl rfl rfl rfl (fun _ => rfl) (fun w => dT hq14 (bin_eqlN (x := byt l 0) (y := 77) w)) rfl fun ac hs => ?_))
            refine lstep (wpO_plain rfl (op_pickF hs none rfl rfl rfl rfl rfl fun ac hs => ?_))
            refine lstep (wpO_plain rfl (op_assign hs none rfl rfl rfl rfl fun ac hs => ?_))
            refine wpList_nil ?_
            refine then_n ?_
            refine wp_cond_true (hs.ev rfl) ?_
            refine wp_seq ?_
            replace hs : St 55 ⟨w0, [], [(true, .cel (.slice ad l.length c) l.length (bcs l))], Z, noX⟩ [(2, true, .int .i64 0), (3, true, .int .i64 0), (4, true, .bool false)] [] ac _ := hs.re ⟨rfl, rfl, rfl, trivial⟩
            refine wp_region_lit ?_
            refine lstep (wpO_plain rfl (op_assign hs none rfl rfl rfl rfl fun ac hs => ?_))
            refine lstep (wpO_plain rfl (op_assign hs none rfl rfl rfl rfl fun ac hs => ?_))
            refine lstep (wpO_plain rfl (op_assign hs none rfl rfl rfl rfl fun ac hs => ?_))
            refine wpList_nil ?_
            refine then_n ?_
            refine wp_ret ?_
            refine blk_r ?_
            refine then_r ?_
            exact bodyPost_ret (res3 rfl (rv_t hs rfl) (rv_t hs rfl) (rv_t hs rfl)) hs.defers ⟨(), by obtain ⟨rfl, rfl, rfl⟩ := t3 ((tld_4 (by omega)).symm.trans hT); rfl, hs.bel rfl, okl0⟩
        · skip
          refine wp_region_lit ?_
          refine lstep (wpO_plain rfl (op_move hs none rfl rfl rfl rfl fun ac hs => ?_))
          refine lstep (wpO_plain rfl (op_bin hs none (v := .bool false) rfl rfl rfl rfl (fun _ => rfl) (fun w => dF hq14 (bin_eqlN (x := byt l 0) (y := 77) w)) rfl fun ac hs => ?_))
          refine lstep (wpO_plain rfl (op_move hs none rfl rfl rfl rfl fun ac hs => ?_))
          refine lstep (wpO_out hs none rfl rfl (.inl rfl) rfl rfl fun ac hs => ?_)
          refine lstep (wpO_out hs none rfl rfl (.inl rfl) rfl rfl fun ac hs => ?_)
          refine lstep (wpO_out hs none rfl rfl (.inl rfl) rfl rfl fun ac hs => ?_)
          refine lstep (wpO_plain rfl (op_pickF hs none rfl rfl rfl rfl rfl fun ac hs => ?_))
          refine lstep (wpO_plain rfl (op_assign hs none rfl rfl rfl rfl fun ac hs => ?_))
          refine wpList_nil ?_
          refine then_n ?_
          refine wp_cond_false (hs.ev rfl) ?_
          refine wp_seq ?_
          replace hs : St 55 ⟨w0, [], [(true, .cel (.slice ad l.length c) l.length (bcs l))], Z, noX⟩ [(2, true, .int .i64 0), (3, true, .int .i64 0), (4, true, .bool false), (5, true, .int .u8 ((byt l 0 : Nat) : Int))] [] ac _ := hs.re ⟨rfl, rfl, rfl, rfl, trivial⟩
          refine wp_region_lit ?_
          refine lstep (wpO_plain rfl (op_move hs none rfl rfl rfl rfl fun ac hs => ?_))
          refine lstep (wpO_plain rfl (op_bin hs none (v := .bool false) rfl rfl rfl rfl (fun _ => rfl) (fun w => dF hq5 (bin_eqlN (x := byt l 0) (y := 76) w)) rfl fun ac hs => ?_))
          refine lstep (wpO_plain rfl (op_move hs none rfl rfl rfl rfl fun ac hs => ?_))
          refine lstep (wpO_in hs rfl rfl rfl (op_move hs none rfl rfl rfl rfl fun ac hs => ?_))
          refine lstep (wpO_in hs rfl rfl rfl (op_bin hs none (v := .bool false) rfl rfl rfl rfl (fun _ => rfl) (fun w => dF hq14 (bin_eqlN (x := byt l 0) (y := 77) w)) rfl fun ac hs => ?_))
          refine lstep (wpO_plain rfl (op_pickF hs none rfl rfl rfl rfl rfl fun ac hs => ?_))
          refine lstep (wpO_plain rfl (op_assign hs none rfl rfl rfl rfl fun ac hs => ?_))
          refine wpList_nil ?_
          refine then_n ?_
          refine wp_cond_false (hs.ev rfl) ?_
          refine wp_skip ?_
          refine blk_n ?_
          refine then_n ?_
          refine wp_seq ?_
          replace hs : St 55 ⟨w0, [], [(true, .cel (.slice ad l.length c) l.length (bcs l))], Z, noX⟩ [(2, true, .int .i64 0), (3, true, .int .i64 0), (4, true, .bool false)] [] ac _ := hs.re ⟨rfl, rfl, rfl, trivial⟩
          refine wp_region_lit ?_
          refine lstep (wpO_plain rfl (op_assign hs none rfl rfl rfl rfl fun ac hs => ?_))
          refine lstep (wpO_plain rfl (op_assign hs none rfl rfl rfl rfl fun ac hs => ?_))
          refine lstep (wpO_plain rfl (op_assign hs none rfl rfl rfl rfl fun ac hs => ?_))
          refine wpList_nil ?_
          refine then_n ?_
          refine wp_ret ?_
          exact bodyPost_ret (res3 rfl (rv_t hs rfl) (rv_t hs rfl) (rv_t hs rfl)) hs.defers ⟨(), by obtain ⟨rfl, rfl, rfl⟩ := t3 ((tld_5 (by omega) (by omega) (by omega)).symm.trans hT); rfl, hs.bel rfl, okl0⟩
  · skip
    replace hs : St 55 ⟨w0, [], [(true, .cel (.slice ad l.length c) l.length (bcs l))], Z, noX⟩ [(0, true, .slice ad l.length c), (2, true, .int .i64 0), (3, true, .int .i64 0), (4, true, .bool false), (5, true, .int .u8 ((byt l 0 : Nat) : Int))] [] ac _ := hs.re ⟨rfl, rfl, rfl, rfl, rfl, trivial⟩
    refine wp_region_lit ?_
    refine lstep (wpO_plain rfl (op_move hs none rfl rfl rfl rfl fun ac hs => ?_))
    refine lstep (wpO_plain rfl (op_bin hs none (v := .bool false) rfl rfl rfl rfl (fun _ => rfl) (fun w => dF hq2 (bin_gtrN (x := byt l 0) (y := 0) w)) rfl fun ac hs => ?_))
    refine lstep (wpO_plain rfl (op_move hs none rfl rfl rfl rfl fun ac hs => ?_))
    refine lstep (wpO_out hs none rfl rfl (.inl rfl) rfl rfl fun ac hs => ?_)
    refine lstep (wpO_out hs none rfl rfl (.inl rfl) rfl rfl fun ac hs => ?_)
    refine lstep (wpO_plain rfl (op_pickF hs none rfl rfl rfl rfl rfl fun ac hs => ?_))
    refine lstep (wpO_plain rfl (op_assign hs none rfl rfl rfl rfl fun ac hs => ?_))
    refine wpList_nil ?_
    refine then_n ?_
    refine wp_cond_false (hs.ev rfl) ?_
    refine wp_seq ?_
    by_cases hq19 : byt l 0 = 76
    · skip
      refine wp_region_lit ?_
      refine lstep (wpO_plain rfl (op_move hs none rfl rfl rfl rfl fun ac hs => ?_))
      refine lstep (wpO_plain rfl (op_bin hs none (v := .bool true) rfl rfl rfl rfl (fun _ => rfl) (fun w => dT hq19 (bin_eqlN (x := byt l 0) (y := 76) w)) rfl fun ac hs => ?_))
      refine lstep (wpO_plain rfl (op_move hs none rfl rfl rfl rfl fun ac hs => ?_))
      refine lstep (wpO_in hs rfl rfl rfl (op_move hs none rfl rfl rfl rfl fun ac hs => ?_))
      refine lstep (wpO_in hs rfl rfl rfl (op_blt hs none (v := .int .i64 ((l.length : Nat) : Int)) rfl rfl rfl (blt_len Try.underlying22) rfl fun ac hs => ?_))
      refine lstep (wpO_in hs rfl rfl rfl (op_bin hs none (v := .bool (decide (1 < l.length))) rfl rfl rfl rfl (fun _ => rfl) (bin_gtrN (x := l.length) (y := 1)) rfl fun ac hs => ?_))
      refine lstep (wpO_plain rfl (op_pickT hs none rfl rfl rfl rfl rfl fun ac hs => ?_))
      refine lstep (wpO_plain rfl (op_assign hs none rfl rfl rfl rfl fun ac hs => ?_))
      refine wpList_nil ?_
      refine then_n ?_
      refine wp_cond_split (hs.ev rfl) (fun hc => ?_) (fun hc => ?_)
      · skip
        have hp20 := of_decide_eq_true hc
        refine wp_seq ?_
        replace hs : St 55 ⟨w0, [], [(true, .cel (.slice ad l.length c) l.length (bcs l))], Z, noX⟩ [(0, true, .slice ad l.length c), (2, true, .int .i64 0), (3, true, .int .i64 0), (4, true, .bool false)] [] ac _ := hs.re ⟨rfl, rfl, rfl, rfl, trivial⟩
        refine wp_region_lit ?_
        refine lstep (wpO_plain rfl (op_move hs none rfl rfl rfl rfl fun ac hs => ?_))
        refine lstep (wpO_plain rfl (op_idxC hs none 0 (j := 1) rfl rfl rfl rfl rfl Try.underlying22 Try.sizeOf5 (show 1 < l.length by omega) (off := 1) (by omega) rfl fun ac hs => ?_))
        have l21 := byt_lt l 1
        refine lstep (wpO_plain rfl (op_loadC hs none 0 (u := .int .u8 ((byt l 1 : Nat) : Int)) rfl rfl rfl rfl Try.isAgg5 Try.sizeOf5 (by decide) (bcs_get (show 1 < l.length by omega)) rfl fun ac hs => ?_))
        refine lstep (wpO_plain rfl (op_convert hs none (v := .int .i64 ((byt l 1 : Nat) : Int)) rfl rfl rfl (conv_N Try.underlying5 Try.underlying3 (show byt l 1 < 9223372036854775808 by omega)) rfl fun ac hs => ?_))
        refine lstep (wpO_plain rfl (op_assign hs none rfl rfl rfl rfl fun ac hs => ?_))
        refine lstep (wpO_plain rfl (op_assign hs none rfl rfl rfl rfl fun ac hs => ?_))
        refine lstep (wpO_plain rfl (op_assign hs none rfl rfl rfl rfl fun ac hs => ?_))
        refine wpList_nil ?_
        refine then_n ?_
        refine wp_ret ?_
        refine blk_r ?_
        refine then_r ?_
        exact bodyPost_ret (res3 rfl (rv_t hs rfl) (rv_t hs rfl) (rv_t hs rfl)) hs.defers ⟨(), by obtain ⟨rfl, rfl, rfl⟩ := t3 ((tld_2 (by omega) (by omega)).symm.trans hT); rfl, hs.bel rfl, okl0⟩
      · skip
        have hp22 := of_decide_eq_false hc
        refine wp_seq ?_
        by_cases hq23 : byt l 0 = 77
        · skip
          replace hs : St 55 ⟨w0, [], [(true, .cel (.slice ad l.length c) l.length (bcs l))], Z, noX⟩ [(0, true, .slice ad l.length c), (2, true, .int .i64 0), (3, true, .int .i64 0), (4, true, .bool false), (5, true, .int .u8 ((byt l 0 : Nat) : Int))] [] ac _ := hs.re ⟨rfl, rfl, rfl, rfl, rfl, trivial⟩
          refine wp_region_lit ?_
          refine lstep (wpO_plain rfl (op_move hs none rfl rfl rfl rfl fun ac hs => ?_))
          refine lstep (wpO_plain rfl (op_bin hs none (v := .bool true) rfl rfl rfl rfl (fun _ => rfl) (fun w => dT hq23 (bin_eqlN (x := byt l 0) (y := 77) w)) rfl fun ac hs => ?_))
          refine lstep (wpO_plain rfl (op_move hs none rfl rfl rfl rfl fun ac hs => ?_))
          refine lstep (wpO_in hs rfl rfl rfl (op_move hs none rfl rfl rfl rfl fun ac hs => ?_))
          refine lstep (wpO_in hs rfl rfl rfl (op_blt hs none (v := .int .i64 ((l.length : Nat) : Int)) rfl rfl rfl (blt_len Try.underlying22) rfl fun ac hs => ?_))
          refine lstep (wpO_in hs rfl rfl rfl (op_bin hs none (v := .bool (decide (2 < l.length))) rfl rfl rfl rfl (fun _ => rfl) (bin_gtrN (x := l.length) (y := 2)) rfl fun ac hs => ?_))
          refine lstep (wpO_plain rfl (op_pickT hs none rfl rfl rfl rfl rfl fun ac hs => ?_))
          refine lstep (wpO_plain rfl (op_assign hs none rfl rfl rfl rfl fun ac hs => ?_))
          refine wpList_nil ?_
          refine then_n ?_
          refine wp_cond_split (hs.ev rfl) (fun hc => ?_) (fun hc => ?_)
          · skip
            have hp24 := of_decide_eq_true hc
            refine wp_seq ?_
            replace hs : St 55 ⟨w0, [], [(true, .cel (.slice ad l.length c) l.length (bcs l))], Z, noX⟩ [(0, true, .slice ad l.length c), (2, true, .int .i64 0), (3, true, .int .i64 0), (4, true, .bool false)] [] ac _ := hs.re ⟨rfl, rfl, rfl, rfl, trivial⟩
            have l25 := byt_lt l 1
            have l26 := byt_lt l 2
            refine region_inv [([], [1, 2, 3, 9, 10, 11, 12]), ([0], [2, 3, 9, 10, 11, 12]), ([0, 1], [3, 9, 10, 11, 12]), ([0, 1, 2], [9, 10, 11, 12]), ([], [5, 6, 7, 8, 9, 10, 11, 12]), ([4], [6, 7, 8, 9, 10, 11, 12]), ([4, 5], [7, 8, 9, 10, 11, 12]), ([4, 5, 6], [8, 9, 10, 11, 12]), ([4, 5, 6, 7], [9, 10, 11, 12]), ([0, 1, 2, 3, 4, 5, 6, 7, 8], [10, 11, 12]), ([0, 1, 2, 3, 4, 5, 6, 7, 8, 9], [11, 12]), ([0, 1, 2, 3, 4, 5, 6, 7, 8, 9, 10], [12]), ([0, 1, 2, 3, 4, 5, 6, 7, 8, 9, 10, 11], [])] (fun L ac w => St 55 ⟨w0, [], [(true, .cel (.slice ad l.length c) l.length (bcs l))], Z, noX⟩ [(38, L 0, .slice ad l.length c), (39, L 1, vidx (.slice ad l.length c) 1), (40, L 2, .int .u8 ((byt l 1 : Nat) : Int)), (41, L 3, .int .i64 ((byt l 1 : Nat) : Int)), (42, L 4, .slice ad l.length c), (43, L 5, vidx (.slice ad l.length c) 2), (44, L 6, .int .u8 ((byt l 2 : Nat) : Int)), (45, L 7, .int .i64 ((byt l 2 : Nat) : Int)), (46, L 8, .int .i64 (((byt l 2) * 2 ^ 8 : Nat) : Int)), (47, L 9, .int .i64 ((byt l 1 + 256 * (byt l 2) : Nat) : Int)), (2, L 10, .int .i64 ((byt l 1 + 256 * (byt l 2) : Nat) : Int)), (3, L 11, .int .i64 3), (4, L 12, .bool true), (0, true, .slice ad l.length c), (2, true, .int .i64 0), (3, true, .int .i64 0), (4, true, .bool false)] [] ac w) (by kernel_rfl) (by kernel_rfl) ?_ ?_ ?_
            · exact hs.drew.skip.skip.skip.skip.skip.skip.skip.skip.skip.skip.skip.skip.skip
            · refine ⟨?_, ?_, ?_, ?_, ?_, ?_, ?_, ?_, ?_, ?_, ?_, ?_, ?_, trivial⟩
              · intro L ac w hJ
                have hs := hJ
                refine wpO_plain rfl (op_move hs (some 0) rfl rfl rfl rfl fun ac hs => ?_)
                exact hs
              · intro L ac w hJ
                have hs := hJ
                refine wpO_plain rfl (op_idxC hs (some 1) 0 (j := 1) rfl rfl rfl rfl rfl Try.underlying22 Try.sizeOf5 (show 1 < l.length by omega) (off := 1) (by omega) rfl fun ac hs => ?_)
                exact hs
              · intro L ac w hJ
                have hs := hJ
                refine wpO_plain rfl (op_loadC hs (some 2) 0 (u := .int .u8 ((byt l 1 : Nat) : Int)) rfl rfl rfl rfl Try.isAgg5 Try.sizeOf5 (by decide) (bcs_get (show 1 < l.length by omega)) rfl fun ac hs => ?_)
                exact hs
              · intro L ac w hJ
                have hs := hJ
                refine wpO_plain rfl (op_convert hs (some 3) (v := .int .i64 ((byt l 1 : Nat) : Int)) rfl rfl rfl (conv_N Try.underlying5 Try.underlying3 (show byt l 1 < 9223372036854775808 by omega)) rfl fun ac hs => ?_)
                exact hs
              · intro L ac w hJ
                have hs := hJ
                refine wpO_plain rfl (op_move hs (some 4) rfl rfl rfl rfl fun ac hs => ?_)
                exact hs
              · intro L ac w hJ
                have hs := hJ
                refine wpO_plain rfl (op_idxC hs (some 5) 0 (j := 2) rfl rfl rfl rfl rfl Try.underlying22 Try.sizeOf5 (show 2 < l.length by omega) (off := 2) (by omega) rfl fun ac hs => ?_)
                exact hs
              · intro L ac w hJ
                have hs := hJ
                refine wpO_plain rfl (op_loadC hs (some 6) 0 (u := .int .u8 ((byt l 2 : Nat) : Int)) rfl rfl rfl rfl Try.isAgg5 Try.sizeOf5 (by decide) (bcs_get (show 2 < l.length by omega)) rfl fun ac hs => ?_)
                exact hs
              · intro L ac w hJ
                have hs := hJ
                refine wpO_plain rfl (op_convert hs (some 7) (v := .int .i64 ((byt l 2 : Nat) : Int)) rfl rfl rfl (conv_N Try.underlying5 Try.underlying3 (show byt l 2 < 9223372036854775808 by omega)) rfl fun ac hs => ?_)
                exact hs
              · intro L ac w hJ
                have hs := hJ
                refine wpO_plain rfl (op_bin hs (some 8) (v := .int .i64 (((byt l 2) * 2 ^ 8 : Nat) : Int)) rfl rfl rfl rfl (fun _ => rfl) (bin_shlN (x := byt l 2) (y := 8) (z := (byt l 2) * 2 ^ 8) rfl (by decide) (show (byt l 2) * 2 ^ 8 < 9223372036854775808 by omega)) rfl fun ac hs => ?_)
                exact hs
              · intro L ac w hJ
                have hs := hJ
                refine wpO_plain rfl (op_bin hs (some 9) (v := .int .i64 ((byt l 1 + 256 * (byt l 2) : Nat) : Int)) rfl rfl rfl rfl (fun _ => rfl) (bin_orN (x := byt l 1) (y := (byt l 2) * 2 ^ 8) (z := byt l 1 + 256 * (byt l 2)) (or_256 (byt_lt _ _)) (show byt l 1 < 2 ^ 64 by omega) (show (byt l 2) * 2 ^ 8 < 2 ^ 64 by omega) (show byt l 1 + 256 * (byt l 2) < 9223372036854775808 by omega)) rfl fun ac hs => ?_)
                exact hs
              · intro L ac w hJ
                have hs := hJ
                refine wpO_plain rfl (op_assign hs (some 10) rfl rfl rfl rfl fun ac hs => ?_)
                exact hs
              · intro L ac w hJ
                have hs := hJ
                refine wpO_plain rfl (op_assign hs (some 11) rfl rfl rfl rfl fun ac hs => ?_)
                exact hs
              · intro L ac w hJ
                have hs := hJ
                refine wpO_plain rfl (op_assign hs (some 12) rfl rfl rfl rfl fun ac hs => ?_)
                exact hs
            intro ac w hJ
            replace hs : St 55 ⟨w0, [], [(true, .cel (.slice ad l.length c) l.length (bcs l))], Z, noX⟩ [(38, true, .slice ad l.length c), (39, true, vidx (.slice ad l.length c) 1), (40, true, .int .u8 ((byt l 1 : Nat) : Int)), (41, true, .int .i64 ((byt l 1 : Nat) : Int)), (42, true, .slice ad l.length c), (43, true, vidx (.slice ad l.length c) 2), (44, true, .int .u8 ((byt l 2 : Nat) : Int)), (45, true, .int .i64 ((byt l 2 : Nat) : Int)), (46, true, .int .i64 (((byt l 2) * 2 ^ 8 : Nat) : Int)), (47, true, .int .i64 ((byt l 1 + 256 * (byt l 2) : Nat) : Int)), (2, true, .int .i64 ((byt l 1 + 256 * (byt l 2) : Nat) : Int)), (3, true, .int .i64 3), (4, true, .bool true), (0, true, .slice ad l.length c), (2, true, .int .i64 0), (3, true, .int .i64 0), (4, true, .bool false)] [] ac w := hJ
            refine then_n ?_
            refine wp_ret ?_
            refine blk_r ?_
            refine then_r ?_
            exact bodyPost_ret (res3 rfl (rv_t hs rfl) (rv_t hs rfl) (rv_t hs rfl)) hs.defers ⟨(), by obtain ⟨rfl, rfl, rfl⟩ := t3 ((tld_3 (by omega) (by omega)).symm.trans hT); rfl, hs.bel rfl, okl0⟩
          · skip
            have hp27 := of_decide_eq_false hc
            refine wp_seq ?_
            replace hs : St 55 ⟨w0, [], [(true, .cel (.slice ad l.length c) l.length (bcs l))], Z, noX⟩ [(2, true, .int .i64 0), (3, true, .int .i64 0), (4, true, .bool false), (5, true, .int .u8 ((byt l 0 : Nat) : Int))] [] ac _ := hs.re ⟨rfl, rfl, rfl, rfl, trivial⟩
            refine wp_region_lit ?_
            refine lstep (wpO_plain rfl (op_move hs none rfl rfl rfl rfl fun ac hs => ?_))
            refine lstep (wpO_plain rfl (op_bin hs none (v := .bool true) rfl rfl rfl rfl (fun _ => rfl) (fun w => dT hq19 (bin_eqlN (x := byt l 0) (y := 76) w)) rfl fun ac hs => ?_))
            refine lstep (wpO_plain rfl (op_move hs none rfl rfl rfl rfl fun ac hs => ?_))
            refine lstep (wpO_out hs none rfl rfl (.inl rfl) rfl rfl fun ac hs => ?_)
            refine lstep (wpO_out hs none rfl rfl (.inl rfl) rfl rfl fun ac hs => ?_)
            refine lstep (wpO_plain rfl (op_pickT hs none rfl rfl rfl rfl rfl fun ac hs => ?_))
            refine lstep (wpO_plain rfl (op_assign hs none rfl rfl rfl rfl fun ac hs => ?_))
            refine wpList_nil ?_
            refine then_n ?_
            refine wp_cond_true (hs.ev rfl) ?_
            refine wp_seq ?_
            refine wp_region_lit ?_
            refine lstep (wpO_plain rfl (op_assign hs none rfl rfl rfl rfl fun ac hs => ?_))
            refine lstep (wpO_plain rfl (op_assign hs none rfl rfl rfl rfl fun ac hs => ?_))
            refine lstep (wpO_plain rfl (op_assign hs none rfl rfl rfl rfl fun ac hs => ?_))
            refine wpList_nil ?_
            refine then_n ?_
            refine wp_ret ?_
            refine blk_r ?_
            refine then_r ?_
            exact bodyPost_ret (res3 rfl (rv_t hs rfl) (rv_t hs rfl) (rv_t hs rfl)) hs.defers ⟨(), by obtain ⟨rfl, rfl, rfl⟩ := t3 ((tld_4 (by omega)).symm.trans hT); rfl, hs.bel rfl, okl0⟩
        · skip
          replace hs : St 55 ⟨w0, [], [(true, .cel (.slice ad l.length c) l.length (bcs l))], Z, noX⟩ [(0, true, .slice ad l.length c), (2, true, .int .i64 0), (3, true, .int .i64 0), (4, true, .bool false), (5, true, .int .u8 ((byt l 0 : Nat) : Int))] [] ac _ := hs.re ⟨rfl, rfl, rfl, rfl, rfl, trivial⟩
          refine wp_region_lit ?_
          refine lstep (wpO_plain rfl (op_move hs none rfl rfl rfl rfl fun ac hs => ?_))
          refine lstep (wpO_plain rfl (op_bin hs none (v := .bool false) rfl rfl rfl rfl (fun _ => rfl) (fun w => dF hq23 (bin_eqlN (x := byt l 0) (y := 77) w)) rfl fun ac hs => ?_))
          refine lstep (wpO_plain rfl (op_move hs none rfl rfl rfl rfl fun ac hs => ?_))
          refine lstep (wpO_out hs none rfl rfl (.inl rfl) rfl rfl fun ac hs => ?_)
          refine lstep (wpO_out hs none rfl rfl (.inl rfl) rfl rfl fun ac hs => ?_)
          refine lstep (wpO_out hs none rfl rfl (.inl rfl) rfl rfl fun ac hs => ?_)
          refine lstep (wpO_plain rfl (op_pickF hs none rfl rfl rfl rfl rfl fun ac hs => ?_))
          refine lstep (wpO_plain rfl (op_assign hs none rfl rfl rfl rfl fun ac hs => ?_))
          refine wpList_nil ?_
          refine then_n ?_
          refine wp_cond_false (hs.ev rfl) ?_
          refine wp_seq ?_
          refine wp_region_lit ?_
          refine lstep (wpO_plain rfl (op_move hs none rfl rfl rfl rfl fun ac hs => ?_))
          refine lstep (wpO_plain rfl (op_bin hs none (v := .bool true) rfl rfl rfl rfl (fun _ => rfl) (fun w => dT hq19 (bin_eqlN (x := byt l 0) (y := 76) w)) rfl fun ac hs => ?_))
          refine lstep (wpO_plain rfl (op_move hs none rfl rfl rfl rfl fun ac hs => ?_))
          refine lstep (wpO_out hs none rfl rfl (.inl rfl) rfl rfl fun ac hs => ?_)
          refine lstep (wpO_out hs none rfl rfl (.inl rfl) rfl rfl fun ac hs => ?_)
          refine lstep (wpO_plain rfl (op_pickT hs none rfl rfl rfl rfl rfl fun ac hs => ?_))
          refine lstep (wpO_plain rfl (op_assign hs none rfl rfl rfl rfl fun ac hs => ?_))
          refine wpList_nil ?_
          refine then_n ?_
          refine wp_cond_true (hs.ev rfl) ?_
          refine wp_seq ?_
          replace hs : St 55 ⟨w0, [], [(true, .cel (.slice ad l.length c) l.length (bcs l))], Z, noX⟩ [(2, true, .int .i64 0), (3, true, .int .i64 0), (4, true, .bool false)] [] ac _ := hs.re ⟨rfl, rfl, rfl, trivial⟩
          refine wp_region_lit ?_
          refine lstep (wpO_plain rfl (op_assign hs none rfl rfl rfl rfl fun ac hs => ?_))
          refine lstep (wpO_plain rfl (op_assign hs none rfl rfl rfl rfl fun ac hs => ?_))
          refine lstep (wpO_plain rfl (op_assign hs none rfl rfl rfl rfl fun ac hs => ?_))
          refine wpList_nil ?_
          refine then_n ?_
          refine wp_ret ?_
          refine blk_r ?_
          refine then_r ?_
          exact bodyPost_ret (res3 rfl (rv_t hs rfl) (rv_t hs rfl) (rv_t hs rfl)) hs.defers ⟨(), by obtain ⟨rfl, rfl, rfl⟩ := t3 ((tld_4 (by omega)).symm.trans hT); rfl, hs.bel rfl, okl0⟩
    · skip
      refine wp_region_lit ?_
      refine lstep (wpO_plain rfl (op_move hs none rfl rfl rfl rfl fun ac hs => ?_))
      refine lstep (wpO_plain rfl (op_bin hs none (v := .bool false) rfl rfl rfl rfl (fun _ => rfl) (fun w => dF hq19 (bin_eqlN (x := byt l 0) (y := 76) w)) rfl fun ac hs => ?_))
      refine lstep (wpO_plain rfl (op_move hs none rfl rfl rfl rfl fun ac hs => ?_))
      refine lstep (wpO_out hs none rfl rfl (.inl rfl) rfl rfl fun ac hs => ?_)
      refine lstep (wpO_out hs none rfl rfl (.inl rfl) rfl rfl fun ac hs => ?_)
      refine lstep (wpO_out hs none rfl rfl (.inl rfl) rfl rfl fun ac hs => ?_)
      refine lstep (wpO_plain rfl (op_pickF hs none rfl rfl rfl rfl rfl fun ac hs => ?_))
      refine lstep (wpO_plain rfl (op_assign hs none rfl rfl rfl rfl fun ac hs => ?_))
      refine wpList_nil ?_
      refine then_n ?_
      refine wp_cond_false (hs.ev rfl) ?_
      refine wp_seq ?_
      by_cases hq28 : byt l 0 = 77
      · skip
        replace hs : St 55 ⟨w0, [], [(true, .cel (.slice ad l.length c) l.length (bcs l))], Z, noX⟩ [(0, true, .slice ad l.length c), (2, true, .int .i64 0), (3, true, .int .i64 0), (4, true, .bool false), (5, true, .int .u8 ((byt l 0 : Nat) : Int))] [] ac _ := hs.re ⟨rfl, rfl, rfl, rfl, rfl, trivial⟩
        refine wp_region_lit ?_
        refine lstep (wpO_plain rfl (op_move hs none rfl rfl rfl rfl fun ac hs => ?_))
        refine lstep (wpO_plain rfl (op_bin hs none (v := .bool true) rfl rfl rfl rfl (fun _ => rfl) (fun w => dT hq28 (bin_eqlN (x := byt l 0) (y := 77) w)) rfl fun ac hs => ?_))
        refine lstep (wpO_plain rfl (op_move hs none rfl rfl rfl rfl fun ac hs => ?_))
        refine lstep (wpO_in hs rfl rfl rfl (op_move hs none rfl rfl rfl rfl fun ac hs => ?_))
        refine lstep (wpO_in hs rfl rfl rfl (op_blt hs none (v := .int .i64 ((l.length : Nat) : Int)) rfl rfl rfl (blt_len Try.underlying22) rfl fun ac hs => ?_))
        refine lstep (wpO_in hs rfl rfl rfl (op_bin hs none (v := .bool (decide (2 < l.length))) rfl rfl rfl rfl (fun _ => rfl) (bin_gtrN (x := l.length) (y := 2)) rfl fun ac hs => ?_))
        refine lstep (wpO_plain rfl (op_pickT hs none rfl rfl rfl rfl rfl fun ac hs => ?_))
        refine lstep (wpO_plain rfl (op_assign hs none rfl rfl rfl rfl fun ac hs => ?_))
        refine wpList_nil ?_
        refine then_n ?_
        refine wp_cond_split (hs.ev rfl) (fun hc => ?_) (fun hc => ?_)
        · skip
          have hp29 := of_decide_eq_true hc
          refine wp_seq ?_
          replace hs : St 55 ⟨w0, [], [(true, .cel (.slice ad l.length c) l.length (bcs l))], Z, noX⟩ [(0, true, .slice ad l.length c), (2, true, .int .i64 0), (3, true, .int .i64 0), (4, true, .bool false)] [] ac _ := hs.re ⟨rfl, rfl, rfl, rfl, trivial⟩
          have l30 := byt_lt l 1
          have l31 := byt_lt l 2
          refine region_inv [([], [1, 2, 3, 9, 10, 11, 12]), ([0], [2, 3, 9, 10, 11, 12]), ([0, 1], [3, 9, 10, 11, 12]), ([0, 1, 2], [9, 10, 11, 12]), ([], [5, 6, 7, 8, 9, 10, 11, 12]), ([4], [6, 7, 8, 9, 10, 11, 12]), ([4, 5], [7, 8, 9, 10, 11, 12]), ([4, 5, 6], [8, 9, 10, 11, 12]), ([4, 5, 6, 7], [9, 10, 11, 12]), ([0, 1, 2, 3, 4, 5, 6, 7, 8], [10, 11, 12]), ([0, 1, 2, 3, 4, 5, 6, 7, 8, 9], [11, 12]), ([0, 1, 2, 3, 4, 5, 6, 7, 8, 9, 10], [12]), ([0, 1, 2, 3, 4, 5, 6, 7, 8, 9, 10, 11], [])] (fun L ac w => St 55 ⟨w0, [], [(true, .cel (.slice ad l.length c) l.length (bcs l))], Z, noX⟩ [(38, L 0, .slice ad l.length c), (39, L 1, vidx (.slice ad l.length c) 1), (40, L 2, .int .u8 ((byt l 1 : Nat) : Int)), (41, L 3, .int .i64 ((byt l 1 : Nat) : Int)), (42, L 4, .slice ad l.length c), (43, L 5, vidx (.slice ad l.length c) 2), (44, L 6, .int .u8 ((byt l 2 : Nat) : Int)), (45, L 7, .int .i64 ((byt l 2 : Nat) : Int)), (46, L 8, .int .i64 (((byt l 2) * 2 ^ 8 : Nat) : Int)), (47, L 9, .int .i64 ((byt l 1 + 256 * (byt l 2) : Nat) : Int)), (2, L 10, .int .i64 ((byt l 1 + 256 * (byt l 2) : Nat) : Int)), (3, L 11, .int .i64 3), (4, L 12, .bool true), (0, true, .slice ad l.length c), (2, true, .int .i64 0), (3, true, .int .i64 0), (4, true, .bool false)] [] ac w) (by kernel_rfl) (by kernel_rfl) ?_ ?_ ?_
          · exact hs.drew.skip.skip.skip.skip.skip.skip.skip.skip.skip.skip.skip.skip.skip
          · refine ⟨?_, ?_, ?_, ?_, ?_, ?_, ?_, ?_, ?_, ?_, ?_, ?_, ?_, trivial⟩
            · intro L ac w hJ
              have hs := hJ
              refine wpO_plain rfl (op_move hs (some 0) rfl rfl rfl rfl fun ac hs => ?_)
              exact hs
            · intro L ac w hJ
              have hs := hJ
              refine wpO_plain rfl (op_idxC hs (some 1) 0 (j := 1) rfl rfl rfl rfl rfl Try.underlying22 Try.sizeOf5 (show 1 < l.length by omega) (off := 1) (by omega) rfl fun ac hs => ?_)
              exact hs
            · intro L ac w hJ
              have hs := hJ
              refine wpO_plain rfl (op_loadC hs (some 2) 0 (u := .int .u8 ((byt l 1 : Nat) : Int)) rfl rfl rfl rfl Try.isAgg5 Try.sizeOf5 (by decide) (bcs_get (show 1 < l.length by omega)) rfl fun ac hs => ?_)
              exact hs
            · intro L ac w hJ
              have hs := hJ
              refine wpO_plain rfl (op_convert hs (some 3) (v := .int .i64 ((byt l 1 : Nat) : Int)) rfl rfl rfl (conv_N Try.underlying5 Try.underlying3 (show byt l 1 < 9223372036854775808 by omega)) rfl fun ac hs => ?_)
              exact hs
            · intro L ac w hJ
              have hs := hJ
              refine wpO_plain rfl (op_move hs (some 4) rfl rfl rfl rfl fun ac hs => ?_)
              exact hs
            · intro L ac w hJ
              have hs := hJ
              refine wpO_plain rfl (op_idxC hs (some 5) 0 (j := 2) rfl rfl rfl rfl rfl Try.underlying22 Try.sizeOf5 (show 2 < l.length by omega) (off := 2) (by omega) rfl fun ac hs => ?_)
              exact hs
            · intro L ac w hJ
              have hs := hJ
              refine wpO_plain rfl (op_loadC hs (some 6) 0 (u := .int .u8 ((byt l 2 : Nat) : Int)) rfl rfl rfl rfl Try.isAgg5 Try.sizeOf5 (by decide) (bcs_get (show 2 < l.length by omega)) rfl fun ac hs => ?_)
              exact hs
            · intro L ac w hJ
              have hs := hJ
              refine wpO_plain rfl (op_convert hs (some 7) (v := .int .i64 ((byt l 2 : Nat) : Int)) rfl rfl rfl (conv_N Try.underlying5 Try.underlying3 (show byt l 2 < 9223372036854775808 by omega)) rfl fun ac hs => ?_)
              exact hs
            · intro L ac w hJ
              have hs := hJ
              refine wpO_plain rfl (op_bin hs (some 8) (v := .int .i64 (((byt l 2) * 2 ^ 8 : Nat) : Int)) rfl rfl rfl rfl (fun _ => rfl) (bin_shlN (x := byt l 2) (y := 8) (z := (byt l 2) * 2 ^ 8) rfl (by decide) (show (byt l 2) * 2 ^ 8 < 9223372036854775808 by omega)) rfl fun ac hs => ?_)
              exact hs
            · intro L ac w hJ
              have hs := hJ
              refine wpO_plain rfl (op_bin hs (some 9) (v := .int .i64 ((byt l 1 + 256 * (byt l 2) : Nat) : Int)) rfl rfl rfl rfl (fun _ => rfl) (bin_orN (x := byt l 1) (y := (byt l 2) * 2 ^ 8) (z := byt l 1 + 256 * (byt l 2)) (or_256 (byt_lt _ _)) (show byt l 1 < 2 ^ 64 by omega) (show (byt l 2) * 2 ^ 8 < 2 ^ 64 by omega) (show byt l 1 + 256 * (byt l 2) < 9223372036854775808 by omega)) rfl fun ac hs => ?_)
              exact hs
            · intro L ac w hJ
              have hs := hJ
              refine wpO_plain rfl (op_assign hs (some 10) rfl rfl rfl rfl fun ac hs => ?_)
              exact hs
            · intro L ac w hJ
              have hs := hJ
              refine wpO_plain rfl (op_assign hs (some 11) rfl rfl rfl rfl fun ac hs => ?_)
              exact hs
            · intro L ac w hJ
              have hs := hJ
              refine wpO_plain rfl (op_assign hs (some 12) rfl rfl rfl rfl fun ac hs => ?_)
              exact hs
          intro ac w hJ
          replace hs : St 55 ⟨w0, [], [(true, .cel (.slice ad l.length c) l.length (bcs l))], Z, noX⟩ [(38, true, .slice ad l.length c), (39, true, vidx (.slice ad l.length c) 1), (40, true, .int .u8 ((byt l 1 : Nat) : Int)), (41, true, .int .i64 ((byt l 1 : Nat) : Int)), (42, true, .slice ad l.length c), (43, true, vidx (.slice ad l.length c) 2), (44, true, .int .u8 ((byt l 2 : Nat) : Int)), (45, true, .int .i64 ((byt l 2 : Nat) : Int)), (46, true, .int .i64 (((byt l 2) * 2 ^ 8 : Nat) : Int)), (47, true, .int .i64 ((byt l 1 + 256 * (byt l 2) : Nat) : Int)), (2, true, .int .i64 ((byt l 1 + 256 * (byt l 2) : Nat) : Int)), (3, true, .int .i64 3), (4, true, .bool true), (0, true, .slice ad l.length c), (2, true, .int .i64 0), (3, true, .int .i64 0), (4, true, .bool false)] [] ac w := hJ
          refine then_n ?_
          refine wp_ret ?_
          refine blk_r ?_
          refine then_r ?_
          exact bodyPost_ret (res3 rfl (rv_t hs rfl) (rv_t hs rfl) (rv_t hs rfl)) hs.defers ⟨(), by obtain ⟨rfl, rfl, rfl⟩ := t3 ((tld_3 (by omega) (by omega)).symm.trans hT); rfl, hs.bel rfl, okl0⟩
        · skip
          have hp32 := of_decide_eq_false hc
          refine wp_seq ?_
          replace hs : St 55 ⟨w0, [], [(true, .cel (.slice ad l.length c) l.length (bcs l))], Z, noX⟩ [(2, true, .int .i64 0), (3, true, .int .i64 0), (4, true, .bool false), (5, true, .int .u8 ((byt l 0 : Nat) : Int))] [] ac _ := hs.re ⟨rfl, rfl, rfl, rfl, trivial⟩
          refine wp_region_lit ?_
          refine lstep (wpO_plain rfl (op_move hs none rfl rfl rfl rfl fun ac hs => ?_))
          refine lstep (wpO_plain rfl (op_bin hs none (v := .bool false) rfl rfl rfl rfl (fun _ => rfl) (fun w => dF hq19 (bin_eqlN (x := byt l 0) (y := 76) w)) rfl fun ac hs => ?_))
          refine lstep (wpO_plain rfl (op_move hs none rfl rfl rfl rfl fun ac hs => ?_))
          refine lstep (wpO_in hs rfl rfl rfl (op_move hs none rfl rfl rfl rfl fun ac hs => ?_))
          refine lstep (wpO_in hs rfl rfl rfl (op_bin hs none (v := .bool true) rfl rfl rfl rfl (fun _ => rfl) (fun w => dT hq28 (bin_eqlN (x := byt l 0) (y := 77) w)) rfl fun ac hs => ?_))
          refine lstep (wpO_plain rfl (op_pickF hs none rfl rfl rfl rfl rfl fun ac hs => ?_))
          refine lstep (wpO_plain rfl (op_assign hs none rfl rfl rfl rfl fun ac hs => ?_))
          refine wpList_nil ?_
          refine then_n ?_
          refine wp_cond_true (hs.ev rfl) ?_
          refine wp_seq ?_
          replace hs : St 55 ⟨w0, [], [(true, .cel (.slice ad l.length c) l.length (bcs l))], Z, noX⟩ [(2, true, .int .i64 0), (3, true, .int .i64 0), (4, true, .bool false)] [] ac _ := hs.re ⟨rfl, rfl, rfl, trivial⟩
          refine wp_region_lit ?_
          refine lstep (wpO_plain rfl (op_assign hs none rfl rfl rfl rfl fun ac hs => ?_))
          refine lstep (wpO_plain rfl (op_assign hs none rfl rfl rfl rfl fun ac hs => ?_))
          refine lstep (wpO_plain rfl (op_assign hs none rfl rfl rfl rfl fun ac hs => ?_))
          refine wpList_nil ?_
          refine then_n ?_
          refine wp_ret ?_
          refine blk_r ?_
          refine then_r ?_
          exact bodyPost_ret (res3 rfl (rv_t hs rfl) (rv_t hs rfl) (rv_t hs rfl)) hs.defers ⟨(), by obtain ⟨rfl, rfl, rfl⟩ := t3 ((tld_4 (by omega)).symm.trans hT); rfl, hs.bel rfl, okl0⟩
      · skip
        replace hs : St 55 ⟨w0, [], [(true, .cel (.slice ad l.length c) l.length (bcs l))], Z, noX⟩ [(0, true, .slice ad l.length c), (2, true, .int .i64 0), (3, true, .int .i64 0), (4, true, .bool false), (5, true, .int .u8 ((byt l 0 : Nat) : Int))] [] ac _ := hs.re ⟨rfl, rfl, rfl, rfl, rfl, trivial⟩
        refine wp_region_lit ?_
        refine lstep (wpO_plain rfl (op_move hs none rfl rfl rfl rfl fun ac hs => ?_))
        refine lstep (wpO_plain rfl (op_bin hs none (v := .bool false) rfl rfl rfl rfl (fun _ => rfl) (fun w => dF hq28 (bin_eqlN (x := byt l 0) (y := 77) w)) rfl fun ac hs => ?_))
        refine lstep (wpO_plain rfl (op_move hs none rfl rfl rfl rfl fun ac hs => ?_))
        refine lstep (wpO_out hs none rfl rfl (.inl rfl) rfl rfl fun ac hs => ?_)
        refine lstep (wpO_out hs none rfl rfl (.inl rfl) rfl rfl fun ac hs => ?_)
        refine lstep (wpO_out hs none rfl rfl (.inl rfl) rfl rfl fun ac hs => ?_)
        refine lstep (wpO_plain rfl (op_pickF hs none rfl rfl rfl rfl rfl fun ac hs => ?_))
        refine lstep (wpO_plain rfl (op_assign hs none rfl rfl rfl rfl fun ac hs => ?_))
        refine wpList_nil ?_
        refine then_n ?_
        refine wp_cond_false (hs.ev rfl) ?_
        refine wp_seq ?_
        refine wp_region_lit ?_
        refine lstep (wpO_plain rfl (op_move hs none rfl rfl rfl rfl fun ac hs => ?_))
        refine lstep (wpO_plain rfl (op_bin hs none (v := .bool false) rfl rfl rfl rfl (fun _ => rfl) (fun w => dF hq19 (bin_eqlN (x := byt l 0) (y := 76) w)) rfl fun ac hs => ?_))
        refine lstep (wpO_plain rfl (op_move hs none rfl rfl rfl rfl fun ac hs => ?_))
        refine lstep (wpO_in hs rfl rfl rfl (op_move hs none rfl rfl rfl rfl fun ac hs => ?_))
        refine lstep (wpO_in hs rfl rfl rfl (op_bin hs none (v := .bool false) rfl rfl rfl rfl (fun _ => rfl) (fun w => dF hq28 (bin_eqlN (x := byt l 0) (y := 77) w)) rfl fun ac hs => ?_))
        refine lstep (wpO_plain rfl (op_pickF hs none rfl rfl rfl rfl rfl fun ac hs => ?_))
        refine lstep (wpO_plain rfl (op_assign hs none rfl rfl rfl rfl fun ac hs => ?_))
        refine wpList_nil ?_
        refine then_n ?_
        refine wp_cond_false (hs.ev rfl) ?_
        refine wp_skip ?_
        refine blk_n ?_
        refine then_n ?_
        refine wp_seq ?_
        replace hs : St 55 ⟨w0, [], [(true, .cel (.slice ad l.length c) l.length (bcs l))], Z, noX⟩ [(2, true, .int .i64 0), (3, true, .int .i64 0), (4, true, .bool false)] [] ac _ := hs.re ⟨rfl, rfl, rfl, trivial⟩
        refine wp_region_lit ?_
        refine lstep (wpO_plain rfl (op_assign hs none rfl rfl rfl rfl fun ac hs => ?_))
        refine lstep (wpO_plain rfl (op_assign hs none rfl rfl rfl rfl fun ac hs => ?_))
        refine lstep (wpO_plain rfl (op_assign hs none rfl rfl rfl rfl fun ac hs => ?_))
        refine wpList_nil ?_
        refine then_n ?_
        refine wp_ret ?_
        exact bodyPost_ret (res3 rfl (rv_t hs rfl) (rv_t hs rfl) (rv_t hs rfl)) hs.defers ⟨(), by obtain ⟨rfl, rfl, rfl⟩ := t3 ((tld_5 (by omega) (by omega) (by omega)).symm.trans hT); rfl, hs.bel rfl, okl0⟩
theorem next_c (ad : Option Addr) (nl c : Nat) (l : List UInt8) (i : Int) (o : Nat) (p : List UInt8) (k er : Nat) (hlen : l.length ≤ 100000) (hN : NX l i = (o, p, k, er)) (w0 : World) (Z : Nat → Prop) (hl : ByV w0 Z (.slice ad nl c) l): Calls Try.prog 10 #[.slice ad nl c, .int .i64 i] w0 fun e w' => Ret w0 Z (ρ := Option Addr × Nat) (fun r => .tuple #[.agg #[.int .u8 ((o : Nat) : Int), .slice r.1 p.length r.2], .int .i64 ((k : Nat) : Int), .int .i64 ((er : Nat) : Int)]) (fun r => [.cel (.slice r.1 p.length r.2) p.length (bcs p)]) e w' := by
  obtain rfl := byv_len hl
  refine enterS (n := 56) (args := [.slice ad l.length c, .int .i64 i]) (S := [(true, .cel (.slice ad l.length c) l.length (bcs l))]) (Z := Z) Try.func10 rfl rfl (Nat.le_of_ble_eq_true rfl) (sokC hl sok0) rfl fun ac hs => ?_
  refine wp_seq ?_
  refine wp_region_lit ?_
  refine lstep (wpO_plain rfl (op_alloc hs none none (cs := [.int .u8 0, .slice none 0 0]) rfl rfl Try.zeroValue25 (by kernel_rfl) rfl rfl fun g1 ac w hs => ?_))
  refine lstep (wpO_plain rfl (op_assign hs none rfl rfl rfl rfl fun ac hs => ?_))
  refine lstep (wpO_plain rfl (op_assign hs none rfl rfl rfl rfl fun ac hs => ?_))
  refine wpList_nil ?_
  refine then_n ?_
  refine wp_seq ?_
  refine wp_seq ?_
  by_cases hq2 : i < 0
  · skip
    refine wp_region_lit ?_
    refine lstep (wpO_plain rfl (op_move hs none rfl rfl rfl rfl fun ac hs => ?_))
    refine lstep (wpO_plain rfl (op_bin hs none (v := .bool true) rfl rfl rfl rfl (fun _ => rfl) (fun w => dT hq2 (bin_lssI (x := i) (y := 0) w)) rfl fun ac hs => ?_))
    refine lstep (wpO_plain rfl (op_move hs none rfl rfl rfl rfl fun ac hs => ?_))
    refine lstep (wpO_out hs none rfl rfl (.inl rfl) rfl rfl fun ac hs => ?_)
    refine lstep (wpO_out hs none rfl rfl (.inl rfl) rfl rfl fun ac hs => ?_)
    refine lstep (wpO_out hs none rfl rfl (.inl rfl) rfl rfl fun ac hs => ?_)
    refine lstep (wpO_out hs none rfl rfl (.inl rfl) rfl rfl fun ac hs => ?_)
    refine lstep (wpO_plain rfl (op_pickT hs none rfl rfl rfl rfl rfl fun ac hs => ?_))
    refine wpList_nil ?_
    refine then_n ?_
    refine wp_cond_true (hs.ev rfl) ?_
    refine wp_seq ?_
    replace hs : St 56 ⟨w0, [], [(true, .cel (.slice ad l.length c) l.length (bcs l))], Z, noX⟩ [(0, true, .slice ad l.length c), (1, true, .int .i64 i), (4, true, .pointer (some ⟨g1, 0, none⟩)), (5, true, .int .i64 0), (6, true, .int .i64 0)] [(true, g1, 25, [.int .u8 0, .slice none 0 0])] ac _ := hs.re ⟨rfl, rfl, rfl, rfl, rfl, trivial⟩
    refine wp_region_lit ?_
    refine lstep (wpO_plain rfl (op_build hs none (qs := []) (v := .agg #[.int .u8 0, .slice none 0 0]) rfl rfl rfl rfl (fun _ => by kernel_rfl) rfl fun ac hs => ?_))
    refine lstep (wpO_plain rfl (op_store hs 0 (vs := [.int .u8 0, .slice none 0 0]) rfl rfl rfl rfl rfl Try.sizeOf25 rfl rfl rfl rfl rfl fun w hs => ?_))
    refine lstep (wpO_plain rfl (op_assign hs none rfl rfl rfl rfl fun ac hs => ?_))
    refine lstep (wpO_plain rfl (op_assign hs none rfl rfl rfl rfl fun ac hs => ?_))
    refine wpList_nil ?_
    refine then_n ?_
    refine wp_ret ?_
    refine then_r ?_
    exact bodyPost_ret (res3 rfl (rv_c hs 0 (v := .agg #[.int .u8 0, .slice none 0 0]) rfl rfl Try.isAgg25 Try.sizeOf25 rfl) (rv_t hs rfl) (rv_t hs rfl)) hs.defers ⟨⟨none, 0⟩, by obtain ⟨rfl, rfl, rfl, rfl⟩ := t4 ((NX_arg (by omega)).symm.trans hN); rfl, hs.bel rfl, by obtain ⟨rfl, rfl, rfl, rfl⟩ := t4 ((NX_arg (by omega)).symm.trans hN); exact okl1 celv_nil⟩
  · skip
    refine wp_region_lit ?_
    refine lstep (wpO_plain rfl (op_move hs none rfl rfl rfl rfl fun ac hs => ?_))
    refine lstep (wpO_plain rfl (op_bin hs none (v := .bool false) rfl rfl rfl rfl (fun _ => rfl) (fun w => dF hq2 (bin_lssI (x := i) (y := 0) w)) rfl fun ac hs => ?_))
    refine lstep (wpO_plain rfl (op_move hs none rfl rfl rfl rfl fun ac hs => ?_))
    refine lstep (wpO_in hs rfl rfl rfl (op_move hs none rfl rfl rfl rfl fun ac hs => ?_))
    refine lstep (wpO_in hs rfl rfl rfl (op_move hs none rfl rfl rfl rfl fun ac hs => ?_))
    refine lstep (wpO_in hs rfl rfl rfl (op_blt hs none (v := .int .i64 ((l.length : Nat) : Int)) rfl rfl rfl (blt_len Try.underlying22) rfl fun ac hs => ?_))
    refine lstep (wpO_in hs rfl rfl rfl (op_bin hs none (v := .bool (decide (((l.length : Nat) : Int) ≤ i))) rfl rfl rfl rfl (fun _ => rfl) (bin_geqI (x := i) (y := ((l.length : Nat) : Int))) rfl fun ac hs => ?_))
    refine lstep (wpO_plain rfl (op_pickF hs none rfl rfl rfl rfl rfl fun ac hs => ?_))
    refine wpList_nil ?_
    refine then_n ?_
    refine wp_cond_split (hs.ev rfl) (fun hc => ?_) (fun hc => ?_)
    · skip
      have hp3 := of_decide_eq_true hc
      refine wp_seq ?_
      replace hs : St 56 ⟨w0, [], [(true, .cel (.slice ad l.length c) l.length (bcs l))], Z, noX⟩ [(0, true, .slice ad l.length c), (1, true, .int .i64 i), (4, true, .pointer (some ⟨g1, 0, none⟩)), (5, true, .int .i64 0), (6, true, .int .i64 0)] [(true, g1, 25, [.int .u8 0, .slice none 0 0])] ac _ := hs.re ⟨rfl, rfl, rfl, rfl, rfl, trivial⟩
      refine wp_region_lit ?_
      refine lstep (wpO_plain rfl (op_build hs none (qs := []) (v := .agg #[.int .u8 0, .slice none 0 0]) rfl rfl rfl rfl (fun _ => by kernel_rfl) rfl fun ac hs => ?_))
      refine lstep (wpO_plain rfl (op_store hs 0 (vs := [.int .u8 0, .slice none 0 0]) rfl rfl rfl rfl rfl Try.sizeOf25 rfl rfl rfl rfl rfl fun w hs => ?_))
      refine lstep (wpO_plain rfl (op_assign hs none rfl rfl rfl rfl fun ac hs => ?_))
      refine lstep (wpO_plain rfl (op_assign hs none rfl rfl rfl rfl fun ac hs => ?_))
      refine wpList_nil ?_
      refine then_n ?_
      refine wp_ret ?_
      refine then_r ?_
      exact bodyPost_ret (res3 rfl (rv_c hs 0 (v := .agg #[.int .u8 0, .slice none 0 0]) rfl rfl Try.isAgg25 Try.sizeOf25 rfl) (rv_t hs rfl) (rv_t hs rfl)) hs.defers ⟨⟨none, 0⟩, by obtain ⟨rfl, rfl, rfl, rfl⟩ := t4 ((NX_arg (by omega)).symm.trans hN); rfl, hs.bel rfl, by obtain ⟨rfl, rfl, rfl, rfl⟩ := t4 ((NX_arg (by omega)).symm.trans hN); exact okl1 celv_nil⟩
    · skip
      have hp4 := of_decide_eq_false hc
      obtain ⟨j, rfl⟩ : ∃ j : Nat, i = (j : Int) := ⟨i.toNat, by omega⟩
      have hj : j < l.length := by omega
      have hdl : (l.drop j).length = l.length - j := by simp
      have hd1 := hd18_le (byt l j)
      refine wp_skip ?_
      refine then_n ?_
      refine wp_seq ?_
      replace hs : St 56 ⟨w0, [], [(true, .cel (.slice ad l.length c) l.length (bcs l))], Z, noX⟩ [(0, true, .slice ad l.length c), (1, true, .int .i64 ((j : Nat) : Int)), (4, true, .pointer (some ⟨g1, 0, none⟩)), (5, true, .int .i64 0), (6, true, .int .i64 0)] [(true, g1, 25, [.int .u8 0, .slice none 0 0])] ac _ := hs.re ⟨rfl, rfl, rfl, rfl, rfl, trivial⟩
      refine wp_region_lit ?_
      refine lstep (wpO_plain rfl (op_move hs none rfl rfl rfl rfl fun ac hs => ?_))
      refine lstep (wpO_plain rfl (op_move hs none rfl rfl rfl rfl fun ac hs => ?_))
      refine lstep (wpO_plain rfl (op_sliceR hs none none 0 j l.length (N' := (l.drop j).length) (cs' := bcs (l.drop j)) rfl rfl rfl rfl (.inr ⟨_, _, rfl, rfl⟩) (.inl ⟨rfl, rfl⟩) Try.underlying22 Try.sizeOf5 (show j ≤ l.length by omega) (show l.length ≤ l.length by omega) len_lo bcs_lo rfl rfl fun ac hs => ?_))
      refine lstep (wpO_plain rfl (op_assign hs none rfl rfl rfl rfl fun ac hs => ?_))
      refine wpList_nil ?_
      refine then_n ?_
      refine wp_seq ?_
      refine wp_region_lit ?_
      refine lstep (wpO_plain rfl (op_move hs none rfl rfl rfl rfl fun ac hs => ?_))
      obtain ⟨n5, h6, q7, hn5⟩ : ∃ z0 z1 z2, tld (l.drop j) = (z0, z1, z2) := ⟨_, _, _, rfl⟩
      refine lstep (wpO_plain rfl (op_callS (F := 27) (ρ := Unit) hs none none (v := fun r => .tuple #[.int .i64 ((n5 : Nat) : Int), .int .i64 ((h6 : Nat) : Int), .bool q7]) (E := fun r => []) (j := 0) rfl rfl rfl rfl (Try.call27 _) (fun hs => told_c (vsa ad c 1 j) ((l.drop j).length) (c - j) (l.drop j) n5 h6 q7 (show 0 < (l.drop j).length by (try simp only [List.length_drop, List.length_take, List.length_append, List.length_cons, List.length_nil]); omega) hn5 _ _ (hs.all (k := 1) rfl rfl)) (fun _ => rfl) rfl rfl fun _ ac w hs => ?_))
      refine lstep (wpO_plain rfl (op_move hs none rfl rfl rfl rfl fun ac hs => ?_))
      refine lstep (wpO_plain rfl (op_extract hs none rfl rfl rfl rfl rfl fun ac hs => ?_))
      refine lstep (wpO_plain rfl (op_extract hs none rfl rfl rfl rfl rfl fun ac hs => ?_))
      refine lstep (wpO_plain rfl (op_extract hs none rfl rfl rfl rfl rfl fun ac hs => ?_))
      refine lstep (wpO_plain rfl (op_assign hs none rfl rfl rfl rfl fun ac hs => ?_))
      refine lstep (wpO_plain rfl (op_assign hs none rfl rfl rfl rfl fun ac hs => ?_))
      refine lstep (wpO_plain rfl (op_assign hs none rfl rfl rfl rfl fun ac hs => ?_))
      refine wpList_nil ?_
      refine then_n ?_
      refine wp_seq ?_
      refine wp_seq ?_
      by_cases hq8 : q7 = true
      · skip
        replace hs := hs.re (fs' := [(0, true, .slice ad l.length c), (1, true, .int .i64 ((j : Nat) : Int)), (4, true, .pointer (some ⟨g1, 0, none⟩)), (5, true, .int .i64 0), (6, true, .int .i64 0), (20, true, .slice ad l.length c), (21, true, .int .i64 ((j : Nat) : Int)), (22, true, .slice (vsa ad c 1 j) ((l.drop j).length) (c - j)), (7, true, .slice (vsa ad c 1 j) ((l.drop j).length) (c - j)), (24, true, .slice (vsa ad c 1 j) ((l.drop j).length) (c - j)), (25, true, .tuple #[.int .i64 ((n5 : Nat) : Int), .int .i64 ((h6 : Nat) : Int), .bool q7]), (23, true, .tuple #[.int .i64 ((n5 : Nat) : Int), .int .i64 ((h6 : Nat) : Int), .bool q7]), (26, true, .int .i64 ((n5 : Nat) : Int)), (27, true, .int .i64 ((h6 : Nat) : Int)), (28, true, .bool q7), (8, true, .int .i64 ((n5 : Nat) : Int)), (9, true, .int .i64 ((h6 : Nat) : Int)), (10, true, .bool true)]) ⟨rfl, rfl, rfl, rfl, rfl, rfl, rfl, rfl, rfl, rfl, rfl, rfl, rfl, rfl, rfl, rfl, rfl, congrArg some (congrArg Value.bool hq8), trivial⟩
        rw [hq8] at hn5
        obtain ⟨hh1, hh2, hh3⟩ := tld_head hn5 (by omega)
        replace hs : St 56 ⟨w0, [], [(true, .cel (.slice ad l.length c) l.length (bcs l)), (true, .cel (.slice (vsa ad c 1 j) ((l.drop j).length) (c - j)) ((l.drop j).length) (bcs (l.drop j)))], Z, noX⟩ [(1, true, .int .i64 ((j : Nat) : Int)), (4, true, .pointer (some ⟨g1, 0, none⟩)), (5, true, .int .i64 0), (6, true, .int .i64 0), (7, true, .slice (vsa ad c 1 j) ((l.drop j).length) (c - j)), (8, true, .int .i64 ((n5 : Nat) : Int)), (9, true, .int .i64 ((h6 : Nat) : Int)), (10, true, .bool true)] [(true, g1, 25, [.int .u8 0, .slice none 0 0])] ac _ := hs.re ⟨rfl, rfl, rfl, rfl, rfl, rfl, rfl, rfl, trivial⟩
        refine wp_region_lit ?_
        refine lstep (wpO_plain rfl (op_move hs none rfl rfl rfl rfl fun ac hs => ?_))
        refine lstep (wpO_plain rfl (op_un hs none (v := .bool false) rfl rfl rfl (fun _ => rfl) rfl fun ac hs => ?_))
        refine lstep (wpO_plain rfl (op_move hs none rfl rfl rfl rfl fun ac hs => ?_))
        refine lstep (wpO_in hs rfl rfl rfl (op_move hs none rfl rfl rfl rfl fun ac hs => ?_))
        refine lstep (wpO_in hs rfl rfl rfl (op_move hs none rfl rfl rfl rfl fun ac hs => ?_))
        refine lstep (wpO_in hs rfl rfl rfl (op_blt hs none (v := .int .i64 (((l.drop j).length : Nat) : Int)) rfl rfl rfl (blt_len Try.underlying22) rfl fun ac hs => ?_))
        refine lstep (wpO_in hs rfl rfl rfl (op_move hs none rfl rfl rfl rfl fun ac hs => ?_))
        refine lstep (wpO_in hs rfl rfl rfl (op_bin hs none (v := .int .i64 (((l.drop j).length - h6 : Nat) : Int)) rfl rfl rfl rfl (fun _ => rfl) (bin_subN (x := (l.drop j).length) (y := h6) (z := (l.drop j).length - h6) (by omega) (show (l.drop j).length - h6 < 9223372036854775808 by (try simp only [List.length_drop, List.length_take, List.length_append, List.length_cons, List.length_nil]); omega)) rfl fun ac hs => ?_))
        refine lstep (wpO_in hs rfl rfl rfl (op_bin hs none (v := .bool (decide ((l.drop j).length - h6 < n5))) rfl rfl rfl rfl (fun _ => rfl) (bin_gtrN (x := n5) (y := (l.drop j).length - h6)) rfl fun ac hs => ?_))
        refine lstep (wpO_plain rfl (op_pickF hs none rfl rfl rfl rfl rfl fun ac hs => ?_))
        refine wpList_nil ?_
        refine then_n ?_
        refine wp_cond_split (hs.ev rfl) (fun hc => ?_) (fun hc => ?_)
        · skip
          have hp9 := of_decide_eq_true hc
          refine wp_seq ?_
          replace hs : St 56 ⟨w0, [], [(true, .cel (.slice ad l.length c) l.length (bcs l)), (true, .cel (.slice (vsa ad c 1 j) ((l.drop j).length) (c - j)) ((l.drop j).length) (bcs (l.drop j)))], Z, noX⟩ [(1, true, .int .i64 ((j : Nat) : Int)), (4, true, .pointer (some ⟨g1, 0, none⟩)), (5, true, .int .i64 0), (6, true, .int .i64 0), (7, true, .slice (vsa ad c 1 j) ((l.drop j).length) (c - j)), (8, true, .int .i64 ((n5 : Nat) : Int)), (9, true, .int .i64 ((h6 : Nat) : Int))] [(true, g1, 25, [.int .u8 0, .slice none 0 0])] ac _ := hs.re ⟨rfl, rfl, rfl, rfl, rfl, rfl, rfl, trivial⟩
          refine wp_region_lit ?_
          refine lstep (wpO_plain rfl (op_build hs none (qs := []) (v := .agg #[.int .u8 0, .slice none 0 0]) rfl rfl rfl rfl (fun _ => by kernel_rfl) rfl fun ac hs => ?_))
          refine lstep (wpO_plain rfl (op_store hs 0 (vs := [.int .u8 0, .slice none 0 0]) rfl rfl rfl rfl rfl Try.sizeOf25 rfl rfl rfl rfl rfl fun w hs => ?_))
          refine lstep (wpO_plain rfl (op_assign hs none rfl rfl rfl rfl fun ac hs => ?_))
          refine lstep (wpO_plain rfl (op_assign hs none rfl rfl rfl rfl fun ac hs => ?_))
          refine wpList_nil ?_
          refine then_n ?_
          refine wp_ret ?_
          refine then_r ?_
          exact bodyPost_ret (res3 rfl (rv_c hs 0 (v := .agg #[.int .u8 0, .slice none 0 0]) rfl rfl Try.isAgg25 Try.sizeOf25 rfl) (rv_t hs rfl) (rv_t hs rfl)) hs.defers ⟨⟨none, 0⟩, by obtain ⟨rfl, rfl, rfl, rfl⟩ := t4 ((NX_prog0 hj hn5 (.inr (by omega))).symm.trans hN); rfl, hs.bel rfl, by obtain ⟨rfl, rfl, rfl, rfl⟩ := t4 ((NX_prog0 hj hn5 (.inr (by omega))).symm.trans hN); exact okl1 celv_nil⟩
        · skip
          have hp10 := of_decide_eq_false hc
          refine wp_skip ?_
          refine then_n ?_
          refine wp_seq ?_
          replace hs : St 56 ⟨w0, [], [(true, .cel (.slice ad l.length c) l.length (bcs l)), (true, .cel (.slice (vsa ad c 1 j) ((l.drop j).length) (c - j)) ((l.drop j).length) (bcs (l.drop j)))], Z, noX⟩ [(1, true, .int .i64 ((j : Nat) : Int)), (4, true, .pointer (some ⟨g1, 0, none⟩)), (5, true, .int .i64 0), (6, true, .int .i64 0), (7, true, .slice (vsa ad c 1 j) ((l.drop j).length) (c - j)), (8, true, .int .i64 ((n5 : Nat) : Int)), (9, true, .int .i64 ((h6 : Nat) : Int))] [(true, g1, 25, [.int .u8 0, .slice none 0 0])] ac _ := hs.re ⟨rfl, rfl, rfl, rfl, rfl, rfl, rfl, trivial⟩
          have l11 := byt_lt (l.drop j) 0
          refine region_inv [([], [1, 2, 10, 16, 17, 18]), ([0], [2, 10, 16, 17, 18]), ([0, 1], [10, 16, 17, 18]), ([], [8, 9, 10, 16, 17, 18]), ([], [8, 9, 10, 16, 17, 18]), ([], [7, 8, 9, 10, 16, 17, 18]), ([], [7, 8, 9, 10, 16, 17, 18]), ([5, 6], [8, 9, 10, 16, 17, 18]), ([3, 4, 5, 6, 7], [9, 10, 16, 17, 18]), ([3, 4, 5, 6, 7, 8], [10, 16, 17, 18]), ([0, 1, 2, 3, 4, 5, 6, 7, 8, 9], [16, 17, 18]), ([], [13, 15, 17, 18]), ([], [13, 15, 17, 18]), ([11, 12], [15, 17, 18]), ([], [15, 17, 18]), ([11, 12, 13, 14], [17, 18]), ([0, 1, 2, 3, 4, 5, 6, 7, 8, 9, 10], [17, 18]), ([0, 1, 2, 3, 4, 5, 6, 7, 8, 9, 10, 11, 12, 13, 14, 15, 16], [18]), ([0, 1, 2, 3, 4, 5, 6, 7, 8, 9, 10, 11, 12, 13, 14, 15, 16, 17], [])] (fun L ac w => ∃ (ad12 : Option Addr) (cp13 : Nat), St 56 ⟨w0, [], [(true, .cel (.slice ad l.length c) l.length (bcs l)), (true, .cel (.slice (vsa ad c 1 j) ((l.drop j).length) (c - j)) ((l.drop j).length) (bcs (l.drop j))), (L 8, .cel (.slice (vsa (vsa ad c 1 j) (c - j) 1 h6) ((((l.drop j).drop h6).take n5).length) (c - j - h6)) ((((l.drop j).drop h6).take n5).length) (bcs (((l.drop j).drop h6).take n5))), (L 9, .cel (.slice ad12 ((((l.drop j).drop h6).take n5).length) cp13) ((((l.drop j).drop h6).take n5).length) (bcs (((l.drop j).drop h6).take n5)))], Z, noX⟩ [(40, L 0, .slice (vsa ad c 1 j) ((l.drop j).length) (c - j)), (41, L 1, vidx (.slice (vsa ad c 1 j) ((l.drop j).length) (c - j)) 0), (42, L 2, .int .u8 ((byt (l.drop j) 0 : Nat) : Int)), (43, L 3, .slice (vsa ad c 1 j) ((l.drop j).length) (c - j)), (44, L 4, .int .i64 ((h6 : Nat) : Int)), (45, L 5, .int .i64 ((h6 : Nat) : Int)), (46, L 6, .int .i64 ((n5 : Nat) : Int)), (47, L 7, .int .i64 ((h6 + n5 : Nat) : Int)), (48, L 8, .slice (vsa (vsa ad c 1 j) (c - j) 1 h6) ((((l.drop j).drop h6).take n5).length) (c - j - h6)), (49, L 9, .slice ad12 ((((l.drop j).drop h6).take n5).length) cp13), (50, L 10, cond (L 10) (.agg #[.int .u8 ((byt (l.drop j) 0 : Nat) : Int), .slice ad12 ((((l.drop j).drop h6).take n5).length) cp13]) undef), (51, L 11, .int .i64 ((j : Nat) : Int)), (52, L 12, .int .i64 ((h6 : Nat) : Int)), (53, L 13, .int .i64 ((j + h6 : Nat) : Int)), (54, L 14, .int .i64 ((n5 : Nat) : Int)), (55, L 15, .int .i64 ((j + h6 + n5 : Nat) : Int)), (5, L 17, .int .i64 ((j + h6 + n5 : Nat) : Int)), (6, L 18, .int .i64 0), (1, true, .int .i64 ((j : Nat) : Int)), (4, true, .pointer (some ⟨g1, 0, none⟩)), (5, true, .int .i64 0), (6, true, .int .i64 0), (7, true, .slice (vsa ad c 1 j) ((l.drop j).length) (c - j)), (8, true, .int .i64 ((n5 : Nat) : Int)), (9, true, .int .i64 ((h6 : Nat) : Int))] [(true, g1, 25, (cond (L 16) [.int .u8 ((byt (l.drop j) 0 : Nat) : Int), .slice ad12 ((((l.drop j).drop h6).take n5).length) cp13] [.int .u8 0, .slice none 0 0]))] ac w) (by kernel_rfl) (by kernel_rfl) ?_ ?_ ?_
          · exact ⟨none, 0, hs.drew.skip.skip.skip.skip.skip.skip.skip.skip.skip.skip.skip.skip.skip.skip.skip.skip.skip.skip.padS.padS⟩
          · refine ⟨?_, ?_, ?_, ?_, ?_, ?_, ?_, ?_, ?_, ?_, ?_, ?_, ?_, ?_, ?_, ?_, ?_, ?_, ?_, trivial⟩
            · intro L ac w hJ
              obtain ⟨ad12, cp13, hs⟩ := hJ
              refine wpO_plain rfl (op_move hs (some 0) rfl rfl rfl rfl fun ac hs => ?_)
              exact ⟨ad12, cp13, hs⟩
            · intro L ac w hJ
              obtain ⟨ad12, cp13, hs⟩ := hJ
              refine wpO_plain rfl (op_idxC hs (some 1) 1 (j := 0) rfl rfl rfl rfl rfl Try.underlying22 Try.sizeOf5 (show 0 < (l.drop j).length by (try simp only [List.length_drop, List.length_take, List.length_append, List.length_cons, List.length_nil]); omega) (off := 0) (by omega) rfl fun ac hs => ?_)
              exact ⟨ad12, cp13, hs⟩
            · intro L ac w hJ
              obtain ⟨ad12, cp13, hs⟩ := hJ
              refine wpO_plain rfl (op_loadC hs (some 2) 1 (u := .int .u8 ((byt (l.drop j) 0 : Nat) : Int)) rfl rfl rfl rfl Try.isAgg5 Try.sizeOf5 (by decide) (bcs_get (show 0 < (l.drop j).length by (try simp only [List.length_drop, List.length_take, List.length_append, List.length_cons, List.length_nil]); omega)) rfl fun ac hs => ?_)
              exact ⟨ad12, cp13, hs⟩
            · intro L ac w hJ
              obtain ⟨ad12, cp13, hs⟩ := hJ
              refine wpO_plain rfl (op_move hs (some 3) rfl rfl rfl rfl fun ac hs => ?_)
              exact ⟨ad12, cp13, hs⟩
            · intro L ac w hJ
              obtain ⟨ad12, cp13, hs⟩ := hJ
              refine wpO_plain rfl (op_move hs (some 4) rfl rfl rfl rfl fun ac hs => ?_)
              exact ⟨ad12, cp13, hs⟩
            · intro L ac w hJ
              obtain ⟨ad12, cp13, hs⟩ := hJ
              refine wpO_plain rfl (op_move hs (some 5) rfl rfl rfl rfl fun ac hs => ?_)
              exact ⟨ad12, cp13, hs⟩
            · intro L ac w hJ
              obtain ⟨ad12, cp13, hs⟩ := hJ
              refine wpO_plain rfl (op_move hs (some 6) rfl rfl rfl rfl fun ac hs => ?_)
              exact ⟨ad12, cp13, hs⟩
            · intro L ac w hJ
              obtain ⟨ad12, cp13, hs⟩ := hJ
              refine wpO_plain rfl (op_bin hs (some 7) (v := .int .i64 ((h6 + n5 : Nat) : Int)) rfl rfl rfl rfl (fun _ => rfl) (bin_addN (x := h6) (y := n5) (z := h6 + n5) rfl (show h6 + n5 < 9223372036854775808 by omega)) rfl fun ac hs => ?_)
              exact ⟨ad12, cp13, hs⟩
            · intro L ac w hJ
              obtain ⟨ad12, cp13, hs⟩ := hJ
              refine wpO_plain rfl (op_sliceR hs (some 8) (some 2) 1 h6 (h6 + n5) (N' := (((l.drop j).drop h6).take n5).length) (cs' := bcs (((l.drop j).drop h6).take n5)) rfl rfl rfl rfl (.inr ⟨_, _, rfl, rfl⟩) (.inr ⟨_, _, rfl, rfl⟩) Try.underlying22 Try.sizeOf5 (show h6 ≤ h6 + n5 by omega) (show h6 + n5 ≤ (l.drop j).length by (try simp only [List.length_drop, List.length_take, List.length_append, List.length_cons, List.length_nil]); omega) (len_part (show h6 + n5 ≤ (l.drop j).length by (try simp only [List.length_drop, List.length_take, List.length_append, List.length_cons, List.length_nil]); omega)) bcs_partn rfl rfl fun ac hs => ?_)
              exact ⟨ad12, cp13, hs⟩
            · intro L ac w hJ
              obtain ⟨ad12, cp13, hs⟩ := hJ
              refine wpO_plain rfl (op_callS (F := 28) (ρ := Option Addr × Nat) hs (some 9) (some 3) (v := fun r => .slice r.1 ((((l.drop j).drop h6).take n5).length) r.2) (E := fun r => [.cel (.slice r.1 ((((l.drop j).drop h6).take n5).length) r.2) ((((l.drop j).drop h6).take n5).length) (bcs (((l.drop j).drop h6).take n5))]) (j := 1) rfl rfl rfl rfl (Try.call28 _) (fun hs => clone_c (vsa (vsa ad c 1 j) (c - j) 1 h6) ((((l.drop j).drop h6).take n5).length) (c - j - h6) (((l.drop j).drop h6).take n5) (show (((l.drop j).drop h6).take n5).length ≤ 100000 by (try simp only [List.length_drop, List.length_take, List.length_append, List.length_cons, List.length_nil]); omega) _ _ (hs.all (k := 2) rfl rfl)) (fun _ => rfl) rfl rfl fun ⟨ad12, cp13⟩ ac w hs => ?_)
              exact ⟨ad12, cp13, hs⟩
            · intro L ac w hJ
              obtain ⟨ad12, cp13, hs⟩ := hJ
              refine wpO_plain rfl (op_build hs (some 10) (qs := [(0, .int .u8 ((byt (l.drop j) 0 : Nat) : Int)), (1, .slice ad12 ((((l.drop j).drop h6).take n5).length) cp13)]) (v := .agg #[.int .u8 ((byt (l.drop j) 0 : Nat) : Int), .slice ad12 ((((l.drop j).drop h6).take n5).length) cp13]) rfl rfl rfl rfl (fun _ => by kernel_rfl) rfl fun ac hs => ?_)
              exact ⟨ad12, cp13, hs⟩
            · intro L ac w hJ
              obtain ⟨ad12, cp13, hs⟩ := hJ
              refine wpO_plain rfl (op_move hs (some 11) rfl rfl rfl rfl fun ac hs => ?_)
              exact ⟨ad12, cp13, hs⟩
            · intro L ac w hJ
              obtain ⟨ad12, cp13, hs⟩ := hJ
              refine wpO_plain rfl (op_move hs (some 12) rfl rfl rfl rfl fun ac hs => ?_)
              exact ⟨ad12, cp13, hs⟩
            · intro L ac w hJ
              obtain ⟨ad12, cp13, hs⟩ := hJ
              refine wpO_plain rfl (op_bin hs (some 13) (v := .int .i64 ((j + h6 : Nat) : Int)) rfl rfl rfl rfl (fun _ => rfl) (bin_addN (x := j) (y := h6) (z := j + h6) rfl (show j + h6 < 9223372036854775808 by omega)) rfl fun ac hs => ?_)
              exact ⟨ad12, cp13, hs⟩
            · intro L ac w hJ
              obtain ⟨ad12, cp13, hs⟩ := hJ
              refine wpO_plain rfl (op_move hs (some 14) rfl rfl rfl rfl fun ac hs => ?_)
              exact ⟨ad12, cp13, hs⟩
            · intro L ac w hJ
              obtain ⟨ad12, cp13, hs⟩ := hJ
              refine wpO_plain rfl (op_bin hs (some 15) (v := .int .i64 ((j + h6 + n5 : Nat) : Int)) rfl rfl rfl rfl (fun _ => rfl) (bin_addN (x := j + h6) (y := n5) (z := j + h6 + n5) rfl (show j + h6 + n5 < 9223372036854775808 by omega)) rfl fun ac hs => ?_)
              exact ⟨ad12, cp13, hs⟩
            · intro L ac w hJ
              obtain ⟨ad12, cp13, hs⟩ := hJ
              refine wpO_plain rfl (op_store hs 0 (vs := [.int .u8 ((byt (l.drop j) 0 : Nat) : Int), .slice ad12 ((((l.drop j).drop h6).take n5).length) cp13]) rfl rfl rfl rfl rfl Try.sizeOf25 rfl rfl rfl rfl rfl fun w hs => ?_)
              exact ⟨ad12, cp13, hs⟩
            · intro L ac w hJ
              obtain ⟨ad12, cp13, hs⟩ := hJ
              refine wpO_plain rfl (op_assign hs (some 16) rfl rfl rfl rfl fun ac hs => ?_)
              exact ⟨ad12, cp13, hs⟩
            · intro L ac w hJ
              obtain ⟨ad12, cp13, hs⟩ := hJ
              refine wpO_plain rfl (op_assign hs (some 17) rfl rfl rfl rfl fun ac hs => ?_)
              exact ⟨ad12, cp13, hs⟩
          intro ac w hJ
          obtain ⟨ad12, cp13, hs⟩ := hJ
          replace hs : St 56 ⟨w0, [], [(true, .cel (.slice ad l.length c) l.length (bcs l)), (true, .cel (.slice (vsa ad c 1 j) ((l.drop j).length) (c - j)) ((l.drop j).length) (bcs (l.drop j))), (true, .cel (.slice (vsa (vsa ad c 1 j) (c - j) 1 h6) ((((l.drop j).drop h6).take n5).length) (c - j - h6)) ((((l.drop j).drop h6).take n5).length) (bcs (((l.drop j).drop h6).take n5))), (true, .cel (.slice ad12 ((((l.drop j).drop h6).take n5).length) cp13) ((((l.drop j).drop h6).take n5).length) (bcs (((l.drop j).drop h6).take n5)))], Z, noX⟩ [(40, true, .slice (vsa ad c 1 j) ((l.drop j).length) (c - j)), (41, true, vidx (.slice (vsa ad c 1 j) ((l.drop j).length) (c - j)) 0), (42, true, .int .u8 ((byt (l.drop j) 0 : Nat) : Int)), (43, true, .slice (vsa ad c 1 j) ((l.drop j).length) (c - j)), (44, true, .int .i64 ((h6 : Nat) : Int)), (45, true, .int .i64 ((h6 : Nat) : Int)), (46, true, .int .i64 ((n5 : Nat) : Int)), (47, true, .int .i64 ((h6 + n5 : Nat) : Int)), (48, true, .slice (vsa (vsa ad c 1 j) (c - j) 1 h6) ((((l.drop j).drop h6).take n5).length) (c - j - h6)), (49, true, .slice ad12 ((((l.drop j).drop h6).take n5).length) cp13), (50, true, .agg #[.int .u8 ((byt (l.drop j) 0 : Nat) : Int), .slice ad12 ((((l.drop j).drop h6).take n5).length) cp13]), (51, true, .int .i64 ((j : Nat) : Int)), (52, true, .int .i64 ((h6 : Nat) : Int)), (53, true, .int .i64 ((j + h6 : Nat) : Int)), (54, true, .int .i64 ((n5 : Nat) : Int)), (55, true, .int .i64 ((j + h6 + n5 : Nat) : Int)), (5, true, .int .i64 ((j + h6 + n5 : Nat) : Int)), (6, true, .int .i64 0), (1, true, .int .i64 ((j : Nat) : Int)), (4, true, .pointer (some ⟨g1, 0, none⟩)), (5, true, .int .i64 0), (6, true, .int .i64 0), (7, true, .slice (vsa ad c 1 j) ((l.drop j).length) (c - j)), (8, true, .int .i64 ((n5 : Nat) : Int)), (9, true, .int .i64 ((h6 : Nat) : Int))] [(true, g1, 25, [.int .u8 ((byt (l.drop j) 0 : Nat) : Int), .slice ad12 ((((l.drop j).drop h6).take n5).length) cp13])] ac w := hs
          refine then_n ?_
          refine wp_ret ?_
          exact bodyPost_ret (res3 rfl (rv_c hs 0 (v := .agg #[.int .u8 ((byt (l.drop j) 0 : Nat) : Int), .slice ad12 ((((l.drop j).drop h6).take n5).length) cp13]) rfl rfl Try.isAgg25 Try.sizeOf25 rfl) (rv_t hs rfl) (rv_t hs rfl)) hs.defers ⟨⟨ad12, cp13⟩, by obtain ⟨rfl, rfl, rfl, rfl⟩ := t4 ((NX_prog hj hn5 (by omega)).symm.trans hN); rfl, hs.bel rfl, by obtain ⟨rfl, rfl, rfl, rfl⟩ := t4 ((NX_prog hj hn5 (by omega)).symm.trans hN); exact hs.ret1 3 rfl⟩
      · skip
        replace hs := hs.re (fs' := [(0, true, .slice ad l.length c), (1, true, .int .i64 ((j : Nat) : Int)), (4, true, .pointer (some ⟨g1, 0, none⟩)), (5, true, .int .i64 0), (6, true, .int .i64 0), (20, true, .slice ad l.length c), (21, true, .int .i64 ((j : Nat) : Int)), (22, true, .slice (vsa ad c 1 j) ((l.drop j).length) (c - j)), (7, true, .slice (vsa ad c 1 j) ((l.drop j).length) (c - j)), (24, true, .slice (vsa ad c 1 j) ((l.drop j).length) (c - j)), (25, true, .tuple #[.int .i64 ((n5 : Nat) : Int), .int .i64 ((h6 : Nat) : Int), .bool q7]), (23, true, .tuple #[.int .i64 ((n5 : Nat) : Int), .int .i64 ((h6 : Nat) : Int), .bool q7]), (26, true, .int .i64 ((n5 : Nat) : Int)), (27, true, .int .i64 ((h6 : Nat) : Int)), (28, true, .bool q7), (8, true, .int .i64 ((n5 : Nat) : Int)), (9, true, .int .i64 ((h6 : Nat) : Int)), (10, true, .bool false)]) ⟨rfl, rfl, rfl, rfl, rfl, rfl, rfl, rfl, rfl, rfl, rfl, rfl, rfl, rfl, rfl, rfl, rfl, congrArg some (congrArg Value.bool (Bool.eq_false_iff.2 hq8)), trivial⟩
        replace hs : St 56 ⟨w0, [], [(true, .cel (.slice ad l.length c) l.length (bcs l)), (true, .cel (.slice (vsa ad c 1 j) ((l.drop j).length) (c - j)) ((l.drop j).length) (bcs (l.drop j)))], Z, noX⟩ [(1, true, .int .i64 ((j : Nat) : Int)), (4, true, .pointer (some ⟨g1, 0, none⟩)), (5, true, .int .i64 0), (6, true, .int .i64 0), (7, true, .slice (vsa ad c 1 j) ((l.drop j).length) (c - j)), (8, true, .int .i64 ((n5 : Nat) : Int)), (9, true, .int .i64 ((h6 : Nat) : Int)), (10, true, .bool false)] [(true, g1, 25, [.int .u8 0, .slice none 0 0])] ac _ := hs.re ⟨rfl, rfl, rfl, rfl, rfl, rfl, rfl, rfl, trivial⟩
        refine wp_region_lit ?_
        refine lstep (wpO_plain rfl (op_move hs none rfl rfl rfl rfl fun ac hs => ?_))
        refine lstep (wpO_plain rfl (op_un hs none (v := .bool true) rfl rfl rfl (fun _ => rfl) rfl fun ac hs => ?_))
        refine lstep (wpO_plain rfl (op_move hs none rfl rfl rfl rfl fun ac hs => ?_))
        refine lstep (wpO_out hs none rfl rfl (.inl rfl) rfl rfl fun ac hs => ?_)
        refine lstep (wpO_out hs none rfl rfl (.inl rfl) rfl rfl fun ac hs => ?_)
        refine lstep (wpO_out hs none rfl rfl (.inl rfl) rfl rfl fun ac hs => ?_)
        refine lstep (wpO_out hs none rfl rfl (.inl rfl) rfl rfl fun ac hs => ?_)
        refine lstep (wpO_out hs none rfl rfl (.inl rfl) rfl rfl fun ac hs => ?_)
        refine lstep (wpO_out hs none rfl rfl (.inl rfl) rfl rfl fun ac hs => ?_)
        refine lstep (wpO_plain rfl (op_pickT hs none rfl rfl rfl rfl rfl fun ac hs => ?_))
        refine wpList_nil ?_
        refine then_n ?_
        refine wp_cond_true (hs.ev rfl) ?_
        refine wp_seq ?_
        refine wp_region_lit ?_
        refine lstep (wpO_plain rfl (op_build hs none (qs := []) (v := .agg #[.int .u8 0, .slice none 0 0]) rfl rfl rfl rfl (fun _ => by kernel_rfl) rfl fun ac hs => ?_))
        refine lstep (wpO_plain rfl (op_store hs 0 (vs := [.int .u8 0, .slice none 0 0]) rfl rfl rfl rfl rfl Try.sizeOf25 rfl rfl rfl rfl rfl fun w hs => ?_))
        refine lstep (wpO_plain rfl (op_assign hs none rfl rfl rfl rfl fun ac hs => ?_))
        refine lstep (wpO_plain rfl (op_assign hs none rfl rfl rfl rfl fun ac hs => ?_))
        refine wpList_nil ?_
        refine then_n ?_
        refine wp_ret ?_
        refine then_r ?_
        exact bodyPost_ret (res3 rfl (rv_c hs 0 (v := .agg #[.int .u8 0, .slice none 0 0]) rfl rfl Try.isAgg25 Try.sizeOf25 rfl) (rv_t hs rfl) (rv_t hs rfl)) hs.defers ⟨⟨none, 0⟩, by obtain ⟨rfl, rfl, rfl, rfl⟩ := t4 ((NX_prog0 hj hn5 (.inl (Bool.eq_false_iff.2 hq8))).symm.trans hN); rfl, hs.bel rfl, by obtain ⟨rfl, rfl, rfl, rfl⟩ := t4 ((NX_prog0 hj hn5 (.inl (Bool.eq_false_iff.2 hq8))).symm.trans hN); exact okl1 celv_nil⟩
theorem head_c (x : Nat) (hx : x < 256) (w0 : World) : Calls Try.prog 29 #[.int .u8 ((x : Nat) : Int)] w0 fun e w' => e = .returned (.int .i64 ((hd18 x : Nat) : Int)) ∧ Below w0.heap.size w0 w' := by
  refine enter (n := 8) (args := [.int .u8 ((x : Nat) : Int)]) Try.func29 rfl rfl (Nat.le_of_ble_eq_true rfl) fun ac hs => ?_
  refine wp_seq ?_
  refine wp_region_lit ?_
  refine lstep (wpO_plain rfl (op_assign hs none rfl rfl rfl rfl fun ac hs => ?_))
  refine wpList_nil ?_
  refine then_n ?_
  refine wp_seq ?_
  refine wp_seq ?_
  refine wp_region_lit ?_
  refine lstep (wpO_plain rfl (op_move hs none rfl rfl rfl rfl fun ac hs => ?_))
  refine wpList_nil ?_
  refine then_n ?_
  refine wp_block ?_
  refine wp_seq ?_
  refine wp_region_lit ?_
  refine lstep (wpO_plain rfl (op_bin hs none (v := .bool (decide (x = 76))) rfl rfl rfl rfl (fun _ => rfl) (bin_eqlN (x := x) (y := 76)) rfl fun ac hs => ?_))
  refine lstep (wpO_plain rfl (op_assign hs none rfl rfl rfl rfl fun ac hs => ?_))
  refine wpList_nil ?_
  refine then_n ?_
  refine wp_cond_split (hs.ev rfl) (fun hc => ?_) (fun hc => ?_)
  · skip
    have hp1 := of_decide_eq_true hc
    refine wp_seq ?_
    refine wp_region_lit ?_
    refine lstep (wpO_plain rfl (op_assign hs none rfl rfl rfl rfl fun ac hs => ?_))
    refine wpList_nil ?_
    refine then_n ?_
    refine wp_ret ?_
    refine blk_r ?_
    refine then_r ?_
    exact bodyPost_ret (res1 rfl (rv_t hs rfl)) hs.defers ⟨by unfold hd18; (repeat' split) <;> first | rfl | omega, (hs.bel rfl)⟩
  · skip
    have hp2 := of_decide_eq_false hc
    refine wp_seq ?_
    refine wp_region_lit ?_
    refine lstep (wpO_plain rfl (op_bin hs none (v := .bool (decide (x = 77))) rfl rfl rfl rfl (fun _ => rfl) (bin_eqlN (x := x) (y := 77)) rfl fun ac hs => ?_))
    refine lstep (wpO_plain rfl (op_assign hs none rfl rfl rfl rfl fun ac hs => ?_))
    refine wpList_nil ?_
    refine then_n ?_
    refine wp_cond_split (hs.ev rfl) (fun hc => ?_) (fun hc => ?_)
    · skip
      have hp3 := of_decide_eq_true hc
      refine wp_seq ?_
      replace hs : St 8 w0 [(2, true, .int .i64 0)] [] ac _ := hs.re ⟨rfl, trivial⟩
      refine wp_region_lit ?_
      refine lstep (wpO_plain rfl (op_assign hs none rfl rfl rfl rfl fun ac hs => ?_))
      refine wpList_nil ?_
      refine then_n ?_
      refine wp_ret ?_
      refine blk_r ?_
      refine then_r ?_
      exact bodyPost_ret (res1 rfl (rv_t hs rfl)) hs.defers ⟨by unfold hd18; (repeat' split) <;> first | rfl | omega, (hs.bel rfl)⟩
    · skip
      have hp4 := of_decide_eq_false hc
      refine wp_skip ?_
      refine blk_n ?_
      refine then_n ?_
      refine wp_seq ?_
      replace hs : St 8 w0 [(2, true, .int .i64 0)] [] ac _ := hs.re ⟨rfl, trivial⟩
      refine wp_region_lit ?_
      refine lstep (wpO_plain rfl (op_assign hs none rfl rfl rfl rfl fun ac hs => ?_))
      refine wpList_nil ?_
      refine then_n ?_
      refine wp_ret ?_
      exact bodyPost_ret (res1 rfl (rv_t hs rfl)) hs.defers ⟨by unfold hd18; (repeat' split) <;> first | rfl | omega, (hs.bel rfl)⟩
theorem rnext_c (ad : Option Addr) (nl c : Nat) (l : List UInt8) (i : Int) (o : Nat) (p : List UInt8) (k er : Nat) (hlen : l.length ≤ 100000) (hN : NX l i = (o, p, k, er)) (w0 : World) (Z : Nat → Prop) (hl : ByV w0 Z (.slice ad nl c) l): Calls Try.prog 11 #[.slice ad nl c, .int .i64 i] w0 fun e w' => Ret w0 Z (ρ := Option Addr × Nat) (fun r => .tuple #[.agg #[.int .u8 ((o : Nat) : Int), .slice r.1 p.length r.2], .int .i64 ((k : Nat) : Int), .int .i64 ((er : Nat) : Int)]) (fun r => [.cel (.slice r.1 p.length r.2) p.length (bcs p)]) e w' := by
  obtain rfl := byv_len hl
  refine enterS (n := 87) (args := [.slice ad l.length c, .int .i64 i]) (S := [(true, .cel (.slice ad l.length c) l.length (bcs l))]) (Z := Z) Try.func11 rfl rfl (Nat.le_of_ble_eq_true rfl) (sokC hl sok0) rfl fun ac hs => ?_
  refine wp_seq ?_
  refine wp_region_lit ?_
  refine lstep (wpO_plain rfl (op_alloc hs none none (cs := [.int .u8 0, .slice none 0 0]) rfl rfl Try.zeroValue25 (by kernel_rfl) rfl rfl fun g1 ac w hs => ?_))
  refine lstep (wpO_plain rfl (op_assign hs none rfl rfl rfl rfl fun ac hs => ?_))
  refine lstep (wpO_plain rfl (op_assign hs none rfl rfl rfl rfl fun ac hs => ?_))
  refine wpList_nil ?_
  refine then_n ?_
  refine wp_seq ?_
  refine wp_seq ?_
  by_cases hq2 : i < 0
  · skip
    refine wp_region_lit ?_
    refine lstep (wpO_plain rfl (op_move hs none rfl rfl rfl rfl fun ac hs => ?_))
    refine lstep (wpO_plain rfl (op_bin hs none (v := .bool true) rfl rfl rfl rfl (fun _ => rfl) (fun w => dT hq2 (bin_lssI (x := i) (y := 0) w)) rfl fun ac hs => ?_))
    refine lstep (wpO_plain rfl (op_move hs none rfl rfl rfl rfl fun ac hs => ?_))
    refine lstep (wpO_out hs none rfl rfl (.inl rfl) rfl rfl fun ac hs => ?_)
    refine lstep (wpO_out hs none rfl rfl (.inl rfl) rfl rfl fun ac hs => ?_)
    refine lstep (wpO_out hs none rfl rfl (.inl rfl) rfl rfl fun ac hs => ?_)
    refine lstep (wpO_out hs none rfl rfl (.inl rfl) rfl rfl fun ac hs => ?_)
    refine lstep (wpO_plain rfl (op_pickT hs none rfl rfl rfl rfl rfl fun ac hs => ?_))
    refine wpList_nil ?_
    refine then_n ?_
    refine wp_cond_true (hs.ev rfl) ?_
    refine wp_seq ?_
    replace hs : St 87 ⟨w0, [], [(true, .cel (.slice ad l.length c) l.length (bcs l))], Z, noX⟩ [(0, true, .slice ad l.length c), (1, true, .int .i64 i), (4, true, .pointer (some ⟨g1, 0, none⟩)), (5, true, .int .i64 0), (6, true, .int .i64 0)] [(true, g1, 25, [.int .u8 0, .slice none 0 0])] ac _ := hs.re ⟨rfl, rfl, rfl, rfl, rfl, trivial⟩
    refine wp_region_lit ?_
    refine lstep (wpO_plain rfl (op_build hs none (qs := []) (v := .agg #[.int .u8 0, .slice none 0 0]) rfl rfl rfl rfl (fun _ => by kernel_rfl) rfl fun ac hs => ?_))
    refine lstep (wpO_plain rfl (op_store hs 0 (vs := [.int .u8 0, .slice none 0 0]) rfl rfl rfl rfl rfl Try.sizeOf25 rfl rfl rfl rfl rfl fun w hs => ?_))
    refine lstep (wpO_plain rfl (op_assign hs none rfl rfl rfl rfl fun ac hs => ?_))
    refine lstep (wpO_plain rfl (op_assign hs none rfl rfl rfl rfl fun ac hs => ?_))
    refine wpList_nil ?_
    refine then_n ?_
    refine wp_ret ?_
    refine then_r ?_
    exact bodyPost_ret (res3 rfl (rv_c hs 0 (v := .agg #[.int .u8 0, .slice none 0 0]) rfl rfl Try.isAgg25 Try.sizeOf25 rfl) (rv_t hs rfl) (rv_t hs rfl)) hs.defers ⟨⟨none, 0⟩, by obtain ⟨rfl, rfl, rfl, rfl⟩ := t4 ((NX_arg (by omega)).symm.trans hN); rfl, hs.bel rfl, by obtain ⟨rfl, rfl, rfl, rfl⟩ := t4 ((NX_arg (by omega)).symm.trans hN); exact okl1 celv_nil⟩
  · skip
    refine wp_region_lit ?_
    refine lstep (wpO_plain rfl (op_move hs none rfl rfl rfl rfl fun ac hs => ?_))
    refine lstep (wpO_plain rfl (op_bin hs none (v := .bool false) rfl rfl rfl rfl (fun _ => rfl) (fun w => dF hq2 (bin_lssI (x := i) (y := 0) w)) rfl fun ac hs => ?_))
    refine lstep (wpO_plain rfl (op_move hs none rfl rfl rfl rfl fun ac hs => ?_))
    refine lstep (wpO_in hs rfl rfl rfl (op_move hs none rfl rfl rfl rfl fun ac hs => ?_))
    refine lstep (wpO_in hs rfl rfl rfl (op_move hs none rfl rfl rfl rfl fun ac hs => ?_))
    refine lstep (wpO_in hs rfl rfl rfl (op_blt hs none (v := .int .i64 ((l.length : Nat) : Int)) rfl rfl rfl (blt_len Try.underlying22) rfl fun ac hs => ?_))
    refine lstep (wpO_in hs rfl rfl rfl (op_bin hs none (v := .bool (decide (((l.length : Nat) : Int) ≤ i))) rfl rfl rfl rfl (fun _ => rfl) (bin_geqI (x := i) (y := ((l.length : Nat) : Int))) rfl fun ac hs => ?_))
    refine lstep (wpO_plain rfl (op_pickF hs none rfl rfl rfl rfl rfl fun ac hs => ?_))
    refine wpList_nil ?_
    refine then_n ?_
    refine wp_cond_split (hs.ev rfl) (fun hc => ?_) (fun hc => ?_)
    · skip
      have hp3 := of_decide_eq_true hc
      refine wp_seq ?_
      replace hs : St 87 ⟨w0, [], [(true, .cel (.slice ad l.length c) l.length (bcs l))], Z, noX⟩ [(0, true, .slice ad l.length c), (1, true, .int .i64 i), (4, true, .pointer (some ⟨g1, 0, none⟩)), (5, true, .int .i64 0), (6, true, .int .i64 0)] [(true, g1, 25, [.int .u8 0, .slice none 0 0])] ac _ := hs.re ⟨rfl, rfl, rfl, rfl, rfl, trivial⟩
      refine wp_region_lit ?_
      refine lstep (wpO_plain rfl (op_build hs none (qs := []) (v := .agg #[.int .u8 0, .slice none 0 0]) rfl rfl rfl rfl (fun _ => by kernel_rfl) rfl fun ac hs => ?_))
      refine lstep (wpO_plain rfl (op_store hs 0 (vs := [.int .u8 0, .slice none 0 0]) rfl rfl rfl rfl rfl Try.sizeOf25 rfl rfl rfl rfl rfl fun w hs => ?_))
      refine lstep (wpO_plain rfl (op_assign hs none rfl rfl rfl rfl fun ac hs => ?_))
      refine lstep (wpO_plain rfl (op_assign hs none rfl rfl rfl rfl fun ac hs => ?_))
      refine wpList_nil ?_
      refine then_n ?_
      refine wp_ret ?_
      refine then_r ?_
      exact bodyPost_ret (res3 rfl (rv_c hs 0 (v := .agg #[.int .u8 0, .slice none 0 0]) rfl rfl Try.isAgg25 Try.sizeOf25 rfl) (rv_t hs rfl) (rv_t hs rfl)) hs.defers ⟨⟨none, 0⟩, by obtain ⟨rfl, rfl, rfl, rfl⟩ := t4 ((NX_arg (by omega)).symm.trans hN); rfl, hs.bel rfl, by obtain ⟨rfl, rfl, rfl, rfl⟩ := t4 ((NX_arg (by omega)).symm.trans hN); exact okl1 celv_nil⟩
    · skip
      have hp4 := of_decide_eq_false hc
      obtain ⟨j, rfl⟩ : ∃ j : Nat, i = (j : Int) := ⟨i.toNat, by omega⟩
      have hj : j < l.length := by omega
      have hdl : (l.drop j).length = l.length - j := by simp
      have hd1 := hd18_le (byt l j)
      refine wp_skip ?_
      refine then_n ?_
      refine wp_seq ?_
      replace hs : St 87 ⟨w0, [], [(true, .cel (.slice ad l.length c) l.length (bcs l))], Z, noX⟩ [(0, true, .slice ad l.length c), (1, true, .int .i64 ((j : Nat) : Int)), (4, true, .pointer (some ⟨g1, 0, none⟩)), (5, true, .int .i64 0), (6, true, .int .i64 0)] [(true, g1, 25, [.int .u8 0, .slice none 0 0])] ac _ := hs.re ⟨rfl, rfl, rfl, rfl, rfl, trivial⟩
      refine wp_region_lit ?_
      refine lstep (wpO_plain rfl (op_move hs none rfl rfl rfl rfl fun ac hs => ?_))
      refine lstep (wpO_plain rfl (op_move hs none rfl rfl rfl rfl fun ac hs => ?_))
      refine lstep (wpO_plain rfl (op_idxC hs none 0 (j := j) rfl rfl rfl rfl rfl Try.underlying22 Try.sizeOf5 (show j < l.length by omega) (off := j) (by omega) rfl fun ac hs => ?_))
      have l5 := byt_lt l j
      refine lstep (wpO_plain rfl (op_loadC hs none 0 (u := .int .u8 ((byt l j : Nat) : Int)) rfl rfl rfl rfl Try.isAgg5 Try.sizeOf5 (by decide) (bcs_get (show j < l.length by omega)) rfl fun ac hs => ?_))
      refine lstep (wpO_plain rfl (op_assign hs none rfl rfl rfl rfl fun ac hs => ?_))
      refine wpList_nil ?_
      refine then_n ?_
      refine wp_seq ?_
      refine wp_region_lit ?_
      refine lstep (wpO_plain rfl (op_move hs none rfl rfl rfl rfl fun ac hs => ?_))
      refine lstep (wpO_plain rfl (op_move hs none rfl rfl rfl rfl fun ac hs => ?_))
      refine lstep (wpO_plain rfl (op_call (F := 29) hs none (v := .int .i64 ((hd18 (byt l j) : Nat) : Int)) rfl rfl rfl rfl (Try.call29 _) (head_c (byt l j) (byt_lt _ _)) rfl fun ac w hs => ?_))
      refine lstep (wpO_plain rfl (op_bin hs none (v := .int .i64 ((j + (hd18 (byt l j)) : Nat) : Int)) rfl rfl rfl rfl (fun _ => rfl) (bin_addN (x := j) (y := hd18 (byt l j)) (z := j + (hd18 (byt l j))) rfl (show j + (hd18 (byt l j)) < 9223372036854775808 by omega)) rfl fun ac hs => ?_))
      refine lstep (wpO_plain rfl (op_assign hs none rfl rfl rfl rfl fun ac hs => ?_))
      refine wpList_nil ?_
      refine then_n ?_
      refine wp_seq ?_
      refine wp_seq ?_
      replace hs : St 87 ⟨w0, [], [(true, .cel (.slice ad l.length c) l.length (bcs l))], Z, noX⟩ [(0, true, .slice ad l.length c), (1, true, .int .i64 ((j : Nat) : Int)), (4, true, .pointer (some ⟨g1, 0, none⟩)), (5, true, .int .i64 0), (6, true, .int .i64 0), (7, true, .int .u8 ((byt l j : Nat) : Int)), (8, true, .int .i64 ((j + (hd18 (byt l j)) : Nat) : Int))] [(true, g1, 25, [.int .u8 0, .slice none 0 0])] ac _ := hs.re ⟨rfl, rfl, rfl, rfl, rfl, rfl, rfl, trivial⟩
      refine wp_region_lit ?_
      refine lstep (wpO_plain rfl (op_move hs none rfl rfl rfl rfl fun ac hs => ?_))
      refine lstep (wpO_plain rfl (op_move hs none rfl rfl rfl rfl fun ac hs => ?_))
      refine lstep (wpO_plain rfl (op_blt hs none (v := .int .i64 ((l.length : Nat) : Int)) rfl rfl rfl (blt_len Try.underlying22) rfl fun ac hs => ?_))
      refine lstep (wpO_plain rfl (op_bin hs none (v := .bool (decide (l.length < j + (hd18 (byt l j))))) rfl rfl rfl rfl (fun _ => rfl) (bin_gtrN (x := j + (hd18 (byt l j))) (y := l.length)) rfl fun ac hs => ?_))
      refine wpList_nil ?_
      refine then_n ?_
      refine wp_cond_split (hs.ev rfl) (fun hc => ?_) (fun hc => ?_)
      · skip
        have hp6 := of_decide_eq_true hc
        refine wp_seq ?_
        refine wp_region_lit ?_
        refine lstep (wpO_plain rfl (op_build hs none (qs := []) (v := .agg #[.int .u8 0, .slice none 0 0]) rfl rfl rfl rfl (fun _ => by kernel_rfl) rfl fun ac hs => ?_))
        refine lstep (wpO_plain rfl (op_store hs 0 (vs := [.int .u8 0, .slice none 0 0]) rfl rfl rfl rfl rfl Try.sizeOf25 rfl rfl rfl rfl rfl fun w hs => ?_))
        refine lstep (wpO_plain rfl (op_assign hs none rfl rfl rfl rfl fun ac hs => ?_))
        refine lstep (wpO_plain rfl (op_assign hs none rfl rfl rfl rfl fun ac hs => ?_))
        refine wpList_nil ?_
        refine then_n ?_
        refine wp_ret ?_
        refine then_r ?_
        exact bodyPost_ret (res3 rfl (rv_c hs 0 (v := .agg #[.int .u8 0, .slice none 0 0]) rfl rfl Try.isAgg25 Try.sizeOf25 rfl) (rv_t hs rfl) (rv_t hs rfl)) hs.defers ⟨⟨none, 0⟩, by obtain ⟨rfl, rfl, rfl, rfl⟩ := t4 ((NX_ref1 hj (by omega)).symm.trans hN); rfl, hs.bel rfl, by obtain ⟨rfl, rfl, rfl, rfl⟩ := t4 ((NX_ref1 hj (by omega)).symm.trans hN); exact okl1 celv_nil⟩
      · skip
        have hp7 := of_decide_eq_false hc
        refine wp_skip ?_
        refine then_n ?_
        refine wp_seq ?_
        refine wp_region_lit ?_
        refine lstep (wpO_plain rfl (op_assign hs none rfl rfl rfl rfl fun ac hs => ?_))
        refine wpList_nil ?_
        refine then_n ?_
        refine wp_seq ?_
        refine wp_block ?_
        refine wp_seq ?_
        by_cases hq8 : 1 ≤ byt l j
        · skip
          refine wp_region_lit ?_
          refine lstep (wpO_plain rfl (op_move hs none rfl rfl rfl rfl fun ac hs => ?_))
          refine lstep (wpO_plain rfl (op_bin hs none (v := .bool true) rfl rfl rfl rfl (fun _ => rfl) (fun w => dT hq8 (bin_geqN (x := byt l j) (y := 1) w)) rfl fun ac hs => ?_))
          refine lstep (wpO_plain rfl (op_move hs none rfl rfl rfl rfl fun ac hs => ?_))
          refine lstep (wpO_in hs rfl rfl rfl (op_move hs none rfl rfl rfl rfl fun ac hs => ?_))
          refine lstep (wpO_in hs rfl rfl rfl (op_bin hs none (v := .bool (decide (byt l j ≤ 75))) rfl rfl rfl rfl (fun _ => rfl) (bin_leqN (x := byt l j) (y := 75)) rfl fun ac hs => ?_))
          refine lstep (wpO_plain rfl (op_pickT hs none rfl rfl rfl rfl rfl fun ac hs => ?_))
          refine lstep (wpO_plain rfl (op_assign hs none rfl rfl rfl rfl fun ac hs => ?_))
          refine wpList_nil ?_
          refine then_n ?_
          refine wp_cond_split (hs.ev rfl) (fun hc => ?_) (fun hc => ?_)
          · skip
            have hp9 := of_decide_eq_true hc
            replace hs : St 87 ⟨w0, [], [(true, .cel (.slice ad l.length c) l.length (bcs l))], Z, noX⟩ [(0, true, .slice ad l.length c), (4, true, .pointer (some ⟨g1, 0, none⟩)), (5, true, .int .i64 0), (6, true, .int .i64 0), (7, true, .int .u8 ((byt l j : Nat) : Int)), (8, true, .int .i64 ((j + (hd18 (byt l j)) : Nat) : Int)), (9, true, .int .i64 0)] [(true, g1, 25, [.int .u8 0, .slice none 0 0])] ac _ := hs.re ⟨rfl, rfl, rfl, rfl, rfl, rfl, rfl, trivial⟩
            refine wp_region_lit ?_
            refine lstep (wpO_plain rfl (op_move hs none rfl rfl rfl rfl fun ac hs => ?_))
            refine lstep (wpO_plain rfl (op_convert hs none (v := .int .i64 ((byt l j : Nat) : Int)) rfl rfl rfl (conv_N Try.underlying5 Try.underlying3 (show byt l j < 9223372036854775808 by omega)) rfl fun ac hs => ?_))
            refine lstep (wpO_plain rfl (op_assign hs none rfl rfl rfl rfl fun ac hs => ?_))
            refine wpList_nil ?_
            refine blk_n ?_
            refine then_n ?_
            refine wp_seq ?_
            refine wp_seq ?_
            refine wp_region_lit ?_
            refine lstep (wpO_plain rfl (op_move hs none rfl rfl rfl rfl fun ac hs => ?_))
            refine lstep (wpO_plain rfl (op_move hs none rfl rfl rfl rfl fun ac hs => ?_))
            refine lstep (wpO_plain rfl (op_blt hs none (v := .int .i64 ((l.length : Nat) : Int)) rfl rfl rfl (blt_len Try.underlying22) rfl fun ac hs => ?_))
            refine lstep (wpO_plain rfl (op_move hs none rfl rfl rfl rfl fun ac hs => ?_))
            refine lstep (wpO_plain rfl (op_bin hs none (v := .int .i64 ((l.length - (j + (hd18 (byt l j))) : Nat) : Int)) rfl rfl rfl rfl (fun _ => rfl) (bin_subN (x := l.length) (y := j + (hd18 (byt l j))) (z := l.length - (j + (hd18 (byt l j)))) (by omega) (show l.length - (j + (hd18 (byt l j))) < 9223372036854775808 by omega)) rfl fun ac hs => ?_))
            refine lstep (wpO_plain rfl (op_bin hs none (v := .bool (decide (l.length - (j + (hd18 (byt l j))) < byt l j))) rfl rfl rfl rfl (fun _ => rfl) (bin_gtrN (x := byt l j) (y := l.length - (j + (hd18 (byt l j))))) rfl fun ac hs => ?_))
            refine wpList_nil ?_
            refine then_n ?_
            refine wp_cond_split (hs.ev rfl) (fun hc => ?_) (fun hc => ?_)
            · skip
              have hp10 := of_decide_eq_true hc
              refine wp_seq ?_
              replace hs : St 87 ⟨w0, [], [(true, .cel (.slice ad l.length c) l.length (bcs l))], Z, noX⟩ [(0, true, .slice ad l.length c), (4, true, .pointer (some ⟨g1, 0, none⟩)), (5, true, .int .i64 0), (6, true, .int .i64 0), (7, true, .int .u8 ((byt l j : Nat) : Int)), (8, true, .int .i64 ((j + (hd18 (byt l j)) : Nat) : Int)), (9, true, .int .i64 ((byt l j : Nat) : Int))] [(true, g1, 25, [.int .u8 0, .slice none 0 0])] ac _ := hs.re ⟨rfl, rfl, rfl, rfl, rfl, rfl, rfl, trivial⟩
              refine wp_region_lit ?_
              refine lstep (wpO_plain rfl (op_build hs none (qs := []) (v := .agg #[.int .u8 0, .slice none 0 0]) rfl rfl rfl rfl (fun _ => by kernel_rfl) rfl fun ac hs => ?_))
              refine lstep (wpO_plain rfl (op_store hs 0 (vs := [.int .u8 0, .slice none 0 0]) rfl rfl rfl rfl rfl Try.sizeOf25 rfl rfl rfl rfl rfl fun w hs => ?_))
              refine lstep (wpO_plain rfl (op_assign hs none rfl rfl rfl rfl fun ac hs => ?_))
              refine lstep (wpO_plain rfl (op_assign hs none rfl rfl rfl rfl fun ac hs => ?_))
              refine wpList_nil ?_
              refine then_n ?_
              refine wp_ret ?_
              refine then_r ?_
              exact bodyPost_ret (res3 rfl (rv_c hs 0 (v := .agg #[.int .u8 0, .slice none 0 0]) rfl rfl Try.isAgg25 Try.sizeOf25 rfl) (rv_t hs rfl) (rv_t hs rfl)) hs.defers ⟨⟨none, 0⟩, by obtain ⟨rfl, rfl, rfl, rfl⟩ := t4 ((NX_ref2 hj (by omega) (rn_1 (by omega) (by omega)) (by omega)).symm.trans hN); rfl, hs.bel rfl, by obtain ⟨rfl, rfl, rfl, rfl⟩ := t4 ((NX_ref2 hj (by omega) (rn_1 (by omega) (by omega)) (by omega)).symm.trans hN); exact okl1 celv_nil⟩
            · skip
              have hp11 := of_decide_eq_false hc
              refine wp_skip ?_
              refine then_n ?_
              refine wp_seq ?_
              replace hs : St 87 ⟨w0, [], [(true, .cel (.slice ad l.length c) l.length (bcs l))], Z, noX⟩ [(0, true, .slice ad l.length c), (4, true, .pointer (some ⟨g1, 0, none⟩)), (5, true, .int .i64 0), (6, true, .int .i64 0), (7, true, .int .u8 ((byt l j : Nat) : Int)), (8, true, .int .i64 ((j + (hd18 (byt l j)) : Nat) : Int)), (9, true, .int .i64 ((byt l j : Nat) : Int))] [(true, g1, 25, [.int .u8 0, .slice none 0 0])] ac _ := hs.re ⟨rfl, rfl, rfl, rfl, rfl, rfl, rfl, trivial⟩
              refine wp_region_lit ?_
              refine lstep (wpO_plain rfl (op_move hs none rfl rfl rfl rfl fun ac hs => ?_))
              refine lstep (wpO_plain rfl (op_bsO0 hs none none (size := 1) rfl rfl Try.underlying22 inf_u8_5 rfl rfl fun ad13 ac w hs => ?_))
              refine lstep (wpO_plain rfl (op_move hs none rfl rfl rfl rfl fun ac hs => ?_))
              refine lstep (wpO_plain rfl (op_move hs none rfl rfl rfl rfl fun ac hs => ?_))
              refine lstep (wpO_plain rfl (op_move hs none rfl rfl rfl rfl fun ac hs => ?_))
              refine lstep (wpO_plain rfl (op_move hs none rfl rfl rfl rfl fun ac hs => ?_))
              refine lstep (wpO_plain rfl (op_bin hs none (v := .int .i64 ((j + (hd18 (byt l j)) + (byt l j) : Nat) : Int)) rfl rfl rfl rfl (fun _ => rfl) (bin_addN (x := j + (hd18 (byt l j))) (y := byt l j) (z := j + (hd18 (byt l j)) + (byt l j)) rfl (show j + (hd18 (byt l j)) + (byt l j) < 9223372036854775808 by omega)) rfl fun ac hs => ?_))
              refine lstep (wpO_plain rfl (op_sliceR hs none none 0 (j + (hd18 (byt l j))) (j + (hd18 (byt l j)) + (byt l j)) (N' := ((l.drop (j + (hd18 (byt l j)))).take (byt l j)).length) (cs' := bcs ((l.drop (j + (hd18 (byt l j)))).take (byt l j))) rfl rfl rfl rfl (.inr ⟨_, _, rfl, rfl⟩) (.inr ⟨_, _, rfl, rfl⟩) Try.underlying22 Try.sizeOf5 (show j + (hd18 (byt l j)) ≤ j + (hd18 (byt l j)) + (byt l j) by omega) (show j + (hd18 (byt l j)) + (byt l j) ≤ l.length by omega) (len_part (show j + (hd18 (byt l j)) + (byt l j) ≤ l.length by omega)) bcs_partn rfl rfl fun ac hs => ?_))
              refine lstep (wpO_plain rfl (op_appR hs none 1 2 (N' := ((l.drop (j + (hd18 (byt l j)))).take (byt l j)).length) (ys := bcs ((l.drop (j + (hd18 (byt l j)))).take (byt l j))) rfl rfl rfl rfl rfl rfl Try.underlying22 inf_u8_5 rfl (by decide) (bcs_len1 rfl) (bcs_one _) (by decide) (show 0 + (((l.drop (j + (hd18 (byt l j)))).take (byt l j)).length) ≤ 1000000 by (try simp only [List.length_drop, List.length_take, List.length_append, List.length_cons, List.length_nil]); omega) (Nat.zero_add _) rfl rfl rfl fun ad14 cp15 ac w hs => ?_))
              refine lstep (wpO_plain rfl (op_build hs none (qs := [(0, .int .u8 ((byt l j : Nat) : Int)), (1, .slice ad14 (((l.drop (j + (hd18 (byt l j)))).take (byt l j)).length) cp15)]) (v := .agg #[.int .u8 ((byt l j : Nat) : Int), .slice ad14 (((l.drop (j + (hd18 (byt l j)))).take (byt l j)).length) cp15]) rfl rfl rfl rfl (fun _ => by kernel_rfl) rfl fun ac hs => ?_))
              refine lstep (wpO_plain rfl (op_move hs none rfl rfl rfl rfl fun ac hs => ?_))
              refine lstep (wpO_plain rfl (op_move hs none rfl rfl rfl rfl fun ac hs => ?_))
              refine lstep (wpO_plain rfl (op_bin hs none (v := .int .i64 ((j + (hd18 (byt l j)) + (byt l j) : Nat) : Int)) rfl rfl rfl rfl (fun _ => rfl) (bin_addN (x := j + (hd18 (byt l j))) (y := byt l j) (z := j + (hd18 (byt l j)) + (byt l j)) rfl (show j + (hd18 (byt l j)) + (byt l j) < 9223372036854775808 by omega)) rfl fun ac hs => ?_))
              refine lstep (wpO_plain rfl (op_store hs 0 (vs := [.int .u8 ((byt l j : Nat) : Int), .slice ad14 (((l.drop (j + (hd18 (byt l j)))).take (byt l j)).length) cp15]) rfl rfl rfl rfl rfl Try.sizeOf25 rfl rfl rfl rfl rfl fun w hs => ?_))
              refine lstep (wpO_plain rfl (op_assign hs none rfl rfl rfl rfl fun ac hs => ?_))
              refine lstep (wpO_plain rfl (op_assign hs none rfl rfl rfl rfl fun ac hs => ?_))
              refine wpList_nil ?_
              refine then_n ?_
              refine wp_ret ?_
              replace hs := hs.freeze 1 rfl
              exact bodyPost_ret (res3 rfl (rv_c hs 0 (v := .agg #[.int .u8 ((byt l j : Nat) : Int), .slice ad14 (((l.drop (j + (hd18 (byt l j)))).take (byt l j)).length) cp15]) rfl rfl Try.isAgg25 Try.sizeOf25 rfl) (rv_t hs rfl) (rv_t hs rfl)) hs.defers ⟨⟨ad14, cp15⟩, by obtain ⟨rfl, rfl, rfl, rfl⟩ := t4 ((NX_ref hj (by omega) (rn_1 (by omega) (by omega)) (by omega)).symm.trans hN); rfl, hs.bel rfl, by obtain ⟨rfl, rfl, rfl, rfl⟩ := t4 ((NX_ref hj (by omega) (rn_1 (by omega) (by omega)) (by omega)).symm.trans hN); exact hs.ret1 1 rfl⟩
          · skip
            have hp16 := of_decide_eq_false hc
            refine wp_seq ?_
            replace hs : St 87 ⟨w0, [], [(true, .cel (.slice ad l.length c) l.length (bcs l))], Z, noX⟩ [(0, true, .slice ad l.length c), (1, true, .int .i64 ((j : Nat) : Int)), (4, true, .pointer (some ⟨g1, 0, none⟩)), (5, true, .int .i64 0), (6, true, .int .i64 0), (7, true, .int .u8 ((byt l j : Nat) : Int)), (8, true, .int .i64 ((j + (hd18 (byt l j)) : Nat) : Int)), (9, true, .int .i64 0)] [(true, g1, 25, [.int .u8 0, .slice none 0 0])] ac _ := hs.re ⟨rfl, rfl, rfl, rfl, rfl, rfl, rfl, rfl, trivial⟩
            refine wp_region_lit ?_
            refine lstep (wpO_plain rfl (op_move hs none rfl rfl rfl rfl fun ac hs => ?_))
            refine lstep (wpO_plain rfl (op_bin hs none (v := .bool (decide (byt l j = 76))) rfl rfl rfl rfl (fun _ => rfl) (bin_eqlN (x := byt l j) (y := 76)) rfl fun ac hs => ?_))
            refine lstep (wpO_plain rfl (op_assign hs none rfl rfl rfl rfl fun ac hs => ?_))
            refine wpList_nil ?_
            refine then_n ?_
            refine wp_cond_split (hs.ev rfl) (fun hc => ?_) (fun hc => ?_)
            · skip
              have hp17 := of_decide_eq_true hc
              have h76 : hd18 (byt l j) = 2 := by unfold hd18; rw [if_pos (by omega)]
              refine wp_region_lit ?_
              refine lstep (wpO_plain rfl (op_move hs none rfl rfl rfl rfl fun ac hs => ?_))
              refine lstep (wpO_plain rfl (op_move hs none rfl rfl rfl rfl fun ac hs => ?_))
              refine lstep (wpO_plain rfl (op_bin hs none (v := .int .i64 ((j + 1 : Nat) : Int)) rfl rfl rfl rfl (fun _ => rfl) (bin_addN (x := j) (y := 1) (z := j + 1) rfl (show j + 1 < 9223372036854775808 by omega)) rfl fun ac hs => ?_))
              refine lstep (wpO_plain rfl (op_idxC hs none 0 (j := j + 1) rfl rfl rfl rfl rfl Try.underlying22 Try.sizeOf5 (show j + 1 < l.length by omega) (off := j + 1) (by omega) rfl fun ac hs => ?_))
              have l18 := byt_lt l (j + 1)
              refine lstep (wpO_plain rfl (op_loadC hs none 0 (u := .int .u8 ((byt l (j + 1) : Nat) : Int)) rfl rfl rfl rfl Try.isAgg5 Try.sizeOf5 (by decide) (bcs_get (show j + 1 < l.length by omega)) rfl fun ac hs => ?_))
              refine lstep (wpO_plain rfl (op_convert hs none (v := .int .i64 ((byt l (j + 1) : Nat) : Int)) rfl rfl rfl (conv_N Try.underlying5 Try.underlying3 (show byt l (j + 1) < 9223372036854775808 by omega)) rfl fun ac hs => ?_))
              refine lstep (wpO_plain rfl (op_assign hs none rfl rfl rfl rfl fun ac hs => ?_))
              refine wpList_nil ?_
              refine blk_n ?_
              refine then_n ?_
              refine wp_seq ?_
              refine wp_seq ?_
              replace hs : St 87 ⟨w0, [], [(true, .cel (.slice ad l.length c) l.length (bcs l))], Z, noX⟩ [(0, true, .slice ad l.length c), (4, true, .pointer (some ⟨g1, 0, none⟩)), (5, true, .int .i64 0), (6, true, .int .i64 0), (7, true, .int .u8 ((byt l j : Nat) : Int)), (8, true, .int .i64 ((j + (hd18 (byt l j)) : Nat) : Int)), (9, true, .int .i64 ((byt l (j + 1) : Nat) : Int))] [(true, g1, 25, [.int .u8 0, .slice none 0 0])] ac _ := hs.re ⟨rfl, rfl, rfl, rfl, rfl, rfl, rfl, trivial⟩
              refine wp_region_lit ?_
              refine lstep (wpO_plain rfl (op_move hs none rfl rfl rfl rfl fun ac hs => ?_))
              refine lstep (wpO_plain rfl (op_move hs none rfl rfl rfl rfl fun ac hs => ?_))
              refine lstep (wpO_plain rfl (op_blt hs none (v := .int .i64 ((l.length : Nat) : Int)) rfl rfl rfl (blt_len Try.underlying22) rfl fun ac hs => ?_))
              refine lstep (wpO_plain rfl (op_move hs none rfl rfl rfl rfl fun ac hs => ?_))
              refine lstep (wpO_plain rfl (op_bin hs none (v := .int .i64 ((l.length - (j + (hd18 (byt l j))) : Nat) : Int)) rfl rfl rfl rfl (fun _ => rfl) (bin_subN (x := l.length) (y := j + (hd18 (byt l j))) (z := l.length - (j + (hd18 (byt l j)))) (by omega) (show l.length - (j + (hd18 (byt l j))) < 9223372036854775808 by omega)) rfl fun ac hs => ?_))
              refine lstep (wpO_plain rfl (op_bin hs none (v := .bool (decide (l.length - (j + (hd18 (byt l j))) < byt l (j + 1)))) rfl rfl rfl rfl (fun _ => rfl) (bin_gtrN (x := byt l (j + 1)) (y := l.length - (j + (hd18 (byt l j))))) rfl fun ac hs => ?_))
              refine wpList_nil ?_
              refine then_n ?_
              refine wp_cond_split (hs.ev rfl) (fun hc => ?_) (fun hc => ?_)
              · skip
                have hp19 := of_decide_eq_true hc
                refine wp_seq ?_
                replace hs : St 87 ⟨w0, [], [(true, .cel (.slice ad l.length c) l.length (bcs l))], Z, noX⟩ [(0, true, .slice ad l.length c), (4, true, .pointer (some ⟨g1, 0, none⟩)), (5, true, .int .i64 0), (6, true, .int .i64 0), (7, true, .int .u8 ((byt l j : Nat) : Int)), (8, true, .int .i64 ((j + (hd18 (byt l j)) : Nat) : Int)), (9, true, .int .i64 ((byt l (j + 1) : Nat) : Int))] [(true, g1, 25, [.int .u8 0, .slice none 0 0])] ac _ := hs.re ⟨rfl, rfl, rfl, rfl, rfl, rfl, rfl, trivial⟩
                refine wp_region_lit ?_
                refine lstep (wpO_plain rfl (op_build hs none (qs := []) (v := .agg #[.int .u8 0, .slice none 0 0]) rfl rfl rfl rfl (fun _ => by kernel_rfl) rfl fun ac hs => ?_))
                refine lstep (wpO_plain rfl (op_store hs 0 (vs := [.int .u8 0, .slice none 0 0]) rfl rfl rfl rfl rfl Try.sizeOf25 rfl rfl rfl rfl rfl fun w hs => ?_))
                refine lstep (wpO_plain rfl (op_assign hs none rfl rfl rfl rfl fun ac hs => ?_))
                refine lstep (wpO_plain rfl (op_assign hs none rfl rfl rfl rfl fun ac hs => ?_))
                refine wpList_nil ?_
                refine then_n ?_
                refine wp_ret ?_
                refine then_r ?_
                exact bodyPost_ret (res3 rfl (rv_c hs 0 (v := .agg #[.int .u8 0, .slice none 0 0]) rfl rfl Try.isAgg25 Try.sizeOf25 rfl) (rv_t hs rfl) (rv_t hs rfl)) hs.defers ⟨⟨none, 0⟩, by obtain ⟨rfl, rfl, rfl, rfl⟩ := t4 ((NX_ref2 hj (by omega) (rn_2 (by omega)) (by omega)).symm.trans hN); rfl, hs.bel rfl, by obtain ⟨rfl, rfl, rfl, rfl⟩ := t4 ((NX_ref2 hj (by omega) (rn_2 (by omega)) (by omega)).symm.trans hN); exact okl1 celv_nil⟩
              · skip
                have hp20 := of_decide_eq_false hc
                refine wp_skip ?_
                refine then_n ?_
                refine wp_seq ?_
                replace hs : St 87 ⟨w0, [], [(true, .cel (.slice ad l.length c) l.length (bcs l))], Z, noX⟩ [(0, true, .slice ad l.length c), (4, true, .pointer (some ⟨g1, 0, none⟩)), (5, true, .int .i64 0), (6, true, .int .i64 0), (7, true, .int .u8 ((byt l j : Nat) : Int)), (8, true, .int .i64 ((j + (hd18 (byt l j)) : Nat) : Int)), (9, true, .int .i64 ((byt l (j + 1) : Nat) : Int))] [(true, g1, 25, [.int .u8 0, .slice none 0 0])] ac _ := hs.re ⟨rfl, rfl, rfl, rfl, rfl, rfl, rfl, trivial⟩
                refine wp_region_lit ?_
                refine lstep (wpO_plain rfl (op_move hs none rfl rfl rfl rfl fun ac hs => ?_))
                refine lstep (wpO_plain rfl (op_bsO0 hs none none (size := 1) rfl rfl Try.underlying22 inf_u8_5 rfl rfl fun ad22 ac w hs => ?_))
                refine lstep (wpO_plain rfl (op_move hs none rfl rfl rfl rfl fun ac hs => ?_))
                refine lstep (wpO_plain rfl (op_move hs none rfl rfl rfl rfl fun ac hs => ?_))
                refine lstep (wpO_plain rfl (op_move hs none rfl rfl rfl rfl fun ac hs => ?_))
                refine lstep (wpO_plain rfl (op_move hs none rfl rfl rfl rfl fun ac hs => ?_))
                refine lstep (wpO_plain rfl (op_bin hs none (v := .int .i64 ((j + (hd18 (byt l j)) + (byt l (j + 1)) : Nat) : Int)) rfl rfl rfl rfl (fun _ => rfl) (bin_addN (x := j + (hd18 (byt l j))) (y := byt l (j + 1)) (z := j + (hd18 (byt l j)) + (byt l (j + 1))) rfl (show j + (hd18 (byt l j)) + (byt l (j + 1)) < 9223372036854775808 by omega)) rfl fun ac hs => ?_))
                refine lstep (wpO_plain rfl (op_sliceR hs none none 0 (j + (hd18 (byt l j))) (j + (hd18 (byt l j)) + (byt l (j + 1))) (N' := ((l.drop (j + (hd18 (byt l j)))).take (byt l (j + 1))).length) (cs' := bcs ((l.drop (j + (hd18 (byt l j)))).take (byt l (j + 1)))) rfl rfl rfl rfl (.inr ⟨_, _, rfl, rfl⟩) (.inr ⟨_, _, rfl, rfl⟩) Try.underlying22 Try.sizeOf5 (show j + (hd18 (byt l j)) ≤ j + (hd18 (byt l j)) + (byt l (j + 1)) by omega) (show j + (hd18 (byt l j)) + (byt l (j + 1)) ≤ l.length by omega) (len_part (show j + (hd18 (byt l j)) + (byt l (j + 1)) ≤ l.length by omega)) bcs_partn rfl rfl fun ac hs => ?_))
                refine lstep (wpO_plain rfl (op_appR hs none 1 2 (N' := ((l.drop (j + (hd18 (byt l j)))).take (byt l (j + 1))).length) (ys := bcs ((l.drop (j + (hd18 (byt l j)))).take (byt l (j + 1)))) rfl rfl rfl rfl rfl rfl Try.underlying22 inf_u8_5 rfl (by decide) (bcs_len1 rfl) (bcs_one _) (by decide) (show 0 + (((l.drop (j + (hd18 (byt l j)))).take (byt l (j + 1))).length) ≤ 1000000 by (try simp only [List.length_drop, List.length_take, List.length_append, List.length_cons, List.length_nil]); omega) (Nat.zero_add _) rfl rfl rfl fun ad23 cp24 ac w hs => ?_))
                refine lstep (wpO_plain rfl (op_build hs none (qs := [(0, .int .u8 ((byt l j : Nat) : Int)), (1, .slice ad23 (((l.drop (j + (hd18 (byt l j)))).take (byt l (j + 1))).length) cp24)]) (v := .agg #[.int .u8 ((byt l j : Nat) : Int), .slice ad23 (((l.drop (j + (hd18 (byt l j)))).take (byt l (j + 1))).length) cp24]) rfl rfl rfl rfl (fun _ => by kernel_rfl) rfl fun ac hs => ?_))
                refine lstep (wpO_plain rfl (op_move hs none rfl rfl rfl rfl fun ac hs => ?_))
                refine lstep (wpO_plain rfl (op_move hs none rfl rfl rfl rfl fun ac hs => ?_))
                refine lstep (wpO_plain rfl (op_bin hs none (v := .int .i64 ((j + (hd18 (byt l j)) + (byt l (j + 1)) : Nat) : Int)) rfl rfl rfl rfl (fun _ => rfl) (bin_addN (x := j + (hd18 (byt l j))) (y := byt l (j + 1)) (z := j + (hd18 (byt l j)) + (byt l (j + 1))) rfl (show j + (hd18 (byt l j)) + (byt l (j + 1)) < 9223372036854775808 by omega)) rfl fun ac hs => ?_))
                refine lstep (wpO_plain rfl (op_store hs 0 (vs := [.int .u8 ((byt l j : Nat) : Int), .slice ad23 (((l.drop (j + (hd18 (byt l j)))).take (byt l (j + 1))).length) cp24]) rfl rfl rfl rfl rfl Try.sizeOf25 rfl rfl rfl rfl rfl fun w hs => ?_))
                refine lstep (wpO_plain rfl (op_assign hs none rfl rfl rfl rfl fun ac hs => ?_))
                refine lstep (wpO_plain rfl (op_assign hs none rfl rfl rfl rfl fun ac hs => ?_))
                refine wpList_nil ?_
                refine then_n ?_
                refine wp_ret ?_
                replace hs := hs.freeze 1 rfl
                exact bodyPost_ret (res3 rfl (rv_c hs 0 (v := .agg #[.int .u8 ((byt l j : Nat) : Int), .slice ad23 (((l.drop (j + (hd18 (byt l j)))).take (byt l (j + 1))).length) cp24]) rfl rfl Try.isAgg25 Try.sizeOf25 rfl) (rv_t hs rfl) (rv_t hs rfl)) hs.defers ⟨⟨ad23, cp24⟩, by obtain ⟨rfl, rfl, rfl, rfl⟩ := t4 ((NX_ref hj (by omega) (rn_2 (by omega)) (by omega)).symm.trans hN); rfl, hs.bel rfl, by obtain ⟨rfl, rfl, rfl, rfl⟩ := t4 ((NX_ref hj (by omega) (rn_2 (by omega)) (by omega)).symm.trans hN); exact hs.ret1 1 rfl⟩
            · skip
              have hp25 := of_decide_eq_false hc
              refine wp_seq ?_
              refine wp_region_lit ?_
              refine lstep (wpO_plain rfl (op_move hs none rfl rfl rfl rfl fun ac hs => ?_))
              refine lstep (wpO_plain rfl (op_bin hs none (v := .bool (decide (byt l j = 77))) rfl rfl rfl rfl (fun _ => rfl) (bin_eqlN (x := byt l j) (y := 77)) rfl fun ac hs => ?_))
              refine lstep (wpO_plain rfl (op_assign hs none rfl rfl rfl rfl fun ac hs => ?_))
              refine wpList_nil ?_
              refine then_n ?_
              refine wp_cond_split (hs.ev rfl) (fun hc => ?_) (fun hc => ?_)
              · skip
                have hp26 := of_decide_eq_true hc
                have h77 : hd18 (byt l j) = 3 := by unfold hd18; rw [if_neg (by omega), if_pos (by omega)]
                replace hs : St 87 ⟨w0, [], [(true, .cel (.slice ad l.length c) l.length (bcs l))], Z, noX⟩ [(0, true, .slice ad l.length c), (1, true, .int .i64 ((j : Nat) : Int)), (4, true, .pointer (some ⟨g1, 0, none⟩)), (5, true, .int .i64 0), (6, true, .int .i64 0), (7, true, .int .u8 ((byt l j : Nat) : Int)), (8, true, .int .i64 ((j + (hd18 (byt l j)) : Nat) : Int)), (9, true, .int .i64 0)] [(true, g1, 25, [.int .u8 0, .slice none 0 0])] ac _ := hs.re ⟨rfl, rfl, rfl, rfl, rfl, rfl, rfl, rfl, trivial⟩
                have l27 := byt_lt l (j + 1)
                have l28 := byt_lt l (j + 2)
                refine region_inv [([], [3, 4, 5, 13, 14]), ([], [2, 3, 4, 5, 13, 14]), ([1], [3, 4, 5, 13, 14]), ([0, 1, 2], [4, 5, 13, 14]), ([0, 1, 2, 3], [5, 13, 14]), ([0, 1, 2, 3, 4], [13, 14]), ([], [9, 10, 11, 12, 13, 14]), ([], [8, 9, 10, 11, 12, 13, 14]), ([7], [9, 10, 11, 12, 13, 14]), ([6, 7, 8], [10, 11, 12, 13, 14]), ([6, 7, 8, 9], [11, 12, 13, 14]), ([6, 7, 8, 9, 10], [12, 13, 14]), ([6, 7, 8, 9, 10, 11], [13, 14]), ([0, 1, 2, 3, 4, 5, 6, 7, 8, 9, 10, 11, 12], [14]), ([0, 1, 2, 3, 4, 5, 6, 7, 8, 9, 10, 11, 12, 13], [])] (fun L ac w => St 87 ⟨w0, [], [(true, .cel (.slice ad l.length c) l.length (bcs l))], Z, noX⟩ [(53, L 0, .slice ad l.length c), (54, L 1, .int .i64 ((j : Nat) : Int)), (55, L 2, .int .i64 ((j + 1 : Nat) : Int)), (56, L 3, vidx (.slice ad l.length c) (j + 1)), (57, L 4, .int .u8 ((byt l (j + 1) : Nat) : Int)), (58, L 5, .int .i64 ((byt l (j + 1) : Nat) : Int)), (59, L 6, .slice ad l.length c), (60, L 7, .int .i64 ((j : Nat) : Int)), (61, L 8, .int .i64 ((j + 2 : Nat) : Int)), (62, L 9, vidx (.slice ad l.length c) (j + 2)), (63, L 10, .int .u8 ((byt l (j + 2) : Nat) : Int)), (64, L 11, .int .i64 ((byt l (j + 2) : Nat) : Int)), (65, L 12, .int .i64 ((256 * (byt l (j + 2)) : Nat) : Int)), (66, L 13, .int .i64 ((byt l (j + 1) + (256 * (byt l (j + 2))) : Nat) : Int)), (9, L 14, .int .i64 ((byt l (j + 1) + (256 * (byt l (j + 2))) : Nat) : Int)), (0, true, .slice ad l.length c), (1, true, .int .i64 ((j : Nat) : Int)), (4, true, .pointer (some ⟨g1, 0, none⟩)), (5, true, .int .i64 0), (6, true, .int .i64 0), (7, true, .int .u8 ((byt l j : Nat) : Int)), (8, true, .int .i64 ((j + (hd18 (byt l j)) : Nat) : Int)), (9, true, .int .i64 0)] [(true, g1, 25, [.int .u8 0, .slice none 0 0])] ac w) (by kernel_rfl) (by kernel_rfl) ?_ ?_ ?_
                · exact hs.drew.skip.skip.skip.skip.skip.skip.skip.skip.skip.skip.skip.skip.skip.skip.skip
                · refine ⟨?_, ?_, ?_, ?_, ?_, ?_, ?_, ?_, ?_, ?_, ?_, ?_, ?_, ?_, ?_, trivial⟩
                  · intro L ac w hJ
                    have hs := hJ
                    refine wpO_plain rfl (op_move hs (some 0) rfl rfl rfl rfl fun ac hs => ?_)
                    exact hs
                  · intro L ac w hJ
                    have hs := hJ
                    refine wpO_plain rfl (op_move hs (some 1) rfl rfl rfl rfl fun ac hs => ?_)
                    exact hs
                  · intro L ac w hJ
                    have hs := hJ
                    refine wpO_plain rfl (op_bin hs (some 2) (v := .int .i64 ((j + 1 : Nat) : Int)) rfl rfl rfl rfl (fun _ => rfl) (bin_addN (x := j) (y := 1) (z := j + 1) rfl (show j + 1 < 9223372036854775808 by omega)) rfl fun ac hs => ?_)
                    exact hs
                  · intro L ac w hJ
                    have hs := hJ
                    refine wpO_plain rfl (op_idxC hs (some 3) 0 (j := j + 1) rfl rfl rfl rfl rfl Try.underlying22 Try.sizeOf5 (show j + 1 < l.length by omega) (off := j + 1) (by omega) rfl fun ac hs => ?_)
                    exact hs
                  · intro L ac w hJ
                    have hs := hJ
                    refine wpO_plain rfl (op_loadC hs (some 4) 0 (u := .int .u8 ((byt l (j + 1) : Nat) : Int)) rfl rfl rfl rfl Try.isAgg5 Try.sizeOf5 (by decide) (bcs_get (show j + 1 < l.length by omega)) rfl fun ac hs => ?_)
                    exact hs
                  · intro L ac w hJ
                    have hs := hJ
                    refine wpO_plain rfl (op_convert hs (some 5) (v := .int .i64 ((byt l (j + 1) : Nat) : Int)) rfl rfl rfl (conv_N Try.underlying5 Try.underlying3 (show byt l (j + 1) < 9223372036854775808 by omega)) rfl fun ac hs => ?_)
                    exact hs
                  · intro L ac w hJ
                    have hs := hJ
                    refine wpO_plain rfl (op_move hs (some 6) rfl rfl rfl rfl fun ac hs => ?_)
                    exact hs
                  · intro L ac w hJ
                    have hs := hJ
                    refine wpO_plain rfl (op_move hs (some 7) rfl rfl rfl rfl fun ac hs => ?_)
                    exact hs
                  · intro L ac w hJ
                    have hs := hJ
                    refine wpO_plain rfl (op_bin hs (some 8) (v := .int .i64 ((j + 2 : Nat) : Int)) rfl rfl rfl rfl (fun _ => rfl) (bin_addN (x := j) (y := 2) (z := j + 2) rfl (show j + 2 < 9223372036854775808 by omega)) rfl fun ac hs => ?_)
                    exact hs
                  · intro L ac w hJ
                    have hs := hJ
                    refine wpO_plain rfl (op_idxC hs (some 9) 0 (j := j + 2) rfl rfl rfl rfl rfl Try.underlying22 Try.sizeOf5 (show j + 2 < l.length by omega) (off := j + 2) (by omega) rfl fun ac hs => ?_)
                    exact hs
                  · intro L ac w hJ
                    have hs := hJ
                    refine wpO_plain rfl (op_loadC hs (some 10) 0 (u := .int .u8 ((byt l (j + 2) : Nat) : Int)) rfl rfl rfl rfl Try.isAgg5 Try.sizeOf5 (by decide) (bcs_get (show j + 2 < l.length by omega)) rfl fun ac hs => ?_)
                    exact hs
                  · intro L ac w hJ
                    have hs := hJ
                    refine wpO_plain rfl (op_convert hs (some 11) (v := .int .i64 ((byt l (j + 2) : Nat) : Int)) rfl rfl rfl (conv_N Try.underlying5 Try.underlying3 (show byt l (j + 2) < 9223372036854775808 by omega)) rfl fun ac hs => ?_)
                    exact hs
                  · intro L ac w hJ
                    have hs := hJ
                    refine wpO_plain rfl (op_bin hs (some 12) (v := .int .i64 ((256 * (byt l (j + 2)) : Nat) : Int)) rfl rfl rfl rfl (fun _ => rfl) (bin_mulN (x := 256) (y := byt l (j + 2)) (z := 256 * (byt l (j + 2))) rfl (show 256 * (byt l (j + 2)) < 9223372036854775808 by omega)) rfl fun ac hs => ?_)
                    exact hs
                  · intro L ac w hJ
                    have hs := hJ
                    refine wpO_plain rfl (op_bin hs (some 13) (v := .int .i64 ((byt l (j + 1) + (256 * (byt l (j + 2))) : Nat) : Int)) rfl rfl rfl rfl (fun _ => rfl) (bin_addN (x := byt l (j + 1)) (y := 256 * (byt l (j + 2))) (z := byt l (j + 1) + (256 * (byt l (j + 2)))) rfl (show byt l (j + 1) + (256 * (byt l (j + 2))) < 9223372036854775808 by omega)) rfl fun ac hs => ?_)
                    exact hs
                  · intro L ac w hJ
                    have hs := hJ
                    refine wpO_plain rfl (op_assign hs (some 14) rfl rfl rfl rfl fun ac hs => ?_)
                    exact hs
                intro ac w hJ
                replace hs : St 87 ⟨w0, [], [(true, .cel (.slice ad l.length c) l.length (bcs l))], Z, noX⟩ [(53, true, .slice ad l.length c), (54, true, .int .i64 ((j : Nat) : Int)), (55, true, .int .i64 ((j + 1 : Nat) : Int)), (56, true, vidx (.slice ad l.length c) (j + 1)), (57, true, .int .u8 ((byt l (j + 1) : Nat) : Int)), (58, true, .int .i64 ((byt l (j + 1) : Nat) : Int)), (59, true, .slice ad l.length c), (60, true, .int .i64 ((j : Nat) : Int)), (61, true, .int .i64 ((j + 2 : Nat) : Int)), (62, true, vidx (.slice ad l.length c) (j + 2)), (63, true, .int .u8 ((byt l (j + 2) : Nat) : Int)), (64, true, .int .i64 ((byt l (j + 2) : Nat) : Int)), (65, true, .int .i64 ((256 * (byt l (j + 2)) : Nat) : Int)), (66, true, .int .i64 ((byt l (j + 1) + (256 * (byt l (j + 2))) : Nat) : Int)), (9, true, .int .i64 ((byt l (j + 1) + (256 * (byt l (j + 2))) : Nat) : Int)), (0, true, .slice ad l.length c), (1, true, .int .i64 ((j : Nat) : Int)), (4, true, .pointer (some ⟨g1, 0, none⟩)), (5, true, .int .i64 0), (6, true, .int .i64 0), (7, true, .int .u8 ((byt l j : Nat) : Int)), (8, true, .int .i64 ((j + (hd18 (byt l j)) : Nat) : Int)), (9, true, .int .i64 0)] [(true, g1, 25, [.int .u8 0, .slice none 0 0])] ac w := hJ
                refine blk_n ?_
                refine then_n ?_
                refine wp_seq ?_
                refine wp_seq ?_
                refine wp_region_lit ?_
                refine lstep (wpO_plain rfl (op_move hs none rfl rfl rfl rfl fun ac hs => ?_))
                refine lstep (wpO_plain rfl (op_move hs none rfl rfl rfl rfl fun ac hs => ?_))
                refine lstep (wpO_plain rfl (op_blt hs none (v := .int .i64 ((l.length : Nat) : Int)) rfl rfl rfl (blt_len Try.underlying22) rfl fun ac hs => ?_))
                refine lstep (wpO_plain rfl (op_move hs none rfl rfl rfl rfl fun ac hs => ?_))
                refine lstep (wpO_plain rfl (op_bin hs none (v := .int .i64 ((l.length - (j + (hd18 (byt l j))) : Nat) : Int)) rfl rfl rfl rfl (fun _ => rfl) (bin_subN (x := l.length) (y := j + (hd18 (byt l j))) (z := l.length - (j + (hd18 (byt l j)))) (by omega) (show l.length - (j + (hd18 (byt l j))) < 9223372036854775808 by omega)) rfl fun ac hs => ?_))
                refine lstep (wpO_plain rfl (op_bin hs none (v := .bool (decide (l.length - (j + (hd18 (byt l j))) < byt l (j + 1) + (256 * (byt l (j + 2)))))) rfl rfl rfl rfl (fun _ => rfl) (bin_gtrN (x := byt l (j + 1) + (256 * (byt l (j + 2)))) (y := l.length - (j + (hd18 (byt l j))))) rfl fun ac hs => ?_))
                refine wpList_nil ?_
                refine then_n ?_
                refine wp_cond_split (hs.ev rfl) (fun hc => ?_) (fun hc => ?_)
                · skip
                  have hp29 := of_decide_eq_true hc
                  refine wp_seq ?_
                  replace hs : St 87 ⟨w0, [], [(true, .cel (.slice ad l.length c) l.length (bcs l))], Z, noX⟩ [(0, true, .slice ad l.length c), (4, true, .pointer (some ⟨g1, 0, none⟩)), (5, true, .int .i64 0), (6, true, .int .i64 0), (7, true, .int .u8 ((byt l j : Nat) : Int)), (8, true, .int .i64 ((j + (hd18 (byt l j)) : Nat) : Int)), (9, true, .int .i64 ((byt l (j + 1) + (256 * (byt l (j + 2))) : Nat) : Int))] [(true, g1, 25, [.int .u8 0, .slice none 0 0])] ac _ := hs.re ⟨rfl, rfl, rfl, rfl, rfl, rfl, rfl, trivial⟩
                  refine wp_region_lit ?_
                  refine lstep (wpO_plain rfl (op_build hs none (qs := []) (v := .agg #[.int .u8 0, .slice none 0 0]) rfl rfl rfl rfl (fun _ => by kernel_rfl) rfl fun ac hs => ?_))
                  refine lstep (wpO_plain rfl (op_store hs 0 (vs := [.int .u8 0, .slice none 0 0]) rfl rfl rfl rfl rfl Try.sizeOf25 rfl rfl rfl rfl rfl fun w hs => ?_))
                  refine lstep (wpO_plain rfl (op_assign hs none rfl rfl rfl rfl fun ac hs => ?_))
                  refine lstep (wpO_plain rfl (op_assign hs none rfl rfl rfl rfl fun ac hs => ?_))
                  refine wpList_nil ?_
                  refine then_n ?_
                  refine wp_ret ?_
                  refine then_r ?_
                  exact bodyPost_ret (res3 rfl (rv_c hs 0 (v := .agg #[.int .u8 0, .slice none 0 0]) rfl rfl Try.isAgg25 Try.sizeOf25 rfl) (rv_t hs rfl) (rv_t hs rfl)) hs.defers ⟨⟨none, 0⟩, by obtain ⟨rfl, rfl, rfl, rfl⟩ := t4 ((NX_ref2 hj (by omega) (rn_3 (by omega)) (by omega)).symm.trans hN); rfl, hs.bel rfl, by obtain ⟨rfl, rfl, rfl, rfl⟩ := t4 ((NX_ref2 hj (by omega) (rn_3 (by omega)) (by omega)).symm.trans hN); exact okl1 celv_nil⟩
                · skip
                  have hp30 := of_decide_eq_false hc
                  refine wp_skip ?_
                  refine then_n ?_
                  refine wp_seq ?_
                  replace hs : St 87 ⟨w0, [], [(true, .cel (.slice ad l.length c) l.length (bcs l))], Z, noX⟩ [(0, true, .slice ad l.length c), (4, true, .pointer (some ⟨g1, 0, none⟩)), (5, true, .int .i64 0), (6, true, .int .i64 0), (7, true, .int .u8 ((byt l j : Nat) : Int)), (8, true, .int .i64 ((j + (hd18 (byt l j)) : Nat) : Int)), (9, true, .int .i64 ((byt l (j + 1) + (256 * (byt l (j + 2))) : Nat) : Int))] [(true, g1, 25, [.int .u8 0, .slice none 0 0])] ac _ := hs.re ⟨rfl, rfl, rfl, rfl, rfl, rfl, rfl, trivial⟩
                  refine wp_region_lit ?_
                  refine lstep (wpO_plain rfl (op_move hs none rfl rfl rfl rfl fun ac hs => ?_))
                  refine lstep (wpO_plain rfl (op_bsO0 hs none none (size := 1) rfl rfl Try.underlying22 inf_u8_5 rfl rfl fun ad32 ac w hs => ?_))
                  refine lstep (wpO_plain rfl (op_move hs none rfl rfl rfl rfl fun ac hs => ?_))
                  refine lstep (wpO_plain rfl (op_move hs none rfl rfl rfl rfl fun ac hs => ?_))
                  refine lstep (wpO_plain rfl (op_move hs none rfl rfl rfl rfl fun ac hs => ?_))
                  refine lstep (wpO_plain rfl (op_move hs none rfl rfl rfl rfl fun ac hs => ?_))
                  refine lstep (wpO_plain rfl (op_bin hs none (v := .int .i64 ((j + (hd18 (byt l j)) + (byt l (j + 1) + (256 * (byt l (j + 2)))) : Nat) : Int)) rfl rfl rfl rfl (fun _ => rfl) (bin_addN (x := j + (hd18 (byt l j))) (y := byt l (j + 1) + (256 * (byt l (j + 2)))) (z := j + (hd18 (byt l j)) + (byt l (j + 1) + (256 * (byt l (j + 2))))) rfl (show j + (hd18 (byt l j)) + (byt l (j + 1) + (256 * (byt l (j + 2)))) < 9223372036854775808 by omega)) rfl fun ac hs => ?_))
                  refine lstep (wpO_plain rfl (op_sliceR hs none none 0 (j + (hd18 (byt l j))) (j + (hd18 (byt l j)) + (byt l (j + 1) + (256 * (byt l (j + 2))))) (N' := ((l.drop (j + (hd18 (byt l j)))).take (byt l (j + 1) + (256 * (byt l (j + 2))))).length) (cs' := bcs ((l.drop (j + (hd18 (byt l j)))).take (byt l (j + 1) + (256 * (byt l (j + 2)))))) rfl rfl rfl rfl (.inr ⟨_, _, rfl, rfl⟩) (.inr ⟨_, _, rfl, rfl⟩) Try.underlying22 Try.sizeOf5 (show j + (hd18 (byt l j)) ≤ j + (hd18 (byt l j)) + (byt l (j + 1) + (256 * (byt l (j + 2)))) by omega) (show j + (hd18 (byt l j)) + (byt l (j + 1) + (256 * (byt l (j + 2)))) ≤ l.length by omega) (len_part (show j + (hd18 (byt l j)) + (byt l (j + 1) + (256 * (byt l (j + 2)))) ≤ l.length by omega)) bcs_partn rfl rfl fun ac hs => ?_))
                  refine lstep (wpO_plain rfl (op_appR hs none 1 2 (N' := ((l.drop (j + (hd18 (byt l j)))).take (byt l (j + 1) + (256 * (byt l (j + 2))))).length) (ys := bcs ((l.drop (j + (hd18 (byt l j)))).take (byt l (j + 1) + (256 * (byt l (j + 2)))))) rfl rfl rfl rfl rfl rfl Try.underlying22 inf_u8_5 rfl (by decide) (bcs_len1 rfl) (bcs_one _) (by decide) (show 0 + (((l.drop (j + (hd18 (byt l j)))).take (byt l (j + 1) + (256 * (byt l (j + 2))))).length) ≤ 1000000 by (try simp only [List.length_drop, List.length_take, List.length_append, List.length_cons, List.length_nil]); omega) (Nat.zero_add _) rfl rfl rfl fun ad33 cp34 ac w hs => ?_))
                  refine lstep (wpO_plain rfl (op_build hs none (qs := [(0, .int .u8 ((byt l j : Nat) : Int)), (1, .slice ad33 (((l.drop (j + (hd18 (byt l j)))).take (byt l (j + 1) + (256 * (byt l (j + 2))))).length) cp34)]) (v := .agg #[.int .u8 ((byt l j : Nat) : Int), .slice ad33 (((l.drop (j + (hd18 (byt l j)))).take (byt l (j + 1) + (256 * (byt l (j + 2))))).length) cp34]) rfl rfl rfl rfl (fun _ => by kernel_rfl) rfl fun ac hs => ?_))
                  refine lstep (wpO_plain rfl (op_move hs none rfl rfl rfl rfl fun ac hs => ?_))
                  refine lstep (wpO_plain rfl (op_move hs none rfl rfl rfl rfl fun ac hs => ?_))
                  refine lstep (wpO_plain rfl (op_bin hs none (v := .int .i64 ((j + (hd18 (byt l j)) + (byt l (j + 1) + (256 * (byt l (j + 2)))) : Nat) : Int)) rfl rfl rfl rfl (fun _ => rfl) (bin_addN (x := j + (hd18 (byt l j))) (y := byt l (j + 1) + (256 * (byt l (j + 2)))) (z := j + (hd18 (byt l j)) + (byt l (j + 1) + (256 * (byt l (j + 2))))) rfl (show j + (hd18 (byt l j)) + (byt l (j + 1) + (256 * (byt l (j + 2)))) < 9223372036854775808 by omega)) rfl fun ac hs => ?_))
                  refine lstep (wpO_plain rfl (op_store hs 0 (vs := [.int .u8 ((byt l j : Nat) : Int), .slice ad33 (((l.drop (j + (hd18 (byt l j)))).take (byt l (j + 1) + (256 * (byt l (j + 2))))).length) cp34]) rfl rfl rfl rfl rfl Try.sizeOf25 rfl rfl rfl rfl rfl fun w hs => ?_))
                  refine lstep (wpO_plain rfl (op_assign hs none rfl rfl rfl rfl fun ac hs => ?_))
                  refine lstep (wpO_plain rfl (op_assign hs none rfl rfl rfl rfl fun ac hs => ?_))
                  refine wpList_nil ?_
                  refine then_n ?_
                  refine wp_ret ?_
                  replace hs := hs.freeze 1 rfl
                  exact bodyPost_ret (res3 rfl (rv_c hs 0 (v := .agg #[.int .u8 ((byt l j : Nat) : Int), .slice ad33 (((l.drop (j + (hd18 (byt l j)))).take (byt l (j + 1) + (256 * (byt l (j + 2))))).length) cp34]) rfl rfl Try.isAgg25 Try.sizeOf25 rfl) (rv_t hs rfl) (rv_t hs rfl)) hs.defers ⟨⟨ad33, cp34⟩, by obtain ⟨rfl, rfl, rfl, rfl⟩ := t4 ((NX_ref hj (by omega) (rn_3 (by omega)) (by omega)).symm.trans hN); rfl, hs.bel rfl, by obtain ⟨rfl, rfl, rfl, rfl⟩ := t4 ((NX_ref hj (by omega) (rn_3 (by omega)) (by omega)).symm.trans hN); exact hs.ret1 1 rfl⟩
              · skip
                have hp35 := of_decide_eq_false hc
                refine wp_skip ?_
                refine blk_n ?_
                refine then_n ?_
                refine wp_seq ?_
                refine wp_seq ?_
                replace hs : St 87 ⟨w0, [], [(true, .cel (.slice ad l.length c) l.length (bcs l))], Z, noX⟩ [(0, true, .slice ad l.length c), (4, true, .pointer (some ⟨g1, 0, none⟩)), (5, true, .int .i64 0), (6, true, .int .i64 0), (7, true, .int .u8 ((byt l j : Nat) : Int)), (8, true, .int .i64 ((j + (hd18 (byt l j)) : Nat) : Int)), (9, true, .int .i64 0)] [(true, g1, 25, [.int .u8 0, .slice none 0 0])] ac _ := hs.re ⟨rfl, rfl, rfl, rfl, rfl, rfl, rfl, trivial⟩
                refine wp_region_lit ?_
                refine lstep (wpO_plain rfl (op_move hs none rfl rfl rfl rfl fun ac hs => ?_))
                refine lstep (wpO_plain rfl (op_move hs none rfl rfl rfl rfl fun ac hs => ?_))
                refine lstep (wpO_plain rfl (op_blt hs none (v := .int .i64 ((l.length : Nat) : Int)) rfl rfl rfl (blt_len Try.underlying22) rfl fun ac hs => ?_))
                refine lstep (wpO_plain rfl (op_move hs none rfl rfl rfl rfl fun ac hs => ?_))
                refine lstep (wpO_plain rfl (op_bin hs none (v := .int .i64 ((l.length - (j + (hd18 (byt l j))) : Nat) : Int)) rfl rfl rfl rfl (fun _ => rfl) (bin_subN (x := l.length) (y := j + (hd18 (byt l j))) (z := l.length - (j + (hd18 (byt l j)))) (by omega) (show l.length - (j + (hd18 (byt l j))) < 9223372036854775808 by omega)) rfl fun ac hs => ?_))
                refine lstep (wpO_plain rfl (op_bin hs none (v := .bool (decide (l.length - (j + (hd18 (byt l j))) < 0))) rfl rfl rfl rfl (fun _ => rfl) (bin_gtrN (x := 0) (y := l.length - (j + (hd18 (byt l j))))) rfl fun ac hs => ?_))
                refine wpList_nil ?_
                refine then_n ?_
                refine wp_cond_split (hs.ev rfl) (fun hc => ?_) (fun hc => ?_)
                · skip
                  have hp36 := of_decide_eq_true hc
                  refine wp_seq ?_
                  replace hs : St 87 ⟨w0, [], [(true, .cel (.slice ad l.length c) l.length (bcs l))], Z, noX⟩ [(0, true, .slice ad l.length c), (4, true, .pointer (some ⟨g1, 0, none⟩)), (5, true, .int .i64 0), (6, true, .int .i64 0), (7, true, .int .u8 ((byt l j : Nat) : Int)), (8, true, .int .i64 ((j + (hd18 (byt l j)) : Nat) : Int)), (9, true, .int .i64 0)] [(true, g1, 25, [.int .u8 0, .slice none 0 0])] ac _ := hs.re ⟨rfl, rfl, rfl, rfl, rfl, rfl, rfl, trivial⟩
                  refine wp_region_lit ?_
                  refine lstep (wpO_plain rfl (op_build hs none (qs := []) (v := .agg #[.int .u8 0, .slice none 0 0]) rfl rfl rfl rfl (fun _ => by kernel_rfl) rfl fun ac hs => ?_))
                  refine lstep (wpO_plain rfl (op_store hs 0 (vs := [.int .u8 0, .slice none 0 0]) rfl rfl rfl rfl rfl Try.sizeOf25 rfl rfl rfl rfl rfl fun w hs => ?_))
                  refine lstep (wpO_plain rfl (op_assign hs none rfl rfl rfl rfl fun ac hs => ?_))
                  refine lstep (wpO_plain rfl (op_assign hs none rfl rfl rfl rfl fun ac hs => ?_))
                  refine wpList_nil ?_
                  refine then_n ?_
                  refine wp_ret ?_
                  refine then_r ?_
                  exact bodyPost_ret (res3 rfl (rv_c hs 0 (v := .agg #[.int .u8 0, .slice none 0 0]) rfl rfl Try.isAgg25 Try.sizeOf25 rfl) (rv_t hs rfl) (rv_t hs rfl)) hs.defers ⟨⟨none, 0⟩, by obtain ⟨rfl, rfl, rfl, rfl⟩ := t4 ((NX_ref2 hj (by omega) (rn_4 (by omega) (by omega) (by omega)) (by omega)).symm.trans hN); rfl, hs.bel rfl, by obtain ⟨rfl, rfl, rfl, rfl⟩ := t4 ((NX_ref2 hj (by omega) (rn_4 (by omega) (by omega) (by omega)) (by omega)).symm.trans hN); exact okl1 celv_nil⟩
                · skip
                  have hp37 := of_decide_eq_false hc
                  refine wp_skip ?_
                  refine then_n ?_
                  refine wp_seq ?_
                  replace hs : St 87 ⟨w0, [], [(true, .cel (.slice ad l.length c) l.length (bcs l))], Z, noX⟩ [(0, true, .slice ad l.length c), (4, true, .pointer (some ⟨g1, 0, none⟩)), (5, true, .int .i64 0), (6, true, .int .i64 0), (7, true, .int .u8 ((byt l j : Nat) : Int)), (8, true, .int .i64 ((j + (hd18 (byt l j)) : Nat) : Int)), (9, true, .int .i64 0)] [(true, g1, 25, [.int .u8 0, .slice none 0 0])] ac _ := hs.re ⟨rfl, rfl, rfl, rfl, rfl, rfl, rfl, trivial⟩
                  refine wp_region_lit ?_
                  refine lstep (wpO_plain rfl (op_move hs none rfl rfl rfl rfl fun ac hs => ?_))
                  refine lstep (wpO_plain rfl (op_bsO0 hs none none (size := 1) rfl rfl Try.underlying22 inf_u8_5 rfl rfl fun ad39 ac w hs => ?_))
                  refine lstep (wpO_plain rfl (op_move hs none rfl rfl rfl rfl fun ac hs => ?_))
                  refine lstep (wpO_plain rfl (op_move hs none rfl rfl rfl rfl fun ac hs => ?_))
                  refine lstep (wpO_plain rfl (op_move hs none rfl rfl rfl rfl fun ac hs => ?_))
                  refine lstep (wpO_plain rfl (op_move hs none rfl rfl rfl rfl fun ac hs => ?_))
                  refine lstep (wpO_plain rfl (op_bin hs none (v := .int .i64 ((j + (hd18 (byt l j)) + 0 : Nat) : Int)) rfl rfl rfl rfl (fun _ => rfl) (bin_addN (x := j + (hd18 (byt l j))) (y := 0) (z := j + (hd18 (byt l j)) + 0) rfl (show j + (hd18 (byt l j)) + 0 < 9223372036854775808 by omega)) rfl fun ac hs => ?_))
                  refine lstep (wpO_plain rfl (op_sliceR hs none none 0 (j + (hd18 (byt l j))) (j + (hd18 (byt l j)) + 0) (N' := ((l.drop (j + (hd18 (byt l j)))).take 0).length) (cs' := bcs ((l.drop (j + (hd18 (byt l j)))).take 0)) rfl rfl rfl rfl (.inr ⟨_, _, rfl, rfl⟩) (.inr ⟨_, _, rfl, rfl⟩) Try.underlying22 Try.sizeOf5 (show j + (hd18 (byt l j)) ≤ j + (hd18 (byt l j)) + 0 by omega) (show j + (hd18 (byt l j)) + 0 ≤ l.length by omega) (len_part (show j + (hd18 (byt l j)) + 0 ≤ l.length by omega)) bcs_partn rfl rfl fun ac hs => ?_))
                  refine lstep (wpO_plain rfl (op_appR hs none 1 2 (N' := ((l.drop (j + (hd18 (byt l j)))).take 0).length) (ys := bcs ((l.drop (j + (hd18 (byt l j)))).take 0)) rfl rfl rfl rfl rfl rfl Try.underlying22 inf_u8_5 rfl (by decide) (bcs_len1 rfl) (bcs_one _) (by decide) (show 0 + (((l.drop (j + (hd18 (byt l j)))).take 0).length) ≤ 1000000 by (try simp only [List.length_drop, List.length_take, List.length_append, List.length_cons, List.length_nil]); omega) (Nat.zero_add _) rfl rfl rfl fun ad40 cp41 ac w hs => ?_))
                  refine lstep (wpO_plain rfl (op_build hs none (qs := [(0, .int .u8 ((byt l j : Nat) : Int)), (1, .slice ad40 (((l.drop (j + (hd18 (byt l j)))).take 0).length) cp41)]) (v := .agg #[.int .u8 ((byt l j : Nat) : Int), .slice ad40 (((l.drop (j + (hd18 (byt l j)))).take 0).length) cp41]) rfl rfl rfl rfl (fun _ => by kernel_rfl) rfl fun ac hs => ?_))
                  refine lstep (wpO_plain rfl (op_move hs none rfl rfl rfl rfl fun ac hs => ?_))
                  refine lstep (wpO_plain rfl (op_move hs none rfl rfl rfl rfl fun ac hs => ?_))
                  refine lstep (wpO_plain rfl (op_bin hs none (v := .int .i64 ((j + (hd18 (byt l j)) + 0 : Nat) : Int)) rfl rfl rfl rfl (fun _ => rfl) (bin_addN (x := j + (hd18 (byt l j))) (y := 0) (z := j + (hd18 (byt l j)) + 0) rfl (show j + (hd18 (byt l j)) + 0 < 9223372036854775808 by omega)) rfl fun ac hs => ?_))
                  refine lstep (wpO_plain rfl (op_store hs 0 (vs := [.int .u8 ((byt l j : Nat) : Int), .slice ad40 (((l.drop (j + (hd18 (byt l j)))).take 0).length) cp41]) rfl rfl rfl rfl rfl Try.sizeOf25 rfl rfl rfl rfl rfl fun w hs => ?_))
                  refine lstep (wpO_plain rfl (op_assign hs none rfl rfl rfl rfl fun ac hs => ?_))
                  refine lstep (wpO_plain rfl (op_assign hs none rfl rfl rfl rfl fun ac hs => ?_))
                  refine wpList_nil ?_
                  refine then_n ?_
                  refine wp_ret ?_
                  replace hs := hs.freeze 1 rfl
                  exact bodyPost_ret (res3 rfl (rv_c hs 0 (v := .agg #[.int .u8 ((byt l j : Nat) : Int), .slice ad40 (((l.drop (j + (hd18 (byt l j)))).take 0).length) cp41]) rfl rfl Try.isAgg25 Try.sizeOf25 rfl) (rv_t hs rfl) (rv_t hs rfl)) hs.defers ⟨⟨ad40, cp41⟩, by obtain ⟨rfl, rfl, rfl, rfl⟩ := t4 ((NX_ref hj (by omega) (rn_4 (by omega) (by omega) (by omega)) (by omega)).symm.trans hN); rfl, hs.bel rfl, by obtain ⟨rfl, rfl, rfl, rfl⟩ := t4 ((NX_ref hj (by omega) (rn_4 (by omega) (by omega) (by omega)) (by omega)).symm.trans hN); exact hs.ret1 1 rfl⟩
        · skip
          refine wp_region_lit ?_
          refine lstep (wpO_plain rfl (op_move hs none rfl rfl rfl rfl fun ac hs => ?_))
          refine lstep (wpO_plain rfl (op_bin hs none (v := .bool false) rfl rfl rfl rfl (fun _ => rfl) (fun w => dF hq8 (bin_geqN (x := byt l j) (y := 1) w)) rfl fun ac hs => ?_))
          refine lstep (wpO_plain rfl (op_move hs none rfl rfl rfl rfl fun ac hs => ?_))
          refine lstep (wpO_out hs none rfl rfl (.inl rfl) rfl rfl fun ac hs => ?_)
          refine lstep (wpO_out hs none rfl rfl (.inl rfl) rfl rfl fun ac hs => ?_)
          refine lstep (wpO_plain rfl (op_pickF hs none rfl rfl rfl rfl rfl fun ac hs => ?_))
          refine lstep (wpO_plain rfl (op_assign hs none rfl rfl rfl rfl fun ac hs => ?_))
          refine wpList_nil ?_
          refine then_n ?_
          refine wp_cond_false (hs.ev rfl) ?_
          refine wp_seq ?_
          replace hs : St 87 ⟨w0, [], [(true, .cel (.slice ad l.length c) l.length (bcs l))], Z, noX⟩ [(0, true, .slice ad l.length c), (1, true, .int .i64 ((j : Nat) : Int)), (4, true, .pointer (some ⟨g1, 0, none⟩)), (5, true, .int .i64 0), (6, true, .int .i64 0), (7, true, .int .u8 ((byt l j : Nat) : Int)), (8, true, .int .i64 ((j + (hd18 (byt l j)) : Nat) : Int)), (9, true, .int .i64 0)] [(true, g1, 25, [.int .u8 0, .slice none 0 0])] ac _ := hs.re ⟨rfl, rfl, rfl, rfl, rfl, rfl, rfl, rfl, trivial⟩
          refine wp_region_lit ?_
          refine lstep (wpO_plain rfl (op_move hs none rfl rfl rfl rfl fun ac hs => ?_))
          refine lstep (wpO_plain rfl (op_bin hs none (v := .bool (decide (byt l j = 76))) rfl rfl rfl rfl (fun _ => rfl) (bin_eqlN (x := byt l j) (y := 76)) rfl fun ac hs => ?_))
          refine lstep (wpO_plain rfl (op_assign hs none rfl rfl rfl rfl fun ac hs => ?_))
          refine wpList_nil ?_
          refine then_n ?_
          refine wp_cond_split (hs.ev rfl) (fun hc => ?_) (fun hc => ?_)
          · skip
            have hp42 := of_decide_eq_true hc
            have h76 : hd18 (byt l j) = 2 := by unfold hd18; rw [if_pos (by omega)]
            refine wp_region_lit ?_
            refine lstep (wpO_plain rfl (op_move hs none rfl rfl rfl rfl fun ac hs => ?_))
            refine lstep (wpO_plain rfl (op_move hs none rfl rfl rfl rfl fun ac hs => ?_))
            refine lstep (wpO_plain rfl (op_bin hs none (v := .int .i64 ((j + 1 : Nat) : Int)) rfl rfl rfl rfl (fun _ => rfl) (bin_addN (x := j) (y := 1) (z := j + 1) rfl (show j + 1 < 9223372036854775808 by omega)) rfl fun ac hs => ?_))
            refine lstep (wpO_plain rfl (op_idxC hs none 0 (j := j + 1) rfl rfl rfl rfl rfl Try.underlying22 Try.sizeOf5 (show j + 1 < l.length by omega) (off := j + 1) (by omega) rfl fun ac hs => ?_))
            have l43 := byt_lt l (j + 1)
            refine lstep (wpO_plain rfl (op_loadC hs none 0 (u := .int .u8 ((byt l (j + 1) : Nat) : Int)) rfl rfl rfl rfl Try.isAgg5 Try.sizeOf5 (by decide) (bcs_get (show j + 1 < l.length by omega)) rfl fun ac hs => ?_))
            refine lstep (wpO_plain rfl (op_convert hs none (v := .int .i64 ((byt l (j + 1) : Nat) : Int)) rfl rfl rfl (conv_N Try.underlying5 Try.underlying3 (show byt l (j + 1) < 9223372036854775808 by omega)) rfl fun ac hs => ?_))
            refine lstep (wpO_plain rfl (op_assign hs none rfl rfl rfl rfl fun ac hs => ?_))
            refine wpList_nil ?_
            refine blk_n ?_
            refine then_n ?_
            refine wp_seq ?_
            refine wp_seq ?_
            replace hs : St 87 ⟨w0, [], [(true, .cel (.slice ad l.length c) l.length (bcs l))], Z, noX⟩ [(0, true, .slice ad l.length c), (4, true, .pointer (some ⟨g1, 0, none⟩)), (5, true, .int .i64 0), (6, true, .int .i64 0), (7, true, .int .u8 ((byt l j : Nat) : Int)), (8, true, .int .i64 ((j + (hd18 (byt l j)) : Nat) : Int)), (9, true, .int .i64 ((byt l (j + 1) : Nat) : Int))] [(true, g1, 25, [.int .u8 0, .slice none 0 0])] ac _ := hs.re ⟨rfl, rfl, rfl, rfl, rfl, rfl, rfl, trivial⟩
            refine wp_region_lit ?_
            refine lstep (wpO_plain rfl (op_move hs none rfl rfl rfl rfl fun ac hs => ?_))
            refine lstep (wpO_plain rfl (op_move hs none rfl rfl rfl rfl fun ac hs => ?_))
            refine lstep (wpO_plain rfl (op_blt hs none (v := .int .i64 ((l.length : Nat) : Int)) rfl rfl rfl (blt_len Try.underlying22) rfl fun ac hs => ?_))
            refine lstep (wpO_plain rfl (op_move hs none rfl rfl rfl rfl fun ac hs => ?_))
            refine lstep (wpO_plain rfl (op_bin hs none (v := .int .i64 ((l.length - (j + (hd18 (byt l j))) : Nat) : Int)) rfl rfl rfl rfl (fun _ => rfl) (bin_subN (x := l.length) (y := j + (hd18 (byt l j))) (z := l.length - (j + (hd18 (byt l j)))) (by omega) (show l.length - (j + (hd18 (byt l j))) < 9223372036854775808 by omega)) rfl fun ac hs => ?_))
            refine lstep (wpO_plain rfl (op_bin hs none (v := .bool (decide (l.length - (j + (hd18 (byt l j))) < byt l (j + 1)))) rfl rfl rfl rfl (fun _ => rfl) (bin_gtrN (x := byt l (j + 1)) (y := l.length - (j + (hd18 (byt l j))))) rfl fun ac hs => ?_))
            refine wpList_nil ?_
            refine then_n ?_
            refine wp_cond_split (hs.ev rfl) (fun hc => ?_) (fun hc => ?_)
            · skip
              have hp44 := of_decide_eq_true hc
              refine wp_seq ?_
              replace hs : St 87 ⟨w0, [], [(true, .cel (.slice ad l.length c) l.length (bcs l))], Z, noX⟩ [(0, true, .slice ad l.length c), (4, true, .pointer (some ⟨g1, 0, none⟩)), (5, true, .int .i64 0), (6, true, .int .i64 0), (7, true, .int .u8 ((byt l j : Nat) : Int)), (8, true, .int .i64 ((j + (hd18 (byt l j)) : Nat) : Int)), (9, true, .int .i64 ((byt l (j + 1) : Nat) : Int))] [(true, g1, 25, [.int .u8 0, .slice none 0 0])] ac _ := hs.re ⟨rfl, rfl, rfl, rfl, rfl, rfl, rfl, trivial⟩
              refine wp_region_lit ?_
              refine lstep (wpO_plain rfl (op_build hs none (qs := []) (v := .agg #[.int .u8 0, .slice none 0 0]) rfl rfl rfl rfl (fun _ => by kernel_rfl) rfl fun ac hs => ?_))
              refine lstep (wpO_plain rfl (op_store hs 0 (vs := [.int .u8 0, .slice none 0 0]) rfl rfl rfl rfl rfl Try.sizeOf25 rfl rfl rfl rfl rfl fun w hs => ?_))
              refine lstep (wpO_plain rfl (op_assign hs none rfl rfl rfl rfl fun ac hs => ?_))
              refine lstep (wpO_plain rfl (op_assign hs none rfl rfl rfl rfl fun ac hs => ?_))
              refine wpList_nil ?_
              refine then_n ?_
              refine wp_ret ?_
              refine then_r ?_
              exact bodyPost_ret (res3 rfl (rv_c hs 0 (v := .agg #[.int .u8 0, .slice none 0 0]) rfl rfl Try.isAgg25 Try.sizeOf25 rfl) (rv_t hs rfl) (rv_t hs rfl)) hs.defers ⟨⟨none, 0⟩, by obtain ⟨rfl, rfl, rfl, rfl⟩ := t4 ((NX_ref2 hj (by omega) (rn_2 (by omega)) (by omega)).symm.trans hN); rfl, hs.bel rfl, by obtain ⟨rfl, rfl, rfl, rfl⟩ := t4 ((NX_ref2 hj (by omega) (rn_2 (by omega)) (by omega)).symm.trans hN); exact okl1 celv_nil⟩
            · skip
              have hp45 := of_decide_eq_false hc
              refine wp_skip ?_
              refine then_n ?_
              refine wp_seq ?_
              replace hs : St 87 ⟨w0, [], [(true, .cel (.slice ad l.length c) l.length (bcs l))], Z, noX⟩ [(0, true, .slice ad l.length c), (4, true, .pointer (some ⟨g1, 0, none⟩)), (5, true, .int .i64 0), (6, true, .int .i64 0), (7, true, .int .u8 ((byt l j : Nat) : Int)), (8, true, .int .i64 ((j + (hd18 (byt l j)) : Nat) : Int)), (9, true, .int .i64 ((byt l (j + 1) : Nat) : Int))] [(true, g1, 25, [.int .u8 0, .slice none 0 0])] ac _ := hs.re ⟨rfl, rfl, rfl, rfl, rfl, rfl, rfl, trivial⟩
              refine wp_region_lit ?_
              refine lstep (wpO_plain rfl (op_move hs none rfl rfl rfl rfl fun ac hs => ?_))
              refine lstep (wpO_plain rfl (op_bsO0 hs none none (size := 1) rfl rfl Try.underlying22 inf_u8_5 rfl rfl fun ad47 ac w hs => ?_))
              refine lstep (wpO_plain rfl (op_move hs none rfl rfl rfl rfl fun ac hs => ?_))
              refine lstep (wpO_plain rfl (op_move hs none rfl rfl rfl rfl fun ac hs => ?_))
              refine lstep (wpO_plain rfl (op_move hs none rfl rfl rfl rfl fun ac hs => ?_))
              refine lstep (wpO_plain rfl (op_move hs none rfl rfl rfl rfl fun ac hs => ?_))
              refine lstep (wpO_plain rfl (op_bin hs none (v := .int .i64 ((j + (hd18 (byt l j)) + (byt l (j + 1)) : Nat) : Int)) rfl rfl rfl rfl (fun _ => rfl) (bin_addN (x := j + (hd18 (byt l j))) (y := byt l (j + 1)) (z := j + (hd18 (byt l j)) + (byt l (j + 1))) rfl (show j + (hd18 (byt l j)) + (byt l (j + 1)) < 9223372036854775808 by omega)) rfl fun ac hs => ?_))
              refine lstep (wpO_plain rfl (op_sliceR hs none none 0 (j + (hd18 (byt l j))) (j + (hd18 (byt l j)) + (byt l (j + 1))) (N' := ((l.drop (j + (hd18 (byt l j)))).take (byt l (j + 1))).length) (cs' := bcs ((l.drop (j + (hd18 (byt l j)))).take (byt l (j + 1)))) rfl rfl rfl rfl (.inr ⟨_, _, rfl, rfl⟩) (.inr ⟨_, _, rfl, rfl⟩) Try.underlying22 Try.sizeOf5 (show j + (hd18 (byt l j)) ≤ j + (hd18 (byt l j)) + (byt l (j + 1)) by omega) (show j + (hd18 (byt l j)) + (byt l (j + 1)) ≤ l.length by omega) (len_part (show j + (hd18 (byt l j)) + (byt l (j + 1)) ≤ l.length by omega)) bcs_partn rfl rfl fun ac hs => ?_))
              refine lstep (wpO_plain rfl (op_appR hs none 1 2 (N' := ((l.drop (j + (hd18 (byt l j)))).take (byt l (j + 1))).length) (ys := bcs ((l.drop (j + (hd18 (byt l j)))).take (byt l (j + 1)))) rfl rfl rfl rfl rfl rfl Try.underlying22 inf_u8_5 rfl (by decide) (bcs_len1 rfl) (bcs_one _) (by decide) (show 0 + (((l.drop (j + (hd18 (byt l j)))).take (byt l (j + 1))).length) ≤ 1000000 by (try simp only [List.length_drop, List.length_take, List.length_append, List.length_cons, List.length_nil]); omega) (Nat.zero_add _) rfl rfl rfl fun ad48 cp49 ac w hs => ?_))
              refine lstep (wpO_plain rfl (op_build hs none (qs := [(0, .int .u8 ((byt l j : Nat) : Int)), (1, .slice ad48 (((l.drop (j + (hd18 (byt l j)))).take (byt l (j + 1))).length) cp49)]) (v := .agg #[.int .u8 ((byt l j : Nat) : Int), .slice ad48 (((l.drop (j + (hd18 (byt l j)))).take (byt l (j + 1))).length) cp49]) rfl rfl rfl rfl (fun _ => by kernel_rfl) rfl fun ac hs => ?_))
              refine lstep (wpO_plain rfl (op_move hs none rfl rfl rfl rfl fun ac hs => ?_))
              refine lstep (wpO_plain rfl (op_move hs none rfl rfl rfl rfl fun ac hs => ?_))
              refine lstep (wpO_plain rfl (op_bin hs none (v := .int .i64 ((j + (hd18 (byt l j)) + (byt l (j + 1)) : Nat) : Int)) rfl rfl rfl rfl (fun _ => rfl) (bin_addN (x := j + (hd18 (byt l j))) (y := byt l (j + 1)) (z := j + (hd18 (byt l j)) + (byt l (j + 1))) rfl (show j + (hd18 (byt l j)) + (byt l (j + 1)) < 9223372036854775808 by omega)) rfl fun ac hs => ?_))
              refine lstep (wpO_plain rfl (op_store hs 0 (vs := [.int .u8 ((byt l j : Nat) : Int), .slice ad48 (((l.drop (j + (hd18 (byt l j)))).take (byt l (j + 1))).length) cp49]) rfl rfl rfl rfl rfl Try.sizeOf25 rfl rfl rfl rfl rfl fun w hs => ?_))
              refine lstep (wpO_plain rfl (op_assign hs none rfl rfl rfl rfl fun ac hs => ?_))
              refine lstep (wpO_plain rfl (op_assign hs none rfl rfl rfl rfl fun ac hs => ?_))
              refine wpList_nil ?_
              refine then_n ?_
              refine wp_ret ?_
              replace hs := hs.freeze 1 rfl
              exact bodyPost_ret (res3 rfl (rv_c hs 0 (v := .agg #[.int .u8 ((byt l j : Nat) : Int), .slice ad48 (((l.drop (j + (hd18 (byt l j)))).take (byt l (j + 1))).length) cp49]) rfl rfl Try.isAgg25 Try.sizeOf25 rfl) (rv_t hs rfl) (rv_t hs rfl)) hs.defers ⟨⟨ad48, cp49⟩, by obtain ⟨rfl, rfl, rfl, rfl⟩ := t4 ((NX_ref hj (by omega) (rn_2 (by omega)) (by omega)).symm.trans hN); rfl, hs.bel rfl, by obtain ⟨rfl, rfl, rfl, rfl⟩ := t4 ((NX_ref hj (by omega) (rn_2 (by omega)) (by omega)).symm.trans hN); exact hs.ret1 1 rfl⟩
          · skip
            have hp50 := of_decide_eq_false hc
            refine wp_seq ?_
            refine wp_region_lit ?_
            refine lstep (wpO_plain rfl (op_move hs none rfl rfl rfl rfl fun ac hs => ?_))
            refine lstep (wpO_plain rfl (op_bin hs none (v := .bool (decide (byt l j = 77))) rfl rfl rfl rfl (fun _ => rfl) (bin_eqlN (x := byt l j) (y := 77)) rfl fun ac hs => ?_))
            refine lstep (wpO_plain rfl (op_assign hs none rfl rfl rfl rfl fun ac hs => ?_))
            refine wpList_nil ?_
            refine then_n ?_
            refine wp_cond_split (hs.ev rfl) (fun hc => ?_) (fun hc => ?_)
            · skip
              have hp51 := of_decide_eq_true hc
              have h77 : hd18 (byt l j) = 3 := by unfold hd18; rw [if_neg (by omega), if_pos (by omega)]
              replace hs : St 87 ⟨w0, [], [(true, .cel (.slice ad l.length c) l.length (bcs l))], Z, noX⟩ [(0, true, .slice ad l.length c), (1, true, .int .i64 ((j : Nat) : Int)), (4, true, .pointer (some ⟨g1, 0, none⟩)), (5, true, .int .i64 0), (6, true, .int .i64 0), (7, true, .int .u8 ((byt l j : Nat) : Int)), (8, true, .int .i64 ((j + (hd18 (byt l j)) : Nat) : Int)), (9, true, .int .i64 0)] [(true, g1, 25, [.int .u8 0, .slice none 0 0])] ac _ := hs.re ⟨rfl, rfl, rfl, rfl, rfl, rfl, rfl, rfl, trivial⟩
              have l52 := byt_lt l (j + 1)
              have l53 := byt_lt l (j + 2)
              refine region_inv [([], [3, 4, 5, 13, 14]), ([], [2, 3, 4, 5, 13, 14]), ([1], [3, 4, 5, 13, 14]), ([0, 1, 2], [4, 5, 13, 14]), ([0, 1, 2, 3], [5, 13, 14]), ([0, 1, 2, 3, 4], [13, 14]), ([], [9, 10, 11, 12, 13, 14]), ([], [8, 9, 10, 11, 12, 13, 14]), ([7], [9, 10, 11, 12, 13, 14]), ([6, 7, 8], [10, 11, 12, 13, 14]), ([6, 7, 8, 9], [11, 12, 13, 14]), ([6, 7, 8, 9, 10], [12, 13, 14]), ([6, 7, 8, 9, 10, 11], [13, 14]), ([0, 1, 2, 3, 4, 5, 6, 7, 8, 9, 10, 11, 12], [14]), ([0, 1, 2, 3, 4, 5, 6, 7, 8, 9, 10, 11, 12, 13], [])] (fun L ac w => St 87 ⟨w0, [], [(true, .cel (.slice ad l.length c) l.length (bcs l))], Z, noX⟩ [(53, L 0, .slice ad l.length c), (54, L 1, .int .i64 ((j : Nat) : Int)), (55, L 2, .int .i64 ((j + 1 : Nat) : Int)), (56, L 3, vidx (.slice ad l.length c) (j + 1)), (57, L 4, .int .u8 ((byt l (j + 1) : Nat) : Int)), (58, L 5, .int .i64 ((byt l (j + 1) : Nat) : Int)), (59, L 6, .slice ad l.length c), (60, L 7, .int .i64 ((j : Nat) : Int)), (61, L 8, .int .i64 ((j + 2 : Nat) : Int)), (62, L 9, vidx (.slice ad l.length c) (j + 2)), (63, L 10, .int .u8 ((byt l (j + 2) : Nat) : Int)), (64, L 11, .int .i64 ((byt l (j + 2) : Nat) : Int)), (65, L 12, .int .i64 ((256 * (byt l (j + 2)) : Nat) : Int)), (66, L 13, .int .i64 ((byt l (j + 1) + (256 * (byt l (j + 2))) : Nat) : Int)), (9, L 14, .int .i64 ((byt l (j + 1) + (256 * (byt l (j + 2))) : Nat) : Int)), (0, true, .slice ad l.length c), (1, true, .int .i64 ((j : Nat) : Int)), (4, true, .pointer (some ⟨g1, 0, none⟩)), (5, true, .int .i64 0), (6, true, .int .i64 0), (7, true, .int .u8 ((byt l j : Nat) : Int)), (8, true, .int .i64 ((j + (hd18 (byt l j)) : Nat) : Int)), (9, true, .int .i64 0)] [(true, g1, 25, [.int .u8 0, .slice none 0 0])] ac w) (by kernel_rfl) (by kernel_rfl) ?_ ?_ ?_
              · exact hs.drew.skip.skip.skip.skip.skip.skip.skip.skip.skip.skip.skip.skip.skip.skip.skip
              · refine ⟨?_, ?_, ?_, ?_, ?_, ?_, ?_, ?_, ?_, ?_, ?_, ?_, ?_, ?_, ?_, trivial⟩
                · intro L ac w hJ
                  have hs := hJ
                  refine wpO_plain rfl (op_move hs (some 0) rfl rfl rfl rfl fun ac hs => ?_)
                  exact hs
                · intro L ac w hJ
                  have hs := hJ
                  refine wpO_plain rfl (op_move hs (some 1) rfl rfl rfl rfl fun ac hs => ?_)
                  exact hs
                · intro L ac w hJ
                  have hs := hJ
                  refine wpO_plain rfl (op_bin hs (some 2) (v := .int .i64 ((j + 1 : Nat) : Int)) rfl rfl rfl rfl (fun _ => rfl) (bin_addN (x := j) (y := 1) (z := j + 1) rfl (show j + 1 < 9223372036854775808 by omega)) rfl fun ac hs => ?_)
                  exact hs
                · intro L ac w hJ
                  have hs := hJ
                  refine wpO_plain rfl (op_idxC hs (some 3) 0 (j := j + 1) rfl rfl rfl rfl rfl Try.underlying22 Try.sizeOf5 (show j + 1 < l.length by omega) (off := j + 1) (by omega) rfl fun ac hs => ?_)
                  exact hs
                · intro L ac w hJ
                  have hs := hJ
                  refine wpO_plain rfl (op_loadC hs (some 4) 0 (u := .int .u8 ((byt l (j + 1) : Nat) : Int)) rfl rfl rfl rfl Try.isAgg5 Try.sizeOf5 (by decide) (bcs_get (show j + 1 < l.length by omega)) rfl fun ac hs => ?_)
                  exact hs
                · intro L ac w hJ
                  have hs := hJ
                  refine wpO_plain rfl (op_convert hs (some 5) (v := .int .i64 ((byt l (j + 1) : Nat) : Int)) rfl rfl rfl (conv_N Try.underlying5 Try.underlying3 (show byt l (j + 1) < 9223372036854775808 by omega)) rfl fun ac hs => ?_)
                  exact hs
                · intro L ac w hJ
                  have hs := hJ
                  refine wpO_plain rfl (op_move hs (some 6) rfl rfl rfl rfl fun ac hs => ?_)
                  exact hs
                · intro L ac w hJ
                  have hs := hJ
                  refine wpO_plain rfl (op_move hs (some 7) rfl rfl rfl rfl fun ac hs => ?_)
                  exact hs
                · intro L ac w hJ
                  have hs := hJ
                  refine wpO_plain rfl (op_bin hs (some 8) (v := .int .i64 ((j + 2 : Nat) : Int)) rfl rfl rfl rfl (fun _ => rfl) (bin_addN (x := j) (y := 2) (z := j + 2) rfl (show j + 2 < 9223372036854775808 by omega)) rfl fun ac hs => ?_)
                  exact hs
                · intro L ac w hJ
                  have hs := hJ
                  refine wpO_plain rfl (op_idxC hs (some 9) 0 (j := j + 2) rfl rfl rfl rfl rfl Try.underlying22 Try.sizeOf5 (show j + 2 < l.length by omega) (off := j + 2) (by omega) rfl fun ac hs => ?_)
                  exact hs
                · intro L ac w hJ
                  have hs := hJ
                  refine wpO_plain rfl (op_loadC hs (some 10) 0 (u := .int .u8 ((byt l (j + 2) : Nat) : Int)) rfl rfl rfl rfl Try.isAgg5 Try.sizeOf5 (by decide) (bcs_get (show j + 2 < l.length by omega)) rfl fun ac hs => ?_)
                  exact hs
                · intro L ac w hJ
                  have hs := hJ
                  refine wpO_plain rfl (op_convert hs (some 11) (v := .int .i64 ((byt l (j + 2) : Nat) : Int)) rfl rfl rfl (conv_N Try.underlying5 Try.underlying3 (show byt l (j + 2) < 9223372036854775808 by omega)) rfl fun ac hs => ?_)
                  exact hs
                · intro L ac w hJ
                  have hs := hJ
                  refine wpO_plain rfl (op_bin hs (some 12) (v := .int .i64 ((256 * (byt l (j + 2)) : Nat) : Int)) rfl rfl rfl rfl (fun _ => rfl) (bin_mulN (x := 256) (y := byt l (j + 2)) (z := 256 * (byt l (j + 2))) rfl (show 256 * (byt l (j + 2)) < 9223372036854775808 by omega)) rfl fun ac hs => ?_)
                  exact hs
                · intro L ac w hJ
                  have hs := hJ
                  refine wpO_plain rfl (op_bin hs (some 13) (v := .int .i64 ((byt l (j + 1) + (256 * (byt l (j + 2))) : Nat) : Int)) rfl rfl rfl rfl (fun _ => rfl) (bin_addN (x := byt l (j + 1)) (y := 256 * (byt l (j + 2))) (z := byt l (j + 1) + (256 * (byt l (j + 2)))) rfl (show byt l (j + 1) + (256 * (byt l (j + 2))) < 9223372036854775808 by omega)) rfl fun ac hs => ?_)
                  exact hs
                · intro L ac w hJ
                  have hs := hJ
                  refine wpO_plain rfl (op_assign hs (some 14) rfl rfl rfl rfl fun ac hs => ?_)
                  exact hs
              intro ac w hJ
              replace hs : St 87 ⟨w0, [], [(true, .cel (.slice ad l.length c) l.length (bcs l))], Z, noX⟩ [(53, true, .slice ad l.length c), (54, true, .int .i64 ((j : Nat) : Int)), (55, true, .int .i64 ((j + 1 : Nat) : Int)), (56, true, vidx (.slice ad l.length c) (j + 1)), (57, true, .int .u8 ((byt l (j + 1) : Nat) : Int)), (58, true, .int .i64 ((byt l (j + 1) : Nat) : Int)), (59, true, .slice ad l.length c), (60, true, .int .i64 ((j : Nat) : Int)), (61, true, .int .i64 ((j + 2 : Nat) : Int)), (62, true, vidx (.slice ad l.length c) (j + 2)), (63, true, .int .u8 ((byt l (j + 2) : Nat) : Int)), (64, true, .int .i64 ((byt l (j + 2) : Nat) : Int)), (65, true, .int .i64 ((256 * (byt l (j + 2)) : Nat) : Int)), (66, true, .int .i64 ((byt l (j + 1) + (256 * (byt l (j + 2))) : Nat) : Int)), (9, true, .int .i64 ((byt l (j + 1) + (256 * (byt l (j + 2))) : Nat) : Int)), (0, true, .slice ad l.length c), (1, true, .int .i64 ((j : Nat) : Int)), (4, true, .pointer (some ⟨g1, 0, none⟩)), (5, true, .int .i64 0), (6, true, .int .i64 0), (7, true, .int .u8 ((byt l j : Nat) : Int)), (8, true, .int .i64 ((j + (hd18 (byt l j)) : Nat) : Int)), (9, true, .int .i64 0)] [(true, g1, 25, [.int .u8 0, .slice none 0 0])] ac w := hJ
              refine blk_n ?_
              refine then_n ?_
              refine wp_seq ?_
              refine wp_seq ?_
              refine wp_region_lit ?_
              refine lstep (wpO_plain rfl (op_move hs none rfl rfl rfl rfl fun ac hs => ?_))
              refine lstep (wpO_plain rfl (op_move hs none rfl rfl rfl rfl fun ac hs => ?_))
              refine lstep (wpO_plain rfl (op_blt hs none (v := .int .i64 ((l.length : Nat) : Int)) rfl rfl rfl (blt_len Try.underlying22) rfl fun ac hs => ?_))
              refine lstep (wpO_plain rfl (op_move hs none rfl rfl rfl rfl fun ac hs => ?_))
              refine lstep (wpO_plain rfl (op_bin hs none (v := .int .i64 ((l.length - (j + (hd18 (byt l j))) : Nat) : Int)) rfl rfl rfl rfl (fun _ => rfl) (bin_subN (x := l.length) (y := j + (hd18 (byt l j))) (z := l.length - (j + (hd18 (byt l j)))) (by omega) (show l.length - (j + (hd18 (byt l j))) < 9223372036854775808 by omega)) rfl fun ac hs => ?_))
              refine lstep (wpO_plain rfl (op_bin hs none (v := .bool (decide (l.length - (j + (hd18 (byt l j))) < byt l (j + 1) + (256 * (byt l (j + 2)))))) rfl rfl rfl rfl (fun _ => rfl) (bin_gtrN (x := byt l (j + 1) + (256 * (byt l (j + 2)))) (y := l.length - (j + (hd18 (byt l j))))) rfl fun ac hs => ?_))
              refine wpList_nil ?_
              refine then_n ?_
              refine wp_cond_split (hs.ev rfl) (fun hc => ?_) (fun hc => ?_)
              · skip
                have hp54 := of_decide_eq_true hc
                refine wp_seq ?_
                replace hs : St 87 ⟨w0, [], [(true, .cel (.slice ad l.length c) l.length (bcs l))], Z, noX⟩ [(0, true, .slice ad l.length c), (4, true, .pointer (some ⟨g1, 0, none⟩)), (5, true, .int .i64 0), (6, true, .int .i64 0), (7, true, .int .u8 ((byt l j : Nat) : Int)), (8, true, .int .i64 ((j + (hd18 (byt l j)) : Nat) : Int)), (9, true, .int .i64 ((byt l (j + 1) + (256 * (byt l (j + 2))) : Nat) : Int))] [(true, g1, 25, [.int .u8 0, .slice none 0 0])] ac _ := hs.re ⟨rfl, rfl, rfl, rfl, rfl, rfl, rfl, trivial⟩
                refine wp_region_lit ?_
                refine lstep (wpO_plain rfl (op_build hs none (qs := []) (v := .agg #[.int .u8 0, .slice none 0 0]) rfl rfl rfl rfl (fun _ => by kernel_rfl) rfl fun ac hs => ?_))
                refine lstep (wpO_plain rfl (op_store hs 0 (vs := [.int .u8 0, .slice none 0 0]) rfl rfl rfl rfl rfl Try.sizeOf25 rfl rfl rfl rfl rfl fun w hs => ?_))
                refine lstep (wpO_plain rfl (op_assign hs none rfl rfl rfl rfl fun ac hs => ?_))
                refine lstep (wpO_plain rfl (op_assign hs none rfl rfl rfl rfl fun ac hs => ?_))
                refine wpList_nil ?_
                refine then_n ?_
                refine wp_ret ?_
                refine then_r ?_
                exact bodyPost_ret (res3 rfl (rv_c hs 0 (v := .agg #[.int .u8 0, .slice none 0 0]) rfl rfl Try.isAgg25 Try.sizeOf25 rfl) (rv_t hs rfl) (rv_t hs rfl)) hs.defers ⟨⟨none, 0⟩, by obtain ⟨rfl, rfl, rfl, rfl⟩ := t4 ((NX_ref2 hj (by omega) (rn_3 (by omega)) (by omega)).symm.trans hN); rfl, hs.bel rfl, by obtain ⟨rfl, rfl, rfl, rfl⟩ := t4 ((NX_ref2 hj (by omega) (rn_3 (by omega)) (by omega)).symm.trans hN); exact okl1 celv_nil⟩
              · skip
                have hp55 := of_decide_eq_false hc
                refine wp_skip ?_
                refine then_n ?_
                refine wp_seq ?_
                replace hs : St 87 ⟨w0, [], [(true, .cel (.slice ad l.length c) l.length (bcs l))], Z, noX⟩ [(0, true, .slice ad l.length c), (4, true, .pointer (some ⟨g1, 0, none⟩)), (5, true, .int .i64 0), (6, true, .int .i64 0), (7, true, .int .u8 ((byt l j : Nat) : Int)), (8, true, .int .i64 ((j + (hd18 (byt l j)) : Nat) : Int)), (9, true, .int .i64 ((byt l (j + 1) + (256 * (byt l (j + 2))) : Nat) : Int))] [(true, g1, 25, [.int .u8 0, .slice none 0 0])] ac _ := hs.re ⟨rfl, rfl, rfl, rfl, rfl, rfl, rfl, trivial⟩
                refine wp_region_lit ?_
                refine lstep (wpO_plain rfl (op_move hs none rfl rfl rfl rfl fun ac hs => ?_))
                refine lstep (wpO_plain rfl (op_bsO0 hs none none (size := 1) rfl rfl Try.underlying22 inf_u8_5 rfl rfl fun ad57 ac w hs => ?_))
                refine lstep (wpO_plain rfl (op_move hs none rfl rfl rfl rfl fun ac hs => ?_))
                refine lstep (wpO_plain rfl (op_move hs none rfl rfl rfl rfl fun ac hs => ?_))
                refine lstep (wpO_plain rfl (op_move hs none rfl rfl rfl rfl fun ac hs => ?_))
                refine lstep (wpO_plain rfl (op_move hs none rfl rfl rfl rfl fun ac hs => ?_))
                refine lstep (wpO_plain rfl (op_bin hs none (v := .int .i64 ((j + (hd18 (byt l j)) + (byt l (j + 1) + (256 * (byt l (j + 2)))) : Nat) : Int)) rfl rfl rfl rfl (fun _ => rfl) (bin_addN (x := j + (hd18 (byt l j))) (y := byt l (j + 1) + (256 * (byt l (j + 2)))) (z := j + (hd18 (byt l j)) + (byt l (j + 1) + (256 * (byt l (j + 2))))) rfl (show j + (hd18 (byt l j)) + (byt l (j + 1) + (256 * (byt l (j + 2)))) < 9223372036854775808 by omega)) rfl fun ac hs => ?_))
                refine lstep (wpO_plain rfl (op_sliceR hs none none 0 (j + (hd18 (byt l j))) (j + (hd18 (byt l j)) + (byt l (j + 1) + (256 * (byt l (j + 2))))) (N' := ((l.drop (j + (hd18 (byt l j)))).take (byt l (j + 1) + (256 * (byt l (j + 2))))).length) (cs' := bcs ((l.drop (j + (hd18 (byt l j)))).take (byt l (j + 1) + (256 * (byt l (j + 2)))))) rfl rfl rfl rfl (.inr ⟨_, _, rfl, rfl⟩) (.inr ⟨_, _, rfl, rfl⟩) Try.underlying22 Try.sizeOf5 (show j + (hd18 (byt l j)) ≤ j + (hd18 (byt l j)) + (byt l (j + 1) + (256 * (byt l (j + 2)))) by omega) (show j + (hd18 (byt l j)) + (byt l (j + 1) + (256 * (byt l (j + 2)))) ≤ l.length by omega) (len_part (show j + (hd18 (byt l j)) + (byt l (j + 1) + (256 * (byt l (j + 2)))) ≤ l.length by omega)) bcs_partn rfl rfl fun ac hs => ?_))
                refine lstep (wpO_plain rfl (op_appR hs none 1 2 (N' := ((l.drop (j + (hd18 (byt l j)))).take (byt l (j + 1) + (256 * (byt l (j + 2))))).length) (ys := bcs ((l.drop (j + (hd18 (byt l j)))).take (byt l (j + 1) + (256 * (byt l (j + 2)))))) rfl rfl rfl rfl rfl rfl Try.underlying22 inf_u8_5 rfl (by decide) (bcs_len1 rfl) (bcs_one _) (by decide) (show 0 + (((l.drop (j + (hd18 (byt l j)))).take (byt l (j + 1) + (256 * (byt l (j + 2))))).length) ≤ 1000000 by (try simp only [List.length_drop, List.length_take, List.length_append, List.length_cons, List.length_nil]); omega) (Nat.zero_add _) rfl rfl rfl fun ad58 cp59 ac w hs => ?_))
                refine lstep (wpO_plain rfl (op_build hs none (qs := [(0, .int .u8 ((byt l j : Nat) : Int)), (1, .slice ad58 (((l.drop (j + (hd18 (byt l j)))).take (byt l (j + 1) + (256 * (byt l (j + 2))))).length) cp59)]) (v := .agg #[.int .u8 ((byt l j : Nat) : Int), .slice ad58 (((l.drop (j + (hd18 (byt l j)))).take (byt l (j + 1) + (256 * (byt l (j + 2))))).length) cp59]) rfl rfl rfl rfl (fun _ => by kernel_rfl) rfl fun ac hs => ?_))
                refine lstep (wpO_plain rfl (op_move hs none rfl rfl rfl rfl fun ac hs => ?_))
                refine lstep (wpO_plain rfl (op_move hs none rfl rfl rfl rfl fun ac hs => ?_))
                refine lstep (wpO_plain rfl (op_bin hs none (v := .int .i64 ((j + (hd18 (byt l j)) + (byt l (j + 1) + (256 * (byt l (j + 2)))) : Nat) : Int)) rfl rfl rfl rfl (fun _ => rfl) (bin_addN (x := j + (hd18 (byt l j))) (y := byt l (j + 1) + (256 * (byt l (j + 2)))) (z := j + (hd18 (byt l j)) + (byt l (j + 1) + (256 * (byt l (j + 2))))) rfl (show j + (hd18 (byt l j)) + (byt l (j + 1) + (256 * (byt l (j + 2)))) < 9223372036854775808 by omega)) rfl fun ac hs => ?_))
                refine lstep (wpO_plain rfl (op_store hs 0 (vs := [.int .u8 ((byt l j : Nat) : Int), .slice ad58 (((l.drop (j + (hd18 (byt l j)))).take (byt l (j + 1) + (256 * (byt l (j + 2))))).length) cp59]) rfl rfl rfl rfl rfl Try.sizeOf25 rfl rfl rfl rfl rfl fun w hs => ?_))
                refine lstep (wpO_plain rfl (op_assign hs none rfl rfl rfl rfl fun ac hs => ?_))
                refine lstep (wpO_plain rfl (op_assign hs none rfl rfl rfl rfl fun ac hs => ?_))
                refine wpList_nil ?_
                refine then_n ?_
                refine wp_ret ?_
                replace hs := hs.freeze 1 rfl
                exact bodyPost_ret (res3 rfl (rv_c hs 0 (v := .agg #[.int .u8 ((byt l j : Nat) : Int), .slice ad58 (((l.drop (j + (hd18 (byt l j)))).take (byt l (j + 1) + (256 * (byt l (j + 2))))).length) cp59]) rfl rfl Try.isAgg25 Try.sizeOf25 rfl) (rv_t hs rfl) (rv_t hs rfl)) hs.defers ⟨⟨ad58, cp59⟩, by obtain ⟨rfl, rfl, rfl, rfl⟩ := t4 ((NX_ref hj (by omega) (rn_3 (by omega)) (by omega)).symm.trans hN); rfl, hs.bel rfl, by obtain ⟨rfl, rfl, rfl, rfl⟩ := t4 ((NX_ref hj (by omega) (rn_3 (by omega)) (by omega)).symm.trans hN); exact hs.ret1 1 rfl⟩
            · skip
              have hp60 := of_decide_eq_false hc
              refine wp_skip ?_
              refine blk_n ?_
              refine then_n ?_
              refine wp_seq ?_
              refine wp_seq ?_
              replace hs : St 87 ⟨w0, [], [(true, .cel (.slice ad l.length c) l.length (bcs l))], Z, noX⟩ [(0, true, .slice ad l.length c), (4, true, .pointer (some ⟨g1, 0, none⟩)), (5, true, .int .i64 0), (6, true, .int .i64 0), (7, true, .int .u8 ((byt l j : Nat) : Int)), (8, true, .int .i64 ((j + (hd18 (byt l j)) : Nat) : Int)), (9, true, .int .i64 0)] [(true, g1, 25, [.int .u8 0, .slice none 0 0])] ac _ := hs.re ⟨rfl, rfl, rfl, rfl, rfl, rfl, rfl, trivial⟩
              refine wp_region_lit ?_
              refine lstep (wpO_plain rfl (op_move hs none rfl rfl rfl rfl fun ac hs => ?_))
              refine lstep (wpO_plain rfl (op_move hs none rfl rfl rfl rfl fun ac hs => ?_))
              refine lstep (wpO_plain rfl (op_blt hs none (v := .int .i64 ((l.length : Nat) : Int)) rfl rfl rfl (blt_len Try.underlying22) rfl fun ac hs => ?_))
              refine lstep (wpO_plain rfl (op_move hs none rfl rfl rfl rfl fun ac hs => ?_))
              refine lstep (wpO_plain rfl (op_bin hs none (v := .int .i64 ((l.length - (j + (hd18 (byt l j))) : Nat) : Int)) rfl rfl rfl rfl (fun _ => rfl) (bin_subN (x := l.length) (y := j + (hd18 (byt l j))) (z := l.length - (j + (hd18 (byt l j)))) (by omega) (show l.length - (j + (hd18 (byt l j))) < 9223372036854775808 by omega)) rfl fun ac hs => ?_))
              refine lstep (wpO_plain rfl (op_bin hs none (v := .bool (decide (l.length - (j + (hd18 (byt l j))) < 0))) rfl rfl rfl rfl (fun _ => rfl) (bin_gtrN (x := 0) (y := l.length - (j + (hd18 (byt l j))))) rfl fun ac hs => ?_))
              refine wpList_nil ?_
              refine then_n ?_
              refine wp_cond_split (hs.ev rfl) (fun hc => ?_) (fun hc => ?_)
              · skip
                have hp61 := of_decide_eq_true hc
                refine wp_seq ?_
                replace hs : St 87 ⟨w0, [], [(true, .cel (.slice ad l.length c) l.length (bcs l))], Z, noX⟩ [(0, true, .slice ad l.length c), (4, true, .pointer (some ⟨g1, 0, none⟩)), (5, true, .int .i64 0), (6, true, .int .i64 0), (7, true, .int .u8 ((byt l j : Nat) : Int)), (8, true, .int .i64 ((j + (hd18 (byt l j)) : Nat) : Int)), (9, true, .int .i64 0)] [(true, g1, 25, [.int .u8 0, .slice none 0 0])] ac _ := hs.re ⟨rfl, rfl, rfl, rfl, rfl, rfl, rfl, trivial⟩
                refine wp_region_lit ?_
                refine lstep (wpO_plain rfl (op_build hs none (qs := []) (v := .agg #[.int .u8 0, .slice none 0 0]) rfl rfl rfl rfl (fun _ => by kernel_rfl) rfl fun ac hs => ?_))
                refine lstep (wpO_plain rfl (op_store hs 0 (vs := [.int .u8 0, .slice none 0 0]) rfl rfl rfl rfl rfl Try.sizeOf25 rfl rfl rfl rfl rfl fun w hs => ?_))
                refine lstep (wpO_plain rfl (op_assign hs none rfl rfl rfl rfl fun ac hs => ?_))
                refine lstep (wpO_plain rfl (op_assign hs none rfl rfl rfl rfl fun ac hs => ?_))
                refine wpList_nil ?_
                refine then_n ?_
                refine wp_ret ?_
                refine then_r ?_
                exact bodyPost_ret (res3 rfl (rv_c hs 0 (v := .agg #[.int .u8 0, .slice none 0 0]) rfl rfl Try.isAgg25 Try.sizeOf25 rfl) (rv_t hs rfl) (rv_t hs rfl)) hs.defers ⟨⟨none, 0⟩, by obtain ⟨rfl, rfl, rfl, rfl⟩ := t4 ((NX_ref2 hj (by omega) (rn_4 (by omega) (by omega) (by omega)) (by omega)).symm.trans hN); rfl, hs.bel rfl, by obtain ⟨rfl, rfl, rfl, rfl⟩ := t4 ((NX_ref2 hj (by omega) (rn_4 (by omega) (by omega) (by omega)) (by omega)).symm.trans hN); exact okl1 celv_nil⟩
              · skip
                have hp62 := of_decide_eq_false hc
                refine wp_skip ?_
                refine then_n ?_
                refine wp_seq ?_
                replace hs : St 87 ⟨w0, [], [(true, .cel (.slice ad l.length c) l.length (bcs l))], Z, noX⟩ [(0, true, .slice ad l.length c), (4, true, .pointer (some ⟨g1, 0, none⟩)), (5, true, .int .i64 0), (6, true, .int .i64 0), (7, true, .int .u8 ((byt l j : Nat) : Int)), (8, true, .int .i64 ((j + (hd18 (byt l j)) : Nat) : Int)), (9, true, .int .i64 0)] [(true, g1, 25, [.int .u8 0, .slice none 0 0])] ac _ := hs.re ⟨rfl, rfl, rfl, rfl, rfl, rfl, rfl, trivial⟩
                refine wp_region_lit ?_
                refine lstep (wpO_plain rfl (op_move hs none rfl rfl rfl rfl fun ac hs => ?_))
                refine lstep (wpO_plain rfl (op_bsO0 hs none none (size := 1) rfl rfl Try.underlying22 inf_u8_5 rfl rfl fun ad64 ac w hs => ?_))
                refine lstep (wpO_plain rfl (op_move hs none rfl rfl rfl rfl fun ac hs => ?_))
                refine lstep (wpO_plain rfl (op_move hs none rfl rfl rfl rfl fun ac hs => ?_))
                refine lstep (wpO_plain rfl (op_move hs none rfl rfl rfl rfl fun ac hs => ?_))
                refine lstep (wpO_plain rfl (op_move hs none rfl rfl rfl rfl fun ac hs => ?_))
                refine lstep (wpO_plain rfl (op_bin hs none (v := .int .i64 ((j + (hd18 (byt l j)) + 0 : Nat) : Int)) rfl rfl rfl rfl (fun _ => rfl) (bin_addN (x := j + (hd18 (byt l j))) (y := 0) (z := j + (hd18 (byt l j)) + 0) rfl (show j + (hd18 (byt l j)) + 0 < 9223372036854775808 by omega)) rfl fun ac hs => ?_))
                refine lstep (wpO_plain rfl (op_sliceR hs none none 0 (j + (hd18 (byt l j))) (j + (hd18 (byt l j)) + 0) (N' := ((l.drop (j + (hd18 (byt l j)))).take 0).length) (cs' := bcs ((l.drop (j + (hd18 (byt l j)))).take 0)) rfl rfl rfl rfl (.inr ⟨_, _, rfl, rfl⟩) (.inr ⟨_, _, rfl, rfl⟩) Try.underlying22 Try.sizeOf5 (show j + (hd18 (byt l j)) ≤ j + (hd18 (byt l j)) + 0 by omega) (show j + (hd18 (byt l j)) + 0 ≤ l.length by omega) (len_part (show j + (hd18 (byt l j)) + 0 ≤ l.length by omega)) bcs_partn rfl rfl fun ac hs => ?_))
                refine lstep (wpO_plain rfl (op_appR hs none 1 2 (N' := ((l.drop (j + (hd18 (byt l j)))).take 0).length) (ys := bcs ((l.drop (j + (hd18 (byt l j)))).take 0)) rfl rfl rfl rfl rfl rfl Try.underlying22 inf_u8_5 rfl (by decide) (bcs_len1 rfl) (bcs_one _) (by decide) (show 0 + (((l.drop (j + (hd18 (byt l j)))).take 0).length) ≤ 1000000 by (try simp only [List.length_drop, List.length_take, List.length_append, List.length_cons, List.length_nil]); omega) (Nat.zero_add _) rfl rfl rfl fun ad65 cp66 ac w hs => ?_))
                refine lstep (wpO_plain rfl (op_build hs none (qs := [(0, .int .u8 ((byt l j : Nat) : Int)), (1, .slice ad65 (((l.drop (j + (hd18 (byt l j)))).take 0).length) cp66)]) (v := .agg #[.int .u8 ((byt l j : Nat) : Int), .slice ad65 (((l.drop (j + (hd18 (byt l j)))).take 0).length) cp66]) rfl rfl rfl rfl (fun _ => by kernel_rfl) rfl fun ac hs => ?_))
                refine lstep (wpO_plain rfl (op_move hs none rfl rfl rfl rfl fun ac hs => ?_))
                refine lstep (wpO_plain rfl (op_move hs none rfl rfl rfl rfl fun ac hs => ?_))
                refine lstep (wpO_plain rfl (op_bin hs none (v := .int .i64 ((j + (hd18 (byt l j)) + 0 : Nat) : Int)) rfl rfl rfl rfl (fun _ => rfl) (bin_addN (x := j + (hd18 (byt l j))) (y := 0) (z := j + (hd18 (byt l j)) + 0) rfl (show j + (hd18 (byt l j)) + 0 < 9223372036854775808 by omega)) rfl fun ac hs => ?_))
                refine lstep (wpO_plain rfl (op_store hs 0 (vs := [.int .u8 ((byt l j : Nat) : Int), .slice ad65 (((l.drop (j + (hd18 (byt l j)))).take 0).length) cp66]) rfl rfl rfl rfl rfl Try.sizeOf25 rfl rfl rfl rfl rfl fun w hs => ?_))
                refine lstep (wpO_plain rfl (op_assign hs none rfl rfl rfl rfl fun ac hs => ?_))
                refine lstep (wpO_plain rfl (op_assign hs none rfl rfl rfl rfl fun ac hs => ?_))
                refine wpList_nil ?_
                refine then_n ?_
                refine wp_ret ?_
                replace hs := hs.freeze 1 rfl
                exact bodyPost_ret (res3 rfl (rv_c hs 0 (v := .agg #[.int .u8 ((byt l j : Nat) : Int), .slice ad65 (((l.drop (j + (hd18 (byt l j)))).take 0).length) cp66]) rfl rfl Try.isAgg25 Try.sizeOf25 rfl) (rv_t hs rfl) (rv_t hs rfl)) hs.defers ⟨⟨ad65, cp66⟩, by obtain ⟨rfl, rfl, rfl, rfl⟩ := t4 ((NX_ref hj (by omega) (rn_4 (by omega) (by omega) (by omega)) (by omega)).symm.trans hN); rfl, hs.bel rfl, by obtain ⟨rfl, rfl, rfl, rfl⟩ := t4 ((NX_ref hj (by omega) (rn_4 (by omega) (by omega) (by omega)) (by omega)).symm.trans hN); exact hs.ret1 1 rfl⟩
end Go.Proofs.Ytbjnlcblaonccaa
