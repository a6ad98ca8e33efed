/- The contracts of words: built, pushed. -/
import Derived.Test.YtbjnlcblaonccaaWords2
import Derived.Test.YtbjnlcblaonccaaWd2P
namespace Go.Proofs.Ytbjnlcblaonccaa
open Go.RowKit
set_option maxRecDepth 10000

theorem lay_c (o : Nat) (ad : Option Addr) (nl c : Nat) (l b : List UInt8) (q : Bool) (ho : o < 256) (hlen : l.length ≤ 100000) (hB : layB o l = b) (hQ : layQ o l = q) (w0 : World) (Z : Nat → Prop) (hl : ByV w0 Z (.slice ad nl c) l): Calls Try.prog 33 #[.agg #[.int .u8 ((o : Nat) : Int), .slice ad nl c]] w0 fun e w' => Ret w0 Z (ρ := Option Addr × Nat) (fun r => .tuple #[.slice r.1 b.length r.2, .bool q]) (fun r => [.cel (.slice r.1 b.length r.2) b.length (bcs b)]) e w' := by
  obtain rfl := byv_len hl
  refine enterS (n := 64) (args := [.agg #[.int .u8 ((o : Nat) : Int), .slice ad l.length c]]) (S := [(true, .cel (.slice ad l.length c) l.length (bcs l))]) (Z := Z) Try.func33 rfl rfl (Nat.le_of_ble_eq_true rfl) (sokC hl sok0) rfl fun ac hs => ?_
  refine wp_seq ?_
  refine wp_region_lit ?_
  refine lstep (wpO_plain rfl (op_box hs none none (cs := [.int .u8 ((o : Nat) : Int), .slice ad l.length c]) rfl rfl rfl rfl rfl rfl fun g1 ac w hs => ?_))
  refine lstep (wpO_plain rfl (op_assign hs none rfl rfl rfl rfl fun ac hs => ?_))
  refine lstep (wpO_plain rfl (op_assign hs none rfl rfl rfl rfl fun ac hs => ?_))
  refine wpList_nil ?_
  refine then_n ?_
  refine wp_seq ?_
  refine wp_region_lit ?_
  refine lstep (wpO_plain rfl (op_fieldA hs none rfl rfl rfl Try.underlying25 rfl Try.sizeOf22 (by decide) rfl fun ac hs => ?_))
  refine lstep (wpO_plain rfl (op_load hs none 0 (v := .slice ad l.length c) rfl rfl rfl rfl Try.isAgg22 Try.sizeOf22 rfl rfl fun ac hs => ?_))
  refine lstep (wpO_plain rfl (op_blt hs none (v := .int .i64 ((l.length : Nat) : Int)) rfl rfl rfl (blt_len Try.underlying22) rfl fun ac hs => ?_))
  refine lstep (wpO_plain rfl (op_assign hs none rfl rfl rfl rfl fun ac hs => ?_))
  refine wpList_nil ?_
  refine then_n ?_
  refine wp_seq ?_
  refine wp_block ?_
  refine wp_seq ?_
  by_cases hq2 : 0 < o
  · skip
    replace hs : St 64 ⟨w0, [], [(true, .cel (.slice ad l.length c) l.length (bcs l))], Z, noX⟩ [(1, true, .pointer (some ⟨g1, 0, none⟩)), (2, true, .slice none 0 0), (3, true, .bool false), (4, true, .int .i64 ((l.length : Nat) : Int))] [(true, g1, 25, [.int .u8 ((o : Nat) : Int), .slice ad l.length c])] ac _ := hs.re ⟨rfl, rfl, rfl, rfl, trivial⟩
    refine wp_region_lit ?_
    refine lstep (wpO_plain rfl (op_fieldA hs none rfl rfl rfl Try.underlying25 rfl Try.sizeOf5 (by decide) rfl fun ac hs => ?_))
    refine lstep (wpO_plain rfl (op_load hs none 0 (v := .int .u8 ((o : Nat) : Int)) rfl rfl rfl rfl Try.isAgg5 Try.sizeOf5 rfl rfl fun ac hs => ?_))
    refine lstep (wpO_plain rfl (op_bin hs none (v := .bool true) rfl rfl rfl rfl (fun _ => rfl) (fun w => dT hq2 (bin_gtrN (x := o) (y := 0) w)) rfl fun ac hs => ?_))
    refine lstep (wpO_plain rfl (op_move hs none rfl rfl rfl rfl fun ac hs => ?_))
    refine lstep (wpO_in hs rfl rfl rfl (op_fieldA hs none rfl rfl rfl Try.underlying25 rfl Try.sizeOf5 (by decide) rfl fun ac hs => ?_))
    refine lstep (wpO_in hs rfl rfl rfl (op_load hs none 0 (v := .int .u8 ((o : Nat) : Int)) rfl rfl rfl rfl Try.isAgg5 Try.sizeOf5 rfl rfl fun ac hs => ?_))
    refine lstep (wpO_in hs rfl rfl rfl (op_bin hs none (v := .bool (decide (o ≤ 75))) rfl rfl rfl rfl (fun _ => rfl) (bin_leqN (x := o) (y := 75)) rfl fun ac hs => ?_))
    refine lstep (wpO_plain rfl (op_pickT hs none rfl rfl rfl rfl rfl fun ac hs => ?_))
    refine lstep (wpO_plain rfl (op_assign hs none rfl rfl rfl rfl fun ac hs => ?_))
    refine wpList_nil ?_
    refine then_n ?_
    refine wp_cond_split (hs.ev rfl) (fun hc => ?_) (fun hc => ?_)
    · skip
      have hp3 := of_decide_eq_true hc
      refine wp_seq ?_
      replace hs : St 64 ⟨w0, [], [(true, .cel (.slice ad l.length c) l.length (bcs l))], Z, noX⟩ [(1, true, .pointer (some ⟨g1, 0, none⟩)), (2, true, .slice none 0 0), (3, true, .bool false), (4, true, .int .i64 ((l.length : Nat) : Int))] [(true, g1, 25, [.int .u8 ((o : Nat) : Int), .slice ad l.length c])] ac _ := hs.re ⟨rfl, rfl, rfl, rfl, trivial⟩
      refine region_inv [([], [1, 2, 5, 11, 12]), ([0], [2, 5, 11, 12]), ([0, 1], [5, 11, 12]), ([], [4, 5, 11, 12]), ([3], [5, 11, 12]), ([0, 1, 2, 3, 4], [11, 12]), ([], [10, 12]), ([], [8, 9, 10, 12]), ([7], [9, 10, 12]), ([7, 8], [10, 12]), ([6, 7, 8, 9], [12]), ([0, 1, 2, 3, 4, 5], [12]), ([0, 1, 2, 3, 4, 5, 6, 7, 8, 9, 10, 11], [])] (fun L ac w => ∃ (ad5 : Option Addr) (ad6 : Option Addr) (cp7 : Nat), St 64 ⟨w0, [], [(true, .cel (.slice ad l.length c) l.length (bcs l)), (L 2, cond (L 5) (.own (.slice ad6 (([UInt8.ofNat o] ++ l).length) cp7) 5 1 (([UInt8.ofNat o] ++ l).length) (bcs ([UInt8.ofNat o] ++ l))) (.own (.slice ad5 1 1) 5 1 1 (bcs ([UInt8.ofNat o]))))], Z, noX⟩ [(17, L 0, .pointer (some ⟨g1, 0, none⟩)), (18, L 1, .int .u8 ((o : Nat) : Int)), (19, L 2, .slice ad5 1 1), (20, L 3, .pointer (some ⟨g1, 1, none⟩)), (21, L 4, .slice ad l.length c), (22, L 5, .slice ad6 (([UInt8.ofNat o] ++ l).length) cp7), (23, L 6, .int .i64 ((l.length : Nat) : Int)), (24, L 7, .pointer (some ⟨g1, 0, none⟩)), (25, L 8, .int .u8 ((o : Nat) : Int)), (26, L 9, .int .i64 ((o : Nat) : Int)), (27, L 10, .bool (decide (l.length = o))), (2, L 11, cond (L 11) (.slice ad6 (([UInt8.ofNat o] ++ l).length) cp7) undef), (3, L 12, .bool (decide (l.length = o))), (1, true, .pointer (some ⟨g1, 0, none⟩)), (2, true, .slice none 0 0), (3, true, .bool false), (4, true, .int .i64 ((l.length : Nat) : Int))] [(true, g1, 25, [.int .u8 ((o : Nat) : Int), .slice ad l.length c])] ac w) (by kernel_rfl) (by kernel_rfl) ?_ ?_ ?_
      · exact ⟨none, none, 0, hs.drew.skip.skip.skip.skip.skip.skip.skip.skip.skip.skip.skip.skip.skip.padS⟩
      · refine ⟨?_, ?_, ?_, ?_, ?_, ?_, ?_, ?_, ?_, ?_, ?_, ?_, ?_, trivial⟩
        · intro L ac w hJ
          obtain ⟨ad5, ad6, cp7, hs⟩ := hJ
          refine wpO_plain rfl (op_fieldA hs (some 0) rfl rfl rfl Try.underlying25 rfl Try.sizeOf5 (by decide) rfl fun ac hs => ?_)
          exact ⟨ad5, ad6, cp7, hs⟩
        · intro L ac w hJ
          obtain ⟨ad5, ad6, cp7, hs⟩ := hJ
          refine wpO_plain rfl (op_load hs (some 1) 0 (v := .int .u8 ((o : Nat) : Int)) rfl rfl rfl rfl Try.isAgg5 Try.sizeOf5 rfl rfl fun ac hs => ?_)
          exact ⟨ad5, ad6, cp7, hs⟩
        · intro L ac w hJ
          obtain ⟨ad5, ad6, cp7, hs⟩ := hJ
          refine wpO_plain rfl (op_bsO hs (some 2) (some 1) (qs := [(0, .int .u8 ((o : Nat) : Int))]) (cs := [.int .u8 ((o : Nat) : Int)]) (cs' := bcs [UInt8.ofNat o]) rfl rfl rfl rfl Try.underlying22 inf_u8_5 (by decide) (by decide) (fill_one _ _ rfl ) rfl (bcs_cons (show o < 256 by omega) rfl) rfl rfl fun ad5 ac w hs => ?_)
          exact ⟨ad5, ad6, cp7, hs⟩
        · intro L ac w hJ
          obtain ⟨ad5, ad6, cp7, hs⟩ := hJ
          refine wpO_plain rfl (op_fieldA hs (some 3) rfl rfl rfl Try.underlying25 rfl Try.sizeOf22 (by decide) rfl fun ac hs => ?_)
          exact ⟨ad5, ad6, cp7, hs⟩
        · intro L ac w hJ
          obtain ⟨ad5, ad6, cp7, hs⟩ := hJ
          refine wpO_plain rfl (op_load hs (some 4) 0 (v := .slice ad l.length c) rfl rfl rfl rfl Try.isAgg22 Try.sizeOf22 rfl rfl fun ac hs => ?_)
          exact ⟨ad5, ad6, cp7, hs⟩
        · intro L ac w hJ
          obtain ⟨ad5, ad6, cp7, hs⟩ := hJ
          refine wpO_plain rfl (op_appR hs (some 5) 1 0 (N' := ([UInt8.ofNat o] ++ l).length) (ys := bcs ([UInt8.ofNat o] ++ l)) rfl rfl rfl rfl rfl rfl Try.underlying22 inf_u8_5 rfl (by decide) (bcs_len1 rfl) (bcs_one _) (by decide) (show 1 + l.length ≤ 1000000 by omega) (by simp only [List.length_append, List.length_cons, List.length_nil] <;> omega) (bcs_append _ _) rfl rfl fun ad6 cp7 ac w hs => ?_)
          exact ⟨ad5, ad6, cp7, hs⟩
        · intro L ac w hJ
          obtain ⟨ad5, ad6, cp7, hs⟩ := hJ
          refine wpO_plain rfl (op_move hs (some 6) rfl rfl rfl rfl fun ac hs => ?_)
          exact ⟨ad5, ad6, cp7, hs⟩
        · intro L ac w hJ
          obtain ⟨ad5, ad6, cp7, hs⟩ := hJ
          refine wpO_plain rfl (op_fieldA hs (some 7) rfl rfl rfl Try.underlying25 rfl Try.sizeOf5 (by decide) rfl fun ac hs => ?_)
          exact ⟨ad5, ad6, cp7, hs⟩
        · intro L ac w hJ
          obtain ⟨ad5, ad6, cp7, hs⟩ := hJ
          refine wpO_plain rfl (op_load hs (some 8) 0 (v := .int .u8 ((o : Nat) : Int)) rfl rfl rfl rfl Try.isAgg5 Try.sizeOf5 rfl rfl fun ac hs => ?_)
          exact ⟨ad5, ad6, cp7, hs⟩
        · intro L ac w hJ
          obtain ⟨ad5, ad6, cp7, hs⟩ := hJ
          refine wpO_plain rfl (op_convert hs (some 9) (v := .int .i64 ((o : Nat) : Int)) rfl rfl rfl (conv_N Try.underlying5 Try.underlying3 (show o < 9223372036854775808 by omega)) rfl fun ac hs => ?_)
          exact ⟨ad5, ad6, cp7, hs⟩
        · intro L ac w hJ
          obtain ⟨ad5, ad6, cp7, hs⟩ := hJ
          refine wpO_plain rfl (op_bin hs (some 10) (v := .bool (decide (l.length = o))) rfl rfl rfl rfl (fun _ => rfl) (bin_eqlN (x := l.length) (y := o)) rfl fun ac hs => ?_)
          exact ⟨ad5, ad6, cp7, hs⟩
        · intro L ac w hJ
          obtain ⟨ad5, ad6, cp7, hs⟩ := hJ
          refine wpO_plain rfl (op_assign hs (some 11) rfl rfl rfl rfl fun ac hs => ?_)
          exact ⟨ad5, ad6, cp7, hs⟩
        · intro L ac w hJ
          obtain ⟨ad5, ad6, cp7, hs⟩ := hJ
          refine wpO_plain rfl (op_assign hs (some 12) rfl rfl rfl rfl fun ac hs => ?_)
          exact ⟨ad5, ad6, cp7, hs⟩
      intro ac w hJ
      obtain ⟨ad5, ad6, cp7, hs⟩ := hJ
      replace hs : St 64 ⟨w0, [], [(true, .cel (.slice ad l.length c) l.length (bcs l)), (true, .own (.slice ad6 (([UInt8.ofNat o] ++ l).length) cp7) 5 1 (([UInt8.ofNat o] ++ l).length) (bcs ([UInt8.ofNat o] ++ l)))], Z, noX⟩ [(17, true, .pointer (some ⟨g1, 0, none⟩)), (18, true, .int .u8 ((o : Nat) : Int)), (19, true, .slice ad5 1 1), (20, true, .pointer (some ⟨g1, 1, none⟩)), (21, true, .slice ad l.length c), (22, true, .slice ad6 (([UInt8.ofNat o] ++ l).length) cp7), (23, true, .int .i64 ((l.length : Nat) : Int)), (24, true, .pointer (some ⟨g1, 0, none⟩)), (25, true, .int .u8 ((o : Nat) : Int)), (26, true, .int .i64 ((o : Nat) : Int)), (27, true, .bool (decide (l.length = o))), (2, true, .slice ad6 (([UInt8.ofNat o] ++ l).length) cp7), (3, true, .bool (decide (l.length = o))), (1, true, .pointer (some ⟨g1, 0, none⟩)), (2, true, .slice none 0 0), (3, true, .bool false), (4, true, .int .i64 ((l.length : Nat) : Int))] [(true, g1, 25, [.int .u8 ((o : Nat) : Int), .slice ad l.length c])] ac w := hs
      refine then_n ?_
      refine wp_ret ?_
      refine blk_r ?_
      refine then_r ?_
      replace hs := hs.freeze 1 rfl
      exact bodyPost_ret (res2 rfl (rv_t hs rfl) (rv_t hs rfl)) hs.defers ⟨⟨ad6, cp7⟩, by rw [← hB, ← hQ, (layB_1 (p := l) (by omega) (by omega)).1, (layB_1 (p := l) (by omega) (by omega)).2]; first | done | rfl, hs.bel rfl, by rw [← hB, (layB_1 (p := l) (by omega) (by omega)).1]; exact hs.ret1 1 rfl⟩
    · skip
      have hp8 := of_decide_eq_false hc
      refine wp_seq ?_
      replace hs : St 64 ⟨w0, [], [(true, .cel (.slice ad l.length c) l.length (bcs l))], Z, noX⟩ [(1, true, .pointer (some ⟨g1, 0, none⟩)), (2, true, .slice none 0 0), (3, true, .bool false), (4, true, .int .i64 ((l.length : Nat) : Int))] [(true, g1, 25, [.int .u8 ((o : Nat) : Int), .slice ad l.length c])] ac _ := hs.re ⟨rfl, rfl, rfl, rfl, trivial⟩
      refine wp_region_lit ?_
      refine lstep (wpO_plain rfl (op_fieldA hs none rfl rfl rfl Try.underlying25 rfl Try.sizeOf5 (by decide) rfl fun ac hs => ?_))
      refine lstep (wpO_plain rfl (op_load hs none 0 (v := .int .u8 ((o : Nat) : Int)) rfl rfl rfl rfl Try.isAgg5 Try.sizeOf5 rfl rfl fun ac hs => ?_))
      refine lstep (wpO_plain rfl (op_bin hs none (v := .bool (decide (o = 76))) rfl rfl rfl rfl (fun _ => rfl) (bin_eqlN (x := o) (y := 76)) rfl fun ac hs => ?_))
      refine lstep (wpO_plain rfl (op_assign hs none rfl rfl rfl rfl fun ac hs => ?_))
      refine wpList_nil ?_
      refine then_n ?_
      refine wp_cond_split (hs.ev rfl) (fun hc => ?_) (fun hc => ?_)
      · skip
        have hp9 := of_decide_eq_true hc
        refine wp_seq ?_
        refine wp_region_lit ?_
        refine lstep (wpO_plain rfl (op_fieldA hs none rfl rfl rfl Try.underlying25 rfl Try.sizeOf5 (by decide) rfl fun ac hs => ?_))
        refine lstep (wpO_plain rfl (op_load hs none 0 (v := .int .u8 ((o : Nat) : Int)) rfl rfl rfl rfl Try.isAgg5 Try.sizeOf5 rfl rfl fun ac hs => ?_))
        refine lstep (wpO_plain rfl (op_move hs none rfl rfl rfl rfl fun ac hs => ?_))
        refine lstep (wpO_plain rfl (op_convert hs none (v := .int .u8 ((l.length % 256 : Nat) : Int)) rfl rfl rfl (conv_M (z := l.length % 256) rfl Try.underlying3 Try.underlying5 rfl) rfl fun ac hs => ?_))
        refine lstep (wpO_plain rfl (op_bsO hs none none (qs := [(0, .int .u8 ((o : Nat) : Int)), (1, .int .u8 ((l.length % 256 : Nat) : Int))]) (cs := [.int .u8 ((o : Nat) : Int), .int .u8 ((l.length % 256 : Nat) : Int)]) (cs' := bcs [UInt8.ofNat o, UInt8.ofNat (l.length % 256)]) rfl rfl rfl rfl Try.underlying22 inf_u8_5 (by decide) (by decide) (fill_two _ _ _ rfl rfl ) rfl (bcs_cons (show o < 256 by omega) (bcs_cons (show l.length % 256 < 256 by omega) rfl)) rfl rfl fun ad11 ac w hs => ?_))
        refine lstep (wpO_plain rfl (op_fieldA hs none rfl rfl rfl Try.underlying25 rfl Try.sizeOf22 (by decide) rfl fun ac hs => ?_))
        refine lstep (wpO_plain rfl (op_load hs none 0 (v := .slice ad l.length c) rfl rfl rfl rfl Try.isAgg22 Try.sizeOf22 rfl rfl fun ac hs => ?_))
        refine lstep (wpO_plain rfl (op_appR hs none 1 0 (N' := ([UInt8.ofNat o, UInt8.ofNat (l.length % 256)] ++ l).length) (ys := bcs ([UInt8.ofNat o, UInt8.ofNat (l.length % 256)] ++ l)) rfl rfl rfl rfl rfl rfl Try.underlying22 inf_u8_5 rfl (by decide) (bcs_len1 rfl) (bcs_one _) (by decide) (show 2 + l.length ≤ 1000000 by omega) (by simp only [List.length_append, List.length_cons, List.length_nil] <;> omega) (bcs_append _ _) rfl rfl fun ad12 cp13 ac w hs => ?_))
        refine lstep (wpO_plain rfl (op_move hs none rfl rfl rfl rfl fun ac hs => ?_))
        refine lstep (wpO_plain rfl (op_bin hs none (v := .bool (decide (l.length ≤ 255))) rfl rfl rfl rfl (fun _ => rfl) (bin_leqN (x := l.length) (y := 255)) rfl fun ac hs => ?_))
        refine lstep (wpO_plain rfl (op_assign hs none rfl rfl rfl rfl fun ac hs => ?_))
        refine lstep (wpO_plain rfl (op_assign hs none rfl rfl rfl rfl fun ac hs => ?_))
        refine wpList_nil ?_
        refine then_n ?_
        refine wp_ret ?_
        refine blk_r ?_
        refine then_r ?_
        replace hs := hs.freeze 1 rfl
        exact bodyPost_ret (res2 rfl (rv_t hs rfl) (rv_t hs rfl)) hs.defers ⟨⟨ad12, cp13⟩, by rw [← hB, ← hQ, (layB_2 (p := l) (by omega)).1, (layB_2 (p := l) (by omega)).2]; first | done | rfl, hs.bel rfl, by rw [← hB, (layB_2 (p := l) (by omega)).1]; exact hs.ret1 1 rfl⟩
      · skip
        have hp14 := of_decide_eq_false hc
        refine wp_seq ?_
        refine wp_region_lit ?_
        refine lstep (wpO_plain rfl (op_fieldA hs none rfl rfl rfl Try.underlying25 rfl Try.sizeOf5 (by decide) rfl fun ac hs => ?_))
        refine lstep (wpO_plain rfl (op_load hs none 0 (v := .int .u8 ((o : Nat) : Int)) rfl rfl rfl rfl Try.isAgg5 Try.sizeOf5 rfl rfl fun ac hs => ?_))
        refine lstep (wpO_plain rfl (op_bin hs none (v := .bool (decide (o = 77))) rfl rfl rfl rfl (fun _ => rfl) (bin_eqlN (x := o) (y := 77)) rfl fun ac hs => ?_))
        refine lstep (wpO_plain rfl (op_assign hs none rfl rfl rfl rfl fun ac hs => ?_))
        refine wpList_nil ?_
        refine then_n ?_
        refine wp_cond_split (hs.ev rfl) (fun hc => ?_) (fun hc => ?_)
        · skip
          have hp15 := of_decide_eq_true hc
          refine wp_seq ?_
          replace hs : St 64 ⟨w0, [], [(true, .cel (.slice ad l.length c) l.length (bcs l))], Z, noX⟩ [(1, true, .pointer (some ⟨g1, 0, none⟩)), (2, true, .slice none 0 0), (3, true, .bool false), (4, true, .int .i64 ((l.length : Nat) : Int))] [(true, g1, 25, [.int .u8 ((o : Nat) : Int), .slice ad l.length c])] ac _ := hs.re ⟨rfl, rfl, rfl, rfl, trivial⟩
          refine wp_region_lit ?_
          refine lstep (wpO_plain rfl (op_fieldA hs none rfl rfl rfl Try.underlying25 rfl Try.sizeOf5 (by decide) rfl fun ac hs => ?_))
          refine lstep (wpO_plain rfl (op_load hs none 0 (v := .int .u8 ((o : Nat) : Int)) rfl rfl rfl rfl Try.isAgg5 Try.sizeOf5 rfl rfl fun ac hs => ?_))
          refine lstep (wpO_plain rfl (op_move hs none rfl rfl rfl rfl fun ac hs => ?_))
          refine lstep (wpO_plain rfl (op_convert hs none (v := .int .u8 ((l.length % 256 : Nat) : Int)) rfl rfl rfl (conv_M (z := l.length % 256) rfl Try.underlying3 Try.underlying5 rfl) rfl fun ac hs => ?_))
          refine lstep (wpO_plain rfl (op_move hs none rfl rfl rfl rfl fun ac hs => ?_))
          refine lstep (wpO_plain rfl (op_bin hs none (v := .int .i64 ((l.length / 2 ^ 8 : Nat) : Int)) rfl rfl rfl rfl (fun _ => rfl) (bin_shrN (x := l.length) (y := 8) (z := l.length / 2 ^ 8) rfl (show l.length < 2 ^ 64 by omega)) rfl fun ac hs => ?_))
          refine lstep (wpO_plain rfl (op_convert hs none (v := .int .u8 (((l.length / 2 ^ 8) % 256 : Nat) : Int)) rfl rfl rfl (conv_M (z := (l.length / 2 ^ 8) % 256) rfl Try.underlying3 Try.underlying5 rfl) rfl fun ac hs => ?_))
          refine lstep (wpO_plain rfl (op_bsO hs none none (qs := [(0, .int .u8 ((o : Nat) : Int)), (1, .int .u8 ((l.length % 256 : Nat) : Int)), (2, .int .u8 (((l.length / 2 ^ 8) % 256 : Nat) : Int))]) (cs := [.int .u8 ((o : Nat) : Int), .int .u8 ((l.length % 256 : Nat) : Int), .int .u8 (((l.length / 2 ^ 8) % 256 : Nat) : Int)]) (cs' := bcs [UInt8.ofNat o, UInt8.ofNat (l.length % 256), UInt8.ofNat ((l.length / 2 ^ 8) % 256)]) rfl rfl rfl rfl Try.underlying22 inf_u8_5 (by decide) (by decide) (fill_three _ _ _ _ rfl rfl rfl ) rfl (bcs_cons (show o < 256 by omega) (bcs_cons (show l.length % 256 < 256 by omega) (bcs_cons (show (l.length / 2 ^ 8) % 256 < 256 by omega) rfl))) rfl rfl fun ad17 ac w hs => ?_))
          refine lstep (wpO_plain rfl (op_fieldA hs none rfl rfl rfl Try.underlying25 rfl Try.sizeOf22 (by decide) rfl fun ac hs => ?_))
          refine lstep (wpO_plain rfl (op_load hs none 0 (v := .slice ad l.length c) rfl rfl rfl rfl Try.isAgg22 Try.sizeOf22 rfl rfl fun ac hs => ?_))
          refine lstep (wpO_plain rfl (op_appR hs none 1 0 (N' := ([UInt8.ofNat o, UInt8.ofNat (l.length % 256), UInt8.ofNat ((l.length / 2 ^ 8) % 256)] ++ l).length) (ys := bcs ([UInt8.ofNat o, UInt8.ofNat (l.length % 256), UInt8.ofNat ((l.length / 2 ^ 8) % 256)] ++ l)) rfl rfl rfl rfl rfl rfl Try.underlying22 inf_u8_5 rfl (by decide) (bcs_len1 rfl) (bcs_one _) (by decide) (show 3 + l.length ≤ 1000000 by omega) (by simp only [List.length_append, List.length_cons, List.length_nil] <;> omega) (bcs_append _ _) rfl rfl fun ad18 cp19 ac w hs => ?_))
          refine lstep (wpO_plain rfl (op_move hs none rfl rfl rfl rfl fun ac hs => ?_))
          refine lstep (wpO_plain rfl (op_bin hs none (v := .bool (decide (l.length ≤ 65535))) rfl rfl rfl rfl (fun _ => rfl) (bin_leqN (x := l.length) (y := 65535)) rfl fun ac hs => ?_))
          refine lstep (wpO_plain rfl (op_assign hs none rfl rfl rfl rfl fun ac hs => ?_))
          refine lstep (wpO_plain rfl (op_assign hs none rfl rfl rfl rfl fun ac hs => ?_))
          refine wpList_nil ?_
          refine then_n ?_
          refine wp_ret ?_
          refine blk_r ?_
          refine then_r ?_
          replace hs := hs.freeze 1 rfl
          exact bodyPost_ret (res2 rfl (rv_t hs rfl) (rv_t hs rfl)) hs.defers ⟨⟨ad18, cp19⟩, by rw [← hB, ← hQ, (layB_3 (p := l) (by omega)).1, (layB_3 (p := l) (by omega)).2]; first | done | rfl, hs.bel rfl, by rw [← hB, (layB_3 (p := l) (by omega)).1]; exact hs.ret1 1 rfl⟩
        · skip
          have hp20 := of_decide_eq_false hc
          refine wp_skip ?_
          refine blk_n ?_
          refine then_n ?_
          refine wp_seq ?_
          replace hs : St 64 ⟨w0, [], [(true, .cel (.slice ad l.length c) l.length (bcs l))], Z, noX⟩ [(1, true, .pointer (some ⟨g1, 0, none⟩)), (2, true, .slice none 0 0), (3, true, .bool false), (4, true, .int .i64 ((l.length : Nat) : Int))] [(true, g1, 25, [.int .u8 ((o : Nat) : Int), .slice ad l.length c])] ac _ := hs.re ⟨rfl, rfl, rfl, rfl, trivial⟩
          refine wp_region_lit ?_
          refine lstep (wpO_plain rfl (op_fieldA hs none rfl rfl rfl Try.underlying25 rfl Try.sizeOf5 (by decide) rfl fun ac hs => ?_))
          refine lstep (wpO_plain rfl (op_load hs none 0 (v := .int .u8 ((o : Nat) : Int)) rfl rfl rfl rfl Try.isAgg5 Try.sizeOf5 rfl rfl fun ac hs => ?_))
          refine lstep (wpO_plain rfl (op_bsO hs none none (qs := [(0, .int .u8 ((o : Nat) : Int))]) (cs := [.int .u8 ((o : Nat) : Int)]) (cs' := bcs [UInt8.ofNat o]) rfl rfl rfl rfl Try.underlying22 inf_u8_5 (by decide) (by decide) (fill_one _ _ rfl ) rfl (bcs_cons (show o < 256 by omega) rfl) rfl rfl fun ad22 ac w hs => ?_))
          refine lstep (wpO_plain rfl (op_move hs none rfl rfl rfl rfl fun ac hs => ?_))
          refine lstep (wpO_plain rfl (op_bin hs none (v := .bool (decide (l.length = 0))) rfl rfl rfl rfl (fun _ => rfl) (bin_eqlN (x := l.length) (y := 0)) rfl fun ac hs => ?_))
          refine lstep (wpO_plain rfl (op_assign hs none rfl rfl rfl rfl fun ac hs => ?_))
          refine lstep (wpO_plain rfl (op_assign hs none rfl rfl rfl rfl fun ac hs => ?_))
          refine wpList_nil ?_
          refine then_n ?_
          refine wp_ret ?_
          replace hs := hs.freeze 1 rfl
          exact bodyPost_ret (res2 rfl (rv_t hs rfl) (rv_t hs rfl)) hs.defers ⟨⟨ad22, 1⟩, by rw [← hB, ← hQ, (layB_4 (p := l) (by omega) (by omega) (by omega)).1, (layB_4 (p := l) (by omega) (by omega) (by omega)).2]; first | done | rfl, hs.bel rfl, by rw [← hB, (layB_4 (p := l) (by omega) (by omega) (by omega)).1]; exact hs.ret1 1 rfl⟩
  · skip
    replace hs : St 64 ⟨w0, [], [(true, .cel (.slice ad l.length c) l.length (bcs l))], Z, noX⟩ [(1, true, .pointer (some ⟨g1, 0, none⟩)), (2, true, .slice none 0 0), (3, true, .bool false), (4, true, .int .i64 ((l.length : Nat) : Int))] [(true, g1, 25, [.int .u8 ((o : Nat) : Int), .slice ad l.length c])] ac _ := hs.re ⟨rfl, rfl, rfl, rfl, trivial⟩
    refine wp_region_lit ?_
    refine lstep (wpO_plain rfl (op_fieldA hs none rfl rfl rfl Try.underlying25 rfl Try.sizeOf5 (by decide) rfl fun ac hs => ?_))
    refine lstep (wpO_plain rfl (op_load hs none 0 (v := .int .u8 ((o : Nat) : Int)) rfl rfl rfl rfl Try.isAgg5 Try.sizeOf5 rfl rfl fun ac hs => ?_))
    refine lstep (wpO_plain rfl (op_bin hs none (v := .bool false) rfl rfl rfl rfl (fun _ => rfl) (fun w => dF hq2 (bin_gtrN (x := o) (y := 0) w)) rfl fun ac hs => ?_))
    refine lstep (wpO_plain rfl (op_move hs none rfl rfl rfl rfl fun ac hs => ?_))
    refine lstep (wpO_out hs none rfl rfl (.inl rfl) rfl rfl fun ac hs => ?_)
    refine lstep (wpO_out hs none rfl rfl (.inl rfl) rfl rfl fun ac hs => ?_)
    refine lstep (wpO_out hs none rfl rfl (.inl rfl) rfl rfl fun ac hs => ?_)
    refine lstep (wpO_plain rfl (op_pickF hs none rfl rfl rfl rfl rfl fun ac hs => ?_))
    refine lstep (wpO_plain rfl (op_assign hs none rfl rfl rfl rfl fun ac hs => ?_))
    refine wpList_nil ?_
    refine then_n ?_
    refine wp_cond_false (hs.ev rfl) ?_
    refine wp_seq ?_
    replace hs : St 64 ⟨w0, [], [(true, .cel (.slice ad l.length c) l.length (bcs l))], Z, noX⟩ [(1, true, .pointer (some ⟨g1, 0, none⟩)), (2, true, .slice none 0 0), (3, true, .bool false), (4, true, .int .i64 ((l.length : Nat) : Int))] [(true, g1, 25, [.int .u8 ((o : Nat) : Int), .slice ad l.length c])] ac _ := hs.re ⟨rfl, rfl, rfl, rfl, trivial⟩
    refine wp_region_lit ?_
    refine lstep (wpO_plain rfl (op_fieldA hs none rfl rfl rfl Try.underlying25 rfl Try.sizeOf5 (by decide) rfl fun ac hs => ?_))
    refine lstep (wpO_plain rfl (op_load hs none 0 (v := .int .u8 ((o : Nat) : Int)) rfl rfl rfl rfl Try.isAgg5 Try.sizeOf5 rfl rfl fun ac hs => ?_))
    refine lstep (wpO_plain rfl (op_bin hs none (v := .bool (decide (o = 76))) rfl rfl rfl rfl (fun _ => rfl) (bin_eqlN (x := o) (y := 76)) rfl fun ac hs => ?_))
    refine lstep (wpO_plain rfl (op_assign hs none rfl rfl rfl rfl fun ac hs => ?_))
    refine wpList_nil ?_
    refine then_n ?_
    refine wp_cond_split (hs.ev rfl) (fun hc => ?_) (fun hc => ?_)
    · skip
      have hp23 := of_decide_eq_true hc
      refine wp_seq ?_
      refine wp_region_lit ?_
      refine lstep (wpO_plain rfl (op_fieldA hs none rfl rfl rfl Try.underlying25 rfl Try.sizeOf5 (by decide) rfl fun ac hs => ?_))
      refine lstep (wpO_plain rfl (op_load hs none 0 (v := .int .u8 ((o : Nat) : Int)) rfl rfl rfl rfl Try.isAgg5 Try.sizeOf5 rfl rfl fun ac hs => ?_))
      refine lstep (wpO_plain rfl (op_move hs none rfl rfl rfl rfl fun ac hs => ?_))
      refine lstep (wpO_plain rfl (op_convert hs none (v := .int .u8 ((l.length % 256 : Nat) : Int)) rfl rfl rfl (conv_M (z := l.length % 256) rfl Try.underlying3 Try.underlying5 rfl) rfl fun ac hs => ?_))
      refine lstep (wpO_plain rfl (op_bsO hs none none (qs := [(0, .int .u8 ((o : Nat) : Int)), (1, .int .u8 ((l.length % 256 : Nat) : Int))]) (cs := [.int .u8 ((o : Nat) : Int), .int .u8 ((l.length % 256 : Nat) : Int)]) (cs' := bcs [UInt8.ofNat o, UInt8.ofNat (l.length % 256)]) rfl rfl rfl rfl Try.underlying22 inf_u8_5 (by decide) (by decide) (fill_two _ _ _ rfl rfl ) rfl (bcs_cons (show o < 256 by omega) (bcs_cons (show l.length % 256 < 256 by omega) rfl)) rfl rfl fun ad25 ac w hs => ?_))
      refine lstep (wpO_plain rfl (op_fieldA hs none rfl rfl rfl Try.underlying25 rfl Try.sizeOf22 (by decide) rfl fun ac hs => ?_))
      refine lstep (wpO_plain rfl (op_load hs none 0 (v := .slice ad l.length c) rfl rfl rfl rfl Try.isAgg22 Try.sizeOf22 rfl rfl fun ac hs => ?_))
      refine lstep (wpO_plain rfl (op_appR hs none 1 0 (N' := ([UInt8.ofNat o, UInt8.ofNat (l.length % 256)] ++ l).length) (ys := bcs ([UInt8.ofNat o, UInt8.ofNat (l.length % 256)] ++ l)) rfl rfl rfl rfl rfl rfl Try.underlying22 inf_u8_5 rfl (by decide) (bcs_len1 rfl) (bcs_one _) (by decide) (show 2 + l.length ≤ 1000000 by omega) (by simp only [List.length_append, List.length_cons, List.length_nil] <;> omega) (bcs_append _ _) rfl rfl fun ad26 cp27 ac w hs => ?_))
      refine lstep (wpO_plain rfl (op_move hs none rfl rfl rfl rfl fun ac hs => ?_))
      refine lstep (wpO_plain rfl (op_bin hs none (v := .bool (decide (l.length ≤ 255))) rfl rfl rfl rfl (fun _ => rfl) (bin_leqN (x := l.length) (y := 255)) rfl fun ac hs => ?_))
      refine lstep (wpO_plain rfl (op_assign hs none rfl rfl rfl rfl fun ac hs => ?_))
      refine lstep (wpO_plain rfl (op_assign hs none rfl rfl rfl rfl fun ac hs => ?_))
      refine wpList_nil ?_
      refine then_n ?_
      refine wp_ret ?_
      refine blk_r ?_
      refine then_r ?_
      replace hs := hs.freeze 1 rfl
      exact bodyPost_ret (res2 rfl (rv_t hs rfl) (rv_t hs rfl)) hs.defers ⟨⟨ad26, cp27⟩, by rw [← hB, ← hQ, (layB_2 (p := l) (by omega)).1, (layB_2 (p := l) (by omega)).2]; first | done | rfl, hs.bel rfl, by rw [← hB, (layB_2 (p := l) (by omega)).1]; exact hs.ret1 1 rfl⟩
    · skip
      have hp28 := of_decide_eq_false hc
      refine wp_seq ?_
      refine wp_region_lit ?_
      refine lstep (wpO_plain rfl (op_fieldA hs none rfl rfl rfl Try.underlying25 rfl Try.sizeOf5 (by decide) rfl fun ac hs => ?_))
      refine lstep (wpO_plain rfl (op_load hs none 0 (v := .int .u8 ((o : Nat) : Int)) rfl rfl rfl rfl Try.isAgg5 Try.sizeOf5 rfl rfl fun ac hs => ?_))
      refine lstep (wpO_plain rfl (op_bin hs none (v := .bool (decide (o = 77))) rfl rfl rfl rfl (fun _ => rfl) (bin_eqlN (x := o) (y := 77)) rfl fun ac hs => ?_))
      refine lstep (wpO_plain rfl (op_assign hs none rfl rfl rfl rfl fun ac hs => ?_))
      refine wpList_nil ?_
      refine then_n ?_
      refine wp_cond_split (hs.ev rfl) (fun hc => ?_) (fun hc => ?_)
      · skip
        have hp29 := of_decide_eq_true hc
        refine wp_seq ?_
        replace hs : St 64 ⟨w0, [], [(true, .cel (.slice ad l.length c) l.length (bcs l))], Z, noX⟩ [(1, true, .pointer (some ⟨g1, 0, none⟩)), (2, true, .slice none 0 0), (3, true, .bool false), (4, true, .int .i64 ((l.length : Nat) : Int))] [(true, g1, 25, [.int .u8 ((o : Nat) : Int), .slice ad l.length c])] ac _ := hs.re ⟨rfl, rfl, rfl, rfl, trivial⟩
        refine wp_region_lit ?_
        refine lstep (wpO_plain rfl (op_fieldA hs none rfl rfl rfl Try.underlying25 rfl Try.sizeOf5 (by decide) rfl fun ac hs => ?_))
        refine lstep (wpO_plain rfl (op_load hs none 0 (v := .int .u8 ((o : Nat) : Int)) rfl rfl rfl rfl Try.isAgg5 Try.sizeOf5 rfl rfl fun ac hs => ?_))
        refine lstep (wpO_plain rfl (op_move hs none rfl rfl rfl rfl fun ac hs => ?_))
        refine lstep (wpO_plain rfl (op_convert hs none (v := .int .u8 ((l.length % 256 : Nat) : Int)) rfl rfl rfl (conv_M (z := l.length % 256) rfl Try.underlying3 Try.underlying5 rfl) rfl fun ac hs => ?_))
        refine lstep (wpO_plain rfl (op_move hs none rfl rfl rfl rfl fun ac hs => ?_))
        refine lstep (wpO_plain rfl (op_bin hs none (v := .int .i64 ((l.length / 2 ^ 8 : Nat) : Int)) rfl rfl rfl rfl (fun _ => rfl) (bin_shrN (x := l.length) (y := 8) (z := l.length / 2 ^ 8) rfl (show l.length < 2 ^ 64 by omega)) rfl fun ac hs => ?_))
        refine lstep (wpO_plain rfl (op_convert hs none (v := .int .u8 (((l.length / 2 ^ 8) % 256 : Nat) : Int)) rfl rfl rfl (conv_M (z := (l.length / 2 ^ 8) % 256) rfl Try.underlying3 Try.underlying5 rfl) rfl fun ac hs => ?_))
        refine lstep (wpO_plain rfl (op_bsO hs none none (qs := [(0, .int .u8 ((o : Nat) : Int)), (1, .int .u8 ((l.length % 256 : Nat) : Int)), (2, .int .u8 (((l.length / 2 ^ 8) % 256 : Nat) : Int))]) (cs := [.int .u8 ((o : Nat) : Int), .int .u8 ((l.length % 256 : Nat) : Int), .int .u8 (((l.length / 2 ^ 8) % 256 : Nat) : Int)]) (cs' := bcs [UInt8.ofNat o, UInt8.ofNat (l.length % 256), UInt8.ofNat ((l.length / 2 ^ 8) % 256)]) rfl rfl rfl rfl Try.underlying22 inf_u8_5 (by decide) (by decide) (fill_three _ _ _ _ rfl rfl rfl ) rfl (bcs_cons (show o < 256 by omega) (bcs_cons (show l.length % 256 < 256 by omega) (bcs_cons (show (l.length / 2 ^ 8) % 256 < 256 by omega) rfl))) rfl rfl fun ad31 ac w hs => ?_))
        refine lstep (wpO_plain rfl (op_fieldA hs none rfl rfl rfl Try.underlying25 rfl Try.sizeOf22 (by decide) rfl fun ac hs => ?_))
        refine lstep (wpO_plain rfl (op_load hs none 0 (v := .slice ad l.length c) rfl rfl rfl rfl Try.isAgg22 Try.sizeOf22 rfl rfl fun ac hs => ?_))
        refine lstep (wpO_plain rfl (op_appR hs none 1 0 (N' := ([UInt8.ofNat o, UInt8.ofNat (l.length % 256), UInt8.ofNat ((l.length / 2 ^ 8) % 256)] ++ l).length) (ys := bcs ([UInt8.ofNat o, UInt8.ofNat (l.length % 256), UInt8.ofNat ((l.length / 2 ^ 8) % 256)] ++ l)) rfl rfl rfl rfl rfl rfl Try.underlying22 inf_u8_5 rfl (by decide) (bcs_len1 rfl) (bcs_one _) (by decide) (show 3 + l.length ≤ 1000000 by omega) (by simp only [List.length_append, List.length_cons, List.length_nil] <;> omega) (bcs_append _ _) rfl rfl fun ad32 cp33 ac w hs => ?_))
        refine lstep (wpO_plain rfl (op_move hs none rfl rfl rfl rfl fun ac hs => ?_))
        refine lstep (wpO_plain rfl (op_bin hs none (v := .bool (decide (l.length ≤ 65535))) rfl rfl rfl rfl (fun _ => rfl) (bin_leqN (x := l.length) (y := 65535)) rfl fun ac hs => ?_))
        refine lstep (wpO_plain rfl (op_assign hs none rfl rfl rfl rfl fun ac hs => ?_))
        refine lstep (wpO_plain rfl (op_assign hs none rfl rfl rfl rfl fun ac hs => ?_))
        refine wpList_nil ?_
        refine then_n ?_
        refine wp_ret ?_
        refine blk_r ?_
        refine then_r ?_
        replace hs := hs.freeze 1 rfl
        exact bodyPost_ret (res2 rfl (rv_t hs rfl) (rv_t hs rfl)) hs.defers ⟨⟨ad32, cp33⟩, by rw [← hB, ← hQ, (layB_3 (p := l) (by omega)).1, (layB_3 (p := l) (by omega)).2]; first | done | rfl, hs.bel rfl, by rw [← hB, (layB_3 (p := l) (by omega)).1]; exact hs.ret1 1 rfl⟩
      · skip
        have hp34 := of_decide_eq_false hc
        refine wp_skip ?_
        refine blk_n ?_
        refine then_n ?_
        refine wp_seq ?_
        replace hs : St 64 ⟨w0, [], [(true, .cel (.slice ad l.length c) l.length (bcs l))], Z, noX⟩ [(1, true, .pointer (some ⟨g1, 0, none⟩)), (2, true, .slice none 0 0), (3, true, .bool false), (4, true, .int .i64 ((l.length : Nat) : Int))] [(true, g1, 25, [.int .u8 ((o : Nat) : Int), .slice ad l.length c])] ac _ := hs.re ⟨rfl, rfl, rfl, rfl, trivial⟩
        refine wp_region_lit ?_
        refine lstep (wpO_plain rfl (op_fieldA hs none rfl rfl rfl Try.underlying25 rfl Try.sizeOf5 (by decide) rfl fun ac hs => ?_))
        refine lstep (wpO_plain rfl (op_load hs none 0 (v := .int .u8 ((o : Nat) : Int)) rfl rfl rfl rfl Try.isAgg5 Try.sizeOf5 rfl rfl fun ac hs => ?_))
        refine lstep (wpO_plain rfl (op_bsO hs none none (qs := [(0, .int .u8 ((o : Nat) : Int))]) (cs := [.int .u8 ((o : Nat) : Int)]) (cs' := bcs [UInt8.ofNat o]) rfl rfl rfl rfl Try.underlying22 inf_u8_5 (by decide) (by decide) (fill_one _ _ rfl ) rfl (bcs_cons (show o < 256 by omega) rfl) rfl rfl fun ad36 ac w hs => ?_))
        refine lstep (wpO_plain rfl (op_move hs none rfl rfl rfl rfl fun ac hs => ?_))
        refine lstep (wpO_plain rfl (op_bin hs none (v := .bool (decide (l.length = 0))) rfl rfl rfl rfl (fun _ => rfl) (bin_eqlN (x := l.length) (y := 0)) rfl fun ac hs => ?_))
        refine lstep (wpO_plain rfl (op_assign hs none rfl rfl rfl rfl fun ac hs => ?_))
        refine lstep (wpO_plain rfl (op_assign hs none rfl rfl rfl rfl fun ac hs => ?_))
        refine wpList_nil ?_
        refine then_n ?_
        refine wp_ret ?_
        replace hs := hs.freeze 1 rfl
        exact bodyPost_ret (res2 rfl (rv_t hs rfl) (rv_t hs rfl)) hs.defers ⟨⟨ad36, 1⟩, by rw [← hB, ← hQ, (layB_4 (p := l) (by omega) (by omega) (by omega)).1, (layB_4 (p := l) (by omega) (by omega) (by omega)).2]; first | done | rfl, hs.bel rfl, by rw [← hB, (layB_4 (p := l) (by omega) (by omega) (by omega)).1]; exact hs.ret1 1 rfl⟩
theorem may_c (o : Nat) (ad : Option Addr) (nl c : Nat) (l : List UInt8) (q : Bool) (ho : o < 256) (hlen : l.length ≤ 100000) (hQ : layQ o l = q) (w0 : World) (Z : Nat → Prop) (hl : ByV w0 Z (.slice ad nl c) l): Calls Try.prog 34 #[.agg #[.int .u8 ((o : Nat) : Int), .slice ad nl c]] w0 fun e w' => Ret w0 Z (ρ := Unit) (fun r => .bool q) (fun r => []) e w' := by
  obtain rfl := byv_len hl
  refine enterS (n := 35) (args := [.agg #[.int .u8 ((o : Nat) : Int), .slice ad l.length c]]) (S := [(true, .cel (.slice ad l.length c) l.length (bcs l))]) (Z := Z) Try.func34 rfl rfl (Nat.le_of_ble_eq_true rfl) (sokC hl sok0) rfl fun ac hs => ?_
  refine wp_seq ?_
  refine wp_region_lit ?_
  refine lstep (wpO_plain rfl (op_box hs none none (cs := [.int .u8 ((o : Nat) : Int), .slice ad l.length c]) rfl rfl rfl rfl rfl rfl fun g1 ac w hs => ?_))
  refine lstep (wpO_plain rfl (op_assign hs none rfl rfl rfl rfl fun ac hs => ?_))
  refine wpList_nil ?_
  refine then_n ?_
  refine wp_seq ?_
  refine wp_region_lit ?_
  refine lstep (wpO_plain rfl (op_fieldA hs none rfl rfl rfl Try.underlying25 rfl Try.sizeOf22 (by decide) rfl fun ac hs => ?_))
  refine lstep (wpO_plain rfl (op_load hs none 0 (v := .slice ad l.length c) rfl rfl rfl rfl Try.isAgg22 Try.sizeOf22 rfl rfl fun ac hs => ?_))
  refine lstep (wpO_plain rfl (op_blt hs none (v := .int .i64 ((l.length : Nat) : Int)) rfl rfl rfl (blt_len Try.underlying22) rfl fun ac hs => ?_))
  refine lstep (wpO_plain rfl (op_assign hs none rfl rfl rfl rfl fun ac hs => ?_))
  refine wpList_nil ?_
  refine then_n ?_
  refine wp_seq ?_
  refine wp_block ?_
  refine wp_seq ?_
  by_cases hq2 : 1 ≤ o
  · skip
    replace hs : St 35 ⟨w0, [], [(true, .cel (.slice ad l.length c) l.length (bcs l))], Z, noX⟩ [(1, true, .pointer (some ⟨g1, 0, none⟩)), (2, true, .bool false), (3, true, .int .i64 ((l.length : Nat) : Int))] [(true, g1, 25, [.int .u8 ((o : Nat) : Int), .slice ad l.length c])] ac _ := hs.re ⟨rfl, rfl, rfl, trivial⟩
    refine wp_region_lit ?_
    refine lstep (wpO_plain rfl (op_fieldA hs none rfl rfl rfl Try.underlying25 rfl Try.sizeOf5 (by decide) rfl fun ac hs => ?_))
    refine lstep (wpO_plain rfl (op_load hs none 0 (v := .int .u8 ((o : Nat) : Int)) rfl rfl rfl rfl Try.isAgg5 Try.sizeOf5 rfl rfl fun ac hs => ?_))
    refine lstep (wpO_plain rfl (op_bin hs none (v := .bool true) rfl rfl rfl rfl (fun _ => rfl) (fun w => dT hq2 (bin_geqN (x := o) (y := 1) w)) rfl fun ac hs => ?_))
    refine lstep (wpO_plain rfl (op_move hs none rfl rfl rfl rfl fun ac hs => ?_))
    refine lstep (wpO_in hs rfl rfl rfl (op_fieldA hs none rfl rfl rfl Try.underlying25 rfl Try.sizeOf5 (by decide) rfl fun ac hs => ?_))
    refine lstep (wpO_in hs rfl rfl rfl (op_load hs none 0 (v := .int .u8 ((o : Nat) : Int)) rfl rfl rfl rfl Try.isAgg5 Try.sizeOf5 rfl rfl fun ac hs => ?_))
    refine lstep (wpO_in hs rfl rfl rfl (op_bin hs none (v := .bool (decide (o ≤ 75))) rfl rfl rfl rfl (fun _ => rfl) (bin_leqN (x := o) (y := 75)) rfl fun ac hs => ?_))
    refine lstep (wpO_plain rfl (op_pickT hs none rfl rfl rfl rfl rfl fun ac hs => ?_))
    refine lstep (wpO_plain rfl (op_assign hs none rfl rfl rfl rfl fun ac hs => ?_))
    refine wpList_nil ?_
    refine then_n ?_
    refine wp_cond_split (hs.ev rfl) (fun hc => ?_) (fun hc => ?_)
    · skip
      have hp3 := of_decide_eq_true hc
      refine wp_seq ?_
      replace hs : St 35 ⟨w0, [], [(true, .cel (.slice ad l.length c) l.length (bcs l))], Z, noX⟩ [(1, true, .pointer (some ⟨g1, 0, none⟩)), (2, true, .bool false), (3, true, .int .i64 ((l.length : Nat) : Int))] [(true, g1, 25, [.int .u8 ((o : Nat) : Int), .slice ad l.length c])] ac _ := hs.re ⟨rfl, rfl, rfl, trivial⟩
      refine wp_region_lit ?_
      refine lstep (wpO_plain rfl (op_move hs none rfl rfl rfl rfl fun ac hs => ?_))
      refine lstep (wpO_plain rfl (op_fieldA hs none rfl rfl rfl Try.underlying25 rfl Try.sizeOf5 (by decide) rfl fun ac hs => ?_))
      refine lstep (wpO_plain rfl (op_load hs none 0 (v := .int .u8 ((o : Nat) : Int)) rfl rfl rfl rfl Try.isAgg5 Try.sizeOf5 rfl rfl fun ac hs => ?_))
      refine lstep (wpO_plain rfl (op_convert hs none (v := .int .i64 ((o : Nat) : Int)) rfl rfl rfl (conv_N Try.underlying5 Try.underlying3 (show o < 9223372036854775808 by omega)) rfl fun ac hs => ?_))
      refine lstep (wpO_plain rfl (op_bin hs none (v := .bool (decide (l.length = o))) rfl rfl rfl rfl (fun _ => rfl) (bin_eqlN (x := l.length) (y := o)) rfl fun ac hs => ?_))
      refine lstep (wpO_plain rfl (op_assign hs none rfl rfl rfl rfl fun ac hs => ?_))
      refine wpList_nil ?_
      refine then_n ?_
      refine wp_ret ?_
      refine blk_r ?_
      refine then_r ?_
      exact bodyPost_ret (res1 rfl (rv_t hs rfl)) hs.defers ⟨(), by rw [← hQ, (show layQ o l = _ from (layB_1 (p := l) (by omega) (by omega)).2)], hs.bel rfl, okl0⟩
    · skip
      have hp4 := of_decide_eq_false hc
      refine wp_seq ?_
      replace hs : St 35 ⟨w0, [], [(true, .cel (.slice ad l.length c) l.length (bcs l))], Z, noX⟩ [(1, true, .pointer (some ⟨g1, 0, none⟩)), (2, true, .bool false), (3, true, .int .i64 ((l.length : Nat) : Int))] [(true, g1, 25, [.int .u8 ((o : Nat) : Int), .slice ad l.length c])] ac _ := hs.re ⟨rfl, rfl, rfl, trivial⟩
      refine wp_region_lit ?_
      refine lstep (wpO_plain rfl (op_fieldA hs none rfl rfl rfl Try.underlying25 rfl Try.sizeOf5 (by decide) rfl fun ac hs => ?_))
      refine lstep (wpO_plain rfl (op_load hs none 0 (v := .int .u8 ((o : Nat) : Int)) rfl rfl rfl rfl Try.isAgg5 Try.sizeOf5 rfl rfl fun ac hs => ?_))
      refine lstep (wpO_plain rfl (op_bin hs none (v := .bool (decide (o = 76))) rfl rfl rfl rfl (fun _ => rfl) (bin_eqlN (x := o) (y := 76)) rfl fun ac hs => ?_))
      refine lstep (wpO_plain rfl (op_assign hs none rfl rfl rfl rfl fun ac hs => ?_))
      refine wpList_nil ?_
      refine then_n ?_
      refine wp_cond_split (hs.ev rfl) (fun hc => ?_) (fun hc => ?_)
      · skip
        have hp5 := of_decide_eq_true hc
        refine wp_seq ?_
        refine wp_region_lit ?_
        refine lstep (wpO_plain rfl (op_move hs none rfl rfl rfl rfl fun ac hs => ?_))
        refine lstep (wpO_plain rfl (op_bin hs none (v := .bool (decide (l.length ≤ 255))) rfl rfl rfl rfl (fun _ => rfl) (bin_leqN (x := l.length) (y := 255)) rfl fun ac hs => ?_))
        refine lstep (wpO_plain rfl (op_assign hs none rfl rfl rfl rfl fun ac hs => ?_))
        refine wpList_nil ?_
        refine then_n ?_
        refine wp_ret ?_
        refine blk_r ?_
        refine then_r ?_
        exact bodyPost_ret (res1 rfl (rv_t hs rfl)) hs.defers ⟨(), by rw [← hQ, (show layQ o l = _ from (layB_2 (p := l) (by omega)).2)], hs.bel rfl, okl0⟩
      · skip
        have hp6 := of_decide_eq_false hc
        refine wp_seq ?_
        refine wp_region_lit ?_
        refine lstep (wpO_plain rfl (op_fieldA hs none rfl rfl rfl Try.underlying25 rfl Try.sizeOf5 (by decide) rfl fun ac hs => ?_))
        refine lstep (wpO_plain rfl (op_load hs none 0 (v := .int .u8 ((o : Nat) : Int)) rfl rfl rfl rfl Try.isAgg5 Try.sizeOf5 rfl rfl fun ac hs => ?_))
        refine lstep (wpO_plain rfl (op_bin hs none (v := .bool (decide (o = 77))) rfl rfl rfl rfl (fun _ => rfl) (bin_eqlN (x := o) (y := 77)) rfl fun ac hs => ?_))
        refine lstep (wpO_plain rfl (op_assign hs none rfl rfl rfl rfl fun ac hs => ?_))
        refine wpList_nil ?_
        refine then_n ?_
        refine wp_cond_split (hs.ev rfl) (fun hc => ?_) (fun hc => ?_)
        · skip
          have hp7 := of_decide_eq_true hc
          refine wp_seq ?_
          replace hs : St 35 ⟨w0, [], [(true, .cel (.slice ad l.length c) l.length (bcs l))], Z, noX⟩ [(2, true, .bool false), (3, true, .int .i64 ((l.length : Nat) : Int))] [(true, g1, 25, [.int .u8 ((o : Nat) : Int), .slice ad l.length c])] ac _ := hs.re ⟨rfl, rfl, trivial⟩
          refine wp_region_lit ?_
          refine lstep (wpO_plain rfl (op_move hs none rfl rfl rfl rfl fun ac hs => ?_))
          refine lstep (wpO_plain rfl (op_bin hs none (v := .bool (decide (l.length ≤ 65535))) rfl rfl rfl rfl (fun _ => rfl) (bin_leqN (x := l.length) (y := 65535)) rfl fun ac hs => ?_))
          refine lstep (wpO_plain rfl (op_assign hs none rfl rfl rfl rfl fun ac hs => ?_))
          refine wpList_nil ?_
          refine then_n ?_
          refine wp_ret ?_
          refine blk_r ?_
          refine then_r ?_
          exact bodyPost_ret (res1 rfl (rv_t hs rfl)) hs.defers ⟨(), by rw [← hQ, (show layQ o l = _ from (layB_3 (p := l) (by omega)).2)], hs.bel rfl, okl0⟩
        · skip
          have hp8 := of_decide_eq_false hc
          refine wp_skip ?_
          refine blk_n ?_
          refine then_n ?_
          refine wp_seq ?_
          replace hs : St 35 ⟨w0, [], [(true, .cel (.slice ad l.length c) l.length (bcs l))], Z, noX⟩ [(2, true, .bool false), (3, true, .int .i64 ((l.length : Nat) : Int))] [(true, g1, 25, [.int .u8 ((o : Nat) : Int), .slice ad l.length c])] ac _ := hs.re ⟨rfl, rfl, trivial⟩
          refine wp_region_lit ?_
          refine lstep (wpO_plain rfl (op_move hs none rfl rfl rfl rfl fun ac hs => ?_))
          refine lstep (wpO_plain rfl (op_bin hs none (v := .bool (decide (l.length = 0))) rfl rfl rfl rfl (fun _ => rfl) (bin_eqlN (x := l.length) (y := 0)) rfl fun ac hs => ?_))
          refine lstep (wpO_plain rfl (op_assign hs none rfl rfl rfl rfl fun ac hs => ?_))
          refine wpList_nil ?_
          refine then_n ?_
          refine wp_ret ?_
          exact bodyPost_ret (res1 rfl (rv_t hs rfl)) hs.defers ⟨(), by rw [← hQ, (show layQ o l = _ from (layB_4 (p := l) (by omega) (by omega) (by omega)).2)], hs.bel rfl, okl0⟩
  · skip
    replace hs : St 35 ⟨w0, [], [(true, .cel (.slice ad l.length c) l.length (bcs l))], Z, noX⟩ [(1, true, .pointer (some ⟨g1, 0, none⟩)), (2, true, .bool false), (3, true, .int .i64 ((l.length : Nat) : Int))] [(true, g1, 25, [.int .u8 ((o : Nat) : Int), .slice ad l.length c])] ac _ := hs.re ⟨rfl, rfl, rfl, trivial⟩
    refine wp_region_lit ?_
    refine lstep (wpO_plain rfl (op_fieldA hs none rfl rfl rfl Try.underlying25 rfl Try.sizeOf5 (by decide) rfl fun ac hs => ?_))
    refine lstep (wpO_plain rfl (op_load hs none 0 (v := .int .u8 ((o : Nat) : Int)) rfl rfl rfl rfl Try.isAgg5 Try.sizeOf5 rfl rfl fun ac hs => ?_))
    refine lstep (wpO_plain rfl (op_bin hs none (v := .bool false) rfl rfl rfl rfl (fun _ => rfl) (fun w => dF hq2 (bin_geqN (x := o) (y := 1) w)) rfl fun ac hs => ?_))
    refine lstep (wpO_plain rfl (op_move hs none rfl rfl rfl rfl fun ac hs => ?_))
    refine lstep (wpO_out hs none rfl rfl (.inl rfl) rfl rfl fun ac hs => ?_)
    refine lstep (wpO_out hs none rfl rfl (.inl rfl) rfl rfl fun ac hs => ?_)
    refine lstep (wpO_out hs none rfl rfl (.inl rfl) rfl rfl fun ac hs => ?_)
    refine lstep (wpO_plain rfl (op_pickF hs none rfl rfl rfl rfl rfl fun ac hs => ?_))
    refine lstep (wpO_plain rfl (op_assign hs none rfl rfl rfl rfl fun ac hs => ?_))
    refine wpList_nil ?_
    refine then_n ?_
    refine wp_cond_false (hs.ev rfl) ?_
    refine wp_seq ?_
    replace hs : St 35 ⟨w0, [], [(true, .cel (.slice ad l.length c) l.length (bcs l))], Z, noX⟩ [(1, true, .pointer (some ⟨g1, 0, none⟩)), (2, true, .bool false), (3, true, .int .i64 ((l.length : Nat) : Int))] [(true, g1, 25, [.int .u8 ((o : Nat) : Int), .slice ad l.length c])] ac _ := hs.re ⟨rfl, rfl, rfl, trivial⟩
    refine wp_region_lit ?_
    refine lstep (wpO_plain rfl (op_fieldA hs none rfl rfl rfl Try.underlying25 rfl Try.sizeOf5 (by decide) rfl fun ac hs => ?_))
    refine lstep (wpO_plain rfl (op_load hs none 0 (v := .int .u8 ((o : Nat) : Int)) rfl rfl rfl rfl Try.isAgg5 Try.sizeOf5 rfl rfl fun ac hs => ?_))
    refine lstep (wpO_plain rfl (op_bin hs none (v := .bool (decide (o = 76))) rfl rfl rfl rfl (fun _ => rfl) (bin_eqlN (x := o) (y := 76)) rfl fun ac hs => ?_))
    refine lstep (wpO_plain rfl (op_assign hs none rfl rfl rfl rfl fun ac hs => ?_))
    refine wpList_nil ?_
    refine then_n ?_
    refine wp_cond_split (hs.ev rfl) (fun hc => ?_) (fun hc => ?_)
    · skip
      have hp9 := of_decide_eq_true hc
      refine wp_seq ?_
      refine wp_region_lit ?_
      refine lstep (wpO_plain rfl (op_move hs none rfl rfl rfl rfl fun ac hs => ?_))
      refine lstep (wpO_plain rfl (op_bin hs none (v := .bool (decide (l.length ≤ 255))) rfl rfl rfl rfl (fun _ => rfl) (bin_leqN (x := l.length) (y := 255)) rfl fun ac hs => ?_))
      refine lstep (wpO_plain rfl (op_assign hs none rfl rfl rfl rfl fun ac hs => ?_))
      refine wpList_nil ?_
      refine then_n ?_
      refine wp_ret ?_
      refine blk_r ?_
      refine then_r ?_
      exact bodyPost_ret (res1 rfl (rv_t hs rfl)) hs.defers ⟨(), by rw [← hQ, (show layQ o l = _ from (layB_2 (p := l) (by omega)).2)], hs.bel rfl, okl0⟩
    · skip
      have hp10 := of_decide_eq_false hc
      refine wp_seq ?_
      refine wp_region_lit ?_
      refine lstep (wpO_plain rfl (op_fieldA hs none rfl rfl rfl Try.underlying25 rfl Try.sizeOf5 (by decide) rfl fun ac hs => ?_))
      refine lstep (wpO_plain rfl (op_load hs none 0 (v := .int .u8 ((o : Nat) : Int)) rfl rfl rfl rfl Try.isAgg5 Try.sizeOf5 rfl rfl fun ac hs => ?_))
      refine lstep (wpO_plain rfl (op_bin hs none (v := .bool (decide (o = 77))) rfl rfl rfl rfl (fun _ => rfl) (bin_eqlN (x := o) (y := 77)) rfl fun ac hs => ?_))
      refine lstep (wpO_plain rfl (op_assign hs none rfl rfl rfl rfl fun ac hs => ?_))
      refine wpList_nil ?_
      refine then_n ?_
      refine wp_cond_split (hs.ev rfl) (fun hc => ?_) (fun hc => ?_)
      · skip
        have hp11 := of_decide_eq_true hc
        refine wp_seq ?_
        replace hs : St 35 ⟨w0, [], [(true, .cel (.slice ad l.length c) l.length (bcs l))], Z, noX⟩ [(2, true, .bool false), (3, true, .int .i64 ((l.length : Nat) : Int))] [(true, g1, 25, [.int .u8 ((o : Nat) : Int), .slice ad l.length c])] ac _ := hs.re ⟨rfl, rfl, trivial⟩
        refine wp_region_lit ?_
        refine lstep (wpO_plain rfl (op_move hs none rfl rfl rfl rfl fun ac hs => ?_))
        refine lstep (wpO_plain rfl (op_bin hs none (v := .bool (decide (l.length ≤ 65535))) rfl rfl rfl rfl (fun _ => rfl) (bin_leqN (x := l.length) (y := 65535)) rfl fun ac hs => ?_))
        refine lstep (wpO_plain rfl (op_assign hs none rfl rfl rfl rfl fun ac hs => ?_))
        refine wpList_nil ?_
        refine then_n ?_
        refine wp_ret ?_
        refine blk_r ?_
        refine then_r ?_
        exact bodyPost_ret (res1 rfl (rv_t hs rfl)) hs.defers ⟨(), by rw [← hQ, (show layQ o l = _ from (layB_3 (p := l) (by omega)).2)], hs.bel rfl, okl0⟩
      · skip
        have hp12 := of_decide_eq_false hc
        refine wp_skip ?_
        refine blk_n ?_
        refine then_n ?_
        refine wp_seq ?_
        replace hs : St 35 ⟨w0, [], [(true, .cel (.slice ad l.length c) l.length (bcs l))], Z, noX⟩ [(2, true, .bool false), (3, true, .int .i64 ((l.length : Nat) : Int))] [(true, g1, 25, [.int .u8 ((o : Nat) : Int), .slice ad l.length c])] ac _ := hs.re ⟨rfl, rfl, trivial⟩
        refine wp_region_lit ?_
        refine lstep (wpO_plain rfl (op_move hs none rfl rfl rfl rfl fun ac hs => ?_))
        refine lstep (wpO_plain rfl (op_bin hs none (v := .bool (decide (l.length = 0))) rfl rfl rfl rfl (fun _ => rfl) (bin_eqlN (x := l.length) (y := 0)) rfl fun ac hs => ?_))
        refine lstep (wpO_plain rfl (op_assign hs none rfl rfl rfl rfl fun ac hs => ?_))
        refine wpList_nil ?_
        refine then_n ?_
        refine wp_ret ?_
        exact bodyPost_ret (res1 rfl (rv_t hs rfl)) hs.defers ⟨(), by rw [← hQ, (show layQ o l = _ from (layB_4 (p := l) (by omega) (by omega) (by omega)).2)], hs.bel rfl, okl0⟩
theorem push_c (ad : Option Addr) (nl c : Nat) (l : List UInt8) (o : Nat) (p : List UInt8) (hlen : l.length ≤ 100000) (hW : pushW l = (o, p)) (w0 : World) (Z : Nat → Prop) (hl : ByV w0 Z (.slice ad nl c) l): Calls Try.prog 18 #[.slice ad nl c] w0 fun e w' => Ret w0 Z (ρ := Option Addr × Nat) (fun r => .agg #[.int .u8 ((o : Nat) : Int), .slice r.1 p.length r.2]) (fun r => [.cel (.slice r.1 p.length r.2) p.length (bcs p)]) e w' := by
  obtain rfl := byv_len hl
  refine enterS (n := 42) (args := [.slice ad l.length c]) (S := [(true, .cel (.slice ad l.length c) l.length (bcs l))]) (Z := Z) Try.func18 rfl rfl (Nat.le_of_ble_eq_true rfl) (sokC hl sok0) rfl fun ac hs => ?_
  refine wp_seq ?_
  refine wp_region_lit ?_
  refine lstep (wpO_plain rfl (op_alloc hs none none (cs := [.int .u8 0, .slice none 0 0]) rfl rfl Try.zeroValue25 (by kernel_rfl) rfl rfl fun g1 ac w hs => ?_))
  refine wpList_nil ?_
  refine then_n ?_
  refine wp_seq ?_
  refine wp_seq ?_
  refine wp_region_lit ?_
  refine lstep (wpO_plain rfl (op_move hs none rfl rfl rfl rfl fun ac hs => ?_))
  refine lstep (wpO_plain rfl (op_blt hs none (v := .int .i64 ((l.length : Nat) : Int)) rfl rfl rfl (blt_len Try.underlying22) rfl fun ac hs => ?_))
  refine lstep (wpO_plain rfl (op_bin hs none (v := .bool (decide (l.length = 1))) rfl rfl rfl rfl (fun _ => rfl) (bin_eqlN (x := l.length) (y := 1)) rfl fun ac hs => ?_))
  refine wpList_nil ?_
  refine then_n ?_
  refine wp_cond_split (hs.ev rfl) (fun hc => ?_) (fun hc => ?_)
  · skip
    have hp2 := of_decide_eq_true hc
    refine wp_seq ?_
    refine wp_region_lit ?_
    refine lstep (wpO_plain rfl (op_move hs none rfl rfl rfl rfl fun ac hs => ?_))
    refine lstep (wpO_plain rfl (op_idxC hs none 0 (j := 0) rfl rfl rfl rfl rfl Try.underlying22 Try.sizeOf5 (show 0 < l.length by omega) (off := 0) (by omega) rfl fun ac hs => ?_))
    have l3 := byt_lt l 0
    refine lstep (wpO_plain rfl (op_loadC hs none 0 (u := .int .u8 ((byt l 0 : Nat) : Int)) rfl rfl rfl rfl Try.isAgg5 Try.sizeOf5 (by decide) (bcs_get (show 0 < l.length by omega)) rfl fun ac hs => ?_))
    refine lstep (wpO_plain rfl (op_assign hs none rfl rfl rfl rfl fun ac hs => ?_))
    refine wpList_nil ?_
    refine then_n ?_
    refine wp_block ?_
    refine wp_seq ?_
    by_cases hq4 : 1 ≤ byt l 0
    · skip
      replace hs : St 42 ⟨w0, [], [(true, .cel (.slice ad l.length c) l.length (bcs l))], Z, noX⟩ [(0, true, .slice ad l.length c), (2, true, .pointer (some ⟨g1, 0, none⟩)), (3, true, .int .u8 ((byt l 0 : Nat) : Int))] [(true, g1, 25, [.int .u8 0, .slice none 0 0])] ac _ := hs.re ⟨rfl, rfl, rfl, trivial⟩
      refine wp_region_lit ?_
      refine lstep (wpO_plain rfl (op_move hs none rfl rfl rfl rfl fun ac hs => ?_))
      refine lstep (wpO_plain rfl (op_bin hs none (v := .bool true) rfl rfl rfl rfl (fun _ => rfl) (fun w => dT hq4 (bin_geqN (x := byt l 0) (y := 1) w)) rfl fun ac hs => ?_))
      refine lstep (wpO_plain rfl (op_move hs none rfl rfl rfl rfl fun ac hs => ?_))
      refine lstep (wpO_in hs rfl rfl rfl (op_move hs none rfl rfl rfl rfl fun ac hs => ?_))
      refine lstep (wpO_in hs rfl rfl rfl (op_bin hs none (v := .bool (decide (byt l 0 ≤ 16))) rfl rfl rfl rfl (fun _ => rfl) (bin_leqN (x := byt l 0) (y := 16)) rfl fun ac hs => ?_))
      refine lstep (wpO_plain rfl (op_pickT hs none rfl rfl rfl rfl rfl fun ac hs => ?_))
      refine lstep (wpO_plain rfl (op_assign hs none rfl rfl rfl rfl fun ac hs => ?_))
      refine wpList_nil ?_
      refine then_n ?_
      refine wp_cond_split (hs.ev rfl) (fun hc => ?_) (fun hc => ?_)
      · skip
        have hp5 := of_decide_eq_true hc
        refine wp_seq ?_
        replace hs : St 42 ⟨w0, [], [(true, .cel (.slice ad l.length c) l.length (bcs l))], Z, noX⟩ [(0, true, .slice ad l.length c), (2, true, .pointer (some ⟨g1, 0, none⟩)), (3, true, .int .u8 ((byt l 0 : Nat) : Int))] [(true, g1, 25, [.int .u8 0, .slice none 0 0])] ac _ := hs.re ⟨rfl, rfl, rfl, trivial⟩
        refine wp_region_lit ?_
        refine lstep (wpO_plain rfl (op_move hs none rfl rfl rfl rfl fun ac hs => ?_))
        refine lstep (wpO_plain rfl (op_bin hs none (v := .int .u8 ((80 + (byt l 0) : Nat) : Int)) rfl rfl rfl rfl (fun _ => rfl) (bin_addN (x := 80) (y := byt l 0) (z := 80 + (byt l 0)) rfl (show 80 + (byt l 0) < 256 by omega)) rfl fun ac hs => ?_))
        refine lstep (wpO_plain rfl (op_build hs none (qs := [(0, .int .u8 ((80 + (byt l 0) : Nat) : Int))]) (v := .agg #[.int .u8 ((80 + (byt l 0) : Nat) : Int), .slice none 0 0]) rfl rfl rfl rfl (fun _ => by kernel_rfl) rfl fun ac hs => ?_))
        refine lstep (wpO_plain rfl (op_store hs 0 (vs := [.int .u8 ((80 + (byt l 0) : Nat) : Int), .slice none 0 0]) rfl rfl rfl rfl rfl Try.sizeOf25 rfl rfl rfl rfl rfl fun w hs => ?_))
        refine wpList_nil ?_
        refine then_n ?_
        refine wp_ret ?_
        refine blk_r ?_
        refine then_r ?_
        exact bodyPost_ret (res1 rfl (rv_c hs 0 (v := .agg #[.int .u8 ((80 + (byt l 0) : Nat) : Int), .slice none 0 0]) rfl rfl Try.isAgg25 Try.sizeOf25 rfl)) hs.defers ⟨⟨none, 0⟩, by obtain ⟨rfl, rfl⟩ := Prod.mk.inj ((pushW_1 (by omega) (by omega) (by omega)).symm.trans hW); rfl, hs.bel rfl, by obtain ⟨rfl, rfl⟩ := Prod.mk.inj ((pushW_1 (by omega) (by omega) (by omega)).symm.trans hW); exact okl1 celv_nil⟩
      · skip
        have hp6 := of_decide_eq_false hc
        refine wp_seq ?_
        replace hs : St 42 ⟨w0, [], [(true, .cel (.slice ad l.length c) l.length (bcs l))], Z, noX⟩ [(0, true, .slice ad l.length c), (2, true, .pointer (some ⟨g1, 0, none⟩)), (3, true, .int .u8 ((byt l 0 : Nat) : Int))] [(true, g1, 25, [.int .u8 0, .slice none 0 0])] ac _ := hs.re ⟨rfl, rfl, rfl, trivial⟩
        refine wp_region_lit ?_
        refine lstep (wpO_plain rfl (op_move hs none rfl rfl rfl rfl fun ac hs => ?_))
        refine lstep (wpO_plain rfl (op_bin hs none (v := .bool (decide (byt l 0 = 129))) rfl rfl rfl rfl (fun _ => rfl) (bin_eqlN (x := byt l 0) (y := 129)) rfl fun ac hs => ?_))
        refine lstep (wpO_plain rfl (op_assign hs none rfl rfl rfl rfl fun ac hs => ?_))
        refine wpList_nil ?_
        refine then_n ?_
        refine wp_cond_split (hs.ev rfl) (fun hc => ?_) (fun hc => ?_)
        · skip
          have hp7 := of_decide_eq_true hc
          refine wp_seq ?_
          refine wp_region_lit ?_
          refine lstep (wpO_plain rfl (op_build hs none (qs := [(0, .int .u8 79)]) (v := .agg #[.int .u8 79, .slice none 0 0]) rfl rfl rfl rfl (fun _ => by kernel_rfl) rfl fun ac hs => ?_))
          refine lstep (wpO_plain rfl (op_store hs 0 (vs := [.int .u8 79, .slice none 0 0]) rfl rfl rfl rfl rfl Try.sizeOf25 rfl rfl rfl rfl rfl fun w hs => ?_))
          refine wpList_nil ?_
          refine then_n ?_
          refine wp_ret ?_
          refine blk_r ?_
          refine then_r ?_
          exact bodyPost_ret (res1 rfl (rv_c hs 0 (v := .agg #[.int .u8 79, .slice none 0 0]) rfl rfl Try.isAgg25 Try.sizeOf25 rfl)) hs.defers ⟨⟨none, 0⟩, by obtain ⟨rfl, rfl⟩ := Prod.mk.inj ((pushW_2 (by omega) (by omega)).symm.trans hW); rfl, hs.bel rfl, by obtain ⟨rfl, rfl⟩ := Prod.mk.inj ((pushW_2 (by omega) (by omega)).symm.trans hW); exact okl1 celv_nil⟩
        · skip
          have hp8 := of_decide_eq_false hc
          refine wp_skip ?_
          refine blk_n ?_
          refine then_n ?_
          refine wp_seq ?_
          refine wp_region_lit ?_
          refine lstep (wpO_plain rfl (op_move hs none rfl rfl rfl rfl fun ac hs => ?_))
          refine lstep (wpO_plain rfl (op_callS (F := 28) (ρ := Option Addr × Nat) hs none none (v := fun r => .slice r.1 l.length r.2) (E := fun r => [.cel (.slice r.1 l.length r.2) l.length (bcs l)]) (j := 1) rfl rfl rfl rfl (Try.call28 _) (fun hs => clone_c ad l.length c l (show l.length ≤ 100000 by omega) _ _ (hs.all (k := 0) rfl rfl)) (fun _ => rfl) rfl rfl fun ⟨ad9, cp10⟩ ac w hs => ?_))
          refine lstep (wpO_plain rfl (op_build hs none (qs := [(0, .int .u8 77), (1, .slice ad9 l.length cp10)]) (v := .agg #[.int .u8 77, .slice ad9 l.length cp10]) rfl rfl rfl rfl (fun _ => by kernel_rfl) rfl fun ac hs => ?_))
          refine lstep (wpO_plain rfl (op_alloc hs none none (cs := [.int .u8 0, .slice none 0 0]) rfl rfl Try.zeroValue25 (by kernel_rfl) rfl rfl fun g11 ac w hs => ?_))
          refine lstep (wpO_plain rfl (op_store hs 1 (vs := [.int .u8 77, .slice ad9 l.length cp10]) rfl rfl rfl rfl rfl Try.sizeOf25 rfl rfl rfl rfl rfl fun w hs => ?_))
          refine wpList_nil ?_
          refine then_n ?_
          refine wp_seq ?_
          refine wp_seq ?_
          replace hs : St 42 ⟨w0, [], [(true, .cel (.slice ad l.length c) l.length (bcs l)), (true, .cel (.slice ad9 l.length cp10) l.length (bcs l))], Z, noX⟩ [(0, true, .slice ad l.length c), (2, true, .pointer (some ⟨g1, 0, none⟩)), (4, true, .pointer (some ⟨g11, 0, none⟩))] [(true, g1, 25, [.int .u8 0, .slice none 0 0]), (true, g11, 25, [.int .u8 77, .slice ad9 l.length cp10])] ac _ := hs.re ⟨rfl, rfl, rfl, trivial⟩
          refine wp_region_lit ?_
          refine lstep (wpO_plain rfl (op_move hs none rfl rfl rfl rfl fun ac hs => ?_))
          refine lstep (wpO_plain rfl (op_blt hs none (v := .int .i64 ((l.length : Nat) : Int)) rfl rfl rfl (blt_len Try.underlying22) rfl fun ac hs => ?_))
          refine lstep (wpO_plain rfl (op_assign hs none rfl rfl rfl rfl fun ac hs => ?_))
          refine wpList_nil ?_
          refine then_n ?_
          refine wp_block ?_
          refine wp_seq ?_
          refine wp_region_lit ?_
          refine lstep (wpO_plain rfl (op_move hs none rfl rfl rfl rfl fun ac hs => ?_))
          refine lstep (wpO_plain rfl (op_bin hs none (v := .bool (decide (l.length ≤ 75))) rfl rfl rfl rfl (fun _ => rfl) (bin_leqN (x := l.length) (y := 75)) rfl fun ac hs => ?_))
          refine lstep (wpO_plain rfl (op_assign hs none rfl rfl rfl rfl fun ac hs => ?_))
          refine wpList_nil ?_
          refine then_n ?_
          refine wp_cond_split (hs.ev rfl) (fun hc => ?_) (fun hc => ?_)
          · skip
            have hp12 := of_decide_eq_true hc
            replace hs : St 42 ⟨w0, [], [(true, .cel (.slice ad l.length c) l.length (bcs l)), (true, .cel (.slice ad9 l.length cp10) l.length (bcs l))], Z, noX⟩ [(2, true, .pointer (some ⟨g1, 0, none⟩)), (4, true, .pointer (some ⟨g11, 0, none⟩)), (5, true, .int .i64 ((l.length : Nat) : Int))] [(true, g1, 25, [.int .u8 0, .slice none 0 0]), (true, g11, 25, [.int .u8 77, .slice ad9 l.length cp10])] ac _ := hs.re ⟨rfl, rfl, rfl, trivial⟩
            refine wp_region_lit ?_
            refine lstep (wpO_plain rfl (op_move hs none rfl rfl rfl rfl fun ac hs => ?_))
            refine lstep (wpO_plain rfl (op_convert hs none (v := .int .u8 ((l.length % 256 : Nat) : Int)) rfl rfl rfl (conv_M (z := l.length % 256) rfl Try.underlying3 Try.underlying5 rfl) rfl fun ac hs => ?_))
            refine lstep (wpO_plain rfl (op_fieldA hs none rfl rfl rfl Try.underlying25 rfl Try.sizeOf5 (by decide) rfl fun ac hs => ?_))
            refine lstep (wpO_plain rfl (op_store hs 1 (vs := [.int .u8 ((l.length % 256 : Nat) : Int)]) rfl rfl rfl rfl rfl Try.sizeOf5 rfl rfl rfl rfl rfl fun w hs => ?_))
            refine wpList_nil ?_
            refine blk_n ?_
            refine then_n ?_
            refine wp_seq ?_
            refine wp_region_lit ?_
            refine lstep (wpO_plain rfl (op_load hs none 1 (v := .agg #[.int .u8 ((l.length % 256 : Nat) : Int), .slice ad9 l.length cp10]) rfl rfl rfl rfl Try.isAgg25 Try.sizeOf25 rfl rfl fun ac hs => ?_))
            refine lstep (wpO_plain rfl (op_store hs 0 (vs := [.int .u8 ((l.length % 256 : Nat) : Int), .slice ad9 l.length cp10]) rfl rfl rfl rfl rfl Try.sizeOf25 rfl rfl rfl rfl rfl fun w hs => ?_))
            refine wpList_nil ?_
            refine then_n ?_
            refine wp_ret ?_
            exact bodyPost_ret (res1 rfl (rv_c hs 0 (v := .agg #[.int .u8 ((l.length % 256 : Nat) : Int), .slice ad9 l.length cp10]) rfl rfl Try.isAgg25 Try.sizeOf25 rfl)) hs.defers ⟨⟨ad9, cp10⟩, by have hm : l.length % 256 = l.length := Nat.mod_eq_of_lt (by omega); obtain ⟨rfl, rfl⟩ := Prod.mk.inj ((pushW_a (by omega) (by omega) (by omega)).symm.trans hW); rw [hm], hs.bel rfl, by obtain ⟨rfl, rfl⟩ := Prod.mk.inj ((pushW_a (by omega) (by omega) (by omega)).symm.trans hW); exact hs.ret1 1 rfl⟩
          · skip
            have hp13 := of_decide_eq_false hc
            refine wp_seq ?_
            replace hs : St 42 ⟨w0, [], [(true, .cel (.slice ad l.length c) l.length (bcs l)), (true, .cel (.slice ad9 l.length cp10) l.length (bcs l))], Z, noX⟩ [(2, true, .pointer (some ⟨g1, 0, none⟩)), (4, true, .pointer (some ⟨g11, 0, none⟩)), (5, true, .int .i64 ((l.length : Nat) : Int))] [(true, g1, 25, [.int .u8 0, .slice none 0 0]), (true, g11, 25, [.int .u8 77, .slice ad9 l.length cp10])] ac _ := hs.re ⟨rfl, rfl, rfl, trivial⟩
            refine wp_region_lit ?_
            refine lstep (wpO_plain rfl (op_move hs none rfl rfl rfl rfl fun ac hs => ?_))
            refine lstep (wpO_plain rfl (op_bin hs none (v := .bool (decide (l.length ≤ 255))) rfl rfl rfl rfl (fun _ => rfl) (bin_leqN (x := l.length) (y := 255)) rfl fun ac hs => ?_))
            refine lstep (wpO_plain rfl (op_assign hs none rfl rfl rfl rfl fun ac hs => ?_))
            refine wpList_nil ?_
            refine then_n ?_
            refine wp_cond_split (hs.ev rfl) (fun hc => ?_) (fun hc => ?_)
            · skip
              have hp14 := of_decide_eq_true hc
              refine wp_region_lit ?_
              refine lstep (wpO_plain rfl (op_fieldA hs none rfl rfl rfl Try.underlying25 rfl Try.sizeOf5 (by decide) rfl fun ac hs => ?_))
              refine lstep (wpO_plain rfl (op_store hs 1 (vs := [.int .u8 76]) rfl rfl rfl rfl rfl Try.sizeOf5 rfl rfl rfl rfl rfl fun w hs => ?_))
              refine wpList_nil ?_
              refine blk_n ?_
              refine then_n ?_
              refine wp_seq ?_
              refine wp_region_lit ?_
              refine lstep (wpO_plain rfl (op_load hs none 1 (v := .agg #[.int .u8 76, .slice ad9 l.length cp10]) rfl rfl rfl rfl Try.isAgg25 Try.sizeOf25 rfl rfl fun ac hs => ?_))
              refine lstep (wpO_plain rfl (op_store hs 0 (vs := [.int .u8 76, .slice ad9 l.length cp10]) rfl rfl rfl rfl rfl Try.sizeOf25 rfl rfl rfl rfl rfl fun w hs => ?_))
              refine wpList_nil ?_
              refine then_n ?_
              refine wp_ret ?_
              exact bodyPost_ret (res1 rfl (rv_c hs 0 (v := .agg #[.int .u8 76, .slice ad9 l.length cp10]) rfl rfl Try.isAgg25 Try.sizeOf25 rfl)) hs.defers ⟨⟨ad9, cp10⟩, by obtain ⟨rfl, rfl⟩ := Prod.mk.inj ((pushW_b (by omega) (by omega) (by omega) (by omega)).symm.trans hW); rfl, hs.bel rfl, by obtain ⟨rfl, rfl⟩ := Prod.mk.inj ((pushW_b (by omega) (by omega) (by omega) (by omega)).symm.trans hW); exact hs.ret1 1 rfl⟩
            · skip
              have hp15 := of_decide_eq_false hc
              refine wp_skip ?_
              refine blk_n ?_
              refine then_n ?_
              refine wp_seq ?_
              refine wp_region_lit ?_
              refine lstep (wpO_plain rfl (op_load hs none 1 (v := .agg #[.int .u8 77, .slice ad9 l.length cp10]) rfl rfl rfl rfl Try.isAgg25 Try.sizeOf25 rfl rfl fun ac hs => ?_))
              refine lstep (wpO_plain rfl (op_store hs 0 (vs := [.int .u8 77, .slice ad9 l.length cp10]) rfl rfl rfl rfl rfl Try.sizeOf25 rfl rfl rfl rfl rfl fun w hs => ?_))
              refine wpList_nil ?_
              refine then_n ?_
              refine wp_ret ?_
              exact bodyPost_ret (res1 rfl (rv_c hs 0 (v := .agg #[.int .u8 77, .slice ad9 l.length cp10]) rfl rfl Try.isAgg25 Try.sizeOf25 rfl)) hs.defers ⟨⟨ad9, cp10⟩, by obtain ⟨rfl, rfl⟩ := Prod.mk.inj ((pushW_c (by omega) (by omega) (by omega)).symm.trans hW); rfl, hs.bel rfl, by obtain ⟨rfl, rfl⟩ := Prod.mk.inj ((pushW_c (by omega) (by omega) (by omega)).symm.trans hW); exact hs.ret1 1 rfl⟩
    · skip
      replace hs : St 42 ⟨w0, [], [(true, .cel (.slice ad l.length c) l.length (bcs l))], Z, noX⟩ [(0, true, .slice ad l.length c), (2, true, .pointer (some ⟨g1, 0, none⟩)), (3, true, .int .u8 ((byt l 0 : Nat) : Int))] [(true, g1, 25, [.int .u8 0, .slice none 0 0])] ac _ := hs.re ⟨rfl, rfl, rfl, trivial⟩
      refine wp_region_lit ?_
      refine lstep (wpO_plain rfl (op_move hs none rfl rfl rfl rfl fun ac hs => ?_))
      refine lstep (wpO_plain rfl (op_bin hs none (v := .bool false) rfl rfl rfl rfl (fun _ => rfl) (fun w => dF hq4 (bin_geqN (x := byt l 0) (y := 1) w)) rfl fun ac hs => ?_))
      refine lstep (wpO_plain rfl (op_move hs none rfl rfl rfl rfl fun ac hs => ?_))
      refine lstep (wpO_out hs none rfl rfl (.inl rfl) rfl rfl fun ac hs => ?_)
      refine lstep (wpO_out hs none rfl rfl (.inl rfl) rfl rfl fun ac hs => ?_)
      refine lstep (wpO_plain rfl (op_pickF hs none rfl rfl rfl rfl rfl fun ac hs => ?_))
      refine lstep (wpO_plain rfl (op_assign hs none rfl rfl rfl rfl fun ac hs => ?_))
      refine wpList_nil ?_
      refine then_n ?_
      refine wp_cond_false (hs.ev rfl) ?_
      refine wp_seq ?_
      refine wp_region_lit ?_
      refine lstep (wpO_plain rfl (op_move hs none rfl rfl rfl rfl fun ac hs => ?_))
      refine lstep (wpO_plain rfl (op_bin hs none (v := .bool (decide (byt l 0 = 129))) rfl rfl rfl rfl (fun _ => rfl) (bin_eqlN (x := byt l 0) (y := 129)) rfl fun ac hs => ?_))
      refine lstep (wpO_plain rfl (op_assign hs none rfl rfl rfl rfl fun ac hs => ?_))
      refine wpList_nil ?_
      refine then_n ?_
      refine wp_cond_split (hs.ev rfl) (fun hc => ?_) (fun hc => ?_)
      · skip
        have hp16 := of_decide_eq_true hc
        refine wp_seq ?_
        replace hs : St 42 ⟨w0, [], [(true, .cel (.slice ad l.length c) l.length (bcs l))], Z, noX⟩ [(0, true, .slice ad l.length c), (2, true, .pointer (some ⟨g1, 0, none⟩))] [(true, g1, 25, [.int .u8 0, .slice none 0 0])] ac _ := hs.re ⟨rfl, rfl, trivial⟩
        refine wp_region_lit ?_
        refine lstep (wpO_plain rfl (op_build hs none (qs := [(0, .int .u8 79)]) (v := .agg #[.int .u8 79, .slice none 0 0]) rfl rfl rfl rfl (fun _ => by kernel_rfl) rfl fun ac hs => ?_))
        refine lstep (wpO_plain rfl (op_store hs 0 (vs := [.int .u8 79, .slice none 0 0]) rfl rfl rfl rfl rfl Try.sizeOf25 rfl rfl rfl rfl rfl fun w hs => ?_))
        refine wpList_nil ?_
        refine then_n ?_
        refine wp_ret ?_
        refine blk_r ?_
        refine then_r ?_
        exact bodyPost_ret (res1 rfl (rv_c hs 0 (v := .agg #[.int .u8 79, .slice none 0 0]) rfl rfl Try.isAgg25 Try.sizeOf25 rfl)) hs.defers ⟨⟨none, 0⟩, by obtain ⟨rfl, rfl⟩ := Prod.mk.inj ((pushW_2 (by omega) (by omega)).symm.trans hW); rfl, hs.bel rfl, by obtain ⟨rfl, rfl⟩ := Prod.mk.inj ((pushW_2 (by omega) (by omega)).symm.trans hW); exact okl1 celv_nil⟩
      · skip
        have hp17 := of_decide_eq_false hc
        refine wp_skip ?_
        refine blk_n ?_
        refine then_n ?_
        refine wp_seq ?_
        replace hs : St 42 ⟨w0, [], [(true, .cel (.slice ad l.length c) l.length (bcs l))], Z, noX⟩ [(0, true, .slice ad l.length c), (2, true, .pointer (some ⟨g1, 0, none⟩))] [(true, g1, 25, [.int .u8 0, .slice none 0 0])] ac _ := hs.re ⟨rfl, rfl, trivial⟩
        refine wp_region_lit ?_
        refine lstep (wpO_plain rfl (op_move hs none rfl rfl rfl rfl fun ac hs => ?_))
        refine lstep (wpO_plain rfl (op_callS (F := 28) (ρ := Option Addr × Nat) hs none none (v := fun r => .slice r.1 l.length r.2) (E := fun r => [.cel (.slice r.1 l.length r.2) l.length (bcs l)]) (j := 1) rfl rfl rfl rfl (Try.call28 _) (fun hs => clone_c ad l.length c l (show l.length ≤ 100000 by omega) _ _ (hs.all (k := 0) rfl rfl)) (fun _ => rfl) rfl rfl fun ⟨ad18, cp19⟩ ac w hs => ?_))
        refine lstep (wpO_plain rfl (op_build hs none (qs := [(0, .int .u8 77), (1, .slice ad18 l.length cp19)]) (v := .agg #[.int .u8 77, .slice ad18 l.length cp19]) rfl rfl rfl rfl (fun _ => by kernel_rfl) rfl fun ac hs => ?_))
        refine lstep (wpO_plain rfl (op_alloc hs none none (cs := [.int .u8 0, .slice none 0 0]) rfl rfl Try.zeroValue25 (by kernel_rfl) rfl rfl fun g20 ac w hs => ?_))
        refine lstep (wpO_plain rfl (op_store hs 1 (vs := [.int .u8 77, .slice ad18 l.length cp19]) rfl rfl rfl rfl rfl Try.sizeOf25 rfl rfl rfl rfl rfl fun w hs => ?_))
        refine wpList_nil ?_
        refine then_n ?_
        refine wp_seq ?_
        refine wp_seq ?_
        refine wp_region_lit ?_
        refine lstep (wpO_plain rfl (op_move hs none rfl rfl rfl rfl fun ac hs => ?_))
        refine lstep (wpO_plain rfl (op_blt hs none (v := .int .i64 ((l.length : Nat) : Int)) rfl rfl rfl (blt_len Try.underlying22) rfl fun ac hs => ?_))
        refine lstep (wpO_plain rfl (op_assign hs none rfl rfl rfl rfl fun ac hs => ?_))
        refine wpList_nil ?_
        refine then_n ?_
        refine wp_block ?_
        refine wp_seq ?_
        replace hs : St 42 ⟨w0, [], [(true, .cel (.slice ad l.length c) l.length (bcs l)), (true, .cel (.slice ad18 l.length cp19) l.length (bcs l))], Z, noX⟩ [(2, true, .pointer (some ⟨g1, 0, none⟩)), (4, true, .pointer (some ⟨g20, 0, none⟩)), (5, true, .int .i64 ((l.length : Nat) : Int))] [(true, g1, 25, [.int .u8 0, .slice none 0 0]), (true, g20, 25, [.int .u8 77, .slice ad18 l.length cp19])] ac _ := hs.re ⟨rfl, rfl, rfl, trivial⟩
        refine wp_region_lit ?_
        refine lstep (wpO_plain rfl (op_move hs none rfl rfl rfl rfl fun ac hs => ?_))
        refine lstep (wpO_plain rfl (op_bin hs none (v := .bool (decide (l.length ≤ 75))) rfl rfl rfl rfl (fun _ => rfl) (bin_leqN (x := l.length) (y := 75)) rfl fun ac hs => ?_))
        refine lstep (wpO_plain rfl (op_assign hs none rfl rfl rfl rfl fun ac hs => ?_))
        refine wpList_nil ?_
        refine then_n ?_
        refine wp_cond_split (hs.ev rfl) (fun hc => ?_) (fun hc => ?_)
        · skip
          have hp21 := of_decide_eq_true hc
          refine wp_region_lit ?_
          refine lstep (wpO_plain rfl (op_move hs none rfl rfl rfl rfl fun ac hs => ?_))
          refine lstep (wpO_plain rfl (op_convert hs none (v := .int .u8 ((l.length % 256 : Nat) : Int)) rfl rfl rfl (conv_M (z := l.length % 256) rfl Try.underlying3 Try.underlying5 rfl) rfl fun ac hs => ?_))
          refine lstep (wpO_plain rfl (op_fieldA hs none rfl rfl rfl Try.underlying25 rfl Try.sizeOf5 (by decide) rfl fun ac hs => ?_))
          refine lstep (wpO_plain rfl (op_store hs 1 (vs := [.int .u8 ((l.length % 256 : Nat) : Int)]) rfl rfl rfl rfl rfl Try.sizeOf5 rfl rfl rfl rfl rfl fun w hs => ?_))
          refine wpList_nil ?_
          refine blk_n ?_
          refine then_n ?_
          refine wp_seq ?_
          replace hs : St 42 ⟨w0, [], [(true, .cel (.slice ad l.length c) l.length (bcs l)), (true, .cel (.slice ad18 l.length cp19) l.length (bcs l))], Z, noX⟩ [(2, true, .pointer (some ⟨g1, 0, none⟩)), (4, true, .pointer (some ⟨g20, 0, none⟩))] [(true, g1, 25, [.int .u8 0, .slice none 0 0]), (true, g20, 25, [.int .u8 ((l.length % 256 : Nat) : Int), .slice ad18 l.length cp19])] ac _ := hs.re ⟨rfl, rfl, trivial⟩
          refine wp_region_lit ?_
          refine lstep (wpO_plain rfl (op_load hs none 1 (v := .agg #[.int .u8 ((l.length % 256 : Nat) : Int), .slice ad18 l.length cp19]) rfl rfl rfl rfl Try.isAgg25 Try.sizeOf25 rfl rfl fun ac hs => ?_))
          refine lstep (wpO_plain rfl (op_store hs 0 (vs := [.int .u8 ((l.length % 256 : Nat) : Int), .slice ad18 l.length cp19]) rfl rfl rfl rfl rfl Try.sizeOf25 rfl rfl rfl rfl rfl fun w hs => ?_))
          refine wpList_nil ?_
          refine then_n ?_
          refine wp_ret ?_
          exact bodyPost_ret (res1 rfl (rv_c hs 0 (v := .agg #[.int .u8 ((l.length % 256 : Nat) : Int), .slice ad18 l.length cp19]) rfl rfl Try.isAgg25 Try.sizeOf25 rfl)) hs.defers ⟨⟨ad18, cp19⟩, by have hm : l.length % 256 = l.length := Nat.mod_eq_of_lt (by omega); obtain ⟨rfl, rfl⟩ := Prod.mk.inj ((pushW_a (by omega) (by omega) (by omega)).symm.trans hW); rw [hm], hs.bel rfl, by obtain ⟨rfl, rfl⟩ := Prod.mk.inj ((pushW_a (by omega) (by omega) (by omega)).symm.trans hW); exact hs.ret1 1 rfl⟩
        · skip
          have hp22 := of_decide_eq_false hc
          refine wp_seq ?_
          refine wp_region_lit ?_
          refine lstep (wpO_plain rfl (op_move hs none rfl rfl rfl rfl fun ac hs => ?_))
          refine lstep (wpO_plain rfl (op_bin hs none (v := .bool (decide (l.length ≤ 255))) rfl rfl rfl rfl (fun _ => rfl) (bin_leqN (x := l.length) (y := 255)) rfl fun ac hs => ?_))
          refine lstep (wpO_plain rfl (op_assign hs none rfl rfl rfl rfl fun ac hs => ?_))
          refine wpList_nil ?_
          refine then_n ?_
          refine wp_cond_split (hs.ev rfl) (fun hc => ?_) (fun hc => ?_)
          · skip
            have hp23 := of_decide_eq_true hc
            replace hs : St 42 ⟨w0, [], [(true, .cel (.slice ad l.length c) l.length (bcs l)), (true, .cel (.slice ad18 l.length cp19) l.length (bcs l))], Z, noX⟩ [(2, true, .pointer (some ⟨g1, 0, none⟩)), (4, true, .pointer (some ⟨g20, 0, none⟩))] [(true, g1, 25, [.int .u8 0, .slice none 0 0]), (true, g20, 25, [.int .u8 77, .slice ad18 l.length cp19])] ac _ := hs.re ⟨rfl, rfl, trivial⟩
            refine wp_region_lit ?_
            refine lstep (wpO_plain rfl (op_fieldA hs none rfl rfl rfl Try.underlying25 rfl Try.sizeOf5 (by decide) rfl fun ac hs => ?_))
            refine lstep (wpO_plain rfl (op_store hs 1 (vs := [.int .u8 76]) rfl rfl rfl rfl rfl Try.sizeOf5 rfl rfl rfl rfl rfl fun w hs => ?_))
            refine wpList_nil ?_
            refine blk_n ?_
            refine then_n ?_
            refine wp_seq ?_
            refine wp_region_lit ?_
            refine lstep (wpO_plain rfl (op_load hs none 1 (v := .agg #[.int .u8 76, .slice ad18 l.length cp19]) rfl rfl rfl rfl Try.isAgg25 Try.sizeOf25 rfl rfl fun ac hs => ?_))
            refine lstep (wpO_plain rfl (op_store hs 0 (vs := [.int .u8 76, .slice ad18 l.length cp19]) rfl rfl rfl rfl rfl Try.sizeOf25 rfl rfl rfl rfl rfl fun w hs => ?_))
            refine wpList_nil ?_
            refine then_n ?_
            refine wp_ret ?_
            exact bodyPost_ret (res1 rfl (rv_c hs 0 (v := .agg #[.int .u8 76, .slice ad18 l.length cp19]) rfl rfl Try.isAgg25 Try.sizeOf25 rfl)) hs.defers ⟨⟨ad18, cp19⟩, by obtain ⟨rfl, rfl⟩ := Prod.mk.inj ((pushW_b (by omega) (by omega) (by omega) (by omega)).symm.trans hW); rfl, hs.bel rfl, by obtain ⟨rfl, rfl⟩ := Prod.mk.inj ((pushW_b (by omega) (by omega) (by omega) (by omega)).symm.trans hW); exact hs.ret1 1 rfl⟩
          · skip
            have hp24 := of_decide_eq_false hc
            refine wp_skip ?_
            refine blk_n ?_
            refine then_n ?_
            refine wp_seq ?_
            replace hs : St 42 ⟨w0, [], [(true, .cel (.slice ad l.length c) l.length (bcs l)), (true, .cel (.slice ad18 l.length cp19) l.length (bcs l))], Z, noX⟩ [(2, true, .pointer (some ⟨g1, 0, none⟩)), (4, true, .pointer (some ⟨g20, 0, none⟩))] [(true, g1, 25, [.int .u8 0, .slice none 0 0]), (true, g20, 25, [.int .u8 77, .slice ad18 l.length cp19])] ac _ := hs.re ⟨rfl, rfl, trivial⟩
            refine wp_region_lit ?_
            refine lstep (wpO_plain rfl (op_load hs none 1 (v := .agg #[.int .u8 77, .slice ad18 l.length cp19]) rfl rfl rfl rfl Try.isAgg25 Try.sizeOf25 rfl rfl fun ac hs => ?_))
            refine lstep (wpO_plain rfl (op_store hs 0 (vs := [.int .u8 77, .slice ad18 l.length cp19]) rfl rfl rfl rfl rfl Try.sizeOf25 rfl rfl rfl rfl rfl fun w hs => ?_))
            refine wpList_nil ?_
            refine then_n ?_
            refine wp_ret ?_
            exact bodyPost_ret (res1 rfl (rv_c hs 0 (v := .agg #[.int .u8 77, .slice ad18 l.length cp19]) rfl rfl Try.isAgg25 Try.sizeOf25 rfl)) hs.defers ⟨⟨ad18, cp19⟩, by obtain ⟨rfl, rfl⟩ := Prod.mk.inj ((pushW_c (by omega) (by omega) (by omega)).symm.trans hW); rfl, hs.bel rfl, by obtain ⟨rfl, rfl⟩ := Prod.mk.inj ((pushW_c (by omega) (by omega) (by omega)).symm.trans hW); exact hs.ret1 1 rfl⟩
  · skip
    have hp25 := of_decide_eq_false hc
    refine wp_skip ?_
    refine then_n ?_
    refine wp_seq ?_
    refine wp_region_lit ?_
    refine lstep (wpO_plain rfl (op_move hs none rfl rfl rfl rfl fun ac hs => ?_))
    refine lstep (wpO_plain rfl (op_callS (F := 28) (ρ := Option Addr × Nat) hs none none (v := fun r => .slice r.1 l.length r.2) (E := fun r => [.cel (.slice r.1 l.length r.2) l.length (bcs l)]) (j := 1) rfl rfl rfl rfl (Try.call28 _) (fun hs => clone_c ad l.length c l (show l.length ≤ 100000 by omega) _ _ (hs.all (k := 0) rfl rfl)) (fun _ => rfl) rfl rfl fun ⟨ad26, cp27⟩ ac w hs => ?_))
    refine lstep (wpO_plain rfl (op_build hs none (qs := [(0, .int .u8 77), (1, .slice ad26 l.length cp27)]) (v := .agg #[.int .u8 77, .slice ad26 l.length cp27]) rfl rfl rfl rfl (fun _ => by kernel_rfl) rfl fun ac hs => ?_))
    refine lstep (wpO_plain rfl (op_alloc hs none none (cs := [.int .u8 0, .slice none 0 0]) rfl rfl Try.zeroValue25 (by kernel_rfl) rfl rfl fun g28 ac w hs => ?_))
    refine lstep (wpO_plain rfl (op_store hs 1 (vs := [.int .u8 77, .slice ad26 l.length cp27]) rfl rfl rfl rfl rfl Try.sizeOf25 rfl rfl rfl rfl rfl fun w hs => ?_))
    refine wpList_nil ?_
    refine then_n ?_
    refine wp_seq ?_
    refine wp_seq ?_
    replace hs : St 42 ⟨w0, [], [(true, .cel (.slice ad l.length c) l.length (bcs l)), (true, .cel (.slice ad26 l.length cp27) l.length (bcs l))], Z, noX⟩ [(0, true, .slice ad l.length c), (2, true, .pointer (some ⟨g1, 0, none⟩)), (4, true, .pointer (some ⟨g28, 0, none⟩))] [(true, g1, 25, [.int .u8 0, .slice none 0 0]), (true, g28, 25, [.int .u8 77, .slice ad26 l.length cp27])] ac _ := hs.re ⟨rfl, rfl, rfl, trivial⟩
    refine wp_region_lit ?_
    refine lstep (wpO_plain rfl (op_move hs none rfl rfl rfl rfl fun ac hs => ?_))
    refine lstep (wpO_plain rfl (op_blt hs none (v := .int .i64 ((l.length : Nat) : Int)) rfl rfl rfl (blt_len Try.underlying22) rfl fun ac hs => ?_))
    refine lstep (wpO_plain rfl (op_assign hs none rfl rfl rfl rfl fun ac hs => ?_))
    refine wpList_nil ?_
    refine then_n ?_
    refine wp_block ?_
    refine wp_seq ?_
    refine wp_region_lit ?_
    refine lstep (wpO_plain rfl (op_move hs none rfl rfl rfl rfl fun ac hs => ?_))
    refine lstep (wpO_plain rfl (op_bin hs none (v := .bool (decide (l.length ≤ 75))) rfl rfl rfl rfl (fun _ => rfl) (bin_leqN (x := l.length) (y := 75)) rfl fun ac hs => ?_))
    refine lstep (wpO_plain rfl (op_assign hs none rfl rfl rfl rfl fun ac hs => ?_))
    refine wpList_nil ?_
    refine then_n ?_
    refine wp_cond_split (hs.ev rfl) (fun hc => ?_) (fun hc => ?_)
    · skip
      have hp29 := of_decide_eq_true hc
      replace hs : St 42 ⟨w0, [], [(true, .cel (.slice ad l.length c) l.length (bcs l)), (true, .cel (.slice ad26 l.length cp27) l.length (bcs l))], Z, noX⟩ [(2, true, .pointer (some ⟨g1, 0, none⟩)), (4, true, .pointer (some ⟨g28, 0, none⟩)), (5, true, .int .i64 ((l.length : Nat) : Int))] [(true, g1, 25, [.int .u8 0, .slice none 0 0]), (true, g28, 25, [.int .u8 77, .slice ad26 l.length cp27])] ac _ := hs.re ⟨rfl, rfl, rfl, trivial⟩
      refine wp_region_lit ?_
      refine lstep (wpO_plain rfl (op_move hs none rfl rfl rfl rfl fun ac hs => ?_))
      refine lstep (wpO_plain rfl (op_convert hs none (v := .int .u8 ((l.length % 256 : Nat) : Int)) rfl rfl rfl (conv_M (z := l.length % 256) rfl Try.underlying3 Try.underlying5 rfl) rfl fun ac hs => ?_))
      refine lstep (wpO_plain rfl (op_fieldA hs none rfl rfl rfl Try.underlying25 rfl Try.sizeOf5 (by decide) rfl fun ac hs => ?_))
      refine lstep (wpO_plain rfl (op_store hs 1 (vs := [.int .u8 ((l.length % 256 : Nat) : Int)]) rfl rfl rfl rfl rfl Try.sizeOf5 rfl rfl rfl rfl rfl fun w hs => ?_))
      refine wpList_nil ?_
      refine blk_n ?_
      refine then_n ?_
      refine wp_seq ?_
      refine wp_region_lit ?_
      refine lstep (wpO_plain rfl (op_load hs none 1 (v := .agg #[.int .u8 ((l.length % 256 : Nat) : Int), .slice ad26 l.length cp27]) rfl rfl rfl rfl Try.isAgg25 Try.sizeOf25 rfl rfl fun ac hs => ?_))
      refine lstep (wpO_plain rfl (op_store hs 0 (vs := [.int .u8 ((l.length % 256 : Nat) : Int), .slice ad26 l.length cp27]) rfl rfl rfl rfl rfl Try.sizeOf25 rfl rfl rfl rfl rfl fun w hs => ?_))
      refine wpList_nil ?_
      refine then_n ?_
      refine wp_ret ?_
      exact bodyPost_ret (res1 rfl (rv_c hs 0 (v := .agg #[.int .u8 ((l.length % 256 : Nat) : Int), .slice ad26 l.length cp27]) rfl rfl Try.isAgg25 Try.sizeOf25 rfl)) hs.defers ⟨⟨ad26, cp27⟩, by have hm : l.length % 256 = l.length := Nat.mod_eq_of_lt (by omega); obtain ⟨rfl, rfl⟩ := Prod.mk.inj ((pushW_a (by omega) (by omega) (by omega)).symm.trans hW); rw [hm], hs.bel rfl, by obtain ⟨rfl, rfl⟩ := Prod.mk.inj ((pushW_a (by omega) (by omega) (by omega)).symm.trans hW); exact hs.ret1 1 rfl⟩
    · skip
      have hp30 := of_decide_eq_false hc
      refine wp_seq ?_
      replace hs : St 42 ⟨w0, [], [(true, .cel (.slice ad l.length c) l.length (bcs l)), (true, .cel (.slice ad26 l.length cp27) l.length (bcs l))], Z, noX⟩ [(2, true, .pointer (some ⟨g1, 0, none⟩)), (4, true, .pointer (some ⟨g28, 0, none⟩)), (5, true, .int .i64 ((l.length : Nat) : Int))] [(true, g1, 25, [.int .u8 0, .slice none 0 0]), (true, g28, 25, [.int .u8 77, .slice ad26 l.length cp27])] ac _ := hs.re ⟨rfl, rfl, rfl, trivial⟩
      refine wp_region_lit ?_
      refine lstep (wpO_plain rfl (op_move hs none rfl rfl rfl rfl fun ac hs => ?_))
      refine lstep (wpO_plain rfl (op_bin hs none (v := .bool (decide (l.length ≤ 255))) rfl rfl rfl rfl (fun _ => rfl) (bin_leqN (x := l.length) (y := 255)) rfl fun ac hs => ?_))
      refine lstep (wpO_plain rfl (op_assign hs none rfl rfl rfl rfl fun ac hs => ?_))
      refine wpList_nil ?_
      refine then_n ?_
      refine wp_cond_split (hs.ev rfl) (fun hc => ?_) (fun hc => ?_)
      · skip
        have hp31 := of_decide_eq_true hc
        refine wp_region_lit ?_
        refine lstep (wpO_plain rfl (op_fieldA hs none rfl rfl rfl Try.underlying25 rfl Try.sizeOf5 (by decide) rfl fun ac hs => ?_))
        refine lstep (wpO_plain rfl (op_store hs 1 (vs := [.int .u8 76]) rfl rfl rfl rfl rfl Try.sizeOf5 rfl rfl rfl rfl rfl fun w hs => ?_))
        refine wpList_nil ?_
        refine blk_n ?_
        refine then_n ?_
        refine wp_seq ?_
        refine wp_region_lit ?_
        refine lstep (wpO_plain rfl (op_load hs none 1 (v := .agg #[.int .u8 76, .slice ad26 l.length cp27]) rfl rfl rfl rfl Try.isAgg25 Try.sizeOf25 rfl rfl fun ac hs => ?_))
        refine lstep (wpO_plain rfl (op_store hs 0 (vs := [.int .u8 76, .slice ad26 l.length cp27]) rfl rfl rfl rfl rfl Try.sizeOf25 rfl rfl rfl rfl rfl fun w hs => ?_))
        refine wpList_nil ?_
        refine then_n ?_
        refine wp_ret ?_
        exact bodyPost_ret (res1 rfl (rv_c hs 0 (v := .agg #[.int .u8 76, .slice ad26 l.length cp27]) rfl rfl Try.isAgg25 Try.sizeOf25 rfl)) hs.defers ⟨⟨ad26, cp27⟩, by obtain ⟨rfl, rfl⟩ := Prod.mk.inj ((pushW_b (by omega) (by omega) (by omega) (by omega)).symm.trans hW); rfl, hs.bel rfl, by obtain ⟨rfl, rfl⟩ := Prod.mk.inj ((pushW_b (by omega) (by omega) (by omega) (by omega)).symm.trans hW); exact hs.ret1 1 rfl⟩
      · skip
        have hp32 := of_decide_eq_false hc
        refine wp_skip ?_
        refine blk_n ?_
        refine then_n ?_
        refine wp_seq ?_
        refine wp_region_lit ?_
        refine lstep (wpO_plain rfl (op_load hs none 1 (v := .agg #[.int .u8 77, .slice ad26 l.length cp27]) rfl rfl rfl rfl Try.isAgg25 Try.sizeOf25 rfl rfl fun ac hs => ?_))
        refine lstep (wpO_plain rfl (op_store hs 0 (vs := [.int .u8 77, .slice ad26 l.length cp27]) rfl rfl rfl rfl rfl Try.sizeOf25 rfl rfl rfl rfl rfl fun w hs => ?_))
        refine wpList_nil ?_
        refine then_n ?_
        refine wp_ret ?_
        exact bodyPost_ret (res1 rfl (rv_c hs 0 (v := .agg #[.int .u8 77, .slice ad26 l.length cp27]) rfl rfl Try.isAgg25 Try.sizeOf25 rfl)) hs.defers ⟨⟨ad26, cp27⟩, by obtain ⟨rfl, rfl⟩ := Prod.mk.inj ((pushW_c (by omega) (by omega) (by omega)).symm.trans hW); rfl, hs.bel rfl, by obtain ⟨rfl, rfl⟩ := Prod.mk.inj ((pushW_c (by omega) (by omega) (by omega)).symm.trans hW); exact hs.ret1 1 rfl⟩
theorem rpush_c (ad : Option Addr) (nl c : Nat) (l : List UInt8) (o : Nat) (p : List UInt8) (hlen : l.length ≤ 100000) (hW : pushW l = (o, p)) (w0 : World) (Z : Nat → Prop) (hl : ByV w0 Z (.slice ad nl c) l): Calls Try.prog 19 #[.slice ad nl c] w0 fun e w' => Ret w0 Z (ρ := Option Addr × Nat) (fun r => .agg #[.int .u8 ((o : Nat) : Int), .slice r.1 p.length r.2]) (fun r => [.cel (.slice r.1 p.length r.2) p.length (bcs p)]) e w' := by
  obtain rfl := byv_len hl
  refine enterS (n := 48) (args := [.slice ad l.length c]) (S := [(true, .cel (.slice ad l.length c) l.length (bcs l))]) (Z := Z) Try.func19 rfl rfl (Nat.le_of_ble_eq_true rfl) (sokC hl sok0) rfl fun ac hs => ?_
  refine wp_seq ?_
  refine wp_region_lit ?_
  refine lstep (wpO_plain rfl (op_alloc hs none none (cs := [.int .u8 0, .slice none 0 0]) rfl rfl Try.zeroValue25 (by kernel_rfl) rfl rfl fun g1 ac w hs => ?_))
  refine wpList_nil ?_
  refine then_n ?_
  refine wp_seq ?_
  refine wp_seq ?_
  by_cases hq2 : l.length = 1
  · skip
    by_cases hq3 : 1 ≤ byt l 0
    · skip
      refine wp_region_lit ?_
      refine lstep (wpO_plain rfl (op_move hs none rfl rfl rfl rfl fun ac hs => ?_))
      refine lstep (wpO_plain rfl (op_blt hs none (v := .int .i64 ((l.length : Nat) : Int)) rfl rfl rfl (blt_len Try.underlying22) rfl fun ac hs => ?_))
      refine lstep (wpO_plain rfl (op_bin hs none (v := .bool true) rfl rfl rfl rfl (fun _ => rfl) (fun w => dT hq2 (bin_eqlN (x := l.length) (y := 1) w)) rfl fun ac hs => ?_))
      refine lstep (wpO_plain rfl (op_move hs none rfl rfl rfl rfl fun ac hs => ?_))
      refine lstep (wpO_in hs rfl rfl rfl (op_move hs none rfl rfl rfl rfl fun ac hs => ?_))
      refine lstep (wpO_in hs rfl rfl rfl (op_idxC hs none 0 (j := 0) rfl rfl rfl rfl rfl Try.underlying22 Try.sizeOf5 (show 0 < l.length by omega) (off := 0) (by omega) rfl fun ac hs => ?_))
      have l4 := byt_lt l 0
      refine lstep (wpO_in hs rfl rfl rfl (op_loadC hs none 0 (u := .int .u8 ((byt l 0 : Nat) : Int)) rfl rfl rfl rfl Try.isAgg5 Try.sizeOf5 (by decide) (bcs_get (show 0 < l.length by omega)) rfl fun ac hs => ?_))
      refine lstep (wpO_in hs rfl rfl rfl (op_bin hs none (v := .bool true) rfl rfl rfl rfl (fun _ => rfl) (fun w => dT hq3 (bin_geqN (x := byt l 0) (y := 1) w)) rfl fun ac hs => ?_))
      refine lstep (wpO_plain rfl (op_pickT hs none rfl rfl rfl rfl rfl fun ac hs => ?_))
      refine lstep (wpO_plain rfl (op_move hs none rfl rfl rfl rfl fun ac hs => ?_))
      refine lstep (wpO_in hs rfl rfl rfl (op_move hs none rfl rfl rfl rfl fun ac hs => ?_))
      refine lstep (wpO_in hs rfl rfl rfl (op_idxC hs none 0 (j := 0) rfl rfl rfl rfl rfl Try.underlying22 Try.sizeOf5 (show 0 < l.length by omega) (off := 0) (by omega) rfl fun ac hs => ?_))
      have l5 := byt_lt l 0
      refine lstep (wpO_in hs rfl rfl rfl (op_loadC hs none 0 (u := .int .u8 ((byt l 0 : Nat) : Int)) rfl rfl rfl rfl Try.isAgg5 Try.sizeOf5 (by decide) (bcs_get (show 0 < l.length by omega)) rfl fun ac hs => ?_))
      refine lstep (wpO_in hs rfl rfl rfl (op_bin hs none (v := .bool (decide (byt l 0 ≤ 16))) rfl rfl rfl rfl (fun _ => rfl) (bin_leqN (x := byt l 0) (y := 16)) rfl fun ac hs => ?_))
      refine lstep (wpO_plain rfl (op_pickT hs none rfl rfl rfl rfl rfl fun ac hs => ?_))
      refine wpList_nil ?_
      refine then_n ?_
      refine wp_cond_split (hs.ev rfl) (fun hc => ?_) (fun hc => ?_)
      · skip
        have hp6 := of_decide_eq_true hc
        refine wp_seq ?_
        replace hs : St 48 ⟨w0, [], [(true, .cel (.slice ad l.length c) l.length (bcs l))], Z, noX⟩ [(0, true, .slice ad l.length c), (2, true, .pointer (some ⟨g1, 0, none⟩))] [(true, g1, 25, [.int .u8 0, .slice none 0 0])] ac _ := hs.re ⟨rfl, rfl, trivial⟩
        refine wp_region_lit ?_
        refine lstep (wpO_plain rfl (op_move hs none rfl rfl rfl rfl fun ac hs => ?_))
        refine lstep (wpO_plain rfl (op_idxC hs none 0 (j := 0) rfl rfl rfl rfl rfl Try.underlying22 Try.sizeOf5 (show 0 < l.length by omega) (off := 0) (by omega) rfl fun ac hs => ?_))
        have l7 := byt_lt l 0
        refine lstep (wpO_plain rfl (op_loadC hs none 0 (u := .int .u8 ((byt l 0 : Nat) : Int)) rfl rfl rfl rfl Try.isAgg5 Try.sizeOf5 (by decide) (bcs_get (show 0 < l.length by omega)) rfl fun ac hs => ?_))
        refine lstep (wpO_plain rfl (op_bin hs none (v := .int .u8 ((80 + (byt l 0) : Nat) : Int)) rfl rfl rfl rfl (fun _ => rfl) (bin_addN (x := 80) (y := byt l 0) (z := 80 + (byt l 0)) rfl (show 80 + (byt l 0) < 256 by omega)) rfl fun ac hs => ?_))
        refine lstep (wpO_plain rfl (op_build hs none (qs := [(0, .int .u8 ((80 + (byt l 0) : Nat) : Int))]) (v := .agg #[.int .u8 ((80 + (byt l 0) : Nat) : Int), .slice none 0 0]) rfl rfl rfl rfl (fun _ => by kernel_rfl) rfl fun ac hs => ?_))
        refine lstep (wpO_plain rfl (op_store hs 0 (vs := [.int .u8 ((80 + (byt l 0) : Nat) : Int), .slice none 0 0]) rfl rfl rfl rfl rfl Try.sizeOf25 rfl rfl rfl rfl rfl fun w hs => ?_))
        refine wpList_nil ?_
        refine then_n ?_
        refine wp_ret ?_
        refine then_r ?_
        exact bodyPost_ret (res1 rfl (rv_c hs 0 (v := .agg #[.int .u8 ((80 + (byt l 0) : Nat) : Int), .slice none 0 0]) rfl rfl Try.isAgg25 Try.sizeOf25 rfl)) hs.defers ⟨⟨none, 0⟩, by obtain ⟨rfl, rfl⟩ := Prod.mk.inj ((pushW_1 (by omega) (by omega) (by omega)).symm.trans hW); rfl, hs.bel rfl, by obtain ⟨rfl, rfl⟩ := Prod.mk.inj ((pushW_1 (by omega) (by omega) (by omega)).symm.trans hW); exact okl1 celv_nil⟩
      · skip
        have hp8 := of_decide_eq_false hc
        refine wp_skip ?_
        refine then_n ?_
        refine wp_seq ?_
        refine wp_seq ?_
        replace hs : St 48 ⟨w0, [], [(true, .cel (.slice ad l.length c) l.length (bcs l))], Z, noX⟩ [(0, true, .slice ad l.length c), (2, true, .pointer (some ⟨g1, 0, none⟩))] [(true, g1, 25, [.int .u8 0, .slice none 0 0])] ac _ := hs.re ⟨rfl, rfl, trivial⟩
        refine wp_region_lit ?_
        refine lstep (wpO_plain rfl (op_move hs none rfl rfl rfl rfl fun ac hs => ?_))
        refine lstep (wpO_plain rfl (op_blt hs none (v := .int .i64 ((l.length : Nat) : Int)) rfl rfl rfl (blt_len Try.underlying22) rfl fun ac hs => ?_))
        refine lstep (wpO_plain rfl (op_bin hs none (v := .bool true) rfl rfl rfl rfl (fun _ => rfl) (fun w => dT hq2 (bin_eqlN (x := l.length) (y := 1) w)) rfl fun ac hs => ?_))
        refine lstep (wpO_plain rfl (op_move hs none rfl rfl rfl rfl fun ac hs => ?_))
        refine lstep (wpO_in hs rfl rfl rfl (op_move hs none rfl rfl rfl rfl fun ac hs => ?_))
        refine lstep (wpO_in hs rfl rfl rfl (op_idxC hs none 0 (j := 0) rfl rfl rfl rfl rfl Try.underlying22 Try.sizeOf5 (show 0 < l.length by omega) (off := 0) (by omega) rfl fun ac hs => ?_))
        have l9 := byt_lt l 0
        refine lstep (wpO_in hs rfl rfl rfl (op_loadC hs none 0 (u := .int .u8 ((byt l 0 : Nat) : Int)) rfl rfl rfl rfl Try.isAgg5 Try.sizeOf5 (by decide) (bcs_get (show 0 < l.length by omega)) rfl fun ac hs => ?_))
        refine lstep (wpO_in hs rfl rfl rfl (op_bin hs none (v := .bool (decide (byt l 0 = 129))) rfl rfl rfl rfl (fun _ => rfl) (bin_eqlN (x := byt l 0) (y := 129)) rfl fun ac hs => ?_))
        refine lstep (wpO_plain rfl (op_pickT hs none rfl rfl rfl rfl rfl fun ac hs => ?_))
        refine wpList_nil ?_
        refine then_n ?_
        refine wp_cond_split (hs.ev rfl) (fun hc => ?_) (fun hc => ?_)
        · skip
          have hp10 := of_decide_eq_true hc
          refine wp_seq ?_
          replace hs : St 48 ⟨w0, [], [(true, .cel (.slice ad l.length c) l.length (bcs l))], Z, noX⟩ [(0, true, .slice ad l.length c), (2, true, .pointer (some ⟨g1, 0, none⟩))] [(true, g1, 25, [.int .u8 0, .slice none 0 0])] ac _ := hs.re ⟨rfl, rfl, trivial⟩
          refine wp_region_lit ?_
          refine lstep (wpO_plain rfl (op_build hs none (qs := [(0, .int .u8 79)]) (v := .agg #[.int .u8 79, .slice none 0 0]) rfl rfl rfl rfl (fun _ => by kernel_rfl) rfl fun ac hs => ?_))
          refine lstep (wpO_plain rfl (op_store hs 0 (vs := [.int .u8 79, .slice none 0 0]) rfl rfl rfl rfl rfl Try.sizeOf25 rfl rfl rfl rfl rfl fun w hs => ?_))
          refine wpList_nil ?_
          refine then_n ?_
          refine wp_ret ?_
          refine then_r ?_
          exact bodyPost_ret (res1 rfl (rv_c hs 0 (v := .agg #[.int .u8 79, .slice none 0 0]) rfl rfl Try.isAgg25 Try.sizeOf25 rfl)) hs.defers ⟨⟨none, 0⟩, by obtain ⟨rfl, rfl⟩ := Prod.mk.inj ((pushW_2 (by omega) (by omega)).symm.trans hW); rfl, hs.bel rfl, by obtain ⟨rfl, rfl⟩ := Prod.mk.inj ((pushW_2 (by omega) (by omega)).symm.trans hW); exact okl1 celv_nil⟩
        · skip
          have hp11 := of_decide_eq_false hc
          refine wp_skip ?_
          refine then_n ?_
          refine wp_seq ?_
          replace hs : St 48 ⟨w0, [], [(true, .cel (.slice ad l.length c) l.length (bcs l))], Z, noX⟩ [(0, true, .slice ad l.length c), (2, true, .pointer (some ⟨g1, 0, none⟩))] [(true, g1, 25, [.int .u8 0, .slice none 0 0])] ac _ := hs.re ⟨rfl, rfl, trivial⟩
          refine wp_region_lit ?_
          refine lstep (wpO_plain rfl (op_assign hs none rfl rfl rfl rfl fun ac hs => ?_))
          refine wpList_nil ?_
          refine then_n ?_
          refine wp_seq ?_
          refine wp_seq ?_
          refine wp_region_lit ?_
          refine lstep (wpO_plain rfl (op_move hs none rfl rfl rfl rfl fun ac hs => ?_))
          refine lstep (wpO_plain rfl (op_blt hs none (v := .int .i64 ((l.length : Nat) : Int)) rfl rfl rfl (blt_len Try.underlying22) rfl fun ac hs => ?_))
          refine lstep (wpO_plain rfl (op_bin hs none (v := .bool (decide (l.length ≤ 255))) rfl rfl rfl rfl (fun _ => rfl) (bin_leqN (x := l.length) (y := 255)) rfl fun ac hs => ?_))
          refine wpList_nil ?_
          refine then_n ?_
          refine wp_cond_split (hs.ev rfl) (fun hc => ?_) (fun hc => ?_)
          · skip
            have hp12 := of_decide_eq_true hc
            refine wp_region_lit ?_
            refine lstep (wpO_plain rfl (op_assign hs none rfl rfl rfl rfl fun ac hs => ?_))
            refine wpList_nil ?_
            refine then_n ?_
            refine wp_seq ?_
            refine wp_seq ?_
            refine wp_region_lit ?_
            refine lstep (wpO_plain rfl (op_move hs none rfl rfl rfl rfl fun ac hs => ?_))
            refine lstep (wpO_plain rfl (op_blt hs none (v := .int .i64 ((l.length : Nat) : Int)) rfl rfl rfl (blt_len Try.underlying22) rfl fun ac hs => ?_))
            refine lstep (wpO_plain rfl (op_bin hs none (v := .bool (decide (l.length ≤ 75))) rfl rfl rfl rfl (fun _ => rfl) (bin_leqN (x := l.length) (y := 75)) rfl fun ac hs => ?_))
            refine wpList_nil ?_
            refine then_n ?_
            refine wp_cond_split (hs.ev rfl) (fun hc => ?_) (fun hc => ?_)
            · skip
              have hp13 := of_decide_eq_true hc
              replace hs : St 48 ⟨w0, [], [(true, .cel (.slice ad l.length c) l.length (bcs l))], Z, noX⟩ [(0, true, .slice ad l.length c), (2, true, .pointer (some ⟨g1, 0, none⟩)), (3, true, .int .u8 76)] [(true, g1, 25, [.int .u8 0, .slice none 0 0])] ac _ := hs.re ⟨rfl, rfl, rfl, trivial⟩
              refine wp_region_lit ?_
              refine lstep (wpO_plain rfl (op_move hs none rfl rfl rfl rfl fun ac hs => ?_))
              refine lstep (wpO_plain rfl (op_blt hs none (v := .int .i64 ((l.length : Nat) : Int)) rfl rfl rfl (blt_len Try.underlying22) rfl fun ac hs => ?_))
              refine lstep (wpO_plain rfl (op_convert hs none (v := .int .u8 ((l.length % 256 : Nat) : Int)) rfl rfl rfl (conv_M (z := l.length % 256) rfl Try.underlying3 Try.underlying5 rfl) rfl fun ac hs => ?_))
              refine lstep (wpO_plain rfl (op_assign hs none rfl rfl rfl rfl fun ac hs => ?_))
              refine wpList_nil ?_
              refine then_n ?_
              refine wp_seq ?_
              refine wp_region_lit ?_
              refine lstep (wpO_plain rfl (op_move hs none rfl rfl rfl rfl fun ac hs => ?_))
              refine lstep (wpO_plain rfl (op_bsO0 hs none none (size := 1) rfl rfl Try.underlying22 inf_u8_5 rfl rfl fun ad15 ac w hs => ?_))
              refine lstep (wpO_plain rfl (op_move hs none rfl rfl rfl rfl fun ac hs => ?_))
              refine lstep (wpO_plain rfl (op_appR hs none 1 0 (N' := l.length) (ys := bcs l) rfl rfl rfl rfl rfl rfl Try.underlying22 inf_u8_5 rfl (by decide) (bcs_len1 rfl) (bcs_one _) (by decide) (show 0 + l.length ≤ 1000000 by omega) (Nat.zero_add _) rfl rfl rfl fun ad16 cp17 ac w hs => ?_))
              refine lstep (wpO_plain rfl (op_build hs none (qs := [(0, .int .u8 ((l.length % 256 : Nat) : Int)), (1, .slice ad16 l.length cp17)]) (v := .agg #[.int .u8 ((l.length % 256 : Nat) : Int), .slice ad16 l.length cp17]) rfl rfl rfl rfl (fun _ => by kernel_rfl) rfl fun ac hs => ?_))
              refine lstep (wpO_plain rfl (op_store hs 0 (vs := [.int .u8 ((l.length % 256 : Nat) : Int), .slice ad16 l.length cp17]) rfl rfl rfl rfl rfl Try.sizeOf25 rfl rfl rfl rfl rfl fun w hs => ?_))
              refine wpList_nil ?_
              refine then_n ?_
              refine wp_ret ?_
              replace hs := hs.freeze 1 rfl
              exact bodyPost_ret (res1 rfl (rv_c hs 0 (v := .agg #[.int .u8 ((l.length % 256 : Nat) : Int), .slice ad16 l.length cp17]) rfl rfl Try.isAgg25 Try.sizeOf25 rfl)) hs.defers ⟨⟨ad16, cp17⟩, by have hm : l.length % 256 = l.length := Nat.mod_eq_of_lt (by omega); obtain ⟨rfl, rfl⟩ := Prod.mk.inj ((pushW_a (by omega) (by omega) (by omega)).symm.trans hW); rw [hm], hs.bel rfl, by obtain ⟨rfl, rfl⟩ := Prod.mk.inj ((pushW_a (by omega) (by omega) (by omega)).symm.trans hW); exact hs.ret1 1 rfl⟩
            · skip
              have hp18 := of_decide_eq_false hc
              refine wp_skip ?_
              refine then_n ?_
              refine wp_seq ?_
              replace hs : St 48 ⟨w0, [], [(true, .cel (.slice ad l.length c) l.length (bcs l))], Z, noX⟩ [(0, true, .slice ad l.length c), (2, true, .pointer (some ⟨g1, 0, none⟩)), (3, true, .int .u8 76)] [(true, g1, 25, [.int .u8 0, .slice none 0 0])] ac _ := hs.re ⟨rfl, rfl, rfl, trivial⟩
              refine wp_region_lit ?_
              refine lstep (wpO_plain rfl (op_move hs none rfl rfl rfl rfl fun ac hs => ?_))
              refine lstep (wpO_plain rfl (op_bsO0 hs none none (size := 1) rfl rfl Try.underlying22 inf_u8_5 rfl rfl fun ad20 ac w hs => ?_))
              refine lstep (wpO_plain rfl (op_move hs none rfl rfl rfl rfl fun ac hs => ?_))
              refine lstep (wpO_plain rfl (op_appR hs none 1 0 (N' := l.length) (ys := bcs l) rfl rfl rfl rfl rfl rfl Try.underlying22 inf_u8_5 rfl (by decide) (bcs_len1 rfl) (bcs_one _) (by decide) (show 0 + l.length ≤ 1000000 by omega) (Nat.zero_add _) rfl rfl rfl fun ad21 cp22 ac w hs => ?_))
              refine lstep (wpO_plain rfl (op_build hs none (qs := [(0, .int .u8 76), (1, .slice ad21 l.length cp22)]) (v := .agg #[.int .u8 76, .slice ad21 l.length cp22]) rfl rfl rfl rfl (fun _ => by kernel_rfl) rfl fun ac hs => ?_))
              refine lstep (wpO_plain rfl (op_store hs 0 (vs := [.int .u8 76, .slice ad21 l.length cp22]) rfl rfl rfl rfl rfl Try.sizeOf25 rfl rfl rfl rfl rfl fun w hs => ?_))
              refine wpList_nil ?_
              refine then_n ?_
              refine wp_ret ?_
              replace hs := hs.freeze 1 rfl
              exact bodyPost_ret (res1 rfl (rv_c hs 0 (v := .agg #[.int .u8 76, .slice ad21 l.length cp22]) rfl rfl Try.isAgg25 Try.sizeOf25 rfl)) hs.defers ⟨⟨ad21, cp22⟩, by obtain ⟨rfl, rfl⟩ := Prod.mk.inj ((pushW_b (by omega) (by omega) (by omega) (by omega)).symm.trans hW); rfl, hs.bel rfl, by obtain ⟨rfl, rfl⟩ := Prod.mk.inj ((pushW_b (by omega) (by omega) (by omega) (by omega)).symm.trans hW); exact hs.ret1 1 rfl⟩
          · skip
            have hp23 := of_decide_eq_false hc
            refine wp_skip ?_
            refine then_n ?_
            refine wp_seq ?_
            refine wp_seq ?_
            refine wp_region_lit ?_
            refine lstep (wpO_plain rfl (op_move hs none rfl rfl rfl rfl fun ac hs => ?_))
            refine lstep (wpO_plain rfl (op_blt hs none (v := .int .i64 ((l.length : Nat) : Int)) rfl rfl rfl (blt_len Try.underlying22) rfl fun ac hs => ?_))
            refine lstep (wpO_plain rfl (op_bin hs none (v := .bool (decide (l.length ≤ 75))) rfl rfl rfl rfl (fun _ => rfl) (bin_leqN (x := l.length) (y := 75)) rfl fun ac hs => ?_))
            refine wpList_nil ?_
            refine then_n ?_
            refine wp_cond_split (hs.ev rfl) (fun hc => ?_) (fun hc => ?_)
            · skip
              have hp24 := of_decide_eq_true hc
              replace hs : St 48 ⟨w0, [], [(true, .cel (.slice ad l.length c) l.length (bcs l))], Z, noX⟩ [(0, true, .slice ad l.length c), (2, true, .pointer (some ⟨g1, 0, none⟩)), (3, true, .int .u8 77)] [(true, g1, 25, [.int .u8 0, .slice none 0 0])] ac _ := hs.re ⟨rfl, rfl, rfl, trivial⟩
              refine wp_region_lit ?_
              refine lstep (wpO_plain rfl (op_move hs none rfl rfl rfl rfl fun ac hs => ?_))
              refine lstep (wpO_plain rfl (op_blt hs none (v := .int .i64 ((l.length : Nat) : Int)) rfl rfl rfl (blt_len Try.underlying22) rfl fun ac hs => ?_))
              refine lstep (wpO_plain rfl (op_convert hs none (v := .int .u8 ((l.length % 256 : Nat) : Int)) rfl rfl rfl (conv_M (z := l.length % 256) rfl Try.underlying3 Try.underlying5 rfl) rfl fun ac hs => ?_))
              refine lstep (wpO_plain rfl (op_assign hs none rfl rfl rfl rfl fun ac hs => ?_))
              refine wpList_nil ?_
              refine then_n ?_
              refine wp_seq ?_
              refine wp_region_lit ?_
              refine lstep (wpO_plain rfl (op_move hs none rfl rfl rfl rfl fun ac hs => ?_))
              refine lstep (wpO_plain rfl (op_bsO0 hs none none (size := 1) rfl rfl Try.underlying22 inf_u8_5 rfl rfl fun ad26 ac w hs => ?_))
              refine lstep (wpO_plain rfl (op_move hs none rfl rfl rfl rfl fun ac hs => ?_))
              refine lstep (wpO_plain rfl (op_appR hs none 1 0 (N' := l.length) (ys := bcs l) rfl rfl rfl rfl rfl rfl Try.underlying22 inf_u8_5 rfl (by decide) (bcs_len1 rfl) (bcs_one _) (by decide) (show 0 + l.length ≤ 1000000 by omega) (Nat.zero_add _) rfl rfl rfl fun ad27 cp28 ac w hs => ?_))
              refine lstep (wpO_plain rfl (op_build hs none (qs := [(0, .int .u8 ((l.length % 256 : Nat) : Int)), (1, .slice ad27 l.length cp28)]) (v := .agg #[.int .u8 ((l.length % 256 : Nat) : Int), .slice ad27 l.length cp28]) rfl rfl rfl rfl (fun _ => by kernel_rfl) rfl fun ac hs => ?_))
              refine lstep (wpO_plain rfl (op_store hs 0 (vs := [.int .u8 ((l.length % 256 : Nat) : Int), .slice ad27 l.length cp28]) rfl rfl rfl rfl rfl Try.sizeOf25 rfl rfl rfl rfl rfl fun w hs => ?_))
              refine wpList_nil ?_
              refine then_n ?_
              refine wp_ret ?_
              replace hs := hs.freeze 1 rfl
              exact bodyPost_ret (res1 rfl (rv_c hs 0 (v := .agg #[.int .u8 ((l.length % 256 : Nat) : Int), .slice ad27 l.length cp28]) rfl rfl Try.isAgg25 Try.sizeOf25 rfl)) hs.defers ⟨⟨ad27, cp28⟩, by have hm : l.length % 256 = l.length := Nat.mod_eq_of_lt (by omega); obtain ⟨rfl, rfl⟩ := Prod.mk.inj ((pushW_a (by omega) (by omega) (by omega)).symm.trans hW); rw [hm], hs.bel rfl, by obtain ⟨rfl, rfl⟩ := Prod.mk.inj ((pushW_a (by omega) (by omega) (by omega)).symm.trans hW); exact hs.ret1 1 rfl⟩
            · skip
              have hp29 := of_decide_eq_false hc
              refine wp_skip ?_
              refine then_n ?_
              refine wp_seq ?_
              replace hs : St 48 ⟨w0, [], [(true, .cel (.slice ad l.length c) l.length (bcs l))], Z, noX⟩ [(0, true, .slice ad l.length c), (2, true, .pointer (some ⟨g1, 0, none⟩)), (3, true, .int .u8 77)] [(true, g1, 25, [.int .u8 0, .slice none 0 0])] ac _ := hs.re ⟨rfl, rfl, rfl, trivial⟩
              refine wp_region_lit ?_
              refine lstep (wpO_plain rfl (op_move hs none rfl rfl rfl rfl fun ac hs => ?_))
              refine lstep (wpO_plain rfl (op_bsO0 hs none none (size := 1) rfl rfl Try.underlying22 inf_u8_5 rfl rfl fun ad31 ac w hs => ?_))
              refine lstep (wpO_plain rfl (op_move hs none rfl rfl rfl rfl fun ac hs => ?_))
              refine lstep (wpO_plain rfl (op_appR hs none 1 0 (N' := l.length) (ys := bcs l) rfl rfl rfl rfl rfl rfl Try.underlying22 inf_u8_5 rfl (by decide) (bcs_len1 rfl) (bcs_one _) (by decide) (show 0 + l.length ≤ 1000000 by omega) (Nat.zero_add _) rfl rfl rfl fun ad32 cp33 ac w hs => ?_))
              refine lstep (wpO_plain rfl (op_build hs none (qs := [(0, .int .u8 77), (1, .slice ad32 l.length cp33)]) (v := .agg #[.int .u8 77, .slice ad32 l.length cp33]) rfl rfl rfl rfl (fun _ => by kernel_rfl) rfl fun ac hs => ?_))
              refine lstep (wpO_plain rfl (op_store hs 0 (vs := [.int .u8 77, .slice ad32 l.length cp33]) rfl rfl rfl rfl rfl Try.sizeOf25 rfl rfl rfl rfl rfl fun w hs => ?_))
              refine wpList_nil ?_
              refine then_n ?_
              refine wp_ret ?_
              replace hs := hs.freeze 1 rfl
              exact bodyPost_ret (res1 rfl (rv_c hs 0 (v := .agg #[.int .u8 77, .slice ad32 l.length cp33]) rfl rfl Try.isAgg25 Try.sizeOf25 rfl)) hs.defers ⟨⟨ad32, cp33⟩, by obtain ⟨rfl, rfl⟩ := Prod.mk.inj ((pushW_c (by omega) (by omega) (by omega)).symm.trans hW); rfl, hs.bel rfl, by obtain ⟨rfl, rfl⟩ := Prod.mk.inj ((pushW_c (by omega) (by omega) (by omega)).symm.trans hW); exact hs.ret1 1 rfl⟩
    · skip
      refine wp_region_lit ?_
      refine lstep (wpO_plain rfl (op_move hs none rfl rfl rfl rfl fun ac hs => ?_))
      refine lstep (wpO_plain rfl (op_blt hs none (v := .int .i64 ((l.length : Nat) : Int)) rfl rfl rfl (blt_len Try.underlying22) rfl fun ac hs => ?_))
      refine lstep (wpO_plain rfl (op_bin hs none (v := .bool true) rfl rfl rfl rfl (fun _ => rfl) (fun w => dT hq2 (bin_eqlN (x := l.length) (y := 1) w)) rfl fun ac hs => ?_))
      refine lstep (wpO_plain rfl (op_move hs none rfl rfl rfl rfl fun ac hs => ?_))
      refine lstep (wpO_in hs rfl rfl rfl (op_move hs none rfl rfl rfl rfl fun ac hs => ?_))
      refine lstep (wpO_in hs rfl rfl rfl (op_idxC hs none 0 (j := 0) rfl rfl rfl rfl rfl Try.underlying22 Try.sizeOf5 (show 0 < l.length by omega) (off := 0) (by omega) rfl fun ac hs => ?_))
      have l34 := byt_lt l 0
      refine lstep (wpO_in hs rfl rfl rfl (op_loadC hs none 0 (u := .int .u8 ((byt l 0 : Nat) : Int)) rfl rfl rfl rfl Try.isAgg5 Try.sizeOf5 (by decide) (bcs_get (show 0 < l.length by omega)) rfl fun ac hs => ?_))
      refine lstep (wpO_in hs rfl rfl rfl (op_bin hs none (v := .bool false) rfl rfl rfl rfl (fun _ => rfl) (fun w => dF hq3 (bin_geqN (x := byt l 0) (y := 1) w)) rfl fun ac hs => ?_))
      refine lstep (wpO_plain rfl (op_pickT hs none rfl rfl rfl rfl rfl fun ac hs => ?_))
      refine lstep (wpO_plain rfl (op_move hs none rfl rfl rfl rfl fun ac hs => ?_))
      refine lstep (wpO_out hs none rfl rfl (.inl rfl) rfl rfl fun ac hs => ?_)
      refine lstep (wpO_out hs none rfl rfl (.inl rfl) rfl rfl fun ac hs => ?_)
      refine lstep (wpO_out hs none rfl rfl (.inl rfl) rfl rfl fun ac hs => ?_)
      refine lstep (wpO_out hs none rfl rfl (.inl rfl) rfl rfl fun ac hs => ?_)
      refine lstep (wpO_plain rfl (op_pickF hs none rfl rfl rfl rfl rfl fun ac hs => ?_))
      refine wpList_nil ?_
      refine then_n ?_
      refine wp_cond_false (hs.ev rfl) ?_
      refine wp_skip ?_
      refine then_n ?_
      refine wp_seq ?_
      refine wp_seq ?_
      replace hs : St 48 ⟨w0, [], [(true, .cel (.slice ad l.length c) l.length (bcs l))], Z, noX⟩ [(0, true, .slice ad l.length c), (2, true, .pointer (some ⟨g1, 0, none⟩))] [(true, g1, 25, [.int .u8 0, .slice none 0 0])] ac _ := hs.re ⟨rfl, rfl, trivial⟩
      refine wp_region_lit ?_
      refine lstep (wpO_plain rfl (op_move hs none rfl rfl rfl rfl fun ac hs => ?_))
      refine lstep (wpO_plain rfl (op_blt hs none (v := .int .i64 ((l.length : Nat) : Int)) rfl rfl rfl (blt_len Try.underlying22) rfl fun ac hs => ?_))
      refine lstep (wpO_plain rfl (op_bin hs none (v := .bool true) rfl rfl rfl rfl (fun _ => rfl) (fun w => dT hq2 (bin_eqlN (x := l.length) (y := 1) w)) rfl fun ac hs => ?_))
      refine lstep (wpO_plain rfl (op_move hs none rfl rfl rfl rfl fun ac hs => ?_))
      refine lstep (wpO_in hs rfl rfl rfl (op_move hs none rfl rfl rfl rfl fun ac hs => ?_))
      refine lstep (wpO_in hs rfl rfl rfl (op_idxC hs none 0 (j := 0) rfl rfl rfl rfl rfl Try.underlying22 Try.sizeOf5 (show 0 < l.length by omega) (off := 0) (by omega) rfl fun ac hs => ?_))
      have l35 := byt_lt l 0
      refine lstep (wpO_in hs rfl rfl rfl (op_loadC hs none 0 (u := .int .u8 ((byt l 0 : Nat) : Int)) rfl rfl rfl rfl Try.isAgg5 Try.sizeOf5 (by decide) (bcs_get (show 0 < l.length by omega)) rfl fun ac hs => ?_))
      refine lstep (wpO_in hs rfl rfl rfl (op_bin hs none (v := .bool (decide (byt l 0 = 129))) rfl rfl rfl rfl (fun _ => rfl) (bin_eqlN (x := byt l 0) (y := 129)) rfl fun ac hs => ?_))
      refine lstep (wpO_plain rfl (op_pickT hs none rfl rfl rfl rfl rfl fun ac hs => ?_))
      refine wpList_nil ?_
      refine then_n ?_
      refine wp_cond_split (hs.ev rfl) (fun hc => ?_) (fun hc => ?_)
      · skip
        have hp36 := of_decide_eq_true hc
        refine wp_seq ?_
        replace hs : St 48 ⟨w0, [], [(true, .cel (.slice ad l.length c) l.length (bcs l))], Z, noX⟩ [(0, true, .slice ad l.length c), (2, true, .pointer (some ⟨g1, 0, none⟩))] [(true, g1, 25, [.int .u8 0, .slice none 0 0])] ac _ := hs.re ⟨rfl, rfl, trivial⟩
        refine wp_region_lit ?_
        refine lstep (wpO_plain rfl (op_build hs none (qs := [(0, .int .u8 79)]) (v := .agg #[.int .u8 79, .slice none 0 0]) rfl rfl rfl rfl (fun _ => by kernel_rfl) rfl fun ac hs => ?_))
        refine lstep (wpO_plain rfl (op_store hs 0 (vs := [.int .u8 79, .slice none 0 0]) rfl rfl rfl rfl rfl Try.sizeOf25 rfl rfl rfl rfl rfl fun w hs => ?_))
        refine wpList_nil ?_
        refine then_n ?_
        refine wp_ret ?_
        refine then_r ?_
        exact bodyPost_ret (res1 rfl (rv_c hs 0 (v := .agg #[.int .u8 79, .slice none 0 0]) rfl rfl Try.isAgg25 Try.sizeOf25 rfl)) hs.defers ⟨⟨none, 0⟩, by obtain ⟨rfl, rfl⟩ := Prod.mk.inj ((pushW_2 (by omega) (by omega)).symm.trans hW); rfl, hs.bel rfl, by obtain ⟨rfl, rfl⟩ := Prod.mk.inj ((pushW_2 (by omega) (by omega)).symm.trans hW); exact okl1 celv_nil⟩
      · skip
        have hp37 := of_decide_eq_false hc
        refine wp_skip ?_
        refine then_n ?_
        refine wp_seq ?_
        replace hs : St 48 ⟨w0, [], [(true, .cel (.slice ad l.length c) l.length (bcs l))], Z, noX⟩ [(0, true, .slice ad l.length c), (2, true, .pointer (some ⟨g1, 0, none⟩))] [(true, g1, 25, [.int .u8 0, .slice none 0 0])] ac _ := hs.re ⟨rfl, rfl, trivial⟩
        refine wp_region_lit ?_
        refine lstep (wpO_plain rfl (op_assign hs none rfl rfl rfl rfl fun ac hs => ?_))
        refine wpList_nil ?_
        refine then_n ?_
        refine wp_seq ?_
        refine wp_seq ?_
        refine wp_region_lit ?_
        refine lstep (wpO_plain rfl (op_move hs none rfl rfl rfl rfl fun ac hs => ?_))
        refine lstep (wpO_plain rfl (op_blt hs none (v := .int .i64 ((l.length : Nat) : Int)) rfl rfl rfl (blt_len Try.underlying22) rfl fun ac hs => ?_))
        refine lstep (wpO_plain rfl (op_bin hs none (v := .bool (decide (l.length ≤ 255))) rfl rfl rfl rfl (fun _ => rfl) (bin_leqN (x := l.length) (y := 255)) rfl fun ac hs => ?_))
        refine wpList_nil ?_
        refine then_n ?_
        refine wp_cond_split (hs.ev rfl) (fun hc => ?_) (fun hc => ?_)
        · skip
          have hp38 := of_decide_eq_true hc
          refine wp_region_lit ?_
          refine lstep (wpO_plain rfl (op_assign hs none rfl rfl rfl rfl fun ac hs => ?_))
          refine wpList_nil ?_
          refine then_n ?_
          refine wp_seq ?_
          refine wp_seq ?_
          refine wp_region_lit ?_
          refine lstep (wpO_plain rfl (op_move hs none rfl rfl rfl rfl fun ac hs => ?_))
          refine lstep (wpO_plain rfl (op_blt hs none (v := .int .i64 ((l.length : Nat) : Int)) rfl rfl rfl (blt_len Try.underlying22) rfl fun ac hs => ?_))
          refine lstep (wpO_plain rfl (op_bin hs none (v := .bool (decide (l.length ≤ 75))) rfl rfl rfl rfl (fun _ => rfl) (bin_leqN (x := l.length) (y := 75)) rfl fun ac hs => ?_))
          refine wpList_nil ?_
          refine then_n ?_
          refine wp_cond_split (hs.ev rfl) (fun hc => ?_) (fun hc => ?_)
          · skip
            have hp39 := of_decide_eq_true hc
            replace hs : St 48 ⟨w0, [], [(true, .cel (.slice ad l.length c) l.length (bcs l))], Z, noX⟩ [(0, true, .slice ad l.length c), (2, true, .pointer (some ⟨g1, 0, none⟩)), (3, true, .int .u8 76)] [(true, g1, 25, [.int .u8 0, .slice none 0 0])] ac _ := hs.re ⟨rfl, rfl, rfl, trivial⟩
            refine wp_region_lit ?_
            refine lstep (wpO_plain rfl (op_move hs none rfl rfl rfl rfl fun ac hs => ?_))
            refine lstep (wpO_plain rfl (op_blt hs none (v := .int .i64 ((l.length : Nat) : Int)) rfl rfl rfl (blt_len Try.underlying22) rfl fun ac hs => ?_))
            refine lstep (wpO_plain rfl (op_convert hs none (v := .int .u8 ((l.length % 256 : Nat) : Int)) rfl rfl rfl (conv_M (z := l.length % 256) rfl Try.underlying3 Try.underlying5 rfl) rfl fun ac hs => ?_))
            refine lstep (wpO_plain rfl (op_assign hs none rfl rfl rfl rfl fun ac hs => ?_))
            refine wpList_nil ?_
            refine then_n ?_
            refine wp_seq ?_
            refine wp_region_lit ?_
            refine lstep (wpO_plain rfl (op_move hs none rfl rfl rfl rfl fun ac hs => ?_))
            refine lstep (wpO_plain rfl (op_bsO0 hs none none (size := 1) rfl rfl Try.underlying22 inf_u8_5 rfl rfl fun ad41 ac w hs => ?_))
            refine lstep (wpO_plain rfl (op_move hs none rfl rfl rfl rfl fun ac hs => ?_))
            refine lstep (wpO_plain rfl (op_appR hs none 1 0 (N' := l.length) (ys := bcs l) rfl rfl rfl rfl rfl rfl Try.underlying22 inf_u8_5 rfl (by decide) (bcs_len1 rfl) (bcs_one _) (by decide) (show 0 + l.length ≤ 1000000 by omega) (Nat.zero_add _) rfl rfl rfl fun ad42 cp43 ac w hs => ?_))
            refine lstep (wpO_plain rfl (op_build hs none (qs := [(0, .int .u8 ((l.length % 256 : Nat) : Int)), (1, .slice ad42 l.length cp43)]) (v := .agg #[.int .u8 ((l.length % 256 : Nat) : Int), .slice ad42 l.length cp43]) rfl rfl rfl rfl (fun _ => by kernel_rfl) rfl fun ac hs => ?_))
            refine lstep (wpO_plain rfl (op_store hs 0 (vs := [.int .u8 ((l.length % 256 : Nat) : Int), .slice ad42 l.length cp43]) rfl rfl rfl rfl rfl Try.sizeOf25 rfl rfl rfl rfl rfl fun w hs => ?_))
            refine wpList_nil ?_
            refine then_n ?_
            refine wp_ret ?_
            replace hs := hs.freeze 1 rfl
            exact bodyPost_ret (res1 rfl (rv_c hs 0 (v := .agg #[.int .u8 ((l.length % 256 : Nat) : Int), .slice ad42 l.length cp43]) rfl rfl Try.isAgg25 Try.sizeOf25 rfl)) hs.defers ⟨⟨ad42, cp43⟩, by have hm : l.length % 256 = l.length := Nat.mod_eq_of_lt (by omega); obtain ⟨rfl, rfl⟩ := Prod.mk.inj ((pushW_a (by omega) (by omega) (by omega)).symm.trans hW); rw [hm], hs.bel rfl, by obtain ⟨rfl, rfl⟩ := Prod.mk.inj ((pushW_a (by omega) (by omega) (by omega)).symm.trans hW); exact hs.ret1 1 rfl⟩
          · skip
            have hp44 := of_decide_eq_false hc
            refine wp_skip ?_
            refine then_n ?_
            refine wp_seq ?_
            replace hs : St 48 ⟨w0, [], [(true, .cel (.slice ad l.length c) l.length (bcs l))], Z, noX⟩ [(0, true, .slice ad l.length c), (2, true, .pointer (some ⟨g1, 0, none⟩)), (3, true, .int .u8 76)] [(true, g1, 25, [.int .u8 0, .slice none 0 0])] ac _ := hs.re ⟨rfl, rfl, rfl, trivial⟩
            refine wp_region_lit ?_
            refine lstep (wpO_plain rfl (op_move hs none rfl rfl rfl rfl fun ac hs => ?_))
            refine lstep (wpO_plain rfl (op_bsO0 hs none none (size := 1) rfl rfl Try.underlying22 inf_u8_5 rfl rfl fun ad46 ac w hs => ?_))
            refine lstep (wpO_plain rfl (op_move hs none rfl rfl rfl rfl fun ac hs => ?_))
            refine lstep (wpO_plain rfl (op_appR hs none 1 0 (N' := l.length) (ys := bcs l) rfl rfl rfl rfl rfl rfl Try.underlying22 inf_u8_5 rfl (by decide) (bcs_len1 rfl) (bcs_one _) (by decide) (show 0 + l.length ≤ 1000000 by omega) (Nat.zero_add _) rfl rfl rfl fun ad47 cp48 ac w hs => ?_))
            refine lstep (wpO_plain rfl (op_build hs none (qs := [(0, .int .u8 76), (1, .slice ad47 l.length cp48)]) (v := .agg #[.int .u8 76, .slice ad47 l.length cp48]) rfl rfl rfl rfl (fun _ => by kernel_rfl) rfl fun ac hs => ?_))
            refine lstep (wpO_plain rfl (op_store hs 0 (vs := [.int .u8 76, .slice ad47 l.length cp48]) rfl rfl rfl rfl rfl Try.sizeOf25 rfl rfl rfl rfl rfl fun w hs => ?_))
            refine wpList_nil ?_
            refine then_n ?_
            refine wp_ret ?_
            replace hs := hs.freeze 1 rfl
            exact bodyPost_ret (res1 rfl (rv_c hs 0 (v := .agg #[.int .u8 76, .slice ad47 l.length cp48]) rfl rfl Try.isAgg25 Try.sizeOf25 rfl)) hs.defers ⟨⟨ad47, cp48⟩, by obtain ⟨rfl, rfl⟩ := Prod.mk.inj ((pushW_b (by omega) (by omega) (by omega) (by omega)).symm.trans hW); rfl, hs.bel rfl, by obtain ⟨rfl, rfl⟩ := Prod.mk.inj ((pushW_b (by omega) (by omega) (by omega) (by omega)).symm.trans hW); exact hs.ret1 1 rfl⟩
        · skip
          have hp49 := of_decide_eq_false hc
          refine wp_skip ?_
          refine then_n ?_
          refine wp_seq ?_
          refine wp_seq ?_
          refine wp_region_lit ?_
          refine lstep (wpO_plain rfl (op_move hs none rfl rfl rfl rfl fun ac hs => ?_))
          refine lstep (wpO_plain rfl (op_blt hs none (v := .int .i64 ((l.length : Nat) : Int)) rfl rfl rfl (blt_len Try.underlying22) rfl fun ac hs => ?_))
          refine lstep (wpO_plain rfl (op_bin hs none (v := .bool (decide (l.length ≤ 75))) rfl rfl rfl rfl (fun _ => rfl) (bin_leqN (x := l.length) (y := 75)) rfl fun ac hs => ?_))
          refine wpList_nil ?_
          refine then_n ?_
          refine wp_cond_split (hs.ev rfl) (fun hc => ?_) (fun hc => ?_)
          · skip
            have hp50 := of_decide_eq_true hc
            replace hs : St 48 ⟨w0, [], [(true, .cel (.slice ad l.length c) l.length (bcs l))], Z, noX⟩ [(0, true, .slice ad l.length c), (2, true, .pointer (some ⟨g1, 0, none⟩)), (3, true, .int .u8 77)] [(true, g1, 25, [.int .u8 0, .slice none 0 0])] ac _ := hs.re ⟨rfl, rfl, rfl, trivial⟩
            refine wp_region_lit ?_
            refine lstep (wpO_plain rfl (op_move hs none rfl rfl rfl rfl fun ac hs => ?_))
            refine lstep (wpO_plain rfl (op_blt hs none (v := .int .i64 ((l.length : Nat) : Int)) rfl rfl rfl (blt_len Try.underlying22) rfl fun ac hs => ?_))
            refine lstep (wpO_plain rfl (op_convert hs none (v := .int .u8 ((l.length % 256 : Nat) : Int)) rfl rfl rfl (conv_M (z := l.length % 256) rfl Try.underlying3 Try.underlying5 rfl) rfl fun ac hs => ?_))
            refine lstep (wpO_plain rfl (op_assign hs none rfl rfl rfl rfl fun ac hs => ?_))
            refine wpList_nil ?_
            refine then_n ?_
            refine wp_seq ?_
            refine wp_region_lit ?_
            refine lstep (wpO_plain rfl (op_move hs none rfl rfl rfl rfl fun ac hs => ?_))
            refine lstep (wpO_plain rfl (op_bsO0 hs none none (size := 1) rfl rfl Try.underlying22 inf_u8_5 rfl rfl fun ad52 ac w hs => ?_))
            refine lstep (wpO_plain rfl (op_move hs none rfl rfl rfl rfl fun ac hs => ?_))
            refine lstep (wpO_plain rfl (op_appR hs none 1 0 (N' := l.length) (ys := bcs l) rfl rfl rfl rfl rfl rfl Try.underlying22 inf_u8_5 rfl (by decide) (bcs_len1 rfl) (bcs_one _) (by decide) (show 0 + l.length ≤ 1000000 by omega) (Nat.zero_add _) rfl rfl rfl fun ad53 cp54 ac w hs => ?_))
            refine lstep (wpO_plain rfl (op_build hs none (qs := [(0, .int .u8 ((l.length % 256 : Nat) : Int)), (1, .slice ad53 l.length cp54)]) (v := .agg #[.int .u8 ((l.length % 256 : Nat) : Int), .slice ad53 l.length cp54]) rfl rfl rfl rfl (fun _ => by kernel_rfl) rfl fun ac hs => ?_))
            refine lstep (wpO_plain rfl (op_store hs 0 (vs := [.int .u8 ((l.length % 256 : Nat) : Int), .slice ad53 l.length cp54]) rfl rfl rfl rfl rfl Try.sizeOf25 rfl rfl rfl rfl rfl fun w hs => ?_))
            refine wpList_nil ?_
            refine then_n ?_
            refine wp_ret ?_
            replace hs := hs.freeze 1 rfl
            exact bodyPost_ret (res1 rfl (rv_c hs 0 (v := .agg #[.int .u8 ((l.length % 256 : Nat) : Int), .slice ad53 l.length cp54]) rfl rfl Try.isAgg25 Try.sizeOf25 rfl)) hs.defers ⟨⟨ad53, cp54⟩, by have hm : l.length % 256 = l.length := Nat.mod_eq_of_lt (by omega); obtain ⟨rfl, rfl⟩ := Prod.mk.inj ((pushW_a (by omega) (by omega) (by omega)).symm.trans hW); rw [hm], hs.bel rfl, by obtain ⟨rfl, rfl⟩ := Prod.mk.inj ((pushW_a (by omega) (by omega) (by omega)).symm.trans hW); exact hs.ret1 1 rfl⟩
          · skip
            have hp55 := of_decide_eq_false hc
            refine wp_skip ?_
            refine then_n ?_
            refine wp_seq ?_
            replace hs : St 48 ⟨w0, [], [(true, .cel (.slice ad l.length c) l.length (bcs l))], Z, noX⟩ [(0, true, .slice ad l.length c), (2, true, .pointer (some ⟨g1, 0, none⟩)), (3, true, .int .u8 77)] [(true, g1, 25, [.int .u8 0, .slice none 0 0])] ac _ := hs.re ⟨rfl, rfl, rfl, trivial⟩
            refine wp_region_lit ?_
            refine lstep (wpO_plain rfl (op_move hs none rfl rfl rfl rfl fun ac hs => ?_))
            refine lstep (wpO_plain rfl (op_bsO0 hs none none (size := 1) rfl rfl Try.underlying22 inf_u8_5 rfl rfl fun ad57 ac w hs => ?_))
            refine lstep (wpO_plain rfl (op_move hs none rfl rfl rfl rfl fun ac hs => ?_))
            refine lstep (wpO_plain rfl (op_appR hs none 1 0 (N' := l.length) (ys := bcs l) rfl rfl rfl rfl rfl rfl Try.underlying22 inf_u8_5 rfl (by decide) (bcs_len1 rfl) (bcs_one _) (by decide) (show 0 + l.length ≤ 1000000 by omega) (Nat.zero_add _) rfl rfl rfl fun ad58 cp59 ac w hs => ?_))
            refine lstep (wpO_plain rfl (op_build hs none (qs := [(0, .int .u8 77), (1, .slice ad58 l.length cp59)]) (v := .agg #[.int .u8 77, .slice ad58 l.length cp59]) rfl rfl rfl rfl (fun _ => by kernel_rfl) rfl fun ac hs => ?_))
            refine lstep (wpO_plain rfl (op_store hs 0 (vs := [.int .u8 77, .slice ad58 l.length cp59]) rfl rfl rfl rfl rfl Try.sizeOf25 rfl rfl rfl rfl rfl fun w hs => ?_))
            refine wpList_nil ?_
            refine then_n ?_
            refine wp_ret ?_
            replace hs := hs.freeze 1 rfl
            exact bodyPost_ret (res1 rfl (rv_c hs 0 (v := .agg #[.int .u8 77, .slice ad58 l.length cp59]) rfl rfl Try.isAgg25 Try.sizeOf25 rfl)) hs.defers ⟨⟨ad58, cp59⟩, by obtain ⟨rfl, rfl⟩ := Prod.mk.inj ((pushW_c (by omega) (by omega) (by omega)).symm.trans hW); rfl, hs.bel rfl, by obtain ⟨rfl, rfl⟩ := Prod.mk.inj ((pushW_c (by omega) (by omega) (by omega)).symm.trans hW); exact hs.ret1 1 rfl⟩
  · skip
    refine wp_region_lit ?_
    refine lstep (wpO_plain rfl (op_move hs none rfl rfl rfl rfl fun ac hs => ?_))
    refine lstep (wpO_plain rfl (op_blt hs none (v := .int .i64 ((l.length : Nat) : Int)) rfl rfl rfl (blt_len Try.underlying22) rfl fun ac hs => ?_))
    refine lstep (wpO_plain rfl (op_bin hs none (v := .bool false) rfl rfl rfl rfl (fun _ => rfl) (fun w => dF hq2 (bin_eqlN (x := l.length) (y := 1) w)) rfl fun ac hs => ?_))
    refine lstep (wpO_plain rfl (op_move hs none rfl rfl rfl rfl fun ac hs => ?_))
    refine lstep (wpO_out hs none rfl rfl (.inl rfl) rfl rfl fun ac hs => ?_)
    refine lstep (wpO_out hs none rfl rfl (.inl rfl) rfl rfl fun ac hs => ?_)
    refine lstep (wpO_out hs none rfl rfl (.inl rfl) rfl rfl fun ac hs => ?_)
    refine lstep (wpO_out hs none rfl rfl (.inl rfl) rfl rfl fun ac hs => ?_)
    refine lstep (wpO_plain rfl (op_pickF hs none rfl rfl rfl rfl rfl fun ac hs => ?_))
    refine lstep (wpO_plain rfl (op_move hs none rfl rfl rfl rfl fun ac hs => ?_))
    refine lstep (wpO_out hs none rfl rfl (.inl rfl) rfl rfl fun ac hs => ?_)
    refine lstep (wpO_out hs none rfl rfl (.inl rfl) rfl rfl fun ac hs => ?_)
    refine lstep (wpO_out hs none rfl rfl (.inl rfl) rfl rfl fun ac hs => ?_)
    refine lstep (wpO_out hs none rfl rfl (.inl rfl) rfl rfl fun ac hs => ?_)
    refine lstep (wpO_plain rfl (op_pickF hs none rfl rfl rfl rfl rfl fun ac hs => ?_))
    refine wpList_nil ?_
    refine then_n ?_
    refine wp_cond_false (hs.ev rfl) ?_
    refine wp_skip ?_
    refine then_n ?_
    refine wp_seq ?_
    refine wp_seq ?_
    replace hs : St 48 ⟨w0, [], [(true, .cel (.slice ad l.length c) l.length (bcs l))], Z, noX⟩ [(0, true, .slice ad l.length c), (2, true, .pointer (some ⟨g1, 0, none⟩))] [(true, g1, 25, [.int .u8 0, .slice none 0 0])] ac _ := hs.re ⟨rfl, rfl, trivial⟩
    refine wp_region_lit ?_
    refine lstep (wpO_plain rfl (op_move hs none rfl rfl rfl rfl fun ac hs => ?_))
    refine lstep (wpO_plain rfl (op_blt hs none (v := .int .i64 ((l.length : Nat) : Int)) rfl rfl rfl (blt_len Try.underlying22) rfl fun ac hs => ?_))
    refine lstep (wpO_plain rfl (op_bin hs none (v := .bool false) rfl rfl rfl rfl (fun _ => rfl) (fun w => dF hq2 (bin_eqlN (x := l.length) (y := 1) w)) rfl fun ac hs => ?_))
    refine lstep (wpO_plain rfl (op_move hs none rfl rfl rfl rfl fun ac hs => ?_))
    refine lstep (wpO_out hs none rfl rfl (.inl rfl) rfl rfl fun ac hs => ?_)
    refine lstep (wpO_out hs none rfl rfl (.inl rfl) rfl rfl fun ac hs => ?_)
    refine lstep (wpO_out hs none rfl rfl (.inl rfl) rfl rfl fun ac hs => ?_)
    refine lstep (wpO_out hs none rfl rfl (.inl rfl) rfl rfl fun ac hs => ?_)
    refine lstep (wpO_plain rfl (op_pickF hs none rfl rfl rfl rfl rfl fun ac hs => ?_))
    refine wpList_nil ?_
    refine then_n ?_
    refine wp_cond_false (hs.ev rfl) ?_
    refine wp_skip ?_
    refine then_n ?_
    refine wp_seq ?_
    refine wp_region_lit ?_
    refine lstep (wpO_plain rfl (op_assign hs none rfl rfl rfl rfl fun ac hs => ?_))
    refine wpList_nil ?_
    refine then_n ?_
    refine wp_seq ?_
    refine wp_seq ?_
    replace hs : St 48 ⟨w0, [], [(true, .cel (.slice ad l.length c) l.length (bcs l))], Z, noX⟩ [(0, true, .slice ad l.length c), (2, true, .pointer (some ⟨g1, 0, none⟩)), (3, true, .int .u8 77)] [(true, g1, 25, [.int .u8 0, .slice none 0 0])] ac _ := hs.re ⟨rfl, rfl, rfl, trivial⟩
    refine wp_region_lit ?_
    refine lstep (wpO_plain rfl (op_move hs none rfl rfl rfl rfl fun ac hs => ?_))
    refine lstep (wpO_plain rfl (op_blt hs none (v := .int .i64 ((l.length : Nat) : Int)) rfl rfl rfl (blt_len Try.underlying22) rfl fun ac hs => ?_))
    refine lstep (wpO_plain rfl (op_bin hs none (v := .bool (decide (l.length ≤ 255))) rfl rfl rfl rfl (fun _ => rfl) (bin_leqN (x := l.length) (y := 255)) rfl fun ac hs => ?_))
    refine wpList_nil ?_
    refine then_n ?_
    refine wp_cond_split (hs.ev rfl) (fun hc => ?_) (fun hc => ?_)
    · skip
      have hp60 := of_decide_eq_true hc
      refine wp_region_lit ?_
      refine lstep (wpO_plain rfl (op_assign hs none rfl rfl rfl rfl fun ac hs => ?_))
      refine wpList_nil ?_
      refine then_n ?_
      refine wp_seq ?_
      refine wp_seq ?_
      refine wp_region_lit ?_
      refine lstep (wpO_plain rfl (op_move hs none rfl rfl rfl rfl fun ac hs => ?_))
      refine lstep (wpO_plain rfl (op_blt hs none (v := .int .i64 ((l.length : Nat) : Int)) rfl rfl rfl (blt_len Try.underlying22) rfl fun ac hs => ?_))
      refine lstep (wpO_plain rfl (op_bin hs none (v := .bool (decide (l.length ≤ 75))) rfl rfl rfl rfl (fun _ => rfl) (bin_leqN (x := l.length) (y := 75)) rfl fun ac hs => ?_))
      refine wpList_nil ?_
      refine then_n ?_
      refine wp_cond_split (hs.ev rfl) (fun hc => ?_) (fun hc => ?_)
      · skip
        have hp61 := of_decide_eq_true hc
        replace hs : St 48 ⟨w0, [], [(true, .cel (.slice ad l.length c) l.length (bcs l))], Z, noX⟩ [(0, true, .slice ad l.length c), (2, true, .pointer (some ⟨g1, 0, none⟩)), (3, true, .int .u8 76)] [(true, g1, 25, [.int .u8 0, .slice none 0 0])] ac _ := hs.re ⟨rfl, rfl, rfl, trivial⟩
        refine wp_region_lit ?_
        refine lstep (wpO_plain rfl (op_move hs none rfl rfl rfl rfl fun ac hs => ?_))
        refine lstep (wpO_plain rfl (op_blt hs none (v := .int .i64 ((l.length : Nat) : Int)) rfl rfl rfl (blt_len Try.underlying22) rfl fun ac hs => ?_))
        refine lstep (wpO_plain rfl (op_convert hs none (v := .int .u8 ((l.length % 256 : Nat) : Int)) rfl rfl rfl (conv_M (z := l.length % 256) rfl Try.underlying3 Try.underlying5 rfl) rfl fun ac hs => ?_))
        refine lstep (wpO_plain rfl (op_assign hs none rfl rfl rfl rfl fun ac hs => ?_))
        refine wpList_nil ?_
        refine then_n ?_
        refine wp_seq ?_
        refine wp_region_lit ?_
        refine lstep (wpO_plain rfl (op_move hs none rfl rfl rfl rfl fun ac hs => ?_))
        refine lstep (wpO_plain rfl (op_bsO0 hs none none (size := 1) rfl rfl Try.underlying22 inf_u8_5 rfl rfl fun ad63 ac w hs => ?_))
        refine lstep (wpO_plain rfl (op_move hs none rfl rfl rfl rfl fun ac hs => ?_))
        refine lstep (wpO_plain rfl (op_appR hs none 1 0 (N' := l.length) (ys := bcs l) rfl rfl rfl rfl rfl rfl Try.underlying22 inf_u8_5 rfl (by decide) (bcs_len1 rfl) (bcs_one _) (by decide) (show 0 + l.length ≤ 1000000 by omega) (Nat.zero_add _) rfl rfl rfl fun ad64 cp65 ac w hs => ?_))
        refine lstep (wpO_plain rfl (op_build hs none (qs := [(0, .int .u8 ((l.length % 256 : Nat) : Int)), (1, .slice ad64 l.length cp65)]) (v := .agg #[.int .u8 ((l.length % 256 : Nat) : Int), .slice ad64 l.length cp65]) rfl rfl rfl rfl (fun _ => by kernel_rfl) rfl fun ac hs => ?_))
        refine lstep (wpO_plain rfl (op_store hs 0 (vs := [.int .u8 ((l.length % 256 : Nat) : Int), .slice ad64 l.length cp65]) rfl rfl rfl rfl rfl Try.sizeOf25 rfl rfl rfl rfl rfl fun w hs => ?_))
        refine wpList_nil ?_
        refine then_n ?_
        refine wp_ret ?_
        replace hs := hs.freeze 1 rfl
        exact bodyPost_ret (res1 rfl (rv_c hs 0 (v := .agg #[.int .u8 ((l.length % 256 : Nat) : Int), .slice ad64 l.length cp65]) rfl rfl Try.isAgg25 Try.sizeOf25 rfl)) hs.defers ⟨⟨ad64, cp65⟩, by have hm : l.length % 256 = l.length := Nat.mod_eq_of_lt (by omega); obtain ⟨rfl, rfl⟩ := Prod.mk.inj ((pushW_a (by omega) (by omega) (by omega)).symm.trans hW); rw [hm], hs.bel rfl, by obtain ⟨rfl, rfl⟩ := Prod.mk.inj ((pushW_a (by omega) (by omega) (by omega)).symm.trans hW); exact hs.ret1 1 rfl⟩
      · skip
        have hp66 := of_decide_eq_false hc
        refine wp_skip ?_
        refine then_n ?_
        refine wp_seq ?_
        replace hs : St 48 ⟨w0, [], [(true, .cel (.slice ad l.length c) l.length (bcs l))], Z, noX⟩ [(0, true, .slice ad l.length c), (2, true, .pointer (some ⟨g1, 0, none⟩)), (3, true, .int .u8 76)] [(true, g1, 25, [.int .u8 0, .slice none 0 0])] ac _ := hs.re ⟨rfl, rfl, rfl, trivial⟩
        refine wp_region_lit ?_
        refine lstep (wpO_plain rfl (op_move hs none rfl rfl rfl rfl fun ac hs => ?_))
        refine lstep (wpO_plain rfl (op_bsO0 hs none none (size := 1) rfl rfl Try.underlying22 inf_u8_5 rfl rfl fun ad68 ac w hs => ?_))
        refine lstep (wpO_plain rfl (op_move hs none rfl rfl rfl rfl fun ac hs => ?_))
        refine lstep (wpO_plain rfl (op_appR hs none 1 0 (N' := l.length) (ys := bcs l) rfl rfl rfl rfl rfl rfl Try.underlying22 inf_u8_5 rfl (by decide) (bcs_len1 rfl) (bcs_one _) (by decide) (show 0 + l.length ≤ 1000000 by omega) (Nat.zero_add _) rfl rfl rfl fun ad69 cp70 ac w hs => ?_))
        refine lstep (wpO_plain rfl (op_build hs none (qs := [(0, .int .u8 76), (1, .slice ad69 l.length cp70)]) (v := .agg #[.int .u8 76, .slice ad69 l.length cp70]) rfl rfl rfl rfl (fun _ => by kernel_rfl) rfl fun ac hs => ?_))
        refine lstep (wpO_plain rfl (op_store hs 0 (vs := [.int .u8 76, .slice ad69 l.length cp70]) rfl rfl rfl rfl rfl Try.sizeOf25 rfl rfl rfl rfl rfl fun w hs => ?_))
        refine wpList_nil ?_
        refine then_n ?_
        refine wp_ret ?_
        replace hs := hs.freeze 1 rfl
        exact bodyPost_ret (res1 rfl (rv_c hs 0 (v := .agg #[.int .u8 76, .slice ad69 l.length cp70]) rfl rfl Try.isAgg25 Try.sizeOf25 rfl)) hs.defers ⟨⟨ad69, cp70⟩, by obtain ⟨rfl, rfl⟩ := Prod.mk.inj ((pushW_b (by omega) (by omega) (by omega) (by omega)).symm.trans hW); rfl, hs.bel rfl, by obtain ⟨rfl, rfl⟩ := Prod.mk.inj ((pushW_b (by omega) (by omega) (by omega) (by omega)).symm.trans hW); exact hs.ret1 1 rfl⟩
    · skip
      have hp71 := of_decide_eq_false hc
      refine wp_skip ?_
      refine then_n ?_
      refine wp_seq ?_
      refine wp_seq ?_
      refine wp_region_lit ?_
      refine lstep (wpO_plain rfl (op_move hs none rfl rfl rfl rfl fun ac hs => ?_))
      refine lstep (wpO_plain rfl (op_blt hs none (v := .int .i64 ((l.length : Nat) : Int)) rfl rfl rfl (blt_len Try.underlying22) rfl fun ac hs => ?_))
      refine lstep (wpO_plain rfl (op_bin hs none (v := .bool (decide (l.length ≤ 75))) rfl rfl rfl rfl (fun _ => rfl) (bin_leqN (x := l.length) (y := 75)) rfl fun ac hs => ?_))
      refine wpList_nil ?_
      refine then_n ?_
      refine wp_cond_split (hs.ev rfl) (fun hc => ?_) (fun hc => ?_)
      · skip
        have hp72 := of_decide_eq_true hc
        replace hs : St 48 ⟨w0, [], [(true, .cel (.slice ad l.length c) l.length (bcs l))], Z, noX⟩ [(0, true, .slice ad l.length c), (2, true, .pointer (some ⟨g1, 0, none⟩)), (3, true, .int .u8 77)] [(true, g1, 25, [.int .u8 0, .slice none 0 0])] ac _ := hs.re ⟨rfl, rfl, rfl, trivial⟩
        refine wp_region_lit ?_
        refine lstep (wpO_plain rfl (op_move hs none rfl rfl rfl rfl fun ac hs => ?_))
        refine lstep (wpO_plain rfl (op_blt hs none (v := .int .i64 ((l.length : Nat) : Int)) rfl rfl rfl (blt_len Try.underlying22) rfl fun ac hs => ?_))
        refine lstep (wpO_plain rfl (op_convert hs none (v := .int .u8 ((l.length % 256 : Nat) : Int)) rfl rfl rfl (conv_M (z := l.length % 256) rfl Try.underlying3 Try.underlying5 rfl) rfl fun ac hs => ?_))
        refine lstep (wpO_plain rfl (op_assign hs none rfl rfl rfl rfl fun ac hs => ?_))
        refine wpList_nil ?_
        refine then_n ?_
        refine wp_seq ?_
        refine wp_region_lit ?_
        refine lstep (wpO_plain rfl (op_move hs none rfl rfl rfl rfl fun ac hs => ?_))
        refine lstep (wpO_plain rfl (op_bsO0 hs none none (size := 1) rfl rfl Try.underlying22 inf_u8_5 rfl rfl fun ad74 ac w hs => ?_))
        refine lstep (wpO_plain rfl (op_move hs none rfl rfl rfl rfl fun ac hs => ?_))
        refine lstep (wpO_plain rfl (op_appR hs none 1 0 (N' := l.length) (ys := bcs l) rfl rfl rfl rfl rfl rfl Try.underlying22 inf_u8_5 rfl (by decide) (bcs_len1 rfl) (bcs_one _) (by decide) (show 0 + l.length ≤ 1000000 by omega) (Nat.zero_add _) rfl rfl rfl fun ad75 cp76 ac w hs => ?_))
        refine lstep (wpO_plain rfl (op_build hs none (qs := [(0, .int .u8 ((l.length % 256 : Nat) : Int)), (1, .slice ad75 l.length cp76)]) (v := .agg #[.int .u8 ((l.length % 256 : Nat) : Int), .slice ad75 l.length cp76]) rfl rfl rfl rfl (fun _ => by kernel_rfl) rfl fun ac hs => ?_))
        refine lstep (wpO_plain rfl (op_store hs 0 (vs := [.int .u8 ((l.length % 256 : Nat) : Int), .slice ad75 l.length cp76]) rfl rfl rfl rfl rfl Try.sizeOf25 rfl rfl rfl rfl rfl fun w hs => ?_))
        refine wpList_nil ?_
        refine then_n ?_
        refine wp_ret ?_
        replace hs := hs.freeze 1 rfl
        exact bodyPost_ret (res1 rfl (rv_c hs 0 (v := .agg #[.int .u8 ((l.length % 256 : Nat) : Int), .slice ad75 l.length cp76]) rfl rfl Try.isAgg25 Try.sizeOf25 rfl)) hs.defers ⟨⟨ad75, cp76⟩, by have hm : l.length % 256 = l.length := Nat.mod_eq_of_lt (by omega); obtain ⟨rfl, rfl⟩ := Prod.mk.inj ((pushW_a (by omega) (by omega) (by omega)).symm.trans hW); rw [hm], hs.bel rfl, by obtain ⟨rfl, rfl⟩ := Prod.mk.inj ((pushW_a (by omega) (by omega) (by omega)).symm.trans hW); exact hs.ret1 1 rfl⟩
      · skip
        have hp77 := of_decide_eq_false hc
        refine wp_skip ?_
        refine then_n ?_
        refine wp_seq ?_
        replace hs : St 48 ⟨w0, [], [(true, .cel (.slice ad l.length c) l.length (bcs l))], Z, noX⟩ [(0, true, .slice ad l.length c), (2, true, .pointer (some ⟨g1, 0, none⟩)), (3, true, .int .u8 77)] [(true, g1, 25, [.int .u8 0, .slice none 0 0])] ac _ := hs.re ⟨rfl, rfl, rfl, trivial⟩
        refine wp_region_lit ?_
        refine lstep (wpO_plain rfl (op_move hs none rfl rfl rfl rfl fun ac hs => ?_))
        refine lstep (wpO_plain rfl (op_bsO0 hs none none (size := 1) rfl rfl Try.underlying22 inf_u8_5 rfl rfl fun ad79 ac w hs => ?_))
        refine lstep (wpO_plain rfl (op_move hs none rfl rfl rfl rfl fun ac hs => ?_))
        refine lstep (wpO_plain rfl (op_appR hs none 1 0 (N' := l.length) (ys := bcs l) rfl rfl rfl rfl rfl rfl Try.underlying22 inf_u8_5 rfl (by decide) (bcs_len1 rfl) (bcs_one _) (by decide) (show 0 + l.length ≤ 1000000 by omega) (Nat.zero_add _) rfl rfl rfl fun ad80 cp81 ac w hs => ?_))
        refine lstep (wpO_plain rfl (op_build hs none (qs := [(0, .int .u8 77), (1, .slice ad80 l.length cp81)]) (v := .agg #[.int .u8 77, .slice ad80 l.length cp81]) rfl rfl rfl rfl (fun _ => by kernel_rfl) rfl fun ac hs => ?_))
        refine lstep (wpO_plain rfl (op_store hs 0 (vs := [.int .u8 77, .slice ad80 l.length cp81]) rfl rfl rfl rfl rfl Try.sizeOf25 rfl rfl rfl rfl rfl fun w hs => ?_))
        refine wpList_nil ?_
        refine then_n ?_
        refine wp_ret ?_
        replace hs := hs.freeze 1 rfl
        exact bodyPost_ret (res1 rfl (rv_c hs 0 (v := .agg #[.int .u8 77, .slice ad80 l.length cp81]) rfl rfl Try.isAgg25 Try.sizeOf25 rfl)) hs.defers ⟨⟨ad80, cp81⟩, by obtain ⟨rfl, rfl⟩ := Prod.mk.inj ((pushW_c (by omega) (by omega) (by omega)).symm.trans hW); rfl, hs.bel rfl, by obtain ⟨rfl, rfl⟩ := Prod.mk.inj ((pushW_c (by omega) (by omega) (by omega)).symm.trans hW); exact hs.ret1 1 rfl⟩
theorem pushes_c (o : Nat) (ad : Option Addr) (nl c : Nat) (l b : List UInt8) (q : Bool) (ho : o < 256) (hlen : l.length ≤ 100000) (hB : pshB o l = b) (hQ : pshQ o = q) (w0 : World) (Z : Nat → Prop) (hl : ByV w0 Z (.slice ad nl c) l): Calls Try.prog 16 #[.agg #[.int .u8 ((o : Nat) : Int), .slice ad nl c]] w0 fun e w' => Ret w0 Z (ρ := Option Addr × Nat) (fun r => .tuple #[.slice r.1 b.length r.2, .bool q]) (fun r => [.cel (.slice r.1 b.length r.2) b.length (bcs b)]) e w' := by
  obtain rfl := byv_len hl
  refine enterS (n := 29) (args := [.agg #[.int .u8 ((o : Nat) : Int), .slice ad l.length c]]) (S := [(true, .cel (.slice ad l.length c) l.length (bcs l))]) (Z := Z) Try.func16 rfl rfl (Nat.le_of_ble_eq_true rfl) (sokC hl sok0) rfl fun ac hs => ?_
  refine wp_seq ?_
  refine wp_region_lit ?_
  refine lstep (wpO_plain rfl (op_box hs none none (cs := [.int .u8 ((o : Nat) : Int), .slice ad l.length c]) rfl rfl rfl rfl rfl rfl fun g1 ac w hs => ?_))
  refine lstep (wpO_plain rfl (op_assign hs none rfl rfl rfl rfl fun ac hs => ?_))
  refine lstep (wpO_plain rfl (op_assign hs none rfl rfl rfl rfl fun ac hs => ?_))
  refine wpList_nil ?_
  refine then_n ?_
  refine wp_seq ?_
  refine wp_block ?_
  refine wp_seq ?_
  refine wp_region_lit ?_
  refine lstep (wpO_plain rfl (op_fieldA hs none rfl rfl rfl Try.underlying25 rfl Try.sizeOf5 (by decide) rfl fun ac hs => ?_))
  refine lstep (wpO_plain rfl (op_load hs none 0 (v := .int .u8 ((o : Nat) : Int)) rfl rfl rfl rfl Try.isAgg5 Try.sizeOf5 rfl rfl fun ac hs => ?_))
  refine lstep (wpO_plain rfl (op_bin hs none (v := .bool (decide (o ≤ 77))) rfl rfl rfl rfl (fun _ => rfl) (bin_leqN (x := o) (y := 77)) rfl fun ac hs => ?_))
  refine lstep (wpO_plain rfl (op_assign hs none rfl rfl rfl rfl fun ac hs => ?_))
  refine wpList_nil ?_
  refine then_n ?_
  refine wp_cond_split (hs.ev rfl) (fun hc => ?_) (fun hc => ?_)
  · skip
    have hp2 := of_decide_eq_true hc
    refine wp_seq ?_
    replace hs : St 29 ⟨w0, [], [(true, .cel (.slice ad l.length c) l.length (bcs l))], Z, noX⟩ [(1, true, .pointer (some ⟨g1, 0, none⟩)), (2, true, .slice none 0 0), (3, true, .bool false)] [(true, g1, 25, [.int .u8 ((o : Nat) : Int), .slice ad l.length c])] ac _ := hs.re ⟨rfl, rfl, rfl, trivial⟩
    refine wp_region_lit ?_
    refine lstep (wpO_plain rfl (op_fieldA hs none rfl rfl rfl Try.underlying25 rfl Try.sizeOf22 (by decide) rfl fun ac hs => ?_))
    refine lstep (wpO_plain rfl (op_load hs none 0 (v := .slice ad l.length c) rfl rfl rfl rfl Try.isAgg22 Try.sizeOf22 rfl rfl fun ac hs => ?_))
    refine lstep (wpO_plain rfl (op_callS (F := 28) (ρ := Option Addr × Nat) hs none none (v := fun r => .slice r.1 l.length r.2) (E := fun r => [.cel (.slice r.1 l.length r.2) l.length (bcs l)]) (j := 1) rfl rfl rfl rfl (Try.call28 _) (fun hs => clone_c ad l.length c l (show l.length ≤ 100000 by omega) _ _ (hs.all (k := 0) rfl rfl)) (fun _ => rfl) rfl rfl fun ⟨ad3, cp4⟩ ac w hs => ?_))
    refine lstep (wpO_plain rfl (op_assign hs none rfl rfl rfl rfl fun ac hs => ?_))
    refine lstep (wpO_plain rfl (op_assign hs none rfl rfl rfl rfl fun ac hs => ?_))
    refine wpList_nil ?_
    refine then_n ?_
    refine wp_ret ?_
    refine blk_r ?_
    refine then_r ?_
    exact bodyPost_ret (res2 rfl (rv_t hs rfl) (rv_t hs rfl)) hs.defers ⟨⟨ad3, cp4⟩, by rw [(show pshB o l = _ from (psh_1 (p := l) (by omega)).1)] at hB; rw [(psh_1 (p := l) (by omega)).2] at hQ; subst hB; subst hQ; rfl, hs.bel rfl, by rw [(show pshB o l = _ from (psh_1 (p := l) (by omega)).1)] at hB; rw [(psh_1 (p := l) (by omega)).2] at hQ; subst hB; subst hQ; exact hs.ret1 1 rfl⟩
  · skip
    have hp5 := of_decide_eq_false hc
    refine wp_seq ?_
    replace hs : St 29 ⟨w0, [], [(true, .cel (.slice ad l.length c) l.length (bcs l))], Z, noX⟩ [(1, true, .pointer (some ⟨g1, 0, none⟩)), (2, true, .slice none 0 0), (3, true, .bool false)] [(true, g1, 25, [.int .u8 ((o : Nat) : Int), .slice ad l.length c])] ac _ := hs.re ⟨rfl, rfl, rfl, trivial⟩
    refine wp_region_lit ?_
    refine lstep (wpO_plain rfl (op_fieldA hs none rfl rfl rfl Try.underlying25 rfl Try.sizeOf5 (by decide) rfl fun ac hs => ?_))
    refine lstep (wpO_plain rfl (op_load hs none 0 (v := .int .u8 ((o : Nat) : Int)) rfl rfl rfl rfl Try.isAgg5 Try.sizeOf5 rfl rfl fun ac hs => ?_))
    refine lstep (wpO_plain rfl (op_bin hs none (v := .bool (decide (o = 79))) rfl rfl rfl rfl (fun _ => rfl) (bin_eqlN (x := o) (y := 79)) rfl fun ac hs => ?_))
    refine lstep (wpO_plain rfl (op_assign hs none rfl rfl rfl rfl fun ac hs => ?_))
    refine wpList_nil ?_
    refine then_n ?_
    refine wp_cond_split (hs.ev rfl) (fun hc => ?_) (fun hc => ?_)
    · skip
      have hp6 := of_decide_eq_true hc
      refine wp_seq ?_
      refine wp_region_lit ?_
      refine lstep (wpO_plain rfl (op_bsO hs none none (qs := [(0, .int .u8 129)]) (cs := [.int .u8 129]) (cs' := bcs [UInt8.ofNat 129]) rfl rfl rfl rfl Try.underlying22 inf_u8_5 (by decide) (by decide) (fill_one _ _ rfl ) rfl (bcs_cons (by decide) rfl) rfl rfl fun ad8 ac w hs => ?_))
      refine lstep (wpO_plain rfl (op_assign hs none rfl rfl rfl rfl fun ac hs => ?_))
      refine lstep (wpO_plain rfl (op_assign hs none rfl rfl rfl rfl fun ac hs => ?_))
      refine wpList_nil ?_
      refine then_n ?_
      refine wp_ret ?_
      refine blk_r ?_
      refine then_r ?_
      replace hs := hs.freeze 1 rfl
      exact bodyPost_ret (res2 rfl (rv_t hs rfl) (rv_t hs rfl)) hs.defers ⟨⟨ad8, 1⟩, by rw [(show pshB o l = _ from (psh_2 (p := l) (by omega) (by omega)).1)] at hB; rw [(psh_2 (p := l) (by omega) (by omega)).2] at hQ; subst hB; subst hQ; rfl, hs.bel rfl, by rw [(show pshB o l = _ from (psh_2 (p := l) (by omega) (by omega)).1)] at hB; rw [(psh_2 (p := l) (by omega) (by omega)).2] at hQ; subst hB; subst hQ; exact hs.ret1 1 rfl⟩
    · skip
      have hp9 := of_decide_eq_false hc
      refine wp_seq ?_
      by_cases hq10 : 80 < o
      · skip
        refine wp_region_lit ?_
        refine lstep (wpO_plain rfl (op_fieldA hs none rfl rfl rfl Try.underlying25 rfl Try.sizeOf5 (by decide) rfl fun ac hs => ?_))
        refine lstep (wpO_plain rfl (op_load hs none 0 (v := .int .u8 ((o : Nat) : Int)) rfl rfl rfl rfl Try.isAgg5 Try.sizeOf5 rfl rfl fun ac hs => ?_))
        refine lstep (wpO_plain rfl (op_bin hs none (v := .bool true) rfl rfl rfl rfl (fun _ => rfl) (fun w => dT hq10 (bin_gtrN (x := o) (y := 80) w)) rfl fun ac hs => ?_))
        refine lstep (wpO_plain rfl (op_move hs none rfl rfl rfl rfl fun ac hs => ?_))
        refine lstep (wpO_in hs rfl rfl rfl (op_fieldA hs none rfl rfl rfl Try.underlying25 rfl Try.sizeOf5 (by decide) rfl fun ac hs => ?_))
        refine lstep (wpO_in hs rfl rfl rfl (op_load hs none 0 (v := .int .u8 ((o : Nat) : Int)) rfl rfl rfl rfl Try.isAgg5 Try.sizeOf5 rfl rfl fun ac hs => ?_))
        refine lstep (wpO_in hs rfl rfl rfl (op_bin hs none (v := .bool (decide (o ≤ 96))) rfl rfl rfl rfl (fun _ => rfl) (bin_leqN (x := o) (y := 96)) rfl fun ac hs => ?_))
        refine lstep (wpO_plain rfl (op_pickT hs none rfl rfl rfl rfl rfl fun ac hs => ?_))
        refine lstep (wpO_plain rfl (op_assign hs none rfl rfl rfl rfl fun ac hs => ?_))
        refine wpList_nil ?_
        refine then_n ?_
        refine wp_cond_split (hs.ev rfl) (fun hc => ?_) (fun hc => ?_)
        · skip
          have hp11 := of_decide_eq_true hc
          refine wp_seq ?_
          replace hs : St 29 ⟨w0, [], [(true, .cel (.slice ad l.length c) l.length (bcs l))], Z, noX⟩ [(1, true, .pointer (some ⟨g1, 0, none⟩)), (2, true, .slice none 0 0), (3, true, .bool false)] [(true, g1, 25, [.int .u8 ((o : Nat) : Int), .slice ad l.length c])] ac _ := hs.re ⟨rfl, rfl, rfl, trivial⟩
          refine wp_region_lit ?_
          refine lstep (wpO_plain rfl (op_fieldA hs none rfl rfl rfl Try.underlying25 rfl Try.sizeOf5 (by decide) rfl fun ac hs => ?_))
          refine lstep (wpO_plain rfl (op_load hs none 0 (v := .int .u8 ((o : Nat) : Int)) rfl rfl rfl rfl Try.isAgg5 Try.sizeOf5 rfl rfl fun ac hs => ?_))
          refine lstep (wpO_plain rfl (op_bin hs none (v := .int .u8 ((o - 80 : Nat) : Int)) rfl rfl rfl rfl (fun _ => rfl) (bin_subN (x := o) (y := 80) (z := o - 80) (by omega) (show o - 80 < 256 by omega)) rfl fun ac hs => ?_))
          refine lstep (wpO_plain rfl (op_bsO hs none none (qs := [(0, .int .u8 ((o - 80 : Nat) : Int))]) (cs := [.int .u8 ((o - 80 : Nat) : Int)]) (cs' := bcs [UInt8.ofNat (o - 80)]) rfl rfl rfl rfl Try.underlying22 inf_u8_5 (by decide) (by decide) (fill_one _ _ rfl ) rfl (bcs_cons (show o - 80 < 256 by omega) rfl) rfl rfl fun ad13 ac w hs => ?_))
          refine lstep (wpO_plain rfl (op_assign hs none rfl rfl rfl rfl fun ac hs => ?_))
          refine lstep (wpO_plain rfl (op_assign hs none rfl rfl rfl rfl fun ac hs => ?_))
          refine wpList_nil ?_
          refine then_n ?_
          refine wp_ret ?_
          refine blk_r ?_
          refine then_r ?_
          replace hs := hs.freeze 1 rfl
          exact bodyPost_ret (res2 rfl (rv_t hs rfl) (rv_t hs rfl)) hs.defers ⟨⟨ad13, 1⟩, by rw [(show pshB o l = _ from (psh_3 (p := l) (by omega) (by omega)).1)] at hB; rw [(psh_3 (p := l) (by omega) (by omega)).2] at hQ; subst hB; subst hQ; rfl, hs.bel rfl, by rw [(show pshB o l = _ from (psh_3 (p := l) (by omega) (by omega)).1)] at hB; rw [(psh_3 (p := l) (by omega) (by omega)).2] at hQ; subst hB; subst hQ; exact hs.ret1 1 rfl⟩
        · skip
          have hp14 := of_decide_eq_false hc
          refine wp_skip ?_
          refine blk_n ?_
          refine then_n ?_
          refine wp_seq ?_
          replace hs : St 29 ⟨w0, [], [(true, .cel (.slice ad l.length c) l.length (bcs l))], Z, noX⟩ [(2, true, .slice none 0 0), (3, true, .bool false)] [(true, g1, 25, [.int .u8 ((o : Nat) : Int), .slice ad l.length c])] ac _ := hs.re ⟨rfl, rfl, trivial⟩
          refine wp_region_lit ?_
          refine lstep (wpO_plain rfl (op_assign hs none rfl rfl rfl rfl fun ac hs => ?_))
          refine lstep (wpO_plain rfl (op_assign hs none rfl rfl rfl rfl fun ac hs => ?_))
          refine wpList_nil ?_
          refine then_n ?_
          refine wp_ret ?_
          exact bodyPost_ret (res2 rfl (rv_t hs rfl) (rv_t hs rfl)) hs.defers ⟨⟨none, 0⟩, by rw [(show pshB o l = _ from (psh_4 (p := l) (by omega) (by omega) (by omega)).1)] at hB; rw [(psh_4 (p := l) (by omega) (by omega) (by omega)).2] at hQ; subst hB; subst hQ; rfl, hs.bel rfl, by rw [(show pshB o l = _ from (psh_4 (p := l) (by omega) (by omega) (by omega)).1)] at hB; rw [(psh_4 (p := l) (by omega) (by omega) (by omega)).2] at hQ; subst hB; subst hQ; exact okl1 celv_nil⟩
      · skip
        refine wp_region_lit ?_
        refine lstep (wpO_plain rfl (op_fieldA hs none rfl rfl rfl Try.underlying25 rfl Try.sizeOf5 (by decide) rfl fun ac hs => ?_))
        refine lstep (wpO_plain rfl (op_load hs none 0 (v := .int .u8 ((o : Nat) : Int)) rfl rfl rfl rfl Try.isAgg5 Try.sizeOf5 rfl rfl fun ac hs => ?_))
        refine lstep (wpO_plain rfl (op_bin hs none (v := .bool false) rfl rfl rfl rfl (fun _ => rfl) (fun w => dF hq10 (bin_gtrN (x := o) (y := 80) w)) rfl fun ac hs => ?_))
        refine lstep (wpO_plain rfl (op_move hs none rfl rfl rfl rfl fun ac hs => ?_))
        refine lstep (wpO_out hs none rfl rfl (.inl rfl) rfl rfl fun ac hs => ?_)
        refine lstep (wpO_out hs none rfl rfl (.inl rfl) rfl rfl fun ac hs => ?_)
        refine lstep (wpO_out hs none rfl rfl (.inl rfl) rfl rfl fun ac hs => ?_)
        refine lstep (wpO_plain rfl (op_pickF hs none rfl rfl rfl rfl rfl fun ac hs => ?_))
        refine lstep (wpO_plain rfl (op_assign hs none rfl rfl rfl rfl fun ac hs => ?_))
        refine wpList_nil ?_
        refine then_n ?_
        refine wp_cond_false (hs.ev rfl) ?_
        refine wp_skip ?_
        refine blk_n ?_
        refine then_n ?_
        refine wp_seq ?_
        replace hs : St 29 ⟨w0, [], [(true, .cel (.slice ad l.length c) l.length (bcs l))], Z, noX⟩ [(2, true, .slice none 0 0), (3, true, .bool false)] [(true, g1, 25, [.int .u8 ((o : Nat) : Int), .slice ad l.length c])] ac _ := hs.re ⟨rfl, rfl, trivial⟩
        refine wp_region_lit ?_
        refine lstep (wpO_plain rfl (op_assign hs none rfl rfl rfl rfl fun ac hs => ?_))
        refine lstep (wpO_plain rfl (op_assign hs none rfl rfl rfl rfl fun ac hs => ?_))
        refine wpList_nil ?_
        refine then_n ?_
        refine wp_ret ?_
        exact bodyPost_ret (res2 rfl (rv_t hs rfl) (rv_t hs rfl)) hs.defers ⟨⟨none, 0⟩, by rw [(show pshB o l = _ from (psh_4 (p := l) (by omega) (by omega) (by omega)).1)] at hB; rw [(psh_4 (p := l) (by omega) (by omega) (by omega)).2] at hQ; subst hB; subst hQ; rfl, hs.bel rfl, by rw [(show pshB o l = _ from (psh_4 (p := l) (by omega) (by omega) (by omega)).1)] at hB; rw [(psh_4 (p := l) (by omega) (by omega) (by omega)).2] at hQ; subst hB; subst hQ; exact okl1 celv_nil⟩
theorem rpushes_c (o : Nat) (ad : Option Addr) (nl c : Nat) (l b : List UInt8) (q : Bool) (ho : o < 256) (hlen : l.length ≤ 100000) (hB : pshB o l = b) (hQ : pshQ o = q) (w0 : World) (Z : Nat → Prop) (hl : ByV w0 Z (.slice ad nl c) l): Calls Try.prog 17 #[.agg #[.int .u8 ((o : Nat) : Int), .slice ad nl c]] w0 fun e w' => Ret w0 Z (ρ := Option Addr × Nat) (fun r => .tuple #[.slice r.1 b.length r.2, .bool q]) (fun r => [.cel (.slice r.1 b.length r.2) b.length (bcs b)]) e w' := by
  obtain rfl := byv_len hl
  refine enterS (n := 28) (args := [.agg #[.int .u8 ((o : Nat) : Int), .slice ad l.length c]]) (S := [(true, .cel (.slice ad l.length c) l.length (bcs l))]) (Z := Z) Try.func17 rfl rfl (Nat.le_of_ble_eq_true rfl) (sokC hl sok0) rfl fun ac hs => ?_
  refine wp_seq ?_
  refine wp_region_lit ?_
  refine lstep (wpO_plain rfl (op_box hs none none (cs := [.int .u8 ((o : Nat) : Int), .slice ad l.length c]) rfl rfl rfl rfl rfl rfl fun g1 ac w hs => ?_))
  refine lstep (wpO_plain rfl (op_assign hs none rfl rfl rfl rfl fun ac hs => ?_))
  refine lstep (wpO_plain rfl (op_assign hs none rfl rfl rfl rfl fun ac hs => ?_))
  refine wpList_nil ?_
  refine then_n ?_
  refine wp_seq ?_
  refine wp_block ?_
  refine wp_seq ?_
  refine wp_region_lit ?_
  refine lstep (wpO_plain rfl (op_fieldA hs none rfl rfl rfl Try.underlying25 rfl Try.sizeOf5 (by decide) rfl fun ac hs => ?_))
  refine lstep (wpO_plain rfl (op_load hs none 0 (v := .int .u8 ((o : Nat) : Int)) rfl rfl rfl rfl Try.isAgg5 Try.sizeOf5 rfl rfl fun ac hs => ?_))
  refine lstep (wpO_plain rfl (op_bin hs none (v := .bool (decide (o ≤ 77))) rfl rfl rfl rfl (fun _ => rfl) (bin_leqN (x := o) (y := 77)) rfl fun ac hs => ?_))
  refine lstep (wpO_plain rfl (op_assign hs none rfl rfl rfl rfl fun ac hs => ?_))
  refine wpList_nil ?_
  refine then_n ?_
  refine wp_cond_split (hs.ev rfl) (fun hc => ?_) (fun hc => ?_)
  · skip
    have hp2 := of_decide_eq_true hc
    refine wp_seq ?_
    replace hs : St 28 ⟨w0, [], [(true, .cel (.slice ad l.length c) l.length (bcs l))], Z, noX⟩ [(1, true, .pointer (some ⟨g1, 0, none⟩)), (2, true, .slice none 0 0), (3, true, .bool false)] [(true, g1, 25, [.int .u8 ((o : Nat) : Int), .slice ad l.length c])] ac _ := hs.re ⟨rfl, rfl, rfl, trivial⟩
    refine wp_region_lit ?_
    refine lstep (wpO_plain rfl (op_fieldA hs none rfl rfl rfl Try.underlying25 rfl Try.sizeOf22 (by decide) rfl fun ac hs => ?_))
    refine lstep (wpO_plain rfl (op_load hs none 0 (v := .slice ad l.length c) rfl rfl rfl rfl Try.isAgg22 Try.sizeOf22 rfl rfl fun ac hs => ?_))
    refine lstep (wpO_plain rfl (op_assign hs none rfl rfl rfl rfl fun ac hs => ?_))
    refine lstep (wpO_plain rfl (op_assign hs none rfl rfl rfl rfl fun ac hs => ?_))
    refine wpList_nil ?_
    refine then_n ?_
    refine wp_ret ?_
    refine blk_r ?_
    refine then_r ?_
    exact bodyPost_ret (res2 rfl (rv_t hs rfl) (rv_t hs rfl)) hs.defers ⟨⟨ad, c⟩, by rw [(show pshB o l = _ from (psh_1 (p := l) (by omega)).1)] at hB; rw [(psh_1 (p := l) (by omega)).2] at hQ; subst hB; subst hQ; rfl, hs.bel rfl, by rw [(show pshB o l = _ from (psh_1 (p := l) (by omega)).1)] at hB; rw [(psh_1 (p := l) (by omega)).2] at hQ; subst hB; subst hQ; exact hs.ret1 0 rfl⟩
  · skip
    have hp3 := of_decide_eq_false hc
    refine wp_seq ?_
    replace hs : St 28 ⟨w0, [], [(true, .cel (.slice ad l.length c) l.length (bcs l))], Z, noX⟩ [(1, true, .pointer (some ⟨g1, 0, none⟩)), (2, true, .slice none 0 0), (3, true, .bool false)] [(true, g1, 25, [.int .u8 ((o : Nat) : Int), .slice ad l.length c])] ac _ := hs.re ⟨rfl, rfl, rfl, trivial⟩
    refine wp_region_lit ?_
    refine lstep (wpO_plain rfl (op_fieldA hs none rfl rfl rfl Try.underlying25 rfl Try.sizeOf5 (by decide) rfl fun ac hs => ?_))
    refine lstep (wpO_plain rfl (op_load hs none 0 (v := .int .u8 ((o : Nat) : Int)) rfl rfl rfl rfl Try.isAgg5 Try.sizeOf5 rfl rfl fun ac hs => ?_))
    refine lstep (wpO_plain rfl (op_bin hs none (v := .bool (decide (o = 79))) rfl rfl rfl rfl (fun _ => rfl) (bin_eqlN (x := o) (y := 79)) rfl fun ac hs => ?_))
    refine lstep (wpO_plain rfl (op_assign hs none rfl rfl rfl rfl fun ac hs => ?_))
    refine wpList_nil ?_
    refine then_n ?_
    refine wp_cond_split (hs.ev rfl) (fun hc => ?_) (fun hc => ?_)
    · skip
      have hp4 := of_decide_eq_true hc
      refine wp_seq ?_
      refine wp_region_lit ?_
      refine lstep (wpO_plain rfl (op_bsO hs none none (qs := [(0, .int .u8 129)]) (cs := [.int .u8 129]) (cs' := bcs [UInt8.ofNat 129]) rfl rfl rfl rfl Try.underlying22 inf_u8_5 (by decide) (by decide) (fill_one _ _ rfl ) rfl (bcs_cons (by decide) rfl) rfl rfl fun ad6 ac w hs => ?_))
      refine lstep (wpO_plain rfl (op_assign hs none rfl rfl rfl rfl fun ac hs => ?_))
      refine lstep (wpO_plain rfl (op_assign hs none rfl rfl rfl rfl fun ac hs => ?_))
      refine wpList_nil ?_
      refine then_n ?_
      refine wp_ret ?_
      refine blk_r ?_
      refine then_r ?_
      replace hs := hs.freeze 1 rfl
      exact bodyPost_ret (res2 rfl (rv_t hs rfl) (rv_t hs rfl)) hs.defers ⟨⟨ad6, 1⟩, by rw [(show pshB o l = _ from (psh_2 (p := l) (by omega) (by omega)).1)] at hB; rw [(psh_2 (p := l) (by omega) (by omega)).2] at hQ; subst hB; subst hQ; rfl, hs.bel rfl, by rw [(show pshB o l = _ from (psh_2 (p := l) (by omega) (by omega)).1)] at hB; rw [(psh_2 (p := l) (by omega) (by omega)).2] at hQ; subst hB; subst hQ; exact hs.ret1 1 rfl⟩
    · skip
      have hp7 := of_decide_eq_false hc
      refine wp_seq ?_
      by_cases hq8 : 81 ≤ o
      · skip
        refine wp_region_lit ?_
        refine lstep (wpO_plain rfl (op_fieldA hs none rfl rfl rfl Try.underlying25 rfl Try.sizeOf5 (by decide) rfl fun ac hs => ?_))
        refine lstep (wpO_plain rfl (op_load hs none 0 (v := .int .u8 ((o : Nat) : Int)) rfl rfl rfl rfl Try.isAgg5 Try.sizeOf5 rfl rfl fun ac hs => ?_))
        refine lstep (wpO_plain rfl (op_bin hs none (v := .bool true) rfl rfl rfl rfl (fun _ => rfl) (fun w => dT hq8 (bin_geqN (x := o) (y := 81) w)) rfl fun ac hs => ?_))
        refine lstep (wpO_plain rfl (op_move hs none rfl rfl rfl rfl fun ac hs => ?_))
        refine lstep (wpO_in hs rfl rfl rfl (op_fieldA hs none rfl rfl rfl Try.underlying25 rfl Try.sizeOf5 (by decide) rfl fun ac hs => ?_))
        refine lstep (wpO_in hs rfl rfl rfl (op_load hs none 0 (v := .int .u8 ((o : Nat) : Int)) rfl rfl rfl rfl Try.isAgg5 Try.sizeOf5 rfl rfl fun ac hs => ?_))
        refine lstep (wpO_in hs rfl rfl rfl (op_bin hs none (v := .bool (decide (o ≤ 96))) rfl rfl rfl rfl (fun _ => rfl) (bin_leqN (x := o) (y := 96)) rfl fun ac hs => ?_))
        refine lstep (wpO_plain rfl (op_pickT hs none rfl rfl rfl rfl rfl fun ac hs => ?_))
        refine lstep (wpO_plain rfl (op_assign hs none rfl rfl rfl rfl fun ac hs => ?_))
        refine wpList_nil ?_
        refine then_n ?_
        refine wp_cond_split (hs.ev rfl) (fun hc => ?_) (fun hc => ?_)
        · skip
          have hp9 := of_decide_eq_true hc
          refine wp_seq ?_
          replace hs : St 28 ⟨w0, [], [(true, .cel (.slice ad l.length c) l.length (bcs l))], Z, noX⟩ [(1, true, .pointer (some ⟨g1, 0, none⟩)), (2, true, .slice none 0 0), (3, true, .bool false)] [(true, g1, 25, [.int .u8 ((o : Nat) : Int), .slice ad l.length c])] ac _ := hs.re ⟨rfl, rfl, rfl, trivial⟩
          refine wp_region_lit ?_
          refine lstep (wpO_plain rfl (op_fieldA hs none rfl rfl rfl Try.underlying25 rfl Try.sizeOf5 (by decide) rfl fun ac hs => ?_))
          refine lstep (wpO_plain rfl (op_load hs none 0 (v := .int .u8 ((o : Nat) : Int)) rfl rfl rfl rfl Try.isAgg5 Try.sizeOf5 rfl rfl fun ac hs => ?_))
          refine lstep (wpO_plain rfl (op_bin hs none (v := .int .u8 ((o - 80 : Nat) : Int)) rfl rfl rfl rfl (fun _ => rfl) (bin_subN (x := o) (y := 80) (z := o - 80) (by omega) (show o - 80 < 256 by omega)) rfl fun ac hs => ?_))
          refine lstep (wpO_plain rfl (op_bsO hs none none (qs := [(0, .int .u8 ((o - 80 : Nat) : Int))]) (cs := [.int .u8 ((o - 80 : Nat) : Int)]) (cs' := bcs [UInt8.ofNat (o - 80)]) rfl rfl rfl rfl Try.underlying22 inf_u8_5 (by decide) (by decide) (fill_one _ _ rfl ) rfl (bcs_cons (show o - 80 < 256 by omega) rfl) rfl rfl fun ad11 ac w hs => ?_))
          refine lstep (wpO_plain rfl (op_assign hs none rfl rfl rfl rfl fun ac hs => ?_))
          refine lstep (wpO_plain rfl (op_assign hs none rfl rfl rfl rfl fun ac hs => ?_))
          refine wpList_nil ?_
          refine then_n ?_
          refine wp_ret ?_
          refine blk_r ?_
          refine then_r ?_
          replace hs := hs.freeze 1 rfl
          exact bodyPost_ret (res2 rfl (rv_t hs rfl) (rv_t hs rfl)) hs.defers ⟨⟨ad11, 1⟩, by rw [(show pshB o l = _ from (psh_3 (p := l) (by omega) (by omega)).1)] at hB; rw [(psh_3 (p := l) (by omega) (by omega)).2] at hQ; subst hB; subst hQ; rfl, hs.bel rfl, by rw [(show pshB o l = _ from (psh_3 (p := l) (by omega) (by omega)).1)] at hB; rw [(psh_3 (p := l) (by omega) (by omega)).2] at hQ; subst hB; subst hQ; exact hs.ret1 1 rfl⟩
        · skip
          have hp12 := of_decide_eq_false hc
          refine wp_skip ?_
          refine blk_n ?_
          refine then_n ?_
          refine wp_seq ?_
          replace hs : St 28 ⟨w0, [], [(true, .cel (.slice ad l.length c) l.length (bcs l))], Z, noX⟩ [(2, true, .slice none 0 0), (3, true, .bool false)] [(true, g1, 25, [.int .u8 ((o : Nat) : Int), .slice ad l.length c])] ac _ := hs.re ⟨rfl, rfl, trivial⟩
          refine wp_region_lit ?_
          refine lstep (wpO_plain rfl (op_assign hs none rfl rfl rfl rfl fun ac hs => ?_))
          refine lstep (wpO_plain rfl (op_assign hs none rfl rfl rfl rfl fun ac hs => ?_))
          refine wpList_nil ?_
          refine then_n ?_
          refine wp_ret ?_
          exact bodyPost_ret (res2 rfl (rv_t hs rfl) (rv_t hs rfl)) hs.defers ⟨⟨none, 0⟩, by rw [(show pshB o l = _ from (psh_4 (p := l) (by omega) (by omega) (by omega)).1)] at hB; rw [(psh_4 (p := l) (by omega) (by omega) (by omega)).2] at hQ; subst hB; subst hQ; rfl, hs.bel rfl, by rw [(show pshB o l = _ from (psh_4 (p := l) (by omega) (by omega) (by omega)).1)] at hB; rw [(psh_4 (p := l) (by omega) (by omega) (by omega)).2] at hQ; subst hB; subst hQ; exact okl1 celv_nil⟩
      · skip
        refine wp_region_lit ?_
        refine lstep (wpO_plain rfl (op_fieldA hs none rfl rfl rfl Try.underlying25 rfl Try.sizeOf5 (by decide) rfl fun ac hs => ?_))
        refine lstep (wpO_plain rfl (op_load hs none 0 (v := .int .u8 ((o : Nat) : Int)) rfl rfl rfl rfl Try.isAgg5 Try.sizeOf5 rfl rfl fun ac hs => ?_))
        refine lstep (wpO_plain rfl (op_bin hs none (v := .bool false) rfl rfl rfl rfl (fun _ => rfl) (fun w => dF hq8 (bin_geqN (x := o) (y := 81) w)) rfl fun ac hs => ?_))
        refine lstep (wpO_plain rfl (op_move hs none rfl rfl rfl rfl fun ac hs => ?_))
        refine lstep (wpO_out hs none rfl rfl (.inl rfl) rfl rfl fun ac hs => ?_)
        refine lstep (wpO_out hs none rfl rfl (.inl rfl) rfl rfl fun ac hs => ?_)
        refine lstep (wpO_out hs none rfl rfl (.inl rfl) rfl rfl fun ac hs => ?_)
        refine lstep (wpO_plain rfl (op_pickF hs none rfl rfl rfl rfl rfl fun ac hs => ?_))
        refine lstep (wpO_plain rfl (op_assign hs none rfl rfl rfl rfl fun ac hs => ?_))
        refine wpList_nil ?_
        refine then_n ?_
        refine wp_cond_false (hs.ev rfl) ?_
        refine wp_skip ?_
        refine blk_n ?_
        refine then_n ?_
        refine wp_seq ?_
        replace hs : St 28 ⟨w0, [], [(true, .cel (.slice ad l.length c) l.length (bcs l))], Z, noX⟩ [(2, true, .slice none 0 0), (3, true, .bool false)] [(true, g1, 25, [.int .u8 ((o : Nat) : Int), .slice ad l.length c])] ac _ := hs.re ⟨rfl, rfl, trivial⟩
        refine wp_region_lit ?_
        refine lstep (wpO_plain rfl (op_assign hs none rfl rfl rfl rfl fun ac hs => ?_))
        refine lstep (wpO_plain rfl (op_assign hs none rfl rfl rfl rfl fun ac hs => ?_))
        refine wpList_nil ?_
        refine then_n ?_
        refine wp_ret ?_
        exact bodyPost_ret (res2 rfl (rv_t hs rfl) (rv_t hs rfl)) hs.defers ⟨⟨none, 0⟩, by rw [(show pshB o l = _ from (psh_4 (p := l) (by omega) (by omega) (by omega)).1)] at hB; rw [(psh_4 (p := l) (by omega) (by omega) (by omega)).2] at hQ; subst hB; subst hQ; rfl, hs.bel rfl, by rw [(show pshB o l = _ from (psh_4 (p := l) (by omega) (by omega) (by omega)).1)] at hB; rw [(psh_4 (p := l) (by omega) (by omega) (by omega)).2] at hQ; subst hB; subst hQ; exact okl1 celv_nil⟩
end Go.Proofs.Ytbjnlcblaonccaa
