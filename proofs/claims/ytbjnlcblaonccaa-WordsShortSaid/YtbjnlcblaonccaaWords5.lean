/- The contracts of words: rows of their own. -/
import Derived.Test.YtbjnlcblaonccaaWords4
import Derived.Test.YtbjnlcblaonccaaMem
namespace Go.Proofs.Ytbjnlcblaonccaa
open Go.RowKit
set_option maxRecDepth 10000

theorem okl_wordsO {w : World} {Z B : Nat → Prop} : OkL w Z B [.own (.slice none 0 0) 25 2 0 (wcl [] []), .bysO noX [] (([] : List Wd).map Prod.snd)] := okl2 ok_nilRow ok_nilBysO

theorem clone_o (ad : Option Addr) (nl c : Nat) (l : List UInt8) (hlen : l.length ≤ 100000) (w0 : World) (Z : Nat → Prop) (hl : ByV w0 Z (.slice ad nl c) l): Calls Try.prog 28 #[.slice ad nl c] w0 fun e w' => Ret w0 Z (ρ := Option Addr × Nat) (fun r => .slice r.1 l.length r.2) (fun r => [.own (.slice r.1 l.length r.2) 5 1 l.length (bcs l)]) e w' := by
  obtain rfl := byv_len hl
  refine enterS (n := 8) (args := [.slice ad l.length c]) (S := [(true, .cel (.slice ad l.length c) l.length (bcs l))]) (Z := Z) Try.func28 rfl rfl (Nat.le_of_ble_eq_true rfl) (sokC hl sok0) rfl fun ac hs => ?_
  refine wp_seq ?_
  refine wp_region_lit ?_
  refine lstep (wpO_plain rfl (op_assign hs none rfl rfl rfl rfl fun ac hs => ?_))
  refine wpList_nil ?_
  refine then_n ?_
  refine wp_seq ?_
  refine wp_seq ?_
  refine wp_region_lit ?_
  refine lstep (wpO_plain rfl (op_move hs none rfl rfl rfl rfl fun ac hs => ?_))
  refine lstep (wpO_plain rfl (op_bin hs none (v := .bool ad.isNone) rfl rfl rfl rfl (fun _ => rfl) (bin_eqlNil Try.underlying22) rfl fun ac hs => ?_))
  refine wpList_nil ?_
  refine then_n ?_
  refine wp_cond_split (hs.ev rfl) (fun hc => ?_) (fun hc => ?_)
  · skip
    refine wp_seq ?_
    refine wp_region_lit ?_
    refine lstep (wpO_plain rfl (op_assign hs none rfl rfl rfl rfl fun ac hs => ?_))
    refine wpList_nil ?_
    refine then_n ?_
    refine wp_ret ?_
    refine then_r ?_
    exact bodyPost_ret (res1 rfl (rv_t hs rfl)) hs.defers ⟨⟨none, 0⟩, congrArg Ending.returned (ret_nil (byv_none hl hc)), hs.bel rfl, okl_nilO (byv_none hl hc)⟩
  · skip
    refine wp_skip ?_
    refine then_n ?_
    refine wp_seq ?_
    refine wp_region_lit ?_
    refine lstep (wpO_plain rfl (op_bsO0 hs none none (size := 1) rfl rfl Try.underlying22 inf_u8_5 rfl rfl fun ad2 ac w hs => ?_))
    refine lstep (wpO_plain rfl (op_move hs none rfl rfl rfl rfl fun ac hs => ?_))
    refine lstep (wpO_plain rfl (op_appR hs none 1 0 (N' := l.length) (ys := bcs l) rfl rfl rfl rfl rfl rfl Try.underlying22 inf_u8_5 rfl (by decide) (bcs_len1 rfl) (bcs_one _) (by decide) (show 0 + l.length ≤ 1000000 by omega) (Nat.zero_add _) rfl rfl rfl fun ad3 cp4 ac w hs => ?_))
    refine lstep (wpO_plain rfl (op_assign hs none rfl rfl rfl rfl fun ac hs => ?_))
    refine wpList_nil ?_
    refine then_n ?_
    refine wp_ret ?_
    exact bodyPost_ret (res1 rfl (rv_t hs rfl)) hs.defers ⟨⟨ad3, cp4⟩, rfl, hs.bel rfl, hs.ret1 1 rfl⟩
theorem next_o (ad : Option Addr) (nl c : Nat) (l : List UInt8) (i : Int) (o : Nat) (p : List UInt8) (k er : Nat) (hlen : l.length ≤ 100000) (hN : NX l i = (o, p, k, er)) (w0 : World) (Z : Nat → Prop) (hl : ByV w0 Z (.slice ad nl c) l): Calls Try.prog 10 #[.slice ad nl c, .int .i64 i] w0 fun e w' => Ret w0 Z (ρ := Option Addr × Nat) (fun r => .tuple #[.agg #[.int .u8 ((o : Nat) : Int), .slice r.1 p.length r.2], .int .i64 ((k : Nat) : Int), .int .i64 ((er : Nat) : Int)]) (fun r => [.own (.slice r.1 p.length r.2) 5 1 p.length (bcs p)]) e w' := by
  obtain rfl := byv_len hl
  refine enterS (n := 56) (args := [.slice ad l.length c, .int .i64 i]) (S := [(true, .cel (.slice ad l.length c) l.length (bcs l))]) (Z := Z) Try.func10 rfl rfl (Nat.le_of_ble_eq_true rfl) (sokC hl sok0) rfl fun ac hs => ?_
  refine wp_seq ?_
  refine wp_region_lit ?_
  refine lstep (wpO_plain rfl (op_alloc hs none none (cs := [.int .u8 0, .slice none 0 0]) rfl rfl Try.zeroValue25 (by kernel_rfl) rfl rfl fun g1 ac w hs => ?_))
  refine lstep (wpO_plain rfl (op_assign hs none rfl rfl rfl rfl fun ac hs => ?_))
  refine lstep (wpO_plain rfl (op_assign hs none rfl rfl rfl rfl fun ac hs => ?_))
  refine wpList_nil ?_
  refine then_n ?_
  refine wp_seq ?_
  refine wp_seq ?_
  by_cases hq2 : i < 0
  · skip
    refine wp_region_lit ?_
    refine lstep (wpO_plain rfl (op_move hs none rfl rfl rfl rfl fun ac hs => ?_))
    refine lstep (wpO_plain rfl (op_bin hs none (v := .bool true) rfl rfl rfl rfl (fun _ => rfl) (fun w => dT hq2 (bin_lssI (x := i) (y := 0) w)) rfl fun ac hs => ?_))
    refine lstep (wpO_plain rfl (op_move hs none rfl rfl rfl rfl fun ac hs => ?_))
    refine lstep (wpO_out hs none rfl rfl (.inl rfl) rfl rfl fun ac hs => ?_)
    refine lstep (wpO_out hs none rfl rfl (.inl rfl) rfl rfl fun ac hs => ?_)
    refine lstep (wpO_out hs none rfl rfl (.inl rfl) rfl rfl fun ac hs => ?_)
    refine lstep (wpO_out hs none rfl rfl (.inl rfl) rfl rfl fun ac hs => ?_)
    refine lstep (wpO_plain rfl (op_pickT hs none rfl rfl rfl rfl rfl fun ac hs => ?_))
    refine wpList_nil ?_
    refine then_n ?_
    refine wp_cond_true (hs.ev rfl) ?_
    refine wp_seq ?_
    replace hs : St 56 ⟨w0, [], [(true, .cel (.slice ad l.length c) l.length (bcs l))], Z, noX⟩ [(0, true, .slice ad l.length c), (1, true, .int .i64 i), (4, true, .pointer (some ⟨g1, 0, none⟩)), (5, true, .int .i64 0), (6, true, .int .i64 0)] [(true, g1, 25, [.int .u8 0, .slice none 0 0])] ac _ := hs.re ⟨rfl, rfl, rfl, rfl, rfl, trivial⟩
    refine wp_region_lit ?_
    refine lstep (wpO_plain rfl (op_build hs none (qs := []) (v := .agg #[.int .u8 0, .slice none 0 0]) rfl rfl rfl rfl (fun _ => by kernel_rfl) rfl fun ac hs => ?_))
    refine lstep (wpO_plain rfl (op_store hs 0 (vs := [.int .u8 0, .slice none 0 0]) rfl rfl rfl rfl rfl Try.sizeOf25 rfl rfl rfl rfl rfl fun w hs => ?_))
    refine lstep (wpO_plain rfl (op_assign hs none rfl rfl rfl rfl fun ac hs => ?_))
    refine lstep (wpO_plain rfl (op_assign hs none rfl rfl rfl rfl fun ac hs => ?_))
    refine wpList_nil ?_
    refine then_n ?_
    refine wp_ret ?_
    refine then_r ?_
    exact bodyPost_ret (res3 rfl (rv_c hs 0 (v := .agg #[.int .u8 0, .slice none 0 0]) rfl rfl Try.isAgg25 Try.sizeOf25 rfl) (rv_t hs rfl) (rv_t hs rfl)) hs.defers ⟨⟨none, 0⟩, by obtain ⟨rfl, rfl, rfl, rfl⟩ := t4 ((NX_arg (by omega)).symm.trans hN); rfl, hs.bel rfl, by obtain ⟨rfl, rfl, rfl, rfl⟩ := t4 ((NX_arg (by omega)).symm.trans hN); exact okl_own0⟩
  · skip
    refine wp_region_lit ?_
    refine lstep (wpO_plain rfl (op_move hs none rfl rfl rfl rfl fun ac hs => ?_))
    refine lstep (wpO_plain rfl (op_bin hs none (v := .bool false) rfl rfl rfl rfl (fun _ => rfl) (fun w => dF hq2 (bin_lssI (x := i) (y := 0) w)) rfl fun ac hs => ?_))
    refine lstep (wpO_plain rfl (op_move hs none rfl rfl rfl rfl fun ac hs => ?_))
    refine lstep (wpO_in hs rfl rfl rfl (op_move hs none rfl rfl rfl rfl fun ac hs => ?_))
    refine lstep (wpO_in hs rfl rfl rfl (op_move hs none rfl rfl rfl rfl fun ac hs => ?_))
    refine lstep (wpO_in hs rfl rfl rfl (op_blt hs none (v := .int .i64 ((l.length : Nat) : Int)) rfl rfl rfl (blt_len Try.underlying22) rfl fun ac hs => ?_))
    refine lstep (wpO_in hs rfl rfl rfl (op_bin hs none (v := .bool (decide (((l.length : Nat) : Int) ≤ i))) rfl rfl rfl rfl (fun _ => rfl) (bin_geqI (x := i) (y := ((l.length : Nat) : Int))) rfl fun ac hs => ?_))
    refine lstep (wpO_plain rfl (op_pickF hs none rfl rfl rfl rfl rfl fun ac hs => ?_))
    refine wpList_nil ?_
    refine then_n ?_
    refine wp_cond_split (hs.ev rfl) (fun hc => ?_) (fun hc => ?_)
    · skip
      have hp3 := of_decide_eq_true hc
      refine wp_seq ?_
      replace hs : St 56 ⟨w0, [], [(true, .cel (.slice ad l.length c) l.length (bcs l))], Z, noX⟩ [(0, true, .slice ad l.length c), (1, true, .int .i64 i), (4, true, .pointer (some ⟨g1, 0, none⟩)), (5, true, .int .i64 0), (6, true, .int .i64 0)] [(true, g1, 25, [.int .u8 0, .slice none 0 0])] ac _ := hs.re ⟨rfl, rfl, rfl, rfl, rfl, trivial⟩
      refine wp_region_lit ?_
      refine lstep (wpO_plain rfl (op_build hs none (qs := []) (v := .agg #[.int .u8 0, .slice none 0 0]) rfl rfl rfl rfl (fun _ => by kernel_rfl) rfl fun ac hs => ?_))
      refine lstep (wpO_plain rfl (op_store hs 0 (vs := [.int .u8 0, .slice none 0 0]) rfl rfl rfl rfl rfl Try.sizeOf25 rfl rfl rfl rfl rfl fun w hs => ?_))
      refine lstep (wpO_plain rfl (op_assign hs none rfl rfl rfl rfl fun ac hs => ?_))
      refine lstep (wpO_plain rfl (op_assign hs none rfl rfl rfl rfl fun ac hs => ?_))
      refine wpList_nil ?_
      refine then_n ?_
      refine wp_ret ?_
      refine then_r ?_
      exact bodyPost_ret (res3 rfl (rv_c hs 0 (v := .agg #[.int .u8 0, .slice none 0 0]) rfl rfl Try.isAgg25 Try.sizeOf25 rfl) (rv_t hs rfl) (rv_t hs rfl)) hs.defers ⟨⟨none, 0⟩, by obtain ⟨rfl, rfl, rfl, rfl⟩ := t4 ((NX_arg (by omega)).symm.trans hN); rfl, hs.bel rfl, by obtain ⟨rfl, rfl, rfl, rfl⟩ := t4 ((NX_arg (by omega)).symm.trans hN); exact okl_own0⟩
    · skip
      have hp4 := of_decide_eq_false hc
      obtain ⟨j, rfl⟩ : ∃ j : Nat, i = (j : Int) := ⟨i.toNat, by omega⟩
      have hj : j < l.length := by omega
      have hdl : (l.drop j).length = l.length - j := by simp
      have hd1 := hd18_le (byt l j)
      refine wp_skip ?_
      refine then_n ?_
      refine wp_seq ?_
      replace hs : St 56 ⟨w0, [], [(true, .cel (.slice ad l.length c) l.length (bcs l))], Z, noX⟩ [(0, true, .slice ad l.length c), (1, true, .int .i64 ((j : Nat) : Int)), (4, true, .pointer (some ⟨g1, 0, none⟩)), (5, true, .int .i64 0), (6, true, .int .i64 0)] [(true, g1, 25, [.int .u8 0, .slice none 0 0])] ac _ := hs.re ⟨rfl, rfl, rfl, rfl, rfl, trivial⟩
      refine wp_region_lit ?_
      refine lstep (wpO_plain rfl (op_move hs none rfl rfl rfl rfl fun ac hs => ?_))
      refine lstep (wpO_plain rfl (op_move hs none rfl rfl rfl rfl fun ac hs => ?_))
      refine lstep (wpO_plain rfl (op_sliceR hs none none 0 j l.length (N' := (l.drop j).length) (cs' := bcs (l.drop j)) rfl rfl rfl rfl (.inr ⟨_, _, rfl, rfl⟩) (.inl ⟨rfl, rfl⟩) Try.underlying22 Try.sizeOf5 (show j ≤ l.length by omega) (show l.length ≤ l.length by omega) len_lo bcs_lo rfl rfl fun ac hs => ?_))
      refine lstep (wpO_plain rfl (op_assign hs none rfl rfl rfl rfl fun ac hs => ?_))
      refine wpList_nil ?_
      refine then_n ?_
      refine wp_seq ?_
      refine wp_region_lit ?_
      refine lstep (wpO_plain rfl (op_move hs none rfl rfl rfl rfl fun ac hs => ?_))
      obtain ⟨n5, h6, q7, hn5⟩ : ∃ z0 z1 z2, tld (l.drop j) = (z0, z1, z2) := ⟨_, _, _, rfl⟩
      refine lstep (wpO_plain rfl (op_callS (F := 27) (ρ := Unit) hs none none (v := fun r => .tuple #[.int .i64 ((n5 : Nat) : Int), .int .i64 ((h6 : Nat) : Int), .bool q7]) (E := fun r => []) (j := 0) rfl rfl rfl rfl (Try.call27 _) (fun hs => told_c (vsa ad c 1 j) ((l.drop j).length) (c - j) (l.drop j) n5 h6 q7 (show 0 < (l.drop j).length by (try simp only [List.length_drop, List.length_take, List.length_append, List.length_cons, List.length_nil]); omega) hn5 _ _ (hs.all (k := 1) rfl rfl)) (fun _ => rfl) rfl rfl fun _ ac w hs => ?_))
      refine lstep (wpO_plain rfl (op_move hs none rfl rfl rfl rfl fun ac hs => ?_))
      refine lstep (wpO_plain rfl (op_extract hs none rfl rfl rfl rfl rfl fun ac hs => ?_))
      refine lstep (wpO_plain rfl (op_extract hs none rfl rfl rfl rfl rfl fun ac hs => ?_))
      refine lstep (wpO_plain rfl (op_extract hs none rfl rfl rfl rfl rfl fun ac hs => ?_))
      refine lstep (wpO_plain rfl (op_assign hs none rfl rfl rfl rfl fun ac hs => ?_))
      refine lstep (wpO_plain rfl (op_assign hs none rfl rfl rfl rfl fun ac hs => ?_))
      refine lstep (wpO_plain rfl (op_assign hs none rfl rfl rfl rfl fun ac hs => ?_))
      refine wpList_nil ?_
      refine then_n ?_
      refine wp_seq ?_
      refine wp_seq ?_
      by_cases hq8 : q7 = true
      · skip
        replace hs := hs.re (fs' := [(0, true, .slice ad l.length c), (1, true, .int .i64 ((j : Nat) : Int)), (4, true, .pointer (some ⟨g1, 0, none⟩)), (5, true, .int .i64 0), (6, true, .int .i64 0), (20, true, .slice ad l.length c), (21, true, .int .i64 ((j : Nat) : Int)), (22, true, .slice (vsa ad c 1 j) ((l.drop j).length) (c - j)), (7, true, .slice (vsa ad c 1 j) ((l.drop j).length) (c - j)), (24, true, .slice (vsa ad c 1 j) ((l.drop j).length) (c - j)), (25, true, .tuple #[.int .i64 ((n5 : Nat) : Int), .int .i64 ((h6 : Nat) : Int), .bool q7]), (23, true, .tuple #[.int .i64 ((n5 : Nat) : Int), .int .i64 ((h6 : Nat) : Int), .bool q7]), (26, true, .int .i64 ((n5 : Nat) : Int)), (27, true, .int .i64 ((h6 : Nat) : Int)), (28, true, .bool q7), (8, true, .int .i64 ((n5 : Nat) : Int)), (9, true, .int .i64 ((h6 : Nat) : Int)), (10, true, .bool true)]) ⟨rfl, rfl, rfl, rfl, rfl, rfl, rfl, rfl, rfl, rfl, rfl, rfl, rfl, rfl, rfl, rfl, rfl, congrArg some (congrArg Value.bool hq8), trivial⟩
        rw [hq8] at hn5
        obtain ⟨hh1, hh2, hh3⟩ := tld_head hn5 (by omega)
        replace hs : St 56 ⟨w0, [], [(true, .cel (.slice ad l.length c) l.length (bcs l)), (true, .cel (.slice (vsa ad c 1 j) ((l.drop j).length) (c - j)) ((l.drop j).length) (bcs (l.drop j)))], Z, noX⟩ [(1, true, .int .i64 ((j : Nat) : Int)), (4, true, .pointer (some ⟨g1, 0, none⟩)), (5, true, .int .i64 0), (6, true, .int .i64 0), (7, true, .slice (vsa ad c 1 j) ((l.drop j).length) (c - j)), (8, true, .int .i64 ((n5 : Nat) : Int)), (9, true, .int .i64 ((h6 : Nat) : Int)), (10, true, .bool true)] [(true, g1, 25, [.int .u8 0, .slice none 0 0])] ac _ := hs.re ⟨rfl, rfl, rfl, rfl, rfl, rfl, rfl, rfl, trivial⟩
        refine wp_region_lit ?_
        refine lstep (wpO_plain rfl (op_move hs none rfl rfl rfl rfl fun ac hs => ?_))
        refine lstep (wpO_plain rfl (op_un hs none (v := .bool false) rfl rfl rfl (fun _ => rfl) rfl fun ac hs => ?_))
        refine lstep (wpO_plain rfl (op_move hs none rfl rfl rfl rfl fun ac hs => ?_))
        refine lstep (wpO_in hs rfl rfl rfl (op_move hs none rfl rfl rfl rfl fun ac hs => ?_))
        refine lstep (wpO_in hs rfl rfl rfl (op_move hs none rfl rfl rfl rfl fun ac hs => ?_))
        refine lstep (wpO_in hs rfl rfl rfl (op_blt hs none (v := .int .i64 (((l.drop j).length : Nat) : Int)) rfl rfl rfl (blt_len Try.underlying22) rfl fun ac hs => ?_))
        refine lstep (wpO_in hs rfl rfl rfl (op_move hs none rfl rfl rfl rfl fun ac hs => ?_))
        refine lstep (wpO_in hs rfl rfl rfl (op_bin hs none (v := .int .i64 (((l.drop j).length - h6 : Nat) : Int)) rfl rfl rfl rfl (fun _ => rfl) (bin_subN (x := (l.drop j).length) (y := h6) (z := (l.drop j).length - h6) (by omega) (show (l.drop j).length - h6 < 9223372036854775808 by (try simp only [List.length_drop, List.length_take, List.length_append, List.length_cons, List.length_nil]); omega)) rfl fun ac hs => ?_))
        refine lstep (wpO_in hs rfl rfl rfl (op_bin hs none (v := .bool (decide ((l.drop j).length - h6 < n5))) rfl rfl rfl rfl (fun _ => rfl) (bin_gtrN (x := n5) (y := (l.drop j).length - h6)) rfl fun ac hs => ?_))
        refine lstep (wpO_plain rfl (op_pickF hs none rfl rfl rfl rfl rfl fun ac hs => ?_))
        refine wpList_nil ?_
        refine then_n ?_
        refine wp_cond_split (hs.ev rfl) (fun hc => ?_) (fun hc => ?_)
        · skip
          have hp9 := of_decide_eq_true hc
          refine wp_seq ?_
          replace hs : St 56 ⟨w0, [], [(true, .cel (.slice ad l.length c) l.length (bcs l)), (true, .cel (.slice (vsa ad c 1 j) ((l.drop j).length) (c - j)) ((l.drop j).length) (bcs (l.drop j)))], Z, noX⟩ [(1, true, .int .i64 ((j : Nat) : Int)), (4, true, .pointer (some ⟨g1, 0, none⟩)), (5, true, .int .i64 0), (6, true, .int .i64 0), (7, true, .slice (vsa ad c 1 j) ((l.drop j).length) (c - j)), (8, true, .int .i64 ((n5 : Nat) : Int)), (9, true, .int .i64 ((h6 : Nat) : Int))] [(true, g1, 25, [.int .u8 0, .slice none 0 0])] ac _ := hs.re ⟨rfl, rfl, rfl, rfl, rfl, rfl, rfl, trivial⟩
          refine wp_region_lit ?_
          refine lstep (wpO_plain rfl (op_build hs none (qs := []) (v := .agg #[.int .u8 0, .slice none 0 0]) rfl rfl rfl rfl (fun _ => by kernel_rfl) rfl fun ac hs => ?_))
          refine lstep (wpO_plain rfl (op_store hs 0 (vs := [.int .u8 0, .slice none 0 0]) rfl rfl rfl rfl rfl Try.sizeOf25 rfl rfl rfl rfl rfl fun w hs => ?_))
          refine lstep (wpO_plain rfl (op_assign hs none rfl rfl rfl rfl fun ac hs => ?_))
          refine lstep (wpO_plain rfl (op_assign hs none rfl rfl rfl rfl fun ac hs => ?_))
          refine wpList_nil ?_
          refine then_n ?_
          refine wp_ret ?_
          refine then_r ?_
          exact bodyPost_ret (res3 rfl (rv_c hs 0 (v := .agg #[.int .u8 0, .slice none 0 0]) rfl rfl Try.isAgg25 Try.sizeOf25 rfl) (rv_t hs rfl) (rv_t hs rfl)) hs.defers ⟨⟨none, 0⟩, by obtain ⟨rfl, rfl, rfl, rfl⟩ := t4 ((NX_prog0 hj hn5 (.inr (by omega))).symm.trans hN); rfl, hs.bel rfl, by obtain ⟨rfl, rfl, rfl, rfl⟩ := t4 ((NX_prog0 hj hn5 (.inr (by omega))).symm.trans hN); exact okl_own0⟩
        · skip
          have hp10 := of_decide_eq_false hc
          refine wp_skip ?_
          refine then_n ?_
          refine wp_seq ?_
          replace hs : St 56 ⟨w0, [], [(true, .cel (.slice ad l.length c) l.length (bcs l)), (true, .cel (.slice (vsa ad c 1 j) ((l.drop j).length) (c - j)) ((l.drop j).length) (bcs (l.drop j)))], Z, noX⟩ [(1, true, .int .i64 ((j : Nat) : Int)), (4, true, .pointer (some ⟨g1, 0, none⟩)), (5, true, .int .i64 0), (6, true, .int .i64 0), (7, true, .slice (vsa ad c 1 j) ((l.drop j).length) (c - j)), (8, true, .int .i64 ((n5 : Nat) : Int)), (9, true, .int .i64 ((h6 : Nat) : Int))] [(true, g1, 25, [.int .u8 0, .slice none 0 0])] ac _ := hs.re ⟨rfl, rfl, rfl, rfl, rfl, rfl, rfl, trivial⟩
          have l11 := byt_lt (l.drop j) 0
          refine region_inv [([], [1, 2, 10, 16, 17, 18]), ([0], [2, 10, 16, 17, 18]), ([0, 1], [10, 16, 17, 18]), ([], [8, 9, 10, 16, 17, 18]), ([], [8, 9, 10, 16, 17, 18]), ([], [7, 8, 9, 10, 16, 17, 18]), ([], [7, 8, 9, 10, 16, 17, 18]), ([5, 6], [8, 9, 10, 16, 17, 18]), ([3, 4, 5, 6, 7], [9, 10, 16, 17, 18]), ([3, 4, 5, 6, 7, 8], [10, 16, 17, 18]), ([0, 1, 2, 3, 4, 5, 6, 7, 8, 9], [16, 17, 18]), ([], [13, 15, 17, 18]), ([], [13, 15, 17, 18]), ([11, 12], [15, 17, 18]), ([], [15, 17, 18]), ([11, 12, 13, 14], [17, 18]), ([0, 1, 2, 3, 4, 5, 6, 7, 8, 9, 10], [17, 18]), ([0, 1, 2, 3, 4, 5, 6, 7, 8, 9, 10, 11, 12, 13, 14, 15, 16], [18]), ([0, 1, 2, 3, 4, 5, 6, 7, 8, 9, 10, 11, 12, 13, 14, 15, 16, 17], [])] (fun L ac w => ∃ (ad12 : Option Addr) (cp13 : Nat), St 56 ⟨w0, [], [(true, .cel (.slice ad l.length c) l.length (bcs l)), (true, .cel (.slice (vsa ad c 1 j) ((l.drop j).length) (c - j)) ((l.drop j).length) (bcs (l.drop j))), (L 8, .cel (.slice (vsa (vsa ad c 1 j) (c - j) 1 h6) ((((l.drop j).drop h6).take n5).length) (c - j - h6)) ((((l.drop j).drop h6).take n5).length) (bcs (((l.drop j).drop h6).take n5))), (L 9, .own (.slice ad12 ((((l.drop j).drop h6).take n5).length) cp13) 5 1 ((((l.drop j).drop h6).take n5).length) (bcs (((l.drop j).drop h6).take n5)))], Z, noX⟩ [(40, L 0, .slice (vsa ad c 1 j) ((l.drop j).length) (c - j)), (41, L 1, vidx (.slice (vsa ad c 1 j) ((l.drop j).length) (c - j)) 0), (42, L 2, .int .u8 ((byt (l.drop j) 0 : Nat) : Int)), (43, L 3, .slice (vsa ad c 1 j) ((l.drop j).length) (c - j)), (44, L 4, .int .i64 ((h6 : Nat) : Int)), (45, L 5, .int .i64 ((h6 : Nat) : Int)), (46, L 6, .int .i64 ((n5 : Nat) : Int)), (47, L 7, .int .i64 ((h6 + n5 : Nat) : Int)), (48, L 8, .slice (vsa (vsa ad c 1 j) (c - j) 1 h6) ((((l.drop j).drop h6).take n5).length) (c - j - h6)), (49, L 9, .slice ad12 ((((l.drop j).drop h6).take n5).length) cp13), (50, L 10, cond (L 10) (.agg #[.int .u8 ((byt (l.drop j) 0 : Nat) : Int), .slice ad12 ((((l.drop j).drop h6).take n5).length) cp13]) undef), (51, L 11, .int .i64 ((j : Nat) : Int)), (52, L 12, .int .i64 ((h6 : Nat) : Int)), (53, L 13, .int .i64 ((j + h6 : Nat) : Int)), (54, L 14, .int .i64 ((n5 : Nat) : Int)), (55, L 15, .int .i64 ((j + h6 + n5 : Nat) : Int)), (5, L 17, .int .i64 ((j + h6 + n5 : Nat) : Int)), (6, L 18, .int .i64 0), (1, true, .int .i64 ((j : Nat) : Int)), (4, true, .pointer (some ⟨g1, 0, none⟩)), (5, true, .int .i64 0), (6, true, .int .i64 0), (7, true, .slice (vsa ad c 1 j) ((l.drop j).length) (c - j)), (8, true, .int .i64 ((n5 : Nat) : Int)), (9, true, .int .i64 ((h6 : Nat) : Int))] [(true, g1, 25, (cond (L 16) [.int .u8 ((byt (l.drop j) 0 : Nat) : Int), .slice ad12 ((((l.drop j).drop h6).take n5).length) cp13] [.int .u8 0, .slice none 0 0]))] ac w) (by kernel_rfl) (by kernel_rfl) ?_ ?_ ?_
          · exact ⟨none, 0, hs.drew.skip.skip.skip.skip.skip.skip.skip.skip.skip.skip.skip.skip.skip.skip.skip.skip.skip.skip.padS.padS⟩
          · refine ⟨?_, ?_, ?_, ?_, ?_, ?_, ?_, ?_, ?_, ?_, ?_, ?_, ?_, ?_, ?_, ?_, ?_, ?_, ?_, trivial⟩
            · intro L ac w hJ
              obtain ⟨ad12, cp13, hs⟩ := hJ
              refine wpO_plain rfl (op_move hs (some 0) rfl rfl rfl rfl fun ac hs => ?_)
              exact ⟨ad12, cp13, hs⟩
            · intro L ac w hJ
              obtain ⟨ad12, cp13, hs⟩ := hJ
              refine wpO_plain rfl (op_idxC hs (some 1) 1 (j := 0) rfl rfl rfl rfl rfl Try.underlying22 Try.sizeOf5 (show 0 < (l.drop j).length by (try simp only [List.length_drop, List.length_take, List.length_append, List.length_cons, List.length_nil]); omega) (off := 0) (by omega) rfl fun ac hs => ?_)
              exact ⟨ad12, cp13, hs⟩
            · intro L ac w hJ
              obtain ⟨ad12, cp13, hs⟩ := hJ
              refine wpO_plain rfl (op_loadC hs (some 2) 1 (u := .int .u8 ((byt (l.drop j) 0 : Nat) : Int)) rfl rfl rfl rfl Try.isAgg5 Try.sizeOf5 (by decide) (bcs_get (show 0 < (l.drop j).length by (try simp only [List.length_drop, List.length_take, List.length_append, List.length_cons, List.length_nil]); omega)) rfl fun ac hs => ?_)
              exact ⟨ad12, cp13, hs⟩
            · intro L ac w hJ
              obtain ⟨ad12, cp13, hs⟩ := hJ
              refine wpO_plain rfl (op_move hs (some 3) rfl rfl rfl rfl fun ac hs => ?_)
              exact ⟨ad12, cp13, hs⟩
            · intro L ac w hJ
              obtain ⟨ad12, cp13, hs⟩ := hJ
              refine wpO_plain rfl (op_move hs (some 4) rfl rfl rfl rfl fun ac hs => ?_)
              exact ⟨ad12, cp13, hs⟩
            · intro L ac w hJ
              obtain ⟨ad12, cp13, hs⟩ := hJ
              refine wpO_plain rfl (op_move hs (some 5) rfl rfl rfl rfl fun ac hs => ?_)
              exact ⟨ad12, cp13, hs⟩
            · intro L ac w hJ
              obtain ⟨ad12, cp13, hs⟩ := hJ
              refine wpO_plain rfl (op_move hs (some 6) rfl rfl rfl rfl fun ac hs => ?_)
              exact ⟨ad12, cp13, hs⟩
            · intro L ac w hJ
              obtain ⟨ad12, cp13, hs⟩ := hJ
              refine wpO_plain rfl (op_bin hs (some 7) (v := .int .i64 ((h6 + n5 : Nat) : Int)) rfl rfl rfl rfl (fun _ => rfl) (bin_addN (x := h6) (y := n5) (z := h6 + n5) rfl (show h6 + n5 < 9223372036854775808 by omega)) rfl fun ac hs => ?_)
              exact ⟨ad12, cp13, hs⟩
            · intro L ac w hJ
              obtain ⟨ad12, cp13, hs⟩ := hJ
              refine wpO_plain rfl (op_sliceR hs (some 8) (some 2) 1 h6 (h6 + n5) (N' := (((l.drop j).drop h6).take n5).length) (cs' := bcs (((l.drop j).drop h6).take n5)) rfl rfl rfl rfl (.inr ⟨_, _, rfl, rfl⟩) (.inr ⟨_, _, rfl, rfl⟩) Try.underlying22 Try.sizeOf5 (show h6 ≤ h6 + n5 by omega) (show h6 + n5 ≤ (l.drop j).length by (try simp only [List.length_drop, List.length_take, List.length_append, List.length_cons, List.length_nil]); omega) (len_part (show h6 + n5 ≤ (l.drop j).length by (try simp only [List.length_drop, List.length_take, List.length_append, List.length_cons, List.length_nil]); omega)) bcs_partn rfl rfl fun ac hs => ?_)
              exact ⟨ad12, cp13, hs⟩
            · intro L ac w hJ
              obtain ⟨ad12, cp13, hs⟩ := hJ
              refine wpO_plain rfl (op_callS (F := 28) (ρ := Option Addr × Nat) hs (some 9) (some 3) (v := fun r => .slice r.1 ((((l.drop j).drop h6).take n5).length) r.2) (E := fun r => [.own (.slice r.1 ((((l.drop j).drop h6).take n5).length) r.2) 5 1 ((((l.drop j).drop h6).take n5).length) (bcs (((l.drop j).drop h6).take n5))]) (j := 1) rfl rfl rfl rfl (Try.call28 _) (fun hs => clone_o (vsa (vsa ad c 1 j) (c - j) 1 h6) ((((l.drop j).drop h6).take n5).length) (c - j - h6) (((l.drop j).drop h6).take n5) (show (((l.drop j).drop h6).take n5).length ≤ 100000 by (try simp only [List.length_drop, List.length_take, List.length_append, List.length_cons, List.length_nil]); omega) _ _ (hs.all (k := 2) rfl rfl)) (fun _ => rfl) rfl rfl fun ⟨ad12, cp13⟩ ac w hs => ?_)
              exact ⟨ad12, cp13, hs⟩
            · intro L ac w hJ
              obtain ⟨ad12, cp13, hs⟩ := hJ
              refine wpO_plain rfl (op_build hs (some 10) (qs := [(0, .int .u8 ((byt (l.drop j) 0 : Nat) : Int)), (1, .slice ad12 ((((l.drop j).drop h6).take n5).length) cp13)]) (v := .agg #[.int .u8 ((byt (l.drop j) 0 : Nat) : Int), .slice ad12 ((((l.drop j).drop h6).take n5).length) cp13]) rfl rfl rfl rfl (fun _ => by kernel_rfl) rfl fun ac hs => ?_)
              exact ⟨ad12, cp13, hs⟩
            · intro L ac w hJ
              obtain ⟨ad12, cp13, hs⟩ := hJ
              refine wpO_plain rfl (op_move hs (some 11) rfl rfl rfl rfl fun ac hs => ?_)
              exact ⟨ad12, cp13, hs⟩
            · intro L ac w hJ
              obtain ⟨ad12, cp13, hs⟩ := hJ
              refine wpO_plain rfl (op_move hs (some 12) rfl rfl rfl rfl fun ac hs => ?_)
              exact ⟨ad12, cp13, hs⟩
            · intro L ac w hJ
              obtain ⟨ad12, cp13, hs⟩ := hJ
              refine wpO_plain rfl (op_bin hs (some 13) (v := .int .i64 ((j + h6 : Nat) : Int)) rfl rfl rfl rfl (fun _ => rfl) (bin_addN (x := j) (y := h6) (z := j + h6) rfl (show j + h6 < 9223372036854775808 by omega)) rfl fun ac hs => ?_)
              exact ⟨ad12, cp13, hs⟩
            · intro L ac w hJ
              obtain ⟨ad12, cp13, hs⟩ := hJ
              refine wpO_plain rfl (op_move hs (some 14) rfl rfl rfl rfl fun ac hs => ?_)
              exact ⟨ad12, cp13, hs⟩
            · intro L ac w hJ
              obtain ⟨ad12, cp13, hs⟩ := hJ
              refine wpO_plain rfl (op_bin hs (some 15) (v := .int .i64 ((j + h6 + n5 : Nat) : Int)) rfl rfl rfl rfl (fun _ => rfl) (bin_addN (x := j + h6) (y := n5) (z := j + h6 + n5) rfl (show j + h6 + n5 < 9223372036854775808 by omega)) rfl fun ac hs => ?_)
              exact ⟨ad12, cp13, hs⟩
            · intro L ac w hJ
              obtain ⟨ad12, cp13, hs⟩ := hJ
              refine wpO_plain rfl (op_store hs 0 (vs := [.int .u8 ((byt (l.drop j) 0 : Nat) : Int), .slice ad12 ((((l.drop j).drop h6).take n5).length) cp13]) rfl rfl rfl rfl rfl Try.sizeOf25 rfl rfl rfl rfl rfl fun w hs => ?_)
              exact ⟨ad12, cp13, hs⟩
            · intro L ac w hJ
              obtain ⟨ad12, cp13, hs⟩ := hJ
              refine wpO_plain rfl (op_assign hs (some 16) rfl rfl rfl rfl fun ac hs => ?_)
              exact ⟨ad12, cp13, hs⟩
            · intro L ac w hJ
              obtain ⟨ad12, cp13, hs⟩ := hJ
              refine wpO_plain rfl (op_assign hs (some 17) rfl rfl rfl rfl fun ac hs => ?_)
              exact ⟨ad12, cp13, hs⟩
          intro ac w hJ
          obtain ⟨ad12, cp13, hs⟩ := hJ
          replace hs : St 56 ⟨w0, [], [(true, .cel (.slice ad l.length c) l.length (bcs l)), (true, .cel (.slice (vsa ad c 1 j) ((l.drop j).length) (c - j)) ((l.drop j).length) (bcs (l.drop j))), (true, .cel (.slice (vsa (vsa ad c 1 j) (c - j) 1 h6) ((((l.drop j).drop h6).take n5).length) (c - j - h6)) ((((l.drop j).drop h6).take n5).length) (bcs (((l.drop j).drop h6).take n5))), (true, .own (.slice ad12 ((((l.drop j).drop h6).take n5).length) cp13) 5 1 ((((l.drop j).drop h6).take n5).length) (bcs (((l.drop j).drop h6).take n5)))], Z, noX⟩ [(40, true, .slice (vsa ad c 1 j) ((l.drop j).length) (c - j)), (41, true, vidx (.slice (vsa ad c 1 j) ((l.drop j).length) (c - j)) 0), (42, true, .int .u8 ((byt (l.drop j) 0 : Nat) : Int)), (43, true, .slice (vsa ad c 1 j) ((l.drop j).length) (c - j)), (44, true, .int .i64 ((h6 : Nat) : Int)), (45, true, .int .i64 ((h6 : Nat) : Int)), (46, true, .int .i64 ((n5 : Nat) : Int)), (47, true, .int .i64 ((h6 + n5 : Nat) : Int)), (48, true, .slice (vsa (vsa ad c 1 j) (c - j) 1 h6) ((((l.drop j).drop h6).take n5).length) (c - j - h6)), (49, true, .slice ad12 ((((l.drop j).drop h6).take n5).length) cp13), (50, true, .agg #[.int .u8 ((byt (l.drop j) 0 : Nat) : Int), .slice ad12 ((((l.drop j).drop h6).take n5).length) cp13]), (51, true, .int .i64 ((j : Nat) : Int)), (52, true, .int .i64 ((h6 : Nat) : Int)), (53, true, .int .i64 ((j + h6 : Nat) : Int)), (54, true, .int .i64 ((n5 : Nat) : Int)), (55, true, .int .i64 ((j + h6 + n5 : Nat) : Int)), (5, true, .int .i64 ((j + h6 + n5 : Nat) : Int)), (6, true, .int .i64 0), (1, true, .int .i64 ((j : Nat) : Int)), (4, true, .pointer (some ⟨g1, 0, none⟩)), (5, true, .int .i64 0), (6, true, .int .i64 0), (7, true, .slice (vsa ad c 1 j) ((l.drop j).length) (c - j)), (8, true, .int .i64 ((n5 : Nat) : Int)), (9, true, .int .i64 ((h6 : Nat) : Int))] [(true, g1, 25, [.int .u8 ((byt (l.drop j) 0 : Nat) : Int), .slice ad12 ((((l.drop j).drop h6).take n5).length) cp13])] ac w := hs
          refine then_n ?_
          refine wp_ret ?_
          exact bodyPost_ret (res3 rfl (rv_c hs 0 (v := .agg #[.int .u8 ((byt (l.drop j) 0 : Nat) : Int), .slice ad12 ((((l.drop j).drop h6).take n5).length) cp13]) rfl rfl Try.isAgg25 Try.sizeOf25 rfl) (rv_t hs rfl) (rv_t hs rfl)) hs.defers ⟨⟨ad12, cp13⟩, by obtain ⟨rfl, rfl, rfl, rfl⟩ := t4 ((NX_prog hj hn5 (by omega)).symm.trans hN); rfl, hs.bel rfl, by obtain ⟨rfl, rfl, rfl, rfl⟩ := t4 ((NX_prog hj hn5 (by omega)).symm.trans hN); exact hs.ret1 3 rfl⟩
      · skip
        replace hs := hs.re (fs' := [(0, true, .slice ad l.length c), (1, true, .int .i64 ((j : Nat) : Int)), (4, true, .pointer (some ⟨g1, 0, none⟩)), (5, true, .int .i64 0), (6, true, .int .i64 0), (20, true, .slice ad l.length c), (21, true, .int .i64 ((j : Nat) : Int)), (22, true, .slice (vsa ad c 1 j) ((l.drop j).length) (c - j)), (7, true, .slice (vsa ad c 1 j) ((l.drop j).length) (c - j)), (24, true, .slice (vsa ad c 1 j) ((l.drop j).length) (c - j)), (25, true, .tuple #[.int .i64 ((n5 : Nat) : Int), .int .i64 ((h6 : Nat) : Int), .bool q7]), (23, true, .tuple #[.int .i64 ((n5 : Nat) : Int), .int .i64 ((h6 : Nat) : Int), .bool q7]), (26, true, .int .i64 ((n5 : Nat) : Int)), (27, true, .int .i64 ((h6 : Nat) : Int)), (28, true, .bool q7), (8, true, .int .i64 ((n5 : Nat) : Int)), (9, true, .int .i64 ((h6 : Nat) : Int)), (10, true, .bool false)]) ⟨rfl, rfl, rfl, rfl, rfl, rfl, rfl, rfl, rfl, rfl, rfl, rfl, rfl, rfl, rfl, rfl, rfl, congrArg some (congrArg Value.bool (Bool.eq_false_iff.2 hq8)), trivial⟩
        replace hs : St 56 ⟨w0, [], [(true, .cel (.slice ad l.length c) l.length (bcs l)), (true, .cel (.slice (vsa ad c 1 j) ((l.drop j).length) (c - j)) ((l.drop j).length) (bcs (l.drop j)))], Z, noX⟩ [(1, true, .int .i64 ((j : Nat) : Int)), (4, true, .pointer (some ⟨g1, 0, none⟩)), (5, true, .int .i64 0), (6, true, .int .i64 0), (7, true, .slice (vsa ad c 1 j) ((l.drop j).length) (c - j)), (8, true, .int .i64 ((n5 : Nat) : Int)), (9, true, .int .i64 ((h6 : Nat) : Int)), (10, true, .bool false)] [(true, g1, 25, [.int .u8 0, .slice none 0 0])] ac _ := hs.re ⟨rfl, rfl, rfl, rfl, rfl, rfl, rfl, rfl, trivial⟩
        refine wp_region_lit ?_
        refine lstep (wpO_plain rfl (op_move hs none rfl rfl rfl rfl fun ac hs => ?_))
        refine lstep (wpO_plain rfl (op_un hs none (v := .bool true) rfl rfl rfl (fun _ => rfl) rfl fun ac hs => ?_))
        refine lstep (wpO_plain rfl (op_move hs none rfl rfl rfl rfl fun ac hs => ?_))
        refine lstep (wpO_out hs none rfl rfl (.inl rfl) rfl rfl fun ac hs => ?_)
        refine lstep (wpO_out hs none rfl rfl (.inl rfl) rfl rfl fun ac hs => ?_)
        refine lstep (wpO_out hs none rfl rfl (.inl rfl) rfl rfl fun ac hs => ?_)
        refine lstep (wpO_out hs none rfl rfl (.inl rfl) rfl rfl fun ac hs => ?_)
        refine lstep (wpO_out hs none rfl rfl (.inl rfl) rfl rfl fun ac hs => ?_)
        refine lstep (wpO_out hs none rfl rfl (.inl rfl) rfl rfl fun ac hs => ?_)
        refine lstep (wpO_plain rfl (op_pickT hs none rfl rfl rfl rfl rfl fun ac hs => ?_))
        refine wpList_nil ?_
        refine then_n ?_
        refine wp_cond_true (hs.ev rfl) ?_
        refine wp_seq ?_
        refine wp_region_lit ?_
        refine lstep (wpO_plain rfl (op_build hs none (qs := []) (v := .agg #[.int .u8 0, .slice none 0 0]) rfl rfl rfl rfl (fun _ => by kernel_rfl) rfl fun ac hs => ?_))
        refine lstep (wpO_plain rfl (op_store hs 0 (vs := [.int .u8 0, .slice none 0 0]) rfl rfl rfl rfl rfl Try.sizeOf25 rfl rfl rfl rfl rfl fun w hs => ?_))
        refine lstep (wpO_plain rfl (op_assign hs none rfl rfl rfl rfl fun ac hs => ?_))
        refine lstep (wpO_plain rfl (op_assign hs none rfl rfl rfl rfl fun ac hs => ?_))
        refine wpList_nil ?_
        refine then_n ?_
        refine wp_ret ?_
        refine then_r ?_
        exact bodyPost_ret (res3 rfl (rv_c hs 0 (v := .agg #[.int .u8 0, .slice none 0 0]) rfl rfl Try.isAgg25 Try.sizeOf25 rfl) (rv_t hs rfl) (rv_t hs rfl)) hs.defers ⟨⟨none, 0⟩, by obtain ⟨rfl, rfl, rfl, rfl⟩ := t4 ((NX_prog0 hj hn5 (.inl (Bool.eq_false_iff.2 hq8))).symm.trans hN); rfl, hs.bel rfl, by obtain ⟨rfl, rfl, rfl, rfl⟩ := t4 ((NX_prog0 hj hn5 (.inl (Bool.eq_false_iff.2 hq8))).symm.trans hN); exact okl_own0⟩
theorem all_o (ad : Option Addr) (nl c : Nat) (l : List UInt8) (ws' : List Wd) (er : Nat) (hlen : l.length ≤ 100000) (hA : AW l = (ws', er)) (w0 : World) (Z : Nat → Prop) (hl : ByV w0 Z (.slice ad nl c) l): Calls Try.prog 12 #[.slice ad nl c] w0 fun e w' => Ret w0 Z (ρ := Option Addr × Nat × List Value × (Nat → Prop)) (fun r => .tuple #[.slice r.1 ws'.length r.2.1, .int .i64 ((er : Nat) : Int)]) (fun r => [.own (.slice r.1 ws'.length r.2.1) 25 2 ws'.length (wcl ws' r.2.2.1), .bysO r.2.2.2 r.2.2.1 (ws'.map Prod.snd)]) e w' := by
  obtain rfl := byv_len hl
  refine enterS (n := 29) (args := [.slice ad l.length c]) (S := [(true, .cel (.slice ad l.length c) l.length (bcs l))]) (Z := Z) Try.func12 rfl rfl (Nat.le_of_ble_eq_true rfl) (sokC hl sok0) rfl fun ac hs => ?_
  refine wp_seq ?_
  refine wp_region_lit ?_
  refine lstep (wpO_plain rfl (op_assign hs none rfl rfl rfl rfl fun ac hs => ?_))
  refine lstep (wpO_plain rfl (op_assign hs none rfl rfl rfl rfl fun ac hs => ?_))
  refine wpList_nil ?_
  refine then_n ?_
  refine wp_seq ?_
  refine wp_region_lit ?_
  replace hs := hs.nilOwn none 25 2 rfl
  refine lstep (wpO_plain rfl (op_assign hs none (v := .slice none 0 0) rfl rfl rfl rfl fun ac hs => ?_))
  refine wpList_nil ?_
  refine then_n ?_
  refine wp_seq ?_
  refine wp_seq ?_
  refine wp_region_lit ?_
  refine lstep (wpO_plain rfl (op_assign hs none rfl rfl rfl rfl fun ac hs => ?_))
  refine wpList_nil ?_
  refine then_n ?_
  refine wp_block ?_
  replace hs := hs.nilBysO none rfl
  refine wp_loop_m (fun μ ac w => ∃ (i : Nat) (ws : List Wd) (vs : List Value) (aw : Option Addr) (cw : Nat) (f : Nat) (G : Nat → Prop), (l.length - i) = μ ∧ (i ≤ l.length) ∧ (vs.length = ws.length) ∧ (ws.length ≤ i) ∧ (l.length - i ≤ f) ∧ (AW l = glue ws (parseF l f i)) ∧ St 29 ⟨w0, [], [(true, .cel (.slice ad l.length c) l.length (bcs l)), (true, .own (.slice aw ws.length cw) 25 2 ws.length (wcl ws vs)), (true, .bysO G vs (ws.map Prod.snd))], Z, noX⟩ [(0, true, .slice ad l.length c), (4, true, .slice aw ws.length cw), (5, true, .int .i64 ((i : Nat) : Int)), (2, true, .slice none 0 0), (3, true, .int .i64 0)] [] ac w) ?_ ?_
  · exact ⟨_, 0, ([]), ([]), none, 0, l.length, noX, rfl, (by omega), rfl, (by simp), (by omega), parse_start, (hs.re (fs' := [(0, true, .slice ad l.length c), (4, true, .slice none ([]).length 0), (5, true, .int .i64 ((0 : Nat) : Int)), (2, true, .slice none 0 0), (3, true, .int .i64 0)]) ⟨rfl, rfl, rfl, rfl, rfl, trivial⟩)⟩
  intro μ ac w ⟨i, ws, vs, aw, cw, f, G, hμ, hi, hvs, hwi, hf, hR, hs⟩
  refine wp_seq ?_
  refine wp_seq ?_
  refine wp_region_lit ?_
  refine lstep (wpO_plain rfl (op_move hs none rfl rfl rfl rfl fun ac hs => ?_))
  refine lstep (wpO_plain rfl (op_move hs none rfl rfl rfl rfl fun ac hs => ?_))
  refine lstep (wpO_plain rfl (op_blt hs none (v := .int .i64 ((l.length : Nat) : Int)) rfl rfl rfl (blt_len Try.underlying22) rfl fun ac hs => ?_))
  refine lstep (wpO_plain rfl (op_bin hs none (v := .bool (decide (i < l.length))) rfl rfl rfl rfl (fun _ => rfl) (bin_lssN (x := i) (y := l.length)) rfl fun ac hs => ?_))
  refine wpList_nil ?_
  refine then_n ?_
  refine wp_cond_split (hs.ev rfl) (fun hc => ?_) (fun hc => ?_)
  · skip
    have hp1 := of_decide_eq_true hc
    have hlt := hp1
    refine wp_skip ?_
    refine then_n ?_
    refine wp_block ?_
    refine wp_seq ?_
    refine wp_region_lit ?_
    refine lstep (wpO_plain rfl (op_move hs none rfl rfl rfl rfl fun ac hs => ?_))
    refine lstep (wpO_plain rfl (op_move hs none rfl rfl rfl rfl fun ac hs => ?_))
    obtain ⟨o2, p3, k4, er5, ho2⟩ : ∃ z0 z1 z2 z3, NX l ((i : Nat) : Int) = (z0, z1, z2, z3) := ⟨_, _, _, _, rfl⟩
    refine lstep (wpO_plain rfl (op_callS (F := 10) (ρ := Option Addr × Nat) hs none none (v := fun r => .tuple #[.agg #[.int .u8 ((o2 : Nat) : Int), .slice r.1 p3.length r.2], .int .i64 ((k4 : Nat) : Int), .int .i64 ((er5 : Nat) : Int)]) (E := fun r => [.own (.slice r.1 p3.length r.2) 5 1 p3.length (bcs p3)]) (j := 1) rfl rfl rfl rfl (Try.call10 _) (fun hs => next_o ad l.length c l ((i : Nat) : Int) o2 p3 k4 er5 (show l.length ≤ 100000 by omega) ho2 _ _ (hs.all (k := 0) rfl rfl)) (fun _ => rfl) rfl rfl fun ⟨ad6, cp7⟩ ac w hs => ?_))
    refine lstep (wpO_plain rfl (op_move hs none rfl rfl rfl rfl fun ac hs => ?_))
    refine lstep (wpO_plain rfl (op_extract hs none rfl rfl rfl rfl rfl fun ac hs => ?_))
    refine lstep (wpO_plain rfl (op_extract hs none rfl rfl rfl rfl rfl fun ac hs => ?_))
    refine lstep (wpO_plain rfl (op_extract hs none rfl rfl rfl rfl rfl fun ac hs => ?_))
    refine lstep (wpO_plain rfl (op_alloc hs none none (cs := [.int .u8 0, .slice none 0 0]) rfl rfl Try.zeroValue25 (by kernel_rfl) rfl rfl fun g8 ac w hs => ?_))
    refine lstep (wpO_plain rfl (op_store hs 0 (vs := [.int .u8 ((o2 : Nat) : Int), .slice ad6 p3.length cp7]) rfl rfl rfl rfl rfl Try.sizeOf25 rfl rfl rfl rfl rfl fun w hs => ?_))
    refine lstep (wpO_plain rfl (op_assign hs none rfl rfl rfl rfl fun ac hs => ?_))
    refine lstep (wpO_plain rfl (op_assign hs none rfl rfl rfl rfl fun ac hs => ?_))
    refine wpList_nil ?_
    refine then_n ?_
    refine wp_seq ?_
    refine wp_seq ?_
    replace hs : St 29 ⟨w0, [], [(true, .cel (.slice ad l.length c) l.length (bcs l)), (true, .own (.slice aw ws.length cw) 25 2 ws.length (wcl ws vs)), (true, .bysO G vs (ws.map Prod.snd)), (true, .own (.slice ad6 p3.length cp7) 5 1 p3.length (bcs p3))], Z, noX⟩ [(0, true, .slice ad l.length c), (4, true, .slice aw ws.length cw), (5, true, .int .i64 ((i : Nat) : Int)), (2, true, .slice none 0 0), (3, true, .int .i64 0), (6, true, .pointer (some ⟨g8, 0, none⟩)), (7, true, .int .i64 ((k4 : Nat) : Int)), (8, true, .int .i64 ((er5 : Nat) : Int))] [(true, g8, 25, [.int .u8 ((o2 : Nat) : Int), .slice ad6 p3.length cp7])] ac _ := hs.re ⟨rfl, rfl, rfl, rfl, rfl, rfl, rfl, rfl, trivial⟩
    refine wp_region_lit ?_
    refine lstep (wpO_plain rfl (op_move hs none rfl rfl rfl rfl fun ac hs => ?_))
    refine lstep (wpO_plain rfl (op_bin hs none (v := .bool (decide (er5 ≠ 0))) rfl rfl rfl rfl (fun _ => rfl) (bin_neqN (x := er5) (y := 0)) rfl fun ac hs => ?_))
    refine wpList_nil ?_
    refine then_n ?_
    refine wp_cond_split (hs.ev rfl) (fun hc => ?_) (fun hc => ?_)
    · skip
      have hp9 := of_decide_eq_true hc
      refine wp_seq ?_
      refine wp_region_lit ?_
      refine lstep (wpO_plain rfl (op_move hs none rfl rfl rfl rfl fun ac hs => ?_))
      refine lstep (wpO_plain rfl (op_assign hs none rfl rfl rfl rfl fun ac hs => ?_))
      refine lstep (wpO_plain rfl (op_assign hs none rfl rfl rfl rfl fun ac hs => ?_))
      refine wpList_nil ?_
      refine then_n ?_
      refine wp_ret ?_
      refine then_r ?_
      refine blk_r ?_
      refine then_r ?_
      refine blk_r ?_
      refine then_r ?_
      exact bodyPost_ret (res2 rfl (rv_t hs rfl) (rv_t hs rfl)) hs.defers ⟨⟨none, 0, [], noX⟩, by obtain ⟨rfl, rfl⟩ := Prod.mk.inj ((parse_err hlt hf ho2 hp9 hR).symm.trans hA); rfl, hs.bel rfl, by obtain ⟨rfl, rfl⟩ := Prod.mk.inj ((parse_err hlt hf ho2 hp9 hR).symm.trans hA); exact okl_wordsO⟩
    · skip
      have hp10 := of_decide_eq_false hc
      have hN1 : NX l (i : Int) = (o2, p3, k4, 0) := by rw [ho2]; simp only [Prod.mk.injEq, true_and]; exact Classical.not_not.1 hp10
      have hnx := NX_next hlt hN1
      refine wp_skip ?_
      refine then_n ?_
      refine wp_seq ?_
      refine wp_region_lit ?_
      refine lstep (wpO_plain rfl (op_move hs none rfl rfl rfl rfl fun ac hs => ?_))
      refine lstep (wpO_plain rfl (op_load hs none 0 (v := .agg #[.int .u8 ((o2 : Nat) : Int), .slice ad6 p3.length cp7]) rfl rfl rfl rfl Try.isAgg25 Try.sizeOf25 rfl rfl fun ac hs => ?_))
      refine lstep (wpO_plain rfl (op_bsO hs none none (qs := [(0, .agg #[.int .u8 ((o2 : Nat) : Int), .slice ad6 p3.length cp7])]) (cs := [.int .u8 ((o2 : Nat) : Int), .slice ad6 p3.length cp7]) rfl rfl rfl rfl Try.underlying29 inf_struct_25 (by decide) (by decide) (fill_pair _ _ _) rfl rfl rfl rfl fun ad12 ac w hs => ?_))
      refine lstep (wpO_plain rfl (op_appR hs none 1 4 (N' := (ws ++ [(o2, p3)]).length) (ys := wcl (ws ++ [(o2, p3)]) (vs ++ [.slice ad6 p3.length cp7])) rfl rfl rfl rfl rfl rfl Try.underlying29 inf_struct_25 rfl (by decide) rfl (by intro u hu; simp at hu; rcases hu with rfl | rfl <;> rfl) (by decide) (show ws.length + 1 ≤ 1000000 by omega) (by simp) (wcl_snoc _ _ _ _ _ hvs) rfl rfl fun ad13 cp14 ac w hs => ?_))
      refine lstep (wpO_plain rfl (op_assign hs none rfl rfl rfl rfl fun ac hs => ?_))
      refine wpList_nil ?_
      refine then_n ?_
      replace hs : St 29 ⟨w0, [], [(true, .cel (.slice ad l.length c) l.length (bcs l)), (true, .own (.slice ad13 ((ws ++ [(o2, p3)]).length) cp14) 25 2 ((ws ++ [(o2, p3)]).length) (wcl (ws ++ [(o2, p3)]) (vs ++ [.slice ad6 p3.length cp7]))), (true, .bysO G vs (ws.map Prod.snd)), (true, .own (.slice ad6 p3.length cp7) 5 1 p3.length (bcs p3)), (true, .own (.slice ad12 1 1) 25 2 1 ([.int .u8 ((o2 : Nat) : Int), .slice ad6 p3.length cp7]))], Z, noX⟩ [(0, true, .slice ad l.length c), (4, true, .slice ad13 ((ws ++ [(o2, p3)]).length) cp14), (5, true, .int .i64 ((i : Nat) : Int)), (2, true, .slice none 0 0), (3, true, .int .i64 0), (7, true, .int .i64 ((k4 : Nat) : Int))] [(true, g8, 25, [.int .u8 ((o2 : Nat) : Int), .slice ad6 p3.length cp7])] ac _ := hs.re ⟨rfl, rfl, rfl, rfl, rfl, rfl, trivial⟩
      refine wp_region_lit ?_
      refine lstep (wpO_plain rfl (op_move hs none rfl rfl rfl rfl fun ac hs => ?_))
      refine lstep (wpO_plain rfl (op_assign hs none rfl rfl rfl rfl fun ac hs => ?_))
      refine wpList_nil ?_
      refine blk_n ?_
      refine then_n ?_
      replace hs := hs.snocOwn (ls' := (ws ++ [(o2, p3)]).map Prod.snd) 2 3 rfl rfl (by simp)
      replace hs := (hs.takeb 0).selS [0, 1, 2] rfl (by decide)
      exact ⟨_, ⟨k4, (ws ++ [(o2, p3)]), (vs ++ [.slice ad6 p3.length cp7]), ad13, cp14, (f - 1), (GU G (.slice ad6 p3.length cp7)), rfl, hnx.2.1, (by simp; omega), (by simp; omega), (by have := hnx.1; omega), (parse_step hlt hf hN1 hR), (hs.re (fs' := [(0, true, .slice ad l.length c), (4, true, .slice ad13 (ws ++ [(o2, p3)]).length cp14), (5, true, .int .i64 ((k4 : Nat) : Int)), (2, true, .slice none 0 0), (3, true, .int .i64 0)]) ⟨rfl, rfl, rfl, rfl, rfl, trivial⟩)⟩, (by have := hnx.1; omega)⟩
  · skip
    have hp15 := of_decide_eq_false hc
    refine wp_exit ?_
    refine then_e ?_
    refine then_e ?_
    refine blk_e ?_
    refine then_n ?_
    refine wp_seq ?_
    refine wp_region_lit ?_
    refine lstep (wpO_plain rfl (op_move hs none rfl rfl rfl rfl fun ac hs => ?_))
    refine lstep (wpO_plain rfl (op_assign hs none rfl rfl rfl rfl fun ac hs => ?_))
    refine lstep (wpO_plain rfl (op_assign hs none rfl rfl rfl rfl fun ac hs => ?_))
    refine wpList_nil ?_
    refine then_n ?_
    refine wp_ret ?_
    exact bodyPost_ret (res2 rfl (rv_t hs rfl) (rv_t hs rfl)) hs.defers ⟨⟨aw, cw, vs, G⟩, by obtain ⟨rfl, rfl⟩ := Prod.mk.inj ((parse_end hp15 hR).symm.trans hA); rfl, hs.bel rfl, by obtain ⟨rfl, rfl⟩ := Prod.mk.inj ((parse_end hp15 hR).symm.trans hA); exact hs.ret2 1 2 rfl rfl (by decide)⟩
end Go.Proofs.Ytbjnlcblaonccaa
