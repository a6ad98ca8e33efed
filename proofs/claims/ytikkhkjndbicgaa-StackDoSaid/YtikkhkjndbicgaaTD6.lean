/- Several texts in one, what this law needs of them: ShaR, StkT, StkWP. -/
import Derived.Test.YtikkhkjndbicgaaTD5

/- SHA-256: the program's, the document's. -/
namespace Go.Proofs.Ytikkhkjndbicgaa
open Go.RowKit _root_.Go.Proofs.Try
set_option maxRecDepth 10000
set_option maxHeartbeats 1000000
theorem rpad_c (ad : Option Addr) (nl c : Nat) (l : List UInt8) (hlen : l.length ≤ 200000) (w0 : World) (Z : Nat → Prop) (hl : ByV w0 Z (.slice ad nl c) l): Calls prog 82 #[.slice ad nl c] w0 fun e w' => Ret w0 Z (ρ := Option Addr × Nat) (fun r => .slice r.1 (l ++ tl64 l.length l.length).length r.2) (fun r => [cL r.1 (l ++ tl64 l.length l.length).length r.2 (bcs (l ++ tl64 l.length l.length))]) e w' := by
 obtain rfl := byv_len hl
 refine enterS (n := 38) (args := [.slice ad l.length c]) (S := [(true, cL ad l.length c (bcs l))]) (Z := Z) func82 rfl rfl (Nat.le_of_ble_eq_true rfl) (sokC hl sok0) rfl fun ac hs => wp_seq (wp_region_lit (asg hs rfl rfl rfl fun ac hs => wpList_nil (then_n (wp_seq (wp_region_lit (stp (op_bsO0 hs none none (size := 1) rfl rfl underlying34 inf_u8_5 rfl rfl fun ad2 ac w hs => mvv hs rfl rfl rfl fun ac hs => stp (op_appR hs none 1 0 (N' := l.length) (ys := bcs l) rfl rfl rfl rfl rfl rfl underlying34 inf_u8_5 rfl (by decide) (bcs_len1 rfl) (bcs_one _) (by decide) (show 0 + l.length ≤ 1000000 by omega) (Nat.zero_add _) rfl rfl rfl fun ad3 cp4 ac w hs => asg hs rfl rfl rfl fun ac hs => wpList_nil (then_n (wp_seq (wp_region_lit (mvv hs rfl rfl rfl fun ac hs => ?_))))))))))))
 refine stp (op_bsO hs none none (qs := [(0, .int .u8 128)]) (cs := [.int .u8 128]) (cs' := bcs [UInt8.ofNat 128]) rfl rfl rfl rfl underlying34 inf_u8_5 (by decide) (by decide) (fill_one _ _ rfl ) rfl (bcs_cons (by decide) rfl) rfl rfl fun ad6 ac w hs => stp (op_appR hs none 1 2 (N' := (l ++ [UInt8.ofNat 128]).length) (ys := bcs (l ++ [UInt8.ofNat 128])) rfl rfl rfl rfl rfl rfl underlying34 inf_u8_5 rfl (by decide) (bcs_len1 rfl) (bcs_one _) (by decide) (show l.length + 1 ≤ 1000000 by omega) (by simp only [List.length_append, List.length_cons, List.length_nil] <;> omega) (bcs_append _ _) rfl rfl fun ad7 cp8 ac w hs => asg hs rfl rfl rfl fun ac hs => wpList_nil (then_n (wp_seq (wp_block ?_)))))
 rw [show l ++ [UInt8.ofNat 128] = l ++ tl0 0 from rfl] at hs
 refine wp_loop_m (fun μ ac w => ∃ (j : Nat) (ao : Option Addr) (co : Nat), (zs64 l.length - j) = μ ∧ (j ≤ zs64 l.length) ∧ St 38 ⟨w0, [], [(true, cL ad l.length c (bcs l)), (true, oW ao ((l ++ tl0 j).length) co 5 (bcs (l ++ tl0 j)))], Z, noX⟩ [(0, true, .slice ad l.length c), (2, true, .slice none 0 0), (3, true, .slice ao ((l ++ tl0 j).length) co)] [] ac w) ?_ ?_
 replace hs := hs.selS [0, 1] rfl (by decide)
 ·exact ⟨_, 0, ad7, cp8, rfl, (Nat.zero_le _), (hs.re (fs' := [(0, true, .slice ad l.length c), (2, true, .slice none 0 0), (3, true, .slice ad7 ((l ++ tl0 0).length) cp8)]) ⟨rfl, rfl, rfl, trivial⟩)⟩
 intro μ ac w ⟨j, ao, co, hμ, hj, hs⟩
 have hll : (l ++ tl0 j).length = l.length + (j + 1) := by rw [List.length_append, tl0_len]
 have hz63 : zs64 l.length < 64 := Nat.mod_lt _ (by decide)
 refine wp_seq (wp_seq (wp_region_lit (mvv hs rfl rfl rfl fun ac hs => stp (op_blt hs none (v := ni64 ((l ++ tl0 j).length)) rfl rfl rfl (blt_len underlying34) rfl fun ac hs => bnn hs (ni64 (((l ++ tl0 j).length) % 64)) rfl rfl rfl rfl (bin_remN (y := 64) rfl (by decide)) fun ac hs => bnn hs (.bool (decide (((l ++ tl0 j).length) % 64 ≠ 56))) rfl rfl rfl rfl (bin_neqN (y := 56)) fun ac hs => wpList_nil (then_n (wcs hs rfl ?_ ?_))))))
 ·intro hc
  have hp9 := of_decide_eq_true hc
  have hz : ¬ (l.length + (j + 1)) % 64 = 56 := by rw [← hll]; exact of_decide_eq_true hc
  refine wp_skip (then_n (wp_block (wp_region_lit (mvv hs rfl rfl rfl fun ac hs => stp (op_bsO hs none none (qs := [(0, .int .u8 0)]) (cs := [.int .u8 0]) (cs' := bcs [UInt8.ofNat 0]) rfl rfl rfl rfl underlying34 inf_u8_5 (by decide) (by decide) (fill_one _ _ rfl ) rfl (bcs_cons (by decide) rfl) rfl rfl fun ad11 ac w hs => stp (op_appR hs none 1 2 (N' := (l ++ tl0 j ++ [UInt8.ofNat 0]).length) (ys := bcs (l ++ tl0 j ++ [UInt8.ofNat 0])) rfl rfl rfl rfl rfl rfl underlying34 inf_u8_5 rfl (by decide) (bcs_len1 rfl) (bcs_one _) (by decide) (show (l ++ tl0 j).length + 1 ≤ 1000000 by first | omega | ((try simp only [List.length_drop, List.length_take, List.length_append, List.length_cons, List.length_nil]); omega)) (by simp only [List.length_append, List.length_cons, List.length_nil] <;> omega) (bcs_append _ _) rfl rfl fun ad12 cp13 ac w hs => asg hs rfl rfl rfl fun ac hs => wpList_nil (blk_n (then_n ?_))))))))
  rw [show l ++ tl0 j ++ [UInt8.ofNat 0] = l ++ tl0 (j + 1) from (by rw [List.append_assoc, tl0_succ])] at hs
  replace hs := hs.selS [0, 1] rfl (by decide)
  exact ⟨_, ⟨(j + 1), ad12, cp13, rfl, (zs_go hj hz), (hs.re (fs' := [(0, true, .slice ad l.length c), (2, true, .slice none 0 0), (3, true, .slice ad12 ((l ++ tl0 (j + 1)).length) cp13)]) ⟨rfl, rfl, rfl, trivial⟩)⟩, (by have := zs_go hj hz; omega)⟩
 intro hc
 have hp14 := of_decide_eq_false hc
 obtain rfl : j = zs64 l.length := zs_end hj (by rw [← hll]; exact Classical.not_not.1 (of_decide_eq_false hc))
 refine wp_exit (then_e (then_e (blk_e (then_n (wp_seq (wp_region_lit (mvv hs rfl rfl rfl fun ac hs => stp (op_blt hs none (v := ni64 (l.length)) rfl rfl rfl (blt_len underlying34) rfl fun ac hs => stp (op_convert hs none (v := nu64 (l.length)) rfl rfl rfl (conv_N underlying3 underlying86 (show l.length < 18446744073709551616 by omega)) rfl fun ac hs => bnn hs (nu64 (l.length * 8)) rfl rfl rfl rfl (bin_mulN (y := 8) rfl (show l.length * 8 < 18446744073709551616 by omega)) fun ac hs => asg hs rfl rfl rfl fun ac hs => wpList_nil (then_n (wp_seq (wp_seq ?_))))))))))))
 replace hs := hs.nf w0 Z noX [2, 3, 4] rfl rfl rfl rfl
 refine wp_region_lit (asg hs rfl rfl rfl fun ac hs => wpList_nil (then_n (wp_block ?_)))
 rw [show l ++ tl0 (zs64 l.length) = (l ++ tl0 (zs64 l.length)) ++ be8t (l.length * 8) 0 from (by simp [be8t])] at hs
 refine wp_loop_m (fun μ ac w => ∃ (i : Nat) (ao2 : Option Addr) (co2 : Nat), (8 - i) = μ ∧ (i ≤ 8) ∧ St 38 ⟨w0, [], [(true, cL ad l.length c (bcs l)), (true, oW ao2 (((l ++ tl0 (zs64 l.length)) ++ be8t (l.length * 8) i).length) co2 5 (bcs ((l ++ tl0 (zs64 l.length)) ++ be8t (l.length * 8) i)))], Z, noX⟩ [(2, true, .slice none 0 0), (4, true, nu64 (l.length * 8)), (3, true, .slice ao2 (((l ++ tl0 (zs64 l.length)) ++ be8t (l.length * 8) i).length) co2), (5, true, ni64 i)] [] ac w) ?_ ?_
 ·exact ⟨_, 0, ao, co, rfl, (by omega), (hs.re (fs' := [(2, true, .slice none 0 0), (4, true, nu64 (l.length * 8)), (3, true, .slice ao (((l ++ tl0 (zs64 l.length)) ++ be8t (l.length * 8) 0).length) co), (5, true, ni64 0)]) ⟨rfl, rfl, rfl, rfl, trivial⟩)⟩
 intro μ ac w ⟨i, ao2, co2, hμ, hi, hs⟩
 have hlk : ((l ++ tl0 (zs64 l.length)) ++ be8t (l.length * 8) i).length = l.length + (zs64 l.length + 1) + i := by rw [List.length_append, List.length_append, tl0_len, be8t_len]
 refine wp_seq (wp_seq (wp_region_lit (mvv hs rfl rfl rfl fun ac hs => bnn hs (.bool (decide (i < 8))) rfl rfl rfl rfl (bin_lssN (y := 8)) fun ac hs => wpList_nil (then_n (wcs hs rfl ?_ ?_)))))
 ·intro hc
  have hp15 := of_decide_eq_true hc
  have hi8 := of_decide_eq_true hc
  refine wp_skip (then_n (wp_seq (wp_block (wp_region_lit (mvv hs rfl rfl rfl fun ac hs => mvv hs rfl rfl rfl fun ac hs => mvv hs rfl rfl rfl fun ac hs => bnn hs (ni64 (8 * i)) rfl rfl rfl rfl (bin_mulN (x := 8) rfl (show 8 * i < 9223372036854775808 by omega)) fun ac hs => bnn hs (ni64 (56 - (8 * i))) rfl rfl rfl rfl (bin_subN (x := 56) (by omega) (show 56 - (8 * i) < 9223372036854775808 by omega)) fun ac hs => stp (op_convert hs none (v := nu64 (56 - (8 * i))) rfl rfl rfl (conv_N underlying3 underlying87 (show 56 - (8 * i) < 18446744073709551616 by omega)) rfl fun ac hs => bnn hs (.int .u64 (((l.length * 8) / 2 ^ (56 - (8 * i)) : Nat) : Int)) rfl rfl rfl rfl (bin_shrN (z := (l.length * 8) / 2 ^ (56 - (8 * i))) rfl (show l.length * 8 < 18446744073709551616 by omega)) fun ac hs => stp (op_convert hs none (v := .int .u8 (((l.length * 8) / 2 ^ (56 - (8 * i)) % 256 : Nat) : Int)) rfl rfl rfl (conv_M (z := (l.length * 8) / 2 ^ (56 - (8 * i)) % 256) rfl underlying86 underlying5 rfl) rfl fun ac hs => stp (op_bsO hs none none (qs := [(0, .int .u8 (((l.length * 8) / 2 ^ (56 - (8 * i)) % 256 : Nat) : Int))]) (cs := [.int .u8 (((l.length * 8) / 2 ^ (56 - (8 * i)) % 256 : Nat) : Int)]) (cs' := bcs [UInt8.ofNat ((l.length * 8) / 2 ^ (56 - (8 * i)) % 256)]) rfl rfl rfl rfl underlying34 inf_u8_5 (by decide) (by decide) (fill_one _ _ rfl ) rfl (bcs_cons (show (l.length * 8) / 2 ^ (56 - (8 * i)) % 256 < 256 by omega) rfl) rfl rfl fun ad17 ac w hs => ?_))))))))
  refine stp (op_appR hs none 1 2 (N' := ((l ++ tl0 (zs64 l.length)) ++ be8t (l.length * 8) i ++ [UInt8.ofNat ((l.length * 8) / 2 ^ (56 - (8 * i)) % 256)]).length) (ys := bcs ((l ++ tl0 (zs64 l.length)) ++ be8t (l.length * 8) i ++ [UInt8.ofNat ((l.length * 8) / 2 ^ (56 - (8 * i)) % 256)])) rfl rfl rfl rfl rfl rfl underlying34 inf_u8_5 rfl (by decide) (bcs_len1 rfl) (bcs_one _) (by decide) (show ((l ++ tl0 (zs64 l.length)) ++ be8t (l.length * 8) i).length + 1 ≤ 1000000 by first | omega | ((try simp only [List.length_drop, List.length_take, List.length_append, List.length_cons, List.length_nil]); omega)) (by simp only [List.length_append, List.length_cons, List.length_nil] <;> omega) (bcs_append _ _) rfl rfl fun ad18 cp19 ac w hs => asg hs rfl rfl rfl fun ac hs => wpList_nil (blk_n (then_n ?_)))
  replace hs := hs.nf w0 Z noX [2, 4, 3, 5] rfl rfl rfl rfl
  refine wp_region_lit (mvv hs rfl rfl rfl fun ac hs => bnn hs (ni64 (i + 1)) rfl rfl rfl rfl (bin_addN (y := 1) rfl (show i + 1 < 9223372036854775808 by omega)) fun ac hs => asg hs rfl rfl rfl fun ac hs => wpList_nil (then_n ?_))
  rw [show (l ++ tl0 (zs64 l.length)) ++ be8t (l.length * 8) i ++ [UInt8.ofNat ((l.length * 8) / 2 ^ (56 - (8 * i)) % 256)] = (l ++ tl0 (zs64 l.length)) ++ be8t (l.length * 8) (i + 1) from (by rw [be8t_succ, ← List.append_assoc])] at hs
  replace hs := hs.selS [0, 1] rfl (by decide)
  exact ⟨_, ⟨(i + 1), ad18, cp19, rfl, (by omega), (hs.re (fs' := [(2, true, .slice none 0 0), (4, true, nu64 (l.length * 8)), (3, true, .slice ad18 (((l ++ tl0 (zs64 l.length)) ++ be8t (l.length * 8) (i + 1)).length) cp19), (5, true, ni64 ((i + 1)))]) ⟨rfl, rfl, rfl, rfl, trivial⟩)⟩, (by omega)⟩
 intro hc
 have hp20 := of_decide_eq_false hc
 obtain rfl : i = 8 := by have := of_decide_eq_false hc; omega
 refine wp_exit (then_e (then_e (blk_e (then_n (wp_seq (wp_region_lit (mvv hs rfl rfl rfl fun ac hs => asg hs rfl rfl rfl fun ac hs => wpList_nil (then_n (wp_ret ?_)))))))))
 rw [show (l ++ tl0 (zs64 l.length)) ++ be8t (l.length * 8) 8 = l ++ tl64 l.length l.length from (by unfold tl64; rw [← List.append_assoc]; rfl)] at hs
 replace hs := hs.freeze 1 rfl
 exact bodyPost_ret (res1 rfl (rv_t hs rfl)) hs.defers ⟨⟨ao2, co2⟩, rfl, hs.bel rfl, hs.ret1 1 rfl⟩
theorem rsteps_c  (w0 : World) (Z : Nat → Prop) : Calls prog 81 #[] w0 fun e w' => Ret w0 Z (ρ := Option Addr × Nat) (fun r => .slice r.1 64 r.2) (fun r => [cL r.1 64 r.2 (tab .u32 64 KK)]) e w' := by
 refine enterS (n := 2) (args := []) (S := []) (Z := Z) func81 rfl rfl (Nat.le_of_ble_eq_true rfl) sok0 rfl fun ac hs => wp_seq (wp_region_lit (asg hs rfl rfl rfl fun ac hs => wpList_nil (then_n (wp_seq (wp_region_lit (stp (op_bsO hs none none (qs := [(0, .int .u32 1116352408), (1, .int .u32 1899447441), (2, .int .u32 3049323471), (3, .int .u32 3921009573), (4, .int .u32 961987163), (5, .int .u32 1508970993), (6, .int .u32 2453635748), (7, .int .u32 2870763221), (8, .int .u32 3624381080), (9, .int .u32 310598401), (10, .int .u32 607225278), (11, .int .u32 1426881987), (12, .int .u32 1925078388), (13, .int .u32 2162078206), (14, .int .u32 2614888103), (15, .int .u32 3248222580), (16, .int .u32 3835390401), (17, .int .u32 4022224774), (18, .int .u32 264347078), (19, .int .u32 604807628), (20, .int .u32 770255983), (21, .int .u32 1249150122), (22, .int .u32 1555081692), (23, .int .u32 1996064986), (24, .int .u32 2554220882), (25, .int .u32 2821834349), (26, .int .u32 2952996808), (27, .int .u32 3210313671), (28, .int .u32 3336571891), (29, .int .u32 3584528711), (30, .int .u32 113926993), (31, .int .u32 338241895), (32, .int .u32 666307205), (33, .int .u32 773529912), (34, .int .u32 1294757372), (35, .int .u32 1396182291), (36, .int .u32 1695183700), (37, .int .u32 1986661051), (38, .int .u32 2177026350), (39, .int .u32 2456956037), (40, .int .u32 2730485921), (41, .int .u32 2820302411), (42, .int .u32 3259730800), (43, .int .u32 3345764771), (44, .int .u32 3516065817), (45, .int .u32 3600352804), (46, .int .u32 4094571909), (47, .int .u32 275423344), (48, .int .u32 430227734), (49, .int .u32 506948616), (50, .int .u32 659060556), (51, .int .u32 883997877), (52, .int .u32 958139571), (53, .int .u32 1322822218), (54, .int .u32 1537002063), (55, .int .u32 1747873779), (56, .int .u32 1955562222), (57, .int .u32 2024104815), (58, .int .u32 2227730452), (59, .int .u32 2361852424), (60, .int .u32 2428436474), (61, .int .u32 2756734187), (62, .int .u32 3204031479), (63, .int .u32 3329325298)]) (cs := tab .u32 64 KK) rfl rfl rfl rfl underlying105 inf_u32_99 (by decide) (by decide) (by kernel_rfl) rfl rfl rfl rfl fun ad2 ac w hs => asg hs rfl rfl rfl fun ac hs => wpList_nil (then_n (wp_ret ?_)))))))))
 replace hs := hs.freeze 0 rfl
 exact bodyPost_ret (res1 rfl (rv_t hs rfl)) hs.defers ⟨⟨ad2, 64⟩, rfl, hs.bel rfl, hs.ret1 0 rfl⟩
theorem rblock_c (ah : Option Addr) (ch : Nat) (h : Nat → Nat) (hh : ∀ j, h j < 4294967296) (ak : Option Addr) (ck : Nat) (ad : Option Addr) (nl c : Nat) (l : List UInt8) (h64 : l.length = 64) (w0 : World) (Z : Nat → Prop) (hH : CelV w0 Z (.slice ah 8 ch) 8 (tab .u32 8 h)) (hK : CelV w0 Z (.slice ak 64 ck) 64 (tab .u32 64 KK)) (hl : ByV w0 Z (.slice ad nl c) l): Calls prog 83 #[.slice ah 8 ch, .slice ak 64 ck, .slice ad nl c] w0 fun e w' => Ret w0 Z (ρ := Option Addr × Nat) (fun r => .slice r.1 8 r.2) (fun r => [cL r.1 8 r.2 (tab .u32 8 (blk h l))]) e w' := by
 obtain rfl := byv_len hl
 refine enterS (n := 227) (args := [.slice ah 8 ch, .slice ak 64 ck, .slice ad l.length c]) (S := [(true, cL ah 8 ch (tab .u32 8 h)), (true, cL ak 64 ck (tab .u32 64 KK)), (true, cL ad l.length c (bcs l))]) (Z := Z) func83 rfl rfl (Nat.le_of_ble_eq_true rfl) (sokC hH (sokC hK (sokC hl sok0))) rfl fun ac hs => wp_seq (wp_region_lit (asg hs rfl rfl rfl fun ac hs => wpList_nil (then_n (wp_seq (wp_region_lit (stp (op_bsO0 hs none none (size := 1) rfl rfl underlying105 inf_u32_99 rfl rfl fun ad2 ac w hs => asg hs rfl rfl rfl fun ac hs => wpList_nil (then_n (wp_seq (wp_seq (wp_region_lit (asg hs rfl rfl rfl fun ac hs => wpList_nil (then_n (wp_block ?_))))))))))))))
 replace hs := hs.ownEq 3 (N' := 0) (xs' := tab .u32 0 (wv l)) rfl rfl rfl
 refine wp_loop_m (fun μ ac w => ∃ (i : Nat) (aw : Option Addr) (cw : Nat), (64 - i) = μ ∧ (i ≤ 64) ∧ St 227 ⟨w0, [], [(true, cL ah 8 ch (tab .u32 8 h)), (true, cL ak 64 ck (tab .u32 64 KK)), (true, cL ad l.length c (bcs l)), (true, oW aw i cw 99 (tab .u32 i (wv l)))], Z, noX⟩ [(0, true, .slice ah 8 ch), (1, true, .slice ak 64 ck), (2, true, .slice ad l.length c), (6, true, .slice none 0 0), (7, true, .slice aw i cw), (8, true, ni64 i)] [] ac w) ?_ ?_
 ·exact ⟨_, 0, ad2, 0, rfl, (by omega), (hs.re (fs' := [(0, true, .slice ah 8 ch), (1, true, .slice ak 64 ck), (2, true, .slice ad l.length c), (6, true, .slice none 0 0), (7, true, .slice ad2 0 0), (8, true, ni64 0)]) ⟨rfl, rfl, rfl, rfl, rfl, rfl, trivial⟩)⟩
 intro μ ac w ⟨i, aw, cw, hμ, hi, hs⟩
 refine wp_seq (wp_seq (wp_region_lit (mvv hs rfl rfl rfl fun ac hs => bnn hs (.bool (decide (i < 64))) rfl rfl rfl rfl (bin_lssN (y := 64)) fun ac hs => wpList_nil (then_n (wcs hs rfl ?_ ?_)))))
 ·intro hc
  have hp3 := of_decide_eq_true hc
  have hi64 := of_decide_eq_true hc
  refine wp_skip (then_n (wp_seq (wp_block (wp_seq (wp_seq (wp_region_lit (mvv hs rfl rfl rfl fun ac hs => bnn hs (.bool (decide (i < 16))) rfl rfl rfl rfl (bin_lssN (y := 16)) fun ac hs => wpList_nil (then_n (wcs hs rfl ?_ ?_)))))))))
  ·intro hc
   have hp4 := of_decide_eq_true hc
   have h16 := of_decide_eq_true hc
   refine wp_seq ?_
   replace hs := hs.nf w0 Z noX [0, 1, 2, 6, 7, 8] rfl rfl rfl rfl
   have l5 := byt_lt l (4 * i)
   obtain ⟨x6, hx6, lx6⟩ : ∃ z0, (byt l (4 * i)) * 2 ^ 24 = z0 ∧ z0 < 4294967296 := ⟨_, rfl, by omega⟩
   have l7 := byt_lt l (4 * i + 1)
   obtain ⟨x8, hx8, lx8⟩ : ∃ z0, (byt l (4 * i + 1)) * 2 ^ 16 = z0 ∧ z0 < 4294967296 := ⟨_, rfl, by omega⟩
   obtain ⟨x9, hx9, lx9⟩ : ∃ z0, x6 ||| x8 = z0 ∧ z0 < 4294967296 := ⟨_, rfl, Nat.or_lt_two_pow (n := 32) (show x6 < 4294967296 by omega) (show x8 < 4294967296 by omega)⟩
   have l10 := byt_lt l (4 * i + 2)
   obtain ⟨x11, hx11, lx11⟩ : ∃ z0, (byt l (4 * i + 2)) * 2 ^ 8 = z0 ∧ z0 < 4294967296 := ⟨_, rfl, by omega⟩
   obtain ⟨x12, hx12, lx12⟩ : ∃ z0, x9 ||| x11 = z0 ∧ z0 < 4294967296 := ⟨_, rfl, Nat.or_lt_two_pow (n := 32) (show x9 < 4294967296 by omega) (show x11 < 4294967296 by omega)⟩
   have l13 := byt_lt l (4 * i + 3)
   obtain ⟨x14, hx14, lx14⟩ : ∃ z0, x12 ||| (byt l (4 * i + 3)) = z0 ∧ z0 < 4294967296 := ⟨_, rfl, Nat.or_lt_two_pow (n := 32) (show x12 < 4294967296 by omega) (show byt l (4 * i + 3) < 4294967296 by omega)⟩
   have hz : wv l i = x14 := by rw [wv_lo h16, pre4_4, ← or4 (byt_lt _ _) (byt_lt _ _) (byt_lt _ _)]; simp only [hx6, hx8, hx9, hx11, hx12, hx14]
   refine region_inv [([], [35, 36]), ([], [4, 5, 6, 7, 16, 25, 33, 34, 35, 36]), ([], [3, 4, 5, 6, 7, 16, 25, 33, 34, 35, 36]), ([2], [4, 5, 6, 7, 16, 25, 33, 34, 35, 36]), ([1, 2, 3], [5, 6, 7, 16, 25, 33, 34, 35, 36]), (rgn 1 4, [6, 7, 16, 25, 33, 34, 35, 36]), (rgn 1 5, [7, 16, 25, 33, 34, 35, 36]), (rgn 1 6, [16, 25, 33, 34, 35, 36]), ([], [12, 13, 14, 15, 16, 25, 33, 34, 35, 36]), ([], [10, 11, 12, 13, 14, 15, 16, 25, 33, 34, 35, 36]), ([9], [11, 12, 13, 14, 15, 16, 25, 33, 34, 35, 36]), ([9, 10], [12, 13, 14, 15, 16, 25, 33, 34, 35, 36]), (rgn 8 4, [13, 14, 15, 16, 25, 33, 34, 35, 36]), (rgn 8 5, [14, 15, 16, 25, 33, 34, 35, 36]), (rgn 8 6, [15, 16, 25, 33, 34, 35, 36]), (rgn 8 7, [16, 25, 33, 34, 35, 36]), (rgn 1 15, [25, 33, 34, 35, 36]), ([], [21, 22, 23, 24, 25, 33, 34, 35, 36]), ([], [19, 20, 21, 22, 23, 24, 25, 33, 34, 35, 36]), ([18], [20, 21, 22, 23, 24, 25, 33, 34, 35, 36]), ([18, 19], [21, 22, 23, 24, 25, 33, 34, 35, 36]), (rgn 17 4, [22, 23, 24, 25, 33, 34, 35, 36]), (rgn 17 5, [23, 24, 25, 33, 34, 35, 36]), (rgn 17 6, [24, 25, 33, 34, 35, 36]), (rgn 17 7, [25, 33, 34, 35, 36]), (rgn 1 24, rgn 33 4), ([], rgn 30 7), ([], rgn 28 9), ([27], rgn 29 8), ([27, 28], rgn 30 7), (rgn 26 4, rgn 31 6), (rgn 26 5, rgn 32 5), (rgn 26 6, rgn 33 4), (rgn 1 32, [34, 35, 36]), (rgn 1 33, [35, 36]), (rgn 0 35, [36]), (rgn 0 36, [])] (fun L ac w => ∃ (ad16 : Option Addr) (ad17 : Option Addr) (cp18 : Nat), St 227 ⟨w0, [], [(true, cL ah 8 ch (tab .u32 8 h)), (true, cL ak 64 ck (tab .u32 64 KK)), (true, cL ad l.length c (bcs l)), (true, cond (L 35) (oW ad17 (i + 1) cp18 99 (tab .u32 (i + 1) (wv l))) (oW aw i cw 99 (tab .u32 i (wv l)))), (L 34, oW ad16 1 1 99 ([nu32 x14]))], Z, noX⟩ [(28, L 0, .slice aw i cw), (29, L 1, .slice ad l.length c), (30, L 2, ni64 i), (31, L 3, ni64 (4 * i)), (32, L 4, vidx (.slice ad l.length c) (4 * i)), (33, L 5, nu8 (byt l (4 * i))), (34, L 6, nu32 (byt l (4 * i))), (35, L 7, nu32 x6), (36, L 8, .slice ad l.length c), (37, L 9, ni64 i), (38, L 10, ni64 (4 * i)), (39, L 11, ni64 (4 * i + 1)), (40, L 12, vidx (.slice ad l.length c) (4 * i + 1)), (41, L 13, nu8 (byt l (4 * i + 1))), (42, L 14, nu32 (byt l (4 * i + 1))), (43, L 15, nu32 x8), (44, L 16, nu32 x9), (45, L 17, .slice ad l.length c), (46, L 18, ni64 i), (47, L 19, ni64 (4 * i)), (48, L 20, ni64 (4 * i + 2)), (49, L 21, vidx (.slice ad l.length c) (4 * i + 2)), (50, L 22, nu8 (byt l (4 * i + 2))), (51, L 23, nu32 (byt l (4 * i + 2))), (52, L 24, nu32 x11), (53, L 25, nu32 x12), (54, L 26, .slice ad l.length c), (55, L 27, ni64 i), (56, L 28, ni64 (4 * i)), (57, L 29, ni64 (4 * i + 3)), (58, L 30, vidx (.slice ad l.length c) (4 * i + 3)), (59, L 31, nu8 (byt l (4 * i + 3))), (60, L 32, nu32 (byt l (4 * i + 3))), (61, L 33, nu32 x14), (62, L 34, .slice ad16 1 1), (63, L 35, .slice ad17 (i + 1) cp18), (7, L 36, cond (L 36) (.slice ad17 (i + 1) cp18) undef), (0, true, .slice ah 8 ch), (1, true, .slice ak 64 ck), (2, true, .slice ad l.length c), (6, true, .slice none 0 0), (7, true, .slice aw i cw), (8, true, ni64 i)] [] ac w) (by kernel_rfl) (by kernel_rfl) ?_ ?_ ?_
   ·exact ⟨none, none, 0, hs.drew.s4.s4.s4.s4.s4.s4.s4.s4.s4.skip.padS⟩
   ·refine ⟨?_, ?_, ?_, ?_, ?_, ?_, ?_, ?_, ?_, ?_, ?_, ?_, ?_, ?_, ?_, ?_, ?_, ?_, ?_, ?_, ?_, ?_, ?_, ?_, ?_, ?_, ?_, ?_, ?_, ?_, ?_, ?_, ?_, ?_, ?_, ?_, ?_, trivial⟩
    ·exact fun L ac w ⟨ad16, ad17, cp18, hs⟩ => pln (omv hs 0 rfl rfl rfl fun ac hs => ⟨ad16, ad17, cp18, hs⟩)
    ·exact fun L ac w ⟨ad16, ad17, cp18, hs⟩ => pln (omv hs 1 rfl rfl rfl fun ac hs => ⟨ad16, ad17, cp18, hs⟩)
    ·exact fun L ac w ⟨ad16, ad17, cp18, hs⟩ => pln (omv hs 2 rfl rfl rfl fun ac hs => ⟨ad16, ad17, cp18, hs⟩)
    ·exact fun L ac w ⟨ad16, ad17, cp18, hs⟩ => pln (obn hs 3 (ni64 (4 * i)) rfl rfl rfl rfl (bin_mulN (x := 4) rfl (show 4 * i < 9223372036854775808 by omega)) fun ac hs => ⟨ad16, ad17, cp18, hs⟩)
    ·exact fun L ac w ⟨ad16, ad17, cp18, hs⟩ => pln (op_idxC hs (some 4) 2 (j := 4 * i) rfl rfl rfl rfl rfl underlying34 sizeOf5 (show 4 * i < l.length by omega) (off := 4 * i) (by omega) rfl fun ac hs => ⟨ad16, ad17, cp18, hs⟩)
    ·exact fun L ac w ⟨ad16, ad17, cp18, hs⟩ => pln (op_loadC hs (some 5) 2 (u := nu8 (byt l (4 * i))) rfl rfl rfl rfl isAgg5 sizeOf5 (by decide) (bcs_get (show 4 * i < l.length by omega)) rfl fun ac hs => ⟨ad16, ad17, cp18, hs⟩)
    ·exact fun L ac w ⟨ad16, ad17, cp18, hs⟩ => pln (op_convert hs (some 6) (v := nu32 (byt l (4 * i))) rfl rfl rfl (conv_N underlying5 underlying99 (show byt l (4 * i) < 4294967296 by omega)) rfl fun ac hs => ⟨ad16, ad17, cp18, hs⟩)
    ·exact fun L ac w ⟨ad16, ad17, cp18, hs⟩ => pln (obn hs 7 (nu32 x6) rfl rfl rfl rfl (bin_shlZ (y := 24) hx6 (by decide) lx6) fun ac hs => ⟨ad16, ad17, cp18, hs⟩)
    ·exact fun L ac w ⟨ad16, ad17, cp18, hs⟩ => pln (omv hs 8 rfl rfl rfl fun ac hs => ⟨ad16, ad17, cp18, hs⟩)
    ·exact fun L ac w ⟨ad16, ad17, cp18, hs⟩ => pln (omv hs 9 rfl rfl rfl fun ac hs => ⟨ad16, ad17, cp18, hs⟩)
    ·exact fun L ac w ⟨ad16, ad17, cp18, hs⟩ => pln (obn hs 10 (ni64 (4 * i)) rfl rfl rfl rfl (bin_mulN (x := 4) rfl (show 4 * i < 9223372036854775808 by omega)) fun ac hs => ⟨ad16, ad17, cp18, hs⟩)
    ·exact fun L ac w ⟨ad16, ad17, cp18, hs⟩ => pln (obn hs 11 (ni64 (4 * i + 1)) rfl rfl rfl rfl (bin_addN (y := 1) rfl (show 4 * i + 1 < 9223372036854775808 by omega)) fun ac hs => ⟨ad16, ad17, cp18, hs⟩)
    ·exact fun L ac w ⟨ad16, ad17, cp18, hs⟩ => pln (op_idxC hs (some 12) 2 (j := 4 * i + 1) rfl rfl rfl rfl rfl underlying34 sizeOf5 (show 4 * i + 1 < l.length by omega) (off := 4 * i + 1) (by omega) rfl fun ac hs => ⟨ad16, ad17, cp18, hs⟩)
    ·exact fun L ac w ⟨ad16, ad17, cp18, hs⟩ => pln (op_loadC hs (some 13) 2 (u := nu8 (byt l (4 * i + 1))) rfl rfl rfl rfl isAgg5 sizeOf5 (by decide) (bcs_get (show 4 * i + 1 < l.length by omega)) rfl fun ac hs => ⟨ad16, ad17, cp18, hs⟩)
    ·exact fun L ac w ⟨ad16, ad17, cp18, hs⟩ => pln (op_convert hs (some 14) (v := nu32 (byt l (4 * i + 1))) rfl rfl rfl (conv_N underlying5 underlying99 (show byt l (4 * i + 1) < 4294967296 by omega)) rfl fun ac hs => ⟨ad16, ad17, cp18, hs⟩)
    ·exact fun L ac w ⟨ad16, ad17, cp18, hs⟩ => pln (obn hs 15 (nu32 x8) rfl rfl rfl rfl (bin_shlZ (y := 16) hx8 (by decide) lx8) fun ac hs => ⟨ad16, ad17, cp18, hs⟩)
    ·exact fun L ac w ⟨ad16, ad17, cp18, hs⟩ => pln (obn hs 16 (nu32 x9) rfl rfl rfl rfl (bin_orN hx9 (show x6 < 4294967296 by omega) (show x8 < 4294967296 by omega) lx9) fun ac hs => ⟨ad16, ad17, cp18, hs⟩)
    ·exact fun L ac w ⟨ad16, ad17, cp18, hs⟩ => pln (omv hs 17 rfl rfl rfl fun ac hs => ⟨ad16, ad17, cp18, hs⟩)
    ·exact fun L ac w ⟨ad16, ad17, cp18, hs⟩ => pln (omv hs 18 rfl rfl rfl fun ac hs => ⟨ad16, ad17, cp18, hs⟩)
    ·exact fun L ac w ⟨ad16, ad17, cp18, hs⟩ => pln (obn hs 19 (ni64 (4 * i)) rfl rfl rfl rfl (bin_mulN (x := 4) rfl (show 4 * i < 9223372036854775808 by omega)) fun ac hs => ⟨ad16, ad17, cp18, hs⟩)
    ·exact fun L ac w ⟨ad16, ad17, cp18, hs⟩ => pln (obn hs 20 (ni64 (4 * i + 2)) rfl rfl rfl rfl (bin_addN (y := 2) rfl (show 4 * i + 2 < 9223372036854775808 by omega)) fun ac hs => ⟨ad16, ad17, cp18, hs⟩)
    ·exact fun L ac w ⟨ad16, ad17, cp18, hs⟩ => pln (op_idxC hs (some 21) 2 (j := 4 * i + 2) rfl rfl rfl rfl rfl underlying34 sizeOf5 (show 4 * i + 2 < l.length by omega) (off := 4 * i + 2) (by omega) rfl fun ac hs => ⟨ad16, ad17, cp18, hs⟩)
    ·exact fun L ac w ⟨ad16, ad17, cp18, hs⟩ => pln (op_loadC hs (some 22) 2 (u := nu8 (byt l (4 * i + 2))) rfl rfl rfl rfl isAgg5 sizeOf5 (by decide) (bcs_get (show 4 * i + 2 < l.length by omega)) rfl fun ac hs => ⟨ad16, ad17, cp18, hs⟩)
    ·exact fun L ac w ⟨ad16, ad17, cp18, hs⟩ => pln (op_convert hs (some 23) (v := nu32 (byt l (4 * i + 2))) rfl rfl rfl (conv_N underlying5 underlying99 (show byt l (4 * i + 2) < 4294967296 by omega)) rfl fun ac hs => ⟨ad16, ad17, cp18, hs⟩)
    ·exact fun L ac w ⟨ad16, ad17, cp18, hs⟩ => pln (obn hs 24 (nu32 x11) rfl rfl rfl rfl (bin_shlZ (y := 8) hx11 (by decide) lx11) fun ac hs => ⟨ad16, ad17, cp18, hs⟩)
    ·exact fun L ac w ⟨ad16, ad17, cp18, hs⟩ => pln (obn hs 25 (nu32 x12) rfl rfl rfl rfl (bin_orN hx12 (show x9 < 4294967296 by omega) (show x11 < 4294967296 by omega) lx12) fun ac hs => ⟨ad16, ad17, cp18, hs⟩)
    ·exact fun L ac w ⟨ad16, ad17, cp18, hs⟩ => pln (omv hs 26 rfl rfl rfl fun ac hs => ⟨ad16, ad17, cp18, hs⟩)
    ·exact fun L ac w ⟨ad16, ad17, cp18, hs⟩ => pln (omv hs 27 rfl rfl rfl fun ac hs => ⟨ad16, ad17, cp18, hs⟩)
    ·exact fun L ac w ⟨ad16, ad17, cp18, hs⟩ => pln (obn hs 28 (ni64 (4 * i)) rfl rfl rfl rfl (bin_mulN (x := 4) rfl (show 4 * i < 9223372036854775808 by omega)) fun ac hs => ⟨ad16, ad17, cp18, hs⟩)
    ·exact fun L ac w ⟨ad16, ad17, cp18, hs⟩ => pln (obn hs 29 (ni64 (4 * i + 3)) rfl rfl rfl rfl (bin_addN (y := 3) rfl (show 4 * i + 3 < 9223372036854775808 by omega)) fun ac hs => ⟨ad16, ad17, cp18, hs⟩)
    ·exact fun L ac w ⟨ad16, ad17, cp18, hs⟩ => pln (op_idxC hs (some 30) 2 (j := 4 * i + 3) rfl rfl rfl rfl rfl underlying34 sizeOf5 (show 4 * i + 3 < l.length by omega) (off := 4 * i + 3) (by omega) rfl fun ac hs => ⟨ad16, ad17, cp18, hs⟩)
    ·exact fun L ac w ⟨ad16, ad17, cp18, hs⟩ => pln (op_loadC hs (some 31) 2 (u := nu8 (byt l (4 * i + 3))) rfl rfl rfl rfl isAgg5 sizeOf5 (by decide) (bcs_get (show 4 * i + 3 < l.length by omega)) rfl fun ac hs => ⟨ad16, ad17, cp18, hs⟩)
    ·exact fun L ac w ⟨ad16, ad17, cp18, hs⟩ => pln (op_convert hs (some 32) (v := nu32 (byt l (4 * i + 3))) rfl rfl rfl (conv_N underlying5 underlying99 (show byt l (4 * i + 3) < 4294967296 by omega)) rfl fun ac hs => ⟨ad16, ad17, cp18, hs⟩)
    ·exact fun L ac w ⟨ad16, ad17, cp18, hs⟩ => pln (obn hs 33 (nu32 x14) rfl rfl rfl rfl (bin_orN hx14 (show x12 < 4294967296 by omega) (show byt l (4 * i + 3) < 4294967296 by omega) lx14) fun ac hs => ⟨ad16, ad17, cp18, hs⟩)
    ·exact fun L ac w ⟨ad16, ad17, cp18, hs⟩ => pln (op_bsO hs (some 34) (some 4) (qs := [(0, nu32 x14)]) (cs := [nu32 x14]) rfl rfl rfl rfl underlying105 inf_u32_99 (by decide) (by decide) (fill_one _ _ rfl) rfl rfl rfl rfl fun ad16 ac w hs => ⟨ad16, ad17, cp18, hs⟩)
    ·exact fun L ac w ⟨ad16, ad17, cp18, hs⟩ => pln (op_appR hs (some 35) 3 4 (N' := i + 1) (ys := (tab .u32 (i + 1) (wv l))) rfl rfl rfl rfl rfl rfl underlying105 inf_u32_99 rfl (by decide) rfl (by intro u hu; obtain rfl := List.mem_singleton.1 hu; rfl) (by decide) (show i + 1 ≤ 1000000 by omega) rfl (tab_snoc1 hz) rfl rfl fun ad17 cp18 ac w hs => ⟨ad16, ad17, cp18, hs⟩)
    ·exact fun L ac w ⟨ad16, ad17, cp18, hs⟩ => pln (oas hs 36 rfl rfl rfl fun ac hs => ⟨ad16, ad17, cp18, hs⟩)
   intro ac w ⟨ad16, ad17, cp18, hs⟩
   try dsimp only [cond_true] at hs
   refine then_n (wp_exit (then_e (blk_e (then_n (wp_region_lit (mvv hs rfl rfl rfl fun ac hs => bnn hs (ni64 (i + 1)) rfl rfl rfl rfl (bin_addN (y := 1) rfl (show i + 1 < 9223372036854775808 by omega)) fun ac hs => asg hs rfl rfl rfl fun ac hs => wpList_nil (then_n ?_)))))))
   replace hs := hs.selS [0, 1, 2, 3] rfl (by decide)
   exact ⟨_, ⟨(i + 1), ad17, cp18, rfl, (by omega), (hs.re (fs' := [(0, true, .slice ah 8 ch), (1, true, .slice ak 64 ck), (2, true, .slice ad l.length c), (6, true, .slice none 0 0), (7, true, .slice ad17 (i + 1) cp18), (8, true, ni64 ((i + 1)))]) ⟨rfl, rfl, rfl, rfl, rfl, rfl, trivial⟩)⟩, (by omega)⟩
  intro hc
  have hp19 := of_decide_eq_false hc
  have h16 : ¬ i < 16 := of_decide_eq_false hc
  refine wp_skip (then_n (wp_seq ?_))
  replace hs := hs.nf w0 Z noX [0, 1, 2, 6, 7, 8] rfl rfl rfl rfl
  have l20 := wv_lt l (i - 15)
  have l21 := wv_lt l (i - 2)
  refine region_inv [([], [3, 4, 10, 11]), ([], [2, 3, 4, 10, 11]), ([1], [3, 4, 10, 11]), ([0, 1, 2], [4, 10, 11]), (rgn 0 4, [10, 11]), ([], [8, 9, 11]), ([], [7, 8, 9, 11]), ([6], [8, 9, 11]), ([5, 6, 7], [9, 11]), (rgn 5 4, [11]), (rgn 0 5, [11]), (rgn 0 11, [])] (fun L ac w => St 227 ⟨w0, [], [(true, cL ah 8 ch (tab .u32 8 h)), (true, cL ak 64 ck (tab .u32 64 KK)), (true, cL ad l.length c (bcs l)), (true, oW aw i cw 99 (tab .u32 i (wv l)))], Z, noX⟩ [(64, L 0, .slice aw i cw), (65, L 1, ni64 i), (66, L 2, ni64 (i - 15)), (67, L 3, vidx (.slice aw i cw) (i - 15)), (68, L 4, .int .u32 (((wv l) (i - 15) : Nat) : Int)), (69, L 5, .slice aw i cw), (70, L 6, ni64 i), (71, L 7, ni64 (i - 2)), (72, L 8, vidx (.slice aw i cw) (i - 2)), (73, L 9, .int .u32 (((wv l) (i - 2) : Nat) : Int)), (9, L 10, .int .u32 (((wv l) (i - 15) : Nat) : Int)), (10, L 11, .int .u32 (((wv l) (i - 2) : Nat) : Int)), (0, true, .slice ah 8 ch), (1, true, .slice ak 64 ck), (2, true, .slice ad l.length c), (6, true, .slice none 0 0), (7, true, .slice aw i cw), (8, true, ni64 i)] [] ac w) (by kernel_rfl) (by kernel_rfl) ?_ ?_ ?_
  ·exact hs.drew.s4.s4.s4
  ·refine ⟨?_, ?_, ?_, ?_, ?_, ?_, ?_, ?_, ?_, ?_, ?_, ?_, trivial⟩
   ·exact fun L ac w hs => pln (omv hs 0 rfl rfl rfl fun ac hs => hs)
   ·exact fun L ac w hs => pln (omv hs 1 rfl rfl rfl fun ac hs => hs)
   ·exact fun L ac w hs => pln (obn hs 2 (ni64 (i - 15)) rfl rfl rfl rfl (bin_subN (y := 15) (by omega) (show i - 15 < 9223372036854775808 by omega)) fun ac hs => hs)
   ·exact fun L ac w hs => pln (op_idxC hs (some 3) 3 (j := i - 15) rfl rfl rfl rfl rfl underlying105 sizeOf99 (show i - 15 < i by omega) (off := i - 15) (by omega) rfl fun ac hs => hs)
   ·exact fun L ac w hs => pln (op_loadC hs (some 4) 3 (u := .int .u32 (((wv l) (i - 15) : Nat) : Int)) rfl rfl rfl rfl isAgg99 sizeOf99 (by decide) (tab_get (j := i - 15) (show i - 15 < i by omega)) rfl fun ac hs => hs)
   ·exact fun L ac w hs => pln (omv hs 5 rfl rfl rfl fun ac hs => hs)
   ·exact fun L ac w hs => pln (omv hs 6 rfl rfl rfl fun ac hs => hs)
   ·exact fun L ac w hs => pln (obn hs 7 (ni64 (i - 2)) rfl rfl rfl rfl (bin_subN (y := 2) (by omega) (show i - 2 < 9223372036854775808 by omega)) fun ac hs => hs)
   ·exact fun L ac w hs => pln (op_idxC hs (some 8) 3 (j := i - 2) rfl rfl rfl rfl rfl underlying105 sizeOf99 (show i - 2 < i by omega) (off := i - 2) (by omega) rfl fun ac hs => hs)
   ·exact fun L ac w hs => pln (op_loadC hs (some 9) 3 (u := .int .u32 (((wv l) (i - 2) : Nat) : Int)) rfl rfl rfl rfl isAgg99 sizeOf99 (by decide) (tab_get (j := i - 2) (show i - 2 < i by omega)) rfl fun ac hs => hs)
   ·exact fun L ac w hs => pln (oas hs 10 rfl rfl rfl fun ac hs => hs)
   ·exact fun L ac w hs => pln (oas hs 11 rfl rfl rfl fun ac hs => hs)
  intro ac w hs
  try dsimp only [cond_true] at hs
  refine then_n (wp_seq (wp_region_lit (mvv hs rfl rfl rfl fun ac hs => ?_)))
  obtain ⟨x22, hx22, lx22⟩ : ∃ z0, rr ((wv l) (i - 15)) 7 = z0 ∧ z0 < 4294967296 := ⟨_, rfl, rr_lt (show (wv l) (i - 15) < 4294967296 by omega)⟩
  refine stp (op_call (F := 87) hs none (v := nu32 x22) rfl rfl rfl rfl (call87 _) (turn_c ((wv l) (i - 15)) 7 x22 (show (wv l) (i - 15) < 4294967296 by omega) (by decide) hx22) rfl fun ac w hs => mvv hs rfl rfl rfl fun ac hs => ?_)
  obtain ⟨x23, hx23, lx23⟩ : ∃ z0, rr ((wv l) (i - 15)) 18 = z0 ∧ z0 < 4294967296 := ⟨_, rfl, rr_lt (show (wv l) (i - 15) < 4294967296 by omega)⟩
  refine stp (op_call (F := 87) hs none (v := nu32 x23) rfl rfl rfl rfl (call87 _) (turn_c ((wv l) (i - 15)) 18 x23 (show (wv l) (i - 15) < 4294967296 by omega) (by decide) hx23) rfl fun ac w hs => ?_)
  obtain ⟨x24, hx24, lx24⟩ : ∃ z0, x22 ^^^ x23 = z0 ∧ z0 < 4294967296 := ⟨_, rfl, x32 (show x22 < 4294967296 by omega) (show x23 < 4294967296 by omega)⟩
  refine bnn hs (nu32 x24) rfl rfl rfl rfl (bin_xorN hx24 (show x22 < 4294967296 by omega) (show x23 < 4294967296 by omega) lx24) fun ac hs => mvv hs rfl rfl rfl fun ac hs => ?_
  obtain ⟨x25, hx25, lx25⟩ : ∃ z0, ((wv l) (i - 15)) / 2 ^ 3 = z0 ∧ z0 < 4294967296 := ⟨_, rfl, Nat.lt_of_le_of_lt (Nat.div_le_self _ _) (show (wv l) (i - 15) < 4294967296 by omega)⟩
  refine bnn hs (nu32 x25) rfl rfl rfl rfl (bin_shrN (y := 3) hx25 (show (wv l) (i - 15) < 4294967296 by omega)) fun ac hs => ?_
  obtain ⟨x26, hx26, lx26⟩ : ∃ z0, x24 ^^^ x25 = z0 ∧ z0 < 4294967296 := ⟨_, rfl, x32 (show x24 < 4294967296 by omega) (show x25 < 4294967296 by omega)⟩
  refine bnn hs (nu32 x26) rfl rfl rfl rfl (bin_xorN hx26 (show x24 < 4294967296 by omega) (show x25 < 4294967296 by omega) lx26) fun ac hs => asg hs rfl rfl rfl fun ac hs => wpList_nil (then_n (wp_seq ?_))
  replace hs := hs.nf w0 Z noX [0, 1, 2, 6, 7, 8, 10, 11] rfl rfl rfl rfl
  refine wp_region_lit (mvv hs rfl rfl rfl fun ac hs => ?_)
  obtain ⟨x27, hx27, lx27⟩ : ∃ z0, rr ((wv l) (i - 2)) 17 = z0 ∧ z0 < 4294967296 := ⟨_, rfl, rr_lt (show (wv l) (i - 2) < 4294967296 by omega)⟩
  refine stp (op_call (F := 87) hs none (v := nu32 x27) rfl rfl rfl rfl (call87 _) (turn_c ((wv l) (i - 2)) 17 x27 (show (wv l) (i - 2) < 4294967296 by omega) (by decide) hx27) rfl fun ac w hs => mvv hs rfl rfl rfl fun ac hs => ?_)
  obtain ⟨x28, hx28, lx28⟩ : ∃ z0, rr ((wv l) (i - 2)) 19 = z0 ∧ z0 < 4294967296 := ⟨_, rfl, rr_lt (show (wv l) (i - 2) < 4294967296 by omega)⟩
  refine stp (op_call (F := 87) hs none (v := nu32 x28) rfl rfl rfl rfl (call87 _) (turn_c ((wv l) (i - 2)) 19 x28 (show (wv l) (i - 2) < 4294967296 by omega) (by decide) hx28) rfl fun ac w hs => ?_)
  obtain ⟨x29, hx29, lx29⟩ : ∃ z0, x27 ^^^ x28 = z0 ∧ z0 < 4294967296 := ⟨_, rfl, x32 (show x27 < 4294967296 by omega) (show x28 < 4294967296 by omega)⟩
  refine bnn hs (nu32 x29) rfl rfl rfl rfl (bin_xorN hx29 (show x27 < 4294967296 by omega) (show x28 < 4294967296 by omega) lx29) fun ac hs => mvv hs rfl rfl rfl fun ac hs => ?_
  obtain ⟨x30, hx30, lx30⟩ : ∃ z0, ((wv l) (i - 2)) / 2 ^ 10 = z0 ∧ z0 < 4294967296 := ⟨_, rfl, Nat.lt_of_le_of_lt (Nat.div_le_self _ _) (show (wv l) (i - 2) < 4294967296 by omega)⟩
  refine bnn hs (nu32 x30) rfl rfl rfl rfl (bin_shrN (y := 10) hx30 (show (wv l) (i - 2) < 4294967296 by omega)) fun ac hs => ?_
  obtain ⟨x31, hx31, lx31⟩ : ∃ z0, x29 ^^^ x30 = z0 ∧ z0 < 4294967296 := ⟨_, rfl, x32 (show x29 < 4294967296 by omega) (show x30 < 4294967296 by omega)⟩
  refine bnn hs (nu32 x31) rfl rfl rfl rfl (bin_xorN hx31 (show x29 < 4294967296 by omega) (show x30 < 4294967296 by omega) lx31) fun ac hs => asg hs rfl rfl rfl fun ac hs => wpList_nil (then_n ?_)
  replace hs := hs.nf w0 Z noX [0, 1, 2, 6, 7, 8, 11, 12] rfl rfl rfl rfl
  have l32 := wv_lt l (i - 7)
  obtain ⟨x33, hx33, lx33⟩ : ∃ z0, (x31 + ((wv l) (i - 7))) % 4294967296 = z0 ∧ z0 < 4294967296 := ⟨_, rfl, m32 _⟩
  obtain ⟨x34, hx34, lx34⟩ : ∃ z0, (x33 + x26) % 4294967296 = z0 ∧ z0 < 4294967296 := ⟨_, rfl, m32 _⟩
  have l35 := wv_lt l (i - 16)
  obtain ⟨x36, hx36, lx36⟩ : ∃ z0, (x34 + ((wv l) (i - 16))) % 4294967296 = z0 ∧ z0 < 4294967296 := ⟨_, rfl, m32 _⟩
  have hz : wv l i = x36 := by rw [wv_hi h16, wv_comm]; simp only [ss0, ss1, hx22, hx23, hx24, hx25, hx26, hx27, hx28, hx29, hx30, hx31, hx33, hx34, hx36]
  refine region_inv [([], [17, 18]), ([], [7, 9, 15, 16, 17, 18]), ([], [5, 6, 7, 9, 15, 16, 17, 18]), ([], [4, 5, 6, 7, 9, 15, 16, 17, 18]), ([3], [5, 6, 7, 9, 15, 16, 17, 18]), ([2, 3, 4], [6, 7, 9, 15, 16, 17, 18]), (rgn 2 4, [7, 9, 15, 16, 17, 18]), (rgn 1 6, [9, 15, 16, 17, 18]), ([], [9, 15, 16, 17, 18]), (rgn 1 8, rgn 15 4), ([], rgn 13 6), ([], rgn 12 7), ([11], rgn 13 6), ([10, 11, 12], rgn 14 5), (rgn 10 4, rgn 15 4), (rgn 1 14, [16, 17, 18]), (rgn 1 15, [17, 18]), (rgn 0 17, [18]), (rgn 0 18, [])] (fun L ac w => ∃ (ad38 : Option Addr) (ad39 : Option Addr) (cp40 : Nat), St 227 ⟨w0, [], [(true, cL ah 8 ch (tab .u32 8 h)), (true, cL ak 64 ck (tab .u32 64 KK)), (true, cL ad l.length c (bcs l)), (true, cond (L 17) (oW ad39 (i + 1) cp40 99 (tab .u32 (i + 1) (wv l))) (oW aw i cw 99 (tab .u32 i (wv l)))), (L 16, oW ad38 1 1 99 ([nu32 x36]))], Z, noX⟩ [(90, L 0, .slice aw i cw), (91, L 1, nu32 x31), (92, L 2, .slice aw i cw), (93, L 3, ni64 i), (94, L 4, ni64 (i - 7)), (95, L 5, vidx (.slice aw i cw) (i - 7)), (96, L 6, .int .u32 (((wv l) (i - 7) : Nat) : Int)), (97, L 7, nu32 x33), (98, L 8, nu32 x26), (99, L 9, nu32 x34), (100, L 10, .slice aw i cw), (101, L 11, ni64 i), (102, L 12, ni64 (i - 16)), (103, L 13, vidx (.slice aw i cw) (i - 16)), (104, L 14, .int .u32 (((wv l) (i - 16) : Nat) : Int)), (105, L 15, nu32 x36), (106, L 16, .slice ad38 1 1), (107, L 17, .slice ad39 (i + 1) cp40), (7, L 18, cond (L 18) (.slice ad39 (i + 1) cp40) undef), (0, true, .slice ah 8 ch), (1, true, .slice ak 64 ck), (2, true, .slice ad l.length c), (6, true, .slice none 0 0), (7, true, .slice aw i cw), (8, true, ni64 i), (11, true, nu32 x26), (12, true, nu32 x31)] [] ac w) (by kernel_rfl) (by kernel_rfl) ?_ ?_ ?_
  ·exact ⟨none, none, 0, hs.drew.s4.s4.s4.s4.skip.skip.skip.padS⟩
  ·refine ⟨?_, ?_, ?_, ?_, ?_, ?_, ?_, ?_, ?_, ?_, ?_, ?_, ?_, ?_, ?_, ?_, ?_, ?_, ?_, trivial⟩
   ·exact fun L ac w ⟨ad38, ad39, cp40, hs⟩ => pln (omv hs 0 rfl rfl rfl fun ac hs => ⟨ad38, ad39, cp40, hs⟩)
   ·exact fun L ac w ⟨ad38, ad39, cp40, hs⟩ => pln (omv hs 1 rfl rfl rfl fun ac hs => ⟨ad38, ad39, cp40, hs⟩)
   ·exact fun L ac w ⟨ad38, ad39, cp40, hs⟩ => pln (omv hs 2 rfl rfl rfl fun ac hs => ⟨ad38, ad39, cp40, hs⟩)
   ·exact fun L ac w ⟨ad38, ad39, cp40, hs⟩ => pln (omv hs 3 rfl rfl rfl fun ac hs => ⟨ad38, ad39, cp40, hs⟩)
   ·exact fun L ac w ⟨ad38, ad39, cp40, hs⟩ => pln (obn hs 4 (ni64 (i - 7)) rfl rfl rfl rfl (bin_subN (y := 7) (by omega) (show i - 7 < 9223372036854775808 by omega)) fun ac hs => ⟨ad38, ad39, cp40, hs⟩)
   ·exact fun L ac w ⟨ad38, ad39, cp40, hs⟩ => pln (op_idxC hs (some 5) 3 (j := i - 7) rfl rfl rfl rfl rfl underlying105 sizeOf99 (show i - 7 < i by omega) (off := i - 7) (by omega) rfl fun ac hs => ⟨ad38, ad39, cp40, hs⟩)
   ·exact fun L ac w ⟨ad38, ad39, cp40, hs⟩ => pln (op_loadC hs (some 6) 3 (u := .int .u32 (((wv l) (i - 7) : Nat) : Int)) rfl rfl rfl rfl isAgg99 sizeOf99 (by decide) (tab_get (j := i - 7) (show i - 7 < i by omega)) rfl fun ac hs => ⟨ad38, ad39, cp40, hs⟩)
   ·exact fun L ac w ⟨ad38, ad39, cp40, hs⟩ => pln (obn hs 7 (nu32 x33) rfl rfl rfl rfl (bin_addM rfl hx33) fun ac hs => ⟨ad38, ad39, cp40, hs⟩)
   ·exact fun L ac w ⟨ad38, ad39, cp40, hs⟩ => pln (omv hs 8 rfl rfl rfl fun ac hs => ⟨ad38, ad39, cp40, hs⟩)
   ·exact fun L ac w ⟨ad38, ad39, cp40, hs⟩ => pln (obn hs 9 (nu32 x34) rfl rfl rfl rfl (bin_addM rfl hx34) fun ac hs => ⟨ad38, ad39, cp40, hs⟩)
   ·exact fun L ac w ⟨ad38, ad39, cp40, hs⟩ => pln (omv hs 10 rfl rfl rfl fun ac hs => ⟨ad38, ad39, cp40, hs⟩)
   ·exact fun L ac w ⟨ad38, ad39, cp40, hs⟩ => pln (omv hs 11 rfl rfl rfl fun ac hs => ⟨ad38, ad39, cp40, hs⟩)
   ·exact fun L ac w ⟨ad38, ad39, cp40, hs⟩ => pln (obn hs 12 (ni64 (i - 16)) rfl rfl rfl rfl (bin_subN (y := 16) (by omega) (show i - 16 < 9223372036854775808 by omega)) fun ac hs => ⟨ad38, ad39, cp40, hs⟩)
   ·exact fun L ac w ⟨ad38, ad39, cp40, hs⟩ => pln (op_idxC hs (some 13) 3 (j := i - 16) rfl rfl rfl rfl rfl underlying105 sizeOf99 (show i - 16 < i by omega) (off := i - 16) (by omega) rfl fun ac hs => ⟨ad38, ad39, cp40, hs⟩)
   ·exact fun L ac w ⟨ad38, ad39, cp40, hs⟩ => pln (op_loadC hs (some 14) 3 (u := .int .u32 (((wv l) (i - 16) : Nat) : Int)) rfl rfl rfl rfl isAgg99 sizeOf99 (by decide) (tab_get (j := i - 16) (show i - 16 < i by omega)) rfl fun ac hs => ⟨ad38, ad39, cp40, hs⟩)
   ·exact fun L ac w ⟨ad38, ad39, cp40, hs⟩ => pln (obn hs 15 (nu32 x36) rfl rfl rfl rfl (bin_addM rfl hx36) fun ac hs => ⟨ad38, ad39, cp40, hs⟩)
   ·exact fun L ac w ⟨ad38, ad39, cp40, hs⟩ => pln (op_bsO hs (some 16) (some 4) (qs := [(0, nu32 x36)]) (cs := [nu32 x36]) rfl rfl rfl rfl underlying105 inf_u32_99 (by decide) (by decide) (fill_one _ _ rfl) rfl rfl rfl rfl fun ad38 ac w hs => ⟨ad38, ad39, cp40, hs⟩)
   ·exact fun L ac w ⟨ad38, ad39, cp40, hs⟩ => pln (op_appR hs (some 17) 3 4 (N' := i + 1) (ys := (tab .u32 (i + 1) (wv l))) rfl rfl rfl rfl rfl rfl underlying105 inf_u32_99 rfl (by decide) rfl (by intro u hu; obtain rfl := List.mem_singleton.1 hu; rfl) (by decide) (show i + 1 ≤ 1000000 by omega) rfl (tab_snoc1 hz) rfl rfl fun ad39 cp40 ac w hs => ⟨ad38, ad39, cp40, hs⟩)
   ·exact fun L ac w ⟨ad38, ad39, cp40, hs⟩ => pln (oas hs 18 rfl rfl rfl fun ac hs => ⟨ad38, ad39, cp40, hs⟩)
  intro ac w ⟨ad38, ad39, cp40, hs⟩
  try dsimp only [cond_true] at hs
  refine blk_n (then_n (wp_region_lit (mvv hs rfl rfl rfl fun ac hs => bnn hs (ni64 (i + 1)) rfl rfl rfl rfl (bin_addN (y := 1) rfl (show i + 1 < 9223372036854775808 by omega)) fun ac hs => asg hs rfl rfl rfl fun ac hs => wpList_nil (then_n ?_))))
  replace hs := hs.selS [0, 1, 2, 3] rfl (by decide)
  exact ⟨_, ⟨(i + 1), ad39, cp40, rfl, (by omega), (hs.re (fs' := [(0, true, .slice ah 8 ch), (1, true, .slice ak 64 ck), (2, true, .slice ad l.length c), (6, true, .slice none 0 0), (7, true, .slice ad39 (i + 1) cp40), (8, true, ni64 ((i + 1)))]) ⟨rfl, rfl, rfl, rfl, rfl, rfl, trivial⟩)⟩, (by omega)⟩
 intro hc
 have hp41 := of_decide_eq_false hc
 obtain rfl : i = 64 := by have := of_decide_eq_false hc; omega
 refine wp_exit (then_e (then_e (blk_e (then_n (wp_seq (wp_region_lit (stp (op_bsO0 hs none none (size := 1) rfl rfl underlying105 inf_u32_99 rfl rfl fun ad43 ac w hs => mvv hs rfl rfl rfl fun ac hs => stp (op_appR hs none 4 0 (N' := 8) (ys := (tab .u32 8 h)) rfl rfl rfl rfl rfl rfl underlying105 inf_u32_99 rfl (by decide) (by rw [tab_length]) tab_oneC (by decide) (show 0 + 8 ≤ 1000000 by omega) (Nat.zero_add _) rfl rfl rfl fun ad44 cp45 ac w hs => asg hs rfl rfl rfl fun ac hs => wpList_nil (then_n (wp_seq (wp_seq ?_))))))))))))
 replace hs := hs.nf w0 Z noX [0, 1, 6, 7, 13] rfl rfl rfl rfl
 refine wp_region_lit (asg hs rfl rfl rfl fun ac hs => wpList_nil (then_n (wp_block ?_)))
 replace hs := hs.ownEq 4 (N' := 8) (xs' := tab .u32 8 (rnds (wv l) h 0)) rfl rfl rfl
 refine wp_loop_m (fun μ ac w => ∃ (i : Nat) (av : Option Addr) (cv : Nat), (64 - i) = μ ∧ (i ≤ 64) ∧ St 227 ⟨w0, [], [(true, cL ah 8 ch (tab .u32 8 h)), (true, cL ak 64 ck (tab .u32 64 KK)), (true, oW aw 64 cw 99 (tab .u32 64 (wv l))), (true, oW av 8 cv 99 (tab .u32 8 (rnds (wv l) h i)))], Z, noX⟩ [(0, true, .slice ah 8 ch), (1, true, .slice ak 64 ck), (7, true, .slice aw 64 cw), (13, true, .slice av 8 cv), (14, true, ni64 i)] [] ac w) ?_ ?_
 replace hs := hs.selS [0, 1, 3, 4] rfl (by decide)
 ·exact ⟨_, 0, ad44, cp45, rfl, (by omega), (hs.re (fs' := [(0, true, .slice ah 8 ch), (1, true, .slice ak 64 ck), (7, true, .slice aw 64 cw), (13, true, .slice ad44 8 cp45), (14, true, ni64 0)]) ⟨rfl, rfl, rfl, rfl, rfl, trivial⟩)⟩
 intro μ ac w ⟨i, av, cv, hμ, hi, hs⟩
 refine wp_seq (wp_seq (wp_region_lit (mvv hs rfl rfl rfl fun ac hs => bnn hs (.bool (decide (i < 64))) rfl rfl rfl rfl (bin_lssN (y := 64)) fun ac hs => wpList_nil (then_n (wcs hs rfl ?_ ?_)))))
 ·intro hc
  have hp46 := of_decide_eq_true hc
  have hi64 := of_decide_eq_true hc
  refine wp_skip (then_n (wp_seq (wp_block (wp_seq ?_))))
  replace hs := hs.nf w0 Z noX [0, 1, 7, 13, 14] rfl rfl rfl rfl
  have l47 := rnds_lt (w := wv l) (h := h) hh i 0
  have l48 := rnds_lt (w := wv l) (h := h) hh i 2
  have l49 := rnds_lt (w := wv l) (h := h) hh i 4
  refine region_inv [([], [1, 2, 9, 10, 11]), ([0], [2, 9, 10, 11]), ([0, 1], [9, 10, 11]), ([], [4, 5, 10, 11]), ([3], [5, 10, 11]), ([3, 4], [10, 11]), ([], [7, 8, 11]), ([6], [8, 11]), ([6, 7], [11]), ([0, 1, 2], [10, 11]), ([0, 1, 2, 3, 4, 5, 9], [11]), (rgn 0 11, [])] (fun L ac w => St 227 ⟨w0, [], [(true, cL ah 8 ch (tab .u32 8 h)), (true, cL ak 64 ck (tab .u32 64 KK)), (true, oW aw 64 cw 99 (tab .u32 64 (wv l))), (true, oW av 8 cv 99 (tab .u32 8 (rnds (wv l) h i)))], Z, noX⟩ [(115, L 0, .slice av 8 cv), (116, L 1, vidx (.slice av 8 cv) 0), (117, L 2, nu32 ((rnds (wv l) h i) 0)), (118, L 3, .slice av 8 cv), (119, L 4, vidx (.slice av 8 cv) 2), (120, L 5, nu32 ((rnds (wv l) h i) 2)), (121, L 6, .slice av 8 cv), (122, L 7, vidx (.slice av 8 cv) 4), (123, L 8, nu32 ((rnds (wv l) h i) 4)), (15, L 9, nu32 ((rnds (wv l) h i) 0)), (16, L 10, nu32 ((rnds (wv l) h i) 2)), (17, L 11, nu32 ((rnds (wv l) h i) 4)), (0, true, .slice ah 8 ch), (1, true, .slice ak 64 ck), (7, true, .slice aw 64 cw), (13, true, .slice av 8 cv), (14, true, ni64 i)] [] ac w) (by kernel_rfl) (by kernel_rfl) ?_ ?_ ?_
  ·exact hs.drew.s4.s4.s4
  ·refine ⟨?_, ?_, ?_, ?_, ?_, ?_, ?_, ?_, ?_, ?_, ?_, ?_, trivial⟩
   ·exact fun L ac w hs => pln (omv hs 0 rfl rfl rfl fun ac hs => hs)
   ·exact fun L ac w hs => pln (op_idxC hs (some 1) 3 (j := 0) rfl rfl rfl rfl rfl underlying105 sizeOf99 (by decide) (off := 0) (by omega) rfl fun ac hs => hs)
   ·exact fun L ac w hs => pln (op_loadC hs (some 2) 3 (u := nu32 ((rnds (wv l) h i) 0)) rfl rfl rfl rfl isAgg99 sizeOf99 (by decide) (tab_get (j := 0) (by decide)) rfl fun ac hs => hs)
   ·exact fun L ac w hs => pln (omv hs 3 rfl rfl rfl fun ac hs => hs)
   ·exact fun L ac w hs => pln (op_idxC hs (some 4) 3 (j := 2) rfl rfl rfl rfl rfl underlying105 sizeOf99 (by decide) (off := 2) (by omega) rfl fun ac hs => hs)
   ·exact fun L ac w hs => pln (op_loadC hs (some 5) 3 (u := nu32 ((rnds (wv l) h i) 2)) rfl rfl rfl rfl isAgg99 sizeOf99 (by decide) (tab_get (j := 2) (by decide)) rfl fun ac hs => hs)
   ·exact fun L ac w hs => pln (omv hs 6 rfl rfl rfl fun ac hs => hs)
   ·exact fun L ac w hs => pln (op_idxC hs (some 7) 3 (j := 4) rfl rfl rfl rfl rfl underlying105 sizeOf99 (by decide) (off := 4) (by omega) rfl fun ac hs => hs)
   ·exact fun L ac w hs => pln (op_loadC hs (some 8) 3 (u := nu32 ((rnds (wv l) h i) 4)) rfl rfl rfl rfl isAgg99 sizeOf99 (by decide) (tab_get (j := 4) (by decide)) rfl fun ac hs => hs)
   ·exact fun L ac w hs => pln (oas hs 9 rfl rfl rfl fun ac hs => hs)
   ·exact fun L ac w hs => pln (oas hs 10 rfl rfl rfl fun ac hs => hs)
   ·exact fun L ac w hs => pln (oas hs 11 rfl rfl rfl fun ac hs => hs)
  intro ac w hs
  try dsimp only [cond_true] at hs
  refine then_n (wp_seq ?_)
  replace hs := hs.nf w0 Z noX [0, 1, 7, 13, 14, 15, 16, 17] rfl rfl rfl rfl
  have l50 := rnds_lt (w := wv l) (h := h) hh i 7
  obtain ⟨x51, hx51, lx51⟩ : ∃ z0, rr ((rnds (wv l) h i) 4) 6 = z0 ∧ z0 < 4294967296 := ⟨_, rfl, rr_lt (show (rnds (wv l) h i) 4 < 4294967296 by omega)⟩
  obtain ⟨x52, hx52, lx52⟩ : ∃ z0, rr ((rnds (wv l) h i) 4) 11 = z0 ∧ z0 < 4294967296 := ⟨_, rfl, rr_lt (show (rnds (wv l) h i) 4 < 4294967296 by omega)⟩
  obtain ⟨x53, hx53, lx53⟩ : ∃ z0, x51 ^^^ x52 = z0 ∧ z0 < 4294967296 := ⟨_, rfl, x32 (show x51 < 4294967296 by omega) (show x52 < 4294967296 by omega)⟩
  obtain ⟨x54, hx54, lx54⟩ : ∃ z0, rr ((rnds (wv l) h i) 4) 25 = z0 ∧ z0 < 4294967296 := ⟨_, rfl, rr_lt (show (rnds (wv l) h i) 4 < 4294967296 by omega)⟩
  obtain ⟨x55, hx55, lx55⟩ : ∃ z0, x53 ^^^ x54 = z0 ∧ z0 < 4294967296 := ⟨_, rfl, x32 (show x53 < 4294967296 by omega) (show x54 < 4294967296 by omega)⟩
  obtain ⟨x56, hx56, lx56⟩ : ∃ z0, ((rnds (wv l) h i) 7 + x55) % 4294967296 = z0 ∧ z0 < 4294967296 := ⟨_, rfl, m32 _⟩
  have l57 := rnds_lt (w := wv l) (h := h) hh i 5
  obtain ⟨x58, hx58, lx58⟩ : ∃ z0, ((rnds (wv l) h i) 4) &&& ((rnds (wv l) h i) 5) = z0 ∧ z0 < 4294967296 := ⟨_, rfl, a32 (show (rnds (wv l) h i) 5 < 4294967296 by omega)⟩
  obtain ⟨x59, hx59, lx59⟩ : ∃ z0, 4294967295 - ((rnds (wv l) h i) 4) = z0 ∧ z0 < 4294967296 := ⟨_, rfl, by omega⟩
  have l60 := rnds_lt (w := wv l) (h := h) hh i 6
  obtain ⟨x61, hx61, lx61⟩ : ∃ z0, x59 &&& ((rnds (wv l) h i) 6) = z0 ∧ z0 < 4294967296 := ⟨_, rfl, a32 (show (rnds (wv l) h i) 6 < 4294967296 by omega)⟩
  obtain ⟨x62, hx62, lx62⟩ : ∃ z0, x58 ^^^ x61 = z0 ∧ z0 < 4294967296 := ⟨_, rfl, x32 (show x58 < 4294967296 by omega) (show x61 < 4294967296 by omega)⟩
  obtain ⟨x63, hx63, lx63⟩ : ∃ z0, (x56 + x62) % 4294967296 = z0 ∧ z0 < 4294967296 := ⟨_, rfl, m32 _⟩
  have l64 := KK_lt i
  obtain ⟨x65, hx65, lx65⟩ : ∃ z0, (x63 + (KK i)) % 4294967296 = z0 ∧ z0 < 4294967296 := ⟨_, rfl, m32 _⟩
  have l66 := wv_lt l i
  obtain ⟨x67, hx67, lx67⟩ : ∃ z0, (x65 + ((wv l) i)) % 4294967296 = z0 ∧ z0 < 4294967296 := ⟨_, rfl, m32 _⟩
  refine region_inv [([], [1, 2, 11, 24, 29, 34, 35]), ([0], [2, 11, 24, 29, 34, 35]), ([0, 1], [11, 24, 29, 34, 35]), ([], [4, 6, 7, 9, 10, 11, 24, 29, 34, 35]), ([3], [6, 7, 9, 10, 11, 24, 29, 34, 35]), ([], [6, 7, 9, 10, 11, 24, 29, 34, 35]), ([3, 4, 5], [7, 9, 10, 11, 24, 29, 34, 35]), (rgn 3 4, [10, 11, 24, 29, 34, 35]), ([], [9, 10, 11, 24, 29, 34, 35]), ([3, 4, 5, 6, 8], [10, 11, 24, 29, 34, 35]), (rgn 3 7, [11, 24, 29, 34, 35]), (rgn 0 11, [24, 29, 34, 35]), ([], [16, 23, 24, 29, 34, 35]), ([], [14, 15, 16, 23, 24, 29, 34, 35]), ([13], [15, 16, 23, 24, 29, 34, 35]), ([13, 14], [16, 23, 24, 29, 34, 35]), (rgn 12 4, [23, 24, 29, 34, 35]), ([], [18, 22, 23, 24, 29, 34, 35]), ([17], [22, 23, 24, 29, 34, 35]), ([], [20, 21, 22, 23, 24, 29, 34, 35]), ([19], [21, 22, 23, 24, 29, 34, 35]), ([19, 20], [22, 23, 24, 29, 34, 35]), (rgn 17 5, [23, 24, 29, 34, 35]), (rgn 12 11, [24, 29, 34, 35]), (rgn 0 24, [29, 34, 35]), ([], [27, 28, 29, 34, 35]), ([], [27, 28, 29, 34, 35]), ([25, 26], [28, 29, 34, 35]), ([25, 26, 27], [29, 34, 35]), (rgn 0 29, [34, 35]), ([], rgn 32 4), ([], rgn 32 4), ([30, 31], [33, 34, 35]), ([30, 31, 32], [34, 35]), (rgn 0 34, [35]), (rgn 0 35, [])] (fun L ac w => St 227 ⟨w0, [], [(true, cL ah 8 ch (tab .u32 8 h)), (true, cL ak 64 ck (tab .u32 64 KK)), (true, oW aw 64 cw 99 (tab .u32 64 (wv l))), (true, oW av 8 cv 99 (tab .u32 8 (rnds (wv l) h i)))], Z, noX⟩ [(124, L 0, .slice av 8 cv), (125, L 1, vidx (.slice av 8 cv) 7), (126, L 2, nu32 ((rnds (wv l) h i) 7)), (127, L 3, nu32 ((rnds (wv l) h i) 4)), (128, L 4, nu32 x51), (129, L 5, nu32 ((rnds (wv l) h i) 4)), (130, L 6, nu32 x52), (131, L 7, nu32 x53), (132, L 8, nu32 ((rnds (wv l) h i) 4)), (133, L 9, nu32 x54), (134, L 10, nu32 x55), (135, L 11, nu32 x56), (136, L 12, nu32 ((rnds (wv l) h i) 4)), (137, L 13, .slice av 8 cv), (138, L 14, vidx (.slice av 8 cv) 5), (139, L 15, nu32 ((rnds (wv l) h i) 5)), (140, L 16, nu32 x58), (141, L 17, nu32 ((rnds (wv l) h i) 4)), (142, L 18, nu32 x59), (143, L 19, .slice av 8 cv), (144, L 20, vidx (.slice av 8 cv) 6), (145, L 21, nu32 ((rnds (wv l) h i) 6)), (146, L 22, nu32 x61), (147, L 23, nu32 x62), (148, L 24, nu32 x63), (149, L 25, .slice ak 64 ck), (150, L 26, ni64 i), (151, L 27, vidx (.slice ak 64 ck) i), (152, L 28, nu32 (KK i)), (153, L 29, nu32 x65), (154, L 30, .slice aw 64 cw), (155, L 31, ni64 i), (156, L 32, vidx (.slice aw 64 cw) i), (157, L 33, nu32 ((wv l) i)), (158, L 34, nu32 x67), (18, L 35, nu32 x67), (0, true, .slice ah 8 ch), (1, true, .slice ak 64 ck), (7, true, .slice aw 64 cw), (13, true, .slice av 8 cv), (14, true, ni64 i), (15, true, nu32 ((rnds (wv l) h i) 0)), (16, true, nu32 ((rnds (wv l) h i) 2)), (17, true, nu32 ((rnds (wv l) h i) 4))] [] ac w) (by kernel_rfl) (by kernel_rfl) ?_ ?_ ?_
  ·exact hs.drew.s4.s4.s4.s4.s4.s4.s4.s4.s4
  ·refine ⟨?_, ?_, ?_, ?_, ?_, ?_, ?_, ?_, ?_, ?_, ?_, ?_, ?_, ?_, ?_, ?_, ?_, ?_, ?_, ?_, ?_, ?_, ?_, ?_, ?_, ?_, ?_, ?_, ?_, ?_, ?_, ?_, ?_, ?_, ?_, ?_, trivial⟩
   ·exact fun L ac w hs => pln (omv hs 0 rfl rfl rfl fun ac hs => hs)
   ·exact fun L ac w hs => pln (op_idxC hs (some 1) 3 (j := 7) rfl rfl rfl rfl rfl underlying105 sizeOf99 (by decide) (off := 7) (by omega) rfl fun ac hs => hs)
   ·exact fun L ac w hs => pln (op_loadC hs (some 2) 3 (u := nu32 ((rnds (wv l) h i) 7)) rfl rfl rfl rfl isAgg99 sizeOf99 (by decide) (tab_get (j := 7) (by decide)) rfl fun ac hs => hs)
   ·exact fun L ac w hs => pln (omv hs 3 rfl rfl rfl fun ac hs => hs)
   ·exact fun L ac w hs => pln (op_call (F := 87) hs (some 4) (v := nu32 x51) rfl rfl rfl rfl (call87 _) (turn_c ((rnds (wv l) h i) 4) 6 x51 (show (rnds (wv l) h i) 4 < 4294967296 by omega) (by decide) hx51) rfl fun ac w hs => hs)
   ·exact fun L ac w hs => pln (omv hs 5 rfl rfl rfl fun ac hs => hs)
   ·exact fun L ac w hs => pln (op_call (F := 87) hs (some 6) (v := nu32 x52) rfl rfl rfl rfl (call87 _) (turn_c ((rnds (wv l) h i) 4) 11 x52 (show (rnds (wv l) h i) 4 < 4294967296 by omega) (by decide) hx52) rfl fun ac w hs => hs)
   ·exact fun L ac w hs => pln (obn hs 7 (nu32 x53) rfl rfl rfl rfl (bin_xorN hx53 (show x51 < 4294967296 by omega) (show x52 < 4294967296 by omega) lx53) fun ac hs => hs)
   ·exact fun L ac w hs => pln (omv hs 8 rfl rfl rfl fun ac hs => hs)
   ·exact fun L ac w hs => pln (op_call (F := 87) hs (some 9) (v := nu32 x54) rfl rfl rfl rfl (call87 _) (turn_c ((rnds (wv l) h i) 4) 25 x54 (show (rnds (wv l) h i) 4 < 4294967296 by omega) (by decide) hx54) rfl fun ac w hs => hs)
   ·exact fun L ac w hs => pln (obn hs 10 (nu32 x55) rfl rfl rfl rfl (bin_xorN hx55 (show x53 < 4294967296 by omega) (show x54 < 4294967296 by omega) lx55) fun ac hs => hs)
   ·exact fun L ac w hs => pln (obn hs 11 (nu32 x56) rfl rfl rfl rfl (bin_addM rfl hx56) fun ac hs => hs)
   ·exact fun L ac w hs => pln (omv hs 12 rfl rfl rfl fun ac hs => hs)
   ·exact fun L ac w hs => pln (omv hs 13 rfl rfl rfl fun ac hs => hs)
   ·exact fun L ac w hs => pln (op_idxC hs (some 14) 3 (j := 5) rfl rfl rfl rfl rfl underlying105 sizeOf99 (by decide) (off := 5) (by omega) rfl fun ac hs => hs)
   ·exact fun L ac w hs => pln (op_loadC hs (some 15) 3 (u := nu32 ((rnds (wv l) h i) 5)) rfl rfl rfl rfl isAgg99 sizeOf99 (by decide) (tab_get (j := 5) (by decide)) rfl fun ac hs => hs)
   ·exact fun L ac w hs => pln (obn hs 16 (nu32 x58) rfl rfl rfl rfl (bin_andN hx58 (show (rnds (wv l) h i) 4 < 4294967296 by omega) (show (rnds (wv l) h i) 5 < 4294967296 by omega) lx58) fun ac hs => hs)
   ·exact fun L ac w hs => pln (omv hs 17 rfl rfl rfl fun ac hs => hs)
   ·exact fun L ac w hs => pln (obn hs 18 (nu32 x59) rfl rfl rfl rfl (bin_xorN (y := 4294967295) ((not32 (show (rnds (wv l) h i) 4 < 4294967296 by omega)).trans hx59) (show (rnds (wv l) h i) 4 < 4294967296 by omega) (by decide) lx59) fun ac hs => hs)
   ·exact fun L ac w hs => pln (omv hs 19 rfl rfl rfl fun ac hs => hs)
   ·exact fun L ac w hs => pln (op_idxC hs (some 20) 3 (j := 6) rfl rfl rfl rfl rfl underlying105 sizeOf99 (by decide) (off := 6) (by omega) rfl fun ac hs => hs)
   ·exact fun L ac w hs => pln (op_loadC hs (some 21) 3 (u := nu32 ((rnds (wv l) h i) 6)) rfl rfl rfl rfl isAgg99 sizeOf99 (by decide) (tab_get (j := 6) (by decide)) rfl fun ac hs => hs)
   ·exact fun L ac w hs => pln (obn hs 22 (nu32 x61) rfl rfl rfl rfl (bin_andN hx61 (show x59 < 4294967296 by omega) (show (rnds (wv l) h i) 6 < 4294967296 by omega) lx61) fun ac hs => hs)
   ·exact fun L ac w hs => pln (obn hs 23 (nu32 x62) rfl rfl rfl rfl (bin_xorN hx62 (show x58 < 4294967296 by omega) (show x61 < 4294967296 by omega) lx62) fun ac hs => hs)
   ·exact fun L ac w hs => pln (obn hs 24 (nu32 x63) rfl rfl rfl rfl (bin_addM rfl hx63) fun ac hs => hs)
   ·exact fun L ac w hs => pln (omv hs 25 rfl rfl rfl fun ac hs => hs)
   ·exact fun L ac w hs => pln (omv hs 26 rfl rfl rfl fun ac hs => hs)
   ·exact fun L ac w hs => pln (op_idxC hs (some 27) 1 (j := i) rfl rfl rfl rfl rfl underlying105 sizeOf99 (show i < 64 by omega) (off := i) (by omega) rfl fun ac hs => hs)
   ·exact fun L ac w hs => pln (op_loadC hs (some 28) 1 (u := nu32 (KK i)) rfl rfl rfl rfl isAgg99 sizeOf99 (by decide) (tab_get (j := i) (show i < 64 by omega)) rfl fun ac hs => hs)
   ·exact fun L ac w hs => pln (obn hs 29 (nu32 x65) rfl rfl rfl rfl (bin_addM rfl hx65) fun ac hs => hs)
   ·exact fun L ac w hs => pln (omv hs 30 rfl rfl rfl fun ac hs => hs)
   ·exact fun L ac w hs => pln (omv hs 31 rfl rfl rfl fun ac hs => hs)
   ·exact fun L ac w hs => pln (op_idxC hs (some 32) 2 (j := i) rfl rfl rfl rfl rfl underlying105 sizeOf99 (show i < 64 by omega) (off := i) (by omega) rfl fun ac hs => hs)
   ·exact fun L ac w hs => pln (op_loadC hs (some 33) 2 (u := nu32 ((wv l) i)) rfl rfl rfl rfl isAgg99 sizeOf99 (by decide) (tab_get (j := i) (show i < 64 by omega)) rfl fun ac hs => hs)
   ·exact fun L ac w hs => pln (obn hs 34 (nu32 x67) rfl rfl rfl rfl (bin_addM rfl hx67) fun ac hs => hs)
   ·exact fun L ac w hs => pln (oas hs 35 rfl rfl rfl fun ac hs => hs)
  intro ac w hs
  try dsimp only [cond_true] at hs
  refine then_n (wp_seq ?_)
  replace hs := hs.nf w0 Z noX [0, 1, 7, 13, 14, 15, 16, 18] rfl rfl rfl rfl
  obtain ⟨x68, hx68, lx68⟩ : ∃ z0, rr ((rnds (wv l) h i) 0) 2 = z0 ∧ z0 < 4294967296 := ⟨_, rfl, rr_lt (show (rnds (wv l) h i) 0 < 4294967296 by omega)⟩
  obtain ⟨x69, hx69, lx69⟩ : ∃ z0, rr ((rnds (wv l) h i) 0) 13 = z0 ∧ z0 < 4294967296 := ⟨_, rfl, rr_lt (show (rnds (wv l) h i) 0 < 4294967296 by omega)⟩
  obtain ⟨x70, hx70, lx70⟩ : ∃ z0, x68 ^^^ x69 = z0 ∧ z0 < 4294967296 := ⟨_, rfl, x32 (show x68 < 4294967296 by omega) (show x69 < 4294967296 by omega)⟩
  obtain ⟨x71, hx71, lx71⟩ : ∃ z0, rr ((rnds (wv l) h i) 0) 22 = z0 ∧ z0 < 4294967296 := ⟨_, rfl, rr_lt (show (rnds (wv l) h i) 0 < 4294967296 by omega)⟩
  obtain ⟨x72, hx72, lx72⟩ : ∃ z0, x70 ^^^ x71 = z0 ∧ z0 < 4294967296 := ⟨_, rfl, x32 (show x70 < 4294967296 by omega) (show x71 < 4294967296 by omega)⟩
  have l73 := rnds_lt (w := wv l) (h := h) hh i 1
  obtain ⟨x74, hx74, lx74⟩ : ∃ z0, ((rnds (wv l) h i) 0) &&& ((rnds (wv l) h i) 1) = z0 ∧ z0 < 4294967296 := ⟨_, rfl, a32 (show (rnds (wv l) h i) 1 < 4294967296 by omega)⟩
  obtain ⟨x75, hx75, lx75⟩ : ∃ z0, ((rnds (wv l) h i) 0) &&& ((rnds (wv l) h i) 2) = z0 ∧ z0 < 4294967296 := ⟨_, rfl, a32 (show (rnds (wv l) h i) 2 < 4294967296 by omega)⟩
  obtain ⟨x76, hx76, lx76⟩ : ∃ z0, x74 ^^^ x75 = z0 ∧ z0 < 4294967296 := ⟨_, rfl, x32 (show x74 < 4294967296 by omega) (show x75 < 4294967296 by omega)⟩
  have l77 := rnds_lt (w := wv l) (h := h) hh i 1
  obtain ⟨x78, hx78, lx78⟩ : ∃ z0, ((rnds (wv l) h i) 1) &&& ((rnds (wv l) h i) 2) = z0 ∧ z0 < 4294967296 := ⟨_, rfl, a32 (show (rnds (wv l) h i) 2 < 4294967296 by omega)⟩
  obtain ⟨x79, hx79, lx79⟩ : ∃ z0, x76 ^^^ x78 = z0 ∧ z0 < 4294967296 := ⟨_, rfl, x32 (show x76 < 4294967296 by omega) (show x78 < 4294967296 by omega)⟩
  obtain ⟨x80, hx80, lx80⟩ : ∃ z0, (x72 + x79) % 4294967296 = z0 ∧ z0 < 4294967296 := ⟨_, rfl, m32 _⟩
  refine region_inv [([], [1, 3, 4, 6, 7, 23, 24]), ([0], [3, 4, 6, 7, 23, 24]), ([], [3, 4, 6, 7, 23, 24]), ([0, 1, 2], [4, 6, 7, 23, 24]), (rgn 0 4, [7, 23, 24]), ([], [6, 7, 23, 24]), ([0, 1, 2, 3, 5], [7, 23, 24]), (rgn 0 7, [23, 24]), ([], [12, 16, 22, 23, 24]), ([], [10, 11, 12, 16, 22, 23, 24]), ([9], [11, 12, 16, 22, 23, 24]), ([9, 10], [12, 16, 22, 23, 24]), (rgn 8 4, [16, 22, 23, 24]), ([], [15, 16, 22, 23, 24]), ([], [15, 16, 22, 23, 24]), ([13, 14], [16, 22, 23, 24]), (rgn 8 8, [22, 23, 24]), ([], [18, 19, 21, 22, 23, 24]), ([17], [19, 21, 22, 23, 24]), ([17, 18], rgn 21 4), ([], rgn 21 4), (rgn 17 4, [22, 23, 24]), (rgn 8 14, [23, 24]), (rgn 0 23, [24]), (rgn 0 24, [])] (fun L ac w => St 227 ⟨w0, [], [(true, cL ah 8 ch (tab .u32 8 h)), (true, cL ak 64 ck (tab .u32 64 KK)), (true, oW aw 64 cw 99 (tab .u32 64 (wv l))), (true, oW av 8 cv 99 (tab .u32 8 (rnds (wv l) h i)))], Z, noX⟩ [(159, L 0, nu32 ((rnds (wv l) h i) 0)), (160, L 1, nu32 x68), (161, L 2, nu32 ((rnds (wv l) h i) 0)), (162, L 3, nu32 x69), (163, L 4, nu32 x70), (164, L 5, nu32 ((rnds (wv l) h i) 0)), (165, L 6, nu32 x71), (166, L 7, nu32 x72), (167, L 8, nu32 ((rnds (wv l) h i) 0)), (168, L 9, .slice av 8 cv), (169, L 10, vidx (.slice av 8 cv) 1), (170, L 11, nu32 ((rnds (wv l) h i) 1)), (171, L 12, nu32 x74), (172, L 13, nu32 ((rnds (wv l) h i) 0)), (173, L 14, nu32 ((rnds (wv l) h i) 2)), (174, L 15, nu32 x75), (175, L 16, nu32 x76), (176, L 17, .slice av 8 cv), (177, L 18, vidx (.slice av 8 cv) 1), (178, L 19, nu32 ((rnds (wv l) h i) 1)), (179, L 20, nu32 ((rnds (wv l) h i) 2)), (180, L 21, nu32 x78), (181, L 22, nu32 x79), (182, L 23, nu32 x80), (19, L 24, nu32 x80), (0, true, .slice ah 8 ch), (1, true, .slice ak 64 ck), (7, true, .slice aw 64 cw), (13, true, .slice av 8 cv), (14, true, ni64 i), (15, true, nu32 ((rnds (wv l) h i) 0)), (16, true, nu32 ((rnds (wv l) h i) 2)), (18, true, nu32 x67)] [] ac w) (by kernel_rfl) (by kernel_rfl) ?_ ?_ ?_
  ·exact hs.drew.s4.s4.s4.s4.s4.s4.skip
  ·refine ⟨?_, ?_, ?_, ?_, ?_, ?_, ?_, ?_, ?_, ?_, ?_, ?_, ?_, ?_, ?_, ?_, ?_, ?_, ?_, ?_, ?_, ?_, ?_, ?_, ?_, trivial⟩
   ·exact fun L ac w hs => pln (omv hs 0 rfl rfl rfl fun ac hs => hs)
   ·exact fun L ac w hs => pln (op_call (F := 87) hs (some 1) (v := nu32 x68) rfl rfl rfl rfl (call87 _) (turn_c ((rnds (wv l) h i) 0) 2 x68 (show (rnds (wv l) h i) 0 < 4294967296 by omega) (by decide) hx68) rfl fun ac w hs => hs)
   ·exact fun L ac w hs => pln (omv hs 2 rfl rfl rfl fun ac hs => hs)
   ·exact fun L ac w hs => pln (op_call (F := 87) hs (some 3) (v := nu32 x69) rfl rfl rfl rfl (call87 _) (turn_c ((rnds (wv l) h i) 0) 13 x69 (show (rnds (wv l) h i) 0 < 4294967296 by omega) (by decide) hx69) rfl fun ac w hs => hs)
   ·exact fun L ac w hs => pln (obn hs 4 (nu32 x70) rfl rfl rfl rfl (bin_xorN hx70 (show x68 < 4294967296 by omega) (show x69 < 4294967296 by omega) lx70) fun ac hs => hs)
   ·exact fun L ac w hs => pln (omv hs 5 rfl rfl rfl fun ac hs => hs)
   ·exact fun L ac w hs => pln (op_call (F := 87) hs (some 6) (v := nu32 x71) rfl rfl rfl rfl (call87 _) (turn_c ((rnds (wv l) h i) 0) 22 x71 (show (rnds (wv l) h i) 0 < 4294967296 by omega) (by decide) hx71) rfl fun ac w hs => hs)
   ·exact fun L ac w hs => pln (obn hs 7 (nu32 x72) rfl rfl rfl rfl (bin_xorN hx72 (show x70 < 4294967296 by omega) (show x71 < 4294967296 by omega) lx72) fun ac hs => hs)
   ·exact fun L ac w hs => pln (omv hs 8 rfl rfl rfl fun ac hs => hs)
   ·exact fun L ac w hs => pln (omv hs 9 rfl rfl rfl fun ac hs => hs)
   ·exact fun L ac w hs => pln (op_idxC hs (some 10) 3 (j := 1) rfl rfl rfl rfl rfl underlying105 sizeOf99 (by decide) (off := 1) (by omega) rfl fun ac hs => hs)
   ·exact fun L ac w hs => pln (op_loadC hs (some 11) 3 (u := nu32 ((rnds (wv l) h i) 1)) rfl rfl rfl rfl isAgg99 sizeOf99 (by decide) (tab_get (j := 1) (by decide)) rfl fun ac hs => hs)
   ·exact fun L ac w hs => pln (obn hs 12 (nu32 x74) rfl rfl rfl rfl (bin_andN hx74 (show (rnds (wv l) h i) 0 < 4294967296 by omega) (show (rnds (wv l) h i) 1 < 4294967296 by omega) lx74) fun ac hs => hs)
   ·exact fun L ac w hs => pln (omv hs 13 rfl rfl rfl fun ac hs => hs)
   ·exact fun L ac w hs => pln (omv hs 14 rfl rfl rfl fun ac hs => hs)
   ·exact fun L ac w hs => pln (obn hs 15 (nu32 x75) rfl rfl rfl rfl (bin_andN hx75 (show (rnds (wv l) h i) 0 < 4294967296 by omega) (show (rnds (wv l) h i) 2 < 4294967296 by omega) lx75) fun ac hs => hs)
   ·exact fun L ac w hs => pln (obn hs 16 (nu32 x76) rfl rfl rfl rfl (bin_xorN hx76 (show x74 < 4294967296 by omega) (show x75 < 4294967296 by omega) lx76) fun ac hs => hs)
   ·exact fun L ac w hs => pln (omv hs 17 rfl rfl rfl fun ac hs => hs)
   ·exact fun L ac w hs => pln (op_idxC hs (some 18) 3 (j := 1) rfl rfl rfl rfl rfl underlying105 sizeOf99 (by decide) (off := 1) (by omega) rfl fun ac hs => hs)
   ·exact fun L ac w hs => pln (op_loadC hs (some 19) 3 (u := nu32 ((rnds (wv l) h i) 1)) rfl rfl rfl rfl isAgg99 sizeOf99 (by decide) (tab_get (j := 1) (by decide)) rfl fun ac hs => hs)
   ·exact fun L ac w hs => pln (omv hs 20 rfl rfl rfl fun ac hs => hs)
   ·exact fun L ac w hs => pln (obn hs 21 (nu32 x78) rfl rfl rfl rfl (bin_andN hx78 (show (rnds (wv l) h i) 1 < 4294967296 by omega) (show (rnds (wv l) h i) 2 < 4294967296 by omega) lx78) fun ac hs => hs)
   ·exact fun L ac w hs => pln (obn hs 22 (nu32 x79) rfl rfl rfl rfl (bin_xorN hx79 (show x76 < 4294967296 by omega) (show x78 < 4294967296 by omega) lx79) fun ac hs => hs)
   ·exact fun L ac w hs => pln (obn hs 23 (nu32 x80) rfl rfl rfl rfl (bin_addM rfl hx80) fun ac hs => hs)
   ·exact fun L ac w hs => pln (oas hs 24 rfl rfl rfl fun ac hs => hs)
  intro ac w hs
  try dsimp only [cond_true] at hs
  refine then_n ?_
  replace hs := hs.nf w0 Z noX [0, 1, 7, 13, 14, 18, 19] rfl rfl rfl rfl
  obtain ⟨x81, hx81, lx81⟩ : ∃ z0, (x67 + x80) % 4294967296 = z0 ∧ z0 < 4294967296 := ⟨_, rfl, m32 _⟩
  have l82 := rnds_lt (w := wv l) (h := h) hh i 0
  have l83 := rnds_lt (w := wv l) (h := h) hh i 1
  have l84 := rnds_lt (w := wv l) (h := h) hh i 2
  have l85 := rnds_lt (w := wv l) (h := h) hh i 3
  obtain ⟨x86, hx86, lx86⟩ : ∃ z0, ((rnds (wv l) h i) 3 + x67) % 4294967296 = z0 ∧ z0 < 4294967296 := ⟨_, rfl, m32 _⟩
  have l87 := rnds_lt (w := wv l) (h := h) hh i 4
  have l88 := rnds_lt (w := wv l) (h := h) hh i 5
  have l89 := rnds_lt (w := wv l) (h := h) hh i 6
  refine region_inv [([], [2, 26, 27]), ([], [2, 26, 27]), ([0, 1], [26, 27]), ([], [4, 5, 26, 27]), ([3], [5, 26, 27]), ([3, 4], [26, 27]), ([], [7, 8, 26, 27]), ([6], [8, 26, 27]), ([6, 7], [26, 27]), ([], [10, 11, 26, 27]), ([9], [11, 26, 27]), ([9, 10], [26, 27]), ([], [13, 14, 16, 26, 27]), ([12], [14, 16, 26, 27]), ([12, 13], [16, 26, 27]), ([], [16, 26, 27]), (rgn 12 4, [26, 27]), ([], [18, 19, 26, 27]), ([17], [19, 26, 27]), ([17, 18], [26, 27]), ([], [21, 22, 26, 27]), ([20], [22, 26, 27]), ([20, 21], [26, 27]), ([], rgn 24 4), ([23], [25, 26, 27]), ([23, 24], [26, 27]), (rgn 0 26, [27]), (rgn 0 27, [])] (fun L ac w => ∃ (ad91 : Option Addr), St 227 ⟨w0, [], [(true, cL ah 8 ch (tab .u32 8 h)), (true, cL ak 64 ck (tab .u32 64 KK)), (true, oW aw 64 cw 99 (tab .u32 64 (wv l))), (true, oW av 8 cv 99 (tab .u32 8 (rnds (wv l) h i))), (L 26, oW ad91 8 8 99 (tab .u32 8 (ft8 x81 ((rnds (wv l) h i) 0) ((rnds (wv l) h i) 1) ((rnds (wv l) h i) 2) x86 ((rnds (wv l) h i) 4) ((rnds (wv l) h i) 5) ((rnds (wv l) h i) 6))))], Z, noX⟩ [(183, L 0, nu32 x67), (184, L 1, nu32 x80), (185, L 2, nu32 x81), (186, L 3, .slice av 8 cv), (187, L 4, vidx (.slice av 8 cv) 0), (188, L 5, nu32 ((rnds (wv l) h i) 0)), (189, L 6, .slice av 8 cv), (190, L 7, vidx (.slice av 8 cv) 1), (191, L 8, nu32 ((rnds (wv l) h i) 1)), (192, L 9, .slice av 8 cv), (193, L 10, vidx (.slice av 8 cv) 2), (194, L 11, nu32 ((rnds (wv l) h i) 2)), (195, L 12, .slice av 8 cv), (196, L 13, vidx (.slice av 8 cv) 3), (197, L 14, nu32 ((rnds (wv l) h i) 3)), (198, L 15, nu32 x67), (199, L 16, nu32 x86), (200, L 17, .slice av 8 cv), (201, L 18, vidx (.slice av 8 cv) 4), (202, L 19, nu32 ((rnds (wv l) h i) 4)), (203, L 20, .slice av 8 cv), (204, L 21, vidx (.slice av 8 cv) 5), (205, L 22, nu32 ((rnds (wv l) h i) 5)), (206, L 23, .slice av 8 cv), (207, L 24, vidx (.slice av 8 cv) 6), (208, L 25, nu32 ((rnds (wv l) h i) 6)), (209, L 26, .slice ad91 8 8), (13, L 27, cond (L 27) (.slice ad91 8 8) undef), (0, true, .slice ah 8 ch), (1, true, .slice ak 64 ck), (7, true, .slice aw 64 cw), (13, true, .slice av 8 cv), (14, true, ni64 i), (18, true, nu32 x67), (19, true, nu32 x80)] [] ac w) (by kernel_rfl) (by kernel_rfl) ?_ ?_ ?_
  ·exact ⟨none, hs.drew.s4.s4.s4.s4.s4.s4.s4.padS⟩
  ·refine ⟨?_, ?_, ?_, ?_, ?_, ?_, ?_, ?_, ?_, ?_, ?_, ?_, ?_, ?_, ?_, ?_, ?_, ?_, ?_, ?_, ?_, ?_, ?_, ?_, ?_, ?_, ?_, ?_, trivial⟩
   ·exact fun L ac w ⟨ad91, hs⟩ => pln (omv hs 0 rfl rfl rfl fun ac hs => ⟨ad91, hs⟩)
   ·exact fun L ac w ⟨ad91, hs⟩ => pln (omv hs 1 rfl rfl rfl fun ac hs => ⟨ad91, hs⟩)
   ·exact fun L ac w ⟨ad91, hs⟩ => pln (obn hs 2 (nu32 x81) rfl rfl rfl rfl (bin_addM rfl hx81) fun ac hs => ⟨ad91, hs⟩)
   ·exact fun L ac w ⟨ad91, hs⟩ => pln (omv hs 3 rfl rfl rfl fun ac hs => ⟨ad91, hs⟩)
   ·exact fun L ac w ⟨ad91, hs⟩ => pln (op_idxC hs (some 4) 3 (j := 0) rfl rfl rfl rfl rfl underlying105 sizeOf99 (by decide) (off := 0) (by omega) rfl fun ac hs => ⟨ad91, hs⟩)
   ·exact fun L ac w ⟨ad91, hs⟩ => pln (op_loadC hs (some 5) 3 (u := nu32 ((rnds (wv l) h i) 0)) rfl rfl rfl rfl isAgg99 sizeOf99 (by decide) (tab_get (j := 0) (by decide)) rfl fun ac hs => ⟨ad91, hs⟩)
   ·exact fun L ac w ⟨ad91, hs⟩ => pln (omv hs 6 rfl rfl rfl fun ac hs => ⟨ad91, hs⟩)
   ·exact fun L ac w ⟨ad91, hs⟩ => pln (op_idxC hs (some 7) 3 (j := 1) rfl rfl rfl rfl rfl underlying105 sizeOf99 (by decide) (off := 1) (by omega) rfl fun ac hs => ⟨ad91, hs⟩)
   ·exact fun L ac w ⟨ad91, hs⟩ => pln (op_loadC hs (some 8) 3 (u := nu32 ((rnds (wv l) h i) 1)) rfl rfl rfl rfl isAgg99 sizeOf99 (by decide) (tab_get (j := 1) (by decide)) rfl fun ac hs => ⟨ad91, hs⟩)
   ·exact fun L ac w ⟨ad91, hs⟩ => pln (omv hs 9 rfl rfl rfl fun ac hs => ⟨ad91, hs⟩)
   ·exact fun L ac w ⟨ad91, hs⟩ => pln (op_idxC hs (some 10) 3 (j := 2) rfl rfl rfl rfl rfl underlying105 sizeOf99 (by decide) (off := 2) (by omega) rfl fun ac hs => ⟨ad91, hs⟩)
   ·exact fun L ac w ⟨ad91, hs⟩ => pln (op_loadC hs (some 11) 3 (u := nu32 ((rnds (wv l) h i) 2)) rfl rfl rfl rfl isAgg99 sizeOf99 (by decide) (tab_get (j := 2) (by decide)) rfl fun ac hs => ⟨ad91, hs⟩)
   ·exact fun L ac w ⟨ad91, hs⟩ => pln (omv hs 12 rfl rfl rfl fun ac hs => ⟨ad91, hs⟩)
   ·exact fun L ac w ⟨ad91, hs⟩ => pln (op_idxC hs (some 13) 3 (j := 3) rfl rfl rfl rfl rfl underlying105 sizeOf99 (by decide) (off := 3) (by omega) rfl fun ac hs => ⟨ad91, hs⟩)
   ·exact fun L ac w ⟨ad91, hs⟩ => pln (op_loadC hs (some 14) 3 (u := nu32 ((rnds (wv l) h i) 3)) rfl rfl rfl rfl isAgg99 sizeOf99 (by decide) (tab_get (j := 3) (by decide)) rfl fun ac hs => ⟨ad91, hs⟩)
   ·exact fun L ac w ⟨ad91, hs⟩ => pln (omv hs 15 rfl rfl rfl fun ac hs => ⟨ad91, hs⟩)
   ·exact fun L ac w ⟨ad91, hs⟩ => pln (obn hs 16 (nu32 x86) rfl rfl rfl rfl (bin_addM rfl hx86) fun ac hs => ⟨ad91, hs⟩)
   ·exact fun L ac w ⟨ad91, hs⟩ => pln (omv hs 17 rfl rfl rfl fun ac hs => ⟨ad91, hs⟩)
   ·exact fun L ac w ⟨ad91, hs⟩ => pln (op_idxC hs (some 18) 3 (j := 4) rfl rfl rfl rfl rfl underlying105 sizeOf99 (by decide) (off := 4) (by omega) rfl fun ac hs => ⟨ad91, hs⟩)
   ·exact fun L ac w ⟨ad91, hs⟩ => pln (op_loadC hs (some 19) 3 (u := nu32 ((rnds (wv l) h i) 4)) rfl rfl rfl rfl isAgg99 sizeOf99 (by decide) (tab_get (j := 4) (by decide)) rfl fun ac hs => ⟨ad91, hs⟩)
   ·exact fun L ac w ⟨ad91, hs⟩ => pln (omv hs 20 rfl rfl rfl fun ac hs => ⟨ad91, hs⟩)
   ·exact fun L ac w ⟨ad91, hs⟩ => pln (op_idxC hs (some 21) 3 (j := 5) rfl rfl rfl rfl rfl underlying105 sizeOf99 (by decide) (off := 5) (by omega) rfl fun ac hs => ⟨ad91, hs⟩)
   ·exact fun L ac w ⟨ad91, hs⟩ => pln (op_loadC hs (some 22) 3 (u := nu32 ((rnds (wv l) h i) 5)) rfl rfl rfl rfl isAgg99 sizeOf99 (by decide) (tab_get (j := 5) (by decide)) rfl fun ac hs => ⟨ad91, hs⟩)
   ·exact fun L ac w ⟨ad91, hs⟩ => pln (omv hs 23 rfl rfl rfl fun ac hs => ⟨ad91, hs⟩)
   ·exact fun L ac w ⟨ad91, hs⟩ => pln (op_idxC hs (some 24) 3 (j := 6) rfl rfl rfl rfl rfl underlying105 sizeOf99 (by decide) (off := 6) (by omega) rfl fun ac hs => ⟨ad91, hs⟩)
   ·exact fun L ac w ⟨ad91, hs⟩ => pln (op_loadC hs (some 25) 3 (u := nu32 ((rnds (wv l) h i) 6)) rfl rfl rfl rfl isAgg99 sizeOf99 (by decide) (tab_get (j := 6) (by decide)) rfl fun ac hs => ⟨ad91, hs⟩)
   ·exact fun L ac w ⟨ad91, hs⟩ => pln (op_bsO hs (some 26) (some 4) (qs := [(0, nu32 x81), (1, nu32 ((rnds (wv l) h i) 0)), (2, nu32 ((rnds (wv l) h i) 1)), (3, nu32 ((rnds (wv l) h i) 2)), (4, nu32 x86), (5, nu32 ((rnds (wv l) h i) 4)), (6, nu32 ((rnds (wv l) h i) 5)), (7, nu32 ((rnds (wv l) h i) 6))]) (cs := tab .u32 8 (ft8 x81 ((rnds (wv l) h i) 0) ((rnds (wv l) h i) 1) ((rnds (wv l) h i) 2) x86 ((rnds (wv l) h i) 4) ((rnds (wv l) h i) 5) ((rnds (wv l) h i) 6))) rfl rfl rfl rfl underlying105 inf_u32_99 (by decide) (by decide) (by kernel_rfl) rfl rfl rfl rfl fun ad91 ac w hs => ⟨ad91, hs⟩)
   ·exact fun L ac w ⟨ad91, hs⟩ => pln (oas hs 27 rfl rfl rfl fun ac hs => ⟨ad91, hs⟩)
  intro ac w ⟨ad91, hs⟩
  try dsimp only [cond_true] at hs
  refine blk_n (then_n (wp_region_lit (mvv hs rfl rfl rfl fun ac hs => bnn hs (ni64 (i + 1)) rfl rfl rfl rfl (bin_addN (y := 1) rfl (show i + 1 < 9223372036854775808 by omega)) fun ac hs => asg hs rfl rfl rfl fun ac hs => wpList_nil (then_n ?_))))
  replace hs := hs.ownEq 4 (N' := 8) (xs' := tab .u32 8 (rnds (wv l) h (i + 1))) rfl rfl (congrArg (tab .u32 8) (show ft8 x81 ((rnds (wv l) h i) 0) ((rnds (wv l) h i) 1) ((rnds (wv l) h i) 2) x86 ((rnds (wv l) h i) 4) ((rnds (wv l) h i) 5) ((rnds (wv l) h i) 6) = rnd (KK i) (wv l i) (rnds (wv l) h i) by simp only [rnd, t1v, t2v, hx51, hx52, hx53, hx54, hx55, hx56, hx58, hx59, hx61, hx62, hx63, hx65, hx67, hx68, hx69, hx70, hx71, hx72, hx74, hx75, hx76, hx78, hx79, hx80, hx81, hx86]))
  replace hs := hs.selS [0, 1, 2, 4] rfl (by decide)
  exact ⟨_, ⟨(i + 1), ad91, 8, rfl, (by omega), (hs.re (fs' := [(0, true, .slice ah 8 ch), (1, true, .slice ak 64 ck), (7, true, .slice aw 64 cw), (13, true, .slice ad91 8 8), (14, true, ni64 ((i + 1)))]) ⟨rfl, rfl, rfl, rfl, rfl, trivial⟩)⟩, (by omega)⟩
 intro hc
 have hp92 := of_decide_eq_false hc
 obtain rfl : i = 64 := by have := of_decide_eq_false hc; omega
 refine wp_exit (then_e (then_e (blk_e (then_n (wp_seq (wp_seq (wp_region_lit (asg hs rfl rfl rfl fun ac hs => wpList_nil (then_n (wp_block ?_))))))))))
 replace hs := hs.ownEq 3 (N' := 8) (xs' := tab .u32 8 (addV h (rnds (wv l) h 64) 0)) rfl rfl (tab_ext fun j hj => addV_zero _ _ j)
 refine wp_loop_m (fun μ ac w => ∃ (i : Nat), (8 - i) = μ ∧ (i ≤ 8) ∧ St 227 ⟨w0, [], [(true, cL ah 8 ch (tab .u32 8 h)), (true, oW av 8 cv 99 (tab .u32 8 (addV h (rnds (wv l) h 64) i)))], Z, noX⟩ [(0, true, .slice ah 8 ch), (13, true, .slice av 8 cv), (20, true, ni64 i)] [] ac w) ?_ ?_
 replace hs := hs.selS [0, 3] rfl (by decide)
 ·exact ⟨_, 0, rfl, (by omega), (hs.re (fs' := [(0, true, .slice ah 8 ch), (13, true, .slice av 8 cv), (20, true, ni64 0)]) ⟨rfl, rfl, rfl, trivial⟩)⟩
 intro μ ac w ⟨i, hμ, hi, hs⟩
 refine wp_seq (wp_seq (wp_region_lit (mvv hs rfl rfl rfl fun ac hs => bnn hs (.bool (decide (i < 8))) rfl rfl rfl rfl (bin_lssN (y := 8)) fun ac hs => wpList_nil (then_n (wcs hs rfl ?_ ?_)))))
 ·intro hc
  have hp93 := of_decide_eq_true hc
  have hi8 := of_decide_eq_true hc
  refine wp_skip (then_n (wp_seq (wp_block ?_)))
  replace hs := hs.nf w0 Z noX [0, 13, 20] rfl rfl rfl rfl
  have l94 := addV_lt (h := h) (rnds_lt (w := wv l) (h := h) hh 64) i i
  have l95 := hh i
  obtain ⟨x96, hx96, lx96⟩ : ∃ z0, ((addV h (rnds (wv l) h 64) i) i + (h i)) % 4294967296 = z0 ∧ z0 < 4294967296 := ⟨_, rfl, m32 _⟩
  refine region_inv [([], [11, 12]), ([], [11, 12]), ([], [4, 5, 10, 11, 12]), ([], [4, 5, 10, 11, 12]), ([2, 3], [5, 10, 11, 12]), ([2, 3, 4], [10, 11, 12]), ([], rgn 8 5), ([], rgn 8 5), ([6, 7], rgn 9 4), ([6, 7, 8], [10, 11, 12]), (rgn 2 8, [11, 12]), (rgn 0 11, [12]), (rgn 0 12, [])] (fun L ac w => St 227 ⟨w0, [], [(true, cL ah 8 ch (tab .u32 8 h)), (true, cond (L 12) (oW av 8 cv 99 (tab .u32 8 (upn (addV h (rnds (wv l) h 64) i) i x96))) (oW av 8 cv 99 (tab .u32 8 (addV h (rnds (wv l) h 64) i))))], Z, noX⟩ [(214, L 0, .slice av 8 cv), (215, L 1, ni64 i), (216, L 2, .slice av 8 cv), (217, L 3, ni64 i), (218, L 4, vidx (.slice av 8 cv) i), (219, L 5, .int .u32 (((addV h (rnds (wv l) h 64) i) i : Nat) : Int)), (220, L 6, .slice ah 8 ch), (221, L 7, ni64 i), (222, L 8, vidx (.slice ah 8 ch) i), (223, L 9, nu32 (h i)), (224, L 10, nu32 x96), (225, L 11, vidx (.slice av 8 cv) i), (0, true, .slice ah 8 ch), (13, true, .slice av 8 cv), (20, true, ni64 i)] [] ac w) (by kernel_rfl) (by kernel_rfl) ?_ ?_ ?_
  ·exact hs.drew.s4.s4.s4
  ·refine ⟨?_, ?_, ?_, ?_, ?_, ?_, ?_, ?_, ?_, ?_, ?_, ?_, ?_, trivial⟩
   ·exact fun L ac w hs => pln (omv hs 0 rfl rfl rfl fun ac hs => hs)
   ·exact fun L ac w hs => pln (omv hs 1 rfl rfl rfl fun ac hs => hs)
   ·exact fun L ac w hs => pln (omv hs 2 rfl rfl rfl fun ac hs => hs)
   ·exact fun L ac w hs => pln (omv hs 3 rfl rfl rfl fun ac hs => hs)
   ·exact fun L ac w hs => pln (op_idxC hs (some 4) 1 (j := i) rfl rfl rfl rfl rfl underlying105 sizeOf99 (show i < 8 by omega) (off := i) (by omega) rfl fun ac hs => hs)
   ·exact fun L ac w hs => pln (op_loadC hs (some 5) 1 (u := .int .u32 (((addV h (rnds (wv l) h 64) i) i : Nat) : Int)) rfl rfl rfl rfl isAgg99 sizeOf99 (by decide) (tab_get (j := i) (show i < 8 by omega)) rfl fun ac hs => hs)
   ·exact fun L ac w hs => pln (omv hs 6 rfl rfl rfl fun ac hs => hs)
   ·exact fun L ac w hs => pln (omv hs 7 rfl rfl rfl fun ac hs => hs)
   ·exact fun L ac w hs => pln (op_idxC hs (some 8) 0 (j := i) rfl rfl rfl rfl rfl underlying105 sizeOf99 (show i < 8 by omega) (off := i) (by omega) rfl fun ac hs => hs)
   ·exact fun L ac w hs => pln (op_loadC hs (some 9) 0 (u := nu32 (h i)) rfl rfl rfl rfl isAgg99 sizeOf99 (by decide) (tab_get (j := i) (show i < 8 by omega)) rfl fun ac hs => hs)
   ·exact fun L ac w hs => pln (obn hs 10 (nu32 x96) rfl rfl rfl rfl (bin_addM rfl hx96) fun ac hs => hs)
   ·exact fun L ac w hs => pln (op_idxC hs (some 11) 1 (j := i) rfl rfl rfl rfl rfl underlying105 sizeOf99 (show i < 8 by omega) (off := i) (by omega) rfl fun ac hs => hs)
   ·exact fun L ac w hs => pln (op_storeO hs 1 (u := nu32 x96) (xs' := (tab .u32 8 (upn (addV h (rnds (wv l) h 64) i) i x96))) rfl rfl rfl rfl rfl rfl (show i < 8 by omega) sizeOf99 rfl rfl tab_set fun w hs => hs)
  intro ac w hs
  try dsimp only [cond_true] at hs
  refine blk_n (then_n (wp_region_lit (mvv hs rfl rfl rfl fun ac hs => bnn hs (ni64 (i + 1)) rfl rfl rfl rfl (bin_addN (y := 1) rfl (show i + 1 < 9223372036854775808 by omega)) fun ac hs => asg hs rfl rfl rfl fun ac hs => wpList_nil (then_n ?_))))
  replace hs := hs.ownEq 1 (N' := 8) (xs' := tab .u32 8 (addV h (rnds (wv l) h 64) (i + 1))) rfl rfl (tab_ext fun j hj => addV_step (by rw [← hx96, addV_at]) j)
  exact ⟨_, ⟨(i + 1), rfl, (by omega), (hs.re (fs' := [(0, true, .slice ah 8 ch), (13, true, .slice av 8 cv), (20, true, ni64 ((i + 1)))]) ⟨rfl, rfl, rfl, trivial⟩)⟩, (by omega)⟩
 intro hc
 have hp97 := of_decide_eq_false hc
 obtain rfl : i = 8 := by have := of_decide_eq_false hc; omega
 refine wp_exit (then_e (then_e (blk_e (then_n (wp_seq (wp_region_lit (mvv hs rfl rfl rfl fun ac hs => asg hs rfl rfl rfl fun ac hs => wpList_nil (then_n (wp_ret ?_)))))))))
 replace hs := hs.freeze 1 rfl
 replace hs := hs.celEq 1 (N' := 8) (cs' := tab .u32 8 (blk h l)) rfl rfl (tab_ext fun j hj => addV_end hj)
 exact bodyPost_ret (res1 rfl (rv_t hs rfl)) hs.defers ⟨⟨av, cv⟩, rfl, hs.bel rfl, hs.ret1 1 rfl⟩
theorem rshasum_c (ad : Option Addr) (nl c : Nat) (l : List UInt8) (hlen : l.length ≤ 200000) (w0 : World) (Z : Nat → Prop) (hl : ByV w0 Z (.slice ad nl c) l): Calls prog 75 #[.slice ad nl c] w0 fun e w' => Ret w0 Z (ρ := Unit) (fun r => At .u8 32 (sha l)) (fun r => []) e w' := by
 obtain rfl := byv_len hl
 refine enterS (n := 47) (args := [.slice ad l.length c]) (S := [(true, cL ad l.length c (bcs l))]) (Z := Z) func75 rfl rfl (Nat.le_of_ble_eq_true rfl) (sokC hl sok0) rfl fun ac hs => wp_seq (wp_region_lit (stp (op_alloc hs none none (cs := (tab .u8 32 (fun _ => 0))) rfl rfl zeroValue89 (by kernel_rfl) rfl rfl fun g1 ac w hs => wpList_nil (then_n (wp_seq (wp_region_lit (stp (op_bsO hs none none (qs := [(0, .int .u32 1779033703), (1, .int .u32 3144134277), (2, .int .u32 1013904242), (3, .int .u32 2773480762), (4, .int .u32 1359893119), (5, .int .u32 2600822924), (6, .int .u32 528734635), (7, .int .u32 1541459225)]) (cs := tab .u32 8 (ft8 1779033703 3144134277 1013904242 2773480762 1359893119 2600822924 528734635 1541459225)) rfl rfl rfl rfl underlying105 inf_u32_99 (by decide) (by decide) (by kernel_rfl) rfl rfl rfl rfl fun ad3 ac w hs => asg hs rfl rfl rfl fun ac hs => wpList_nil (then_n (wp_seq (wp_region_lit (stp (op_callS (F := 81) (ρ := Option Addr × Nat) hs none none (v := fun r => .slice r.1 64 r.2) (E := fun r => [cL r.1 64 r.2 (tab .u32 64 KK)]) (j := 1) rfl rfl rfl rfl (call81 _) (fun hs => rsteps_c _ _) (fun _ => rfl) rfl rfl fun ⟨ad4, cp5⟩ ac w hs => asg hs rfl rfl rfl fun ac hs => wpList_nil (then_n (wp_seq (wp_region_lit ?_))))))))))))))))
 refine mvv hs rfl rfl rfl fun ac hs => stp (op_callS (F := 82) (ρ := Option Addr × Nat) hs none none (v := fun r => .slice r.1 ((l ++ tl64 l.length l.length).length) r.2) (E := fun r => [cL r.1 ((l ++ tl64 l.length l.length).length) r.2 (bcs (l ++ tl64 l.length l.length))]) (j := 1) rfl rfl rfl rfl (call82 _) (fun hs => rpad_c ad l.length c l (show l.length ≤ 200000 by omega) _ _ (hs.all (k := 0) rfl rfl)) (fun _ => rfl) rfl rfl fun ⟨ad6, cp7⟩ ac w hs => asg hs rfl rfl rfl fun ac hs => wpList_nil (then_n (wp_seq (wp_seq ?_))))
 replace hs := hs.nf w0 Z noX [2, 3, 4, 5] rfl rfl rfl rfl
 refine wp_region_lit (asg hs rfl rfl rfl fun ac hs => wpList_nil (then_n (wp_block ?_)))
 replace hs := hs.freeze 1 rfl
 replace hs := hs.celEq 1 (N' := 8) (cs' := tab .u32 8 HH0) rfl rfl rfl
 refine wp_loop_m (fun μ ac w => ∃ (i : Nat) (h1 : Nat → Nat) (a1 : Option Addr) (c1 : Nat), ((l ++ tl64 l.length l.length).length - i) = μ ∧ (i ≤ (l ++ tl64 l.length l.length).length) ∧ (i % 64 = 0) ∧ (∀ j, h1 j < 4294967296) ∧ (blks HH0 (l ++ tl64 l.length l.length) = blks h1 ((l ++ tl64 l.length l.length).drop i)) ∧ St 47 ⟨w0, [], [(true, cL a1 8 c1 (tab .u32 8 h1)), (true, cL ad4 64 cp5 (tab .u32 64 KK)), (true, cL ad6 ((l ++ tl64 l.length l.length).length) cp7 (bcs (l ++ tl64 l.length l.length)))], Z, noX⟩ [(2, true, ptA g1 0), (4, true, .slice ad4 64 cp5), (5, true, .slice ad6 ((l ++ tl64 l.length l.length).length) cp7), (3, true, .slice a1 8 c1), (6, true, ni64 i)] [(true, g1, 89, (tab .u8 32 (fun _ => 0)))] ac w) ?_ ?_
 replace hs := hs.selS [1, 2, 3] rfl (by decide)
 ·exact ⟨_, 0, HH0, ad3, 8, rfl, (Nat.zero_le _), rfl, HH0_lt, rfl, (hs.re (fs' := [(2, true, ptA g1 0), (4, true, .slice ad4 64 cp5), (5, true, .slice ad6 ((l ++ tl64 l.length l.length).length) cp7), (3, true, .slice ad3 8 8), (6, true, ni64 0)]) ⟨rfl, rfl, rfl, rfl, rfl, trivial⟩)⟩
 intro μ ac w ⟨i, h1, a1, c1, hμ, hi, hi64, hh1, hb1, hs⟩
 have hp64 : (l ++ tl64 l.length l.length).length % 64 = 0 := by rw [List.length_append]; exact tl64_len _ _
 have hpl : (l ++ tl64 l.length l.length).length ≤ 300000 := by have := tl64_le l.length l.length; rw [List.length_append]; omega
 refine wp_seq (wp_seq (wp_region_lit (mvv hs rfl rfl rfl fun ac hs => mvv hs rfl rfl rfl fun ac hs => stp (op_blt hs none (v := ni64 ((l ++ tl64 l.length l.length).length)) rfl rfl rfl (blt_len underlying34) rfl fun ac hs => bnn hs (.bool (decide (i < (l ++ tl64 l.length l.length).length))) rfl rfl rfl rfl bin_lssN fun ac hs => wpList_nil (then_n (wcs hs rfl ?_ ?_))))))
 ·intro hc
  have hp8 := of_decide_eq_true hc
  have hlt := of_decide_eq_true hc
  have hi2 : i + 64 ≤ (l ++ tl64 l.length l.length).length := by omega
  have hpl2 : l.length + (tl64 l.length l.length).length = (l ++ tl64 l.length l.length).length := List.length_append.symm
  refine wp_skip (then_n (wp_seq (wp_block (wp_region_lit (mvv hs rfl rfl rfl fun ac hs => mvv hs rfl rfl rfl fun ac hs => mvv hs rfl rfl rfl fun ac hs => mvv hs rfl rfl rfl fun ac hs => mvv hs rfl rfl rfl fun ac hs => bnn hs (ni64 (i + 64)) rfl rfl rfl rfl (bin_addN (y := 64) rfl (show i + 64 < 9223372036854775808 by omega)) fun ac hs => stp (op_sliceR hs none none 2 i (i + 64) (N' := (((l ++ tl64 l.length l.length).drop i).take (i + 64 - i)).length) (cs' := bcs (((l ++ tl64 l.length l.length).drop i).take (i + 64 - i))) rfl rfl rfl rfl (.inr ⟨_, _, rfl, rfl⟩) (.inr ⟨_, _, rfl, rfl⟩) underlying34 sizeOf5 (show i ≤ i + 64 by omega) (show i + 64 ≤ (l ++ tl64 l.length l.length).length by first | omega | ((try simp only [List.length_drop, List.length_take, List.length_append, List.length_cons, List.length_nil]); omega)) (len_both (show i ≤ i + 64 by omega) (show i + 64 ≤ (l ++ tl64 l.length l.length).length by first | omega | ((try simp only [List.length_drop, List.length_take, List.length_append, List.length_cons, List.length_nil]); omega))) (bcs_part _ _ _) rfl rfl fun ac hs => stp (op_callS (F := 83) (ρ := Option Addr × Nat) hs none none (v := fun r => .slice r.1 8 r.2) (E := fun r => [cL r.1 8 r.2 (tab .u32 8 (blk h1 (((l ++ tl64 l.length l.length).drop i).take (i + 64 - i))))]) (j := 1) rfl rfl rfl rfl (call83 _) (fun hs => rblock_c a1 c1 h1 (fun j => hh1 j) ad4 cp5 (vsa ad6 cp7 1 i) ((((l ++ tl64 l.length l.length).drop i).take (i + 64 - i)).length) (cp7 - i) (((l ++ tl64 l.length l.length).drop i).take (i + 64 - i)) (show (((l ++ tl64 l.length l.length).drop i).take (i + 64 - i)).length = 64 by first | omega | ((try simp only [List.length_drop, List.length_take, List.length_append, List.length_cons, List.length_nil]); omega)) _ _ (hs.all (k := 0) rfl rfl) (hs.all (k := 1) rfl rfl) (hs.all (k := 3) rfl rfl)) (fun _ => rfl) rfl rfl fun ⟨ad9, cp10⟩ ac w hs => asg hs rfl rfl rfl fun ac hs => ?_)))))))
  refine wpList_nil (blk_n (then_n ?_))
  replace hs := hs.nf w0 Z noX [2, 4, 5, 3, 6] rfl rfl rfl rfl
  refine wp_region_lit (mvv hs rfl rfl rfl fun ac hs => bnn hs (ni64 (i + 64)) rfl rfl rfl rfl (bin_addN (y := 64) rfl (show i + 64 < 9223372036854775808 by omega)) fun ac hs => asg hs rfl rfl rfl fun ac hs => wpList_nil (then_n ?_))
  replace hs := hs.selS [4, 1, 2] rfl (by decide)
  exact ⟨_, ⟨(i + 64), (blk h1 (((l ++ tl64 l.length l.length).drop i).take (i + 64 - i))), ad9, cp10, rfl, (by omega), (by omega), (fun j => blk_lt h1 (((l ++ tl64 l.length l.length).drop i).take (i + 64 - i)) j), (by rw [show i + 64 - i = 64 by omega, ← List.drop_drop]; exact hb1.trans (blks_step (by rw [List.length_drop]; omega))), (hs.re (fs' := [(2, true, ptA g1 0), (4, true, .slice ad4 64 cp5), (5, true, .slice ad6 ((l ++ tl64 l.length l.length).length) cp7), (3, true, .slice ad9 8 cp10), (6, true, ni64 ((i + 64)))]) ⟨rfl, rfl, rfl, rfl, rfl, trivial⟩)⟩, (by omega)⟩
 intro hc
 have hp11 := of_decide_eq_false hc
 have hge := of_decide_eq_false hc
 have hH : shaH l = h1 := by unfold shaH; rw [hb1, blks_end (by rw [List.length_drop]; omega)]
 refine wp_exit (then_e (then_e (blk_e (then_n (wp_seq (wp_region_lit (stp (op_build hs none (qs := []) (v := At .u8 32 (fun _ => 0)) rfl rfl rfl rfl (fun _ => by kernel_rfl) rfl fun ac hs => stp (op_alloc hs none none (cs := (tab .u8 32 (fun _ => 0))) rfl rfl zeroValue89 (by kernel_rfl) rfl rfl fun g12 ac w hs => stp (stoo hs 1 ((tab .u8 32 (fun _ => 0))) sizeOf89 rfl rfl rfl rfl rfl (by kernel_rfl) tab_length' (tab_one _ _ _) tab_leA wr_tab fun w hs => wpList_nil (then_n (wp_seq (wp_seq ?_)))))))))))))
 replace hs := hs.nf w0 Z noX [2, 3, 7] rfl rfl rfl rfl
 refine wp_region_lit (asg hs rfl rfl rfl fun ac hs => wpList_nil (then_n (wp_block ?_)))
 replace hs := hs.setb 1 (cs' := (tab .u8 32 (outT h1 0))) rfl (tab_ext fun j hj => outT_zero h1 j)
 refine wp_loop_m (fun μ ac w => ∃ (i : Nat), (32 - i) = μ ∧ (i ≤ 32) ∧ St 47 ⟨w0, [], [(true, cL a1 8 c1 (tab .u32 8 h1))], Z, noX⟩ [(2, true, ptA g1 0), (3, true, .slice a1 8 c1), (7, true, ptA g12 0), (8, true, ni64 i)] [(true, g1, 89, (tab .u8 32 (fun _ => 0))), (true, g12, 89, (tab .u8 32 (outT h1 i)))] ac w) ?_ ?_
 replace hs := hs.selS [0] rfl (by decide)
 ·exact ⟨_, 0, rfl, (by omega), (hs.re (fs' := [(2, true, ptA g1 0), (3, true, .slice a1 8 c1), (7, true, ptA g12 0), (8, true, ni64 0)]) ⟨rfl, rfl, rfl, rfl, trivial⟩)⟩
 intro μ ac w ⟨i, hμ, hi, hs⟩
 refine wp_seq (wp_seq (wp_region_lit (mvv hs rfl rfl rfl fun ac hs => bnn hs (.bool (decide (i < 32))) rfl rfl rfl rfl (bin_lssN (y := 32)) fun ac hs => wpList_nil (then_n (wcs hs rfl ?_ ?_)))))
 ·intro hc
  have hp13 := of_decide_eq_true hc
  have hi32 := of_decide_eq_true hc
  refine wp_skip (then_n (wp_seq (wp_block (wp_region_lit (mvv hs rfl rfl rfl fun ac hs => mvv hs rfl rfl rfl fun ac hs => mvv hs rfl rfl rfl fun ac hs => bnn hs (ni64 (i / 4)) rfl rfl rfl rfl (bin_quoN (y := 4) rfl (by decide) (show i < 9223372036854775808 by omega)) fun ac hs => stp (op_idxC hs none 0 (j := i / 4) rfl rfl rfl rfl rfl underlying105 sizeOf99 (show i / 4 < 8 by omega) (off := i / 4) (by omega) rfl fun ac hs => ?_))))))
  have l14 := hh1 (i / 4)
  refine stp (op_loadC hs none 0 (u := nu32 (h1 (i / 4))) rfl rfl rfl rfl isAgg99 sizeOf99 (by decide) (tab_get (j := i / 4) (show i / 4 < 8 by omega)) rfl fun ac hs => mvv hs rfl rfl rfl fun ac hs => bnn hs (ni64 (i % 4)) rfl rfl rfl rfl (bin_remN (y := 4) rfl (by decide)) fun ac hs => bnn hs (ni64 (8 * (i % 4))) rfl rfl rfl rfl (bin_mulN (x := 8) rfl (show 8 * (i % 4) < 9223372036854775808 by omega)) fun ac hs => bnn hs (ni64 (24 - (8 * (i % 4)))) rfl rfl rfl rfl (bin_subN (x := 24) (by omega) (show 24 - (8 * (i % 4)) < 9223372036854775808 by omega)) fun ac hs => stp (op_convert hs none (v := nu64 (24 - (8 * (i % 4)))) rfl rfl rfl (conv_N underlying3 underlying87 (show 24 - (8 * (i % 4)) < 18446744073709551616 by omega)) rfl fun ac hs => bnn hs (.int .u32 (((h1 (i / 4)) / 2 ^ (24 - (8 * (i % 4))) : Nat) : Int)) rfl rfl rfl rfl (bin_shrN (z := (h1 (i / 4)) / 2 ^ (24 - (8 * (i % 4)))) rfl (show h1 (i / 4) < 4294967296 from hh1 _)) fun ac hs => stp (op_convert hs none (v := .int .u8 (((h1 (i / 4)) / 2 ^ (24 - (8 * (i % 4))) % 256 : Nat) : Int)) rfl rfl rfl (conv_M (z := (h1 (i / 4)) / 2 ^ (24 - (8 * (i % 4))) % 256) rfl underlying99 underlying5 rfl) rfl fun ac hs => stp (op_idxA hs none (j := i) rfl rfl rfl rfl underlying89 sizeOf5 (show i < 32 by omega) (off := i) (by omega) rfl fun ac hs => stp (stoo hs 1 ([.int .u8 (((h1 (i / 4)) / 2 ^ (24 - (8 * (i % 4))) % 256 : Nat) : Int)]) sizeOf5 rfl rfl rfl rfl rfl rfl rfl rfl (tab_le (j := i) (show i < 32 by omega)) (tab_set) fun w hs => ?_)))))
  refine wpList_nil (blk_n (then_n ?_))
  replace hs := hs.nf w0 Z noX [2, 3, 7, 8] rfl rfl rfl rfl
  refine wp_region_lit (mvv hs rfl rfl rfl fun ac hs => bnn hs (ni64 (i + 1)) rfl rfl rfl rfl (bin_addN (y := 1) rfl (show i + 1 < 9223372036854775808 by omega)) fun ac hs => asg hs rfl rfl rfl fun ac hs => wpList_nil (then_n ?_))
  replace hs := hs.setb 1 (cs' := (tab .u8 32 (outT h1 (i + 1)))) rfl (tab_ext fun j hj => outT_step rfl j)
  exact ⟨_, ⟨(i + 1), rfl, (by omega), (hs.re (fs' := [(2, true, ptA g1 0), (3, true, .slice a1 8 c1), (7, true, ptA g12 0), (8, true, ni64 ((i + 1)))]) ⟨rfl, rfl, rfl, rfl, trivial⟩)⟩, (by omega)⟩
 intro hc
 have hp15 := of_decide_eq_false hc
 obtain rfl : i = 32 := by have := of_decide_eq_false hc; omega
 replace hs := hs.setb 1 (cs' := (tab .u8 32 (shaB h1))) rfl (tab_ext fun j hj => outT_end hj)
 refine wp_exit (then_e (then_e (blk_e (then_n (wp_seq (wp_region_lit (ldd hs 1 (At .u8 32 (shaB h1)) isAgg89 sizeOf89 rfl rfl rfl rfl ldv_tab fun ac hs => stp (stoo hs 0 ((tab .u8 32 (shaB h1))) sizeOf89 rfl rfl rfl rfl rfl (by kernel_rfl) tab_length' (tab_one _ _ _) tab_leA wr_tab fun w hs => wpList_nil (then_n (wp_ret ?_))))))))))
 exact bodyPost_ret (res1 rfl (rv_c hs 0 (v := At .u8 32 (shaB h1)) rfl rfl isAgg89 sizeOf89 ldv_tab)) hs.defers ⟨(), by rw [show sha l = shaB h1 from by funext j; unfold sha; rw [hH]], hs.bel rfl, okl0⟩
theorem rdouble_c (ad : Option Addr) (nl c : Nat) (l : List UInt8) (hlen : l.length ≤ 200000) (w0 : World) (Z : Nat → Prop) (hl : ByV w0 Z (.slice ad nl c) l): Calls prog 76 #[.slice ad nl c] w0 fun e w' => Ret w0 Z (ρ := Unit) (fun r => At .u8 32 (dbl l)) (fun r => []) e w' := by
 obtain rfl := byv_len hl
 have hb32 := btl_len 32 (sha l)
 refine enterS (n := 8) (args := [.slice ad l.length c]) (S := [(true, cL ad l.length c (bcs l))]) (Z := Z) func76 rfl rfl (Nat.le_of_ble_eq_true rfl) (sokC hl sok0) rfl fun ac hs => wp_seq (wp_region_lit (stp (op_alloc hs none none (cs := (tab .u8 32 (fun _ => 0))) rfl rfl zeroValue89 (by kernel_rfl) rfl rfl fun g1 ac w hs => wpList_nil (then_n (wp_seq (wp_region_lit (mvv hs rfl rfl rfl fun ac hs => stp (op_callS (F := 75) (ρ := Unit) hs none none (v := fun r => At .u8 32 (sha l)) (E := fun r => []) (j := 0) rfl rfl rfl rfl (call75 _) (fun hs => rshasum_c ad l.length c l (show l.length ≤ 200000 by omega) _ _ (hs.all (k := 0) rfl rfl)) (fun _ => rfl) rfl rfl fun _ ac w hs => stp (op_alloc hs none none (cs := (tab .u8 32 (fun _ => 0))) rfl rfl zeroValue89 (by kernel_rfl) rfl rfl fun g2 ac w hs => stp (stoo hs 1 ((tab .u8 32 (sha l))) sizeOf89 rfl rfl rfl rfl rfl (by kernel_rfl) tab_length' (tab_one _ _ _) tab_leA wr_tab fun w hs => wpList_nil (then_n (wp_seq (wp_region_lit ?_)))))))))))))
 replace hs := hs.arrCel none 1 (n0 := 32) (f := sha l) rfl (fun j hj => sha_lt l j) (by decide) rfl
 replace hs := hs.selB [0] rfl (by decide)
 refine stp (op_val hs none (v := .slice (some ⟨g2, 0, none⟩) 32 32) rfl rfl (run_slA rfl (hs.ev rfl) underlying89 sizeOf5) fun ac hs => stp (op_callS (F := 75) (ρ := Unit) hs none none (v := fun r => At .u8 32 (sha (btl 32 (sha l)))) (E := fun r => []) (j := 0) rfl rfl rfl rfl (call75 _) (fun hs => rshasum_c (some ⟨g2, 0, none⟩) 32 32 (btl 32 (sha l)) (show (btl 32 (sha l)).length ≤ 200000 by omega) _ _ (hs.all (k := 1) rfl rfl)) (fun _ => rfl) rfl rfl fun _ ac w hs => stp (stoo hs 0 ((tab .u8 32 (sha (btl 32 (sha l))))) sizeOf89 rfl rfl rfl rfl rfl (by kernel_rfl) tab_length' (tab_one _ _ _) tab_leA wr_tab fun w hs => wpList_nil (then_n (wp_ret ?_)))))
 exact bodyPost_ret (res1 rfl (rv_c hs 0 (v := At .u8 32 (sha (btl 32 (sha l)))) rfl rfl isAgg89 sizeOf89 ldv_tab)) hs.defers ⟨(), rfl, hs.bel rfl, okl0⟩
end Go.Proofs.Ytikkhkjndbicgaa

/- Stacks: the document's moves, what it puts, and Do. -/
namespace Go.Proofs.Ytikkhkjndbicgaa
open Go.RowKit _root_.Go.Proofs.Try
set_option maxRecDepth 10000
set_option maxHeartbeats 1000000
theorem rkn_c (op : Nat) (an : Option Addr) (cn : Nat) (zs : List Int) (hb : ∀ z ∈ zs, -2147483648 < z ∧ z < 2147483648) (hk : zs.length = 1 ∨ (zs.length = 2 ∧ ¬ op = 165) ∨ (zs.length = 3 ∧ op = 165)) (w0 : World) (Z : Nat → Prop) (hV : CelV w0 Z (.slice an zs.length cn) zs.length (intZ zs)) :
  Calls prog 62 #[nu8 op, .slice an zs.length cn] w0 (Ret w0 Z (ρ := Option Addr × Nat) (fun r => .slice r.1 (rknL op zs).length r.2) (fun r => [oW r.1 (rknL op zs).length r.2 5 (bcs (rknL op zs))])) := by
 rcases hk with h | ⟨h, h5⟩ | ⟨h, h5⟩
 ·obtain ⟨z0, rfl⟩ := len1 h
  exact rkn1_c op an cn z0 (hb z0 (by simp)) w0 Z hV
 ·obtain ⟨z0, z1, rfl⟩ := len2 h
  exact rkn2_c op an cn z0 z1 (hb z0 (by simp)) (hb z1 (by simp)) h5 w0 Z hV
 ·obtain ⟨z0, z1, z2, rfl⟩ := len3 h
  exact rkn3_c op an cn z0 z1 z2 (hb z0 (by simp)) (hb z1 (by simp)) (hb z2 (by simp)) h5 w0 Z hV
theorem moves_r (op : Nat) (ps : List Nat) (q : Bool) (h : movP op = (ps, q)) (w0 : World) (Z : Nat → Prop) : Calls prog 60 #[nu8 op] w0 fun e w' => Ret w0 Z (ρ := Option Addr × Nat) (fun r => .tuple #[.slice r.1 ps.length r.2, .bool q]) (fun r => [cL r.1 ps.length r.2 (intL ps)]) e w' := by
 refine enterS (n := 42) (args := [nu8 op]) (S := []) (Z := Z) func60 rfl rfl (Nat.le_of_ble_eq_true rfl) sok0 rfl fun ac hs => wp_seq (wp_region_lit (asg hs rfl rfl rfl fun ac hs => asg hs rfl rfl rfl fun ac hs => wpList_nil (then_n (wp_seq (wp_seq (wp_region_lit (mvv hs rfl rfl rfl fun ac hs => wpList_nil (then_n (wp_block (wp_seq (wp_seq (wp_region_lit (bnn hs (.bool (decide (op = 97))) rfl rfl rfl rfl (bin_eqlN (y := 97)) fun ac hs => asg hs rfl rfl rfl fun ac hs => wpList_nil (then_n ?_))))))))))))))
 refine wcs hs rfl ?_ ?_
 ·intro hc
  have hp1 := of_decide_eq_true hc
  refine wp_skip (then_n (wp_cond_true (hs.evb rfl (decide_eq_true hp1)) (wp_seq (wp_region_lit (asg hs rfl rfl rfl fun ac hs => asg hs rfl rfl rfl fun ac hs => wpList_nil (then_n (wp_ret (blk_r (then_r ?_)))))))))
  replace hs := hs.nilCel none rfl
  have he : movP op = ([], true) := by rw [hp1]; rfl
  obtain ⟨h1, h2⟩ := Prod.mk.inj (h.symm.trans he)
  subst h1
  subst h2
  exact bodyPost_ret (res2 rfl (rv_t hs rfl) (rv_t hs rfl)) hs.defers ⟨⟨none, 0⟩, rfl, hs.bel rfl, hs.ret1 0 rfl⟩
 intro hc
 have hp2 := of_decide_eq_false hc
 refine wp_seq (wp_region_lit (bnn hs (.bool (decide (op = 109))) rfl rfl rfl rfl (bin_eqlN (y := 109)) fun ac hs => asg hs rfl rfl rfl fun ac hs => wpList_nil (then_n (wcs hs rfl ?_ ?_))))
 ·intro hc
  have hp3 := of_decide_eq_true hc
  refine wp_skip (then_n (wp_cond_true (hs.evb rfl (decide_eq_true hp3)) (wp_seq ?_)))
  replace hs := hs.nf w0 Z noX [2, 3] rfl rfl rfl rfl
  refine wp_region_lit (asg hs rfl rfl rfl fun ac hs => asg hs rfl rfl rfl fun ac hs => wpList_nil (then_n (wp_ret (blk_r (then_r ?_)))))
  replace hs := hs.nilCel none rfl
  have he : movP op = ([], true) := by rw [hp3]; rfl
  obtain ⟨h1, h2⟩ := Prod.mk.inj (h.symm.trans he)
  subst h1
  subst h2
  exact bodyPost_ret (res2 rfl (rv_t hs rfl) (rv_t hs rfl)) hs.defers ⟨⟨none, 0⟩, rfl, hs.bel rfl, hs.ret1 0 rfl⟩
 intro hc
 have hp4 := of_decide_eq_false hc
 replace hs := hs.nf w0 Z noX [2, 3, 4, 5] rfl rfl rfl rfl
 refine wp_region_lit (bnn hs (.bool (decide (op = 117))) rfl rfl rfl rfl (bin_eqlN (y := 117)) fun ac hs => asg hs rfl rfl rfl fun ac hs => wpList_nil (then_n (wcs hs rfl ?_ ?_)))
 ·intro hc
  have hp5 := of_decide_eq_true hc
  refine wp_seq (wp_region_lit (asg hs rfl rfl rfl fun ac hs => asg hs rfl rfl rfl fun ac hs => wpList_nil (then_n (wp_ret (blk_r (then_r ?_))))))
  replace hs := hs.nilCel none rfl
  have he : movP op = ([], true) := by rw [hp5]; rfl
  obtain ⟨h1, h2⟩ := Prod.mk.inj (h.symm.trans he)
  subst h1
  subst h2
  exact bodyPost_ret (res2 rfl (rv_t hs rfl) (rv_t hs rfl)) hs.defers ⟨⟨none, 0⟩, rfl, hs.bel rfl, hs.ret1 0 rfl⟩
 intro hc
 have hp6 := of_decide_eq_false hc
 refine wp_seq (wp_region_lit (bnn hs (.bool (decide (op = 110))) rfl rfl rfl rfl (bin_eqlN (y := 110)) fun ac hs => asg hs rfl rfl rfl fun ac hs => wpList_nil (then_n (wcs hs rfl ?_ ?_))))
 ·intro hc
  have hp7 := of_decide_eq_true hc
  refine wp_seq (wp_region_lit (stp (op_bsO hs none none (qs := [(0, .int .i64 0), (1, .int .i64 1), (2, .int .i64 0), (3, .int .i64 1)]) (cs := [.int .i64 0, .int .i64 1, .int .i64 0, .int .i64 1]) rfl rfl rfl rfl underlying78 inf_i64_3 (by decide) (by decide) (by kernel_rfl) rfl rfl rfl rfl fun ad9 ac w hs => asg hs rfl rfl rfl fun ac hs => asg hs rfl rfl rfl fun ac hs => wpList_nil (then_n (wp_ret (blk_r (then_r ?_)))))))
  replace hs := hs.freeze 0 rfl
  have he : movP op = ([0, 1, 0, 1], true) := by rw [hp7]; rfl
  obtain ⟨h1, h2⟩ := Prod.mk.inj (h.symm.trans he)
  subst h1
  subst h2
  exact bodyPost_ret (res2 rfl (rv_t hs rfl) (rv_t hs rfl)) hs.defers ⟨⟨ad9, 4⟩, rfl, hs.bel rfl, hs.ret1 0 rfl⟩
 intro hc
 have hp10 := of_decide_eq_false hc
 refine wp_seq (wp_region_lit (bnn hs (.bool (decide (op = 111))) rfl rfl rfl rfl (bin_eqlN (y := 111)) fun ac hs => asg hs rfl rfl rfl fun ac hs => wpList_nil (then_n (wcs hs rfl ?_ ?_))))
 ·intro hc
  have hp11 := of_decide_eq_true hc
  refine wp_seq ?_
  replace hs := hs.nf w0 Z noX [2, 3] rfl rfl rfl rfl
  refine wp_region_lit (stp (op_bsO hs none none (qs := [(0, .int .i64 0), (1, .int .i64 1), (2, .int .i64 2), (3, .int .i64 0), (4, .int .i64 1), (5, .int .i64 2)]) (cs := [.int .i64 0, .int .i64 1, .int .i64 2, .int .i64 0, .int .i64 1, .int .i64 2]) rfl rfl rfl rfl underlying78 inf_i64_3 (by decide) (by decide) (by kernel_rfl) rfl rfl rfl rfl fun ad13 ac w hs => asg hs rfl rfl rfl fun ac hs => asg hs rfl rfl rfl fun ac hs => wpList_nil (then_n (wp_ret (blk_r (then_r ?_))))))
  replace hs := hs.freeze 0 rfl
  have he : movP op = ([0, 1, 2, 0, 1, 2], true) := by rw [hp11]; rfl
  obtain ⟨h1, h2⟩ := Prod.mk.inj (h.symm.trans he)
  subst h1
  subst h2
  exact bodyPost_ret (res2 rfl (rv_t hs rfl) (rv_t hs rfl)) hs.defers ⟨⟨ad13, 6⟩, rfl, hs.bel rfl, hs.ret1 0 rfl⟩
 intro hc
 have hp14 := of_decide_eq_false hc
 refine wp_seq ?_
 replace hs := hs.nf w0 Z noX [2, 3, 4] rfl rfl rfl rfl
 refine wp_region_lit (bnn hs (.bool (decide (op = 118))) rfl rfl rfl rfl (bin_eqlN (y := 118)) fun ac hs => asg hs rfl rfl rfl fun ac hs => wpList_nil (then_n (wcs hs rfl ?_ ?_)))
 ·intro hc
  have hp15 := of_decide_eq_true hc
  refine wp_seq (wp_region_lit (stp (op_bsO hs none none (qs := [(0, .int .i64 0), (1, .int .i64 0)]) (cs := [.int .i64 0, .int .i64 0]) rfl rfl rfl rfl underlying78 inf_i64_3 (by decide) (by decide) (by kernel_rfl) rfl rfl rfl rfl fun ad17 ac w hs => asg hs rfl rfl rfl fun ac hs => asg hs rfl rfl rfl fun ac hs => wpList_nil (then_n (wp_ret (blk_r (then_r ?_)))))))
  replace hs := hs.freeze 0 rfl
  have he : movP op = ([0, 0], true) := by rw [hp15]; rfl
  obtain ⟨h1, h2⟩ := Prod.mk.inj (h.symm.trans he)
  subst h1
  subst h2
  exact bodyPost_ret (res2 rfl (rv_t hs rfl) (rv_t hs rfl)) hs.defers ⟨⟨ad17, 2⟩, rfl, hs.bel rfl, hs.ret1 0 rfl⟩
 intro hc
 have hp18 := of_decide_eq_false hc
 refine wp_seq (wp_region_lit (bnn hs (.bool (decide (op = 112))) rfl rfl rfl rfl (bin_eqlN (y := 112)) fun ac hs => asg hs rfl rfl rfl fun ac hs => wpList_nil (then_n (wcs hs rfl ?_ ?_))))
 ·intro hc
  have hp19 := of_decide_eq_true hc
  refine wp_seq (wp_region_lit (stp (op_bsO hs none none (qs := [(0, .int .i64 0), (1, .int .i64 1), (2, .int .i64 2), (3, .int .i64 3), (4, .int .i64 0), (5, .int .i64 1)]) (cs := [.int .i64 0, .int .i64 1, .int .i64 2, .int .i64 3, .int .i64 0, .int .i64 1]) rfl rfl rfl rfl underlying78 inf_i64_3 (by decide) (by decide) (by kernel_rfl) rfl rfl rfl rfl fun ad21 ac w hs => asg hs rfl rfl rfl fun ac hs => asg hs rfl rfl rfl fun ac hs => wpList_nil (then_n (wp_ret (blk_r (then_r ?_)))))))
  replace hs := hs.freeze 0 rfl
  have he : movP op = ([0, 1, 2, 3, 0, 1], true) := by rw [hp19]; rfl
  obtain ⟨h1, h2⟩ := Prod.mk.inj (h.symm.trans he)
  subst h1
  subst h2
  exact bodyPost_ret (res2 rfl (rv_t hs rfl) (rv_t hs rfl)) hs.defers ⟨⟨ad21, 6⟩, rfl, hs.bel rfl, hs.ret1 0 rfl⟩
 intro hc
 have hp22 := of_decide_eq_false hc
 refine wp_seq (wp_region_lit (bnn hs (.bool (decide (op = 120))) rfl rfl rfl rfl (bin_eqlN (y := 120)) fun ac hs => asg hs rfl rfl rfl fun ac hs => wpList_nil (then_n (wcs hs rfl ?_ ?_))))
 ·intro hc
  have hp23 := of_decide_eq_true hc
  refine wp_seq ?_
  replace hs := hs.nf w0 Z noX [2, 3] rfl rfl rfl rfl
  refine wp_region_lit (stp (op_bsO hs none none (qs := [(0, .int .i64 0), (1, .int .i64 1), (2, .int .i64 0)]) (cs := [.int .i64 0, .int .i64 1, .int .i64 0]) rfl rfl rfl rfl underlying78 inf_i64_3 (by decide) (by decide) (by kernel_rfl) rfl rfl rfl rfl fun ad25 ac w hs => asg hs rfl rfl rfl fun ac hs => asg hs rfl rfl rfl fun ac hs => wpList_nil (then_n (wp_ret (blk_r (then_r ?_))))))
  replace hs := hs.freeze 0 rfl
  have he : movP op = ([0, 1, 0], true) := by rw [hp23]; rfl
  obtain ⟨h1, h2⟩ := Prod.mk.inj (h.symm.trans he)
  subst h1
  subst h2
  exact bodyPost_ret (res2 rfl (rv_t hs rfl) (rv_t hs rfl)) hs.defers ⟨⟨ad25, 3⟩, rfl, hs.bel rfl, hs.ret1 0 rfl⟩
 intro hc
 have hp26 := of_decide_eq_false hc
 refine wp_seq ?_
 replace hs := hs.nf w0 Z noX [2, 3, 4] rfl rfl rfl rfl
 refine wp_region_lit (bnn hs (.bool (decide (op = 113))) rfl rfl rfl rfl (bin_eqlN (y := 113)) fun ac hs => asg hs rfl rfl rfl fun ac hs => wpList_nil (then_n (wcs hs rfl ?_ ?_)))
 ·intro hc
  have hp27 := of_decide_eq_true hc
  refine wp_seq (wp_region_lit (stp (op_bsO hs none none (qs := [(0, .int .i64 2), (1, .int .i64 3), (2, .int .i64 4), (3, .int .i64 5), (4, .int .i64 0), (5, .int .i64 1)]) (cs := [.int .i64 2, .int .i64 3, .int .i64 4, .int .i64 5, .int .i64 0, .int .i64 1]) rfl rfl rfl rfl underlying78 inf_i64_3 (by decide) (by decide) (by kernel_rfl) rfl rfl rfl rfl fun ad29 ac w hs => asg hs rfl rfl rfl fun ac hs => asg hs rfl rfl rfl fun ac hs => wpList_nil (then_n (wp_ret (blk_r (then_r ?_)))))))
  replace hs := hs.freeze 0 rfl
  have he : movP op = ([2, 3, 4, 5, 0, 1], true) := by rw [hp27]; rfl
  obtain ⟨h1, h2⟩ := Prod.mk.inj (h.symm.trans he)
  subst h1
  subst h2
  exact bodyPost_ret (res2 rfl (rv_t hs rfl) (rv_t hs rfl)) hs.defers ⟨⟨ad29, 6⟩, rfl, hs.bel rfl, hs.ret1 0 rfl⟩
 intro hc
 have hp30 := of_decide_eq_false hc
 refine wp_seq (wp_region_lit (bnn hs (.bool (decide (op = 123))) rfl rfl rfl rfl (bin_eqlN (y := 123)) fun ac hs => asg hs rfl rfl rfl fun ac hs => wpList_nil (then_n (wcs hs rfl ?_ ?_))))
 ·intro hc
  have hp31 := of_decide_eq_true hc
  refine wp_seq (wp_region_lit (stp (op_bsO hs none none (qs := [(0, .int .i64 1), (1, .int .i64 2), (2, .int .i64 0)]) (cs := [.int .i64 1, .int .i64 2, .int .i64 0]) rfl rfl rfl rfl underlying78 inf_i64_3 (by decide) (by decide) (by kernel_rfl) rfl rfl rfl rfl fun ad33 ac w hs => asg hs rfl rfl rfl fun ac hs => asg hs rfl rfl rfl fun ac hs => wpList_nil (then_n (wp_ret (blk_r (then_r ?_)))))))
  replace hs := hs.freeze 0 rfl
  have he : movP op = ([1, 2, 0], true) := by rw [hp31]; rfl
  obtain ⟨h1, h2⟩ := Prod.mk.inj (h.symm.trans he)
  subst h1
  subst h2
  exact bodyPost_ret (res2 rfl (rv_t hs rfl) (rv_t hs rfl)) hs.defers ⟨⟨ad33, 3⟩, rfl, hs.bel rfl, hs.ret1 0 rfl⟩
 intro hc
 have hp34 := of_decide_eq_false hc
 refine wp_seq (wp_region_lit (bnn hs (.bool (decide (op = 114))) rfl rfl rfl rfl (bin_eqlN (y := 114)) fun ac hs => asg hs rfl rfl rfl fun ac hs => wpList_nil (then_n (wcs hs rfl ?_ ?_))))
 ·intro hc
  have hp35 := of_decide_eq_true hc
  refine wp_seq ?_
  replace hs := hs.nf w0 Z noX [2, 3] rfl rfl rfl rfl
  refine wp_region_lit (stp (op_bsO hs none none (qs := [(0, .int .i64 2), (1, .int .i64 3), (2, .int .i64 0), (3, .int .i64 1)]) (cs := [.int .i64 2, .int .i64 3, .int .i64 0, .int .i64 1]) rfl rfl rfl rfl underlying78 inf_i64_3 (by decide) (by decide) (by kernel_rfl) rfl rfl rfl rfl fun ad37 ac w hs => asg hs rfl rfl rfl fun ac hs => asg hs rfl rfl rfl fun ac hs => wpList_nil (then_n (wp_ret (blk_r (then_r ?_))))))
  replace hs := hs.freeze 0 rfl
  have he : movP op = ([2, 3, 0, 1], true) := by rw [hp35]; rfl
  obtain ⟨h1, h2⟩ := Prod.mk.inj (h.symm.trans he)
  subst h1
  subst h2
  exact bodyPost_ret (res2 rfl (rv_t hs rfl) (rv_t hs rfl)) hs.defers ⟨⟨ad37, 4⟩, rfl, hs.bel rfl, hs.ret1 0 rfl⟩
 intro hc
 have hp38 := of_decide_eq_false hc
 refine wp_seq ?_
 replace hs := hs.nf w0 Z noX [2, 3, 4] rfl rfl rfl rfl
 refine wp_region_lit (bnn hs (.bool (decide (op = 124))) rfl rfl rfl rfl (bin_eqlN (y := 124)) fun ac hs => asg hs rfl rfl rfl fun ac hs => wpList_nil (then_n (wcs hs rfl ?_ ?_)))
 ·intro hc
  have hp39 := of_decide_eq_true hc
  refine wp_seq (wp_region_lit (stp (op_bsO hs none none (qs := [(0, .int .i64 1), (1, .int .i64 0)]) (cs := [.int .i64 1, .int .i64 0]) rfl rfl rfl rfl underlying78 inf_i64_3 (by decide) (by decide) (by kernel_rfl) rfl rfl rfl rfl fun ad41 ac w hs => asg hs rfl rfl rfl fun ac hs => asg hs rfl rfl rfl fun ac hs => wpList_nil (then_n (wp_ret (blk_r (then_r ?_)))))))
  replace hs := hs.freeze 0 rfl
  have he : movP op = ([1, 0], true) := by rw [hp39]; rfl
  obtain ⟨h1, h2⟩ := Prod.mk.inj (h.symm.trans he)
  subst h1
  subst h2
  exact bodyPost_ret (res2 rfl (rv_t hs rfl) (rv_t hs rfl)) hs.defers ⟨⟨ad41, 2⟩, rfl, hs.bel rfl, hs.ret1 0 rfl⟩
 intro hc
 have hp42 := of_decide_eq_false hc
 refine wp_seq (wp_region_lit (bnn hs (.bool (decide (op = 119))) rfl rfl rfl rfl (bin_eqlN (y := 119)) fun ac hs => asg hs rfl rfl rfl fun ac hs => wpList_nil (then_n (wcs hs rfl ?_ ?_))))
 ·intro hc
  have hp43 := of_decide_eq_true hc
  refine wp_seq (wp_region_lit (stp (op_bsO hs none none (qs := [(0, .int .i64 1)]) (cs := [.int .i64 1]) rfl rfl rfl rfl underlying78 inf_i64_3 (by decide) (by decide) (by kernel_rfl) rfl rfl rfl rfl fun ad45 ac w hs => asg hs rfl rfl rfl fun ac hs => asg hs rfl rfl rfl fun ac hs => wpList_nil (then_n (wp_ret (blk_r (then_r ?_)))))))
  replace hs := hs.freeze 0 rfl
  have he : movP op = ([1], true) := by rw [hp43]; rfl
  obtain ⟨h1, h2⟩ := Prod.mk.inj (h.symm.trans he)
  subst h1
  subst h2
  exact bodyPost_ret (res2 rfl (rv_t hs rfl) (rv_t hs rfl)) hs.defers ⟨⟨ad45, 1⟩, rfl, hs.bel rfl, hs.ret1 0 rfl⟩
 intro hc
 have hp46 := of_decide_eq_false hc
 refine wp_seq (wp_region_lit (bnn hs (.bool (decide (op = 125))) rfl rfl rfl rfl (bin_eqlN (y := 125)) fun ac hs => asg hs rfl rfl rfl fun ac hs => wpList_nil (then_n (wcs hs rfl ?_ ?_))))
 ·intro hc
  have hp47 := of_decide_eq_true hc
  refine wp_seq ?_
  replace hs := hs.nf w0 Z noX [2, 3] rfl rfl rfl rfl
  refine wp_region_lit (stp (op_bsO hs none none (qs := [(0, .int .i64 1), (1, .int .i64 0), (2, .int .i64 1)]) (cs := [.int .i64 1, .int .i64 0, .int .i64 1]) rfl rfl rfl rfl underlying78 inf_i64_3 (by decide) (by decide) (by kernel_rfl) rfl rfl rfl rfl fun ad49 ac w hs => asg hs rfl rfl rfl fun ac hs => asg hs rfl rfl rfl fun ac hs => wpList_nil (then_n (wp_ret (blk_r (then_r ?_))))))
  replace hs := hs.freeze 0 rfl
  have he : movP op = ([1, 0, 1], true) := by rw [hp47]; rfl
  obtain ⟨h1, h2⟩ := Prod.mk.inj (h.symm.trans he)
  subst h1
  subst h2
  exact bodyPost_ret (res2 rfl (rv_t hs rfl) (rv_t hs rfl)) hs.defers ⟨⟨ad49, 3⟩, rfl, hs.bel rfl, hs.ret1 0 rfl⟩
 intro hc
 have hp50 := of_decide_eq_false hc
 refine wp_skip (blk_n (then_n (wp_seq ?_)))
 replace hs := hs.nf w0 Z noX [2, 3] rfl rfl rfl rfl
 refine wp_region_lit (asg hs rfl rfl rfl fun ac hs => asg hs rfl rfl rfl fun ac hs => wpList_nil (then_n (wp_ret ?_)))
 replace hs := hs.nilCel none rfl
 have he : movP op = ([], false) := by simp only [movP, hp2, hp4, hp6, hp10, hp14, hp18, hp22, hp26, hp30, hp34, hp38, hp42, hp46, hp50, or_self, if_false]
 obtain ⟨h1, h2⟩ := Prod.mk.inj (h.symm.trans he)
 subst h1
 subst h2
 exact bodyPost_ret (res2 rfl (rv_t hs rfl) (rv_t hs rfl)) hs.defers ⟨⟨none, 0⟩, rfl, hs.bel rfl, hs.ret1 0 rfl⟩
theorem bytes_r (op : Nat) (ax : Option Addr) (cx : Nat) (vx : List Value) (xs : BL) (d : Nat) (ys : BL) (q : Bool) (ok : OkN 1000 xs) (hd : d ≤ 8000) (ht : takeI op = (xs.length : Int)) (h : bytP op xs d = (ys, q)) (w0 : World) (Z : Nat → Prop) (hV : CelV w0 Z (.slice ax xs.length cx) xs.length vx) (hY : BysV w0 Z vx xs): Calls prog 61 #[nu8 op, .slice ax xs.length cx, ni64 d] w0 fun e w' => Ret w0 Z (ρ := M1) (fun r => .tuple #[.slice r.a ys.length r.c, .bool q]) (fun r => [cL r.a ys.length r.c r.vs, .bys r.vs ys]) e w' := by
 have hx8 : xs.length ≤ 1000 := ok.1
 refine enterS (n := 91) (args := [nu8 op, .slice ax xs.length cx, ni64 d]) (S := [(true, cL ax xs.length cx vx), (true, .bys vx xs)]) (Z := Z) func61 rfl rfl (Nat.le_of_ble_eq_true rfl) (sokC hV (sokC hY sok0)) rfl fun ac hs => wp_seq (wp_region_lit (asg hs rfl rfl rfl fun ac hs => asg hs rfl rfl rfl fun ac hs => wpList_nil (then_n (wp_seq (wp_seq (wp_region_lit (mvv hs rfl rfl rfl fun ac hs => wpList_nil (then_n (wp_block (wp_seq (wp_region_lit (bnn hs (.bool (decide (op = 115))) rfl rfl rfl rfl (bin_eqlN (y := 115)) fun ac hs => asg hs rfl rfl rfl fun ac hs => wpList_nil (then_n ?_)))))))))))))
 refine wcs hs rfl ?_ ?_
 ·intro hc
  have hp1 := of_decide_eq_true hc
  have hxl : xs.length = 1 := by have h0 := ht; rw [hp1] at h0; simp [takeI] at h0; omega
  obtain ⟨li0, hli0⟩ : ∃ z, xs[0]? = some z := ⟨_, List.getElem?_eq_getElem (show 0 < xs.length by omega)⟩
  obtain ⟨al0, cl0, hvl0⟩ := bysv_at (hs.all (k := 1) rfl rfl) hli0
  replace hs := hs.pick none 1 rfl hvl0 hli0 rfl
  have lli0 : li0.length ≤ 1000 := ok.2 _ (List.mem_of_getElem? hli0)
  refine wp_seq (wp_seq (wp_region_lit (mvv hs rfl rfl rfl fun ac hs => stp (op_idxC hs none 0 (j := 0) rfl rfl rfl rfl rfl underlying22 sizeOf34 (show 0 < xs.length by omega) (off := 0) (by omega) rfl fun ac hs => stp (op_loadC hs none 0 (u := .slice al0 li0.length cl0) rfl rfl rfl rfl isAgg34 sizeOf34 (by decide) hvl0 rfl fun ac hs => ?_)))))
  obtain ⟨q2, hq2⟩ := ex1 (truthL li0)
  refine stp (op_callV (F := 73) (ρ := Unit) hs none none (v := fun r => .bool q2) (E := fun r => []) (j := 0) rfl rfl rfl rfl (call73 _) (fun hs => rtruth_c al0 li0.length cl0 li0 (Nat.le_trans lli0 (by decide)) q2 hq2 _ _ (hs.celT (k := 2) rfl)) (fun _ => rfl) (fun _ => rfl) rfl rfl fun _ ac w hs => wpList_nil (then_n (wcs hs rfl ?_ ?_)))
  ·intro hc
   have hcq := hc
   refine wp_seq ?_
   replace hs := hs.nf w0 Z noX [1, 6, 7] rfl rfl rfl rfl
   refine region_inv [([], [1, 2, 6, 7, 8]), ([0], [2, 6, 7, 8]), ([0, 1], [6, 7, 8]), ([], rgn 4 5), ([3], rgn 5 4), ([3, 4], [6, 7, 8]), (rgn 0 6, [7, 8]), (rgn 0 7, [8]), (rgn 0 8, [])] (fun L ac w => ∃ (ad4 : Option Addr), St 91 ⟨w0, [], [(true, cL ax xs.length cx vx), (true, .bys vx xs), (true, cL al0 li0.length cl0 (bcs li0)), (L 6, oW ad4 2 2 34 ([.slice al0 li0.length cl0, .slice al0 li0.length cl0]))], Z, noX⟩ [(17, L 0, .slice ax xs.length cx), (18, L 1, vidx (.slice ax xs.length cx) 0), (19, L 2, .slice al0 li0.length cl0), (20, L 3, .slice ax xs.length cx), (21, L 4, vidx (.slice ax xs.length cx) 0), (22, L 5, .slice al0 li0.length cl0), (23, L 6, .slice ad4 2 2), (6, L 7, cond (L 7) (.slice ad4 2 2) undef), (7, L 8, .bool true), (1, true, .slice ax xs.length cx), (6, true, .slice none 0 0), (7, true, .bool false)] [] ac w) (by kernel_rfl) (by kernel_rfl) ?_ ?_ ?_
   ·exact ⟨none, hs.drew.s4.s4.skip.padS⟩
   ·refine ⟨?_, ?_, ?_, ?_, ?_, ?_, ?_, ?_, ?_, trivial⟩
    ·exact fun L ac w ⟨ad4, hs⟩ => pln (omv hs 0 rfl rfl rfl fun ac hs => ⟨ad4, hs⟩)
    ·exact fun L ac w ⟨ad4, hs⟩ => pln (op_idxC hs (some 1) 0 (j := 0) rfl rfl rfl rfl rfl underlying22 sizeOf34 (show 0 < xs.length by omega) (off := 0) (by omega) rfl fun ac hs => ⟨ad4, hs⟩)
    ·exact fun L ac w ⟨ad4, hs⟩ => pln (op_loadC hs (some 2) 0 (u := .slice al0 li0.length cl0) rfl rfl rfl rfl isAgg34 sizeOf34 (by decide) hvl0 rfl fun ac hs => ⟨ad4, hs⟩)
    ·exact fun L ac w ⟨ad4, hs⟩ => pln (omv hs 3 rfl rfl rfl fun ac hs => ⟨ad4, hs⟩)
    ·exact fun L ac w ⟨ad4, hs⟩ => pln (op_idxC hs (some 4) 0 (j := 0) rfl rfl rfl rfl rfl underlying22 sizeOf34 (show 0 < xs.length by omega) (off := 0) (by omega) rfl fun ac hs => ⟨ad4, hs⟩)
    ·exact fun L ac w ⟨ad4, hs⟩ => pln (op_loadC hs (some 5) 0 (u := .slice al0 li0.length cl0) rfl rfl rfl rfl isAgg34 sizeOf34 (by decide) hvl0 rfl fun ac hs => ⟨ad4, hs⟩)
    ·exact fun L ac w ⟨ad4, hs⟩ => pln (op_bsO hs (some 6) (some 3) (qs := [(0, .slice al0 li0.length cl0), (1, .slice al0 li0.length cl0)]) (cs := [.slice al0 li0.length cl0, .slice al0 li0.length cl0]) rfl rfl rfl rfl underlying22 inf_slice_34 (by decide) (by decide) (fill_two _ _ _ rfl rfl) rfl rfl rfl rfl fun ad4 ac w hs => ⟨ad4, hs⟩)
    ·exact fun L ac w ⟨ad4, hs⟩ => pln (oas hs 7 rfl rfl rfl fun ac hs => ⟨ad4, hs⟩)
    ·exact fun L ac w ⟨ad4, hs⟩ => pln (oas hs 8 rfl rfl rfl fun ac hs => ⟨ad4, hs⟩)
   intro ac w ⟨ad4, hs⟩
   try dsimp only [cond_true] at hs
   refine then_n (wp_ret (then_r (blk_r (then_r ?_))))
   replace hs := hs.freeze 3 rfl
   have HS := hs
   have he : bytP op xs d = ([li0, li0], true) := by rw [hp1]; simp [bytP, hli0, hq2, hcq]
   obtain ⟨h1, h2⟩ := Prod.mk.inj (h.symm.trans he)
   subst h1
   subst h2
   have hs := HS
   replace hs := hs.nilBys none rfl
   replace hs := hs.snocBys (l := li0) (ls' := [li0]) 4 2 rfl rfl rfl
   replace hs := hs.bysEq 4 (vs' := [.slice al0 li0.length cl0]) (ls' := [li0]) rfl rfl rfl
   replace hs := hs.snocBys (l := li0) (ls' := [li0, li0]) 4 2 rfl rfl rfl
   replace hs := hs.bysEq 4 (vs' := [.slice al0 li0.length cl0, .slice al0 li0.length cl0]) (ls' := [li0, li0]) rfl rfl rfl
   exact bodyPost_ret (res2 rfl (rv_t hs rfl) (rv_t hs rfl)) hs.defers ⟨⟨ad4, 2, [.slice al0 li0.length cl0, .slice al0 li0.length cl0], noX⟩, rfl, hs.bel rfl, hs.retS (ks := [3, 4]) rfl (by decide)⟩
  intro hc
  have hcq := hc
  refine wp_skip (then_n (wp_seq ?_))
  replace hs := hs.nf w0 Z noX [1, 6, 7] rfl rfl rfl rfl
  refine wp_region_lit (mvv hs rfl rfl rfl fun ac hs => asg hs rfl rfl rfl fun ac hs => asg hs rfl rfl rfl fun ac hs => wpList_nil (then_n (wp_ret (blk_r (then_r ?_)))))
  have HS := hs
  have he : bytP op xs d = (xs, true) := by rw [hp1]; simp [bytP, hli0, hq2, hcq]
  obtain ⟨h1, h2⟩ := Prod.mk.inj (h.symm.trans he)
  subst h1
  subst h2
  have hs := HS
  exact bodyPost_ret (res2 rfl (rv_t hs rfl) (rv_t hs rfl)) hs.defers ⟨⟨ax, cx, vx, noX⟩, rfl, hs.bel rfl, hs.retS (ks := [0, 1]) rfl (by decide)⟩
 intro hc
 have hp5 := of_decide_eq_false hc
 refine wp_seq (wp_region_lit (bnn hs (.bool (decide (op = 116))) rfl rfl rfl rfl (bin_eqlN (y := 116)) fun ac hs => asg hs rfl rfl rfl fun ac hs => wpList_nil (then_n (wcs hs rfl ?_ ?_))))
 ·intro hc
  have hp6 := of_decide_eq_true hc
  refine wp_seq ?_
  replace hs := hs.nf w0 Z noX [2, 6, 7] rfl rfl rfl rfl
  refine wp_region_lit (mvv hs rfl rfl rfl fun ac hs => ?_)
  have lad7 : (enc ((d : Nat) : Int)).length ≤ 9 := enc_len (show -9223372036854775808 ≤ ((d : Nat) : Int) by omega) (show ((d : Nat) : Int) < 9223372036854775808 by omega)
  refine stp (op_callV (F := 66) (ρ := Option Addr × Nat) hs none none (v := fun r => .slice r.1 ((enc ((d : Nat) : Int)).length) r.2) (E := fun r => [oW r.1 ((enc ((d : Nat) : Int)).length) r.2 5 (bcs (enc ((d : Nat) : Int)))]) (j := 1) rfl rfl rfl rfl (call66 _) (fun hs => renc_o ((d : Nat) : Int) (show -9223372036854775808 ≤ ((d : Nat) : Int) by omega) (show ((d : Nat) : Int) < 9223372036854775808 by omega) _ _) (fun _ => rfl) (fun _ => rfl) rfl rfl fun ⟨ad7, cp8⟩ ac w hs => stp (op_bsO hs none none (qs := [(0, .slice ad7 ((enc ((d : Nat) : Int)).length) cp8)]) (cs := [.slice ad7 ((enc ((d : Nat) : Int)).length) cp8]) rfl rfl rfl rfl underlying22 inf_slice_34 (by decide) (by decide) (fill_one _ _ rfl) rfl rfl rfl rfl fun ad10 ac w hs => asg hs rfl rfl rfl fun ac hs => asg hs rfl rfl rfl fun ac hs => wpList_nil (then_n (wp_ret (blk_r (then_r ?_))))))
  replace hs := hs.freeze 3 rfl
  replace hs := hs.freeze 2 rfl
  replace hs := hs.oneY none 2 (l := enc ((d : Nat) : Int)) rfl rfl rfl
  have HS := hs
  have he : bytP op xs d = ([enc ((d : Nat) : Int)], true) := by rw [hp6]; simp [bytP]
  obtain ⟨h1, h2⟩ := Prod.mk.inj (h.symm.trans he)
  subst h1
  subst h2
  have hs := HS
  exact bodyPost_ret (res2 rfl (rv_t hs rfl) (rv_t hs rfl)) hs.defers ⟨⟨ad10, 1, [.slice ad7 ((enc ((d : Nat) : Int)).length) cp8], noX⟩, rfl, hs.bel rfl, hs.retS (ks := [3, 4]) rfl (by decide)⟩
 intro hc
 have hp11 := of_decide_eq_false hc
 refine wp_seq ?_
 replace hs := hs.nf w0 Z noX [1, 6, 7, 10] rfl rfl rfl rfl
 refine wp_region_lit (bnn hs (.bool (decide (op = 126))) rfl rfl rfl rfl (bin_eqlN (y := 126)) fun ac hs => asg hs rfl rfl rfl fun ac hs => wpList_nil (then_n (wcs hs rfl ?_ ?_)))
 ·intro hc
  have hp12 := of_decide_eq_true hc
  have hxl : xs.length = 2 := by have h0 := ht; rw [hp12] at h0; simp [takeI] at h0; omega
  obtain ⟨li0, hli0⟩ : ∃ z, xs[0]? = some z := ⟨_, List.getElem?_eq_getElem (show 0 < xs.length by omega)⟩
  obtain ⟨al0, cl0, hvl0⟩ := bysv_at (hs.all (k := 1) rfl rfl) hli0
  replace hs := hs.pick none 1 rfl hvl0 hli0 rfl
  have lli0 : li0.length ≤ 1000 := ok.2 _ (List.mem_of_getElem? hli0)
  obtain ⟨li1, hli1⟩ : ∃ z, xs[1]? = some z := ⟨_, List.getElem?_eq_getElem (show 1 < xs.length by omega)⟩
  obtain ⟨al1, cl1, hvl1⟩ := bysv_at (hs.all (k := 1) rfl rfl) hli1
  replace hs := hs.pick none 1 rfl hvl1 hli1 rfl
  have lli1 : li1.length ≤ 1000 := ok.2 _ (List.mem_of_getElem? hli1)
  refine wp_seq ?_
  replace hs := hs.nf w0 Z noX [1, 6, 7] rfl rfl rfl rfl
  refine region_inv [([], [4, 8, 9, 10, 11]), ([], [2, 3, 4, 8, 9, 10, 11]), ([1], [3, 4, 8, 9, 10, 11]), ([1, 2], [4, 8, 9, 10, 11]), (rgn 0 4, rgn 8 4), ([], rgn 6 6), ([5], rgn 7 5), ([5, 6], rgn 8 4), (rgn 0 8, [9, 10, 11]), (rgn 0 9, [10, 11]), (rgn 0 10, [11]), (rgn 0 11, [])] (fun L ac w => ∃ (ad14 : Option Addr) (ad15 : Option Addr) (cp16 : Nat) (ad17 : Option Addr) (cp18 : Nat) (ad20 : Option Addr), St 91 ⟨w0, [], [(true, cL ax xs.length cx vx), (true, .bys vx xs), (true, cL al0 li0.length cl0 (bcs li0)), (true, cL al1 li1.length cl1 (bcs li1)), (L 0, cond (L 8) (oW ad17 ((li0 ++ li1).length) cp18 5 (bcs (li0 ++ li1))) (cond (L 4) (oW ad15 li0.length cp16 5 (bcs li0)) (oW ad14 0 0 5 (bcs ([]))))), (L 9, cond (L 9) (oW ad20 1 1 34 ([.slice ad17 ((li0 ++ li1).length) cp18])) (.bys [] []))], Z, noX⟩ [(32, L 0, .slice ad14 0 0), (33, L 1, .slice ax xs.length cx), (34, L 2, vidx (.slice ax xs.length cx) 0), (35, L 3, .slice al0 li0.length cl0), (36, L 4, .slice ad15 li0.length cp16), (37, L 5, .slice ax xs.length cx), (38, L 6, vidx (.slice ax xs.length cx) 1), (39, L 7, .slice al1 li1.length cl1), (40, L 8, .slice ad17 ((li0 ++ li1).length) cp18), (41, L 9, .slice ad20 1 1), (6, L 10, cond (L 10) (.slice ad20 1 1) undef), (7, L 11, .bool true), (1, true, .slice ax xs.length cx), (6, true, .slice none 0 0), (7, true, .bool false)] [] ac w) (by kernel_rfl) (by kernel_rfl) ?_ ?_ ?_
  ·exact ⟨none, none, 0, none, 0, none, hs.drew.s4.s4.s4.padS.padS⟩
  ·refine ⟨?_, ?_, ?_, ?_, ?_, ?_, ?_, ?_, ?_, ?_, ?_, ?_, trivial⟩
   ·exact fun L ac w ⟨ad14, ad15, cp16, ad17, cp18, ad20, hs⟩ => pln (op_bsO0 hs (some 0) (some 4) (size := 1) rfl rfl underlying34 inf_u8_5 rfl rfl fun ad14 ac w hs => ⟨ad14, ad15, cp16, ad17, cp18, ad20, hs⟩)
   ·exact fun L ac w ⟨ad14, ad15, cp16, ad17, cp18, ad20, hs⟩ => pln (omv hs 1 rfl rfl rfl fun ac hs => ⟨ad14, ad15, cp16, ad17, cp18, ad20, hs⟩)
   ·exact fun L ac w ⟨ad14, ad15, cp16, ad17, cp18, ad20, hs⟩ => pln (op_idxC hs (some 2) 0 (j := 0) rfl rfl rfl rfl rfl underlying22 sizeOf34 (show 0 < xs.length by omega) (off := 0) (by omega) rfl fun ac hs => ⟨ad14, ad15, cp16, ad17, cp18, ad20, hs⟩)
   ·exact fun L ac w ⟨ad14, ad15, cp16, ad17, cp18, ad20, hs⟩ => pln (op_loadC hs (some 3) 0 (u := .slice al0 li0.length cl0) rfl rfl rfl rfl isAgg34 sizeOf34 (by decide) hvl0 rfl fun ac hs => ⟨ad14, ad15, cp16, ad17, cp18, ad20, hs⟩)
   ·exact fun L ac w ⟨ad14, ad15, cp16, ad17, cp18, ad20, hs⟩ => pln (op_appR hs (some 4) 4 2 (N' := li0.length) (ys := bcs li0) rfl rfl rfl rfl rfl rfl underlying34 inf_u8_5 rfl (by decide) (bcs_len1 rfl) (bcs_one _) (by decide) (show 0 + li0.length ≤ 1000000 by omega) (Nat.zero_add _) rfl rfl rfl fun ad15 cp16 ac w hs => ⟨ad14, ad15, cp16, ad17, cp18, ad20, hs⟩)
   ·exact fun L ac w ⟨ad14, ad15, cp16, ad17, cp18, ad20, hs⟩ => pln (omv hs 5 rfl rfl rfl fun ac hs => ⟨ad14, ad15, cp16, ad17, cp18, ad20, hs⟩)
   ·exact fun L ac w ⟨ad14, ad15, cp16, ad17, cp18, ad20, hs⟩ => pln (op_idxC hs (some 6) 0 (j := 1) rfl rfl rfl rfl rfl underlying22 sizeOf34 (show 1 < xs.length by omega) (off := 1) (by omega) rfl fun ac hs => ⟨ad14, ad15, cp16, ad17, cp18, ad20, hs⟩)
   ·exact fun L ac w ⟨ad14, ad15, cp16, ad17, cp18, ad20, hs⟩ => pln (op_loadC hs (some 7) 0 (u := .slice al1 li1.length cl1) rfl rfl rfl rfl isAgg34 sizeOf34 (by decide) hvl1 rfl fun ac hs => ⟨ad14, ad15, cp16, ad17, cp18, ad20, hs⟩)
   ·exact fun L ac w ⟨ad14, ad15, cp16, ad17, cp18, ad20, hs⟩ => pln (op_appR hs (some 8) 4 3 (N' := (li0 ++ li1).length) (ys := bcs (li0 ++ li1)) rfl rfl rfl rfl rfl rfl underlying34 inf_u8_5 rfl (by decide) (bcs_len1 rfl) (bcs_one _) (by decide) (show li0.length + li1.length ≤ 1000000 by omega) (by simp only [List.length_append, List.length_cons, List.length_nil] <;> omega) (bcs_append _ _) rfl rfl fun ad17 cp18 ac w hs => ⟨ad14, ad15, cp16, ad17, cp18, ad20, hs⟩)
   ·exact fun L ac w ⟨ad14, ad15, cp16, ad17, cp18, ad20, hs⟩ => pln (op_bsO hs (some 9) (some 5) (qs := [(0, .slice ad17 ((li0 ++ li1).length) cp18)]) (cs := [.slice ad17 ((li0 ++ li1).length) cp18]) rfl rfl rfl rfl underlying22 inf_slice_34 (by decide) (by decide) (fill_one _ _ rfl) rfl rfl rfl rfl fun ad20 ac w hs => ⟨ad14, ad15, cp16, ad17, cp18, ad20, hs⟩)
   ·exact fun L ac w ⟨ad14, ad15, cp16, ad17, cp18, ad20, hs⟩ => pln (oas hs 10 rfl rfl rfl fun ac hs => ⟨ad14, ad15, cp16, ad17, cp18, ad20, hs⟩)
   ·exact fun L ac w ⟨ad14, ad15, cp16, ad17, cp18, ad20, hs⟩ => pln (oas hs 11 rfl rfl rfl fun ac hs => ⟨ad14, ad15, cp16, ad17, cp18, ad20, hs⟩)
  intro ac w ⟨ad14, ad15, cp16, ad17, cp18, ad20, hs⟩
  try dsimp only [cond_true] at hs
  refine then_n (wp_ret (blk_r (then_r ?_)))
  replace hs := hs.freeze 5 rfl
  replace hs := hs.freeze 4 rfl
  replace hs := hs.oneY none 4 (l := li0 ++ li1) rfl rfl rfl
  have HS := hs
  have he : bytP op xs d = ([li0 ++ li1], true) := by rw [hp12]; simp [bytP, hli0, hli1]
  obtain ⟨h1, h2⟩ := Prod.mk.inj (h.symm.trans he)
  subst h1
  subst h2
  have hs := HS
  exact bodyPost_ret (res2 rfl (rv_t hs rfl) (rv_t hs rfl)) hs.defers ⟨⟨ad20, 1, [.slice ad17 ((li0 ++ li1).length) cp18], noX⟩, rfl, hs.bel rfl, hs.retS (ks := [5, 6]) rfl (by decide)⟩
 intro hc
 have hp21 := of_decide_eq_false hc
 refine wp_seq (wp_region_lit (bnn hs (.bool (decide (op = 130))) rfl rfl rfl rfl (bin_eqlN (y := 130)) fun ac hs => asg hs rfl rfl rfl fun ac hs => wpList_nil (then_n (wcs hs rfl ?_ ?_))))
 ·intro hc
  have hp22 := of_decide_eq_true hc
  have hxl : xs.length = 1 := by have h0 := ht; rw [hp22] at h0; simp [takeI] at h0; omega
  obtain ⟨li0, hli0⟩ : ∃ z, xs[0]? = some z := ⟨_, List.getElem?_eq_getElem (show 0 < xs.length by omega)⟩
  obtain ⟨al0, cl0, hvl0⟩ := bysv_at (hs.all (k := 1) rfl rfl) hli0
  replace hs := hs.pick none 1 rfl hvl0 hli0 rfl
  have lli0 : li0.length ≤ 1000 := ok.2 _ (List.mem_of_getElem? hli0)
  refine wp_seq ?_
  replace hs := hs.nf w0 Z noX [1, 6, 7] rfl rfl rfl rfl
  have lad23 : (enc ((li0.length : Nat) : Int)).length ≤ 9 := enc_len (show -9223372036854775808 ≤ ((li0.length : Nat) : Int) by omega) (show ((li0.length : Nat) : Int) < 9223372036854775808 by omega)
  refine region_inv [([], [1, 2, 8, 9, 10]), ([0], [2, 8, 9, 10]), ([0, 1], [8, 9, 10]), ([], rgn 4 7), ([3], rgn 5 6), ([3, 4], rgn 6 5), ([3, 4, 5], rgn 7 4), (rgn 3 4, [8, 9, 10]), (rgn 0 8, [9, 10]), (rgn 0 9, [10]), (rgn 0 10, [])] (fun L ac w => ∃ (ad23 : Option Addr) (cp24 : Nat) (ad26 : Option Addr), St 91 ⟨w0, [], [(true, cL ax xs.length cx vx), (true, .bys vx xs), (true, cL al0 li0.length cl0 (bcs li0)), (L 7, oW ad23 ((enc ((li0.length : Nat) : Int)).length) cp24 5 (bcs (enc ((li0.length : Nat) : Int)))), (L 8, cond (L 8) (oW ad26 2 2 34 ([.slice al0 li0.length cl0, .slice ad23 ((enc ((li0.length : Nat) : Int)).length) cp24])) (.bys [] []))], Z, noX⟩ [(44, L 0, .slice ax xs.length cx), (45, L 1, vidx (.slice ax xs.length cx) 0), (46, L 2, .slice al0 li0.length cl0), (47, L 3, .slice ax xs.length cx), (48, L 4, vidx (.slice ax xs.length cx) 0), (49, L 5, .slice al0 li0.length cl0), (50, L 6, ni64 (li0.length)), (51, L 7, .slice ad23 ((enc ((li0.length : Nat) : Int)).length) cp24), (52, L 8, .slice ad26 2 2), (6, L 9, cond (L 9) (.slice ad26 2 2) undef), (7, L 10, .bool true), (1, true, .slice ax xs.length cx), (6, true, .slice none 0 0), (7, true, .bool false)] [] ac w) (by kernel_rfl) (by kernel_rfl) ?_ ?_ ?_
  ·exact ⟨none, 0, none, hs.drew.s4.s4.skip.skip.skip.padS.padS⟩
  ·refine ⟨?_, ?_, ?_, ?_, ?_, ?_, ?_, ?_, ?_, ?_, ?_, trivial⟩
   ·exact fun L ac w ⟨ad23, cp24, ad26, hs⟩ => pln (omv hs 0 rfl rfl rfl fun ac hs => ⟨ad23, cp24, ad26, hs⟩)
   ·exact fun L ac w ⟨ad23, cp24, ad26, hs⟩ => pln (op_idxC hs (some 1) 0 (j := 0) rfl rfl rfl rfl rfl underlying22 sizeOf34 (show 0 < xs.length by omega) (off := 0) (by omega) rfl fun ac hs => ⟨ad23, cp24, ad26, hs⟩)
   ·exact fun L ac w ⟨ad23, cp24, ad26, hs⟩ => pln (op_loadC hs (some 2) 0 (u := .slice al0 li0.length cl0) rfl rfl rfl rfl isAgg34 sizeOf34 (by decide) hvl0 rfl fun ac hs => ⟨ad23, cp24, ad26, hs⟩)
   ·exact fun L ac w ⟨ad23, cp24, ad26, hs⟩ => pln (omv hs 3 rfl rfl rfl fun ac hs => ⟨ad23, cp24, ad26, hs⟩)
   ·exact fun L ac w ⟨ad23, cp24, ad26, hs⟩ => pln (op_idxC hs (some 4) 0 (j := 0) rfl rfl rfl rfl rfl underlying22 sizeOf34 (show 0 < xs.length by omega) (off := 0) (by omega) rfl fun ac hs => ⟨ad23, cp24, ad26, hs⟩)
   ·exact fun L ac w ⟨ad23, cp24, ad26, hs⟩ => pln (op_loadC hs (some 5) 0 (u := .slice al0 li0.length cl0) rfl rfl rfl rfl isAgg34 sizeOf34 (by decide) hvl0 rfl fun ac hs => ⟨ad23, cp24, ad26, hs⟩)
   ·exact fun L ac w ⟨ad23, cp24, ad26, hs⟩ => pln (op_blt hs (some 6) (v := ni64 (li0.length)) rfl rfl rfl (blt_len underlying34) rfl fun ac hs => ⟨ad23, cp24, ad26, hs⟩)
   ·exact fun L ac w ⟨ad23, cp24, ad26, hs⟩ => pln (op_callV (F := 66) (ρ := Option Addr × Nat) hs (some 7) (some 3) (v := fun r => .slice r.1 ((enc ((li0.length : Nat) : Int)).length) r.2) (E := fun r => [oW r.1 ((enc ((li0.length : Nat) : Int)).length) r.2 5 (bcs (enc ((li0.length : Nat) : Int)))]) (j := 1) rfl rfl rfl rfl (call66 _) (fun hs => renc_o ((li0.length : Nat) : Int) (show -9223372036854775808 ≤ ((li0.length : Nat) : Int) by omega) (show ((li0.length : Nat) : Int) < 9223372036854775808 by omega) _ _) (fun _ => rfl) (fun _ => rfl) rfl rfl fun ⟨ad23, cp24⟩ ac w hs => ⟨ad23, cp24, ad26, hs⟩)
   ·exact fun L ac w ⟨ad23, cp24, ad26, hs⟩ => pln (op_bsO hs (some 8) (some 4) (qs := [(0, .slice al0 li0.length cl0), (1, .slice ad23 ((enc ((li0.length : Nat) : Int)).length) cp24)]) (cs := [.slice al0 li0.length cl0, .slice ad23 ((enc ((li0.length : Nat) : Int)).length) cp24]) rfl rfl rfl rfl underlying22 inf_slice_34 (by decide) (by decide) (fill_two _ _ _ rfl rfl) rfl rfl rfl rfl fun ad26 ac w hs => ⟨ad23, cp24, ad26, hs⟩)
   ·exact fun L ac w ⟨ad23, cp24, ad26, hs⟩ => pln (oas hs 9 rfl rfl rfl fun ac hs => ⟨ad23, cp24, ad26, hs⟩)
   ·exact fun L ac w ⟨ad23, cp24, ad26, hs⟩ => pln (oas hs 10 rfl rfl rfl fun ac hs => ⟨ad23, cp24, ad26, hs⟩)
  intro ac w ⟨ad23, cp24, ad26, hs⟩
  try dsimp only [cond_true] at hs
  refine then_n (wp_ret (blk_r (then_r ?_)))
  replace hs := hs.freeze 4 rfl
  have HS := hs
  have he : bytP op xs d = ([li0, enc ((li0.length : Nat) : Int)], true) := by rw [hp22]; simp [bytP, hli0]
  obtain ⟨h1, h2⟩ := Prod.mk.inj (h.symm.trans he)
  subst h1
  subst h2
  have hs := HS
  replace hs := hs.nilBys none rfl
  replace hs := hs.snocBys (l := li0) (ls' := [li0]) 5 2 rfl rfl rfl
  replace hs := hs.bysEq 5 (vs' := [.slice al0 li0.length cl0]) (ls' := [li0]) rfl rfl rfl
  replace hs := hs.freeze 3 rfl
  replace hs := hs.snocBys (l := enc ((li0.length : Nat) : Int)) (ls' := [li0, enc ((li0.length : Nat) : Int)]) 5 3 rfl rfl rfl
  replace hs := hs.bysEq 5 (vs' := [.slice al0 li0.length cl0, .slice ad23 ((enc ((li0.length : Nat) : Int)).length) cp24]) (ls' := [li0, enc ((li0.length : Nat) : Int)]) rfl rfl rfl
  exact bodyPost_ret (res2 rfl (rv_t hs rfl) (rv_t hs rfl)) hs.defers ⟨⟨ad26, 2, [.slice al0 li0.length cl0, .slice ad23 ((enc ((li0.length : Nat) : Int)).length) cp24], noX⟩, rfl, hs.bel rfl, hs.retS (ks := [4, 5]) rfl (by decide)⟩
 intro hc
 have hp27 := of_decide_eq_false hc
 refine wp_seq (wp_seq (wp_region_lit (bnn hs (.bool (decide (op = 135))) rfl rfl rfl rfl (bin_eqlN (y := 135)) fun ac hs => asg hs rfl rfl rfl fun ac hs => wpList_nil (then_n (wcs hs rfl ?_ ?_)))))
 ·intro hc
  have hp28 := of_decide_eq_true hc
  have hxl : xs.length = 2 := by have h0 := ht; rw [hp28] at h0; simp [takeI] at h0; omega
  obtain ⟨li0, hli0⟩ : ∃ z, xs[0]? = some z := ⟨_, List.getElem?_eq_getElem (show 0 < xs.length by omega)⟩
  obtain ⟨al0, cl0, hvl0⟩ := bysv_at (hs.all (k := 1) rfl rfl) hli0
  replace hs := hs.pick none 1 rfl hvl0 hli0 rfl
  have lli0 : li0.length ≤ 1000 := ok.2 _ (List.mem_of_getElem? hli0)
  obtain ⟨li1, hli1⟩ : ∃ z, xs[1]? = some z := ⟨_, List.getElem?_eq_getElem (show 1 < xs.length by omega)⟩
  obtain ⟨al1, cl1, hvl1⟩ := bysv_at (hs.all (k := 1) rfl rfl) hli1
  replace hs := hs.pick none 1 rfl hvl1 hli1 rfl
  have lli1 : li1.length ≤ 1000 := ok.2 _ (List.mem_of_getElem? hli1)
  refine wp_skip (then_n (wp_cond_true (hs.evb rfl (decide_eq_true hp28)) (wp_seq ?_)))
  replace hs := hs.nf w0 Z noX [1, 6, 7] rfl rfl rfl rfl
  have lad29 : (flagL (decide (li0 = li1))).length ≤ 1 := flagL_len _
  refine region_inv [([], [1, 2, 3, 8, 9, 10, 11, 12]), ([0], [2, 3, 8, 9, 10, 11, 12]), ([0, 1], [3, 8, 9, 10, 11, 12]), ([0, 1, 2], rgn 8 5), ([], rgn 5 8), ([4], rgn 6 7), ([4, 5], rgn 7 6), ([4, 5, 6], rgn 8 5), (rgn 0 8, rgn 9 4), (rgn 0 9, [10, 11, 12]), (rgn 0 10, [11, 12]), (rgn 0 11, [12]), (rgn 0 12, [])] (fun L ac w => ∃ (ad29 : Option Addr) (cp30 : Nat) (ad32 : Option Addr), St 91 ⟨w0, [], [(true, cL ax xs.length cx vx), (true, .bys vx xs), (true, cL al0 li0.length cl0 (bcs li0)), (true, cL al1 li1.length cl1 (bcs li1)), (L 9, oW ad29 ((flagL (decide (li0 = li1))).length) cp30 5 (bcs (flagL (decide (li0 = li1))))), (L 10, cond (L 10) (oW ad32 1 1 34 ([.slice ad29 ((flagL (decide (li0 = li1))).length) cp30])) (.bys [] []))], Z, noX⟩ [(56, L 0, .slice ax xs.length cx), (57, L 1, vidx (.slice ax xs.length cx) 0), (58, L 2, .slice al0 li0.length cl0), (59, L 3, .string (txt li0)), (60, L 4, .slice ax xs.length cx), (61, L 5, vidx (.slice ax xs.length cx) 1), (62, L 6, .slice al1 li1.length cl1), (63, L 7, .string (txt li1)), (64, L 8, .bool (decide (li0 = li1))), (65, L 9, .slice ad29 ((flagL (decide (li0 = li1))).length) cp30), (66, L 10, .slice ad32 1 1), (6, L 11, cond (L 11) (.slice ad32 1 1) undef), (7, L 12, .bool true), (1, true, .slice ax xs.length cx), (6, true, .slice none 0 0), (7, true, .bool false)] [] ac w) (by kernel_rfl) (by kernel_rfl) ?_ ?_ ?_
  ·exact ⟨none, 0, none, hs.drew.s4.s4.s4.skip.padS.padS⟩
  ·refine ⟨?_, ?_, ?_, ?_, ?_, ?_, ?_, ?_, ?_, ?_, ?_, ?_, ?_, trivial⟩
   ·exact fun L ac w ⟨ad29, cp30, ad32, hs⟩ => pln (omv hs 0 rfl rfl rfl fun ac hs => ⟨ad29, cp30, ad32, hs⟩)
   ·exact fun L ac w ⟨ad29, cp30, ad32, hs⟩ => pln (op_idxC hs (some 1) 0 (j := 0) rfl rfl rfl rfl rfl underlying22 sizeOf34 (show 0 < xs.length by omega) (off := 0) (by omega) rfl fun ac hs => ⟨ad29, cp30, ad32, hs⟩)
   ·exact fun L ac w ⟨ad29, cp30, ad32, hs⟩ => pln (op_loadC hs (some 2) 0 (u := .slice al0 li0.length cl0) rfl rfl rfl rfl isAgg34 sizeOf34 (by decide) hvl0 rfl fun ac hs => ⟨ad29, cp30, ad32, hs⟩)
   ·exact fun L ac w ⟨ad29, cp30, ad32, hs⟩ => pln (op_convBS hs (some 3) 2 rfl rfl rfl rfl rfl underlying34 underlying5 underlying9 rfl fun ac hs => ⟨ad29, cp30, ad32, hs⟩)
   ·exact fun L ac w ⟨ad29, cp30, ad32, hs⟩ => pln (omv hs 4 rfl rfl rfl fun ac hs => ⟨ad29, cp30, ad32, hs⟩)
   ·exact fun L ac w ⟨ad29, cp30, ad32, hs⟩ => pln (op_idxC hs (some 5) 0 (j := 1) rfl rfl rfl rfl rfl underlying22 sizeOf34 (show 1 < xs.length by omega) (off := 1) (by omega) rfl fun ac hs => ⟨ad29, cp30, ad32, hs⟩)
   ·exact fun L ac w ⟨ad29, cp30, ad32, hs⟩ => pln (op_loadC hs (some 6) 0 (u := .slice al1 li1.length cl1) rfl rfl rfl rfl isAgg34 sizeOf34 (by decide) hvl1 rfl fun ac hs => ⟨ad29, cp30, ad32, hs⟩)
   ·exact fun L ac w ⟨ad29, cp30, ad32, hs⟩ => pln (op_convBS hs (some 7) 3 rfl rfl rfl rfl rfl underlying34 underlying5 underlying9 rfl fun ac hs => ⟨ad29, cp30, ad32, hs⟩)
   ·exact fun L ac w ⟨ad29, cp30, ad32, hs⟩ => pln (obn hs 8 (.bool (decide (li0 = li1))) rfl rfl rfl rfl (bin_eqlT rfl) fun ac hs => ⟨ad29, cp30, ad32, hs⟩)
   ·exact fun L ac w ⟨ad29, cp30, ad32, hs⟩ => pln (op_callV (F := 74) (ρ := Option Addr × Nat) hs (some 9) (some 4) (v := fun r => .slice r.1 ((flagL (decide (li0 = li1))).length) r.2) (E := fun r => [oW r.1 ((flagL (decide (li0 = li1))).length) r.2 5 (bcs (flagL (decide (li0 = li1))))]) (j := 1) rfl rfl rfl rfl (call74 _) (fun hs => rflag_o (decide (li0 = li1)) _ _) (fun _ => rfl) (fun _ => rfl) rfl rfl fun ⟨ad29, cp30⟩ ac w hs => ⟨ad29, cp30, ad32, hs⟩)
   ·exact fun L ac w ⟨ad29, cp30, ad32, hs⟩ => pln (op_bsO hs (some 10) (some 5) (qs := [(0, .slice ad29 ((flagL (decide (li0 = li1))).length) cp30)]) (cs := [.slice ad29 ((flagL (decide (li0 = li1))).length) cp30]) rfl rfl rfl rfl underlying22 inf_slice_34 (by decide) (by decide) (fill_one _ _ rfl) rfl rfl rfl rfl fun ad32 ac w hs => ⟨ad29, cp30, ad32, hs⟩)
   ·exact fun L ac w ⟨ad29, cp30, ad32, hs⟩ => pln (oas hs 11 rfl rfl rfl fun ac hs => ⟨ad29, cp30, ad32, hs⟩)
   ·exact fun L ac w ⟨ad29, cp30, ad32, hs⟩ => pln (oas hs 12 rfl rfl rfl fun ac hs => ⟨ad29, cp30, ad32, hs⟩)
  intro ac w ⟨ad29, cp30, ad32, hs⟩
  try dsimp only [cond_true] at hs
  refine then_n (wp_ret (blk_r (then_r ?_)))
  replace hs := hs.freeze 5 rfl
  replace hs := hs.freeze 4 rfl
  replace hs := hs.oneY none 4 (l := flagL (decide (li0 = li1))) rfl rfl rfl
  have HS := hs
  have he : bytP op xs d = ([flagL (decide (li0 = li1))], true) := by rw [hp28]; simp [bytP, hli0, hli1]
  obtain ⟨h1, h2⟩ := Prod.mk.inj (h.symm.trans he)
  subst h1
  subst h2
  have hs := HS
  exact bodyPost_ret (res2 rfl (rv_t hs rfl) (rv_t hs rfl)) hs.defers ⟨⟨ad32, 1, [.slice ad29 ((flagL (decide (li0 = li1))).length) cp30], noX⟩, rfl, hs.bel rfl, hs.retS (ks := [5, 6]) rfl (by decide)⟩
 intro hc
 have hp33 := of_decide_eq_false hc
 replace hs := hs.nf w0 Z noX [1, 6, 7, 10, 53] rfl rfl rfl rfl
 refine wp_region_lit (bnn hs (.bool (decide (op = 136))) rfl rfl rfl rfl (bin_eqlN (y := 136)) fun ac hs => asg hs rfl rfl rfl fun ac hs => wpList_nil (then_n (wcs hs rfl ?_ ?_)))
 ·intro hc
  have hp34 := of_decide_eq_true hc
  have hxl : xs.length = 2 := by have h0 := ht; rw [hp34] at h0; simp [takeI] at h0; omega
  obtain ⟨li0, hli0⟩ : ∃ z, xs[0]? = some z := ⟨_, List.getElem?_eq_getElem (show 0 < xs.length by omega)⟩
  obtain ⟨al0, cl0, hvl0⟩ := bysv_at (hs.all (k := 1) rfl rfl) hli0
  replace hs := hs.pick none 1 rfl hvl0 hli0 rfl
  have lli0 : li0.length ≤ 1000 := ok.2 _ (List.mem_of_getElem? hli0)
  obtain ⟨li1, hli1⟩ : ∃ z, xs[1]? = some z := ⟨_, List.getElem?_eq_getElem (show 1 < xs.length by omega)⟩
  obtain ⟨al1, cl1, hvl1⟩ := bysv_at (hs.all (k := 1) rfl rfl) hli1
  replace hs := hs.pick none 1 rfl hvl1 hli1 rfl
  have lli1 : li1.length ≤ 1000 := ok.2 _ (List.mem_of_getElem? hli1)
  refine wp_seq ?_
  replace hs := hs.nf w0 Z noX [1, 6, 7] rfl rfl rfl rfl
  have lad35 : (flagL (decide (li0 = li1))).length ≤ 1 := flagL_len _
  refine region_inv [([], [1, 2, 3, 8, 9, 10, 11, 12]), ([0], [2, 3, 8, 9, 10, 11, 12]), ([0, 1], [3, 8, 9, 10, 11, 12]), ([0, 1, 2], rgn 8 5), ([], rgn 5 8), ([4], rgn 6 7), ([4, 5], rgn 7 6), ([4, 5, 6], rgn 8 5), (rgn 0 8, rgn 9 4), (rgn 0 9, [10, 11, 12]), (rgn 0 10, [11, 12]), (rgn 0 11, [12]), (rgn 0 12, [])] (fun L ac w => ∃ (ad35 : Option Addr) (cp36 : Nat) (ad38 : Option Addr), St 91 ⟨w0, [], [(true, cL ax xs.length cx vx), (true, .bys vx xs), (true, cL al0 li0.length cl0 (bcs li0)), (true, cL al1 li1.length cl1 (bcs li1)), (L 9, oW ad35 ((flagL (decide (li0 = li1))).length) cp36 5 (bcs (flagL (decide (li0 = li1))))), (L 10, cond (L 10) (oW ad38 1 1 34 ([.slice ad35 ((flagL (decide (li0 = li1))).length) cp36])) (.bys [] []))], Z, noX⟩ [(56, L 0, .slice ax xs.length cx), (57, L 1, vidx (.slice ax xs.length cx) 0), (58, L 2, .slice al0 li0.length cl0), (59, L 3, .string (txt li0)), (60, L 4, .slice ax xs.length cx), (61, L 5, vidx (.slice ax xs.length cx) 1), (62, L 6, .slice al1 li1.length cl1), (63, L 7, .string (txt li1)), (64, L 8, .bool (decide (li0 = li1))), (65, L 9, .slice ad35 ((flagL (decide (li0 = li1))).length) cp36), (66, L 10, .slice ad38 1 1), (6, L 11, cond (L 11) (.slice ad38 1 1) undef), (7, L 12, .bool true), (1, true, .slice ax xs.length cx), (6, true, .slice none 0 0), (7, true, .bool false)] [] ac w) (by kernel_rfl) (by kernel_rfl) ?_ ?_ ?_
  ·exact ⟨none, 0, none, hs.drew.s4.s4.s4.skip.padS.padS⟩
  ·refine ⟨?_, ?_, ?_, ?_, ?_, ?_, ?_, ?_, ?_, ?_, ?_, ?_, ?_, trivial⟩
   ·exact fun L ac w ⟨ad35, cp36, ad38, hs⟩ => pln (omv hs 0 rfl rfl rfl fun ac hs => ⟨ad35, cp36, ad38, hs⟩)
   ·exact fun L ac w ⟨ad35, cp36, ad38, hs⟩ => pln (op_idxC hs (some 1) 0 (j := 0) rfl rfl rfl rfl rfl underlying22 sizeOf34 (show 0 < xs.length by omega) (off := 0) (by omega) rfl fun ac hs => ⟨ad35, cp36, ad38, hs⟩)
   ·exact fun L ac w ⟨ad35, cp36, ad38, hs⟩ => pln (op_loadC hs (some 2) 0 (u := .slice al0 li0.length cl0) rfl rfl rfl rfl isAgg34 sizeOf34 (by decide) hvl0 rfl fun ac hs => ⟨ad35, cp36, ad38, hs⟩)
   ·exact fun L ac w ⟨ad35, cp36, ad38, hs⟩ => pln (op_convBS hs (some 3) 2 rfl rfl rfl rfl rfl underlying34 underlying5 underlying9 rfl fun ac hs => ⟨ad35, cp36, ad38, hs⟩)
   ·exact fun L ac w ⟨ad35, cp36, ad38, hs⟩ => pln (omv hs 4 rfl rfl rfl fun ac hs => ⟨ad35, cp36, ad38, hs⟩)
   ·exact fun L ac w ⟨ad35, cp36, ad38, hs⟩ => pln (op_idxC hs (some 5) 0 (j := 1) rfl rfl rfl rfl rfl underlying22 sizeOf34 (show 1 < xs.length by omega) (off := 1) (by omega) rfl fun ac hs => ⟨ad35, cp36, ad38, hs⟩)
   ·exact fun L ac w ⟨ad35, cp36, ad38, hs⟩ => pln (op_loadC hs (some 6) 0 (u := .slice al1 li1.length cl1) rfl rfl rfl rfl isAgg34 sizeOf34 (by decide) hvl1 rfl fun ac hs => ⟨ad35, cp36, ad38, hs⟩)
   ·exact fun L ac w ⟨ad35, cp36, ad38, hs⟩ => pln (op_convBS hs (some 7) 3 rfl rfl rfl rfl rfl underlying34 underlying5 underlying9 rfl fun ac hs => ⟨ad35, cp36, ad38, hs⟩)
   ·exact fun L ac w ⟨ad35, cp36, ad38, hs⟩ => pln (obn hs 8 (.bool (decide (li0 = li1))) rfl rfl rfl rfl (bin_eqlT rfl) fun ac hs => ⟨ad35, cp36, ad38, hs⟩)
   ·exact fun L ac w ⟨ad35, cp36, ad38, hs⟩ => pln (op_callV (F := 74) (ρ := Option Addr × Nat) hs (some 9) (some 4) (v := fun r => .slice r.1 ((flagL (decide (li0 = li1))).length) r.2) (E := fun r => [oW r.1 ((flagL (decide (li0 = li1))).length) r.2 5 (bcs (flagL (decide (li0 = li1))))]) (j := 1) rfl rfl rfl rfl (call74 _) (fun hs => rflag_o (decide (li0 = li1)) _ _) (fun _ => rfl) (fun _ => rfl) rfl rfl fun ⟨ad35, cp36⟩ ac w hs => ⟨ad35, cp36, ad38, hs⟩)
   ·exact fun L ac w ⟨ad35, cp36, ad38, hs⟩ => pln (op_bsO hs (some 10) (some 5) (qs := [(0, .slice ad35 ((flagL (decide (li0 = li1))).length) cp36)]) (cs := [.slice ad35 ((flagL (decide (li0 = li1))).length) cp36]) rfl rfl rfl rfl underlying22 inf_slice_34 (by decide) (by decide) (fill_one _ _ rfl) rfl rfl rfl rfl fun ad38 ac w hs => ⟨ad35, cp36, ad38, hs⟩)
   ·exact fun L ac w ⟨ad35, cp36, ad38, hs⟩ => pln (oas hs 11 rfl rfl rfl fun ac hs => ⟨ad35, cp36, ad38, hs⟩)
   ·exact fun L ac w ⟨ad35, cp36, ad38, hs⟩ => pln (oas hs 12 rfl rfl rfl fun ac hs => ⟨ad35, cp36, ad38, hs⟩)
  intro ac w ⟨ad35, cp36, ad38, hs⟩
  try dsimp only [cond_true] at hs
  refine then_n (wp_ret (blk_r (then_r ?_)))
  replace hs := hs.freeze 5 rfl
  replace hs := hs.freeze 4 rfl
  replace hs := hs.oneY none 4 (l := flagL (decide (li0 = li1))) rfl rfl rfl
  have HS := hs
  have he : bytP op xs d = ([flagL (decide (li0 = li1))], true) := by rw [hp34]; simp [bytP, hli0, hli1]
  obtain ⟨h1, h2⟩ := Prod.mk.inj (h.symm.trans he)
  subst h1
  subst h2
  have hs := HS
  exact bodyPost_ret (res2 rfl (rv_t hs rfl) (rv_t hs rfl)) hs.defers ⟨⟨ad38, 1, [.slice ad35 ((flagL (decide (li0 = li1))).length) cp36], noX⟩, rfl, hs.bel rfl, hs.retS (ks := [5, 6]) rfl (by decide)⟩
 intro hc
 have hp39 := of_decide_eq_false hc
 refine wp_seq (wp_region_lit (bnn hs (.bool (decide (op = 105))) rfl rfl rfl rfl (bin_eqlN (y := 105)) fun ac hs => asg hs rfl rfl rfl fun ac hs => wpList_nil (then_n (wcs hs rfl ?_ ?_))))
 ·intro hc
  have hp40 := of_decide_eq_true hc
  have hxl : xs.length = 1 := by have h0 := ht; rw [hp40] at h0; simp [takeI] at h0; omega
  obtain ⟨li0, hli0⟩ : ∃ z, xs[0]? = some z := ⟨_, List.getElem?_eq_getElem (show 0 < xs.length by omega)⟩
  obtain ⟨al0, cl0, hvl0⟩ := bysv_at (hs.all (k := 1) rfl rfl) hli0
  replace hs := hs.pick none 1 rfl hvl0 hli0 rfl
  have lli0 : li0.length ≤ 1000 := ok.2 _ (List.mem_of_getElem? hli0)
  refine wp_seq (wp_region_lit (mvv hs rfl rfl rfl fun ac hs => stp (op_idxC hs none 0 (j := 0) rfl rfl rfl rfl rfl underlying22 sizeOf34 (show 0 < xs.length by omega) (off := 0) (by omega) rfl fun ac hs => stp (op_loadC hs none 0 (u := .slice al0 li0.length cl0) rfl rfl rfl rfl isAgg34 sizeOf34 (by decide) hvl0 rfl fun ac hs => ?_))))
  obtain ⟨q41, hq41⟩ := ex1 (truthL li0)
  refine stp (op_callV (F := 73) (ρ := Unit) hs none none (v := fun r => .bool q41) (E := fun r => []) (j := 0) rfl rfl rfl rfl (call73 _) (fun hs => rtruth_c al0 li0.length cl0 li0 (Nat.le_trans lli0 (by decide)) q41 hq41 _ _ (hs.celT (k := 2) rfl)) (fun _ => rfl) (fun _ => rfl) rfl rfl fun _ ac w hs => ?_)
  have lad42 : (flagL q41).length ≤ 1 := flagL_len _
  refine stp (op_callV (F := 74) (ρ := Option Addr × Nat) hs none none (v := fun r => .slice r.1 ((flagL q41).length) r.2) (E := fun r => [oW r.1 ((flagL q41).length) r.2 5 (bcs (flagL q41))]) (j := 1) rfl rfl rfl rfl (call74 _) (fun hs => rflag_o q41 _ _) (fun _ => rfl) (fun _ => rfl) rfl rfl fun ⟨ad42, cp43⟩ ac w hs => stp (op_bsO hs none none (qs := [(0, .slice ad42 ((flagL q41).length) cp43)]) (cs := [.slice ad42 ((flagL q41).length) cp43]) rfl rfl rfl rfl underlying22 inf_slice_34 (by decide) (by decide) (fill_one _ _ rfl) rfl rfl rfl rfl fun ad45 ac w hs => asg hs rfl rfl rfl fun ac hs => asg hs rfl rfl rfl fun ac hs => wpList_nil (then_n (wp_ret (blk_r (then_r ?_))))))
  replace hs := hs.freeze 4 rfl
  replace hs := hs.freeze 3 rfl
  replace hs := hs.oneY none 3 (l := flagL q41) rfl rfl rfl
  have HS := hs
  have he : bytP op xs d = ([flagL q41], true) := by rw [hp40]; simp [bytP, hli0, hq41]
  obtain ⟨h1, h2⟩ := Prod.mk.inj (h.symm.trans he)
  subst h1
  subst h2
  have hs := HS
  exact bodyPost_ret (res2 rfl (rv_t hs rfl) (rv_t hs rfl)) hs.defers ⟨⟨ad45, 1, [.slice ad42 ((flagL q41).length) cp43], noX⟩, rfl, hs.bel rfl, hs.retS (ks := [4, 5]) rfl (by decide)⟩
 intro hc
 have hp46 := of_decide_eq_false hc
 refine wp_seq (wp_region_lit (bnn hs (.bool (decide (op = 168))) rfl rfl rfl rfl (bin_eqlN (y := 168)) fun ac hs => asg hs rfl rfl rfl fun ac hs => wpList_nil (then_n (wcs hs rfl ?_ ?_))))
 ·intro hc
  have hp47 := of_decide_eq_true hc
  have hxl : xs.length = 1 := by have h0 := ht; rw [hp47] at h0; simp [takeI] at h0; omega
  obtain ⟨li0, hli0⟩ : ∃ z, xs[0]? = some z := ⟨_, List.getElem?_eq_getElem (show 0 < xs.length by omega)⟩
  obtain ⟨al0, cl0, hvl0⟩ := bysv_at (hs.all (k := 1) rfl rfl) hli0
  replace hs := hs.pick none 1 rfl hvl0 hli0 rfl
  have lli0 : li0.length ≤ 1000 := ok.2 _ (List.mem_of_getElem? hli0)
  refine wp_seq ?_
  replace hs := hs.nf w0 Z noX [1, 6, 7] rfl rfl rfl rfl
  refine wp_region_lit (mvv hs rfl rfl rfl fun ac hs => stp (op_idxC hs none 0 (j := 0) rfl rfl rfl rfl rfl underlying22 sizeOf34 (show 0 < xs.length by omega) (off := 0) (by omega) rfl fun ac hs => stp (op_loadC hs none 0 (u := .slice al0 li0.length cl0) rfl rfl rfl rfl isAgg34 sizeOf34 (by decide) hvl0 rfl fun ac hs => stp (op_callV (F := 75) (ρ := Unit) hs none none (v := fun r => At .u8 32 (sha li0)) (E := fun r => []) (j := 0) rfl rfl rfl rfl (call75 _) (fun hs => rshasum_c al0 li0.length cl0 li0 (Nat.le_trans (show li0.length ≤ 100000 from (Nat.le_trans lli0 (by decide))) (by decide)) _ _ (hs.celT (k := 2) rfl)) (fun _ => rfl) (fun _ => rfl) rfl rfl fun _ ac w hs => stp (op_alloc hs none none (cs := (tab .u8 32 (fun _ => 0))) rfl rfl zeroValue89 (by kernel_rfl) rfl rfl fun g48 ac w hs => stp (stoo hs 0 ((tab .u8 32 (sha li0))) sizeOf89 rfl rfl rfl rfl rfl (by kernel_rfl) tab_length' (tab_one _ _ _) tab_leA wr_tab fun w hs => wpList_nil (then_n (wp_seq ?_))))))))
  replace hs := hs.nf w0 Z noX [6, 7, 8] rfl rfl rfl rfl
  refine wp_region_lit ?_
  replace hs := hs.arrCel none 0 (n0 := 32) (f := sha li0) rfl (fun j hj => sha_lt li0 j) (by decide) rfl
  replace hs := hs.selB [] rfl (by decide)
  refine stp (op_val hs none (v := .slice (some ⟨g48, 0, none⟩) 32 32) rfl rfl (run_slA rfl (hs.ev rfl) underlying89 sizeOf5) fun ac hs => stp (op_bsO hs none none (qs := [(0, .slice (some ⟨g48, 0, none⟩) 32 32)]) (cs := [.slice (some ⟨g48, 0, none⟩) 32 32]) rfl rfl rfl rfl underlying22 inf_slice_34 (by decide) (by decide) (fill_one _ _ rfl) rfl rfl rfl rfl fun ad50 ac w hs => asg hs rfl rfl rfl fun ac hs => asg hs rfl rfl rfl fun ac hs => wpList_nil (then_n (wp_ret (blk_r (then_r ?_))))))
  replace hs := hs.freeze 4 rfl
  replace hs := hs.oneY none 3 (l := btl 32 (sha li0)) rfl (btl_len 32 _).symm rfl
  have HS := hs
  have he : bytP op xs d = ([btl 32 (sha li0)], true) := by rw [hp47]; simp [bytP, hli0, shaV]
  obtain ⟨h1, h2⟩ := Prod.mk.inj (h.symm.trans he)
  subst h1
  subst h2
  have hs := HS
  exact bodyPost_ret (res2 rfl (rv_t hs rfl) (rv_t hs rfl)) hs.defers ⟨⟨ad50, 1, [.slice (some ⟨g48, 0, none⟩) 32 32], noX⟩, rfl, hs.bel rfl, hs.retS (ks := [4, 5]) rfl (by decide)⟩
 intro hc
 have hp51 := of_decide_eq_false hc
 refine wp_seq ?_
 replace hs := hs.nf w0 Z noX [1, 6, 7, 10] rfl rfl rfl rfl
 refine wp_region_lit (bnn hs (.bool (decide (op = 170))) rfl rfl rfl rfl (bin_eqlN (y := 170)) fun ac hs => asg hs rfl rfl rfl fun ac hs => wpList_nil (then_n (wcs hs rfl ?_ ?_)))
 ·intro hc
  have hp52 := of_decide_eq_true hc
  have hxl : xs.length = 1 := by have h0 := ht; rw [hp52] at h0; simp [takeI] at h0; omega
  obtain ⟨li0, hli0⟩ : ∃ z, xs[0]? = some z := ⟨_, List.getElem?_eq_getElem (show 0 < xs.length by omega)⟩
  obtain ⟨al0, cl0, hvl0⟩ := bysv_at (hs.all (k := 1) rfl rfl) hli0
  replace hs := hs.pick none 1 rfl hvl0 hli0 rfl
  have lli0 : li0.length ≤ 1000 := ok.2 _ (List.mem_of_getElem? hli0)
  refine wp_seq (wp_region_lit (mvv hs rfl rfl rfl fun ac hs => stp (op_idxC hs none 0 (j := 0) rfl rfl rfl rfl rfl underlying22 sizeOf34 (show 0 < xs.length by omega) (off := 0) (by omega) rfl fun ac hs => stp (op_loadC hs none 0 (u := .slice al0 li0.length cl0) rfl rfl rfl rfl isAgg34 sizeOf34 (by decide) hvl0 rfl fun ac hs => stp (op_callV (F := 76) (ρ := Unit) hs none none (v := fun r => At .u8 32 (dbl li0)) (E := fun r => []) (j := 0) rfl rfl rfl rfl (call76 _) (fun hs => rdouble_c al0 li0.length cl0 li0 (Nat.le_trans (show li0.length ≤ 100000 from (Nat.le_trans lli0 (by decide))) (by decide)) _ _ (hs.celT (k := 2) rfl)) (fun _ => rfl) (fun _ => rfl) rfl rfl fun _ ac w hs => stp (op_alloc hs none none (cs := (tab .u8 32 (fun _ => 0))) rfl rfl zeroValue89 (by kernel_rfl) rfl rfl fun g53 ac w hs => stp (stoo hs 0 ((tab .u8 32 (dbl li0))) sizeOf89 rfl rfl rfl rfl rfl (by kernel_rfl) tab_length' (tab_one _ _ _) tab_leA wr_tab fun w hs => wpList_nil (then_n (wp_seq ?_)))))))))
  replace hs := hs.nf w0 Z noX [6, 7, 9] rfl rfl rfl rfl
  refine wp_region_lit ?_
  replace hs := hs.arrCel none 0 (n0 := 32) (f := dbl li0) rfl (fun j hj => dbl_lt li0 j) (by decide) rfl
  replace hs := hs.selB [] rfl (by decide)
  refine stp (op_val hs none (v := .slice (some ⟨g53, 0, none⟩) 32 32) rfl rfl (run_slA rfl (hs.ev rfl) underlying89 sizeOf5) fun ac hs => stp (op_bsO hs none none (qs := [(0, .slice (some ⟨g53, 0, none⟩) 32 32)]) (cs := [.slice (some ⟨g53, 0, none⟩) 32 32]) rfl rfl rfl rfl underlying22 inf_slice_34 (by decide) (by decide) (fill_one _ _ rfl) rfl rfl rfl rfl fun ad55 ac w hs => asg hs rfl rfl rfl fun ac hs => asg hs rfl rfl rfl fun ac hs => wpList_nil (then_n (wp_ret (blk_r (then_r ?_))))))
  replace hs := hs.freeze 4 rfl
  replace hs := hs.oneY none 3 (l := btl 32 (dbl li0)) rfl (btl_len 32 _).symm rfl
  have HS := hs
  have he : bytP op xs d = ([btl 32 (dbl li0)], true) := by rw [hp52]; simp [bytP, hli0, dblV]
  obtain ⟨h1, h2⟩ := Prod.mk.inj (h.symm.trans he)
  subst h1
  subst h2
  have hs := HS
  exact bodyPost_ret (res2 rfl (rv_t hs rfl) (rv_t hs rfl)) hs.defers ⟨⟨ad55, 1, [.slice (some ⟨g53, 0, none⟩) 32 32], noX⟩, rfl, hs.bel rfl, hs.retS (ks := [4, 5]) rfl (by decide)⟩
 intro hc
 have hp56 := of_decide_eq_false hc
 refine wp_skip (blk_n (then_n (wp_seq (wp_region_lit (asg hs rfl rfl rfl fun ac hs => asg hs rfl rfl rfl fun ac hs => wpList_nil (then_n (wp_ret ?_)))))))
 have HS := hs
 have he : bytP op xs d = ([], false) := by simp only [bytP, hp5, hp11, hp21, hp27, hp33, hp39, hp46, hp51, hp56, or_self, if_false]
 obtain ⟨h1, h2⟩ := Prod.mk.inj (h.symm.trans he)
 subst h1
 subst h2
 have hs := HS
 replace hs := hs.nilCel none rfl
 replace hs := hs.nilBys none rfl
 exact bodyPost_ret (res2 rfl (rv_t hs rfl) (rv_t hs rfl)) hs.defers ⟨⟨none, 0, [], noX⟩, rfl, hs.bel rfl, hs.retS (ks := [2, 3]) rfl (by decide)⟩
theorem puts_r (op : Nat) (ax : Option Addr) (cx : Nat) (vx : List Value) (xs : BL) (d : Nat) (ys : BL) (er : Nat) (ok : OkN 1000 xs) (hd : d ≤ 8000) (ht : takeI op = (xs.length : Int)) (h : putP op xs d = (ys, er)) (w0 : World) (Z : Nat → Prop) (hV : CelV w0 Z (.slice ax xs.length cx) xs.length vx) (hY : BysV w0 Z vx xs): Calls prog 34 #[nu8 op, .slice ax xs.length cx, ni64 d] w0 fun e w' => Ret w0 Z (ρ := M1) (fun r => .tuple #[.slice r.a ys.length r.c, ni64 er]) (fun r => [cL r.a ys.length r.c r.vs, .bys r.vs ys]) e w' := by
 have hx8 : xs.length ≤ 1000 := ok.1
 refine enterS (n := 77) (args := [nu8 op, .slice ax xs.length cx, ni64 d]) (S := [(true, cL ax xs.length cx vx), (true, .bys vx xs)]) (Z := Z) func34 rfl rfl (Nat.le_of_ble_eq_true rfl) (sokC hV (sokC hY sok0)) rfl fun ac hs => wp_seq (wp_region_lit (asg hs rfl rfl rfl fun ac hs => asg hs rfl rfl rfl fun ac hs => wpList_nil (then_n (wp_seq (wp_region_lit (mvv hs rfl rfl rfl fun ac hs => ?_))))))
 obtain ⟨ps1, q2, hps1⟩ := ex2 (movP op)
 have lps1 := mov_len hps1
 refine stp (op_callS (F := 60) (ρ := Option Addr × Nat) hs none none (v := fun r => .tuple #[.slice r.1 ps1.length r.2, .bool q2]) (E := fun r => [cL r.1 ps1.length r.2 (intL ps1)]) (j := 1) rfl rfl rfl rfl (call60 _) (fun hs => moves_r op ps1 q2 hps1 _ _) (fun _ => rfl) rfl rfl fun ⟨ad3, cp4⟩ ac w hs => mvv hs rfl rfl rfl fun ac hs => stp (xtr hs none rfl rfl rfl rfl rfl fun ac hs => stp (xtr hs none rfl rfl rfl rfl rfl fun ac hs => asg hs rfl rfl rfl fun ac hs => asg hs rfl rfl rfl fun ac hs => wpList_nil (then_n (wp_seq (wp_seq ?_))))))
 replace hs := hs.nf w0 Z noX [0, 1, 2, 6, 7, 8, 9] rfl rfl rfl rfl
 refine wp_region_lit (mvv hs rfl rfl rfl fun ac hs => wpList_nil (then_n (wcs hs rfl ?_ ?_)))
 ·intro hc
  rw [hc] at hps1
  refine wp_seq (wp_region_lit (stp (op_bsO0 hs none none (size := 1) rfl rfl underlying22 inf_slice_34 rfl rfl fun ad6 ac w hs => asg hs rfl rfl rfl fun ac hs => wpList_nil (then_n (wp_seq (wp_seq (wp_region_lit (asg hs rfl rfl rfl fun ac hs => wpList_nil (then_n (wp_block (wp_loop_m (fun μ ac w => ∃ (i : Nat) (ao : Option Addr) (co : Nat), (ps1.length - i) = μ ∧ (i ≤ ps1.length) ∧ St 77 ⟨w0, [], [(true, cL ax xs.length cx vx), (true, .bys vx xs), (true, cL ad3 ps1.length cp4 (intL ps1)), (true, oW ao ((pickL xs (ps1.take i)).length) co 34 (pickV vx (ps1.take i)))], Z, noX⟩ [(1, true, .slice ax xs.length cx), (8, true, .slice ad3 ps1.length cp4), (10, true, .slice ao ((pickL xs (ps1.take i)).length) co), (11, true, ni64 i)] [] ac w) ?_ ?_)))))))))))
  ·exact ⟨_, 0, ad6, 0, rfl, (by omega), (hs.re (fs' := [(1, true, .slice ax xs.length cx), (8, true, .slice ad3 ps1.length cp4), (10, true, .slice ad6 ((pickL xs (ps1.take 0)).length) 0), (11, true, ni64 0)]) ⟨rfl, rfl, rfl, rfl, trivial⟩)⟩
  intro μ ac w ⟨i, ao, co, hμ, hi, hs⟩
  have hpk : (pickL xs (ps1.take i)).length ≤ 6 := by simp [pickL]; omega
  refine wp_seq (wp_seq (wp_region_lit (mvv hs rfl rfl rfl fun ac hs => mvv hs rfl rfl rfl fun ac hs => stp (op_blt hs none (v := ni64 (ps1.length)) rfl rfl rfl (blt_len underlying78) rfl fun ac hs => bnn hs (.bool (decide (i < ps1.length))) rfl rfl rfl rfl bin_lssN fun ac hs => wpList_nil (then_n (wcs hs rfl ?_ ?_))))))
  ·intro hc
   have hp7 := of_decide_eq_true hc
   have hlt := of_decide_eq_true hc
   obtain ⟨pi, hpi⟩ : ∃ z, ps1[i]? = some z := ⟨_, List.getElem?_eq_getElem hlt⟩
   have hpn : pi < xs.length := mov_lt hps1 ht _ (List.mem_of_getElem? hpi)
   obtain ⟨yi, hyi⟩ : ∃ z, xs[pi]? = some z := ⟨_, List.getElem?_eq_getElem hpn⟩
   obtain ⟨al, cl, hvl⟩ := bysv_at (hs.all (k := 1) rfl rfl) hyi
   replace hs := hs.pick none 1 rfl hvl hyi rfl
   refine wp_skip (then_n (wp_seq (wp_block (wp_region_lit (mvv hs rfl rfl rfl fun ac hs => mvv hs rfl rfl rfl fun ac hs => mvv hs rfl rfl rfl fun ac hs => mvv hs rfl rfl rfl fun ac hs => stp (op_idxC hs none 2 (j := i) rfl rfl rfl rfl rfl underlying78 sizeOf3 (show i < ps1.length by omega) (off := i) (by omega) rfl fun ac hs => stp (op_loadC hs none 2 (u := ni64 pi) rfl rfl rfl rfl isAgg3 sizeOf3 (by decide) (intL_get hpi) rfl fun ac hs => stp (op_idxC hs none 0 (j := pi) rfl rfl rfl rfl rfl underlying22 sizeOf34 (show pi < xs.length by omega) (off := pi) (by omega) rfl fun ac hs => stp (op_loadC hs none 0 (u := .slice al yi.length cl) rfl rfl rfl rfl isAgg34 sizeOf34 (by decide) hvl rfl fun ac hs => stp (op_bsO hs none none (qs := [(0, .slice al yi.length cl)]) (cs := [.slice al yi.length cl]) rfl rfl rfl rfl underlying22 inf_slice_34 (by decide) (by decide) (fill_one _ _ rfl) rfl rfl rfl rfl fun ad9 ac w hs => ?_))))))))))
   refine stp (op_appR hs none 3 5 (N' := ((pickL xs (ps1.take i)) ++ [yi]).length) (ys := (pickV vx (ps1.take i)) ++ [Value.slice al yi.length cl]) rfl rfl rfl rfl rfl rfl underlying22 inf_slice_34 rfl (by decide) rfl (by intro u hu; obtain rfl := List.mem_singleton.1 hu; rfl) (by decide) (show (pickL xs (ps1.take i)).length + 1 ≤ 1000000 by first | omega | ((try simp only [List.length_drop, List.length_take, List.length_append, List.length_cons, List.length_nil]); omega)) (by simp) rfl rfl rfl fun ad10 cp11 ac w hs => asg hs rfl rfl rfl fun ac hs => wpList_nil (blk_n (then_n ?_)))
   replace hs := hs.nf w0 Z noX [1, 8, 10, 11] rfl rfl rfl rfl
   refine wp_region_lit (mvv hs rfl rfl rfl fun ac hs => bnn hs (ni64 (i + 1)) rfl rfl rfl rfl (bin_addN (y := 1) rfl (show i + 1 < 9223372036854775808 by omega)) fun ac hs => asg hs rfl rfl rfl fun ac hs => wpList_nil (then_n ?_))
   rw [show ((pickV vx (ps1.take i)) ++ [.slice al yi.length cl] : List Value) = pickV vx (ps1.take (i + 1)) from pickV_snoc hpi hvl] at hs
   rw [show ((pickL xs (ps1.take i)) ++ [yi] : BL) = pickL xs (ps1.take (i + 1)) from pickL_snoc1 hpi hyi] at hs
   replace hs := hs.selS [0, 1, 2, 3] rfl (by decide)
   exact ⟨_, ⟨(i + 1), ad10, cp11, rfl, (by omega), (hs.re (fs' := [(1, true, .slice ax xs.length cx), (8, true, .slice ad3 ps1.length cp4), (10, true, .slice ad10 ((pickL xs (ps1.take (i + 1))).length) cp11), (11, true, ni64 ((i + 1)))]) ⟨rfl, rfl, rfl, rfl, trivial⟩)⟩, (by omega)⟩
  intro hc
  have hp12 := of_decide_eq_false hc
  have hge := of_decide_eq_false hc
  rw [List.take_of_length_le (show ps1.length ≤ i by omega)] at hs
  refine wp_exit (then_e (then_e (blk_e (then_n (wp_seq (wp_region_lit (mvv hs rfl rfl rfl fun ac hs => asg hs rfl rfl rfl fun ac hs => asg hs rfl rfl rfl fun ac hs => wpList_nil (then_n (wp_ret (then_r ?_))))))))))
  replace hs := hs.pickY none 1 ps1 rfl (mov_lt hps1 ht) rfl
  have HS := hs
  have he : putP op xs d = (pickL xs ps1, 0) := put_mov hps1
  obtain ⟨h1, h2⟩ := Prod.mk.inj (h.symm.trans he)
  subst h1
  subst h2
  have hs := HS
  replace hs := hs.freeze 3 rfl
  exact bodyPost_ret (res2 rfl (rv_t hs rfl) (rv_t hs rfl)) hs.defers ⟨⟨ao, co, pickV vx ps1, noX⟩, rfl, hs.bel rfl, hs.retS (ks := [3, 4]) rfl (by decide)⟩
 intro hc
 rw [hc] at hps1
 refine wp_skip (then_n (wp_seq (wp_region_lit (mvv hs rfl rfl rfl fun ac hs => mvv hs rfl rfl rfl fun ac hs => mvv hs rfl rfl rfl fun ac hs => ?_))))
 replace hs := hs.nf w0 Z noX [0, 1, 2, 6, 7, 8, 9, 23, 43, 44, 45] rfl rfl rfl rfl
 obtain ⟨ys13, q14, hys13⟩ := ex2 (bytP op xs d)
 refine stp (op_callS (F := 61) (ρ := M1) hs none none (v := fun r => .tuple #[.slice r.a ys13.length r.c, .bool q14]) (E := fun r => [cL r.a ys13.length r.c r.vs, .bys r.vs ys13]) (j := 2) rfl rfl rfl rfl (call61 _) (fun hs => bytes_r op ax cx vx xs d ys13 q14 ok hd ht hys13 _ _ (hs.all (k := 0) rfl rfl) (hs.all (k := 1) rfl rfl)) (fun _ => rfl) rfl rfl fun ⟨ad15, cp16, vs17, _⟩ ac w hs => mvv hs rfl rfl rfl fun ac hs => stp (xtr hs none rfl rfl rfl rfl rfl fun ac hs => stp (xtr hs none rfl rfl rfl rfl rfl fun ac hs => asg hs rfl rfl rfl fun ac hs => asg hs rfl rfl rfl fun ac hs => wpList_nil (then_n (wp_seq (wp_seq ?_))))))
 replace hs := hs.nf w0 Z noX [0, 1, 6, 7, 12, 13] rfl rfl rfl rfl
 refine wp_region_lit (mvv hs rfl rfl rfl fun ac hs => wpList_nil (then_n (wcs hs rfl ?_ ?_)))
 ·intro hc
  rw [hc] at hys13
  refine wp_seq (wp_region_lit (mvv hs rfl rfl rfl fun ac hs => asg hs rfl rfl rfl fun ac hs => asg hs rfl rfl rfl fun ac hs => wpList_nil (then_n (wp_ret (then_r ?_)))))
  have HS := hs
  have he : putP op xs d = (ys13, 0) := put_byt hps1 hys13
  obtain ⟨h1, h2⟩ := Prod.mk.inj (h.symm.trans he)
  subst h1
  subst h2
  have hs := HS
  exact bodyPost_ret (res2 rfl (rv_t hs rfl) (rv_t hs rfl)) hs.defers ⟨⟨ad15, cp16, vs17, noX⟩, rfl, hs.bel rfl, hs.retS (ks := [3, 4]) rfl (by decide)⟩
 intro hc
 rw [hc] at hys13
 refine wp_skip (then_n (wp_seq (wp_region_lit (stp (op_bsO0 hs none none (size := 1) rfl rfl underlying73 inf_i64_2 rfl rfl fun ad19 ac w hs => asg hs rfl rfl rfl fun ac hs => wpList_nil (then_n (wp_seq (wp_seq (wp_region_lit (asg hs rfl rfl rfl fun ac hs => wpList_nil (then_n (wp_block (wp_loop_m (fun μ ac w => ∃ (i : Nat) (zs : List Int) (ao : Option Addr) (co : Nat), (xs.length - i) = μ ∧ (i ≤ xs.length) ∧ (numsP (xs.take i) = (zs, 0)) ∧ (zs.length = i) ∧ St 77 ⟨w0, [], [(true, cL ax xs.length cx vx), (true, .bys vx xs), (true, oW ao zs.length co 2 (intZ zs))], Z, noX⟩ [(0, true, nu8 op), (1, true, .slice ax xs.length cx), (14, true, .slice ao zs.length co), (15, true, ni64 i)] [] ac w) ?_ ?_)))))))))))))
 replace hs := hs.selS [0, 1, 5] rfl (by decide)
 ·exact ⟨_, 0, ([]), ad19, 0, rfl, (by omega), rfl, rfl, (hs.re (fs' := [(0, true, nu8 op), (1, true, .slice ax xs.length cx), (14, true, .slice ad19 ([]).length 0), (15, true, ni64 0)]) ⟨rfl, rfl, rfl, rfl, trivial⟩)⟩
 intro μ ac w ⟨i, zs, ao, co, hμ, hi, hns, hzl, hs⟩
 refine wp_seq (wp_seq (wp_region_lit (mvv hs rfl rfl rfl fun ac hs => mvv hs rfl rfl rfl fun ac hs => stp (op_blt hs none (v := ni64 (xs.length)) rfl rfl rfl (blt_len underlying22) rfl fun ac hs => bnn hs (.bool (decide (i < xs.length))) rfl rfl rfl rfl bin_lssN fun ac hs => wpList_nil (then_n (wcs hs rfl ?_ ?_))))))
 ·intro hc
  have hp20 := of_decide_eq_true hc
  have hlt := of_decide_eq_true hc
  obtain ⟨yi, hyi⟩ : ∃ z, xs[i]? = some z := ⟨_, List.getElem?_eq_getElem hlt⟩
  have lyi : yi.length ≤ 1000 := ok.2 _ (List.mem_of_getElem? hyi)
  obtain ⟨al, cl, hvl⟩ := bysv_at (hs.all (k := 1) rfl rfl) hyi
  replace hs := hs.pick none 1 rfl hvl hyi rfl
  refine wp_skip (then_n (wp_seq (wp_block (wp_seq (wp_region_lit (mvv hs rfl rfl rfl fun ac hs => mvv hs rfl rfl rfl fun ac hs => stp (op_idxC hs none 0 (j := i) rfl rfl rfl rfl rfl underlying22 sizeOf34 (show i < xs.length by omega) (off := i) (by omega) rfl fun ac hs => stp (op_loadC hs none 0 (u := .slice al yi.length cl) rfl rfl rfl rfl isAgg34 sizeOf34 (by decide) hvl rfl fun ac hs => ?_))))))))
  obtain ⟨z21, e22, hz21⟩ := ex2 (decN yi 4)
  refine stp (op_callV (F := 41) (ρ := Unit) hs none none (v := fun r => .tuple #[.int .i64 z21, ni64 e22]) (E := fun r => []) (j := 0) rfl rfl rfl rfl (call41 _) (fun hs => rdec_c al yi.length cl yi (Nat.le_trans lyi (by decide)) 4 z21 e22 hz21 _ _ (hs.celT (k := 3) rfl)) (fun _ => rfl) (fun _ => rfl) rfl rfl fun _ ac w hs => mvv hs rfl rfl rfl fun ac hs => stp (xtr hs none rfl rfl rfl rfl rfl fun ac hs => stp (xtr hs none rfl rfl rfl rfl rfl fun ac hs => asg hs rfl rfl rfl fun ac hs => asg hs rfl rfl rfl fun ac hs => wpList_nil (then_n (wp_seq (wp_seq ?_))))))
  replace hs := hs.nf w0 Z noX [0, 1, 14, 15, 16, 17] rfl rfl rfl rfl
  refine wp_region_lit (mvv hs rfl rfl rfl fun ac hs => bnn hs (.bool (decide (e22 ≠ 0))) rfl rfl rfl rfl (bin_neqN (y := 0)) fun ac hs => wpList_nil (then_n (wcs hs rfl ?_ ?_)))
  ·intro hc
   have hp23 := of_decide_eq_true hc
   refine wp_seq (wp_region_lit (mvv hs rfl rfl rfl fun ac hs => asg hs rfl rfl rfl fun ac hs => asg hs rfl rfl rfl fun ac hs => wpList_nil (then_n (wp_ret (then_r (blk_r (then_r (then_r (blk_r (then_r ?_))))))))))
   have HS := hs
   obtain ⟨h3, h4⟩ := nums_stop hyi hz21 hp23
   subst h3
   have he : putP op xs d = ([], 15) := put_bad hps1 hys13 h4
   obtain ⟨h1, h2⟩ := Prod.mk.inj (h.symm.trans he)
   subst h1
   subst h2
   have hs := HS
   replace hs := hs.nilCel none rfl
   replace hs := hs.nilBys none rfl
   exact bodyPost_ret (res2 rfl (rv_t hs rfl) (rv_t hs rfl)) hs.defers ⟨⟨none, 0, [], noX⟩, rfl, hs.bel rfl, hs.retS (ks := [4, 5]) rfl (by decide)⟩
  intro hc
  have hp24 := of_decide_eq_false hc
  obtain rfl : e22 = 0 := Classical.not_not.1 (of_decide_eq_false hc)
  refine wp_skip (then_n (wp_region_lit (mvv hs rfl rfl rfl fun ac hs => mvv hs rfl rfl rfl fun ac hs => stp (op_bsO hs none none (qs := [(0, .int .i64 z21)]) (cs := [.int .i64 z21]) rfl rfl rfl rfl underlying73 inf_i64_2 (by decide) (by decide) (fill_one _ _ rfl) rfl rfl rfl rfl fun ad26 ac w hs => stp (op_appR hs none 2 4 (N' := (zs ++ [z21]).length) (ys := intZ (zs ++ [z21])) rfl rfl rfl rfl rfl rfl underlying73 inf_i64_2 rfl (by decide) rfl (by intro u hu; obtain rfl := List.mem_singleton.1 hu; rfl) (by decide) (show zs.length + 1 ≤ 1000000 by omega) (by simp) (by simp [intZ]) rfl rfl fun ad27 cp28 ac w hs => asg hs rfl rfl rfl fun ac hs => wpList_nil (blk_n (then_n ?_)))))))
  replace hs := hs.nf w0 Z noX [0, 1, 14, 15] rfl rfl rfl rfl
  refine wp_region_lit (mvv hs rfl rfl rfl fun ac hs => bnn hs (ni64 (i + 1)) rfl rfl rfl rfl (bin_addN (y := 1) rfl (show i + 1 < 9223372036854775808 by omega)) fun ac hs => asg hs rfl rfl rfl fun ac hs => wpList_nil (then_n ?_))
  replace hs := hs.selS [0, 1, 2] rfl (by decide)
  exact ⟨_, ⟨(i + 1), (zs ++ [z21]), ad27, cp28, rfl, (by omega), (nums_go hns hyi hz21), (by rw [List.length_append, hzl]; rfl), (hs.re (fs' := [(0, true, nu8 op), (1, true, .slice ax xs.length cx), (14, true, .slice ad27 (zs ++ [z21]).length cp28), (15, true, ni64 ((i + 1)))]) ⟨rfl, rfl, rfl, rfl, trivial⟩)⟩, (by omega)⟩
 intro hc
 have hp29 := of_decide_eq_false hc
 have hge := of_decide_eq_false hc
 rw [List.take_of_length_le (show xs.length ≤ i by omega)] at hns
 have hzx : zs.length = xs.length := by omega
 have hkd := num_kind hps1 hys13 (n := zs.length) (by rw [hzx]; exact ht)
 refine wp_exit (then_e (then_e (blk_e (then_n (wp_seq (wp_region_lit (mvv hs rfl rfl rfl fun ac hs => mvv hs rfl rfl rfl fun ac hs => ?_)))))))
 replace hs := hs.freeze 2 rfl
 replace hs := hs.nf w0 Z noX [0, 1, 14, 15, 52, 53, 54, 55, 73, 74] rfl rfl rfl rfl
 refine stp (op_callS (F := 62) (ρ := Option Addr × Nat) hs none none (v := fun r => .slice r.1 ((rknL op zs).length) r.2) (E := fun r => [oW r.1 ((rknL op zs).length) r.2 5 (bcs (rknL op zs))]) (j := 1) rfl rfl rfl rfl (call62 _) (fun hs => rkn_c op ao co zs (nums_bd hns) hkd _ _ (hs.all (k := 2) rfl rfl)) (fun _ => rfl) rfl rfl fun ⟨ad30, cp31⟩ ac w hs => stp (op_bsO hs none none (qs := [(0, .slice ad30 ((rknL op zs).length) cp31)]) (cs := [.slice ad30 ((rknL op zs).length) cp31]) rfl rfl rfl rfl underlying22 inf_slice_34 (by decide) (by decide) (fill_one _ _ rfl) rfl rfl rfl rfl fun ad33 ac w hs => asg hs rfl rfl rfl fun ac hs => asg hs rfl rfl rfl fun ac hs => wpList_nil (then_n (wp_ret ?_))))
 replace hs := hs.freeze 4 rfl
 replace hs := hs.freeze 3 rfl
 replace hs := hs.oneY none 3 (l := rknL op zs) rfl rfl rfl
 have HS := hs
 have he : putP op xs d = ([rknL op zs], 0) := put_num hps1 hys13 hns
 obtain ⟨h1, h2⟩ := Prod.mk.inj (h.symm.trans he)
 subst h1
 subst h2
 have hs := HS
 exact bodyPost_ret (res2 rfl (rv_t hs rfl) (rv_t hs rfl)) hs.defers ⟨⟨ad33, 1, [.slice ad30 ((rknL op zs).length) cp31], noX⟩, rfl, hs.bel rfl, hs.retS (ks := [4, 5]) rfl (by decide)⟩
theorem rdo_c (am : Option Addr) (cm : Nat) (vs : List Value) (aa : Option Addr) (ca : Nat) (us : List Value) (ks js : BL) (op : Nat) (k1 j1 : BL) (e1 : Nat) (ok : OkN 1000 ks) (oj : OkN 1000 js) (hp : doP op ks js = (k1, j1, e1)) (w0 : World) (Z : Nat → Prop) (hV : CelV w0 Z (.slice am ks.length cm) ks.length vs) (hY : BysV w0 Z vs ks) (hU : CelV w0 Z (.slice aa js.length ca) js.length us) (hX : BysV w0 Z us js): Calls prog 12 #[nu8 op, .agg #[.slice am ks.length cm, .slice aa js.length ca]] w0 fun e w' => Ret w0 Z (ρ := MR) (fun r => .tuple #[.agg #[.slice r.a k1.length r.c, .slice r.b j1.length r.d], ni64 e1]) (fun r => [cL r.a k1.length r.c r.vs, .bys r.vs k1, cL r.b j1.length r.d r.us, .bys r.us j1]) e w' := by
 have hk8 : ks.length ≤ 1000 := ok.1
 have hj8 : js.length ≤ 1000 := oj.1
 refine enterS (n := 88) (args := [nu8 op, .agg #[.slice am ks.length cm, .slice aa js.length ca]]) (S := [(true, cL am ks.length cm vs), (true, .bys vs ks), (true, cL aa js.length ca us), (true, .bys us js)]) (Z := Z) func12 rfl rfl (Nat.le_of_ble_eq_true rfl) (sokC hV (sokC hY (sokC hU (sokC hX sok0)))) rfl fun ac hs => wp_seq (wp_region_lit (stp (op_box hs none none (cs := [.slice am ks.length cm, .slice aa js.length ca]) rfl rfl rfl rfl rfl rfl fun g1 ac w hs => stp (op_alloc hs none none (cs := [.slice none 0 0, .slice none 0 0]) rfl rfl zeroValue24 (by kernel_rfl) rfl rfl fun g2 ac w hs => asg hs rfl rfl rfl fun ac hs => wpList_nil (then_n (wp_seq (wp_seq ?_)))))))
 by_cases hq3 : op = 121
 ·refine wp_region_lit ?_
  refine mvv hs rfl rfl rfl fun ac hs => bnn hs (.bool true) rfl rfl rfl rfl (fun w => dT hq3 (bin_eqlN (y := 121) w)) fun ac hs => mvv hs rfl rfl rfl fun ac hs => lstep (wpO_out hs none rfl rfl (.inl rfl) rfl rfl fun ac hs => lstep (wpO_out hs none rfl rfl (.inl rfl) rfl rfl fun ac hs => stp (op_pickT hs none rfl rfl rfl rfl rfl fun ac hs => wpList_nil (then_n (wp_cond_true (hs.ev rfl) (wp_seq ?_))))))
  replace hs := hs.nf w0 Z noX [0, 3, 4, 5] rfl rfl rfl rfl
  refine wp_region_lit (mvv hs rfl rfl rfl fun ac hs => ldd hs 0 (.agg #[.slice am ks.length cm, .slice aa js.length ca]) isAgg24 sizeOf24 rfl rfl rfl rfl rfl fun ac hs => ?_)
  replace hs := hs.nf w0 Z noX [0, 3, 4, 5, 16, 17] rfl rfl rfl rfl
  obtain ⟨ks4, js5, e6, hks4⟩ := ex3 (deepP op ks js)
  refine stp (op_callS (F := 31) (ρ := MR) hs none none (v := fun r => .tuple #[.agg #[.slice r.a ks4.length r.c, .slice r.b js5.length r.d], ni64 e6]) (E := fun r => [cL r.a ks4.length r.c r.vs, .bys r.vs ks4, cL r.b js5.length r.d r.us, .bys r.us js5]) (j := 4) rfl rfl rfl rfl (call31 _) (fun hs => rdeep_c am cm vs aa ca us ks js op ks4 js5 e6 ok oj hks4 _ _ (hs.all (k := 0) rfl rfl) (hs.all (k := 1) rfl rfl) (hs.all (k := 2) rfl rfl) (hs.all (k := 3) rfl rfl)) (fun _ => rfl) rfl rfl fun ⟨ad7, cp8, vs9, ad10, cp11, us12⟩ ac w hs => stp (xtr hs none rfl rfl rfl rfl rfl fun ac hs => stp (xtr hs none rfl rfl rfl rfl rfl fun ac hs => stp (stoo hs 1 ([.slice ad7 ks4.length cp8, .slice ad10 js5.length cp11]) sizeOf24 rfl rfl rfl rfl rfl rfl rfl rfl rfl rfl fun w hs => asg hs rfl rfl rfl fun ac hs => wpList_nil (then_n (wp_ret (then_r ?_)))))))
  have HS := hs
  have h0 := hp
  rw [do_deep (.inl hq3), hks4] at h0
  obtain ⟨hk, hj, he⟩ := inj3 h0
  subst hk
  subst hj
  subst he
  have hs := HS
  exact bodyPost_ret (res2 rfl (rv_c hs 1 (v := .agg #[.slice ad7 ks4.length cp8, .slice ad10 js5.length cp11]) rfl rfl isAgg24 sizeOf24 rfl) (rv_t hs rfl)) hs.defers ⟨⟨ad7, cp8, vs9, ad10, cp11, us12⟩, rfl, hs.bel rfl, hs.retS (ks := [4, 5, 6, 7]) rfl (by decide)⟩
 refine wp_region_lit (mvv hs rfl rfl rfl fun ac hs => bnn hs (.bool false) rfl rfl rfl rfl (fun w => dF hq3 (bin_eqlN (y := 121) w)) fun ac hs => mvv hs rfl rfl rfl fun ac hs => lstep (wpO_in hs rfl rfl rfl (op_move hs none rfl rfl rfl rfl fun ac hs => lstep (wpO_in hs rfl rfl rfl (op_bin hs none (v := .bool (decide (op = 122))) rfl rfl rfl rfl (fun _ => rfl) (bin_eqlN (x := op) (y := 122)) rfl fun ac hs => stp (op_pickF hs none rfl rfl rfl rfl rfl fun ac hs => wpList_nil (then_n (wcs hs rfl ?_ ?_))))))))
 ·intro hc
  have hp13 := of_decide_eq_true hc
  refine wp_seq ?_
  replace hs := hs.nf w0 Z noX [0, 3, 4, 5] rfl rfl rfl rfl
  refine wp_region_lit (mvv hs rfl rfl rfl fun ac hs => ldd hs 0 (.agg #[.slice am ks.length cm, .slice aa js.length ca]) isAgg24 sizeOf24 rfl rfl rfl rfl rfl fun ac hs => ?_)
  replace hs := hs.nf w0 Z noX [0, 3, 4, 5, 16, 17] rfl rfl rfl rfl
  obtain ⟨ks14, js15, e16, hks14⟩ := ex3 (deepP op ks js)
  refine stp (op_callS (F := 31) (ρ := MR) hs none none (v := fun r => .tuple #[.agg #[.slice r.a ks14.length r.c, .slice r.b js15.length r.d], ni64 e16]) (E := fun r => [cL r.a ks14.length r.c r.vs, .bys r.vs ks14, cL r.b js15.length r.d r.us, .bys r.us js15]) (j := 4) rfl rfl rfl rfl (call31 _) (fun hs => rdeep_c am cm vs aa ca us ks js op ks14 js15 e16 ok oj hks14 _ _ (hs.all (k := 0) rfl rfl) (hs.all (k := 1) rfl rfl) (hs.all (k := 2) rfl rfl) (hs.all (k := 3) rfl rfl)) (fun _ => rfl) rfl rfl fun ⟨ad17, cp18, vs19, ad20, cp21, us22⟩ ac w hs => stp (xtr hs none rfl rfl rfl rfl rfl fun ac hs => stp (xtr hs none rfl rfl rfl rfl rfl fun ac hs => stp (stoo hs 1 ([.slice ad17 ks14.length cp18, .slice ad20 js15.length cp21]) sizeOf24 rfl rfl rfl rfl rfl rfl rfl rfl rfl rfl fun w hs => asg hs rfl rfl rfl fun ac hs => wpList_nil (then_n (wp_ret (then_r ?_)))))))
  have HS := hs
  have h0 := hp
  rw [do_deep (.inr hp13), hks14] at h0
  obtain ⟨hk, hj, he⟩ := inj3 h0
  subst hk
  subst hj
  subst he
  have hs := HS
  exact bodyPost_ret (res2 rfl (rv_c hs 1 (v := .agg #[.slice ad17 ks14.length cp18, .slice ad20 js15.length cp21]) rfl rfl isAgg24 sizeOf24 rfl) (rv_t hs rfl)) hs.defers ⟨⟨ad17, cp18, vs19, ad20, cp21, us22⟩, rfl, hs.bel rfl, hs.retS (ks := [4, 5, 6, 7]) rfl (by decide)⟩
 intro hc
 have hp23 := of_decide_eq_false hc
 refine wp_skip (then_n (wp_seq (wp_seq ?_)))
 by_cases hq24 : op = 107
 ·replace hs := hs.nf w0 Z noX [0, 3, 4, 5] rfl rfl rfl rfl
  refine wp_region_lit (mvv hs rfl rfl rfl fun ac hs => bnn hs (.bool true) rfl rfl rfl rfl (fun w => dT hq24 (bin_eqlN (y := 107) w)) fun ac hs => mvv hs rfl rfl rfl fun ac hs => lstep (wpO_out hs none rfl rfl (.inl rfl) rfl rfl fun ac hs => lstep (wpO_out hs none rfl rfl (.inl rfl) rfl rfl fun ac hs => stp (op_pickT hs none rfl rfl rfl rfl rfl fun ac hs => wpList_nil (then_n (wp_cond_true (hs.ev rfl) (wp_seq (wp_region_lit ?_))))))))
  refine mvv hs rfl rfl rfl fun ac hs => ldd hs 0 (.agg #[.slice am ks.length cm, .slice aa js.length ca]) isAgg24 sizeOf24 rfl rfl rfl rfl rfl fun ac hs => ?_
  replace hs := hs.nf w0 Z noX [0, 3, 4, 5, 21, 22, 23, 26, 27, 28] rfl rfl rfl rfl
  obtain ⟨ks25, js26, e27, hks25⟩ := ex3 (altP op ks js)
  refine stp (op_callS (F := 32) (ρ := MR) hs none none (v := fun r => .tuple #[.agg #[.slice r.a ks25.length r.c, .slice r.b js26.length r.d], ni64 e27]) (E := fun r => [cL r.a ks25.length r.c r.vs, .bys r.vs ks25, cL r.b js26.length r.d r.us, .bys r.us js26]) (j := 4) rfl rfl rfl rfl (call32 _) (fun hs => ralts_c am cm vs aa ca us ks js op ks25 js26 e27 ok oj hks25 _ _ (hs.all (k := 0) rfl rfl) (hs.all (k := 1) rfl rfl) (hs.all (k := 2) rfl rfl) (hs.all (k := 3) rfl rfl)) (fun _ => rfl) rfl rfl fun ⟨ad28, cp29, vs30, ad31, cp32, us33⟩ ac w hs => stp (xtr hs none rfl rfl rfl rfl rfl fun ac hs => stp (xtr hs none rfl rfl rfl rfl rfl fun ac hs => stp (stoo hs 1 ([.slice ad28 ks25.length cp29, .slice ad31 js26.length cp32]) sizeOf24 rfl rfl rfl rfl rfl rfl rfl rfl rfl rfl fun w hs => asg hs rfl rfl rfl fun ac hs => wpList_nil (then_n (wp_ret (then_r ?_)))))))
  have HS := hs
  have h0 := hp
  rw [do_alt (fun z => z.elim hq3 hp23) (.inl hq24), hks25] at h0
  obtain ⟨hk, hj, he⟩ := inj3 h0
  subst hk
  subst hj
  subst he
  have hs := HS
  exact bodyPost_ret (res2 rfl (rv_c hs 1 (v := .agg #[.slice ad28 ks25.length cp29, .slice ad31 js26.length cp32]) rfl rfl isAgg24 sizeOf24 rfl) (rv_t hs rfl)) hs.defers ⟨⟨ad28, cp29, vs30, ad31, cp32, us33⟩, rfl, hs.bel rfl, hs.retS (ks := [4, 5, 6, 7]) rfl (by decide)⟩
 replace hs := hs.nf w0 Z noX [0, 3, 4, 5] rfl rfl rfl rfl
 refine wp_region_lit (mvv hs rfl rfl rfl fun ac hs => bnn hs (.bool false) rfl rfl rfl rfl (fun w => dF hq24 (bin_eqlN (y := 107) w)) fun ac hs => mvv hs rfl rfl rfl fun ac hs => lstep (wpO_in hs rfl rfl rfl (op_move hs none rfl rfl rfl rfl fun ac hs => lstep (wpO_in hs rfl rfl rfl (op_bin hs none (v := .bool (decide (op = 108))) rfl rfl rfl rfl (fun _ => rfl) (bin_eqlN (x := op) (y := 108)) rfl fun ac hs => stp (op_pickF hs none rfl rfl rfl rfl rfl fun ac hs => wpList_nil (then_n (wcs hs rfl ?_ ?_))))))))
 ·intro hc
  have hp34 := of_decide_eq_true hc
  refine wp_seq ?_
  replace hs := hs.nf w0 Z noX [0, 3, 4, 5] rfl rfl rfl rfl
  refine wp_region_lit (mvv hs rfl rfl rfl fun ac hs => ldd hs 0 (.agg #[.slice am ks.length cm, .slice aa js.length ca]) isAgg24 sizeOf24 rfl rfl rfl rfl rfl fun ac hs => ?_)
  replace hs := hs.nf w0 Z noX [0, 3, 4, 5, 27, 28] rfl rfl rfl rfl
  obtain ⟨ks35, js36, e37, hks35⟩ := ex3 (altP op ks js)
  refine stp (op_callS (F := 32) (ρ := MR) hs none none (v := fun r => .tuple #[.agg #[.slice r.a ks35.length r.c, .slice r.b js36.length r.d], ni64 e37]) (E := fun r => [cL r.a ks35.length r.c r.vs, .bys r.vs ks35, cL r.b js36.length r.d r.us, .bys r.us js36]) (j := 4) rfl rfl rfl rfl (call32 _) (fun hs => ralts_c am cm vs aa ca us ks js op ks35 js36 e37 ok oj hks35 _ _ (hs.all (k := 0) rfl rfl) (hs.all (k := 1) rfl rfl) (hs.all (k := 2) rfl rfl) (hs.all (k := 3) rfl rfl)) (fun _ => rfl) rfl rfl fun ⟨ad38, cp39, vs40, ad41, cp42, us43⟩ ac w hs => stp (xtr hs none rfl rfl rfl rfl rfl fun ac hs => stp (xtr hs none rfl rfl rfl rfl rfl fun ac hs => stp (stoo hs 1 ([.slice ad38 ks35.length cp39, .slice ad41 js36.length cp42]) sizeOf24 rfl rfl rfl rfl rfl rfl rfl rfl rfl rfl fun w hs => asg hs rfl rfl rfl fun ac hs => wpList_nil (then_n (wp_ret (then_r ?_)))))))
  have HS := hs
  have h0 := hp
  rw [do_alt (fun z => z.elim hq3 hp23) (.inr hp34), hks35] at h0
  obtain ⟨hk, hj, he⟩ := inj3 h0
  subst hk
  subst hj
  subst he
  have hs := HS
  exact bodyPost_ret (res2 rfl (rv_c hs 1 (v := .agg #[.slice ad38 ks35.length cp39, .slice ad41 js36.length cp42]) rfl rfl isAgg24 sizeOf24 rfl) (rv_t hs rfl)) hs.defers ⟨⟨ad38, cp39, vs40, ad41, cp42, us43⟩, rfl, hs.bel rfl, hs.retS (ks := [4, 5, 6, 7]) rfl (by decide)⟩
 intro hc
 have hp44 := of_decide_eq_false hc
 refine wp_skip (then_n (wp_seq ?_))
 replace hs := hs.nf w0 Z noX [0, 3, 4, 5] rfl rfl rfl rfl
 refine wp_region_lit (mvv hs rfl rfl rfl fun ac hs => ?_)
 obtain ⟨t45, ht45⟩ := ex1 (takeI op)
 have bt45 := take_bd ht45
 refine stp (op_call (F := 33) hs none (v := .int .i64 t45) rfl rfl rfl rfl (call33 _) (takes_c op t45 ht45) rfl fun ac w hs => asg hs rfl rfl rfl fun ac hs => wpList_nil (then_n (wp_seq (wp_seq (wp_region_lit (mvv hs rfl rfl rfl fun ac hs => bnn hs (.bool (decide (t45 < 0))) rfl rfl rfl rfl (bin_lssI (y := 0)) fun ac hs => wpList_nil (then_n (wcs hs rfl ?_ ?_))))))))
 ·intro hc
  have hp46 := of_decide_eq_true hc
  refine wp_seq (wp_region_lit (stp (op_build hs none (qs := []) (v := .agg #[.slice none 0 0, .slice none 0 0]) rfl rfl rfl rfl (fun _ => by kernel_rfl) rfl fun ac hs => stp (stoo hs 1 ([.slice none 0 0, .slice none 0 0]) sizeOf24 rfl rfl rfl rfl rfl rfl rfl rfl rfl rfl fun w hs => asg hs rfl rfl rfl fun ac hs => wpList_nil (then_n (wp_ret (then_r ?_)))))))
  have HS := hs
  have h0 := hp
  rw [do_neg (fun z => z.elim hq3 hp23) (fun z => z.elim hq24 hp44) (by rw [ht45]; exact hp46)] at h0
  obtain ⟨hk, hj, he⟩ := inj3 h0
  subst hk
  subst hj
  subst he
  have hs := HS
  replace hs := hs.nilCel none rfl
  replace hs := hs.nilBys none rfl
  replace hs := hs.nilCel none rfl
  replace hs := hs.nilBys none rfl
  exact bodyPost_ret (res2 rfl (rv_c hs 1 (v := .agg #[.slice none 0 0, .slice none 0 0]) rfl rfl isAgg24 sizeOf24 rfl) (rv_t hs rfl)) hs.defers ⟨⟨none, 0, [], none, 0, []⟩, rfl, hs.bel rfl, hs.retS (ks := [4, 5, 6, 7]) rfl (by decide)⟩
 intro hc
 have hp47 := of_decide_eq_false hc
 refine wp_skip (then_n (wp_seq (wp_region_lit (stp (op_fieldA hs none rfl rfl rfl underlying24 rfl sizeOf22 (by decide) rfl fun ac hs => ldd hs 0 (.slice am ks.length cm) isAgg22 sizeOf22 rfl rfl rfl rfl rfl fun ac hs => stp (op_blt hs none (v := ni64 (ks.length)) rfl rfl rfl (blt_len underlying22) rfl fun ac hs => mvv hs rfl rfl rfl fun ac hs => bnn hs (.int .i64 (((ks.length : Nat) : Int) - t45)) rfl rfl rfl rfl (bin_subI (z := ((ks.length : Nat) : Int) - t45) rfl (by omega) (by omega)) fun ac hs => asg hs rfl rfl rfl fun ac hs => wpList_nil (then_n (wp_seq (wp_seq ?_)))))))))
 replace hs := hs.nf w0 Z noX [0, 3, 4, 5, 7] rfl rfl rfl rfl
 refine wp_region_lit (mvv hs rfl rfl rfl fun ac hs => bnn hs (.bool (decide (((ks.length : Nat) : Int) - t45 < 0))) rfl rfl rfl rfl (bin_lssI (y := 0)) fun ac hs => wpList_nil (then_n (wcs hs rfl ?_ ?_)))
 ·intro hc
  have hp48 := of_decide_eq_true hc
  refine wp_seq (wp_region_lit (stp (op_build hs none (qs := []) (v := .agg #[.slice none 0 0, .slice none 0 0]) rfl rfl rfl rfl (fun _ => by kernel_rfl) rfl fun ac hs => stp (stoo hs 1 ([.slice none 0 0, .slice none 0 0]) sizeOf24 rfl rfl rfl rfl rfl rfl rfl rfl rfl rfl fun w hs => asg hs rfl rfl rfl fun ac hs => wpList_nil (then_n (wp_ret (then_r ?_)))))))
  have HS := hs
  have h0 := hp
  rw [do_few (fun z => z.elim hq3 hp23) (fun z => z.elim hq24 hp44) (by rw [ht45]; omega) (by rw [ht45]; omega)] at h0
  obtain ⟨hk, hj, he⟩ := inj3 h0
  subst hk
  subst hj
  subst he
  have hs := HS
  replace hs := hs.nilCel none rfl
  replace hs := hs.nilBys none rfl
  replace hs := hs.nilCel none rfl
  replace hs := hs.nilBys none rfl
  exact bodyPost_ret (res2 rfl (rv_c hs 1 (v := .agg #[.slice none 0 0, .slice none 0 0]) rfl rfl isAgg24 sizeOf24 rfl) (rv_t hs rfl)) hs.defers ⟨⟨none, 0, [], none, 0, []⟩, rfl, hs.bel rfl, hs.retS (ks := [4, 5, 6, 7]) rfl (by decide)⟩
 intro hc
 have hp49 := of_decide_eq_false hc
 refine wp_skip (then_n (wp_seq ?_))
 obtain ⟨tn, htn⟩ : ∃ tn : Nat, t45 = (tn : Int) := ⟨t45.toNat, by omega⟩
 have hnl : tn ≤ ks.length := by omega
 replace hs := hs.re (fs' := [(0, true, nu8 op), (3, true, ptA g1 0), (4, true, ptA g2 0), (5, true, .int .i64 0), (7, true, ni64 (ks.length - tn)), (42, true, .int .i64 (((ks.length : Nat) : Int) - t45)), (43, true, .bool (decide (((ks.length : Nat) : Int) - t45 < 0)))]) ⟨rfl, rfl, rfl, rfl, congrArg some (congrArg (Value.int .i64) (show ((ks.length : Nat) : Int) - t45 = ((ks.length - tn : Nat) : Int) by omega)), rfl, rfl, trivial⟩
 have htd : takeI op = ((ks.drop (ks.length - tn)).length : Int) := by rw [ht45, htn, List.length_drop]; omega
 have htn2 : takeI op = (tn : Int) := ht45.trans htn
 replace hs := hs.dropY none 1 (ks.length - tn) rfl rfl
 replace hs := hs.nf w0 Z noX [0, 3, 4, 5, 7] rfl rfl rfl rfl
 obtain ⟨ys50, e51, hys50⟩ := ex2 (putP op (ks.drop (ks.length - tn)) ks.length)
 have oys50 := put_ok (ok.drop _) (show ks.length ≤ 8000 by omega) hys50
 have lys50 : ys50.length ≤ 2000 := oys50.1
 refine region_inv [([], rgn 8 6), ([], [2, 4, 8, 9, 10, 11, 12, 13]), ([1], [4, 8, 9, 10, 11, 12, 13]), ([], [4, 8, 9, 10, 11, 12, 13]), ([1, 2, 3], rgn 8 6), ([], rgn 6 8), ([5], rgn 7 7), ([5, 6], rgn 8 6), (rgn 0 8, rgn 9 5), (rgn 0 9, rgn 10 4), (rgn 0 10, [12, 13]), (rgn 0 10, [13]), (rgn 0 11, [13]), (rgn 0 13, [])] (fun L ac w => ∃ (ad52 : Option Addr) (cp53 : Nat) (vs54 : List Value), St 88 ⟨w0, [], [(true, cL am ks.length cm vs), (true, .bys vs ks), (true, cL aa js.length ca us), (true, .bys us js), (true, .bys (vs.drop (ks.length - tn)) (ks.drop (ks.length - tn))), (L 4, cL (vsa am cm 1 (ks.length - tn)) ((ks.drop (ks.length - tn)).length) (cm - (ks.length - tn)) (vs.drop (ks.length - tn))), (L 8, cL ad52 ys50.length cp53 vs54), (L 8, .bys vs54 ys50)], Z, noX⟩ [(46, L 0, nu8 op), (47, L 1, ptA g1 0), (48, L 2, .slice am ks.length cm), (49, L 3, ni64 (ks.length - tn)), (50, L 4, .slice (vsa am cm 1 (ks.length - tn)) ((ks.drop (ks.length - tn)).length) (cm - (ks.length - tn))), (51, L 5, ptA g1 0), (52, L 6, .slice am ks.length cm), (53, L 7, ni64 (ks.length)), (54, L 8, .tuple #[.slice ad52 ys50.length cp53, ni64 e51]), (45, L 9, cond (L 9) (.tuple #[.slice ad52 ys50.length cp53, ni64 e51]) undef), (55, L 10, cond (L 10) (.slice ad52 ys50.length cp53) undef), (56, L 11, ni64 e51), (8, L 12, cond (L 12) (.slice ad52 ys50.length cp53) undef), (9, L 13, ni64 e51), (0, true, nu8 op), (3, true, ptA g1 0), (4, true, ptA g2 0), (5, true, .int .i64 0), (7, true, ni64 (ks.length - tn))] [(true, g1, 24, [.slice am ks.length cm, .slice aa js.length ca]), (true, g2, 24, [.slice none 0 0, .slice none 0 0])] ac w) (by kernel_rfl) (by kernel_rfl) ?_ ?_ ?_
 ·exact ⟨none, 0, [], hs.drew.s4.s4.s4.skip.skip.padS.padS.padS⟩
 ·refine ⟨?_, ?_, ?_, ?_, ?_, ?_, ?_, ?_, ?_, ?_, ?_, ?_, ?_, ?_, trivial⟩
  ·exact fun L ac w ⟨ad52, cp53, vs54, hs⟩ => pln (omv hs 0 rfl rfl rfl fun ac hs => ⟨ad52, cp53, vs54, hs⟩)
  ·exact fun L ac w ⟨ad52, cp53, vs54, hs⟩ => pln (op_fieldA hs (some 1) rfl rfl rfl underlying24 rfl sizeOf22 (by decide) rfl fun ac hs => ⟨ad52, cp53, vs54, hs⟩)
  ·exact fun L ac w ⟨ad52, cp53, vs54, hs⟩ => pln (oldd hs 2 0 (.slice am ks.length cm) isAgg22 sizeOf22 rfl rfl rfl rfl rfl fun ac hs => ⟨ad52, cp53, vs54, hs⟩)
  ·exact fun L ac w ⟨ad52, cp53, vs54, hs⟩ => pln (omv hs 3 rfl rfl rfl fun ac hs => ⟨ad52, cp53, vs54, hs⟩)
  ·exact fun L ac w ⟨ad52, cp53, vs54, hs⟩ => pln (op_sliceR hs (some 4) (some 5) 0 (ks.length - tn) ks.length (N' := (ks.drop (ks.length - tn)).length) (cs' := vs.drop (ks.length - tn)) rfl rfl rfl rfl (.inr ⟨_, _, rfl, rfl⟩) (.inl ⟨rfl, rfl⟩) underlying22 sizeOf34 (show ks.length - tn ≤ ks.length by omega) (show ks.length ≤ ks.length by omega) (by rw [List.length_drop]) (by rw [Nat.mul_one, Nat.mul_one]; exact List.take_of_length_le (by rw [List.length_drop, (hs.rowB (k := 1) (G := noX) (.inr rfl)).1]; exact Nat.le_refl _)) rfl rfl fun ac hs => ⟨ad52, cp53, vs54, hs⟩)
  ·exact fun L ac w ⟨ad52, cp53, vs54, hs⟩ => pln (op_fieldA hs (some 5) rfl rfl rfl underlying24 rfl sizeOf22 (by decide) rfl fun ac hs => ⟨ad52, cp53, vs54, hs⟩)
  ·exact fun L ac w ⟨ad52, cp53, vs54, hs⟩ => pln (oldd hs 6 0 (.slice am ks.length cm) isAgg22 sizeOf22 rfl rfl rfl rfl rfl fun ac hs => ⟨ad52, cp53, vs54, hs⟩)
  ·exact fun L ac w ⟨ad52, cp53, vs54, hs⟩ => pln (op_blt hs (some 7) (v := ni64 (ks.length)) rfl rfl rfl (blt_len underlying22) rfl fun ac hs => ⟨ad52, cp53, vs54, hs⟩)
  ·exact fun L ac w ⟨ad52, cp53, vs54, hs⟩ => pln (op_callS (F := 34) (ρ := M1) hs (some 8) (some 6) (v := fun r => .tuple #[.slice r.a ys50.length r.c, ni64 e51]) (E := fun r => [cL r.a ys50.length r.c r.vs, .bys r.vs ys50]) (j := 2) rfl rfl rfl rfl (call34 _) (fun hs => puts_r op (vsa am cm 1 (ks.length - tn)) (cm - (ks.length - tn)) (vs.drop (ks.length - tn)) (ks.drop (ks.length - tn)) ks.length ys50 e51 (ok.drop _) (show ks.length ≤ 8000 by omega) htd hys50 _ _ (hs.all (k := 5) rfl rfl) (hs.all (k := 4) rfl rfl)) (fun _ => rfl) rfl rfl fun ⟨ad52, cp53, vs54, _⟩ ac w hs => ⟨ad52, cp53, vs54, hs⟩)
  ·exact fun L ac w ⟨ad52, cp53, vs54, hs⟩ => pln (omv hs 9 rfl rfl rfl fun ac hs => ⟨ad52, cp53, vs54, hs⟩)
  ·exact fun L ac w ⟨ad52, cp53, vs54, hs⟩ => pln (xtr hs (some 10) rfl rfl rfl rfl rfl fun ac hs => ⟨ad52, cp53, vs54, hs⟩)
  ·exact fun L ac w ⟨ad52, cp53, vs54, hs⟩ => pln (xtr hs (some 11) rfl rfl rfl rfl rfl fun ac hs => ⟨ad52, cp53, vs54, hs⟩)
  ·exact fun L ac w ⟨ad52, cp53, vs54, hs⟩ => pln (oas hs 12 rfl rfl rfl fun ac hs => ⟨ad52, cp53, vs54, hs⟩)
  ·exact fun L ac w ⟨ad52, cp53, vs54, hs⟩ => pln (oas hs 13 rfl rfl rfl fun ac hs => ⟨ad52, cp53, vs54, hs⟩)
 intro ac w ⟨ad52, cp53, vs54, hs⟩
 try dsimp only [cond_true] at hs
 refine then_n (wp_seq (wp_seq (wp_region_lit (mvv hs rfl rfl rfl fun ac hs => bnn hs (.bool (decide (e51 ≠ 0))) rfl rfl rfl rfl (bin_neqN (y := 0)) fun ac hs => wpList_nil (then_n (wcs hs rfl ?_ ?_))))))
 ·intro hc
  have hp55 := of_decide_eq_true hc
  refine wp_seq (wp_region_lit (stp (op_build hs none (qs := []) (v := .agg #[.slice none 0 0, .slice none 0 0]) rfl rfl rfl rfl (fun _ => by kernel_rfl) rfl fun ac hs => mvv hs rfl rfl rfl fun ac hs => stp (stoo hs 1 ([.slice none 0 0, .slice none 0 0]) sizeOf24 rfl rfl rfl rfl rfl rfl rfl rfl rfl rfl fun w hs => asg hs rfl rfl rfl fun ac hs => wpList_nil (then_n (wp_ret (then_r ?_)))))))
  have HS := hs
  have h0 := hp
  rw [do_bad (fun z => z.elim hq3 hp23) (fun z => z.elim hq24 hp44) htn2 hnl hys50 hp55] at h0
  obtain ⟨hk, hj, he⟩ := inj3 h0
  subst hk
  subst hj
  subst he
  have hs := HS
  replace hs := hs.nilCel none rfl
  replace hs := hs.nilBys none rfl
  replace hs := hs.nilCel none rfl
  replace hs := hs.nilBys none rfl
  exact bodyPost_ret (res2 rfl (rv_c hs 1 (v := .agg #[.slice none 0 0, .slice none 0 0]) rfl rfl isAgg24 sizeOf24 rfl) (rv_t hs rfl)) hs.defers ⟨⟨none, 0, [], none, 0, []⟩, rfl, hs.bel rfl, hs.retS (ks := [8, 9, 10, 11]) rfl (by decide)⟩
 intro hc
 have hp56 := of_decide_eq_false hc
 obtain rfl : e51 = 0 := Classical.not_not.1 (of_decide_eq_false hc)
 refine wp_skip (then_n (wp_seq (wp_seq ?_)))
 by_cases hq57 : op = 105
 ·refine wp_region_lit ?_
  refine mvv hs rfl rfl rfl fun ac hs => bnn hs (.bool true) rfl rfl rfl rfl (fun w => dT hq57 (bin_eqlN (y := 105) w)) fun ac hs => mvv hs rfl rfl rfl fun ac hs => lstep (wpO_out hs none rfl rfl (.inl rfl) rfl rfl fun ac hs => lstep (wpO_out hs none rfl rfl (.inl rfl) rfl rfl fun ac hs => stp (op_pickT hs none rfl rfl rfl rfl rfl fun ac hs => mvv hs rfl rfl rfl fun ac hs => lstep (wpO_out hs none rfl rfl (.inl rfl) rfl rfl fun ac hs => lstep (wpO_out hs none rfl rfl (.inl rfl) rfl rfl fun ac hs => stp (op_pickT hs none rfl rfl rfl rfl rfl fun ac hs => ?_))))))
  refine wpList_nil (then_n (wp_cond_true (hs.ev rfl) (wp_seq (wp_seq ?_))))
  have hvf : op = 105 ∨ op = 136 ∨ op = 157 := (.inl hq57)
  obtain ⟨yo, hyo⟩ := put_ne hvf hys50
  have hy0 : ys50[0]? = some yo := by rw [hyo]; rfl
  have hyl : ys50.length = 1 := by rw [hyo]; rfl
  obtain ⟨al, cl, hvl⟩ := bysv_at (hs.all (k := 7) rfl rfl) hy0
  replace hs := hs.pick none 7 rfl hvl hy0 rfl
  replace hs := hs.nf w0 Z noX [3, 4, 5, 7, 8] rfl rfl rfl rfl
  refine wp_region_lit (mvv hs rfl rfl rfl fun ac hs => stp (op_idxC hs none 6 (j := 0) rfl rfl rfl rfl rfl underlying22 sizeOf34 (show 0 < ys50.length by omega) (off := 0) (by omega) rfl fun ac hs => stp (op_loadC hs none 6 (u := .slice al yo.length cl) rfl rfl rfl rfl isAgg34 sizeOf34 (by decide) hvl rfl fun ac hs => stp (op_blt hs none (v := ni64 (yo.length)) rfl rfl rfl (blt_len underlying34) rfl fun ac hs => bnn hs (.bool (decide (yo.length = 0))) rfl rfl rfl rfl (bin_eqlN (y := 0)) fun ac hs => wpList_nil (then_n (wcs hs rfl ?_ ?_))))))
  ·intro hc
   have hp58 := of_decide_eq_true hc
   refine wp_seq (wp_region_lit (stp (op_build hs none (qs := []) (v := .agg #[.slice none 0 0, .slice none 0 0]) rfl rfl rfl rfl (fun _ => by kernel_rfl) rfl fun ac hs => stp (stoo hs 1 ([.slice none 0 0, .slice none 0 0]) sizeOf24 rfl rfl rfl rfl rfl rfl rfl rfl rfl rfl fun w hs => asg hs rfl rfl rfl fun ac hs => wpList_nil (then_n (wp_ret (then_r (then_r ?_))))))))
   have HS := hs
   have h0 := hp
   rw [do_ver (fun z => z.elim hq3 hp23) (fun z => z.elim hq24 hp44) htn2 hnl hys50 hvf hy0, if_pos hp58] at h0
   obtain ⟨hk, hj, he⟩ := inj3 h0
   subst hk
   subst hj
   subst he
   have hs := HS
   replace hs := hs.nilCel none rfl
   replace hs := hs.nilBys none rfl
   replace hs := hs.nilCel none rfl
   replace hs := hs.nilBys none rfl
   exact bodyPost_ret (res2 rfl (rv_c hs 1 (v := .agg #[.slice none 0 0, .slice none 0 0]) rfl rfl isAgg24 sizeOf24 rfl) (rv_t hs rfl)) hs.defers ⟨⟨none, 0, [], none, 0, []⟩, rfl, hs.bel rfl, hs.retS (ks := [9, 10, 11, 12]) rfl (by decide)⟩
  intro hc
  have hp59 := of_decide_eq_false hc
  refine wp_skip (then_n (wp_region_lit (asg hs rfl rfl rfl fun ac hs => wpList_nil (then_n (wp_seq ?_)))))
  by_cases hq60 : chkL ((ks.take (ks.length - tn)) ++ []) js = 0
  ·replace hs := hs.nf w0 Z noX [3, 4, 5, 7, 8] rfl rfl rfl rfl
   refine region_inv [([], [1, 3, 5, 8, 9, 10, 11, 12]), ([0], [3, 5, 8, 9, 10, 11, 12]), ([], [3, 5, 8, 9, 10, 11, 12]), ([0, 1, 2], [5, 8, 9, 10, 11, 12]), ([], [5, 8, 9, 10, 11, 12]), (rgn 0 5, rgn 8 5), ([], rgn 7 6), ([6], rgn 8 5), (rgn 0 8, rgn 9 4), (rgn 0 9, [11, 12]), (rgn 0 9, [11, 12]), (rgn 0 11, [12]), (rgn 0 12, [])] (fun L ac w => ∃ (ad61 : Option Addr) (cp62 : Nat), St 88 ⟨w0, [], [(true, cL am ks.length cm vs), (true, .bys vs ks), (true, cL aa js.length ca us), (true, .bys us js), (true, .bys (vs.drop (ks.length - tn)) (ks.drop (ks.length - tn))), (true, cL (vsa am cm 1 (ks.length - tn)) ((ks.drop (ks.length - tn)).length) (cm - (ks.length - tn)) (vs.drop (ks.length - tn))), (true, cL ad52 ys50.length cp53 vs54), (true, .bys vs54 ys50), (true, cL al yo.length cl (bcs yo)), (L 3, cL (vsa am cm 1 0) ((ks.take (ks.length - tn)).length) (cm - 0) (vs.take (ks.length - tn))), (L 5, oW ad61 (((ks.take (ks.length - tn)) ++ []).length) cp62 34 ((vs.take (ks.length - tn)) ++ []))], Z, noX⟩ [(77, L 0, ptA g1 0), (78, L 1, .slice am ks.length cm), (79, L 2, ni64 (ks.length - tn)), (80, L 3, .slice (vsa am cm 1 0) ((ks.take (ks.length - tn)).length) (cm - 0)), (81, L 4, .slice none 0 0), (82, L 5, .slice ad61 (((ks.take (ks.length - tn)) ++ []).length) cp62), (83, L 6, ptA g1 1), (84, L 7, .slice aa js.length ca), (85, L 8, cond (L 8) (.tuple #[.agg #[.slice ad61 (((ks.take (ks.length - tn)) ++ []).length) cp62, .slice aa js.length ca], .int .i64 0]) undef), (86, L 9, cond (L 9) (.agg #[.slice ad61 (((ks.take (ks.length - tn)) ++ []).length) cp62, .slice aa js.length ca]) undef), (87, L 10, .int .i64 0), (5, L 12, .int .i64 0), (3, true, ptA g1 0), (4, true, ptA g2 0), (5, true, .int .i64 0), (7, true, ni64 (ks.length - tn)), (8, true, .slice none 0 0)] [(true, g1, 24, [.slice am ks.length cm, .slice aa js.length ca]), (true, g2, 24, (cond (L 11) [.slice ad61 (((ks.take (ks.length - tn)) ++ []).length) cp62, .slice aa js.length ca] [.slice none 0 0, .slice none 0 0]))] ac w) (by kernel_rfl) (by kernel_rfl) ?_ ?_ ?_
   ·exact ⟨none, 0, hs.drew.s4.s4.s4.padS.padS⟩
   ·refine ⟨?_, ?_, ?_, ?_, ?_, ?_, ?_, ?_, ?_, ?_, ?_, ?_, ?_, trivial⟩
    ·exact fun L ac w ⟨ad61, cp62, hs⟩ => pln (op_fieldA hs (some 0) rfl rfl rfl underlying24 rfl sizeOf22 (by decide) rfl fun ac hs => ⟨ad61, cp62, hs⟩)
    ·exact fun L ac w ⟨ad61, cp62, hs⟩ => pln (oldd hs 1 0 (.slice am ks.length cm) isAgg22 sizeOf22 rfl rfl rfl rfl rfl fun ac hs => ⟨ad61, cp62, hs⟩)
    ·exact fun L ac w ⟨ad61, cp62, hs⟩ => pln (omv hs 2 rfl rfl rfl fun ac hs => ⟨ad61, cp62, hs⟩)
    ·exact fun L ac w ⟨ad61, cp62, hs⟩ => pln (op_sliceR hs (some 3) (some 9) 0 0 (ks.length - tn) (N' := (ks.take (ks.length - tn)).length) (cs' := vs.take (ks.length - tn)) rfl rfl rfl rfl (.inl ⟨rfl, rfl⟩) (.inr ⟨_, _, rfl, rfl⟩) underlying22 sizeOf34 (show 0 ≤ ks.length - tn by omega) (show ks.length - tn ≤ ks.length by omega) (by rw [List.length_take]; omega) (by simp) rfl rfl fun ac hs => ⟨ad61, cp62, hs⟩)
    ·exact fun L ac w ⟨ad61, cp62, hs⟩ => pln (omv hs 4 rfl rfl rfl fun ac hs => ⟨ad61, cp62, hs⟩)
    ·exact fun L ac w ⟨ad61, cp62, hs⟩ => pln (op_callV (F := 36) (ρ := Option Addr × Nat) hs (some 5) (some 10) (v := fun r => .slice r.1 ((List.append (ks.take (ks.length - tn)) []).length) r.2) (E := fun r => [oW r.1 ((List.append (ks.take (ks.length - tn)) []).length) r.2 34 ((vs.take (ks.length - tn)) ++ [])]) (j := 1) rfl rfl rfl rfl (call36 _) (fun hs => with_c (vsa am cm 1 0) (cm - 0) (vs.take (ks.length - tn)) (ks.take (ks.length - tn)) none 0 ([]) ([]) (show (ks.take (ks.length - tn)).length + ([]).length ≤ 1000000 by first | omega | ((try simp only [List.length_drop, List.length_take, List.length_append, List.length_cons, List.length_nil]); omega)) _ _ (hs.celT (k := 9) rfl) ((hs.rowB (k := 1) (G := noX) (.inr rfl)).take (ks.length - tn)) celv_nil bysv_nil) (fun _ => rfl) (fun _ => rfl) rfl rfl fun ⟨ad61, cp62⟩ ac w hs => ⟨ad61, cp62, hs⟩)
    ·exact fun L ac w ⟨ad61, cp62, hs⟩ => pln (op_fieldA hs (some 6) rfl rfl rfl underlying24 rfl sizeOf22 (by decide) rfl fun ac hs => ⟨ad61, cp62, hs⟩)
    ·exact fun L ac w ⟨ad61, cp62, hs⟩ => pln (oldd hs 7 0 (.slice aa js.length ca) isAgg22 sizeOf22 rfl rfl rfl rfl rfl fun ac hs => ⟨ad61, cp62, hs⟩)
    ·exact fun L ac w ⟨ad61, cp62, hs⟩ => pln (op_callV (F := 35) (ρ := Unit) hs (some 8) none (v := fun r => .tuple #[.agg #[.slice ad61 ((List.append (ks.take (ks.length - tn)) []).length) cp62, .slice aa js.length ca], .int .i64 0]) (E := fun r => []) (j := 0) rfl rfl rfl rfl (call35 _) (fun hs => checkedT_c ad61 cp62 ((vs.take (ks.length - tn)) ++ []) aa ca us ((ks.take (ks.length - tn)) ++ []) js ((ok.take _).app OkN.nil) (oj.mono (by decide)) hq60 _ _ (hs.celT (k := 10) rfl) (bysv_app ((hs.rowB (k := 1) (G := noX) (.inr rfl)).take (ks.length - tn)) bysv_nil) (hs.celT (k := 2) rfl) (hs.rowB (k := 3) (G := noX) (.inr rfl))) (fun _ => rfl) (fun _ => rfl) rfl rfl fun _ ac w hs => ⟨ad61, cp62, hs⟩)
    ·exact fun L ac w ⟨ad61, cp62, hs⟩ => pln (xtr hs (some 9) rfl rfl rfl rfl rfl fun ac hs => ⟨ad61, cp62, hs⟩)
    ·exact fun L ac w ⟨ad61, cp62, hs⟩ => pln (xtr hs (some 10) rfl rfl rfl rfl rfl fun ac hs => ⟨ad61, cp62, hs⟩)
    ·exact fun L ac w ⟨ad61, cp62, hs⟩ => pln (stoo hs 1 ([.slice ad61 ((List.append (ks.take (ks.length - tn)) []).length) cp62, .slice aa js.length ca]) sizeOf24 rfl rfl rfl rfl rfl rfl rfl rfl rfl rfl fun w hs => ⟨ad61, cp62, hs⟩)
    ·exact fun L ac w ⟨ad61, cp62, hs⟩ => pln (oas hs 11 rfl rfl rfl fun ac hs => ⟨ad61, cp62, hs⟩)
   intro ac w ⟨ad61, cp62, hs⟩
   try dsimp only [cond_true] at hs
   refine then_n (wp_ret ?_)
   have HS := hs
   have h0 := hp
   rw [do_ver (fun z => z.elim hq3 hp23) (fun z => z.elim hq24 hp44) htn2 hnl hys50 hvf hy0, if_neg hp59] at h0
   unfold donL at h0
   rw [if_pos rfl] at h0
   rw [if_pos hq60] at h0
   obtain ⟨hk, hj, he⟩ := inj3 h0
   subst hk
   subst hj
   subst he
   have hs := HS
   replace hs := hs.freeze 10 rfl
   replace hs := hs.takeY none 1 (ks.length - tn) rfl rfl
   replace hs := hs.nilBys none rfl
   replace hs := hs.joinY none 11 12 rfl rfl rfl
   exact bodyPost_ret (res2 rfl (rv_c hs 1 (v := .agg #[.slice ad61 (((ks.take (ks.length - tn)) ++ []).length) cp62, .slice aa js.length ca]) rfl rfl isAgg24 sizeOf24 rfl) (rv_t hs rfl)) hs.defers ⟨⟨ad61, cp62, (vs.take (ks.length - tn)) ++ [], aa, ca, us⟩, rfl, hs.bel rfl, hs.retS (ks := [10, 13, 2, 3]) rfl (by decide)⟩
  replace hs := hs.nf w0 Z noX [3, 4, 5, 7, 8] rfl rfl rfl rfl
  refine region_inv [([], [1, 3, 5, 8, 9, 10, 11, 12]), ([0], [3, 5, 8, 9, 10, 11, 12]), ([], [3, 5, 8, 9, 10, 11, 12]), ([0, 1, 2], [5, 8, 9, 10, 11, 12]), ([], [5, 8, 9, 10, 11, 12]), (rgn 0 5, rgn 8 5), ([], rgn 7 6), ([6], rgn 8 5), (rgn 0 8, rgn 9 4), (rgn 0 9, [11, 12]), (rgn 0 9, [11, 12]), (rgn 0 11, [12]), (rgn 0 12, [])] (fun L ac w => ∃ (ad63 : Option Addr) (cp64 : Nat), St 88 ⟨w0, [], [(true, cL am ks.length cm vs), (true, .bys vs ks), (true, cL aa js.length ca us), (true, .bys us js), (true, .bys (vs.drop (ks.length - tn)) (ks.drop (ks.length - tn))), (true, cL (vsa am cm 1 (ks.length - tn)) ((ks.drop (ks.length - tn)).length) (cm - (ks.length - tn)) (vs.drop (ks.length - tn))), (true, cL ad52 ys50.length cp53 vs54), (true, .bys vs54 ys50), (true, cL al yo.length cl (bcs yo)), (L 3, cL (vsa am cm 1 0) ((ks.take (ks.length - tn)).length) (cm - 0) (vs.take (ks.length - tn))), (L 5, oW ad63 (((ks.take (ks.length - tn)) ++ []).length) cp64 34 ((vs.take (ks.length - tn)) ++ []))], Z, noX⟩ [(77, L 0, ptA g1 0), (78, L 1, .slice am ks.length cm), (79, L 2, ni64 (ks.length - tn)), (80, L 3, .slice (vsa am cm 1 0) ((ks.take (ks.length - tn)).length) (cm - 0)), (81, L 4, .slice none 0 0), (82, L 5, .slice ad63 (((ks.take (ks.length - tn)) ++ []).length) cp64), (83, L 6, ptA g1 1), (84, L 7, .slice aa js.length ca), (85, L 8, .tuple #[.agg #[.slice none 0 0, .slice none 0 0], .int .i64 ((chkL ((ks.take (ks.length - tn)) ++ []) js : Nat) : Int)]), (86, L 9, .agg #[.slice none 0 0, .slice none 0 0]), (87, L 10, .int .i64 ((chkL ((ks.take (ks.length - tn)) ++ []) js : Nat) : Int)), (5, L 12, .int .i64 ((chkL ((ks.take (ks.length - tn)) ++ []) js : Nat) : Int)), (3, true, ptA g1 0), (4, true, ptA g2 0), (5, true, .int .i64 0), (7, true, ni64 (ks.length - tn)), (8, true, .slice none 0 0)] [(true, g1, 24, [.slice am ks.length cm, .slice aa js.length ca]), (true, g2, 24, (cond (L 11) [.slice none 0 0, .slice none 0 0] [.slice none 0 0, .slice none 0 0]))] ac w) (by kernel_rfl) (by kernel_rfl) ?_ ?_ ?_
  ·exact ⟨none, 0, hs.drew.s4.s4.s4.padS.padS⟩
  ·refine ⟨?_, ?_, ?_, ?_, ?_, ?_, ?_, ?_, ?_, ?_, ?_, ?_, ?_, trivial⟩
   ·exact fun L ac w ⟨ad63, cp64, hs⟩ => pln (op_fieldA hs (some 0) rfl rfl rfl underlying24 rfl sizeOf22 (by decide) rfl fun ac hs => ⟨ad63, cp64, hs⟩)
   ·exact fun L ac w ⟨ad63, cp64, hs⟩ => pln (oldd hs 1 0 (.slice am ks.length cm) isAgg22 sizeOf22 rfl rfl rfl rfl rfl fun ac hs => ⟨ad63, cp64, hs⟩)
   ·exact fun L ac w ⟨ad63, cp64, hs⟩ => pln (omv hs 2 rfl rfl rfl fun ac hs => ⟨ad63, cp64, hs⟩)
   ·exact fun L ac w ⟨ad63, cp64, hs⟩ => pln (op_sliceR hs (some 3) (some 9) 0 0 (ks.length - tn) (N' := (ks.take (ks.length - tn)).length) (cs' := vs.take (ks.length - tn)) rfl rfl rfl rfl (.inl ⟨rfl, rfl⟩) (.inr ⟨_, _, rfl, rfl⟩) underlying22 sizeOf34 (show 0 ≤ ks.length - tn by omega) (show ks.length - tn ≤ ks.length by omega) (by rw [List.length_take]; omega) (by simp) rfl rfl fun ac hs => ⟨ad63, cp64, hs⟩)
   ·exact fun L ac w ⟨ad63, cp64, hs⟩ => pln (omv hs 4 rfl rfl rfl fun ac hs => ⟨ad63, cp64, hs⟩)
   ·exact fun L ac w ⟨ad63, cp64, hs⟩ => pln (op_callV (F := 36) (ρ := Option Addr × Nat) hs (some 5) (some 10) (v := fun r => .slice r.1 ((List.append (ks.take (ks.length - tn)) []).length) r.2) (E := fun r => [oW r.1 ((List.append (ks.take (ks.length - tn)) []).length) r.2 34 ((vs.take (ks.length - tn)) ++ [])]) (j := 1) rfl rfl rfl rfl (call36 _) (fun hs => with_c (vsa am cm 1 0) (cm - 0) (vs.take (ks.length - tn)) (ks.take (ks.length - tn)) none 0 ([]) ([]) (show (ks.take (ks.length - tn)).length + ([]).length ≤ 1000000 by first | omega | ((try simp only [List.length_drop, List.length_take, List.length_append, List.length_cons, List.length_nil]); omega)) _ _ (hs.celT (k := 9) rfl) ((hs.rowB (k := 1) (G := noX) (.inr rfl)).take (ks.length - tn)) celv_nil bysv_nil) (fun _ => rfl) (fun _ => rfl) rfl rfl fun ⟨ad63, cp64⟩ ac w hs => ⟨ad63, cp64, hs⟩)
   ·exact fun L ac w ⟨ad63, cp64, hs⟩ => pln (op_fieldA hs (some 6) rfl rfl rfl underlying24 rfl sizeOf22 (by decide) rfl fun ac hs => ⟨ad63, cp64, hs⟩)
   ·exact fun L ac w ⟨ad63, cp64, hs⟩ => pln (oldd hs 7 0 (.slice aa js.length ca) isAgg22 sizeOf22 rfl rfl rfl rfl rfl fun ac hs => ⟨ad63, cp64, hs⟩)
   ·exact fun L ac w ⟨ad63, cp64, hs⟩ => pln (op_callV (F := 35) (ρ := Unit) hs (some 8) none (v := fun r => .tuple #[.agg #[.slice none 0 0, .slice none 0 0], .int .i64 ((chkL ((ks.take (ks.length - tn)) ++ []) js : Nat) : Int)]) (E := fun r => []) (j := 0) rfl rfl rfl rfl (call35 _) (fun hs => checkedF_c ad63 cp64 ((vs.take (ks.length - tn)) ++ []) aa ca us ((ks.take (ks.length - tn)) ++ []) js (chkL ((ks.take (ks.length - tn)) ++ []) js) hq60 ((ok.take _).app OkN.nil) (oj.mono (by decide)) rfl _ _ (hs.celT (k := 10) rfl) (bysv_app ((hs.rowB (k := 1) (G := noX) (.inr rfl)).take (ks.length - tn)) bysv_nil) (hs.celT (k := 2) rfl) (hs.rowB (k := 3) (G := noX) (.inr rfl))) (fun _ => rfl) (fun _ => rfl) rfl rfl fun _ ac w hs => ⟨ad63, cp64, hs⟩)
   ·exact fun L ac w ⟨ad63, cp64, hs⟩ => pln (xtr hs (some 9) rfl rfl rfl rfl rfl fun ac hs => ⟨ad63, cp64, hs⟩)
   ·exact fun L ac w ⟨ad63, cp64, hs⟩ => pln (xtr hs (some 10) rfl rfl rfl rfl rfl fun ac hs => ⟨ad63, cp64, hs⟩)
   ·exact fun L ac w ⟨ad63, cp64, hs⟩ => pln (stoo hs 1 ([.slice none 0 0, .slice none 0 0]) sizeOf24 rfl rfl rfl rfl rfl rfl rfl rfl rfl rfl fun w hs => ⟨ad63, cp64, hs⟩)
   ·exact fun L ac w ⟨ad63, cp64, hs⟩ => pln (oas hs 11 rfl rfl rfl fun ac hs => ⟨ad63, cp64, hs⟩)
  intro ac w ⟨ad63, cp64, hs⟩
  try dsimp only [cond_true] at hs
  refine then_n (wp_ret ?_)
  have HS := hs
  have h0 := hp
  rw [do_ver (fun z => z.elim hq3 hp23) (fun z => z.elim hq24 hp44) htn2 hnl hys50 hvf hy0, if_neg hp59] at h0
  unfold donL at h0
  rw [if_pos rfl] at h0
  rw [if_neg hq60] at h0
  obtain ⟨hk, hj, he⟩ := inj3 h0
  subst hk
  subst hj
  subst he
  have hs := HS
  replace hs := hs.nilCel none rfl
  replace hs := hs.nilBys none rfl
  replace hs := hs.nilCel none rfl
  replace hs := hs.nilBys none rfl
  exact bodyPost_ret (res2 rfl (rv_c hs 1 (v := .agg #[.slice none 0 0, .slice none 0 0]) rfl rfl isAgg24 sizeOf24 rfl) (rv_t hs rfl)) hs.defers ⟨⟨none, 0, [], none, 0, []⟩, rfl, hs.bel rfl, hs.retS (ks := [11, 12, 13, 14]) rfl (by decide)⟩
 by_cases hq65 : op = 136
 ·refine wp_region_lit ?_
  refine mvv hs rfl rfl rfl fun ac hs => bnn hs (.bool false) rfl rfl rfl rfl (fun w => dF hq57 (bin_eqlN (y := 105) w)) fun ac hs => mvv hs rfl rfl rfl fun ac hs => lstep (wpO_in hs rfl rfl rfl (op_move hs none rfl rfl rfl rfl fun ac hs => lstep (wpO_in hs rfl rfl rfl (op_bin hs none (v := .bool true) rfl rfl rfl rfl (fun _ => rfl) (fun w => dT hq65 (bin_eqlN (x := op) (y := 136) w)) rfl fun ac hs => stp (op_pickF hs none rfl rfl rfl rfl rfl fun ac hs => mvv hs rfl rfl rfl fun ac hs => lstep (wpO_out hs none rfl rfl (.inl rfl) rfl rfl fun ac hs => lstep (wpO_out hs none rfl rfl (.inl rfl) rfl rfl fun ac hs => stp (op_pickT hs none rfl rfl rfl rfl rfl fun ac hs => ?_))))))))
  refine wpList_nil (then_n (wp_cond_true (hs.ev rfl) (wp_seq (wp_seq ?_))))
  have hvf : op = 105 ∨ op = 136 ∨ op = 157 := (.inr (.inl hq65))
  obtain ⟨yo, hyo⟩ := put_ne hvf hys50
  have hy0 : ys50[0]? = some yo := by rw [hyo]; rfl
  have hyl : ys50.length = 1 := by rw [hyo]; rfl
  obtain ⟨al, cl, hvl⟩ := bysv_at (hs.all (k := 7) rfl rfl) hy0
  replace hs := hs.pick none 7 rfl hvl hy0 rfl
  replace hs := hs.nf w0 Z noX [3, 4, 5, 7, 8] rfl rfl rfl rfl
  refine wp_region_lit (mvv hs rfl rfl rfl fun ac hs => stp (op_idxC hs none 6 (j := 0) rfl rfl rfl rfl rfl underlying22 sizeOf34 (show 0 < ys50.length by omega) (off := 0) (by omega) rfl fun ac hs => stp (op_loadC hs none 6 (u := .slice al yo.length cl) rfl rfl rfl rfl isAgg34 sizeOf34 (by decide) hvl rfl fun ac hs => stp (op_blt hs none (v := ni64 (yo.length)) rfl rfl rfl (blt_len underlying34) rfl fun ac hs => bnn hs (.bool (decide (yo.length = 0))) rfl rfl rfl rfl (bin_eqlN (y := 0)) fun ac hs => wpList_nil (then_n (wcs hs rfl ?_ ?_))))))
  ·intro hc
   have hp66 := of_decide_eq_true hc
   refine wp_seq (wp_region_lit (stp (op_build hs none (qs := []) (v := .agg #[.slice none 0 0, .slice none 0 0]) rfl rfl rfl rfl (fun _ => by kernel_rfl) rfl fun ac hs => stp (stoo hs 1 ([.slice none 0 0, .slice none 0 0]) sizeOf24 rfl rfl rfl rfl rfl rfl rfl rfl rfl rfl fun w hs => asg hs rfl rfl rfl fun ac hs => wpList_nil (then_n (wp_ret (then_r (then_r ?_))))))))
   have HS := hs
   have h0 := hp
   rw [do_ver (fun z => z.elim hq3 hp23) (fun z => z.elim hq24 hp44) htn2 hnl hys50 hvf hy0, if_pos hp66] at h0
   obtain ⟨hk, hj, he⟩ := inj3 h0
   subst hk
   subst hj
   subst he
   have hs := HS
   replace hs := hs.nilCel none rfl
   replace hs := hs.nilBys none rfl
   replace hs := hs.nilCel none rfl
   replace hs := hs.nilBys none rfl
   exact bodyPost_ret (res2 rfl (rv_c hs 1 (v := .agg #[.slice none 0 0, .slice none 0 0]) rfl rfl isAgg24 sizeOf24 rfl) (rv_t hs rfl)) hs.defers ⟨⟨none, 0, [], none, 0, []⟩, rfl, hs.bel rfl, hs.retS (ks := [9, 10, 11, 12]) rfl (by decide)⟩
  intro hc
  have hp67 := of_decide_eq_false hc
  refine wp_skip (then_n (wp_region_lit (asg hs rfl rfl rfl fun ac hs => wpList_nil (then_n (wp_seq ?_)))))
  by_cases hq68 : chkL ((ks.take (ks.length - tn)) ++ []) js = 0
  ·replace hs := hs.nf w0 Z noX [3, 4, 5, 7, 8] rfl rfl rfl rfl
   refine region_inv [([], [1, 3, 5, 8, 9, 10, 11, 12]), ([0], [3, 5, 8, 9, 10, 11, 12]), ([], [3, 5, 8, 9, 10, 11, 12]), ([0, 1, 2], [5, 8, 9, 10, 11, 12]), ([], [5, 8, 9, 10, 11, 12]), (rgn 0 5, rgn 8 5), ([], rgn 7 6), ([6], rgn 8 5), (rgn 0 8, rgn 9 4), (rgn 0 9, [11, 12]), (rgn 0 9, [11, 12]), (rgn 0 11, [12]), (rgn 0 12, [])] (fun L ac w => ∃ (ad69 : Option Addr) (cp70 : Nat), St 88 ⟨w0, [], [(true, cL am ks.length cm vs), (true, .bys vs ks), (true, cL aa js.length ca us), (true, .bys us js), (true, .bys (vs.drop (ks.length - tn)) (ks.drop (ks.length - tn))), (true, cL (vsa am cm 1 (ks.length - tn)) ((ks.drop (ks.length - tn)).length) (cm - (ks.length - tn)) (vs.drop (ks.length - tn))), (true, cL ad52 ys50.length cp53 vs54), (true, .bys vs54 ys50), (true, cL al yo.length cl (bcs yo)), (L 3, cL (vsa am cm 1 0) ((ks.take (ks.length - tn)).length) (cm - 0) (vs.take (ks.length - tn))), (L 5, oW ad69 (((ks.take (ks.length - tn)) ++ []).length) cp70 34 ((vs.take (ks.length - tn)) ++ []))], Z, noX⟩ [(77, L 0, ptA g1 0), (78, L 1, .slice am ks.length cm), (79, L 2, ni64 (ks.length - tn)), (80, L 3, .slice (vsa am cm 1 0) ((ks.take (ks.length - tn)).length) (cm - 0)), (81, L 4, .slice none 0 0), (82, L 5, .slice ad69 (((ks.take (ks.length - tn)) ++ []).length) cp70), (83, L 6, ptA g1 1), (84, L 7, .slice aa js.length ca), (85, L 8, cond (L 8) (.tuple #[.agg #[.slice ad69 (((ks.take (ks.length - tn)) ++ []).length) cp70, .slice aa js.length ca], .int .i64 0]) undef), (86, L 9, cond (L 9) (.agg #[.slice ad69 (((ks.take (ks.length - tn)) ++ []).length) cp70, .slice aa js.length ca]) undef), (87, L 10, .int .i64 0), (5, L 12, .int .i64 0), (3, true, ptA g1 0), (4, true, ptA g2 0), (5, true, .int .i64 0), (7, true, ni64 (ks.length - tn)), (8, true, .slice none 0 0)] [(true, g1, 24, [.slice am ks.length cm, .slice aa js.length ca]), (true, g2, 24, (cond (L 11) [.slice ad69 (((ks.take (ks.length - tn)) ++ []).length) cp70, .slice aa js.length ca] [.slice none 0 0, .slice none 0 0]))] ac w) (by kernel_rfl) (by kernel_rfl) ?_ ?_ ?_
   ·exact ⟨none, 0, hs.drew.s4.s4.s4.padS.padS⟩
   ·refine ⟨?_, ?_, ?_, ?_, ?_, ?_, ?_, ?_, ?_, ?_, ?_, ?_, ?_, trivial⟩
    ·exact fun L ac w ⟨ad69, cp70, hs⟩ => pln (op_fieldA hs (some 0) rfl rfl rfl underlying24 rfl sizeOf22 (by decide) rfl fun ac hs => ⟨ad69, cp70, hs⟩)
    ·exact fun L ac w ⟨ad69, cp70, hs⟩ => pln (oldd hs 1 0 (.slice am ks.length cm) isAgg22 sizeOf22 rfl rfl rfl rfl rfl fun ac hs => ⟨ad69, cp70, hs⟩)
    ·exact fun L ac w ⟨ad69, cp70, hs⟩ => pln (omv hs 2 rfl rfl rfl fun ac hs => ⟨ad69, cp70, hs⟩)
    ·exact fun L ac w ⟨ad69, cp70, hs⟩ => pln (op_sliceR hs (some 3) (some 9) 0 0 (ks.length - tn) (N' := (ks.take (ks.length - tn)).length) (cs' := vs.take (ks.length - tn)) rfl rfl rfl rfl (.inl ⟨rfl, rfl⟩) (.inr ⟨_, _, rfl, rfl⟩) underlying22 sizeOf34 (show 0 ≤ ks.length - tn by omega) (show ks.length - tn ≤ ks.length by omega) (by rw [List.length_take]; omega) (by simp) rfl rfl fun ac hs => ⟨ad69, cp70, hs⟩)
    ·exact fun L ac w ⟨ad69, cp70, hs⟩ => pln (omv hs 4 rfl rfl rfl fun ac hs => ⟨ad69, cp70, hs⟩)
    ·exact fun L ac w ⟨ad69, cp70, hs⟩ => pln (op_callV (F := 36) (ρ := Option Addr × Nat) hs (some 5) (some 10) (v := fun r => .slice r.1 ((List.append (ks.take (ks.length - tn)) []).length) r.2) (E := fun r => [oW r.1 ((List.append (ks.take (ks.length - tn)) []).length) r.2 34 ((vs.take (ks.length - tn)) ++ [])]) (j := 1) rfl rfl rfl rfl (call36 _) (fun hs => with_c (vsa am cm 1 0) (cm - 0) (vs.take (ks.length - tn)) (ks.take (ks.length - tn)) none 0 ([]) ([]) (show (ks.take (ks.length - tn)).length + ([]).length ≤ 1000000 by first | omega | ((try simp only [List.length_drop, List.length_take, List.length_append, List.length_cons, List.length_nil]); omega)) _ _ (hs.celT (k := 9) rfl) ((hs.rowB (k := 1) (G := noX) (.inr rfl)).take (ks.length - tn)) celv_nil bysv_nil) (fun _ => rfl) (fun _ => rfl) rfl rfl fun ⟨ad69, cp70⟩ ac w hs => ⟨ad69, cp70, hs⟩)
    ·exact fun L ac w ⟨ad69, cp70, hs⟩ => pln (op_fieldA hs (some 6) rfl rfl rfl underlying24 rfl sizeOf22 (by decide) rfl fun ac hs => ⟨ad69, cp70, hs⟩)
    ·exact fun L ac w ⟨ad69, cp70, hs⟩ => pln (oldd hs 7 0 (.slice aa js.length ca) isAgg22 sizeOf22 rfl rfl rfl rfl rfl fun ac hs => ⟨ad69, cp70, hs⟩)
    ·exact fun L ac w ⟨ad69, cp70, hs⟩ => pln (op_callV (F := 35) (ρ := Unit) hs (some 8) none (v := fun r => .tuple #[.agg #[.slice ad69 ((List.append (ks.take (ks.length - tn)) []).length) cp70, .slice aa js.length ca], .int .i64 0]) (E := fun r => []) (j := 0) rfl rfl rfl rfl (call35 _) (fun hs => checkedT_c ad69 cp70 ((vs.take (ks.length - tn)) ++ []) aa ca us ((ks.take (ks.length - tn)) ++ []) js ((ok.take _).app OkN.nil) (oj.mono (by decide)) hq68 _ _ (hs.celT (k := 10) rfl) (bysv_app ((hs.rowB (k := 1) (G := noX) (.inr rfl)).take (ks.length - tn)) bysv_nil) (hs.celT (k := 2) rfl) (hs.rowB (k := 3) (G := noX) (.inr rfl))) (fun _ => rfl) (fun _ => rfl) rfl rfl fun _ ac w hs => ⟨ad69, cp70, hs⟩)
    ·exact fun L ac w ⟨ad69, cp70, hs⟩ => pln (xtr hs (some 9) rfl rfl rfl rfl rfl fun ac hs => ⟨ad69, cp70, hs⟩)
    ·exact fun L ac w ⟨ad69, cp70, hs⟩ => pln (xtr hs (some 10) rfl rfl rfl rfl rfl fun ac hs => ⟨ad69, cp70, hs⟩)
    ·exact fun L ac w ⟨ad69, cp70, hs⟩ => pln (stoo hs 1 ([.slice ad69 ((List.append (ks.take (ks.length - tn)) []).length) cp70, .slice aa js.length ca]) sizeOf24 rfl rfl rfl rfl rfl rfl rfl rfl rfl rfl fun w hs => ⟨ad69, cp70, hs⟩)
    ·exact fun L ac w ⟨ad69, cp70, hs⟩ => pln (oas hs 11 rfl rfl rfl fun ac hs => ⟨ad69, cp70, hs⟩)
   intro ac w ⟨ad69, cp70, hs⟩
   try dsimp only [cond_true] at hs
   refine then_n (wp_ret ?_)
   have HS := hs
   have h0 := hp
   rw [do_ver (fun z => z.elim hq3 hp23) (fun z => z.elim hq24 hp44) htn2 hnl hys50 hvf hy0, if_neg hp67] at h0
   unfold donL at h0
   rw [if_pos rfl] at h0
   rw [if_pos hq68] at h0
   obtain ⟨hk, hj, he⟩ := inj3 h0
   subst hk
   subst hj
   subst he
   have hs := HS
   replace hs := hs.freeze 10 rfl
   replace hs := hs.takeY none 1 (ks.length - tn) rfl rfl
   replace hs := hs.nilBys none rfl
   replace hs := hs.joinY none 11 12 rfl rfl rfl
   exact bodyPost_ret (res2 rfl (rv_c hs 1 (v := .agg #[.slice ad69 (((ks.take (ks.length - tn)) ++ []).length) cp70, .slice aa js.length ca]) rfl rfl isAgg24 sizeOf24 rfl) (rv_t hs rfl)) hs.defers ⟨⟨ad69, cp70, (vs.take (ks.length - tn)) ++ [], aa, ca, us⟩, rfl, hs.bel rfl, hs.retS (ks := [10, 13, 2, 3]) rfl (by decide)⟩
  replace hs := hs.nf w0 Z noX [3, 4, 5, 7, 8] rfl rfl rfl rfl
  refine region_inv [([], [1, 3, 5, 8, 9, 10, 11, 12]), ([0], [3, 5, 8, 9, 10, 11, 12]), ([], [3, 5, 8, 9, 10, 11, 12]), ([0, 1, 2], [5, 8, 9, 10, 11, 12]), ([], [5, 8, 9, 10, 11, 12]), (rgn 0 5, rgn 8 5), ([], rgn 7 6), ([6], rgn 8 5), (rgn 0 8, rgn 9 4), (rgn 0 9, [11, 12]), (rgn 0 9, [11, 12]), (rgn 0 11, [12]), (rgn 0 12, [])] (fun L ac w => ∃ (ad71 : Option Addr) (cp72 : Nat), St 88 ⟨w0, [], [(true, cL am ks.length cm vs), (true, .bys vs ks), (true, cL aa js.length ca us), (true, .bys us js), (true, .bys (vs.drop (ks.length - tn)) (ks.drop (ks.length - tn))), (true, cL (vsa am cm 1 (ks.length - tn)) ((ks.drop (ks.length - tn)).length) (cm - (ks.length - tn)) (vs.drop (ks.length - tn))), (true, cL ad52 ys50.length cp53 vs54), (true, .bys vs54 ys50), (true, cL al yo.length cl (bcs yo)), (L 3, cL (vsa am cm 1 0) ((ks.take (ks.length - tn)).length) (cm - 0) (vs.take (ks.length - tn))), (L 5, oW ad71 (((ks.take (ks.length - tn)) ++ []).length) cp72 34 ((vs.take (ks.length - tn)) ++ []))], Z, noX⟩ [(77, L 0, ptA g1 0), (78, L 1, .slice am ks.length cm), (79, L 2, ni64 (ks.length - tn)), (80, L 3, .slice (vsa am cm 1 0) ((ks.take (ks.length - tn)).length) (cm - 0)), (81, L 4, .slice none 0 0), (82, L 5, .slice ad71 (((ks.take (ks.length - tn)) ++ []).length) cp72), (83, L 6, ptA g1 1), (84, L 7, .slice aa js.length ca), (85, L 8, .tuple #[.agg #[.slice none 0 0, .slice none 0 0], .int .i64 ((chkL ((ks.take (ks.length - tn)) ++ []) js : Nat) : Int)]), (86, L 9, .agg #[.slice none 0 0, .slice none 0 0]), (87, L 10, .int .i64 ((chkL ((ks.take (ks.length - tn)) ++ []) js : Nat) : Int)), (5, L 12, .int .i64 ((chkL ((ks.take (ks.length - tn)) ++ []) js : Nat) : Int)), (3, true, ptA g1 0), (4, true, ptA g2 0), (5, true, .int .i64 0), (7, true, ni64 (ks.length - tn)), (8, true, .slice none 0 0)] [(true, g1, 24, [.slice am ks.length cm, .slice aa js.length ca]), (true, g2, 24, (cond (L 11) [.slice none 0 0, .slice none 0 0] [.slice none 0 0, .slice none 0 0]))] ac w) (by kernel_rfl) (by kernel_rfl) ?_ ?_ ?_
  ·exact ⟨none, 0, hs.drew.s4.s4.s4.padS.padS⟩
  ·refine ⟨?_, ?_, ?_, ?_, ?_, ?_, ?_, ?_, ?_, ?_, ?_, ?_, ?_, trivial⟩
   ·exact fun L ac w ⟨ad71, cp72, hs⟩ => pln (op_fieldA hs (some 0) rfl rfl rfl underlying24 rfl sizeOf22 (by decide) rfl fun ac hs => ⟨ad71, cp72, hs⟩)
   ·exact fun L ac w ⟨ad71, cp72, hs⟩ => pln (oldd hs 1 0 (.slice am ks.length cm) isAgg22 sizeOf22 rfl rfl rfl rfl rfl fun ac hs => ⟨ad71, cp72, hs⟩)
   ·exact fun L ac w ⟨ad71, cp72, hs⟩ => pln (omv hs 2 rfl rfl rfl fun ac hs => ⟨ad71, cp72, hs⟩)
   ·exact fun L ac w ⟨ad71, cp72, hs⟩ => pln (op_sliceR hs (some 3) (some 9) 0 0 (ks.length - tn) (N' := (ks.take (ks.length - tn)).length) (cs' := vs.take (ks.length - tn)) rfl rfl rfl rfl (.inl ⟨rfl, rfl⟩) (.inr ⟨_, _, rfl, rfl⟩) underlying22 sizeOf34 (show 0 ≤ ks.length - tn by omega) (show ks.length - tn ≤ ks.length by omega) (by rw [List.length_take]; omega) (by simp) rfl rfl fun ac hs => ⟨ad71, cp72, hs⟩)
   ·exact fun L ac w ⟨ad71, cp72, hs⟩ => pln (omv hs 4 rfl rfl rfl fun ac hs => ⟨ad71, cp72, hs⟩)
   ·exact fun L ac w ⟨ad71, cp72, hs⟩ => pln (op_callV (F := 36) (ρ := Option Addr × Nat) hs (some 5) (some 10) (v := fun r => .slice r.1 ((List.append (ks.take (ks.length - tn)) []).length) r.2) (E := fun r => [oW r.1 ((List.append (ks.take (ks.length - tn)) []).length) r.2 34 ((vs.take (ks.length - tn)) ++ [])]) (j := 1) rfl rfl rfl rfl (call36 _) (fun hs => with_c (vsa am cm 1 0) (cm - 0) (vs.take (ks.length - tn)) (ks.take (ks.length - tn)) none 0 ([]) ([]) (show (ks.take (ks.length - tn)).length + ([]).length ≤ 1000000 by first | omega | ((try simp only [List.length_drop, List.length_take, List.length_append, List.length_cons, List.length_nil]); omega)) _ _ (hs.celT (k := 9) rfl) ((hs.rowB (k := 1) (G := noX) (.inr rfl)).take (ks.length - tn)) celv_nil bysv_nil) (fun _ => rfl) (fun _ => rfl) rfl rfl fun ⟨ad71, cp72⟩ ac w hs => ⟨ad71, cp72, hs⟩)
   ·exact fun L ac w ⟨ad71, cp72, hs⟩ => pln (op_fieldA hs (some 6) rfl rfl rfl underlying24 rfl sizeOf22 (by decide) rfl fun ac hs => ⟨ad71, cp72, hs⟩)
   ·exact fun L ac w ⟨ad71, cp72, hs⟩ => pln (oldd hs 7 0 (.slice aa js.length ca) isAgg22 sizeOf22 rfl rfl rfl rfl rfl fun ac hs => ⟨ad71, cp72, hs⟩)
   ·exact fun L ac w ⟨ad71, cp72, hs⟩ => pln (op_callV (F := 35) (ρ := Unit) hs (some 8) none (v := fun r => .tuple #[.agg #[.slice none 0 0, .slice none 0 0], .int .i64 ((chkL ((ks.take (ks.length - tn)) ++ []) js : Nat) : Int)]) (E := fun r => []) (j := 0) rfl rfl rfl rfl (call35 _) (fun hs => checkedF_c ad71 cp72 ((vs.take (ks.length - tn)) ++ []) aa ca us ((ks.take (ks.length - tn)) ++ []) js (chkL ((ks.take (ks.length - tn)) ++ []) js) hq68 ((ok.take _).app OkN.nil) (oj.mono (by decide)) rfl _ _ (hs.celT (k := 10) rfl) (bysv_app ((hs.rowB (k := 1) (G := noX) (.inr rfl)).take (ks.length - tn)) bysv_nil) (hs.celT (k := 2) rfl) (hs.rowB (k := 3) (G := noX) (.inr rfl))) (fun _ => rfl) (fun _ => rfl) rfl rfl fun _ ac w hs => ⟨ad71, cp72, hs⟩)
   ·exact fun L ac w ⟨ad71, cp72, hs⟩ => pln (xtr hs (some 9) rfl rfl rfl rfl rfl fun ac hs => ⟨ad71, cp72, hs⟩)
   ·exact fun L ac w ⟨ad71, cp72, hs⟩ => pln (xtr hs (some 10) rfl rfl rfl rfl rfl fun ac hs => ⟨ad71, cp72, hs⟩)
   ·exact fun L ac w ⟨ad71, cp72, hs⟩ => pln (stoo hs 1 ([.slice none 0 0, .slice none 0 0]) sizeOf24 rfl rfl rfl rfl rfl rfl rfl rfl rfl rfl fun w hs => ⟨ad71, cp72, hs⟩)
   ·exact fun L ac w ⟨ad71, cp72, hs⟩ => pln (oas hs 11 rfl rfl rfl fun ac hs => ⟨ad71, cp72, hs⟩)
  intro ac w ⟨ad71, cp72, hs⟩
  try dsimp only [cond_true] at hs
  refine then_n (wp_ret ?_)
  have HS := hs
  have h0 := hp
  rw [do_ver (fun z => z.elim hq3 hp23) (fun z => z.elim hq24 hp44) htn2 hnl hys50 hvf hy0, if_neg hp67] at h0
  unfold donL at h0
  rw [if_pos rfl] at h0
  rw [if_neg hq68] at h0
  obtain ⟨hk, hj, he⟩ := inj3 h0
  subst hk
  subst hj
  subst he
  have hs := HS
  replace hs := hs.nilCel none rfl
  replace hs := hs.nilBys none rfl
  replace hs := hs.nilCel none rfl
  replace hs := hs.nilBys none rfl
  exact bodyPost_ret (res2 rfl (rv_c hs 1 (v := .agg #[.slice none 0 0, .slice none 0 0]) rfl rfl isAgg24 sizeOf24 rfl) (rv_t hs rfl)) hs.defers ⟨⟨none, 0, [], none, 0, []⟩, rfl, hs.bel rfl, hs.retS (ks := [11, 12, 13, 14]) rfl (by decide)⟩
 refine wp_region_lit (mvv hs rfl rfl rfl fun ac hs => bnn hs (.bool false) rfl rfl rfl rfl (fun w => dF hq57 (bin_eqlN (y := 105) w)) fun ac hs => mvv hs rfl rfl rfl fun ac hs => lstep (wpO_in hs rfl rfl rfl (op_move hs none rfl rfl rfl rfl fun ac hs => lstep (wpO_in hs rfl rfl rfl (op_bin hs none (v := .bool false) rfl rfl rfl rfl (fun _ => rfl) (fun w => dF hq65 (bin_eqlN (x := op) (y := 136) w)) rfl fun ac hs => stp (op_pickF hs none rfl rfl rfl rfl rfl fun ac hs => mvv hs rfl rfl rfl fun ac hs => lstep (wpO_in hs rfl rfl rfl (op_move hs none rfl rfl rfl rfl fun ac hs => lstep (wpO_in hs rfl rfl rfl (op_bin hs none (v := .bool (decide (op = 157))) rfl rfl rfl rfl (fun _ => rfl) (bin_eqlN (x := op) (y := 157)) rfl fun ac hs => ?_))))))))))
 refine stp (op_pickF hs none rfl rfl rfl rfl rfl fun ac hs => wpList_nil (then_n (wcs hs rfl ?_ ?_)))
 ·intro hc
  have hp73 := of_decide_eq_true hc
  refine wp_seq (wp_seq ?_)
  have hvf : op = 105 ∨ op = 136 ∨ op = 157 := (.inr (.inr hp73))
  obtain ⟨yo, hyo⟩ := put_ne hvf hys50
  have hy0 : ys50[0]? = some yo := by rw [hyo]; rfl
  have hyl : ys50.length = 1 := by rw [hyo]; rfl
  obtain ⟨al, cl, hvl⟩ := bysv_at (hs.all (k := 7) rfl rfl) hy0
  replace hs := hs.pick none 7 rfl hvl hy0 rfl
  replace hs := hs.nf w0 Z noX [3, 4, 5, 7, 8] rfl rfl rfl rfl
  refine wp_region_lit (mvv hs rfl rfl rfl fun ac hs => stp (op_idxC hs none 6 (j := 0) rfl rfl rfl rfl rfl underlying22 sizeOf34 (show 0 < ys50.length by omega) (off := 0) (by omega) rfl fun ac hs => stp (op_loadC hs none 6 (u := .slice al yo.length cl) rfl rfl rfl rfl isAgg34 sizeOf34 (by decide) hvl rfl fun ac hs => stp (op_blt hs none (v := ni64 (yo.length)) rfl rfl rfl (blt_len underlying34) rfl fun ac hs => bnn hs (.bool (decide (yo.length = 0))) rfl rfl rfl rfl (bin_eqlN (y := 0)) fun ac hs => wpList_nil (then_n (wcs hs rfl ?_ ?_))))))
  ·intro hc
   have hp74 := of_decide_eq_true hc
   refine wp_seq (wp_region_lit (stp (op_build hs none (qs := []) (v := .agg #[.slice none 0 0, .slice none 0 0]) rfl rfl rfl rfl (fun _ => by kernel_rfl) rfl fun ac hs => stp (stoo hs 1 ([.slice none 0 0, .slice none 0 0]) sizeOf24 rfl rfl rfl rfl rfl rfl rfl rfl rfl rfl fun w hs => asg hs rfl rfl rfl fun ac hs => wpList_nil (then_n (wp_ret (then_r (then_r ?_))))))))
   have HS := hs
   have h0 := hp
   rw [do_ver (fun z => z.elim hq3 hp23) (fun z => z.elim hq24 hp44) htn2 hnl hys50 hvf hy0, if_pos hp74] at h0
   obtain ⟨hk, hj, he⟩ := inj3 h0
   subst hk
   subst hj
   subst he
   have hs := HS
   replace hs := hs.nilCel none rfl
   replace hs := hs.nilBys none rfl
   replace hs := hs.nilCel none rfl
   replace hs := hs.nilBys none rfl
   exact bodyPost_ret (res2 rfl (rv_c hs 1 (v := .agg #[.slice none 0 0, .slice none 0 0]) rfl rfl isAgg24 sizeOf24 rfl) (rv_t hs rfl)) hs.defers ⟨⟨none, 0, [], none, 0, []⟩, rfl, hs.bel rfl, hs.retS (ks := [9, 10, 11, 12]) rfl (by decide)⟩
  intro hc
  have hp75 := of_decide_eq_false hc
  refine wp_skip (then_n (wp_region_lit (asg hs rfl rfl rfl fun ac hs => wpList_nil (then_n (wp_seq ?_)))))
  by_cases hq76 : chkL ((ks.take (ks.length - tn)) ++ []) js = 0
  ·replace hs := hs.nf w0 Z noX [3, 4, 5, 7, 8] rfl rfl rfl rfl
   refine region_inv [([], [1, 3, 5, 8, 9, 10, 11, 12]), ([0], [3, 5, 8, 9, 10, 11, 12]), ([], [3, 5, 8, 9, 10, 11, 12]), ([0, 1, 2], [5, 8, 9, 10, 11, 12]), ([], [5, 8, 9, 10, 11, 12]), (rgn 0 5, rgn 8 5), ([], rgn 7 6), ([6], rgn 8 5), (rgn 0 8, rgn 9 4), (rgn 0 9, [11, 12]), (rgn 0 9, [11, 12]), (rgn 0 11, [12]), (rgn 0 12, [])] (fun L ac w => ∃ (ad77 : Option Addr) (cp78 : Nat), St 88 ⟨w0, [], [(true, cL am ks.length cm vs), (true, .bys vs ks), (true, cL aa js.length ca us), (true, .bys us js), (true, .bys (vs.drop (ks.length - tn)) (ks.drop (ks.length - tn))), (true, cL (vsa am cm 1 (ks.length - tn)) ((ks.drop (ks.length - tn)).length) (cm - (ks.length - tn)) (vs.drop (ks.length - tn))), (true, cL ad52 ys50.length cp53 vs54), (true, .bys vs54 ys50), (true, cL al yo.length cl (bcs yo)), (L 3, cL (vsa am cm 1 0) ((ks.take (ks.length - tn)).length) (cm - 0) (vs.take (ks.length - tn))), (L 5, oW ad77 (((ks.take (ks.length - tn)) ++ []).length) cp78 34 ((vs.take (ks.length - tn)) ++ []))], Z, noX⟩ [(77, L 0, ptA g1 0), (78, L 1, .slice am ks.length cm), (79, L 2, ni64 (ks.length - tn)), (80, L 3, .slice (vsa am cm 1 0) ((ks.take (ks.length - tn)).length) (cm - 0)), (81, L 4, .slice none 0 0), (82, L 5, .slice ad77 (((ks.take (ks.length - tn)) ++ []).length) cp78), (83, L 6, ptA g1 1), (84, L 7, .slice aa js.length ca), (85, L 8, cond (L 8) (.tuple #[.agg #[.slice ad77 (((ks.take (ks.length - tn)) ++ []).length) cp78, .slice aa js.length ca], .int .i64 0]) undef), (86, L 9, cond (L 9) (.agg #[.slice ad77 (((ks.take (ks.length - tn)) ++ []).length) cp78, .slice aa js.length ca]) undef), (87, L 10, .int .i64 0), (5, L 12, .int .i64 0), (3, true, ptA g1 0), (4, true, ptA g2 0), (5, true, .int .i64 0), (7, true, ni64 (ks.length - tn)), (8, true, .slice none 0 0)] [(true, g1, 24, [.slice am ks.length cm, .slice aa js.length ca]), (true, g2, 24, (cond (L 11) [.slice ad77 (((ks.take (ks.length - tn)) ++ []).length) cp78, .slice aa js.length ca] [.slice none 0 0, .slice none 0 0]))] ac w) (by kernel_rfl) (by kernel_rfl) ?_ ?_ ?_
   ·exact ⟨none, 0, hs.drew.s4.s4.s4.padS.padS⟩
   ·refine ⟨?_, ?_, ?_, ?_, ?_, ?_, ?_, ?_, ?_, ?_, ?_, ?_, ?_, trivial⟩
    ·exact fun L ac w ⟨ad77, cp78, hs⟩ => pln (op_fieldA hs (some 0) rfl rfl rfl underlying24 rfl sizeOf22 (by decide) rfl fun ac hs => ⟨ad77, cp78, hs⟩)
    ·exact fun L ac w ⟨ad77, cp78, hs⟩ => pln (oldd hs 1 0 (.slice am ks.length cm) isAgg22 sizeOf22 rfl rfl rfl rfl rfl fun ac hs => ⟨ad77, cp78, hs⟩)
    ·exact fun L ac w ⟨ad77, cp78, hs⟩ => pln (omv hs 2 rfl rfl rfl fun ac hs => ⟨ad77, cp78, hs⟩)
    ·exact fun L ac w ⟨ad77, cp78, hs⟩ => pln (op_sliceR hs (some 3) (some 9) 0 0 (ks.length - tn) (N' := (ks.take (ks.length - tn)).length) (cs' := vs.take (ks.length - tn)) rfl rfl rfl rfl (.inl ⟨rfl, rfl⟩) (.inr ⟨_, _, rfl, rfl⟩) underlying22 sizeOf34 (show 0 ≤ ks.length - tn by omega) (show ks.length - tn ≤ ks.length by omega) (by rw [List.length_take]; omega) (by simp) rfl rfl fun ac hs => ⟨ad77, cp78, hs⟩)
    ·exact fun L ac w ⟨ad77, cp78, hs⟩ => pln (omv hs 4 rfl rfl rfl fun ac hs => ⟨ad77, cp78, hs⟩)
    ·exact fun L ac w ⟨ad77, cp78, hs⟩ => pln (op_callV (F := 36) (ρ := Option Addr × Nat) hs (some 5) (some 10) (v := fun r => .slice r.1 ((List.append (ks.take (ks.length - tn)) []).length) r.2) (E := fun r => [oW r.1 ((List.append (ks.take (ks.length - tn)) []).length) r.2 34 ((vs.take (ks.length - tn)) ++ [])]) (j := 1) rfl rfl rfl rfl (call36 _) (fun hs => with_c (vsa am cm 1 0) (cm - 0) (vs.take (ks.length - tn)) (ks.take (ks.length - tn)) none 0 ([]) ([]) (show (ks.take (ks.length - tn)).length + ([]).length ≤ 1000000 by first | omega | ((try simp only [List.length_drop, List.length_take, List.length_append, List.length_cons, List.length_nil]); omega)) _ _ (hs.celT (k := 9) rfl) ((hs.rowB (k := 1) (G := noX) (.inr rfl)).take (ks.length - tn)) celv_nil bysv_nil) (fun _ => rfl) (fun _ => rfl) rfl rfl fun ⟨ad77, cp78⟩ ac w hs => ⟨ad77, cp78, hs⟩)
    ·exact fun L ac w ⟨ad77, cp78, hs⟩ => pln (op_fieldA hs (some 6) rfl rfl rfl underlying24 rfl sizeOf22 (by decide) rfl fun ac hs => ⟨ad77, cp78, hs⟩)
    ·exact fun L ac w ⟨ad77, cp78, hs⟩ => pln (oldd hs 7 0 (.slice aa js.length ca) isAgg22 sizeOf22 rfl rfl rfl rfl rfl fun ac hs => ⟨ad77, cp78, hs⟩)
    ·exact fun L ac w ⟨ad77, cp78, hs⟩ => pln (op_callV (F := 35) (ρ := Unit) hs (some 8) none (v := fun r => .tuple #[.agg #[.slice ad77 ((List.append (ks.take (ks.length - tn)) []).length) cp78, .slice aa js.length ca], .int .i64 0]) (E := fun r => []) (j := 0) rfl rfl rfl rfl (call35 _) (fun hs => checkedT_c ad77 cp78 ((vs.take (ks.length - tn)) ++ []) aa ca us ((ks.take (ks.length - tn)) ++ []) js ((ok.take _).app OkN.nil) (oj.mono (by decide)) hq76 _ _ (hs.celT (k := 10) rfl) (bysv_app ((hs.rowB (k := 1) (G := noX) (.inr rfl)).take (ks.length - tn)) bysv_nil) (hs.celT (k := 2) rfl) (hs.rowB (k := 3) (G := noX) (.inr rfl))) (fun _ => rfl) (fun _ => rfl) rfl rfl fun _ ac w hs => ⟨ad77, cp78, hs⟩)
    ·exact fun L ac w ⟨ad77, cp78, hs⟩ => pln (xtr hs (some 9) rfl rfl rfl rfl rfl fun ac hs => ⟨ad77, cp78, hs⟩)
    ·exact fun L ac w ⟨ad77, cp78, hs⟩ => pln (xtr hs (some 10) rfl rfl rfl rfl rfl fun ac hs => ⟨ad77, cp78, hs⟩)
    ·exact fun L ac w ⟨ad77, cp78, hs⟩ => pln (stoo hs 1 ([.slice ad77 ((List.append (ks.take (ks.length - tn)) []).length) cp78, .slice aa js.length ca]) sizeOf24 rfl rfl rfl rfl rfl rfl rfl rfl rfl rfl fun w hs => ⟨ad77, cp78, hs⟩)
    ·exact fun L ac w ⟨ad77, cp78, hs⟩ => pln (oas hs 11 rfl rfl rfl fun ac hs => ⟨ad77, cp78, hs⟩)
   intro ac w ⟨ad77, cp78, hs⟩
   try dsimp only [cond_true] at hs
   refine then_n (wp_ret ?_)
   have HS := hs
   have h0 := hp
   rw [do_ver (fun z => z.elim hq3 hp23) (fun z => z.elim hq24 hp44) htn2 hnl hys50 hvf hy0, if_neg hp75] at h0
   unfold donL at h0
   rw [if_pos rfl] at h0
   rw [if_pos hq76] at h0
   obtain ⟨hk, hj, he⟩ := inj3 h0
   subst hk
   subst hj
   subst he
   have hs := HS
   replace hs := hs.freeze 10 rfl
   replace hs := hs.takeY none 1 (ks.length - tn) rfl rfl
   replace hs := hs.nilBys none rfl
   replace hs := hs.joinY none 11 12 rfl rfl rfl
   exact bodyPost_ret (res2 rfl (rv_c hs 1 (v := .agg #[.slice ad77 (((ks.take (ks.length - tn)) ++ []).length) cp78, .slice aa js.length ca]) rfl rfl isAgg24 sizeOf24 rfl) (rv_t hs rfl)) hs.defers ⟨⟨ad77, cp78, (vs.take (ks.length - tn)) ++ [], aa, ca, us⟩, rfl, hs.bel rfl, hs.retS (ks := [10, 13, 2, 3]) rfl (by decide)⟩
  replace hs := hs.nf w0 Z noX [3, 4, 5, 7, 8] rfl rfl rfl rfl
  refine region_inv [([], [1, 3, 5, 8, 9, 10, 11, 12]), ([0], [3, 5, 8, 9, 10, 11, 12]), ([], [3, 5, 8, 9, 10, 11, 12]), ([0, 1, 2], [5, 8, 9, 10, 11, 12]), ([], [5, 8, 9, 10, 11, 12]), (rgn 0 5, rgn 8 5), ([], rgn 7 6), ([6], rgn 8 5), (rgn 0 8, rgn 9 4), (rgn 0 9, [11, 12]), (rgn 0 9, [11, 12]), (rgn 0 11, [12]), (rgn 0 12, [])] (fun L ac w => ∃ (ad79 : Option Addr) (cp80 : Nat), St 88 ⟨w0, [], [(true, cL am ks.length cm vs), (true, .bys vs ks), (true, cL aa js.length ca us), (true, .bys us js), (true, .bys (vs.drop (ks.length - tn)) (ks.drop (ks.length - tn))), (true, cL (vsa am cm 1 (ks.length - tn)) ((ks.drop (ks.length - tn)).length) (cm - (ks.length - tn)) (vs.drop (ks.length - tn))), (true, cL ad52 ys50.length cp53 vs54), (true, .bys vs54 ys50), (true, cL al yo.length cl (bcs yo)), (L 3, cL (vsa am cm 1 0) ((ks.take (ks.length - tn)).length) (cm - 0) (vs.take (ks.length - tn))), (L 5, oW ad79 (((ks.take (ks.length - tn)) ++ []).length) cp80 34 ((vs.take (ks.length - tn)) ++ []))], Z, noX⟩ [(77, L 0, ptA g1 0), (78, L 1, .slice am ks.length cm), (79, L 2, ni64 (ks.length - tn)), (80, L 3, .slice (vsa am cm 1 0) ((ks.take (ks.length - tn)).length) (cm - 0)), (81, L 4, .slice none 0 0), (82, L 5, .slice ad79 (((ks.take (ks.length - tn)) ++ []).length) cp80), (83, L 6, ptA g1 1), (84, L 7, .slice aa js.length ca), (85, L 8, .tuple #[.agg #[.slice none 0 0, .slice none 0 0], .int .i64 ((chkL ((ks.take (ks.length - tn)) ++ []) js : Nat) : Int)]), (86, L 9, .agg #[.slice none 0 0, .slice none 0 0]), (87, L 10, .int .i64 ((chkL ((ks.take (ks.length - tn)) ++ []) js : Nat) : Int)), (5, L 12, .int .i64 ((chkL ((ks.take (ks.length - tn)) ++ []) js : Nat) : Int)), (3, true, ptA g1 0), (4, true, ptA g2 0), (5, true, .int .i64 0), (7, true, ni64 (ks.length - tn)), (8, true, .slice none 0 0)] [(true, g1, 24, [.slice am ks.length cm, .slice aa js.length ca]), (true, g2, 24, (cond (L 11) [.slice none 0 0, .slice none 0 0] [.slice none 0 0, .slice none 0 0]))] ac w) (by kernel_rfl) (by kernel_rfl) ?_ ?_ ?_
  ·exact ⟨none, 0, hs.drew.s4.s4.s4.padS.padS⟩
  ·refine ⟨?_, ?_, ?_, ?_, ?_, ?_, ?_, ?_, ?_, ?_, ?_, ?_, ?_, trivial⟩
   ·exact fun L ac w ⟨ad79, cp80, hs⟩ => pln (op_fieldA hs (some 0) rfl rfl rfl underlying24 rfl sizeOf22 (by decide) rfl fun ac hs => ⟨ad79, cp80, hs⟩)
   ·exact fun L ac w ⟨ad79, cp80, hs⟩ => pln (oldd hs 1 0 (.slice am ks.length cm) isAgg22 sizeOf22 rfl rfl rfl rfl rfl fun ac hs => ⟨ad79, cp80, hs⟩)
   ·exact fun L ac w ⟨ad79, cp80, hs⟩ => pln (omv hs 2 rfl rfl rfl fun ac hs => ⟨ad79, cp80, hs⟩)
   ·exact fun L ac w ⟨ad79, cp80, hs⟩ => pln (op_sliceR hs (some 3) (some 9) 0 0 (ks.length - tn) (N' := (ks.take (ks.length - tn)).length) (cs' := vs.take (ks.length - tn)) rfl rfl rfl rfl (.inl ⟨rfl, rfl⟩) (.inr ⟨_, _, rfl, rfl⟩) underlying22 sizeOf34 (show 0 ≤ ks.length - tn by omega) (show ks.length - tn ≤ ks.length by omega) (by rw [List.length_take]; omega) (by simp) rfl rfl fun ac hs => ⟨ad79, cp80, hs⟩)
   ·exact fun L ac w ⟨ad79, cp80, hs⟩ => pln (omv hs 4 rfl rfl rfl fun ac hs => ⟨ad79, cp80, hs⟩)
   ·exact fun L ac w ⟨ad79, cp80, hs⟩ => pln (op_callV (F := 36) (ρ := Option Addr × Nat) hs (some 5) (some 10) (v := fun r => .slice r.1 ((List.append (ks.take (ks.length - tn)) []).length) r.2) (E := fun r => [oW r.1 ((List.append (ks.take (ks.length - tn)) []).length) r.2 34 ((vs.take (ks.length - tn)) ++ [])]) (j := 1) rfl rfl rfl rfl (call36 _) (fun hs => with_c (vsa am cm 1 0) (cm - 0) (vs.take (ks.length - tn)) (ks.take (ks.length - tn)) none 0 ([]) ([]) (show (ks.take (ks.length - tn)).length + ([]).length ≤ 1000000 by first | omega | ((try simp only [List.length_drop, List.length_take, List.length_append, List.length_cons, List.length_nil]); omega)) _ _ (hs.celT (k := 9) rfl) ((hs.rowB (k := 1) (G := noX) (.inr rfl)).take (ks.length - tn)) celv_nil bysv_nil) (fun _ => rfl) (fun _ => rfl) rfl rfl fun ⟨ad79, cp80⟩ ac w hs => ⟨ad79, cp80, hs⟩)
   ·exact fun L ac w ⟨ad79, cp80, hs⟩ => pln (op_fieldA hs (some 6) rfl rfl rfl underlying24 rfl sizeOf22 (by decide) rfl fun ac hs => ⟨ad79, cp80, hs⟩)
   ·exact fun L ac w ⟨ad79, cp80, hs⟩ => pln (oldd hs 7 0 (.slice aa js.length ca) isAgg22 sizeOf22 rfl rfl rfl rfl rfl fun ac hs => ⟨ad79, cp80, hs⟩)
   ·exact fun L ac w ⟨ad79, cp80, hs⟩ => pln (op_callV (F := 35) (ρ := Unit) hs (some 8) none (v := fun r => .tuple #[.agg #[.slice none 0 0, .slice none 0 0], .int .i64 ((chkL ((ks.take (ks.length - tn)) ++ []) js : Nat) : Int)]) (E := fun r => []) (j := 0) rfl rfl rfl rfl (call35 _) (fun hs => checkedF_c ad79 cp80 ((vs.take (ks.length - tn)) ++ []) aa ca us ((ks.take (ks.length - tn)) ++ []) js (chkL ((ks.take (ks.length - tn)) ++ []) js) hq76 ((ok.take _).app OkN.nil) (oj.mono (by decide)) rfl _ _ (hs.celT (k := 10) rfl) (bysv_app ((hs.rowB (k := 1) (G := noX) (.inr rfl)).take (ks.length - tn)) bysv_nil) (hs.celT (k := 2) rfl) (hs.rowB (k := 3) (G := noX) (.inr rfl))) (fun _ => rfl) (fun _ => rfl) rfl rfl fun _ ac w hs => ⟨ad79, cp80, hs⟩)
   ·exact fun L ac w ⟨ad79, cp80, hs⟩ => pln (xtr hs (some 9) rfl rfl rfl rfl rfl fun ac hs => ⟨ad79, cp80, hs⟩)
   ·exact fun L ac w ⟨ad79, cp80, hs⟩ => pln (xtr hs (some 10) rfl rfl rfl rfl rfl fun ac hs => ⟨ad79, cp80, hs⟩)
   ·exact fun L ac w ⟨ad79, cp80, hs⟩ => pln (stoo hs 1 ([.slice none 0 0, .slice none 0 0]) sizeOf24 rfl rfl rfl rfl rfl rfl rfl rfl rfl rfl fun w hs => ⟨ad79, cp80, hs⟩)
   ·exact fun L ac w ⟨ad79, cp80, hs⟩ => pln (oas hs 11 rfl rfl rfl fun ac hs => ⟨ad79, cp80, hs⟩)
  intro ac w ⟨ad79, cp80, hs⟩
  try dsimp only [cond_true] at hs
  refine then_n (wp_ret ?_)
  have HS := hs
  have h0 := hp
  rw [do_ver (fun z => z.elim hq3 hp23) (fun z => z.elim hq24 hp44) htn2 hnl hys50 hvf hy0, if_neg hp75] at h0
  unfold donL at h0
  rw [if_pos rfl] at h0
  rw [if_neg hq76] at h0
  obtain ⟨hk, hj, he⟩ := inj3 h0
  subst hk
  subst hj
  subst he
  have hs := HS
  replace hs := hs.nilCel none rfl
  replace hs := hs.nilBys none rfl
  replace hs := hs.nilCel none rfl
  replace hs := hs.nilBys none rfl
  exact bodyPost_ret (res2 rfl (rv_c hs 1 (v := .agg #[.slice none 0 0, .slice none 0 0]) rfl rfl isAgg24 sizeOf24 rfl) (rv_t hs rfl)) hs.defers ⟨⟨none, 0, [], none, 0, []⟩, rfl, hs.bel rfl, hs.retS (ks := [11, 12, 13, 14]) rfl (by decide)⟩
 intro hc
 have hp81 := of_decide_eq_false hc
 refine wp_skip (then_n (wp_seq ?_))
 by_cases hq82 : chkL ((ks.take (ks.length - tn)) ++ ys50) js = 0
 ·replace hs := hs.nf w0 Z noX [3, 4, 5, 7, 8] rfl rfl rfl rfl
  refine region_inv [([], [1, 3, 5, 8, 9, 10, 11, 12]), ([0], [3, 5, 8, 9, 10, 11, 12]), ([], [3, 5, 8, 9, 10, 11, 12]), ([0, 1, 2], [5, 8, 9, 10, 11, 12]), ([], [5, 8, 9, 10, 11, 12]), (rgn 0 5, rgn 8 5), ([], rgn 7 6), ([6], rgn 8 5), (rgn 0 8, rgn 9 4), (rgn 0 9, [11, 12]), (rgn 0 9, [11, 12]), (rgn 0 11, [12]), (rgn 0 12, [])] (fun L ac w => ∃ (ad83 : Option Addr) (cp84 : Nat), St 88 ⟨w0, [], [(true, cL am ks.length cm vs), (true, .bys vs ks), (true, cL aa js.length ca us), (true, .bys us js), (true, .bys (vs.drop (ks.length - tn)) (ks.drop (ks.length - tn))), (true, cL (vsa am cm 1 (ks.length - tn)) ((ks.drop (ks.length - tn)).length) (cm - (ks.length - tn)) (vs.drop (ks.length - tn))), (true, cL ad52 ys50.length cp53 vs54), (true, .bys vs54 ys50), (L 3, cL (vsa am cm 1 0) ((ks.take (ks.length - tn)).length) (cm - 0) (vs.take (ks.length - tn))), (L 5, oW ad83 (((ks.take (ks.length - tn)) ++ ys50).length) cp84 34 ((vs.take (ks.length - tn)) ++ vs54))], Z, noX⟩ [(77, L 0, ptA g1 0), (78, L 1, .slice am ks.length cm), (79, L 2, ni64 (ks.length - tn)), (80, L 3, .slice (vsa am cm 1 0) ((ks.take (ks.length - tn)).length) (cm - 0)), (81, L 4, .slice ad52 ys50.length cp53), (82, L 5, .slice ad83 (((ks.take (ks.length - tn)) ++ ys50).length) cp84), (83, L 6, ptA g1 1), (84, L 7, .slice aa js.length ca), (85, L 8, cond (L 8) (.tuple #[.agg #[.slice ad83 (((ks.take (ks.length - tn)) ++ ys50).length) cp84, .slice aa js.length ca], .int .i64 0]) undef), (86, L 9, cond (L 9) (.agg #[.slice ad83 (((ks.take (ks.length - tn)) ++ ys50).length) cp84, .slice aa js.length ca]) undef), (87, L 10, .int .i64 0), (5, L 12, .int .i64 0), (3, true, ptA g1 0), (4, true, ptA g2 0), (5, true, .int .i64 0), (7, true, ni64 (ks.length - tn)), (8, true, .slice ad52 ys50.length cp53)] [(true, g1, 24, [.slice am ks.length cm, .slice aa js.length ca]), (true, g2, 24, (cond (L 11) [.slice ad83 (((ks.take (ks.length - tn)) ++ ys50).length) cp84, .slice aa js.length ca] [.slice none 0 0, .slice none 0 0]))] ac w) (by kernel_rfl) (by kernel_rfl) ?_ ?_ ?_
  ·exact ⟨none, 0, hs.drew.s4.s4.s4.padS.padS⟩
  ·refine ⟨?_, ?_, ?_, ?_, ?_, ?_, ?_, ?_, ?_, ?_, ?_, ?_, ?_, trivial⟩
   ·exact fun L ac w ⟨ad83, cp84, hs⟩ => pln (op_fieldA hs (some 0) rfl rfl rfl underlying24 rfl sizeOf22 (by decide) rfl fun ac hs => ⟨ad83, cp84, hs⟩)
   ·exact fun L ac w ⟨ad83, cp84, hs⟩ => pln (oldd hs 1 0 (.slice am ks.length cm) isAgg22 sizeOf22 rfl rfl rfl rfl rfl fun ac hs => ⟨ad83, cp84, hs⟩)
   ·exact fun L ac w ⟨ad83, cp84, hs⟩ => pln (omv hs 2 rfl rfl rfl fun ac hs => ⟨ad83, cp84, hs⟩)
   ·exact fun L ac w ⟨ad83, cp84, hs⟩ => pln (op_sliceR hs (some 3) (some 8) 0 0 (ks.length - tn) (N' := (ks.take (ks.length - tn)).length) (cs' := vs.take (ks.length - tn)) rfl rfl rfl rfl (.inl ⟨rfl, rfl⟩) (.inr ⟨_, _, rfl, rfl⟩) underlying22 sizeOf34 (show 0 ≤ ks.length - tn by omega) (show ks.length - tn ≤ ks.length by omega) (by rw [List.length_take]; omega) (by simp) rfl rfl fun ac hs => ⟨ad83, cp84, hs⟩)
   ·exact fun L ac w ⟨ad83, cp84, hs⟩ => pln (omv hs 4 rfl rfl rfl fun ac hs => ⟨ad83, cp84, hs⟩)
   ·exact fun L ac w ⟨ad83, cp84, hs⟩ => pln (op_callV (F := 36) (ρ := Option Addr × Nat) hs (some 5) (some 9) (v := fun r => .slice r.1 (((ks.take (ks.length - tn)) ++ ys50).length) r.2) (E := fun r => [oW r.1 (((ks.take (ks.length - tn)) ++ ys50).length) r.2 34 ((vs.take (ks.length - tn)) ++ vs54)]) (j := 1) rfl rfl rfl rfl (call36 _) (fun hs => with_c (vsa am cm 1 0) (cm - 0) (vs.take (ks.length - tn)) (ks.take (ks.length - tn)) ad52 cp53 vs54 ys50 (show (ks.take (ks.length - tn)).length + ys50.length ≤ 1000000 by first | omega | ((try simp only [List.length_drop, List.length_take, List.length_append, List.length_cons, List.length_nil]); omega)) _ _ (hs.celT (k := 8) rfl) ((hs.rowB (k := 1) (G := noX) (.inr rfl)).take (ks.length - tn)) (hs.celT (k := 6) rfl) (hs.rowB (k := 7) (G := noX) (.inr rfl))) (fun _ => rfl) (fun _ => rfl) rfl rfl fun ⟨ad83, cp84⟩ ac w hs => ⟨ad83, cp84, hs⟩)
   ·exact fun L ac w ⟨ad83, cp84, hs⟩ => pln (op_fieldA hs (some 6) rfl rfl rfl underlying24 rfl sizeOf22 (by decide) rfl fun ac hs => ⟨ad83, cp84, hs⟩)
   ·exact fun L ac w ⟨ad83, cp84, hs⟩ => pln (oldd hs 7 0 (.slice aa js.length ca) isAgg22 sizeOf22 rfl rfl rfl rfl rfl fun ac hs => ⟨ad83, cp84, hs⟩)
   ·exact fun L ac w ⟨ad83, cp84, hs⟩ => pln (op_callV (F := 35) (ρ := Unit) hs (some 8) none (v := fun r => .tuple #[.agg #[.slice ad83 (((ks.take (ks.length - tn)) ++ ys50).length) cp84, .slice aa js.length ca], .int .i64 0]) (E := fun r => []) (j := 0) rfl rfl rfl rfl (call35 _) (fun hs => checkedT_c ad83 cp84 ((vs.take (ks.length - tn)) ++ vs54) aa ca us ((ks.take (ks.length - tn)) ++ ys50) js ((ok.take _).app oys50) (oj.mono (by decide)) hq82 _ _ (hs.celT (k := 9) rfl) (bysv_app ((hs.rowB (k := 1) (G := noX) (.inr rfl)).take (ks.length - tn)) (hs.rowB (k := 7) (G := noX) (.inr rfl))) (hs.celT (k := 2) rfl) (hs.rowB (k := 3) (G := noX) (.inr rfl))) (fun _ => rfl) (fun _ => rfl) rfl rfl fun _ ac w hs => ⟨ad83, cp84, hs⟩)
   ·exact fun L ac w ⟨ad83, cp84, hs⟩ => pln (xtr hs (some 9) rfl rfl rfl rfl rfl fun ac hs => ⟨ad83, cp84, hs⟩)
   ·exact fun L ac w ⟨ad83, cp84, hs⟩ => pln (xtr hs (some 10) rfl rfl rfl rfl rfl fun ac hs => ⟨ad83, cp84, hs⟩)
   ·exact fun L ac w ⟨ad83, cp84, hs⟩ => pln (stoo hs 1 ([.slice ad83 (((ks.take (ks.length - tn)) ++ ys50).length) cp84, .slice aa js.length ca]) sizeOf24 rfl rfl rfl rfl rfl rfl rfl rfl rfl rfl fun w hs => ⟨ad83, cp84, hs⟩)
   ·exact fun L ac w ⟨ad83, cp84, hs⟩ => pln (oas hs 11 rfl rfl rfl fun ac hs => ⟨ad83, cp84, hs⟩)
  intro ac w ⟨ad83, cp84, hs⟩
  try dsimp only [cond_true] at hs
  refine then_n (wp_ret ?_)
  have HS := hs
  have h0 := hp
  rw [do_put (fun z => z.elim hq3 hp23) (fun z => z.elim hq24 hp44) htn2 hnl hys50 (fun z => z.elim hq57 (fun z => z.elim hq65 hp81))] at h0
  unfold donL at h0
  rw [if_pos rfl] at h0
  rw [if_pos hq82] at h0
  obtain ⟨hk, hj, he⟩ := inj3 h0
  subst hk
  subst hj
  subst he
  have hs := HS
  replace hs := hs.freeze 9 rfl
  replace hs := hs.takeY none 1 (ks.length - tn) rfl rfl
  replace hs := hs.joinY none 10 7 rfl rfl rfl
  exact bodyPost_ret (res2 rfl (rv_c hs 1 (v := .agg #[.slice ad83 (((ks.take (ks.length - tn)) ++ ys50).length) cp84, .slice aa js.length ca]) rfl rfl isAgg24 sizeOf24 rfl) (rv_t hs rfl)) hs.defers ⟨⟨ad83, cp84, (vs.take (ks.length - tn)) ++ vs54, aa, ca, us⟩, rfl, hs.bel rfl, hs.retS (ks := [9, 11, 2, 3]) rfl (by decide)⟩
 replace hs := hs.nf w0 Z noX [3, 4, 5, 7, 8] rfl rfl rfl rfl
 refine region_inv [([], [1, 3, 5, 8, 9, 10, 11, 12]), ([0], [3, 5, 8, 9, 10, 11, 12]), ([], [3, 5, 8, 9, 10, 11, 12]), ([0, 1, 2], [5, 8, 9, 10, 11, 12]), ([], [5, 8, 9, 10, 11, 12]), (rgn 0 5, rgn 8 5), ([], rgn 7 6), ([6], rgn 8 5), (rgn 0 8, rgn 9 4), (rgn 0 9, [11, 12]), (rgn 0 9, [11, 12]), (rgn 0 11, [12]), (rgn 0 12, [])] (fun L ac w => ∃ (ad85 : Option Addr) (cp86 : Nat), St 88 ⟨w0, [], [(true, cL am ks.length cm vs), (true, .bys vs ks), (true, cL aa js.length ca us), (true, .bys us js), (true, .bys (vs.drop (ks.length - tn)) (ks.drop (ks.length - tn))), (true, cL (vsa am cm 1 (ks.length - tn)) ((ks.drop (ks.length - tn)).length) (cm - (ks.length - tn)) (vs.drop (ks.length - tn))), (true, cL ad52 ys50.length cp53 vs54), (true, .bys vs54 ys50), (L 3, cL (vsa am cm 1 0) ((ks.take (ks.length - tn)).length) (cm - 0) (vs.take (ks.length - tn))), (L 5, oW ad85 (((ks.take (ks.length - tn)) ++ ys50).length) cp86 34 ((vs.take (ks.length - tn)) ++ vs54))], Z, noX⟩ [(77, L 0, ptA g1 0), (78, L 1, .slice am ks.length cm), (79, L 2, ni64 (ks.length - tn)), (80, L 3, .slice (vsa am cm 1 0) ((ks.take (ks.length - tn)).length) (cm - 0)), (81, L 4, .slice ad52 ys50.length cp53), (82, L 5, .slice ad85 (((ks.take (ks.length - tn)) ++ ys50).length) cp86), (83, L 6, ptA g1 1), (84, L 7, .slice aa js.length ca), (85, L 8, .tuple #[.agg #[.slice none 0 0, .slice none 0 0], .int .i64 ((chkL ((ks.take (ks.length - tn)) ++ ys50) js : Nat) : Int)]), (86, L 9, .agg #[.slice none 0 0, .slice none 0 0]), (87, L 10, .int .i64 ((chkL ((ks.take (ks.length - tn)) ++ ys50) js : Nat) : Int)), (5, L 12, .int .i64 ((chkL ((ks.take (ks.length - tn)) ++ ys50) js : Nat) : Int)), (3, true, ptA g1 0), (4, true, ptA g2 0), (5, true, .int .i64 0), (7, true, ni64 (ks.length - tn)), (8, true, .slice ad52 ys50.length cp53)] [(true, g1, 24, [.slice am ks.length cm, .slice aa js.length ca]), (true, g2, 24, (cond (L 11) [.slice none 0 0, .slice none 0 0] [.slice none 0 0, .slice none 0 0]))] ac w) (by kernel_rfl) (by kernel_rfl) ?_ ?_ ?_
 ·exact ⟨none, 0, hs.drew.s4.s4.s4.padS.padS⟩
 ·refine ⟨?_, ?_, ?_, ?_, ?_, ?_, ?_, ?_, ?_, ?_, ?_, ?_, ?_, trivial⟩
  ·exact fun L ac w ⟨ad85, cp86, hs⟩ => pln (op_fieldA hs (some 0) rfl rfl rfl underlying24 rfl sizeOf22 (by decide) rfl fun ac hs => ⟨ad85, cp86, hs⟩)
  ·exact fun L ac w ⟨ad85, cp86, hs⟩ => pln (oldd hs 1 0 (.slice am ks.length cm) isAgg22 sizeOf22 rfl rfl rfl rfl rfl fun ac hs => ⟨ad85, cp86, hs⟩)
  ·exact fun L ac w ⟨ad85, cp86, hs⟩ => pln (omv hs 2 rfl rfl rfl fun ac hs => ⟨ad85, cp86, hs⟩)
  ·exact fun L ac w ⟨ad85, cp86, hs⟩ => pln (op_sliceR hs (some 3) (some 8) 0 0 (ks.length - tn) (N' := (ks.take (ks.length - tn)).length) (cs' := vs.take (ks.length - tn)) rfl rfl rfl rfl (.inl ⟨rfl, rfl⟩) (.inr ⟨_, _, rfl, rfl⟩) underlying22 sizeOf34 (show 0 ≤ ks.length - tn by omega) (show ks.length - tn ≤ ks.length by omega) (by rw [List.length_take]; omega) (by simp) rfl rfl fun ac hs => ⟨ad85, cp86, hs⟩)
  ·exact fun L ac w ⟨ad85, cp86, hs⟩ => pln (omv hs 4 rfl rfl rfl fun ac hs => ⟨ad85, cp86, hs⟩)
  ·exact fun L ac w ⟨ad85, cp86, hs⟩ => pln (op_callV (F := 36) (ρ := Option Addr × Nat) hs (some 5) (some 9) (v := fun r => .slice r.1 (((ks.take (ks.length - tn)) ++ ys50).length) r.2) (E := fun r => [oW r.1 (((ks.take (ks.length - tn)) ++ ys50).length) r.2 34 ((vs.take (ks.length - tn)) ++ vs54)]) (j := 1) rfl rfl rfl rfl (call36 _) (fun hs => with_c (vsa am cm 1 0) (cm - 0) (vs.take (ks.length - tn)) (ks.take (ks.length - tn)) ad52 cp53 vs54 ys50 (show (ks.take (ks.length - tn)).length + ys50.length ≤ 1000000 by first | omega | ((try simp only [List.length_drop, List.length_take, List.length_append, List.length_cons, List.length_nil]); omega)) _ _ (hs.celT (k := 8) rfl) ((hs.rowB (k := 1) (G := noX) (.inr rfl)).take (ks.length - tn)) (hs.celT (k := 6) rfl) (hs.rowB (k := 7) (G := noX) (.inr rfl))) (fun _ => rfl) (fun _ => rfl) rfl rfl fun ⟨ad85, cp86⟩ ac w hs => ⟨ad85, cp86, hs⟩)
  ·exact fun L ac w ⟨ad85, cp86, hs⟩ => pln (op_fieldA hs (some 6) rfl rfl rfl underlying24 rfl sizeOf22 (by decide) rfl fun ac hs => ⟨ad85, cp86, hs⟩)
  ·exact fun L ac w ⟨ad85, cp86, hs⟩ => pln (oldd hs 7 0 (.slice aa js.length ca) isAgg22 sizeOf22 rfl rfl rfl rfl rfl fun ac hs => ⟨ad85, cp86, hs⟩)
  ·exact fun L ac w ⟨ad85, cp86, hs⟩ => pln (op_callV (F := 35) (ρ := Unit) hs (some 8) none (v := fun r => .tuple #[.agg #[.slice none 0 0, .slice none 0 0], .int .i64 ((chkL ((ks.take (ks.length - tn)) ++ ys50) js : Nat) : Int)]) (E := fun r => []) (j := 0) rfl rfl rfl rfl (call35 _) (fun hs => checkedF_c ad85 cp86 ((vs.take (ks.length - tn)) ++ vs54) aa ca us ((ks.take (ks.length - tn)) ++ ys50) js (chkL ((ks.take (ks.length - tn)) ++ ys50) js) hq82 ((ok.take _).app oys50) (oj.mono (by decide)) rfl _ _ (hs.celT (k := 9) rfl) (bysv_app ((hs.rowB (k := 1) (G := noX) (.inr rfl)).take (ks.length - tn)) (hs.rowB (k := 7) (G := noX) (.inr rfl))) (hs.celT (k := 2) rfl) (hs.rowB (k := 3) (G := noX) (.inr rfl))) (fun _ => rfl) (fun _ => rfl) rfl rfl fun _ ac w hs => ⟨ad85, cp86, hs⟩)
  ·exact fun L ac w ⟨ad85, cp86, hs⟩ => pln (xtr hs (some 9) rfl rfl rfl rfl rfl fun ac hs => ⟨ad85, cp86, hs⟩)
  ·exact fun L ac w ⟨ad85, cp86, hs⟩ => pln (xtr hs (some 10) rfl rfl rfl rfl rfl fun ac hs => ⟨ad85, cp86, hs⟩)
  ·exact fun L ac w ⟨ad85, cp86, hs⟩ => pln (stoo hs 1 ([.slice none 0 0, .slice none 0 0]) sizeOf24 rfl rfl rfl rfl rfl rfl rfl rfl rfl rfl fun w hs => ⟨ad85, cp86, hs⟩)
  ·exact fun L ac w ⟨ad85, cp86, hs⟩ => pln (oas hs 11 rfl rfl rfl fun ac hs => ⟨ad85, cp86, hs⟩)
 intro ac w ⟨ad85, cp86, hs⟩
 try dsimp only [cond_true] at hs
 refine then_n (wp_ret ?_)
 have HS := hs
 have h0 := hp
 rw [do_put (fun z => z.elim hq3 hp23) (fun z => z.elim hq24 hp44) htn2 hnl hys50 (fun z => z.elim hq57 (fun z => z.elim hq65 hp81))] at h0
 unfold donL at h0
 rw [if_pos rfl] at h0
 rw [if_neg hq82] at h0
 obtain ⟨hk, hj, he⟩ := inj3 h0
 subst hk
 subst hj
 subst he
 have hs := HS
 replace hs := hs.nilCel none rfl
 replace hs := hs.nilBys none rfl
 replace hs := hs.nilCel none rfl
 replace hs := hs.nilBys none rfl
 exact bodyPost_ret (res2 rfl (rv_c hs 1 (v := .agg #[.slice none 0 0, .slice none 0 0]) rfl rfl isAgg24 sizeOf24 rfl) (rv_t hs rfl)) hs.defers ⟨⟨none, 0, [], none, 0, []⟩, rfl, hs.bel rfl, hs.retS (ks := [10, 11, 12, 13]) rfl (by decide)⟩
end Go.Proofs.Ytikkhkjndbicgaa

/- Stacks: what the walks of the laws with the document's answer want. -/
namespace Go.Proofs.Ytikkhkjndbicgaa
open Go.RowKit
section
variable {n : Nat} {w0 : Bs} {fs : List Sl} {bs : List Bl} {a : Act} {w : World}
theorem St.wrs_in (hs : St n w0 fs bs a w) {k : Nat} {G : Nat → Prop} {vs : List Value} {ns : List Nat} (h : w0.S[k]? = some (true, .wrs G vs ns)) {x : Value} (hx : x ∈ vs) : ∃ (j : Nat) (al : Option Addr) (nl cl : Nat), x = Value.slice al nl cl ∧ vs[j]? = some (Value.slice al nl cl) ∧ ns[j]? = some nl ∧ nl ≤ maxLen := by
  have h1 := (hs.fz k _ h rfl).1
  obtain ⟨j, hj⟩ := List.mem_iff_getElem?.1 hx
  have hlt : j < ns.length := by rw [← h1.1]; exact (List.getElem?_eq_some_iff.1 hj).1
  obtain ⟨ad, c, e, h2, h3, _⟩ := h1.2 j x ns[j] hj (by simp [hlt])
  subst e
  exact ⟨j, ad, ns[j], c, rfl, hj, by simp [hlt], Nat.le_trans h2 h3⟩
end
section
variable {P : Program} {Q : Exit → Act → World → Prop} {K : Act → World → Prop} {a : Act} {w : World} {o : Oper} {n : Nat} {w0 : Bs} {fs : List Sl} {bs : List Bl}
end
theorem do_okE {op : Nat} {ks js k j : BL} {e : Nat} (h : doL op ks js = (k, j, e)) : OkN 1000 k ∧ OkN 1000 j := by
  by_cases he : e = 0
  · subst he; exact do_ok h
  · obtain ⟨rfl, rfl⟩ := do_err h he
    exact ⟨OkN.nil, OkN.nil⟩
end Go.Proofs.Ytikkhkjndbicgaa
