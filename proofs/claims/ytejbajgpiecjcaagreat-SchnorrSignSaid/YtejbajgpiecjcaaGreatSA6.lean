/- Several texts in one, what this law needs of them: ShaR, SchR, SchL, Frame, FrameW, FrameE. -/
import Derived.Test.YtejbajgpiecjcaaGreatSA5
import Derived.Test.YtejbajgpiecjcaaGreatRows
import Derived.WalkKit
import Derived.ProofKit
import Derived.OpenShut
import Derived.ChangeOld
import Derived.Below
import Derived.WideKeyArr2

/- SHA-256: the program's, the document's. -/
namespace Go.Proofs.YtejbajgpiecjcaaGreat
open Go.RowKit _root_.Go.Proofs.Tryz
set_option maxRecDepth 10000
set_option maxHeartbeats 1000000
theorem rpad_c (ad : Option Addr) (nl c : Nat) (l : List UInt8) (hlen : l.length ≤ 200000) (w0 : World) (Z : Nat → Prop) (hl : ByV w0 Z (.slice ad nl c) l): Calls prog 132 #[.slice ad nl c] w0 fun e w' => Ret w0 Z (ρ := Option Addr × Nat) (fun r => .slice r.1 (l ++ tl64 l.length l.length).length r.2) (fun r => [.cel (.slice r.1 (l ++ tl64 l.length l.length).length r.2) (l ++ tl64 l.length l.length).length (bcs (l ++ tl64 l.length l.length))]) e w' := by
 obtain rfl := byv_len hl
 refine enterS (n := 38) (args := [.slice ad l.length c]) (S := [(true, .cel (.slice ad l.length c) l.length (bcs l))]) (Z := Z) func132 rfl rfl (Nat.le_of_ble_eq_true rfl) (sokC hl sok0) rfl fun ac hs => ?_
 refine wp_seq (wp_region_lit ?_)
 refine asg hs rfl rfl rfl fun ac hs => ?_
 refine wpList_nil (then_n (wp_seq (wp_region_lit ?_)))
 refine stp (op_bsO0 hs none none (size := 1) rfl rfl underlying25 inf_u8_5 rfl rfl fun ad2 ac w hs => ?_)
 refine mvv hs rfl rfl rfl fun ac hs => ?_
 refine stp (op_appR hs none 1 0 (N' := l.length) (ys := bcs l) rfl rfl rfl rfl rfl rfl underlying25 inf_u8_5 rfl (by decide) (bcs_len1 rfl) (bcs_one _) (by decide) (show 0 + l.length ≤ 1000000 by omega) (Nat.zero_add _) rfl rfl rfl fun ad3 cp4 ac w hs => ?_)
 refine asg hs rfl rfl rfl fun ac hs => ?_
 refine wpList_nil (then_n (wp_seq (wp_region_lit ?_)))
 refine mvv hs rfl rfl rfl fun ac hs => ?_
 refine stp (op_bsO hs none none (qs := [(0, .int .u8 128)]) (cs := [.int .u8 128]) (cs' := bcs [UInt8.ofNat 128]) rfl rfl rfl rfl underlying25 inf_u8_5 (by decide) (by decide) (fill_one _ _ rfl ) rfl (bcs_cons (by decide) rfl) rfl rfl fun ad6 ac w hs => ?_)
 refine stp (op_appR hs none 1 2 (N' := (l ++ [UInt8.ofNat 128]).length) (ys := bcs (l ++ [UInt8.ofNat 128])) rfl rfl rfl rfl rfl rfl underlying25 inf_u8_5 rfl (by decide) (bcs_len1 rfl) (bcs_one _) (by decide) (show l.length + 1 ≤ 1000000 by omega) (by simp only [List.length_append, List.length_cons, List.length_nil] <;> omega) (bcs_append _ _) rfl rfl fun ad7 cp8 ac w hs => ?_)
 refine asg hs rfl rfl rfl fun ac hs => ?_
 refine wpList_nil (then_n (wp_seq (wp_block ?_)))
 rw [show l ++ [UInt8.ofNat 128] = l ++ tl0 0 from rfl] at hs
 refine wp_loop_m (fun μ ac w => ∃ (j : Nat) (ao : Option Addr) (co : Nat), (zs64 l.length - j) = μ ∧ (j ≤ zs64 l.length) ∧ St 38 ⟨w0, [], [(true, .cel (.slice ad l.length c) l.length (bcs l)), (true, .own (.slice ao ((l ++ tl0 j).length) co) 5 1 ((l ++ tl0 j).length) (bcs (l ++ tl0 j)))], Z, noX⟩ [(0, true, .slice ad l.length c), (2, true, .slice none 0 0), (3, true, .slice ao ((l ++ tl0 j).length) co)] [] ac w) ?_ ?_
 replace hs := hs.selS [0, 1] rfl (by decide)
 ·exact ⟨_, 0, ad7, cp8, rfl, (Nat.zero_le _), (hs.re (fs' := [(0, true, .slice ad l.length c), (2, true, .slice none 0 0), (3, true, .slice ad7 ((l ++ tl0 0).length) cp8)]) ⟨rfl, rfl, rfl, trivial⟩)⟩
 intro μ ac w ⟨j, ao, co, hμ, hj, hs⟩
 have hll : (l ++ tl0 j).length = l.length + (j + 1) := by rw [List.length_append, tl0_len]
 have hz63 : zs64 l.length < 64 := Nat.mod_lt _ (by decide)
 refine wp_seq (wp_seq (wp_region_lit ?_))
 refine mvv hs rfl rfl rfl fun ac hs => ?_
 refine stp (op_blt hs none (v := ni64 ((l ++ tl0 j).length)) rfl rfl rfl (blt_len underlying25) rfl fun ac hs => ?_)
 refine bnn hs (ni64 (((l ++ tl0 j).length) % 64)) rfl rfl rfl rfl (bin_remN (y := 64) rfl (by decide)) fun ac hs => ?_
 refine bnn hs (.bool (decide (((l ++ tl0 j).length) % 64 ≠ 56))) rfl rfl rfl rfl (bin_neqN (y := 56)) fun ac hs => ?_
 refine wpList_nil (then_n ?_)
 refine wp_cond_split (hs.ev rfl) (fun hc => ?_) (fun hc => ?_)
 ·skip
  have hp9 := of_decide_eq_true hc
  have hz : ¬ (l.length + (j + 1)) % 64 = 56 := by rw [← hll]; exact of_decide_eq_true hc
  refine wp_skip (then_n (wp_block (wp_region_lit ?_)))
  refine mvv hs rfl rfl rfl fun ac hs => ?_
  refine stp (op_bsO hs none none (qs := [(0, .int .u8 0)]) (cs := [.int .u8 0]) (cs' := bcs [UInt8.ofNat 0]) rfl rfl rfl rfl underlying25 inf_u8_5 (by decide) (by decide) (fill_one _ _ rfl ) rfl (bcs_cons (by decide) rfl) rfl rfl fun ad11 ac w hs => ?_)
  refine stp (op_appR hs none 1 2 (N' := (l ++ tl0 j ++ [UInt8.ofNat 0]).length) (ys := bcs (l ++ tl0 j ++ [UInt8.ofNat 0])) rfl rfl rfl rfl rfl rfl underlying25 inf_u8_5 rfl (by decide) (bcs_len1 rfl) (bcs_one _) (by decide) (show (l ++ tl0 j).length + 1 ≤ 1000000 by first | omega | ((try simp only [List.length_drop, List.length_take, List.length_append, List.length_cons, List.length_nil]); omega)) (by simp only [List.length_append, List.length_cons, List.length_nil] <;> omega) (bcs_append _ _) rfl rfl fun ad12 cp13 ac w hs => ?_)
  refine asg hs rfl rfl rfl fun ac hs => ?_
  refine wpList_nil (blk_n (then_n ?_))
  rw [show l ++ tl0 j ++ [UInt8.ofNat 0] = l ++ tl0 (j + 1) from (by rw [List.append_assoc, tl0_succ])] at hs
  replace hs := hs.selS [0, 1] rfl (by decide)
  exact ⟨_, ⟨(j + 1), ad12, cp13, rfl, (zs_go hj hz), (hs.re (fs' := [(0, true, .slice ad l.length c), (2, true, .slice none 0 0), (3, true, .slice ad12 ((l ++ tl0 (j + 1)).length) cp13)]) ⟨rfl, rfl, rfl, trivial⟩)⟩, (by have := zs_go hj hz; omega)⟩
 ·skip
  have hp14 := of_decide_eq_false hc
  obtain rfl : j = zs64 l.length := zs_end hj (by rw [← hll]; exact Classical.not_not.1 (of_decide_eq_false hc))
  refine wp_exit (then_e (then_e (blk_e (then_n (wp_seq (wp_region_lit ?_))))))
  refine mvv hs rfl rfl rfl fun ac hs => ?_
  refine stp (op_blt hs none (v := ni64 (l.length)) rfl rfl rfl (blt_len underlying25) rfl fun ac hs => ?_)
  refine stp (op_convert hs none (v := nu64 (l.length)) rfl rfl rfl (conv_N underlying3 underlying22 (show l.length < 18446744073709551616 by omega)) rfl fun ac hs => ?_)
  refine bnn hs (nu64 (l.length * 8)) rfl rfl rfl rfl (bin_mulN (y := 8) rfl (show l.length * 8 < 18446744073709551616 by omega)) fun ac hs => ?_
  refine asg hs rfl rfl rfl fun ac hs => ?_
  refine wpList_nil (then_n (wp_seq (wp_seq ?_)))
  replace hs := hs.nf w0 Z noX [2, 3, 4] rfl rfl rfl rfl
  refine wp_region_lit ?_
  refine asg hs rfl rfl rfl fun ac hs => ?_
  refine wpList_nil (then_n (wp_block ?_))
  rw [show l ++ tl0 (zs64 l.length) = (l ++ tl0 (zs64 l.length)) ++ be8t (l.length * 8) 0 from (by simp [be8t])] at hs
  refine wp_loop_m (fun μ ac w => ∃ (i : Nat) (ao2 : Option Addr) (co2 : Nat), (8 - i) = μ ∧ (i ≤ 8) ∧ St 38 ⟨w0, [], [(true, .cel (.slice ad l.length c) l.length (bcs l)), (true, .own (.slice ao2 (((l ++ tl0 (zs64 l.length)) ++ be8t (l.length * 8) i).length) co2) 5 1 (((l ++ tl0 (zs64 l.length)) ++ be8t (l.length * 8) i).length) (bcs ((l ++ tl0 (zs64 l.length)) ++ be8t (l.length * 8) i)))], Z, noX⟩ [(2, true, .slice none 0 0), (4, true, nu64 (l.length * 8)), (3, true, .slice ao2 (((l ++ tl0 (zs64 l.length)) ++ be8t (l.length * 8) i).length) co2), (5, true, ni64 i)] [] ac w) ?_ ?_
  ·exact ⟨_, 0, ao, co, rfl, (by omega), (hs.re (fs' := [(2, true, .slice none 0 0), (4, true, nu64 (l.length * 8)), (3, true, .slice ao (((l ++ tl0 (zs64 l.length)) ++ be8t (l.length * 8) 0).length) co), (5, true, ni64 0)]) ⟨rfl, rfl, rfl, rfl, trivial⟩)⟩
  intro μ ac w ⟨i, ao2, co2, hμ, hi, hs⟩
  have hlk : ((l ++ tl0 (zs64 l.length)) ++ be8t (l.length * 8) i).length = l.length + (zs64 l.length + 1) + i := by rw [List.length_append, List.length_append, tl0_len, be8t_len]
  refine wp_seq (wp_seq (wp_region_lit ?_))
  refine mvv hs rfl rfl rfl fun ac hs => ?_
  refine bnn hs (.bool (decide (i < 8))) rfl rfl rfl rfl (bin_lssN (y := 8)) fun ac hs => ?_
  refine wpList_nil (then_n ?_)
  refine wp_cond_split (hs.ev rfl) (fun hc => ?_) (fun hc => ?_)
  ·skip
   have hp15 := of_decide_eq_true hc
   have hi8 := of_decide_eq_true hc
   refine wp_skip (then_n (wp_seq (wp_block (wp_region_lit ?_))))
   refine mvv hs rfl rfl rfl fun ac hs => ?_
   refine mvv hs rfl rfl rfl fun ac hs => ?_
   refine mvv hs rfl rfl rfl fun ac hs => ?_
   refine bnn hs (ni64 (8 * i)) rfl rfl rfl rfl (bin_mulN (x := 8) rfl (show 8 * i < 9223372036854775808 by omega)) fun ac hs => ?_
   refine bnn hs (ni64 (56 - (8 * i))) rfl rfl rfl rfl (bin_subN (x := 56) (by omega) (show 56 - (8 * i) < 9223372036854775808 by omega)) fun ac hs => ?_
   refine stp (op_convert hs none (v := nu64 (56 - (8 * i))) rfl rfl rfl (conv_N underlying3 underlying73 (show 56 - (8 * i) < 18446744073709551616 by omega)) rfl fun ac hs => ?_)
   refine bnn hs (.int .u64 (((l.length * 8) / 2 ^ (56 - (8 * i)) : Nat) : Int)) rfl rfl rfl rfl (bin_shrN (z := (l.length * 8) / 2 ^ (56 - (8 * i))) rfl (show l.length * 8 < 18446744073709551616 by omega)) fun ac hs => ?_
   refine stp (op_convert hs none (v := .int .u8 (((l.length * 8) / 2 ^ (56 - (8 * i)) % 256 : Nat) : Int)) rfl rfl rfl (conv_M (z := (l.length * 8) / 2 ^ (56 - (8 * i)) % 256) rfl underlying22 underlying5 rfl) rfl fun ac hs => ?_)
   refine stp (op_bsO hs none none (qs := [(0, .int .u8 (((l.length * 8) / 2 ^ (56 - (8 * i)) % 256 : Nat) : Int))]) (cs := [.int .u8 (((l.length * 8) / 2 ^ (56 - (8 * i)) % 256 : Nat) : Int)]) (cs' := bcs [UInt8.ofNat ((l.length * 8) / 2 ^ (56 - (8 * i)) % 256)]) rfl rfl rfl rfl underlying25 inf_u8_5 (by decide) (by decide) (fill_one _ _ rfl ) rfl (bcs_cons (show (l.length * 8) / 2 ^ (56 - (8 * i)) % 256 < 256 by omega) rfl) rfl rfl fun ad17 ac w hs => ?_)
   refine stp (op_appR hs none 1 2 (N' := ((l ++ tl0 (zs64 l.length)) ++ be8t (l.length * 8) i ++ [UInt8.ofNat ((l.length * 8) / 2 ^ (56 - (8 * i)) % 256)]).length) (ys := bcs ((l ++ tl0 (zs64 l.length)) ++ be8t (l.length * 8) i ++ [UInt8.ofNat ((l.length * 8) / 2 ^ (56 - (8 * i)) % 256)])) rfl rfl rfl rfl rfl rfl underlying25 inf_u8_5 rfl (by decide) (bcs_len1 rfl) (bcs_one _) (by decide) (show ((l ++ tl0 (zs64 l.length)) ++ be8t (l.length * 8) i).length + 1 ≤ 1000000 by first | omega | ((try simp only [List.length_drop, List.length_take, List.length_append, List.length_cons, List.length_nil]); omega)) (by simp only [List.length_append, List.length_cons, List.length_nil] <;> omega) (bcs_append _ _) rfl rfl fun ad18 cp19 ac w hs => ?_)
   refine asg hs rfl rfl rfl fun ac hs => ?_
   refine wpList_nil (blk_n (then_n ?_))
   replace hs := hs.nf w0 Z noX [2, 4, 3, 5] rfl rfl rfl rfl
   refine wp_region_lit ?_
   refine mvv hs rfl rfl rfl fun ac hs => ?_
   refine bnn hs (ni64 (i + 1)) rfl rfl rfl rfl (bin_addN (y := 1) rfl (show i + 1 < 9223372036854775808 by omega)) fun ac hs => ?_
   refine asg hs rfl rfl rfl fun ac hs => ?_
   refine wpList_nil (then_n ?_)
   rw [show (l ++ tl0 (zs64 l.length)) ++ be8t (l.length * 8) i ++ [UInt8.ofNat ((l.length * 8) / 2 ^ (56 - (8 * i)) % 256)] = (l ++ tl0 (zs64 l.length)) ++ be8t (l.length * 8) (i + 1) from (by rw [be8t_succ, ← List.append_assoc])] at hs
   replace hs := hs.selS [0, 1] rfl (by decide)
   exact ⟨_, ⟨(i + 1), ad18, cp19, rfl, (by omega), (hs.re (fs' := [(2, true, .slice none 0 0), (4, true, nu64 (l.length * 8)), (3, true, .slice ad18 (((l ++ tl0 (zs64 l.length)) ++ be8t (l.length * 8) (i + 1)).length) cp19), (5, true, ni64 ((i + 1)))]) ⟨rfl, rfl, rfl, rfl, trivial⟩)⟩, (by omega)⟩
  ·skip
   have hp20 := of_decide_eq_false hc
   obtain rfl : i = 8 := by have := of_decide_eq_false hc; omega
   refine wp_exit (then_e (then_e (blk_e (then_n (wp_seq (wp_region_lit ?_))))))
   refine mvv hs rfl rfl rfl fun ac hs => ?_
   refine asg hs rfl rfl rfl fun ac hs => ?_
   refine wpList_nil (then_n (wp_ret ?_))
   rw [show (l ++ tl0 (zs64 l.length)) ++ be8t (l.length * 8) 8 = l ++ tl64 l.length l.length from (by unfold tl64; rw [← List.append_assoc]; rfl)] at hs
   replace hs := hs.freeze 1 rfl
   exact bodyPost_ret (res1 rfl (rv_t hs rfl)) hs.defers ⟨⟨ao2, co2⟩, rfl, hs.bel rfl, hs.ret1 1 rfl⟩
theorem rsteps_c  (w0 : World) (Z : Nat → Prop) : Calls prog 131 #[] w0 fun e w' => Ret w0 Z (ρ := Option Addr × Nat) (fun r => .slice r.1 64 r.2) (fun r => [.cel (.slice r.1 64 r.2) 64 (tab .u32 64 KK)]) e w' := by
 refine enterS (n := 2) (args := []) (S := []) (Z := Z) func131 rfl rfl (Nat.le_of_ble_eq_true rfl) sok0 rfl fun ac hs => ?_
 refine wp_seq (wp_region_lit ?_)
 refine asg hs rfl rfl rfl fun ac hs => ?_
 refine wpList_nil (then_n (wp_seq (wp_region_lit ?_)))
 refine stp (op_bsO hs none none (qs := [(0, .int .u32 1116352408), (1, .int .u32 1899447441), (2, .int .u32 3049323471), (3, .int .u32 3921009573), (4, .int .u32 961987163), (5, .int .u32 1508970993), (6, .int .u32 2453635748), (7, .int .u32 2870763221), (8, .int .u32 3624381080), (9, .int .u32 310598401), (10, .int .u32 607225278), (11, .int .u32 1426881987), (12, .int .u32 1925078388), (13, .int .u32 2162078206), (14, .int .u32 2614888103), (15, .int .u32 3248222580), (16, .int .u32 3835390401), (17, .int .u32 4022224774), (18, .int .u32 264347078), (19, .int .u32 604807628), (20, .int .u32 770255983), (21, .int .u32 1249150122), (22, .int .u32 1555081692), (23, .int .u32 1996064986), (24, .int .u32 2554220882), (25, .int .u32 2821834349), (26, .int .u32 2952996808), (27, .int .u32 3210313671), (28, .int .u32 3336571891), (29, .int .u32 3584528711), (30, .int .u32 113926993), (31, .int .u32 338241895), (32, .int .u32 666307205), (33, .int .u32 773529912), (34, .int .u32 1294757372), (35, .int .u32 1396182291), (36, .int .u32 1695183700), (37, .int .u32 1986661051), (38, .int .u32 2177026350), (39, .int .u32 2456956037), (40, .int .u32 2730485921), (41, .int .u32 2820302411), (42, .int .u32 3259730800), (43, .int .u32 3345764771), (44, .int .u32 3516065817), (45, .int .u32 3600352804), (46, .int .u32 4094571909), (47, .int .u32 275423344), (48, .int .u32 430227734), (49, .int .u32 506948616), (50, .int .u32 659060556), (51, .int .u32 883997877), (52, .int .u32 958139571), (53, .int .u32 1322822218), (54, .int .u32 1537002063), (55, .int .u32 1747873779), (56, .int .u32 1955562222), (57, .int .u32 2024104815), (58, .int .u32 2227730452), (59, .int .u32 2361852424), (60, .int .u32 2428436474), (61, .int .u32 2756734187), (62, .int .u32 3204031479), (63, .int .u32 3329325298)]) (cs := tab .u32 64 KK) rfl rfl rfl rfl underlying115 inf_u32_109 (by decide) (by decide) (by kernel_rfl) rfl rfl rfl rfl fun ad2 ac w hs => ?_)
 refine asg hs rfl rfl rfl fun ac hs => ?_
 refine wpList_nil (then_n (wp_ret ?_))
 replace hs := hs.freeze 0 rfl
 exact bodyPost_ret (res1 rfl (rv_t hs rfl)) hs.defers ⟨⟨ad2, 64⟩, rfl, hs.bel rfl, hs.ret1 0 rfl⟩
theorem rblock_c (ah : Option Addr) (ch : Nat) (h : Nat → Nat) (hh : ∀ j, h j < 4294967296) (ak : Option Addr) (ck : Nat) (ad : Option Addr) (nl c : Nat) (l : List UInt8) (h64 : l.length = 64) (w0 : World) (Z : Nat → Prop) (hH : CelV w0 Z (.slice ah 8 ch) 8 (tab .u32 8 h)) (hK : CelV w0 Z (.slice ak 64 ck) 64 (tab .u32 64 KK)) (hl : ByV w0 Z (.slice ad nl c) l): Calls prog 133 #[.slice ah 8 ch, .slice ak 64 ck, .slice ad nl c] w0 fun e w' => Ret w0 Z (ρ := Option Addr × Nat) (fun r => .slice r.1 8 r.2) (fun r => [.cel (.slice r.1 8 r.2) 8 (tab .u32 8 (blk h l))]) e w' := by
 obtain rfl := byv_len hl
 refine enterS (n := 227) (args := [.slice ah 8 ch, .slice ak 64 ck, .slice ad l.length c]) (S := [(true, .cel (.slice ah 8 ch) 8 (tab .u32 8 h)), (true, .cel (.slice ak 64 ck) 64 (tab .u32 64 KK)), (true, .cel (.slice ad l.length c) l.length (bcs l))]) (Z := Z) func133 rfl rfl (Nat.le_of_ble_eq_true rfl) (sokC hH (sokC hK (sokC hl sok0))) rfl fun ac hs => ?_
 refine wp_seq (wp_region_lit ?_)
 refine asg hs rfl rfl rfl fun ac hs => ?_
 refine wpList_nil (then_n (wp_seq (wp_region_lit ?_)))
 refine stp (op_bsO0 hs none none (size := 1) rfl rfl underlying115 inf_u32_109 rfl rfl fun ad2 ac w hs => ?_)
 refine asg hs rfl rfl rfl fun ac hs => ?_
 refine wpList_nil (then_n (wp_seq (wp_seq (wp_region_lit ?_))))
 refine asg hs rfl rfl rfl fun ac hs => ?_
 refine wpList_nil (then_n (wp_block ?_))
 replace hs := hs.ownEq 3 (N' := 0) (xs' := tab .u32 0 (wv l)) rfl rfl rfl
 refine wp_loop_m (fun μ ac w => ∃ (i : Nat) (aw : Option Addr) (cw : Nat), (64 - i) = μ ∧ (i ≤ 64) ∧ St 227 ⟨w0, [], [(true, .cel (.slice ah 8 ch) 8 (tab .u32 8 h)), (true, .cel (.slice ak 64 ck) 64 (tab .u32 64 KK)), (true, .cel (.slice ad l.length c) l.length (bcs l)), (true, .own (.slice aw i cw) 109 1 i (tab .u32 i (wv l)))], Z, noX⟩ [(0, true, .slice ah 8 ch), (1, true, .slice ak 64 ck), (2, true, .slice ad l.length c), (6, true, .slice none 0 0), (7, true, .slice aw i cw), (8, true, ni64 i)] [] ac w) ?_ ?_
 ·exact ⟨_, 0, ad2, 0, rfl, (by omega), (hs.re (fs' := [(0, true, .slice ah 8 ch), (1, true, .slice ak 64 ck), (2, true, .slice ad l.length c), (6, true, .slice none 0 0), (7, true, .slice ad2 0 0), (8, true, ni64 0)]) ⟨rfl, rfl, rfl, rfl, rfl, rfl, trivial⟩)⟩
 intro μ ac w ⟨i, aw, cw, hμ, hi, hs⟩
 refine wp_seq (wp_seq (wp_region_lit ?_))
 refine mvv hs rfl rfl rfl fun ac hs => ?_
 refine bnn hs (.bool (decide (i < 64))) rfl rfl rfl rfl (bin_lssN (y := 64)) fun ac hs => ?_
 refine wpList_nil (then_n ?_)
 refine wp_cond_split (hs.ev rfl) (fun hc => ?_) (fun hc => ?_)
 ·skip
  have hp3 := of_decide_eq_true hc
  have hi64 := of_decide_eq_true hc
  refine wp_skip (then_n (wp_seq (wp_block (wp_seq (wp_seq (wp_region_lit ?_))))))
  refine mvv hs rfl rfl rfl fun ac hs => ?_
  refine bnn hs (.bool (decide (i < 16))) rfl rfl rfl rfl (bin_lssN (y := 16)) fun ac hs => ?_
  refine wpList_nil (then_n ?_)
  refine wp_cond_split (hs.ev rfl) (fun hc => ?_) (fun hc => ?_)
  ·skip
   have hp4 := of_decide_eq_true hc
   have h16 := of_decide_eq_true hc
   refine wp_seq ?_
   replace hs := hs.nf w0 Z noX [0, 1, 2, 6, 7, 8] rfl rfl rfl rfl
   have l5 := byt_lt l (4 * i)
   obtain ⟨x6, hx6, lx6⟩ : ∃ z0, (byt l (4 * i)) * 2 ^ 24 = z0 ∧ z0 < 4294967296 := ⟨_, rfl, by omega⟩
   have l7 := byt_lt l (4 * i + 1)
   obtain ⟨x8, hx8, lx8⟩ : ∃ z0, (byt l (4 * i + 1)) * 2 ^ 16 = z0 ∧ z0 < 4294967296 := ⟨_, rfl, by omega⟩
   obtain ⟨x9, hx9, lx9⟩ : ∃ z0, x6 ||| x8 = z0 ∧ z0 < 4294967296 := ⟨_, rfl, Nat.or_lt_two_pow (n := 32) (show x6 < 4294967296 by omega) (show x8 < 4294967296 by omega)⟩
   have l10 := byt_lt l (4 * i + 2)
   obtain ⟨x11, hx11, lx11⟩ : ∃ z0, (byt l (4 * i + 2)) * 2 ^ 8 = z0 ∧ z0 < 4294967296 := ⟨_, rfl, by omega⟩
   obtain ⟨x12, hx12, lx12⟩ : ∃ z0, x9 ||| x11 = z0 ∧ z0 < 4294967296 := ⟨_, rfl, Nat.or_lt_two_pow (n := 32) (show x9 < 4294967296 by omega) (show x11 < 4294967296 by omega)⟩
   have l13 := byt_lt l (4 * i + 3)
   obtain ⟨x14, hx14, lx14⟩ : ∃ z0, x12 ||| (byt l (4 * i + 3)) = z0 ∧ z0 < 4294967296 := ⟨_, rfl, Nat.or_lt_two_pow (n := 32) (show x12 < 4294967296 by omega) (show byt l (4 * i + 3) < 4294967296 by omega)⟩
   have hz : wv l i = x14 := by rw [wv_lo h16, pre4_4, ← or4 (byt_lt _ _) (byt_lt _ _) (byt_lt _ _)]; simp only [hx6, hx8, hx9, hx11, hx12, hx14]
   refine region_inv [([], [35, 36]), ([], [4, 5, 6, 7, 16, 25, 33, 34, 35, 36]), ([], [3, 4, 5, 6, 7, 16, 25, 33, 34, 35, 36]), ([2], [4, 5, 6, 7, 16, 25, 33, 34, 35, 36]), ([1, 2, 3], [5, 6, 7, 16, 25, 33, 34, 35, 36]), (rgn 1 4, [6, 7, 16, 25, 33, 34, 35, 36]), (rgn 1 5, [7, 16, 25, 33, 34, 35, 36]), (rgn 1 6, [16, 25, 33, 34, 35, 36]), ([], [12, 13, 14, 15, 16, 25, 33, 34, 35, 36]), ([], [10, 11, 12, 13, 14, 15, 16, 25, 33, 34, 35, 36]), ([9], [11, 12, 13, 14, 15, 16, 25, 33, 34, 35, 36]), ([9, 10], [12, 13, 14, 15, 16, 25, 33, 34, 35, 36]), (rgn 8 4, [13, 14, 15, 16, 25, 33, 34, 35, 36]), (rgn 8 5, [14, 15, 16, 25, 33, 34, 35, 36]), (rgn 8 6, [15, 16, 25, 33, 34, 35, 36]), (rgn 8 7, [16, 25, 33, 34, 35, 36]), (rgn 1 15, [25, 33, 34, 35, 36]), ([], [21, 22, 23, 24, 25, 33, 34, 35, 36]), ([], [19, 20, 21, 22, 23, 24, 25, 33, 34, 35, 36]), ([18], [20, 21, 22, 23, 24, 25, 33, 34, 35, 36]), ([18, 19], [21, 22, 23, 24, 25, 33, 34, 35, 36]), (rgn 17 4, [22, 23, 24, 25, 33, 34, 35, 36]), (rgn 17 5, [23, 24, 25, 33, 34, 35, 36]), (rgn 17 6, [24, 25, 33, 34, 35, 36]), (rgn 17 7, [25, 33, 34, 35, 36]), (rgn 1 24, rgn 33 4), ([], rgn 30 7), ([], rgn 28 9), ([27], rgn 29 8), ([27, 28], rgn 30 7), (rgn 26 4, rgn 31 6), (rgn 26 5, rgn 32 5), (rgn 26 6, rgn 33 4), (rgn 1 32, [34, 35, 36]), (rgn 1 33, [35, 36]), (rgn 0 35, [36]), (rgn 0 36, [])] (fun L ac w => ∃ (ad16 : Option Addr) (ad17 : Option Addr) (cp18 : Nat), St 227 ⟨w0, [], [(true, .cel (.slice ah 8 ch) 8 (tab .u32 8 h)), (true, .cel (.slice ak 64 ck) 64 (tab .u32 64 KK)), (true, .cel (.slice ad l.length c) l.length (bcs l)), (true, cond (L 35) (.own (.slice ad17 (i + 1) cp18) 109 1 (i + 1) (tab .u32 (i + 1) (wv l))) (.own (.slice aw i cw) 109 1 i (tab .u32 i (wv l)))), (L 34, .own (.slice ad16 1 1) 109 1 1 ([nu32 x14]))], Z, noX⟩ [(28, L 0, .slice aw i cw), (29, L 1, .slice ad l.length c), (30, L 2, ni64 i), (31, L 3, ni64 (4 * i)), (32, L 4, vidx (.slice ad l.length c) (4 * i)), (33, L 5, nu8 (byt l (4 * i))), (34, L 6, nu32 (byt l (4 * i))), (35, L 7, nu32 x6), (36, L 8, .slice ad l.length c), (37, L 9, ni64 i), (38, L 10, ni64 (4 * i)), (39, L 11, ni64 (4 * i + 1)), (40, L 12, vidx (.slice ad l.length c) (4 * i + 1)), (41, L 13, nu8 (byt l (4 * i + 1))), (42, L 14, nu32 (byt l (4 * i + 1))), (43, L 15, nu32 x8), (44, L 16, nu32 x9), (45, L 17, .slice ad l.length c), (46, L 18, ni64 i), (47, L 19, ni64 (4 * i)), (48, L 20, ni64 (4 * i + 2)), (49, L 21, vidx (.slice ad l.length c) (4 * i + 2)), (50, L 22, nu8 (byt l (4 * i + 2))), (51, L 23, nu32 (byt l (4 * i + 2))), (52, L 24, nu32 x11), (53, L 25, nu32 x12), (54, L 26, .slice ad l.length c), (55, L 27, ni64 i), (56, L 28, ni64 (4 * i)), (57, L 29, ni64 (4 * i + 3)), (58, L 30, vidx (.slice ad l.length c) (4 * i + 3)), (59, L 31, nu8 (byt l (4 * i + 3))), (60, L 32, nu32 (byt l (4 * i + 3))), (61, L 33, nu32 x14), (62, L 34, .slice ad16 1 1), (63, L 35, .slice ad17 (i + 1) cp18), (7, L 36, cond (L 36) (.slice ad17 (i + 1) cp18) undef), (0, true, .slice ah 8 ch), (1, true, .slice ak 64 ck), (2, true, .slice ad l.length c), (6, true, .slice none 0 0), (7, true, .slice aw i cw), (8, true, ni64 i)] [] ac w) (by kernel_rfl) (by kernel_rfl) ?_ ?_ ?_
   ·exact ⟨none, none, 0, hs.drew.skip.skip.skip.skip.skip.skip.skip.skip.skip.skip.skip.skip.skip.skip.skip.skip.skip.skip.skip.skip.skip.skip.skip.skip.skip.skip.skip.skip.skip.skip.skip.skip.skip.skip.skip.skip.skip.padS⟩
   ·refine ⟨?_, ?_, ?_, ?_, ?_, ?_, ?_, ?_, ?_, ?_, ?_, ?_, ?_, ?_, ?_, ?_, ?_, ?_, ?_, ?_, ?_, ?_, ?_, ?_, ?_, ?_, ?_, ?_, ?_, ?_, ?_, ?_, ?_, ?_, ?_, ?_, ?_, trivial⟩
    ·exact fun L ac w ⟨ad16, ad17, cp18, hs⟩ => pln (omv hs 0 rfl rfl rfl fun ac hs => ⟨ad16, ad17, cp18, hs⟩)
    ·exact fun L ac w ⟨ad16, ad17, cp18, hs⟩ => pln (omv hs 1 rfl rfl rfl fun ac hs => ⟨ad16, ad17, cp18, hs⟩)
    ·exact fun L ac w ⟨ad16, ad17, cp18, hs⟩ => pln (omv hs 2 rfl rfl rfl fun ac hs => ⟨ad16, ad17, cp18, hs⟩)
    ·exact fun L ac w ⟨ad16, ad17, cp18, hs⟩ => pln (obn hs 3 (ni64 (4 * i)) rfl rfl rfl rfl (bin_mulN (x := 4) rfl (show 4 * i < 9223372036854775808 by omega)) fun ac hs => ⟨ad16, ad17, cp18, hs⟩)
    ·exact fun L ac w ⟨ad16, ad17, cp18, hs⟩ => pln (op_idxC hs (some 4) 2 (j := 4 * i) rfl rfl rfl rfl rfl underlying25 sizeOf5 (show 4 * i < l.length by omega) (off := 4 * i) (by omega) rfl fun ac hs => ⟨ad16, ad17, cp18, hs⟩)
    ·exact fun L ac w ⟨ad16, ad17, cp18, hs⟩ => pln (op_loadC hs (some 5) 2 (u := nu8 (byt l (4 * i))) rfl rfl rfl rfl isAgg5 sizeOf5 (by decide) (bcs_get (show 4 * i < l.length by omega)) rfl fun ac hs => ⟨ad16, ad17, cp18, hs⟩)
    ·exact fun L ac w ⟨ad16, ad17, cp18, hs⟩ => pln (op_convert hs (some 6) (v := nu32 (byt l (4 * i))) rfl rfl rfl (conv_N underlying5 underlying109 (show byt l (4 * i) < 4294967296 by omega)) rfl fun ac hs => ⟨ad16, ad17, cp18, hs⟩)
    ·exact fun L ac w ⟨ad16, ad17, cp18, hs⟩ => pln (obn hs 7 (nu32 x6) rfl rfl rfl rfl (bin_shlZ (y := 24) hx6 (by decide) lx6) fun ac hs => ⟨ad16, ad17, cp18, hs⟩)
    ·exact fun L ac w ⟨ad16, ad17, cp18, hs⟩ => pln (omv hs 8 rfl rfl rfl fun ac hs => ⟨ad16, ad17, cp18, hs⟩)
    ·exact fun L ac w ⟨ad16, ad17, cp18, hs⟩ => pln (omv hs 9 rfl rfl rfl fun ac hs => ⟨ad16, ad17, cp18, hs⟩)
    ·exact fun L ac w ⟨ad16, ad17, cp18, hs⟩ => pln (obn hs 10 (ni64 (4 * i)) rfl rfl rfl rfl (bin_mulN (x := 4) rfl (show 4 * i < 9223372036854775808 by omega)) fun ac hs => ⟨ad16, ad17, cp18, hs⟩)
    ·exact fun L ac w ⟨ad16, ad17, cp18, hs⟩ => pln (obn hs 11 (ni64 (4 * i + 1)) rfl rfl rfl rfl (bin_addN (y := 1) rfl (show 4 * i + 1 < 9223372036854775808 by omega)) fun ac hs => ⟨ad16, ad17, cp18, hs⟩)
    ·exact fun L ac w ⟨ad16, ad17, cp18, hs⟩ => pln (op_idxC hs (some 12) 2 (j := 4 * i + 1) rfl rfl rfl rfl rfl underlying25 sizeOf5 (show 4 * i + 1 < l.length by omega) (off := 4 * i + 1) (by omega) rfl fun ac hs => ⟨ad16, ad17, cp18, hs⟩)
    ·exact fun L ac w ⟨ad16, ad17, cp18, hs⟩ => pln (op_loadC hs (some 13) 2 (u := nu8 (byt l (4 * i + 1))) rfl rfl rfl rfl isAgg5 sizeOf5 (by decide) (bcs_get (show 4 * i + 1 < l.length by omega)) rfl fun ac hs => ⟨ad16, ad17, cp18, hs⟩)
    ·exact fun L ac w ⟨ad16, ad17, cp18, hs⟩ => pln (op_convert hs (some 14) (v := nu32 (byt l (4 * i + 1))) rfl rfl rfl (conv_N underlying5 underlying109 (show byt l (4 * i + 1) < 4294967296 by omega)) rfl fun ac hs => ⟨ad16, ad17, cp18, hs⟩)
    ·exact fun L ac w ⟨ad16, ad17, cp18, hs⟩ => pln (obn hs 15 (nu32 x8) rfl rfl rfl rfl (bin_shlZ (y := 16) hx8 (by decide) lx8) fun ac hs => ⟨ad16, ad17, cp18, hs⟩)
    ·exact fun L ac w ⟨ad16, ad17, cp18, hs⟩ => pln (obn hs 16 (nu32 x9) rfl rfl rfl rfl (bin_orN hx9 (show x6 < 4294967296 by omega) (show x8 < 4294967296 by omega) lx9) fun ac hs => ⟨ad16, ad17, cp18, hs⟩)
    ·exact fun L ac w ⟨ad16, ad17, cp18, hs⟩ => pln (omv hs 17 rfl rfl rfl fun ac hs => ⟨ad16, ad17, cp18, hs⟩)
    ·exact fun L ac w ⟨ad16, ad17, cp18, hs⟩ => pln (omv hs 18 rfl rfl rfl fun ac hs => ⟨ad16, ad17, cp18, hs⟩)
    ·exact fun L ac w ⟨ad16, ad17, cp18, hs⟩ => pln (obn hs 19 (ni64 (4 * i)) rfl rfl rfl rfl (bin_mulN (x := 4) rfl (show 4 * i < 9223372036854775808 by omega)) fun ac hs => ⟨ad16, ad17, cp18, hs⟩)
    ·exact fun L ac w ⟨ad16, ad17, cp18, hs⟩ => pln (obn hs 20 (ni64 (4 * i + 2)) rfl rfl rfl rfl (bin_addN (y := 2) rfl (show 4 * i + 2 < 9223372036854775808 by omega)) fun ac hs => ⟨ad16, ad17, cp18, hs⟩)
    ·exact fun L ac w ⟨ad16, ad17, cp18, hs⟩ => pln (op_idxC hs (some 21) 2 (j := 4 * i + 2) rfl rfl rfl rfl rfl underlying25 sizeOf5 (show 4 * i + 2 < l.length by omega) (off := 4 * i + 2) (by omega) rfl fun ac hs => ⟨ad16, ad17, cp18, hs⟩)
    ·exact fun L ac w ⟨ad16, ad17, cp18, hs⟩ => pln (op_loadC hs (some 22) 2 (u := nu8 (byt l (4 * i + 2))) rfl rfl rfl rfl isAgg5 sizeOf5 (by decide) (bcs_get (show 4 * i + 2 < l.length by omega)) rfl fun ac hs => ⟨ad16, ad17, cp18, hs⟩)
    ·exact fun L ac w ⟨ad16, ad17, cp18, hs⟩ => pln (op_convert hs (some 23) (v := nu32 (byt l (4 * i + 2))) rfl rfl rfl (conv_N underlying5 underlying109 (show byt l (4 * i + 2) < 4294967296 by omega)) rfl fun ac hs => ⟨ad16, ad17, cp18, hs⟩)
    ·exact fun L ac w ⟨ad16, ad17, cp18, hs⟩ => pln (obn hs 24 (nu32 x11) rfl rfl rfl rfl (bin_shlZ (y := 8) hx11 (by decide) lx11) fun ac hs => ⟨ad16, ad17, cp18, hs⟩)
    ·exact fun L ac w ⟨ad16, ad17, cp18, hs⟩ => pln (obn hs 25 (nu32 x12) rfl rfl rfl rfl (bin_orN hx12 (show x9 < 4294967296 by omega) (show x11 < 4294967296 by omega) lx12) fun ac hs => ⟨ad16, ad17, cp18, hs⟩)
    ·exact fun L ac w ⟨ad16, ad17, cp18, hs⟩ => pln (omv hs 26 rfl rfl rfl fun ac hs => ⟨ad16, ad17, cp18, hs⟩)
    ·exact fun L ac w ⟨ad16, ad17, cp18, hs⟩ => pln (omv hs 27 rfl rfl rfl fun ac hs => ⟨ad16, ad17, cp18, hs⟩)
    ·exact fun L ac w ⟨ad16, ad17, cp18, hs⟩ => pln (obn hs 28 (ni64 (4 * i)) rfl rfl rfl rfl (bin_mulN (x := 4) rfl (show 4 * i < 9223372036854775808 by omega)) fun ac hs => ⟨ad16, ad17, cp18, hs⟩)
    ·exact fun L ac w ⟨ad16, ad17, cp18, hs⟩ => pln (obn hs 29 (ni64 (4 * i + 3)) rfl rfl rfl rfl (bin_addN (y := 3) rfl (show 4 * i + 3 < 9223372036854775808 by omega)) fun ac hs => ⟨ad16, ad17, cp18, hs⟩)
    ·exact fun L ac w ⟨ad16, ad17, cp18, hs⟩ => pln (op_idxC hs (some 30) 2 (j := 4 * i + 3) rfl rfl rfl rfl rfl underlying25 sizeOf5 (show 4 * i + 3 < l.length by omega) (off := 4 * i + 3) (by omega) rfl fun ac hs => ⟨ad16, ad17, cp18, hs⟩)
    ·exact fun L ac w ⟨ad16, ad17, cp18, hs⟩ => pln (op_loadC hs (some 31) 2 (u := nu8 (byt l (4 * i + 3))) rfl rfl rfl rfl isAgg5 sizeOf5 (by decide) (bcs_get (show 4 * i + 3 < l.length by omega)) rfl fun ac hs => ⟨ad16, ad17, cp18, hs⟩)
    ·exact fun L ac w ⟨ad16, ad17, cp18, hs⟩ => pln (op_convert hs (some 32) (v := nu32 (byt l (4 * i + 3))) rfl rfl rfl (conv_N underlying5 underlying109 (show byt l (4 * i + 3) < 4294967296 by omega)) rfl fun ac hs => ⟨ad16, ad17, cp18, hs⟩)
    ·exact fun L ac w ⟨ad16, ad17, cp18, hs⟩ => pln (obn hs 33 (nu32 x14) rfl rfl rfl rfl (bin_orN hx14 (show x12 < 4294967296 by omega) (show byt l (4 * i + 3) < 4294967296 by omega) lx14) fun ac hs => ⟨ad16, ad17, cp18, hs⟩)
    ·exact fun L ac w ⟨ad16, ad17, cp18, hs⟩ => pln (op_bsO hs (some 34) (some 4) (qs := [(0, nu32 x14)]) (cs := [nu32 x14]) rfl rfl rfl rfl underlying115 inf_u32_109 (by decide) (by decide) (fill_one _ _ rfl) rfl rfl rfl rfl fun ad16 ac w hs => ⟨ad16, ad17, cp18, hs⟩)
    ·exact fun L ac w ⟨ad16, ad17, cp18, hs⟩ => pln (op_appR hs (some 35) 3 4 (N' := i + 1) (ys := (tab .u32 (i + 1) (wv l))) rfl rfl rfl rfl rfl rfl underlying115 inf_u32_109 rfl (by decide) rfl (by intro u hu; obtain rfl := List.mem_singleton.1 hu; rfl) (by decide) (show i + 1 ≤ 1000000 by omega) rfl (tab_snoc1 hz) rfl rfl fun ad17 cp18 ac w hs => ⟨ad16, ad17, cp18, hs⟩)
    ·exact fun L ac w ⟨ad16, ad17, cp18, hs⟩ => pln (oas hs 36 rfl rfl rfl fun ac hs => ⟨ad16, ad17, cp18, hs⟩)
   intro ac w ⟨ad16, ad17, cp18, hs⟩
   try dsimp only [cond_true] at hs
   refine then_n (wp_exit (then_e (blk_e (then_n (wp_region_lit ?_)))))
   refine mvv hs rfl rfl rfl fun ac hs => ?_
   refine bnn hs (ni64 (i + 1)) rfl rfl rfl rfl (bin_addN (y := 1) rfl (show i + 1 < 9223372036854775808 by omega)) fun ac hs => ?_
   refine asg hs rfl rfl rfl fun ac hs => ?_
   refine wpList_nil (then_n ?_)
   replace hs := hs.selS [0, 1, 2, 3] rfl (by decide)
   exact ⟨_, ⟨(i + 1), ad17, cp18, rfl, (by omega), (hs.re (fs' := [(0, true, .slice ah 8 ch), (1, true, .slice ak 64 ck), (2, true, .slice ad l.length c), (6, true, .slice none 0 0), (7, true, .slice ad17 (i + 1) cp18), (8, true, ni64 ((i + 1)))]) ⟨rfl, rfl, rfl, rfl, rfl, rfl, trivial⟩)⟩, (by omega)⟩
  ·skip
   have hp19 := of_decide_eq_false hc
   have h16 : ¬ i < 16 := of_decide_eq_false hc
   refine wp_skip (then_n (wp_seq ?_))
   replace hs := hs.nf w0 Z noX [0, 1, 2, 6, 7, 8] rfl rfl rfl rfl
   have l20 := wv_lt l (i - 15)
   have l21 := wv_lt l (i - 2)
   refine region_inv [([], [3, 4, 10, 11]), ([], [2, 3, 4, 10, 11]), ([1], [3, 4, 10, 11]), ([0, 1, 2], [4, 10, 11]), (rgn 0 4, [10, 11]), ([], [8, 9, 11]), ([], [7, 8, 9, 11]), ([6], [8, 9, 11]), ([5, 6, 7], [9, 11]), (rgn 5 4, [11]), (rgn 0 5, [11]), (rgn 0 11, [])] (fun L ac w => St 227 ⟨w0, [], [(true, .cel (.slice ah 8 ch) 8 (tab .u32 8 h)), (true, .cel (.slice ak 64 ck) 64 (tab .u32 64 KK)), (true, .cel (.slice ad l.length c) l.length (bcs l)), (true, .own (.slice aw i cw) 109 1 i (tab .u32 i (wv l)))], Z, noX⟩ [(64, L 0, .slice aw i cw), (65, L 1, ni64 i), (66, L 2, ni64 (i - 15)), (67, L 3, vidx (.slice aw i cw) (i - 15)), (68, L 4, .int .u32 (((wv l) (i - 15) : Nat) : Int)), (69, L 5, .slice aw i cw), (70, L 6, ni64 i), (71, L 7, ni64 (i - 2)), (72, L 8, vidx (.slice aw i cw) (i - 2)), (73, L 9, .int .u32 (((wv l) (i - 2) : Nat) : Int)), (9, L 10, .int .u32 (((wv l) (i - 15) : Nat) : Int)), (10, L 11, .int .u32 (((wv l) (i - 2) : Nat) : Int)), (0, true, .slice ah 8 ch), (1, true, .slice ak 64 ck), (2, true, .slice ad l.length c), (6, true, .slice none 0 0), (7, true, .slice aw i cw), (8, true, ni64 i)] [] ac w) (by kernel_rfl) (by kernel_rfl) ?_ ?_ ?_
   ·exact hs.drew.skip.skip.skip.skip.skip.skip.skip.skip.skip.skip.skip.skip
   ·refine ⟨?_, ?_, ?_, ?_, ?_, ?_, ?_, ?_, ?_, ?_, ?_, ?_, trivial⟩
    ·exact fun L ac w hs => pln (omv hs 0 rfl rfl rfl fun ac hs => hs)
    ·exact fun L ac w hs => pln (omv hs 1 rfl rfl rfl fun ac hs => hs)
    ·exact fun L ac w hs => pln (obn hs 2 (ni64 (i - 15)) rfl rfl rfl rfl (bin_subN (y := 15) (by omega) (show i - 15 < 9223372036854775808 by omega)) fun ac hs => hs)
    ·exact fun L ac w hs => pln (op_idxC hs (some 3) 3 (j := i - 15) rfl rfl rfl rfl rfl underlying115 sizeOf109 (show i - 15 < i by omega) (off := i - 15) (by omega) rfl fun ac hs => hs)
    ·exact fun L ac w hs => pln (op_loadC hs (some 4) 3 (u := .int .u32 (((wv l) (i - 15) : Nat) : Int)) rfl rfl rfl rfl isAgg109 sizeOf109 (by decide) (tab_get (j := i - 15) (show i - 15 < i by omega)) rfl fun ac hs => hs)
    ·exact fun L ac w hs => pln (omv hs 5 rfl rfl rfl fun ac hs => hs)
    ·exact fun L ac w hs => pln (omv hs 6 rfl rfl rfl fun ac hs => hs)
    ·exact fun L ac w hs => pln (obn hs 7 (ni64 (i - 2)) rfl rfl rfl rfl (bin_subN (y := 2) (by omega) (show i - 2 < 9223372036854775808 by omega)) fun ac hs => hs)
    ·exact fun L ac w hs => pln (op_idxC hs (some 8) 3 (j := i - 2) rfl rfl rfl rfl rfl underlying115 sizeOf109 (show i - 2 < i by omega) (off := i - 2) (by omega) rfl fun ac hs => hs)
    ·exact fun L ac w hs => pln (op_loadC hs (some 9) 3 (u := .int .u32 (((wv l) (i - 2) : Nat) : Int)) rfl rfl rfl rfl isAgg109 sizeOf109 (by decide) (tab_get (j := i - 2) (show i - 2 < i by omega)) rfl fun ac hs => hs)
    ·exact fun L ac w hs => pln (oas hs 10 rfl rfl rfl fun ac hs => hs)
    ·exact fun L ac w hs => pln (oas hs 11 rfl rfl rfl fun ac hs => hs)
   intro ac w hs
   try dsimp only [cond_true] at hs
   refine then_n (wp_seq (wp_region_lit ?_))
   refine mvv hs rfl rfl rfl fun ac hs => ?_
   obtain ⟨x22, hx22, lx22⟩ : ∃ z0, rr ((wv l) (i - 15)) 7 = z0 ∧ z0 < 4294967296 := ⟨_, rfl, rr_lt (show (wv l) (i - 15) < 4294967296 by omega)⟩
   refine stp (op_call (F := 142) hs none (v := nu32 x22) rfl rfl rfl rfl (call142 _) (turn_c ((wv l) (i - 15)) 7 x22 (show (wv l) (i - 15) < 4294967296 by omega) (by decide) hx22) rfl fun ac w hs => ?_)
   refine mvv hs rfl rfl rfl fun ac hs => ?_
   obtain ⟨x23, hx23, lx23⟩ : ∃ z0, rr ((wv l) (i - 15)) 18 = z0 ∧ z0 < 4294967296 := ⟨_, rfl, rr_lt (show (wv l) (i - 15) < 4294967296 by omega)⟩
   refine stp (op_call (F := 142) hs none (v := nu32 x23) rfl rfl rfl rfl (call142 _) (turn_c ((wv l) (i - 15)) 18 x23 (show (wv l) (i - 15) < 4294967296 by omega) (by decide) hx23) rfl fun ac w hs => ?_)
   obtain ⟨x24, hx24, lx24⟩ : ∃ z0, x22 ^^^ x23 = z0 ∧ z0 < 4294967296 := ⟨_, rfl, x32 (show x22 < 4294967296 by omega) (show x23 < 4294967296 by omega)⟩
   refine bnn hs (nu32 x24) rfl rfl rfl rfl (bin_xorN hx24 (show x22 < 4294967296 by omega) (show x23 < 4294967296 by omega) lx24) fun ac hs => ?_
   refine mvv hs rfl rfl rfl fun ac hs => ?_
   obtain ⟨x25, hx25, lx25⟩ : ∃ z0, ((wv l) (i - 15)) / 2 ^ 3 = z0 ∧ z0 < 4294967296 := ⟨_, rfl, Nat.lt_of_le_of_lt (Nat.div_le_self _ _) (show (wv l) (i - 15) < 4294967296 by omega)⟩
   refine bnn hs (nu32 x25) rfl rfl rfl rfl (bin_shrN (y := 3) hx25 (show (wv l) (i - 15) < 4294967296 by omega)) fun ac hs => ?_
   obtain ⟨x26, hx26, lx26⟩ : ∃ z0, x24 ^^^ x25 = z0 ∧ z0 < 4294967296 := ⟨_, rfl, x32 (show x24 < 4294967296 by omega) (show x25 < 4294967296 by omega)⟩
   refine bnn hs (nu32 x26) rfl rfl rfl rfl (bin_xorN hx26 (show x24 < 4294967296 by omega) (show x25 < 4294967296 by omega) lx26) fun ac hs => ?_
   refine asg hs rfl rfl rfl fun ac hs => ?_
   refine wpList_nil (then_n (wp_seq ?_))
   replace hs := hs.nf w0 Z noX [0, 1, 2, 6, 7, 8, 10, 11] rfl rfl rfl rfl
   refine wp_region_lit ?_
   refine mvv hs rfl rfl rfl fun ac hs => ?_
   obtain ⟨x27, hx27, lx27⟩ : ∃ z0, rr ((wv l) (i - 2)) 17 = z0 ∧ z0 < 4294967296 := ⟨_, rfl, rr_lt (show (wv l) (i - 2) < 4294967296 by omega)⟩
   refine stp (op_call (F := 142) hs none (v := nu32 x27) rfl rfl rfl rfl (call142 _) (turn_c ((wv l) (i - 2)) 17 x27 (show (wv l) (i - 2) < 4294967296 by omega) (by decide) hx27) rfl fun ac w hs => ?_)
   refine mvv hs rfl rfl rfl fun ac hs => ?_
   obtain ⟨x28, hx28, lx28⟩ : ∃ z0, rr ((wv l) (i - 2)) 19 = z0 ∧ z0 < 4294967296 := ⟨_, rfl, rr_lt (show (wv l) (i - 2) < 4294967296 by omega)⟩
   refine stp (op_call (F := 142) hs none (v := nu32 x28) rfl rfl rfl rfl (call142 _) (turn_c ((wv l) (i - 2)) 19 x28 (show (wv l) (i - 2) < 4294967296 by omega) (by decide) hx28) rfl fun ac w hs => ?_)
   obtain ⟨x29, hx29, lx29⟩ : ∃ z0, x27 ^^^ x28 = z0 ∧ z0 < 4294967296 := ⟨_, rfl, x32 (show x27 < 4294967296 by omega) (show x28 < 4294967296 by omega)⟩
   refine bnn hs (nu32 x29) rfl rfl rfl rfl (bin_xorN hx29 (show x27 < 4294967296 by omega) (show x28 < 4294967296 by omega) lx29) fun ac hs => ?_
   refine mvv hs rfl rfl rfl fun ac hs => ?_
   obtain ⟨x30, hx30, lx30⟩ : ∃ z0, ((wv l) (i - 2)) / 2 ^ 10 = z0 ∧ z0 < 4294967296 := ⟨_, rfl, Nat.lt_of_le_of_lt (Nat.div_le_self _ _) (show (wv l) (i - 2) < 4294967296 by omega)⟩
   refine bnn hs (nu32 x30) rfl rfl rfl rfl (bin_shrN (y := 10) hx30 (show (wv l) (i - 2) < 4294967296 by omega)) fun ac hs => ?_
   obtain ⟨x31, hx31, lx31⟩ : ∃ z0, x29 ^^^ x30 = z0 ∧ z0 < 4294967296 := ⟨_, rfl, x32 (show x29 < 4294967296 by omega) (show x30 < 4294967296 by omega)⟩
   refine bnn hs (nu32 x31) rfl rfl rfl rfl (bin_xorN hx31 (show x29 < 4294967296 by omega) (show x30 < 4294967296 by omega) lx31) fun ac hs => ?_
   refine asg hs rfl rfl rfl fun ac hs => ?_
   refine wpList_nil (then_n ?_)
   replace hs := hs.nf w0 Z noX [0, 1, 2, 6, 7, 8, 11, 12] rfl rfl rfl rfl
   have l32 := wv_lt l (i - 7)
   obtain ⟨x33, hx33, lx33⟩ : ∃ z0, (x31 + ((wv l) (i - 7))) % 4294967296 = z0 ∧ z0 < 4294967296 := ⟨_, rfl, m32 _⟩
   obtain ⟨x34, hx34, lx34⟩ : ∃ z0, (x33 + x26) % 4294967296 = z0 ∧ z0 < 4294967296 := ⟨_, rfl, m32 _⟩
   have l35 := wv_lt l (i - 16)
   obtain ⟨x36, hx36, lx36⟩ : ∃ z0, (x34 + ((wv l) (i - 16))) % 4294967296 = z0 ∧ z0 < 4294967296 := ⟨_, rfl, m32 _⟩
   have hz : wv l i = x36 := by rw [wv_hi h16, wv_comm]; simp only [ss0, ss1, hx22, hx23, hx24, hx25, hx26, hx27, hx28, hx29, hx30, hx31, hx33, hx34, hx36]
   refine region_inv [([], [17, 18]), ([], [7, 9, 15, 16, 17, 18]), ([], [5, 6, 7, 9, 15, 16, 17, 18]), ([], [4, 5, 6, 7, 9, 15, 16, 17, 18]), ([3], [5, 6, 7, 9, 15, 16, 17, 18]), ([2, 3, 4], [6, 7, 9, 15, 16, 17, 18]), (rgn 2 4, [7, 9, 15, 16, 17, 18]), (rgn 1 6, [9, 15, 16, 17, 18]), ([], [9, 15, 16, 17, 18]), (rgn 1 8, rgn 15 4), ([], rgn 13 6), ([], rgn 12 7), ([11], rgn 13 6), ([10, 11, 12], rgn 14 5), (rgn 10 4, rgn 15 4), (rgn 1 14, [16, 17, 18]), (rgn 1 15, [17, 18]), (rgn 0 17, [18]), (rgn 0 18, [])] (fun L ac w => ∃ (ad38 : Option Addr) (ad39 : Option Addr) (cp40 : Nat), St 227 ⟨w0, [], [(true, .cel (.slice ah 8 ch) 8 (tab .u32 8 h)), (true, .cel (.slice ak 64 ck) 64 (tab .u32 64 KK)), (true, .cel (.slice ad l.length c) l.length (bcs l)), (true, cond (L 17) (.own (.slice ad39 (i + 1) cp40) 109 1 (i + 1) (tab .u32 (i + 1) (wv l))) (.own (.slice aw i cw) 109 1 i (tab .u32 i (wv l)))), (L 16, .own (.slice ad38 1 1) 109 1 1 ([nu32 x36]))], Z, noX⟩ [(90, L 0, .slice aw i cw), (91, L 1, nu32 x31), (92, L 2, .slice aw i cw), (93, L 3, ni64 i), (94, L 4, ni64 (i - 7)), (95, L 5, vidx (.slice aw i cw) (i - 7)), (96, L 6, .int .u32 (((wv l) (i - 7) : Nat) : Int)), (97, L 7, nu32 x33), (98, L 8, nu32 x26), (99, L 9, nu32 x34), (100, L 10, .slice aw i cw), (101, L 11, ni64 i), (102, L 12, ni64 (i - 16)), (103, L 13, vidx (.slice aw i cw) (i - 16)), (104, L 14, .int .u32 (((wv l) (i - 16) : Nat) : Int)), (105, L 15, nu32 x36), (106, L 16, .slice ad38 1 1), (107, L 17, .slice ad39 (i + 1) cp40), (7, L 18, cond (L 18) (.slice ad39 (i + 1) cp40) undef), (0, true, .slice ah 8 ch), (1, true, .slice ak 64 ck), (2, true, .slice ad l.length c), (6, true, .slice none 0 0), (7, true, .slice aw i cw), (8, true, ni64 i), (11, true, nu32 x26), (12, true, nu32 x31)] [] ac w) (by kernel_rfl) (by kernel_rfl) ?_ ?_ ?_
   ·exact ⟨none, none, 0, hs.drew.skip.skip.skip.skip.skip.skip.skip.skip.skip.skip.skip.skip.skip.skip.skip.skip.skip.skip.skip.padS⟩
   ·refine ⟨?_, ?_, ?_, ?_, ?_, ?_, ?_, ?_, ?_, ?_, ?_, ?_, ?_, ?_, ?_, ?_, ?_, ?_, ?_, trivial⟩
    ·exact fun L ac w ⟨ad38, ad39, cp40, hs⟩ => pln (omv hs 0 rfl rfl rfl fun ac hs => ⟨ad38, ad39, cp40, hs⟩)
    ·exact fun L ac w ⟨ad38, ad39, cp40, hs⟩ => pln (omv hs 1 rfl rfl rfl fun ac hs => ⟨ad38, ad39, cp40, hs⟩)
    ·exact fun L ac w ⟨ad38, ad39, cp40, hs⟩ => pln (omv hs 2 rfl rfl rfl fun ac hs => ⟨ad38, ad39, cp40, hs⟩)
    ·exact fun L ac w ⟨ad38, ad39, cp40, hs⟩ => pln (omv hs 3 rfl rfl rfl fun ac hs => ⟨ad38, ad39, cp40, hs⟩)
    ·exact fun L ac w ⟨ad38, ad39, cp40, hs⟩ => pln (obn hs 4 (ni64 (i - 7)) rfl rfl rfl rfl (bin_subN (y := 7) (by omega) (show i - 7 < 9223372036854775808 by omega)) fun ac hs => ⟨ad38, ad39, cp40, hs⟩)
    ·exact fun L ac w ⟨ad38, ad39, cp40, hs⟩ => pln (op_idxC hs (some 5) 3 (j := i - 7) rfl rfl rfl rfl rfl underlying115 sizeOf109 (show i - 7 < i by omega) (off := i - 7) (by omega) rfl fun ac hs => ⟨ad38, ad39, cp40, hs⟩)
    ·exact fun L ac w ⟨ad38, ad39, cp40, hs⟩ => pln (op_loadC hs (some 6) 3 (u := .int .u32 (((wv l) (i - 7) : Nat) : Int)) rfl rfl rfl rfl isAgg109 sizeOf109 (by decide) (tab_get (j := i - 7) (show i - 7 < i by omega)) rfl fun ac hs => ⟨ad38, ad39, cp40, hs⟩)
    ·exact fun L ac w ⟨ad38, ad39, cp40, hs⟩ => pln (obn hs 7 (nu32 x33) rfl rfl rfl rfl (bin_addM rfl hx33) fun ac hs => ⟨ad38, ad39, cp40, hs⟩)
    ·exact fun L ac w ⟨ad38, ad39, cp40, hs⟩ => pln (omv hs 8 rfl rfl rfl fun ac hs => ⟨ad38, ad39, cp40, hs⟩)
    ·exact fun L ac w ⟨ad38, ad39, cp40, hs⟩ => pln (obn hs 9 (nu32 x34) rfl rfl rfl rfl (bin_addM rfl hx34) fun ac hs => ⟨ad38, ad39, cp40, hs⟩)
    ·exact fun L ac w ⟨ad38, ad39, cp40, hs⟩ => pln (omv hs 10 rfl rfl rfl fun ac hs => ⟨ad38, ad39, cp40, hs⟩)
    ·exact fun L ac w ⟨ad38, ad39, cp40, hs⟩ => pln (omv hs 11 rfl rfl rfl fun ac hs => ⟨ad38, ad39, cp40, hs⟩)
    ·exact fun L ac w ⟨ad38, ad39, cp40, hs⟩ => pln (obn hs 12 (ni64 (i - 16)) rfl rfl rfl rfl (bin_subN (y := 16) (by omega) (show i - 16 < 9223372036854775808 by omega)) fun ac hs => ⟨ad38, ad39, cp40, hs⟩)
    ·exact fun L ac w ⟨ad38, ad39, cp40, hs⟩ => pln (op_idxC hs (some 13) 3 (j := i - 16) rfl rfl rfl rfl rfl underlying115 sizeOf109 (show i - 16 < i by omega) (off := i - 16) (by omega) rfl fun ac hs => ⟨ad38, ad39, cp40, hs⟩)
    ·exact fun L ac w ⟨ad38, ad39, cp40, hs⟩ => pln (op_loadC hs (some 14) 3 (u := .int .u32 (((wv l) (i - 16) : Nat) : Int)) rfl rfl rfl rfl isAgg109 sizeOf109 (by decide) (tab_get (j := i - 16) (show i - 16 < i by omega)) rfl fun ac hs => ⟨ad38, ad39, cp40, hs⟩)
    ·exact fun L ac w ⟨ad38, ad39, cp40, hs⟩ => pln (obn hs 15 (nu32 x36) rfl rfl rfl rfl (bin_addM rfl hx36) fun ac hs => ⟨ad38, ad39, cp40, hs⟩)
    ·exact fun L ac w ⟨ad38, ad39, cp40, hs⟩ => pln (op_bsO hs (some 16) (some 4) (qs := [(0, nu32 x36)]) (cs := [nu32 x36]) rfl rfl rfl rfl underlying115 inf_u32_109 (by decide) (by decide) (fill_one _ _ rfl) rfl rfl rfl rfl fun ad38 ac w hs => ⟨ad38, ad39, cp40, hs⟩)
    ·exact fun L ac w ⟨ad38, ad39, cp40, hs⟩ => pln (op_appR hs (some 17) 3 4 (N' := i + 1) (ys := (tab .u32 (i + 1) (wv l))) rfl rfl rfl rfl rfl rfl underlying115 inf_u32_109 rfl (by decide) rfl (by intro u hu; obtain rfl := List.mem_singleton.1 hu; rfl) (by decide) (show i + 1 ≤ 1000000 by omega) rfl (tab_snoc1 hz) rfl rfl fun ad39 cp40 ac w hs => ⟨ad38, ad39, cp40, hs⟩)
    ·exact fun L ac w ⟨ad38, ad39, cp40, hs⟩ => pln (oas hs 18 rfl rfl rfl fun ac hs => ⟨ad38, ad39, cp40, hs⟩)
   intro ac w ⟨ad38, ad39, cp40, hs⟩
   try dsimp only [cond_true] at hs
   refine blk_n (then_n (wp_region_lit ?_))
   refine mvv hs rfl rfl rfl fun ac hs => ?_
   refine bnn hs (ni64 (i + 1)) rfl rfl rfl rfl (bin_addN (y := 1) rfl (show i + 1 < 9223372036854775808 by omega)) fun ac hs => ?_
   refine asg hs rfl rfl rfl fun ac hs => ?_
   refine wpList_nil (then_n ?_)
   replace hs := hs.selS [0, 1, 2, 3] rfl (by decide)
   exact ⟨_, ⟨(i + 1), ad39, cp40, rfl, (by omega), (hs.re (fs' := [(0, true, .slice ah 8 ch), (1, true, .slice ak 64 ck), (2, true, .slice ad l.length c), (6, true, .slice none 0 0), (7, true, .slice ad39 (i + 1) cp40), (8, true, ni64 ((i + 1)))]) ⟨rfl, rfl, rfl, rfl, rfl, rfl, trivial⟩)⟩, (by omega)⟩
 ·skip
  have hp41 := of_decide_eq_false hc
  obtain rfl : i = 64 := by have := of_decide_eq_false hc; omega
  refine wp_exit (then_e (then_e (blk_e (then_n (wp_seq (wp_region_lit ?_))))))
  refine stp (op_bsO0 hs none none (size := 1) rfl rfl underlying115 inf_u32_109 rfl rfl fun ad43 ac w hs => ?_)
  refine mvv hs rfl rfl rfl fun ac hs => ?_
  refine stp (op_appR hs none 4 0 (N' := 8) (ys := (tab .u32 8 h)) rfl rfl rfl rfl rfl rfl underlying115 inf_u32_109 rfl (by decide) (by rw [tab_length]) tab_oneC (by decide) (show 0 + 8 ≤ 1000000 by omega) (Nat.zero_add _) rfl rfl rfl fun ad44 cp45 ac w hs => ?_)
  refine asg hs rfl rfl rfl fun ac hs => ?_
  refine wpList_nil (then_n (wp_seq (wp_seq ?_)))
  replace hs := hs.nf w0 Z noX [0, 1, 6, 7, 13] rfl rfl rfl rfl
  refine wp_region_lit ?_
  refine asg hs rfl rfl rfl fun ac hs => ?_
  refine wpList_nil (then_n (wp_block ?_))
  replace hs := hs.ownEq 4 (N' := 8) (xs' := tab .u32 8 (rnds (wv l) h 0)) rfl rfl rfl
  refine wp_loop_m (fun μ ac w => ∃ (i : Nat) (av : Option Addr) (cv : Nat), (64 - i) = μ ∧ (i ≤ 64) ∧ St 227 ⟨w0, [], [(true, .cel (.slice ah 8 ch) 8 (tab .u32 8 h)), (true, .cel (.slice ak 64 ck) 64 (tab .u32 64 KK)), (true, .own (.slice aw 64 cw) 109 1 64 (tab .u32 64 (wv l))), (true, .own (.slice av 8 cv) 109 1 8 (tab .u32 8 (rnds (wv l) h i)))], Z, noX⟩ [(0, true, .slice ah 8 ch), (1, true, .slice ak 64 ck), (7, true, .slice aw 64 cw), (13, true, .slice av 8 cv), (14, true, ni64 i)] [] ac w) ?_ ?_
  replace hs := hs.selS [0, 1, 3, 4] rfl (by decide)
  ·exact ⟨_, 0, ad44, cp45, rfl, (by omega), (hs.re (fs' := [(0, true, .slice ah 8 ch), (1, true, .slice ak 64 ck), (7, true, .slice aw 64 cw), (13, true, .slice ad44 8 cp45), (14, true, ni64 0)]) ⟨rfl, rfl, rfl, rfl, rfl, trivial⟩)⟩
  intro μ ac w ⟨i, av, cv, hμ, hi, hs⟩
  refine wp_seq (wp_seq (wp_region_lit ?_))
  refine mvv hs rfl rfl rfl fun ac hs => ?_
  refine bnn hs (.bool (decide (i < 64))) rfl rfl rfl rfl (bin_lssN (y := 64)) fun ac hs => ?_
  refine wpList_nil (then_n ?_)
  refine wp_cond_split (hs.ev rfl) (fun hc => ?_) (fun hc => ?_)
  ·skip
   have hp46 := of_decide_eq_true hc
   have hi64 := of_decide_eq_true hc
   refine wp_skip (then_n (wp_seq (wp_block (wp_seq ?_))))
   replace hs := hs.nf w0 Z noX [0, 1, 7, 13, 14] rfl rfl rfl rfl
   have l47 := rnds_lt (w := wv l) (h := h) hh i 0
   have l48 := rnds_lt (w := wv l) (h := h) hh i 2
   have l49 := rnds_lt (w := wv l) (h := h) hh i 4
   refine region_inv [([], [1, 2, 9, 10, 11]), ([0], [2, 9, 10, 11]), ([0, 1], [9, 10, 11]), ([], [4, 5, 10, 11]), ([3], [5, 10, 11]), ([3, 4], [10, 11]), ([], [7, 8, 11]), ([6], [8, 11]), ([6, 7], [11]), ([0, 1, 2], [10, 11]), ([0, 1, 2, 3, 4, 5, 9], [11]), (rgn 0 11, [])] (fun L ac w => St 227 ⟨w0, [], [(true, .cel (.slice ah 8 ch) 8 (tab .u32 8 h)), (true, .cel (.slice ak 64 ck) 64 (tab .u32 64 KK)), (true, .own (.slice aw 64 cw) 109 1 64 (tab .u32 64 (wv l))), (true, .own (.slice av 8 cv) 109 1 8 (tab .u32 8 (rnds (wv l) h i)))], Z, noX⟩ [(115, L 0, .slice av 8 cv), (116, L 1, vidx (.slice av 8 cv) 0), (117, L 2, nu32 ((rnds (wv l) h i) 0)), (118, L 3, .slice av 8 cv), (119, L 4, vidx (.slice av 8 cv) 2), (120, L 5, nu32 ((rnds (wv l) h i) 2)), (121, L 6, .slice av 8 cv), (122, L 7, vidx (.slice av 8 cv) 4), (123, L 8, nu32 ((rnds (wv l) h i) 4)), (15, L 9, nu32 ((rnds (wv l) h i) 0)), (16, L 10, nu32 ((rnds (wv l) h i) 2)), (17, L 11, nu32 ((rnds (wv l) h i) 4)), (0, true, .slice ah 8 ch), (1, true, .slice ak 64 ck), (7, true, .slice aw 64 cw), (13, true, .slice av 8 cv), (14, true, ni64 i)] [] ac w) (by kernel_rfl) (by kernel_rfl) ?_ ?_ ?_
   ·exact hs.drew.skip.skip.skip.skip.skip.skip.skip.skip.skip.skip.skip.skip
   ·refine ⟨?_, ?_, ?_, ?_, ?_, ?_, ?_, ?_, ?_, ?_, ?_, ?_, trivial⟩
    ·exact fun L ac w hs => pln (omv hs 0 rfl rfl rfl fun ac hs => hs)
    ·exact fun L ac w hs => pln (op_idxC hs (some 1) 3 (j := 0) rfl rfl rfl rfl rfl underlying115 sizeOf109 (by decide) (off := 0) (by omega) rfl fun ac hs => hs)
    ·exact fun L ac w hs => pln (op_loadC hs (some 2) 3 (u := nu32 ((rnds (wv l) h i) 0)) rfl rfl rfl rfl isAgg109 sizeOf109 (by decide) (tab_get (j := 0) (by decide)) rfl fun ac hs => hs)
    ·exact fun L ac w hs => pln (omv hs 3 rfl rfl rfl fun ac hs => hs)
    ·exact fun L ac w hs => pln (op_idxC hs (some 4) 3 (j := 2) rfl rfl rfl rfl rfl underlying115 sizeOf109 (by decide) (off := 2) (by omega) rfl fun ac hs => hs)
    ·exact fun L ac w hs => pln (op_loadC hs (some 5) 3 (u := nu32 ((rnds (wv l) h i) 2)) rfl rfl rfl rfl isAgg109 sizeOf109 (by decide) (tab_get (j := 2) (by decide)) rfl fun ac hs => hs)
    ·exact fun L ac w hs => pln (omv hs 6 rfl rfl rfl fun ac hs => hs)
    ·exact fun L ac w hs => pln (op_idxC hs (some 7) 3 (j := 4) rfl rfl rfl rfl rfl underlying115 sizeOf109 (by decide) (off := 4) (by omega) rfl fun ac hs => hs)
    ·exact fun L ac w hs => pln (op_loadC hs (some 8) 3 (u := nu32 ((rnds (wv l) h i) 4)) rfl rfl rfl rfl isAgg109 sizeOf109 (by decide) (tab_get (j := 4) (by decide)) rfl fun ac hs => hs)
    ·exact fun L ac w hs => pln (oas hs 9 rfl rfl rfl fun ac hs => hs)
    ·exact fun L ac w hs => pln (oas hs 10 rfl rfl rfl fun ac hs => hs)
    ·exact fun L ac w hs => pln (oas hs 11 rfl rfl rfl fun ac hs => hs)
   intro ac w hs
   try dsimp only [cond_true] at hs
   refine then_n (wp_seq ?_)
   replace hs := hs.nf w0 Z noX [0, 1, 7, 13, 14, 15, 16, 17] rfl rfl rfl rfl
   have l50 := rnds_lt (w := wv l) (h := h) hh i 7
   obtain ⟨x51, hx51, lx51⟩ : ∃ z0, rr ((rnds (wv l) h i) 4) 6 = z0 ∧ z0 < 4294967296 := ⟨_, rfl, rr_lt (show (rnds (wv l) h i) 4 < 4294967296 by omega)⟩
   obtain ⟨x52, hx52, lx52⟩ : ∃ z0, rr ((rnds (wv l) h i) 4) 11 = z0 ∧ z0 < 4294967296 := ⟨_, rfl, rr_lt (show (rnds (wv l) h i) 4 < 4294967296 by omega)⟩
   obtain ⟨x53, hx53, lx53⟩ : ∃ z0, x51 ^^^ x52 = z0 ∧ z0 < 4294967296 := ⟨_, rfl, x32 (show x51 < 4294967296 by omega) (show x52 < 4294967296 by omega)⟩
   obtain ⟨x54, hx54, lx54⟩ : ∃ z0, rr ((rnds (wv l) h i) 4) 25 = z0 ∧ z0 < 4294967296 := ⟨_, rfl, rr_lt (show (rnds (wv l) h i) 4 < 4294967296 by omega)⟩
   obtain ⟨x55, hx55, lx55⟩ : ∃ z0, x53 ^^^ x54 = z0 ∧ z0 < 4294967296 := ⟨_, rfl, x32 (show x53 < 4294967296 by omega) (show x54 < 4294967296 by omega)⟩
   obtain ⟨x56, hx56, lx56⟩ : ∃ z0, ((rnds (wv l) h i) 7 + x55) % 4294967296 = z0 ∧ z0 < 4294967296 := ⟨_, rfl, m32 _⟩
   have l57 := rnds_lt (w := wv l) (h := h) hh i 5
   obtain ⟨x58, hx58, lx58⟩ : ∃ z0, ((rnds (wv l) h i) 4) &&& ((rnds (wv l) h i) 5) = z0 ∧ z0 < 4294967296 := ⟨_, rfl, a32 (show (rnds (wv l) h i) 5 < 4294967296 by omega)⟩
   obtain ⟨x59, hx59, lx59⟩ : ∃ z0, 4294967295 - ((rnds (wv l) h i) 4) = z0 ∧ z0 < 4294967296 := ⟨_, rfl, by omega⟩
   have l60 := rnds_lt (w := wv l) (h := h) hh i 6
   obtain ⟨x61, hx61, lx61⟩ : ∃ z0, x59 &&& ((rnds (wv l) h i) 6) = z0 ∧ z0 < 4294967296 := ⟨_, rfl, a32 (show (rnds (wv l) h i) 6 < 4294967296 by omega)⟩
   obtain ⟨x62, hx62, lx62⟩ : ∃ z0, x58 ^^^ x61 = z0 ∧ z0 < 4294967296 := ⟨_, rfl, x32 (show x58 < 4294967296 by omega) (show x61 < 4294967296 by omega)⟩
   obtain ⟨x63, hx63, lx63⟩ : ∃ z0, (x56 + x62) % 4294967296 = z0 ∧ z0 < 4294967296 := ⟨_, rfl, m32 _⟩
   have l64 := KK_lt i
   obtain ⟨x65, hx65, lx65⟩ : ∃ z0, (x63 + (KK i)) % 4294967296 = z0 ∧ z0 < 4294967296 := ⟨_, rfl, m32 _⟩
   have l66 := wv_lt l i
   obtain ⟨x67, hx67, lx67⟩ : ∃ z0, (x65 + ((wv l) i)) % 4294967296 = z0 ∧ z0 < 4294967296 := ⟨_, rfl, m32 _⟩
   refine region_inv [([], [1, 2, 11, 24, 29, 34, 35]), ([0], [2, 11, 24, 29, 34, 35]), ([0, 1], [11, 24, 29, 34, 35]), ([], [4, 6, 7, 9, 10, 11, 24, 29, 34, 35]), ([3], [6, 7, 9, 10, 11, 24, 29, 34, 35]), ([], [6, 7, 9, 10, 11, 24, 29, 34, 35]), ([3, 4, 5], [7, 9, 10, 11, 24, 29, 34, 35]), (rgn 3 4, [10, 11, 24, 29, 34, 35]), ([], [9, 10, 11, 24, 29, 34, 35]), ([3, 4, 5, 6, 8], [10, 11, 24, 29, 34, 35]), (rgn 3 7, [11, 24, 29, 34, 35]), (rgn 0 11, [24, 29, 34, 35]), ([], [16, 23, 24, 29, 34, 35]), ([], [14, 15, 16, 23, 24, 29, 34, 35]), ([13], [15, 16, 23, 24, 29, 34, 35]), ([13, 14], [16, 23, 24, 29, 34, 35]), (rgn 12 4, [23, 24, 29, 34, 35]), ([], [18, 22, 23, 24, 29, 34, 35]), ([17], [22, 23, 24, 29, 34, 35]), ([], [20, 21, 22, 23, 24, 29, 34, 35]), ([19], [21, 22, 23, 24, 29, 34, 35]), ([19, 20], [22, 23, 24, 29, 34, 35]), (rgn 17 5, [23, 24, 29, 34, 35]), (rgn 12 11, [24, 29, 34, 35]), (rgn 0 24, [29, 34, 35]), ([], [27, 28, 29, 34, 35]), ([], [27, 28, 29, 34, 35]), ([25, 26], [28, 29, 34, 35]), ([25, 26, 27], [29, 34, 35]), (rgn 0 29, [34, 35]), ([], rgn 32 4), ([], rgn 32 4), ([30, 31], [33, 34, 35]), ([30, 31, 32], [34, 35]), (rgn 0 34, [35]), (rgn 0 35, [])] (fun L ac w => St 227 ⟨w0, [], [(true, .cel (.slice ah 8 ch) 8 (tab .u32 8 h)), (true, .cel (.slice ak 64 ck) 64 (tab .u32 64 KK)), (true, .own (.slice aw 64 cw) 109 1 64 (tab .u32 64 (wv l))), (true, .own (.slice av 8 cv) 109 1 8 (tab .u32 8 (rnds (wv l) h i)))], Z, noX⟩ [(124, L 0, .slice av 8 cv), (125, L 1, vidx (.slice av 8 cv) 7), (126, L 2, nu32 ((rnds (wv l) h i) 7)), (127, L 3, nu32 ((rnds (wv l) h i) 4)), (128, L 4, nu32 x51), (129, L 5, nu32 ((rnds (wv l) h i) 4)), (130, L 6, nu32 x52), (131, L 7, nu32 x53), (132, L 8, nu32 ((rnds (wv l) h i) 4)), (133, L 9, nu32 x54), (134, L 10, nu32 x55), (135, L 11, nu32 x56), (136, L 12, nu32 ((rnds (wv l) h i) 4)), (137, L 13, .slice av 8 cv), (138, L 14, vidx (.slice av 8 cv) 5), (139, L 15, nu32 ((rnds (wv l) h i) 5)), (140, L 16, nu32 x58), (141, L 17, nu32 ((rnds (wv l) h i) 4)), (142, L 18, nu32 x59), (143, L 19, .slice av 8 cv), (144, L 20, vidx (.slice av 8 cv) 6), (145, L 21, nu32 ((rnds (wv l) h i) 6)), (146, L 22, nu32 x61), (147, L 23, nu32 x62), (148, L 24, nu32 x63), (149, L 25, .slice ak 64 ck), (150, L 26, ni64 i), (151, L 27, vidx (.slice ak 64 ck) i), (152, L 28, nu32 (KK i)), (153, L 29, nu32 x65), (154, L 30, .slice aw 64 cw), (155, L 31, ni64 i), (156, L 32, vidx (.slice aw 64 cw) i), (157, L 33, nu32 ((wv l) i)), (158, L 34, nu32 x67), (18, L 35, nu32 x67), (0, true, .slice ah 8 ch), (1, true, .slice ak 64 ck), (7, true, .slice aw 64 cw), (13, true, .slice av 8 cv), (14, true, ni64 i), (15, true, nu32 ((rnds (wv l) h i) 0)), (16, true, nu32 ((rnds (wv l) h i) 2)), (17, true, nu32 ((rnds (wv l) h i) 4))] [] ac w) (by kernel_rfl) (by kernel_rfl) ?_ ?_ ?_
   ·exact hs.drew.skip.skip.skip.skip.skip.skip.skip.skip.skip.skip.skip.skip.skip.skip.skip.skip.skip.skip.skip.skip.skip.skip.skip.skip.skip.skip.skip.skip.skip.skip.skip.skip.skip.skip.skip.skip
   ·refine ⟨?_, ?_, ?_, ?_, ?_, ?_, ?_, ?_, ?_, ?_, ?_, ?_, ?_, ?_, ?_, ?_, ?_, ?_, ?_, ?_, ?_, ?_, ?_, ?_, ?_, ?_, ?_, ?_, ?_, ?_, ?_, ?_, ?_, ?_, ?_, ?_, trivial⟩
    ·exact fun L ac w hs => pln (omv hs 0 rfl rfl rfl fun ac hs => hs)
    ·exact fun L ac w hs => pln (op_idxC hs (some 1) 3 (j := 7) rfl rfl rfl rfl rfl underlying115 sizeOf109 (by decide) (off := 7) (by omega) rfl fun ac hs => hs)
    ·exact fun L ac w hs => pln (op_loadC hs (some 2) 3 (u := nu32 ((rnds (wv l) h i) 7)) rfl rfl rfl rfl isAgg109 sizeOf109 (by decide) (tab_get (j := 7) (by decide)) rfl fun ac hs => hs)
    ·exact fun L ac w hs => pln (omv hs 3 rfl rfl rfl fun ac hs => hs)
    ·exact fun L ac w hs => pln (op_call (F := 142) hs (some 4) (v := nu32 x51) rfl rfl rfl rfl (call142 _) (turn_c ((rnds (wv l) h i) 4) 6 x51 (show (rnds (wv l) h i) 4 < 4294967296 by omega) (by decide) hx51) rfl fun ac w hs => hs)
    ·exact fun L ac w hs => pln (omv hs 5 rfl rfl rfl fun ac hs => hs)
    ·exact fun L ac w hs => pln (op_call (F := 142) hs (some 6) (v := nu32 x52) rfl rfl rfl rfl (call142 _) (turn_c ((rnds (wv l) h i) 4) 11 x52 (show (rnds (wv l) h i) 4 < 4294967296 by omega) (by decide) hx52) rfl fun ac w hs => hs)
    ·exact fun L ac w hs => pln (obn hs 7 (nu32 x53) rfl rfl rfl rfl (bin_xorN hx53 (show x51 < 4294967296 by omega) (show x52 < 4294967296 by omega) lx53) fun ac hs => hs)
    ·exact fun L ac w hs => pln (omv hs 8 rfl rfl rfl fun ac hs => hs)
    ·exact fun L ac w hs => pln (op_call (F := 142) hs (some 9) (v := nu32 x54) rfl rfl rfl rfl (call142 _) (turn_c ((rnds (wv l) h i) 4) 25 x54 (show (rnds (wv l) h i) 4 < 4294967296 by omega) (by decide) hx54) rfl fun ac w hs => hs)
    ·exact fun L ac w hs => pln (obn hs 10 (nu32 x55) rfl rfl rfl rfl (bin_xorN hx55 (show x53 < 4294967296 by omega) (show x54 < 4294967296 by omega) lx55) fun ac hs => hs)
    ·exact fun L ac w hs => pln (obn hs 11 (nu32 x56) rfl rfl rfl rfl (bin_addM rfl hx56) fun ac hs => hs)
    ·exact fun L ac w hs => pln (omv hs 12 rfl rfl rfl fun ac hs => hs)
    ·exact fun L ac w hs => pln (omv hs 13 rfl rfl rfl fun ac hs => hs)
    ·exact fun L ac w hs => pln (op_idxC hs (some 14) 3 (j := 5) rfl rfl rfl rfl rfl underlying115 sizeOf109 (by decide) (off := 5) (by omega) rfl fun ac hs => hs)
    ·exact fun L ac w hs => pln (op_loadC hs (some 15) 3 (u := nu32 ((rnds (wv l) h i) 5)) rfl rfl rfl rfl isAgg109 sizeOf109 (by decide) (tab_get (j := 5) (by decide)) rfl fun ac hs => hs)
    ·exact fun L ac w hs => pln (obn hs 16 (nu32 x58) rfl rfl rfl rfl (bin_andN hx58 (show (rnds (wv l) h i) 4 < 4294967296 by omega) (show (rnds (wv l) h i) 5 < 4294967296 by omega) lx58) fun ac hs => hs)
    ·exact fun L ac w hs => pln (omv hs 17 rfl rfl rfl fun ac hs => hs)
    ·exact fun L ac w hs => pln (obn hs 18 (nu32 x59) rfl rfl rfl rfl (bin_xorN (y := 4294967295) ((not32 (show (rnds (wv l) h i) 4 < 4294967296 by omega)).trans hx59) (show (rnds (wv l) h i) 4 < 4294967296 by omega) (by decide) lx59) fun ac hs => hs)
    ·exact fun L ac w hs => pln (omv hs 19 rfl rfl rfl fun ac hs => hs)
    ·exact fun L ac w hs => pln (op_idxC hs (some 20) 3 (j := 6) rfl rfl rfl rfl rfl underlying115 sizeOf109 (by decide) (off := 6) (by omega) rfl fun ac hs => hs)
    ·exact fun L ac w hs => pln (op_loadC hs (some 21) 3 (u := nu32 ((rnds (wv l) h i) 6)) rfl rfl rfl rfl isAgg109 sizeOf109 (by decide) (tab_get (j := 6) (by decide)) rfl fun ac hs => hs)
    ·exact fun L ac w hs => pln (obn hs 22 (nu32 x61) rfl rfl rfl rfl (bin_andN hx61 (show x59 < 4294967296 by omega) (show (rnds (wv l) h i) 6 < 4294967296 by omega) lx61) fun ac hs => hs)
    ·exact fun L ac w hs => pln (obn hs 23 (nu32 x62) rfl rfl rfl rfl (bin_xorN hx62 (show x58 < 4294967296 by omega) (show x61 < 4294967296 by omega) lx62) fun ac hs => hs)
    ·exact fun L ac w hs => pln (obn hs 24 (nu32 x63) rfl rfl rfl rfl (bin_addM rfl hx63) fun ac hs => hs)
    ·exact fun L ac w hs => pln (omv hs 25 rfl rfl rfl fun ac hs => hs)
    ·exact fun L ac w hs => pln (omv hs 26 rfl rfl rfl fun ac hs => hs)
    ·exact fun L ac w hs => pln (op_idxC hs (some 27) 1 (j := i) rfl rfl rfl rfl rfl underlying115 sizeOf109 (show i < 64 by omega) (off := i) (by omega) rfl fun ac hs => hs)
    ·exact fun L ac w hs => pln (op_loadC hs (some 28) 1 (u := nu32 (KK i)) rfl rfl rfl rfl isAgg109 sizeOf109 (by decide) (tab_get (j := i) (show i < 64 by omega)) rfl fun ac hs => hs)
    ·exact fun L ac w hs => pln (obn hs 29 (nu32 x65) rfl rfl rfl rfl (bin_addM rfl hx65) fun ac hs => hs)
    ·exact fun L ac w hs => pln (omv hs 30 rfl rfl rfl fun ac hs => hs)
    ·exact fun L ac w hs => pln (omv hs 31 rfl rfl rfl fun ac hs => hs)
    ·exact fun L ac w hs => pln (op_idxC hs (some 32) 2 (j := i) rfl rfl rfl rfl rfl underlying115 sizeOf109 (show i < 64 by omega) (off := i) (by omega) rfl fun ac hs => hs)
    ·exact fun L ac w hs => pln (op_loadC hs (some 33) 2 (u := nu32 ((wv l) i)) rfl rfl rfl rfl isAgg109 sizeOf109 (by decide) (tab_get (j := i) (show i < 64 by omega)) rfl fun ac hs => hs)
    ·exact fun L ac w hs => pln (obn hs 34 (nu32 x67) rfl rfl rfl rfl (bin_addM rfl hx67) fun ac hs => hs)
    ·exact fun L ac w hs => pln (oas hs 35 rfl rfl rfl fun ac hs => hs)
   intro ac w hs
   try dsimp only [cond_true] at hs
   refine then_n (wp_seq ?_)
   replace hs := hs.nf w0 Z noX [0, 1, 7, 13, 14, 15, 16, 18] rfl rfl rfl rfl
   obtain ⟨x68, hx68, lx68⟩ : ∃ z0, rr ((rnds (wv l) h i) 0) 2 = z0 ∧ z0 < 4294967296 := ⟨_, rfl, rr_lt (show (rnds (wv l) h i) 0 < 4294967296 by omega)⟩
   obtain ⟨x69, hx69, lx69⟩ : ∃ z0, rr ((rnds (wv l) h i) 0) 13 = z0 ∧ z0 < 4294967296 := ⟨_, rfl, rr_lt (show (rnds (wv l) h i) 0 < 4294967296 by omega)⟩
   obtain ⟨x70, hx70, lx70⟩ : ∃ z0, x68 ^^^ x69 = z0 ∧ z0 < 4294967296 := ⟨_, rfl, x32 (show x68 < 4294967296 by omega) (show x69 < 4294967296 by omega)⟩
   obtain ⟨x71, hx71, lx71⟩ : ∃ z0, rr ((rnds (wv l) h i) 0) 22 = z0 ∧ z0 < 4294967296 := ⟨_, rfl, rr_lt (show (rnds (wv l) h i) 0 < 4294967296 by omega)⟩
   obtain ⟨x72, hx72, lx72⟩ : ∃ z0, x70 ^^^ x71 = z0 ∧ z0 < 4294967296 := ⟨_, rfl, x32 (show x70 < 4294967296 by omega) (show x71 < 4294967296 by omega)⟩
   have l73 := rnds_lt (w := wv l) (h := h) hh i 1
   obtain ⟨x74, hx74, lx74⟩ : ∃ z0, ((rnds (wv l) h i) 0) &&& ((rnds (wv l) h i) 1) = z0 ∧ z0 < 4294967296 := ⟨_, rfl, a32 (show (rnds (wv l) h i) 1 < 4294967296 by omega)⟩
   obtain ⟨x75, hx75, lx75⟩ : ∃ z0, ((rnds (wv l) h i) 0) &&& ((rnds (wv l) h i) 2) = z0 ∧ z0 < 4294967296 := ⟨_, rfl, a32 (show (rnds (wv l) h i) 2 < 4294967296 by omega)⟩
   obtain ⟨x76, hx76, lx76⟩ : ∃ z0, x74 ^^^ x75 = z0 ∧ z0 < 4294967296 := ⟨_, rfl, x32 (show x74 < 4294967296 by omega) (show x75 < 4294967296 by omega)⟩
   have l77 := rnds_lt (w := wv l) (h := h) hh i 1
   obtain ⟨x78, hx78, lx78⟩ : ∃ z0, ((rnds (wv l) h i) 1) &&& ((rnds (wv l) h i) 2) = z0 ∧ z0 < 4294967296 := ⟨_, rfl, a32 (show (rnds (wv l) h i) 2 < 4294967296 by omega)⟩
   obtain ⟨x79, hx79, lx79⟩ : ∃ z0, x76 ^^^ x78 = z0 ∧ z0 < 4294967296 := ⟨_, rfl, x32 (show x76 < 4294967296 by omega) (show x78 < 4294967296 by omega)⟩
   obtain ⟨x80, hx80, lx80⟩ : ∃ z0, (x72 + x79) % 4294967296 = z0 ∧ z0 < 4294967296 := ⟨_, rfl, m32 _⟩
   refine region_inv [([], [1, 3, 4, 6, 7, 23, 24]), ([0], [3, 4, 6, 7, 23, 24]), ([], [3, 4, 6, 7, 23, 24]), ([0, 1, 2], [4, 6, 7, 23, 24]), (rgn 0 4, [7, 23, 24]), ([], [6, 7, 23, 24]), ([0, 1, 2, 3, 5], [7, 23, 24]), (rgn 0 7, [23, 24]), ([], [12, 16, 22, 23, 24]), ([], [10, 11, 12, 16, 22, 23, 24]), ([9], [11, 12, 16, 22, 23, 24]), ([9, 10], [12, 16, 22, 23, 24]), (rgn 8 4, [16, 22, 23, 24]), ([], [15, 16, 22, 23, 24]), ([], [15, 16, 22, 23, 24]), ([13, 14], [16, 22, 23, 24]), (rgn 8 8, [22, 23, 24]), ([], [18, 19, 21, 22, 23, 24]), ([17], [19, 21, 22, 23, 24]), ([17, 18], rgn 21 4), ([], rgn 21 4), (rgn 17 4, [22, 23, 24]), (rgn 8 14, [23, 24]), (rgn 0 23, [24]), (rgn 0 24, [])] (fun L ac w => St 227 ⟨w0, [], [(true, .cel (.slice ah 8 ch) 8 (tab .u32 8 h)), (true, .cel (.slice ak 64 ck) 64 (tab .u32 64 KK)), (true, .own (.slice aw 64 cw) 109 1 64 (tab .u32 64 (wv l))), (true, .own (.slice av 8 cv) 109 1 8 (tab .u32 8 (rnds (wv l) h i)))], Z, noX⟩ [(159, L 0, nu32 ((rnds (wv l) h i) 0)), (160, L 1, nu32 x68), (161, L 2, nu32 ((rnds (wv l) h i) 0)), (162, L 3, nu32 x69), (163, L 4, nu32 x70), (164, L 5, nu32 ((rnds (wv l) h i) 0)), (165, L 6, nu32 x71), (166, L 7, nu32 x72), (167, L 8, nu32 ((rnds (wv l) h i) 0)), (168, L 9, .slice av 8 cv), (169, L 10, vidx (.slice av 8 cv) 1), (170, L 11, nu32 ((rnds (wv l) h i) 1)), (171, L 12, nu32 x74), (172, L 13, nu32 ((rnds (wv l) h i) 0)), (173, L 14, nu32 ((rnds (wv l) h i) 2)), (174, L 15, nu32 x75), (175, L 16, nu32 x76), (176, L 17, .slice av 8 cv), (177, L 18, vidx (.slice av 8 cv) 1), (178, L 19, nu32 ((rnds (wv l) h i) 1)), (179, L 20, nu32 ((rnds (wv l) h i) 2)), (180, L 21, nu32 x78), (181, L 22, nu32 x79), (182, L 23, nu32 x80), (19, L 24, nu32 x80), (0, true, .slice ah 8 ch), (1, true, .slice ak 64 ck), (7, true, .slice aw 64 cw), (13, true, .slice av 8 cv), (14, true, ni64 i), (15, true, nu32 ((rnds (wv l) h i) 0)), (16, true, nu32 ((rnds (wv l) h i) 2)), (18, true, nu32 x67)] [] ac w) (by kernel_rfl) (by kernel_rfl) ?_ ?_ ?_
   ·exact hs.drew.skip.skip.skip.skip.skip.skip.skip.skip.skip.skip.skip.skip.skip.skip.skip.skip.skip.skip.skip.skip.skip.skip.skip.skip.skip
   ·refine ⟨?_, ?_, ?_, ?_, ?_, ?_, ?_, ?_, ?_, ?_, ?_, ?_, ?_, ?_, ?_, ?_, ?_, ?_, ?_, ?_, ?_, ?_, ?_, ?_, ?_, trivial⟩
    ·exact fun L ac w hs => pln (omv hs 0 rfl rfl rfl fun ac hs => hs)
    ·exact fun L ac w hs => pln (op_call (F := 142) hs (some 1) (v := nu32 x68) rfl rfl rfl rfl (call142 _) (turn_c ((rnds (wv l) h i) 0) 2 x68 (show (rnds (wv l) h i) 0 < 4294967296 by omega) (by decide) hx68) rfl fun ac w hs => hs)
    ·exact fun L ac w hs => pln (omv hs 2 rfl rfl rfl fun ac hs => hs)
    ·exact fun L ac w hs => pln (op_call (F := 142) hs (some 3) (v := nu32 x69) rfl rfl rfl rfl (call142 _) (turn_c ((rnds (wv l) h i) 0) 13 x69 (show (rnds (wv l) h i) 0 < 4294967296 by omega) (by decide) hx69) rfl fun ac w hs => hs)
    ·exact fun L ac w hs => pln (obn hs 4 (nu32 x70) rfl rfl rfl rfl (bin_xorN hx70 (show x68 < 4294967296 by omega) (show x69 < 4294967296 by omega) lx70) fun ac hs => hs)
    ·exact fun L ac w hs => pln (omv hs 5 rfl rfl rfl fun ac hs => hs)
    ·exact fun L ac w hs => pln (op_call (F := 142) hs (some 6) (v := nu32 x71) rfl rfl rfl rfl (call142 _) (turn_c ((rnds (wv l) h i) 0) 22 x71 (show (rnds (wv l) h i) 0 < 4294967296 by omega) (by decide) hx71) rfl fun ac w hs => hs)
    ·exact fun L ac w hs => pln (obn hs 7 (nu32 x72) rfl rfl rfl rfl (bin_xorN hx72 (show x70 < 4294967296 by omega) (show x71 < 4294967296 by omega) lx72) fun ac hs => hs)
    ·exact fun L ac w hs => pln (omv hs 8 rfl rfl rfl fun ac hs => hs)
    ·exact fun L ac w hs => pln (omv hs 9 rfl rfl rfl fun ac hs => hs)
    ·exact fun L ac w hs => pln (op_idxC hs (some 10) 3 (j := 1) rfl rfl rfl rfl rfl underlying115 sizeOf109 (by decide) (off := 1) (by omega) rfl fun ac hs => hs)
    ·exact fun L ac w hs => pln (op_loadC hs (some 11) 3 (u := nu32 ((rnds (wv l) h i) 1)) rfl rfl rfl rfl isAgg109 sizeOf109 (by decide) (tab_get (j := 1) (by decide)) rfl fun ac hs => hs)
    ·exact fun L ac w hs => pln (obn hs 12 (nu32 x74) rfl rfl rfl rfl (bin_andN hx74 (show (rnds (wv l) h i) 0 < 4294967296 by omega) (show (rnds (wv l) h i) 1 < 4294967296 by omega) lx74) fun ac hs => hs)
    ·exact fun L ac w hs => pln (omv hs 13 rfl rfl rfl fun ac hs => hs)
    ·exact fun L ac w hs => pln (omv hs 14 rfl rfl rfl fun ac hs => hs)
    ·exact fun L ac w hs => pln (obn hs 15 (nu32 x75) rfl rfl rfl rfl (bin_andN hx75 (show (rnds (wv l) h i) 0 < 4294967296 by omega) (show (rnds (wv l) h i) 2 < 4294967296 by omega) lx75) fun ac hs => hs)
    ·exact fun L ac w hs => pln (obn hs 16 (nu32 x76) rfl rfl rfl rfl (bin_xorN hx76 (show x74 < 4294967296 by omega) (show x75 < 4294967296 by omega) lx76) fun ac hs => hs)
    ·exact fun L ac w hs => pln (omv hs 17 rfl rfl rfl fun ac hs => hs)
    ·exact fun L ac w hs => pln (op_idxC hs (some 18) 3 (j := 1) rfl rfl rfl rfl rfl underlying115 sizeOf109 (by decide) (off := 1) (by omega) rfl fun ac hs => hs)
    ·exact fun L ac w hs => pln (op_loadC hs (some 19) 3 (u := nu32 ((rnds (wv l) h i) 1)) rfl rfl rfl rfl isAgg109 sizeOf109 (by decide) (tab_get (j := 1) (by decide)) rfl fun ac hs => hs)
    ·exact fun L ac w hs => pln (omv hs 20 rfl rfl rfl fun ac hs => hs)
    ·exact fun L ac w hs => pln (obn hs 21 (nu32 x78) rfl rfl rfl rfl (bin_andN hx78 (show (rnds (wv l) h i) 1 < 4294967296 by omega) (show (rnds (wv l) h i) 2 < 4294967296 by omega) lx78) fun ac hs => hs)
    ·exact fun L ac w hs => pln (obn hs 22 (nu32 x79) rfl rfl rfl rfl (bin_xorN hx79 (show x76 < 4294967296 by omega) (show x78 < 4294967296 by omega) lx79) fun ac hs => hs)
    ·exact fun L ac w hs => pln (obn hs 23 (nu32 x80) rfl rfl rfl rfl (bin_addM rfl hx80) fun ac hs => hs)
    ·exact fun L ac w hs => pln (oas hs 24 rfl rfl rfl fun ac hs => hs)
   intro ac w hs
   try dsimp only [cond_true] at hs
   refine then_n ?_
   replace hs := hs.nf w0 Z noX [0, 1, 7, 13, 14, 18, 19] rfl rfl rfl rfl
   obtain ⟨x81, hx81, lx81⟩ : ∃ z0, (x67 + x80) % 4294967296 = z0 ∧ z0 < 4294967296 := ⟨_, rfl, m32 _⟩
   have l82 := rnds_lt (w := wv l) (h := h) hh i 0
   have l83 := rnds_lt (w := wv l) (h := h) hh i 1
   have l84 := rnds_lt (w := wv l) (h := h) hh i 2
   have l85 := rnds_lt (w := wv l) (h := h) hh i 3
   obtain ⟨x86, hx86, lx86⟩ : ∃ z0, ((rnds (wv l) h i) 3 + x67) % 4294967296 = z0 ∧ z0 < 4294967296 := ⟨_, rfl, m32 _⟩
   have l87 := rnds_lt (w := wv l) (h := h) hh i 4
   have l88 := rnds_lt (w := wv l) (h := h) hh i 5
   have l89 := rnds_lt (w := wv l) (h := h) hh i 6
   refine region_inv [([], [2, 26, 27]), ([], [2, 26, 27]), ([0, 1], [26, 27]), ([], [4, 5, 26, 27]), ([3], [5, 26, 27]), ([3, 4], [26, 27]), ([], [7, 8, 26, 27]), ([6], [8, 26, 27]), ([6, 7], [26, 27]), ([], [10, 11, 26, 27]), ([9], [11, 26, 27]), ([9, 10], [26, 27]), ([], [13, 14, 16, 26, 27]), ([12], [14, 16, 26, 27]), ([12, 13], [16, 26, 27]), ([], [16, 26, 27]), (rgn 12 4, [26, 27]), ([], [18, 19, 26, 27]), ([17], [19, 26, 27]), ([17, 18], [26, 27]), ([], [21, 22, 26, 27]), ([20], [22, 26, 27]), ([20, 21], [26, 27]), ([], rgn 24 4), ([23], [25, 26, 27]), ([23, 24], [26, 27]), (rgn 0 26, [27]), (rgn 0 27, [])] (fun L ac w => ∃ (ad91 : Option Addr), St 227 ⟨w0, [], [(true, .cel (.slice ah 8 ch) 8 (tab .u32 8 h)), (true, .cel (.slice ak 64 ck) 64 (tab .u32 64 KK)), (true, .own (.slice aw 64 cw) 109 1 64 (tab .u32 64 (wv l))), (true, .own (.slice av 8 cv) 109 1 8 (tab .u32 8 (rnds (wv l) h i))), (L 26, .own (.slice ad91 8 8) 109 1 8 (tab .u32 8 (ft8 x81 ((rnds (wv l) h i) 0) ((rnds (wv l) h i) 1) ((rnds (wv l) h i) 2) x86 ((rnds (wv l) h i) 4) ((rnds (wv l) h i) 5) ((rnds (wv l) h i) 6))))], Z, noX⟩ [(183, L 0, nu32 x67), (184, L 1, nu32 x80), (185, L 2, nu32 x81), (186, L 3, .slice av 8 cv), (187, L 4, vidx (.slice av 8 cv) 0), (188, L 5, nu32 ((rnds (wv l) h i) 0)), (189, L 6, .slice av 8 cv), (190, L 7, vidx (.slice av 8 cv) 1), (191, L 8, nu32 ((rnds (wv l) h i) 1)), (192, L 9, .slice av 8 cv), (193, L 10, vidx (.slice av 8 cv) 2), (194, L 11, nu32 ((rnds (wv l) h i) 2)), (195, L 12, .slice av 8 cv), (196, L 13, vidx (.slice av 8 cv) 3), (197, L 14, nu32 ((rnds (wv l) h i) 3)), (198, L 15, nu32 x67), (199, L 16, nu32 x86), (200, L 17, .slice av 8 cv), (201, L 18, vidx (.slice av 8 cv) 4), (202, L 19, nu32 ((rnds (wv l) h i) 4)), (203, L 20, .slice av 8 cv), (204, L 21, vidx (.slice av 8 cv) 5), (205, L 22, nu32 ((rnds (wv l) h i) 5)), (206, L 23, .slice av 8 cv), (207, L 24, vidx (.slice av 8 cv) 6), (208, L 25, nu32 ((rnds (wv l) h i) 6)), (209, L 26, .slice ad91 8 8), (13, L 27, cond (L 27) (.slice ad91 8 8) undef), (0, true, .slice ah 8 ch), (1, true, .slice ak 64 ck), (7, true, .slice aw 64 cw), (13, true, .slice av 8 cv), (14, true, ni64 i), (18, true, nu32 x67), (19, true, nu32 x80)] [] ac w) (by kernel_rfl) (by kernel_rfl) ?_ ?_ ?_
   ·exact ⟨none, hs.drew.skip.skip.skip.skip.skip.skip.skip.skip.skip.skip.skip.skip.skip.skip.skip.skip.skip.skip.skip.skip.skip.skip.skip.skip.skip.skip.skip.skip.padS⟩
   ·refine ⟨?_, ?_, ?_, ?_, ?_, ?_, ?_, ?_, ?_, ?_, ?_, ?_, ?_, ?_, ?_, ?_, ?_, ?_, ?_, ?_, ?_, ?_, ?_, ?_, ?_, ?_, ?_, ?_, trivial⟩
    ·exact fun L ac w ⟨ad91, hs⟩ => pln (omv hs 0 rfl rfl rfl fun ac hs => ⟨ad91, hs⟩)
    ·exact fun L ac w ⟨ad91, hs⟩ => pln (omv hs 1 rfl rfl rfl fun ac hs => ⟨ad91, hs⟩)
    ·exact fun L ac w ⟨ad91, hs⟩ => pln (obn hs 2 (nu32 x81) rfl rfl rfl rfl (bin_addM rfl hx81) fun ac hs => ⟨ad91, hs⟩)
    ·exact fun L ac w ⟨ad91, hs⟩ => pln (omv hs 3 rfl rfl rfl fun ac hs => ⟨ad91, hs⟩)
    ·exact fun L ac w ⟨ad91, hs⟩ => pln (op_idxC hs (some 4) 3 (j := 0) rfl rfl rfl rfl rfl underlying115 sizeOf109 (by decide) (off := 0) (by omega) rfl fun ac hs => ⟨ad91, hs⟩)
    ·exact fun L ac w ⟨ad91, hs⟩ => pln (op_loadC hs (some 5) 3 (u := nu32 ((rnds (wv l) h i) 0)) rfl rfl rfl rfl isAgg109 sizeOf109 (by decide) (tab_get (j := 0) (by decide)) rfl fun ac hs => ⟨ad91, hs⟩)
    ·exact fun L ac w ⟨ad91, hs⟩ => pln (omv hs 6 rfl rfl rfl fun ac hs => ⟨ad91, hs⟩)
    ·exact fun L ac w ⟨ad91, hs⟩ => pln (op_idxC hs (some 7) 3 (j := 1) rfl rfl rfl rfl rfl underlying115 sizeOf109 (by decide) (off := 1) (by omega) rfl fun ac hs => ⟨ad91, hs⟩)
    ·exact fun L ac w ⟨ad91, hs⟩ => pln (op_loadC hs (some 8) 3 (u := nu32 ((rnds (wv l) h i) 1)) rfl rfl rfl rfl isAgg109 sizeOf109 (by decide) (tab_get (j := 1) (by decide)) rfl fun ac hs => ⟨ad91, hs⟩)
    ·exact fun L ac w ⟨ad91, hs⟩ => pln (omv hs 9 rfl rfl rfl fun ac hs => ⟨ad91, hs⟩)
    ·exact fun L ac w ⟨ad91, hs⟩ => pln (op_idxC hs (some 10) 3 (j := 2) rfl rfl rfl rfl rfl underlying115 sizeOf109 (by decide) (off := 2) (by omega) rfl fun ac hs => ⟨ad91, hs⟩)
    ·exact fun L ac w ⟨ad91, hs⟩ => pln (op_loadC hs (some 11) 3 (u := nu32 ((rnds (wv l) h i) 2)) rfl rfl rfl rfl isAgg109 sizeOf109 (by decide) (tab_get (j := 2) (by decide)) rfl fun ac hs => ⟨ad91, hs⟩)
    ·exact fun L ac w ⟨ad91, hs⟩ => pln (omv hs 12 rfl rfl rfl fun ac hs => ⟨ad91, hs⟩)
    ·exact fun L ac w ⟨ad91, hs⟩ => pln (op_idxC hs (some 13) 3 (j := 3) rfl rfl rfl rfl rfl underlying115 sizeOf109 (by decide) (off := 3) (by omega) rfl fun ac hs => ⟨ad91, hs⟩)
    ·exact fun L ac w ⟨ad91, hs⟩ => pln (op_loadC hs (some 14) 3 (u := nu32 ((rnds (wv l) h i) 3)) rfl rfl rfl rfl isAgg109 sizeOf109 (by decide) (tab_get (j := 3) (by decide)) rfl fun ac hs => ⟨ad91, hs⟩)
    ·exact fun L ac w ⟨ad91, hs⟩ => pln (omv hs 15 rfl rfl rfl fun ac hs => ⟨ad91, hs⟩)
    ·exact fun L ac w ⟨ad91, hs⟩ => pln (obn hs 16 (nu32 x86) rfl rfl rfl rfl (bin_addM rfl hx86) fun ac hs => ⟨ad91, hs⟩)
    ·exact fun L ac w ⟨ad91, hs⟩ => pln (omv hs 17 rfl rfl rfl fun ac hs => ⟨ad91, hs⟩)
    ·exact fun L ac w ⟨ad91, hs⟩ => pln (op_idxC hs (some 18) 3 (j := 4) rfl rfl rfl rfl rfl underlying115 sizeOf109 (by decide) (off := 4) (by omega) rfl fun ac hs => ⟨ad91, hs⟩)
    ·exact fun L ac w ⟨ad91, hs⟩ => pln (op_loadC hs (some 19) 3 (u := nu32 ((rnds (wv l) h i) 4)) rfl rfl rfl rfl isAgg109 sizeOf109 (by decide) (tab_get (j := 4) (by decide)) rfl fun ac hs => ⟨ad91, hs⟩)
    ·exact fun L ac w ⟨ad91, hs⟩ => pln (omv hs 20 rfl rfl rfl fun ac hs => ⟨ad91, hs⟩)
    ·exact fun L ac w ⟨ad91, hs⟩ => pln (op_idxC hs (some 21) 3 (j := 5) rfl rfl rfl rfl rfl underlying115 sizeOf109 (by decide) (off := 5) (by omega) rfl fun ac hs => ⟨ad91, hs⟩)
    ·exact fun L ac w ⟨ad91, hs⟩ => pln (op_loadC hs (some 22) 3 (u := nu32 ((rnds (wv l) h i) 5)) rfl rfl rfl rfl isAgg109 sizeOf109 (by decide) (tab_get (j := 5) (by decide)) rfl fun ac hs => ⟨ad91, hs⟩)
    ·exact fun L ac w ⟨ad91, hs⟩ => pln (omv hs 23 rfl rfl rfl fun ac hs => ⟨ad91, hs⟩)
    ·exact fun L ac w ⟨ad91, hs⟩ => pln (op_idxC hs (some 24) 3 (j := 6) rfl rfl rfl rfl rfl underlying115 sizeOf109 (by decide) (off := 6) (by omega) rfl fun ac hs => ⟨ad91, hs⟩)
    ·exact fun L ac w ⟨ad91, hs⟩ => pln (op_loadC hs (some 25) 3 (u := nu32 ((rnds (wv l) h i) 6)) rfl rfl rfl rfl isAgg109 sizeOf109 (by decide) (tab_get (j := 6) (by decide)) rfl fun ac hs => ⟨ad91, hs⟩)
    ·exact fun L ac w ⟨ad91, hs⟩ => pln (op_bsO hs (some 26) (some 4) (qs := [(0, nu32 x81), (1, nu32 ((rnds (wv l) h i) 0)), (2, nu32 ((rnds (wv l) h i) 1)), (3, nu32 ((rnds (wv l) h i) 2)), (4, nu32 x86), (5, nu32 ((rnds (wv l) h i) 4)), (6, nu32 ((rnds (wv l) h i) 5)), (7, nu32 ((rnds (wv l) h i) 6))]) (cs := tab .u32 8 (ft8 x81 ((rnds (wv l) h i) 0) ((rnds (wv l) h i) 1) ((rnds (wv l) h i) 2) x86 ((rnds (wv l) h i) 4) ((rnds (wv l) h i) 5) ((rnds (wv l) h i) 6))) rfl rfl rfl rfl underlying115 inf_u32_109 (by decide) (by decide) (by kernel_rfl) rfl rfl rfl rfl fun ad91 ac w hs => ⟨ad91, hs⟩)
    ·exact fun L ac w ⟨ad91, hs⟩ => pln (oas hs 27 rfl rfl rfl fun ac hs => ⟨ad91, hs⟩)
   intro ac w ⟨ad91, hs⟩
   try dsimp only [cond_true] at hs
   refine blk_n (then_n (wp_region_lit ?_))
   refine mvv hs rfl rfl rfl fun ac hs => ?_
   refine bnn hs (ni64 (i + 1)) rfl rfl rfl rfl (bin_addN (y := 1) rfl (show i + 1 < 9223372036854775808 by omega)) fun ac hs => ?_
   refine asg hs rfl rfl rfl fun ac hs => ?_
   refine wpList_nil (then_n ?_)
   replace hs := hs.ownEq 4 (N' := 8) (xs' := tab .u32 8 (rnds (wv l) h (i + 1))) rfl rfl (congrArg (tab .u32 8) (show ft8 x81 ((rnds (wv l) h i) 0) ((rnds (wv l) h i) 1) ((rnds (wv l) h i) 2) x86 ((rnds (wv l) h i) 4) ((rnds (wv l) h i) 5) ((rnds (wv l) h i) 6) = rnd (KK i) (wv l i) (rnds (wv l) h i) by simp only [rnd, t1v, t2v, hx51, hx52, hx53, hx54, hx55, hx56, hx58, hx59, hx61, hx62, hx63, hx65, hx67, hx68, hx69, hx70, hx71, hx72, hx74, hx75, hx76, hx78, hx79, hx80, hx81, hx86]))
   replace hs := hs.selS [0, 1, 2, 4] rfl (by decide)
   exact ⟨_, ⟨(i + 1), ad91, 8, rfl, (by omega), (hs.re (fs' := [(0, true, .slice ah 8 ch), (1, true, .slice ak 64 ck), (7, true, .slice aw 64 cw), (13, true, .slice ad91 8 8), (14, true, ni64 ((i + 1)))]) ⟨rfl, rfl, rfl, rfl, rfl, trivial⟩)⟩, (by omega)⟩
  ·skip
   have hp92 := of_decide_eq_false hc
   obtain rfl : i = 64 := by have := of_decide_eq_false hc; omega
   refine wp_exit (then_e (then_e (blk_e (then_n (wp_seq (wp_seq (wp_region_lit ?_)))))))
   refine asg hs rfl rfl rfl fun ac hs => ?_
   refine wpList_nil (then_n (wp_block ?_))
   replace hs := hs.ownEq 3 (N' := 8) (xs' := tab .u32 8 (addV h (rnds (wv l) h 64) 0)) rfl rfl (tab_ext fun j hj => addV_zero _ _ j)
   refine wp_loop_m (fun μ ac w => ∃ (i : Nat), (8 - i) = μ ∧ (i ≤ 8) ∧ St 227 ⟨w0, [], [(true, .cel (.slice ah 8 ch) 8 (tab .u32 8 h)), (true, .own (.slice av 8 cv) 109 1 8 (tab .u32 8 (addV h (rnds (wv l) h 64) i)))], Z, noX⟩ [(0, true, .slice ah 8 ch), (13, true, .slice av 8 cv), (20, true, ni64 i)] [] ac w) ?_ ?_
   replace hs := hs.selS [0, 3] rfl (by decide)
   ·exact ⟨_, 0, rfl, (by omega), (hs.re (fs' := [(0, true, .slice ah 8 ch), (13, true, .slice av 8 cv), (20, true, ni64 0)]) ⟨rfl, rfl, rfl, trivial⟩)⟩
   intro μ ac w ⟨i, hμ, hi, hs⟩
   refine wp_seq (wp_seq (wp_region_lit ?_))
   refine mvv hs rfl rfl rfl fun ac hs => ?_
   refine bnn hs (.bool (decide (i < 8))) rfl rfl rfl rfl (bin_lssN (y := 8)) fun ac hs => ?_
   refine wpList_nil (then_n ?_)
   refine wp_cond_split (hs.ev rfl) (fun hc => ?_) (fun hc => ?_)
   ·skip
    have hp93 := of_decide_eq_true hc
    have hi8 := of_decide_eq_true hc
    refine wp_skip (then_n (wp_seq (wp_block ?_)))
    replace hs := hs.nf w0 Z noX [0, 13, 20] rfl rfl rfl rfl
    have l94 := addV_lt (h := h) (rnds_lt (w := wv l) (h := h) hh 64) i i
    have l95 := hh i
    obtain ⟨x96, hx96, lx96⟩ : ∃ z0, ((addV h (rnds (wv l) h 64) i) i + (h i)) % 4294967296 = z0 ∧ z0 < 4294967296 := ⟨_, rfl, m32 _⟩
    refine region_inv [([], [11, 12]), ([], [11, 12]), ([], [4, 5, 10, 11, 12]), ([], [4, 5, 10, 11, 12]), ([2, 3], [5, 10, 11, 12]), ([2, 3, 4], [10, 11, 12]), ([], rgn 8 5), ([], rgn 8 5), ([6, 7], rgn 9 4), ([6, 7, 8], [10, 11, 12]), (rgn 2 8, [11, 12]), (rgn 0 11, [12]), (rgn 0 12, [])] (fun L ac w => St 227 ⟨w0, [], [(true, .cel (.slice ah 8 ch) 8 (tab .u32 8 h)), (true, cond (L 12) (.own (.slice av 8 cv) 109 1 8 (tab .u32 8 (upn (addV h (rnds (wv l) h 64) i) i x96))) (.own (.slice av 8 cv) 109 1 8 (tab .u32 8 (addV h (rnds (wv l) h 64) i))))], Z, noX⟩ [(214, L 0, .slice av 8 cv), (215, L 1, ni64 i), (216, L 2, .slice av 8 cv), (217, L 3, ni64 i), (218, L 4, vidx (.slice av 8 cv) i), (219, L 5, .int .u32 (((addV h (rnds (wv l) h 64) i) i : Nat) : Int)), (220, L 6, .slice ah 8 ch), (221, L 7, ni64 i), (222, L 8, vidx (.slice ah 8 ch) i), (223, L 9, nu32 (h i)), (224, L 10, nu32 x96), (225, L 11, vidx (.slice av 8 cv) i), (0, true, .slice ah 8 ch), (13, true, .slice av 8 cv), (20, true, ni64 i)] [] ac w) (by kernel_rfl) (by kernel_rfl) ?_ ?_ ?_
    ·exact hs.drew.skip.skip.skip.skip.skip.skip.skip.skip.skip.skip.skip.skip
    ·refine ⟨?_, ?_, ?_, ?_, ?_, ?_, ?_, ?_, ?_, ?_, ?_, ?_, ?_, trivial⟩
     ·exact fun L ac w hs => pln (omv hs 0 rfl rfl rfl fun ac hs => hs)
     ·exact fun L ac w hs => pln (omv hs 1 rfl rfl rfl fun ac hs => hs)
     ·exact fun L ac w hs => pln (omv hs 2 rfl rfl rfl fun ac hs => hs)
     ·exact fun L ac w hs => pln (omv hs 3 rfl rfl rfl fun ac hs => hs)
     ·exact fun L ac w hs => pln (op_idxC hs (some 4) 1 (j := i) rfl rfl rfl rfl rfl underlying115 sizeOf109 (show i < 8 by omega) (off := i) (by omega) rfl fun ac hs => hs)
     ·exact fun L ac w hs => pln (op_loadC hs (some 5) 1 (u := .int .u32 (((addV h (rnds (wv l) h 64) i) i : Nat) : Int)) rfl rfl rfl rfl isAgg109 sizeOf109 (by decide) (tab_get (j := i) (show i < 8 by omega)) rfl fun ac hs => hs)
     ·exact fun L ac w hs => pln (omv hs 6 rfl rfl rfl fun ac hs => hs)
     ·exact fun L ac w hs => pln (omv hs 7 rfl rfl rfl fun ac hs => hs)
     ·exact fun L ac w hs => pln (op_idxC hs (some 8) 0 (j := i) rfl rfl rfl rfl rfl underlying115 sizeOf109 (show i < 8 by omega) (off := i) (by omega) rfl fun ac hs => hs)
     ·exact fun L ac w hs => pln (op_loadC hs (some 9) 0 (u := nu32 (h i)) rfl rfl rfl rfl isAgg109 sizeOf109 (by decide) (tab_get (j := i) (show i < 8 by omega)) rfl fun ac hs => hs)
     ·exact fun L ac w hs => pln (obn hs 10 (nu32 x96) rfl rfl rfl rfl (bin_addM rfl hx96) fun ac hs => hs)
     ·exact fun L ac w hs => pln (op_idxC hs (some 11) 1 (j := i) rfl rfl rfl rfl rfl underlying115 sizeOf109 (show i < 8 by omega) (off := i) (by omega) rfl fun ac hs => hs)
     ·exact fun L ac w hs => pln (op_storeO hs 1 (u := nu32 x96) (xs' := (tab .u32 8 (upn (addV h (rnds (wv l) h 64) i) i x96))) rfl rfl rfl rfl rfl rfl (show i < 8 by omega) sizeOf109 rfl rfl tab_set fun w hs => hs)
    intro ac w hs
    try dsimp only [cond_true] at hs
    refine blk_n (then_n (wp_region_lit ?_))
    refine mvv hs rfl rfl rfl fun ac hs => ?_
    refine bnn hs (ni64 (i + 1)) rfl rfl rfl rfl (bin_addN (y := 1) rfl (show i + 1 < 9223372036854775808 by omega)) fun ac hs => ?_
    refine asg hs rfl rfl rfl fun ac hs => ?_
    refine wpList_nil (then_n ?_)
    replace hs := hs.ownEq 1 (N' := 8) (xs' := tab .u32 8 (addV h (rnds (wv l) h 64) (i + 1))) rfl rfl (tab_ext fun j hj => addV_step (by rw [← hx96, addV_at]) j)
    exact ⟨_, ⟨(i + 1), rfl, (by omega), (hs.re (fs' := [(0, true, .slice ah 8 ch), (13, true, .slice av 8 cv), (20, true, ni64 ((i + 1)))]) ⟨rfl, rfl, rfl, trivial⟩)⟩, (by omega)⟩
   ·skip
    have hp97 := of_decide_eq_false hc
    obtain rfl : i = 8 := by have := of_decide_eq_false hc; omega
    refine wp_exit (then_e (then_e (blk_e (then_n (wp_seq (wp_region_lit ?_))))))
    refine mvv hs rfl rfl rfl fun ac hs => ?_
    refine asg hs rfl rfl rfl fun ac hs => ?_
    refine wpList_nil (then_n (wp_ret ?_))
    replace hs := hs.freeze 1 rfl
    replace hs := hs.celEq 1 (N' := 8) (cs' := tab .u32 8 (blk h l)) rfl rfl (tab_ext fun j hj => addV_end hj)
    exact bodyPost_ret (res1 rfl (rv_t hs rfl)) hs.defers ⟨⟨av, cv⟩, rfl, hs.bel rfl, hs.ret1 1 rfl⟩
theorem rshasum_c (ad : Option Addr) (nl c : Nat) (l : List UInt8) (hlen : l.length ≤ 200000) (w0 : World) (Z : Nat → Prop) (hl : ByV w0 Z (.slice ad nl c) l): Calls prog 99 #[.slice ad nl c] w0 fun e w' => Ret w0 Z (ρ := Unit) (fun r => At .u8 32 (sha l)) (fun r => []) e w' := by
 obtain rfl := byv_len hl
 refine enterS (n := 47) (args := [.slice ad l.length c]) (S := [(true, .cel (.slice ad l.length c) l.length (bcs l))]) (Z := Z) func99 rfl rfl (Nat.le_of_ble_eq_true rfl) (sokC hl sok0) rfl fun ac hs => ?_
 refine wp_seq (wp_region_lit ?_)
 refine stp (op_alloc hs none none (cs := (tab .u8 32 (fun _ => 0))) rfl rfl zeroValue30 (by kernel_rfl) rfl rfl fun g1 ac w hs => ?_)
 refine wpList_nil (then_n (wp_seq (wp_region_lit ?_)))
 refine stp (op_bsO hs none none (qs := [(0, .int .u32 1779033703), (1, .int .u32 3144134277), (2, .int .u32 1013904242), (3, .int .u32 2773480762), (4, .int .u32 1359893119), (5, .int .u32 2600822924), (6, .int .u32 528734635), (7, .int .u32 1541459225)]) (cs := tab .u32 8 (ft8 1779033703 3144134277 1013904242 2773480762 1359893119 2600822924 528734635 1541459225)) rfl rfl rfl rfl underlying115 inf_u32_109 (by decide) (by decide) (by kernel_rfl) rfl rfl rfl rfl fun ad3 ac w hs => ?_)
 refine asg hs rfl rfl rfl fun ac hs => ?_
 refine wpList_nil (then_n (wp_seq (wp_region_lit ?_)))
 refine stp (op_callS (F := 131) (ρ := Option Addr × Nat) hs none none (v := fun r => .slice r.1 64 r.2) (E := fun r => [.cel (.slice r.1 64 r.2) 64 (tab .u32 64 KK)]) (j := 1) rfl rfl rfl rfl (call131 _) (fun hs => rsteps_c _ _) (fun _ => rfl) rfl rfl fun ⟨ad4, cp5⟩ ac w hs => ?_)
 refine asg hs rfl rfl rfl fun ac hs => ?_
 refine wpList_nil (then_n (wp_seq (wp_region_lit ?_)))
 refine mvv hs rfl rfl rfl fun ac hs => ?_
 refine stp (op_callS (F := 132) (ρ := Option Addr × Nat) hs none none (v := fun r => .slice r.1 ((l ++ tl64 l.length l.length).length) r.2) (E := fun r => [.cel (.slice r.1 ((l ++ tl64 l.length l.length).length) r.2) ((l ++ tl64 l.length l.length).length) (bcs (l ++ tl64 l.length l.length))]) (j := 1) rfl rfl rfl rfl (call132 _) (fun hs => rpad_c ad l.length c l (show l.length ≤ 200000 by omega) _ _ (hs.all (k := 0) rfl rfl)) (fun _ => rfl) rfl rfl fun ⟨ad6, cp7⟩ ac w hs => ?_)
 refine asg hs rfl rfl rfl fun ac hs => ?_
 refine wpList_nil (then_n (wp_seq (wp_seq ?_)))
 replace hs := hs.nf w0 Z noX [2, 3, 4, 5] rfl rfl rfl rfl
 refine wp_region_lit ?_
 refine asg hs rfl rfl rfl fun ac hs => ?_
 refine wpList_nil (then_n (wp_block ?_))
 replace hs := hs.freeze 1 rfl
 replace hs := hs.celEq 1 (N' := 8) (cs' := tab .u32 8 HH0) rfl rfl rfl
 refine wp_loop_m (fun μ ac w => ∃ (i : Nat) (h1 : Nat → Nat) (a1 : Option Addr) (c1 : Nat), ((l ++ tl64 l.length l.length).length - i) = μ ∧ (i ≤ (l ++ tl64 l.length l.length).length) ∧ (i % 64 = 0) ∧ (∀ j, h1 j < 4294967296) ∧ (blks HH0 (l ++ tl64 l.length l.length) = blks h1 ((l ++ tl64 l.length l.length).drop i)) ∧ St 47 ⟨w0, [], [(true, .cel (.slice a1 8 c1) 8 (tab .u32 8 h1)), (true, .cel (.slice ad4 64 cp5) 64 (tab .u32 64 KK)), (true, .cel (.slice ad6 ((l ++ tl64 l.length l.length).length) cp7) ((l ++ tl64 l.length l.length).length) (bcs (l ++ tl64 l.length l.length)))], Z, noX⟩ [(2, true, ptA g1 0), (4, true, .slice ad4 64 cp5), (5, true, .slice ad6 ((l ++ tl64 l.length l.length).length) cp7), (3, true, .slice a1 8 c1), (6, true, ni64 i)] [(true, g1, 30, (tab .u8 32 (fun _ => 0)))] ac w) ?_ ?_
 replace hs := hs.selS [1, 2, 3] rfl (by decide)
 ·exact ⟨_, 0, HH0, ad3, 8, rfl, (Nat.zero_le _), rfl, HH0_lt, rfl, (hs.re (fs' := [(2, true, ptA g1 0), (4, true, .slice ad4 64 cp5), (5, true, .slice ad6 ((l ++ tl64 l.length l.length).length) cp7), (3, true, .slice ad3 8 8), (6, true, ni64 0)]) ⟨rfl, rfl, rfl, rfl, rfl, trivial⟩)⟩
 intro μ ac w ⟨i, h1, a1, c1, hμ, hi, hi64, hh1, hb1, hs⟩
 have hp64 : (l ++ tl64 l.length l.length).length % 64 = 0 := by rw [List.length_append]; exact tl64_len _ _
 have hpl : (l ++ tl64 l.length l.length).length ≤ 300000 := by have := tl64_le l.length l.length; rw [List.length_append]; omega
 refine wp_seq (wp_seq (wp_region_lit ?_))
 refine mvv hs rfl rfl rfl fun ac hs => ?_
 refine mvv hs rfl rfl rfl fun ac hs => ?_
 refine stp (op_blt hs none (v := ni64 ((l ++ tl64 l.length l.length).length)) rfl rfl rfl (blt_len underlying25) rfl fun ac hs => ?_)
 refine bnn hs (.bool (decide (i < (l ++ tl64 l.length l.length).length))) rfl rfl rfl rfl bin_lssN fun ac hs => ?_
 refine wpList_nil (then_n ?_)
 refine wp_cond_split (hs.ev rfl) (fun hc => ?_) (fun hc => ?_)
 ·skip
  have hp8 := of_decide_eq_true hc
  have hlt := of_decide_eq_true hc
  have hi2 : i + 64 ≤ (l ++ tl64 l.length l.length).length := by omega
  have hpl2 : l.length + (tl64 l.length l.length).length = (l ++ tl64 l.length l.length).length := List.length_append.symm
  refine wp_skip (then_n (wp_seq (wp_block (wp_region_lit ?_))))
  refine mvv hs rfl rfl rfl fun ac hs => ?_
  refine mvv hs rfl rfl rfl fun ac hs => ?_
  refine mvv hs rfl rfl rfl fun ac hs => ?_
  refine mvv hs rfl rfl rfl fun ac hs => ?_
  refine mvv hs rfl rfl rfl fun ac hs => ?_
  refine bnn hs (ni64 (i + 64)) rfl rfl rfl rfl (bin_addN (y := 64) rfl (show i + 64 < 9223372036854775808 by omega)) fun ac hs => ?_
  refine stp (op_sliceR hs none none 2 i (i + 64) (N' := (((l ++ tl64 l.length l.length).drop i).take (i + 64 - i)).length) (cs' := bcs (((l ++ tl64 l.length l.length).drop i).take (i + 64 - i))) rfl rfl rfl rfl (.inr ⟨_, _, rfl, rfl⟩) (.inr ⟨_, _, rfl, rfl⟩) underlying25 sizeOf5 (show i ≤ i + 64 by omega) (show i + 64 ≤ (l ++ tl64 l.length l.length).length by first | omega | ((try simp only [List.length_drop, List.length_take, List.length_append, List.length_cons, List.length_nil]); omega)) (len_both (show i ≤ i + 64 by omega) (show i + 64 ≤ (l ++ tl64 l.length l.length).length by first | omega | ((try simp only [List.length_drop, List.length_take, List.length_append, List.length_cons, List.length_nil]); omega))) (bcs_part _ _ _) rfl rfl fun ac hs => ?_)
  refine stp (op_callS (F := 133) (ρ := Option Addr × Nat) hs none none (v := fun r => .slice r.1 8 r.2) (E := fun r => [.cel (.slice r.1 8 r.2) 8 (tab .u32 8 (blk h1 (((l ++ tl64 l.length l.length).drop i).take (i + 64 - i))))]) (j := 1) rfl rfl rfl rfl (call133 _) (fun hs => rblock_c a1 c1 h1 (fun j => hh1 j) ad4 cp5 (vsa ad6 cp7 1 i) ((((l ++ tl64 l.length l.length).drop i).take (i + 64 - i)).length) (cp7 - i) (((l ++ tl64 l.length l.length).drop i).take (i + 64 - i)) (show (((l ++ tl64 l.length l.length).drop i).take (i + 64 - i)).length = 64 by first | omega | ((try simp only [List.length_drop, List.length_take, List.length_append, List.length_cons, List.length_nil]); omega)) _ _ (hs.all (k := 0) rfl rfl) (hs.all (k := 1) rfl rfl) (hs.all (k := 3) rfl rfl)) (fun _ => rfl) rfl rfl fun ⟨ad9, cp10⟩ ac w hs => ?_)
  refine asg hs rfl rfl rfl fun ac hs => ?_
  refine wpList_nil (blk_n (then_n ?_))
  replace hs := hs.nf w0 Z noX [2, 4, 5, 3, 6] rfl rfl rfl rfl
  refine wp_region_lit ?_
  refine mvv hs rfl rfl rfl fun ac hs => ?_
  refine bnn hs (ni64 (i + 64)) rfl rfl rfl rfl (bin_addN (y := 64) rfl (show i + 64 < 9223372036854775808 by omega)) fun ac hs => ?_
  refine asg hs rfl rfl rfl fun ac hs => ?_
  refine wpList_nil (then_n ?_)
  replace hs := hs.selS [4, 1, 2] rfl (by decide)
  exact ⟨_, ⟨(i + 64), (blk h1 (((l ++ tl64 l.length l.length).drop i).take (i + 64 - i))), ad9, cp10, rfl, (by omega), (by omega), (fun j => blk_lt h1 (((l ++ tl64 l.length l.length).drop i).take (i + 64 - i)) j), (by rw [show i + 64 - i = 64 by omega, ← List.drop_drop]; exact hb1.trans (blks_step (by rw [List.length_drop]; omega))), (hs.re (fs' := [(2, true, ptA g1 0), (4, true, .slice ad4 64 cp5), (5, true, .slice ad6 ((l ++ tl64 l.length l.length).length) cp7), (3, true, .slice ad9 8 cp10), (6, true, ni64 ((i + 64)))]) ⟨rfl, rfl, rfl, rfl, rfl, trivial⟩)⟩, (by omega)⟩
 ·skip
  have hp11 := of_decide_eq_false hc
  have hge := of_decide_eq_false hc
  have hH : shaH l = h1 := by unfold shaH; rw [hb1, blks_end (by rw [List.length_drop]; omega)]
  refine wp_exit (then_e (then_e (blk_e (then_n (wp_seq (wp_region_lit ?_))))))
  refine stp (op_build hs none (qs := []) (v := At .u8 32 (fun _ => 0)) rfl rfl rfl rfl (fun _ => by kernel_rfl) rfl fun ac hs => ?_)
  refine stp (op_alloc hs none none (cs := (tab .u8 32 (fun _ => 0))) rfl rfl zeroValue30 (by kernel_rfl) rfl rfl fun g12 ac w hs => ?_)
  refine stp (stoo hs 1 ((tab .u8 32 (fun _ => 0))) sizeOf30 rfl rfl rfl rfl rfl (by kernel_rfl) tab_length' (tab_one _ _ _) tab_leA wr_tab fun w hs => ?_)
  refine wpList_nil (then_n (wp_seq (wp_seq ?_)))
  replace hs := hs.nf w0 Z noX [2, 3, 7] rfl rfl rfl rfl
  refine wp_region_lit ?_
  refine asg hs rfl rfl rfl fun ac hs => ?_
  refine wpList_nil (then_n (wp_block ?_))
  replace hs := hs.setb 1 (cs' := (tab .u8 32 (outT h1 0))) rfl (tab_ext fun j hj => outT_zero h1 j)
  refine wp_loop_m (fun μ ac w => ∃ (i : Nat), (32 - i) = μ ∧ (i ≤ 32) ∧ St 47 ⟨w0, [], [(true, .cel (.slice a1 8 c1) 8 (tab .u32 8 h1))], Z, noX⟩ [(2, true, ptA g1 0), (3, true, .slice a1 8 c1), (7, true, ptA g12 0), (8, true, ni64 i)] [(true, g1, 30, (tab .u8 32 (fun _ => 0))), (true, g12, 30, (tab .u8 32 (outT h1 i)))] ac w) ?_ ?_
  replace hs := hs.selS [0] rfl (by decide)
  ·exact ⟨_, 0, rfl, (by omega), (hs.re (fs' := [(2, true, ptA g1 0), (3, true, .slice a1 8 c1), (7, true, ptA g12 0), (8, true, ni64 0)]) ⟨rfl, rfl, rfl, rfl, trivial⟩)⟩
  intro μ ac w ⟨i, hμ, hi, hs⟩
  refine wp_seq (wp_seq (wp_region_lit ?_))
  refine mvv hs rfl rfl rfl fun ac hs => ?_
  refine bnn hs (.bool (decide (i < 32))) rfl rfl rfl rfl (bin_lssN (y := 32)) fun ac hs => ?_
  refine wpList_nil (then_n ?_)
  refine wp_cond_split (hs.ev rfl) (fun hc => ?_) (fun hc => ?_)
  ·skip
   have hp13 := of_decide_eq_true hc
   have hi32 := of_decide_eq_true hc
   refine wp_skip (then_n (wp_seq (wp_block (wp_region_lit ?_))))
   refine mvv hs rfl rfl rfl fun ac hs => ?_
   refine mvv hs rfl rfl rfl fun ac hs => ?_
   refine mvv hs rfl rfl rfl fun ac hs => ?_
   refine bnn hs (ni64 (i / 4)) rfl rfl rfl rfl (bin_quoN (y := 4) rfl (by decide) (show i < 9223372036854775808 by omega)) fun ac hs => ?_
   refine stp (op_idxC hs none 0 (j := i / 4) rfl rfl rfl rfl rfl underlying115 sizeOf109 (show i / 4 < 8 by omega) (off := i / 4) (by omega) rfl fun ac hs => ?_)
   have l14 := hh1 (i / 4)
   refine stp (op_loadC hs none 0 (u := nu32 (h1 (i / 4))) rfl rfl rfl rfl isAgg109 sizeOf109 (by decide) (tab_get (j := i / 4) (show i / 4 < 8 by omega)) rfl fun ac hs => ?_)
   refine mvv hs rfl rfl rfl fun ac hs => ?_
   refine bnn hs (ni64 (i % 4)) rfl rfl rfl rfl (bin_remN (y := 4) rfl (by decide)) fun ac hs => ?_
   refine bnn hs (ni64 (8 * (i % 4))) rfl rfl rfl rfl (bin_mulN (x := 8) rfl (show 8 * (i % 4) < 9223372036854775808 by omega)) fun ac hs => ?_
   refine bnn hs (ni64 (24 - (8 * (i % 4)))) rfl rfl rfl rfl (bin_subN (x := 24) (by omega) (show 24 - (8 * (i % 4)) < 9223372036854775808 by omega)) fun ac hs => ?_
   refine stp (op_convert hs none (v := nu64 (24 - (8 * (i % 4)))) rfl rfl rfl (conv_N underlying3 underlying73 (show 24 - (8 * (i % 4)) < 18446744073709551616 by omega)) rfl fun ac hs => ?_)
   refine bnn hs (.int .u32 (((h1 (i / 4)) / 2 ^ (24 - (8 * (i % 4))) : Nat) : Int)) rfl rfl rfl rfl (bin_shrN (z := (h1 (i / 4)) / 2 ^ (24 - (8 * (i % 4)))) rfl (show h1 (i / 4) < 4294967296 from hh1 _)) fun ac hs => ?_
   refine stp (op_convert hs none (v := .int .u8 (((h1 (i / 4)) / 2 ^ (24 - (8 * (i % 4))) % 256 : Nat) : Int)) rfl rfl rfl (conv_M (z := (h1 (i / 4)) / 2 ^ (24 - (8 * (i % 4))) % 256) rfl underlying109 underlying5 rfl) rfl fun ac hs => ?_)
   refine stp (op_idxA hs none (j := i) rfl rfl rfl rfl underlying30 sizeOf5 (show i < 32 by omega) (off := i) (by omega) rfl fun ac hs => ?_)
   refine stp (stoo hs 1 ([.int .u8 (((h1 (i / 4)) / 2 ^ (24 - (8 * (i % 4))) % 256 : Nat) : Int)]) sizeOf5 rfl rfl rfl rfl rfl rfl rfl rfl (tab_le (j := i) (show i < 32 by omega)) (tab_set) fun w hs => ?_)
   refine wpList_nil (blk_n (then_n ?_))
   replace hs := hs.nf w0 Z noX [2, 3, 7, 8] rfl rfl rfl rfl
   refine wp_region_lit ?_
   refine mvv hs rfl rfl rfl fun ac hs => ?_
   refine bnn hs (ni64 (i + 1)) rfl rfl rfl rfl (bin_addN (y := 1) rfl (show i + 1 < 9223372036854775808 by omega)) fun ac hs => ?_
   refine asg hs rfl rfl rfl fun ac hs => ?_
   refine wpList_nil (then_n ?_)
   replace hs := hs.setb 1 (cs' := (tab .u8 32 (outT h1 (i + 1)))) rfl (tab_ext fun j hj => outT_step rfl j)
   exact ⟨_, ⟨(i + 1), rfl, (by omega), (hs.re (fs' := [(2, true, ptA g1 0), (3, true, .slice a1 8 c1), (7, true, ptA g12 0), (8, true, ni64 ((i + 1)))]) ⟨rfl, rfl, rfl, rfl, trivial⟩)⟩, (by omega)⟩
  ·skip
   have hp15 := of_decide_eq_false hc
   obtain rfl : i = 32 := by have := of_decide_eq_false hc; omega
   replace hs := hs.setb 1 (cs' := (tab .u8 32 (shaB h1))) rfl (tab_ext fun j hj => outT_end hj)
   refine wp_exit (then_e (then_e (blk_e (then_n (wp_seq (wp_region_lit ?_))))))
   refine ldd hs 1 (At .u8 32 (shaB h1)) isAgg30 sizeOf30 rfl rfl rfl rfl ldv_tab fun ac hs => ?_
   refine stp (stoo hs 0 ((tab .u8 32 (shaB h1))) sizeOf30 rfl rfl rfl rfl rfl (by kernel_rfl) tab_length' (tab_one _ _ _) tab_leA wr_tab fun w hs => ?_)
   refine wpList_nil (then_n (wp_ret ?_))
   exact bodyPost_ret (res1 rfl (rv_c hs 0 (v := At .u8 32 (shaB h1)) rfl rfl isAgg30 sizeOf30 ldv_tab)) hs.defers ⟨(), by rw [show sha l = shaB h1 from by funext j; unfold sha; rw [hH]], hs.bel rfl, okl0⟩
theorem rtagged_c (t : List UInt8) (ad : Option Addr) (nl c : Nat) (l : List UInt8) (htl : t.length ≤ 1000) (hlen : l.length ≤ 100000) (w0 : World) (Z : Nat → Prop) (hl : ByV w0 Z (.slice ad nl c) l): Calls prog 58 #[.string (txt t), .slice ad nl c] w0 fun e w' => Ret w0 Z (ρ := Unit) (fun r => At .u8 32 (tagH t l)) (fun r => []) e w' := by
 obtain rfl := byv_len hl
 have hb32 := btl_len 32 (sha t)
 refine enterS (n := 21) (args := [.string (txt t), .slice ad l.length c]) (S := [(true, .cel (.slice ad l.length c) l.length (bcs l))]) (Z := Z) func58 rfl rfl (Nat.le_of_ble_eq_true rfl) (sokC hl sok0) rfl fun ac hs => ?_
 refine wp_seq (wp_region_lit ?_)
 refine stp (op_alloc hs none none (cs := (tab .u8 32 (fun _ => 0))) rfl rfl zeroValue30 (by kernel_rfl) rfl rfl fun g1 ac w hs => ?_)
 refine wpList_nil (then_n (wp_seq (wp_region_lit ?_)))
 refine mvv hs rfl rfl rfl fun ac hs => ?_
 refine stp (op_convSB' hs none none (l := t) rfl rfl rfl underlying9 underlying25 underlying5 (show t.length ≤ 1000000 by omega) rfl rfl (run_convSB _ underlying9 underlying25 underlying5 (show t.length ≤ 1000000 by omega)) fun ad2 cp3 ac w hs => ?_)
 refine stp (op_callS (F := 99) (ρ := Unit) hs none none (v := fun r => At .u8 32 (sha t)) (E := fun r => []) (j := 0) rfl rfl rfl rfl (call99 _) (fun hs => rshasum_c ad2 t.length cp3 t (show t.length ≤ 200000 by omega) _ _ (hs.all (k := 1) rfl rfl)) (fun _ => rfl) rfl rfl fun _ ac w hs => ?_)
 refine stp (op_alloc hs none none (cs := (tab .u8 32 (fun _ => 0))) rfl rfl zeroValue30 (by kernel_rfl) rfl rfl fun g4 ac w hs => ?_)
 refine stp (stoo hs 1 ((tab .u8 32 (sha t))) sizeOf30 rfl rfl rfl rfl rfl (by kernel_rfl) tab_length' (tab_one _ _ _) tab_leA wr_tab fun w hs => ?_)
 refine wpList_nil (then_n (wp_seq ?_))
 replace hs := hs.nf w0 Z noX [1, 4, 5] rfl rfl rfl rfl
 refine wp_region_lit ?_
 refine stp (op_bsO0 hs none none (size := 1) rfl rfl underlying25 inf_u8_5 rfl rfl fun ad6 ac w hs => ?_)
 replace hs := hs.arrCel none 1 (n0 := 32) (f := sha t) rfl (fun j hj => sha_lt t j) (by decide) rfl
 replace hs := hs.selB [0] rfl (by decide)
 refine stp (op_val hs none (v := .slice (some ⟨g4, 0, none⟩) 32 32) rfl rfl (run_slA rfl (hs.ev rfl) underlying30 sizeOf5) fun ac hs => ?_)
 refine stp (op_appR hs none 2 3 (N' := (btl 32 (sha t)).length) (ys := bcs (btl 32 (sha t))) rfl rfl rfl rfl rfl rfl underlying25 inf_u8_5 rfl (by decide) (bcs_len1 rfl) (bcs_one _) (by decide) (show 0 + 32 ≤ 1000000 by omega) (Nat.zero_add _) rfl rfl rfl fun ad7 cp8 ac w hs => ?_)
 refine asg hs rfl rfl rfl fun ac hs => ?_
 refine wpList_nil (then_n (wp_seq (wp_region_lit ?_)))
 refine mvv hs rfl rfl rfl fun ac hs => ?_
 refine stp (op_val hs none (v := .slice (some ⟨g4, 0, none⟩) 32 32) rfl rfl (run_slA rfl (hs.ev rfl) underlying30 sizeOf5) fun ac hs => ?_)
 refine stp (op_appR hs none 2 3 (N' := (btl 32 (sha t) ++ btl 32 (sha t)).length) (ys := bcs (btl 32 (sha t) ++ btl 32 (sha t))) rfl rfl rfl rfl rfl rfl underlying25 inf_u8_5 rfl (by decide) (bcs_len1 rfl) (bcs_one _) (by decide) (show (btl 32 (sha t)).length + 32 ≤ 1000000 by omega) (by simp only [List.length_append, List.length_cons, List.length_nil] <;> omega) (bcs_append _ _) rfl rfl fun ad9 cp10 ac w hs => ?_)
 refine asg hs rfl rfl rfl fun ac hs => ?_
 refine wpList_nil (then_n (wp_seq ?_))
 replace hs := hs.nf w0 Z noX [1, 4, 6] rfl rfl rfl rfl
 refine wp_region_lit ?_
 refine mvv hs rfl rfl rfl fun ac hs => ?_
 refine mvv hs rfl rfl rfl fun ac hs => ?_
 refine stp (op_appR hs none 2 0 (N' := (btl 32 (sha t) ++ btl 32 (sha t) ++ l).length) (ys := bcs (btl 32 (sha t) ++ btl 32 (sha t) ++ l)) rfl rfl rfl rfl rfl rfl underlying25 inf_u8_5 rfl (by decide) (bcs_len1 rfl) (bcs_one _) (by decide) (show (btl 32 (sha t) ++ btl 32 (sha t)).length + l.length ≤ 1000000 by first | omega | ((try simp only [List.length_drop, List.length_take, List.length_append, List.length_cons, List.length_nil]); omega)) (by simp only [List.length_append, List.length_cons, List.length_nil] <;> omega) (bcs_append _ _) rfl rfl fun ad11 cp12 ac w hs => ?_)
 refine asg hs rfl rfl rfl fun ac hs => ?_
 refine wpList_nil (then_n (wp_seq (wp_region_lit ?_)))
 refine mvv hs rfl rfl rfl fun ac hs => ?_
 replace hs := hs.freeze 2 rfl
 refine stp (op_callS (F := 99) (ρ := Unit) hs none none (v := fun r => At .u8 32 (sha (btl 32 (sha t) ++ btl 32 (sha t) ++ l))) (E := fun r => []) (j := 0) rfl rfl rfl rfl (call99 _) (fun hs => rshasum_c ad11 ((btl 32 (sha t) ++ btl 32 (sha t) ++ l).length) cp12 (btl 32 (sha t) ++ btl 32 (sha t) ++ l) (show (btl 32 (sha t) ++ btl 32 (sha t) ++ l).length ≤ 200000 by first | omega | ((try simp only [List.length_drop, List.length_take, List.length_append, List.length_cons, List.length_nil]); omega)) _ _ (hs.all (k := 2) rfl rfl)) (fun _ => rfl) rfl rfl fun _ ac w hs => ?_)
 refine stp (stoo hs 0 ((tab .u8 32 (sha (btl 32 (sha t) ++ btl 32 (sha t) ++ l)))) sizeOf30 rfl rfl rfl rfl rfl (by kernel_rfl) tab_length' (tab_one _ _ _) tab_leA wr_tab fun w hs => ?_)
 refine wpList_nil (then_n (wp_ret ?_))
 exact bodyPost_ret (res1 rfl (rv_c hs 0 (v := At .u8 32 (sha (btl 32 (sha t) ++ btl 32 (sha t) ++ l))) rfl rfl isAgg30 sizeOf30 ldv_tab)) hs.defers ⟨(), rfl, hs.bel rfl, okl0⟩
end Go.Proofs.YtejbajgpiecjcaaGreat

/- The contracts of schnorr. -/
namespace Go.Proofs.YtejbajgpiecjcaaGreat
open Go.RowKit _root_.Go.Proofs.Tryz
set_option maxRecDepth 10000
set_option maxHeartbeats 1000000
theorem rchal_c (f1 f2 : Nat → Nat) (ad : Option Addr) (nl c : Nat) (l : List UInt8) (x : Nat) (hf1 : ∀ j, j < 32 → f1 j < 256) (hf2 : ∀ j, j < 32 → f2 j < 256) (hlen : l.length ≤ 1000) (hx : chal f1 f2 l = x) (w0 : World) (Z : Nat → Prop) (hl : ByV w0 Z (.slice ad nl c) l): Calls prog 26 #[At .u8 32 f1, At .u8 32 f2, .slice ad nl c] w0 fun e w' => Ret w0 Z (ρ := Unit) (fun r => W x) (fun r => []) e w' := by
 obtain rfl := byv_len hl
 have hb1 := btl_len 32 f1
 have hb2 := btl_len 32 f2
 refine enterS (n := 20) (args := [At .u8 32 f1, At .u8 32 f2, .slice ad l.length c]) (S := [(true, .cel (.slice ad l.length c) l.length (bcs l))]) (Z := Z) func26 rfl rfl (Nat.le_of_ble_eq_true rfl) (sokC hl sok0) rfl fun ac hs => ?_
 refine wp_seq (wp_region_lit ?_)
 refine stp (op_box hs none none (cs := (tab .u8 32 f1)) rfl rfl rfl rfl rfl rfl fun g1 ac w hs => ?_)
 refine stp (op_box hs none none (cs := (tab .u8 32 f2)) rfl rfl rfl rfl rfl rfl fun g2 ac w hs => ?_)
 refine stp (op_alloc hs none none (cs := [.int .u64 0, .int .u64 0, .int .u64 0, .int .u64 0]) rfl rfl zeroValue24 (by kernel_rfl) rfl rfl fun g3 ac w hs => ?_)
 refine wpList_nil (then_n (wp_seq (wp_region_lit ?_)))
 refine stp (op_bsO0 hs none none (size := 1) rfl rfl underlying25 inf_u8_5 rfl rfl fun ad5 ac w hs => ?_)
 replace hs := hs.arrCel none 0 (n0 := 32) (f := f1) rfl (fun j hj => hf1 j (by omega)) (by decide) rfl
 replace hs := hs.selB [1, 2] rfl (by decide)
 refine stp (op_val hs none (v := .slice (some ⟨g1, 0, none⟩) 32 32) rfl rfl (run_slA rfl (hs.ev rfl) underlying30 sizeOf5) fun ac hs => ?_)
 refine stp (op_appR hs none 1 2 (N' := (btl 32 f1).length) (ys := bcs (btl 32 f1)) rfl rfl rfl rfl rfl rfl underlying25 inf_u8_5 rfl (by decide) (bcs_len1 rfl) (bcs_one _) (by decide) (show 0 + 32 ≤ 1000000 by omega) (Nat.zero_add _) rfl rfl rfl fun ad6 cp7 ac w hs => ?_)
 refine asg hs rfl rfl rfl fun ac hs => ?_
 refine wpList_nil (then_n (wp_seq ?_))
 replace hs := hs.nf w0 Z noX [2, 4, 6, 7] rfl rfl rfl rfl
 refine wp_region_lit ?_
 refine mvv hs rfl rfl rfl fun ac hs => ?_
 replace hs := hs.arrCel none 0 (n0 := 32) (f := f2) rfl (fun j hj => hf2 j (by omega)) (by decide) rfl
 replace hs := hs.selB [1] rfl (by decide)
 refine stp (op_val hs none (v := .slice (some ⟨g2, 0, none⟩) 32 32) rfl rfl (run_slA rfl (hs.ev rfl) underlying30 sizeOf5) fun ac hs => ?_)
 refine stp (op_appR hs none 1 3 (N' := (btl 32 f1 ++ btl 32 f2).length) (ys := bcs (btl 32 f1 ++ btl 32 f2)) rfl rfl rfl rfl rfl rfl underlying25 inf_u8_5 rfl (by decide) (bcs_len1 rfl) (bcs_one _) (by decide) (show (btl 32 f1).length + 32 ≤ 1000000 by omega) (by simp only [List.length_append, List.length_cons, List.length_nil] <;> omega) (bcs_append _ _) rfl rfl fun ad8 cp9 ac w hs => ?_)
 refine asg hs rfl rfl rfl fun ac hs => ?_
 refine wpList_nil (then_n (wp_seq (wp_region_lit ?_)))
 refine mvv hs rfl rfl rfl fun ac hs => ?_
 refine mvv hs rfl rfl rfl fun ac hs => ?_
 refine stp (op_appR hs none 1 0 (N' := (btl 32 f1 ++ btl 32 f2 ++ l).length) (ys := bcs (btl 32 f1 ++ btl 32 f2 ++ l)) rfl rfl rfl rfl rfl rfl underlying25 inf_u8_5 rfl (by decide) (bcs_len1 rfl) (bcs_one _) (by decide) (show (btl 32 f1 ++ btl 32 f2).length + l.length ≤ 1000000 by first | omega | ((try simp only [List.length_drop, List.length_take, List.length_append, List.length_cons, List.length_nil]); omega)) (by simp only [List.length_append, List.length_cons, List.length_nil] <;> omega) (bcs_append _ _) rfl rfl fun ad10 cp11 ac w hs => ?_)
 refine asg hs rfl rfl rfl fun ac hs => ?_
 refine wpList_nil (then_n (wp_seq ?_))
 replace hs := hs.nf w0 Z noX [6, 7] rfl rfl rfl rfl
 refine wp_region_lit ?_
 refine mvv hs rfl rfl rfl fun ac hs => ?_
 replace hs := hs.freeze 1 rfl
 refine stp (op_callS (F := 58) (ρ := Unit) hs none none (v := fun r => At .u8 32 (tagH chTag (btl 32 f1 ++ btl 32 f2 ++ l))) (E := fun r => []) (j := 0) rfl rfl rfl rfl (call58 _) (fun hs => rtagged_c chTag ad10 ((btl 32 f1 ++ btl 32 f2 ++ l).length) cp11 (btl 32 f1 ++ btl 32 f2 ++ l) (by decide) (show (btl 32 f1 ++ btl 32 f2 ++ l).length ≤ 100000 by first | omega | ((try simp only [List.length_drop, List.length_take, List.length_append, List.length_cons, List.length_nil]); omega)) _ _ (hs.all (k := 1) rfl rfl)) (fun _ => rfl) rfl rfl fun _ ac w hs => ?_)
 obtain ⟨r12, hr12, lr12⟩ : ∃ z0, pr (tagH chTag (btl 32 f1 ++ btl 32 f2 ++ l)) 0 32 % Nord = z0 ∧ z0 < 2 ^ 256 := ⟨_, rfl, mN256 _⟩
 refine stp (op_call (F := 57) hs none (v := W r12) rfl rfl rfl rfl (call57 _) (rshash_c (tagH chTag (btl 32 f1 ++ btl 32 f2 ++ l)) r12 (fun j _ => tagH_lt _ _ j) hr12) rfl fun ac w hs => ?_)
 refine stp (stoo hs 0 ((Wl r12)) sizeOf24 rfl rfl rfl rfl rfl rfl rfl rfl rfl rfl fun w hs => ?_)
 refine wpList_nil (then_n (wp_ret ?_))
 exact bodyPost_ret (res1 rfl (rv_c hs 0 (v := W r12) rfl rfl isAgg24 sizeOf24 rfl)) hs.defers ⟨(), by rw [show r12 = x from hr12.symm.trans (by rw [← hx]; rfl)], hs.bel rfl, okl0⟩
theorem rstraight_c (s d er : Nat) (q : Bool) (hs0 : s < 2 ^ 256) (hd : sD s = d) (he : sE s = er) (hq : decide (er = 0) = q) (w0 : World) : Calls prog 25 #[W s] w0 fun e w' => e = .returned (.tuple #[W d, At .u8 32 (sK s), .bool q]) ∧ Below w0.heap.size w0 w' := by
 refine enter (n := 25) (args := [W s]) func25 rfl rfl (Nat.le_of_ble_eq_true rfl) fun ac hs => ?_
 refine wp_seq (wp_region_lit ?_)
 refine stp (op_box hs none none (cs := (Wl s)) rfl rfl rfl rfl rfl rfl fun g1 ac w hs => ?_)
 refine stp (op_alloc hs none none (cs := [.int .u64 0, .int .u64 0, .int .u64 0, .int .u64 0]) rfl rfl zeroValue24 (by kernel_rfl) rfl rfl fun g2 ac w hs => ?_)
 refine stp (op_alloc hs none none (cs := (tab .u8 32 (fun _ => 0))) rfl rfl zeroValue30 (by kernel_rfl) rfl rfl fun g3 ac w hs => ?_)
 refine asg hs rfl rfl rfl fun ac hs => ?_
 refine wpList_nil (then_n (wp_seq (wp_region_lit ?_)))
 refine ldd hs 0 (W s) isAgg24 sizeOf24 rfl rfl rfl rfl rfl fun ac hs => ?_
 obtain ⟨r4, hr4, lr4⟩ : ∃ z0, s % Nord = z0 ∧ z0 < 2 ^ 256 := ⟨_, rfl, mN256 _⟩
 refine stp (op_call (F := 55) hs none (v := W r4) rfl rfl rfl rfl (call55 _) (rred_c s r4 hs0 hr4) rfl fun ac w hs => ?_)
 refine stp (op_alloc hs none none (cs := [.int .u64 0, .int .u64 0, .int .u64 0, .int .u64 0]) rfl rfl zeroValue24 (by kernel_rfl) rfl rfl fun g5 ac w hs => ?_)
 refine stp (stoo hs 3 ((Wl r4)) sizeOf24 rfl rfl rfl rfl rfl rfl rfl rfl rfl rfl fun w hs => ?_)
 refine wpList_nil (then_n (wp_seq (wp_seq ?_)))
 replace hs := hs.n0 [2, 3, 4, 5] rfl rfl
 refine wp_region_lit ?_
 refine ldd hs 3 (W r4) isAgg24 sizeOf24 rfl rfl rfl rfl rfl fun ac hs => ?_
 refine stp (op_build hs none (qs := []) (v := .agg #[.int .u64 0, .int .u64 0, .int .u64 0, .int .u64 0]) rfl rfl rfl rfl (fun _ => by kernel_rfl) rfl fun ac hs => ?_)
 refine stp (op_bin hs none (v := .bool (decide (r4 = 0))) rfl rfl rfl rfl (fun w => run_eqGuard_agg w .eql 24 _ _ _ _ Tryz.eqGuardType24) (eqlW r4 0 lr4 (by decide) _ rfl) rfl fun ac hs => ?_)
 refine wpList_nil (then_n ?_)
 refine wp_cond_split (hs.ev rfl) (fun hc => ?_) (fun hc => ?_)
 ·skip
  have hp6 := of_decide_eq_true hc
  refine wp_seq (wp_region_lit ?_)
  refine ldd hs 3 (W r4) isAgg24 sizeOf24 rfl rfl rfl rfl rfl fun ac hs => ?_
  refine stp (op_build hs none (qs := []) (v := At .u8 32 (fun _ => 0)) rfl rfl rfl rfl (fun _ => by kernel_rfl) rfl fun ac hs => ?_)
  refine stp (stoo hs 1 ((Wl r4)) sizeOf24 rfl rfl rfl rfl rfl rfl rfl rfl rfl rfl fun w hs => ?_)
  refine stp (stoo hs 2 ((tab .u8 32 (fun _ => 0))) sizeOf30 rfl rfl rfl rfl rfl (by kernel_rfl) tab_length' (tab_one _ _ _) tab_leA wr_tab fun w hs => ?_)
  refine asg hs rfl rfl rfl fun ac hs => ?_
  refine wpList_nil (then_n (wp_ret (then_r ?_)))
  exact bodyPost_ret (res3 rfl (rv_c hs 1 (v := W r4) rfl rfl isAgg24 sizeOf24 rfl) (rv_c hs 2 (v := At .u8 32 (fun _ => 0)) rfl rfl isAgg30 sizeOf30 ldv_tab) (rv_t hs rfl)) hs.defers ⟨by obtain ⟨hd1, hk1, he1⟩ := st_zero hr4 hp6; rw [hd] at hd1; rw [he] at he1; rw [hd1, hk1, ← hq, he1]; first | done | rfl, (hs.bel rfl)⟩
 ·skip
  have hp7 := of_decide_eq_false hc
  refine wp_skip (then_n (wp_seq ?_))
  replace hs := hs.n0 [2, 3, 4, 5] rfl rfl
  obtain ⟨T8, hT8, oT8⟩ := mkMul r4 Gp_on
  refine region_inv [([], [2, 4]), ([], [2, 4]), ([0, 1], [4]), ([], [4]), (rgn 0 4, [])] (fun L ac w => ∃ (g9 : Nat), St 25 w0 [(14, L 0, W r4), (15, L 1, PV (px Gp) (py Gp) (pz Gp)), (16, L 2, PV (px T8) (py T8) (pz T8)), (6, L 3, ptA g9 0), (2, true, ptA g2 0), (3, true, ptA g3 0), (4, true, .bool false), (5, true, ptA g5 0)] [(true, g1, 24, (Wl s)), (true, g2, 24, [.int .u64 0, .int .u64 0, .int .u64 0, .int .u64 0]), (true, g3, 30, (tab .u8 32 (fun _ => 0))), (true, g5, 24, (Wl r4)), (L 3, g9, 42, (cond (L 4) (PVl (px T8) (py T8) (pz T8)) (PVl 0 0 false)))] ac w) (by kernel_rfl) (by kernel_rfl) ?_ ?_ ?_
  ·exact ⟨0, hs.drew.skip.skip.skip.skip.pad⟩
  ·refine ⟨?_, ?_, ?_, ?_, ?_, trivial⟩
   ·exact fun L ac w ⟨g9, hs⟩ => pln (oldd hs 0 3 (W r4) isAgg24 sizeOf24 rfl rfl rfl rfl rfl fun ac hs => ⟨g9, hs⟩)
   ·exact fun L ac w ⟨g9, hs⟩ => pln (op_call (F := 39) hs (some 1) (v := PV (px Gp) (py Gp) (pz Gp)) rfl rfl rfl rfl (call39 _) rbase_c rfl fun ac w hs => ⟨g9, hs⟩)
   ·exact fun L ac w ⟨g9, hs⟩ => pln (op_call (F := 38) hs (some 2) (v := PV (px T8) (py T8) (pz T8)) rfl rfl rfl rfl (call38 _) (rmul14_c r4 (px Gp) (py Gp) (pz Gp) Gp T8 lr4 (px_lt Gp) (py_lt Gp) (pt_back Gp_on) hT8) rfl fun ac w hs => ⟨g9, hs⟩)
   ·exact fun L ac w ⟨g9, hs⟩ => pln (op_alloc hs (some 3) (some 4) (cs := (PVl 0 0 false)) rfl rfl zeroValue42 (by kernel_rfl) rfl rfl fun g9 ac w hs => ⟨g9, hs⟩)
   ·exact fun L ac w ⟨g9, hs⟩ => pln (stoo hs 4 ((PVl (px T8) (py T8) (pz T8))) sizeOf42 rfl rfl rfl rfl rfl rfl rfl rfl rfl rfl fun w hs => ⟨g9, hs⟩)
  intro ac w ⟨g9, hs⟩
  try dsimp only [cond_true] at hs
  refine then_n (wp_seq (wp_seq (wp_region_lit ?_)))
  refine ldd hs 4 (PV (px T8) (py T8) (pz T8)) isAgg42 sizeOf42 rfl rfl rfl rfl rfl fun ac hs => ?_
  refine stp (op_call (F := 42) hs none (v := .bool (evB T8)) rfl rfl rfl rfl (call42 _) (reven_c (px T8) (py T8) (pz T8) T8 _ (px_lt T8) (py_lt T8) (pt_back oT8) rfl) rfl fun ac w hs => ?_)
  refine stp (op_un hs none (v := .bool (!(evB T8))) rfl rfl rfl (fun _ => rfl) rfl fun ac hs => ?_)
  refine wpList_nil (then_n ?_)
  refine wp_cond_split (hs.ev rfl) (fun hc => ?_) (fun hc => ?_)
  ·skip
   have hev := hc
   refine wp_region_lit ?_
   refine ldd hs 3 (W r4) isAgg24 sizeOf24 rfl rfl rfl rfl rfl fun ac hs => ?_
   obtain ⟨r10, hr10, lr10⟩ : ∃ z0, (Nord - r4 % Nord) % Nord = z0 ∧ z0 < 2 ^ 256 := ⟨_, rfl, mN256 _⟩
   refine stp (op_call (F := 56) hs none (v := W r10) rfl rfl rfl rfl (call56 _) (rsneg_c r4 r10 lr4 hr10) rfl fun ac w hs => ?_)
   refine stp (stoo hs 3 ((Wl r10)) sizeOf24 rfl rfl rfl rfl rfl rfl rfl rfl rfl rfl fun w hs => ?_)
   refine wpList_nil (then_n (wp_seq ?_))
   replace hs := hs.n0 [2, 3, 4, 5, 6] rfl rfl
   refine region_inv [([], [3, 4, 5]), ([], rgn 2 4), ([1], [3, 4, 5]), ([0, 1, 2], [4, 5]), (rgn 0 4, [5]), (rgn 0 5, [])] (fun L ac w => St 25 w0 [(22, L 0, W r10), (23, L 1, PV (px T8) (py T8) (pz T8)), (24, L 2, At .u8 32 (by8 (px T8))), (4, L 5, .bool true), (2, true, ptA g2 0), (3, true, ptA g3 0), (4, true, .bool false), (5, true, ptA g5 0), (6, true, ptA g9 0)] [(true, g1, 24, (Wl s)), (true, g2, 24, (cond (L 3) (Wl r10) [.int .u64 0, .int .u64 0, .int .u64 0, .int .u64 0])), (true, g3, 30, (cond (L 4) (tab .u8 32 (by8 (px T8))) (tab .u8 32 (fun _ => 0)))), (true, g5, 24, (Wl r10)), (true, g9, 42, (PVl (px T8) (py T8) (pz T8)))] ac w) (by kernel_rfl) (by kernel_rfl) ?_ ?_ ?_
   ·exact hs.drew.skip.skip.skip.skip
   ·refine ⟨?_, ?_, ?_, ?_, ?_, ?_, trivial⟩
    ·exact fun L ac w hs => pln (oldd hs 0 3 (W r10) isAgg24 sizeOf24 rfl rfl rfl rfl rfl fun ac hs => hs)
    ·exact fun L ac w hs => pln (oldd hs 1 4 (PV (px T8) (py T8) (pz T8)) isAgg42 sizeOf42 rfl rfl rfl rfl rfl fun ac hs => hs)
    ·exact fun L ac w hs => pln (op_call (F := 43) hs (some 2) (v := At .u8 32 (by8 (px T8))) rfl rfl rfl rfl (call43 _) (rpbytes_c (px T8) (py T8) (pz T8) T8 (px_lt T8) (py_lt T8) (pt_back oT8)) rfl fun ac w hs => hs)
    ·exact fun L ac w hs => pln (stoo hs 1 ((Wl r10)) sizeOf24 rfl rfl rfl rfl rfl rfl rfl rfl rfl rfl fun w hs => hs)
    ·exact fun L ac w hs => pln (stoo hs 2 ((tab .u8 32 (by8 (px T8)))) sizeOf30 rfl rfl rfl rfl rfl (by kernel_rfl) tab_length' (tab_one _ _ _) tab_leA wr_tab fun w hs => hs)
    ·exact fun L ac w hs => pln (oas hs 3 rfl rfl rfl fun ac hs => hs)
   intro ac w hs
   try dsimp only [cond_true] at hs
   refine then_n (wp_ret ?_)
   exact bodyPost_ret (res3 rfl (rv_c hs 1 (v := W r10) rfl rfl isAgg24 sizeOf24 rfl) (rv_c hs 2 (v := At .u8 32 (by8 (px T8))) rfl rfl isAgg30 sizeOf30 ldv_tab) (rv_t hs rfl)) hs.defers ⟨by obtain ⟨hd1, hk1, he1⟩ := st_odd hr4 hp7 hT8 (by simpa using hev) hr10; rw [hd] at hd1; rw [he] at he1; rw [hd1, hk1, ← hq, he1]; first | done | rfl, (hs.bel rfl)⟩
  ·skip
   have hev := hc
   refine wp_skip (then_n (wp_seq ?_))
   replace hs := hs.n0 [2, 3, 4, 5, 6] rfl rfl
   refine region_inv [([], [3, 4, 5]), ([], rgn 2 4), ([1], [3, 4, 5]), ([0, 1, 2], [4, 5]), (rgn 0 4, [5]), (rgn 0 5, [])] (fun L ac w => St 25 w0 [(22, L 0, W r4), (23, L 1, PV (px T8) (py T8) (pz T8)), (24, L 2, At .u8 32 (by8 (px T8))), (4, L 5, .bool true), (2, true, ptA g2 0), (3, true, ptA g3 0), (4, true, .bool false), (5, true, ptA g5 0), (6, true, ptA g9 0)] [(true, g1, 24, (Wl s)), (true, g2, 24, (cond (L 3) (Wl r4) [.int .u64 0, .int .u64 0, .int .u64 0, .int .u64 0])), (true, g3, 30, (cond (L 4) (tab .u8 32 (by8 (px T8))) (tab .u8 32 (fun _ => 0)))), (true, g5, 24, (Wl r4)), (true, g9, 42, (PVl (px T8) (py T8) (pz T8)))] ac w) (by kernel_rfl) (by kernel_rfl) ?_ ?_ ?_
   ·exact hs.drew.skip.skip.skip.skip
   ·refine ⟨?_, ?_, ?_, ?_, ?_, ?_, trivial⟩
    ·exact fun L ac w hs => pln (oldd hs 0 3 (W r4) isAgg24 sizeOf24 rfl rfl rfl rfl rfl fun ac hs => hs)
    ·exact fun L ac w hs => pln (oldd hs 1 4 (PV (px T8) (py T8) (pz T8)) isAgg42 sizeOf42 rfl rfl rfl rfl rfl fun ac hs => hs)
    ·exact fun L ac w hs => pln (op_call (F := 43) hs (some 2) (v := At .u8 32 (by8 (px T8))) rfl rfl rfl rfl (call43 _) (rpbytes_c (px T8) (py T8) (pz T8) T8 (px_lt T8) (py_lt T8) (pt_back oT8)) rfl fun ac w hs => hs)
    ·exact fun L ac w hs => pln (stoo hs 1 ((Wl r4)) sizeOf24 rfl rfl rfl rfl rfl rfl rfl rfl rfl rfl fun w hs => hs)
    ·exact fun L ac w hs => pln (stoo hs 2 ((tab .u8 32 (by8 (px T8)))) sizeOf30 rfl rfl rfl rfl rfl (by kernel_rfl) tab_length' (tab_one _ _ _) tab_leA wr_tab fun w hs => hs)
    ·exact fun L ac w hs => pln (oas hs 3 rfl rfl rfl fun ac hs => hs)
   intro ac w hs
   try dsimp only [cond_true] at hs
   refine then_n (wp_ret ?_)
   exact bodyPost_ret (res3 rfl (rv_c hs 1 (v := W r4) rfl rfl isAgg24 sizeOf24 rfl) (rv_c hs 2 (v := At .u8 32 (by8 (px T8))) rfl rfl isAgg30 sizeOf30 ldv_tab) (rv_t hs rfl)) hs.defers ⟨by obtain ⟨hd1, hk1, he1⟩ := st_even hr4 hp7 hT8 (by simpa using hev); rw [hd] at hd1; rw [he] at he1; rw [hd1, hk1, ← hq, he1]; first | done | rfl, (hs.bel rfl)⟩
theorem rkey_c (s er : Nat) (hs0 : s < 2 ^ 256) (he : sE s = er) (w0 : World) : Calls prog 10 #[W s] w0 fun e w' => e = .returned (.tuple #[At .u8 32 (sK s), ni64 er]) ∧ Below w0.heap.size w0 w' := by
 refine enter (n := 17) (args := [W s]) func10 rfl rfl (Nat.le_of_ble_eq_true rfl) fun ac hs => ?_
 refine wp_seq (wp_region_lit ?_)
 refine stp (op_box hs none none (cs := (Wl s)) rfl rfl rfl rfl rfl rfl fun g1 ac w hs => ?_)
 refine stp (op_alloc hs none none (cs := (tab .u8 32 (fun _ => 0))) rfl rfl zeroValue30 (by kernel_rfl) rfl rfl fun g2 ac w hs => ?_)
 refine asg hs rfl rfl rfl fun ac hs => ?_
 refine wpList_nil (then_n (wp_seq (wp_region_lit ?_)))
 refine ldd hs 0 (W s) isAgg24 sizeOf24 rfl rfl rfl rfl rfl fun ac hs => ?_
 obtain ⟨d3, hd3, ld3⟩ : ∃ z0, sD s = z0 ∧ z0 < 2 ^ 256 := ⟨_, rfl, sD_lt256 _⟩
 obtain ⟨er4, her4⟩ : ∃ z0, sE s = z0 := ⟨_, rfl⟩
 have ler4 := sE_le s
 rw [her4] at ler4
 refine stp (op_call (F := 25) hs none (v := .tuple #[W d3, At .u8 32 (sK s), .bool (decide (er4 = 0))]) rfl rfl rfl rfl (call25 _) (rstraight_c s d3 er4 (decide (er4 = 0)) hs0 hd3 her4 rfl) rfl fun ac w hs => ?_)
 refine mvv hs rfl rfl rfl fun ac hs => ?_
 refine stp (xtr hs none rfl rfl rfl rfl rfl fun ac hs => ?_)
 refine stp (xtr hs none rfl rfl rfl rfl rfl fun ac hs => ?_)
 refine stp (xtr hs none rfl rfl rfl rfl rfl fun ac hs => ?_)
 refine stp (op_alloc hs none none (cs := [.int .u64 0, .int .u64 0, .int .u64 0, .int .u64 0]) rfl rfl zeroValue24 (by kernel_rfl) rfl rfl fun g5 ac w hs => ?_)
 refine stp (op_alloc hs none none (cs := (tab .u8 32 (fun _ => 0))) rfl rfl zeroValue30 (by kernel_rfl) rfl rfl fun g6 ac w hs => ?_)
 refine stp (stoo hs 2 ((Wl d3)) sizeOf24 rfl rfl rfl rfl rfl rfl rfl rfl rfl rfl fun w hs => ?_)
 refine stp (stoo hs 3 ((tab .u8 32 (sK s))) sizeOf30 rfl rfl rfl rfl rfl (by kernel_rfl) tab_length' (tab_one _ _ _) tab_leA wr_tab fun w hs => ?_)
 refine asg hs rfl rfl rfl fun ac hs => ?_
 refine wpList_nil (then_n (wp_seq (wp_seq ?_)))
 replace hs := hs.n0 [2, 3, 5, 6] rfl rfl
 refine wp_region_lit ?_
 refine mvv hs rfl rfl rfl fun ac hs => ?_
 refine stp (op_un hs none (v := .bool (!(decide (er4 = 0)))) rfl rfl rfl (fun _ => rfl) rfl fun ac hs => ?_)
 refine wpList_nil (then_n ?_)
 refine wp_cond_split (hs.ev rfl) (fun hc => ?_) (fun hc => ?_)
 ·skip
  refine wp_seq (wp_region_lit ?_)
  refine stp (op_build hs none (qs := []) (v := At .u8 32 (fun _ => 0)) rfl rfl rfl rfl (fun _ => by kernel_rfl) rfl fun ac hs => ?_)
  refine stp (stoo hs 1 ((tab .u8 32 (fun _ => 0))) sizeOf30 rfl rfl rfl rfl rfl (by kernel_rfl) tab_length' (tab_one _ _ _) tab_leA wr_tab fun w hs => ?_)
  refine asg hs rfl rfl rfl fun ac hs => ?_
  refine wpList_nil (then_n (wp_ret (then_r ?_)))
  exact bodyPost_ret (res2 rfl (rv_c hs 1 (v := At .u8 32 (fun _ => 0)) rfl rfl isAgg30 sizeOf30 ldv_tab) (rv_t hs rfl)) hs.defers ⟨by obtain ⟨h1, h2⟩ := sE_1 (s := s) (by rw [her4]; simpa using hc); rw [← he, h2, show sK s = (fun _ => 0) from if_pos h1]; rfl, (hs.bel rfl)⟩
 ·skip
  refine wp_skip (then_n (wp_seq (wp_region_lit ?_)))
  refine ldd hs 3 (At .u8 32 (sK s)) isAgg30 sizeOf30 rfl rfl rfl rfl ldv_tab fun ac hs => ?_
  refine stp (stoo hs 1 ((tab .u8 32 (sK s))) sizeOf30 rfl rfl rfl rfl rfl (by kernel_rfl) tab_length' (tab_one _ _ _) tab_leA wr_tab fun w hs => ?_)
  refine asg hs rfl rfl rfl fun ac hs => ?_
  refine wpList_nil (then_n (wp_ret ?_))
  exact bodyPost_ret (res2 rfl (rv_c hs 1 (v := At .u8 32 (sK s)) rfl rfl isAgg30 sizeOf30 ldv_tab) (rv_t hs rfl)) hs.defers ⟨by rw [← he, her4, show er4 = 0 by simpa using hc]; rfl, (hs.bel rfl)⟩
theorem rsign_c (s k : Nat) (ad : Option Addr) (nl c : Nat) (l : List UInt8) (b : List UInt8) (er : Nat) (hs0 : s < 2 ^ 256) (hk0 : k < 2 ^ 256) (hlen : l.length ≤ 1000) (hb : sgB s k l = b) (he : sgE s k = er) (w0 : World) (Z : Nat → Prop) (hl : ByV w0 Z (.slice ad nl c) l): Calls prog 8 #[W s, W k, .slice ad nl c] w0 fun e w' => Ret w0 Z (ρ := Option Addr × Nat) (fun r => .tuple #[.slice r.1 b.length r.2, ni64 er]) (fun r => [.cel (.slice r.1 b.length r.2) b.length (bcs b)]) e w' := by
 obtain rfl := byv_len hl
 have hbk := btl_len 32 (sK k)
 refine enterS (n := 51) (args := [W s, W k, .slice ad l.length c]) (S := [(true, .cel (.slice ad l.length c) l.length (bcs l))]) (Z := Z) func8 rfl rfl (Nat.le_of_ble_eq_true rfl) (sokC hl sok0) rfl fun ac hs => ?_
 refine wp_seq (wp_region_lit ?_)
 refine stp (op_box hs none none (cs := (Wl s)) rfl rfl rfl rfl rfl rfl fun g1 ac w hs => ?_)
 refine stp (op_box hs none none (cs := (Wl k)) rfl rfl rfl rfl rfl rfl fun g2 ac w hs => ?_)
 refine asg hs rfl rfl rfl fun ac hs => ?_
 refine asg hs rfl rfl rfl fun ac hs => ?_
 refine wpList_nil (then_n (wp_seq (wp_region_lit ?_)))
 refine ldd hs 0 (W s) isAgg24 sizeOf24 rfl rfl rfl rfl rfl fun ac hs => ?_
 obtain ⟨d3, hd3, ld3⟩ : ∃ z0, sD s = z0 ∧ z0 < 2 ^ 256 := ⟨_, rfl, sD_lt256 _⟩
 obtain ⟨er4, her4⟩ : ∃ z0, sE s = z0 := ⟨_, rfl⟩
 have ler4 := sE_le s
 rw [her4] at ler4
 refine stp (op_call (F := 25) hs none (v := .tuple #[W d3, At .u8 32 (sK s), .bool (decide (er4 = 0))]) rfl rfl rfl rfl (call25 _) (rstraight_c s d3 er4 (decide (er4 = 0)) hs0 hd3 her4 rfl) rfl fun ac w hs => ?_)
 refine mvv hs rfl rfl rfl fun ac hs => ?_
 refine stp (xtr hs none rfl rfl rfl rfl rfl fun ac hs => ?_)
 refine stp (xtr hs none rfl rfl rfl rfl rfl fun ac hs => ?_)
 refine stp (xtr hs none rfl rfl rfl rfl rfl fun ac hs => ?_)
 refine stp (op_alloc hs none none (cs := [.int .u64 0, .int .u64 0, .int .u64 0, .int .u64 0]) rfl rfl zeroValue24 (by kernel_rfl) rfl rfl fun g5 ac w hs => ?_)
 refine stp (op_alloc hs none none (cs := (tab .u8 32 (fun _ => 0))) rfl rfl zeroValue30 (by kernel_rfl) rfl rfl fun g6 ac w hs => ?_)
 refine stp (stoo hs 2 ((Wl d3)) sizeOf24 rfl rfl rfl rfl rfl rfl rfl rfl rfl rfl fun w hs => ?_)
 refine stp (stoo hs 3 ((tab .u8 32 (sK s))) sizeOf30 rfl rfl rfl rfl rfl (by kernel_rfl) tab_length' (tab_one _ _ _) tab_leA wr_tab fun w hs => ?_)
 refine asg hs rfl rfl rfl fun ac hs => ?_
 refine wpList_nil (then_n (wp_seq ?_))
 replace hs := hs.nf w0 Z noX [2, 4, 6, 7, 8, 9, 10] rfl rfl rfl rfl
 refine wp_region_lit ?_
 refine ldd hs 1 (W k) isAgg24 sizeOf24 rfl rfl rfl rfl rfl fun ac hs => ?_
 obtain ⟨d7, hd7, ld7⟩ : ∃ z0, sD k = z0 ∧ z0 < 2 ^ 256 := ⟨_, rfl, sD_lt256 _⟩
 obtain ⟨er8, her8⟩ : ∃ z0, sE k = z0 := ⟨_, rfl⟩
 have ler8 := sE_le k
 rw [her8] at ler8
 refine stp (op_call (F := 25) hs none (v := .tuple #[W d7, At .u8 32 (sK k), .bool (decide (er8 = 0))]) rfl rfl rfl rfl (call25 _) (rstraight_c k d7 er8 (decide (er8 = 0)) hk0 hd7 her8 rfl) rfl fun ac w hs => ?_)
 refine mvv hs rfl rfl rfl fun ac hs => ?_
 refine stp (xtr hs none rfl rfl rfl rfl rfl fun ac hs => ?_)
 refine stp (xtr hs none rfl rfl rfl rfl rfl fun ac hs => ?_)
 refine stp (xtr hs none rfl rfl rfl rfl rfl fun ac hs => ?_)
 refine stp (op_alloc hs none none (cs := [.int .u64 0, .int .u64 0, .int .u64 0, .int .u64 0]) rfl rfl zeroValue24 (by kernel_rfl) rfl rfl fun g9 ac w hs => ?_)
 refine stp (op_alloc hs none none (cs := (tab .u8 32 (fun _ => 0))) rfl rfl zeroValue30 (by kernel_rfl) rfl rfl fun g10 ac w hs => ?_)
 refine stp (stoo hs 4 ((Wl d7)) sizeOf24 rfl rfl rfl rfl rfl rfl rfl rfl rfl rfl fun w hs => ?_)
 refine stp (stoo hs 5 ((tab .u8 32 (sK k))) sizeOf30 rfl rfl rfl rfl rfl (by kernel_rfl) tab_length' (tab_one _ _ _) tab_leA wr_tab fun w hs => ?_)
 refine asg hs rfl rfl rfl fun ac hs => ?_
 refine wpList_nil (then_n (wp_seq (wp_seq ?_)))
 by_cases hq11 : er4 = 0
 ·skip
  replace hs := hs.re (fs' := [(2, true, .slice ad l.length c), (4, true, ptA g2 0), (6, true, .slice none 0 0), (7, true, .int .i64 0), (8, true, ptA g5 0), (9, true, ptA g6 0), (10, true, .bool true), (24, true, W k), (25, true, .tuple #[W d7, At .u8 32 (sK k), .bool (decide (er8 = 0))]), (23, true, .tuple #[W d7, At .u8 32 (sK k), .bool (decide (er8 = 0))]), (26, true, W d7), (27, true, At .u8 32 (sK k)), (28, true, .bool (decide (er8 = 0))), (11, true, ptA g9 0), (12, true, ptA g10 0), (13, true, .bool (decide (er8 = 0)))]) ⟨rfl, rfl, rfl, rfl, rfl, rfl, congrArg some (congrArg Value.bool (decide_eq_true hq11)), rfl, rfl, rfl, rfl, rfl, rfl, rfl, rfl, rfl, trivial⟩
  have hz0 : sE s = 0 := by rw [her4]; exact hq11
  by_cases hq12 : er8 = 0
  ·skip
   replace hs := hs.re (fs' := [(2, true, .slice ad l.length c), (4, true, ptA g2 0), (6, true, .slice none 0 0), (7, true, .int .i64 0), (8, true, ptA g5 0), (9, true, ptA g6 0), (10, true, .bool true), (24, true, W k), (25, true, .tuple #[W d7, At .u8 32 (sK k), .bool (decide (er8 = 0))]), (23, true, .tuple #[W d7, At .u8 32 (sK k), .bool (decide (er8 = 0))]), (26, true, W d7), (27, true, At .u8 32 (sK k)), (28, true, .bool (decide (er8 = 0))), (11, true, ptA g9 0), (12, true, ptA g10 0), (13, true, .bool true)]) ⟨rfl, rfl, rfl, rfl, rfl, rfl, rfl, rfl, rfl, rfl, rfl, rfl, rfl, rfl, rfl, congrArg some (congrArg Value.bool (decide_eq_true hq12)), trivial⟩
   have hz1 : sE k = 0 := by rw [her8]; exact hq12
   replace hs := hs.nf w0 Z noX [2, 6, 7, 8, 9, 10, 11, 12, 13] rfl rfl rfl rfl
   refine wp_region_lit ?_
   refine mvv hs rfl rfl rfl fun ac hs => ?_
   refine stp (op_un hs none (v := .bool false) rfl rfl rfl (fun _ => rfl) rfl fun ac hs => ?_)
   refine mvv hs rfl rfl rfl fun ac hs => ?_
   refine lstep (wpO_in hs rfl rfl rfl (op_move hs none rfl rfl rfl rfl fun ac hs => ?_))
   refine lstep (wpO_in hs rfl rfl rfl (op_un hs none (v := .bool false) rfl rfl rfl (fun _ => rfl) rfl fun ac hs => ?_))
   refine stp (op_pickF hs none rfl rfl rfl rfl rfl fun ac hs => ?_)
   refine wpList_nil (then_n ?_)
   refine wp_cond_false (hs.ev rfl) ?_
   refine wp_skip (then_n (wp_seq ?_))
   replace hs := hs.nf w0 Z noX [2, 6, 7, 8, 9, 11, 12] rfl rfl rfl rfl
   refine wp_region_lit ?_
   refine ldd hs 5 (At .u8 32 (sK k)) isAgg30 sizeOf30 rfl rfl rfl rfl ldv_tab fun ac hs => ?_
   refine ldd hs 3 (At .u8 32 (sK s)) isAgg30 sizeOf30 rfl rfl rfl rfl ldv_tab fun ac hs => ?_
   refine mvv hs rfl rfl rfl fun ac hs => ?_
   obtain ⟨e13, he13, le13⟩ : ∃ z0, chal (sK k) (sK s) l = z0 ∧ z0 < 2 ^ 256 := ⟨_, rfl, chal_lt _ _ _⟩
   refine stp (op_callS (F := 26) (ρ := Unit) hs none none (v := fun r => W e13) (E := fun r => []) (j := 0) rfl rfl rfl rfl (call26 _) (fun hs => rchal_c (sK k) (sK s) ad l.length c l e13 (fun j _ => sK_lt _ j) (fun j _ => sK_lt _ j) (show l.length ≤ 1000 by omega) he13 _ _ (hs.all (k := 0) rfl rfl)) (fun _ => rfl) rfl rfl fun _ ac w hs => ?_)
   refine stp (op_alloc hs none none (cs := [.int .u64 0, .int .u64 0, .int .u64 0, .int .u64 0]) rfl rfl zeroValue24 (by kernel_rfl) rfl rfl fun g14 ac w hs => ?_)
   refine stp (stoo hs 6 ((Wl e13)) sizeOf24 rfl rfl rfl rfl rfl rfl rfl rfl rfl rfl fun w hs => ?_)
   refine wpList_nil (then_n (wp_seq ?_))
   replace hs := hs.nf w0 Z noX [6, 7, 8, 11, 12, 14] rfl rfl rfl rfl
   obtain ⟨r15, hr15, lr15⟩ : ∃ z0, e13 * d3 % Nord = z0 ∧ z0 < 2 ^ 256 := ⟨_, rfl, mN256 _⟩
   obtain ⟨r16, hr16, lr16⟩ : ∃ z0, (d7 + r15) % Nord = z0 ∧ z0 < 2 ^ 256 := ⟨_, rfl, mN256 _⟩
   refine region_inv [([], [4, 5, 7]), ([], [3, 4, 5, 7]), ([], [3, 4, 5, 7]), ([1, 2], [4, 5, 7]), (rgn 0 4, [5, 7]), (rgn 0 5, [7]), ([], [7]), (rgn 0 7, [])] (fun L ac w => ∃ (g17 : Nat), St 51 ⟨w0, [], [(true, .cel (.slice ad l.length c) l.length (bcs l))], Z, noX⟩ [(39, L 0, W d7), (40, L 1, W e13), (41, L 2, W d3), (42, L 3, W r15), (43, L 4, W r16), (44, L 5, At .u8 32 (by8 r16)), (15, L 6, ptA g17 0), (6, true, .slice none 0 0), (7, true, .int .i64 0), (8, true, ptA g5 0), (11, true, ptA g9 0), (12, true, ptA g10 0), (14, true, ptA g14 0)] [(true, g1, 24, (Wl s)), (true, g2, 24, (Wl k)), (true, g5, 24, (Wl d3)), (true, g6, 30, (tab .u8 32 (sK s))), (true, g9, 24, (Wl d7)), (true, g10, 30, (tab .u8 32 (sK k))), (true, g14, 24, (Wl e13)), (L 6, g17, 30, (cond (L 7) (tab .u8 32 (by8 r16)) (tab .u8 32 (fun _ => 0))))] ac w) (by kernel_rfl) (by kernel_rfl) ?_ ?_ ?_
   ·exact ⟨0, hs.drew.skip.skip.skip.skip.skip.skip.skip.pad⟩
   ·refine ⟨?_, ?_, ?_, ?_, ?_, ?_, ?_, ?_, trivial⟩
    ·exact fun L ac w ⟨g17, hs⟩ => pln (oldd hs 0 4 (W d7) isAgg24 sizeOf24 rfl rfl rfl rfl rfl fun ac hs => ⟨g17, hs⟩)
    ·exact fun L ac w ⟨g17, hs⟩ => pln (oldd hs 1 6 (W e13) isAgg24 sizeOf24 rfl rfl rfl rfl rfl fun ac hs => ⟨g17, hs⟩)
    ·exact fun L ac w ⟨g17, hs⟩ => pln (oldd hs 2 2 (W d3) isAgg24 sizeOf24 rfl rfl rfl rfl rfl fun ac hs => ⟨g17, hs⟩)
    ·exact fun L ac w ⟨g17, hs⟩ => pln (op_call (F := 29) hs (some 3) (v := W r15) rfl rfl rfl rfl (call29 _) (rsmul_c e13 d3 r15 le13 ld3 hr15) rfl fun ac w hs => ⟨g17, hs⟩)
    ·exact fun L ac w ⟨g17, hs⟩ => pln (op_call (F := 28) hs (some 4) (v := W r16) rfl rfl rfl rfl (call28 _) (rsadd_c d7 r15 r16 ld7 lr15 hr16) rfl fun ac w hs => ⟨g17, hs⟩)
    ·exact fun L ac w ⟨g17, hs⟩ => pln (op_call (F := 27) hs (some 5) (v := At .u8 32 (by8 r16)) rfl rfl rfl rfl (call27 _) (rbytes_c r16 lr16) rfl fun ac w hs => ⟨g17, hs⟩)
    ·exact fun L ac w ⟨g17, hs⟩ => pln (op_alloc hs (some 6) (some 7) (cs := (tab .u8 32 (fun _ => 0))) rfl rfl zeroValue30 (by kernel_rfl) rfl rfl fun g17 ac w hs => ⟨g17, hs⟩)
    ·exact fun L ac w ⟨g17, hs⟩ => pln (stoo hs 7 ((tab .u8 32 (by8 r16))) sizeOf30 rfl rfl rfl rfl rfl (by kernel_rfl) tab_length' (tab_one _ _ _) tab_leA wr_tab fun w hs => ⟨g17, hs⟩)
   intro ac w ⟨g17, hs⟩
   try dsimp only [cond_true] at hs
   have hb9 := btl_len 32 (by8 r16)
   refine then_n (wp_seq (wp_region_lit ?_))
   refine stp (op_bsO0 hs none none (size := 1) rfl rfl underlying25 inf_u8_5 rfl rfl fun ad19 ac w hs => ?_)
   replace hs := hs.arrCel none 5 (n0 := 32) (f := sK k) rfl (fun j hj => (fun j _ => sK_lt _ j) j (by omega)) (by decide) rfl
   replace hs := hs.selB [0, 1, 2, 3, 4, 6, 7] rfl (by decide)
   refine stp (op_val hs none (v := .slice (some ⟨g10, 0, none⟩) 32 32) rfl rfl (run_slA rfl (hs.ev rfl) underlying30 sizeOf5) fun ac hs => ?_)
   refine stp (op_appR hs none 1 2 (N' := (btl 32 (sK k)).length) (ys := bcs (btl 32 (sK k))) rfl rfl rfl rfl rfl rfl underlying25 inf_u8_5 rfl (by decide) (bcs_len1 rfl) (bcs_one _) (by decide) (show 0 + 32 ≤ 1000000 by omega) (Nat.zero_add _) rfl rfl rfl fun ad20 cp21 ac w hs => ?_)
   refine asg hs rfl rfl rfl fun ac hs => ?_
   refine wpList_nil (then_n (wp_seq (wp_region_lit ?_)))
   refine mvv hs rfl rfl rfl fun ac hs => ?_
   replace hs := hs.arrCel none 6 (n0 := 32) (f := by8 r16) rfl (fun j hj => by8_lt r16 j) (by decide) rfl
   replace hs := hs.selB [0, 1, 2, 3, 4, 5] rfl (by decide)
   refine stp (op_val hs none (v := .slice (some ⟨g17, 0, none⟩) 32 32) rfl rfl (run_slA rfl (hs.ev rfl) underlying30 sizeOf5) fun ac hs => ?_)
   refine stp (op_appR hs none 1 3 (N' := (btl 32 (sK k) ++ btl 32 (by8 r16)).length) (ys := bcs (btl 32 (sK k) ++ btl 32 (by8 r16))) rfl rfl rfl rfl rfl rfl underlying25 inf_u8_5 rfl (by decide) (bcs_len1 rfl) (bcs_one _) (by decide) (show (btl 32 (sK k)).length + 32 ≤ 1000000 by omega) (by simp only [List.length_append, List.length_cons, List.length_nil] <;> omega) (bcs_append _ _) rfl rfl fun ad22 cp23 ac w hs => ?_)
   refine asg hs rfl rfl rfl fun ac hs => ?_
   refine asg hs rfl rfl rfl fun ac hs => ?_
   refine wpList_nil (then_n (wp_ret ?_))
   replace hs := hs.freeze 1 rfl
   obtain ⟨hg1, hg2⟩ := sgB_yes (s := s) (k := k) l hz0 hz1
   have hz : sgS s k l = r16 := by unfold sgS; rw [he13, hd3, hd7, hr15, hr16]
   rw [show btl 32 (sK k) ++ btl 32 (by8 r16) = b from (by rw [← hb, hg1, hz])] at hs
   exact bodyPost_ret (res2 rfl (rv_t hs rfl) (rv_t hs rfl)) hs.defers ⟨⟨ad22, cp23⟩, by rw [← he, hg2]; rfl, hs.bel rfl, hs.ret1 1 rfl⟩
  ·skip
   replace hs := hs.re (fs' := [(2, true, .slice ad l.length c), (4, true, ptA g2 0), (6, true, .slice none 0 0), (7, true, .int .i64 0), (8, true, ptA g5 0), (9, true, ptA g6 0), (10, true, .bool true), (24, true, W k), (25, true, .tuple #[W d7, At .u8 32 (sK k), .bool (decide (er8 = 0))]), (23, true, .tuple #[W d7, At .u8 32 (sK k), .bool (decide (er8 = 0))]), (26, true, W d7), (27, true, At .u8 32 (sK k)), (28, true, .bool (decide (er8 = 0))), (11, true, ptA g9 0), (12, true, ptA g10 0), (13, true, .bool false)]) ⟨rfl, rfl, rfl, rfl, rfl, rfl, rfl, rfl, rfl, rfl, rfl, rfl, rfl, rfl, rfl, congrArg some (congrArg Value.bool (decide_eq_false hq12)), trivial⟩
   have hn1 : sE k ≠ 0 := by rw [her8]; exact hq12
   replace hs := hs.nf w0 Z noX [2, 6, 7, 8, 9, 10, 11, 12, 13] rfl rfl rfl rfl
   refine wp_region_lit ?_
   refine mvv hs rfl rfl rfl fun ac hs => ?_
   refine stp (op_un hs none (v := .bool false) rfl rfl rfl (fun _ => rfl) rfl fun ac hs => ?_)
   refine mvv hs rfl rfl rfl fun ac hs => ?_
   refine lstep (wpO_in hs rfl rfl rfl (op_move hs none rfl rfl rfl rfl fun ac hs => ?_))
   refine lstep (wpO_in hs rfl rfl rfl (op_un hs none (v := .bool true) rfl rfl rfl (fun _ => rfl) rfl fun ac hs => ?_))
   refine stp (op_pickF hs none rfl rfl rfl rfl rfl fun ac hs => ?_)
   refine wpList_nil (then_n ?_)
   refine wp_cond_true (hs.ev rfl) ?_
   refine wp_seq ?_
   replace hs := hs.nf w0 Z noX [2, 6, 7, 8, 9, 11, 12] rfl rfl rfl rfl
   refine wp_region_lit ?_
   refine asg hs rfl rfl rfl fun ac hs => ?_
   refine asg hs rfl rfl rfl fun ac hs => ?_
   refine wpList_nil (then_n (wp_ret (then_r ?_)))
   exact bodyPost_ret (res2 rfl (rv_t hs rfl) (rv_t hs rfl)) hs.defers ⟨⟨none, 0⟩, by obtain ⟨h1, h2⟩ := sgB_no l (fun h => hn1 h.2); rw [← hb, ← he, h1, h2]; first | done | rfl, hs.bel rfl, by obtain ⟨h1, _⟩ := sgB_no l (fun h => hn1 h.2); rw [← hb, h1]; exact okl1 celv_nil⟩
 ·skip
  replace hs := hs.re (fs' := [(2, true, .slice ad l.length c), (4, true, ptA g2 0), (6, true, .slice none 0 0), (7, true, .int .i64 0), (8, true, ptA g5 0), (9, true, ptA g6 0), (10, true, .bool false), (24, true, W k), (25, true, .tuple #[W d7, At .u8 32 (sK k), .bool (decide (er8 = 0))]), (23, true, .tuple #[W d7, At .u8 32 (sK k), .bool (decide (er8 = 0))]), (26, true, W d7), (27, true, At .u8 32 (sK k)), (28, true, .bool (decide (er8 = 0))), (11, true, ptA g9 0), (12, true, ptA g10 0), (13, true, .bool (decide (er8 = 0)))]) ⟨rfl, rfl, rfl, rfl, rfl, rfl, congrArg some (congrArg Value.bool (decide_eq_false hq11)), rfl, rfl, rfl, rfl, rfl, rfl, rfl, rfl, rfl, trivial⟩
  have hn0 : sE s ≠ 0 := by rw [her4]; exact hq11
  replace hs := hs.nf w0 Z noX [2, 6, 7, 8, 9, 10, 11, 12, 13] rfl rfl rfl rfl
  refine wp_region_lit ?_
  refine mvv hs rfl rfl rfl fun ac hs => ?_
  refine stp (op_un hs none (v := .bool true) rfl rfl rfl (fun _ => rfl) rfl fun ac hs => ?_)
  refine mvv hs rfl rfl rfl fun ac hs => ?_
  refine lstep (wpO_out hs none rfl rfl (.inl rfl) rfl rfl fun ac hs => ?_)
  refine lstep (wpO_out hs none rfl rfl (.inl rfl) rfl rfl fun ac hs => ?_)
  refine stp (op_pickT hs none rfl rfl rfl rfl rfl fun ac hs => ?_)
  refine wpList_nil (then_n ?_)
  refine wp_cond_true (hs.ev rfl) ?_
  refine wp_seq (wp_region_lit ?_)
  refine asg hs rfl rfl rfl fun ac hs => ?_
  refine asg hs rfl rfl rfl fun ac hs => ?_
  refine wpList_nil (then_n (wp_ret (then_r ?_)))
  exact bodyPost_ret (res2 rfl (rv_t hs rfl) (rv_t hs rfl)) hs.defers ⟨⟨none, 0⟩, by obtain ⟨h1, h2⟩ := sgB_no l (fun h => hn0 h.1); rw [← hb, ← he, h1, h2]; first | done | rfl, hs.bel rfl, by obtain ⟨h1, _⟩ := sgB_no l (fun h => hn0 h.1); rw [← hb, h1]; exact okl1 celv_nil⟩
end Go.Proofs.YtejbajgpiecjcaaGreat

/- The laws of schnorr. -/
namespace Go.Proofs.YtejbajgpiecjcaaGreat
open Go.RowKit _root_.Go.Proofs.Tryz
set_option maxRecDepth 10000
set_option maxHeartbeats 1000000
theorem alive_c  (w0 : World) : Calls prog 6 #[] w0 fun e w' => e = .returned (.bool true) ∧ Below w0.heap.size w0 w' := by
 refine enter (n := 27) (args := []) func6 rfl rfl (Nat.le_of_ble_eq_true rfl) fun ac hs => ?_
 refine wp_seq (wp_region_lit ?_)
 refine asg hs rfl rfl rfl fun ac hs => ?_
 refine wpList_nil (then_n (wp_seq (wp_region_lit ?_)))
 refine stp (op_build hs none (qs := [(0, .int .u64 1)]) (v := .agg #[.int .u64 1, .int .u64 0, .int .u64 0, .int .u64 0]) rfl rfl rfl rfl (fun _ => by kernel_rfl) rfl fun ac hs => ?_)
 refine stp (op_call (F := 9) hs none (v := .tuple #[At .u8 32 (sK 1), .int .i64 0]) rfl rfl rfl rfl (call9 _) (key_c 1 0 (by decide) (by decide)) rfl fun ac w hs => ?_)
 refine mvv hs rfl rfl rfl fun ac hs => ?_
 refine stp (xtr hs none rfl rfl rfl rfl rfl fun ac hs => ?_)
 refine stp (xtr hs none rfl rfl rfl rfl rfl fun ac hs => ?_)
 refine stp (op_alloc hs none none (cs := (tab .u8 32 (fun _ => 0))) rfl rfl zeroValue30 (by kernel_rfl) rfl rfl fun g1 ac w hs => ?_)
 refine stp (stoo hs 0 ((tab .u8 32 (sK 1))) sizeOf30 rfl rfl rfl rfl rfl (by kernel_rfl) tab_length' (tab_one _ _ _) tab_leA wr_tab fun w hs => ?_)
 refine asg hs rfl rfl rfl fun ac hs => ?_
 refine wpList_nil (then_n (wp_seq ?_))
 replace hs := hs.n0 [0, 1, 2] rfl rfl
 refine wp_region_lit ?_
 refine stp (op_build hs none (qs := []) (v := .agg #[.int .u64 0, .int .u64 0, .int .u64 0, .int .u64 0]) rfl rfl rfl rfl (fun _ => by kernel_rfl) rfl fun ac hs => ?_)
 refine stp (op_call (F := 9) hs none (v := .tuple #[At .u8 32 (sK 0), .int .i64 1]) rfl rfl rfl rfl (call9 _) (key_c 0 1 (by decide) (by decide)) rfl fun ac w hs => ?_)
 refine mvv hs rfl rfl rfl fun ac hs => ?_
 refine stp (xtr hs none rfl rfl rfl rfl rfl fun ac hs => ?_)
 refine stp (xtr hs none rfl rfl rfl rfl rfl fun ac hs => ?_)
 refine stp (op_alloc hs none none (cs := (tab .u8 32 (fun _ => 0))) rfl rfl zeroValue30 (by kernel_rfl) rfl rfl fun g2 ac w hs => ?_)
 refine stp (stoo hs 1 ((tab .u8 32 (sK 0))) sizeOf30 rfl rfl rfl rfl rfl (by kernel_rfl) tab_length' (tab_one _ _ _) tab_leA wr_tab fun w hs => ?_)
 refine asg hs rfl rfl rfl fun ac hs => ?_
 refine wpList_nil (then_n (wp_seq ?_))
 replace hs := hs.n0 [0, 1, 2, 4] rfl rfl
 refine region_inv [([], rgn 1 12), ([0], rgn 2 11), ([0, 1], rgn 3 10), ([0, 1, 2], rgn 4 9), (rgn 0 4, rgn 5 8), (rgn 0 5, rgn 6 7), (rgn 0 6, rgn 7 6), (rgn 0 7, [10, 11, 12]), (rgn 0 7, rgn 9 4), ([0, 1, 2, 3, 4, 5, 6, 8], [10, 11, 12]), (rgn 0 10, [11, 12]), (rgn 0 11, [12]), (rgn 0 12, [])] (fun L ac w => St 27 w0 [(15, L 0, .int .i64 0), (16, L 1, .bool true), (17, L 2, .bool true), (18, L 3, .int .i64 1), (19, L 4, .bool true), (20, L 5, .bool true), (21, L 6, .bool true), (22, L 7, At .u8 32 (sK 1)), (23, L 8, PV (px Gp) (py Gp) (pz Gp)), (24, L 9, At .u8 32 (by8 (px Gp))), (25, L 10, .bool true), (26, L 11, .bool true), (0, L 12, .bool true), (0, true, .bool false), (1, true, ptA g1 0), (2, true, .int .i64 0), (4, true, .int .i64 1)] [(true, g1, 30, (tab .u8 32 (sK 1))), (true, g2, 30, (tab .u8 32 (sK 0)))] ac w) (by kernel_rfl) (by kernel_rfl) ?_ ?_ ?_
 ·exact hs.drew.skip.skip.skip.skip.skip.skip.skip.skip.skip.skip.skip.skip.skip
 ·refine ⟨?_, ?_, ?_, ?_, ?_, ?_, ?_, ?_, ?_, ?_, ?_, ?_, ?_, trivial⟩
  ·exact fun L ac w hs => pln (omv hs 0 rfl rfl rfl fun ac hs => hs)
  ·exact fun L ac w hs => pln (obn hs 1 (.bool true) rfl rfl rfl rfl (fun _ => by kernel_rfl) fun ac hs => hs)
  ·exact fun L ac w hs => pln (omv hs 2 rfl rfl rfl fun ac hs => hs)
  ·exact fun L ac w hs => wpO_in hs rfl rfl rfl (omv hs 3 rfl rfl rfl fun ac hs => hs)
  ·exact fun L ac w hs => wpO_in hs rfl rfl rfl (obn hs 4 (.bool true) rfl rfl rfl rfl (fun _ => by kernel_rfl) fun ac hs => hs)
  ·exact fun L ac w hs => pln (op_pickT hs (some 5) rfl rfl rfl rfl rfl fun ac hs => hs)
  ·exact fun L ac w hs => pln (omv hs 6 rfl rfl rfl fun ac hs => hs)
  ·exact fun L ac w hs => wpO_in hs rfl rfl rfl (oldd hs 7 0 (At .u8 32 (sK 1)) isAgg30 sizeOf30 rfl rfl rfl rfl ldv_tab fun ac hs => hs)
  ·exact fun L ac w hs => wpO_in hs rfl rfl rfl (op_call (F := 18) hs (some 8) (v := PV (px Gp) (py Gp) (pz Gp)) rfl rfl rfl rfl (call18 _) base_c rfl fun ac w hs => hs)
  ·exact fun L ac w hs => wpO_in hs rfl rfl rfl (op_call (F := 17) hs (some 9) (v := At .u8 32 (by8 (px Gp))) rfl rfl rfl rfl (call17 _) (pbytes_c (px Gp) (py Gp) (pz Gp) Gp (px_lt Gp) (py_lt Gp) (pt_back Gp_on)) rfl fun ac w hs => hs)
  ·exact fun L ac w hs => wpO_in hs rfl rfl rfl (op_bin hs (some 10) (v := .bool true) rfl rfl rfl rfl (fun w => run_eqGuard_agg w .eql 30 _ _ _ _ Tryz.eqGuardType30) (eqlAt underlying30 underlying5 inf_u8_5 (by kernel_rfl) isAgg5 (fun j _ => by rw [sK_one])) rfl fun ac hs => hs)
  ·exact fun L ac w hs => pln (op_pickT hs (some 11) rfl rfl rfl rfl rfl fun ac hs => hs)
  ·exact fun L ac w hs => pln (oas hs 12 rfl rfl rfl fun ac hs => hs)
 intro ac w hs
 try dsimp only [cond_true] at hs
 refine then_n (wp_ret ?_)
 exact bodyPost_ret (res1 rfl (rv_t hs rfl)) hs.defers ⟨rfl, (hs.bel rfl)⟩
theorem sign_law (s k : Nat) (ad : Option Addr) (c : Nat) (l : List UInt8) (hs0 : s < 2 ^ 256) (hk0 : k < 2 ^ 256) (w0 : World) (Z : Nat → Prop) (hl : ByV w0 Z (.slice ad l.length c) l): Calls prog 3 #[W s, W k, .slice ad l.length c] w0 fun e w' => Ret w0 Z (ρ := Unit) (fun r => .bool true) (fun r => []) e w' := by
 refine enterS (n := 66) (args := [W s, W k, .slice ad l.length c]) (S := [(true, .cel (.slice ad l.length c) l.length (bcs l))]) (Z := Z) func3 rfl rfl (Nat.le_of_ble_eq_true rfl) (sokC hl sok0) rfl fun ac hs => ?_
 refine wp_seq (wp_region_lit ?_)
 refine stp (op_box hs none none (cs := (Wl s)) rfl rfl rfl rfl rfl rfl fun g1 ac w hs => ?_)
 refine stp (op_box hs none none (cs := (Wl k)) rfl rfl rfl rfl rfl rfl fun g2 ac w hs => ?_)
 refine asg hs rfl rfl rfl fun ac hs => ?_
 refine wpList_nil (then_n (wp_seq (wp_seq (wp_region_lit ?_))))
 refine mvv hs rfl rfl rfl fun ac hs => ?_
 refine stp (op_blt hs none (v := ni64 (l.length)) rfl rfl rfl (blt_len underlying25) rfl fun ac hs => ?_)
 refine bnn hs (.bool (decide (200 < l.length))) rfl rfl rfl rfl (bin_gtrN (y := 200)) fun ac hs => ?_
 refine wpList_nil (then_n ?_)
 refine wp_cond_split (hs.ev rfl) (fun hc => ?_) (fun hc => ?_)
 ·skip
  have hp3 := of_decide_eq_true hc
  refine wp_seq ?_
  replace hs := hs.nf w0 Z noX [2, 3, 4, 6] rfl rfl rfl rfl
  refine wp_region_lit ?_
  refine stp (op_call (F := 6) hs none (v := .bool true) rfl rfl rfl rfl (call6 _) alive_c rfl fun ac w hs => ?_)
  refine asg hs rfl rfl rfl fun ac hs => ?_
  refine wpList_nil (then_n (wp_ret (then_r ?_)))
  exact bodyPost_ret (res1 rfl (rv_t hs rfl)) hs.defers ⟨(), rfl, hs.bel rfl, okl0⟩
 ·skip
  have hp4 := of_decide_eq_false hc
  refine wp_skip (then_n (wp_seq ?_))
  replace hs := hs.nf w0 Z noX [2, 3, 4, 6] rfl rfl rfl rfl
  refine wp_region_lit ?_
  refine ldd hs 0 (W s) isAgg24 sizeOf24 rfl rfl rfl rfl rfl fun ac hs => ?_
  refine ldd hs 1 (W k) isAgg24 sizeOf24 rfl rfl rfl rfl rfl fun ac hs => ?_
  refine mvv hs rfl rfl rfl fun ac hs => ?_
  obtain ⟨b5, hb5⟩ : ∃ z0, sgB s k l = z0 := ⟨_, rfl⟩
  obtain ⟨er6, her6⟩ : ∃ z0, sgE s k = z0 := ⟨_, rfl⟩
  have lb5 := sgB_len s k l
  rw [hb5] at lb5
  refine stp (op_callS (F := 7) (ρ := Option Addr × Nat) hs none none (v := fun r => .tuple #[.slice r.1 b5.length r.2, ni64 er6]) (E := fun r => [.cel (.slice r.1 b5.length r.2) b5.length (bcs b5)]) (j := 1) rfl rfl rfl rfl (call7 _) (fun hs => sign_c s k ad l.length c l b5 er6 hs0 hk0 (show l.length ≤ 1000 by omega) hb5 her6 _ _ (hs.all (k := 0) rfl rfl)) (fun _ => rfl) rfl rfl fun ⟨ad7, cp8⟩ ac w hs => ?_)
  refine mvv hs rfl rfl rfl fun ac hs => ?_
  refine stp (xtr hs none rfl rfl rfl rfl rfl fun ac hs => ?_)
  refine stp (xtr hs none rfl rfl rfl rfl rfl fun ac hs => ?_)
  refine asg hs rfl rfl rfl fun ac hs => ?_
  refine asg hs rfl rfl rfl fun ac hs => ?_
  refine wpList_nil (then_n (wp_seq ?_))
  replace hs := hs.nf w0 Z noX [2, 3, 4, 6, 7, 8] rfl rfl rfl rfl
  refine wp_region_lit ?_
  refine ldd hs 0 (W s) isAgg24 sizeOf24 rfl rfl rfl rfl rfl fun ac hs => ?_
  refine ldd hs 1 (W k) isAgg24 sizeOf24 rfl rfl rfl rfl rfl fun ac hs => ?_
  refine mvv hs rfl rfl rfl fun ac hs => ?_
  refine stp (op_callS (F := 8) (ρ := Option Addr × Nat) hs none none (v := fun r => .tuple #[.slice r.1 b5.length r.2, ni64 er6]) (E := fun r => [.cel (.slice r.1 b5.length r.2) b5.length (bcs b5)]) (j := 1) rfl rfl rfl rfl (call8 _) (fun hs => rsign_c s k ad l.length c l b5 er6 hs0 hk0 (show l.length ≤ 1000 by omega) hb5 her6 _ _ (hs.all (k := 0) rfl rfl)) (fun _ => rfl) rfl rfl fun ⟨ad9, cp10⟩ ac w hs => ?_)
  refine mvv hs rfl rfl rfl fun ac hs => ?_
  refine stp (xtr hs none rfl rfl rfl rfl rfl fun ac hs => ?_)
  refine stp (xtr hs none rfl rfl rfl rfl rfl fun ac hs => ?_)
  refine asg hs rfl rfl rfl fun ac hs => ?_
  refine asg hs rfl rfl rfl fun ac hs => ?_
  refine wpList_nil (then_n (wp_seq ?_))
  replace hs := hs.nf w0 Z noX [3, 6, 7, 8, 9, 10] rfl rfl rfl rfl
  refine wp_region_lit ?_
  refine ldd hs 0 (W s) isAgg24 sizeOf24 rfl rfl rfl rfl rfl fun ac hs => ?_
  obtain ⟨er11, her11⟩ : ∃ z0, sE s = z0 := ⟨_, rfl⟩
  have ler11 := sE_le s
  rw [her11] at ler11
  refine stp (op_call (F := 9) hs none (v := .tuple #[At .u8 32 (sK s), ni64 er11]) rfl rfl rfl rfl (call9 _) (key_c s er11 hs0 her11) rfl fun ac w hs => ?_)
  refine mvv hs rfl rfl rfl fun ac hs => ?_
  refine stp (xtr hs none rfl rfl rfl rfl rfl fun ac hs => ?_)
  refine stp (xtr hs none rfl rfl rfl rfl rfl fun ac hs => ?_)
  refine stp (op_alloc hs none none (cs := (tab .u8 32 (fun _ => 0))) rfl rfl zeroValue30 (by kernel_rfl) rfl rfl fun g12 ac w hs => ?_)
  refine stp (stoo hs 2 ((tab .u8 32 (sK s))) sizeOf30 rfl rfl rfl rfl rfl (by kernel_rfl) tab_length' (tab_one _ _ _) tab_leA wr_tab fun w hs => ?_)
  refine asg hs rfl rfl rfl fun ac hs => ?_
  refine wpList_nil (then_n (wp_seq ?_))
  replace hs := hs.nf w0 Z noX [3, 6, 7, 8, 9, 10, 11, 12] rfl rfl rfl rfl
  refine wp_region_lit ?_
  refine ldd hs 0 (W s) isAgg24 sizeOf24 rfl rfl rfl rfl rfl fun ac hs => ?_
  refine stp (op_call (F := 10) hs none (v := .tuple #[At .u8 32 (sK s), ni64 er11]) rfl rfl rfl rfl (call10 _) (rkey_c s er11 hs0 her11) rfl fun ac w hs => ?_)
  refine mvv hs rfl rfl rfl fun ac hs => ?_
  refine stp (xtr hs none rfl rfl rfl rfl rfl fun ac hs => ?_)
  refine stp (xtr hs none rfl rfl rfl rfl rfl fun ac hs => ?_)
  refine stp (op_alloc hs none none (cs := (tab .u8 32 (fun _ => 0))) rfl rfl zeroValue30 (by kernel_rfl) rfl rfl fun g13 ac w hs => ?_)
  refine stp (stoo hs 3 ((tab .u8 32 (sK s))) sizeOf30 rfl rfl rfl rfl rfl (by kernel_rfl) tab_length' (tab_one _ _ _) tab_leA wr_tab fun w hs => ?_)
  refine asg hs rfl rfl rfl fun ac hs => ?_
  refine wpList_nil (then_n (wp_seq ?_))
  replace hs := hs.nf w0 Z noX [6, 7, 8, 9, 10, 11, 12, 13, 14] rfl rfl rfl rfl
  refine wp_region_lit ?_
  refine stp (op_call (F := 6) hs none (v := .bool true) rfl rfl rfl rfl (call6 _) alive_c rfl fun ac w hs => ?_)
  refine mvv hs rfl rfl rfl fun ac hs => ?_
  refine lstep (wpO_in hs rfl rfl rfl (op_move hs none rfl rfl rfl rfl fun ac hs => ?_))
  refine lstep (wpO_in hs rfl rfl rfl (op_convBS hs none 1 rfl rfl rfl rfl rfl underlying25 underlying5 underlying9 rfl fun ac hs => ?_))
  refine lstep (wpO_in hs rfl rfl rfl (op_move hs none rfl rfl rfl rfl fun ac hs => ?_))
  refine lstep (wpO_in hs rfl rfl rfl (op_convBS hs none 2 rfl rfl rfl rfl rfl underlying25 underlying5 underlying9 rfl fun ac hs => ?_))
  refine lstep (wpO_in hs rfl rfl rfl (op_bin hs none (v := .bool true) rfl rfl rfl rfl (fun _ => rfl) (bin_eqlT (decide_eq_true rfl)) rfl fun ac hs => ?_))
  refine stp (op_pickT hs none rfl rfl rfl rfl rfl fun ac hs => ?_)
  refine mvv hs rfl rfl rfl fun ac hs => ?_
  refine lstep (wpO_in hs rfl rfl rfl (op_move hs none rfl rfl rfl rfl fun ac hs => ?_))
  refine lstep (wpO_in hs rfl rfl rfl (op_move hs none rfl rfl rfl rfl fun ac hs => ?_))
  refine lstep (wpO_in hs rfl rfl rfl (op_bin hs none (v := .bool true) rfl rfl rfl rfl (fun _ => rfl) (fun w => dT rfl (bin_eqlN (x := er6) (y := er6) w)) rfl fun ac hs => ?_))
  refine stp (op_pickT hs none rfl rfl rfl rfl rfl fun ac hs => ?_)
  refine mvv hs rfl rfl rfl fun ac hs => ?_
  refine lstep (wpO_in hs rfl rfl rfl (op_load hs none 2 (v := At .u8 32 (sK s)) rfl rfl rfl rfl isAgg30 sizeOf30 ldv_tab rfl fun ac hs => ?_))
  refine lstep (wpO_in hs rfl rfl rfl (op_load hs none 3 (v := At .u8 32 (sK s)) rfl rfl rfl rfl isAgg30 sizeOf30 ldv_tab rfl fun ac hs => ?_))
  refine lstep (wpO_in hs rfl rfl rfl (op_bin hs none (v := .bool true) rfl rfl rfl rfl (fun w => run_eqGuard_agg w .eql 30 _ _ _ _ Tryz.eqGuardType30) (eqlAt underlying30 underlying5 inf_u8_5 (by kernel_rfl) isAgg5 (fun _ _ => rfl)) rfl fun ac hs => ?_))
  refine stp (op_pickT hs none rfl rfl rfl rfl rfl fun ac hs => ?_)
  refine mvv hs rfl rfl rfl fun ac hs => ?_
  refine lstep (wpO_in hs rfl rfl rfl (op_move hs none rfl rfl rfl rfl fun ac hs => ?_))
  refine lstep (wpO_in hs rfl rfl rfl (op_move hs none rfl rfl rfl rfl fun ac hs => ?_))
  refine lstep (wpO_in hs rfl rfl rfl (op_bin hs none (v := .bool true) rfl rfl rfl rfl (fun _ => rfl) (fun w => dT rfl (bin_eqlN (x := er11) (y := er11) w)) rfl fun ac hs => ?_))
  refine stp (op_pickT hs none rfl rfl rfl rfl rfl fun ac hs => ?_)
  refine asg hs rfl rfl rfl fun ac hs => ?_
  refine wpList_nil (then_n (wp_ret ?_))
  exact bodyPost_ret (res1 rfl (rv_t hs rfl)) hs.defers ⟨(), rfl, hs.bel rfl, okl0⟩
end Go.Proofs.YtejbajgpiecjcaaGreat

/- Arguments opened, and read again behind a call that writes nothing that was there: lemmas of whatever program. -/
namespace Go.Proofs.YtejbajgpiecjcaaGreat
open Go.ChangeShapes Go.WideShapes Go.ChangeAt Go.RowKit
section
variable {H : Type} {enc : TypeId × Value → H} {P : Program}
theorem trodAll_below (hl : laidOutB P = true) {W W' : World} (hb : Below W.heap.size W W') : ∀ (ts : List TypeId) (vs : List Value) (ds : List (DataW H)) (ps : List MemPlace),
    ts.all (fun t => P.readableRec t && decide (t < P.types.size)) = true → DataW.TrodAll enc P W 0 (fun _ => true) true ts vs ds ps → DataW.TrodAll enc P W' 0 (fun b => decide (b < W.heap.size)) true ts vs ds ps := by
  intro ts
  induction ts with
  | nil =>
    intro vs ds ps _ h
    obtain ⟨rfl, rfl, rfl⟩ := trodAll_nil h
    exact trodAll_mk0
  | cons t ts ih =>
    intro vs ds ps hts h
    obtain ⟨v, vs0, d, ds0, p, q, rfl, rfl, rfl, h0, r0⟩ := trodAll_cons h
    simp only [List.all_cons, Bool.and_eq_true, decide_eq_true_eq] at hts
    obtain ⟨⟨hr, ht⟩, hts⟩ := hts
    have lt0 : ∀ x ∈ p, x.block < W.heap.size := by obtain ⟨m, hm⟩ := h0; exact DataW.trod_lt m _ _ _ hm
    exact trodAll_cons_mk (Below.trod hl hr ht h0 hb lt0) (ih _ _ _ hts r0)
end
def RdN (w : World) (a : Option Addr) (l : List UInt8) : Prop :=
  l.length ≠ 0 → ∃ b off, a = some ⟨b, off, none⟩ ∧ ∀ k, k < l.length → w.cell? ⟨b, off + k, none⟩ = some (.int .u8 ((l.getD k 0).toNat : Int))
end Go.Proofs.YtejbajgpiecjcaaGreat

/- Arguments that are arrays of integers, opened: numbers of 256 bits, 32 bytes. -/
set_option maxRecDepth 100000
namespace Go.Proofs.YtejbajgpiecjcaaGreat
open Go.ChangeShapes Go.WideShapes Go.ChangeAt Go.RowKit Go.WideMaps
section
variable {H : Type} {enc : TypeId × Value → H} {P : Program} {k e : TypeId} {n : Nat} {q : IntKind} {W : World} {base : Nat} {sp : Nat → Bool} {held : Bool}
theorem open_ints_arr (A : ArrKey P k e n) (he : P.underlying e = some (.int q)) {v : Value} {d : DataW H} {ps : List MemPlace} (hval : Value.okWide P W .any 0 k v) (hd : DataW.Trod enc P W base sp held k v d ps) :
    ∃ xs : Array Value, v = .agg xs ∧ xs.size = n ∧ ∀ i, i < n → ∃ z, xs[i]? = some (.int q z) ∧ (Lit.int q z).wf = true := by
  obtain ⟨xs, rfl, hn⟩ := okWide_arr A hval
  refine ⟨xs, rfl, hn, fun i hi => ?_⟩
  obtain ⟨fuel, hf⟩ := hd
  cases fuel with
  | zero => simp [DataW.trod] at hf
  | succ m =>
    rw [DataW.trod_step] at hf
    unfold DataW.trodStep at hf
    simp only [A.hu, Value.cells] at hf
    rw [if_pos (by rw [A.size]; simpa using hn)] at hf
    simp only [Option.map_eq_some_iff] at hf
    obtain ⟨ys, hy, _⟩ := hf
    obtain ⟨y, hy⟩ := mapM_each hy i (by simpa using hi)
    obtain ⟨z, hz, _, hw⟩ := DataW.trod_int he hy
    rw [A.one, Nat.mul_one] at hz
    refine ⟨z, ?_, hw⟩
    have := congrArg (·[0]?) hz
    simpa [List.getElem?_take] using this
end
theorem wide_key : ArrKey Tryz.prog 24 22 4 := ⟨Tryz.underlying24, by kernel_rfl, by kernel_rfl, by kernel_rfl⟩
theorem lim_sum (a b c d : Nat) (ha : a < 2 ^ 64) (hb : b < 2 ^ 64) (hc : c < 2 ^ 64) (hd : d < 2 ^ 64) :
    lim (a + 2 ^ 64 * b + 2 ^ 128 * c + 2 ^ 192 * d) 0 = a ∧ lim (a + 2 ^ 64 * b + 2 ^ 128 * c + 2 ^ 192 * d) 1 = b ∧ lim (a + 2 ^ 64 * b + 2 ^ 128 * c + 2 ^ 192 * d) 2 = c ∧ lim (a + 2 ^ 64 * b + 2 ^ 128 * c + 2 ^ 192 * d) 3 = d := by
  unfold lim
  refine ⟨?_, ?_, ?_, ?_⟩ <;> exact congrArg Int.ofNat (by omega)
theorem open_wide {H : Type} {enc : TypeId × Value → H} {w : World} {base : Nat} {sp : Nat → Bool} {held : Bool} {v : Value} {d : DataW H} {ps : List MemPlace} (hval : Value.okWide Tryz.prog w .any 0 24 v) (hd : DataW.Trod enc Tryz.prog w base sp held 24 v d ps) :
    ∃ n, v = W n ∧ n < 2 ^ 256 := by
  obtain ⟨xs, rfl, hn, hx⟩ := open_ints_arr wide_key (q := .u64) Tryz.underlying22 hval hd
  obtain ⟨z0, e0, b0⟩ := hx 0 (by omega)
  obtain ⟨z1, e1, b1⟩ := hx 1 (by omega)
  obtain ⟨z2, e2, b2⟩ := hx 2 (by omega)
  obtain ⟨z3, e3, b3⟩ := hx 3 (by omega)
  have c0 := bounds_u64 b0
  have c1 := bounds_u64 b1
  have c2 := bounds_u64 b2
  have c3 := bounds_u64 b3
  obtain ⟨y0, rfl⟩ := Int.eq_ofNat_of_zero_le c0.1
  obtain ⟨y1, rfl⟩ := Int.eq_ofNat_of_zero_le c1.1
  obtain ⟨y2, rfl⟩ := Int.eq_ofNat_of_zero_le c2.1
  obtain ⟨y3, rfl⟩ := Int.eq_ofNat_of_zero_le c3.1
  obtain ⟨s0, s1, s2, s3⟩ := lim_sum y0 y1 y2 y3 (by omega) (by omega) (by omega) (by omega)
  refine ⟨y0 + 2 ^ 64 * y1 + 2 ^ 128 * y2 + 2 ^ 192 * y3, ?_, by omega⟩
  unfold W
  rw [s0, s1, s2, s3]
  congr 1
  apply Array.ext_getElem?
  intro i
  match i with
  | 0 => simpa using e0
  | 1 => simpa using e1
  | 2 => simpa using e2
  | 3 => simpa using e3
  | i + 4 => rw [Array.getElem?_eq_none (by omega), Array.getElem?_eq_none (by simp)]
end Go.Proofs.YtejbajgpiecjcaaGreat

/- Arguments that lie in memory, opened as entries: byte strings, rows. -/
namespace Go.Proofs.YtejbajgpiecjcaaGreat
open Go.ChangeShapes Go.WideShapes Go.ChangeAt Go.RowKit
section
variable {H : Type} {enc : TypeId × Value → H} {P : Program} {w : World} {base : Nat} {sp : Nat → Bool} {held : Bool}
theorem trod_bytes {t e : TypeId} {m : Nat} {cs : List Value} {x : DataW H × List MemPlace} (ht : P.underlying t = some (.slice e)) (he : P.underlying e = some (.int .u8)) (hc : P.cellsOf e = 1)
    (h : DataW.trod enc P w base sp held m t cs = some x) : ∃ a c l, cs = [.slice a l.length c] ∧ ByV w (fun _ => True) (.slice a l.length c) l := by
  rcases open_ints ht he hc h with ⟨rfl, _⟩ | ⟨x, len, c, zs, rfl, _, hl, hm, hz, _, hcell, hwz⟩
  · exact ⟨none, 0, [], rfl, celv_nil⟩
  · have hzl : len ≤ zs.length := by rw [hz]; split <;> omega
    have hlen : ((zs.take len).map fun z => UInt8.ofNat z.toNat).length = len := by simp; omega
    refine ⟨some x, c, (zs.take len).map fun z => UInt8.ofNat z.toNat, by rw [hlen], ⟨some x, c, by rw [hlen], by rw [hlen]; exact hl, hm, (fun h => by cases h), fun j u hu => ?_⟩⟩
    have hj : j < len := by
      have := (List.getElem?_eq_some_iff.1 hu).1
      rw [bcs_length, hlen] at this; exact this
    obtain ⟨b, off, rfl, hcc⟩ := ints_at hcell (by omega)
    refine ⟨b, off, rfl, trivial, ?_⟩
    have hjz : j < zs.length := by omega
    rw [hcc j hjz]
    have hb := bounds_u8 (hwz _ (List.getElem_mem hjz))
    rw [bcs_get (by rw [hlen]; exact hj)] at hu
    have e1 : ((byt ((zs.take len).map fun z => UInt8.ofNat z.toNat) j : Nat) : Int) = zs[j] := by
      unfold byt
      rw [List.getD_eq_getElem?_getD, List.getElem?_map, List.getElem?_take_of_lt hj, List.getElem?_eq_getElem hjz]
      simp
      omega
    rw [e1] at hu
    rw [← hu]
    simp [List.getD, hjz]
theorem open_by {t e : TypeId} {v : Value} {d : DataW H} {p : List MemPlace} (ht : P.underlying t = some (.slice e)) (he : P.underlying e = some (.int .u8)) (hc : P.cellsOf e = 1)
    (hv : Value.okWide P w .any 0 t v) (h : DataW.Trod enc P w base sp held t v d p) : ∃ a c l, v = .slice a l.length c ∧ ByV w (fun _ => True) (.slice a l.length c) l := by
  obtain ⟨a, len, cap, rfl⟩ := okWide_slice ht hv
  obtain ⟨fuel, hf⟩ := h
  obtain ⟨a', c, l, h1, h2⟩ := trod_bytes ht he hc hf
  simp [Value.cells] at h1
  obtain ⟨rfl, rfl, rfl⟩ := h1
  exact ⟨_, _, _, rfl, h2⟩
end
end Go.Proofs.YtejbajgpiecjcaaGreat
