/- Several texts in one, what this law needs of them: Sha1, Sha2, Ref13, Ref06, SchA, SchB. -/
import Derived.Test.YtejbajgpiecjcaaGreatSA3

/- SHA-256: the program's, the document's. -/
namespace Go.Proofs.YtejbajgpiecjcaaGreat
open Go.RowKit _root_.Go.Proofs.Tryz
set_option maxRecDepth 10000
set_option maxHeartbeats 1000000
theorem inf_u8_5 : Inf prog 5 (.int .u8 0) 1 1 := inf_of (by kernel_rfl)
theorem inf_u64_22 : Inf prog 22 (.int .u64 0) 1 8 := inf_of (by kernel_rfl)
theorem inf_u32_109 : Inf prog 109 (.int .u32 0) 1 4 := inf_of (by kernel_rfl)
theorem rot_c (x n r : Nat) (hx : x < 4294967296) (hn : 0 < n) (hn2 : n < 32) (hr : rr x n = r) (w0 : World) : Calls prog 141 #[nu32 x, .int .i64 (-(n : Int))] w0 fun e w' => e = .returned (nu32 r) ∧ Below w0.heap.size w0 w' := by
 refine enter (n := 17) (args := [nu32 x, .int .i64 (-(n : Int))]) func141 rfl rfl (Nat.le_of_ble_eq_true rfl) fun ac hs => ?_
 refine wp_seq (wp_region_lit ?_)
 refine asg hs rfl rfl rfl fun ac hs => ?_
 refine wpList_nil (then_n (wp_seq (wp_region_lit ?_)))
 refine mvv hs rfl rfl rfl fun ac hs => ?_
 refine stp (op_convert hs none (v := nu64 (18446744073709551616 - n)) rfl rfl rfl (conv_neg64 underlying3 underlying73 hn (by omega)) rfl fun ac hs => ?_)
 refine bnn hs (nu64 (32 - n)) rfl rfl rfl rfl (bin_andN (y := 31) (and31 hn hn2) (show 18446744073709551616 - n < 18446744073709551616 by omega) (by decide) (show 32 - n < 18446744073709551616 by omega)) fun ac hs => ?_
 refine asg hs rfl rfl rfl fun ac hs => ?_
 refine wpList_nil (then_n (wp_seq (wp_region_lit ?_)))
 refine mvv hs rfl rfl rfl fun ac hs => ?_
 refine mvv hs rfl rfl rfl fun ac hs => ?_
 refine bnn hs (nu32 (x * 2 ^ (32 - n) % 4294967296)) rfl rfl rfl rfl (bin_shlM rfl rfl) fun ac hs => ?_
 refine mvv hs rfl rfl rfl fun ac hs => ?_
 refine mvv hs rfl rfl rfl fun ac hs => ?_
 refine bnn hs (nu64 n) rfl rfl rfl rfl (bin_subN (x := 32) (by omega) (show n < 18446744073709551616 by omega)) fun ac hs => ?_
 refine bnn hs (nu32 (x / 2 ^ n)) rfl rfl rfl rfl (bin_shrN rfl hx) fun ac hs => ?_
 refine bnn hs (nu32 (rr x n)) rfl rfl rfl rfl (bin_orN (Nat.or_comm _ _) (m32 _) (Nat.lt_of_le_of_lt (Nat.div_le_self _ _) hx) (rr_lt hx)) fun ac hs => ?_
 refine asg hs rfl rfl rfl fun ac hs => ?_
 refine wpList_nil (then_n (wp_ret ?_))
 exact bodyPost_ret (res1 rfl (rv_t hs rfl)) hs.defers ⟨by rw [hr], (hs.bel rfl)⟩
theorem turn_c (x n r : Nat) (hx : x < 4294967296) (hn2 : n < 32) (hr : rr x n = r) (w0 : World) : Calls prog 142 #[nu32 x, nu64 n] w0 fun e w' => e = .returned (nu32 r) ∧ Below w0.heap.size w0 w' := by
 refine enter (n := 13) (args := [nu32 x, nu64 n]) func142 rfl rfl (Nat.le_of_ble_eq_true rfl) fun ac hs => ?_
 refine wp_seq (wp_region_lit ?_)
 refine asg hs rfl rfl rfl fun ac hs => ?_
 refine wpList_nil (then_n (wp_seq (wp_region_lit ?_)))
 refine mvv hs rfl rfl rfl fun ac hs => ?_
 refine mvv hs rfl rfl rfl fun ac hs => ?_
 refine bnn hs (nu32 (x / 2 ^ n)) rfl rfl rfl rfl (bin_shrN rfl hx) fun ac hs => ?_
 refine mvv hs rfl rfl rfl fun ac hs => ?_
 refine mvv hs rfl rfl rfl fun ac hs => ?_
 refine bnn hs (nu64 (32 - n)) rfl rfl rfl rfl (bin_subN (x := 32) (by omega) (show 32 - n < 18446744073709551616 by omega)) fun ac hs => ?_
 refine bnn hs (nu32 (x * 2 ^ (32 - n) % 4294967296)) rfl rfl rfl rfl (bin_shlM rfl rfl) fun ac hs => ?_
 refine bnn hs (nu32 (rr x n)) rfl rfl rfl rfl (bin_orN (rfl) (Nat.lt_of_le_of_lt (Nat.div_le_self _ _) hx) (m32 _) (rr_lt hx)) fun ac hs => ?_
 refine asg hs rfl rfl rfl fun ac hs => ?_
 refine wpList_nil (then_n (wp_ret ?_))
 exact bodyPost_ret (res1 rfl (rv_t hs rfl)) hs.defers ⟨by rw [hr], (hs.bel rfl)⟩
theorem firsts_c  (w0 : World) : Calls prog 129 #[] w0 fun e w' => e = .returned (At .u32 8 HH0) ∧ Below w0.heap.size w0 w' := by
 refine enter (n := 2) (args := []) func129 rfl rfl (Nat.le_of_ble_eq_true rfl) fun ac hs => ?_
 refine wp_seq (wp_region_lit ?_)
 refine stp (op_alloc hs none none (cs := (tab .u32 8 (fun _ => 0))) rfl rfl zeroValue111 (by kernel_rfl) rfl rfl fun g1 ac w hs => ?_)
 refine wpList_nil (then_n (wp_seq (wp_region_lit ?_)))
 refine stp (op_build hs none (qs := [(0, .int .u32 1779033703), (1, .int .u32 3144134277), (2, .int .u32 1013904242), (3, .int .u32 2773480762), (4, .int .u32 1359893119), (5, .int .u32 2600822924), (6, .int .u32 528734635), (7, .int .u32 1541459225)]) (v := At .u32 8 HH0) rfl rfl rfl rfl (fun _ => by kernel_rfl) rfl fun ac hs => ?_)
 refine stp (stoo hs 0 ((tab .u32 8 HH0)) sizeOf111 rfl rfl rfl rfl rfl (by kernel_rfl) tab_length' (tab_one _ _ _) tab_leA wr_tab fun w hs => ?_)
 refine wpList_nil (then_n (wp_ret ?_))
 exact bodyPost_ret (res1 rfl (rv_c hs 0 (v := At .u32 8 HH0) rfl rfl isAgg111 sizeOf111 ldv_tab)) hs.defers ⟨rfl, (hs.bel rfl)⟩
theorem steps_c  (w0 : World) : Calls prog 140 #[] w0 fun e w' => e = .returned (At .u32 64 KK) ∧ Below w0.heap.size w0 w' := by
 refine enter (n := 2) (args := []) func140 rfl rfl (Nat.le_of_ble_eq_true rfl) fun ac hs => ?_
 refine wp_seq (wp_region_lit ?_)
 refine stp (op_alloc hs none none (cs := (tab .u32 64 (fun _ => 0))) rfl rfl zeroValue124 (by kernel_rfl) rfl rfl fun g1 ac w hs => ?_)
 refine wpList_nil (then_n (wp_seq (wp_region_lit ?_)))
 refine stp (op_build hs none (qs := [(0, .int .u32 1116352408), (1, .int .u32 1899447441), (2, .int .u32 3049323471), (3, .int .u32 3921009573), (4, .int .u32 961987163), (5, .int .u32 1508970993), (6, .int .u32 2453635748), (7, .int .u32 2870763221), (8, .int .u32 3624381080), (9, .int .u32 310598401), (10, .int .u32 607225278), (11, .int .u32 1426881987), (12, .int .u32 1925078388), (13, .int .u32 2162078206), (14, .int .u32 2614888103), (15, .int .u32 3248222580), (16, .int .u32 3835390401), (17, .int .u32 4022224774), (18, .int .u32 264347078), (19, .int .u32 604807628), (20, .int .u32 770255983), (21, .int .u32 1249150122), (22, .int .u32 1555081692), (23, .int .u32 1996064986), (24, .int .u32 2554220882), (25, .int .u32 2821834349), (26, .int .u32 2952996808), (27, .int .u32 3210313671), (28, .int .u32 3336571891), (29, .int .u32 3584528711), (30, .int .u32 113926993), (31, .int .u32 338241895), (32, .int .u32 666307205), (33, .int .u32 773529912), (34, .int .u32 1294757372), (35, .int .u32 1396182291), (36, .int .u32 1695183700), (37, .int .u32 1986661051), (38, .int .u32 2177026350), (39, .int .u32 2456956037), (40, .int .u32 2730485921), (41, .int .u32 2820302411), (42, .int .u32 3259730800), (43, .int .u32 3345764771), (44, .int .u32 3516065817), (45, .int .u32 3600352804), (46, .int .u32 4094571909), (47, .int .u32 275423344), (48, .int .u32 430227734), (49, .int .u32 506948616), (50, .int .u32 659060556), (51, .int .u32 883997877), (52, .int .u32 958139571), (53, .int .u32 1322822218), (54, .int .u32 1537002063), (55, .int .u32 1747873779), (56, .int .u32 1955562222), (57, .int .u32 2024104815), (58, .int .u32 2227730452), (59, .int .u32 2361852424), (60, .int .u32 2428436474), (61, .int .u32 2756734187), (62, .int .u32 3204031479), (63, .int .u32 3329325298)]) (v := At .u32 64 KK) rfl rfl rfl rfl (fun _ => by kernel_rfl) rfl fun ac hs => ?_)
 refine stp (stoo hs 0 ((tab .u32 64 KK)) sizeOf124 rfl rfl rfl rfl rfl (by kernel_rfl) tab_length' (tab_one _ _ _) tab_leA wr_tab fun w hs => ?_)
 refine wpList_nil (then_n (wp_ret ?_))
 exact bodyPost_ret (res1 rfl (rv_c hs 0 (v := At .u32 64 KK) rfl rfl isAgg124 sizeOf124 ldv_tab)) hs.defers ⟨rfl, (hs.bel rfl)⟩
theorem spread_c (ad : Option Addr) (nl c : Nat) (l : List UInt8) (h64 : l.length = 64) (w0 : World) (Z : Nat → Prop) (hl : ByV w0 Z (.slice ad nl c) l): Calls prog 139 #[.slice ad nl c] w0 fun e w' => Ret w0 Z (ρ := Unit) (fun r => At .u32 64 (wv l)) (fun r => []) e w' := by
 obtain rfl := byv_len hl
 refine enterS (n := 82) (args := [.slice ad l.length c]) (S := [(true, .cel (.slice ad l.length c) l.length (bcs l))]) (Z := Z) func139 rfl rfl (Nat.le_of_ble_eq_true rfl) (sokC hl sok0) rfl fun ac hs => ?_
 refine wp_seq (wp_region_lit ?_)
 refine stp (op_alloc hs none none (cs := (tab .u32 64 (fun _ => 0))) rfl rfl zeroValue124 (by kernel_rfl) rfl rfl fun g1 ac w hs => ?_)
 refine wpList_nil (then_n (wp_seq (wp_region_lit ?_)))
 refine stp (op_alloc hs none none (cs := (tab .u32 64 (fun _ => 0))) rfl rfl zeroValue124 (by kernel_rfl) rfl rfl fun g2 ac w hs => ?_)
 refine wpList_nil (then_n (wp_seq (wp_seq (wp_region_lit ?_))))
 refine mvv hs rfl rfl rfl fun ac hs => ?_
 refine wpList_nil (then_n (wp_block ?_))
 replace hs := hs.setb 1 (cs' := (tab .u32 64 (w16 l 0 0))) rfl (tab_ext fun j hj => w16_zero l j)
 refine wp_loop_m (fun μ ac w => ∃ (i : Nat), (16 - i) = μ ∧ (i ≤ 16) ∧ St 82 ⟨w0, [], [(true, .cel (.slice ad l.length c) l.length (bcs l))], Z, noX⟩ [(0, true, .slice ad l.length c), (2, true, ptA g1 0), (3, true, ptA g2 0), (12, true, ni64 i)] [(true, g1, 124, (tab .u32 64 (fun _ => 0))), (true, g2, 124, (tab .u32 64 (w16 l i 0)))] ac w) ?_ ?_
 ·exact ⟨_, 0, rfl, (by omega), (hs.re (fs' := [(0, true, .slice ad l.length c), (2, true, ptA g1 0), (3, true, ptA g2 0), (12, true, ni64 0)]) ⟨rfl, rfl, rfl, rfl, trivial⟩)⟩
 intro μ ac w ⟨i, hμ, hi, hs⟩
 refine wp_seq (wp_region_lit ?_)
 refine bnn hs (.bool (decide (i < 16))) rfl rfl rfl rfl (bin_lssN (y := 16)) fun ac hs => ?_
 refine wpList_nil (then_n (wp_seq ?_))
 refine wp_cond_split (hs.ev rfl) (fun hc => ?_) (fun hc => ?_)
 ·skip
  have hp3 := of_decide_eq_true hc
  have hi16 := of_decide_eq_true hc
  refine wp_skip (then_n (wp_seq (wp_block (wp_seq (wp_region_lit ?_)))))
  refine mvv hs rfl rfl rfl fun ac hs => ?_
  refine asg hs rfl rfl rfl fun ac hs => ?_
  refine wpList_nil (then_n (wp_seq (wp_region_lit ?_)))
  refine mvv hs rfl rfl rfl fun ac hs => ?_
  refine mvv hs rfl rfl rfl fun ac hs => ?_
  refine bnn hs (ni64 (4 * i)) rfl rfl rfl rfl (bin_mulN (x := 4) rfl (show 4 * i < 9223372036854775808 by omega)) fun ac hs => ?_
  refine mvv hs rfl rfl rfl fun ac hs => ?_
  refine bnn hs (ni64 (4 * i)) rfl rfl rfl rfl (bin_mulN (x := 4) rfl (show 4 * i < 9223372036854775808 by omega)) fun ac hs => ?_
  refine bnn hs (ni64 (4 * i + 4)) rfl rfl rfl rfl (bin_addN (y := 4) rfl (show 4 * i + 4 < 9223372036854775808 by omega)) fun ac hs => ?_
  refine stp (op_sliceR hs none none 0 (4 * i) (4 * i + 4) (N' := ((l.drop (4 * i)).take (4 * i + 4 - (4 * i))).length) (cs' := bcs ((l.drop (4 * i)).take (4 * i + 4 - (4 * i)))) rfl rfl rfl rfl (.inr ⟨_, _, rfl, rfl⟩) (.inr ⟨_, _, rfl, rfl⟩) underlying25 sizeOf5 (show 4 * i ≤ 4 * i + 4 by omega) (show 4 * i + 4 ≤ l.length by omega) (len_both (show 4 * i ≤ 4 * i + 4 by omega) (show 4 * i + 4 ≤ l.length by omega)) (bcs_part _ _ _) rfl rfl fun ac hs => ?_)
  refine stp (op_blt hs none (v := .int .i64 ((((l.drop (4 * i)).take (4 * i + 4 - (4 * i))).length : Nat) : Int)) rfl rfl rfl (blt_len underlying25) rfl fun ac hs => ?_)
  refine mvv hs rfl rfl rfl fun ac hs => ?_
  refine wpList_nil (then_n (wp_block ?_))
  refine wp_loop_m (fun μ ac w => ∃ (k : Nat), (4 - k) = μ ∧ (k ≤ 4) ∧ St 82 ⟨w0, [], [(true, .cel (.slice ad l.length c) l.length (bcs l)), (true, .cel (.slice (vsa ad c 1 (4 * i)) (((l.drop (4 * i)).take (4 * i + 4 - (4 * i))).length) (c - (4 * i))) (((l.drop (4 * i)).take (4 * i + 4 - (4 * i))).length) (bcs ((l.drop (4 * i)).take (4 * i + 4 - (4 * i)))))], Z, noX⟩ [(0, true, .slice ad l.length c), (2, true, ptA g1 0), (3, true, ptA g2 0), (4, true, ni64 i), (12, true, ni64 i), (21, true, .slice (vsa ad c 1 (4 * i)) (((l.drop (4 * i)).take (4 * i + 4 - (4 * i))).length) (c - (4 * i))), (22, true, .int .i64 ((((l.drop (4 * i)).take (4 * i + 4 - (4 * i))).length : Nat) : Int)), (23, true, ni64 k)] [(true, g1, 124, (tab .u32 64 (fun _ => 0))), (true, g2, 124, (tab .u32 64 (w16 l i k)))] ac w) ?_ ?_
  ·exact ⟨_, 0, rfl, (by omega), (hs.re (fs' := [(0, true, .slice ad l.length c), (2, true, ptA g1 0), (3, true, ptA g2 0), (4, true, ni64 i), (12, true, ni64 i), (21, true, .slice (vsa ad c 1 (4 * i)) (((l.drop (4 * i)).take (4 * i + 4 - (4 * i))).length) (c - (4 * i))), (22, true, .int .i64 ((((l.drop (4 * i)).take (4 * i + 4 - (4 * i))).length : Nat) : Int)), (23, true, ni64 0)]) ⟨rfl, rfl, rfl, rfl, rfl, rfl, rfl, rfl, trivial⟩)⟩
  intro μ ac w ⟨k, hμ, hk, hs⟩
  refine wp_seq (wp_region_lit ?_)
  refine bnn hs (.bool (decide (k < ((l.drop (4 * i)).take (4 * i + 4 - (4 * i))).length))) rfl rfl rfl rfl bin_lssN fun ac hs => ?_
  refine wpList_nil (then_n (wp_seq ?_))
  refine wp_cond_split (hs.ev rfl) (fun hc => ?_) (fun hc => ?_)
  ·skip
   have hp4 := of_decide_eq_true hc
   have hk4 : k < 4 := by have := of_decide_eq_true hc; simp only [List.length_take, List.length_drop] at this; omega
   have hpt := pre4_24 (b := l) (t := i) hk4
   refine wp_skip (then_n (wp_seq (wp_block (wp_seq (wp_region_lit ?_)))))
   refine stp (op_idxC hs none 1 (j := k) rfl rfl rfl rfl rfl underlying25 sizeOf5 (show k < ((l.drop (4 * i)).take (4 * i + 4 - (4 * i))).length by first | omega | ((try simp only [List.length_drop, List.length_take, List.length_append, List.length_cons, List.length_nil]); omega)) (off := k) (by omega) rfl fun ac hs => ?_)
   have l5 := byt_lt ((l.drop (4 * i)).take (4 * i + 4 - (4 * i))) k
   refine stp (op_loadC hs none 1 (u := .int .u8 ((byt ((l.drop (4 * i)).take (4 * i + 4 - (4 * i))) k : Nat) : Int)) rfl rfl rfl rfl isAgg5 sizeOf5 (by decide) (bcs_get (show k < ((l.drop (4 * i)).take (4 * i + 4 - (4 * i))).length by first | omega | ((try simp only [List.length_drop, List.length_take, List.length_append, List.length_cons, List.length_nil]); omega))) rfl fun ac hs => ?_)
   refine asg hs rfl rfl rfl fun ac hs => ?_
   refine wpList_nil (then_n (wp_region_lit ?_))
   refine mvv hs rfl rfl rfl fun ac hs => ?_
   refine mvv hs rfl rfl rfl fun ac hs => ?_
   refine stp (op_idxA hs none (j := i) rfl rfl rfl rfl underlying124 sizeOf109 (show i < 64 by omega) (off := i) (by omega) rfl fun ac hs => ?_)
   refine ldd hs 1 (nu32 ((w16 l i k) i)) isAgg109 sizeOf109 rfl rfl rfl rfl (tab_get (j := i) (show i < 64 by omega)) fun ac hs => ?_
   refine bnn hs (nu32 (pre4 l i k * 256)) rfl rfl rfl rfl (bin_shlZ (y := 8) (by rw [w16_at]) (by decide) (show pre4 l i k * 256 < 4294967296 by omega)) fun ac hs => ?_
   refine mvv hs rfl rfl rfl fun ac hs => ?_
   refine stp (op_convert hs none (v := .int .u32 ((byt ((l.drop (4 * i)).take (4 * i + 4 - (4 * i))) k : Nat) : Int)) rfl rfl rfl (conv_N underlying5 underlying109 (show byt ((l.drop (4 * i)).take (4 * i + 4 - (4 * i))) k < 4294967296 by first | omega | ((try simp only [List.length_drop, List.length_take, List.length_append, List.length_cons, List.length_nil]); omega))) rfl fun ac hs => ?_)
   refine bnn hs (.int .u32 ((pre4 l i k * 256 + (byt ((l.drop (4 * i)).take (4 * i + 4 - (4 * i))) k) : Nat) : Int)) rfl rfl rfl rfl (bin_orN (z := pre4 l i k * 256 + (byt ((l.drop (4 * i)).take (4 * i + 4 - (4 * i))) k)) (or_256' (byt_lt _ _)) (show pre4 l i k * 256 < 4294967296 by omega) (show byt ((l.drop (4 * i)).take (4 * i + 4 - (4 * i))) k < 4294967296 by have := byt_lt ((l.drop (4 * i)).take (4 * i + 4 - 4 * i)) k; omega) (show pre4 l i k * 256 + (byt ((l.drop (4 * i)).take (4 * i + 4 - (4 * i))) k) < 4294967296 by have := byt_lt ((l.drop (4 * i)).take (4 * i + 4 - 4 * i)) k; omega)) fun ac hs => ?_
   refine stp (op_idxA hs none (j := i) rfl rfl rfl rfl underlying124 sizeOf109 (show i < 64 by omega) (off := i) (by omega) rfl fun ac hs => ?_)
   refine stp (stoo hs 1 ([.int .u32 ((pre4 l i k * 256 + (byt ((l.drop (4 * i)).take (4 * i + 4 - (4 * i))) k) : Nat) : Int)]) sizeOf109 rfl rfl rfl rfl rfl rfl rfl rfl (tab_le (j := i) (show i < 64 by omega)) (tab_set) fun w hs => ?_)
   refine wpList_nil (blk_n (then_n ?_))
   replace hs := hs.nf w0 Z noX [0, 2, 3, 4, 12, 21, 22, 23] rfl rfl rfl rfl
   refine wp_region_lit ?_
   refine bnn hs (ni64 (k + 1)) rfl rfl rfl rfl (bin_addN (y := 1) rfl (show k + 1 < 9223372036854775808 by omega)) fun ac hs => ?_
   refine mvv hs rfl rfl rfl fun ac hs => ?_
   refine wpList_nil (then_n ?_)
   replace hs := hs.setb 1 (cs' := (tab .u32 64 (w16 l i (k + 1)))) rfl (tab_ext fun j hj => w16_step (by rw [show 4 * i + 4 - 4 * i = 4 by omega, byt_part hk4]) j)
   exact ⟨_, ⟨(k + 1), rfl, (by omega), (hs.re (fs' := [(0, true, .slice ad l.length c), (2, true, ptA g1 0), (3, true, ptA g2 0), (4, true, ni64 i), (12, true, ni64 i), (21, true, .slice (vsa ad c 1 (4 * i)) (((l.drop (4 * i)).take (4 * i + 4 - (4 * i))).length) (c - (4 * i))), (22, true, .int .i64 ((((l.drop (4 * i)).take (4 * i + 4 - (4 * i))).length : Nat) : Int)), (23, true, ni64 ((k + 1)))]) ⟨rfl, rfl, rfl, rfl, rfl, rfl, rfl, rfl, trivial⟩)⟩, (by omega)⟩
  ·skip
   have hp6 := of_decide_eq_false hc
   obtain rfl : k = 4 := by have := of_decide_eq_false hc; simp only [List.length_take, List.length_drop] at this; omega
   replace hs := hs.setb 1 (cs' := (tab .u32 64 (w16 l (i + 1) 0))) rfl (tab_ext fun j hj => w16_next hi16 j)
   refine wp_exit (then_e (then_e (blk_e (blk_n (then_n (wp_region_lit ?_))))))
   refine bnn hs (ni64 (i + 1)) rfl rfl rfl rfl (bin_addN (y := 1) rfl (show i + 1 < 9223372036854775808 by omega)) fun ac hs => ?_
   refine mvv hs rfl rfl rfl fun ac hs => ?_
   refine wpList_nil (then_n ?_)
   replace hs := hs.selS [0] rfl (by decide)
   exact ⟨_, ⟨(i + 1), rfl, (by omega), (hs.re (fs' := [(0, true, .slice ad l.length c), (2, true, ptA g1 0), (3, true, ptA g2 0), (12, true, ni64 ((i + 1)))]) ⟨rfl, rfl, rfl, rfl, trivial⟩)⟩, (by omega)⟩
 ·skip
  have hp7 := of_decide_eq_false hc
  obtain rfl : i = 16 := by have := of_decide_eq_false hc; omega
  replace hs := hs.setb 1 (cs' := (tab .u32 64 (w64 l 16))) rfl (tab_ext fun j hj => w64_16 l j)
  refine wp_exit (then_e (then_e (blk_e (then_n (wp_seq (wp_seq (wp_region_lit ?_)))))))
  refine asg hs rfl rfl rfl fun ac hs => ?_
  refine wpList_nil (then_n (wp_block ?_))
  refine wp_loop_m (fun μ ac w => ∃ (i : Nat), (64 - i) = μ ∧ (16 ≤ i) ∧ (i ≤ 64) ∧ St 82 ⟨w0, [], [(true, .cel (.slice ad l.length c) l.length (bcs l))], Z, noX⟩ [(2, true, ptA g1 0), (3, true, ptA g2 0), (7, true, ni64 i)] [(true, g1, 124, (tab .u32 64 (fun _ => 0))), (true, g2, 124, (tab .u32 64 (w64 l i)))] ac w) ?_ ?_
  ·exact ⟨_, 16, rfl, (by omega), (by omega), (hs.re (fs' := [(2, true, ptA g1 0), (3, true, ptA g2 0), (7, true, ni64 16)]) ⟨rfl, rfl, rfl, trivial⟩)⟩
  intro μ ac w ⟨i, hμ, hi1, hi, hs⟩
  refine wp_seq (wp_seq (wp_region_lit ?_))
  refine mvv hs rfl rfl rfl fun ac hs => ?_
  refine bnn hs (.bool (decide (i < 64))) rfl rfl rfl rfl (bin_lssN (y := 64)) fun ac hs => ?_
  refine wpList_nil (then_n ?_)
  refine wp_cond_split (hs.ev rfl) (fun hc => ?_) (fun hc => ?_)
  ·skip
   have hp8 := of_decide_eq_true hc
   have hi64 := of_decide_eq_true hc
   refine wp_skip (then_n (wp_seq (wp_block (wp_seq ?_))))
   replace hs := hs.nf w0 Z noX [2, 3, 7] rfl rfl rfl rfl
   have l9 := w64_lt l i (i - 15)
   have l10 := w64_lt l i (i - 2)
   refine region_inv [([], [1, 2, 3, 8, 9]), ([0], [2, 3, 8, 9]), ([0, 1], [3, 8, 9]), ([0, 1, 2], [8, 9]), ([], [5, 6, 7, 9]), ([4], [6, 7, 9]), ([4, 5], [7, 9]), ([4, 5, 6], [9]), (rgn 0 4, [9]), (rgn 0 9, [])] (fun L ac w => St 82 ⟨w0, [], [(true, .cel (.slice ad l.length c) l.length (bcs l))], Z, noX⟩ [(42, L 0, ni64 i), (43, L 1, ni64 (i - 15)), (44, L 2, .pointer (some ⟨g2, i - 15, none⟩)), (45, L 3, .int .u32 (((w64 l i) (i - 15) : Nat) : Int)), (46, L 4, ni64 i), (47, L 5, ni64 (i - 2)), (48, L 6, .pointer (some ⟨g2, i - 2, none⟩)), (49, L 7, .int .u32 (((w64 l i) (i - 2) : Nat) : Int)), (8, L 8, .int .u32 (((w64 l i) (i - 15) : Nat) : Int)), (9, L 9, .int .u32 (((w64 l i) (i - 2) : Nat) : Int)), (2, true, ptA g1 0), (3, true, ptA g2 0), (7, true, ni64 i)] [(true, g1, 124, (tab .u32 64 (fun _ => 0))), (true, g2, 124, (tab .u32 64 (w64 l i)))] ac w) (by kernel_rfl) (by kernel_rfl) ?_ ?_ ?_
   ·exact hs.drew.skip.skip.skip.skip.skip.skip.skip.skip.skip.skip
   ·refine ⟨?_, ?_, ?_, ?_, ?_, ?_, ?_, ?_, ?_, ?_, trivial⟩
    ·exact fun L ac w hs => pln (omv hs 0 rfl rfl rfl fun ac hs => hs)
    ·exact fun L ac w hs => pln (obn hs 1 (ni64 (i - 15)) rfl rfl rfl rfl (bin_subN (y := 15) (by omega) (show i - 15 < 9223372036854775808 by omega)) fun ac hs => hs)
    ·exact fun L ac w hs => pln (op_idxA hs (some 2) (j := i - 15) rfl rfl rfl rfl underlying124 sizeOf109 (show i - 15 < 64 by omega) (off := i - 15) (by omega) rfl fun ac hs => hs)
    ·exact fun L ac w hs => pln (oldd hs 3 1 (.int .u32 (((w64 l i) (i - 15) : Nat) : Int)) isAgg109 sizeOf109 rfl rfl rfl rfl (tab_get (j := i - 15) (show i - 15 < 64 by omega)) fun ac hs => hs)
    ·exact fun L ac w hs => pln (omv hs 4 rfl rfl rfl fun ac hs => hs)
    ·exact fun L ac w hs => pln (obn hs 5 (ni64 (i - 2)) rfl rfl rfl rfl (bin_subN (y := 2) (by omega) (show i - 2 < 9223372036854775808 by omega)) fun ac hs => hs)
    ·exact fun L ac w hs => pln (op_idxA hs (some 6) (j := i - 2) rfl rfl rfl rfl underlying124 sizeOf109 (show i - 2 < 64 by omega) (off := i - 2) (by omega) rfl fun ac hs => hs)
    ·exact fun L ac w hs => pln (oldd hs 7 1 (.int .u32 (((w64 l i) (i - 2) : Nat) : Int)) isAgg109 sizeOf109 rfl rfl rfl rfl (tab_get (j := i - 2) (show i - 2 < 64 by omega)) fun ac hs => hs)
    ·exact fun L ac w hs => pln (oas hs 8 rfl rfl rfl fun ac hs => hs)
    ·exact fun L ac w hs => pln (oas hs 9 rfl rfl rfl fun ac hs => hs)
   intro ac w hs
   try dsimp only [cond_true] at hs
   refine then_n (wp_seq (wp_region_lit ?_))
   refine mvv hs rfl rfl rfl fun ac hs => ?_
   obtain ⟨x11, hx11, lx11⟩ : ∃ z0, rr ((w64 l i) (i - 15)) 7 = z0 ∧ z0 < 4294967296 := ⟨_, rfl, rr_lt (show (w64 l i) (i - 15) < 4294967296 by omega)⟩
   refine stp (op_call (F := 141) hs none (v := nu32 x11) rfl rfl rfl rfl (call141 _) (rot_c ((w64 l i) (i - 15)) 7 x11 (show (w64 l i) (i - 15) < 4294967296 by omega) (by decide) (by decide) hx11) rfl fun ac w hs => ?_)
   refine mvv hs rfl rfl rfl fun ac hs => ?_
   obtain ⟨x12, hx12, lx12⟩ : ∃ z0, rr ((w64 l i) (i - 15)) 18 = z0 ∧ z0 < 4294967296 := ⟨_, rfl, rr_lt (show (w64 l i) (i - 15) < 4294967296 by omega)⟩
   refine stp (op_call (F := 141) hs none (v := nu32 x12) rfl rfl rfl rfl (call141 _) (rot_c ((w64 l i) (i - 15)) 18 x12 (show (w64 l i) (i - 15) < 4294967296 by omega) (by decide) (by decide) hx12) rfl fun ac w hs => ?_)
   obtain ⟨x13, hx13, lx13⟩ : ∃ z0, x11 ^^^ x12 = z0 ∧ z0 < 4294967296 := ⟨_, rfl, x32 (show x11 < 4294967296 by omega) (show x12 < 4294967296 by omega)⟩
   refine bnn hs (nu32 x13) rfl rfl rfl rfl (bin_xorN hx13 (show x11 < 4294967296 by omega) (show x12 < 4294967296 by omega) lx13) fun ac hs => ?_
   refine mvv hs rfl rfl rfl fun ac hs => ?_
   obtain ⟨x14, hx14, lx14⟩ : ∃ z0, ((w64 l i) (i - 15)) / 2 ^ 3 = z0 ∧ z0 < 4294967296 := ⟨_, rfl, Nat.lt_of_le_of_lt (Nat.div_le_self _ _) (show (w64 l i) (i - 15) < 4294967296 by omega)⟩
   refine bnn hs (nu32 x14) rfl rfl rfl rfl (bin_shrN (y := 3) hx14 (show (w64 l i) (i - 15) < 4294967296 by omega)) fun ac hs => ?_
   obtain ⟨x15, hx15, lx15⟩ : ∃ z0, x13 ^^^ x14 = z0 ∧ z0 < 4294967296 := ⟨_, rfl, x32 (show x13 < 4294967296 by omega) (show x14 < 4294967296 by omega)⟩
   refine bnn hs (nu32 x15) rfl rfl rfl rfl (bin_xorN hx15 (show x13 < 4294967296 by omega) (show x14 < 4294967296 by omega) lx15) fun ac hs => ?_
   refine asg hs rfl rfl rfl fun ac hs => ?_
   refine wpList_nil (then_n (wp_seq ?_))
   replace hs := hs.nf w0 Z noX [2, 3, 7, 9, 10] rfl rfl rfl rfl
   refine wp_region_lit ?_
   refine mvv hs rfl rfl rfl fun ac hs => ?_
   obtain ⟨x16, hx16, lx16⟩ : ∃ z0, rr ((w64 l i) (i - 2)) 17 = z0 ∧ z0 < 4294967296 := ⟨_, rfl, rr_lt (show (w64 l i) (i - 2) < 4294967296 by omega)⟩
   refine stp (op_call (F := 141) hs none (v := nu32 x16) rfl rfl rfl rfl (call141 _) (rot_c ((w64 l i) (i - 2)) 17 x16 (show (w64 l i) (i - 2) < 4294967296 by omega) (by decide) (by decide) hx16) rfl fun ac w hs => ?_)
   refine mvv hs rfl rfl rfl fun ac hs => ?_
   obtain ⟨x17, hx17, lx17⟩ : ∃ z0, rr ((w64 l i) (i - 2)) 19 = z0 ∧ z0 < 4294967296 := ⟨_, rfl, rr_lt (show (w64 l i) (i - 2) < 4294967296 by omega)⟩
   refine stp (op_call (F := 141) hs none (v := nu32 x17) rfl rfl rfl rfl (call141 _) (rot_c ((w64 l i) (i - 2)) 19 x17 (show (w64 l i) (i - 2) < 4294967296 by omega) (by decide) (by decide) hx17) rfl fun ac w hs => ?_)
   obtain ⟨x18, hx18, lx18⟩ : ∃ z0, x16 ^^^ x17 = z0 ∧ z0 < 4294967296 := ⟨_, rfl, x32 (show x16 < 4294967296 by omega) (show x17 < 4294967296 by omega)⟩
   refine bnn hs (nu32 x18) rfl rfl rfl rfl (bin_xorN hx18 (show x16 < 4294967296 by omega) (show x17 < 4294967296 by omega) lx18) fun ac hs => ?_
   refine mvv hs rfl rfl rfl fun ac hs => ?_
   obtain ⟨x19, hx19, lx19⟩ : ∃ z0, ((w64 l i) (i - 2)) / 2 ^ 10 = z0 ∧ z0 < 4294967296 := ⟨_, rfl, Nat.lt_of_le_of_lt (Nat.div_le_self _ _) (show (w64 l i) (i - 2) < 4294967296 by omega)⟩
   refine bnn hs (nu32 x19) rfl rfl rfl rfl (bin_shrN (y := 10) hx19 (show (w64 l i) (i - 2) < 4294967296 by omega)) fun ac hs => ?_
   obtain ⟨x20, hx20, lx20⟩ : ∃ z0, x18 ^^^ x19 = z0 ∧ z0 < 4294967296 := ⟨_, rfl, x32 (show x18 < 4294967296 by omega) (show x19 < 4294967296 by omega)⟩
   refine bnn hs (nu32 x20) rfl rfl rfl rfl (bin_xorN hx20 (show x18 < 4294967296 by omega) (show x19 < 4294967296 by omega) lx20) fun ac hs => ?_
   refine asg hs rfl rfl rfl fun ac hs => ?_
   refine wpList_nil (then_n ?_)
   replace hs := hs.nf w0 Z noX [2, 3, 7, 10, 11] rfl rfl rfl rfl
   have l21 := w64_lt l i (i - 16)
   obtain ⟨x22, hx22, lx22⟩ : ∃ z0, ((w64 l i) (i - 16) + x15) % 4294967296 = z0 ∧ z0 < 4294967296 := ⟨_, rfl, m32 _⟩
   have l23 := w64_lt l i (i - 7)
   obtain ⟨x24, hx24, lx24⟩ : ∃ z0, (x22 + ((w64 l i) (i - 7))) % 4294967296 = z0 ∧ z0 < 4294967296 := ⟨_, rfl, m32 _⟩
   obtain ⟨x25, hx25, lx25⟩ : ∃ z0, (x24 + x20) % 4294967296 = z0 ∧ z0 < 4294967296 := ⟨_, rfl, m32 _⟩
   refine region_inv [([], [14, 15]), ([], [2, 3, 4, 6, 11, 13, 14, 15]), ([1], [3, 4, 6, 11, 13, 14, 15]), ([1, 2], [4, 6, 11, 13, 14, 15]), ([1, 2, 3], [6, 11, 13, 14, 15]), ([], [6, 11, 13, 14, 15]), (rgn 1 5, [11, 13, 14, 15]), ([], [8, 9, 10, 11, 13, 14, 15]), ([7], [9, 10, 11, 13, 14, 15]), ([7, 8], [10, 11, 13, 14, 15]), ([7, 8, 9], [11, 13, 14, 15]), (rgn 1 10, [13, 14, 15]), ([], [13, 14, 15]), (rgn 1 12, [14, 15]), (rgn 0 14, [15]), (rgn 0 15, [])] (fun L ac w => St 82 ⟨w0, [], [(true, .cel (.slice ad l.length c) l.length (bcs l))], Z, noX⟩ [(66, L 0, ni64 i), (67, L 1, ni64 i), (68, L 2, ni64 (i - 16)), (69, L 3, .pointer (some ⟨g2, i - 16, none⟩)), (70, L 4, .int .u32 (((w64 l i) (i - 16) : Nat) : Int)), (71, L 5, nu32 x15), (72, L 6, nu32 x22), (73, L 7, ni64 i), (74, L 8, ni64 (i - 7)), (75, L 9, .pointer (some ⟨g2, i - 7, none⟩)), (76, L 10, .int .u32 (((w64 l i) (i - 7) : Nat) : Int)), (77, L 11, nu32 x24), (78, L 12, nu32 x20), (79, L 13, nu32 x25), (80, L 14, .pointer (some ⟨g2, i, none⟩)), (2, true, ptA g1 0), (3, true, ptA g2 0), (7, true, ni64 i), (10, true, nu32 x15), (11, true, nu32 x20)] [(true, g1, 124, (tab .u32 64 (fun _ => 0))), (true, g2, 124, (cond (L 15) (tab .u32 64 (upn (w64 l i) i x25)) (tab .u32 64 (w64 l i))))] ac w) (by kernel_rfl) (by kernel_rfl) ?_ ?_ ?_
   ·exact hs.drew.skip.skip.skip.skip.skip.skip.skip.skip.skip.skip.skip.skip.skip.skip.skip
   ·refine ⟨?_, ?_, ?_, ?_, ?_, ?_, ?_, ?_, ?_, ?_, ?_, ?_, ?_, ?_, ?_, ?_, trivial⟩
    ·exact fun L ac w hs => pln (omv hs 0 rfl rfl rfl fun ac hs => hs)
    ·exact fun L ac w hs => pln (omv hs 1 rfl rfl rfl fun ac hs => hs)
    ·exact fun L ac w hs => pln (obn hs 2 (ni64 (i - 16)) rfl rfl rfl rfl (bin_subN (y := 16) (by omega) (show i - 16 < 9223372036854775808 by omega)) fun ac hs => hs)
    ·exact fun L ac w hs => pln (op_idxA hs (some 3) (j := i - 16) rfl rfl rfl rfl underlying124 sizeOf109 (show i - 16 < 64 by omega) (off := i - 16) (by omega) rfl fun ac hs => hs)
    ·exact fun L ac w hs => pln (oldd hs 4 1 (.int .u32 (((w64 l i) (i - 16) : Nat) : Int)) isAgg109 sizeOf109 rfl rfl rfl rfl (tab_get (j := i - 16) (show i - 16 < 64 by omega)) fun ac hs => hs)
    ·exact fun L ac w hs => pln (omv hs 5 rfl rfl rfl fun ac hs => hs)
    ·exact fun L ac w hs => pln (obn hs 6 (nu32 x22) rfl rfl rfl rfl (bin_addM rfl hx22) fun ac hs => hs)
    ·exact fun L ac w hs => pln (omv hs 7 rfl rfl rfl fun ac hs => hs)
    ·exact fun L ac w hs => pln (obn hs 8 (ni64 (i - 7)) rfl rfl rfl rfl (bin_subN (y := 7) (by omega) (show i - 7 < 9223372036854775808 by omega)) fun ac hs => hs)
    ·exact fun L ac w hs => pln (op_idxA hs (some 9) (j := i - 7) rfl rfl rfl rfl underlying124 sizeOf109 (show i - 7 < 64 by omega) (off := i - 7) (by omega) rfl fun ac hs => hs)
    ·exact fun L ac w hs => pln (oldd hs 10 1 (.int .u32 (((w64 l i) (i - 7) : Nat) : Int)) isAgg109 sizeOf109 rfl rfl rfl rfl (tab_get (j := i - 7) (show i - 7 < 64 by omega)) fun ac hs => hs)
    ·exact fun L ac w hs => pln (obn hs 11 (nu32 x24) rfl rfl rfl rfl (bin_addM rfl hx24) fun ac hs => hs)
    ·exact fun L ac w hs => pln (omv hs 12 rfl rfl rfl fun ac hs => hs)
    ·exact fun L ac w hs => pln (obn hs 13 (nu32 x25) rfl rfl rfl rfl (bin_addM rfl hx25) fun ac hs => hs)
    ·exact fun L ac w hs => pln (op_idxA hs (some 14) (j := i) rfl rfl rfl rfl underlying124 sizeOf109 (show i < 64 by omega) (off := i) (by omega) rfl fun ac hs => hs)
    ·exact fun L ac w hs => pln (stoo hs 1 ([nu32 x25]) sizeOf109 rfl rfl rfl rfl rfl rfl rfl rfl (tab_le (j := i) (show i < 64 by omega)) (tab_set) fun w hs => hs)
   intro ac w hs
   try dsimp only [cond_true] at hs
   refine blk_n (then_n (wp_region_lit ?_))
   refine mvv hs rfl rfl rfl fun ac hs => ?_
   refine bnn hs (ni64 (i + 1)) rfl rfl rfl rfl (bin_addN (y := 1) rfl (show i + 1 < 9223372036854775808 by omega)) fun ac hs => ?_
   refine asg hs rfl rfl rfl fun ac hs => ?_
   refine wpList_nil (then_n ?_)
   have hz : x25 = wv l i := by rw [wv_hi (by omega), w64_at (i := i) (j := i - 16) (by omega), w64_at (i := i) (j := i - 15) (by omega), w64_at (i := i) (j := i - 7) (by omega), w64_at (i := i) (j := i - 2) (by omega)]; simp only [ss0, ss1, hx11, hx12, hx13, hx14, hx15, hx16, hx17, hx18, hx19, hx20, hx22, hx24, hx25]
   replace hs := hs.setb 1 (cs' := (tab .u32 64 (w64 l (i + 1)))) rfl (tab_ext fun j hj => w64_step hz j)
   exact ⟨_, ⟨(i + 1), rfl, (by omega), (by omega), (hs.re (fs' := [(2, true, ptA g1 0), (3, true, ptA g2 0), (7, true, ni64 ((i + 1)))]) ⟨rfl, rfl, rfl, trivial⟩)⟩, (by omega)⟩
  ·skip
   have hp26 := of_decide_eq_false hc
   obtain rfl : i = 64 := by have := of_decide_eq_false hc; omega
   replace hs := hs.setb 1 (cs' := (tab .u32 64 (wv l))) rfl (tab_ext fun j hj => w64_end hj)
   refine wp_exit (then_e (then_e (blk_e (then_n (wp_seq (wp_region_lit ?_))))))
   refine ldd hs 1 (At .u32 64 (wv l)) isAgg124 sizeOf124 rfl rfl rfl rfl ldv_tab fun ac hs => ?_
   refine stp (stoo hs 0 ((tab .u32 64 (wv l))) sizeOf124 rfl rfl rfl rfl rfl (by kernel_rfl) tab_length' (tab_one _ _ _) tab_leA wr_tab fun w hs => ?_)
   refine wpList_nil (then_n (wp_ret ?_))
   exact bodyPost_ret (res1 rfl (rv_c hs 0 (v := At .u32 64 (wv l)) rfl rfl isAgg124 sizeOf124 ldv_tab)) hs.defers ⟨(), rfl, hs.bel rfl, okl0⟩
theorem take_c (gs : Nat) (T : TypeId) (h : Nat → Nat) (sp : List Value) (hh : ∀ j, h j < 4294967296) (ad : Option Addr) (c : Nat) (l : List UInt8) (h64 : l.length = 64) (w0 : World) (Z X : Nat → Prop) (hm : Mem ⟨w0, [], [(true, .cel (.slice ad l.length c) l.length (bcs l))], Z, X⟩ [(true, gs, T, (tab .u32 8 h ++ sp))] w0) : Calls prog 130 #[ptA gs 0, .slice ad l.length c] w0 fun e w' => PostX w0 Z X (ρ := Unit) (fun r => .tuple #[]) (fun r => [(true, gs, T, tab .u32 8 (blk h l) ++ sp)]) (fun r => [(true, .cel (.slice ad l.length c) l.length (bcs l))]) e w' := by
 refine enterX (n := 116) (args := [ptA gs 0, .slice ad l.length c]) func130 rfl rfl (Nat.le_of_ble_eq_true rfl) hm fun ac hs => ?_
 refine wp_seq (wp_region_lit ?_)
 refine mvv hs rfl rfl rfl fun ac hs => ?_
 refine stp (op_callS (F := 139) (ρ := Unit) hs none none (v := fun r => At .u32 64 (wv l)) (E := fun r => []) (j := 0) rfl rfl rfl rfl (call139 _) (fun hs => spread_c ad l.length c l (show l.length = 64 by omega) _ _ (hs.all (k := 0) rfl rfl)) (fun _ => rfl) rfl rfl fun _ ac w hs => ?_)
 refine stp (op_call (F := 140) hs none (v := At .u32 64 KK) rfl rfl rfl rfl (call140 _) steps_c rfl fun ac w hs => ?_)
 refine stp (op_alloc hs none none (cs := (tab .u32 64 (fun _ => 0))) rfl rfl zeroValue124 (by kernel_rfl) rfl rfl fun g1 ac w hs => ?_)
 refine stp (op_alloc hs none none (cs := (tab .u32 64 (fun _ => 0))) rfl rfl zeroValue124 (by kernel_rfl) rfl rfl fun g2 ac w hs => ?_)
 refine stp (stoo hs 1 ((tab .u32 64 (wv l))) sizeOf124 rfl rfl rfl rfl rfl (by kernel_rfl) tab_length' (tab_one _ _ _) tab_leA wr_tab fun w hs => ?_)
 refine stp (stoo hs 2 ((tab .u32 64 KK)) sizeOf124 rfl rfl rfl rfl rfl (by kernel_rfl) tab_length' (tab_one _ _ _) tab_leA wr_tab fun w hs => ?_)
 refine wpList_nil (then_n (wp_seq ?_))
 replace hs := hs.nf w0 Z X [0, 4, 5] rfl rfl rfl rfl
 refine wp_region_lit ?_
 refine mvv hs rfl rfl rfl fun ac hs => ?_
 refine stp (op_nilCheck hs none rfl rfl rfl rfl fun ac hs => ?_)
 refine ldd hs 0 (At .u32 8 h) isAgg111 sizeOf111 rfl rfl rfl rfl ldv_tabs fun ac hs => ?_
 refine stp (op_alloc hs none none (cs := (tab .u32 8 (fun _ => 0))) rfl rfl zeroValue111 (by kernel_rfl) rfl rfl fun g3 ac w hs => ?_)
 refine stp (stoo hs 3 ((tab .u32 8 h)) sizeOf111 rfl rfl rfl rfl rfl (by kernel_rfl) tab_length' (tab_one _ _ _) tab_leA wr_tab fun w hs => ?_)
 refine wpList_nil (then_n (wp_seq (wp_seq (wp_region_lit ?_))))
 refine mvv hs rfl rfl rfl fun ac hs => ?_
 refine wpList_nil (then_n (wp_block ?_))
 replace hs := hs.setb 3 (cs' := (tab .u32 8 (rnds (wv l) h 0))) rfl rfl
 refine wp_loop_m (fun μ ac w => ∃ (i : Nat), (64 - i) = μ ∧ (i ≤ 64) ∧ St 116 ⟨w0, [], [(true, .cel (.slice ad l.length c) l.length (bcs l))], Z, X⟩ [(0, true, ptA gs 0), (4, true, ptA g1 0), (5, true, ptA g2 0), (6, true, ptA g3 0), (19, true, ni64 i)] [(true, gs, T, (tab .u32 8 h ++ sp)), (true, g1, 124, (tab .u32 64 (wv l))), (true, g2, 124, (tab .u32 64 KK)), (true, g3, 111, (tab .u32 8 (rnds (wv l) h i)))] ac w) ?_ ?_
 ·exact ⟨_, 0, rfl, (by omega), (hs.re (fs' := [(0, true, ptA gs 0), (4, true, ptA g1 0), (5, true, ptA g2 0), (6, true, ptA g3 0), (19, true, ni64 0)]) ⟨rfl, rfl, rfl, rfl, rfl, trivial⟩)⟩
 intro μ ac w ⟨i, hμ, hi, hs⟩
 refine wp_seq (wp_region_lit ?_)
 refine bnn hs (.bool (decide (i < 64))) rfl rfl rfl rfl (bin_lssN (y := 64)) fun ac hs => ?_
 refine wpList_nil (then_n (wp_seq ?_))
 refine wp_cond_split (hs.ev rfl) (fun hc => ?_) (fun hc => ?_)
 ·skip
  have hp4 := of_decide_eq_true hc
  have hi64 := of_decide_eq_true hc
  refine wp_skip (then_n (wp_seq (wp_block (wp_seq (wp_region_lit ?_)))))
  refine mvv hs rfl rfl rfl fun ac hs => ?_
  refine asg hs rfl rfl rfl fun ac hs => ?_
  refine wpList_nil (then_n (wp_seq (wp_region_lit ?_)))
  refine stp (op_idxA hs none (j := 4) rfl rfl rfl rfl underlying111 sizeOf109 (by decide) (off := 4) rfl rfl fun ac hs => ?_)
  have l5 := rnds_lt (w := wv l) (h := h) hh i 4
  refine ldd hs 3 (nu32 ((rnds (wv l) h i) 4)) isAgg109 sizeOf109 rfl rfl rfl rfl (tab_get (j := 4) (by decide)) fun ac hs => ?_
  refine asg hs rfl rfl rfl fun ac hs => ?_
  refine wpList_nil (then_n (wp_seq ?_))
  replace hs := hs.nf w0 Z X [0, 4, 5, 6, 19, 7, 8] rfl rfl rfl rfl
  have l6 := rnds_lt (w := wv l) (h := h) hh i 7
  obtain ⟨x7, hx7, lx7⟩ : ∃ z0, rr ((rnds (wv l) h i) 4) 6 = z0 ∧ z0 < 4294967296 := ⟨_, rfl, rr_lt (show (rnds (wv l) h i) 4 < 4294967296 by omega)⟩
  obtain ⟨x8, hx8, lx8⟩ : ∃ z0, rr ((rnds (wv l) h i) 4) 11 = z0 ∧ z0 < 4294967296 := ⟨_, rfl, rr_lt (show (rnds (wv l) h i) 4 < 4294967296 by omega)⟩
  obtain ⟨x9, hx9, lx9⟩ : ∃ z0, x7 ^^^ x8 = z0 ∧ z0 < 4294967296 := ⟨_, rfl, x32 (show x7 < 4294967296 by omega) (show x8 < 4294967296 by omega)⟩
  obtain ⟨x10, hx10, lx10⟩ : ∃ z0, rr ((rnds (wv l) h i) 4) 25 = z0 ∧ z0 < 4294967296 := ⟨_, rfl, rr_lt (show (rnds (wv l) h i) 4 < 4294967296 by omega)⟩
  obtain ⟨x11, hx11, lx11⟩ : ∃ z0, x9 ^^^ x10 = z0 ∧ z0 < 4294967296 := ⟨_, rfl, x32 (show x9 < 4294967296 by omega) (show x10 < 4294967296 by omega)⟩
  obtain ⟨x12, hx12, lx12⟩ : ∃ z0, ((rnds (wv l) h i) 7 + x11) % 4294967296 = z0 ∧ z0 < 4294967296 := ⟨_, rfl, m32 _⟩
  have l13 := rnds_lt (w := wv l) (h := h) hh i 5
  obtain ⟨x14, hx14, lx14⟩ : ∃ z0, ((rnds (wv l) h i) 4) &&& ((rnds (wv l) h i) 5) = z0 ∧ z0 < 4294967296 := ⟨_, rfl, a32 (show (rnds (wv l) h i) 5 < 4294967296 by omega)⟩
  obtain ⟨x15, hx15, lx15⟩ : ∃ z0, 4294967295 - ((rnds (wv l) h i) 4) = z0 ∧ z0 < 4294967296 := ⟨_, rfl, by omega⟩
  have l16 := rnds_lt (w := wv l) (h := h) hh i 6
  obtain ⟨x17, hx17, lx17⟩ : ∃ z0, x15 &&& ((rnds (wv l) h i) 6) = z0 ∧ z0 < 4294967296 := ⟨_, rfl, a32 (show (rnds (wv l) h i) 6 < 4294967296 by omega)⟩
  obtain ⟨x18, hx18, lx18⟩ : ∃ z0, x14 ^^^ x17 = z0 ∧ z0 < 4294967296 := ⟨_, rfl, x32 (show x14 < 4294967296 by omega) (show x17 < 4294967296 by omega)⟩
  obtain ⟨x19, hx19, lx19⟩ : ∃ z0, (x12 + x18) % 4294967296 = z0 ∧ z0 < 4294967296 := ⟨_, rfl, m32 _⟩
  have l20 := KK_lt i
  obtain ⟨x21, hx21, lx21⟩ : ∃ z0, (x19 + (KK i)) % 4294967296 = z0 ∧ z0 < 4294967296 := ⟨_, rfl, m32 _⟩
  have l22 := wv_lt l i
  obtain ⟨x23, hx23, lx23⟩ : ∃ z0, (x21 + ((wv l) i)) % 4294967296 = z0 ∧ z0 < 4294967296 := ⟨_, rfl, m32 _⟩
  refine region_inv [([], [1, 10, 21, 25, 29, 30]), ([0], [10, 21, 25, 29, 30]), ([], [3, 5, 6, 8, 9, 10, 21, 25, 29, 30]), ([2], [5, 6, 8, 9, 10, 21, 25, 29, 30]), ([], [5, 6, 8, 9, 10, 21, 25, 29, 30]), ([2, 3, 4], [6, 8, 9, 10, 21, 25, 29, 30]), (rgn 2 4, [9, 10, 21, 25, 29, 30]), ([], [8, 9, 10, 21, 25, 29, 30]), ([2, 3, 4, 5, 7], [9, 10, 21, 25, 29, 30]), (rgn 2 7, [10, 21, 25, 29, 30]), (rgn 0 10, [21, 25, 29, 30]), ([], [14, 20, 21, 25, 29, 30]), ([], [13, 14, 20, 21, 25, 29, 30]), ([12], [14, 20, 21, 25, 29, 30]), ([11, 12, 13], [20, 21, 25, 29, 30]), ([], [16, 19, 20, 21, 25, 29, 30]), ([15], [19, 20, 21, 25, 29, 30]), ([], [18, 19, 20, 21, 25, 29, 30]), ([17], [19, 20, 21, 25, 29, 30]), (rgn 15 4, [20, 21, 25, 29, 30]), (rgn 11 9, [21, 25, 29, 30]), (rgn 0 21, [25, 29, 30]), ([], [23, 24, 25, 29, 30]), ([22], [24, 25, 29, 30]), ([22, 23], [25, 29, 30]), (rgn 0 25, [29, 30]), ([], rgn 27 4), ([26], [28, 29, 30]), ([26, 27], [29, 30]), (rgn 0 29, [30]), (rgn 0 30, [])] (fun L ac w => St 116 ⟨w0, [], [(true, .cel (.slice ad l.length c) l.length (bcs l))], Z, X⟩ [(24, L 0, ptA g3 7), (25, L 1, nu32 ((rnds (wv l) h i) 7)), (26, L 2, nu32 ((rnds (wv l) h i) 4)), (27, L 3, nu32 x7), (28, L 4, nu32 ((rnds (wv l) h i) 4)), (29, L 5, nu32 x8), (30, L 6, nu32 x9), (31, L 7, nu32 ((rnds (wv l) h i) 4)), (32, L 8, nu32 x10), (33, L 9, nu32 x11), (34, L 10, nu32 x12), (35, L 11, nu32 ((rnds (wv l) h i) 4)), (36, L 12, ptA g3 5), (37, L 13, nu32 ((rnds (wv l) h i) 5)), (38, L 14, nu32 x14), (39, L 15, nu32 ((rnds (wv l) h i) 4)), (40, L 16, nu32 x15), (41, L 17, ptA g3 6), (42, L 18, nu32 ((rnds (wv l) h i) 6)), (43, L 19, nu32 x17), (44, L 20, nu32 x18), (45, L 21, nu32 x19), (46, L 22, ni64 i), (47, L 23, .pointer (some ⟨g2, i, none⟩)), (48, L 24, nu32 (KK i)), (49, L 25, nu32 x21), (50, L 26, ni64 i), (51, L 27, .pointer (some ⟨g1, i, none⟩)), (52, L 28, nu32 ((wv l) i)), (53, L 29, nu32 x23), (9, L 30, nu32 x23), (0, true, ptA gs 0), (4, true, ptA g1 0), (5, true, ptA g2 0), (6, true, ptA g3 0), (19, true, ni64 i), (7, true, ni64 i), (8, true, nu32 ((rnds (wv l) h i) 4))] [(true, gs, T, (tab .u32 8 h ++ sp)), (true, g1, 124, (tab .u32 64 (wv l))), (true, g2, 124, (tab .u32 64 KK)), (true, g3, 111, (tab .u32 8 (rnds (wv l) h i)))] ac w) (by kernel_rfl) (by kernel_rfl) ?_ ?_ ?_
  ·exact hs.drew.skip.skip.skip.skip.skip.skip.skip.skip.skip.skip.skip.skip.skip.skip.skip.skip.skip.skip.skip.skip.skip.skip.skip.skip.skip.skip.skip.skip.skip.skip.skip
  ·refine ⟨?_, ?_, ?_, ?_, ?_, ?_, ?_, ?_, ?_, ?_, ?_, ?_, ?_, ?_, ?_, ?_, ?_, ?_, ?_, ?_, ?_, ?_, ?_, ?_, ?_, ?_, ?_, ?_, ?_, ?_, ?_, trivial⟩
   ·exact fun L ac w hs => pln (op_idxA hs (some 0) (j := 7) rfl rfl rfl rfl underlying111 sizeOf109 (by decide) (off := 7) rfl rfl fun ac hs => hs)
   ·exact fun L ac w hs => pln (oldd hs 1 3 (nu32 ((rnds (wv l) h i) 7)) isAgg109 sizeOf109 rfl rfl rfl rfl (tab_get (j := 7) (by decide)) fun ac hs => hs)
   ·exact fun L ac w hs => pln (omv hs 2 rfl rfl rfl fun ac hs => hs)
   ·exact fun L ac w hs => pln (op_call (F := 141) hs (some 3) (v := nu32 x7) rfl rfl rfl rfl (call141 _) (rot_c ((rnds (wv l) h i) 4) 6 x7 (show (rnds (wv l) h i) 4 < 4294967296 by omega) (by decide) (by decide) hx7) rfl fun ac w hs => hs)
   ·exact fun L ac w hs => pln (omv hs 4 rfl rfl rfl fun ac hs => hs)
   ·exact fun L ac w hs => pln (op_call (F := 141) hs (some 5) (v := nu32 x8) rfl rfl rfl rfl (call141 _) (rot_c ((rnds (wv l) h i) 4) 11 x8 (show (rnds (wv l) h i) 4 < 4294967296 by omega) (by decide) (by decide) hx8) rfl fun ac w hs => hs)
   ·exact fun L ac w hs => pln (obn hs 6 (nu32 x9) rfl rfl rfl rfl (bin_xorN hx9 (show x7 < 4294967296 by omega) (show x8 < 4294967296 by omega) lx9) fun ac hs => hs)
   ·exact fun L ac w hs => pln (omv hs 7 rfl rfl rfl fun ac hs => hs)
   ·exact fun L ac w hs => pln (op_call (F := 141) hs (some 8) (v := nu32 x10) rfl rfl rfl rfl (call141 _) (rot_c ((rnds (wv l) h i) 4) 25 x10 (show (rnds (wv l) h i) 4 < 4294967296 by omega) (by decide) (by decide) hx10) rfl fun ac w hs => hs)
   ·exact fun L ac w hs => pln (obn hs 9 (nu32 x11) rfl rfl rfl rfl (bin_xorN hx11 (show x9 < 4294967296 by omega) (show x10 < 4294967296 by omega) lx11) fun ac hs => hs)
   ·exact fun L ac w hs => pln (obn hs 10 (nu32 x12) rfl rfl rfl rfl (bin_addM rfl hx12) fun ac hs => hs)
   ·exact fun L ac w hs => pln (omv hs 11 rfl rfl rfl fun ac hs => hs)
   ·exact fun L ac w hs => pln (op_idxA hs (some 12) (j := 5) rfl rfl rfl rfl underlying111 sizeOf109 (by decide) (off := 5) rfl rfl fun ac hs => hs)
   ·exact fun L ac w hs => pln (oldd hs 13 3 (nu32 ((rnds (wv l) h i) 5)) isAgg109 sizeOf109 rfl rfl rfl rfl (tab_get (j := 5) (by decide)) fun ac hs => hs)
   ·exact fun L ac w hs => pln (obn hs 14 (nu32 x14) rfl rfl rfl rfl (bin_andN hx14 (show (rnds (wv l) h i) 4 < 4294967296 by omega) (show (rnds (wv l) h i) 5 < 4294967296 by omega) lx14) fun ac hs => hs)
   ·exact fun L ac w hs => pln (omv hs 15 rfl rfl rfl fun ac hs => hs)
   ·exact fun L ac w hs => pln (op_un hs (some 16) (v := nu32 x15) rfl rfl rfl (fun w => hx15 ▸ un_not32 (by omega) w) rfl fun ac hs => hs)
   ·exact fun L ac w hs => pln (op_idxA hs (some 17) (j := 6) rfl rfl rfl rfl underlying111 sizeOf109 (by decide) (off := 6) rfl rfl fun ac hs => hs)
   ·exact fun L ac w hs => pln (oldd hs 18 3 (nu32 ((rnds (wv l) h i) 6)) isAgg109 sizeOf109 rfl rfl rfl rfl (tab_get (j := 6) (by decide)) fun ac hs => hs)
   ·exact fun L ac w hs => pln (obn hs 19 (nu32 x17) rfl rfl rfl rfl (bin_andN hx17 (show x15 < 4294967296 by omega) (show (rnds (wv l) h i) 6 < 4294967296 by omega) lx17) fun ac hs => hs)
   ·exact fun L ac w hs => pln (obn hs 20 (nu32 x18) rfl rfl rfl rfl (bin_xorN hx18 (show x14 < 4294967296 by omega) (show x17 < 4294967296 by omega) lx18) fun ac hs => hs)
   ·exact fun L ac w hs => pln (obn hs 21 (nu32 x19) rfl rfl rfl rfl (bin_addM rfl hx19) fun ac hs => hs)
   ·exact fun L ac w hs => pln (omv hs 22 rfl rfl rfl fun ac hs => hs)
   ·exact fun L ac w hs => pln (op_idxA hs (some 23) (j := i) rfl rfl rfl rfl underlying124 sizeOf109 (show i < 64 by omega) (off := i) (by omega) rfl fun ac hs => hs)
   ·exact fun L ac w hs => pln (oldd hs 24 2 (nu32 (KK i)) isAgg109 sizeOf109 rfl rfl rfl rfl (tab_get (j := i) (show i < 64 by omega)) fun ac hs => hs)
   ·exact fun L ac w hs => pln (obn hs 25 (nu32 x21) rfl rfl rfl rfl (bin_addM rfl hx21) fun ac hs => hs)
   ·exact fun L ac w hs => pln (omv hs 26 rfl rfl rfl fun ac hs => hs)
   ·exact fun L ac w hs => pln (op_idxA hs (some 27) (j := i) rfl rfl rfl rfl underlying124 sizeOf109 (show i < 64 by omega) (off := i) (by omega) rfl fun ac hs => hs)
   ·exact fun L ac w hs => pln (oldd hs 28 1 (nu32 ((wv l) i)) isAgg109 sizeOf109 rfl rfl rfl rfl (tab_get (j := i) (show i < 64 by omega)) fun ac hs => hs)
   ·exact fun L ac w hs => pln (obn hs 29 (nu32 x23) rfl rfl rfl rfl (bin_addM rfl hx23) fun ac hs => hs)
   ·exact fun L ac w hs => pln (oas hs 30 rfl rfl rfl fun ac hs => hs)
  intro ac w hs
  try dsimp only [cond_true] at hs
  refine then_n (wp_seq (wp_region_lit ?_))
  refine stp (op_idxA hs none (j := 0) rfl rfl rfl rfl underlying111 sizeOf109 (by decide) (off := 0) rfl rfl fun ac hs => ?_)
  have l24 := rnds_lt (w := wv l) (h := h) hh i 0
  refine ldd hs 3 (nu32 ((rnds (wv l) h i) 0)) isAgg109 sizeOf109 rfl rfl rfl rfl (tab_get (j := 0) (by decide)) fun ac hs => ?_
  refine asg hs rfl rfl rfl fun ac hs => ?_
  refine wpList_nil (then_n (wp_seq ?_))
  replace hs := hs.nf w0 Z X [0, 4, 5, 6, 19, 9, 10] rfl rfl rfl rfl
  obtain ⟨x25, hx25, lx25⟩ : ∃ z0, rr ((rnds (wv l) h i) 0) 2 = z0 ∧ z0 < 4294967296 := ⟨_, rfl, rr_lt (show (rnds (wv l) h i) 0 < 4294967296 by omega)⟩
  obtain ⟨x26, hx26, lx26⟩ : ∃ z0, rr ((rnds (wv l) h i) 0) 13 = z0 ∧ z0 < 4294967296 := ⟨_, rfl, rr_lt (show (rnds (wv l) h i) 0 < 4294967296 by omega)⟩
  obtain ⟨x27, hx27, lx27⟩ : ∃ z0, x25 ^^^ x26 = z0 ∧ z0 < 4294967296 := ⟨_, rfl, x32 (show x25 < 4294967296 by omega) (show x26 < 4294967296 by omega)⟩
  obtain ⟨x28, hx28, lx28⟩ : ∃ z0, rr ((rnds (wv l) h i) 0) 22 = z0 ∧ z0 < 4294967296 := ⟨_, rfl, rr_lt (show (rnds (wv l) h i) 0 < 4294967296 by omega)⟩
  obtain ⟨x29, hx29, lx29⟩ : ∃ z0, x27 ^^^ x28 = z0 ∧ z0 < 4294967296 := ⟨_, rfl, x32 (show x27 < 4294967296 by omega) (show x28 < 4294967296 by omega)⟩
  have l30 := rnds_lt (w := wv l) (h := h) hh i 1
  obtain ⟨x31, hx31, lx31⟩ : ∃ z0, ((rnds (wv l) h i) 0) &&& ((rnds (wv l) h i) 1) = z0 ∧ z0 < 4294967296 := ⟨_, rfl, a32 (show (rnds (wv l) h i) 1 < 4294967296 by omega)⟩
  have l32 := rnds_lt (w := wv l) (h := h) hh i 2
  obtain ⟨x33, hx33, lx33⟩ : ∃ z0, ((rnds (wv l) h i) 0) &&& ((rnds (wv l) h i) 2) = z0 ∧ z0 < 4294967296 := ⟨_, rfl, a32 (show (rnds (wv l) h i) 2 < 4294967296 by omega)⟩
  obtain ⟨x34, hx34, lx34⟩ : ∃ z0, x31 ^^^ x33 = z0 ∧ z0 < 4294967296 := ⟨_, rfl, x32 (show x31 < 4294967296 by omega) (show x33 < 4294967296 by omega)⟩
  have l35 := rnds_lt (w := wv l) (h := h) hh i 1
  have l36 := rnds_lt (w := wv l) (h := h) hh i 2
  obtain ⟨x37, hx37, lx37⟩ : ∃ z0, ((rnds (wv l) h i) 1) &&& ((rnds (wv l) h i) 2) = z0 ∧ z0 < 4294967296 := ⟨_, rfl, a32 (show (rnds (wv l) h i) 2 < 4294967296 by omega)⟩
  obtain ⟨x38, hx38, lx38⟩ : ∃ z0, x34 ^^^ x37 = z0 ∧ z0 < 4294967296 := ⟨_, rfl, x32 (show x34 < 4294967296 by omega) (show x37 < 4294967296 by omega)⟩
  obtain ⟨x39, hx39, lx39⟩ : ∃ z0, (x29 + x38) % 4294967296 = z0 ∧ z0 < 4294967296 := ⟨_, rfl, m32 _⟩
  refine region_inv [([], [1, 3, 4, 6, 7, 23, 24]), ([0], [3, 4, 6, 7, 23, 24]), ([], [3, 4, 6, 7, 23, 24]), ([0, 1, 2], [4, 6, 7, 23, 24]), (rgn 0 4, [7, 23, 24]), ([], [6, 7, 23, 24]), ([0, 1, 2, 3, 5], [7, 23, 24]), (rgn 0 7, [23, 24]), ([], [11, 16, 22, 23, 24]), ([], [10, 11, 16, 22, 23, 24]), ([9], [11, 16, 22, 23, 24]), ([8, 9, 10], [16, 22, 23, 24]), ([], [15, 16, 22, 23, 24]), ([], [14, 15, 16, 22, 23, 24]), ([13], [15, 16, 22, 23, 24]), ([12, 13, 14], [16, 22, 23, 24]), (rgn 8 8, [22, 23, 24]), ([], [18, 21, 22, 23, 24]), ([17], rgn 21 4), ([], rgn 20 5), ([19], rgn 21 4), (rgn 17 4, [22, 23, 24]), (rgn 8 14, [23, 24]), (rgn 0 23, [24]), (rgn 0 24, [])] (fun L ac w => St 116 ⟨w0, [], [(true, .cel (.slice ad l.length c) l.length (bcs l))], Z, X⟩ [(56, L 0, nu32 ((rnds (wv l) h i) 0)), (57, L 1, nu32 x25), (58, L 2, nu32 ((rnds (wv l) h i) 0)), (59, L 3, nu32 x26), (60, L 4, nu32 x27), (61, L 5, nu32 ((rnds (wv l) h i) 0)), (62, L 6, nu32 x28), (63, L 7, nu32 x29), (64, L 8, nu32 ((rnds (wv l) h i) 0)), (65, L 9, ptA g3 1), (66, L 10, nu32 ((rnds (wv l) h i) 1)), (67, L 11, nu32 x31), (68, L 12, nu32 ((rnds (wv l) h i) 0)), (69, L 13, ptA g3 2), (70, L 14, nu32 ((rnds (wv l) h i) 2)), (71, L 15, nu32 x33), (72, L 16, nu32 x34), (73, L 17, ptA g3 1), (74, L 18, nu32 ((rnds (wv l) h i) 1)), (75, L 19, ptA g3 2), (76, L 20, nu32 ((rnds (wv l) h i) 2)), (77, L 21, nu32 x37), (78, L 22, nu32 x38), (79, L 23, nu32 x39), (11, L 24, nu32 x39), (0, true, ptA gs 0), (4, true, ptA g1 0), (5, true, ptA g2 0), (6, true, ptA g3 0), (19, true, ni64 i), (9, true, nu32 x23), (10, true, nu32 ((rnds (wv l) h i) 0))] [(true, gs, T, (tab .u32 8 h ++ sp)), (true, g1, 124, (tab .u32 64 (wv l))), (true, g2, 124, (tab .u32 64 KK)), (true, g3, 111, (tab .u32 8 (rnds (wv l) h i)))] ac w) (by kernel_rfl) (by kernel_rfl) ?_ ?_ ?_
  ·exact hs.drew.skip.skip.skip.skip.skip.skip.skip.skip.skip.skip.skip.skip.skip.skip.skip.skip.skip.skip.skip.skip.skip.skip.skip.skip.skip
  ·refine ⟨?_, ?_, ?_, ?_, ?_, ?_, ?_, ?_, ?_, ?_, ?_, ?_, ?_, ?_, ?_, ?_, ?_, ?_, ?_, ?_, ?_, ?_, ?_, ?_, ?_, trivial⟩
   ·exact fun L ac w hs => pln (omv hs 0 rfl rfl rfl fun ac hs => hs)
   ·exact fun L ac w hs => pln (op_call (F := 141) hs (some 1) (v := nu32 x25) rfl rfl rfl rfl (call141 _) (rot_c ((rnds (wv l) h i) 0) 2 x25 (show (rnds (wv l) h i) 0 < 4294967296 by omega) (by decide) (by decide) hx25) rfl fun ac w hs => hs)
   ·exact fun L ac w hs => pln (omv hs 2 rfl rfl rfl fun ac hs => hs)
   ·exact fun L ac w hs => pln (op_call (F := 141) hs (some 3) (v := nu32 x26) rfl rfl rfl rfl (call141 _) (rot_c ((rnds (wv l) h i) 0) 13 x26 (show (rnds (wv l) h i) 0 < 4294967296 by omega) (by decide) (by decide) hx26) rfl fun ac w hs => hs)
   ·exact fun L ac w hs => pln (obn hs 4 (nu32 x27) rfl rfl rfl rfl (bin_xorN hx27 (show x25 < 4294967296 by omega) (show x26 < 4294967296 by omega) lx27) fun ac hs => hs)
   ·exact fun L ac w hs => pln (omv hs 5 rfl rfl rfl fun ac hs => hs)
   ·exact fun L ac w hs => pln (op_call (F := 141) hs (some 6) (v := nu32 x28) rfl rfl rfl rfl (call141 _) (rot_c ((rnds (wv l) h i) 0) 22 x28 (show (rnds (wv l) h i) 0 < 4294967296 by omega) (by decide) (by decide) hx28) rfl fun ac w hs => hs)
   ·exact fun L ac w hs => pln (obn hs 7 (nu32 x29) rfl rfl rfl rfl (bin_xorN hx29 (show x27 < 4294967296 by omega) (show x28 < 4294967296 by omega) lx29) fun ac hs => hs)
   ·exact fun L ac w hs => pln (omv hs 8 rfl rfl rfl fun ac hs => hs)
   ·exact fun L ac w hs => pln (op_idxA hs (some 9) (j := 1) rfl rfl rfl rfl underlying111 sizeOf109 (by decide) (off := 1) rfl rfl fun ac hs => hs)
   ·exact fun L ac w hs => pln (oldd hs 10 3 (nu32 ((rnds (wv l) h i) 1)) isAgg109 sizeOf109 rfl rfl rfl rfl (tab_get (j := 1) (by decide)) fun ac hs => hs)
   ·exact fun L ac w hs => pln (obn hs 11 (nu32 x31) rfl rfl rfl rfl (bin_andN hx31 (show (rnds (wv l) h i) 0 < 4294967296 by omega) (show (rnds (wv l) h i) 1 < 4294967296 by omega) lx31) fun ac hs => hs)
   ·exact fun L ac w hs => pln (omv hs 12 rfl rfl rfl fun ac hs => hs)
   ·exact fun L ac w hs => pln (op_idxA hs (some 13) (j := 2) rfl rfl rfl rfl underlying111 sizeOf109 (by decide) (off := 2) rfl rfl fun ac hs => hs)
   ·exact fun L ac w hs => pln (oldd hs 14 3 (nu32 ((rnds (wv l) h i) 2)) isAgg109 sizeOf109 rfl rfl rfl rfl (tab_get (j := 2) (by decide)) fun ac hs => hs)
   ·exact fun L ac w hs => pln (obn hs 15 (nu32 x33) rfl rfl rfl rfl (bin_andN hx33 (show (rnds (wv l) h i) 0 < 4294967296 by omega) (show (rnds (wv l) h i) 2 < 4294967296 by omega) lx33) fun ac hs => hs)
   ·exact fun L ac w hs => pln (obn hs 16 (nu32 x34) rfl rfl rfl rfl (bin_xorN hx34 (show x31 < 4294967296 by omega) (show x33 < 4294967296 by omega) lx34) fun ac hs => hs)
   ·exact fun L ac w hs => pln (op_idxA hs (some 17) (j := 1) rfl rfl rfl rfl underlying111 sizeOf109 (by decide) (off := 1) rfl rfl fun ac hs => hs)
   ·exact fun L ac w hs => pln (oldd hs 18 3 (nu32 ((rnds (wv l) h i) 1)) isAgg109 sizeOf109 rfl rfl rfl rfl (tab_get (j := 1) (by decide)) fun ac hs => hs)
   ·exact fun L ac w hs => pln (op_idxA hs (some 19) (j := 2) rfl rfl rfl rfl underlying111 sizeOf109 (by decide) (off := 2) rfl rfl fun ac hs => hs)
   ·exact fun L ac w hs => pln (oldd hs 20 3 (nu32 ((rnds (wv l) h i) 2)) isAgg109 sizeOf109 rfl rfl rfl rfl (tab_get (j := 2) (by decide)) fun ac hs => hs)
   ·exact fun L ac w hs => pln (obn hs 21 (nu32 x37) rfl rfl rfl rfl (bin_andN hx37 (show (rnds (wv l) h i) 1 < 4294967296 by omega) (show (rnds (wv l) h i) 2 < 4294967296 by omega) lx37) fun ac hs => hs)
   ·exact fun L ac w hs => pln (obn hs 22 (nu32 x38) rfl rfl rfl rfl (bin_xorN hx38 (show x34 < 4294967296 by omega) (show x37 < 4294967296 by omega) lx38) fun ac hs => hs)
   ·exact fun L ac w hs => pln (obn hs 23 (nu32 x39) rfl rfl rfl rfl (bin_addM rfl hx39) fun ac hs => hs)
   ·exact fun L ac w hs => pln (oas hs 24 rfl rfl rfl fun ac hs => hs)
  intro ac w hs
  try dsimp only [cond_true] at hs
  refine then_n (wp_region_lit ?_)
  refine mvv hs rfl rfl rfl fun ac hs => ?_
  refine mvv hs rfl rfl rfl fun ac hs => ?_
  obtain ⟨x40, hx40, lx40⟩ : ∃ z0, (x23 + x39) % 4294967296 = z0 ∧ z0 < 4294967296 := ⟨_, rfl, m32 _⟩
  refine bnn hs (nu32 x40) rfl rfl rfl rfl (bin_addM rfl hx40) fun ac hs => ?_
  refine stp (op_idxA hs none (j := 0) rfl rfl rfl rfl underlying111 sizeOf109 (by decide) (off := 0) rfl rfl fun ac hs => ?_)
  have l41 := rnds_lt (w := wv l) (h := h) hh i 0
  refine ldd hs 3 (nu32 ((rnds (wv l) h i) 0)) isAgg109 sizeOf109 rfl rfl rfl rfl (tab_get (j := 0) (by decide)) fun ac hs => ?_
  refine stp (op_idxA hs none (j := 1) rfl rfl rfl rfl underlying111 sizeOf109 (by decide) (off := 1) rfl rfl fun ac hs => ?_)
  have l42 := rnds_lt (w := wv l) (h := h) hh i 1
  refine ldd hs 3 (nu32 ((rnds (wv l) h i) 1)) isAgg109 sizeOf109 rfl rfl rfl rfl (tab_get (j := 1) (by decide)) fun ac hs => ?_
  refine stp (op_idxA hs none (j := 2) rfl rfl rfl rfl underlying111 sizeOf109 (by decide) (off := 2) rfl rfl fun ac hs => ?_)
  have l43 := rnds_lt (w := wv l) (h := h) hh i 2
  refine ldd hs 3 (nu32 ((rnds (wv l) h i) 2)) isAgg109 sizeOf109 rfl rfl rfl rfl (tab_get (j := 2) (by decide)) fun ac hs => ?_
  refine stp (op_idxA hs none (j := 3) rfl rfl rfl rfl underlying111 sizeOf109 (by decide) (off := 3) rfl rfl fun ac hs => ?_)
  have l44 := rnds_lt (w := wv l) (h := h) hh i 3
  refine ldd hs 3 (nu32 ((rnds (wv l) h i) 3)) isAgg109 sizeOf109 rfl rfl rfl rfl (tab_get (j := 3) (by decide)) fun ac hs => ?_
  refine mvv hs rfl rfl rfl fun ac hs => ?_
  obtain ⟨x45, hx45, lx45⟩ : ∃ z0, ((rnds (wv l) h i) 3 + x23) % 4294967296 = z0 ∧ z0 < 4294967296 := ⟨_, rfl, m32 _⟩
  refine bnn hs (nu32 x45) rfl rfl rfl rfl (bin_addM rfl hx45) fun ac hs => ?_
  refine stp (op_idxA hs none (j := 4) rfl rfl rfl rfl underlying111 sizeOf109 (by decide) (off := 4) rfl rfl fun ac hs => ?_)
  have l46 := rnds_lt (w := wv l) (h := h) hh i 4
  refine ldd hs 3 (nu32 ((rnds (wv l) h i) 4)) isAgg109 sizeOf109 rfl rfl rfl rfl (tab_get (j := 4) (by decide)) fun ac hs => ?_
  refine stp (op_idxA hs none (j := 5) rfl rfl rfl rfl underlying111 sizeOf109 (by decide) (off := 5) rfl rfl fun ac hs => ?_)
  have l47 := rnds_lt (w := wv l) (h := h) hh i 5
  refine ldd hs 3 (nu32 ((rnds (wv l) h i) 5)) isAgg109 sizeOf109 rfl rfl rfl rfl (tab_get (j := 5) (by decide)) fun ac hs => ?_
  refine stp (op_idxA hs none (j := 6) rfl rfl rfl rfl underlying111 sizeOf109 (by decide) (off := 6) rfl rfl fun ac hs => ?_)
  have l48 := rnds_lt (w := wv l) (h := h) hh i 6
  refine ldd hs 3 (nu32 ((rnds (wv l) h i) 6)) isAgg109 sizeOf109 rfl rfl rfl rfl (tab_get (j := 6) (by decide)) fun ac hs => ?_
  refine stp (op_build hs none (qs := [(0, nu32 x40), (1, nu32 ((rnds (wv l) h i) 0)), (2, nu32 ((rnds (wv l) h i) 1)), (3, nu32 ((rnds (wv l) h i) 2)), (4, nu32 x45), (5, nu32 ((rnds (wv l) h i) 4)), (6, nu32 ((rnds (wv l) h i) 5)), (7, nu32 ((rnds (wv l) h i) 6))]) (v := At .u32 8 (ft8 x40 ((rnds (wv l) h i) 0) ((rnds (wv l) h i) 1) ((rnds (wv l) h i) 2) x45 ((rnds (wv l) h i) 4) ((rnds (wv l) h i) 5) ((rnds (wv l) h i) 6))) rfl rfl rfl rfl (fun _ => by kernel_rfl) rfl fun ac hs => ?_)
  refine stp (stoo hs 3 ((tab .u32 8 (ft8 x40 ((rnds (wv l) h i) 0) ((rnds (wv l) h i) 1) ((rnds (wv l) h i) 2) x45 ((rnds (wv l) h i) 4) ((rnds (wv l) h i) 5) ((rnds (wv l) h i) 6)))) sizeOf111 rfl rfl rfl rfl rfl (by kernel_rfl) tab_length' (tab_one _ _ _) tab_leA wr_tab fun w hs => ?_)
  refine wpList_nil (blk_n (then_n ?_))
  replace hs := hs.nf w0 Z X [0, 4, 5, 6, 19] rfl rfl rfl rfl
  refine wp_region_lit ?_
  refine bnn hs (ni64 (i + 1)) rfl rfl rfl rfl (bin_addN (y := 1) rfl (show i + 1 < 9223372036854775808 by omega)) fun ac hs => ?_
  refine mvv hs rfl rfl rfl fun ac hs => ?_
  refine wpList_nil (then_n ?_)
  replace hs := hs.setb 3 (cs' := (tab .u32 8 (rnds (wv l) h (i + 1)))) rfl (congrArg (tab .u32 8) (show ft8 x40 ((rnds (wv l) h i) 0) ((rnds (wv l) h i) 1) ((rnds (wv l) h i) 2) x45 ((rnds (wv l) h i) 4) ((rnds (wv l) h i) 5) ((rnds (wv l) h i) 6) = rnd (KK i) (wv l i) (rnds (wv l) h i) by simp only [rnd, t1v, t2v, hx7, hx8, hx9, hx10, hx11, hx12, hx14, hx15, hx17, hx18, hx19, hx21, hx23, hx25, hx26, hx27, hx28, hx29, hx31, hx33, hx34, hx37, hx38, hx39, hx40, hx45]))
  exact ⟨_, ⟨(i + 1), rfl, (by omega), (hs.re (fs' := [(0, true, ptA gs 0), (4, true, ptA g1 0), (5, true, ptA g2 0), (6, true, ptA g3 0), (19, true, ni64 ((i + 1)))]) ⟨rfl, rfl, rfl, rfl, rfl, trivial⟩)⟩, (by omega)⟩
 ·skip
  have hp49 := of_decide_eq_false hc
  obtain rfl : i = 64 := by have := of_decide_eq_false hc; omega
  replace hs := hs.setb 3 (cs' := (tab .u32 8 (rnds (wv l) h 64))) rfl rfl
  refine wp_exit (then_e (then_e (blk_e (then_n (wp_seq (wp_region_lit ?_))))))
  refine mvv hs rfl rfl rfl fun ac hs => ?_
  refine wpList_nil (then_n (wp_block ?_))
  replace hs := hs.setb 0 (cs' := (tab .u32 8 (addT h (rnds (wv l) h 64) 0) ++ sp)) rfl (tabs_ext fun j hj => addT_zero _ _ j)
  refine wp_loop_m (fun μ ac w => ∃ (i : Nat), (8 - i) = μ ∧ (i ≤ 8) ∧ St 116 ⟨w0, [], [(true, .cel (.slice ad l.length c) l.length (bcs l))], Z, X⟩ [(0, true, ptA gs 0), (6, true, ptA g3 0), (101, true, ni64 i)] [(true, gs, T, (tab .u32 8 (addT h (rnds (wv l) h 64) i) ++ sp)), (true, g1, 124, (tab .u32 64 (wv l))), (true, g2, 124, (tab .u32 64 KK)), (true, g3, 111, (tab .u32 8 (rnds (wv l) h 64)))] ac w) ?_ ?_
  ·exact ⟨_, 0, rfl, (by omega), (hs.re (fs' := [(0, true, ptA gs 0), (6, true, ptA g3 0), (101, true, ni64 0)]) ⟨rfl, rfl, rfl, trivial⟩)⟩
  intro μ ac w ⟨i, hμ, hi, hs⟩
  refine wp_seq (wp_region_lit ?_)
  refine bnn hs (.bool (decide (i < 8))) rfl rfl rfl rfl (bin_lssN (y := 8)) fun ac hs => ?_
  refine wpList_nil (then_n (wp_seq ?_))
  refine wp_cond_split (hs.ev rfl) (fun hc => ?_) (fun hc => ?_)
  ·skip
   have hp50 := of_decide_eq_true hc
   have hi8 := of_decide_eq_true hc
   refine wp_skip (then_n (wp_seq (wp_block (wp_seq (wp_region_lit ?_)))))
   refine mvv hs rfl rfl rfl fun ac hs => ?_
   refine asg hs rfl rfl rfl fun ac hs => ?_
   refine wpList_nil (then_n ?_)
   replace hs := hs.nf w0 Z X [0, 6, 101, 12] rfl rfl rfl rfl
   have l51 := addT_lt (v := rnds (wv l) h 64) hh i i
   have l52 := rnds_lt (w := wv l) (h := h) hh 64 i
   obtain ⟨x53, hx53, lx53⟩ : ∃ z0, ((addT h (rnds (wv l) h 64) i) i + ((rnds (wv l) h 64) i)) % 4294967296 = z0 ∧ z0 < 4294967296 := ⟨_, rfl, m32 _⟩
   refine region_inv [([], [2, 3, 4, 8, 9, 10, 11]), ([], [3, 4, 8, 10, 11]), ([0], [3, 4, 8, 10, 11]), ([0, 1, 2], [4, 8, 10, 11]), (rgn 0 4, [8, 10, 11]), ([], [6, 7, 8, 10, 11]), ([5], [7, 8, 10, 11]), ([5, 6], [8, 10, 11]), (rgn 0 8, [10, 11]), ([0], [10, 11]), (rgn 0 10, [11]), (rgn 0 11, [])] (fun L ac w => St 116 ⟨w0, [], [(true, .cel (.slice ad l.length c) l.length (bcs l))], Z, X⟩ [(104, L 0, ptA gs 0), (105, L 1, ni64 i), (106, L 2, ptA gs 0), (107, L 3, .pointer (some ⟨gs, i, none⟩)), (108, L 4, .int .u32 (((addT h (rnds (wv l) h 64) i) i : Nat) : Int)), (109, L 5, ni64 i), (110, L 6, .pointer (some ⟨g3, i, none⟩)), (111, L 7, nu32 ((rnds (wv l) h 64) i)), (112, L 8, nu32 x53), (113, L 9, ptA gs 0), (114, L 10, .pointer (some ⟨gs, i, none⟩)), (0, true, ptA gs 0), (6, true, ptA g3 0), (101, true, ni64 i), (12, true, ni64 i)] [(true, gs, T, (cond (L 11) (tab .u32 8 (upn (addT h (rnds (wv l) h 64) i) i x53) ++ sp) (tab .u32 8 (addT h (rnds (wv l) h 64) i) ++ sp))), (true, g1, 124, (tab .u32 64 (wv l))), (true, g2, 124, (tab .u32 64 KK)), (true, g3, 111, (tab .u32 8 (rnds (wv l) h 64)))] ac w) (by kernel_rfl) (by kernel_rfl) ?_ ?_ ?_
   ·exact hs.drew.skip.skip.skip.skip.skip.skip.skip.skip.skip.skip.skip
   ·refine ⟨?_, ?_, ?_, ?_, ?_, ?_, ?_, ?_, ?_, ?_, ?_, ?_, trivial⟩
    ·exact fun L ac w hs => pln (omv hs 0 rfl rfl rfl fun ac hs => hs)
    ·exact fun L ac w hs => pln (omv hs 1 rfl rfl rfl fun ac hs => hs)
    ·exact fun L ac w hs => pln (op_nilCheck hs (some 2) rfl rfl rfl rfl fun ac hs => hs)
    ·exact fun L ac w hs => pln (op_idxA hs (some 3) (j := i) rfl rfl rfl rfl underlying111 sizeOf109 (show i < 8 by omega) (off := i) (by omega) rfl fun ac hs => hs)
    ·exact fun L ac w hs => pln (oldd hs 4 0 (.int .u32 (((addT h (rnds (wv l) h 64) i) i : Nat) : Int)) isAgg109 sizeOf109 rfl rfl rfl rfl (tabs_get (j := i) (show i < 8 by omega)) fun ac hs => hs)
    ·exact fun L ac w hs => pln (omv hs 5 rfl rfl rfl fun ac hs => hs)
    ·exact fun L ac w hs => pln (op_idxA hs (some 6) (j := i) rfl rfl rfl rfl underlying111 sizeOf109 (show i < 8 by omega) (off := i) (by omega) rfl fun ac hs => hs)
    ·exact fun L ac w hs => pln (oldd hs 7 3 (nu32 ((rnds (wv l) h 64) i)) isAgg109 sizeOf109 rfl rfl rfl rfl (tab_get (j := i) (show i < 8 by omega)) fun ac hs => hs)
    ·exact fun L ac w hs => pln (obn hs 8 (nu32 x53) rfl rfl rfl rfl (bin_addM rfl hx53) fun ac hs => hs)
    ·exact fun L ac w hs => pln (op_nilCheck hs (some 9) rfl rfl rfl rfl fun ac hs => hs)
    ·exact fun L ac w hs => pln (op_idxA hs (some 10) (j := i) rfl rfl rfl rfl underlying111 sizeOf109 (show i < 8 by omega) (off := i) (by omega) rfl fun ac hs => hs)
    ·exact fun L ac w hs => pln (stoo hs 0 ([nu32 x53]) sizeOf109 rfl rfl rfl rfl rfl rfl rfl rfl (tabs_le (j := i) (show i < 8 by omega)) (tabs_set (j := i) (show i < 8 by omega)) fun w hs => hs)
   intro ac w hs
   try dsimp only [cond_true] at hs
   refine blk_n (then_n (wp_region_lit ?_))
   refine bnn hs (ni64 (i + 1)) rfl rfl rfl rfl (bin_addN (y := 1) rfl (show i + 1 < 9223372036854775808 by omega)) fun ac hs => ?_
   refine mvv hs rfl rfl rfl fun ac hs => ?_
   refine wpList_nil (then_n ?_)
   replace hs := hs.setb 0 (cs' := (tab .u32 8 (addT h (rnds (wv l) h 64) (i + 1)) ++ sp)) rfl (tabs_ext fun j hj => addT_step (by rw [← hx53, addT_at]) j)
   exact ⟨_, ⟨(i + 1), rfl, (by omega), (hs.re (fs' := [(0, true, ptA gs 0), (6, true, ptA g3 0), (101, true, ni64 ((i + 1)))]) ⟨rfl, rfl, rfl, trivial⟩)⟩, (by omega)⟩
  ·skip
   have hp54 := of_decide_eq_false hc
   obtain rfl : i = 8 := by have := of_decide_eq_false hc; omega
   replace hs := hs.setb 0 (cs' := (tab .u32 8 (blk h l) ++ sp)) rfl (tabs_ext fun j hj => addT_end hj)
   refine wp_exit (then_e (then_e (blk_e ?_)))
   exact bodyPost_end (res0 rfl) hs.defers ⟨(), rfl, ((hs.selS [0] rfl (by decide)).selB [0] rfl (by decide)).mem⟩
theorem new_c  (w0 : World) (Z X : Nat → Prop) (hm : Mem ⟨w0, [], [], Z, X⟩ [] w0) : Calls prog 96 #[] w0 fun e w' => PostX w0 Z X (ρ := Nat) (fun r => ptA r 0) (fun r => [(true, r, 114, tab .u32 8 HH0 ++ ([.slice none 0 0, nu64 0] : List Value))]) (fun r => []) e w' := by
 refine enterX (n := 4) (args := []) func96 rfl rfl (Nat.le_of_ble_eq_true rfl) hm fun ac hs => ?_
 refine wp_seq (wp_region_lit ?_)
 refine asg hs rfl rfl rfl fun ac hs => ?_
 refine wpList_nil (then_n (wp_seq (wp_region_lit ?_)))
 refine stp (op_call (F := 129) hs none (v := At .u32 8 HH0) rfl rfl rfl rfl (call129 _) firsts_c rfl fun ac w hs => ?_)
 refine stp (op_build hs none (qs := [(0, At .u32 8 HH0)]) (v := .agg (tab .u32 8 HH0 ++ ([.slice none 0 0, .int .u64 0] : List Value)).toArray) rfl rfl rfl rfl (fun _ => by kernel_rfl) rfl fun ac hs => ?_)
 refine stp (op_box hs none none (cs := (tab .u32 8 HH0 ++ ([.slice none 0 0, .int .u64 0] : List Value))) rfl rfl rfl rfl rfl rfl fun g1 ac w hs => ?_)
 refine asg hs rfl rfl rfl fun ac hs => ?_
 refine wpList_nil (then_n (wp_ret ?_))
 exact bodyPost_ret (res1 rfl (rv_t hs rfl)) hs.defers ⟨g1, rfl, ((hs.selS [] rfl (by decide)).selB [0] rfl (by decide)).mem⟩
end Go.Proofs.YtejbajgpiecjcaaGreat

/- SHA-256: the program's, the document's. -/
namespace Go.Proofs.YtejbajgpiecjcaaGreat
open Go.RowKit _root_.Go.Proofs.Tryz
set_option maxRecDepth 10000
set_option maxHeartbeats 1000000
theorem rst0 : 0 = (rst []).length ∧ bcs [] = bcs (rst []) := ⟨by rw [rst_end (by decide)]; rfl, by rw [rst_end (by decide)]⟩
theorem hash0 : tab .u32 8 HH0 ++ ([.slice none 0 0, nu64 0] : List Value) = tab .u32 8 (blks HH0 []) ++ ([.slice none (rst []).length 0, nu64 (([] : List UInt8).length)] : List Value) := by
 rw [blks_end (by decide), rst_end (by decide)]; rfl
theorem write_c (gh : Nat) (ar : Option Addr) (cr : Nat) (m : List UInt8) (ab : Option Addr) (cb : Nat) (b : List UInt8) (hmb : m.length + b.length ≤ 900000) (w0 : World) (Z X : Nat → Prop) (hm : Mem ⟨w0, [], [(true, .cel (.slice ar ((rst m).length) cr) ((rst m).length) (bcs (rst m))), (true, .cel (.slice ab b.length cb) b.length (bcs b))], Z, X⟩ [(true, gh, 114, (tab .u32 8 (blks HH0 m) ++ ([.slice ar ((rst m).length) cr, nu64 (m.length)] : List Value)))] w0) : Calls prog 97 #[ptA gh 0, .slice ab b.length cb] w0 fun e w' => PostX w0 Z X (ρ := Option Addr × Nat) (fun r => .tuple #[]) (fun r => [(true, gh, 114, tab .u32 8 (blks HH0 (m ++ b)) ++ ([.slice r.1 (rst (m ++ b)).length r.2, nu64 ((m ++ b).length)] : List Value))]) (fun r => [(true, .cel (.slice r.1 (rst (m ++ b)).length r.2) (rst (m ++ b)).length (bcs (rst (m ++ b)))), (true, .cel (.slice ab b.length cb) b.length (bcs b))]) e w' := by
 have hrl := rst_lt m
 refine enterX (n := 59) (args := [ptA gh 0, .slice ab b.length cb]) func97 rfl rfl (Nat.le_of_ble_eq_true rfl) hm fun ac hs => ?_
 refine wp_seq (wp_seq (wp_region_lit ?_))
 refine mvv hs rfl rfl rfl fun ac hs => ?_
 refine bnn hs (.bool false) rfl rfl rfl rfl (bin_eqlP0 underlying95) fun ac hs => ?_
 refine wpList_nil (then_n ?_)
 refine wp_cond_false (hs.ev rfl) ?_
 refine wp_skip (then_n (wp_seq (wp_region_lit ?_)))
 refine mvv hs rfl rfl rfl fun ac hs => ?_
 refine stp (op_nilCheck hs none rfl rfl rfl rfl fun ac hs => ?_)
 refine stp (op_fieldA hs none rfl rfl rfl underlying114 rfl sizeOf22 (by decide) rfl fun ac hs => ?_)
 refine ldd hs 0 (nu64 (m.length)) isAgg22 sizeOf22 rfl rfl rfl rfl (tabs_tail (i := 1) rfl rfl) fun ac hs => ?_
 refine mvv hs rfl rfl rfl fun ac hs => ?_
 refine stp (op_blt hs none (v := ni64 (b.length)) rfl rfl rfl (blt_len underlying25) rfl fun ac hs => ?_)
 refine stp (op_convert hs none (v := nu64 (b.length)) rfl rfl rfl (conv_N underlying3 underlying22 (show b.length < 18446744073709551616 by omega)) rfl fun ac hs => ?_)
 refine bnn hs (nu64 (m.length + b.length)) rfl rfl rfl rfl (bin_addN rfl (show m.length + b.length < 18446744073709551616 by omega)) fun ac hs => ?_
 refine stp (op_nilCheck hs none rfl rfl rfl rfl fun ac hs => ?_)
 refine stp (op_fieldA hs none rfl rfl rfl underlying114 rfl sizeOf22 (by decide) rfl fun ac hs => ?_)
 refine stp (stoo hs 0 ([nu64 (m.length + b.length)]) sizeOf22 rfl rfl rfl rfl rfl rfl rfl rfl (tabs_tle (i := 1) rfl (Nat.le_of_ble_eq_true rfl)) (tabs_wr (i := 1) rfl rfl) fun w hs => ?_)
 refine wpList_nil (then_n (wp_seq ?_))
 replace hs := hs.nf w0 Z X [0, 1] rfl rfl rfl rfl
 refine region_inv [([], [18, 19, 20]), ([], [2, 3, 4, 15, 17, 18, 19, 20]), ([1], [3, 4, 15, 17, 18, 19, 20]), ([1, 2], [4, 15, 17, 18, 19, 20]), ([1, 2, 3], [15, 17, 18, 19, 20]), ([], [6, 7, 8, 9, 15, 17, 18, 19, 20]), ([5], [7, 8, 9, 15, 17, 18, 19, 20]), ([5, 6], [8, 9, 15, 17, 18, 19, 20]), ([5, 6, 7], [9, 15, 17, 18, 19, 20]), (rgn 5 4, [15, 17, 18, 19, 20]), ([], [11, 12, 13, 14, 15, 17, 18, 19, 20]), ([10], [12, 13, 14, 15, 17, 18, 19, 20]), ([10, 11], [13, 14, 15, 17, 18, 19, 20]), ([10, 11, 12], [14, 15, 17, 18, 19, 20]), (rgn 10 4, [15, 17, 18, 19, 20]), (rgn 1 14, rgn 17 4), ([], rgn 17 4), (rgn 1 16, [18, 19, 20]), (rgn 0 18, [19, 20]), (rgn 0 19, [20]), (rgn 0 20, [])] (fun L ac w => ∃ (ad1 : Option Addr) (cp2 : Nat), St 59 ⟨w0, [], [(true, .cel (.slice ar ((rst m).length) cr) ((rst m).length) (bcs (rst m))), (true, .cel (.slice ab b.length cb) b.length (bcs b)), (L 15, .cel (.slice (vsa ar ((rst m).length) 1 0) ((rst m).length - 0) ((rst m).length - 0)) ((rst m).length - 0) (bcs (rst m))), (L 17, .cel (.slice ad1 ((rst m ++ b).length) cp2) ((rst m ++ b).length) (bcs (rst m ++ b)))], Z, X⟩ [(16, L 0, ptA gh 0), (17, L 1, ptA gh 0), (18, L 2, ptA gh 0), (19, L 3, ptA gh 8), (20, L 4, .slice ar ((rst m).length) cr), (21, L 5, ptA gh 0), (22, L 6, ptA gh 0), (23, L 7, ptA gh 8), (24, L 8, .slice ar ((rst m).length) cr), (25, L 9, ni64 ((rst m).length)), (26, L 10, ptA gh 0), (27, L 11, ptA gh 0), (28, L 12, ptA gh 8), (29, L 13, .slice ar ((rst m).length) cr), (30, L 14, ni64 ((rst m).length)), (31, L 15, .slice (vsa ar ((rst m).length) 1 0) ((rst m).length - 0) ((rst m).length - 0)), (32, L 16, .slice ab b.length cb), (33, L 17, .slice ad1 ((rst m ++ b).length) cp2), (34, L 18, ptA gh 0), (35, L 19, ptA gh 8), (0, true, ptA gh 0), (1, true, .slice ab b.length cb)] [(true, gh, 114, (cond (L 20) (tab .u32 8 (blks HH0 m) ++ ([.slice ad1 ((rst m ++ b).length) cp2, nu64 (m.length + b.length)] : List Value)) (tab .u32 8 (blks HH0 m) ++ ([.slice ar ((rst m).length) cr, nu64 (m.length + b.length)] : List Value))))] ac w) (by kernel_rfl) (by kernel_rfl) ?_ ?_ ?_
 ·exact ⟨none, 0, hs.drew.skip.skip.skip.skip.skip.skip.skip.skip.skip.skip.skip.skip.skip.skip.skip.skip.skip.skip.skip.skip.padS.padS⟩
 ·refine ⟨?_, ?_, ?_, ?_, ?_, ?_, ?_, ?_, ?_, ?_, ?_, ?_, ?_, ?_, ?_, ?_, ?_, ?_, ?_, ?_, ?_, trivial⟩
  ·exact fun L ac w ⟨ad1, cp2, hs⟩ => pln (omv hs 0 rfl rfl rfl fun ac hs => ⟨ad1, cp2, hs⟩)
  ·exact fun L ac w ⟨ad1, cp2, hs⟩ => pln (omv hs 1 rfl rfl rfl fun ac hs => ⟨ad1, cp2, hs⟩)
  ·exact fun L ac w ⟨ad1, cp2, hs⟩ => pln (op_nilCheck hs (some 2) rfl rfl rfl rfl fun ac hs => ⟨ad1, cp2, hs⟩)
  ·exact fun L ac w ⟨ad1, cp2, hs⟩ => pln (op_fieldA hs (some 3) rfl rfl rfl underlying114 rfl sizeOf25 (by decide) rfl fun ac hs => ⟨ad1, cp2, hs⟩)
  ·exact fun L ac w ⟨ad1, cp2, hs⟩ => pln (oldd hs 4 0 (.slice ar ((rst m).length) cr) isAgg25 sizeOf25 rfl rfl rfl rfl (tabs_tail (i := 0) rfl rfl) fun ac hs => ⟨ad1, cp2, hs⟩)
  ·exact fun L ac w ⟨ad1, cp2, hs⟩ => pln (omv hs 5 rfl rfl rfl fun ac hs => ⟨ad1, cp2, hs⟩)
  ·exact fun L ac w ⟨ad1, cp2, hs⟩ => pln (op_nilCheck hs (some 6) rfl rfl rfl rfl fun ac hs => ⟨ad1, cp2, hs⟩)
  ·exact fun L ac w ⟨ad1, cp2, hs⟩ => pln (op_fieldA hs (some 7) rfl rfl rfl underlying114 rfl sizeOf25 (by decide) rfl fun ac hs => ⟨ad1, cp2, hs⟩)
  ·exact fun L ac w ⟨ad1, cp2, hs⟩ => pln (oldd hs 8 0 (.slice ar ((rst m).length) cr) isAgg25 sizeOf25 rfl rfl rfl rfl (tabs_tail (i := 0) rfl rfl) fun ac hs => ⟨ad1, cp2, hs⟩)
  ·exact fun L ac w ⟨ad1, cp2, hs⟩ => pln (op_blt hs (some 9) (v := ni64 ((rst m).length)) rfl rfl rfl (blt_len underlying25) rfl fun ac hs => ⟨ad1, cp2, hs⟩)
  ·exact fun L ac w ⟨ad1, cp2, hs⟩ => pln (omv hs 10 rfl rfl rfl fun ac hs => ⟨ad1, cp2, hs⟩)
  ·exact fun L ac w ⟨ad1, cp2, hs⟩ => pln (op_nilCheck hs (some 11) rfl rfl rfl rfl fun ac hs => ⟨ad1, cp2, hs⟩)
  ·exact fun L ac w ⟨ad1, cp2, hs⟩ => pln (op_fieldA hs (some 12) rfl rfl rfl underlying114 rfl sizeOf25 (by decide) rfl fun ac hs => ⟨ad1, cp2, hs⟩)
  ·exact fun L ac w ⟨ad1, cp2, hs⟩ => pln (oldd hs 13 0 (.slice ar ((rst m).length) cr) isAgg25 sizeOf25 rfl rfl rfl rfl (tabs_tail (i := 0) rfl rfl) fun ac hs => ⟨ad1, cp2, hs⟩)
  ·exact fun L ac w ⟨ad1, cp2, hs⟩ => pln (op_blt hs (some 14) (v := ni64 ((rst m).length)) rfl rfl rfl (blt_len underlying25) rfl fun ac hs => ⟨ad1, cp2, hs⟩)
  ·exact fun L ac w ⟨ad1, cp2, hs⟩ => pln (op_slice3B hs (some 15) (some 2) 0 ((rst m).length) (l := rst m) rfl rfl rfl rfl rfl rfl underlying25 sizeOf5 rfl rfl rfl fun ac hs => ⟨ad1, cp2, hs⟩)
  ·exact fun L ac w ⟨ad1, cp2, hs⟩ => pln (omv hs 16 rfl rfl rfl fun ac hs => ⟨ad1, cp2, hs⟩)
  ·exact fun L ac w ⟨ad1, cp2, hs⟩ => pln (op_appF hs (some 17) (some 3) 2 1 (N' := (rst m ++ b).length) (ys := bcs (rst m ++ b)) rfl rfl rfl rfl rfl rfl underlying25 inf_u8_5 rfl (by decide) (bcs_len1 rfl) (bcs_len1 rfl) (bcs_one _) (by decide) (show (rst m).length - 0 + b.length ≤ 1000000 by omega) (by simp only [List.length_append] <;> omega) (bcs_append _ _) rfl rfl fun ad1 cp2 ac w hs => ⟨ad1, cp2, hs⟩)
  ·exact fun L ac w ⟨ad1, cp2, hs⟩ => pln (op_nilCheck hs (some 18) rfl rfl rfl rfl fun ac hs => ⟨ad1, cp2, hs⟩)
  ·exact fun L ac w ⟨ad1, cp2, hs⟩ => pln (op_fieldA hs (some 19) rfl rfl rfl underlying114 rfl sizeOf25 (by decide) rfl fun ac hs => ⟨ad1, cp2, hs⟩)
  ·exact fun L ac w ⟨ad1, cp2, hs⟩ => pln (stoo hs 0 ([.slice ad1 ((rst m ++ b).length) cp2]) sizeOf25 rfl rfl rfl rfl rfl rfl rfl rfl (tabs_tle (i := 0) rfl (Nat.le_of_ble_eq_true rfl)) (tabs_wr (i := 0) rfl rfl) fun w hs => ⟨ad1, cp2, hs⟩)
 intro ac w ⟨ad1, cp2, hs⟩
 try dsimp only [cond_true] at hs
 refine then_n (wp_block ?_)
 refine wp_loop_m (fun μ ac w => ∃ (h1 : Nat → Nat) (l1 : List UInt8) (a1 : Option Addr) (c1 : Nat), (l1.length) = μ ∧ (∀ j, h1 j < 4294967296) ∧ (blks (blks HH0 m) (rst m ++ b) = blks h1 l1) ∧ (rst (rst m ++ b) = rst l1) ∧ (l1.length ≤ 1000000) ∧ St 59 ⟨w0, [], [(true, .cel (.slice a1 l1.length c1) l1.length (bcs l1)), (true, .cel (.slice ab b.length cb) b.length (bcs b))], Z, X⟩ [(0, true, ptA gh 0)] [(true, gh, 114, (tab .u32 8 h1 ++ ([.slice a1 l1.length c1, nu64 (m.length + b.length)] : List Value)))] ac w) ?_ ?_
 replace hs := hs.selS [3, 1] rfl (by decide)
 ·exact ⟨_, (blks HH0 m), (rst m ++ b), ad1, cp2, rfl, (fun j => blks_lt HH0_lt m j), rfl, rfl, (by simp only [List.length_append]; omega), (hs.re (fs' := [(0, true, ptA gh 0)]) ⟨rfl, trivial⟩)⟩
 intro μ ac w ⟨h1, l1, a1, c1, hμ, hh1, hb1, hr1, hl1, hs⟩
 refine wp_seq (wp_seq (wp_region_lit ?_))
 refine mvv hs rfl rfl rfl fun ac hs => ?_
 refine stp (op_nilCheck hs none rfl rfl rfl rfl fun ac hs => ?_)
 refine stp (op_fieldA hs none rfl rfl rfl underlying114 rfl sizeOf25 (by decide) rfl fun ac hs => ?_)
 refine ldd hs 0 (.slice a1 l1.length c1) isAgg25 sizeOf25 rfl rfl rfl rfl (tabs_tail (i := 0) rfl rfl) fun ac hs => ?_
 refine stp (op_blt hs none (v := ni64 (l1.length)) rfl rfl rfl (blt_len underlying25) rfl fun ac hs => ?_)
 refine bnn hs (.bool (decide (64 ≤ l1.length))) rfl rfl rfl rfl (bin_geqN (y := 64)) fun ac hs => ?_
 refine wpList_nil (then_n ?_)
 refine wp_cond_split (hs.ev rfl) (fun hc => ?_) (fun hc => ?_)
 ·skip
  have hp3 := of_decide_eq_true hc
  have h64 := of_decide_eq_true hc
  refine wp_skip (then_n (wp_block (wp_seq ?_)))
  replace hs := hs.nf w0 Z X [0] rfl rfl rfl rfl
  refine region_inv [([], [1, 2, 8]), ([0], [2, 8]), ([0, 1], [8]), ([], rgn 4 5), ([3], rgn 5 4), ([3, 4], [6, 7, 8]), ([3, 4, 5], [7, 8]), (rgn 3 4, [8]), (rgn 0 8, [])] (fun L ac w => St 59 ⟨w0, [], [(true, .cel (.slice a1 l1.length c1) l1.length (bcs l1)), (true, .cel (.slice ab b.length cb) b.length (bcs b)), (L 7, .cel (.slice (vsa a1 c1 1 0) ((l1.take 64).length) (c1 - 0)) ((l1.take 64).length) (bcs (l1.take 64)))], Z, X⟩ [(42, L 0, ptA gh 0), (43, L 1, ptA gh 0), (44, L 2, ptA gh 0), (45, L 3, ptA gh 0), (46, L 4, ptA gh 0), (47, L 5, ptA gh 8), (48, L 6, .slice a1 l1.length c1), (49, L 7, .slice (vsa a1 c1 1 0) ((l1.take 64).length) (c1 - 0)), (50, L 8, .tuple #[]), (0, true, ptA gh 0)] [(true, gh, 114, (cond (L 8) (tab .u32 8 (blk h1 (l1.take 64)) ++ ([.slice a1 l1.length c1, nu64 (m.length + b.length)] : List Value)) (tab .u32 8 h1 ++ ([.slice a1 l1.length c1, nu64 (m.length + b.length)] : List Value))))] ac w) (by kernel_rfl) (by kernel_rfl) ?_ ?_ ?_
  ·exact hs.drew.skip.skip.skip.skip.skip.skip.skip.skip.skip.padS
  ·refine ⟨?_, ?_, ?_, ?_, ?_, ?_, ?_, ?_, ?_, trivial⟩
   ·exact fun L ac w hs => pln (omv hs 0 rfl rfl rfl fun ac hs => hs)
   ·exact fun L ac w hs => pln (op_nilCheck hs (some 1) rfl rfl rfl rfl fun ac hs => hs)
   ·exact fun L ac w hs => pln (op_fieldA hs (some 2) rfl rfl rfl underlying114 rfl sizeOf111 (by decide) rfl fun ac hs => hs)
   ·exact fun L ac w hs => pln (omv hs 3 rfl rfl rfl fun ac hs => hs)
   ·exact fun L ac w hs => pln (op_nilCheck hs (some 4) rfl rfl rfl rfl fun ac hs => hs)
   ·exact fun L ac w hs => pln (op_fieldA hs (some 5) rfl rfl rfl underlying114 rfl sizeOf25 (by decide) rfl fun ac hs => hs)
   ·exact fun L ac w hs => pln (oldd hs 6 0 (.slice a1 l1.length c1) isAgg25 sizeOf25 rfl rfl rfl rfl (tabs_tail (i := 0) rfl rfl) fun ac hs => hs)
   ·exact fun L ac w hs => pln (op_sliceR hs (some 7) (some 2) 0 0 64 (N' := (l1.take 64).length) (cs' := bcs (l1.take 64)) rfl rfl rfl rfl (.inl ⟨rfl, rfl⟩) (.inr ⟨_, _, rfl, rfl⟩) underlying25 sizeOf5 (show 0 ≤ 64 by omega) (show 64 ≤ l1.length by omega) (len_hi (show 64 ≤ l1.length by omega)) bcs_hi rfl rfl fun ac hs => hs)
   ·exact fun L ac w hs => pln (op_callX (F := 130) (ρ := Unit) hs (some 8) none [0] [2] (v := fun r => .tuple #[]) (S1 := [(true, .cel (.slice (vsa a1 c1 1 0) ((l1.take 64).length) (c1 - 0)) ((l1.take 64).length) (bcs (l1.take 64)))]) (bs1 := [(true, gh, 114, (tab .u32 8 h1 ++ ([.slice a1 l1.length c1, nu64 (m.length + b.length)] : List Value)))]) (E := fun r => [(true, .cel (.slice (vsa a1 c1 1 0) ((l1.take 64).length) (c1 - 0)) ((l1.take 64).length) (bcs (l1.take 64)))]) (E1 := fun r => [(true, .cel (.slice (vsa a1 c1 1 0) ((l1.take 64).length) (c1 - 0)) ((l1.take 64).length) (bcs (l1.take 64)))]) (E2 := fun r => []) (bfA := fun r => [(true, gh, 114, (tab .u32 8 (blk h1 (l1.take 64)) ++ ([.slice a1 l1.length c1, nu64 (m.length + b.length)] : List Value)))]) (bf := fun r => [(true, gh, 114, (tab .u32 8 (blk h1 (l1.take 64)) ++ ([.slice a1 l1.length c1, nu64 (m.length + b.length)] : List Value)))]) (bf2 := fun r => []) rfl rfl rfl rfl rfl (call130 _) rfl rfl (by decide) (by decide) (fun Z X hm => take_c gh 114 h1 ([.slice a1 l1.length c1, nu64 (m.length + b.length)] : List Value) (fun j => hh1 j) (vsa a1 c1 1 0) (c1 - 0) (l1.take 64) (show (l1.take 64).length = 64 by first | omega | ((try simp only [List.length_drop, List.length_take, List.length_append, List.length_cons, List.length_nil]); omega)) _ _ _ hm) (fun _ => rfl) (fun _ => rfl) (fun _ => rfl) (fun _ => rfl) (fun _ => rfl) rfl fun _ ac w hs => hs)
  intro ac w hs
  try dsimp only [cond_true] at hs
  refine then_n (wp_region_lit ?_)
  refine mvv hs rfl rfl rfl fun ac hs => ?_
  refine mvv hs rfl rfl rfl fun ac hs => ?_
  refine stp (op_nilCheck hs none rfl rfl rfl rfl fun ac hs => ?_)
  refine stp (op_fieldA hs none rfl rfl rfl underlying114 rfl sizeOf25 (by decide) rfl fun ac hs => ?_)
  refine ldd hs 0 (.slice a1 l1.length c1) isAgg25 sizeOf25 rfl rfl rfl rfl (tabs_tail (i := 0) rfl rfl) fun ac hs => ?_
  refine stp (op_sliceR hs none none 0 64 l1.length (N' := (l1.drop 64).length) (cs' := bcs (l1.drop 64)) rfl rfl rfl rfl (.inr ⟨_, _, rfl, rfl⟩) (.inl ⟨rfl, rfl⟩) underlying25 sizeOf5 (show 64 ≤ l1.length by omega) (show l1.length ≤ l1.length by omega) len_lo bcs_lo rfl rfl fun ac hs => ?_)
  refine stp (op_nilCheck hs none rfl rfl rfl rfl fun ac hs => ?_)
  refine stp (op_fieldA hs none rfl rfl rfl underlying114 rfl sizeOf25 (by decide) rfl fun ac hs => ?_)
  refine stp (stoo hs 0 ([.slice (vsa a1 c1 1 64) ((l1.drop 64).length) (c1 - 64)]) sizeOf25 rfl rfl rfl rfl rfl rfl rfl rfl (tabs_tle (i := 0) rfl (Nat.le_of_ble_eq_true rfl)) (tabs_wr (i := 0) rfl rfl) fun w hs => ?_)
  refine wpList_nil (blk_n (then_n ?_))
  replace hs := hs.selS [3, 1] rfl (by decide)
  exact ⟨_, ⟨(blk h1 (l1.take 64)), (l1.drop 64), (vsa a1 c1 1 64), (c1 - 64), rfl, (fun j => blk_lt _ _ j), (hb1.trans (blks_step (by omega))), (hr1.trans (rst_step (by omega))), (by simp only [List.length_drop]; omega), (hs.re (fs' := [(0, true, ptA gh 0)]) ⟨rfl, trivial⟩)⟩, (by simp only [List.length_drop]; omega)⟩
 ·skip
  have hp4 := of_decide_eq_false hc
  have h64 := of_decide_eq_false hc
  have hbe : blks HH0 (m ++ b) = h1 := by rw [← wr_h, hb1, blks_end (by omega)]
  have hre : rst (m ++ b) = l1 := by rw [rst_append, hr1, rst_end (by omega)]
  refine wp_exit (then_e (then_e (blk_e ?_)))
  subst hbe; subst hre
  replace hs := hs.setb 0 (cs' := (tab .u32 8 (blks HH0 (m ++ b)) ++ ([.slice a1 ((rst (m ++ b)).length) c1, nu64 ((m ++ b).length)] : List Value))) rfl (by simp only [List.length_append])
  exact bodyPost_end (res0 rfl) hs.defers ⟨⟨a1, c1⟩, rfl, ((hs.selS [0, 1] rfl (by decide)).selB [0] rfl (by decide)).mem⟩
theorem hsum_c (gh : Nat) (ar : Option Addr) (cr : Nat) (m : List UInt8) (hmb : m.length ≤ 900000) (w0 : World) (Z X : Nat → Prop) (hm : Mem ⟨w0, [], [(true, .cel (.slice ar ((rst m).length) cr) ((rst m).length) (bcs (rst m)))], Z, X⟩ [(true, gh, 114, (tab .u32 8 (blks HH0 m) ++ ([.slice ar ((rst m).length) cr, nu64 (m.length)] : List Value)))] w0) : Calls prog 98 #[ptA gh 0] w0 fun e w' => PostX w0 Z X (ρ := Unit) (fun r => At .u8 32 (sha m)) (fun r => [(true, gh, 114, tab .u32 8 (blks HH0 m) ++ ([.slice ar (rst m).length cr, nu64 (m.length)] : List Value))]) (fun r => [(true, .cel (.slice ar (rst m).length cr) (rst m).length (bcs (rst m)))]) e w' := by
 have hrl := rst_lt m
 refine enterX (n := 81) (args := [ptA gh 0]) func98 rfl rfl (Nat.le_of_ble_eq_true rfl) hm fun ac hs => ?_
 refine wp_seq (wp_region_lit ?_)
 refine stp (op_alloc hs none none (cs := (tab .u8 32 (fun _ => 0))) rfl rfl zeroValue30 (by kernel_rfl) rfl rfl fun g1 ac w hs => ?_)
 refine wpList_nil (then_n (wp_seq (wp_seq (wp_region_lit ?_))))
 refine mvv hs rfl rfl rfl fun ac hs => ?_
 refine bnn hs (.bool false) rfl rfl rfl rfl (bin_eqlP0 underlying95) fun ac hs => ?_
 refine wpList_nil (then_n ?_)
 refine wp_cond_false (hs.ev rfl) ?_
 refine wp_skip (then_n (wp_seq (wp_region_lit ?_)))
 refine stp (op_bsO0 hs none none (size := 1) rfl rfl underlying25 inf_u8_5 rfl rfl fun ad3 ac w hs => ?_)
 refine mvv hs rfl rfl rfl fun ac hs => ?_
 refine stp (op_nilCheck hs none rfl rfl rfl rfl fun ac hs => ?_)
 refine stp (op_fieldA hs none rfl rfl rfl underlying114 rfl sizeOf25 (by decide) rfl fun ac hs => ?_)
 refine ldd hs 0 (.slice ar ((rst m).length) cr) isAgg25 sizeOf25 rfl rfl rfl rfl (tabs_tail (i := 0) rfl rfl) fun ac hs => ?_
 refine stp (op_appR hs none 1 0 (N' := (rst m).length) (ys := bcs (rst m)) rfl rfl rfl rfl rfl rfl underlying25 inf_u8_5 rfl (by decide) (bcs_len1 rfl) (bcs_one _) (by decide) (show 0 + ((rst m).length) ≤ 1000000 by omega) (Nat.zero_add _) rfl rfl rfl fun ad4 cp5 ac w hs => ?_)
 refine asg hs rfl rfl rfl fun ac hs => ?_
 refine wpList_nil (then_n (wp_seq ?_))
 replace hs := hs.nf w0 Z X [0, 2, 3] rfl rfl rfl rfl
 refine wp_region_lit ?_
 refine mvv hs rfl rfl rfl fun ac hs => ?_
 refine stp (op_bsO hs none none (qs := [(0, .int .u8 128)]) (cs := [.int .u8 128]) (cs' := bcs [UInt8.ofNat 128]) rfl rfl rfl rfl underlying25 inf_u8_5 (by decide) (by decide) (fill_one _ _ rfl ) rfl (bcs_cons (by decide) rfl) rfl rfl fun ad7 ac w hs => ?_)
 refine stp (op_appR hs none 1 2 (N' := (rst m ++ [UInt8.ofNat 128]).length) (ys := bcs (rst m ++ [UInt8.ofNat 128])) rfl rfl rfl rfl rfl rfl underlying25 inf_u8_5 rfl (by decide) (bcs_len1 rfl) (bcs_one _) (by decide) (show (rst m).length + 1 ≤ 1000000 by omega) (by simp only [List.length_append, List.length_cons, List.length_nil] <;> omega) (bcs_append _ _) rfl rfl fun ad8 cp9 ac w hs => ?_)
 refine asg hs rfl rfl rfl fun ac hs => ?_
 refine wpList_nil (then_n (wp_seq (wp_block ?_)))
 rw [show rst m ++ [UInt8.ofNat 128] = rst m ++ tl0 0 from rfl] at hs
 refine wp_loop_m (fun μ ac w => ∃ (j : Nat) (ao : Option Addr) (co : Nat), (zs64 (rst m).length - j) = μ ∧ (j ≤ zs64 (rst m).length) ∧ St 81 ⟨w0, [], [(true, .cel (.slice ar ((rst m).length) cr) ((rst m).length) (bcs (rst m))), (true, .own (.slice ao ((rst m ++ tl0 j).length) co) 5 1 ((rst m ++ tl0 j).length) (bcs (rst m ++ tl0 j)))], Z, X⟩ [(0, true, ptA gh 0), (2, true, ptA g1 0), (3, true, .slice ao ((rst m ++ tl0 j).length) co)] [(true, gh, 114, (tab .u32 8 (blks HH0 m) ++ ([.slice ar ((rst m).length) cr, nu64 (m.length)] : List Value))), (true, g1, 30, (tab .u8 32 (fun _ => 0)))] ac w) ?_ ?_
 replace hs := hs.selS [0, 1] rfl (by decide)
 ·exact ⟨_, 0, ad8, cp9, rfl, (Nat.zero_le _), (hs.re (fs' := [(0, true, ptA gh 0), (2, true, ptA g1 0), (3, true, .slice ad8 ((rst m ++ tl0 0).length) cp9)]) ⟨rfl, rfl, rfl, trivial⟩)⟩
 intro μ ac w ⟨j, ao, co, hμ, hj, hs⟩
 have hll : (rst m ++ tl0 j).length = (rst m).length + (j + 1) := by rw [List.length_append, tl0_len]
 have hz63 : zs64 (rst m).length < 64 := Nat.mod_lt _ (by decide)
 refine wp_seq (wp_seq (wp_region_lit ?_))
 refine mvv hs rfl rfl rfl fun ac hs => ?_
 refine stp (op_blt hs none (v := ni64 ((rst m ++ tl0 j).length)) rfl rfl rfl (blt_len underlying25) rfl fun ac hs => ?_)
 refine bnn hs (ni64 (((rst m ++ tl0 j).length) % 64)) rfl rfl rfl rfl (bin_remN (y := 64) rfl (by decide)) fun ac hs => ?_
 refine bnn hs (.bool (decide (((rst m ++ tl0 j).length) % 64 ≠ 56))) rfl rfl rfl rfl (bin_neqN (y := 56)) fun ac hs => ?_
 refine wpList_nil (then_n ?_)
 refine wp_cond_split (hs.ev rfl) (fun hc => ?_) (fun hc => ?_)
 ·skip
  have hp10 := of_decide_eq_true hc
  have hz : ¬ ((rst m).length + (j + 1)) % 64 = 56 := by rw [← hll]; exact of_decide_eq_true hc
  refine wp_skip (then_n (wp_block (wp_region_lit ?_)))
  refine mvv hs rfl rfl rfl fun ac hs => ?_
  refine stp (op_bsO hs none none (qs := [(0, .int .u8 0)]) (cs := [.int .u8 0]) (cs' := bcs [UInt8.ofNat 0]) rfl rfl rfl rfl underlying25 inf_u8_5 (by decide) (by decide) (fill_one _ _ rfl ) rfl (bcs_cons (by decide) rfl) rfl rfl fun ad12 ac w hs => ?_)
  refine stp (op_appR hs none 1 2 (N' := (rst m ++ tl0 j ++ [UInt8.ofNat 0]).length) (ys := bcs (rst m ++ tl0 j ++ [UInt8.ofNat 0])) rfl rfl rfl rfl rfl rfl underlying25 inf_u8_5 rfl (by decide) (bcs_len1 rfl) (bcs_one _) (by decide) (show (rst m ++ tl0 j).length + 1 ≤ 1000000 by first | omega | ((try simp only [List.length_drop, List.length_take, List.length_append, List.length_cons, List.length_nil]); omega)) (by simp only [List.length_append, List.length_cons, List.length_nil] <;> omega) (bcs_append _ _) rfl rfl fun ad13 cp14 ac w hs => ?_)
  refine asg hs rfl rfl rfl fun ac hs => ?_
  refine wpList_nil (blk_n (then_n ?_))
  rw [show rst m ++ tl0 j ++ [UInt8.ofNat 0] = rst m ++ tl0 (j + 1) from (by rw [List.append_assoc, tl0_succ])] at hs
  replace hs := hs.selS [0, 1] rfl (by decide)
  exact ⟨_, ⟨(j + 1), ad13, cp14, rfl, (zs_go hj hz), (hs.re (fs' := [(0, true, ptA gh 0), (2, true, ptA g1 0), (3, true, .slice ad13 ((rst m ++ tl0 (j + 1)).length) cp14)]) ⟨rfl, rfl, rfl, trivial⟩)⟩, (by have := zs_go hj hz; omega)⟩
 ·skip
  have hp15 := of_decide_eq_false hc
  obtain rfl : j = zs64 (rst m).length := zs_end hj (by rw [← hll]; exact Classical.not_not.1 (of_decide_eq_false hc))
  refine wp_exit (then_e (then_e (blk_e (then_n (wp_seq (wp_region_lit ?_))))))
  refine mvv hs rfl rfl rfl fun ac hs => ?_
  refine stp (op_nilCheck hs none rfl rfl rfl rfl fun ac hs => ?_)
  refine stp (op_fieldA hs none rfl rfl rfl underlying114 rfl sizeOf22 (by decide) rfl fun ac hs => ?_)
  refine ldd hs 0 (nu64 (m.length)) isAgg22 sizeOf22 rfl rfl rfl rfl (tabs_tail (i := 1) rfl rfl) fun ac hs => ?_
  refine bnn hs (nu64 (m.length * 8)) rfl rfl rfl rfl (bin_mulN (y := 8) rfl (show m.length * 8 < 18446744073709551616 by omega)) fun ac hs => ?_
  refine asg hs rfl rfl rfl fun ac hs => ?_
  refine wpList_nil (then_n (wp_seq (wp_seq ?_)))
  replace hs := hs.nf w0 Z X [0, 2, 3, 4] rfl rfl rfl rfl
  refine wp_region_lit ?_
  refine asg hs rfl rfl rfl fun ac hs => ?_
  refine wpList_nil (then_n (wp_block ?_))
  rw [show rst m ++ tl0 (zs64 (rst m).length) = (rst m ++ tl0 (zs64 (rst m).length)) ++ be8t (m.length * 8) 0 from (by simp [be8t])] at hs
  refine wp_loop_m (fun μ ac w => ∃ (k : Nat) (ao2 : Option Addr) (co2 : Nat), (8 - k) = μ ∧ (k ≤ 8) ∧ St 81 ⟨w0, [], [(true, .cel (.slice ar ((rst m).length) cr) ((rst m).length) (bcs (rst m))), (true, .own (.slice ao2 (((rst m ++ tl0 (zs64 (rst m).length)) ++ be8t (m.length * 8) k).length) co2) 5 1 (((rst m ++ tl0 (zs64 (rst m).length)) ++ be8t (m.length * 8) k).length) (bcs ((rst m ++ tl0 (zs64 (rst m).length)) ++ be8t (m.length * 8) k)))], Z, X⟩ [(0, true, ptA gh 0), (2, true, ptA g1 0), (4, true, nu64 (m.length * 8)), (3, true, .slice ao2 (((rst m ++ tl0 (zs64 (rst m).length)) ++ be8t (m.length * 8) k).length) co2), (5, true, .int .i64 (56 - 8 * (k : Int)))] [(true, gh, 114, (tab .u32 8 (blks HH0 m) ++ ([.slice ar ((rst m).length) cr, nu64 (m.length)] : List Value))), (true, g1, 30, (tab .u8 32 (fun _ => 0)))] ac w) ?_ ?_
  ·exact ⟨_, 0, ao, co, rfl, (by omega), (hs.re (fs' := [(0, true, ptA gh 0), (2, true, ptA g1 0), (4, true, nu64 (m.length * 8)), (3, true, .slice ao (((rst m ++ tl0 (zs64 (rst m).length)) ++ be8t (m.length * 8) 0).length) co), (5, true, .int .i64 (56 - 8 * (0 : Int)))]) ⟨rfl, rfl, rfl, rfl, rfl, trivial⟩)⟩
  intro μ ac w ⟨k, ao2, co2, hμ, hk, hs⟩
  have hlk : ((rst m ++ tl0 (zs64 (rst m).length)) ++ be8t (m.length * 8) k).length = (rst m).length + (zs64 (rst m).length + 1) + k := by rw [List.length_append, List.length_append, tl0_len, be8t_len]
  refine wp_seq (wp_seq (wp_region_lit ?_))
  refine mvv hs rfl rfl rfl fun ac hs => ?_
  refine bnn hs (.bool (decide (0 ≤ 56 - 8 * (k : Int)))) rfl rfl rfl rfl bin_geqI fun ac hs => ?_
  refine wpList_nil (then_n ?_)
  refine wp_cond_split (hs.ev rfl) (fun hc => ?_) (fun hc => ?_)
  ·skip
   have hp16 := of_decide_eq_true hc
   have hk7 : k ≤ 7 := by have := of_decide_eq_true hc; omega
   replace hs := hs.re (fs' := [(0, true, ptA gh 0), (2, true, ptA g1 0), (4, true, nu64 (m.length * 8)), (3, true, .slice ao2 (((rst m ++ tl0 (zs64 (rst m).length)) ++ be8t (m.length * 8) k).length) co2), (5, true, ni64 (56 - 8 * k)), (36, true, .int .i64 (56 - 8 * (k : Int))), (37, true, .bool (decide (0 ≤ 56 - 8 * (k : Int))))]) ⟨rfl, rfl, rfl, rfl, congrArg some (by rw [show (56 - 8 * (k : Int)) = ((56 - 8 * k : Nat) : Int) by omega]), rfl, rfl, trivial⟩
   refine wp_skip (then_n (wp_seq (wp_block (wp_region_lit ?_))))
   refine mvv hs rfl rfl rfl fun ac hs => ?_
   refine mvv hs rfl rfl rfl fun ac hs => ?_
   refine mvv hs rfl rfl rfl fun ac hs => ?_
   refine bnn hs (.int .u64 (((m.length * 8) / 2 ^ (56 - 8 * k) : Nat) : Int)) rfl rfl rfl rfl (bin_shrN (z := (m.length * 8) / 2 ^ (56 - 8 * k)) rfl (show m.length * 8 < 18446744073709551616 by omega)) fun ac hs => ?_
   refine stp (op_convert hs none (v := .int .u8 (((m.length * 8) / 2 ^ (56 - 8 * k) % 256 : Nat) : Int)) rfl rfl rfl (conv_M (z := (m.length * 8) / 2 ^ (56 - 8 * k) % 256) rfl underlying22 underlying5 rfl) rfl fun ac hs => ?_)
   refine stp (op_bsO hs none none (qs := [(0, .int .u8 (((m.length * 8) / 2 ^ (56 - 8 * k) % 256 : Nat) : Int))]) (cs := [.int .u8 (((m.length * 8) / 2 ^ (56 - 8 * k) % 256 : Nat) : Int)]) (cs' := bcs [UInt8.ofNat ((m.length * 8) / 2 ^ (56 - 8 * k) % 256)]) rfl rfl rfl rfl underlying25 inf_u8_5 (by decide) (by decide) (fill_one _ _ rfl ) rfl (bcs_cons (show (m.length * 8) / 2 ^ (56 - 8 * k) % 256 < 256 by omega) rfl) rfl rfl fun ad18 ac w hs => ?_)
   refine stp (op_appR hs none 1 2 (N' := ((rst m ++ tl0 (zs64 (rst m).length)) ++ be8t (m.length * 8) k ++ [UInt8.ofNat ((m.length * 8) / 2 ^ (56 - 8 * k) % 256)]).length) (ys := bcs ((rst m ++ tl0 (zs64 (rst m).length)) ++ be8t (m.length * 8) k ++ [UInt8.ofNat ((m.length * 8) / 2 ^ (56 - 8 * k) % 256)])) rfl rfl rfl rfl rfl rfl underlying25 inf_u8_5 rfl (by decide) (bcs_len1 rfl) (bcs_one _) (by decide) (show ((rst m ++ tl0 (zs64 (rst m).length)) ++ be8t (m.length * 8) k).length + 1 ≤ 1000000 by first | omega | ((try simp only [List.length_drop, List.length_take, List.length_append, List.length_cons, List.length_nil]); omega)) (by simp only [List.length_append, List.length_cons, List.length_nil] <;> omega) (bcs_append _ _) rfl rfl fun ad19 cp20 ac w hs => ?_)
   refine asg hs rfl rfl rfl fun ac hs => ?_
   refine wpList_nil (blk_n (then_n ?_))
   replace hs := hs.nf w0 Z X [0, 2, 4, 3, 5] rfl rfl rfl rfl
   refine wp_region_lit ?_
   refine mvv hs rfl rfl rfl fun ac hs => ?_
   refine bnn hs (.int .i64 (56 - 8 * ((k + 1 : Nat) : Int))) rfl rfl rfl rfl (bin_subI (y := 8) (by omega) (by omega) (by omega)) fun ac hs => ?_
   refine asg hs rfl rfl rfl fun ac hs => ?_
   refine wpList_nil (then_n ?_)
   rw [show (rst m ++ tl0 (zs64 (rst m).length)) ++ be8t (m.length * 8) k ++ [UInt8.ofNat ((m.length * 8) / 2 ^ (56 - 8 * k) % 256)] = (rst m ++ tl0 (zs64 (rst m).length)) ++ be8t (m.length * 8) (k + 1) from (by rw [be8t_succ, ← List.append_assoc])] at hs
   replace hs := hs.selS [0, 1] rfl (by decide)
   exact ⟨_, ⟨(k + 1), ad19, cp20, rfl, (by omega), (hs.re (fs' := [(0, true, ptA gh 0), (2, true, ptA g1 0), (4, true, nu64 (m.length * 8)), (3, true, .slice ad19 (((rst m ++ tl0 (zs64 (rst m).length)) ++ be8t (m.length * 8) (k + 1)).length) cp20), (5, true, .int .i64 (56 - 8 * ((k + 1) : Int)))]) ⟨rfl, rfl, rfl, rfl, rfl, trivial⟩)⟩, (by omega)⟩
  ·skip
   have hp21 := of_decide_eq_false hc
   obtain rfl : k = 8 := by have := of_decide_eq_false hc; omega
   refine wp_exit (then_e (then_e (blk_e (then_n (wp_seq (wp_region_lit ?_))))))
   refine mvv hs rfl rfl rfl fun ac hs => ?_
   refine stp (op_nilCheck hs none rfl rfl rfl rfl fun ac hs => ?_)
   refine stp (op_fieldA hs none rfl rfl rfl underlying114 rfl sizeOf111 (by decide) rfl fun ac hs => ?_)
   refine ldd hs 0 (At .u32 8 (blks HH0 m)) isAgg111 sizeOf111 rfl rfl rfl rfl ldv_tabs fun ac hs => ?_
   refine stp (op_alloc hs none none (cs := (tab .u32 8 (fun _ => 0))) rfl rfl zeroValue111 (by kernel_rfl) rfl rfl fun g22 ac w hs => ?_)
   refine stp (stoo hs 2 ((tab .u32 8 (blks HH0 m))) sizeOf111 rfl rfl rfl rfl rfl (by kernel_rfl) tab_length' (tab_one _ _ _) tab_leA wr_tab fun w hs => ?_)
   refine wpList_nil (then_n (wp_seq (wp_block ?_)))
   replace hs := hs.freeze 1 rfl
   rw [show (rst m ++ tl0 (zs64 (rst m).length)) ++ be8t (m.length * 8) 8 = rst m ++ tl64 (rst m).length m.length from (by unfold tl64; rw [← List.append_assoc]; rfl)] at hs
   refine wp_loop_m (fun μ ac w => ∃ (h1 : Nat → Nat) (l1 : List UInt8) (a1 : Option Addr) (c1 : Nat), (l1.length) = μ ∧ (∀ j, h1 j < 4294967296) ∧ (blks (blks HH0 m) (rst m ++ tl64 (rst m).length m.length) = blks h1 l1) ∧ (l1.length % 64 = 0) ∧ St 81 ⟨w0, [], [(true, .cel (.slice ar ((rst m).length) cr) ((rst m).length) (bcs (rst m))), (true, .cel (.slice a1 l1.length c1) l1.length (bcs l1))], Z, X⟩ [(0, true, ptA gh 0), (2, true, ptA g1 0), (6, true, ptA g22 0), (3, true, .slice a1 l1.length c1)] [(true, gh, 114, (tab .u32 8 (blks HH0 m) ++ ([.slice ar ((rst m).length) cr, nu64 (m.length)] : List Value))), (true, g1, 30, (tab .u8 32 (fun _ => 0))), (true, g22, 111, (tab .u32 8 h1))] ac w) ?_ ?_
   ·exact ⟨_, (blks HH0 m), (rst m ++ tl64 (rst m).length m.length), ao2, co2, rfl, (fun j => blks_lt HH0_lt m j), rfl, (by rw [List.length_append]; exact tl64_len _ _), (hs.re (fs' := [(0, true, ptA gh 0), (2, true, ptA g1 0), (6, true, ptA g22 0), (3, true, .slice ao2 (rst m ++ tl64 (rst m).length m.length).length co2)]) ⟨rfl, rfl, rfl, rfl, trivial⟩)⟩
   intro μ ac w ⟨h1, l1, a1, c1, hμ, hh1, hb1, hm1, hs⟩
   refine wp_seq (wp_seq (wp_region_lit ?_))
   refine mvv hs rfl rfl rfl fun ac hs => ?_
   refine stp (op_blt hs none (v := ni64 (l1.length)) rfl rfl rfl (blt_len underlying25) rfl fun ac hs => ?_)
   refine bnn hs (.bool (decide (0 < l1.length))) rfl rfl rfl rfl (bin_gtrN (y := 0)) fun ac hs => ?_
   refine wpList_nil (then_n ?_)
   refine wp_cond_split (hs.ev rfl) (fun hc => ?_) (fun hc => ?_)
   ·skip
    have hp23 := of_decide_eq_true hc
    have hpos := of_decide_eq_true hc
    have h64 : ¬ l1.length < 64 := by omega
    refine wp_skip (then_n (wp_seq (wp_block (wp_region_lit ?_))))
    refine mvv hs rfl rfl rfl fun ac hs => ?_
    refine stp (op_sliceR hs none none 1 0 64 (N' := (l1.take 64).length) (cs' := bcs (l1.take 64)) rfl rfl rfl rfl (.inl ⟨rfl, rfl⟩) (.inr ⟨_, _, rfl, rfl⟩) underlying25 sizeOf5 (show 0 ≤ 64 by omega) (show 64 ≤ l1.length by omega) (len_hi (show 64 ≤ l1.length by omega)) bcs_hi rfl rfl fun ac hs => ?_)
    refine stp (op_callX (F := 130) (ρ := Unit) hs none none [2] [2] (v := fun r => .tuple #[]) (S1 := [(true, .cel (.slice (vsa a1 c1 1 0) ((l1.take 64).length) (c1 - 0)) ((l1.take 64).length) (bcs (l1.take 64)))]) (bs1 := [(true, g22, 111, (tab .u32 8 h1))]) (E := fun r => [(true, .cel (.slice (vsa a1 c1 1 0) ((l1.take 64).length) (c1 - 0)) ((l1.take 64).length) (bcs (l1.take 64)))]) (E1 := fun r => [(true, .cel (.slice (vsa a1 c1 1 0) ((l1.take 64).length) (c1 - 0)) ((l1.take 64).length) (bcs (l1.take 64)))]) (E2 := fun r => []) (bfA := fun r => [(true, g22, 111, (tab .u32 8 (blk h1 (l1.take 64))))]) (bf := fun r => [(true, g22, 111, (tab .u32 8 (blk h1 (l1.take 64))))]) (bf2 := fun r => []) rfl rfl rfl rfl rfl (call130 _) rfl rfl (by decide) (by decide) (fun Z X hm => take_c g22 111 h1 [] (fun j => hh1 j) (vsa a1 c1 1 0) (c1 - 0) (l1.take 64) (show (l1.take 64).length = 64 by first | omega | ((try simp only [List.length_drop, List.length_take, List.length_append, List.length_cons, List.length_nil]); omega)) _ _ _ hm) (fun _ => rfl) (fun _ => rfl) (fun _ => rfl) (fun _ => rfl) (fun _ => rfl) rfl fun _ ac w hs => ?_)
    refine wpList_nil (blk_n (then_n ?_))
    replace hs := hs.nf w0 Z X [0, 2, 6, 3] rfl rfl rfl rfl
    refine wp_region_lit ?_
    refine mvv hs rfl rfl rfl fun ac hs => ?_
    refine stp (op_sliceR hs none none 1 64 l1.length (N' := (l1.drop 64).length) (cs' := bcs (l1.drop 64)) rfl rfl rfl rfl (.inr ⟨_, _, rfl, rfl⟩) (.inl ⟨rfl, rfl⟩) underlying25 sizeOf5 (show 64 ≤ l1.length by omega) (show l1.length ≤ l1.length by omega) len_lo bcs_lo rfl rfl fun ac hs => ?_)
    refine asg hs rfl rfl rfl fun ac hs => ?_
    refine wpList_nil (then_n ?_)
    replace hs := hs.selS [0, 3] rfl (by decide)
    exact ⟨_, ⟨(blk h1 (l1.take 64)), (l1.drop 64), (vsa a1 c1 1 64), (c1 - 64), rfl, (fun j => blk_lt _ _ j), (hb1.trans (blks_step h64)), (by simp only [List.length_drop]; omega), (hs.re (fs' := [(0, true, ptA gh 0), (2, true, ptA g1 0), (6, true, ptA g22 0), (3, true, .slice (vsa a1 c1 1 64) (l1.drop 64).length (c1 - 64))]) ⟨rfl, rfl, rfl, rfl, trivial⟩)⟩, (by simp only [List.length_drop]; omega)⟩
   ·skip
    have hp24 := of_decide_eq_false hc
    have hl0 : l1 = [] := List.length_eq_zero_iff.1 (by have := of_decide_eq_false hc; omega)
    have hH : shaH m = h1 := by rw [← sha_sum, hb1, hl0, blks_end (by decide)]
    refine wp_exit (then_e (then_e (blk_e (then_n (wp_seq (wp_region_lit ?_))))))
    refine stp (op_alloc hs none none (cs := (tab .u8 32 (fun _ => 0))) rfl rfl zeroValue30 (by kernel_rfl) rfl rfl fun g25 ac w hs => ?_)
    refine wpList_nil (then_n (wp_seq (wp_seq (wp_region_lit ?_))))
    refine ldd hs 2 (At .u32 8 h1) isAgg111 sizeOf111 rfl rfl rfl rfl ldv_tab fun ac hs => ?_
    refine mvv hs rfl rfl rfl fun ac hs => ?_
    refine wpList_nil (then_n (wp_block ?_))
    replace hs := hs.setb 3 (cs' := (tab .u8 32 (outT h1 (4 * 0)))) rfl (tab_ext fun j hj => outT_zero h1 j)
    refine wp_loop_m (fun μ ac w => ∃ (i : Nat), (8 - i) = μ ∧ (i ≤ 8) ∧ St 81 ⟨w0, [], [(true, .cel (.slice ar ((rst m).length) cr) ((rst m).length) (bcs (rst m)))], Z, X⟩ [(0, true, ptA gh 0), (2, true, ptA g1 0), (7, true, ptA g25 0), (59, true, At .u32 8 h1), (60, true, ni64 i)] [(true, gh, 114, (tab .u32 8 (blks HH0 m) ++ ([.slice ar ((rst m).length) cr, nu64 (m.length)] : List Value))), (true, g1, 30, (tab .u8 32 (fun _ => 0))), (true, g22, 111, (tab .u32 8 h1)), (true, g25, 30, (tab .u8 32 (outT h1 (4 * i))))] ac w) ?_ ?_
    replace hs := hs.selS [0] rfl (by decide)
    ·exact ⟨_, 0, rfl, (by omega), (hs.re (fs' := [(0, true, ptA gh 0), (2, true, ptA g1 0), (7, true, ptA g25 0), (59, true, At .u32 8 h1), (60, true, ni64 0)]) ⟨rfl, rfl, rfl, rfl, rfl, trivial⟩)⟩
    intro μ ac w ⟨i, hμ, hi, hs⟩
    refine wp_seq (wp_region_lit ?_)
    refine bnn hs (.bool (decide (i < 8))) rfl rfl rfl rfl (bin_lssN (y := 8)) fun ac hs => ?_
    refine wpList_nil (then_n (wp_seq ?_))
    refine wp_cond_split (hs.ev rfl) (fun hc => ?_) (fun hc => ?_)
    ·skip
     have hp26 := of_decide_eq_true hc
     have hi8 := of_decide_eq_true hc
     refine wp_skip (then_n (wp_seq (wp_block (wp_seq (wp_region_lit ?_)))))
     refine mvv hs rfl rfl rfl fun ac hs => ?_
     have l27 := hh1 i
     refine stp (op_index hs none (v := nu32 (h1 i)) rfl rfl rfl rfl (idx_at (j := i) underlying111 isAgg109 sizeOf109 (show i < 8 by omega)) rfl fun ac hs => ?_)
     refine asg hs rfl rfl rfl fun ac hs => ?_
     refine asg hs rfl rfl rfl fun ac hs => ?_
     refine wpList_nil (then_n (wp_seq (wp_region_lit ?_)))
     refine mvv hs rfl rfl rfl fun ac hs => ?_
     refine wpList_nil (then_n (wp_block ?_))
     replace hs := hs.setb 3 (cs' := (tab .u8 32 (outT h1 (4 * i + 0)))) rfl rfl
     refine wp_loop_m (fun μ ac w => ∃ (k : Nat), (4 - k) = μ ∧ (k ≤ 4) ∧ St 81 ⟨w0, [], [(true, .cel (.slice ar ((rst m).length) cr) ((rst m).length) (bcs (rst m)))], Z, X⟩ [(0, true, ptA gh 0), (2, true, ptA g1 0), (7, true, ptA g25 0), (8, true, ni64 i), (9, true, nu32 (h1 i)), (59, true, At .u32 8 h1), (60, true, ni64 i), (64, true, ni64 k)] [(true, gh, 114, (tab .u32 8 (blks HH0 m) ++ ([.slice ar ((rst m).length) cr, nu64 (m.length)] : List Value))), (true, g1, 30, (tab .u8 32 (fun _ => 0))), (true, g22, 111, (tab .u32 8 h1)), (true, g25, 30, (tab .u8 32 (outT h1 (4 * i + k))))] ac w) ?_ ?_
     ·exact ⟨_, 0, rfl, (by omega), (hs.re (fs' := [(0, true, ptA gh 0), (2, true, ptA g1 0), (7, true, ptA g25 0), (8, true, ni64 i), (9, true, nu32 (h1 i)), (59, true, At .u32 8 h1), (60, true, ni64 i), (64, true, ni64 0)]) ⟨rfl, rfl, rfl, rfl, rfl, rfl, rfl, rfl, trivial⟩)⟩
     intro μ ac w ⟨k, hμ, hk, hs⟩
     refine wp_seq (wp_region_lit ?_)
     refine bnn hs (.bool (decide (k < 4))) rfl rfl rfl rfl (bin_lssN (y := 4)) fun ac hs => ?_
     refine wpList_nil (then_n (wp_seq ?_))
     refine wp_cond_split (hs.ev rfl) (fun hc => ?_) (fun hc => ?_)
     ·skip
      have hp28 := of_decide_eq_true hc
      have hk4 := of_decide_eq_true hc
      refine wp_skip (then_n (wp_seq (wp_block (wp_seq (wp_region_lit ?_)))))
      refine mvv hs rfl rfl rfl fun ac hs => ?_
      refine asg hs rfl rfl rfl fun ac hs => ?_
      refine wpList_nil (then_n (wp_region_lit ?_))
      refine mvv hs rfl rfl rfl fun ac hs => ?_
      refine bnn hs (ni64 (4 * i)) rfl rfl rfl rfl (bin_mulN (x := 4) rfl (show 4 * i < 9223372036854775808 by omega)) fun ac hs => ?_
      refine mvv hs rfl rfl rfl fun ac hs => ?_
      refine bnn hs (ni64 (4 * i + k)) rfl rfl rfl rfl (bin_addN rfl (show 4 * i + k < 9223372036854775808 by omega)) fun ac hs => ?_
      refine mvv hs rfl rfl rfl fun ac hs => ?_
      refine mvv hs rfl rfl rfl fun ac hs => ?_
      refine bnn hs (ni64 (8 * k)) rfl rfl rfl rfl (bin_mulN (x := 8) rfl (show 8 * k < 9223372036854775808 by omega)) fun ac hs => ?_
      refine bnn hs (ni64 (24 - (8 * k))) rfl rfl rfl rfl (bin_subN (x := 24) (by omega) (show 24 - (8 * k) < 9223372036854775808 by omega)) fun ac hs => ?_
      refine bnn hs (.int .u32 (((h1 i) / 2 ^ (24 - (8 * k)) : Nat) : Int)) rfl rfl rfl rfl (bin_shrN (z := (h1 i) / 2 ^ (24 - (8 * k))) rfl (show h1 i < 4294967296 from hh1 i)) fun ac hs => ?_
      refine stp (op_convert hs none (v := .int .u8 (((h1 i) / 2 ^ (24 - (8 * k)) % 256 : Nat) : Int)) rfl rfl rfl (conv_M (z := (h1 i) / 2 ^ (24 - (8 * k)) % 256) rfl underlying109 underlying5 rfl) rfl fun ac hs => ?_)
      refine stp (op_idxA hs none (j := 4 * i + k) rfl rfl rfl rfl underlying30 sizeOf5 (show 4 * i + k < 32 by omega) (off := 4 * i + k) (by omega) rfl fun ac hs => ?_)
      refine stp (stoo hs 3 ([.int .u8 (((h1 i) / 2 ^ (24 - (8 * k)) % 256 : Nat) : Int)]) sizeOf5 rfl rfl rfl rfl rfl rfl rfl rfl (tab_le (j := 4 * i + k) (show 4 * i + k < 32 by omega)) (tab_set) fun w hs => ?_)
      refine wpList_nil (blk_n (then_n ?_))
      replace hs := hs.nf w0 Z X [0, 2, 7, 8, 9, 59, 60, 64] rfl rfl rfl rfl
      refine wp_region_lit ?_
      refine bnn hs (ni64 (k + 1)) rfl rfl rfl rfl (bin_addN (y := 1) rfl (show k + 1 < 9223372036854775808 by omega)) fun ac hs => ?_
      refine mvv hs rfl rfl rfl fun ac hs => ?_
      refine wpList_nil (then_n ?_)
      replace hs := hs.setb 3 (cs' := (tab .u8 32 (outT h1 (4 * i + (k + 1))))) rfl (tab_ext fun j hj => outT_step (shaB_at hk4) j)
      exact ⟨_, ⟨(k + 1), rfl, (by omega), (hs.re (fs' := [(0, true, ptA gh 0), (2, true, ptA g1 0), (7, true, ptA g25 0), (8, true, ni64 i), (9, true, nu32 (h1 i)), (59, true, At .u32 8 h1), (60, true, ni64 i), (64, true, ni64 ((k + 1)))]) ⟨rfl, rfl, rfl, rfl, rfl, rfl, rfl, rfl, trivial⟩)⟩, (by omega)⟩
     ·skip
      have hp29 := of_decide_eq_false hc
      obtain rfl : k = 4 := by have := of_decide_eq_false hc; omega
      replace hs := hs.setb 3 (cs' := (tab .u8 32 (outT h1 (4 * (i + 1))))) rfl (by rw [show 4 * i + 4 = 4 * (i + 1) by omega])
      refine wp_exit (then_e (then_e (blk_e (blk_n (then_n (wp_region_lit ?_))))))
      refine bnn hs (ni64 (i + 1)) rfl rfl rfl rfl (bin_addN (y := 1) rfl (show i + 1 < 9223372036854775808 by omega)) fun ac hs => ?_
      refine mvv hs rfl rfl rfl fun ac hs => ?_
      refine wpList_nil (then_n ?_)
      exact ⟨_, ⟨(i + 1), rfl, (by omega), (hs.re (fs' := [(0, true, ptA gh 0), (2, true, ptA g1 0), (7, true, ptA g25 0), (59, true, At .u32 8 h1), (60, true, ni64 ((i + 1)))]) ⟨rfl, rfl, rfl, rfl, rfl, trivial⟩)⟩, (by omega)⟩
    ·skip
     have hp30 := of_decide_eq_false hc
     obtain rfl : i = 8 := by have := of_decide_eq_false hc; omega
     replace hs := hs.setb 3 (cs' := (tab .u8 32 (shaB h1))) rfl (tab_ext fun j hj => outT_end hj)
     refine wp_exit (then_e (then_e (blk_e (then_n (wp_seq (wp_region_lit ?_))))))
     refine ldd hs 3 (At .u8 32 (shaB h1)) isAgg30 sizeOf30 rfl rfl rfl rfl ldv_tab fun ac hs => ?_
     refine stp (stoo hs 1 ((tab .u8 32 (shaB h1))) sizeOf30 rfl rfl rfl rfl rfl (by kernel_rfl) tab_length' (tab_one _ _ _) tab_leA wr_tab fun w hs => ?_)
     refine wpList_nil (then_n (wp_ret ?_))
     exact bodyPost_ret (res1 rfl (rv_c hs 1 (v := At .u8 32 (shaB h1)) rfl rfl isAgg30 sizeOf30 ldv_tab)) hs.defers ⟨(), by rw [show sha m = shaB h1 from by funext j; unfold sha; rw [hH]], ((hs.selS [0] rfl (by decide)).selB [0] rfl (by decide)).mem⟩
theorem sum_c (ad : Option Addr) (nl c : Nat) (l : List UInt8) (hlen : l.length ≤ 200000) (w0 : World) (Z : Nat → Prop) (hl : ByV w0 Z (.slice ad nl c) l): Calls prog 95 #[.slice ad nl c] w0 fun e w' => Ret w0 Z (ρ := Unit) (fun r => At .u8 32 (sha l)) (fun r => []) e w' := by
 obtain rfl := byv_len hl
 refine enterS (n := 10) (args := [.slice ad l.length c]) (S := [(true, .cel (.slice ad l.length c) l.length (bcs l))]) (Z := Z) func95 rfl rfl (Nat.le_of_ble_eq_true rfl) (sokC hl sok0) rfl fun ac hs => ?_
 refine wp_seq (wp_region_lit ?_)
 refine stp (op_alloc hs none none (cs := (tab .u8 32 (fun _ => 0))) rfl rfl zeroValue30 (by kernel_rfl) rfl rfl fun g1 ac w hs => ?_)
 refine wpList_nil (then_n (wp_seq (wp_region_lit ?_)))
 refine stp (op_callX (F := 96) (ρ := Nat) hs none none [] [] (v := fun r => ptA r 0) (S1 := []) (bs1 := []) (E := fun r => []) (E1 := fun r => []) (E2 := fun r => []) (bfA := fun r => [(true, r, 114, (tab .u32 8 HH0 ++ ([.slice none 0 0, .int .u64 0] : List Value)))]) (bf := fun r => []) (bf2 := fun r => [(true, r, 114, (tab .u32 8 HH0 ++ ([.slice none 0 0, .int .u64 0] : List Value)))]) rfl rfl rfl rfl rfl (call96 _) rfl rfl (by decide) (by decide) (fun Z X hm => new_c _ _ _ hm) (fun _ => rfl) (fun _ => rfl) (fun _ => rfl) (fun _ => rfl) (fun _ => rfl) rfl fun g2 ac w hs => ?_)
 refine asg hs rfl rfl rfl fun ac hs => ?_
 refine wpList_nil (then_n (wp_seq (wp_region_lit ?_)))
 refine mvv hs rfl rfl rfl fun ac hs => ?_
 refine mvv hs rfl rfl rfl fun ac hs => ?_
 replace hs := hs.nilCel none rfl
 replace hs := hs.setb 1 (cs' := (tab .u32 8 (blks HH0 []) ++ ([.slice none ((rst []).length) 0, nu64 (([] : List UInt8).length)] : List Value))) rfl hash0
 replace hs := hs.celEq 1 (N' := (rst []).length) (cs' := bcs (rst [])) rfl rst0.1 rst0.2
 refine stp (op_callX (F := 97) (ρ := Option Addr × Nat) hs none none [1] [1, 0] (v := fun r => .tuple #[]) (S1 := [(true, .cel (.slice none ((rst []).length) 0) ((rst []).length) (bcs (rst []))), (true, .cel (.slice ad l.length c) l.length (bcs l))]) (bs1 := [(true, g2, 114, (tab .u32 8 (blks HH0 []) ++ ([.slice none ((rst []).length) 0, nu64 (([] : List UInt8).length)] : List Value)))]) (E := fun r => [(true, .cel (.slice r.1 ((rst l).length) r.2) ((rst l).length) (bcs (rst l))), (true, .cel (.slice ad l.length c) l.length (bcs l))]) (E1 := fun r => [(true, .cel (.slice r.1 ((rst l).length) r.2) ((rst l).length) (bcs (rst l))), (true, .cel (.slice ad l.length c) l.length (bcs l))]) (E2 := fun r => []) (bfA := fun r => [(true, g2, 114, (tab .u32 8 (blks HH0 l) ++ ([.slice r.1 ((rst l).length) r.2, nu64 ((l).length)] : List Value)))]) (bf := fun r => [(true, g2, 114, (tab .u32 8 (blks HH0 l) ++ ([.slice r.1 ((rst l).length) r.2, nu64 ((l).length)] : List Value)))]) (bf2 := fun r => []) rfl rfl rfl rfl rfl (call97 _) rfl rfl (by decide) (by decide) (fun Z X hm => write_c g2 none 0 ([]) ad c l (show ([]).length + l.length ≤ 900000 by first | omega | ((try simp only [List.length_drop, List.length_take, List.length_append, List.length_cons, List.length_nil]); omega)) _ _ _ hm) (fun _ => rfl) (fun _ => rfl) (fun _ => rfl) (fun _ => rfl) (fun _ => rfl) rfl fun ⟨ad3, cp4⟩ ac w hs => ?_)
 refine wpList_nil (then_n (wp_seq ?_))
 replace hs := hs.nf w0 Z noX [2, 3] rfl rfl rfl rfl
 refine wp_region_lit ?_
 refine mvv hs rfl rfl rfl fun ac hs => ?_
 refine stp (op_callX (F := 98) (ρ := Unit) hs none none [1] [1] (v := fun r => At .u8 32 (sha l)) (S1 := [(true, .cel (.slice ad3 ((rst l).length) cp4) ((rst l).length) (bcs (rst l)))]) (bs1 := [(true, g2, 114, (tab .u32 8 (blks HH0 l) ++ ([.slice ad3 ((rst l).length) cp4, nu64 ((l).length)] : List Value)))]) (E := fun r => [(true, .cel (.slice ad3 ((rst l).length) cp4) ((rst l).length) (bcs (rst l)))]) (E1 := fun r => [(true, .cel (.slice ad3 ((rst l).length) cp4) ((rst l).length) (bcs (rst l)))]) (E2 := fun r => []) (bfA := fun r => [(true, g2, 114, (tab .u32 8 (blks HH0 l) ++ ([.slice ad3 ((rst l).length) cp4, nu64 ((l).length)] : List Value)))]) (bf := fun r => [(true, g2, 114, (tab .u32 8 (blks HH0 l) ++ ([.slice ad3 ((rst l).length) cp4, nu64 ((l).length)] : List Value)))]) (bf2 := fun r => []) rfl rfl rfl rfl rfl (call98 _) rfl rfl (by decide) (by decide) (fun Z X hm => hsum_c g2 ad3 cp4 l (show l.length ≤ 900000 by omega) _ _ _ hm) (fun _ => rfl) (fun _ => rfl) (fun _ => rfl) (fun _ => rfl) (fun _ => rfl) rfl fun _ ac w hs => ?_)
 refine stp (stoo hs 0 ((tab .u8 32 (sha l))) sizeOf30 rfl rfl rfl rfl rfl (by kernel_rfl) tab_length' (tab_one _ _ _) tab_leA wr_tab fun w hs => ?_)
 refine wpList_nil (then_n (wp_ret ?_))
 exact bodyPost_ret (res1 rfl (rv_c hs 0 (v := At .u8 32 (sha l)) rfl rfl isAgg30 sizeOf30 ldv_tab)) hs.defers ⟨(), rfl, hs.bel rfl, okl0⟩
theorem tagged_c (t : List UInt8) (ad : Option Addr) (nl c : Nat) (l : List UInt8) (htl : t.length ≤ 1000) (hlen : l.length ≤ 100000) (w0 : World) (Z : Nat → Prop) (hl : ByV w0 Z (.slice ad nl c) l): Calls prog 54 #[.string (txt t), .slice ad nl c] w0 fun e w' => Ret w0 Z (ρ := Unit) (fun r => At .u8 32 (tagH t l)) (fun r => []) e w' := by
 obtain rfl := byv_len hl
 have hb32 := btl_len 32 (sha t)
 refine enterS (n := 22) (args := [.string (txt t), .slice ad l.length c]) (S := [(true, .cel (.slice ad l.length c) l.length (bcs l))]) (Z := Z) func54 rfl rfl (Nat.le_of_ble_eq_true rfl) (sokC hl sok0) rfl fun ac hs => ?_
 refine wp_seq (wp_region_lit ?_)
 refine stp (op_alloc hs none none (cs := (tab .u8 32 (fun _ => 0))) rfl rfl zeroValue30 (by kernel_rfl) rfl rfl fun g1 ac w hs => ?_)
 refine wpList_nil (then_n (wp_seq (wp_region_lit ?_)))
 refine mvv hs rfl rfl rfl fun ac hs => ?_
 refine stp (op_convSB' hs none none (l := t) rfl rfl rfl underlying9 underlying25 underlying5 (show t.length ≤ 1000000 by omega) rfl rfl (run_convSB _ underlying9 underlying25 underlying5 (show t.length ≤ 1000000 by omega)) fun ad2 cp3 ac w hs => ?_)
 refine stp (op_callS (F := 95) (ρ := Unit) hs none none (v := fun r => At .u8 32 (sha t)) (E := fun r => []) (j := 0) rfl rfl rfl rfl (call95 _) (fun hs => sum_c ad2 t.length cp3 t (show t.length ≤ 200000 by omega) _ _ (hs.all (k := 1) rfl rfl)) (fun _ => rfl) rfl rfl fun _ ac w hs => ?_)
 refine stp (op_alloc hs none none (cs := (tab .u8 32 (fun _ => 0))) rfl rfl zeroValue30 (by kernel_rfl) rfl rfl fun g4 ac w hs => ?_)
 refine stp (stoo hs 1 ((tab .u8 32 (sha t))) sizeOf30 rfl rfl rfl rfl rfl (by kernel_rfl) tab_length' (tab_one _ _ _) tab_leA wr_tab fun w hs => ?_)
 refine wpList_nil (then_n (wp_seq ?_))
 replace hs := hs.nf w0 Z noX [1, 4, 5] rfl rfl rfl rfl
 refine wp_region_lit ?_
 refine stp (op_callX (F := 96) (ρ := Nat) hs none none [] [] (v := fun r => ptA r 0) (S1 := []) (bs1 := []) (E := fun r => []) (E1 := fun r => []) (E2 := fun r => []) (bfA := fun r => [(true, r, 114, (tab .u32 8 HH0 ++ ([.slice none 0 0, .int .u64 0] : List Value)))]) (bf := fun r => []) (bf2 := fun r => [(true, r, 114, (tab .u32 8 HH0 ++ ([.slice none 0 0, .int .u64 0] : List Value)))]) rfl rfl rfl rfl rfl (call96 _) rfl rfl (by decide) (by decide) (fun Z X hm => new_c _ _ _ hm) (fun _ => rfl) (fun _ => rfl) (fun _ => rfl) (fun _ => rfl) (fun _ => rfl) rfl fun g5 ac w hs => ?_)
 refine asg hs rfl rfl rfl fun ac hs => ?_
 refine wpList_nil (then_n (wp_seq (wp_region_lit ?_)))
 refine mvv hs rfl rfl rfl fun ac hs => ?_
 replace hs := hs.arrCel none 1 (n0 := 32) (f := sha t) rfl (fun j hj => sha_lt t j) (by decide) rfl
 replace hs := hs.selB [0, 2] rfl (by decide)
 refine stp (op_val hs none (v := .slice (some ⟨g4, 0, none⟩) 32 32) rfl rfl (run_slA rfl (hs.ev rfl) underlying30 sizeOf5) fun ac hs => ?_)
 replace hs := hs.nilCel none rfl
 replace hs := hs.setb 1 (cs' := (tab .u32 8 (blks HH0 []) ++ ([.slice none ((rst []).length) 0, nu64 (([] : List UInt8).length)] : List Value))) rfl hash0
 replace hs := hs.celEq 3 (N' := (rst []).length) (cs' := bcs (rst [])) rfl rst0.1 rst0.2
 refine stp (op_callX (F := 97) (ρ := Option Addr × Nat) hs none none [1] [3, 2] (v := fun r => .tuple #[]) (S1 := [(true, .cel (.slice none ((rst []).length) 0) ((rst []).length) (bcs (rst []))), (true, .cel (.slice (some ⟨g4, 0, none⟩) 32 32) 32 (bcs (btl 32 (sha t))))]) (bs1 := [(true, g5, 114, (tab .u32 8 (blks HH0 []) ++ ([.slice none ((rst []).length) 0, nu64 (([] : List UInt8).length)] : List Value)))]) (E := fun r => [(true, .cel (.slice r.1 ((rst (btl 32 (sha t))).length) r.2) ((rst (btl 32 (sha t))).length) (bcs (rst (btl 32 (sha t))))), (true, .cel (.slice (some ⟨g4, 0, none⟩) 32 32) 32 (bcs (btl 32 (sha t))))]) (E1 := fun r => [(true, .cel (.slice r.1 ((rst (btl 32 (sha t))).length) r.2) ((rst (btl 32 (sha t))).length) (bcs (rst (btl 32 (sha t))))), (true, .cel (.slice (some ⟨g4, 0, none⟩) 32 32) 32 (bcs (btl 32 (sha t))))]) (E2 := fun r => []) (bfA := fun r => [(true, g5, 114, (tab .u32 8 (blks HH0 (btl 32 (sha t))) ++ ([.slice r.1 ((rst (btl 32 (sha t))).length) r.2, nu64 ((btl 32 (sha t)).length)] : List Value)))]) (bf := fun r => [(true, g5, 114, (tab .u32 8 (blks HH0 (btl 32 (sha t))) ++ ([.slice r.1 ((rst (btl 32 (sha t))).length) r.2, nu64 ((btl 32 (sha t)).length)] : List Value)))]) (bf2 := fun r => []) rfl rfl rfl rfl rfl (call97 _) rfl rfl (by decide) (by decide) (fun Z X hm => write_c g5 none 0 ([]) (some ⟨g4, 0, none⟩) 32 (btl 32 (sha t)) (show ([]).length + (btl 32 (sha t)).length ≤ 900000 by first | omega | ((try simp only [List.length_drop, List.length_take, List.length_append, List.length_cons, List.length_nil]); omega)) _ _ _ hm) (fun _ => rfl) (fun _ => rfl) (fun _ => rfl) (fun _ => rfl) (fun _ => rfl) rfl fun ⟨ad6, cp7⟩ ac w hs => ?_)
 refine wpList_nil (then_n (wp_seq (wp_region_lit ?_)))
 refine mvv hs rfl rfl rfl fun ac hs => ?_
 refine stp (op_val hs none (v := .slice (some ⟨g4, 0, none⟩) 32 32) rfl rfl (run_slA rfl (hs.ev rfl) underlying30 sizeOf5) fun ac hs => ?_)
 refine stp (op_callX (F := 97) (ρ := Option Addr × Nat) hs none none [1] [3, 2] (v := fun r => .tuple #[]) (S1 := [(true, .cel (.slice ad6 ((rst (btl 32 (sha t))).length) cp7) ((rst (btl 32 (sha t))).length) (bcs (rst (btl 32 (sha t))))), (true, .cel (.slice (some ⟨g4, 0, none⟩) 32 32) 32 (bcs (btl 32 (sha t))))]) (bs1 := [(true, g5, 114, (tab .u32 8 (blks HH0 (btl 32 (sha t))) ++ ([.slice ad6 ((rst (btl 32 (sha t))).length) cp7, nu64 ((btl 32 (sha t)).length)] : List Value)))]) (E := fun r => [(true, .cel (.slice r.1 ((rst ((btl 32 (sha t)) ++ (btl 32 (sha t)))).length) r.2) ((rst ((btl 32 (sha t)) ++ (btl 32 (sha t)))).length) (bcs (rst ((btl 32 (sha t)) ++ (btl 32 (sha t)))))), (true, .cel (.slice (some ⟨g4, 0, none⟩) 32 32) 32 (bcs (btl 32 (sha t))))]) (E1 := fun r => [(true, .cel (.slice r.1 ((rst ((btl 32 (sha t)) ++ (btl 32 (sha t)))).length) r.2) ((rst ((btl 32 (sha t)) ++ (btl 32 (sha t)))).length) (bcs (rst ((btl 32 (sha t)) ++ (btl 32 (sha t)))))), (true, .cel (.slice (some ⟨g4, 0, none⟩) 32 32) 32 (bcs (btl 32 (sha t))))]) (E2 := fun r => []) (bfA := fun r => [(true, g5, 114, (tab .u32 8 (blks HH0 ((btl 32 (sha t)) ++ (btl 32 (sha t)))) ++ ([.slice r.1 ((rst ((btl 32 (sha t)) ++ (btl 32 (sha t)))).length) r.2, .int .u64 ((((btl 32 (sha t)) ++ (btl 32 (sha t))).length : Nat) : Int)] : List Value)))]) (bf := fun r => [(true, g5, 114, (tab .u32 8 (blks HH0 ((btl 32 (sha t)) ++ (btl 32 (sha t)))) ++ ([.slice r.1 ((rst ((btl 32 (sha t)) ++ (btl 32 (sha t)))).length) r.2, .int .u64 ((((btl 32 (sha t)) ++ (btl 32 (sha t))).length : Nat) : Int)] : List Value)))]) (bf2 := fun r => []) rfl rfl rfl rfl rfl (call97 _) rfl rfl (by decide) (by decide) (fun Z X hm => write_c g5 ad6 cp7 (btl 32 (sha t)) (some ⟨g4, 0, none⟩) 32 (btl 32 (sha t)) (show (btl 32 (sha t)).length + (btl 32 (sha t)).length ≤ 900000 by omega) _ _ _ hm) (fun _ => rfl) (fun _ => rfl) (fun _ => rfl) (fun _ => rfl) (fun _ => rfl) rfl fun ⟨ad8, cp9⟩ ac w hs => ?_)
 refine wpList_nil (then_n (wp_seq ?_))
 replace hs := hs.nf w0 Z noX [1, 4, 6] rfl rfl rfl rfl
 refine wp_region_lit ?_
 refine mvv hs rfl rfl rfl fun ac hs => ?_
 refine mvv hs rfl rfl rfl fun ac hs => ?_
 refine stp (op_callX (F := 97) (ρ := Option Addr × Nat) hs none none [1] [3, 0] (v := fun r => .tuple #[]) (S1 := [(true, .cel (.slice ad8 ((rst ((btl 32 (sha t)) ++ (btl 32 (sha t)))).length) cp9) ((rst ((btl 32 (sha t)) ++ (btl 32 (sha t)))).length) (bcs (rst ((btl 32 (sha t)) ++ (btl 32 (sha t)))))), (true, .cel (.slice ad l.length c) l.length (bcs l))]) (bs1 := [(true, g5, 114, (tab .u32 8 (blks HH0 ((btl 32 (sha t)) ++ (btl 32 (sha t)))) ++ ([.slice ad8 ((rst ((btl 32 (sha t)) ++ (btl 32 (sha t)))).length) cp9, .int .u64 ((((btl 32 (sha t)) ++ (btl 32 (sha t))).length : Nat) : Int)] : List Value)))]) (E := fun r => [(true, .cel (.slice r.1 ((rst (((btl 32 (sha t)) ++ (btl 32 (sha t))) ++ l)).length) r.2) ((rst (((btl 32 (sha t)) ++ (btl 32 (sha t))) ++ l)).length) (bcs (rst (((btl 32 (sha t)) ++ (btl 32 (sha t))) ++ l)))), (true, .cel (.slice ad l.length c) l.length (bcs l))]) (E1 := fun r => [(true, .cel (.slice r.1 ((rst (((btl 32 (sha t)) ++ (btl 32 (sha t))) ++ l)).length) r.2) ((rst (((btl 32 (sha t)) ++ (btl 32 (sha t))) ++ l)).length) (bcs (rst (((btl 32 (sha t)) ++ (btl 32 (sha t))) ++ l)))), (true, .cel (.slice ad l.length c) l.length (bcs l))]) (E2 := fun r => []) (bfA := fun r => [(true, g5, 114, (tab .u32 8 (blks HH0 (((btl 32 (sha t)) ++ (btl 32 (sha t))) ++ l)) ++ ([.slice r.1 ((rst (((btl 32 (sha t)) ++ (btl 32 (sha t))) ++ l)).length) r.2, .int .u64 (((((btl 32 (sha t)) ++ (btl 32 (sha t))) ++ l).length : Nat) : Int)] : List Value)))]) (bf := fun r => [(true, g5, 114, (tab .u32 8 (blks HH0 (((btl 32 (sha t)) ++ (btl 32 (sha t))) ++ l)) ++ ([.slice r.1 ((rst (((btl 32 (sha t)) ++ (btl 32 (sha t))) ++ l)).length) r.2, .int .u64 (((((btl 32 (sha t)) ++ (btl 32 (sha t))) ++ l).length : Nat) : Int)] : List Value)))]) (bf2 := fun r => []) rfl rfl rfl rfl rfl (call97 _) rfl rfl (by decide) (by decide) (fun Z X hm => write_c g5 ad8 cp9 ((btl 32 (sha t)) ++ (btl 32 (sha t))) ad c l (show ((btl 32 (sha t)) ++ (btl 32 (sha t))).length + l.length ≤ 900000 by first | omega | ((try simp only [List.length_drop, List.length_take, List.length_append, List.length_cons, List.length_nil]); omega)) _ _ _ hm) (fun _ => rfl) (fun _ => rfl) (fun _ => rfl) (fun _ => rfl) (fun _ => rfl) rfl fun ⟨ad10, cp11⟩ ac w hs => ?_)
 refine wpList_nil (then_n (wp_seq (wp_region_lit ?_)))
 refine mvv hs rfl rfl rfl fun ac hs => ?_
 refine stp (op_callX (F := 98) (ρ := Unit) hs none none [1] [3] (v := fun r => At .u8 32 (sha (((btl 32 (sha t)) ++ (btl 32 (sha t))) ++ l))) (S1 := [(true, .cel (.slice ad10 ((rst (((btl 32 (sha t)) ++ (btl 32 (sha t))) ++ l)).length) cp11) ((rst (((btl 32 (sha t)) ++ (btl 32 (sha t))) ++ l)).length) (bcs (rst (((btl 32 (sha t)) ++ (btl 32 (sha t))) ++ l))))]) (bs1 := [(true, g5, 114, (tab .u32 8 (blks HH0 (((btl 32 (sha t)) ++ (btl 32 (sha t))) ++ l)) ++ ([.slice ad10 ((rst (((btl 32 (sha t)) ++ (btl 32 (sha t))) ++ l)).length) cp11, .int .u64 (((((btl 32 (sha t)) ++ (btl 32 (sha t))) ++ l).length : Nat) : Int)] : List Value)))]) (E := fun r => [(true, .cel (.slice ad10 ((rst (((btl 32 (sha t)) ++ (btl 32 (sha t))) ++ l)).length) cp11) ((rst (((btl 32 (sha t)) ++ (btl 32 (sha t))) ++ l)).length) (bcs (rst (((btl 32 (sha t)) ++ (btl 32 (sha t))) ++ l))))]) (E1 := fun r => [(true, .cel (.slice ad10 ((rst (((btl 32 (sha t)) ++ (btl 32 (sha t))) ++ l)).length) cp11) ((rst (((btl 32 (sha t)) ++ (btl 32 (sha t))) ++ l)).length) (bcs (rst (((btl 32 (sha t)) ++ (btl 32 (sha t))) ++ l))))]) (E2 := fun r => []) (bfA := fun r => [(true, g5, 114, (tab .u32 8 (blks HH0 (((btl 32 (sha t)) ++ (btl 32 (sha t))) ++ l)) ++ ([.slice ad10 ((rst (((btl 32 (sha t)) ++ (btl 32 (sha t))) ++ l)).length) cp11, .int .u64 (((((btl 32 (sha t)) ++ (btl 32 (sha t))) ++ l).length : Nat) : Int)] : List Value)))]) (bf := fun r => [(true, g5, 114, (tab .u32 8 (blks HH0 (((btl 32 (sha t)) ++ (btl 32 (sha t))) ++ l)) ++ ([.slice ad10 ((rst (((btl 32 (sha t)) ++ (btl 32 (sha t))) ++ l)).length) cp11, .int .u64 (((((btl 32 (sha t)) ++ (btl 32 (sha t))) ++ l).length : Nat) : Int)] : List Value)))]) (bf2 := fun r => []) rfl rfl rfl rfl rfl (call98 _) rfl rfl (by decide) (by decide) (fun Z X hm => hsum_c g5 ad10 cp11 (((btl 32 (sha t)) ++ (btl 32 (sha t))) ++ l) (show (((btl 32 (sha t)) ++ (btl 32 (sha t))) ++ l).length ≤ 900000 by first | omega | ((try simp only [List.length_drop, List.length_take, List.length_append, List.length_cons, List.length_nil]); omega)) _ _ _ hm) (fun _ => rfl) (fun _ => rfl) (fun _ => rfl) (fun _ => rfl) (fun _ => rfl) rfl fun _ ac w hs => ?_)
 refine stp (stoo hs 0 ((tab .u8 32 (sha (((btl 32 (sha t)) ++ (btl 32 (sha t))) ++ l)))) sizeOf30 rfl rfl rfl rfl rfl (by kernel_rfl) tab_length' (tab_one _ _ _) tab_leA wr_tab fun w hs => ?_)
 refine wpList_nil (then_n (wp_ret ?_))
 exact bodyPost_ret (res1 rfl (rv_c hs 0 (v := At .u8 32 (sha (((btl 32 (sha t)) ++ (btl 32 (sha t))) ++ l))) rfl rfl isAgg30 sizeOf30 ldv_tab)) hs.defers ⟨(), rfl, hs.bel rfl, okl0⟩
end Go.Proofs.YtejbajgpiecjcaaGreat

/- The contracts of the reference's sums modulo the order; the law of sums. -/
namespace Go.Proofs.YtejbajgpiecjcaaGreat
open Go.RowKit _root_.Go.Proofs.Tryz
set_option maxRecDepth 10000
theorem rneg_eq {r : Nat} (h : r < Nord) (h0 : ¬ r = 0) : (Nord + 2 ^ 256 - r) % 2 ^ 256 = (Nord - r) % Nord := by
 have := Nord_lt
 rw [show Nord + 2 ^ 256 - r = (Nord - r) + 2 ^ 256 by omega, Nat.add_mod_right, Nat.mod_eq_of_lt (by omega), Nat.mod_eq_of_lt (by omega)]
theorem rorder_c  (w0 : World) : Calls prog 61 #[] w0 fun e w' => e = .returned (W Nord) ∧ Below w0.heap.size w0 w' := by
 refine enter (n := 2) (args := []) func61 rfl rfl (Nat.le_of_ble_eq_true rfl) fun ac hs => ?_
 refine wp_seq (wp_region_lit ?_)
 refine stp (op_alloc hs none none (cs := [.int .u64 0, .int .u64 0, .int .u64 0, .int .u64 0]) rfl rfl zeroValue24 (by kernel_rfl) rfl rfl fun g1 ac w hs => ?_)
 refine wpList_nil (then_n (wp_seq (wp_region_lit ?_)))
 refine stp (op_build hs none (qs := [(0, .int .u64 13822214165235122497), (1, .int .u64 13451932020343611451), (2, .int .u64 18446744073709551614), (3, .int .u64 18446744073709551615)]) (v := .agg #[.int .u64 13822214165235122497, .int .u64 13451932020343611451, .int .u64 18446744073709551614, .int .u64 18446744073709551615]) rfl rfl rfl rfl (fun _ => by kernel_rfl) rfl fun ac hs => ?_)
 refine stp (stoo hs 0 ([.int .u64 13822214165235122497, .int .u64 13451932020343611451, .int .u64 18446744073709551614, .int .u64 18446744073709551615]) sizeOf24 rfl rfl rfl rfl rfl rfl rfl rfl rfl rfl fun w hs => ?_)
 refine wpList_nil (then_n (wp_ret ?_))
 exact bodyPost_ret (res1 rfl (rv_c hs 0 (v := .agg #[.int .u64 13822214165235122497, .int .u64 13451932020343611451, .int .u64 18446744073709551614, .int .u64 18446744073709551615]) rfl rfl isAgg24 sizeOf24 rfl)) hs.defers ⟨by kernel_rfl, (hs.bel rfl)⟩
theorem rred_c (a x : Nat) (ha : a < 2 ^ 256) (hx : a % Nord = x) (w0 : World) : Calls prog 55 #[W a] w0 fun e w' => e = .returned (W x) ∧ Below w0.heap.size w0 w' := by
 refine enter (n := 15) (args := [W a]) func55 rfl rfl (Nat.le_of_ble_eq_true rfl) fun ac hs => ?_
 refine wp_seq (wp_region_lit ?_)
 refine stp (op_box hs none none (cs := (Wl a)) rfl rfl rfl rfl rfl rfl fun g1 ac w hs => ?_)
 refine stp (op_alloc hs none none (cs := [.int .u64 0, .int .u64 0, .int .u64 0, .int .u64 0]) rfl rfl zeroValue24 (by kernel_rfl) rfl rfl fun g2 ac w hs => ?_)
 refine wpList_nil (then_n (wp_seq ?_))
 replace hs := hs.n0 [1, 2] rfl rfl
 obtain ⟨d3, hd3, ld3⟩ : ∃ z0, (a + 2 ^ 256 - Nord) % 2 ^ 256 = z0 ∧ z0 < 2 ^ 256 := ⟨_, rfl, Nat.mod_lt _ (Nat.two_pow_pos 256)⟩
 obtain ⟨c4, hc4⟩ : ∃ z0, bor a Nord = z0 := ⟨_, rfl⟩
 refine region_inv [([], [2, 3, 4, 5, 7, 8]), ([], [2, 3, 4, 5, 7, 8]), ([0, 1], [3, 4, 5, 7, 8]), ([0, 1, 2], [4, 5, 7, 8]), (rgn 0 4, [7, 8]), (rgn 0 4, [8]), ([], [7, 8]), ([0, 1, 2, 3, 4, 6], [8]), (rgn 0 8, [])] (fun L ac w => ∃ (g5 : Nat), St 15 w0 [(6, L 0, W a), (7, L 1, W Nord), (8, L 2, .tuple #[W d3, nu64 c4]), (5, L 3, .tuple #[W d3, nu64 c4]), (9, L 4, W d3), (10, L 5, nu64 c4), (3, L 6, ptA g5 0), (4, L 8, nu64 c4), (1, true, ptA g1 0), (2, true, ptA g2 0)] [(true, g1, 24, (Wl a)), (true, g2, 24, [.int .u64 0, .int .u64 0, .int .u64 0, .int .u64 0]), (L 6, g5, 24, (cond (L 7) (Wl d3) [.int .u64 0, .int .u64 0, .int .u64 0, .int .u64 0]))] ac w) (by kernel_rfl) (by kernel_rfl) ?_ ?_ ?_
 ·exact ⟨0, hs.drew.skip.skip.skip.skip.skip.skip.skip.skip.pad⟩
 ·refine ⟨?_, ?_, ?_, ?_, ?_, ?_, ?_, ?_, ?_, trivial⟩
  ·exact fun L ac w ⟨g5, hs⟩ => pln (oldd hs 0 0 (W a) isAgg24 sizeOf24 rfl rfl rfl rfl rfl fun ac hs => ⟨g5, hs⟩)
  ·exact fun L ac w ⟨g5, hs⟩ => pln (op_call (F := 61) hs (some 1) (v := W Nord) rfl rfl rfl rfl (call61 _) rorder_c rfl fun ac w hs => ⟨g5, hs⟩)
  ·exact fun L ac w ⟨g5, hs⟩ => pln (op_call (F := 60) hs (some 2) (v := .tuple #[W d3, nu64 c4]) rfl rfl rfl rfl (call60 _) (less_at a Nord d3 c4 ha Nord_lt hd3 hc4) rfl fun ac w hs => ⟨g5, hs⟩)
  ·exact fun L ac w ⟨g5, hs⟩ => pln (omv hs 3 rfl rfl rfl fun ac hs => ⟨g5, hs⟩)
  ·exact fun L ac w ⟨g5, hs⟩ => pln (xtr hs (some 4) rfl rfl rfl rfl rfl fun ac hs => ⟨g5, hs⟩)
  ·exact fun L ac w ⟨g5, hs⟩ => pln (xtr hs (some 5) rfl rfl rfl rfl rfl fun ac hs => ⟨g5, hs⟩)
  ·exact fun L ac w ⟨g5, hs⟩ => pln (op_alloc hs (some 6) (some 2) (cs := [.int .u64 0, .int .u64 0, .int .u64 0, .int .u64 0]) rfl rfl zeroValue24 (by kernel_rfl) rfl rfl fun g5 ac w hs => ⟨g5, hs⟩)
  ·exact fun L ac w ⟨g5, hs⟩ => pln (stoo hs 2 ((Wl d3)) sizeOf24 rfl rfl rfl rfl rfl rfl rfl rfl rfl rfl fun w hs => ⟨g5, hs⟩)
  ·exact fun L ac w ⟨g5, hs⟩ => pln (oas hs 7 rfl rfl rfl fun ac hs => ⟨g5, hs⟩)
 intro ac w ⟨g5, hs⟩
 try dsimp only [cond_true] at hs
 refine then_n (wp_seq (wp_seq (wp_region_lit ?_)))
 refine mvv hs rfl rfl rfl fun ac hs => ?_
 refine bnn hs (.bool (decide (c4 = 1))) rfl rfl rfl rfl (bin_eqlN (y := 1)) fun ac hs => ?_
 refine wpList_nil (then_n ?_)
 refine wp_cond_split (hs.ev rfl) (fun hc => ?_) (fun hc => ?_)
 ·skip
  have hp6 := of_decide_eq_true hc
  refine wp_seq (wp_region_lit ?_)
  refine ldd hs 0 (W a) isAgg24 sizeOf24 rfl rfl rfl rfl rfl fun ac hs => ?_
  refine stp (stoo hs 1 ((Wl a)) sizeOf24 rfl rfl rfl rfl rfl rfl rfl rfl rfl rfl fun w hs => ?_)
  refine wpList_nil (then_n (wp_ret (then_r ?_)))
  exact bodyPost_ret (res1 rfl (rv_c hs 1 (v := W a) rfl rfl isAgg24 sizeOf24 rfl)) hs.defers ⟨by rw [← hx, ← rred_lo Nord_big Nord_lt ha hc4 hp6], (hs.bel rfl)⟩
 ·skip
  have hp7 := of_decide_eq_false hc
  refine wp_skip (then_n (wp_seq (wp_region_lit ?_)))
  refine ldd hs 2 (W d3) isAgg24 sizeOf24 rfl rfl rfl rfl rfl fun ac hs => ?_
  refine stp (stoo hs 1 ((Wl d3)) sizeOf24 rfl rfl rfl rfl rfl rfl rfl rfl rfl rfl fun w hs => ?_)
  refine wpList_nil (then_n (wp_ret ?_))
  exact bodyPost_ret (res1 rfl (rv_c hs 1 (v := W d3) rfl rfl isAgg24 sizeOf24 rfl)) hs.defers ⟨by rw [← hx, ← rred_hi Nord_big Nord_lt ha hd3 hc4 hp7], (hs.bel rfl)⟩
theorem rsadd_c (a b x : Nat) (ha : a < 2 ^ 256) (hb : b < 2 ^ 256) (hx : (a + b) % Nord = x) (w0 : World) : Calls prog 28 #[W a, W b] w0 fun e w' => e = .returned (W x) ∧ Below w0.heap.size w0 w' := by
 refine enter (n := 31) (args := [W a, W b]) func28 rfl rfl (Nat.le_of_ble_eq_true rfl) fun ac hs => ?_
 refine wp_seq (wp_region_lit ?_)
 refine stp (op_box hs none none (cs := (Wl a)) rfl rfl rfl rfl rfl rfl fun g1 ac w hs => ?_)
 refine stp (op_box hs none none (cs := (Wl b)) rfl rfl rfl rfl rfl rfl fun g2 ac w hs => ?_)
 refine stp (op_alloc hs none none (cs := [.int .u64 0, .int .u64 0, .int .u64 0, .int .u64 0]) rfl rfl zeroValue24 (by kernel_rfl) rfl rfl fun g3 ac w hs => ?_)
 refine wpList_nil (then_n (wp_seq ?_))
 replace hs := hs.n0 [2, 3, 4] rfl rfl
 obtain ⟨r4, hr4, lr4⟩ : ∃ z0, a % Nord = z0 ∧ z0 < 2 ^ 256 := ⟨_, rfl, modN_lt _⟩
 obtain ⟨r5, hr5, lr5⟩ : ∃ z0, b % Nord = z0 ∧ z0 < 2 ^ 256 := ⟨_, rfl, modN_lt _⟩
 obtain ⟨s6, hs6, ls6⟩ : ∃ z0, (r4 + r5) % 2 ^ 256 = z0 ∧ z0 < 2 ^ 256 := ⟨_, rfl, Nat.mod_lt _ (Nat.two_pow_pos 256)⟩
 obtain ⟨c7, hc7⟩ : ∃ z0, (r4 + r5) / 2 ^ 256 = z0 := ⟨_, rfl⟩
 refine region_inv [([], [1, 3, 4, 5, 6, 7, 9, 10]), ([0], [3, 4, 5, 6, 7, 9, 10]), ([], [3, 4, 5, 6, 7, 9, 10]), ([0, 1, 2], [4, 5, 6, 7, 9, 10]), (rgn 0 4, [5, 6, 7, 9, 10]), (rgn 0 5, [6, 7, 9, 10]), (rgn 0 6, [9, 10]), (rgn 0 6, [10]), ([], [9, 10]), ([0, 1, 2, 3, 4, 5, 6, 8], [10]), (rgn 0 10, [])] (fun L ac w => ∃ (g8 : Nat), St 31 w0 [(10, L 0, W a), (11, L 1, W r4), (12, L 2, W b), (13, L 3, W r5), (14, L 4, .tuple #[W s6, nu64 c7]), (9, L 5, .tuple #[W s6, nu64 c7]), (15, L 6, W s6), (16, L 7, nu64 c7), (5, L 8, ptA g8 0), (6, L 10, nu64 c7), (2, true, ptA g1 0), (3, true, ptA g2 0), (4, true, ptA g3 0)] [(true, g1, 24, (Wl a)), (true, g2, 24, (Wl b)), (true, g3, 24, [.int .u64 0, .int .u64 0, .int .u64 0, .int .u64 0]), (L 8, g8, 24, (cond (L 9) (Wl s6) [.int .u64 0, .int .u64 0, .int .u64 0, .int .u64 0]))] ac w) (by kernel_rfl) (by kernel_rfl) ?_ ?_ ?_
 ·exact ⟨0, hs.drew.skip.skip.skip.skip.skip.skip.skip.skip.skip.skip.pad⟩
 ·refine ⟨?_, ?_, ?_, ?_, ?_, ?_, ?_, ?_, ?_, ?_, ?_, trivial⟩
  ·exact fun L ac w ⟨g8, hs⟩ => pln (oldd hs 0 0 (W a) isAgg24 sizeOf24 rfl rfl rfl rfl rfl fun ac hs => ⟨g8, hs⟩)
  ·exact fun L ac w ⟨g8, hs⟩ => pln (op_call (F := 55) hs (some 1) (v := W r4) rfl rfl rfl rfl (call55 _) (rred_c a r4 ha hr4) rfl fun ac w hs => ⟨g8, hs⟩)
  ·exact fun L ac w ⟨g8, hs⟩ => pln (oldd hs 2 1 (W b) isAgg24 sizeOf24 rfl rfl rfl rfl rfl fun ac hs => ⟨g8, hs⟩)
  ·exact fun L ac w ⟨g8, hs⟩ => pln (op_call (F := 55) hs (some 3) (v := W r5) rfl rfl rfl rfl (call55 _) (rred_c b r5 hb hr5) rfl fun ac w hs => ⟨g8, hs⟩)
  ·exact fun L ac w ⟨g8, hs⟩ => pln (op_call (F := 59) hs (some 4) (v := .tuple #[W s6, nu64 c7]) rfl rfl rfl rfl (call59 _) (more_at r4 r5 s6 c7 lr4 lr5 hs6 hc7) rfl fun ac w hs => ⟨g8, hs⟩)
  ·exact fun L ac w ⟨g8, hs⟩ => pln (omv hs 5 rfl rfl rfl fun ac hs => ⟨g8, hs⟩)
  ·exact fun L ac w ⟨g8, hs⟩ => pln (xtr hs (some 6) rfl rfl rfl rfl rfl fun ac hs => ⟨g8, hs⟩)
  ·exact fun L ac w ⟨g8, hs⟩ => pln (xtr hs (some 7) rfl rfl rfl rfl rfl fun ac hs => ⟨g8, hs⟩)
  ·exact fun L ac w ⟨g8, hs⟩ => pln (op_alloc hs (some 8) (some 3) (cs := [.int .u64 0, .int .u64 0, .int .u64 0, .int .u64 0]) rfl rfl zeroValue24 (by kernel_rfl) rfl rfl fun g8 ac w hs => ⟨g8, hs⟩)
  ·exact fun L ac w ⟨g8, hs⟩ => pln (stoo hs 3 ((Wl s6)) sizeOf24 rfl rfl rfl rfl rfl rfl rfl rfl rfl rfl fun w hs => ⟨g8, hs⟩)
  ·exact fun L ac w ⟨g8, hs⟩ => pln (oas hs 9 rfl rfl rfl fun ac hs => ⟨g8, hs⟩)
 intro ac w ⟨g8, hs⟩
 try dsimp only [cond_true] at hs
 refine then_n (wp_seq ?_)
 replace hs := hs.n0 [4, 5, 6] rfl rfl
 obtain ⟨d9, hd9, ld9⟩ : ∃ z0, (s6 + 2 ^ 256 - Nord) % 2 ^ 256 = z0 ∧ z0 < 2 ^ 256 := ⟨_, rfl, Nat.mod_lt _ (Nat.two_pow_pos 256)⟩
 obtain ⟨c10, hc10⟩ : ∃ z0, bor s6 Nord = z0 := ⟨_, rfl⟩
 refine region_inv [([], [2, 3, 4, 5, 7, 8]), ([], [2, 3, 4, 5, 7, 8]), ([0, 1], [3, 4, 5, 7, 8]), ([0, 1, 2], [4, 5, 7, 8]), (rgn 0 4, [7, 8]), (rgn 0 4, [8]), ([], [7, 8]), ([0, 1, 2, 3, 4, 6], [8]), (rgn 0 8, [])] (fun L ac w => ∃ (g11 : Nat), St 31 w0 [(18, L 0, W s6), (19, L 1, W Nord), (20, L 2, .tuple #[W d9, nu64 c10]), (17, L 3, .tuple #[W d9, nu64 c10]), (21, L 4, W d9), (22, L 5, nu64 c10), (7, L 6, ptA g11 0), (8, L 8, nu64 c10), (4, true, ptA g3 0), (5, true, ptA g8 0), (6, true, nu64 c7)] [(true, g1, 24, (Wl a)), (true, g2, 24, (Wl b)), (true, g3, 24, [.int .u64 0, .int .u64 0, .int .u64 0, .int .u64 0]), (true, g8, 24, (Wl s6)), (L 6, g11, 24, (cond (L 7) (Wl d9) [.int .u64 0, .int .u64 0, .int .u64 0, .int .u64 0]))] ac w) (by kernel_rfl) (by kernel_rfl) ?_ ?_ ?_
 ·exact ⟨0, hs.drew.skip.skip.skip.skip.skip.skip.skip.skip.pad⟩
 ·refine ⟨?_, ?_, ?_, ?_, ?_, ?_, ?_, ?_, ?_, trivial⟩
  ·exact fun L ac w ⟨g11, hs⟩ => pln (oldd hs 0 3 (W s6) isAgg24 sizeOf24 rfl rfl rfl rfl rfl fun ac hs => ⟨g11, hs⟩)
  ·exact fun L ac w ⟨g11, hs⟩ => pln (op_call (F := 61) hs (some 1) (v := W Nord) rfl rfl rfl rfl (call61 _) rorder_c rfl fun ac w hs => ⟨g11, hs⟩)
  ·exact fun L ac w ⟨g11, hs⟩ => pln (op_call (F := 60) hs (some 2) (v := .tuple #[W d9, nu64 c10]) rfl rfl rfl rfl (call60 _) (less_at s6 Nord d9 c10 ls6 Nord_lt hd9 hc10) rfl fun ac w hs => ⟨g11, hs⟩)
  ·exact fun L ac w ⟨g11, hs⟩ => pln (omv hs 3 rfl rfl rfl fun ac hs => ⟨g11, hs⟩)
  ·exact fun L ac w ⟨g11, hs⟩ => pln (xtr hs (some 4) rfl rfl rfl rfl rfl fun ac hs => ⟨g11, hs⟩)
  ·exact fun L ac w ⟨g11, hs⟩ => pln (xtr hs (some 5) rfl rfl rfl rfl rfl fun ac hs => ⟨g11, hs⟩)
  ·exact fun L ac w ⟨g11, hs⟩ => pln (op_alloc hs (some 6) (some 4) (cs := [.int .u64 0, .int .u64 0, .int .u64 0, .int .u64 0]) rfl rfl zeroValue24 (by kernel_rfl) rfl rfl fun g11 ac w hs => ⟨g11, hs⟩)
  ·exact fun L ac w ⟨g11, hs⟩ => pln (stoo hs 4 ((Wl d9)) sizeOf24 rfl rfl rfl rfl rfl rfl rfl rfl rfl rfl fun w hs => ⟨g11, hs⟩)
  ·exact fun L ac w ⟨g11, hs⟩ => pln (oas hs 7 rfl rfl rfl fun ac hs => ⟨g11, hs⟩)
 intro ac w ⟨g11, hs⟩
 try dsimp only [cond_true] at hs
 refine then_n (wp_seq (wp_seq ?_))
 by_cases hq12 : c7 = 1
 ·skip
  refine wp_region_lit ?_
  refine mvv hs rfl rfl rfl fun ac hs => ?_
  refine bnn hs (.bool true) rfl rfl rfl rfl (fun w => dT hq12 (bin_eqlN (y := 1) w)) fun ac hs => ?_
  refine mvv hs rfl rfl rfl fun ac hs => ?_
  refine lstep (wpO_out hs none rfl rfl (.inl rfl) rfl rfl fun ac hs => ?_)
  refine lstep (wpO_out hs none rfl rfl (.inl rfl) rfl rfl fun ac hs => ?_)
  refine stp (op_pickT hs none rfl rfl rfl rfl rfl fun ac hs => ?_)
  refine wpList_nil (then_n ?_)
  refine wp_cond_true (hs.ev rfl) ?_
  refine wp_seq (wp_region_lit ?_)
  refine ldd hs 4 (W d9) isAgg24 sizeOf24 rfl rfl rfl rfl rfl fun ac hs => ?_
  refine stp (stoo hs 2 ((Wl d9)) sizeOf24 rfl rfl rfl rfl rfl rfl rfl rfl rfl rfl fun w hs => ?_)
  refine wpList_nil (then_n (wp_ret (then_r ?_)))
  exact bodyPost_ret (res1 rfl (rv_c hs 2 (v := W d9) rfl rfl isAgg24 sizeOf24 rfl)) hs.defers ⟨by subst hr4 hr5; rw [← hx, radd_c Nord_big Nord_lt (Nat.mod_lt _ (by decide)) (Nat.mod_lt _ (by decide)) hs6 hc7 hd9 hq12, ← Nat.add_mod], (hs.bel rfl)⟩
 ·skip
  by_cases hq13 : c10 = 0
  ·skip
   refine wp_region_lit ?_
   refine mvv hs rfl rfl rfl fun ac hs => ?_
   refine bnn hs (.bool false) rfl rfl rfl rfl (fun w => dF hq12 (bin_eqlN (y := 1) w)) fun ac hs => ?_
   refine mvv hs rfl rfl rfl fun ac hs => ?_
   refine lstep (wpO_in hs rfl rfl rfl (op_move hs none rfl rfl rfl rfl fun ac hs => ?_))
   refine lstep (wpO_in hs rfl rfl rfl (op_bin hs none (v := .bool true) rfl rfl rfl rfl (fun _ => rfl) (fun w => dT hq13 (bin_eqlN (x := c10) (y := 0) w)) rfl fun ac hs => ?_))
   refine stp (op_pickF hs none rfl rfl rfl rfl rfl fun ac hs => ?_)
   refine wpList_nil (then_n ?_)
   refine wp_cond_true (hs.ev rfl) ?_
   refine wp_seq ?_
   replace hs := hs.n0 [4, 5, 7] rfl rfl
   refine wp_region_lit ?_
   refine ldd hs 4 (W d9) isAgg24 sizeOf24 rfl rfl rfl rfl rfl fun ac hs => ?_
   refine stp (stoo hs 2 ((Wl d9)) sizeOf24 rfl rfl rfl rfl rfl rfl rfl rfl rfl rfl fun w hs => ?_)
   refine wpList_nil (then_n (wp_ret (then_r ?_)))
   exact bodyPost_ret (res1 rfl (rv_c hs 2 (v := W d9) rfl rfl isAgg24 sizeOf24 rfl)) hs.defers ⟨by subst hr4 hr5; rw [← hx, radd_b Nord_big Nord_lt (Nat.mod_lt _ (by decide)) (Nat.mod_lt _ (by decide)) hs6 hc7 hd9 hc10 hq12 hq13, ← Nat.add_mod], (hs.bel rfl)⟩
  ·skip
   refine wp_region_lit ?_
   refine mvv hs rfl rfl rfl fun ac hs => ?_
   refine bnn hs (.bool false) rfl rfl rfl rfl (fun w => dF hq12 (bin_eqlN (y := 1) w)) fun ac hs => ?_
   refine mvv hs rfl rfl rfl fun ac hs => ?_
   refine lstep (wpO_in hs rfl rfl rfl (op_move hs none rfl rfl rfl rfl fun ac hs => ?_))
   refine lstep (wpO_in hs rfl rfl rfl (op_bin hs none (v := .bool false) rfl rfl rfl rfl (fun _ => rfl) (fun w => dF hq13 (bin_eqlN (x := c10) (y := 0) w)) rfl fun ac hs => ?_))
   refine stp (op_pickF hs none rfl rfl rfl rfl rfl fun ac hs => ?_)
   refine wpList_nil (then_n ?_)
   refine wp_cond_false (hs.ev rfl) ?_
   refine wp_skip (then_n (wp_seq ?_))
   replace hs := hs.n0 [4, 5] rfl rfl
   refine wp_region_lit ?_
   refine ldd hs 3 (W s6) isAgg24 sizeOf24 rfl rfl rfl rfl rfl fun ac hs => ?_
   refine stp (stoo hs 2 ((Wl s6)) sizeOf24 rfl rfl rfl rfl rfl rfl rfl rfl rfl rfl fun w hs => ?_)
   refine wpList_nil (then_n (wp_ret ?_))
   exact bodyPost_ret (res1 rfl (rv_c hs 2 (v := W s6) rfl rfl isAgg24 sizeOf24 rfl)) hs.defers ⟨by subst hr4 hr5; rw [← hx, radd_s Nord_big Nord_lt (Nat.mod_lt _ (by decide)) (Nat.mod_lt _ (by decide)) hs6 hc7 hc10 hq12 hq13, ← Nat.add_mod], (hs.bel rfl)⟩
theorem rsneg_c (a x : Nat) (ha : a < 2 ^ 256) (hx : (Nord - a % Nord) % Nord = x) (w0 : World) : Calls prog 56 #[W a] w0 fun e w' => e = .returned (W x) ∧ Below w0.heap.size w0 w' := by
 refine enter (n := 18) (args := [W a]) func56 rfl rfl (Nat.le_of_ble_eq_true rfl) fun ac hs => ?_
 refine wp_seq (wp_region_lit ?_)
 refine stp (op_box hs none none (cs := (Wl a)) rfl rfl rfl rfl rfl rfl fun g1 ac w hs => ?_)
 refine stp (op_alloc hs none none (cs := [.int .u64 0, .int .u64 0, .int .u64 0, .int .u64 0]) rfl rfl zeroValue24 (by kernel_rfl) rfl rfl fun g2 ac w hs => ?_)
 refine wpList_nil (then_n (wp_seq (wp_region_lit ?_)))
 refine ldd hs 0 (W a) isAgg24 sizeOf24 rfl rfl rfl rfl rfl fun ac hs => ?_
 obtain ⟨r3, hr3, lr3⟩ : ∃ z0, a % Nord = z0 ∧ z0 < 2 ^ 256 := ⟨_, rfl, modN_lt _⟩
 refine stp (op_call (F := 55) hs none (v := W r3) rfl rfl rfl rfl (call55 _) (rred_c a r3 ha hr3) rfl fun ac w hs => ?_)
 refine stp (stoo hs 0 ((Wl r3)) sizeOf24 rfl rfl rfl rfl rfl rfl rfl rfl rfl rfl fun w hs => ?_)
 refine wpList_nil (then_n (wp_seq (wp_seq (wp_region_lit ?_))))
 refine ldd hs 0 (W r3) isAgg24 sizeOf24 rfl rfl rfl rfl rfl fun ac hs => ?_
 refine stp (op_build hs none (qs := []) (v := .agg #[.int .u64 0, .int .u64 0, .int .u64 0, .int .u64 0]) rfl rfl rfl rfl (fun _ => by kernel_rfl) rfl fun ac hs => ?_)
 refine stp (op_bin hs none (v := .bool (decide (r3 = 0))) rfl rfl rfl rfl (fun w => run_eqGuard_agg w .eql 24 _ _ _ _ Tryz.eqGuardType24) (eqlW r3 0 lr3 (by decide) _ rfl) rfl fun ac hs => ?_)
 refine wpList_nil (then_n ?_)
 refine wp_cond_split (hs.ev rfl) (fun hc => ?_) (fun hc => ?_)
 ·skip
  have hp4 := of_decide_eq_true hc
  refine wp_seq ?_
  replace hs := hs.n0 [1, 2] rfl rfl
  refine wp_region_lit ?_
  refine ldd hs 0 (W r3) isAgg24 sizeOf24 rfl rfl rfl rfl rfl fun ac hs => ?_
  refine stp (stoo hs 1 ((Wl r3)) sizeOf24 rfl rfl rfl rfl rfl rfl rfl rfl rfl rfl fun w hs => ?_)
  refine wpList_nil (then_n (wp_ret (then_r ?_)))
  exact bodyPost_ret (res1 rfl (rv_c hs 1 (v := W r3) rfl rfl isAgg24 sizeOf24 rfl)) hs.defers ⟨by rw [← hx, hr3, hp4]; rfl, (hs.bel rfl)⟩
 ·skip
  have hp5 := of_decide_eq_false hc
  refine wp_skip (then_n (wp_seq ?_))
  replace hs := hs.n0 [1, 2] rfl rfl
  obtain ⟨d6, hd6, ld6⟩ : ∃ z0, (Nord + 2 ^ 256 - r3) % 2 ^ 256 = z0 ∧ z0 < 2 ^ 256 := ⟨_, rfl, Nat.mod_lt _ (Nat.two_pow_pos 256)⟩
  obtain ⟨c7, hc7⟩ : ∃ z0, bor Nord r3 = z0 := ⟨_, rfl⟩
  refine region_inv [([], [2, 3, 4, 5, 7, 8]), ([], [2, 3, 4, 5, 7, 8]), ([0, 1], [3, 4, 5, 7, 8]), ([0, 1, 2], [4, 5, 7, 8]), (rgn 0 4, [7, 8]), (rgn 0 4, [8]), ([], [7, 8]), ([0, 1, 2, 3, 4, 6], [8]), (rgn 0 8, [])] (fun L ac w => ∃ (g8 : Nat), St 18 w0 [(12, L 0, W Nord), (13, L 1, W r3), (14, L 2, .tuple #[W d6, nu64 c7]), (11, L 3, .tuple #[W d6, nu64 c7]), (15, L 4, W d6), (16, L 5, nu64 c7), (3, L 6, ptA g8 0), (4, L 8, nu64 c7), (1, true, ptA g1 0), (2, true, ptA g2 0)] [(true, g1, 24, (Wl r3)), (true, g2, 24, [.int .u64 0, .int .u64 0, .int .u64 0, .int .u64 0]), (L 6, g8, 24, (cond (L 7) (Wl d6) [.int .u64 0, .int .u64 0, .int .u64 0, .int .u64 0]))] ac w) (by kernel_rfl) (by kernel_rfl) ?_ ?_ ?_
  ·exact ⟨0, hs.drew.skip.skip.skip.skip.skip.skip.skip.skip.pad⟩
  ·refine ⟨?_, ?_, ?_, ?_, ?_, ?_, ?_, ?_, ?_, trivial⟩
   ·exact fun L ac w ⟨g8, hs⟩ => pln (op_call (F := 61) hs (some 0) (v := W Nord) rfl rfl rfl rfl (call61 _) rorder_c rfl fun ac w hs => ⟨g8, hs⟩)
   ·exact fun L ac w ⟨g8, hs⟩ => pln (oldd hs 1 0 (W r3) isAgg24 sizeOf24 rfl rfl rfl rfl rfl fun ac hs => ⟨g8, hs⟩)
   ·exact fun L ac w ⟨g8, hs⟩ => pln (op_call (F := 60) hs (some 2) (v := .tuple #[W d6, nu64 c7]) rfl rfl rfl rfl (call60 _) (less_at Nord r3 d6 c7 Nord_lt lr3 hd6 hc7) rfl fun ac w hs => ⟨g8, hs⟩)
   ·exact fun L ac w ⟨g8, hs⟩ => pln (omv hs 3 rfl rfl rfl fun ac hs => ⟨g8, hs⟩)
   ·exact fun L ac w ⟨g8, hs⟩ => pln (xtr hs (some 4) rfl rfl rfl rfl rfl fun ac hs => ⟨g8, hs⟩)
   ·exact fun L ac w ⟨g8, hs⟩ => pln (xtr hs (some 5) rfl rfl rfl rfl rfl fun ac hs => ⟨g8, hs⟩)
   ·exact fun L ac w ⟨g8, hs⟩ => pln (op_alloc hs (some 6) (some 2) (cs := [.int .u64 0, .int .u64 0, .int .u64 0, .int .u64 0]) rfl rfl zeroValue24 (by kernel_rfl) rfl rfl fun g8 ac w hs => ⟨g8, hs⟩)
   ·exact fun L ac w ⟨g8, hs⟩ => pln (stoo hs 2 ((Wl d6)) sizeOf24 rfl rfl rfl rfl rfl rfl rfl rfl rfl rfl fun w hs => ⟨g8, hs⟩)
   ·exact fun L ac w ⟨g8, hs⟩ => pln (oas hs 7 rfl rfl rfl fun ac hs => ⟨g8, hs⟩)
  intro ac w ⟨g8, hs⟩
  try dsimp only [cond_true] at hs
  refine then_n (wp_seq (wp_region_lit ?_))
  refine ldd hs 2 (W d6) isAgg24 sizeOf24 rfl rfl rfl rfl rfl fun ac hs => ?_
  refine stp (stoo hs 1 ((Wl d6)) sizeOf24 rfl rfl rfl rfl rfl rfl rfl rfl rfl rfl fun w hs => ?_)
  refine wpList_nil (then_n (wp_ret ?_))
  exact bodyPost_ret (res1 rfl (rv_c hs 1 (v := W d6) rfl rfl isAgg24 sizeOf24 rfl)) hs.defers ⟨by rw [← hx, ← hd6, hr3]; exact congrArg (fun z => Ending.returned (W z)) (rneg_eq (hr3 ▸ Nat.mod_lt _ (by decide)) hp5), (hs.bel rfl)⟩
end Go.Proofs.YtejbajgpiecjcaaGreat

/- The contracts of the reference's numbers of 256 bits. -/
namespace Go.Proofs.YtejbajgpiecjcaaGreat
open Go.RowKit _root_.Go.Proofs.Tryz
set_option maxRecDepth 10000
theorem digits_c (a : Nat) (w0 : World) : Calls prog 134 #[W a] w0 fun e w' => Made w0 22 (fun g c => .slice (some ⟨g, 0, none⟩) 16 c) (tab .u64 16 (dg a)) e w' := by
 refine enter (n := 27) (args := [W a]) func134 rfl rfl (Nat.le_of_ble_eq_true rfl) fun ac hs => ?_
 refine wp_seq (wp_region_lit ?_)
 refine stp (op_box hs none none (cs := (Wl a)) rfl rfl rfl rfl rfl rfl fun g1 ac w hs => ?_)
 refine asg hs rfl rfl rfl fun ac hs => ?_
 refine wpList_nil (then_n (wp_seq (wp_region_lit ?_)))
 refine stp (op_bs0 hs none none rfl rfl underlying94 inf_u64_22 rfl rfl fun g2 ac w hs => ?_)
 refine asg hs rfl rfl rfl fun ac hs => ?_
 refine wpList_nil (then_n (wp_seq (wp_seq (wp_region_lit ?_))))
 refine asg hs rfl rfl rfl fun ac hs => ?_
 refine wpList_nil (then_n (wp_block ?_))
 refine wp_loop_m (fun μ ac w => ∃ (i : Nat) (gd : Nat) (sp : List Value), (4 - i) = μ ∧ (i ≤ 4) ∧ ((tab .u64 (4 * i) (dg a) ++ sp).length ≤ maxLen) ∧ St 27 w0 [(1, true, ptA g1 0), (3, true, .slice (some ⟨gd, 0, none⟩) (4 * i) ((tab .u64 (4 * i) (dg a) ++ sp).length)), (4, true, ni64 i)] [(true, g1, 24, (Wl a)), (true, gd, 22, (tab .u64 (4 * i) (dg a) ++ sp))] ac w) ?_ ?_
 ·exact ⟨_, 0, g2, ([]), rfl, (by omega), cap0, (hs.re ⟨rfl, rfl, rfl, trivial⟩)⟩
 intro μ ac w ⟨i, gd, sp, hμ, hi, hcap, hs⟩
 refine wp_seq (wp_seq (wp_region_lit ?_))
 refine mvv hs rfl rfl rfl fun ac hs => ?_
 refine bnn hs (.bool (decide (i < 4))) rfl rfl rfl rfl (bin_lssN (y := 4)) fun ac hs => ?_
 refine wpList_nil (then_n ?_)
 refine wp_cond_split (hs.ev rfl) (fun hc => ?_) (fun hc => ?_)
 ·skip
  have hp3 := of_decide_eq_true hc
  have hli : i < 4 := of_decide_eq_true hc
  refine wp_skip (then_n (wp_seq (wp_block (wp_seq (wp_region_lit ?_)))))
  refine mvv hs rfl rfl rfl fun ac hs => ?_
  refine stp (op_idxA hs none (j := i) rfl rfl rfl rfl underlying24 sizeOf22 (show i < 4 by omega) (off := i) (by omega) rfl fun ac hs => ?_)
  have l4 := limN_lt a i
  refine ldd hs 0 (nu64 (limN a i)) isAgg22 sizeOf22 rfl rfl rfl rfl (Wl_get (j := i) (show i < 4 by omega)) fun ac hs => ?_
  refine asg hs rfl rfl rfl fun ac hs => ?_
  refine wpList_nil (then_n (wp_seq ?_))
  replace hs := hs.n0 [1, 3, 4, 5] rfl rfl
  refine wp_region_lit ?_
  refine asg hs rfl rfl rfl fun ac hs => ?_
  refine wpList_nil (then_n (wp_block ?_))
  refine wp_loop_m (fun μ ac w => ∃ (k : Nat) (x : Nat) (ge : Nat) (sq : List Value), (4 - k) = μ ∧ (k ≤ 4) ∧ (x = limN a i / 65536 ^ k) ∧ ((tab .u64 (4 * i + k) (dg a) ++ sq).length ≤ maxLen) ∧ St 27 w0 [(1, true, ptA g1 0), (3, true, .slice (some ⟨ge, 0, none⟩) (4 * i + k) ((tab .u64 (4 * i + k) (dg a) ++ sq).length)), (4, true, ni64 i), (5, true, nu64 x), (6, true, ni64 k)] [(true, g1, 24, (Wl a)), (true, ge, 22, (tab .u64 (4 * i + k) (dg a) ++ sq))] ac w) ?_ ?_
  ·exact ⟨_, 0, (limN a i), gd, sp, rfl, (by omega), (by rw [Nat.pow_zero, Nat.div_one]), hcap, (hs.re ⟨rfl, rfl, rfl, rfl, rfl, trivial⟩)⟩
  intro μ ac w ⟨k, x, ge, sq, hμ, hk, hx, hcap2, hs⟩
  have hxl := dig_lt hx
  refine wp_seq (wp_seq (wp_region_lit ?_))
  refine mvv hs rfl rfl rfl fun ac hs => ?_
  refine bnn hs (.bool (decide (k < 4))) rfl rfl rfl rfl (bin_lssN (y := 4)) fun ac hs => ?_
  refine wpList_nil (then_n ?_)
  refine wp_cond_split (hs.ev rfl) (fun hc => ?_) (fun hc => ?_)
  ·skip
   have hp5 := of_decide_eq_true hc
   have hlt : k < 4 := of_decide_eq_true hc
   refine wp_skip (then_n (wp_seq (wp_block (wp_seq (wp_region_lit ?_)))))
   refine mvv hs rfl rfl rfl fun ac hs => ?_
   refine mvv hs rfl rfl rfl fun ac hs => ?_
   refine bnn hs (nu64 (x % 65536)) rfl rfl rfl rfl (bin_remN (y := 65536) rfl (by decide)) fun ac hs => ?_
   refine stp (op_bs1 hs none none rfl rfl rfl rfl underlying94 inf_u64_22 rfl rfl fun g6 ac w hs => ?_)
   refine stp (op_app1 hs none 1 2 (κ := .u64) (f := dg a) (sp := sq) (xv := x % 65536) rfl rfl rfl rfl rfl rfl underlying94 inf_u64_22 rfl (by decide) hcap2 (by omega) (dig_app hlt hx) rfl fun g7 sp8 ac w hs hm9 => ?_)
   refine asg hs rfl rfl rfl fun ac hs => ?_
   refine wpList_nil (then_n ?_)
   replace hs := hs.n0 [1, 3, 4, 5, 6] rfl rfl
   refine wp_region_lit ?_
   refine mvv hs rfl rfl rfl fun ac hs => ?_
   refine bnn hs (nu64 (x / 65536)) rfl rfl rfl rfl (bin_quoN (y := 65536) rfl (by decide) (show x < 18446744073709551616 by omega)) fun ac hs => ?_
   refine asg hs rfl rfl rfl fun ac hs => ?_
   refine wpList_nil (blk_n (then_n (wp_region_lit ?_)))
   refine mvv hs rfl rfl rfl fun ac hs => ?_
   refine bnn hs (ni64 (k + 1)) rfl rfl rfl rfl (bin_addN (y := 1) rfl (show k + 1 < 9223372036854775808 by omega)) fun ac hs => ?_
   refine asg hs rfl rfl rfl fun ac hs => ?_
   refine wpList_nil (then_n ?_)
   exact ⟨_, ⟨(k + 1), (x / 65536), g7, sp8, rfl, hlt, (dig_next hx), hm9, ((hs.takeb 2).re ⟨rfl, rfl, rfl, rfl, rfl, trivial⟩)⟩, (by omega)⟩
  ·skip
   have hp10 := of_decide_eq_false hc
   obtain rfl : k = 4 := by omega
   refine wp_exit (then_e (then_e (blk_e (blk_n (then_n (wp_region_lit ?_))))))
   refine mvv hs rfl rfl rfl fun ac hs => ?_
   refine bnn hs (ni64 (i + 1)) rfl rfl rfl rfl (bin_addN (y := 1) rfl (show i + 1 < 9223372036854775808 by omega)) fun ac hs => ?_
   refine asg hs rfl rfl rfl fun ac hs => ?_
   refine wpList_nil (then_n ?_)
   exact ⟨_, ⟨(i + 1), ge, sq, rfl, hli, hcap2, (hs.re ⟨rfl, rfl, rfl, trivial⟩)⟩, (by omega)⟩
 ·skip
  have hp11 := of_decide_eq_false hc
  obtain rfl : i = 4 := by omega
  refine wp_exit (then_e (then_e (blk_e (then_n (wp_seq (wp_region_lit ?_))))))
  refine mvv hs rfl rfl rfl fun ac hs => ?_
  refine asg hs rfl rfl rfl fun ac hs => ?_
  refine wpList_nil (then_n (wp_ret ?_))
  exact bodyPost_ret (res1 rfl (rv_t hs rfl)) hs.defers ⟨_, sp, rfl, hs.own0 rfl (i := 1) rfl rfl, (hs.blks 1 _ rfl rfl).1, hs.bel rfl⟩
theorem whole_c (M n fr r gd c : Nat) (w0 : World) (hcell : ∀ j, j < n → w0.cell? ⟨gd, j, none⟩ = some (nu64 (dg M j))) (hM : M < p6 n) (hn : n ≤ 32) (hfr : fr ≤ 16) (hr : M / p6 fr % 2 ^ 256 = r): Calls prog 101 #[.slice (some ⟨gd, 0, none⟩) n c, ni64 fr] w0 fun e w' => e = .returned (W r) ∧ Below w0.heap.size w0 w' := by
 refine enter (n := 36) (args := [.slice (some ⟨gd, 0, none⟩) n c, ni64 fr]) func101 rfl rfl (Nat.le_of_ble_eq_true rfl) fun ac hs => ?_
 refine wp_seq (wp_region_lit ?_)
 refine stp (op_alloc hs none none (cs := [.int .u64 0, .int .u64 0, .int .u64 0, .int .u64 0]) rfl rfl zeroValue24 (by kernel_rfl) rfl rfl fun g1 ac w hs => ?_)
 refine wpList_nil (then_n (wp_seq (wp_region_lit ?_)))
 refine stp (op_build hs none (qs := []) (v := .agg #[.int .u64 0, .int .u64 0, .int .u64 0, .int .u64 0]) rfl rfl rfl rfl (fun _ => by kernel_rfl) rfl fun ac hs => ?_)
 refine stp (op_alloc hs none none (cs := [.int .u64 0, .int .u64 0, .int .u64 0, .int .u64 0]) rfl rfl zeroValue24 (by kernel_rfl) rfl rfl fun g2 ac w hs => ?_)
 refine stp (stoo hs 1 ([.int .u64 0, .int .u64 0, .int .u64 0, .int .u64 0]) sizeOf24 rfl rfl rfl rfl rfl rfl rfl rfl rfl rfl fun w hs => ?_)
 refine wpList_nil (then_n (wp_seq (wp_seq (wp_region_lit ?_))))
 refine asg hs rfl rfl rfl fun ac hs => ?_
 refine wpList_nil (then_n (wp_block ?_))
 refine wp_loop_m (fun μ ac w => ∃ (k : Nat) (f : Nat → Nat), (k) = μ ∧ (k ≤ 16) ∧ (∀ j, j < 4 → f j = wf (M / p6 fr) k j) ∧ St 36 w0 [(0, true, .slice (some ⟨gd, 0, none⟩) n c), (1, true, ni64 fr), (4, true, ptA g1 0), (5, true, ptA g2 0), (6, true, .int .i64 (((k : Nat) : Int) - 1))] [(true, g1, 24, [.int .u64 0, .int .u64 0, .int .u64 0, .int .u64 0]), (true, g2, 24, (tab .u64 4 f))] ac w) ?_ ?_
 ·exact ⟨_, 16, (fun _ => 0), rfl, (by omega), (fun j hj => (wf_top _ j hj).symm), (hs.re ⟨rfl, rfl, rfl, rfl, rfl, trivial⟩)⟩
 intro μ ac w ⟨k, f, hμ, hk, hf, hs⟩
 refine wp_seq (wp_seq (wp_region_lit ?_))
 refine mvv hs rfl rfl rfl fun ac hs => ?_
 refine bnn hs (.bool (decide (1 ≤ k))) rfl rfl rfl rfl bin_geqP fun ac hs => ?_
 refine wpList_nil (then_n ?_)
 refine wp_cond_split (hs.ev rfl) (fun hc => ?_) (fun hc => ?_)
 ·skip
  have hp3 := of_decide_eq_true hc
  replace hs := hs.re (fs' := [(0, true, .slice (some ⟨gd, 0, none⟩) n c), (1, true, ni64 fr), (4, true, ptA g1 0), (5, true, ptA g2 0), (6, true, ni64 (k - 1)), (9, true, .int .i64 (((k : Nat) : Int) - 1)), (10, true, .bool (decide (1 ≤ k)))]) ⟨rfl, rfl, rfl, rfl, congrArg some (pre_nat hp3), rfl, rfl, trivial⟩
  have hroom := whole_room hp3 hk hf
  refine wp_skip (then_n (wp_seq (wp_block (wp_seq (wp_region_lit ?_)))))
  refine asg hs rfl rfl rfl fun ac hs => ?_
  refine wpList_nil (then_n (wp_seq (wp_seq (wp_region_lit ?_))))
  refine mvv hs rfl rfl rfl fun ac hs => ?_
  refine mvv hs rfl rfl rfl fun ac hs => ?_
  refine bnn hs (ni64 (fr + (k - 1))) rfl rfl rfl rfl (bin_addN rfl (show fr + (k - 1) < 9223372036854775808 by omega)) fun ac hs => ?_
  refine mvv hs rfl rfl rfl fun ac hs => ?_
  refine stp (op_blt hs none (v := ni64 n) rfl rfl rfl (blt_len underlying94) rfl fun ac hs => ?_)
  refine bnn hs (.bool (decide (fr + (k - 1) < n))) rfl rfl rfl rfl bin_lssN fun ac hs => ?_
  refine wpList_nil (then_n ?_)
  refine wp_cond_split (hs.ev rfl) (fun hc => ?_) (fun hc => ?_)
  ·skip
   have hp4 := of_decide_eq_true hc
   replace hs := hs.n0 [0, 1, 4, 5, 6, 7] rfl rfl
   refine wp_region_lit ?_
   refine mvv hs rfl rfl rfl fun ac hs => ?_
   refine mvv hs rfl rfl rfl fun ac hs => ?_
   refine mvv hs rfl rfl rfl fun ac hs => ?_
   refine bnn hs (ni64 (fr + (k - 1))) rfl rfl rfl rfl (bin_addN rfl (show fr + (k - 1) < 9223372036854775808 by omega)) fun ac hs => ?_
   refine stp (op_idxS hs none (j := fr + (k - 1)) rfl rfl rfl rfl underlying94 sizeOf22 (show fr + (k - 1) < n by omega) (off := fr + (k - 1)) (by omega) rfl fun ac hs => ?_)
   have l5 := dg_lt M (fr + (k - 1))
   refine stp (op_loadOld hs none (v := .int .u64 (((dg M) (fr + (k - 1)) : Nat) : Int)) rfl rfl rfl isAgg22 rfl (hcell (fr + (k - 1)) (show fr + (k - 1) < n by omega)) rfl fun ac hs => ?_)
   refine asg hs rfl rfl rfl fun ac hs => ?_
   refine wpList_nil (then_n ?_)
   replace hs := hs.n0 [0, 1, 4, 5, 6, 7] rfl rfl
   refine wp_region_lit ?_
   refine mvv hs rfl rfl rfl fun ac hs => ?_
   refine bnn hs (ni64 ((k - 1) / 4)) rfl rfl rfl rfl (bin_quoN (y := 4) rfl (by decide) (show k - 1 < 9223372036854775808 by omega)) fun ac hs => ?_
   refine mvv hs rfl rfl rfl fun ac hs => ?_
   refine bnn hs (ni64 ((k - 1) / 4)) rfl rfl rfl rfl (bin_quoN (y := 4) rfl (by decide) (show k - 1 < 9223372036854775808 by omega)) fun ac hs => ?_
   refine stp (op_idxA hs none (j := (k - 1) / 4) rfl rfl rfl rfl underlying24 sizeOf22 (show (k - 1) / 4 < 4 by omega) (off := (k - 1) / 4) (by omega) rfl fun ac hs => ?_)
   refine ldd hs 1 (nu64 (f ((k - 1) / 4))) isAgg22 sizeOf22 rfl rfl rfl rfl (tab_get (j := (k - 1) / 4) (show (k - 1) / 4 < 4 by omega)) fun ac hs => ?_
   refine bnn hs (.int .u64 (((f ((k - 1) / 4)) * 65536 : Nat) : Int)) rfl rfl rfl rfl (bin_mulN (y := 65536) (z := (f ((k - 1) / 4)) * 65536) rfl (show (f ((k - 1) / 4)) * 65536 < 18446744073709551616 by omega)) fun ac hs => ?_
   refine mvv hs rfl rfl rfl fun ac hs => ?_
   refine bnn hs (.int .u64 (((f ((k - 1) / 4)) * 65536 + ((dg M) (fr + (k - 1))) : Nat) : Int)) rfl rfl rfl rfl (bin_addN (z := (f ((k - 1) / 4)) * 65536 + ((dg M) (fr + (k - 1)))) rfl (show (f ((k - 1) / 4)) * 65536 + ((dg M) (fr + (k - 1))) < 18446744073709551616 by omega)) fun ac hs => ?_
   refine stp (op_idxA hs none (j := (k - 1) / 4) rfl rfl rfl rfl underlying24 sizeOf22 (show (k - 1) / 4 < 4 by omega) (off := (k - 1) / 4) (by omega) rfl fun ac hs => ?_)
   refine stp (stoo hs 1 ([.int .u64 (((f ((k - 1) / 4)) * 65536 + ((dg M) (fr + (k - 1))) : Nat) : Int)]) sizeOf22 rfl rfl rfl rfl rfl rfl rfl rfl (tab_le (j := (k - 1) / 4) (show (k - 1) / 4 < 4 by omega)) (tab_set) fun w hs => ?_)
   refine wpList_nil (blk_n (then_n ?_))
   replace hs := hs.n0 [0, 1, 4, 5, 6] rfl rfl
   refine wp_region_lit ?_
   refine mvv hs rfl rfl rfl fun ac hs => ?_
   refine bnn hs (.int .i64 (((k - 1 : Nat) : Int) - 1)) rfl rfl rfl rfl (bin_subP (by omega)) fun ac hs => ?_
   refine asg hs rfl rfl rfl fun ac hs => ?_
   refine wpList_nil (then_n ?_)
   exact ⟨_, ⟨(k - 1), (upn f ((k - 1) / 4) ((f ((k - 1) / 4)) * 65536 + ((dg M) (fr + (k - 1))))), rfl, (by omega), (whole_step hp3 hk hf whole_x1), (hs.re ⟨rfl, rfl, rfl, rfl, rfl, trivial⟩)⟩, (by omega)⟩
  ·skip
   have hp6 := of_decide_eq_false hc
   refine wp_skip (then_n ?_)
   replace hs := hs.n0 [0, 1, 4, 5, 6, 7] rfl rfl
   refine wp_region_lit ?_
   refine mvv hs rfl rfl rfl fun ac hs => ?_
   refine bnn hs (ni64 ((k - 1) / 4)) rfl rfl rfl rfl (bin_quoN (y := 4) rfl (by decide) (show k - 1 < 9223372036854775808 by omega)) fun ac hs => ?_
   refine mvv hs rfl rfl rfl fun ac hs => ?_
   refine bnn hs (ni64 ((k - 1) / 4)) rfl rfl rfl rfl (bin_quoN (y := 4) rfl (by decide) (show k - 1 < 9223372036854775808 by omega)) fun ac hs => ?_
   refine stp (op_idxA hs none (j := (k - 1) / 4) rfl rfl rfl rfl underlying24 sizeOf22 (show (k - 1) / 4 < 4 by omega) (off := (k - 1) / 4) (by omega) rfl fun ac hs => ?_)
   refine ldd hs 1 (nu64 (f ((k - 1) / 4))) isAgg22 sizeOf22 rfl rfl rfl rfl (tab_get (j := (k - 1) / 4) (show (k - 1) / 4 < 4 by omega)) fun ac hs => ?_
   refine bnn hs (.int .u64 (((f ((k - 1) / 4)) * 65536 : Nat) : Int)) rfl rfl rfl rfl (bin_mulN (y := 65536) (z := (f ((k - 1) / 4)) * 65536) rfl (show (f ((k - 1) / 4)) * 65536 < 18446744073709551616 by omega)) fun ac hs => ?_
   refine mvv hs rfl rfl rfl fun ac hs => ?_
   refine bnn hs (.int .u64 (((f ((k - 1) / 4)) * 65536 + 0 : Nat) : Int)) rfl rfl rfl rfl (bin_addN (y := 0) (z := (f ((k - 1) / 4)) * 65536 + 0) rfl (show (f ((k - 1) / 4)) * 65536 + 0 < 18446744073709551616 by omega)) fun ac hs => ?_
   refine stp (op_idxA hs none (j := (k - 1) / 4) rfl rfl rfl rfl underlying24 sizeOf22 (show (k - 1) / 4 < 4 by omega) (off := (k - 1) / 4) (by omega) rfl fun ac hs => ?_)
   refine stp (stoo hs 1 ([.int .u64 (((f ((k - 1) / 4)) * 65536 + 0 : Nat) : Int)]) sizeOf22 rfl rfl rfl rfl rfl rfl rfl rfl (tab_le (j := (k - 1) / 4) (show (k - 1) / 4 < 4 by omega)) (tab_set) fun w hs => ?_)
   refine wpList_nil (blk_n (then_n ?_))
   replace hs := hs.n0 [0, 1, 4, 5, 6] rfl rfl
   refine wp_region_lit ?_
   refine mvv hs rfl rfl rfl fun ac hs => ?_
   refine bnn hs (.int .i64 (((k - 1 : Nat) : Int) - 1)) rfl rfl rfl rfl (bin_subP (by omega)) fun ac hs => ?_
   refine asg hs rfl rfl rfl fun ac hs => ?_
   refine wpList_nil (then_n ?_)
   exact ⟨_, ⟨(k - 1), (upn f ((k - 1) / 4) ((f ((k - 1) / 4)) * 65536 + 0)), rfl, (by omega), (whole_step hp3 hk hf (whole_x0 hM hp6)), (hs.re ⟨rfl, rfl, rfl, rfl, rfl, trivial⟩)⟩, (by omega)⟩
 ·skip
  have hp7 := of_decide_eq_false hc
  obtain rfl : k = 0 := by omega
  replace hs := hs.setb 1 (cs' := Wl (M / p6 fr)) rfl (tab_Wl fun j hj => (hf j hj).trans (wf_bot _ j hj))
  refine wp_exit (then_e (then_e (blk_e (then_n (wp_seq (wp_region_lit ?_))))))
  refine ldd hs 1 (W (M / p6 fr)) isAgg24 sizeOf24 rfl rfl rfl rfl rfl fun ac hs => ?_
  refine stp (stoo hs 0 ((Wl (M / p6 fr))) sizeOf24 rfl rfl rfl rfl rfl rfl rfl rfl rfl rfl fun w hs => ?_)
  refine wpList_nil (then_n (wp_ret ?_))
  exact bodyPost_ret (res1 rfl (rv_c hs 0 (v := W (M / p6 fr)) rfl rfl isAgg24 sizeOf24 rfl)) hs.defers ⟨by rw [← hr, W_mod], (hs.bel rfl)⟩
theorem rsub06_c (a b d q : Nat) (ha : a < 2 ^ 256) (hb : b < 2 ^ 256) (hd : (a + 2 ^ 256 - b) % 2 ^ 256 = d) (hc' : bor a b = q) (w0 : World) : Calls prog 103 #[W a, W b] w0 fun e w' => e = .returned (.tuple #[W d, nu64 q]) ∧ Below w0.heap.size w0 w' := by
 have ld : d < 2 ^ 256 := by rw [← hd]; exact Nat.mod_lt _ (Nat.two_pow_pos 256)
 refine enter (n := 42) (args := [W a, W b]) func103 rfl rfl (Nat.le_of_ble_eq_true rfl) fun ac hs => ?_
 refine wp_seq (wp_region_lit ?_)
 refine stp (op_box hs none none (cs := (Wl a)) rfl rfl rfl rfl rfl rfl fun g1 ac w hs => ?_)
 refine stp (op_box hs none none (cs := (Wl b)) rfl rfl rfl rfl rfl rfl fun g2 ac w hs => ?_)
 refine stp (op_alloc hs none none (cs := [.int .u64 0, .int .u64 0, .int .u64 0, .int .u64 0]) rfl rfl zeroValue24 (by kernel_rfl) rfl rfl fun g3 ac w hs => ?_)
 refine asg hs rfl rfl rfl fun ac hs => ?_
 refine wpList_nil (then_n (wp_seq ?_))
 replace hs := hs.n0 [2, 3, 4, 5] rfl rfl
 refine region_inv [([], [1, 3, 4, 5]), ([0], [3, 4, 5]), ([], [3, 4, 5]), ([0, 1, 2], [4, 5]), (rgn 0 4, [5]), (rgn 0 5, [])] (fun L ac w => ∃ (g4 : Nat) (sp5 : List Value) (g6 : Nat) (sp7 : List Value), St 42 w0 [(11, L 0, W a), (12, L 1, .slice (some ⟨g4, 0, none⟩) 16 ((tab .u64 16 (dg a) ++ sp5).length)), (13, L 2, W b), (14, L 3, .slice (some ⟨g6, 0, none⟩) 16 ((tab .u64 16 (dg b) ++ sp7).length)), (6, L 4, cond (L 4) (.slice (some ⟨g4, 0, none⟩) 16 ((tab .u64 16 (dg a) ++ sp5).length)) undef), (7, L 5, cond (L 5) (.slice (some ⟨g6, 0, none⟩) 16 ((tab .u64 16 (dg b) ++ sp7).length)) undef), (2, true, ptA g1 0), (3, true, ptA g2 0), (4, true, ptA g3 0), (5, true, .int .u64 0)] [(true, g1, 24, (Wl a)), (true, g2, 24, (Wl b)), (true, g3, 24, [.int .u64 0, .int .u64 0, .int .u64 0, .int .u64 0]), (L 1, g4, 22, (tab .u64 16 (dg a) ++ sp5)), (L 3, g6, 22, (tab .u64 16 (dg b) ++ sp7))] ac w) (by kernel_rfl) (by kernel_rfl) ?_ ?_ ?_
 ·exact ⟨0, [], 0, [], hs.drew.skip.skip.skip.skip.skip.skip.pad.pad⟩
 ·refine ⟨?_, ?_, ?_, ?_, ?_, ?_, trivial⟩
  ·exact fun L ac w ⟨g4, sp5, g6, sp7, hs⟩ => pln (oldd hs 0 0 (W a) isAgg24 sizeOf24 rfl rfl rfl rfl rfl fun ac hs => ⟨g4, sp5, g6, sp7, hs⟩)
  ·exact fun L ac w ⟨g4, sp5, g6, sp7, hs⟩ => pln (op_callM (F := 134) hs (some 1) (some 3) (T := 22) (v := fun g c => .slice (some ⟨g, 0, none⟩) 16 c) (cs := (tab .u64 16 (dg a))) rfl rfl rfl rfl (call134 _) (fun w => digits_c a w) rfl rfl fun g4 sp5 ac w hs => ⟨g4, sp5, g6, sp7, hs⟩)
  ·exact fun L ac w ⟨g4, sp5, g6, sp7, hs⟩ => pln (oldd hs 2 1 (W b) isAgg24 sizeOf24 rfl rfl rfl rfl rfl fun ac hs => ⟨g4, sp5, g6, sp7, hs⟩)
  ·exact fun L ac w ⟨g4, sp5, g6, sp7, hs⟩ => pln (op_callM (F := 134) hs (some 3) (some 4) (T := 22) (v := fun g c => .slice (some ⟨g, 0, none⟩) 16 c) (cs := (tab .u64 16 (dg b))) rfl rfl rfl rfl (call134 _) (fun w => digits_c b w) rfl rfl fun g6 sp7 ac w hs => ⟨g4, sp5, g6, sp7, hs⟩)
  ·exact fun L ac w ⟨g4, sp5, g6, sp7, hs⟩ => pln (oas hs 4 rfl rfl rfl fun ac hs => ⟨g4, sp5, g6, sp7, hs⟩)
  ·exact fun L ac w ⟨g4, sp5, g6, sp7, hs⟩ => pln (oas hs 5 rfl rfl rfl fun ac hs => ⟨g4, sp5, g6, sp7, hs⟩)
 intro ac w ⟨g4, sp5, g6, sp7, hs⟩
 try dsimp only [cond_true] at hs
 refine then_n (wp_seq (wp_region_lit ?_))
 refine asg hs rfl rfl rfl fun ac hs => ?_
 refine wpList_nil (then_n (wp_seq (wp_seq (wp_region_lit ?_))))
 refine asg hs rfl rfl rfl fun ac hs => ?_
 refine wpList_nil (then_n (wp_block ?_))
 refine wp_loop_m (fun μ ac w => ∃ (k : Nat) (c : Nat) (f : Nat → Nat), (16 - k) = μ ∧ (k ≤ 16) ∧ (c = bwd a b k) ∧ (∀ j, j < 16 → f j = mixs (a + 2 ^ 256 - b) a k j) ∧ St 42 w0 [(4, true, ptA g3 0), (6, true, .slice (some ⟨g4, 0, none⟩) 16 ((tab .u64 16 (dg a) ++ sp5).length)), (7, true, .slice (some ⟨g6, 0, none⟩) 16 ((tab .u64 16 (dg b) ++ sp7).length)), (8, true, nu64 c), (9, true, ni64 k)] [(true, g1, 24, (Wl a)), (true, g2, 24, (Wl b)), (true, g3, 24, [.int .u64 0, .int .u64 0, .int .u64 0, .int .u64 0]), (true, g4, 22, (tab .u64 16 f ++ sp5)), (true, g6, 22, (tab .u64 16 (dg b) ++ sp7))] ac w) ?_ ?_
 ·exact ⟨_, 0, 0, (dg a), rfl, (by omega), (bwd_zero a b).symm, (fun j _ => (mixs_zero _ _ j).symm), (hs.re ⟨rfl, rfl, rfl, rfl, rfl, trivial⟩)⟩
 intro μ ac w ⟨k, c, f, hμ, hk, hcb, hf, hs⟩
 have hc0 : c ≤ 1 := by rw [hcb]; exact bwd_le a b k
 refine wp_seq (wp_seq (wp_region_lit ?_))
 refine mvv hs rfl rfl rfl fun ac hs => ?_
 refine bnn hs (.bool (decide (k < 16))) rfl rfl rfl rfl (bin_lssN (y := 16)) fun ac hs => ?_
 refine wpList_nil (then_n ?_)
 refine wp_cond_split (hs.ev rfl) (fun hc => ?_) (fun hc => ?_)
 ·skip
  have hp8 := of_decide_eq_true hc
  have hlt : k < 16 := of_decide_eq_true hc
  have hfk := (hf k hlt).trans mixs_at
  have hfl := dg_lt a k
  have hfb := dg_lt b k
  have hfm : f k < 65536 := by omega
  refine wp_skip (then_n (wp_seq (wp_block (wp_seq ?_))))
  replace hs := hs.n0 [4, 6, 7, 8, 9] rfl rfl
  have l9 := dg_lt b k
  refine region_inv [([], [2, 3, 4, 9, 11, 12]), ([], [2, 3, 4, 9, 11, 12]), ([0, 1], [3, 4, 9, 11, 12]), ([0, 1, 2], [4, 9, 11, 12]), (rgn 0 4, [9, 11, 12]), ([], [7, 8, 9, 11, 12]), ([], [7, 8, 9, 11, 12]), ([5, 6], [8, 9, 11, 12]), ([5, 6, 7], [9, 11, 12]), (rgn 0 9, [11, 12]), ([], [11, 12]), (rgn 0 11, [12]), (rgn 0 12, [])] (fun L ac w => St 42 w0 [(19, L 0, .slice (some ⟨g4, 0, none⟩) 16 ((tab .u64 16 (dg a) ++ sp5).length)), (20, L 1, ni64 k), (21, L 2, .pointer (some ⟨g4, k, none⟩)), (22, L 3, nu64 (f k)), (23, L 4, nu64 (f k + 65536)), (24, L 5, .slice (some ⟨g6, 0, none⟩) 16 ((tab .u64 16 (dg b) ++ sp7).length)), (25, L 6, ni64 k), (26, L 7, .pointer (some ⟨g6, k, none⟩)), (27, L 8, nu64 ((dg b) k)), (28, L 9, nu64 (f k + 65536 - ((dg b) k))), (29, L 10, nu64 c), (30, L 11, nu64 (f k + 65536 - ((dg b) k) - c)), (10, L 12, nu64 (f k + 65536 - ((dg b) k) - c)), (4, true, ptA g3 0), (6, true, .slice (some ⟨g4, 0, none⟩) 16 ((tab .u64 16 (dg a) ++ sp5).length)), (7, true, .slice (some ⟨g6, 0, none⟩) 16 ((tab .u64 16 (dg b) ++ sp7).length)), (8, true, nu64 c), (9, true, ni64 k)] [(true, g1, 24, (Wl a)), (true, g2, 24, (Wl b)), (true, g3, 24, [.int .u64 0, .int .u64 0, .int .u64 0, .int .u64 0]), (true, g4, 22, (tab .u64 16 f ++ sp5)), (true, g6, 22, (tab .u64 16 (dg b) ++ sp7))] ac w) (by kernel_rfl) (by kernel_rfl) ?_ ?_ ?_
  ·exact hs.drew.skip.skip.skip.skip.skip.skip.skip.skip.skip.skip.skip.skip.skip
  ·refine ⟨?_, ?_, ?_, ?_, ?_, ?_, ?_, ?_, ?_, ?_, ?_, ?_, ?_, trivial⟩
   ·exact fun L ac w hs => pln (omv hs 0 rfl rfl rfl fun ac hs => hs)
   ·exact fun L ac w hs => pln (omv hs 1 rfl rfl rfl fun ac hs => hs)
   ·exact fun L ac w hs => pln (op_idxS hs (some 2) (j := k) rfl rfl rfl rfl underlying94 sizeOf22 (show k < 16 by omega) (off := k) (by omega) rfl fun ac hs => hs)
   ·exact fun L ac w hs => pln (oldd hs 3 3 (nu64 (f k)) isAgg22 sizeOf22 rfl rfl rfl rfl (tabs_get (j := k) (show k < 16 by omega)) fun ac hs => hs)
   ·exact fun L ac w hs => pln (obn hs 4 (nu64 (f k + 65536)) rfl rfl rfl rfl (bin_addN (y := 65536) rfl (show f k + 65536 < 18446744073709551616 by omega)) fun ac hs => hs)
   ·exact fun L ac w hs => pln (omv hs 5 rfl rfl rfl fun ac hs => hs)
   ·exact fun L ac w hs => pln (omv hs 6 rfl rfl rfl fun ac hs => hs)
   ·exact fun L ac w hs => pln (op_idxS hs (some 7) (j := k) rfl rfl rfl rfl underlying94 sizeOf22 (show k < 16 by omega) (off := k) (by omega) rfl fun ac hs => hs)
   ·exact fun L ac w hs => pln (oldd hs 8 4 (nu64 ((dg b) k)) isAgg22 sizeOf22 rfl rfl rfl rfl (tabs_get (j := k) (show k < 16 by omega)) fun ac hs => hs)
   ·exact fun L ac w hs => pln (obn hs 9 (nu64 (f k + 65536 - ((dg b) k))) rfl rfl rfl rfl (bin_subN (by omega) (show f k + 65536 - ((dg b) k) < 18446744073709551616 by omega)) fun ac hs => hs)
   ·exact fun L ac w hs => pln (omv hs 10 rfl rfl rfl fun ac hs => hs)
   ·exact fun L ac w hs => pln (obn hs 11 (nu64 (f k + 65536 - ((dg b) k) - c)) rfl rfl rfl rfl (bin_subN (by omega) (show f k + 65536 - ((dg b) k) - c < 18446744073709551616 by omega)) fun ac hs => hs)
   ·exact fun L ac w hs => pln (oas hs 12 rfl rfl rfl fun ac hs => hs)
  intro ac w hs
  try dsimp only [cond_true] at hs
  refine then_n (wp_seq (wp_region_lit ?_))
  refine mvv hs rfl rfl rfl fun ac hs => ?_
  refine bnn hs (.int .u64 (((f k + 65536 - ((dg b) k) - c) / 65536 : Nat) : Int)) rfl rfl rfl rfl (bin_quoN (y := 65536) (z := (f k + 65536 - ((dg b) k) - c) / 65536) rfl (by decide) (show f k + 65536 - ((dg b) k) - c < 18446744073709551616 by omega)) fun ac hs => ?_
  refine bnn hs (.int .u64 ((1 - ((f k + 65536 - ((dg b) k) - c) / 65536) : Nat) : Int)) rfl rfl rfl rfl (bin_subN (x := 1) (z := 1 - ((f k + 65536 - ((dg b) k) - c) / 65536)) (by omega) (show 1 - ((f k + 65536 - ((dg b) k) - c) / 65536) < 18446744073709551616 by omega)) fun ac hs => ?_
  refine asg hs rfl rfl rfl fun ac hs => ?_
  refine wpList_nil (then_n (wp_region_lit ?_))
  refine mvv hs rfl rfl rfl fun ac hs => ?_
  refine mvv hs rfl rfl rfl fun ac hs => ?_
  refine mvv hs rfl rfl rfl fun ac hs => ?_
  refine bnn hs (.int .u64 (((f k + 65536 - ((dg b) k) - c) % 65536 : Nat) : Int)) rfl rfl rfl rfl (bin_remN (y := 65536) (z := (f k + 65536 - ((dg b) k) - c) % 65536) rfl (by decide)) fun ac hs => ?_
  refine stp (op_idxS hs none (j := k) rfl rfl rfl rfl underlying94 sizeOf22 (show k < 16 by omega) (off := k) (by omega) rfl fun ac hs => ?_)
  refine stp (stoo hs 3 ([.int .u64 (((f k + 65536 - ((dg b) k) - c) % 65536 : Nat) : Int)]) sizeOf22 rfl rfl rfl rfl rfl rfl rfl rfl (tabs_le (j := k) (show k < 16 by omega)) (tabs_set (j := k) (show k < 16 by omega)) fun w hs => ?_)
  refine wpList_nil (blk_n (then_n ?_))
  replace hs := hs.n0 [4, 6, 7, 8, 9] rfl rfl
  refine wp_region_lit ?_
  refine mvv hs rfl rfl rfl fun ac hs => ?_
  refine bnn hs (ni64 (k + 1)) rfl rfl rfl rfl (bin_addN (y := 1) rfl (show k + 1 < 9223372036854775808 by omega)) fun ac hs => ?_
  refine asg hs rfl rfl rfl fun ac hs => ?_
  refine wpList_nil (then_n ?_)
  exact ⟨_, ⟨(k + 1), (1 - ((f k + 65536 - ((dg b) k) - c) / 65536)), (upn f k ((f k + 65536 - ((dg b) k) - c) % 65536)), rfl, hlt, (sub_c hcb hfk), (sub_f hb hlt hcb hf), (hs.re ⟨rfl, rfl, rfl, rfl, rfl, trivial⟩)⟩, (by omega)⟩
 ·skip
  have hp10 := of_decide_eq_false hc
  obtain rfl : k = 16 := by omega
  replace hs := hs.setb 3 (cs' := tab .u64 16 (dg d) ++ sp5) rfl (by rw [tab_congr (sub_fin hd hf)])
  refine wp_exit (then_e (then_e (blk_e (then_n (wp_seq (wp_region_lit ?_))))))
  refine mvv hs rfl rfl rfl fun ac hs => ?_
  obtain ⟨r11, hr11, lr11⟩ : ∃ z0, d / p6 0 % 2 ^ 256 = z0 ∧ z0 < 2 ^ 256 := ⟨_, rfl, Nat.mod_lt _ (Nat.two_pow_pos 256)⟩
  refine stp (op_callW (F := 101) hs none (v := W r11) rfl rfl rfl rfl (call101 _) (fun hs => whole_c d 16 0 r11 g4 _ _ (hs.cellT (k := 3) rfl) (show d < p6 16 from ld) (by decide) (by decide) hr11) rfl fun ac w hs => ?_)
  refine mvv hs rfl rfl rfl fun ac hs => ?_
  refine stp (stoo hs 2 ((Wl r11)) sizeOf24 rfl rfl rfl rfl rfl rfl rfl rfl rfl rfl fun w hs => ?_)
  refine asg hs rfl rfl rfl fun ac hs => ?_
  refine wpList_nil (then_n (wp_ret ?_))
  exact bodyPost_ret (res2 rfl (rv_c hs 2 (v := W r11) rfl rfl isAgg24 sizeOf24 rfl) (rv_t hs rfl)) hs.defers ⟨by rw [← hr11, whole0 ld, hcb, sub_q ha hb hc'], (hs.bel rfl)⟩
theorem product_c (a b : Nat) (ha : a < 2 ^ 256) (hb : b < 2 ^ 256) (w0 : World) : Calls prog 100 #[W a, W b] w0 fun e w' => Made w0 22 (fun g c => .slice (some ⟨g, 0, none⟩) 32 c) (tab .u64 32 (dg (a * b))) e w' := by
 refine enter (n := 57) (args := [W a, W b]) func100 rfl rfl (Nat.le_of_ble_eq_true rfl) fun ac hs => ?_
 refine wp_seq (wp_region_lit ?_)
 refine stp (op_box hs none none (cs := (Wl a)) rfl rfl rfl rfl rfl rfl fun g1 ac w hs => ?_)
 refine stp (op_box hs none none (cs := (Wl b)) rfl rfl rfl rfl rfl rfl fun g2 ac w hs => ?_)
 refine asg hs rfl rfl rfl fun ac hs => ?_
 refine wpList_nil (then_n (wp_seq ?_))
 replace hs := hs.n0 [2, 3, 4] rfl rfl
 refine region_inv [([], [1, 3, 4, 5]), ([0], [3, 4, 5]), ([], [3, 4, 5]), ([0, 1, 2], [4, 5]), (rgn 0 4, [5]), (rgn 0 5, [])] (fun L ac w => ∃ (g3 : Nat) (sp4 : List Value) (g5 : Nat) (sp6 : List Value), St 57 w0 [(11, L 0, W a), (12, L 1, .slice (some ⟨g3, 0, none⟩) 16 ((tab .u64 16 (dg a) ++ sp4).length)), (13, L 2, W b), (14, L 3, .slice (some ⟨g5, 0, none⟩) 16 ((tab .u64 16 (dg b) ++ sp6).length)), (5, L 4, cond (L 4) (.slice (some ⟨g3, 0, none⟩) 16 ((tab .u64 16 (dg a) ++ sp4).length)) undef), (6, L 5, cond (L 5) (.slice (some ⟨g5, 0, none⟩) 16 ((tab .u64 16 (dg b) ++ sp6).length)) undef), (2, true, ptA g1 0), (3, true, ptA g2 0), (4, true, .slice none 0 0)] [(true, g1, 24, (Wl a)), (true, g2, 24, (Wl b)), (L 1, g3, 22, (tab .u64 16 (dg a) ++ sp4)), (L 3, g5, 22, (tab .u64 16 (dg b) ++ sp6))] ac w) (by kernel_rfl) (by kernel_rfl) ?_ ?_ ?_
 ·exact ⟨0, [], 0, [], hs.drew.skip.skip.skip.skip.skip.skip.pad.pad⟩
 ·refine ⟨?_, ?_, ?_, ?_, ?_, ?_, trivial⟩
  ·exact fun L ac w ⟨g3, sp4, g5, sp6, hs⟩ => pln (oldd hs 0 0 (W a) isAgg24 sizeOf24 rfl rfl rfl rfl rfl fun ac hs => ⟨g3, sp4, g5, sp6, hs⟩)
  ·exact fun L ac w ⟨g3, sp4, g5, sp6, hs⟩ => pln (op_callM (F := 134) hs (some 1) (some 2) (T := 22) (v := fun g c => .slice (some ⟨g, 0, none⟩) 16 c) (cs := (tab .u64 16 (dg a))) rfl rfl rfl rfl (call134 _) (fun w => digits_c a w) rfl rfl fun g3 sp4 ac w hs => ⟨g3, sp4, g5, sp6, hs⟩)
  ·exact fun L ac w ⟨g3, sp4, g5, sp6, hs⟩ => pln (oldd hs 2 1 (W b) isAgg24 sizeOf24 rfl rfl rfl rfl rfl fun ac hs => ⟨g3, sp4, g5, sp6, hs⟩)
  ·exact fun L ac w ⟨g3, sp4, g5, sp6, hs⟩ => pln (op_callM (F := 134) hs (some 3) (some 3) (T := 22) (v := fun g c => .slice (some ⟨g, 0, none⟩) 16 c) (cs := (tab .u64 16 (dg b))) rfl rfl rfl rfl (call134 _) (fun w => digits_c b w) rfl rfl fun g5 sp6 ac w hs => ⟨g3, sp4, g5, sp6, hs⟩)
  ·exact fun L ac w ⟨g3, sp4, g5, sp6, hs⟩ => pln (oas hs 4 rfl rfl rfl fun ac hs => ⟨g3, sp4, g5, sp6, hs⟩)
  ·exact fun L ac w ⟨g3, sp4, g5, sp6, hs⟩ => pln (oas hs 5 rfl rfl rfl fun ac hs => ⟨g3, sp4, g5, sp6, hs⟩)
 intro ac w ⟨g3, sp4, g5, sp6, hs⟩
 try dsimp only [cond_true] at hs
 refine then_n (wp_seq (wp_region_lit ?_))
 refine stp (op_makeS hs none none (l := 32) rfl rfl rfl rfl underlying94 inf_u64_22 (show 32 ≤ 1000000 by omega) (by decide) rfl rfl fun g7 ac w hs => ?_)
 refine asg hs rfl rfl rfl fun ac hs => ?_
 refine wpList_nil (then_n (wp_seq (wp_seq (wp_region_lit ?_))))
 refine asg hs rfl rfl rfl fun ac hs => ?_
 refine wpList_nil (then_n (wp_block ?_))
 refine wp_loop_m (fun μ ac w => ∃ (i : Nat) (f : Nat → Nat), (16 - i) = μ ∧ (i ≤ 16) ∧ (∀ j, j < 32 → f j = dg (VD a b i) j) ∧ St 57 w0 [(5, true, .slice (some ⟨g3, 0, none⟩) 16 ((tab .u64 16 (dg a) ++ sp4).length)), (6, true, .slice (some ⟨g5, 0, none⟩) 16 ((tab .u64 16 (dg b) ++ sp6).length)), (7, true, .slice (some ⟨g7, 0, none⟩) 32 32), (8, true, ni64 i)] [(true, g1, 24, (Wl a)), (true, g2, 24, (Wl b)), (true, g3, 22, (tab .u64 16 (dg a) ++ sp4)), (true, g5, 22, (tab .u64 16 (dg b) ++ sp6)), (true, g7, 22, (tab .u64 32 f))] ac w) ?_ ?_
 ·exact ⟨_, 0, (fun _ => 0), rfl, (by omega), prod_0, (hs.re ⟨rfl, rfl, rfl, rfl, trivial⟩)⟩
 intro μ ac w ⟨i, f, hμ, hi, hf, hs⟩
 refine wp_seq (wp_seq (wp_region_lit ?_))
 refine mvv hs rfl rfl rfl fun ac hs => ?_
 refine bnn hs (.bool (decide (i < 16))) rfl rfl rfl rfl (bin_lssN (y := 16)) fun ac hs => ?_
 refine wpList_nil (then_n ?_)
 refine wp_cond_split (hs.ev rfl) (fun hc => ?_) (fun hc => ?_)
 ·skip
  have hp8 := of_decide_eq_true hc
  have hli : i < 16 := of_decide_eq_true hc
  have hxl := dg_lt a i
  refine wp_skip (then_n (wp_seq (wp_block (wp_seq (wp_region_lit ?_)))))
  refine asg hs rfl rfl rfl fun ac hs => ?_
  refine wpList_nil (then_n (wp_seq (wp_seq (wp_region_lit ?_))))
  refine asg hs rfl rfl rfl fun ac hs => ?_
  refine wpList_nil (then_n (wp_block ?_))
  refine wp_loop_m (fun μ ac w => ∃ (k : Nat) (c : Nat) (F : Nat → Nat), (16 - k) = μ ∧ (k ≤ 16) ∧ (Ind (VD a b i) (dg a i) b i k c) ∧ (∀ j, j < 32 → F j = mixd (VD a b i) (dg a i) b i k j) ∧ St 57 w0 [(5, true, .slice (some ⟨g3, 0, none⟩) 16 ((tab .u64 16 (dg a) ++ sp4).length)), (6, true, .slice (some ⟨g5, 0, none⟩) 16 ((tab .u64 16 (dg b) ++ sp6).length)), (7, true, .slice (some ⟨g7, 0, none⟩) 32 32), (8, true, ni64 i), (9, true, nu64 c), (10, true, ni64 k)] [(true, g1, 24, (Wl a)), (true, g2, 24, (Wl b)), (true, g3, 22, (tab .u64 16 (dg a) ++ sp4)), (true, g5, 22, (tab .u64 16 (dg b) ++ sp6)), (true, g7, 22, (tab .u64 32 F))] ac w) ?_ ?_
  ·exact ⟨_, 0, 0, f, rfl, (by omega), (ind_zero _ _ _ _), (prod_f0 hf), (hs.re ⟨rfl, rfl, rfl, rfl, rfl, rfl, trivial⟩)⟩
  intro μ ac w ⟨k, c, F, hμ, hk, hI, hF, hs⟩
  have hc0 := hI.2
  refine wp_seq (wp_seq (wp_region_lit ?_))
  refine mvv hs rfl rfl rfl fun ac hs => ?_
  refine bnn hs (.bool (decide (k < 16))) rfl rfl rfl rfl (bin_lssN (y := 16)) fun ac hs => ?_
  refine wpList_nil (then_n ?_)
  refine wp_cond_split (hs.ev rfl) (fun hc => ?_) (fun hc => ?_)
  ·skip
   have hp9 := of_decide_eq_true hc
   have hlt : k < 16 := of_decide_eq_true hc
   have hfk : F (i + k) = dg (VD a b i) (i + k) := (hF _ (by omega)).trans mixd_at
   have hfl := dg_lt (VD a b i) (i + k)
   have hfb := dg_lt b k
   have hmm := mul_lt16 hxl hfb
   have hfm : F (i + k) < 65536 := by omega
   refine wp_skip (then_n (wp_seq (wp_block (wp_seq ?_))))
   replace hs := hs.n0 [5, 6, 7, 8, 9, 10] rfl rfl
   have l10 := dg_lt a i
   have l11 := dg_lt b k
   refine region_inv [([], [7, 17, 18]), ([], [5, 6, 7, 17, 18]), ([], [4, 5, 6, 7, 17, 18]), ([], [4, 5, 6, 7, 17, 18]), ([2, 3], [5, 6, 7, 17, 18]), (rgn 1 4, [6, 7, 17, 18]), (rgn 1 5, [7, 17, 18]), (rgn 0 7, [17, 18]), ([], [10, 11, 16, 17, 18]), ([], [10, 11, 16, 17, 18]), ([8, 9], [11, 16, 17, 18]), ([8, 9, 10], [16, 17, 18]), ([], rgn 14 5), ([], rgn 14 5), ([12, 13], rgn 15 4), ([12, 13, 14], [16, 17, 18]), (rgn 8 8, [17, 18]), (rgn 0 17, [18]), (rgn 0 18, [])] (fun L ac w => St 57 w0 [(24, L 0, nu64 c), (25, L 1, .slice (some ⟨g7, 0, none⟩) 32 32), (26, L 2, ni64 i), (27, L 3, ni64 k), (28, L 4, ni64 (i + k)), (29, L 5, .pointer (some ⟨g7, i + k, none⟩)), (30, L 6, nu64 (F (i + k))), (31, L 7, nu64 (c + (F (i + k)))), (32, L 8, .slice (some ⟨g3, 0, none⟩) 16 ((tab .u64 16 (dg a) ++ sp4).length)), (33, L 9, ni64 i), (34, L 10, .pointer (some ⟨g3, i, none⟩)), (35, L 11, nu64 ((dg a) i)), (36, L 12, .slice (some ⟨g5, 0, none⟩) 16 ((tab .u64 16 (dg b) ++ sp6).length)), (37, L 13, ni64 k), (38, L 14, .pointer (some ⟨g5, k, none⟩)), (39, L 15, nu64 ((dg b) k)), (40, L 16, .int .u64 ((((dg a) i) * ((dg b) k) : Nat) : Int)), (41, L 17, .int .u64 ((c + (F (i + k)) + (((dg a) i) * ((dg b) k)) : Nat) : Int)), (9, L 18, .int .u64 ((c + (F (i + k)) + (((dg a) i) * ((dg b) k)) : Nat) : Int)), (5, true, .slice (some ⟨g3, 0, none⟩) 16 ((tab .u64 16 (dg a) ++ sp4).length)), (6, true, .slice (some ⟨g5, 0, none⟩) 16 ((tab .u64 16 (dg b) ++ sp6).length)), (7, true, .slice (some ⟨g7, 0, none⟩) 32 32), (8, true, ni64 i), (9, true, nu64 c), (10, true, ni64 k)] [(true, g1, 24, (Wl a)), (true, g2, 24, (Wl b)), (true, g3, 22, (tab .u64 16 (dg a) ++ sp4)), (true, g5, 22, (tab .u64 16 (dg b) ++ sp6)), (true, g7, 22, (tab .u64 32 F))] ac w) (by kernel_rfl) (by kernel_rfl) ?_ ?_ ?_
   ·exact hs.drew.skip.skip.skip.skip.skip.skip.skip.skip.skip.skip.skip.skip.skip.skip.skip.skip.skip.skip.skip
   ·refine ⟨?_, ?_, ?_, ?_, ?_, ?_, ?_, ?_, ?_, ?_, ?_, ?_, ?_, ?_, ?_, ?_, ?_, ?_, ?_, trivial⟩
    ·exact fun L ac w hs => pln (omv hs 0 rfl rfl rfl fun ac hs => hs)
    ·exact fun L ac w hs => pln (omv hs 1 rfl rfl rfl fun ac hs => hs)
    ·exact fun L ac w hs => pln (omv hs 2 rfl rfl rfl fun ac hs => hs)
    ·exact fun L ac w hs => pln (omv hs 3 rfl rfl rfl fun ac hs => hs)
    ·exact fun L ac w hs => pln (obn hs 4 (ni64 (i + k)) rfl rfl rfl rfl (bin_addN rfl (show i + k < 9223372036854775808 by omega)) fun ac hs => hs)
    ·exact fun L ac w hs => pln (op_idxS hs (some 5) (j := i + k) rfl rfl rfl rfl underlying94 sizeOf22 (show i + k < 32 by omega) (off := i + k) (by omega) rfl fun ac hs => hs)
    ·exact fun L ac w hs => pln (oldd hs 6 4 (nu64 (F (i + k))) isAgg22 sizeOf22 rfl rfl rfl rfl (tab_get (j := i + k) (show i + k < 32 by omega)) fun ac hs => hs)
    ·exact fun L ac w hs => pln (obn hs 7 (nu64 (c + (F (i + k)))) rfl rfl rfl rfl (bin_addN rfl (show c + (F (i + k)) < 18446744073709551616 by omega)) fun ac hs => hs)
    ·exact fun L ac w hs => pln (omv hs 8 rfl rfl rfl fun ac hs => hs)
    ·exact fun L ac w hs => pln (omv hs 9 rfl rfl rfl fun ac hs => hs)
    ·exact fun L ac w hs => pln (op_idxS hs (some 10) (j := i) rfl rfl rfl rfl underlying94 sizeOf22 (show i < 16 by omega) (off := i) (by omega) rfl fun ac hs => hs)
    ·exact fun L ac w hs => pln (oldd hs 11 2 (nu64 ((dg a) i)) isAgg22 sizeOf22 rfl rfl rfl rfl (tabs_get (j := i) (show i < 16 by omega)) fun ac hs => hs)
    ·exact fun L ac w hs => pln (omv hs 12 rfl rfl rfl fun ac hs => hs)
    ·exact fun L ac w hs => pln (omv hs 13 rfl rfl rfl fun ac hs => hs)
    ·exact fun L ac w hs => pln (op_idxS hs (some 14) (j := k) rfl rfl rfl rfl underlying94 sizeOf22 (show k < 16 by omega) (off := k) (by omega) rfl fun ac hs => hs)
    ·exact fun L ac w hs => pln (oldd hs 15 3 (nu64 ((dg b) k)) isAgg22 sizeOf22 rfl rfl rfl rfl (tabs_get (j := k) (show k < 16 by omega)) fun ac hs => hs)
    ·exact fun L ac w hs => pln (obn hs 16 (.int .u64 ((((dg a) i) * ((dg b) k) : Nat) : Int)) rfl rfl rfl rfl (bin_mulN (z := ((dg a) i) * ((dg b) k)) rfl (show ((dg a) i) * ((dg b) k) < 18446744073709551616 by omega)) fun ac hs => hs)
    ·exact fun L ac w hs => pln (obn hs 17 (.int .u64 ((c + (F (i + k)) + (((dg a) i) * ((dg b) k)) : Nat) : Int)) rfl rfl rfl rfl (bin_addN (z := c + (F (i + k)) + (((dg a) i) * ((dg b) k))) rfl (show c + (F (i + k)) + (((dg a) i) * ((dg b) k)) < 18446744073709551616 by omega)) fun ac hs => hs)
    ·exact fun L ac w hs => pln (oas hs 18 rfl rfl rfl fun ac hs => hs)
   intro ac w hs
   try dsimp only [cond_true] at hs
   refine then_n (wp_seq (wp_region_lit ?_))
   refine mvv hs rfl rfl rfl fun ac hs => ?_
   refine mvv hs rfl rfl rfl fun ac hs => ?_
   refine mvv hs rfl rfl rfl fun ac hs => ?_
   refine bnn hs (ni64 (i + k)) rfl rfl rfl rfl (bin_addN rfl (show i + k < 9223372036854775808 by omega)) fun ac hs => ?_
   refine mvv hs rfl rfl rfl fun ac hs => ?_
   refine bnn hs (.int .u64 (((c + (F (i + k)) + (((dg a) i) * ((dg b) k))) % 65536 : Nat) : Int)) rfl rfl rfl rfl (bin_remN (y := 65536) (z := (c + (F (i + k)) + (((dg a) i) * ((dg b) k))) % 65536) rfl (by decide)) fun ac hs => ?_
   refine stp (op_idxS hs none (j := i + k) rfl rfl rfl rfl underlying94 sizeOf22 (show i + k < 32 by omega) (off := i + k) (by omega) rfl fun ac hs => ?_)
   refine stp (stoo hs 4 ([.int .u64 (((c + (F (i + k)) + (((dg a) i) * ((dg b) k))) % 65536 : Nat) : Int)]) sizeOf22 rfl rfl rfl rfl rfl rfl rfl rfl (tab_le (j := i + k) (show i + k < 32 by omega)) (tab_set) fun w hs => ?_)
   refine wpList_nil (then_n ?_)
   replace hs := hs.n0 [5, 6, 7, 8, 9, 10] rfl rfl
   refine wp_region_lit ?_
   refine mvv hs rfl rfl rfl fun ac hs => ?_
   refine bnn hs (.int .u64 (((c + (F (i + k)) + (((dg a) i) * ((dg b) k))) / 65536 : Nat) : Int)) rfl rfl rfl rfl (bin_quoN (y := 65536) (z := (c + (F (i + k)) + (((dg a) i) * ((dg b) k))) / 65536) rfl (by decide) (show c + (F (i + k)) + (((dg a) i) * ((dg b) k)) < 18446744073709551616 by omega)) fun ac hs => ?_
   refine asg hs rfl rfl rfl fun ac hs => ?_
   refine wpList_nil (blk_n (then_n (wp_region_lit ?_)))
   refine mvv hs rfl rfl rfl fun ac hs => ?_
   refine bnn hs (ni64 (k + 1)) rfl rfl rfl rfl (bin_addN (y := 1) rfl (show k + 1 < 9223372036854775808 by omega)) fun ac hs => ?_
   refine asg hs rfl rfl rfl fun ac hs => ?_
   refine wpList_nil (then_n ?_)
   exact ⟨_, ⟨(k + 1), ((c + (F (i + k)) + (((dg a) i) * ((dg b) k))) / 65536), (upn F (i + k) ((c + (F (i + k)) + (((dg a) i) * ((dg b) k))) % 65536)), rfl, hlt, (prod_c hxl hfk hI), (prod_f hxl (by omega) hI hF), (hs.re ⟨rfl, rfl, rfl, rfl, rfl, rfl, trivial⟩)⟩, (by omega)⟩
  ·skip
   have hp12 := of_decide_eq_false hc
   obtain rfl : k = 16 := by omega
   refine wp_exit (then_e (then_e (blk_e (then_n (wp_region_lit ?_)))))
   refine mvv hs rfl rfl rfl fun ac hs => ?_
   refine mvv hs rfl rfl rfl fun ac hs => ?_
   refine bnn hs (ni64 (i + 16)) rfl rfl rfl rfl (bin_addN (y := 16) rfl (show i + 16 < 9223372036854775808 by omega)) fun ac hs => ?_
   refine mvv hs rfl rfl rfl fun ac hs => ?_
   refine stp (op_idxS hs none (j := i + 16) rfl rfl rfl rfl underlying94 sizeOf22 (show i + 16 < 32 by omega) (off := i + 16) (by omega) rfl fun ac hs => ?_)
   refine stp (stoo hs 4 ([nu64 c]) sizeOf22 rfl rfl rfl rfl rfl rfl rfl rfl (tab_le (j := i + 16) (show i + 16 < 32 by omega)) (tab_set) fun w hs => ?_)
   refine wpList_nil (blk_n (then_n ?_))
   replace hs := hs.n0 [5, 6, 7, 8] rfl rfl
   refine wp_region_lit ?_
   refine mvv hs rfl rfl rfl fun ac hs => ?_
   refine bnn hs (ni64 (i + 1)) rfl rfl rfl rfl (bin_addN (y := 1) rfl (show i + 1 < 9223372036854775808 by omega)) fun ac hs => ?_
   refine asg hs rfl rfl rfl fun ac hs => ?_
   refine wpList_nil (then_n ?_)
   exact ⟨_, ⟨(i + 1), (upn F (i + 16) c), rfl, hli, (prod_last hb hI hF), (hs.re ⟨rfl, rfl, rfl, rfl, trivial⟩)⟩, (by omega)⟩
 ·skip
  have hp13 := of_decide_eq_false hc
  obtain rfl : i = 16 := by omega
  replace hs := hs.setb 4 (cs' := tab .u64 32 (dg (a * b))) rfl (tab_congr (prod_fin ha hf))
  refine wp_exit (then_e (then_e (blk_e (then_n (wp_seq (wp_region_lit ?_))))))
  refine mvv hs rfl rfl rfl fun ac hs => ?_
  refine asg hs rfl rfl rfl fun ac hs => ?_
  refine wpList_nil (then_n (wp_ret ?_))
  exact bodyPost_ret (res1 rfl (rv_t hs rfl)) hs.defers ⟨_, [], rfl, hs.own0 rfl (i := 4) rfl rfl, (hs.blks 4 _ rfl rfl).1, hs.bel rfl⟩
theorem rmul_c (a b l h : Nat) (ha : a < 2 ^ 256) (hb : b < 2 ^ 256) (hl : a * b % 2 ^ 256 = l) (hh : a * b / 2 ^ 256 = h) (w0 : World) : Calls prog 62 #[W a, W b] w0 fun e w' => e = .returned (.tuple #[W l, W h]) ∧ Below w0.heap.size w0 w' := by
 refine enter (n := 14) (args := [W a, W b]) func62 rfl rfl (Nat.le_of_ble_eq_true rfl) fun ac hs => ?_
 refine wp_seq (wp_region_lit ?_)
 refine stp (op_box hs none none (cs := (Wl a)) rfl rfl rfl rfl rfl rfl fun g1 ac w hs => ?_)
 refine stp (op_box hs none none (cs := (Wl b)) rfl rfl rfl rfl rfl rfl fun g2 ac w hs => ?_)
 refine stp (op_alloc hs none none (cs := [.int .u64 0, .int .u64 0, .int .u64 0, .int .u64 0]) rfl rfl zeroValue24 (by kernel_rfl) rfl rfl fun g3 ac w hs => ?_)
 refine stp (op_alloc hs none none (cs := [.int .u64 0, .int .u64 0, .int .u64 0, .int .u64 0]) rfl rfl zeroValue24 (by kernel_rfl) rfl rfl fun g4 ac w hs => ?_)
 refine wpList_nil (then_n (wp_seq (wp_region_lit ?_)))
 refine ldd hs 0 (W a) isAgg24 sizeOf24 rfl rfl rfl rfl rfl fun ac hs => ?_
 refine ldd hs 1 (W b) isAgg24 sizeOf24 rfl rfl rfl rfl rfl fun ac hs => ?_
 refine stp (op_callM (F := 100) hs none none (T := 22) (v := fun g c => .slice (some ⟨g, 0, none⟩) 32 c) (cs := (tab .u64 32 (dg (a * b)))) rfl rfl rfl rfl (call100 _) (fun w => product_c a b ha hb w) rfl rfl fun g5 sp6 ac w hs => ?_)
 refine asg hs rfl rfl rfl fun ac hs => ?_
 refine wpList_nil (then_n (wp_seq ?_))
 replace hs := hs.n0 [4, 5, 6] rfl rfl
 refine wp_region_lit ?_
 refine mvv hs rfl rfl rfl fun ac hs => ?_
 obtain ⟨r7, hr7, lr7⟩ : ∃ z0, (a * b) / p6 0 % 2 ^ 256 = z0 ∧ z0 < 2 ^ 256 := ⟨_, rfl, Nat.mod_lt _ (Nat.two_pow_pos 256)⟩
 refine stp (op_callW (F := 101) hs none (v := W r7) rfl rfl rfl rfl (call101 _) (fun hs => whole_c (a * b) 32 0 r7 g5 _ _ (hs.cellT (k := 4) rfl) (prod_lt ha hb) (by decide) (by decide) hr7) rfl fun ac w hs => ?_)
 refine mvv hs rfl rfl rfl fun ac hs => ?_
 obtain ⟨r8, hr8, lr8⟩ : ∃ z0, (a * b) / p6 16 % 2 ^ 256 = z0 ∧ z0 < 2 ^ 256 := ⟨_, rfl, Nat.mod_lt _ (Nat.two_pow_pos 256)⟩
 refine stp (op_callW (F := 101) hs none (v := W r8) rfl rfl rfl rfl (call101 _) (fun hs => whole_c (a * b) 32 16 r8 g5 _ _ (hs.cellT (k := 4) rfl) (prod_lt ha hb) (by decide) (by decide) hr8) rfl fun ac w hs => ?_)
 refine stp (stoo hs 2 ((Wl r7)) sizeOf24 rfl rfl rfl rfl rfl rfl rfl rfl rfl rfl fun w hs => ?_)
 refine stp (stoo hs 3 ((Wl r8)) sizeOf24 rfl rfl rfl rfl rfl rfl rfl rfl rfl rfl fun w hs => ?_)
 refine wpList_nil (then_n (wp_ret ?_))
 exact bodyPost_ret (res2 rfl (rv_c hs 2 (v := W r7) rfl rfl isAgg24 sizeOf24 rfl) (rv_c hs 3 (v := W r8) rfl rfl isAgg24 sizeOf24 rfl)) hs.defers ⟨by rw [← hr7, ← hr8, p6_0, p6_16, Nat.div_one, hl, Nat.mod_eq_of_lt (mul_hi ha hb), hh], (hs.bel rfl)⟩
theorem rbit_c (a i b : Nat) (hi : i < 256) (hb : a / 2 ^ i % 2 = b) (w0 : World) : Calls prog 86 #[W a, ni64 i] w0 fun e w' => e = .returned (nu64 b) ∧ Below w0.heap.size w0 w' := by
 refine enter (n := 15) (args := [W a, ni64 i]) func86 rfl rfl (Nat.le_of_ble_eq_true rfl) fun ac hs => ?_
 refine wp_seq (wp_region_lit ?_)
 refine stp (op_box hs none none (cs := (Wl a)) rfl rfl rfl rfl rfl rfl fun g1 ac w hs => ?_)
 refine asg hs rfl rfl rfl fun ac hs => ?_
 refine wpList_nil (then_n (wp_seq (wp_region_lit ?_)))
 refine mvv hs rfl rfl rfl fun ac hs => ?_
 refine bnn hs (ni64 (i / 64)) rfl rfl rfl rfl (bin_quoN (y := 64) rfl (by decide) (show i < 9223372036854775808 by omega)) fun ac hs => ?_
 refine stp (op_idxA hs none (j := i / 64) rfl rfl rfl rfl underlying24 sizeOf22 (show i / 64 < 4 by omega) (off := i / 64) (by omega) rfl fun ac hs => ?_)
 have l2 := limN_lt a (i / 64)
 refine ldd hs 0 (nu64 (limN a (i / 64))) isAgg22 sizeOf22 rfl rfl rfl rfl (Wl_get (j := i / 64) (show i / 64 < 4 by omega)) fun ac hs => ?_
 refine mvv hs rfl rfl rfl fun ac hs => ?_
 refine bnn hs (ni64 (i % 64)) rfl rfl rfl rfl (bin_remN (y := 64) rfl (by decide)) fun ac hs => ?_
 refine stp (op_convert hs none (v := nu64 (i % 64)) rfl rfl rfl (conv_N underlying3 underlying73 (show i % 64 < 18446744073709551616 by omega)) rfl fun ac hs => ?_)
 refine bnn hs (nu64 (2 ^ (i % 64))) rfl rfl rfl rfl (bin_shlM (x := 1) rfl (pow_mod64 (Nat.mod_lt _ (by decide)))) fun ac hs => ?_
 refine bnn hs (.int .u64 (((limN a (i / 64)) / (2 ^ (i % 64)) : Nat) : Int)) rfl rfl rfl rfl (bin_quoN (z := (limN a (i / 64)) / (2 ^ (i % 64))) rfl (Nat.ne_of_gt (Nat.two_pow_pos _)) (limN_lt _ _)) fun ac hs => ?_
 refine bnn hs (.int .u64 ((((limN a (i / 64)) / (2 ^ (i % 64))) % 2 : Nat) : Int)) rfl rfl rfl rfl (bin_remN (y := 2) (z := ((limN a (i / 64)) / (2 ^ (i % 64))) % 2) rfl (by decide)) fun ac hs => ?_
 refine asg hs rfl rfl rfl fun ac hs => ?_
 refine wpList_nil (then_n (wp_ret ?_))
 exact bodyPost_ret (res1 rfl (rv_t hs rfl)) hs.defers ⟨by rw [bit_lim, hb], (hs.bel rfl)⟩
theorem rtwice_c (a b t q : Nat) (ha : a < 2 ^ 256) (hb : b ≤ 1) (ht : (2 * a + b) % 2 ^ 256 = t) (hc' : (2 * a + b) / 2 ^ 256 = q) (w0 : World) : Calls prog 102 #[W a, nu64 b] w0 fun e w' => e = .returned (.tuple #[W t, nu64 q]) ∧ Below w0.heap.size w0 w' := by
 refine enter (n := 40) (args := [W a, nu64 b]) func102 rfl rfl (Nat.le_of_ble_eq_true rfl) fun ac hs => ?_
 refine wp_seq (wp_region_lit ?_)
 refine stp (op_box hs none none (cs := (Wl a)) rfl rfl rfl rfl rfl rfl fun g1 ac w hs => ?_)
 refine stp (op_alloc hs none none (cs := [.int .u64 0, .int .u64 0, .int .u64 0, .int .u64 0]) rfl rfl zeroValue24 (by kernel_rfl) rfl rfl fun g2 ac w hs => ?_)
 refine asg hs rfl rfl rfl fun ac hs => ?_
 refine wpList_nil (then_n (wp_seq (wp_region_lit ?_)))
 refine stp (op_idxA hs none (j := 3) rfl rfl rfl rfl underlying24 sizeOf22 (by decide) (off := 3) rfl rfl fun ac hs => ?_)
 have l3 := limN_lt a 3
 refine ldd hs 0 (.int .u64 (lim a 3)) isAgg22 sizeOf22 rfl rfl rfl rfl rfl fun ac hs => ?_
 refine bnn hs (nu64 ((limN a 3) / 9223372036854775808)) rfl rfl rfl rfl (bin_quoN (y := 9223372036854775808) rfl (by decide) (show limN a 3 < 18446744073709551616 by omega)) fun ac hs => ?_
 refine asg hs rfl rfl rfl fun ac hs => ?_
 refine wpList_nil (then_n (wp_seq ?_))
 replace hs := hs.n0 [1, 2, 4, 5, 6] rfl rfl
 refine wp_region_lit ?_
 refine stp (op_idxA hs none (j := 0) rfl rfl rfl rfl underlying24 sizeOf22 (by decide) (off := 0) rfl rfl fun ac hs => ?_)
 have l4 := limN_lt a 0
 refine ldd hs 0 (.int .u64 (lim a 0)) isAgg22 sizeOf22 rfl rfl rfl rfl rfl fun ac hs => ?_
 refine bnn hs (nu64 ((limN a 0) * 2 % 18446744073709551616)) rfl rfl rfl rfl (bin_mulM (y := 2) rfl rfl) fun ac hs => ?_
 refine mvv hs rfl rfl rfl fun ac hs => ?_
 refine bnn hs (nu64 ((limN a 0) * 2 % 18446744073709551616 + b)) rfl rfl rfl rfl (bin_addN rfl (show (limN a 0) * 2 % 18446744073709551616 + b < 18446744073709551616 by omega)) fun ac hs => ?_
 refine stp (op_idxA hs none (j := 1) rfl rfl rfl rfl underlying24 sizeOf22 (by decide) (off := 1) rfl rfl fun ac hs => ?_)
 have l5 := limN_lt a 1
 refine ldd hs 0 (.int .u64 (lim a 1)) isAgg22 sizeOf22 rfl rfl rfl rfl rfl fun ac hs => ?_
 refine bnn hs (nu64 ((limN a 1) * 2 % 18446744073709551616)) rfl rfl rfl rfl (bin_mulM (y := 2) rfl rfl) fun ac hs => ?_
 refine stp (op_idxA hs none (j := 0) rfl rfl rfl rfl underlying24 sizeOf22 (by decide) (off := 0) rfl rfl fun ac hs => ?_)
 have l6 := limN_lt a 0
 refine ldd hs 0 (.int .u64 (lim a 0)) isAgg22 sizeOf22 rfl rfl rfl rfl rfl fun ac hs => ?_
 refine bnn hs (nu64 ((limN a 0) / 9223372036854775808)) rfl rfl rfl rfl (bin_quoN (y := 9223372036854775808) rfl (by decide) (show limN a 0 < 18446744073709551616 by omega)) fun ac hs => ?_
 refine bnn hs (.int .u64 (((limN a 1) * 2 % 18446744073709551616 + ((limN a 0) / 9223372036854775808) : Nat) : Int)) rfl rfl rfl rfl (bin_addN (z := (limN a 1) * 2 % 18446744073709551616 + ((limN a 0) / 9223372036854775808)) rfl (show (limN a 1) * 2 % 18446744073709551616 + ((limN a 0) / 9223372036854775808) < 18446744073709551616 by omega)) fun ac hs => ?_
 refine stp (op_idxA hs none (j := 2) rfl rfl rfl rfl underlying24 sizeOf22 (by decide) (off := 2) rfl rfl fun ac hs => ?_)
 have l7 := limN_lt a 2
 refine ldd hs 0 (.int .u64 (lim a 2)) isAgg22 sizeOf22 rfl rfl rfl rfl rfl fun ac hs => ?_
 refine bnn hs (nu64 ((limN a 2) * 2 % 18446744073709551616)) rfl rfl rfl rfl (bin_mulM (y := 2) rfl rfl) fun ac hs => ?_
 refine stp (op_idxA hs none (j := 1) rfl rfl rfl rfl underlying24 sizeOf22 (by decide) (off := 1) rfl rfl fun ac hs => ?_)
 have l8 := limN_lt a 1
 refine ldd hs 0 (.int .u64 (lim a 1)) isAgg22 sizeOf22 rfl rfl rfl rfl rfl fun ac hs => ?_
 refine bnn hs (nu64 ((limN a 1) / 9223372036854775808)) rfl rfl rfl rfl (bin_quoN (y := 9223372036854775808) rfl (by decide) (show limN a 1 < 18446744073709551616 by omega)) fun ac hs => ?_
 refine bnn hs (.int .u64 (((limN a 2) * 2 % 18446744073709551616 + ((limN a 1) / 9223372036854775808) : Nat) : Int)) rfl rfl rfl rfl (bin_addN (z := (limN a 2) * 2 % 18446744073709551616 + ((limN a 1) / 9223372036854775808)) rfl (show (limN a 2) * 2 % 18446744073709551616 + ((limN a 1) / 9223372036854775808) < 18446744073709551616 by omega)) fun ac hs => ?_
 refine stp (op_idxA hs none (j := 3) rfl rfl rfl rfl underlying24 sizeOf22 (by decide) (off := 3) rfl rfl fun ac hs => ?_)
 have l9 := limN_lt a 3
 refine ldd hs 0 (.int .u64 (lim a 3)) isAgg22 sizeOf22 rfl rfl rfl rfl rfl fun ac hs => ?_
 refine bnn hs (nu64 ((limN a 3) * 2 % 18446744073709551616)) rfl rfl rfl rfl (bin_mulM (y := 2) rfl rfl) fun ac hs => ?_
 refine stp (op_idxA hs none (j := 2) rfl rfl rfl rfl underlying24 sizeOf22 (by decide) (off := 2) rfl rfl fun ac hs => ?_)
 have l10 := limN_lt a 2
 refine ldd hs 0 (.int .u64 (lim a 2)) isAgg22 sizeOf22 rfl rfl rfl rfl rfl fun ac hs => ?_
 refine bnn hs (nu64 ((limN a 2) / 9223372036854775808)) rfl rfl rfl rfl (bin_quoN (y := 9223372036854775808) rfl (by decide) (show limN a 2 < 18446744073709551616 by omega)) fun ac hs => ?_
 refine bnn hs (.int .u64 (((limN a 3) * 2 % 18446744073709551616 + ((limN a 2) / 9223372036854775808) : Nat) : Int)) rfl rfl rfl rfl (bin_addN (z := (limN a 3) * 2 % 18446744073709551616 + ((limN a 2) / 9223372036854775808)) rfl (show (limN a 3) * 2 % 18446744073709551616 + ((limN a 2) / 9223372036854775808) < 18446744073709551616 by omega)) fun ac hs => ?_
 refine stp (op_build hs none (qs := [(0, nu64 ((limN a 0) * 2 % 18446744073709551616 + b)), (1, .int .u64 (((limN a 1) * 2 % 18446744073709551616 + ((limN a 0) / 9223372036854775808) : Nat) : Int)), (2, .int .u64 (((limN a 2) * 2 % 18446744073709551616 + ((limN a 1) / 9223372036854775808) : Nat) : Int)), (3, .int .u64 (((limN a 3) * 2 % 18446744073709551616 + ((limN a 2) / 9223372036854775808) : Nat) : Int))]) (v := .agg #[nu64 ((limN a 0) * 2 % 18446744073709551616 + b), .int .u64 (((limN a 1) * 2 % 18446744073709551616 + ((limN a 0) / 9223372036854775808) : Nat) : Int), .int .u64 (((limN a 2) * 2 % 18446744073709551616 + ((limN a 1) / 9223372036854775808) : Nat) : Int), .int .u64 (((limN a 3) * 2 % 18446744073709551616 + ((limN a 2) / 9223372036854775808) : Nat) : Int)]) rfl rfl rfl rfl (fun _ => by kernel_rfl) rfl fun ac hs => ?_)
 refine stp (op_alloc hs none none (cs := [.int .u64 0, .int .u64 0, .int .u64 0, .int .u64 0]) rfl rfl zeroValue24 (by kernel_rfl) rfl rfl fun g11 ac w hs => ?_)
 refine stp (stoo hs 2 ([nu64 ((limN a 0) * 2 % 18446744073709551616 + b), .int .u64 (((limN a 1) * 2 % 18446744073709551616 + ((limN a 0) / 9223372036854775808) : Nat) : Int), .int .u64 (((limN a 2) * 2 % 18446744073709551616 + ((limN a 1) / 9223372036854775808) : Nat) : Int), .int .u64 (((limN a 3) * 2 % 18446744073709551616 + ((limN a 2) / 9223372036854775808) : Nat) : Int)]) sizeOf24 rfl rfl rfl rfl rfl rfl rfl rfl rfl rfl fun w hs => ?_)
 refine wpList_nil (then_n (wp_seq ?_))
 replace hs := hs.n0 [4, 5, 6, 7] rfl rfl
 refine wp_region_lit ?_
 refine ldd hs 2 (.agg #[nu64 ((limN a 0) * 2 % 18446744073709551616 + b), .int .u64 (((limN a 1) * 2 % 18446744073709551616 + ((limN a 0) / 9223372036854775808) : Nat) : Int), .int .u64 (((limN a 2) * 2 % 18446744073709551616 + ((limN a 1) / 9223372036854775808) : Nat) : Int), .int .u64 (((limN a 3) * 2 % 18446744073709551616 + ((limN a 2) / 9223372036854775808) : Nat) : Int)]) isAgg24 sizeOf24 rfl rfl rfl rfl rfl fun ac hs => ?_
 refine mvv hs rfl rfl rfl fun ac hs => ?_
 refine stp (stoo hs 1 ([nu64 ((limN a 0) * 2 % 18446744073709551616 + b), .int .u64 (((limN a 1) * 2 % 18446744073709551616 + ((limN a 0) / 9223372036854775808) : Nat) : Int), .int .u64 (((limN a 2) * 2 % 18446744073709551616 + ((limN a 1) / 9223372036854775808) : Nat) : Int), .int .u64 (((limN a 3) * 2 % 18446744073709551616 + ((limN a 2) / 9223372036854775808) : Nat) : Int)]) sizeOf24 rfl rfl rfl rfl rfl rfl rfl rfl rfl rfl fun w hs => ?_)
 refine asg hs rfl rfl rfl fun ac hs => ?_
 refine wpList_nil (then_n (wp_ret ?_))
 exact bodyPost_ret (res2 rfl (rv_c hs 1 (v := .agg #[nu64 ((limN a 0) * 2 % 18446744073709551616 + b), .int .u64 (((limN a 1) * 2 % 18446744073709551616 + ((limN a 0) / 9223372036854775808) : Nat) : Int), .int .u64 (((limN a 2) * 2 % 18446744073709551616 + ((limN a 1) / 9223372036854775808) : Nat) : Int), .int .u64 (((limN a 3) * 2 % 18446744073709551616 + ((limN a 2) / 9223372036854775808) : Nat) : Int)]) rfl rfl isAgg24 sizeOf24 rfl) (rv_t hs rfl)) hs.defers ⟨by rw [← ht, W_mod, ← tw_c ha hb hc']; exact congrArg (fun l => Ending.returned (.tuple #[.agg (List.toArray l), _])) (tw_limbs hb), (hs.bel rfl)⟩
theorem rcmp_c (a b : Nat) (ha : a < 2 ^ 256) (hb : b < 2 ^ 256) (w0 : World) : Calls prog 82 #[W a, W b] w0 fun e w' => e = .returned (.int .i64 (cmpZ a b)) ∧ Below w0.heap.size w0 w' := by
 refine enter (n := 24) (args := [W a, W b]) func82 rfl rfl (Nat.le_of_ble_eq_true rfl) fun ac hs => ?_
 refine wp_seq (wp_region_lit ?_)
 refine stp (op_box hs none none (cs := (Wl a)) rfl rfl rfl rfl rfl rfl fun g1 ac w hs => ?_)
 refine stp (op_box hs none none (cs := (Wl b)) rfl rfl rfl rfl rfl rfl fun g2 ac w hs => ?_)
 refine asg hs rfl rfl rfl fun ac hs => ?_
 refine wpList_nil (then_n (wp_seq (wp_seq (wp_region_lit ?_))))
 refine asg hs rfl rfl rfl fun ac hs => ?_
 refine wpList_nil (then_n (wp_block ?_))
 refine wp_loop_m (fun μ ac w => ∃ (k : Nat), (k) = μ ∧ (k ≤ 4) ∧ (a / 2 ^ (64 * k) = b / 2 ^ (64 * k)) ∧ St 24 w0 [(2, true, ptA g1 0), (3, true, ptA g2 0), (5, true, .int .i64 (((k : Nat) : Int) - 1))] [(true, g1, 24, (Wl a)), (true, g2, 24, (Wl b))] ac w) ?_ ?_
 ·exact ⟨_, 4, rfl, (by omega), ((Nat.div_eq_of_lt ha).trans (Nat.div_eq_of_lt hb).symm), (hs.re ⟨rfl, rfl, rfl, trivial⟩)⟩
 intro μ ac w ⟨k, hμ, hk, hq, hs⟩
 refine wp_seq (wp_seq (wp_region_lit ?_))
 refine mvv hs rfl rfl rfl fun ac hs => ?_
 refine bnn hs (.bool (decide (1 ≤ k))) rfl rfl rfl rfl bin_geqP fun ac hs => ?_
 refine wpList_nil (then_n ?_)
 refine wp_cond_split (hs.ev rfl) (fun hc => ?_) (fun hc => ?_)
 ·skip
  have hp3 := of_decide_eq_true hc
  replace hs := hs.re (fs' := [(2, true, ptA g1 0), (3, true, ptA g2 0), (5, true, ni64 (k - 1)), (6, true, .int .i64 (((k : Nat) : Int) - 1)), (7, true, .bool (decide (1 ≤ k)))]) ⟨rfl, rfl, congrArg some (pre_nat hp3), rfl, rfl, trivial⟩
  refine wp_skip (then_n (wp_seq (wp_block (wp_seq (wp_seq ?_)))))
  replace hs := hs.n0 [2, 3, 5] rfl rfl
  have l4 := limN_lt a (k - 1)
  have l5 := limN_lt b (k - 1)
  refine region_inv [([], [1, 2, 6]), ([0], [2, 6]), ([0, 1], [6]), ([], [4, 5, 6]), ([3], [5, 6]), ([3, 4], [6]), (rgn 0 6, [])] (fun L ac w => St 24 w0 [(10, L 0, ni64 (k - 1)), (11, L 1, .pointer (some ⟨g1, k - 1, none⟩)), (12, L 2, nu64 (limN a (k - 1))), (13, L 3, ni64 (k - 1)), (14, L 4, .pointer (some ⟨g2, k - 1, none⟩)), (15, L 5, nu64 (limN b (k - 1))), (16, L 6, .bool (decide (limN a (k - 1) < limN b (k - 1)))), (2, true, ptA g1 0), (3, true, ptA g2 0), (5, true, ni64 (k - 1))] [(true, g1, 24, (Wl a)), (true, g2, 24, (Wl b))] ac w) (by kernel_rfl) (by kernel_rfl) ?_ ?_ ?_
  ·exact hs.drew.skip.skip.skip.skip.skip.skip.skip
  ·refine ⟨?_, ?_, ?_, ?_, ?_, ?_, ?_, trivial⟩
   ·exact fun L ac w hs => pln (omv hs 0 rfl rfl rfl fun ac hs => hs)
   ·exact fun L ac w hs => pln (op_idxA hs (some 1) (j := k - 1) rfl rfl rfl rfl underlying24 sizeOf22 (show k - 1 < 4 by omega) (off := k - 1) (by omega) rfl fun ac hs => hs)
   ·exact fun L ac w hs => pln (oldd hs 2 0 (nu64 (limN a (k - 1))) isAgg22 sizeOf22 rfl rfl rfl rfl (Wl_get (j := k - 1) (show k - 1 < 4 by omega)) fun ac hs => hs)
   ·exact fun L ac w hs => pln (omv hs 3 rfl rfl rfl fun ac hs => hs)
   ·exact fun L ac w hs => pln (op_idxA hs (some 4) (j := k - 1) rfl rfl rfl rfl underlying24 sizeOf22 (show k - 1 < 4 by omega) (off := k - 1) (by omega) rfl fun ac hs => hs)
   ·exact fun L ac w hs => pln (oldd hs 5 1 (nu64 (limN b (k - 1))) isAgg22 sizeOf22 rfl rfl rfl rfl (Wl_get (j := k - 1) (show k - 1 < 4 by omega)) fun ac hs => hs)
   ·exact fun L ac w hs => pln (obn hs 6 (.bool (decide (limN a (k - 1) < limN b (k - 1)))) rfl rfl rfl rfl bin_lssN fun ac hs => hs)
  intro ac w hs
  try dsimp only [cond_true] at hs
  refine then_n ?_
  refine wp_cond_split (hs.ev rfl) (fun hc => ?_) (fun hc => ?_)
  ·skip
   have hp6 := of_decide_eq_true hc
   refine wp_seq (wp_region_lit ?_)
   refine asg hs rfl rfl rfl fun ac hs => ?_
   refine wpList_nil (then_n (wp_ret (then_r (blk_r (then_r (then_r (blk_r (then_r ?_))))))))
   exact bodyPost_ret (res1 rfl (rv_t hs rfl)) hs.defers ⟨ret_int (cmp_lt (cmp_hi hp3 hq hp6)).symm, (hs.bel rfl)⟩
  ·skip
   have hp7 := of_decide_eq_false hc
   refine wp_skip (then_n (wp_seq ?_))
   replace hs := hs.n0 [2, 3, 5] rfl rfl
   have l8 := limN_lt a (k - 1)
   have l9 := limN_lt b (k - 1)
   refine region_inv [([], [1, 2, 6]), ([0], [2, 6]), ([0, 1], [6]), ([], [4, 5, 6]), ([3], [5, 6]), ([3, 4], [6]), (rgn 0 6, [])] (fun L ac w => St 24 w0 [(17, L 0, ni64 (k - 1)), (18, L 1, .pointer (some ⟨g1, k - 1, none⟩)), (19, L 2, nu64 (limN a (k - 1))), (20, L 3, ni64 (k - 1)), (21, L 4, .pointer (some ⟨g2, k - 1, none⟩)), (22, L 5, nu64 (limN b (k - 1))), (23, L 6, .bool (decide (limN b (k - 1) < limN a (k - 1)))), (2, true, ptA g1 0), (3, true, ptA g2 0), (5, true, ni64 (k - 1))] [(true, g1, 24, (Wl a)), (true, g2, 24, (Wl b))] ac w) (by kernel_rfl) (by kernel_rfl) ?_ ?_ ?_
   ·exact hs.drew.skip.skip.skip.skip.skip.skip.skip
   ·refine ⟨?_, ?_, ?_, ?_, ?_, ?_, ?_, trivial⟩
    ·exact fun L ac w hs => pln (omv hs 0 rfl rfl rfl fun ac hs => hs)
    ·exact fun L ac w hs => pln (op_idxA hs (some 1) (j := k - 1) rfl rfl rfl rfl underlying24 sizeOf22 (show k - 1 < 4 by omega) (off := k - 1) (by omega) rfl fun ac hs => hs)
    ·exact fun L ac w hs => pln (oldd hs 2 0 (nu64 (limN a (k - 1))) isAgg22 sizeOf22 rfl rfl rfl rfl (Wl_get (j := k - 1) (show k - 1 < 4 by omega)) fun ac hs => hs)
    ·exact fun L ac w hs => pln (omv hs 3 rfl rfl rfl fun ac hs => hs)
    ·exact fun L ac w hs => pln (op_idxA hs (some 4) (j := k - 1) rfl rfl rfl rfl underlying24 sizeOf22 (show k - 1 < 4 by omega) (off := k - 1) (by omega) rfl fun ac hs => hs)
    ·exact fun L ac w hs => pln (oldd hs 5 1 (nu64 (limN b (k - 1))) isAgg22 sizeOf22 rfl rfl rfl rfl (Wl_get (j := k - 1) (show k - 1 < 4 by omega)) fun ac hs => hs)
    ·exact fun L ac w hs => pln (obn hs 6 (.bool (decide (limN b (k - 1) < limN a (k - 1)))) rfl rfl rfl rfl bin_gtrN fun ac hs => hs)
   intro ac w hs
   try dsimp only [cond_true] at hs
   refine then_n ?_
   refine wp_cond_split (hs.ev rfl) (fun hc => ?_) (fun hc => ?_)
   ·skip
    have hp10 := of_decide_eq_true hc
    refine wp_seq (wp_region_lit ?_)
    refine asg hs rfl rfl rfl fun ac hs => ?_
    refine wpList_nil (then_n (wp_ret (blk_r (then_r (then_r (blk_r (then_r ?_)))))))
    exact bodyPost_ret (res1 rfl (rv_t hs rfl)) hs.defers ⟨ret_int (cmp_gt (cmp_hi hp3 hq.symm hp10)).symm, (hs.bel rfl)⟩
   ·skip
    have hp11 := of_decide_eq_false hc
    refine wp_skip (blk_n (then_n (wp_region_lit ?_)))
    refine mvv hs rfl rfl rfl fun ac hs => ?_
    refine bnn hs (.int .i64 (((k - 1 : Nat) : Int) - 1)) rfl rfl rfl rfl (bin_subP (by omega)) fun ac hs => ?_
    refine asg hs rfl rfl rfl fun ac hs => ?_
    refine wpList_nil (then_n ?_)
    exact ⟨_, ⟨(k - 1), rfl, (by omega), (cmp_next hp3 hq hp7 hp11), (hs.re ⟨rfl, rfl, rfl, trivial⟩)⟩, (by omega)⟩
 ·skip
  have hp12 := of_decide_eq_false hc
  obtain rfl : k = 0 := by omega
  have hq0 : a = b := by simpa using hq
  refine wp_exit (then_e (then_e (blk_e (then_n (wp_seq (wp_region_lit ?_))))))
  refine asg hs rfl rfl rfl fun ac hs => ?_
  refine wpList_nil (then_n (wp_ret ?_))
  exact bodyPost_ret (res1 rfl (rv_t hs rfl)) hs.defers ⟨ret_int (cmp_eq hq0).symm, (hs.bel rfl)⟩
theorem rrem_c (u v m r' : Nat) (hH : u < 2 ^ 256) (hL : v < 2 ^ 256) (hm : m < 2 ^ 256) (hm0 : 0 < m) (hr' : (u * 2 ^ 256 + v) % m = r') (w0 : World) : Calls prog 63 #[W u, W v, W m] w0 fun e w' => e = .returned (.tuple #[W r', .int .i64 0]) ∧ Below w0.heap.size w0 w' := by
 refine enter (n := 51) (args := [W u, W v, W m]) func63 rfl rfl (Nat.le_of_ble_eq_true rfl) fun ac hs => ?_
 refine wp_seq (wp_region_lit ?_)
 refine stp (op_box hs none none (cs := (Wl u)) rfl rfl rfl rfl rfl rfl fun g1 ac w hs => ?_)
 refine stp (op_box hs none none (cs := (Wl v)) rfl rfl rfl rfl rfl rfl fun g2 ac w hs => ?_)
 refine stp (op_box hs none none (cs := (Wl m)) rfl rfl rfl rfl rfl rfl fun g3 ac w hs => ?_)
 refine stp (op_alloc hs none none (cs := [.int .u64 0, .int .u64 0, .int .u64 0, .int .u64 0]) rfl rfl zeroValue24 (by kernel_rfl) rfl rfl fun g4 ac w hs => ?_)
 refine asg hs rfl rfl rfl fun ac hs => ?_
 refine wpList_nil (then_n (wp_seq (wp_seq (wp_region_lit ?_))))
 refine ldd hs 2 (W m) isAgg24 sizeOf24 rfl rfl rfl rfl rfl fun ac hs => ?_
 refine stp (op_build hs none (qs := []) (v := .agg #[.int .u64 0, .int .u64 0, .int .u64 0, .int .u64 0]) rfl rfl rfl rfl (fun _ => by kernel_rfl) rfl fun ac hs => ?_)
 refine stp (op_bin hs none (v := .bool false) rfl rfl rfl rfl (fun w => run_eqGuard_agg w .eql 24 _ _ _ _ Tryz.eqGuardType24) (eqlW m 0 hm (by decide) false (decide_eq_false (Nat.ne_of_gt hm0))) rfl fun ac hs => ?_)
 refine wpList_nil (then_n ?_)
 refine wp_cond_false (hs.ev rfl) ?_
 refine wp_skip (then_n (wp_seq ?_))
 replace hs := hs.n0 [3, 4, 5, 6, 7] rfl rfl
 refine wp_region_lit ?_
 refine stp (op_build hs none (qs := []) (v := .agg #[.int .u64 0, .int .u64 0, .int .u64 0, .int .u64 0]) rfl rfl rfl rfl (fun _ => by kernel_rfl) rfl fun ac hs => ?_)
 refine stp (op_alloc hs none none (cs := [.int .u64 0, .int .u64 0, .int .u64 0, .int .u64 0]) rfl rfl zeroValue24 (by kernel_rfl) rfl rfl fun g5 ac w hs => ?_)
 refine stp (stoo hs 4 ([.int .u64 0, .int .u64 0, .int .u64 0, .int .u64 0]) sizeOf24 rfl rfl rfl rfl rfl rfl rfl rfl rfl rfl fun w hs => ?_)
 refine wpList_nil (then_n (wp_seq (wp_seq (wp_region_lit ?_))))
 refine asg hs rfl rfl rfl fun ac hs => ?_
 refine wpList_nil (then_n (wp_block ?_))
 refine wp_loop_m (fun μ ac w => ∃ (k : Nat) (r : Nat), (k) = μ ∧ (k ≤ 512) ∧ ((u * 2 ^ 256 + v) / 2 ^ k % m = r) ∧ St 51 w0 [(3, true, ptA g1 0), (4, true, ptA g2 0), (5, true, ptA g3 0), (6, true, ptA g4 0), (8, true, ptA g5 0), (9, true, .int .i64 (((k : Nat) : Int) - 1))] [(true, g1, 24, (Wl u)), (true, g2, 24, (Wl v)), (true, g3, 24, (Wl m)), (true, g4, 24, [.int .u64 0, .int .u64 0, .int .u64 0, .int .u64 0]), (true, g5, 24, (Wl r))] ac w) ?_ ?_
 ·exact ⟨_, 512, 0, rfl, (by omega), (rem_start (rem_N hH hL)), (hs.re ⟨rfl, rfl, rfl, rfl, rfl, rfl, trivial⟩)⟩
 intro μ ac w ⟨k, r, hμ, hk, hr, hs⟩
 have lm : r < m := by rw [← hr]; exact Nat.mod_lt _ hm0
 have lr := Nat.lt_trans lm hm
 refine wp_seq (wp_seq (wp_region_lit ?_))
 refine mvv hs rfl rfl rfl fun ac hs => ?_
 refine bnn hs (.bool (decide (1 ≤ k))) rfl rfl rfl rfl bin_geqP fun ac hs => ?_
 refine wpList_nil (then_n ?_)
 refine wp_cond_split (hs.ev rfl) (fun hc => ?_) (fun hc => ?_)
 ·skip
  have hp6 := of_decide_eq_true hc
  replace hs := hs.re (fs' := [(3, true, ptA g1 0), (4, true, ptA g2 0), (5, true, ptA g3 0), (6, true, ptA g4 0), (8, true, ptA g5 0), (9, true, ni64 (k - 1)), (18, true, .int .i64 (((k : Nat) : Int) - 1)), (19, true, .bool (decide (1 ≤ k)))]) ⟨rfl, rfl, rfl, rfl, rfl, congrArg some (pre_nat hp6), rfl, rfl, trivial⟩
  refine wp_skip (then_n (wp_seq (wp_block (wp_seq (wp_region_lit ?_)))))
  refine ldd hs 1 (W v) isAgg24 sizeOf24 rfl rfl rfl rfl rfl fun ac hs => ?_
  refine stp (op_alloc hs none none (cs := [.int .u64 0, .int .u64 0, .int .u64 0, .int .u64 0]) rfl rfl zeroValue24 (by kernel_rfl) rfl rfl fun g7 ac w hs => ?_)
  refine stp (stoo hs 5 ((Wl v)) sizeOf24 rfl rfl rfl rfl rfl rfl rfl rfl rfl rfl fun w hs => ?_)
  refine wpList_nil (then_n (wp_seq (wp_seq (wp_region_lit ?_))))
  refine mvv hs rfl rfl rfl fun ac hs => ?_
  refine bnn hs (.bool (decide (256 ≤ k - 1))) rfl rfl rfl rfl (bin_geqN (y := 256)) fun ac hs => ?_
  refine wpList_nil (then_n ?_)
  refine wp_cond_split (hs.ev rfl) (fun hc => ?_) (fun hc => ?_)
  ·skip
   have hp8 := of_decide_eq_true hc
   replace hs := hs.n0 [3, 4, 5, 6, 8, 9, 10] rfl rfl
   refine wp_region_lit ?_
   refine ldd hs 0 (W u) isAgg24 sizeOf24 rfl rfl rfl rfl rfl fun ac hs => ?_
   refine stp (stoo hs 5 ((Wl u)) sizeOf24 rfl rfl rfl rfl rfl rfl rfl rfl rfl rfl fun w hs => ?_)
   refine wpList_nil (then_n (wp_seq ?_))
   replace hs := hs.n0 [3, 4, 5, 6, 8, 9, 10] rfl rfl
   obtain ⟨b9, hb9⟩ : ∃ z0, u / 2 ^ ((k - 1) % 256) % 2 = z0 := ⟨_, rfl⟩
   have lb9 := bit_le hb9
   obtain ⟨t10, ht10, lt10⟩ : ∃ z0, (2 * r + b9) % 2 ^ 256 = z0 ∧ z0 < 2 ^ 256 := ⟨_, rfl, Nat.mod_lt _ (Nat.two_pow_pos 256)⟩
   obtain ⟨c11, hc11⟩ : ∃ z0, (2 * r + b9) / 2 ^ 256 = z0 := ⟨_, rfl⟩
   refine region_inv [([], [5, 6, 7, 8, 10, 11]), ([], [4, 5, 6, 7, 8, 10, 11]), ([], [3, 4, 5, 6, 7, 8, 10, 11]), ([2], [4, 5, 6, 7, 8, 10, 11]), ([1, 2, 3], [5, 6, 7, 8, 10, 11]), (rgn 0 5, [6, 7, 8, 10, 11]), (rgn 0 6, [7, 8, 10, 11]), (rgn 0 7, [10, 11]), (rgn 0 7, [11]), ([], [10, 11]), ([0, 1, 2, 3, 4, 5, 6, 7, 9], [11]), (rgn 0 11, [])] (fun L ac w => ∃ (g12 : Nat), St 51 w0 [(27, L 0, W r), (28, L 1, W u), (29, L 2, ni64 (k - 1)), (30, L 3, ni64 ((k - 1) % 256)), (31, L 4, nu64 b9), (32, L 5, .tuple #[W t10, nu64 c11]), (26, L 6, .tuple #[W t10, nu64 c11]), (33, L 7, W t10), (34, L 8, nu64 c11), (11, L 9, ptA g12 0), (12, L 11, nu64 c11), (3, true, ptA g1 0), (4, true, ptA g2 0), (5, true, ptA g3 0), (6, true, ptA g4 0), (8, true, ptA g5 0), (9, true, ni64 (k - 1)), (10, true, ptA g7 0)] [(true, g1, 24, (Wl u)), (true, g2, 24, (Wl v)), (true, g3, 24, (Wl m)), (true, g4, 24, [.int .u64 0, .int .u64 0, .int .u64 0, .int .u64 0]), (true, g5, 24, (Wl r)), (true, g7, 24, (Wl u)), (L 9, g12, 24, (cond (L 10) (Wl t10) [.int .u64 0, .int .u64 0, .int .u64 0, .int .u64 0]))] ac w) (by kernel_rfl) (by kernel_rfl) ?_ ?_ ?_
   ·exact ⟨0, hs.drew.skip.skip.skip.skip.skip.skip.skip.skip.skip.skip.skip.pad⟩
   ·refine ⟨?_, ?_, ?_, ?_, ?_, ?_, ?_, ?_, ?_, ?_, ?_, ?_, trivial⟩
    ·exact fun L ac w ⟨g12, hs⟩ => pln (oldd hs 0 4 (W r) isAgg24 sizeOf24 rfl rfl rfl rfl rfl fun ac hs => ⟨g12, hs⟩)
    ·exact fun L ac w ⟨g12, hs⟩ => pln (oldd hs 1 5 (W u) isAgg24 sizeOf24 rfl rfl rfl rfl rfl fun ac hs => ⟨g12, hs⟩)
    ·exact fun L ac w ⟨g12, hs⟩ => pln (omv hs 2 rfl rfl rfl fun ac hs => ⟨g12, hs⟩)
    ·exact fun L ac w ⟨g12, hs⟩ => pln (obn hs 3 (ni64 ((k - 1) % 256)) rfl rfl rfl rfl (bin_remN (y := 256) rfl (by decide)) fun ac hs => ⟨g12, hs⟩)
    ·exact fun L ac w ⟨g12, hs⟩ => pln (op_call (F := 86) hs (some 4) (v := nu64 b9) rfl rfl rfl rfl (call86 _) (rbit_c u ((k - 1) % 256) b9 (show (k - 1) % 256 < 256 by omega) hb9) rfl fun ac w hs => ⟨g12, hs⟩)
    ·exact fun L ac w ⟨g12, hs⟩ => pln (op_call (F := 102) hs (some 5) (v := .tuple #[W t10, nu64 c11]) rfl rfl rfl rfl (call102 _) (rtwice_c r b9 t10 c11 lr (show b9 ≤ 1 by omega) ht10 hc11) rfl fun ac w hs => ⟨g12, hs⟩)
    ·exact fun L ac w ⟨g12, hs⟩ => pln (omv hs 6 rfl rfl rfl fun ac hs => ⟨g12, hs⟩)
    ·exact fun L ac w ⟨g12, hs⟩ => pln (xtr hs (some 7) rfl rfl rfl rfl rfl fun ac hs => ⟨g12, hs⟩)
    ·exact fun L ac w ⟨g12, hs⟩ => pln (xtr hs (some 8) rfl rfl rfl rfl rfl fun ac hs => ⟨g12, hs⟩)
    ·exact fun L ac w ⟨g12, hs⟩ => pln (op_alloc hs (some 9) (some 6) (cs := [.int .u64 0, .int .u64 0, .int .u64 0, .int .u64 0]) rfl rfl zeroValue24 (by kernel_rfl) rfl rfl fun g12 ac w hs => ⟨g12, hs⟩)
    ·exact fun L ac w ⟨g12, hs⟩ => pln (stoo hs 6 ((Wl t10)) sizeOf24 rfl rfl rfl rfl rfl rfl rfl rfl rfl rfl fun w hs => ⟨g12, hs⟩)
    ·exact fun L ac w ⟨g12, hs⟩ => pln (oas hs 10 rfl rfl rfl fun ac hs => ⟨g12, hs⟩)
   intro ac w ⟨g12, hs⟩
   try dsimp only [cond_true] at hs
   refine then_n (wp_seq (wp_region_lit ?_))
   refine ldd hs 6 (W t10) isAgg24 sizeOf24 rfl rfl rfl rfl rfl fun ac hs => ?_
   refine stp (stoo hs 4 ((Wl t10)) sizeOf24 rfl rfl rfl rfl rfl rfl rfl rfl rfl rfl fun w hs => ?_)
   refine wpList_nil (then_n (wp_seq ?_))
   by_cases hq13 : c11 = 1
   ·skip
    refine wp_region_lit ?_
    refine mvv hs rfl rfl rfl fun ac hs => ?_
    refine bnn hs (.bool true) rfl rfl rfl rfl (fun w => dT hq13 (bin_eqlN (y := 1) w)) fun ac hs => ?_
    refine mvv hs rfl rfl rfl fun ac hs => ?_
    refine lstep (wpO_out hs none rfl rfl (.inl rfl) rfl rfl fun ac hs => ?_)
    refine lstep (wpO_out hs none rfl rfl (.inl rfl) rfl rfl fun ac hs => ?_)
    refine lstep (wpO_out hs none rfl rfl (.inl rfl) rfl rfl fun ac hs => ?_)
    refine lstep (wpO_out hs none rfl rfl (.inl rfl) rfl rfl fun ac hs => ?_)
    refine stp (op_pickT hs none rfl rfl rfl rfl rfl fun ac hs => ?_)
    refine wpList_nil (then_n ?_)
    refine wp_cond_true (hs.ev rfl) ?_
    replace hs := hs.n0 [3, 4, 5, 6, 8, 9] rfl rfl
    refine wp_region_lit ?_
    refine ldd hs 4 (W t10) isAgg24 sizeOf24 rfl rfl rfl rfl rfl fun ac hs => ?_
    refine ldd hs 2 (W m) isAgg24 sizeOf24 rfl rfl rfl rfl rfl fun ac hs => ?_
    obtain ⟨d14, hd14, ld14⟩ : ∃ z0, (t10 + 2 ^ 256 - m) % 2 ^ 256 = z0 ∧ z0 < 2 ^ 256 := ⟨_, rfl, Nat.mod_lt _ (Nat.two_pow_pos 256)⟩
    obtain ⟨c15, hc15⟩ : ∃ z0, bor t10 m = z0 := ⟨_, rfl⟩
    refine stp (op_call (F := 103) hs none (v := .tuple #[W d14, nu64 c15]) rfl rfl rfl rfl (call103 _) (rsub06_c t10 m d14 c15 lt10 hm hd14 hc15) rfl fun ac w hs => ?_)
    refine mvv hs rfl rfl rfl fun ac hs => ?_
    refine stp (xtr hs none rfl rfl rfl rfl rfl fun ac hs => ?_)
    refine stp (xtr hs none rfl rfl rfl rfl rfl fun ac hs => ?_)
    refine stp (stoo hs 4 ((Wl d14)) sizeOf24 rfl rfl rfl rfl rfl rfl rfl rfl rfl rfl fun w hs => ?_)
    refine wpList_nil (blk_n (then_n ?_))
    replace hs := hs.n0 [3, 4, 5, 6, 8, 9] rfl rfl
    refine wp_region_lit ?_
    refine mvv hs rfl rfl rfl fun ac hs => ?_
    refine bnn hs (.int .i64 (((k - 1 : Nat) : Int) - 1)) rfl rfl rfl rfl (bin_subP (by omega)) fun ac hs => ?_
    refine asg hs rfl rfl rfl fun ac hs => ?_
    refine wpList_nil (then_n ?_)
    exact ⟨_, ⟨(k - 1), d14, rfl, (by omega), ((rem_bit hp6 hr ((half_hi hL hp8 (by omega)).trans hb9)).trans (rem_yes lm hm lb9 ht10 hc11 hd14 (.inl hq13))), ((hs.takeb 5).re ⟨rfl, rfl, rfl, rfl, rfl, rfl, trivial⟩)⟩, (by omega)⟩
   ·skip
    refine wp_region_lit ?_
    refine mvv hs rfl rfl rfl fun ac hs => ?_
    refine bnn hs (.bool false) rfl rfl rfl rfl (fun w => dF hq13 (bin_eqlN (y := 1) w)) fun ac hs => ?_
    refine mvv hs rfl rfl rfl fun ac hs => ?_
    refine lstep (wpO_in hs rfl rfl rfl (op_load hs none 4 (v := W t10) rfl rfl rfl rfl isAgg24 sizeOf24 rfl rfl fun ac hs => ?_))
    refine lstep (wpO_in hs rfl rfl rfl (op_load hs none 2 (v := W m) rfl rfl rfl rfl isAgg24 sizeOf24 rfl rfl fun ac hs => ?_))
    refine lstep (wpO_in hs rfl rfl rfl (op_call (F := 82) hs none (v := .int .i64 (cmpZ t10 m)) rfl rfl rfl rfl (call82 _) (rcmp_c t10 m lt10 hm) rfl fun ac w hs => ?_))
    refine lstep (wpO_in hs rfl rfl rfl (op_bin hs none (v := .bool (decide (m ≤ t10))) rfl rfl rfl rfl (fun _ => rfl) (bin_cmp_geq t10 m) rfl fun ac hs => ?_))
    refine stp (op_pickF hs none rfl rfl rfl rfl rfl fun ac hs => ?_)
    refine wpList_nil (then_n ?_)
    refine wp_cond_split (hs.ev rfl) (fun hc => ?_) (fun hc => ?_)
    ·skip
     have hp16 := of_decide_eq_true hc
     replace hs := hs.n0 [3, 4, 5, 6, 8, 9] rfl rfl
     refine wp_region_lit ?_
     refine ldd hs 4 (W t10) isAgg24 sizeOf24 rfl rfl rfl rfl rfl fun ac hs => ?_
     refine ldd hs 2 (W m) isAgg24 sizeOf24 rfl rfl rfl rfl rfl fun ac hs => ?_
     obtain ⟨d17, hd17, ld17⟩ : ∃ z0, (t10 + 2 ^ 256 - m) % 2 ^ 256 = z0 ∧ z0 < 2 ^ 256 := ⟨_, rfl, Nat.mod_lt _ (Nat.two_pow_pos 256)⟩
     obtain ⟨c18, hc18⟩ : ∃ z0, bor t10 m = z0 := ⟨_, rfl⟩
     refine stp (op_call (F := 103) hs none (v := .tuple #[W d17, nu64 c18]) rfl rfl rfl rfl (call103 _) (rsub06_c t10 m d17 c18 lt10 hm hd17 hc18) rfl fun ac w hs => ?_)
     refine mvv hs rfl rfl rfl fun ac hs => ?_
     refine stp (xtr hs none rfl rfl rfl rfl rfl fun ac hs => ?_)
     refine stp (xtr hs none rfl rfl rfl rfl rfl fun ac hs => ?_)
     refine stp (stoo hs 4 ((Wl d17)) sizeOf24 rfl rfl rfl rfl rfl rfl rfl rfl rfl rfl fun w hs => ?_)
     refine wpList_nil (blk_n (then_n ?_))
     replace hs := hs.n0 [3, 4, 5, 6, 8, 9] rfl rfl
     refine wp_region_lit ?_
     refine mvv hs rfl rfl rfl fun ac hs => ?_
     refine bnn hs (.int .i64 (((k - 1 : Nat) : Int) - 1)) rfl rfl rfl rfl (bin_subP (by omega)) fun ac hs => ?_
     refine asg hs rfl rfl rfl fun ac hs => ?_
     refine wpList_nil (then_n ?_)
     exact ⟨_, ⟨(k - 1), d17, rfl, (by omega), ((rem_bit hp6 hr ((half_hi hL hp8 (by omega)).trans hb9)).trans (rem_yes lm hm lb9 ht10 hc11 hd17 (.inr hp16))), ((hs.takeb 5).re ⟨rfl, rfl, rfl, rfl, rfl, rfl, trivial⟩)⟩, (by omega)⟩
    ·skip
     have hp19 := of_decide_eq_false hc
     refine wp_skip (blk_n (then_n ?_))
     replace hs := hs.n0 [3, 4, 5, 6, 8, 9] rfl rfl
     refine wp_region_lit ?_
     refine mvv hs rfl rfl rfl fun ac hs => ?_
     refine bnn hs (.int .i64 (((k - 1 : Nat) : Int) - 1)) rfl rfl rfl rfl (bin_subP (by omega)) fun ac hs => ?_
     refine asg hs rfl rfl rfl fun ac hs => ?_
     refine wpList_nil (then_n ?_)
     exact ⟨_, ⟨(k - 1), t10, rfl, (by omega), ((rem_bit hp6 hr ((half_hi hL hp8 (by omega)).trans hb9)).trans (rem_no lm hm lb9 ht10 hc11 hq13 hp19)), ((hs.takeb 5).re ⟨rfl, rfl, rfl, rfl, rfl, rfl, trivial⟩)⟩, (by omega)⟩
  ·skip
   have hp20 := of_decide_eq_false hc
   refine wp_skip (then_n (wp_seq ?_))
   replace hs := hs.n0 [3, 4, 5, 6, 8, 9, 10] rfl rfl
   obtain ⟨b21, hb21⟩ : ∃ z0, v / 2 ^ ((k - 1) % 256) % 2 = z0 := ⟨_, rfl⟩
   have lb21 := bit_le hb21
   obtain ⟨t22, ht22, lt22⟩ : ∃ z0, (2 * r + b21) % 2 ^ 256 = z0 ∧ z0 < 2 ^ 256 := ⟨_, rfl, Nat.mod_lt _ (Nat.two_pow_pos 256)⟩
   obtain ⟨c23, hc23⟩ : ∃ z0, (2 * r + b21) / 2 ^ 256 = z0 := ⟨_, rfl⟩
   refine region_inv [([], [5, 6, 7, 8, 10, 11]), ([], [4, 5, 6, 7, 8, 10, 11]), ([], [3, 4, 5, 6, 7, 8, 10, 11]), ([2], [4, 5, 6, 7, 8, 10, 11]), ([1, 2, 3], [5, 6, 7, 8, 10, 11]), (rgn 0 5, [6, 7, 8, 10, 11]), (rgn 0 6, [7, 8, 10, 11]), (rgn 0 7, [10, 11]), (rgn 0 7, [11]), ([], [10, 11]), ([0, 1, 2, 3, 4, 5, 6, 7, 9], [11]), (rgn 0 11, [])] (fun L ac w => ∃ (g24 : Nat), St 51 w0 [(27, L 0, W r), (28, L 1, W v), (29, L 2, ni64 (k - 1)), (30, L 3, ni64 ((k - 1) % 256)), (31, L 4, nu64 b21), (32, L 5, .tuple #[W t22, nu64 c23]), (26, L 6, .tuple #[W t22, nu64 c23]), (33, L 7, W t22), (34, L 8, nu64 c23), (11, L 9, ptA g24 0), (12, L 11, nu64 c23), (3, true, ptA g1 0), (4, true, ptA g2 0), (5, true, ptA g3 0), (6, true, ptA g4 0), (8, true, ptA g5 0), (9, true, ni64 (k - 1)), (10, true, ptA g7 0)] [(true, g1, 24, (Wl u)), (true, g2, 24, (Wl v)), (true, g3, 24, (Wl m)), (true, g4, 24, [.int .u64 0, .int .u64 0, .int .u64 0, .int .u64 0]), (true, g5, 24, (Wl r)), (true, g7, 24, (Wl v)), (L 9, g24, 24, (cond (L 10) (Wl t22) [.int .u64 0, .int .u64 0, .int .u64 0, .int .u64 0]))] ac w) (by kernel_rfl) (by kernel_rfl) ?_ ?_ ?_
   ·exact ⟨0, hs.drew.skip.skip.skip.skip.skip.skip.skip.skip.skip.skip.skip.pad⟩
   ·refine ⟨?_, ?_, ?_, ?_, ?_, ?_, ?_, ?_, ?_, ?_, ?_, ?_, trivial⟩
    ·exact fun L ac w ⟨g24, hs⟩ => pln (oldd hs 0 4 (W r) isAgg24 sizeOf24 rfl rfl rfl rfl rfl fun ac hs => ⟨g24, hs⟩)
    ·exact fun L ac w ⟨g24, hs⟩ => pln (oldd hs 1 5 (W v) isAgg24 sizeOf24 rfl rfl rfl rfl rfl fun ac hs => ⟨g24, hs⟩)
    ·exact fun L ac w ⟨g24, hs⟩ => pln (omv hs 2 rfl rfl rfl fun ac hs => ⟨g24, hs⟩)
    ·exact fun L ac w ⟨g24, hs⟩ => pln (obn hs 3 (ni64 ((k - 1) % 256)) rfl rfl rfl rfl (bin_remN (y := 256) rfl (by decide)) fun ac hs => ⟨g24, hs⟩)
    ·exact fun L ac w ⟨g24, hs⟩ => pln (op_call (F := 86) hs (some 4) (v := nu64 b21) rfl rfl rfl rfl (call86 _) (rbit_c v ((k - 1) % 256) b21 (show (k - 1) % 256 < 256 by omega) hb21) rfl fun ac w hs => ⟨g24, hs⟩)
    ·exact fun L ac w ⟨g24, hs⟩ => pln (op_call (F := 102) hs (some 5) (v := .tuple #[W t22, nu64 c23]) rfl rfl rfl rfl (call102 _) (rtwice_c r b21 t22 c23 lr (show b21 ≤ 1 by omega) ht22 hc23) rfl fun ac w hs => ⟨g24, hs⟩)
    ·exact fun L ac w ⟨g24, hs⟩ => pln (omv hs 6 rfl rfl rfl fun ac hs => ⟨g24, hs⟩)
    ·exact fun L ac w ⟨g24, hs⟩ => pln (xtr hs (some 7) rfl rfl rfl rfl rfl fun ac hs => ⟨g24, hs⟩)
    ·exact fun L ac w ⟨g24, hs⟩ => pln (xtr hs (some 8) rfl rfl rfl rfl rfl fun ac hs => ⟨g24, hs⟩)
    ·exact fun L ac w ⟨g24, hs⟩ => pln (op_alloc hs (some 9) (some 6) (cs := [.int .u64 0, .int .u64 0, .int .u64 0, .int .u64 0]) rfl rfl zeroValue24 (by kernel_rfl) rfl rfl fun g24 ac w hs => ⟨g24, hs⟩)
    ·exact fun L ac w ⟨g24, hs⟩ => pln (stoo hs 6 ((Wl t22)) sizeOf24 rfl rfl rfl rfl rfl rfl rfl rfl rfl rfl fun w hs => ⟨g24, hs⟩)
    ·exact fun L ac w ⟨g24, hs⟩ => pln (oas hs 10 rfl rfl rfl fun ac hs => ⟨g24, hs⟩)
   intro ac w ⟨g24, hs⟩
   try dsimp only [cond_true] at hs
   refine then_n (wp_seq (wp_region_lit ?_))
   refine ldd hs 6 (W t22) isAgg24 sizeOf24 rfl rfl rfl rfl rfl fun ac hs => ?_
   refine stp (stoo hs 4 ((Wl t22)) sizeOf24 rfl rfl rfl rfl rfl rfl rfl rfl rfl rfl fun w hs => ?_)
   refine wpList_nil (then_n (wp_seq ?_))
   by_cases hq25 : c23 = 1
   ·skip
    refine wp_region_lit ?_
    refine mvv hs rfl rfl rfl fun ac hs => ?_
    refine bnn hs (.bool true) rfl rfl rfl rfl (fun w => dT hq25 (bin_eqlN (y := 1) w)) fun ac hs => ?_
    refine mvv hs rfl rfl rfl fun ac hs => ?_
    refine lstep (wpO_out hs none rfl rfl (.inl rfl) rfl rfl fun ac hs => ?_)
    refine lstep (wpO_out hs none rfl rfl (.inl rfl) rfl rfl fun ac hs => ?_)
    refine lstep (wpO_out hs none rfl rfl (.inl rfl) rfl rfl fun ac hs => ?_)
    refine lstep (wpO_out hs none rfl rfl (.inl rfl) rfl rfl fun ac hs => ?_)
    refine stp (op_pickT hs none rfl rfl rfl rfl rfl fun ac hs => ?_)
    refine wpList_nil (then_n ?_)
    refine wp_cond_true (hs.ev rfl) ?_
    replace hs := hs.n0 [3, 4, 5, 6, 8, 9] rfl rfl
    refine wp_region_lit ?_
    refine ldd hs 4 (W t22) isAgg24 sizeOf24 rfl rfl rfl rfl rfl fun ac hs => ?_
    refine ldd hs 2 (W m) isAgg24 sizeOf24 rfl rfl rfl rfl rfl fun ac hs => ?_
    obtain ⟨d26, hd26, ld26⟩ : ∃ z0, (t22 + 2 ^ 256 - m) % 2 ^ 256 = z0 ∧ z0 < 2 ^ 256 := ⟨_, rfl, Nat.mod_lt _ (Nat.two_pow_pos 256)⟩
    obtain ⟨c27, hc27⟩ : ∃ z0, bor t22 m = z0 := ⟨_, rfl⟩
    refine stp (op_call (F := 103) hs none (v := .tuple #[W d26, nu64 c27]) rfl rfl rfl rfl (call103 _) (rsub06_c t22 m d26 c27 lt22 hm hd26 hc27) rfl fun ac w hs => ?_)
    refine mvv hs rfl rfl rfl fun ac hs => ?_
    refine stp (xtr hs none rfl rfl rfl rfl rfl fun ac hs => ?_)
    refine stp (xtr hs none rfl rfl rfl rfl rfl fun ac hs => ?_)
    refine stp (stoo hs 4 ((Wl d26)) sizeOf24 rfl rfl rfl rfl rfl rfl rfl rfl rfl rfl fun w hs => ?_)
    refine wpList_nil (blk_n (then_n ?_))
    replace hs := hs.n0 [3, 4, 5, 6, 8, 9] rfl rfl
    refine wp_region_lit ?_
    refine mvv hs rfl rfl rfl fun ac hs => ?_
    refine bnn hs (.int .i64 (((k - 1 : Nat) : Int) - 1)) rfl rfl rfl rfl (bin_subP (by omega)) fun ac hs => ?_
    refine asg hs rfl rfl rfl fun ac hs => ?_
    refine wpList_nil (then_n ?_)
    exact ⟨_, ⟨(k - 1), d26, rfl, (by omega), ((rem_bit hp6 hr ((half_lo (by omega)).trans hb21)).trans (rem_yes lm hm lb21 ht22 hc23 hd26 (.inl hq25))), ((hs.takeb 5).re ⟨rfl, rfl, rfl, rfl, rfl, rfl, trivial⟩)⟩, (by omega)⟩
   ·skip
    refine wp_region_lit ?_
    refine mvv hs rfl rfl rfl fun ac hs => ?_
    refine bnn hs (.bool false) rfl rfl rfl rfl (fun w => dF hq25 (bin_eqlN (y := 1) w)) fun ac hs => ?_
    refine mvv hs rfl rfl rfl fun ac hs => ?_
    refine lstep (wpO_in hs rfl rfl rfl (op_load hs none 4 (v := W t22) rfl rfl rfl rfl isAgg24 sizeOf24 rfl rfl fun ac hs => ?_))
    refine lstep (wpO_in hs rfl rfl rfl (op_load hs none 2 (v := W m) rfl rfl rfl rfl isAgg24 sizeOf24 rfl rfl fun ac hs => ?_))
    refine lstep (wpO_in hs rfl rfl rfl (op_call (F := 82) hs none (v := .int .i64 (cmpZ t22 m)) rfl rfl rfl rfl (call82 _) (rcmp_c t22 m lt22 hm) rfl fun ac w hs => ?_))
    refine lstep (wpO_in hs rfl rfl rfl (op_bin hs none (v := .bool (decide (m ≤ t22))) rfl rfl rfl rfl (fun _ => rfl) (bin_cmp_geq t22 m) rfl fun ac hs => ?_))
    refine stp (op_pickF hs none rfl rfl rfl rfl rfl fun ac hs => ?_)
    refine wpList_nil (then_n ?_)
    refine wp_cond_split (hs.ev rfl) (fun hc => ?_) (fun hc => ?_)
    ·skip
     have hp28 := of_decide_eq_true hc
     replace hs := hs.n0 [3, 4, 5, 6, 8, 9] rfl rfl
     refine wp_region_lit ?_
     refine ldd hs 4 (W t22) isAgg24 sizeOf24 rfl rfl rfl rfl rfl fun ac hs => ?_
     refine ldd hs 2 (W m) isAgg24 sizeOf24 rfl rfl rfl rfl rfl fun ac hs => ?_
     obtain ⟨d29, hd29, ld29⟩ : ∃ z0, (t22 + 2 ^ 256 - m) % 2 ^ 256 = z0 ∧ z0 < 2 ^ 256 := ⟨_, rfl, Nat.mod_lt _ (Nat.two_pow_pos 256)⟩
     obtain ⟨c30, hc30⟩ : ∃ z0, bor t22 m = z0 := ⟨_, rfl⟩
     refine stp (op_call (F := 103) hs none (v := .tuple #[W d29, nu64 c30]) rfl rfl rfl rfl (call103 _) (rsub06_c t22 m d29 c30 lt22 hm hd29 hc30) rfl fun ac w hs => ?_)
     refine mvv hs rfl rfl rfl fun ac hs => ?_
     refine stp (xtr hs none rfl rfl rfl rfl rfl fun ac hs => ?_)
     refine stp (xtr hs none rfl rfl rfl rfl rfl fun ac hs => ?_)
     refine stp (stoo hs 4 ((Wl d29)) sizeOf24 rfl rfl rfl rfl rfl rfl rfl rfl rfl rfl fun w hs => ?_)
     refine wpList_nil (blk_n (then_n ?_))
     replace hs := hs.n0 [3, 4, 5, 6, 8, 9] rfl rfl
     refine wp_region_lit ?_
     refine mvv hs rfl rfl rfl fun ac hs => ?_
     refine bnn hs (.int .i64 (((k - 1 : Nat) : Int) - 1)) rfl rfl rfl rfl (bin_subP (by omega)) fun ac hs => ?_
     refine asg hs rfl rfl rfl fun ac hs => ?_
     refine wpList_nil (then_n ?_)
     exact ⟨_, ⟨(k - 1), d29, rfl, (by omega), ((rem_bit hp6 hr ((half_lo (by omega)).trans hb21)).trans (rem_yes lm hm lb21 ht22 hc23 hd29 (.inr hp28))), ((hs.takeb 5).re ⟨rfl, rfl, rfl, rfl, rfl, rfl, trivial⟩)⟩, (by omega)⟩
    ·skip
     have hp31 := of_decide_eq_false hc
     refine wp_skip (blk_n (then_n ?_))
     replace hs := hs.n0 [3, 4, 5, 6, 8, 9] rfl rfl
     refine wp_region_lit ?_
     refine mvv hs rfl rfl rfl fun ac hs => ?_
     refine bnn hs (.int .i64 (((k - 1 : Nat) : Int) - 1)) rfl rfl rfl rfl (bin_subP (by omega)) fun ac hs => ?_
     refine asg hs rfl rfl rfl fun ac hs => ?_
     refine wpList_nil (then_n ?_)
     exact ⟨_, ⟨(k - 1), t22, rfl, (by omega), ((rem_bit hp6 hr ((half_lo (by omega)).trans hb21)).trans (rem_no lm hm lb21 ht22 hc23 hq25 hp31)), ((hs.takeb 5).re ⟨rfl, rfl, rfl, rfl, rfl, rfl, trivial⟩)⟩, (by omega)⟩
 ·skip
  have hp32 := of_decide_eq_false hc
  obtain rfl : k = 0 := by omega
  refine wp_exit (then_e (then_e (blk_e (then_n (wp_seq (wp_region_lit ?_))))))
  refine ldd hs 4 (W r) isAgg24 sizeOf24 rfl rfl rfl rfl rfl fun ac hs => ?_
  refine stp (stoo hs 3 ((Wl r)) sizeOf24 rfl rfl rfl rfl rfl rfl rfl rfl rfl rfl fun w hs => ?_)
  refine asg hs rfl rfl rfl fun ac hs => ?_
  refine wpList_nil (then_n (wp_ret ?_))
  exact bodyPost_ret (res2 rfl (rv_c hs 3 (v := W r) rfl rfl isAgg24 sizeOf24 rfl) (rv_t hs rfl)) hs.defers ⟨by rw [← hr', ← hr, Nat.pow_zero, Nat.div_one], (hs.bel rfl)⟩
end Go.Proofs.YtejbajgpiecjcaaGreat

/- The contracts of scalar.Read, Hash, and of the document's. -/
namespace Go.Proofs.YtejbajgpiecjcaaGreat
open Go.RowKit _root_.Go.Proofs.Tryz
set_option maxRecDepth 10000
theorem Nord_pos : 0 < Nord := by decide
abbrev sread := rdN
theorem rsmul_c (a b x : Nat) (ha : a < 2 ^ 256) (hb : b < 2 ^ 256) (hx : a * b % Nord = x) (w0 : World) : Calls prog 29 #[W a, W b] w0 fun e w' => e = .returned (W x) ∧ Below w0.heap.size w0 w' := by
 refine enter (n := 23) (args := [W a, W b]) func29 rfl rfl (Nat.le_of_ble_eq_true rfl) fun ac hs => ?_
 refine wp_seq (wp_region_lit ?_)
 refine stp (op_box hs none none (cs := (Wl a)) rfl rfl rfl rfl rfl rfl fun g1 ac w hs => ?_)
 refine stp (op_box hs none none (cs := (Wl b)) rfl rfl rfl rfl rfl rfl fun g2 ac w hs => ?_)
 refine stp (op_alloc hs none none (cs := [.int .u64 0, .int .u64 0, .int .u64 0, .int .u64 0]) rfl rfl zeroValue24 (by kernel_rfl) rfl rfl fun g3 ac w hs => ?_)
 refine wpList_nil (then_n (wp_seq (wp_region_lit ?_)))
 refine ldd hs 0 (W a) isAgg24 sizeOf24 rfl rfl rfl rfl rfl fun ac hs => ?_
 refine ldd hs 1 (W b) isAgg24 sizeOf24 rfl rfl rfl rfl rfl fun ac hs => ?_
 obtain ⟨lo4, hlo4, llo4⟩ : ∃ z0, a * b % 2 ^ 256 = z0 ∧ z0 < 2 ^ 256 := ⟨_, rfl, Nat.mod_lt _ (Nat.two_pow_pos 256)⟩
 obtain ⟨hi5, hhi5, lhi5⟩ : ∃ z0, a * b / 2 ^ 256 = z0 ∧ z0 < 2 ^ 256 := ⟨_, rfl, mul_hi ha hb⟩
 refine stp (op_call (F := 62) hs none (v := .tuple #[W lo4, W hi5]) rfl rfl rfl rfl (call62 _) (rmul_c a b lo4 hi5 ha hb hlo4 hhi5) rfl fun ac w hs => ?_)
 refine mvv hs rfl rfl rfl fun ac hs => ?_
 refine stp (xtr hs none rfl rfl rfl rfl rfl fun ac hs => ?_)
 refine stp (xtr hs none rfl rfl rfl rfl rfl fun ac hs => ?_)
 refine stp (op_alloc hs none none (cs := [.int .u64 0, .int .u64 0, .int .u64 0, .int .u64 0]) rfl rfl zeroValue24 (by kernel_rfl) rfl rfl fun g6 ac w hs => ?_)
 refine stp (op_alloc hs none none (cs := [.int .u64 0, .int .u64 0, .int .u64 0, .int .u64 0]) rfl rfl zeroValue24 (by kernel_rfl) rfl rfl fun g7 ac w hs => ?_)
 refine stp (stoo hs 3 ((Wl lo4)) sizeOf24 rfl rfl rfl rfl rfl rfl rfl rfl rfl rfl fun w hs => ?_)
 refine stp (stoo hs 4 ((Wl hi5)) sizeOf24 rfl rfl rfl rfl rfl rfl rfl rfl rfl rfl fun w hs => ?_)
 refine wpList_nil (then_n (wp_seq ?_))
 replace hs := hs.n0 [4, 5, 6] rfl rfl
 obtain ⟨r8, hr8, lr8⟩ : ∃ z0, (hi5 * 2 ^ 256 + lo4) % Nord = z0 ∧ z0 < 2 ^ 256 := ⟨_, rfl, Nat.lt_trans (Nat.mod_lt _ Nord_pos) Nord_lt⟩
 refine region_inv [([], [3, 4, 5, 6, 8, 9]), ([], [3, 4, 5, 6, 8, 9]), ([], [3, 4, 5, 6, 8, 9]), ([0, 1, 2], [4, 5, 6, 8, 9]), (rgn 0 4, [5, 6, 8, 9]), (rgn 0 5, [8, 9]), (rgn 0 5, [9]), ([], [8, 9]), ([0, 1, 2, 3, 4, 5, 7], [9]), (rgn 0 9, [])] (fun L ac w => ∃ (g9 : Nat), St 23 w0 [(16, L 0, W hi5), (17, L 1, W lo4), (18, L 2, W Nord), (19, L 3, .tuple #[W r8, .int .i64 0]), (15, L 4, .tuple #[W r8, .int .i64 0]), (20, L 5, W r8), (21, L 6, .int .i64 0), (7, L 7, ptA g9 0), (8, L 9, .int .i64 0), (4, true, ptA g3 0), (5, true, ptA g6 0), (6, true, ptA g7 0)] [(true, g1, 24, (Wl a)), (true, g2, 24, (Wl b)), (true, g3, 24, [.int .u64 0, .int .u64 0, .int .u64 0, .int .u64 0]), (true, g6, 24, (Wl lo4)), (true, g7, 24, (Wl hi5)), (L 7, g9, 24, (cond (L 8) (Wl r8) [.int .u64 0, .int .u64 0, .int .u64 0, .int .u64 0]))] ac w) (by kernel_rfl) (by kernel_rfl) ?_ ?_ ?_
 ·exact ⟨0, hs.drew.skip.skip.skip.skip.skip.skip.skip.skip.skip.pad⟩
 ·refine ⟨?_, ?_, ?_, ?_, ?_, ?_, ?_, ?_, ?_, ?_, trivial⟩
  ·exact fun L ac w ⟨g9, hs⟩ => pln (oldd hs 0 4 (W hi5) isAgg24 sizeOf24 rfl rfl rfl rfl rfl fun ac hs => ⟨g9, hs⟩)
  ·exact fun L ac w ⟨g9, hs⟩ => pln (oldd hs 1 3 (W lo4) isAgg24 sizeOf24 rfl rfl rfl rfl rfl fun ac hs => ⟨g9, hs⟩)
  ·exact fun L ac w ⟨g9, hs⟩ => pln (op_call (F := 61) hs (some 2) (v := W Nord) rfl rfl rfl rfl (call61 _) rorder_c rfl fun ac w hs => ⟨g9, hs⟩)
  ·exact fun L ac w ⟨g9, hs⟩ => pln (op_call (F := 63) hs (some 3) (v := .tuple #[W r8, .int .i64 0]) rfl rfl rfl rfl (call63 _) (rrem_c hi5 lo4 Nord r8 lhi5 llo4 Nord_lt Nord_pos hr8) rfl fun ac w hs => ⟨g9, hs⟩)
  ·exact fun L ac w ⟨g9, hs⟩ => pln (omv hs 4 rfl rfl rfl fun ac hs => ⟨g9, hs⟩)
  ·exact fun L ac w ⟨g9, hs⟩ => pln (xtr hs (some 5) rfl rfl rfl rfl rfl fun ac hs => ⟨g9, hs⟩)
  ·exact fun L ac w ⟨g9, hs⟩ => pln (xtr hs (some 6) rfl rfl rfl rfl rfl fun ac hs => ⟨g9, hs⟩)
  ·exact fun L ac w ⟨g9, hs⟩ => pln (op_alloc hs (some 7) (some 5) (cs := [.int .u64 0, .int .u64 0, .int .u64 0, .int .u64 0]) rfl rfl zeroValue24 (by kernel_rfl) rfl rfl fun g9 ac w hs => ⟨g9, hs⟩)
  ·exact fun L ac w ⟨g9, hs⟩ => pln (stoo hs 5 ((Wl r8)) sizeOf24 rfl rfl rfl rfl rfl rfl rfl rfl rfl rfl fun w hs => ⟨g9, hs⟩)
  ·exact fun L ac w ⟨g9, hs⟩ => pln (oas hs 8 rfl rfl rfl fun ac hs => ⟨g9, hs⟩)
 intro ac w ⟨g9, hs⟩
 try dsimp only [cond_true] at hs
 refine then_n (wp_seq (wp_region_lit ?_))
 refine ldd hs 5 (W r8) isAgg24 sizeOf24 rfl rfl rfl rfl rfl fun ac hs => ?_
 refine stp (stoo hs 2 ((Wl r8)) sizeOf24 rfl rfl rfl rfl rfl rfl rfl rfl rfl rfl fun w hs => ?_)
 refine wpList_nil (then_n (wp_ret ?_))
 exact bodyPost_ret (res1 rfl (rv_c hs 2 (v := W r8) rfl rfl isAgg24 sizeOf24 rfl)) hs.defers ⟨by rw [← hx, ← hr8, ← hlo4, ← hhi5, Nat.mul_comm, Nat.div_add_mod], (hs.bel rfl)⟩
theorem shash_c (b : Nat → Nat) (x : Nat) (hb : ∀ j, j < 32 → b j < 256) (hx : pr b 0 32 % Nord = x) (w0 : World) : Calls prog 53 #[At .u8 32 b] w0 fun e w' => e = .returned (W x) ∧ Below w0.heap.size w0 w' := by
 refine enter (n := 6) (args := [At .u8 32 b]) func53 rfl rfl (Nat.le_of_ble_eq_true rfl) fun ac hs => ?_
 refine wp_seq (wp_region_lit ?_)
 refine stp (op_box hs none none (cs := (tab .u8 32 b)) rfl rfl rfl rfl rfl rfl fun g1 ac w hs => ?_)
 refine stp (op_alloc hs none none (cs := [.int .u64 0, .int .u64 0, .int .u64 0, .int .u64 0]) rfl rfl zeroValue24 (by kernel_rfl) rfl rfl fun g2 ac w hs => ?_)
 refine wpList_nil (then_n (wp_seq (wp_region_lit ?_)))
 refine ldd hs 0 (At .u8 32 b) isAgg30 sizeOf30 rfl rfl rfl rfl ldv_tab fun ac hs => ?_
 obtain ⟨a3, ha3, la3⟩ : ∃ z0, pr b 0 32 = z0 ∧ z0 < 2 ^ 256 := ⟨_, rfl, pr_lt32 hb⟩
 refine stp (op_call (F := 64) hs none (v := W a3) rfl rfl rfl rfl (call64 _) (wread_c b a3 hb ha3) rfl fun ac w hs => ?_)
 obtain ⟨r4, hr4, lr4⟩ : ∃ z0, a3 % Nord = z0 ∧ z0 < 2 ^ 256 := ⟨_, rfl, modN_lt _⟩
 refine stp (op_call (F := 48) hs none (v := W r4) rfl rfl rfl rfl (call48 _) (red_c a3 r4 la3 hr4) rfl fun ac w hs => ?_)
 refine stp (stoo hs 1 ((Wl r4)) sizeOf24 rfl rfl rfl rfl rfl rfl rfl rfl rfl rfl fun w hs => ?_)
 refine wpList_nil (then_n (wp_ret ?_))
 exact bodyPost_ret (res1 rfl (rv_c hs 1 (v := W r4) rfl rfl isAgg24 sizeOf24 rfl)) hs.defers ⟨by rw [← hx, ← hr4, ← ha3], (hs.bel rfl)⟩
theorem rshash_c (b : Nat → Nat) (x : Nat) (hb : ∀ j, j < 32 → b j < 256) (hx : pr b 0 32 % Nord = x) (w0 : World) : Calls prog 57 #[At .u8 32 b] w0 fun e w' => e = .returned (W x) ∧ Below w0.heap.size w0 w' := by
 refine enter (n := 6) (args := [At .u8 32 b]) func57 rfl rfl (Nat.le_of_ble_eq_true rfl) fun ac hs => ?_
 refine wp_seq (wp_region_lit ?_)
 refine stp (op_box hs none none (cs := (tab .u8 32 b)) rfl rfl rfl rfl rfl rfl fun g1 ac w hs => ?_)
 refine stp (op_alloc hs none none (cs := [.int .u64 0, .int .u64 0, .int .u64 0, .int .u64 0]) rfl rfl zeroValue24 (by kernel_rfl) rfl rfl fun g2 ac w hs => ?_)
 refine wpList_nil (then_n (wp_seq (wp_region_lit ?_)))
 refine ldd hs 0 (At .u8 32 b) isAgg30 sizeOf30 rfl rfl rfl rfl ldv_tab fun ac hs => ?_
 obtain ⟨a3, ha3, la3⟩ : ∃ z0, pr b 0 32 = z0 ∧ z0 < 2 ^ 256 := ⟨_, rfl, pr_lt32 hb⟩
 refine stp (op_call (F := 78) hs none (v := W a3) rfl rfl rfl rfl (call78 _) (rread_c b a3 hb ha3) rfl fun ac w hs => ?_)
 obtain ⟨r4, hr4, lr4⟩ : ∃ z0, a3 % Nord = z0 ∧ z0 < 2 ^ 256 := ⟨_, rfl, modN_lt _⟩
 refine stp (op_call (F := 55) hs none (v := W r4) rfl rfl rfl rfl (call55 _) (rred_c a3 r4 la3 hr4) rfl fun ac w hs => ?_)
 refine stp (stoo hs 1 ((Wl r4)) sizeOf24 rfl rfl rfl rfl rfl rfl rfl rfl rfl rfl fun w hs => ?_)
 refine wpList_nil (then_n (wp_ret ?_))
 exact bodyPost_ret (res1 rfl (rv_c hs 1 (v := W r4) rfl rfl isAgg24 sizeOf24 rfl)) hs.defers ⟨by rw [← hx, ← hr4, ← ha3], (hs.bel rfl)⟩
end Go.Proofs.YtejbajgpiecjcaaGreat

/- The contracts of schnorr. -/
namespace Go.Proofs.YtejbajgpiecjcaaGreat
open Go.RowKit _root_.Go.Proofs.Tryz
set_option maxRecDepth 10000
set_option maxHeartbeats 1000000
theorem inf_slice_25 : Inf prog 25 (.slice none 0 0) 1 24 := inf_of (by kernel_rfl)
theorem joined_c (ad : Option Addr) (n c : Nat) (vs : List Value) (ls : List (List UInt8)) (u : List UInt8) (hr : ls.flatten = u) (hn : n = ls.length) (hnl : ls.length ≤ 100) (hlen : u.length ≤ 100000) (w0 : World) (Z : Nat → Prop) (hV : CelV w0 Z (.slice ad n c) n vs) (hB : BysV w0 Z vs ls): Calls prog 24 #[.slice ad n c] w0 fun e w' => Ret w0 Z (ρ := Option Addr × Nat) (fun r => .slice r.1 u.length r.2) (fun r => [.cel (.slice r.1 u.length r.2) u.length (bcs u)]) e w' := by
 subst hn
 refine enterS (n := 17) (args := [.slice ad ls.length c]) (S := [(true, .cel (.slice ad ls.length c) ls.length vs), (true, .bys vs ls)]) (Z := Z) func24 rfl rfl (Nat.le_of_ble_eq_true rfl) (sokC hV (sokC hB sok0)) rfl fun ac hs => ?_
 refine wp_seq (wp_region_lit ?_)
 refine asg hs rfl rfl rfl fun ac hs => ?_
 refine wpList_nil (then_n (wp_seq (wp_region_lit ?_)))
 replace hs := hs.nilOwn none 5 1 rfl
 refine stp (op_assign hs none (v := .slice none 0 0) rfl rfl rfl rfl fun ac hs => ?_)
 refine wpList_nil (then_n (wp_seq (wp_seq (wp_region_lit ?_))))
 refine mvv hs rfl rfl rfl fun ac hs => ?_
 refine stp (op_blt hs none (v := ni64 (ls.length)) rfl rfl rfl (blt_len underlying72) rfl fun ac hs => ?_)
 refine mvv hs rfl rfl rfl fun ac hs => ?_
 refine wpList_nil (then_n (wp_block ?_))
 refine wp_loop_m (fun μ ac w => ∃ (i : Nat) (ao : Option Addr) (co : Nat), (ls.length - i) = μ ∧ (i ≤ ls.length) ∧ St 17 ⟨w0, [], [(true, .cel (.slice ad ls.length c) ls.length vs), (true, .bys vs ls), (true, .own (.slice ao (((ls.take i).flatten).length) co) 5 1 (((ls.take i).flatten).length) (bcs ((ls.take i).flatten)))], Z, noX⟩ [(2, true, .slice none 0 0), (6, true, .slice ad ls.length c), (7, true, ni64 (ls.length)), (3, true, .slice ao (((ls.take i).flatten).length) co), (8, true, ni64 i)] [] ac w) ?_ ?_
 ·exact ⟨_, 0, none, 0, rfl, (by omega), (hs.re (fs' := [(2, true, .slice none 0 0), (6, true, .slice ad ls.length c), (7, true, ni64 (ls.length)), (3, true, .slice none (((ls.take 0).flatten).length) 0), (8, true, ni64 0)]) ⟨rfl, rfl, rfl, rfl, rfl, trivial⟩)⟩
 intro μ ac w ⟨i, ao, co, hμ, hi, hs⟩
 have hfl := flat_le ls i
 rw [hr] at hfl
 have hfl1 := flat_le ls (i + 1)
 rw [hr] at hfl1
 refine wp_seq (wp_region_lit ?_)
 refine bnn hs (.bool (decide (i < ls.length))) rfl rfl rfl rfl bin_lssN fun ac hs => ?_
 refine wpList_nil (then_n (wp_seq ?_))
 refine wp_cond_split (hs.ev rfl) (fun hc => ?_) (fun hc => ?_)
 ·skip
  have hp1 := of_decide_eq_true hc
  have hlt := of_decide_eq_true hc
  obtain ⟨li, hli⟩ : ∃ z, ls[i]? = some z := ⟨_, List.getElem?_eq_getElem hlt⟩
  obtain ⟨al, cl, hvl⟩ := bysv_at (hs.all (k := 1) rfl rfl) hli
  replace hs := hs.pick none 1 rfl hvl hli rfl
  have hlen1 : ((ls.take i).flatten).length + li.length ≤ 100000 := by rw [flat_take hli, List.length_append] at hfl1; omega
  refine wp_skip (then_n (wp_seq (wp_block (wp_seq (wp_region_lit ?_)))))
  refine stp (op_idxC hs none 0 (j := i) rfl rfl rfl rfl rfl underlying72 sizeOf25 (show i < ls.length by omega) (off := i) (by omega) rfl fun ac hs => ?_)
  refine stp (op_loadC hs none 0 (u := .slice al li.length cl) rfl rfl rfl rfl isAgg25 sizeOf25 (by decide) hvl rfl fun ac hs => ?_)
  refine asg hs rfl rfl rfl fun ac hs => ?_
  refine wpList_nil (then_n (wp_region_lit ?_))
  refine mvv hs rfl rfl rfl fun ac hs => ?_
  refine mvv hs rfl rfl rfl fun ac hs => ?_
  refine stp (op_appR hs none 2 3 (N' := ((ls.take i).flatten ++ li).length) (ys := bcs ((ls.take i).flatten ++ li)) rfl rfl rfl rfl rfl rfl underlying25 inf_u8_5 rfl (by decide) (bcs_len1 rfl) (bcs_one _) (by decide) (show ((ls.take i).flatten).length + li.length ≤ 1000000 by first | omega | ((try simp only [List.length_drop, List.length_take, List.length_append, List.length_cons, List.length_nil]); omega)) (by simp only [List.length_append, List.length_cons, List.length_nil] <;> omega) (bcs_append _ _) rfl rfl fun ad2 cp3 ac w hs => ?_)
  refine asg hs rfl rfl rfl fun ac hs => ?_
  refine wpList_nil (blk_n (then_n ?_))
  replace hs := hs.nf w0 Z noX [2, 6, 7, 3, 8] rfl rfl rfl rfl
  refine wp_region_lit ?_
  refine bnn hs (ni64 (i + 1)) rfl rfl rfl rfl (bin_addN (y := 1) rfl (show i + 1 < 9223372036854775808 by omega)) fun ac hs => ?_
  refine mvv hs rfl rfl rfl fun ac hs => ?_
  refine wpList_nil (then_n ?_)
  rw [show (ls.take i).flatten ++ li = (ls.take (i + 1)).flatten from (flat_take hli).symm] at hs
  replace hs := hs.selS [0, 1, 2] rfl (by decide)
  exact ⟨_, ⟨(i + 1), ad2, cp3, rfl, (by omega), (hs.re (fs' := [(2, true, .slice none 0 0), (6, true, .slice ad ls.length c), (7, true, ni64 (ls.length)), (3, true, .slice ad2 (((ls.take (i + 1)).flatten).length) cp3), (8, true, ni64 ((i + 1)))]) ⟨rfl, rfl, rfl, rfl, rfl, trivial⟩)⟩, (by omega)⟩
 ·skip
  have hp4 := of_decide_eq_false hc
  have hge := of_decide_eq_false hc
  have hfe := flat_end hge
  refine wp_exit (then_e (then_e (blk_e (then_n (wp_seq (wp_region_lit ?_))))))
  refine mvv hs rfl rfl rfl fun ac hs => ?_
  refine asg hs rfl rfl rfl fun ac hs => ?_
  refine wpList_nil (then_n (wp_ret ?_))
  rw [show (ls.take i).flatten = u from (hfe.trans hr)] at hs
  replace hs := hs.freeze 2 rfl
  exact bodyPost_ret (res1 rfl (rv_t hs rfl)) hs.defers ⟨⟨ao, co⟩, rfl, hs.bel rfl, hs.ret1 2 rfl⟩
theorem chal_c (f1 f2 : Nat → Nat) (ad : Option Addr) (nl c : Nat) (l : List UInt8) (x : Nat) (hf1 : ∀ j, j < 32 → f1 j < 256) (hf2 : ∀ j, j < 32 → f2 j < 256) (hlen : l.length ≤ 1000) (hx : chal f1 f2 l = x) (w0 : World) (Z : Nat → Prop) (hl : ByV w0 Z (.slice ad nl c) l): Calls prog 23 #[At .u8 32 f1, At .u8 32 f2, .slice ad nl c] w0 fun e w' => Ret w0 Z (ρ := Unit) (fun r => W x) (fun r => []) e w' := by
 obtain rfl := byv_len hl
 have hb1 := btl_len 32 f1
 have hb2 := btl_len 32 f2
 refine enterS (n := 14) (args := [At .u8 32 f1, At .u8 32 f2, .slice ad l.length c]) (S := [(true, .cel (.slice ad l.length c) l.length (bcs l))]) (Z := Z) func23 rfl rfl (Nat.le_of_ble_eq_true rfl) (sokC hl sok0) rfl fun ac hs => ?_
 refine wp_seq (wp_region_lit ?_)
 refine stp (op_box hs none none (cs := (tab .u8 32 f1)) rfl rfl rfl rfl rfl rfl fun g1 ac w hs => ?_)
 refine stp (op_box hs none none (cs := (tab .u8 32 f2)) rfl rfl rfl rfl rfl rfl fun g2 ac w hs => ?_)
 refine stp (op_alloc hs none none (cs := [.int .u64 0, .int .u64 0, .int .u64 0, .int .u64 0]) rfl rfl zeroValue24 (by kernel_rfl) rfl rfl fun g3 ac w hs => ?_)
 refine wpList_nil (then_n (wp_seq ?_))
 replace hs := hs.arrCel none 0 (n0 := 32) (f := f1) rfl (fun j hj => hf1 j (by omega)) (by decide) rfl
 replace hs := hs.selB [1, 2] rfl (by decide)
 replace hs := hs.arrCel none 0 (n0 := 32) (f := f2) rfl (fun j hj => hf2 j (by omega)) (by decide) rfl
 replace hs := hs.selB [1] rfl (by decide)
 replace hs := hs.nf w0 Z noX [2, 3, 4, 6] rfl rfl rfl rfl
 obtain ⟨r8, hr8, lr8⟩ : ∃ z0, pr (tagH chTag ((btl 32 f1) ++ (btl 32 f2) ++ l)) 0 32 % Nord = z0 ∧ z0 < 2 ^ 256 := ⟨_, rfl, mN256 _⟩
 refine region_inv [([], rgn 3 5), ([], rgn 3 5), ([], rgn 3 5), ([0, 1, 2], rgn 4 4), (rgn 0 4, [5, 6, 7]), (rgn 0 5, [6, 7]), (rgn 0 6, [7]), (rgn 0 7, [])] (fun L ac w => ∃ (ad5 : Option Addr) (ad6 : Option Addr) (cp7 : Nat), St 14 ⟨w0, [], [(true, .cel (.slice ad l.length c) l.length (bcs l)), (true, .cel (.slice (some ⟨g1, 0, none⟩) 32 32) 32 (bcs (btl 32 f1))), (true, .cel (.slice (some ⟨g2, 0, none⟩) 32 32) 32 (bcs (btl 32 f2))), (L 3, .cel (.slice ad5 3 3) 3 ([.slice (some ⟨g1, 0, none⟩) 32 32, .slice (some ⟨g2, 0, none⟩) 32 32, .slice ad l.length c])), (L 4, .cel (.slice ad6 (((btl 32 f1) ++ (btl 32 f2) ++ l).length) cp7) (((btl 32 f1) ++ (btl 32 f2) ++ l).length) (bcs ((btl 32 f1) ++ (btl 32 f2) ++ l)))], Z, noX⟩ [(7, L 0, .slice (some ⟨g1, 0, none⟩) 32 32), (8, L 1, .slice (some ⟨g2, 0, none⟩) 32 32), (9, L 2, .slice ad l.length c), (10, L 3, .slice ad5 3 3), (11, L 4, .slice ad6 (((btl 32 f1) ++ (btl 32 f2) ++ l).length) cp7), (12, L 5, At .u8 32 (tagH chTag ((btl 32 f1) ++ (btl 32 f2) ++ l))), (13, L 6, W r8), (2, true, .slice ad l.length c), (3, true, ptA g1 0), (4, true, ptA g2 0), (6, true, ptA g3 0)] [(true, g3, 24, (cond (L 7) (Wl r8) [.int .u64 0, .int .u64 0, .int .u64 0, .int .u64 0]))] ac w) (by kernel_rfl) (by kernel_rfl) ?_ ?_ ?_
 ·exact ⟨none, none, 0, hs.drew.skip.skip.skip.skip.skip.skip.skip.padS.padS⟩
 ·refine ⟨?_, ?_, ?_, ?_, ?_, ?_, ?_, ?_, trivial⟩
  ·exact fun L ac w ⟨ad5, ad6, cp7, hs⟩ => pln (op_val hs (some 0) (v := .slice (some ⟨g1, 0, none⟩) 32 32) rfl rfl (run_slA rfl (hs.ev rfl) underlying30 sizeOf5) fun ac hs => ⟨ad5, ad6, cp7, hs⟩)
  ·exact fun L ac w ⟨ad5, ad6, cp7, hs⟩ => pln (op_val hs (some 1) (v := .slice (some ⟨g2, 0, none⟩) 32 32) rfl rfl (run_slA rfl (hs.ev rfl) underlying30 sizeOf5) fun ac hs => ⟨ad5, ad6, cp7, hs⟩)
  ·exact fun L ac w ⟨ad5, ad6, cp7, hs⟩ => pln (omv hs 2 rfl rfl rfl fun ac hs => ⟨ad5, ad6, cp7, hs⟩)
  ·exact fun L ac w ⟨ad5, ad6, cp7, hs⟩ => pln (op_bsC hs (some 3) (some 3) (qs := [(0, .slice (some ⟨g1, 0, none⟩) 32 32), (1, .slice (some ⟨g2, 0, none⟩) 32 32), (2, .slice ad l.length c)]) (cs := [.slice (some ⟨g1, 0, none⟩) 32 32, .slice (some ⟨g2, 0, none⟩) 32 32, .slice ad l.length c]) rfl rfl rfl rfl underlying72 inf_slice_25 (by decide) (by decide) (fill_three _ _ _ _ rfl rfl rfl ) rfl rfl rfl rfl fun ad5 ac w hs => ⟨ad5, ad6, cp7, hs⟩)
  ·exact fun L ac w ⟨ad5, ad6, cp7, hs⟩ => pln (op_callS (F := 24) (ρ := Option Addr × Nat) hs (some 4) (some 4) (v := fun r => .slice r.1 (((btl 32 f1) ++ (btl 32 f2) ++ l).length) r.2) (E := fun r => [.cel (.slice r.1 (((btl 32 f1) ++ (btl 32 f2) ++ l).length) r.2) (((btl 32 f1) ++ (btl 32 f2) ++ l).length) (bcs ((btl 32 f1) ++ (btl 32 f2) ++ l))]) (j := 1) rfl rfl rfl rfl (call24 _) (fun hs => joined_c ad5 3 3 [.slice (some ⟨g1, 0, none⟩) 32 32, .slice (some ⟨g2, 0, none⟩) 32 32, .slice ad l.length c] [btl 32 f1, btl 32 f2, l] ((btl 32 f1) ++ (btl 32 f2) ++ l) (by simp [List.append_assoc]) rfl (Nat.le_of_ble_eq_true rfl) (show ((btl 32 f1) ++ (btl 32 f2) ++ l).length ≤ 100000 by first | omega | ((try simp only [List.length_drop, List.length_take, List.length_append, List.length_cons, List.length_nil]); omega)) _ _ (hs.all (k := 3) rfl rfl) (bysC (hs.all (k := 1) rfl rfl) (bysC (hs.all (k := 2) rfl rfl) (bysC (hs.all (k := 0) rfl rfl) bys0)))) (fun _ => rfl) rfl rfl fun ⟨ad6, cp7⟩ ac w hs => ⟨ad5, ad6, cp7, hs⟩)
  ·exact fun L ac w ⟨ad5, ad6, cp7, hs⟩ => pln (op_callS (F := 54) (ρ := Unit) hs (some 5) none (v := fun r => At .u8 32 (tagH chTag ((btl 32 f1) ++ (btl 32 f2) ++ l))) (E := fun r => []) (j := 0) rfl rfl rfl rfl (call54 _) (fun hs => tagged_c chTag ad6 (((btl 32 f1) ++ (btl 32 f2) ++ l).length) cp7 ((btl 32 f1) ++ (btl 32 f2) ++ l) (by decide) (show ((btl 32 f1) ++ (btl 32 f2) ++ l).length ≤ 100000 by first | omega | ((try simp only [List.length_drop, List.length_take, List.length_append, List.length_cons, List.length_nil]); omega)) _ _ (hs.all (k := 4) rfl rfl)) (fun _ => rfl) rfl rfl fun _ ac w hs => ⟨ad5, ad6, cp7, hs⟩)
  ·exact fun L ac w ⟨ad5, ad6, cp7, hs⟩ => pln (op_call (F := 53) hs (some 6) (v := W r8) rfl rfl rfl rfl (call53 _) (shash_c (tagH chTag ((btl 32 f1) ++ (btl 32 f2) ++ l)) r8 (fun j _ => tagH_lt _ _ j) hr8) rfl fun ac w hs => ⟨ad5, ad6, cp7, hs⟩)
  ·exact fun L ac w ⟨ad5, ad6, cp7, hs⟩ => pln (stoo hs 0 ((Wl r8)) sizeOf24 rfl rfl rfl rfl rfl rfl rfl rfl rfl rfl fun w hs => ⟨ad5, ad6, cp7, hs⟩)
 intro ac w ⟨ad5, ad6, cp7, hs⟩
 try dsimp only [cond_true] at hs
 refine then_n (wp_ret ?_)
 exact bodyPost_ret (res1 rfl (rv_c hs 0 (v := W r8) rfl rfl isAgg24 sizeOf24 rfl)) hs.defers ⟨(), by rw [show r8 = x from hr8.symm.trans (by rw [← hx]; rfl)], hs.bel rfl, okl0⟩
theorem straight_c (s d er : Nat) (hs0 : s < 2 ^ 256) (hd : sD s = d) (he : sE s = er) (w0 : World) : Calls prog 19 #[W s] w0 fun e w' => e = .returned (.tuple #[W d, At .u8 32 (sK s), ni64 er]) ∧ Below w0.heap.size w0 w' := by
 refine enter (n := 25) (args := [W s]) func19 rfl rfl (Nat.le_of_ble_eq_true rfl) fun ac hs => ?_
 refine wp_seq (wp_region_lit ?_)
 refine stp (op_box hs none none (cs := (Wl s)) rfl rfl rfl rfl rfl rfl fun g1 ac w hs => ?_)
 refine stp (op_alloc hs none none (cs := [.int .u64 0, .int .u64 0, .int .u64 0, .int .u64 0]) rfl rfl zeroValue24 (by kernel_rfl) rfl rfl fun g2 ac w hs => ?_)
 refine stp (op_alloc hs none none (cs := (tab .u8 32 (fun _ => 0))) rfl rfl zeroValue30 (by kernel_rfl) rfl rfl fun g3 ac w hs => ?_)
 refine asg hs rfl rfl rfl fun ac hs => ?_
 refine wpList_nil (then_n (wp_seq (wp_region_lit ?_)))
 refine ldd hs 0 (W s) isAgg24 sizeOf24 rfl rfl rfl rfl rfl fun ac hs => ?_
 obtain ⟨r4, hr4, lr4⟩ : ∃ z0, s % Nord = z0 ∧ z0 < 2 ^ 256 := ⟨_, rfl, mN256 _⟩
 refine stp (op_call (F := 48) hs none (v := W r4) rfl rfl rfl rfl (call48 _) (red_c s r4 hs0 hr4) rfl fun ac w hs => ?_)
 refine stp (op_alloc hs none none (cs := [.int .u64 0, .int .u64 0, .int .u64 0, .int .u64 0]) rfl rfl zeroValue24 (by kernel_rfl) rfl rfl fun g5 ac w hs => ?_)
 refine stp (stoo hs 3 ((Wl r4)) sizeOf24 rfl rfl rfl rfl rfl rfl rfl rfl rfl rfl fun w hs => ?_)
 refine wpList_nil (then_n (wp_seq (wp_seq ?_)))
 replace hs := hs.n0 [2, 3, 4, 5] rfl rfl
 refine wp_region_lit ?_
 refine ldd hs 3 (W r4) isAgg24 sizeOf24 rfl rfl rfl rfl rfl fun ac hs => ?_
 refine stp (op_build hs none (qs := []) (v := .agg #[.int .u64 0, .int .u64 0, .int .u64 0, .int .u64 0]) rfl rfl rfl rfl (fun _ => by kernel_rfl) rfl fun ac hs => ?_)
 refine stp (op_bin hs none (v := .bool (decide (r4 = 0))) rfl rfl rfl rfl (fun w => run_eqGuard_agg w .eql 24 _ _ _ _ Tryz.eqGuardType24) (eqlW r4 0 lr4 (by decide) _ rfl) rfl fun ac hs => ?_)
 refine wpList_nil (then_n ?_)
 refine wp_cond_split (hs.ev rfl) (fun hc => ?_) (fun hc => ?_)
 ·skip
  have hp6 := of_decide_eq_true hc
  refine wp_seq (wp_region_lit ?_)
  refine ldd hs 3 (W r4) isAgg24 sizeOf24 rfl rfl rfl rfl rfl fun ac hs => ?_
  refine stp (op_build hs none (qs := []) (v := At .u8 32 (fun _ => 0)) rfl rfl rfl rfl (fun _ => by kernel_rfl) rfl fun ac hs => ?_)
  refine stp (stoo hs 1 ((Wl r4)) sizeOf24 rfl rfl rfl rfl rfl rfl rfl rfl rfl rfl fun w hs => ?_)
  refine stp (stoo hs 2 ((tab .u8 32 (fun _ => 0))) sizeOf30 rfl rfl rfl rfl rfl (by kernel_rfl) tab_length' (tab_one _ _ _) tab_leA wr_tab fun w hs => ?_)
  refine asg hs rfl rfl rfl fun ac hs => ?_
  refine wpList_nil (then_n (wp_ret (then_r ?_)))
  exact bodyPost_ret (res3 rfl (rv_c hs 1 (v := W r4) rfl rfl isAgg24 sizeOf24 rfl) (rv_c hs 2 (v := At .u8 32 (fun _ => 0)) rfl rfl isAgg30 sizeOf30 ldv_tab) (rv_t hs rfl)) hs.defers ⟨by obtain ⟨hd1, hk1, he1⟩ := st_zero hr4 hp6; rw [hd] at hd1; rw [he] at he1; rw [hd1, hk1, he1]; first | done | rfl, (hs.bel rfl)⟩
 ·skip
  have hp7 := of_decide_eq_false hc
  refine wp_skip (then_n (wp_seq ?_))
  replace hs := hs.n0 [2, 3, 4, 5] rfl rfl
  obtain ⟨T8, hT8, oT8⟩ := mkMul r4 Gp_on
  refine region_inv [([], [2, 4]), ([], [2, 4]), ([0, 1], [4]), ([], [4]), (rgn 0 4, [])] (fun L ac w => ∃ (g9 : Nat), St 25 w0 [(14, L 0, W r4), (15, L 1, PV (px Gp) (py Gp) (pz Gp)), (16, L 2, PV (px T8) (py T8) (pz T8)), (6, L 3, ptA g9 0), (2, true, ptA g2 0), (3, true, ptA g3 0), (4, true, .int .i64 0), (5, true, ptA g5 0)] [(true, g1, 24, (Wl s)), (true, g2, 24, [.int .u64 0, .int .u64 0, .int .u64 0, .int .u64 0]), (true, g3, 30, (tab .u8 32 (fun _ => 0))), (true, g5, 24, (Wl r4)), (L 3, g9, 42, (cond (L 4) (PVl (px T8) (py T8) (pz T8)) (PVl 0 0 false)))] ac w) (by kernel_rfl) (by kernel_rfl) ?_ ?_ ?_
  ·exact ⟨0, hs.drew.skip.skip.skip.skip.pad⟩
  ·refine ⟨?_, ?_, ?_, ?_, ?_, trivial⟩
   ·exact fun L ac w ⟨g9, hs⟩ => pln (oldd hs 0 3 (W r4) isAgg24 sizeOf24 rfl rfl rfl rfl rfl fun ac hs => ⟨g9, hs⟩)
   ·exact fun L ac w ⟨g9, hs⟩ => pln (op_call (F := 18) hs (some 1) (v := PV (px Gp) (py Gp) (pz Gp)) rfl rfl rfl rfl (call18 _) base_c rfl fun ac w hs => ⟨g9, hs⟩)
   ·exact fun L ac w ⟨g9, hs⟩ => pln (op_call (F := 49) hs (some 2) (v := PV (px T8) (py T8) (pz T8)) rfl rfl rfl rfl (call49 _) (mul14_c r4 (px Gp) (py Gp) (pz Gp) Gp T8 lr4 (px_lt Gp) (py_lt Gp) (pt_back Gp_on) hT8) rfl fun ac w hs => ⟨g9, hs⟩)
   ·exact fun L ac w ⟨g9, hs⟩ => pln (op_alloc hs (some 3) (some 4) (cs := (PVl 0 0 false)) rfl rfl zeroValue42 (by kernel_rfl) rfl rfl fun g9 ac w hs => ⟨g9, hs⟩)
   ·exact fun L ac w ⟨g9, hs⟩ => pln (stoo hs 4 ((PVl (px T8) (py T8) (pz T8))) sizeOf42 rfl rfl rfl rfl rfl rfl rfl rfl rfl rfl fun w hs => ⟨g9, hs⟩)
  intro ac w ⟨g9, hs⟩
  try dsimp only [cond_true] at hs
  refine then_n (wp_seq (wp_seq (wp_region_lit ?_)))
  refine ldd hs 4 (PV (px T8) (py T8) (pz T8)) isAgg42 sizeOf42 rfl rfl rfl rfl rfl fun ac hs => ?_
  refine stp (op_call (F := 34) hs none (v := .bool (evB T8)) rfl rfl rfl rfl (call34 _) (even_c (px T8) (py T8) (pz T8) T8 _ (px_lt T8) (py_lt T8) (pt_back oT8) rfl) rfl fun ac w hs => ?_)
  refine stp (op_un hs none (v := .bool (!(evB T8))) rfl rfl rfl (fun _ => rfl) rfl fun ac hs => ?_)
  refine wpList_nil (then_n ?_)
  refine wp_cond_split (hs.ev rfl) (fun hc => ?_) (fun hc => ?_)
  ·skip
   have hev := hc
   refine wp_region_lit ?_
   refine ldd hs 3 (W r4) isAgg24 sizeOf24 rfl rfl rfl rfl rfl fun ac hs => ?_
   obtain ⟨r10, hr10, lr10⟩ : ∃ z0, (Nord - r4 % Nord) % Nord = z0 ∧ z0 < 2 ^ 256 := ⟨_, rfl, mN256 _⟩
   refine stp (op_call (F := 32) hs none (v := W r10) rfl rfl rfl rfl (call32 _) (sneg_c r4 r10 lr4 hr10) rfl fun ac w hs => ?_)
   refine stp (stoo hs 3 ((Wl r10)) sizeOf24 rfl rfl rfl rfl rfl rfl rfl rfl rfl rfl fun w hs => ?_)
   refine wpList_nil (then_n (wp_seq ?_))
   replace hs := hs.n0 [2, 3, 4, 5, 6] rfl rfl
   refine region_inv [([], [3, 4, 5]), ([], rgn 2 4), ([1], [3, 4, 5]), ([0, 1, 2], [4, 5]), (rgn 0 4, [5]), (rgn 0 5, [])] (fun L ac w => St 25 w0 [(22, L 0, W r10), (23, L 1, PV (px T8) (py T8) (pz T8)), (24, L 2, At .u8 32 (by8 (px T8))), (4, L 5, .int .i64 0), (2, true, ptA g2 0), (3, true, ptA g3 0), (4, true, .int .i64 0), (5, true, ptA g5 0), (6, true, ptA g9 0)] [(true, g1, 24, (Wl s)), (true, g2, 24, (cond (L 3) (Wl r10) [.int .u64 0, .int .u64 0, .int .u64 0, .int .u64 0])), (true, g3, 30, (cond (L 4) (tab .u8 32 (by8 (px T8))) (tab .u8 32 (fun _ => 0)))), (true, g5, 24, (Wl r10)), (true, g9, 42, (PVl (px T8) (py T8) (pz T8)))] ac w) (by kernel_rfl) (by kernel_rfl) ?_ ?_ ?_
   ·exact hs.drew.skip.skip.skip.skip
   ·refine ⟨?_, ?_, ?_, ?_, ?_, ?_, trivial⟩
    ·exact fun L ac w hs => pln (oldd hs 0 3 (W r10) isAgg24 sizeOf24 rfl rfl rfl rfl rfl fun ac hs => hs)
    ·exact fun L ac w hs => pln (oldd hs 1 4 (PV (px T8) (py T8) (pz T8)) isAgg42 sizeOf42 rfl rfl rfl rfl rfl fun ac hs => hs)
    ·exact fun L ac w hs => pln (op_call (F := 17) hs (some 2) (v := At .u8 32 (by8 (px T8))) rfl rfl rfl rfl (call17 _) (pbytes_c (px T8) (py T8) (pz T8) T8 (px_lt T8) (py_lt T8) (pt_back oT8)) rfl fun ac w hs => hs)
    ·exact fun L ac w hs => pln (stoo hs 1 ((Wl r10)) sizeOf24 rfl rfl rfl rfl rfl rfl rfl rfl rfl rfl fun w hs => hs)
    ·exact fun L ac w hs => pln (stoo hs 2 ((tab .u8 32 (by8 (px T8)))) sizeOf30 rfl rfl rfl rfl rfl (by kernel_rfl) tab_length' (tab_one _ _ _) tab_leA wr_tab fun w hs => hs)
    ·exact fun L ac w hs => pln (oas hs 3 rfl rfl rfl fun ac hs => hs)
   intro ac w hs
   try dsimp only [cond_true] at hs
   refine then_n (wp_ret ?_)
   exact bodyPost_ret (res3 rfl (rv_c hs 1 (v := W r10) rfl rfl isAgg24 sizeOf24 rfl) (rv_c hs 2 (v := At .u8 32 (by8 (px T8))) rfl rfl isAgg30 sizeOf30 ldv_tab) (rv_t hs rfl)) hs.defers ⟨by obtain ⟨hd1, hk1, he1⟩ := st_odd hr4 hp7 hT8 (by simpa using hev) hr10; rw [hd] at hd1; rw [he] at he1; rw [hd1, hk1, he1]; first | done | rfl, (hs.bel rfl)⟩
  ·skip
   have hev := hc
   refine wp_skip (then_n (wp_seq ?_))
   replace hs := hs.n0 [2, 3, 4, 5, 6] rfl rfl
   refine region_inv [([], [3, 4, 5]), ([], rgn 2 4), ([1], [3, 4, 5]), ([0, 1, 2], [4, 5]), (rgn 0 4, [5]), (rgn 0 5, [])] (fun L ac w => St 25 w0 [(22, L 0, W r4), (23, L 1, PV (px T8) (py T8) (pz T8)), (24, L 2, At .u8 32 (by8 (px T8))), (4, L 5, .int .i64 0), (2, true, ptA g2 0), (3, true, ptA g3 0), (4, true, .int .i64 0), (5, true, ptA g5 0), (6, true, ptA g9 0)] [(true, g1, 24, (Wl s)), (true, g2, 24, (cond (L 3) (Wl r4) [.int .u64 0, .int .u64 0, .int .u64 0, .int .u64 0])), (true, g3, 30, (cond (L 4) (tab .u8 32 (by8 (px T8))) (tab .u8 32 (fun _ => 0)))), (true, g5, 24, (Wl r4)), (true, g9, 42, (PVl (px T8) (py T8) (pz T8)))] ac w) (by kernel_rfl) (by kernel_rfl) ?_ ?_ ?_
   ·exact hs.drew.skip.skip.skip.skip
   ·refine ⟨?_, ?_, ?_, ?_, ?_, ?_, trivial⟩
    ·exact fun L ac w hs => pln (oldd hs 0 3 (W r4) isAgg24 sizeOf24 rfl rfl rfl rfl rfl fun ac hs => hs)
    ·exact fun L ac w hs => pln (oldd hs 1 4 (PV (px T8) (py T8) (pz T8)) isAgg42 sizeOf42 rfl rfl rfl rfl rfl fun ac hs => hs)
    ·exact fun L ac w hs => pln (op_call (F := 17) hs (some 2) (v := At .u8 32 (by8 (px T8))) rfl rfl rfl rfl (call17 _) (pbytes_c (px T8) (py T8) (pz T8) T8 (px_lt T8) (py_lt T8) (pt_back oT8)) rfl fun ac w hs => hs)
    ·exact fun L ac w hs => pln (stoo hs 1 ((Wl r4)) sizeOf24 rfl rfl rfl rfl rfl rfl rfl rfl rfl rfl fun w hs => hs)
    ·exact fun L ac w hs => pln (stoo hs 2 ((tab .u8 32 (by8 (px T8)))) sizeOf30 rfl rfl rfl rfl rfl (by kernel_rfl) tab_length' (tab_one _ _ _) tab_leA wr_tab fun w hs => hs)
    ·exact fun L ac w hs => pln (oas hs 3 rfl rfl rfl fun ac hs => hs)
   intro ac w hs
   try dsimp only [cond_true] at hs
   refine then_n (wp_ret ?_)
   exact bodyPost_ret (res3 rfl (rv_c hs 1 (v := W r4) rfl rfl isAgg24 sizeOf24 rfl) (rv_c hs 2 (v := At .u8 32 (by8 (px T8))) rfl rfl isAgg30 sizeOf30 ldv_tab) (rv_t hs rfl)) hs.defers ⟨by obtain ⟨hd1, hk1, he1⟩ := st_even hr4 hp7 hT8 (by simpa using hev); rw [hd] at hd1; rw [he] at he1; rw [hd1, hk1, he1]; first | done | rfl, (hs.bel rfl)⟩
theorem key_c (s er : Nat) (hs0 : s < 2 ^ 256) (he : sE s = er) (w0 : World) : Calls prog 9 #[W s] w0 fun e w' => e = .returned (.tuple #[At .u8 32 (sK s), ni64 er]) ∧ Below w0.heap.size w0 w' := by
 refine enter (n := 15) (args := [W s]) func9 rfl rfl (Nat.le_of_ble_eq_true rfl) fun ac hs => ?_
 refine wp_seq (wp_region_lit ?_)
 refine stp (op_box hs none none (cs := (Wl s)) rfl rfl rfl rfl rfl rfl fun g1 ac w hs => ?_)
 refine stp (op_alloc hs none none (cs := (tab .u8 32 (fun _ => 0))) rfl rfl zeroValue30 (by kernel_rfl) rfl rfl fun g2 ac w hs => ?_)
 refine asg hs rfl rfl rfl fun ac hs => ?_
 refine wpList_nil (then_n (wp_seq (wp_region_lit ?_)))
 refine ldd hs 0 (W s) isAgg24 sizeOf24 rfl rfl rfl rfl rfl fun ac hs => ?_
 obtain ⟨d3, hd3, ld3⟩ : ∃ z0, sD s = z0 ∧ z0 < 2 ^ 256 := ⟨_, rfl, sD_lt256 _⟩
 obtain ⟨er4, her4⟩ : ∃ z0, sE s = z0 := ⟨_, rfl⟩
 have ler4 := sE_le s
 rw [her4] at ler4
 refine stp (op_call (F := 19) hs none (v := .tuple #[W d3, At .u8 32 (sK s), ni64 er4]) rfl rfl rfl rfl (call19 _) (straight_c s d3 er4 hs0 hd3 her4) rfl fun ac w hs => ?_)
 refine mvv hs rfl rfl rfl fun ac hs => ?_
 refine stp (xtr hs none rfl rfl rfl rfl rfl fun ac hs => ?_)
 refine stp (xtr hs none rfl rfl rfl rfl rfl fun ac hs => ?_)
 refine stp (xtr hs none rfl rfl rfl rfl rfl fun ac hs => ?_)
 refine stp (op_alloc hs none none (cs := [.int .u64 0, .int .u64 0, .int .u64 0, .int .u64 0]) rfl rfl zeroValue24 (by kernel_rfl) rfl rfl fun g5 ac w hs => ?_)
 refine stp (op_alloc hs none none (cs := (tab .u8 32 (fun _ => 0))) rfl rfl zeroValue30 (by kernel_rfl) rfl rfl fun g6 ac w hs => ?_)
 refine stp (stoo hs 2 ((Wl d3)) sizeOf24 rfl rfl rfl rfl rfl rfl rfl rfl rfl rfl fun w hs => ?_)
 refine stp (stoo hs 3 ((tab .u8 32 (sK s))) sizeOf30 rfl rfl rfl rfl rfl (by kernel_rfl) tab_length' (tab_one _ _ _) tab_leA wr_tab fun w hs => ?_)
 refine asg hs rfl rfl rfl fun ac hs => ?_
 refine wpList_nil (then_n (wp_seq ?_))
 replace hs := hs.n0 [2, 3, 5, 6] rfl rfl
 refine wp_region_lit ?_
 refine ldd hs 3 (At .u8 32 (sK s)) isAgg30 sizeOf30 rfl rfl rfl rfl ldv_tab fun ac hs => ?_
 refine mvv hs rfl rfl rfl fun ac hs => ?_
 refine stp (stoo hs 1 ((tab .u8 32 (sK s))) sizeOf30 rfl rfl rfl rfl rfl (by kernel_rfl) tab_length' (tab_one _ _ _) tab_leA wr_tab fun w hs => ?_)
 refine asg hs rfl rfl rfl fun ac hs => ?_
 refine wpList_nil (then_n (wp_ret ?_))
 exact bodyPost_ret (res2 rfl (rv_c hs 1 (v := At .u8 32 (sK s)) rfl rfl isAgg30 sizeOf30 ldv_tab) (rv_t hs rfl)) hs.defers ⟨by rw [show er4 = er from her4.symm.trans he], (hs.bel rfl)⟩
theorem sign_c (s k : Nat) (ad : Option Addr) (nl c : Nat) (l : List UInt8) (b : List UInt8) (er : Nat) (hs0 : s < 2 ^ 256) (hk0 : k < 2 ^ 256) (hlen : l.length ≤ 1000) (hb : sgB s k l = b) (he : sgE s k = er) (w0 : World) (Z : Nat → Prop) (hl : ByV w0 Z (.slice ad nl c) l): Calls prog 7 #[W s, W k, .slice ad nl c] w0 fun e w' => Ret w0 Z (ρ := Option Addr × Nat) (fun r => .tuple #[.slice r.1 b.length r.2, ni64 er]) (fun r => [.cel (.slice r.1 b.length r.2) b.length (bcs b)]) e w' := by
 obtain rfl := byv_len hl
 have hbk := btl_len 32 (sK k)
 have hb8 := fun x => btl_len 32 (by8 x)
 refine enterS (n := 45) (args := [W s, W k, .slice ad l.length c]) (S := [(true, .cel (.slice ad l.length c) l.length (bcs l))]) (Z := Z) func7 rfl rfl (Nat.le_of_ble_eq_true rfl) (sokC hl sok0) rfl fun ac hs => ?_
 refine wp_seq (wp_region_lit ?_)
 refine stp (op_box hs none none (cs := (Wl s)) rfl rfl rfl rfl rfl rfl fun g1 ac w hs => ?_)
 refine stp (op_box hs none none (cs := (Wl k)) rfl rfl rfl rfl rfl rfl fun g2 ac w hs => ?_)
 refine asg hs rfl rfl rfl fun ac hs => ?_
 refine asg hs rfl rfl rfl fun ac hs => ?_
 refine wpList_nil (then_n (wp_seq (wp_region_lit ?_)))
 refine ldd hs 0 (W s) isAgg24 sizeOf24 rfl rfl rfl rfl rfl fun ac hs => ?_
 obtain ⟨d3, hd3, ld3⟩ : ∃ z0, sD s = z0 ∧ z0 < 2 ^ 256 := ⟨_, rfl, sD_lt256 _⟩
 obtain ⟨er4, her4⟩ : ∃ z0, sE s = z0 := ⟨_, rfl⟩
 have ler4 := sE_le s
 rw [her4] at ler4
 refine stp (op_call (F := 19) hs none (v := .tuple #[W d3, At .u8 32 (sK s), ni64 er4]) rfl rfl rfl rfl (call19 _) (straight_c s d3 er4 hs0 hd3 her4) rfl fun ac w hs => ?_)
 refine mvv hs rfl rfl rfl fun ac hs => ?_
 refine stp (xtr hs none rfl rfl rfl rfl rfl fun ac hs => ?_)
 refine stp (xtr hs none rfl rfl rfl rfl rfl fun ac hs => ?_)
 refine stp (xtr hs none rfl rfl rfl rfl rfl fun ac hs => ?_)
 refine stp (op_alloc hs none none (cs := [.int .u64 0, .int .u64 0, .int .u64 0, .int .u64 0]) rfl rfl zeroValue24 (by kernel_rfl) rfl rfl fun g5 ac w hs => ?_)
 refine stp (op_alloc hs none none (cs := (tab .u8 32 (fun _ => 0))) rfl rfl zeroValue30 (by kernel_rfl) rfl rfl fun g6 ac w hs => ?_)
 refine stp (stoo hs 2 ((Wl d3)) sizeOf24 rfl rfl rfl rfl rfl rfl rfl rfl rfl rfl fun w hs => ?_)
 refine stp (stoo hs 3 ((tab .u8 32 (sK s))) sizeOf30 rfl rfl rfl rfl rfl (by kernel_rfl) tab_length' (tab_one _ _ _) tab_leA wr_tab fun w hs => ?_)
 refine asg hs rfl rfl rfl fun ac hs => ?_
 refine wpList_nil (then_n (wp_seq (wp_seq ?_)))
 replace hs := hs.nf w0 Z noX [2, 4, 6, 7, 8, 9, 10] rfl rfl rfl rfl
 refine wp_region_lit ?_
 refine mvv hs rfl rfl rfl fun ac hs => ?_
 refine bnn hs (.bool (decide (er4 ≠ 0))) rfl rfl rfl rfl (bin_neqN (y := 0)) fun ac hs => ?_
 refine wpList_nil (then_n ?_)
 refine wp_cond_split (hs.ev rfl) (fun hc => ?_) (fun hc => ?_)
 ·skip
  have hp7 := of_decide_eq_true hc
  have hn0 : sE s ≠ 0 := by rw [her4]; simpa using hc
  refine wp_seq (wp_region_lit ?_)
  refine mvv hs rfl rfl rfl fun ac hs => ?_
  refine asg hs rfl rfl rfl fun ac hs => ?_
  refine asg hs rfl rfl rfl fun ac hs => ?_
  refine wpList_nil (then_n (wp_ret (then_r ?_)))
  exact bodyPost_ret (res2 rfl (rv_t hs rfl) (rv_t hs rfl)) hs.defers ⟨⟨none, 0⟩, by obtain ⟨h1, h2⟩ := sgB_no l (fun h => hn0 h.1); rw [← hb, ← he, h1, h2]; rw [show er4 = 1 from (her4.symm.trans (sE_1 hn0).2)]; first | done | rfl, hs.bel rfl, by obtain ⟨h1, _⟩ := sgB_no l (fun h => hn0 h.1); rw [← hb, h1]; exact okl1 celv_nil⟩
 ·skip
  have hp8 := of_decide_eq_false hc
  have hz0 : sE s = 0 := by rw [her4]; simpa using hc
  refine wp_skip (then_n (wp_seq (wp_region_lit ?_)))
  refine ldd hs 1 (W k) isAgg24 sizeOf24 rfl rfl rfl rfl rfl fun ac hs => ?_
  obtain ⟨d9, hd9, ld9⟩ : ∃ z0, sD k = z0 ∧ z0 < 2 ^ 256 := ⟨_, rfl, sD_lt256 _⟩
  obtain ⟨er10, her10⟩ : ∃ z0, sE k = z0 := ⟨_, rfl⟩
  have ler10 := sE_le k
  rw [her10] at ler10
  refine stp (op_call (F := 19) hs none (v := .tuple #[W d9, At .u8 32 (sK k), ni64 er10]) rfl rfl rfl rfl (call19 _) (straight_c k d9 er10 hk0 hd9 her10) rfl fun ac w hs => ?_)
  refine mvv hs rfl rfl rfl fun ac hs => ?_
  refine stp (xtr hs none rfl rfl rfl rfl rfl fun ac hs => ?_)
  refine stp (xtr hs none rfl rfl rfl rfl rfl fun ac hs => ?_)
  refine stp (xtr hs none rfl rfl rfl rfl rfl fun ac hs => ?_)
  refine stp (op_alloc hs none none (cs := [.int .u64 0, .int .u64 0, .int .u64 0, .int .u64 0]) rfl rfl zeroValue24 (by kernel_rfl) rfl rfl fun g11 ac w hs => ?_)
  refine stp (op_alloc hs none none (cs := (tab .u8 32 (fun _ => 0))) rfl rfl zeroValue30 (by kernel_rfl) rfl rfl fun g12 ac w hs => ?_)
  refine stp (stoo hs 4 ((Wl d9)) sizeOf24 rfl rfl rfl rfl rfl rfl rfl rfl rfl rfl fun w hs => ?_)
  refine stp (stoo hs 5 ((tab .u8 32 (sK k))) sizeOf30 rfl rfl rfl rfl rfl (by kernel_rfl) tab_length' (tab_one _ _ _) tab_leA wr_tab fun w hs => ?_)
  refine asg hs rfl rfl rfl fun ac hs => ?_
  refine wpList_nil (then_n (wp_seq (wp_seq ?_)))
  replace hs := hs.nf w0 Z noX [2, 6, 7, 8, 9, 10, 11, 12] rfl rfl rfl rfl
  refine wp_region_lit ?_
  refine mvv hs rfl rfl rfl fun ac hs => ?_
  refine bnn hs (.bool (decide (er10 ≠ 0))) rfl rfl rfl rfl (bin_neqN (y := 0)) fun ac hs => ?_
  refine wpList_nil (then_n ?_)
  refine wp_cond_split (hs.ev rfl) (fun hc => ?_) (fun hc => ?_)
  ·skip
   have hp13 := of_decide_eq_true hc
   have hn1 : sE k ≠ 0 := by rw [her10]; simpa using hc
   refine wp_seq (wp_region_lit ?_)
   refine mvv hs rfl rfl rfl fun ac hs => ?_
   refine asg hs rfl rfl rfl fun ac hs => ?_
   refine asg hs rfl rfl rfl fun ac hs => ?_
   refine wpList_nil (then_n (wp_ret (then_r ?_)))
   exact bodyPost_ret (res2 rfl (rv_t hs rfl) (rv_t hs rfl)) hs.defers ⟨⟨none, 0⟩, by obtain ⟨h1, h2⟩ := sgB_no l (fun h => hn1 h.2); rw [← hb, ← he, h1, h2]; rw [show er10 = 1 from (her10.symm.trans (sE_1 hn1).2)]; first | done | rfl, hs.bel rfl, by obtain ⟨h1, _⟩ := sgB_no l (fun h => hn1 h.2); rw [← hb, h1]; exact okl1 celv_nil⟩
  ·skip
   have hp14 := of_decide_eq_false hc
   have hz1 : sE k = 0 := by rw [her10]; simpa using hc
   refine wp_skip (then_n (wp_seq ?_))
   replace hs := hs.nf w0 Z noX [2, 6, 7, 8, 9, 11, 12] rfl rfl rfl rfl
   obtain ⟨e15, he15, le15⟩ : ∃ z0, chal (sK k) (sK s) l = z0 ∧ z0 < 2 ^ 256 := ⟨_, rfl, chal_lt _ _ _⟩
   obtain ⟨r16, hr16, lr16⟩ : ∃ z0, e15 * d3 % Nord = z0 ∧ z0 < 2 ^ 256 := ⟨_, rfl, mN256 _⟩
   obtain ⟨r17, hr17, lr17⟩ : ∃ z0, (d9 + r16) % Nord = z0 ∧ z0 < 2 ^ 256 := ⟨_, rfl, mN256 _⟩
   refine region_inv [([], [7, 8, 10]), ([], [4, 6, 7, 8, 10]), ([], [4, 6, 7, 8, 10]), ([], [4, 6, 7, 8, 10]), ([1, 2, 3], [6, 7, 8, 10]), ([], [6, 7, 8, 10]), (rgn 1 5, [7, 8, 10]), (rgn 0 7, [8, 10]), (rgn 0 8, [10]), ([], [10]), (rgn 0 10, [])] (fun L ac w => ∃ (g18 : Nat), St 45 ⟨w0, [], [(true, .cel (.slice ad l.length c) l.length (bcs l))], Z, noX⟩ [(32, L 0, W d9), (33, L 1, At .u8 32 (sK k)), (34, L 2, At .u8 32 (sK s)), (35, L 3, .slice ad l.length c), (36, L 4, W e15), (37, L 5, W d3), (38, L 6, W r16), (39, L 7, W r17), (40, L 8, At .u8 32 (by8 r17)), (13, L 9, ptA g18 0), (2, true, .slice ad l.length c), (6, true, .slice none 0 0), (7, true, .int .i64 0), (8, true, ptA g5 0), (9, true, ptA g6 0), (11, true, ptA g11 0), (12, true, ptA g12 0)] [(true, g1, 24, (Wl s)), (true, g2, 24, (Wl k)), (true, g5, 24, (Wl d3)), (true, g6, 30, (tab .u8 32 (sK s))), (true, g11, 24, (Wl d9)), (true, g12, 30, (tab .u8 32 (sK k))), (L 9, g18, 30, (cond (L 10) (tab .u8 32 (by8 r17)) (tab .u8 32 (fun _ => 0))))] ac w) (by kernel_rfl) (by kernel_rfl) ?_ ?_ ?_
   ·exact ⟨0, hs.drew.skip.skip.skip.skip.skip.skip.skip.skip.skip.skip.pad⟩
   ·refine ⟨?_, ?_, ?_, ?_, ?_, ?_, ?_, ?_, ?_, ?_, ?_, trivial⟩
    ·exact fun L ac w ⟨g18, hs⟩ => pln (oldd hs 0 4 (W d9) isAgg24 sizeOf24 rfl rfl rfl rfl rfl fun ac hs => ⟨g18, hs⟩)
    ·exact fun L ac w ⟨g18, hs⟩ => pln (oldd hs 1 5 (At .u8 32 (sK k)) isAgg30 sizeOf30 rfl rfl rfl rfl ldv_tab fun ac hs => ⟨g18, hs⟩)
    ·exact fun L ac w ⟨g18, hs⟩ => pln (oldd hs 2 3 (At .u8 32 (sK s)) isAgg30 sizeOf30 rfl rfl rfl rfl ldv_tab fun ac hs => ⟨g18, hs⟩)
    ·exact fun L ac w ⟨g18, hs⟩ => pln (omv hs 3 rfl rfl rfl fun ac hs => ⟨g18, hs⟩)
    ·exact fun L ac w ⟨g18, hs⟩ => pln (op_callS (F := 23) (ρ := Unit) hs (some 4) none (v := fun r => W e15) (E := fun r => []) (j := 0) rfl rfl rfl rfl (call23 _) (fun hs => chal_c (sK k) (sK s) ad l.length c l e15 (fun j _ => sK_lt _ j) (fun j _ => sK_lt _ j) (show l.length ≤ 1000 by omega) he15 _ _ (hs.all (k := 0) rfl rfl)) (fun _ => rfl) rfl rfl fun _ ac w hs => ⟨g18, hs⟩)
    ·exact fun L ac w ⟨g18, hs⟩ => pln (oldd hs 5 2 (W d3) isAgg24 sizeOf24 rfl rfl rfl rfl rfl fun ac hs => ⟨g18, hs⟩)
    ·exact fun L ac w ⟨g18, hs⟩ => pln (op_call (F := 22) hs (some 6) (v := W r16) rfl rfl rfl rfl (call22 _) (smul_c e15 d3 r16 le15 ld3 hr16) rfl fun ac w hs => ⟨g18, hs⟩)
    ·exact fun L ac w ⟨g18, hs⟩ => pln (op_call (F := 21) hs (some 7) (v := W r17) rfl rfl rfl rfl (call21 _) (sadd_c d9 r16 r17 ld9 lr16 hr17) rfl fun ac w hs => ⟨g18, hs⟩)
    ·exact fun L ac w ⟨g18, hs⟩ => pln (op_call (F := 20) hs (some 8) (v := At .u8 32 (by8 r17)) rfl rfl rfl rfl (call20 _) (bytes_c r17 lr17) rfl fun ac w hs => ⟨g18, hs⟩)
    ·exact fun L ac w ⟨g18, hs⟩ => pln (op_alloc hs (some 9) (some 6) (cs := (tab .u8 32 (fun _ => 0))) rfl rfl zeroValue30 (by kernel_rfl) rfl rfl fun g18 ac w hs => ⟨g18, hs⟩)
    ·exact fun L ac w ⟨g18, hs⟩ => pln (stoo hs 6 ((tab .u8 32 (by8 r17))) sizeOf30 rfl rfl rfl rfl rfl (by kernel_rfl) tab_length' (tab_one _ _ _) tab_leA wr_tab fun w hs => ⟨g18, hs⟩)
   intro ac w ⟨g18, hs⟩
   try dsimp only [cond_true] at hs
   have hb9 := btl_len 32 (by8 r17)
   refine then_n (wp_seq ?_)
   replace hs := hs.arrCel none 5 (n0 := 32) (f := sK k) rfl (fun j hj => (fun j _ => sK_lt _ j) j (by omega)) (by decide) rfl
   replace hs := hs.selB [0, 1, 2, 3, 4, 6] rfl (by decide)
   replace hs := hs.arrCel none 5 (n0 := 32) (f := by8 r17) rfl (fun j hj => by8_lt r17 j) (by decide) rfl
   replace hs := hs.selB [0, 1, 2, 3, 4] rfl (by decide)
   replace hs := hs.nf w0 Z noX [6, 7, 12, 13] rfl rfl rfl rfl
   refine region_inv [([], rgn 2 4), ([], rgn 2 4), ([0, 1], [3, 4, 5]), ([0, 1, 2], [4, 5]), (rgn 0 4, [5]), (rgn 0 5, [])] (fun L ac w => ∃ (ad20 : Option Addr) (ad21 : Option Addr) (cp22 : Nat), St 45 ⟨w0, [], [(true, .cel (.slice ad l.length c) l.length (bcs l)), (true, .cel (.slice (some ⟨g12, 0, none⟩) 32 32) 32 (bcs (btl 32 (sK k)))), (true, .cel (.slice (some ⟨g18, 0, none⟩) 32 32) 32 (bcs (btl 32 (by8 r17)))), (L 2, .cel (.slice ad20 2 2) 2 ([.slice (some ⟨g12, 0, none⟩) 32 32, .slice (some ⟨g18, 0, none⟩) 32 32])), (L 3, .cel (.slice ad21 (((btl 32 (sK k)) ++ (btl 32 (by8 r17))).length) cp22) (((btl 32 (sK k)) ++ (btl 32 (by8 r17))).length) (bcs ((btl 32 (sK k)) ++ (btl 32 (by8 r17)))))], Z, noX⟩ [(41, L 0, .slice (some ⟨g12, 0, none⟩) 32 32), (42, L 1, .slice (some ⟨g18, 0, none⟩) 32 32), (43, L 2, .slice ad20 2 2), (44, L 3, .slice ad21 (((btl 32 (sK k)) ++ (btl 32 (by8 r17))).length) cp22), (6, L 4, cond (L 4) (.slice ad21 (((btl 32 (sK k)) ++ (btl 32 (by8 r17))).length) cp22) undef), (7, L 5, .int .i64 0), (6, true, .slice none 0 0), (7, true, .int .i64 0), (12, true, ptA g12 0), (13, true, ptA g18 0)] [(true, g1, 24, (Wl s)), (true, g2, 24, (Wl k)), (true, g5, 24, (Wl d3)), (true, g6, 30, (tab .u8 32 (sK s))), (true, g11, 24, (Wl d9))] ac w) (by kernel_rfl) (by kernel_rfl) ?_ ?_ ?_
   ·exact ⟨none, none, 0, hs.drew.skip.skip.skip.skip.skip.skip.padS.padS⟩
   ·refine ⟨?_, ?_, ?_, ?_, ?_, ?_, trivial⟩
    ·exact fun L ac w ⟨ad20, ad21, cp22, hs⟩ => pln (op_val hs (some 0) (v := .slice (some ⟨g12, 0, none⟩) 32 32) rfl rfl (run_slA rfl (hs.ev rfl) underlying30 sizeOf5) fun ac hs => ⟨ad20, ad21, cp22, hs⟩)
    ·exact fun L ac w ⟨ad20, ad21, cp22, hs⟩ => pln (op_val hs (some 1) (v := .slice (some ⟨g18, 0, none⟩) 32 32) rfl rfl (run_slA rfl (hs.ev rfl) underlying30 sizeOf5) fun ac hs => ⟨ad20, ad21, cp22, hs⟩)
    ·exact fun L ac w ⟨ad20, ad21, cp22, hs⟩ => pln (op_bsC hs (some 2) (some 3) (qs := [(0, .slice (some ⟨g12, 0, none⟩) 32 32), (1, .slice (some ⟨g18, 0, none⟩) 32 32)]) (cs := [.slice (some ⟨g12, 0, none⟩) 32 32, .slice (some ⟨g18, 0, none⟩) 32 32]) rfl rfl rfl rfl underlying72 inf_slice_25 (by decide) (by decide) (fill_two _ _ _ rfl rfl ) rfl rfl rfl rfl fun ad20 ac w hs => ⟨ad20, ad21, cp22, hs⟩)
    ·exact fun L ac w ⟨ad20, ad21, cp22, hs⟩ => pln (op_callS (F := 24) (ρ := Option Addr × Nat) hs (some 3) (some 4) (v := fun r => .slice r.1 (((btl 32 (sK k)) ++ (btl 32 (by8 r17))).length) r.2) (E := fun r => [.cel (.slice r.1 (((btl 32 (sK k)) ++ (btl 32 (by8 r17))).length) r.2) (((btl 32 (sK k)) ++ (btl 32 (by8 r17))).length) (bcs ((btl 32 (sK k)) ++ (btl 32 (by8 r17))))]) (j := 1) rfl rfl rfl rfl (call24 _) (fun hs => joined_c ad20 2 2 [.slice (some ⟨g12, 0, none⟩) 32 32, .slice (some ⟨g18, 0, none⟩) 32 32] [btl 32 (sK k), btl 32 (by8 r17)] ((btl 32 (sK k)) ++ (btl 32 (by8 r17))) (by simp [List.append_assoc]) rfl (Nat.le_of_ble_eq_true rfl) (show ((btl 32 (sK k)) ++ (btl 32 (by8 r17))).length ≤ 100000 by first | omega | ((try simp only [List.length_drop, List.length_take, List.length_append, List.length_cons, List.length_nil]); omega)) _ _ (hs.all (k := 3) rfl rfl) (bysC (hs.all (k := 1) rfl rfl) (bysC (hs.all (k := 2) rfl rfl) bys0))) (fun _ => rfl) rfl rfl fun ⟨ad21, cp22⟩ ac w hs => ⟨ad20, ad21, cp22, hs⟩)
    ·exact fun L ac w ⟨ad20, ad21, cp22, hs⟩ => pln (oas hs 4 rfl rfl rfl fun ac hs => ⟨ad20, ad21, cp22, hs⟩)
    ·exact fun L ac w ⟨ad20, ad21, cp22, hs⟩ => pln (oas hs 5 rfl rfl rfl fun ac hs => ⟨ad20, ad21, cp22, hs⟩)
   intro ac w ⟨ad20, ad21, cp22, hs⟩
   try dsimp only [cond_true] at hs
   refine then_n (wp_ret ?_)
   obtain ⟨hg1, hg2⟩ := sgB_yes (s := s) (k := k) l hz0 hz1
   have hz : sgS s k l = r17 := by unfold sgS; rw [he15, hd3, hd9, hr16, hr17]
   rw [show (btl 32 (sK k)) ++ (btl 32 (by8 r17)) = b from (by rw [← hb, hg1, hz])] at hs
   exact bodyPost_ret (res2 rfl (rv_t hs rfl) (rv_t hs rfl)) hs.defers ⟨⟨ad21, cp22⟩, by rw [← he, hg2]; rfl, hs.bel rfl, hs.ret1 4 rfl⟩
end Go.Proofs.YtejbajgpiecjcaaGreat
