/- Several texts in one, what this law needs of them: Sha1, Sha2, Ref13, Ref06, SchA, SchB. -/
import Derived.Test.YtejbajgpiecjcaaGreatSC3

/- SHA-256: the program's, the document's. -/
namespace Go.Proofs.YtejbajgpiecjcaaGreat
open Go.RowKit _root_.Go.Proofs.Tryz
set_option maxRecDepth 10000
set_option maxHeartbeats 1000000
theorem inf_u8_5 : Inf prog 5 (.int .u8 0) 1 1 := inf_of (by kernel_rfl)
theorem inf_u32_109 : Inf prog 109 (.int .u32 0) 1 4 := inf_of (by kernel_rfl)
theorem rot_c (x n r : Nat) (hx : x < 4294967296) (hn : 0 < n) (hn2 : n < 32) (hr : rr x n = r) (w0 : World) : Calls prog 141 #[nu32 x, .int .i64 (-(n : Int))] w0 fun e w' => e = .returned (nu32 r) ∧ Below w0.heap.size w0 w' := by
 refine enter (n := 17) (args := [nu32 x, .int .i64 (-(n : Int))]) func141 rfl rfl (Nat.le_of_ble_eq_true rfl) fun ac hs => ?_
 refine wp_seq (wp_region_lit ?_)
 refine asg hs rfl rfl rfl fun ac hs => ?_
 refine wpList_nil (then_n (wp_seq (wp_region_lit ?_)))
 refine mvv hs rfl rfl rfl fun ac hs => ?_
 refine stp (op_convert hs none (v := nu64 (18446744073709551616 - n)) rfl rfl rfl (conv_neg64 underlying3 underlying73 hn (by omega)) rfl fun ac hs => ?_)
 refine bnn hs (nu64 (32 - n)) rfl rfl rfl rfl (bin_andN (y := 31) (and31 hn hn2) (show 18446744073709551616 - n < 18446744073709551616 by omega) (by decide) (show 32 - n < 18446744073709551616 by omega)) fun ac hs => ?_
 refine asg hs rfl rfl rfl fun ac hs => ?_
 refine wpList_nil (then_n (wp_seq (wp_region_lit ?_)))
 refine mvv hs rfl rfl rfl fun ac hs => ?_
 refine mvv hs rfl rfl rfl fun ac hs => ?_
 refine bnn hs (nu32 (x * 2 ^ (32 - n) % 4294967296)) rfl rfl rfl rfl (bin_shlM rfl rfl) fun ac hs => ?_
 refine mvv hs rfl rfl rfl fun ac hs => ?_
 refine mvv hs rfl rfl rfl fun ac hs => ?_
 refine bnn hs (nu64 n) rfl rfl rfl rfl (bin_subN (x := 32) (by omega) (show n < 18446744073709551616 by omega)) fun ac hs => ?_
 refine bnn hs (nu32 (x / 2 ^ n)) rfl rfl rfl rfl (bin_shrN rfl hx) fun ac hs => ?_
 refine bnn hs (nu32 (rr x n)) rfl rfl rfl rfl (bin_orN (Nat.or_comm _ _) (m32 _) (Nat.lt_of_le_of_lt (Nat.div_le_self _ _) hx) (rr_lt hx)) fun ac hs => ?_
 refine asg hs rfl rfl rfl fun ac hs => ?_
 refine wpList_nil (then_n (wp_ret ?_))
 exact bodyPost_ret (res1 rfl (rv_t hs rfl)) hs.defers ⟨by rw [hr], (hs.bel rfl)⟩
theorem turn_c (x n r : Nat) (hx : x < 4294967296) (hn2 : n < 32) (hr : rr x n = r) (w0 : World) : Calls prog 142 #[nu32 x, nu64 n] w0 fun e w' => e = .returned (nu32 r) ∧ Below w0.heap.size w0 w' := by
 refine enter (n := 13) (args := [nu32 x, nu64 n]) func142 rfl rfl (Nat.le_of_ble_eq_true rfl) fun ac hs => ?_
 refine wp_seq (wp_region_lit ?_)
 refine asg hs rfl rfl rfl fun ac hs => ?_
 refine wpList_nil (then_n (wp_seq (wp_region_lit ?_)))
 refine mvv hs rfl rfl rfl fun ac hs => ?_
 refine mvv hs rfl rfl rfl fun ac hs => ?_
 refine bnn hs (nu32 (x / 2 ^ n)) rfl rfl rfl rfl (bin_shrN rfl hx) fun ac hs => ?_
 refine mvv hs rfl rfl rfl fun ac hs => ?_
 refine mvv hs rfl rfl rfl fun ac hs => ?_
 refine bnn hs (nu64 (32 - n)) rfl rfl rfl rfl (bin_subN (x := 32) (by omega) (show 32 - n < 18446744073709551616 by omega)) fun ac hs => ?_
 refine bnn hs (nu32 (x * 2 ^ (32 - n) % 4294967296)) rfl rfl rfl rfl (bin_shlM rfl rfl) fun ac hs => ?_
 refine bnn hs (nu32 (rr x n)) rfl rfl rfl rfl (bin_orN (rfl) (Nat.lt_of_le_of_lt (Nat.div_le_self _ _) hx) (m32 _) (rr_lt hx)) fun ac hs => ?_
 refine asg hs rfl rfl rfl fun ac hs => ?_
 refine wpList_nil (then_n (wp_ret ?_))
 exact bodyPost_ret (res1 rfl (rv_t hs rfl)) hs.defers ⟨by rw [hr], (hs.bel rfl)⟩
theorem firsts_c  (w0 : World) : Calls prog 129 #[] w0 fun e w' => e = .returned (At .u32 8 HH0) ∧ Below w0.heap.size w0 w' := by
 refine enter (n := 2) (args := []) func129 rfl rfl (Nat.le_of_ble_eq_true rfl) fun ac hs => ?_
 refine wp_seq (wp_region_lit ?_)
 refine stp (op_alloc hs none none (cs := (tab .u32 8 (fun _ => 0))) rfl rfl zeroValue111 (by kernel_rfl) rfl rfl fun g1 ac w hs => ?_)
 refine wpList_nil (then_n (wp_seq (wp_region_lit ?_)))
 refine stp (op_build hs none (qs := [(0, .int .u32 1779033703), (1, .int .u32 3144134277), (2, .int .u32 1013904242), (3, .int .u32 2773480762), (4, .int .u32 1359893119), (5, .int .u32 2600822924), (6, .int .u32 528734635), (7, .int .u32 1541459225)]) (v := At .u32 8 HH0) rfl rfl rfl rfl (fun _ => by kernel_rfl) rfl fun ac hs => ?_)
 refine stp (stoo hs 0 ((tab .u32 8 HH0)) sizeOf111 rfl rfl rfl rfl rfl (by kernel_rfl) tab_length' (tab_one _ _ _) tab_leA wr_tab fun w hs => ?_)
 refine wpList_nil (then_n (wp_ret ?_))
 exact bodyPost_ret (res1 rfl (rv_c hs 0 (v := At .u32 8 HH0) rfl rfl isAgg111 sizeOf111 ldv_tab)) hs.defers ⟨rfl, (hs.bel rfl)⟩
theorem steps_c  (w0 : World) : Calls prog 140 #[] w0 fun e w' => e = .returned (At .u32 64 KK) ∧ Below w0.heap.size w0 w' := by
 refine enter (n := 2) (args := []) func140 rfl rfl (Nat.le_of_ble_eq_true rfl) fun ac hs => ?_
 refine wp_seq (wp_region_lit ?_)
 refine stp (op_alloc hs none none (cs := (tab .u32 64 (fun _ => 0))) rfl rfl zeroValue124 (by kernel_rfl) rfl rfl fun g1 ac w hs => ?_)
 refine wpList_nil (then_n (wp_seq (wp_region_lit ?_)))
 refine stp (op_build hs none (qs := [(0, .int .u32 1116352408), (1, .int .u32 1899447441), (2, .int .u32 3049323471), (3, .int .u32 3921009573), (4, .int .u32 961987163), (5, .int .u32 1508970993), (6, .int .u32 2453635748), (7, .int .u32 2870763221), (8, .int .u32 3624381080), (9, .int .u32 310598401), (10, .int .u32 607225278), (11, .int .u32 1426881987), (12, .int .u32 1925078388), (13, .int .u32 2162078206), (14, .int .u32 2614888103), (15, .int .u32 3248222580), (16, .int .u32 3835390401), (17, .int .u32 4022224774), (18, .int .u32 264347078), (19, .int .u32 604807628), (20, .int .u32 770255983), (21, .int .u32 1249150122), (22, .int .u32 1555081692), (23, .int .u32 1996064986), (24, .int .u32 2554220882), (25, .int .u32 2821834349), (26, .int .u32 2952996808), (27, .int .u32 3210313671), (28, .int .u32 3336571891), (29, .int .u32 3584528711), (30, .int .u32 113926993), (31, .int .u32 338241895), (32, .int .u32 666307205), (33, .int .u32 773529912), (34, .int .u32 1294757372), (35, .int .u32 1396182291), (36, .int .u32 1695183700), (37, .int .u32 1986661051), (38, .int .u32 2177026350), (39, .int .u32 2456956037), (40, .int .u32 2730485921), (41, .int .u32 2820302411), (42, .int .u32 3259730800), (43, .int .u32 3345764771), (44, .int .u32 3516065817), (45, .int .u32 3600352804), (46, .int .u32 4094571909), (47, .int .u32 275423344), (48, .int .u32 430227734), (49, .int .u32 506948616), (50, .int .u32 659060556), (51, .int .u32 883997877), (52, .int .u32 958139571), (53, .int .u32 1322822218), (54, .int .u32 1537002063), (55, .int .u32 1747873779), (56, .int .u32 1955562222), (57, .int .u32 2024104815), (58, .int .u32 2227730452), (59, .int .u32 2361852424), (60, .int .u32 2428436474), (61, .int .u32 2756734187), (62, .int .u32 3204031479), (63, .int .u32 3329325298)]) (v := At .u32 64 KK) rfl rfl rfl rfl (fun _ => by kernel_rfl) rfl fun ac hs => ?_)
 refine stp (stoo hs 0 ((tab .u32 64 KK)) sizeOf124 rfl rfl rfl rfl rfl (by kernel_rfl) tab_length' (tab_one _ _ _) tab_leA wr_tab fun w hs => ?_)
 refine wpList_nil (then_n (wp_ret ?_))
 exact bodyPost_ret (res1 rfl (rv_c hs 0 (v := At .u32 64 KK) rfl rfl isAgg124 sizeOf124 ldv_tab)) hs.defers ⟨rfl, (hs.bel rfl)⟩
theorem spread_c (ad : Option Addr) (nl c : Nat) (l : List UInt8) (h64 : l.length = 64) (w0 : World) (Z : Nat → Prop) (hl : ByV w0 Z (.slice ad nl c) l): Calls prog 139 #[.slice ad nl c] w0 fun e w' => Ret w0 Z (ρ := Unit) (fun r => At .u32 64 (wv l)) (fun r => []) e w' := by
 obtain rfl := byv_len hl
 refine enterS (n := 82) (args := [.slice ad l.length c]) (S := [(true, .cel (.slice ad l.length c) l.length (bcs l))]) (Z := Z) func139 rfl rfl (Nat.le_of_ble_eq_true rfl) (sokC hl sok0) rfl fun ac hs => ?_
 refine wp_seq (wp_region_lit ?_)
 refine stp (op_alloc hs none none (cs := (tab .u32 64 (fun _ => 0))) rfl rfl zeroValue124 (by kernel_rfl) rfl rfl fun g1 ac w hs => ?_)
 refine wpList_nil (then_n (wp_seq (wp_region_lit ?_)))
 refine stp (op_alloc hs none none (cs := (tab .u32 64 (fun _ => 0))) rfl rfl zeroValue124 (by kernel_rfl) rfl rfl fun g2 ac w hs => ?_)
 refine wpList_nil (then_n (wp_seq (wp_seq (wp_region_lit ?_))))
 refine mvv hs rfl rfl rfl fun ac hs => ?_
 refine wpList_nil (then_n (wp_block ?_))
 replace hs := hs.setb 1 (cs' := (tab .u32 64 (w16 l 0 0))) rfl (tab_ext fun j hj => w16_zero l j)
 refine wp_loop_m (fun μ ac w => ∃ (i : Nat), (16 - i) = μ ∧ (i ≤ 16) ∧ St 82 ⟨w0, [], [(true, .cel (.slice ad l.length c) l.length (bcs l))], Z, noX⟩ [(0, true, .slice ad l.length c), (2, true, ptA g1 0), (3, true, ptA g2 0), (12, true, ni64 i)] [(true, g1, 124, (tab .u32 64 (fun _ => 0))), (true, g2, 124, (tab .u32 64 (w16 l i 0)))] ac w) ?_ ?_
 ·exact ⟨_, 0, rfl, (by omega), (hs.re (fs' := [(0, true, .slice ad l.length c), (2, true, ptA g1 0), (3, true, ptA g2 0), (12, true, ni64 0)]) ⟨rfl, rfl, rfl, rfl, trivial⟩)⟩
 intro μ ac w ⟨i, hμ, hi, hs⟩
 refine wp_seq (wp_region_lit ?_)
 refine bnn hs (.bool (decide (i < 16))) rfl rfl rfl rfl (bin_lssN (y := 16)) fun ac hs => ?_
 refine wpList_nil (then_n (wp_seq ?_))
 refine wp_cond_split (hs.ev rfl) (fun hc => ?_) (fun hc => ?_)
 ·skip
  have hp3 := of_decide_eq_true hc
  have hi16 := of_decide_eq_true hc
  refine wp_skip (then_n (wp_seq (wp_block (wp_seq (wp_region_lit ?_)))))
  refine mvv hs rfl rfl rfl fun ac hs => ?_
  refine asg hs rfl rfl rfl fun ac hs => ?_
  refine wpList_nil (then_n (wp_seq (wp_region_lit ?_)))
  refine mvv hs rfl rfl rfl fun ac hs => ?_
  refine mvv hs rfl rfl rfl fun ac hs => ?_
  refine bnn hs (ni64 (4 * i)) rfl rfl rfl rfl (bin_mulN (x := 4) rfl (show 4 * i < 9223372036854775808 by omega)) fun ac hs => ?_
  refine mvv hs rfl rfl rfl fun ac hs => ?_
  refine bnn hs (ni64 (4 * i)) rfl rfl rfl rfl (bin_mulN (x := 4) rfl (show 4 * i < 9223372036854775808 by omega)) fun ac hs => ?_
  refine bnn hs (ni64 (4 * i + 4)) rfl rfl rfl rfl (bin_addN (y := 4) rfl (show 4 * i + 4 < 9223372036854775808 by omega)) fun ac hs => ?_
  refine stp (op_sliceR hs none none 0 (4 * i) (4 * i + 4) (N' := ((l.drop (4 * i)).take (4 * i + 4 - (4 * i))).length) (cs' := bcs ((l.drop (4 * i)).take (4 * i + 4 - (4 * i)))) rfl rfl rfl rfl (.inr ⟨_, _, rfl, rfl⟩) (.inr ⟨_, _, rfl, rfl⟩) underlying25 sizeOf5 (show 4 * i ≤ 4 * i + 4 by omega) (show 4 * i + 4 ≤ l.length by omega) (len_both (show 4 * i ≤ 4 * i + 4 by omega) (show 4 * i + 4 ≤ l.length by omega)) (bcs_part _ _ _) rfl rfl fun ac hs => ?_)
  refine stp (op_blt hs none (v := .int .i64 ((((l.drop (4 * i)).take (4 * i + 4 - (4 * i))).length : Nat) : Int)) rfl rfl rfl (blt_len underlying25) rfl fun ac hs => ?_)
  refine mvv hs rfl rfl rfl fun ac hs => ?_
  refine wpList_nil (then_n (wp_block ?_))
  refine wp_loop_m (fun μ ac w => ∃ (k : Nat), (4 - k) = μ ∧ (k ≤ 4) ∧ St 82 ⟨w0, [], [(true, .cel (.slice ad l.length c) l.length (bcs l)), (true, .cel (.slice (vsa ad c 1 (4 * i)) (((l.drop (4 * i)).take (4 * i + 4 - (4 * i))).length) (c - (4 * i))) (((l.drop (4 * i)).take (4 * i + 4 - (4 * i))).length) (bcs ((l.drop (4 * i)).take (4 * i + 4 - (4 * i)))))], Z, noX⟩ [(0, true, .slice ad l.length c), (2, true, ptA g1 0), (3, true, ptA g2 0), (4, true, ni64 i), (12, true, ni64 i), (21, true, .slice (vsa ad c 1 (4 * i)) (((l.drop (4 * i)).take (4 * i + 4 - (4 * i))).length) (c - (4 * i))), (22, true, .int .i64 ((((l.drop (4 * i)).take (4 * i + 4 - (4 * i))).length : Nat) : Int)), (23, true, ni64 k)] [(true, g1, 124, (tab .u32 64 (fun _ => 0))), (true, g2, 124, (tab .u32 64 (w16 l i k)))] ac w) ?_ ?_
  ·exact ⟨_, 0, rfl, (by omega), (hs.re (fs' := [(0, true, .slice ad l.length c), (2, true, ptA g1 0), (3, true, ptA g2 0), (4, true, ni64 i), (12, true, ni64 i), (21, true, .slice (vsa ad c 1 (4 * i)) (((l.drop (4 * i)).take (4 * i + 4 - (4 * i))).length) (c - (4 * i))), (22, true, .int .i64 ((((l.drop (4 * i)).take (4 * i + 4 - (4 * i))).length : Nat) : Int)), (23, true, ni64 0)]) ⟨rfl, rfl, rfl, rfl, rfl, rfl, rfl, rfl, trivial⟩)⟩
  intro μ ac w ⟨k, hμ, hk, hs⟩
  refine wp_seq (wp_region_lit ?_)
  refine bnn hs (.bool (decide (k < ((l.drop (4 * i)).take (4 * i + 4 - (4 * i))).length))) rfl rfl rfl rfl bin_lssN fun ac hs => ?_
  refine wpList_nil (then_n (wp_seq ?_))
  refine wp_cond_split (hs.ev rfl) (fun hc => ?_) (fun hc => ?_)
  ·skip
   have hp4 := of_decide_eq_true hc
   have hk4 : k < 4 := by have := of_decide_eq_true hc; simp only [List.length_take, List.length_drop] at this; omega
   have hpt := pre4_24 (b := l) (t := i) hk4
   refine wp_skip (then_n (wp_seq (wp_block (wp_seq (wp_region_lit ?_)))))
   refine stp (op_idxC hs none 1 (j := k) rfl rfl rfl rfl rfl underlying25 sizeOf5 (show k < ((l.drop (4 * i)).take (4 * i + 4 - (4 * i))).length by first | omega | ((try simp only [List.length_drop, List.length_take, List.length_append, List.length_cons, List.length_nil]); omega)) (off := k) (by omega) rfl fun ac hs => ?_)
   have l5 := byt_lt ((l.drop (4 * i)).take (4 * i + 4 - (4 * i))) k
   refine stp (op_loadC hs none 1 (u := .int .u8 ((byt ((l.drop (4 * i)).take (4 * i + 4 - (4 * i))) k : Nat) : Int)) rfl rfl rfl rfl isAgg5 sizeOf5 (by decide) (bcs_get (show k < ((l.drop (4 * i)).take (4 * i + 4 - (4 * i))).length by first | omega | ((try simp only [List.length_drop, List.length_take, List.length_append, List.length_cons, List.length_nil]); omega))) rfl fun ac hs => ?_)
   refine asg hs rfl rfl rfl fun ac hs => ?_
   refine wpList_nil (then_n (wp_region_lit ?_))
   refine mvv hs rfl rfl rfl fun ac hs => ?_
   refine mvv hs rfl rfl rfl fun ac hs => ?_
   refine stp (op_idxA hs none (j := i) rfl rfl rfl rfl underlying124 sizeOf109 (show i < 64 by omega) (off := i) (by omega) rfl fun ac hs => ?_)
   refine ldd hs 1 (nu32 ((w16 l i k) i)) isAgg109 sizeOf109 rfl rfl rfl rfl (tab_get (j := i) (show i < 64 by omega)) fun ac hs => ?_
   refine bnn hs (nu32 (pre4 l i k * 256)) rfl rfl rfl rfl (bin_shlZ (y := 8) (by rw [w16_at]) (by decide) (show pre4 l i k * 256 < 4294967296 by omega)) fun ac hs => ?_
   refine mvv hs rfl rfl rfl fun ac hs => ?_
   refine stp (op_convert hs none (v := .int .u32 ((byt ((l.drop (4 * i)).take (4 * i + 4 - (4 * i))) k : Nat) : Int)) rfl rfl rfl (conv_N underlying5 underlying109 (show byt ((l.drop (4 * i)).take (4 * i + 4 - (4 * i))) k < 4294967296 by first | omega | ((try simp only [List.length_drop, List.length_take, List.length_append, List.length_cons, List.length_nil]); omega))) rfl fun ac hs => ?_)
   refine bnn hs (.int .u32 ((pre4 l i k * 256 + (byt ((l.drop (4 * i)).take (4 * i + 4 - (4 * i))) k) : Nat) : Int)) rfl rfl rfl rfl (bin_orN (z := pre4 l i k * 256 + (byt ((l.drop (4 * i)).take (4 * i + 4 - (4 * i))) k)) (or_256' (byt_lt _ _)) (show pre4 l i k * 256 < 4294967296 by omega) (show byt ((l.drop (4 * i)).take (4 * i + 4 - (4 * i))) k < 4294967296 by have := byt_lt ((l.drop (4 * i)).take (4 * i + 4 - 4 * i)) k; omega) (show pre4 l i k * 256 + (byt ((l.drop (4 * i)).take (4 * i + 4 - (4 * i))) k) < 4294967296 by have := byt_lt ((l.drop (4 * i)).take (4 * i + 4 - 4 * i)) k; omega)) fun ac hs => ?_
   refine stp (op_idxA hs none (j := i) rfl rfl rfl rfl underlying124 sizeOf109 (show i < 64 by omega) (off := i) (by omega) rfl fun ac hs => ?_)
   refine stp (stoo hs 1 ([.int .u32 ((pre4 l i k * 256 + (byt ((l.drop (4 * i)).take (4 * i + 4 - (4 * i))) k) : Nat) : Int)]) sizeOf109 rfl rfl rfl rfl rfl rfl rfl rfl (tab_le (j := i) (show i < 64 by omega)) (tab_set) fun w hs => ?_)
   refine wpList_nil (blk_n (then_n ?_))
   replace hs := hs.nf w0 Z noX [0, 2, 3, 4, 12, 21, 22, 23] rfl rfl rfl rfl
   refine wp_region_lit ?_
   refine bnn hs (ni64 (k + 1)) rfl rfl rfl rfl (bin_addN (y := 1) rfl (show k + 1 < 9223372036854775808 by omega)) fun ac hs => ?_
   refine mvv hs rfl rfl rfl fun ac hs => ?_
   refine wpList_nil (then_n ?_)
   replace hs := hs.setb 1 (cs' := (tab .u32 64 (w16 l i (k + 1)))) rfl (tab_ext fun j hj => w16_step (by rw [show 4 * i + 4 - 4 * i = 4 by omega, byt_part hk4]) j)
   exact ⟨_, ⟨(k + 1), rfl, (by omega), (hs.re (fs' := [(0, true, .slice ad l.length c), (2, true, ptA g1 0), (3, true, ptA g2 0), (4, true, ni64 i), (12, true, ni64 i), (21, true, .slice (vsa ad c 1 (4 * i)) (((l.drop (4 * i)).take (4 * i + 4 - (4 * i))).length) (c - (4 * i))), (22, true, .int .i64 ((((l.drop (4 * i)).take (4 * i + 4 - (4 * i))).length : Nat) : Int)), (23, true, ni64 ((k + 1)))]) ⟨rfl, rfl, rfl, rfl, rfl, rfl, rfl, rfl, trivial⟩)⟩, (by omega)⟩
  ·skip
   have hp6 := of_decide_eq_false hc
   obtain rfl : k = 4 := by have := of_decide_eq_false hc; simp only [List.length_take, List.length_drop] at this; omega
   replace hs := hs.setb 1 (cs' := (tab .u32 64 (w16 l (i + 1) 0))) rfl (tab_ext fun j hj => w16_next hi16 j)
   refine wp_exit (then_e (then_e (blk_e (blk_n (then_n (wp_region_lit ?_))))))
   refine bnn hs (ni64 (i + 1)) rfl rfl rfl rfl (bin_addN (y := 1) rfl (show i + 1 < 9223372036854775808 by omega)) fun ac hs => ?_
   refine mvv hs rfl rfl rfl fun ac hs => ?_
   refine wpList_nil (then_n ?_)
   replace hs := hs.selS [0] rfl (by decide)
   exact ⟨_, ⟨(i + 1), rfl, (by omega), (hs.re (fs' := [(0, true, .slice ad l.length c), (2, true, ptA g1 0), (3, true, ptA g2 0), (12, true, ni64 ((i + 1)))]) ⟨rfl, rfl, rfl, rfl, trivial⟩)⟩, (by omega)⟩
 ·skip
  have hp7 := of_decide_eq_false hc
  obtain rfl : i = 16 := by have := of_decide_eq_false hc; omega
  replace hs := hs.setb 1 (cs' := (tab .u32 64 (w64 l 16))) rfl (tab_ext fun j hj => w64_16 l j)
  refine wp_exit (then_e (then_e (blk_e (then_n (wp_seq (wp_seq (wp_region_lit ?_)))))))
  refine asg hs rfl rfl rfl fun ac hs => ?_
  refine wpList_nil (then_n (wp_block ?_))
  refine wp_loop_m (fun μ ac w => ∃ (i : Nat), (64 - i) = μ ∧ (16 ≤ i) ∧ (i ≤ 64) ∧ St 82 ⟨w0, [], [(true, .cel (.slice ad l.length c) l.length (bcs l))], Z, noX⟩ [(2, true, ptA g1 0), (3, true, ptA g2 0), (7, true, ni64 i)] [(true, g1, 124, (tab .u32 64 (fun _ => 0))), (true, g2, 124, (tab .u32 64 (w64 l i)))] ac w) ?_ ?_
  ·exact ⟨_, 16, rfl, (by omega), (by omega), (hs.re (fs' := [(2, true, ptA g1 0), (3, true, ptA g2 0), (7, true, ni64 16)]) ⟨rfl, rfl, rfl, trivial⟩)⟩
  intro μ ac w ⟨i, hμ, hi1, hi, hs⟩
  refine wp_seq (wp_seq (wp_region_lit ?_))
  refine mvv hs rfl rfl rfl fun ac hs => ?_
  refine bnn hs (.bool (decide (i < 64))) rfl rfl rfl rfl (bin_lssN (y := 64)) fun ac hs => ?_
  refine wpList_nil (then_n ?_)
  refine wp_cond_split (hs.ev rfl) (fun hc => ?_) (fun hc => ?_)
  ·skip
   have hp8 := of_decide_eq_true hc
   have hi64 := of_decide_eq_true hc
   refine wp_skip (then_n (wp_seq (wp_block (wp_seq ?_))))
   replace hs := hs.nf w0 Z noX [2, 3, 7] rfl rfl rfl rfl
   have l9 := w64_lt l i (i - 15)
   have l10 := w64_lt l i (i - 2)
   refine region_inv [([], [1, 2, 3, 8, 9]), ([0], [2, 3, 8, 9]), ([0, 1], [3, 8, 9]), ([0, 1, 2], [8, 9]), ([], [5, 6, 7, 9]), ([4], [6, 7, 9]), ([4, 5], [7, 9]), ([4, 5, 6], [9]), (rgn 0 4, [9]), (rgn 0 9, [])] (fun L ac w => St 82 ⟨w0, [], [(true, .cel (.slice ad l.length c) l.length (bcs l))], Z, noX⟩ [(42, L 0, ni64 i), (43, L 1, ni64 (i - 15)), (44, L 2, .pointer (some ⟨g2, i - 15, none⟩)), (45, L 3, .int .u32 (((w64 l i) (i - 15) : Nat) : Int)), (46, L 4, ni64 i), (47, L 5, ni64 (i - 2)), (48, L 6, .pointer (some ⟨g2, i - 2, none⟩)), (49, L 7, .int .u32 (((w64 l i) (i - 2) : Nat) : Int)), (8, L 8, .int .u32 (((w64 l i) (i - 15) : Nat) : Int)), (9, L 9, .int .u32 (((w64 l i) (i - 2) : Nat) : Int)), (2, true, ptA g1 0), (3, true, ptA g2 0), (7, true, ni64 i)] [(true, g1, 124, (tab .u32 64 (fun _ => 0))), (true, g2, 124, (tab .u32 64 (w64 l i)))] ac w) (by kernel_rfl) (by kernel_rfl) ?_ ?_ ?_
   ·exact hs.drew.skip.skip.skip.skip.skip.skip.skip.skip.skip.skip
   ·refine ⟨?_, ?_, ?_, ?_, ?_, ?_, ?_, ?_, ?_, ?_, trivial⟩
    ·exact fun L ac w hs => pln (omv hs 0 rfl rfl rfl fun ac hs => hs)
    ·exact fun L ac w hs => pln (obn hs 1 (ni64 (i - 15)) rfl rfl rfl rfl (bin_subN (y := 15) (by omega) (show i - 15 < 9223372036854775808 by omega)) fun ac hs => hs)
    ·exact fun L ac w hs => pln (op_idxA hs (some 2) (j := i - 15) rfl rfl rfl rfl underlying124 sizeOf109 (show i - 15 < 64 by omega) (off := i - 15) (by omega) rfl fun ac hs => hs)
    ·exact fun L ac w hs => pln (oldd hs 3 1 (.int .u32 (((w64 l i) (i - 15) : Nat) : Int)) isAgg109 sizeOf109 rfl rfl rfl rfl (tab_get (j := i - 15) (show i - 15 < 64 by omega)) fun ac hs => hs)
    ·exact fun L ac w hs => pln (omv hs 4 rfl rfl rfl fun ac hs => hs)
    ·exact fun L ac w hs => pln (obn hs 5 (ni64 (i - 2)) rfl rfl rfl rfl (bin_subN (y := 2) (by omega) (show i - 2 < 9223372036854775808 by omega)) fun ac hs => hs)
    ·exact fun L ac w hs => pln (op_idxA hs (some 6) (j := i - 2) rfl rfl rfl rfl underlying124 sizeOf109 (show i - 2 < 64 by omega) (off := i - 2) (by omega) rfl fun ac hs => hs)
    ·exact fun L ac w hs => pln (oldd hs 7 1 (.int .u32 (((w64 l i) (i - 2) : Nat) : Int)) isAgg109 sizeOf109 rfl rfl rfl rfl (tab_get (j := i - 2) (show i - 2 < 64 by omega)) fun ac hs => hs)
    ·exact fun L ac w hs => pln (oas hs 8 rfl rfl rfl fun ac hs => hs)
    ·exact fun L ac w hs => pln (oas hs 9 rfl rfl rfl fun ac hs => hs)
   intro ac w hs
   try dsimp only [cond_true] at hs
   refine then_n (wp_seq (wp_region_lit ?_))
   refine mvv hs rfl rfl rfl fun ac hs => ?_
   obtain ⟨x11, hx11, lx11⟩ : ∃ z0, rr ((w64 l i) (i - 15)) 7 = z0 ∧ z0 < 4294967296 := ⟨_, rfl, rr_lt (show (w64 l i) (i - 15) < 4294967296 by omega)⟩
   refine stp (op_call (F := 141) hs none (v := nu32 x11) rfl rfl rfl rfl (call141 _) (rot_c ((w64 l i) (i - 15)) 7 x11 (show (w64 l i) (i - 15) < 4294967296 by omega) (by decide) (by decide) hx11) rfl fun ac w hs => ?_)
   refine mvv hs rfl rfl rfl fun ac hs => ?_
   obtain ⟨x12, hx12, lx12⟩ : ∃ z0, rr ((w64 l i) (i - 15)) 18 = z0 ∧ z0 < 4294967296 := ⟨_, rfl, rr_lt (show (w64 l i) (i - 15) < 4294967296 by omega)⟩
   refine stp (op_call (F := 141) hs none (v := nu32 x12) rfl rfl rfl rfl (call141 _) (rot_c ((w64 l i) (i - 15)) 18 x12 (show (w64 l i) (i - 15) < 4294967296 by omega) (by decide) (by decide) hx12) rfl fun ac w hs => ?_)
   obtain ⟨x13, hx13, lx13⟩ : ∃ z0, x11 ^^^ x12 = z0 ∧ z0 < 4294967296 := ⟨_, rfl, x32 (show x11 < 4294967296 by omega) (show x12 < 4294967296 by omega)⟩
   refine bnn hs (nu32 x13) rfl rfl rfl rfl (bin_xorN hx13 (show x11 < 4294967296 by omega) (show x12 < 4294967296 by omega) lx13) fun ac hs => ?_
   refine mvv hs rfl rfl rfl fun ac hs => ?_
   obtain ⟨x14, hx14, lx14⟩ : ∃ z0, ((w64 l i) (i - 15)) / 2 ^ 3 = z0 ∧ z0 < 4294967296 := ⟨_, rfl, Nat.lt_of_le_of_lt (Nat.div_le_self _ _) (show (w64 l i) (i - 15) < 4294967296 by omega)⟩
   refine bnn hs (nu32 x14) rfl rfl rfl rfl (bin_shrN (y := 3) hx14 (show (w64 l i) (i - 15) < 4294967296 by omega)) fun ac hs => ?_
   obtain ⟨x15, hx15, lx15⟩ : ∃ z0, x13 ^^^ x14 = z0 ∧ z0 < 4294967296 := ⟨_, rfl, x32 (show x13 < 4294967296 by omega) (show x14 < 4294967296 by omega)⟩
   refine bnn hs (nu32 x15) rfl rfl rfl rfl (bin_xorN hx15 (show x13 < 4294967296 by omega) (show x14 < 4294967296 by omega) lx15) fun ac hs => ?_
   refine asg hs rfl rfl rfl fun ac hs => ?_
   refine wpList_nil (then_n (wp_seq ?_))
   replace hs := hs.nf w0 Z noX [2, 3, 7, 9, 10] rfl rfl rfl rfl
   refine wp_region_lit ?_
   refine mvv hs rfl rfl rfl fun ac hs => ?_
   obtain ⟨x16, hx16, lx16⟩ : ∃ z0, rr ((w64 l i) (i - 2)) 17 = z0 ∧ z0 < 4294967296 := ⟨_, rfl, rr_lt (show (w64 l i) (i - 2) < 4294967296 by omega)⟩
   refine stp (op_call (F := 141) hs none (v := nu32 x16) rfl rfl rfl rfl (call141 _) (rot_c ((w64 l i) (i - 2)) 17 x16 (show (w64 l i) (i - 2) < 4294967296 by omega) (by decide) (by decide) hx16) rfl fun ac w hs => ?_)
   refine mvv hs rfl rfl rfl fun ac hs => ?_
   obtain ⟨x17, hx17, lx17⟩ : ∃ z0, rr ((w64 l i) (i - 2)) 19 = z0 ∧ z0 < 4294967296 := ⟨_, rfl, rr_lt (show (w64 l i) (i - 2) < 4294967296 by omega)⟩
   refine stp (op_call (F := 141) hs none (v := nu32 x17) rfl rfl rfl rfl (call141 _) (rot_c ((w64 l i) (i - 2)) 19 x17 (show (w64 l i) (i - 2) < 4294967296 by omega) (by decide) (by decide) hx17) rfl fun ac w hs => ?_)
   obtain ⟨x18, hx18, lx18⟩ : ∃ z0, x16 ^^^ x17 = z0 ∧ z0 < 4294967296 := ⟨_, rfl, x32 (show x16 < 4294967296 by omega) (show x17 < 4294967296 by omega)⟩
   refine bnn hs (nu32 x18) rfl rfl rfl rfl (bin_xorN hx18 (show x16 < 4294967296 by omega) (show x17 < 4294967296 by omega) lx18) fun ac hs => ?_
   refine mvv hs rfl rfl rfl fun ac hs => ?_
   obtain ⟨x19, hx19, lx19⟩ : ∃ z0, ((w64 l i) (i - 2)) / 2 ^ 10 = z0 ∧ z0 < 4294967296 := ⟨_, rfl, Nat.lt_of_le_of_lt (Nat.div_le_self _ _) (show (w64 l i) (i - 2) < 4294967296 by omega)⟩
   refine bnn hs (nu32 x19) rfl rfl rfl rfl (bin_shrN (y := 10) hx19 (show (w64 l i) (i - 2) < 4294967296 by omega)) fun ac hs => ?_
   obtain ⟨x20, hx20, lx20⟩ : ∃ z0, x18 ^^^ x19 = z0 ∧ z0 < 4294967296 := ⟨_, rfl, x32 (show x18 < 4294967296 by omega) (show x19 < 4294967296 by omega)⟩
   refine bnn hs (nu32 x20) rfl rfl rfl rfl (bin_xorN hx20 (show x18 < 4294967296 by omega) (show x19 < 4294967296 by omega) lx20) fun ac hs => ?_
   refine asg hs rfl rfl rfl fun ac hs => ?_
   refine wpList_nil (then_n ?_)
   replace hs := hs.nf w0 Z noX [2, 3, 7, 10, 11] rfl rfl rfl rfl
   have l21 := w64_lt l i (i - 16)
   obtain ⟨x22, hx22, lx22⟩ : ∃ z0, ((w64 l i) (i - 16) + x15) % 4294967296 = z0 ∧ z0 < 4294967296 := ⟨_, rfl, m32 _⟩
   have l23 := w64_lt l i (i - 7)
   obtain ⟨x24, hx24, lx24⟩ : ∃ z0, (x22 + ((w64 l i) (i - 7))) % 4294967296 = z0 ∧ z0 < 4294967296 := ⟨_, rfl, m32 _⟩
   obtain ⟨x25, hx25, lx25⟩ : ∃ z0, (x24 + x20) % 4294967296 = z0 ∧ z0 < 4294967296 := ⟨_, rfl, m32 _⟩
   refine region_inv [([], [14, 15]), ([], [2, 3, 4, 6, 11, 13, 14, 15]), ([1], [3, 4, 6, 11, 13, 14, 15]), ([1, 2], [4, 6, 11, 13, 14, 15]), ([1, 2, 3], [6, 11, 13, 14, 15]), ([], [6, 11, 13, 14, 15]), (rgn 1 5, [11, 13, 14, 15]), ([], [8, 9, 10, 11, 13, 14, 15]), ([7], [9, 10, 11, 13, 14, 15]), ([7, 8], [10, 11, 13, 14, 15]), ([7, 8, 9], [11, 13, 14, 15]), (rgn 1 10, [13, 14, 15]), ([], [13, 14, 15]), (rgn 1 12, [14, 15]), (rgn 0 14, [15]), (rgn 0 15, [])] (fun L ac w => St 82 ⟨w0, [], [(true, .cel (.slice ad l.length c) l.length (bcs l))], Z, noX⟩ [(66, L 0, ni64 i), (67, L 1, ni64 i), (68, L 2, ni64 (i - 16)), (69, L 3, .pointer (some ⟨g2, i - 16, none⟩)), (70, L 4, .int .u32 (((w64 l i) (i - 16) : Nat) : Int)), (71, L 5, nu32 x15), (72, L 6, nu32 x22), (73, L 7, ni64 i), (74, L 8, ni64 (i - 7)), (75, L 9, .pointer (some ⟨g2, i - 7, none⟩)), (76, L 10, .int .u32 (((w64 l i) (i - 7) : Nat) : Int)), (77, L 11, nu32 x24), (78, L 12, nu32 x20), (79, L 13, nu32 x25), (80, L 14, .pointer (some ⟨g2, i, none⟩)), (2, true, ptA g1 0), (3, true, ptA g2 0), (7, true, ni64 i), (10, true, nu32 x15), (11, true, nu32 x20)] [(true, g1, 124, (tab .u32 64 (fun _ => 0))), (true, g2, 124, (cond (L 15) (tab .u32 64 (upn (w64 l i) i x25)) (tab .u32 64 (w64 l i))))] ac w) (by kernel_rfl) (by kernel_rfl) ?_ ?_ ?_
   ·exact hs.drew.skip.skip.skip.skip.skip.skip.skip.skip.skip.skip.skip.skip.skip.skip.skip
   ·refine ⟨?_, ?_, ?_, ?_, ?_, ?_, ?_, ?_, ?_, ?_, ?_, ?_, ?_, ?_, ?_, ?_, trivial⟩
    ·exact fun L ac w hs => pln (omv hs 0 rfl rfl rfl fun ac hs => hs)
    ·exact fun L ac w hs => pln (omv hs 1 rfl rfl rfl fun ac hs => hs)
    ·exact fun L ac w hs => pln (obn hs 2 (ni64 (i - 16)) rfl rfl rfl rfl (bin_subN (y := 16) (by omega) (show i - 16 < 9223372036854775808 by omega)) fun ac hs => hs)
    ·exact fun L ac w hs => pln (op_idxA hs (some 3) (j := i - 16) rfl rfl rfl rfl underlying124 sizeOf109 (show i - 16 < 64 by omega) (off := i - 16) (by omega) rfl fun ac hs => hs)
    ·exact fun L ac w hs => pln (oldd hs 4 1 (.int .u32 (((w64 l i) (i - 16) : Nat) : Int)) isAgg109 sizeOf109 rfl rfl rfl rfl (tab_get (j := i - 16) (show i - 16 < 64 by omega)) fun ac hs => hs)
    ·exact fun L ac w hs => pln (omv hs 5 rfl rfl rfl fun ac hs => hs)
    ·exact fun L ac w hs => pln (obn hs 6 (nu32 x22) rfl rfl rfl rfl (bin_addM rfl hx22) fun ac hs => hs)
    ·exact fun L ac w hs => pln (omv hs 7 rfl rfl rfl fun ac hs => hs)
    ·exact fun L ac w hs => pln (obn hs 8 (ni64 (i - 7)) rfl rfl rfl rfl (bin_subN (y := 7) (by omega) (show i - 7 < 9223372036854775808 by omega)) fun ac hs => hs)
    ·exact fun L ac w hs => pln (op_idxA hs (some 9) (j := i - 7) rfl rfl rfl rfl underlying124 sizeOf109 (show i - 7 < 64 by omega) (off := i - 7) (by omega) rfl fun ac hs => hs)
    ·exact fun L ac w hs => pln (oldd hs 10 1 (.int .u32 (((w64 l i) (i - 7) : Nat) : Int)) isAgg109 sizeOf109 rfl rfl rfl rfl (tab_get (j := i - 7) (show i - 7 < 64 by omega)) fun ac hs => hs)
    ·exact fun L ac w hs => pln (obn hs 11 (nu32 x24) rfl rfl rfl rfl (bin_addM rfl hx24) fun ac hs => hs)
    ·exact fun L ac w hs => pln (omv hs 12 rfl rfl rfl fun ac hs => hs)
    ·exact fun L ac w hs => pln (obn hs 13 (nu32 x25) rfl rfl rfl rfl (bin_addM rfl hx25) fun ac hs => hs)
    ·exact fun L ac w hs => pln (op_idxA hs (some 14) (j := i) rfl rfl rfl rfl underlying124 sizeOf109 (show i < 64 by omega) (off := i) (by omega) rfl fun ac hs => hs)
    ·exact fun L ac w hs => pln (stoo hs 1 ([nu32 x25]) sizeOf109 rfl rfl rfl rfl rfl rfl rfl rfl (tab_le (j := i) (show i < 64 by omega)) (tab_set) fun w hs => hs)
   intro ac w hs
   try dsimp only [cond_true] at hs
   refine blk_n (then_n (wp_region_lit ?_))
   refine mvv hs rfl rfl rfl fun ac hs => ?_
   refine bnn hs (ni64 (i + 1)) rfl rfl rfl rfl (bin_addN (y := 1) rfl (show i + 1 < 9223372036854775808 by omega)) fun ac hs => ?_
   refine asg hs rfl rfl rfl fun ac hs => ?_
   refine wpList_nil (then_n ?_)
   have hz : x25 = wv l i := by rw [wv_hi (by omega), w64_at (i := i) (j := i - 16) (by omega), w64_at (i := i) (j := i - 15) (by omega), w64_at (i := i) (j := i - 7) (by omega), w64_at (i := i) (j := i - 2) (by omega)]; simp only [ss0, ss1, hx11, hx12, hx13, hx14, hx15, hx16, hx17, hx18, hx19, hx20, hx22, hx24, hx25]
   replace hs := hs.setb 1 (cs' := (tab .u32 64 (w64 l (i + 1)))) rfl (tab_ext fun j hj => w64_step hz j)
   exact ⟨_, ⟨(i + 1), rfl, (by omega), (by omega), (hs.re (fs' := [(2, true, ptA g1 0), (3, true, ptA g2 0), (7, true, ni64 ((i + 1)))]) ⟨rfl, rfl, rfl, trivial⟩)⟩, (by omega)⟩
  ·skip
   have hp26 := of_decide_eq_false hc
   obtain rfl : i = 64 := by have := of_decide_eq_false hc; omega
   replace hs := hs.setb 1 (cs' := (tab .u32 64 (wv l))) rfl (tab_ext fun j hj => w64_end hj)
   refine wp_exit (then_e (then_e (blk_e (then_n (wp_seq (wp_region_lit ?_))))))
   refine ldd hs 1 (At .u32 64 (wv l)) isAgg124 sizeOf124 rfl rfl rfl rfl ldv_tab fun ac hs => ?_
   refine stp (stoo hs 0 ((tab .u32 64 (wv l))) sizeOf124 rfl rfl rfl rfl rfl (by kernel_rfl) tab_length' (tab_one _ _ _) tab_leA wr_tab fun w hs => ?_)
   refine wpList_nil (then_n (wp_ret ?_))
   exact bodyPost_ret (res1 rfl (rv_c hs 0 (v := At .u32 64 (wv l)) rfl rfl isAgg124 sizeOf124 ldv_tab)) hs.defers ⟨(), rfl, hs.bel rfl, okl0⟩
theorem take_c (gs : Nat) (T : TypeId) (h : Nat → Nat) (sp : List Value) (hh : ∀ j, h j < 4294967296) (ad : Option Addr) (c : Nat) (l : List UInt8) (h64 : l.length = 64) (w0 : World) (Z X : Nat → Prop) (hm : Mem ⟨w0, [], [(true, .cel (.slice ad l.length c) l.length (bcs l))], Z, X⟩ [(true, gs, T, (tab .u32 8 h ++ sp))] w0) : Calls prog 130 #[ptA gs 0, .slice ad l.length c] w0 fun e w' => PostX w0 Z X (ρ := Unit) (fun r => .tuple #[]) (fun r => [(true, gs, T, tab .u32 8 (blk h l) ++ sp)]) (fun r => [(true, .cel (.slice ad l.length c) l.length (bcs l))]) e w' := by
 refine enterX (n := 116) (args := [ptA gs 0, .slice ad l.length c]) func130 rfl rfl (Nat.le_of_ble_eq_true rfl) hm fun ac hs => ?_
 refine wp_seq (wp_region_lit ?_)
 refine mvv hs rfl rfl rfl fun ac hs => ?_
 refine stp (op_callS (F := 139) (ρ := Unit) hs none none (v := fun r => At .u32 64 (wv l)) (E := fun r => []) (j := 0) rfl rfl rfl rfl (call139 _) (fun hs => spread_c ad l.length c l (show l.length = 64 by omega) _ _ (hs.all (k := 0) rfl rfl)) (fun _ => rfl) rfl rfl fun _ ac w hs => ?_)
 refine stp (op_call (F := 140) hs none (v := At .u32 64 KK) rfl rfl rfl rfl (call140 _) steps_c rfl fun ac w hs => ?_)
 refine stp (op_alloc hs none none (cs := (tab .u32 64 (fun _ => 0))) rfl rfl zeroValue124 (by kernel_rfl) rfl rfl fun g1 ac w hs => ?_)
 refine stp (op_alloc hs none none (cs := (tab .u32 64 (fun _ => 0))) rfl rfl zeroValue124 (by kernel_rfl) rfl rfl fun g2 ac w hs => ?_)
 refine stp (stoo hs 1 ((tab .u32 64 (wv l))) sizeOf124 rfl rfl rfl rfl rfl (by kernel_rfl) tab_length' (tab_one _ _ _) tab_leA wr_tab fun w hs => ?_)
 refine stp (stoo hs 2 ((tab .u32 64 KK)) sizeOf124 rfl rfl rfl rfl rfl (by kernel_rfl) tab_length' (tab_one _ _ _) tab_leA wr_tab fun w hs => ?_)
 refine wpList_nil (then_n (wp_seq ?_))
 replace hs := hs.nf w0 Z X [0, 4, 5] rfl rfl rfl rfl
 refine wp_region_lit ?_
 refine mvv hs rfl rfl rfl fun ac hs => ?_
 refine stp (op_nilCheck hs none rfl rfl rfl rfl fun ac hs => ?_)
 refine ldd hs 0 (At .u32 8 h) isAgg111 sizeOf111 rfl rfl rfl rfl ldv_tabs fun ac hs => ?_
 refine stp (op_alloc hs none none (cs := (tab .u32 8 (fun _ => 0))) rfl rfl zeroValue111 (by kernel_rfl) rfl rfl fun g3 ac w hs => ?_)
 refine stp (stoo hs 3 ((tab .u32 8 h)) sizeOf111 rfl rfl rfl rfl rfl (by kernel_rfl) tab_length' (tab_one _ _ _) tab_leA wr_tab fun w hs => ?_)
 refine wpList_nil (then_n (wp_seq (wp_seq (wp_region_lit ?_))))
 refine mvv hs rfl rfl rfl fun ac hs => ?_
 refine wpList_nil (then_n (wp_block ?_))
 replace hs := hs.setb 3 (cs' := (tab .u32 8 (rnds (wv l) h 0))) rfl rfl
 refine wp_loop_m (fun μ ac w => ∃ (i : Nat), (64 - i) = μ ∧ (i ≤ 64) ∧ St 116 ⟨w0, [], [(true, .cel (.slice ad l.length c) l.length (bcs l))], Z, X⟩ [(0, true, ptA gs 0), (4, true, ptA g1 0), (5, true, ptA g2 0), (6, true, ptA g3 0), (19, true, ni64 i)] [(true, gs, T, (tab .u32 8 h ++ sp)), (true, g1, 124, (tab .u32 64 (wv l))), (true, g2, 124, (tab .u32 64 KK)), (true, g3, 111, (tab .u32 8 (rnds (wv l) h i)))] ac w) ?_ ?_
 ·exact ⟨_, 0, rfl, (by omega), (hs.re (fs' := [(0, true, ptA gs 0), (4, true, ptA g1 0), (5, true, ptA g2 0), (6, true, ptA g3 0), (19, true, ni64 0)]) ⟨rfl, rfl, rfl, rfl, rfl, trivial⟩)⟩
 intro μ ac w ⟨i, hμ, hi, hs⟩
 refine wp_seq (wp_region_lit ?_)
 refine bnn hs (.bool (decide (i < 64))) rfl rfl rfl rfl (bin_lssN (y := 64)) fun ac hs => ?_
 refine wpList_nil (then_n (wp_seq ?_))
 refine wp_cond_split (hs.ev rfl) (fun hc => ?_) (fun hc => ?_)
 ·skip
  have hp4 := of_decide_eq_true hc
  have hi64 := of_decide_eq_true hc
  refine wp_skip (then_n (wp_seq (wp_block (wp_seq (wp_region_lit ?_)))))
  refine mvv hs rfl rfl rfl fun ac hs => ?_
  refine asg hs rfl rfl rfl fun ac hs => ?_
  refine wpList_nil (then_n (wp_seq (wp_region_lit ?_)))
  refine stp (op_idxA hs none (j := 4) rfl rfl rfl rfl underlying111 sizeOf109 (by decide) (off := 4) rfl rfl fun ac hs => ?_)
  have l5 := rnds_lt (w := wv l) (h := h) hh i 4
  refine ldd hs 3 (nu32 ((rnds (wv l) h i) 4)) isAgg109 sizeOf109 rfl rfl rfl rfl (tab_get (j := 4) (by decide)) fun ac hs => ?_
  refine asg hs rfl rfl rfl fun ac hs => ?_
  refine wpList_nil (then_n (wp_seq ?_))
  replace hs := hs.nf w0 Z X [0, 4, 5, 6, 19, 7, 8] rfl rfl rfl rfl
  have l6 := rnds_lt (w := wv l) (h := h) hh i 7
  obtain ⟨x7, hx7, lx7⟩ : ∃ z0, rr ((rnds (wv l) h i) 4) 6 = z0 ∧ z0 < 4294967296 := ⟨_, rfl, rr_lt (show (rnds (wv l) h i) 4 < 4294967296 by omega)⟩
  obtain ⟨x8, hx8, lx8⟩ : ∃ z0, rr ((rnds (wv l) h i) 4) 11 = z0 ∧ z0 < 4294967296 := ⟨_, rfl, rr_lt (show (rnds (wv l) h i) 4 < 4294967296 by omega)⟩
  obtain ⟨x9, hx9, lx9⟩ : ∃ z0, x7 ^^^ x8 = z0 ∧ z0 < 4294967296 := ⟨_, rfl, x32 (show x7 < 4294967296 by omega) (show x8 < 4294967296 by omega)⟩
  obtain ⟨x10, hx10, lx10⟩ : ∃ z0, rr ((rnds (wv l) h i) 4) 25 = z0 ∧ z0 < 4294967296 := ⟨_, rfl, rr_lt (show (rnds (wv l) h i) 4 < 4294967296 by omega)⟩
  obtain ⟨x11, hx11, lx11⟩ : ∃ z0, x9 ^^^ x10 = z0 ∧ z0 < 4294967296 := ⟨_, rfl, x32 (show x9 < 4294967296 by omega) (show x10 < 4294967296 by omega)⟩
  obtain ⟨x12, hx12, lx12⟩ : ∃ z0, ((rnds (wv l) h i) 7 + x11) % 4294967296 = z0 ∧ z0 < 4294967296 := ⟨_, rfl, m32 _⟩
  have l13 := rnds_lt (w := wv l) (h := h) hh i 5
  obtain ⟨x14, hx14, lx14⟩ : ∃ z0, ((rnds (wv l) h i) 4) &&& ((rnds (wv l) h i) 5) = z0 ∧ z0 < 4294967296 := ⟨_, rfl, a32 (show (rnds (wv l) h i) 5 < 4294967296 by omega)⟩
  obtain ⟨x15, hx15, lx15⟩ : ∃ z0, 4294967295 - ((rnds (wv l) h i) 4) = z0 ∧ z0 < 4294967296 := ⟨_, rfl, by omega⟩
  have l16 := rnds_lt (w := wv l) (h := h) hh i 6
  obtain ⟨x17, hx17, lx17⟩ : ∃ z0, x15 &&& ((rnds (wv l) h i) 6) = z0 ∧ z0 < 4294967296 := ⟨_, rfl, a32 (show (rnds (wv l) h i) 6 < 4294967296 by omega)⟩
  obtain ⟨x18, hx18, lx18⟩ : ∃ z0, x14 ^^^ x17 = z0 ∧ z0 < 4294967296 := ⟨_, rfl, x32 (show x14 < 4294967296 by omega) (show x17 < 4294967296 by omega)⟩
  obtain ⟨x19, hx19, lx19⟩ : ∃ z0, (x12 + x18) % 4294967296 = z0 ∧ z0 < 4294967296 := ⟨_, rfl, m32 _⟩
  have l20 := KK_lt i
  obtain ⟨x21, hx21, lx21⟩ : ∃ z0, (x19 + (KK i)) % 4294967296 = z0 ∧ z0 < 4294967296 := ⟨_, rfl, m32 _⟩
  have l22 := wv_lt l i
  obtain ⟨x23, hx23, lx23⟩ : ∃ z0, (x21 + ((wv l) i)) % 4294967296 = z0 ∧ z0 < 4294967296 := ⟨_, rfl, m32 _⟩
  refine region_inv [([], [1, 10, 21, 25, 29, 30]), ([0], [10, 21, 25, 29, 30]), ([], [3, 5, 6, 8, 9, 10, 21, 25, 29, 30]), ([2], [5, 6, 8, 9, 10, 21, 25, 29, 30]), ([], [5, 6, 8, 9, 10, 21, 25, 29, 30]), ([2, 3, 4], [6, 8, 9, 10, 21, 25, 29, 30]), (rgn 2 4, [9, 10, 21, 25, 29, 30]), ([], [8, 9, 10, 21, 25, 29, 30]), ([2, 3, 4, 5, 7], [9, 10, 21, 25, 29, 30]), (rgn 2 7, [10, 21, 25, 29, 30]), (rgn 0 10, [21, 25, 29, 30]), ([], [14, 20, 21, 25, 29, 30]), ([], [13, 14, 20, 21, 25, 29, 30]), ([12], [14, 20, 21, 25, 29, 30]), ([11, 12, 13], [20, 21, 25, 29, 30]), ([], [16, 19, 20, 21, 25, 29, 30]), ([15], [19, 20, 21, 25, 29, 30]), ([], [18, 19, 20, 21, 25, 29, 30]), ([17], [19, 20, 21, 25, 29, 30]), (rgn 15 4, [20, 21, 25, 29, 30]), (rgn 11 9, [21, 25, 29, 30]), (rgn 0 21, [25, 29, 30]), ([], [23, 24, 25, 29, 30]), ([22], [24, 25, 29, 30]), ([22, 23], [25, 29, 30]), (rgn 0 25, [29, 30]), ([], rgn 27 4), ([26], [28, 29, 30]), ([26, 27], [29, 30]), (rgn 0 29, [30]), (rgn 0 30, [])] (fun L ac w => St 116 ⟨w0, [], [(true, .cel (.slice ad l.length c) l.length (bcs l))], Z, X⟩ [(24, L 0, ptA g3 7), (25, L 1, nu32 ((rnds (wv l) h i) 7)), (26, L 2, nu32 ((rnds (wv l) h i) 4)), (27, L 3, nu32 x7), (28, L 4, nu32 ((rnds (wv l) h i) 4)), (29, L 5, nu32 x8), (30, L 6, nu32 x9), (31, L 7, nu32 ((rnds (wv l) h i) 4)), (32, L 8, nu32 x10), (33, L 9, nu32 x11), (34, L 10, nu32 x12), (35, L 11, nu32 ((rnds (wv l) h i) 4)), (36, L 12, ptA g3 5), (37, L 13, nu32 ((rnds (wv l) h i) 5)), (38, L 14, nu32 x14), (39, L 15, nu32 ((rnds (wv l) h i) 4)), (40, L 16, nu32 x15), (41, L 17, ptA g3 6), (42, L 18, nu32 ((rnds (wv l) h i) 6)), (43, L 19, nu32 x17), (44, L 20, nu32 x18), (45, L 21, nu32 x19), (46, L 22, ni64 i), (47, L 23, .pointer (some ⟨g2, i, none⟩)), (48, L 24, nu32 (KK i)), (49, L 25, nu32 x21), (50, L 26, ni64 i), (51, L 27, .pointer (some ⟨g1, i, none⟩)), (52, L 28, nu32 ((wv l) i)), (53, L 29, nu32 x23), (9, L 30, nu32 x23), (0, true, ptA gs 0), (4, true, ptA g1 0), (5, true, ptA g2 0), (6, true, ptA g3 0), (19, true, ni64 i), (7, true, ni64 i), (8, true, nu32 ((rnds (wv l) h i) 4))] [(true, gs, T, (tab .u32 8 h ++ sp)), (true, g1, 124, (tab .u32 64 (wv l))), (true, g2, 124, (tab .u32 64 KK)), (true, g3, 111, (tab .u32 8 (rnds (wv l) h i)))] ac w) (by kernel_rfl) (by kernel_rfl) ?_ ?_ ?_
  ·exact hs.drew.skip.skip.skip.skip.skip.skip.skip.skip.skip.skip.skip.skip.skip.skip.skip.skip.skip.skip.skip.skip.skip.skip.skip.skip.skip.skip.skip.skip.skip.skip.skip
  ·refine ⟨?_, ?_, ?_, ?_, ?_, ?_, ?_, ?_, ?_, ?_, ?_, ?_, ?_, ?_, ?_, ?_, ?_, ?_, ?_, ?_, ?_, ?_, ?_, ?_, ?_, ?_, ?_, ?_, ?_, ?_, ?_, trivial⟩
   ·exact fun L ac w hs => pln (op_idxA hs (some 0) (j := 7) rfl rfl rfl rfl underlying111 sizeOf109 (by decide) (off := 7) rfl rfl fun ac hs => hs)
   ·exact fun L ac w hs => pln (oldd hs 1 3 (nu32 ((rnds (wv l) h i) 7)) isAgg109 sizeOf109 rfl rfl rfl rfl (tab_get (j := 7) (by decide)) fun ac hs => hs)
   ·exact fun L ac w hs => pln (omv hs 2 rfl rfl rfl fun ac hs => hs)
   ·exact fun L ac w hs => pln (op_call (F := 141) hs (some 3) (v := nu32 x7) rfl rfl rfl rfl (call141 _) (rot_c ((rnds (wv l) h i) 4) 6 x7 (show (rnds (wv l) h i) 4 < 4294967296 by omega) (by decide) (by decide) hx7) rfl fun ac w hs => hs)
   ·exact fun L ac w hs => pln (omv hs 4 rfl rfl rfl fun ac hs => hs)
   ·exact fun L ac w hs => pln (op_call (F := 141) hs (some 5) (v := nu32 x8) rfl rfl rfl rfl (call141 _) (rot_c ((rnds (wv l) h i) 4) 11 x8 (show (rnds (wv l) h i) 4 < 4294967296 by omega) (by decide) (by decide) hx8) rfl fun ac w hs => hs)
   ·exact fun L ac w hs => pln (obn hs 6 (nu32 x9) rfl rfl rfl rfl (bin_xorN hx9 (show x7 < 4294967296 by omega) (show x8 < 4294967296 by omega) lx9) fun ac hs => hs)
   ·exact fun L ac w hs => pln (omv hs 7 rfl rfl rfl fun ac hs => hs)
   ·exact fun L ac w hs => pln (op_call (F := 141) hs (some 8) (v := nu32 x10) rfl rfl rfl rfl (call141 _) (rot_c ((rnds (wv l) h i) 4) 25 x10 (show (rnds (wv l) h i) 4 < 4294967296 by omega) (by decide) (by decide) hx10) rfl fun ac w hs => hs)
   ·exact fun L ac w hs => pln (obn hs 9 (nu32 x11) rfl rfl rfl rfl (bin_xorN hx11 (show x9 < 4294967296 by omega) (show x10 < 4294967296 by omega) lx11) fun ac hs => hs)
   ·exact fun L ac w hs => pln (obn hs 10 (nu32 x12) rfl rfl rfl rfl (bin_addM rfl hx12) fun ac hs => hs)
   ·exact fun L ac w hs => pln (omv hs 11 rfl rfl rfl fun ac hs => hs)
   ·exact fun L ac w hs => pln (op_idxA hs (some 12) (j := 5) rfl rfl rfl rfl underlying111 sizeOf109 (by decide) (off := 5) rfl rfl fun ac hs => hs)
   ·exact fun L ac w hs => pln (oldd hs 13 3 (nu32 ((rnds (wv l) h i) 5)) isAgg109 sizeOf109 rfl rfl rfl rfl (tab_get (j := 5) (by decide)) fun ac hs => hs)
   ·exact fun L ac w hs => pln (obn hs 14 (nu32 x14) rfl rfl rfl rfl (bin_andN hx14 (show (rnds (wv l) h i) 4 < 4294967296 by omega) (show (rnds (wv l) h i) 5 < 4294967296 by omega) lx14) fun ac hs => hs)
   ·exact fun L ac w hs => pln (omv hs 15 rfl rfl rfl fun ac hs => hs)
   ·exact fun L ac w hs => pln (op_un hs (some 16) (v := nu32 x15) rfl rfl rfl (fun w => hx15 ▸ un_not32 (by omega) w) rfl fun ac hs => hs)
   ·exact fun L ac w hs => pln (op_idxA hs (some 17) (j := 6) rfl rfl rfl rfl underlying111 sizeOf109 (by decide) (off := 6) rfl rfl fun ac hs => hs)
   ·exact fun L ac w hs => pln (oldd hs 18 3 (nu32 ((rnds (wv l) h i) 6)) isAgg109 sizeOf109 rfl rfl rfl rfl (tab_get (j := 6) (by decide)) fun ac hs => hs)
   ·exact fun L ac w hs => pln (obn hs 19 (nu32 x17) rfl rfl rfl rfl (bin_andN hx17 (show x15 < 4294967296 by omega) (show (rnds (wv l) h i) 6 < 4294967296 by omega) lx17) fun ac hs => hs)
   ·exact fun L ac w hs => pln (obn hs 20 (nu32 x18) rfl rfl rfl rfl (bin_xorN hx18 (show x14 < 4294967296 by omega) (show x17 < 4294967296 by omega) lx18) fun ac hs => hs)
   ·exact fun L ac w hs => pln (obn hs 21 (nu32 x19) rfl rfl rfl rfl (bin_addM rfl hx19) fun ac hs => hs)
   ·exact fun L ac w hs => pln (omv hs 22 rfl rfl rfl fun ac hs => hs)
   ·exact fun L ac w hs => pln (op_idxA hs (some 23) (j := i) rfl rfl rfl rfl underlying124 sizeOf109 (show i < 64 by omega) (off := i) (by omega) rfl fun ac hs => hs)
   ·exact fun L ac w hs => pln (oldd hs 24 2 (nu32 (KK i)) isAgg109 sizeOf109 rfl rfl rfl rfl (tab_get (j := i) (show i < 64 by omega)) fun ac hs => hs)
   ·exact fun L ac w hs => pln (obn hs 25 (nu32 x21) rfl rfl rfl rfl (bin_addM rfl hx21) fun ac hs => hs)
   ·exact fun L ac w hs => pln (omv hs 26 rfl rfl rfl fun ac hs => hs)
   ·exact fun L ac w hs => pln (op_idxA hs (some 27) (j := i) rfl rfl rfl rfl underlying124 sizeOf109 (show i < 64 by omega) (off := i) (by omega) rfl fun ac hs => hs)
   ·exact fun L ac w hs => pln (oldd hs 28 1 (nu32 ((wv l) i)) isAgg109 sizeOf109 rfl rfl rfl rfl (tab_get (j := i) (show i < 64 by omega)) fun ac hs => hs)
   ·exact fun L ac w hs => pln (obn hs 29 (nu32 x23) rfl rfl rfl rfl (bin_addM rfl hx23) fun ac hs => hs)
   ·exact fun L ac w hs => pln (oas hs 30 rfl rfl rfl fun ac hs => hs)
  intro ac w hs
  try dsimp only [cond_true] at hs
  refine then_n (wp_seq (wp_region_lit ?_))
  refine stp (op_idxA hs none (j := 0) rfl rfl rfl rfl underlying111 sizeOf109 (by decide) (off := 0) rfl rfl fun ac hs => ?_)
  have l24 := rnds_lt (w := wv l) (h := h) hh i 0
  refine ldd hs 3 (nu32 ((rnds (wv l) h i) 0)) isAgg109 sizeOf109 rfl rfl rfl rfl (tab_get (j := 0) (by decide)) fun ac hs => ?_
  refine asg hs rfl rfl rfl fun ac hs => ?_
  refine wpList_nil (then_n (wp_seq ?_))
  replace hs := hs.nf w0 Z X [0, 4, 5, 6, 19, 9, 10] rfl rfl rfl rfl
  obtain ⟨x25, hx25, lx25⟩ : ∃ z0, rr ((rnds (wv l) h i) 0) 2 = z0 ∧ z0 < 4294967296 := ⟨_, rfl, rr_lt (show (rnds (wv l) h i) 0 < 4294967296 by omega)⟩
  obtain ⟨x26, hx26, lx26⟩ : ∃ z0, rr ((rnds (wv l) h i) 0) 13 = z0 ∧ z0 < 4294967296 := ⟨_, rfl, rr_lt (show (rnds (wv l) h i) 0 < 4294967296 by omega)⟩
  obtain ⟨x27, hx27, lx27⟩ : ∃ z0, x25 ^^^ x26 = z0 ∧ z0 < 4294967296 := ⟨_, rfl, x32 (show x25 < 4294967296 by omega) (show x26 < 4294967296 by omega)⟩
  obtain ⟨x28, hx28, lx28⟩ : ∃ z0, rr ((rnds (wv l) h i) 0) 22 = z0 ∧ z0 < 4294967296 := ⟨_, rfl, rr_lt (show (rnds (wv l) h i) 0 < 4294967296 by omega)⟩
  obtain ⟨x29, hx29, lx29⟩ : ∃ z0, x27 ^^^ x28 = z0 ∧ z0 < 4294967296 := ⟨_, rfl, x32 (show x27 < 4294967296 by omega) (show x28 < 4294967296 by omega)⟩
  have l30 := rnds_lt (w := wv l) (h := h) hh i 1
  obtain ⟨x31, hx31, lx31⟩ : ∃ z0, ((rnds (wv l) h i) 0) &&& ((rnds (wv l) h i) 1) = z0 ∧ z0 < 4294967296 := ⟨_, rfl, a32 (show (rnds (wv l) h i) 1 < 4294967296 by omega)⟩
  have l32 := rnds_lt (w := wv l) (h := h) hh i 2
  obtain ⟨x33, hx33, lx33⟩ : ∃ z0, ((rnds (wv l) h i) 0) &&& ((rnds (wv l) h i) 2) = z0 ∧ z0 < 4294967296 := ⟨_, rfl, a32 (show (rnds (wv l) h i) 2 < 4294967296 by omega)⟩
  obtain ⟨x34, hx34, lx34⟩ : ∃ z0, x31 ^^^ x33 = z0 ∧ z0 < 4294967296 := ⟨_, rfl, x32 (show x31 < 4294967296 by omega) (show x33 < 4294967296 by omega)⟩
  have l35 := rnds_lt (w := wv l) (h := h) hh i 1
  have l36 := rnds_lt (w := wv l) (h := h) hh i 2
  obtain ⟨x37, hx37, lx37⟩ : ∃ z0, ((rnds (wv l) h i) 1) &&& ((rnds (wv l) h i) 2) = z0 ∧ z0 < 4294967296 := ⟨_, rfl, a32 (show (rnds (wv l) h i) 2 < 4294967296 by omega)⟩
  obtain ⟨x38, hx38, lx38⟩ : ∃ z0, x34 ^^^ x37 = z0 ∧ z0 < 4294967296 := ⟨_, rfl, x32 (show x34 < 4294967296 by omega) (show x37 < 4294967296 by omega)⟩
  obtain ⟨x39, hx39, lx39⟩ : ∃ z0, (x29 + x38) % 4294967296 = z0 ∧ z0 < 4294967296 := ⟨_, rfl, m32 _⟩
  refine region_inv [([], [1, 3, 4, 6, 7, 23, 24]), ([0], [3, 4, 6, 7, 23, 24]), ([], [3, 4, 6, 7, 23, 24]), ([0, 1, 2], [4, 6, 7, 23, 24]), (rgn 0 4, [7, 23, 24]), ([], [6, 7, 23, 24]), ([0, 1, 2, 3, 5], [7, 23, 24]), (rgn 0 7, [23, 24]), ([], [11, 16, 22, 23, 24]), ([], [10, 11, 16, 22, 23, 24]), ([9], [11, 16, 22, 23, 24]), ([8, 9, 10], [16, 22, 23, 24]), ([], [15, 16, 22, 23, 24]), ([], [14, 15, 16, 22, 23, 24]), ([13], [15, 16, 22, 23, 24]), ([12, 13, 14], [16, 22, 23, 24]), (rgn 8 8, [22, 23, 24]), ([], [18, 21, 22, 23, 24]), ([17], rgn 21 4), ([], rgn 20 5), ([19], rgn 21 4), (rgn 17 4, [22, 23, 24]), (rgn 8 14, [23, 24]), (rgn 0 23, [24]), (rgn 0 24, [])] (fun L ac w => St 116 ⟨w0, [], [(true, .cel (.slice ad l.length c) l.length (bcs l))], Z, X⟩ [(56, L 0, nu32 ((rnds (wv l) h i) 0)), (57, L 1, nu32 x25), (58, L 2, nu32 ((rnds (wv l) h i) 0)), (59, L 3, nu32 x26), (60, L 4, nu32 x27), (61, L 5, nu32 ((rnds (wv l) h i) 0)), (62, L 6, nu32 x28), (63, L 7, nu32 x29), (64, L 8, nu32 ((rnds (wv l) h i) 0)), (65, L 9, ptA g3 1), (66, L 10, nu32 ((rnds (wv l) h i) 1)), (67, L 11, nu32 x31), (68, L 12, nu32 ((rnds (wv l) h i) 0)), (69, L 13, ptA g3 2), (70, L 14, nu32 ((rnds (wv l) h i) 2)), (71, L 15, nu32 x33), (72, L 16, nu32 x34), (73, L 17, ptA g3 1), (74, L 18, nu32 ((rnds (wv l) h i) 1)), (75, L 19, ptA g3 2), (76, L 20, nu32 ((rnds (wv l) h i) 2)), (77, L 21, nu32 x37), (78, L 22, nu32 x38), (79, L 23, nu32 x39), (11, L 24, nu32 x39), (0, true, ptA gs 0), (4, true, ptA g1 0), (5, true, ptA g2 0), (6, true, ptA g3 0), (19, true, ni64 i), (9, true, nu32 x23), (10, true, nu32 ((rnds (wv l) h i) 0))] [(true, gs, T, (tab .u32 8 h ++ sp)), (true, g1, 124, (tab .u32 64 (wv l))), (true, g2, 124, (tab .u32 64 KK)), (true, g3, 111, (tab .u32 8 (rnds (wv l) h i)))] ac w) (by kernel_rfl) (by kernel_rfl) ?_ ?_ ?_
  ·exact hs.drew.skip.skip.skip.skip.skip.skip.skip.skip.skip.skip.skip.skip.skip.skip.skip.skip.skip.skip.skip.skip.skip.skip.skip.skip.skip
  ·refine ⟨?_, ?_, ?_, ?_, ?_, ?_, ?_, ?_, ?_, ?_, ?_, ?_, ?_, ?_, ?_, ?_, ?_, ?_, ?_, ?_, ?_, ?_, ?_, ?_, ?_, trivial⟩
   ·exact fun L ac w hs => pln (omv hs 0 rfl rfl rfl fun ac hs => hs)
   ·exact fun L ac w hs => pln (op_call (F := 141) hs (some 1) (v := nu32 x25) rfl rfl rfl rfl (call141 _) (rot_c ((rnds (wv l) h i) 0) 2 x25 (show (rnds (wv l) h i) 0 < 4294967296 by omega) (by decide) (by decide) hx25) rfl fun ac w hs => hs)
   ·exact fun L ac w hs => pln (omv hs 2 rfl rfl rfl fun ac hs => hs)
   ·exact fun L ac w hs => pln (op_call (F := 141) hs (some 3) (v := nu32 x26) rfl rfl rfl rfl (call141 _) (rot_c ((rnds (wv l) h i) 0) 13 x26 (show (rnds (wv l) h i) 0 < 4294967296 by omega) (by decide) (by decide) hx26) rfl fun ac w hs => hs)
   ·exact fun L ac w hs => pln (obn hs 4 (nu32 x27) rfl rfl rfl rfl (bin_xorN hx27 (show x25 < 4294967296 by omega) (show x26 < 4294967296 by omega) lx27) fun ac hs => hs)
   ·exact fun L ac w hs => pln (omv hs 5 rfl rfl rfl fun ac hs => hs)
   ·exact fun L ac w hs => pln (op_call (F := 141) hs (some 6) (v := nu32 x28) rfl rfl rfl rfl (call141 _) (rot_c ((rnds (wv l) h i) 0) 22 x28 (show (rnds (wv l) h i) 0 < 4294967296 by omega) (by decide) (by decide) hx28) rfl fun ac w hs => hs)
   ·exact fun L ac w hs => pln (obn hs 7 (nu32 x29) rfl rfl rfl rfl (bin_xorN hx29 (show x27 < 4294967296 by omega) (show x28 < 4294967296 by omega) lx29) fun ac hs => hs)
   ·exact fun L ac w hs => pln (omv hs 8 rfl rfl rfl fun ac hs => hs)
   ·exact fun L ac w hs => pln (op_idxA hs (some 9) (j := 1) rfl rfl rfl rfl underlying111 sizeOf109 (by decide) (off := 1) rfl rfl fun ac hs => hs)
   ·exact fun L ac w hs => pln (oldd hs 10 3 (nu32 ((rnds (wv l) h i) 1)) isAgg109 sizeOf109 rfl rfl rfl rfl (tab_get (j := 1) (by decide)) fun ac hs => hs)
   ·exact fun L ac w hs => pln (obn hs 11 (nu32 x31) rfl rfl rfl rfl (bin_andN hx31 (show (rnds (wv l) h i) 0 < 4294967296 by omega) (show (rnds (wv l) h i) 1 < 4294967296 by omega) lx31) fun ac hs => hs)
   ·exact fun L ac w hs => pln (omv hs 12 rfl rfl rfl fun ac hs => hs)
   ·exact fun L ac w hs => pln (op_idxA hs (some 13) (j := 2) rfl rfl rfl rfl underlying111 sizeOf109 (by decide) (off := 2) rfl rfl fun ac hs => hs)
   ·exact fun L ac w hs => pln (oldd hs 14 3 (nu32 ((rnds (wv l) h i) 2)) isAgg109 sizeOf109 rfl rfl rfl rfl (tab_get (j := 2) (by decide)) fun ac hs => hs)
   ·exact fun L ac w hs => pln (obn hs 15 (nu32 x33) rfl rfl rfl rfl (bin_andN hx33 (show (rnds (wv l) h i) 0 < 4294967296 by omega) (show (rnds (wv l) h i) 2 < 4294967296 by omega) lx33) fun ac hs => hs)
   ·exact fun L ac w hs => pln (obn hs 16 (nu32 x34) rfl rfl rfl rfl (bin_xorN hx34 (show x31 < 4294967296 by omega) (show x33 < 4294967296 by omega) lx34) fun ac hs => hs)
   ·exact fun L ac w hs => pln (op_idxA hs (some 17) (j := 1) rfl rfl rfl rfl underlying111 sizeOf109 (by decide) (off := 1) rfl rfl fun ac hs => hs)
   ·exact fun L ac w hs => pln (oldd hs 18 3 (nu32 ((rnds (wv l) h i) 1)) isAgg109 sizeOf109 rfl rfl rfl rfl (tab_get (j := 1) (by decide)) fun ac hs => hs)
   ·exact fun L ac w hs => pln (op_idxA hs (some 19) (j := 2) rfl rfl rfl rfl underlying111 sizeOf109 (by decide) (off := 2) rfl rfl fun ac hs => hs)
   ·exact fun L ac w hs => pln (oldd hs 20 3 (nu32 ((rnds (wv l) h i) 2)) isAgg109 sizeOf109 rfl rfl rfl rfl (tab_get (j := 2) (by decide)) fun ac hs => hs)
   ·exact fun L ac w hs => pln (obn hs 21 (nu32 x37) rfl rfl rfl rfl (bin_andN hx37 (show (rnds (wv l) h i) 1 < 4294967296 by omega) (show (rnds (wv l) h i) 2 < 4294967296 by omega) lx37) fun ac hs => hs)
   ·exact fun L ac w hs => pln (obn hs 22 (nu32 x38) rfl rfl rfl rfl (bin_xorN hx38 (show x34 < 4294967296 by omega) (show x37 < 4294967296 by omega) lx38) fun ac hs => hs)
   ·exact fun L ac w hs => pln (obn hs 23 (nu32 x39) rfl rfl rfl rfl (bin_addM rfl hx39) fun ac hs => hs)
   ·exact fun L ac w hs => pln (oas hs 24 rfl rfl rfl fun ac hs => hs)
  intro ac w hs
  try dsimp only [cond_true] at hs
  refine then_n (wp_region_lit ?_)
  refine mvv hs rfl rfl rfl fun ac hs => ?_
  refine mvv hs rfl rfl rfl fun ac hs => ?_
  obtain ⟨x40, hx40, lx40⟩ : ∃ z0, (x23 + x39) % 4294967296 = z0 ∧ z0 < 4294967296 := ⟨_, rfl, m32 _⟩
  refine bnn hs (nu32 x40) rfl rfl rfl rfl (bin_addM rfl hx40) fun ac hs => ?_
  refine stp (op_idxA hs none (j := 0) rfl rfl rfl rfl underlying111 sizeOf109 (by decide) (off := 0) rfl rfl fun ac hs => ?_)
  have l41 := rnds_lt (w := wv l) (h := h) hh i 0
  refine ldd hs 3 (nu32 ((rnds (wv l) h i) 0)) isAgg109 sizeOf109 rfl rfl rfl rfl (tab_get (j := 0) (by decide)) fun ac hs => ?_
  refine stp (op_idxA hs none (j := 1) rfl rfl rfl rfl underlying111 sizeOf109 (by decide) (off := 1) rfl rfl fun ac hs => ?_)
  have l42 := rnds_lt (w := wv l) (h := h) hh i 1
  refine ldd hs 3 (nu32 ((rnds (wv l) h i) 1)) isAgg109 sizeOf109 rfl rfl rfl rfl (tab_get (j := 1) (by decide)) fun ac hs => ?_
  refine stp (op_idxA hs none (j := 2) rfl rfl rfl rfl underlying111 sizeOf109 (by decide) (off := 2) rfl rfl fun ac hs => ?_)
  have l43 := rnds_lt (w := wv l) (h := h) hh i 2
  refine ldd hs 3 (nu32 ((rnds (wv l) h i) 2)) isAgg109 sizeOf109 rfl rfl rfl rfl (tab_get (j := 2) (by decide)) fun ac hs => ?_
  refine stp (op_idxA hs none (j := 3) rfl rfl rfl rfl underlying111 sizeOf109 (by decide) (off := 3) rfl rfl fun ac hs => ?_)
  have l44 := rnds_lt (w := wv l) (h := h) hh i 3
  refine ldd hs 3 (nu32 ((rnds (wv l) h i) 3)) isAgg109 sizeOf109 rfl rfl rfl rfl (tab_get (j := 3) (by decide)) fun ac hs => ?_
  refine mvv hs rfl rfl rfl fun ac hs => ?_
  obtain ⟨x45, hx45, lx45⟩ : ∃ z0, ((rnds (wv l) h i) 3 + x23) % 4294967296 = z0 ∧ z0 < 4294967296 := ⟨_, rfl, m32 _⟩
  refine bnn hs (nu32 x45) rfl rfl rfl rfl (bin_addM rfl hx45) fun ac hs => ?_
  refine stp (op_idxA hs none (j := 4) rfl rfl rfl rfl underlying111 sizeOf109 (by decide) (off := 4) rfl rfl fun ac hs => ?_)
  have l46 := rnds_lt (w := wv l) (h := h) hh i 4
  refine ldd hs 3 (nu32 ((rnds (wv l) h i) 4)) isAgg109 sizeOf109 rfl rfl rfl rfl (tab_get (j := 4) (by decide)) fun ac hs => ?_
  refine stp (op_idxA hs none (j := 5) rfl rfl rfl rfl underlying111 sizeOf109 (by decide) (off := 5) rfl rfl fun ac hs => ?_)
  have l47 := rnds_lt (w := wv l) (h := h) hh i 5
  refine ldd hs 3 (nu32 ((rnds (wv l) h i) 5)) isAgg109 sizeOf109 rfl rfl rfl rfl (tab_get (j := 5) (by decide)) fun ac hs => ?_
  refine stp (op_idxA hs none (j := 6) rfl rfl rfl rfl underlying111 sizeOf109 (by decide) (off := 6) rfl rfl fun ac hs => ?_)
  have l48 := rnds_lt (w := wv l) (h := h) hh i 6
  refine ldd hs 3 (nu32 ((rnds (wv l) h i) 6)) isAgg109 sizeOf109 rfl rfl rfl rfl (tab_get (j := 6) (by decide)) fun ac hs => ?_
  refine stp (op_build hs none (qs := [(0, nu32 x40), (1, nu32 ((rnds (wv l) h i) 0)), (2, nu32 ((rnds (wv l) h i) 1)), (3, nu32 ((rnds (wv l) h i) 2)), (4, nu32 x45), (5, nu32 ((rnds (wv l) h i) 4)), (6, nu32 ((rnds (wv l) h i) 5)), (7, nu32 ((rnds (wv l) h i) 6))]) (v := At .u32 8 (ft8 x40 ((rnds (wv l) h i) 0) ((rnds (wv l) h i) 1) ((rnds (wv l) h i) 2) x45 ((rnds (wv l) h i) 4) ((rnds (wv l) h i) 5) ((rnds (wv l) h i) 6))) rfl rfl rfl rfl (fun _ => by kernel_rfl) rfl fun ac hs => ?_)
  refine stp (stoo hs 3 ((tab .u32 8 (ft8 x40 ((rnds (wv l) h i) 0) ((rnds (wv l) h i) 1) ((rnds (wv l) h i) 2) x45 ((rnds (wv l) h i) 4) ((rnds (wv l) h i) 5) ((rnds (wv l) h i) 6)))) sizeOf111 rfl rfl rfl rfl rfl (by kernel_rfl) tab_length' (tab_one _ _ _) tab_leA wr_tab fun w hs => ?_)
  refine wpList_nil (blk_n (then_n ?_))
  replace hs := hs.nf w0 Z X [0, 4, 5, 6, 19] rfl rfl rfl rfl
  refine wp_region_lit ?_
  refine bnn hs (ni64 (i + 1)) rfl rfl rfl rfl (bin_addN (y := 1) rfl (show i + 1 < 9223372036854775808 by omega)) fun ac hs => ?_
  refine mvv hs rfl rfl rfl fun ac hs => ?_
  refine wpList_nil (then_n ?_)
  replace hs := hs.setb 3 (cs' := (tab .u32 8 (rnds (wv l) h (i + 1)))) rfl (congrArg (tab .u32 8) (show ft8 x40 ((rnds (wv l) h i) 0) ((rnds (wv l) h i) 1) ((rnds (wv l) h i) 2) x45 ((rnds (wv l) h i) 4) ((rnds (wv l) h i) 5) ((rnds (wv l) h i) 6) = rnd (KK i) (wv l i) (rnds (wv l) h i) by simp only [rnd, t1v, t2v, hx7, hx8, hx9, hx10, hx11, hx12, hx14, hx15, hx17, hx18, hx19, hx21, hx23, hx25, hx26, hx27, hx28, hx29, hx31, hx33, hx34, hx37, hx38, hx39, hx40, hx45]))
  exact ⟨_, ⟨(i + 1), rfl, (by omega), (hs.re (fs' := [(0, true, ptA gs 0), (4, true, ptA g1 0), (5, true, ptA g2 0), (6, true, ptA g3 0), (19, true, ni64 ((i + 1)))]) ⟨rfl, rfl, rfl, rfl, rfl, trivial⟩)⟩, (by omega)⟩
 ·skip
  have hp49 := of_decide_eq_false hc
  obtain rfl : i = 64 := by have := of_decide_eq_false hc; omega
  replace hs := hs.setb 3 (cs' := (tab .u32 8 (rnds (wv l) h 64))) rfl rfl
  refine wp_exit (then_e (then_e (blk_e (then_n (wp_seq (wp_region_lit ?_))))))
  refine mvv hs rfl rfl rfl fun ac hs => ?_
  refine wpList_nil (then_n (wp_block ?_))
  replace hs := hs.setb 0 (cs' := (tab .u32 8 (addT h (rnds (wv l) h 64) 0) ++ sp)) rfl (tabs_ext fun j hj => addT_zero _ _ j)
  refine wp_loop_m (fun μ ac w => ∃ (i : Nat), (8 - i) = μ ∧ (i ≤ 8) ∧ St 116 ⟨w0, [], [(true, .cel (.slice ad l.length c) l.length (bcs l))], Z, X⟩ [(0, true, ptA gs 0), (6, true, ptA g3 0), (101, true, ni64 i)] [(true, gs, T, (tab .u32 8 (addT h (rnds (wv l) h 64) i) ++ sp)), (true, g1, 124, (tab .u32 64 (wv l))), (true, g2, 124, (tab .u32 64 KK)), (true, g3, 111, (tab .u32 8 (rnds (wv l) h 64)))] ac w) ?_ ?_
  ·exact ⟨_, 0, rfl, (by omega), (hs.re (fs' := [(0, true, ptA gs 0), (6, true, ptA g3 0), (101, true, ni64 0)]) ⟨rfl, rfl, rfl, trivial⟩)⟩
  intro μ ac w ⟨i, hμ, hi, hs⟩
  refine wp_seq (wp_region_lit ?_)
  refine bnn hs (.bool (decide (i < 8))) rfl rfl rfl rfl (bin_lssN (y := 8)) fun ac hs => ?_
  refine wpList_nil (then_n (wp_seq ?_))
  refine wp_cond_split (hs.ev rfl) (fun hc => ?_) (fun hc => ?_)
  ·skip
   have hp50 := of_decide_eq_true hc
   have hi8 := of_decide_eq_true hc
   refine wp_skip (then_n (wp_seq (wp_block (wp_seq (wp_region_lit ?_)))))
   refine mvv hs rfl rfl rfl fun ac hs => ?_
   refine asg hs rfl rfl rfl fun ac hs => ?_
   refine wpList_nil (then_n ?_)
   replace hs := hs.nf w0 Z X [0, 6, 101, 12] rfl rfl rfl rfl
   have l51 := addT_lt (v := rnds (wv l) h 64) hh i i
   have l52 := rnds_lt (w := wv l) (h := h) hh 64 i
   obtain ⟨x53, hx53, lx53⟩ : ∃ z0, ((addT h (rnds (wv l) h 64) i) i + ((rnds (wv l) h 64) i)) % 4294967296 = z0 ∧ z0 < 4294967296 := ⟨_, rfl, m32 _⟩
   refine region_inv [([], [2, 3, 4, 8, 9, 10, 11]), ([], [3, 4, 8, 10, 11]), ([0], [3, 4, 8, 10, 11]), ([0, 1, 2], [4, 8, 10, 11]), (rgn 0 4, [8, 10, 11]), ([], [6, 7, 8, 10, 11]), ([5], [7, 8, 10, 11]), ([5, 6], [8, 10, 11]), (rgn 0 8, [10, 11]), ([0], [10, 11]), (rgn 0 10, [11]), (rgn 0 11, [])] (fun L ac w => St 116 ⟨w0, [], [(true, .cel (.slice ad l.length c) l.length (bcs l))], Z, X⟩ [(104, L 0, ptA gs 0), (105, L 1, ni64 i), (106, L 2, ptA gs 0), (107, L 3, .pointer (some ⟨gs, i, none⟩)), (108, L 4, .int .u32 (((addT h (rnds (wv l) h 64) i) i : Nat) : Int)), (109, L 5, ni64 i), (110, L 6, .pointer (some ⟨g3, i, none⟩)), (111, L 7, nu32 ((rnds (wv l) h 64) i)), (112, L 8, nu32 x53), (113, L 9, ptA gs 0), (114, L 10, .pointer (some ⟨gs, i, none⟩)), (0, true, ptA gs 0), (6, true, ptA g3 0), (101, true, ni64 i), (12, true, ni64 i)] [(true, gs, T, (cond (L 11) (tab .u32 8 (upn (addT h (rnds (wv l) h 64) i) i x53) ++ sp) (tab .u32 8 (addT h (rnds (wv l) h 64) i) ++ sp))), (true, g1, 124, (tab .u32 64 (wv l))), (true, g2, 124, (tab .u32 64 KK)), (true, g3, 111, (tab .u32 8 (rnds (wv l) h 64)))] ac w) (by kernel_rfl) (by kernel_rfl) ?_ ?_ ?_
   ·exact hs.drew.skip.skip.skip.skip.skip.skip.skip.skip.skip.skip.skip
   ·refine ⟨?_, ?_, ?_, ?_, ?_, ?_, ?_, ?_, ?_, ?_, ?_, ?_, trivial⟩
    ·exact fun L ac w hs => pln (omv hs 0 rfl rfl rfl fun ac hs => hs)
    ·exact fun L ac w hs => pln (omv hs 1 rfl rfl rfl fun ac hs => hs)
    ·exact fun L ac w hs => pln (op_nilCheck hs (some 2) rfl rfl rfl rfl fun ac hs => hs)
    ·exact fun L ac w hs => pln (op_idxA hs (some 3) (j := i) rfl rfl rfl rfl underlying111 sizeOf109 (show i < 8 by omega) (off := i) (by omega) rfl fun ac hs => hs)
    ·exact fun L ac w hs => pln (oldd hs 4 0 (.int .u32 (((addT h (rnds (wv l) h 64) i) i : Nat) : Int)) isAgg109 sizeOf109 rfl rfl rfl rfl (tabs_get (j := i) (show i < 8 by omega)) fun ac hs => hs)
    ·exact fun L ac w hs => pln (omv hs 5 rfl rfl rfl fun ac hs => hs)
    ·exact fun L ac w hs => pln (op_idxA hs (some 6) (j := i) rfl rfl rfl rfl underlying111 sizeOf109 (show i < 8 by omega) (off := i) (by omega) rfl fun ac hs => hs)
    ·exact fun L ac w hs => pln (oldd hs 7 3 (nu32 ((rnds (wv l) h 64) i)) isAgg109 sizeOf109 rfl rfl rfl rfl (tab_get (j := i) (show i < 8 by omega)) fun ac hs => hs)
    ·exact fun L ac w hs => pln (obn hs 8 (nu32 x53) rfl rfl rfl rfl (bin_addM rfl hx53) fun ac hs => hs)
    ·exact fun L ac w hs => pln (op_nilCheck hs (some 9) rfl rfl rfl rfl fun ac hs => hs)
    ·exact fun L ac w hs => pln (op_idxA hs (some 10) (j := i) rfl rfl rfl rfl underlying111 sizeOf109 (show i < 8 by omega) (off := i) (by omega) rfl fun ac hs => hs)
    ·exact fun L ac w hs => pln (stoo hs 0 ([nu32 x53]) sizeOf109 rfl rfl rfl rfl rfl rfl rfl rfl (tabs_le (j := i) (show i < 8 by omega)) (tabs_set (j := i) (show i < 8 by omega)) fun w hs => hs)
   intro ac w hs
   try dsimp only [cond_true] at hs
   refine blk_n (then_n (wp_region_lit ?_))
   refine bnn hs (ni64 (i + 1)) rfl rfl rfl rfl (bin_addN (y := 1) rfl (show i + 1 < 9223372036854775808 by omega)) fun ac hs => ?_
   refine mvv hs rfl rfl rfl fun ac hs => ?_
   refine wpList_nil (then_n ?_)
   replace hs := hs.setb 0 (cs' := (tab .u32 8 (addT h (rnds (wv l) h 64) (i + 1)) ++ sp)) rfl (tabs_ext fun j hj => addT_step (by rw [← hx53, addT_at]) j)
   exact ⟨_, ⟨(i + 1), rfl, (by omega), (hs.re (fs' := [(0, true, ptA gs 0), (6, true, ptA g3 0), (101, true, ni64 ((i + 1)))]) ⟨rfl, rfl, rfl, trivial⟩)⟩, (by omega)⟩
  ·skip
   have hp54 := of_decide_eq_false hc
   obtain rfl : i = 8 := by have := of_decide_eq_false hc; omega
   replace hs := hs.setb 0 (cs' := (tab .u32 8 (blk h l) ++ sp)) rfl (tabs_ext fun j hj => addT_end hj)
   refine wp_exit (then_e (then_e (blk_e ?_)))
   exact bodyPost_end (res0 rfl) hs.defers ⟨(), rfl, ((hs.selS [0] rfl (by decide)).selB [0] rfl (by decide)).mem⟩
theorem new_c  (w0 : World) (Z X : Nat → Prop) (hm : Mem ⟨w0, [], [], Z, X⟩ [] w0) : Calls prog 96 #[] w0 fun e w' => PostX w0 Z X (ρ := Nat) (fun r => ptA r 0) (fun r => [(true, r, 114, tab .u32 8 HH0 ++ ([.slice none 0 0, nu64 0] : List Value))]) (fun r => []) e w' := by
 refine enterX (n := 4) (args := []) func96 rfl rfl (Nat.le_of_ble_eq_true rfl) hm fun ac hs => ?_
 refine wp_seq (wp_region_lit ?_)
 refine asg hs rfl rfl rfl fun ac hs => ?_
 refine wpList_nil (then_n (wp_seq (wp_region_lit ?_)))
 refine stp (op_call (F := 129) hs none (v := At .u32 8 HH0) rfl rfl rfl rfl (call129 _) firsts_c rfl fun ac w hs => ?_)
 refine stp (op_build hs none (qs := [(0, At .u32 8 HH0)]) (v := .agg (tab .u32 8 HH0 ++ ([.slice none 0 0, .int .u64 0] : List Value)).toArray) rfl rfl rfl rfl (fun _ => by kernel_rfl) rfl fun ac hs => ?_)
 refine stp (op_box hs none none (cs := (tab .u32 8 HH0 ++ ([.slice none 0 0, .int .u64 0] : List Value))) rfl rfl rfl rfl rfl rfl fun g1 ac w hs => ?_)
 refine asg hs rfl rfl rfl fun ac hs => ?_
 refine wpList_nil (then_n (wp_ret ?_))
 exact bodyPost_ret (res1 rfl (rv_t hs rfl)) hs.defers ⟨g1, rfl, ((hs.selS [] rfl (by decide)).selB [0] rfl (by decide)).mem⟩
end Go.Proofs.YtejbajgpiecjcaaGreat

/- SHA-256: the program's, the document's. -/
namespace Go.Proofs.YtejbajgpiecjcaaGreat
open Go.RowKit _root_.Go.Proofs.Tryz
set_option maxRecDepth 10000
set_option maxHeartbeats 1000000
theorem rst0 : 0 = (rst []).length ∧ bcs [] = bcs (rst []) := ⟨by rw [rst_end (by decide)]; rfl, by rw [rst_end (by decide)]⟩
theorem hash0 : tab .u32 8 HH0 ++ ([.slice none 0 0, nu64 0] : List Value) = tab .u32 8 (blks HH0 []) ++ ([.slice none (rst []).length 0, nu64 (([] : List UInt8).length)] : List Value) := by
 rw [blks_end (by decide), rst_end (by decide)]; rfl
theorem write_c (gh : Nat) (ar : Option Addr) (cr : Nat) (m : List UInt8) (ab : Option Addr) (cb : Nat) (b : List UInt8) (hmb : m.length + b.length ≤ 900000) (w0 : World) (Z X : Nat → Prop) (hm : Mem ⟨w0, [], [(true, .cel (.slice ar ((rst m).length) cr) ((rst m).length) (bcs (rst m))), (true, .cel (.slice ab b.length cb) b.length (bcs b))], Z, X⟩ [(true, gh, 114, (tab .u32 8 (blks HH0 m) ++ ([.slice ar ((rst m).length) cr, nu64 (m.length)] : List Value)))] w0) : Calls prog 97 #[ptA gh 0, .slice ab b.length cb] w0 fun e w' => PostX w0 Z X (ρ := Option Addr × Nat) (fun r => .tuple #[]) (fun r => [(true, gh, 114, tab .u32 8 (blks HH0 (m ++ b)) ++ ([.slice r.1 (rst (m ++ b)).length r.2, nu64 ((m ++ b).length)] : List Value))]) (fun r => [(true, .cel (.slice r.1 (rst (m ++ b)).length r.2) (rst (m ++ b)).length (bcs (rst (m ++ b)))), (true, .cel (.slice ab b.length cb) b.length (bcs b))]) e w' := by
 have hrl := rst_lt m
 refine enterX (n := 59) (args := [ptA gh 0, .slice ab b.length cb]) func97 rfl rfl (Nat.le_of_ble_eq_true rfl) hm fun ac hs => ?_
 refine wp_seq (wp_seq (wp_region_lit ?_))
 refine mvv hs rfl rfl rfl fun ac hs => ?_
 refine bnn hs (.bool false) rfl rfl rfl rfl (bin_eqlP0 underlying95) fun ac hs => ?_
 refine wpList_nil (then_n ?_)
 refine wp_cond_false (hs.ev rfl) ?_
 refine wp_skip (then_n (wp_seq (wp_region_lit ?_)))
 refine mvv hs rfl rfl rfl fun ac hs => ?_
 refine stp (op_nilCheck hs none rfl rfl rfl rfl fun ac hs => ?_)
 refine stp (op_fieldA hs none rfl rfl rfl underlying114 rfl sizeOf22 (by decide) rfl fun ac hs => ?_)
 refine ldd hs 0 (nu64 (m.length)) isAgg22 sizeOf22 rfl rfl rfl rfl (tabs_tail (i := 1) rfl rfl) fun ac hs => ?_
 refine mvv hs rfl rfl rfl fun ac hs => ?_
 refine stp (op_blt hs none (v := ni64 (b.length)) rfl rfl rfl (blt_len underlying25) rfl fun ac hs => ?_)
 refine stp (op_convert hs none (v := nu64 (b.length)) rfl rfl rfl (conv_N underlying3 underlying22 (show b.length < 18446744073709551616 by omega)) rfl fun ac hs => ?_)
 refine bnn hs (nu64 (m.length + b.length)) rfl rfl rfl rfl (bin_addN rfl (show m.length + b.length < 18446744073709551616 by omega)) fun ac hs => ?_
 refine stp (op_nilCheck hs none rfl rfl rfl rfl fun ac hs => ?_)
 refine stp (op_fieldA hs none rfl rfl rfl underlying114 rfl sizeOf22 (by decide) rfl fun ac hs => ?_)
 refine stp (stoo hs 0 ([nu64 (m.length + b.length)]) sizeOf22 rfl rfl rfl rfl rfl rfl rfl rfl (tabs_tle (i := 1) rfl (Nat.le_of_ble_eq_true rfl)) (tabs_wr (i := 1) rfl rfl) fun w hs => ?_)
 refine wpList_nil (then_n (wp_seq ?_))
 replace hs := hs.nf w0 Z X [0, 1] rfl rfl rfl rfl
 refine region_inv [([], [18, 19, 20]), ([], [2, 3, 4, 15, 17, 18, 19, 20]), ([1], [3, 4, 15, 17, 18, 19, 20]), ([1, 2], [4, 15, 17, 18, 19, 20]), ([1, 2, 3], [15, 17, 18, 19, 20]), ([], [6, 7, 8, 9, 15, 17, 18, 19, 20]), ([5], [7, 8, 9, 15, 17, 18, 19, 20]), ([5, 6], [8, 9, 15, 17, 18, 19, 20]), ([5, 6, 7], [9, 15, 17, 18, 19, 20]), (rgn 5 4, [15, 17, 18, 19, 20]), ([], [11, 12, 13, 14, 15, 17, 18, 19, 20]), ([10], [12, 13, 14, 15, 17, 18, 19, 20]), ([10, 11], [13, 14, 15, 17, 18, 19, 20]), ([10, 11, 12], [14, 15, 17, 18, 19, 20]), (rgn 10 4, [15, 17, 18, 19, 20]), (rgn 1 14, rgn 17 4), ([], rgn 17 4), (rgn 1 16, [18, 19, 20]), (rgn 0 18, [19, 20]), (rgn 0 19, [20]), (rgn 0 20, [])] (fun L ac w => ∃ (ad1 : Option Addr) (cp2 : Nat), St 59 ⟨w0, [], [(true, .cel (.slice ar ((rst m).length) cr) ((rst m).length) (bcs (rst m))), (true, .cel (.slice ab b.length cb) b.length (bcs b)), (L 15, .cel (.slice (vsa ar ((rst m).length) 1 0) ((rst m).length - 0) ((rst m).length - 0)) ((rst m).length - 0) (bcs (rst m))), (L 17, .cel (.slice ad1 ((rst m ++ b).length) cp2) ((rst m ++ b).length) (bcs (rst m ++ b)))], Z, X⟩ [(16, L 0, ptA gh 0), (17, L 1, ptA gh 0), (18, L 2, ptA gh 0), (19, L 3, ptA gh 8), (20, L 4, .slice ar ((rst m).length) cr), (21, L 5, ptA gh 0), (22, L 6, ptA gh 0), (23, L 7, ptA gh 8), (24, L 8, .slice ar ((rst m).length) cr), (25, L 9, ni64 ((rst m).length)), (26, L 10, ptA gh 0), (27, L 11, ptA gh 0), (28, L 12, ptA gh 8), (29, L 13, .slice ar ((rst m).length) cr), (30, L 14, ni64 ((rst m).length)), (31, L 15, .slice (vsa ar ((rst m).length) 1 0) ((rst m).length - 0) ((rst m).length - 0)), (32, L 16, .slice ab b.length cb), (33, L 17, .slice ad1 ((rst m ++ b).length) cp2), (34, L 18, ptA gh 0), (35, L 19, ptA gh 8), (0, true, ptA gh 0), (1, true, .slice ab b.length cb)] [(true, gh, 114, (cond (L 20) (tab .u32 8 (blks HH0 m) ++ ([.slice ad1 ((rst m ++ b).length) cp2, nu64 (m.length + b.length)] : List Value)) (tab .u32 8 (blks HH0 m) ++ ([.slice ar ((rst m).length) cr, nu64 (m.length + b.length)] : List Value))))] ac w) (by kernel_rfl) (by kernel_rfl) ?_ ?_ ?_
 ·exact ⟨none, 0, hs.drew.skip.skip.skip.skip.skip.skip.skip.skip.skip.skip.skip.skip.skip.skip.skip.skip.skip.skip.skip.skip.padS.padS⟩
 ·refine ⟨?_, ?_, ?_, ?_, ?_, ?_, ?_, ?_, ?_, ?_, ?_, ?_, ?_, ?_, ?_, ?_, ?_, ?_, ?_, ?_, ?_, trivial⟩
  ·exact fun L ac w ⟨ad1, cp2, hs⟩ => pln (omv hs 0 rfl rfl rfl fun ac hs => ⟨ad1, cp2, hs⟩)
  ·exact fun L ac w ⟨ad1, cp2, hs⟩ => pln (omv hs 1 rfl rfl rfl fun ac hs => ⟨ad1, cp2, hs⟩)
  ·exact fun L ac w ⟨ad1, cp2, hs⟩ => pln (op_nilCheck hs (some 2) rfl rfl rfl rfl fun ac hs => ⟨ad1, cp2, hs⟩)
  ·exact fun L ac w ⟨ad1, cp2, hs⟩ => pln (op_fieldA hs (some 3) rfl rfl rfl underlying114 rfl sizeOf25 (by decide) rfl fun ac hs => ⟨ad1, cp2, hs⟩)
  ·exact fun L ac w ⟨ad1, cp2, hs⟩ => pln (oldd hs 4 0 (.slice ar ((rst m).length) cr) isAgg25 sizeOf25 rfl rfl rfl rfl (tabs_tail (i := 0) rfl rfl) fun ac hs => ⟨ad1, cp2, hs⟩)
  ·exact fun L ac w ⟨ad1, cp2, hs⟩ => pln (omv hs 5 rfl rfl rfl fun ac hs => ⟨ad1, cp2, hs⟩)
  ·exact fun L ac w ⟨ad1, cp2, hs⟩ => pln (op_nilCheck hs (some 6) rfl rfl rfl rfl fun ac hs => ⟨ad1, cp2, hs⟩)
  ·exact fun L ac w ⟨ad1, cp2, hs⟩ => pln (op_fieldA hs (some 7) rfl rfl rfl underlying114 rfl sizeOf25 (by decide) rfl fun ac hs => ⟨ad1, cp2, hs⟩)
  ·exact fun L ac w ⟨ad1, cp2, hs⟩ => pln (oldd hs 8 0 (.slice ar ((rst m).length) cr) isAgg25 sizeOf25 rfl rfl rfl rfl (tabs_tail (i := 0) rfl rfl) fun ac hs => ⟨ad1, cp2, hs⟩)
  ·exact fun L ac w ⟨ad1, cp2, hs⟩ => pln (op_blt hs (some 9) (v := ni64 ((rst m).length)) rfl rfl rfl (blt_len underlying25) rfl fun ac hs => ⟨ad1, cp2, hs⟩)
  ·exact fun L ac w ⟨ad1, cp2, hs⟩ => pln (omv hs 10 rfl rfl rfl fun ac hs => ⟨ad1, cp2, hs⟩)
  ·exact fun L ac w ⟨ad1, cp2, hs⟩ => pln (op_nilCheck hs (some 11) rfl rfl rfl rfl fun ac hs => ⟨ad1, cp2, hs⟩)
  ·exact fun L ac w ⟨ad1, cp2, hs⟩ => pln (op_fieldA hs (some 12) rfl rfl rfl underlying114 rfl sizeOf25 (by decide) rfl fun ac hs => ⟨ad1, cp2, hs⟩)
  ·exact fun L ac w ⟨ad1, cp2, hs⟩ => pln (oldd hs 13 0 (.slice ar ((rst m).length) cr) isAgg25 sizeOf25 rfl rfl rfl rfl (tabs_tail (i := 0) rfl rfl) fun ac hs => ⟨ad1, cp2, hs⟩)
  ·exact fun L ac w ⟨ad1, cp2, hs⟩ => pln (op_blt hs (some 14) (v := ni64 ((rst m).length)) rfl rfl rfl (blt_len underlying25) rfl fun ac hs => ⟨ad1, cp2, hs⟩)
  ·exact fun L ac w ⟨ad1, cp2, hs⟩ => pln (op_slice3B hs (some 15) (some 2) 0 ((rst m).length) (l := rst m) rfl rfl rfl rfl rfl rfl underlying25 sizeOf5 rfl rfl rfl fun ac hs => ⟨ad1, cp2, hs⟩)
  ·exact fun L ac w ⟨ad1, cp2, hs⟩ => pln (omv hs 16 rfl rfl rfl fun ac hs => ⟨ad1, cp2, hs⟩)
  ·exact fun L ac w ⟨ad1, cp2, hs⟩ => pln (op_appF hs (some 17) (some 3) 2 1 (N' := (rst m ++ b).length) (ys := bcs (rst m ++ b)) rfl rfl rfl rfl rfl rfl underlying25 inf_u8_5 rfl (by decide) (bcs_len1 rfl) (bcs_len1 rfl) (bcs_one _) (by decide) (show (rst m).length - 0 + b.length ≤ 1000000 by omega) (by simp only [List.length_append] <;> omega) (bcs_append _ _) rfl rfl fun ad1 cp2 ac w hs => ⟨ad1, cp2, hs⟩)
  ·exact fun L ac w ⟨ad1, cp2, hs⟩ => pln (op_nilCheck hs (some 18) rfl rfl rfl rfl fun ac hs => ⟨ad1, cp2, hs⟩)
  ·exact fun L ac w ⟨ad1, cp2, hs⟩ => pln (op_fieldA hs (some 19) rfl rfl rfl underlying114 rfl sizeOf25 (by decide) rfl fun ac hs => ⟨ad1, cp2, hs⟩)
  ·exact fun L ac w ⟨ad1, cp2, hs⟩ => pln (stoo hs 0 ([.slice ad1 ((rst m ++ b).length) cp2]) sizeOf25 rfl rfl rfl rfl rfl rfl rfl rfl (tabs_tle (i := 0) rfl (Nat.le_of_ble_eq_true rfl)) (tabs_wr (i := 0) rfl rfl) fun w hs => ⟨ad1, cp2, hs⟩)
 intro ac w ⟨ad1, cp2, hs⟩
 try dsimp only [cond_true] at hs
 refine then_n (wp_block ?_)
 refine wp_loop_m (fun μ ac w => ∃ (h1 : Nat → Nat) (l1 : List UInt8) (a1 : Option Addr) (c1 : Nat), (l1.length) = μ ∧ (∀ j, h1 j < 4294967296) ∧ (blks (blks HH0 m) (rst m ++ b) = blks h1 l1) ∧ (rst (rst m ++ b) = rst l1) ∧ (l1.length ≤ 1000000) ∧ St 59 ⟨w0, [], [(true, .cel (.slice a1 l1.length c1) l1.length (bcs l1)), (true, .cel (.slice ab b.length cb) b.length (bcs b))], Z, X⟩ [(0, true, ptA gh 0)] [(true, gh, 114, (tab .u32 8 h1 ++ ([.slice a1 l1.length c1, nu64 (m.length + b.length)] : List Value)))] ac w) ?_ ?_
 replace hs := hs.selS [3, 1] rfl (by decide)
 ·exact ⟨_, (blks HH0 m), (rst m ++ b), ad1, cp2, rfl, (fun j => blks_lt HH0_lt m j), rfl, rfl, (by simp only [List.length_append]; omega), (hs.re (fs' := [(0, true, ptA gh 0)]) ⟨rfl, trivial⟩)⟩
 intro μ ac w ⟨h1, l1, a1, c1, hμ, hh1, hb1, hr1, hl1, hs⟩
 refine wp_seq (wp_seq (wp_region_lit ?_))
 refine mvv hs rfl rfl rfl fun ac hs => ?_
 refine stp (op_nilCheck hs none rfl rfl rfl rfl fun ac hs => ?_)
 refine stp (op_fieldA hs none rfl rfl rfl underlying114 rfl sizeOf25 (by decide) rfl fun ac hs => ?_)
 refine ldd hs 0 (.slice a1 l1.length c1) isAgg25 sizeOf25 rfl rfl rfl rfl (tabs_tail (i := 0) rfl rfl) fun ac hs => ?_
 refine stp (op_blt hs none (v := ni64 (l1.length)) rfl rfl rfl (blt_len underlying25) rfl fun ac hs => ?_)
 refine bnn hs (.bool (decide (64 ≤ l1.length))) rfl rfl rfl rfl (bin_geqN (y := 64)) fun ac hs => ?_
 refine wpList_nil (then_n ?_)
 refine wp_cond_split (hs.ev rfl) (fun hc => ?_) (fun hc => ?_)
 ·skip
  have hp3 := of_decide_eq_true hc
  have h64 := of_decide_eq_true hc
  refine wp_skip (then_n (wp_block (wp_seq ?_)))
  replace hs := hs.nf w0 Z X [0] rfl rfl rfl rfl
  refine region_inv [([], [1, 2, 8]), ([0], [2, 8]), ([0, 1], [8]), ([], rgn 4 5), ([3], rgn 5 4), ([3, 4], [6, 7, 8]), ([3, 4, 5], [7, 8]), (rgn 3 4, [8]), (rgn 0 8, [])] (fun L ac w => St 59 ⟨w0, [], [(true, .cel (.slice a1 l1.length c1) l1.length (bcs l1)), (true, .cel (.slice ab b.length cb) b.length (bcs b)), (L 7, .cel (.slice (vsa a1 c1 1 0) ((l1.take 64).length) (c1 - 0)) ((l1.take 64).length) (bcs (l1.take 64)))], Z, X⟩ [(42, L 0, ptA gh 0), (43, L 1, ptA gh 0), (44, L 2, ptA gh 0), (45, L 3, ptA gh 0), (46, L 4, ptA gh 0), (47, L 5, ptA gh 8), (48, L 6, .slice a1 l1.length c1), (49, L 7, .slice (vsa a1 c1 1 0) ((l1.take 64).length) (c1 - 0)), (50, L 8, .tuple #[]), (0, true, ptA gh 0)] [(true, gh, 114, (cond (L 8) (tab .u32 8 (blk h1 (l1.take 64)) ++ ([.slice a1 l1.length c1, nu64 (m.length + b.length)] : List Value)) (tab .u32 8 h1 ++ ([.slice a1 l1.length c1, nu64 (m.length + b.length)] : List Value))))] ac w) (by kernel_rfl) (by kernel_rfl) ?_ ?_ ?_
  ·exact hs.drew.skip.skip.skip.skip.skip.skip.skip.skip.skip.padS
  ·refine ⟨?_, ?_, ?_, ?_, ?_, ?_, ?_, ?_, ?_, trivial⟩
   ·exact fun L ac w hs => pln (omv hs 0 rfl rfl rfl fun ac hs => hs)
   ·exact fun L ac w hs => pln (op_nilCheck hs (some 1) rfl rfl rfl rfl fun ac hs => hs)
   ·exact fun L ac w hs => pln (op_fieldA hs (some 2) rfl rfl rfl underlying114 rfl sizeOf111 (by decide) rfl fun ac hs => hs)
   ·exact fun L ac w hs => pln (omv hs 3 rfl rfl rfl fun ac hs => hs)
   ·exact fun L ac w hs => pln (op_nilCheck hs (some 4) rfl rfl rfl rfl fun ac hs => hs)
   ·exact fun L ac w hs => pln (op_fieldA hs (some 5) rfl rfl rfl underlying114 rfl sizeOf25 (by decide) rfl fun ac hs => hs)
   ·exact fun L ac w hs => pln (oldd hs 6 0 (.slice a1 l1.length c1) isAgg25 sizeOf25 rfl rfl rfl rfl (tabs_tail (i := 0) rfl rfl) fun ac hs => hs)
   ·exact fun L ac w hs => pln (op_sliceR hs (some 7) (some 2) 0 0 64 (N' := (l1.take 64).length) (cs' := bcs (l1.take 64)) rfl rfl rfl rfl (.inl ⟨rfl, rfl⟩) (.inr ⟨_, _, rfl, rfl⟩) underlying25 sizeOf5 (show 0 ≤ 64 by omega) (show 64 ≤ l1.length by omega) (len_hi (show 64 ≤ l1.length by omega)) bcs_hi rfl rfl fun ac hs => hs)
   ·exact fun L ac w hs => pln (op_callX (F := 130) (ρ := Unit) hs (some 8) none [0] [2] (v := fun r => .tuple #[]) (S1 := [(true, .cel (.slice (vsa a1 c1 1 0) ((l1.take 64).length) (c1 - 0)) ((l1.take 64).length) (bcs (l1.take 64)))]) (bs1 := [(true, gh, 114, (tab .u32 8 h1 ++ ([.slice a1 l1.length c1, nu64 (m.length + b.length)] : List Value)))]) (E := fun r => [(true, .cel (.slice (vsa a1 c1 1 0) ((l1.take 64).length) (c1 - 0)) ((l1.take 64).length) (bcs (l1.take 64)))]) (E1 := fun r => [(true, .cel (.slice (vsa a1 c1 1 0) ((l1.take 64).length) (c1 - 0)) ((l1.take 64).length) (bcs (l1.take 64)))]) (E2 := fun r => []) (bfA := fun r => [(true, gh, 114, (tab .u32 8 (blk h1 (l1.take 64)) ++ ([.slice a1 l1.length c1, nu64 (m.length + b.length)] : List Value)))]) (bf := fun r => [(true, gh, 114, (tab .u32 8 (blk h1 (l1.take 64)) ++ ([.slice a1 l1.length c1, nu64 (m.length + b.length)] : List Value)))]) (bf2 := fun r => []) rfl rfl rfl rfl rfl (call130 _) rfl rfl (by decide) (by decide) (fun Z X hm => take_c gh 114 h1 ([.slice a1 l1.length c1, nu64 (m.length + b.length)] : List Value) (fun j => hh1 j) (vsa a1 c1 1 0) (c1 - 0) (l1.take 64) (show (l1.take 64).length = 64 by first | omega | ((try simp only [List.length_drop, List.length_take, List.length_append, List.length_cons, List.length_nil]); omega)) _ _ _ hm) (fun _ => rfl) (fun _ => rfl) (fun _ => rfl) (fun _ => rfl) (fun _ => rfl) rfl fun _ ac w hs => hs)
  intro ac w hs
  try dsimp only [cond_true] at hs
  refine then_n (wp_region_lit ?_)
  refine mvv hs rfl rfl rfl fun ac hs => ?_
  refine mvv hs rfl rfl rfl fun ac hs => ?_
  refine stp (op_nilCheck hs none rfl rfl rfl rfl fun ac hs => ?_)
  refine stp (op_fieldA hs none rfl rfl rfl underlying114 rfl sizeOf25 (by decide) rfl fun ac hs => ?_)
  refine ldd hs 0 (.slice a1 l1.length c1) isAgg25 sizeOf25 rfl rfl rfl rfl (tabs_tail (i := 0) rfl rfl) fun ac hs => ?_
  refine stp (op_sliceR hs none none 0 64 l1.length (N' := (l1.drop 64).length) (cs' := bcs (l1.drop 64)) rfl rfl rfl rfl (.inr ⟨_, _, rfl, rfl⟩) (.inl ⟨rfl, rfl⟩) underlying25 sizeOf5 (show 64 ≤ l1.length by omega) (show l1.length ≤ l1.length by omega) len_lo bcs_lo rfl rfl fun ac hs => ?_)
  refine stp (op_nilCheck hs none rfl rfl rfl rfl fun ac hs => ?_)
  refine stp (op_fieldA hs none rfl rfl rfl underlying114 rfl sizeOf25 (by decide) rfl fun ac hs => ?_)
  refine stp (stoo hs 0 ([.slice (vsa a1 c1 1 64) ((l1.drop 64).length) (c1 - 64)]) sizeOf25 rfl rfl rfl rfl rfl rfl rfl rfl (tabs_tle (i := 0) rfl (Nat.le_of_ble_eq_true rfl)) (tabs_wr (i := 0) rfl rfl) fun w hs => ?_)
  refine wpList_nil (blk_n (then_n ?_))
  replace hs := hs.selS [3, 1] rfl (by decide)
  exact ⟨_, ⟨(blk h1 (l1.take 64)), (l1.drop 64), (vsa a1 c1 1 64), (c1 - 64), rfl, (fun j => blk_lt _ _ j), (hb1.trans (blks_step (by omega))), (hr1.trans (rst_step (by omega))), (by simp only [List.length_drop]; omega), (hs.re (fs' := [(0, true, ptA gh 0)]) ⟨rfl, trivial⟩)⟩, (by simp only [List.length_drop]; omega)⟩
 ·skip
  have hp4 := of_decide_eq_false hc
  have h64 := of_decide_eq_false hc
  have hbe : blks HH0 (m ++ b) = h1 := by rw [← wr_h, hb1, blks_end (by omega)]
  have hre : rst (m ++ b) = l1 := by rw [rst_append, hr1, rst_end (by omega)]
  refine wp_exit (then_e (then_e (blk_e ?_)))
  subst hbe; subst hre
  replace hs := hs.setb 0 (cs' := (tab .u32 8 (blks HH0 (m ++ b)) ++ ([.slice a1 ((rst (m ++ b)).length) c1, nu64 ((m ++ b).length)] : List Value))) rfl (by simp only [List.length_append])
  exact bodyPost_end (res0 rfl) hs.defers ⟨⟨a1, c1⟩, rfl, ((hs.selS [0, 1] rfl (by decide)).selB [0] rfl (by decide)).mem⟩
theorem hsum_c (gh : Nat) (ar : Option Addr) (cr : Nat) (m : List UInt8) (hmb : m.length ≤ 900000) (w0 : World) (Z X : Nat → Prop) (hm : Mem ⟨w0, [], [(true, .cel (.slice ar ((rst m).length) cr) ((rst m).length) (bcs (rst m)))], Z, X⟩ [(true, gh, 114, (tab .u32 8 (blks HH0 m) ++ ([.slice ar ((rst m).length) cr, nu64 (m.length)] : List Value)))] w0) : Calls prog 98 #[ptA gh 0] w0 fun e w' => PostX w0 Z X (ρ := Unit) (fun r => At .u8 32 (sha m)) (fun r => [(true, gh, 114, tab .u32 8 (blks HH0 m) ++ ([.slice ar (rst m).length cr, nu64 (m.length)] : List Value))]) (fun r => [(true, .cel (.slice ar (rst m).length cr) (rst m).length (bcs (rst m)))]) e w' := by
 have hrl := rst_lt m
 refine enterX (n := 81) (args := [ptA gh 0]) func98 rfl rfl (Nat.le_of_ble_eq_true rfl) hm fun ac hs => ?_
 refine wp_seq (wp_region_lit ?_)
 refine stp (op_alloc hs none none (cs := (tab .u8 32 (fun _ => 0))) rfl rfl zeroValue30 (by kernel_rfl) rfl rfl fun g1 ac w hs => ?_)
 refine wpList_nil (then_n (wp_seq (wp_seq (wp_region_lit ?_))))
 refine mvv hs rfl rfl rfl fun ac hs => ?_
 refine bnn hs (.bool false) rfl rfl rfl rfl (bin_eqlP0 underlying95) fun ac hs => ?_
 refine wpList_nil (then_n ?_)
 refine wp_cond_false (hs.ev rfl) ?_
 refine wp_skip (then_n (wp_seq (wp_region_lit ?_)))
 refine stp (op_bsO0 hs none none (size := 1) rfl rfl underlying25 inf_u8_5 rfl rfl fun ad3 ac w hs => ?_)
 refine mvv hs rfl rfl rfl fun ac hs => ?_
 refine stp (op_nilCheck hs none rfl rfl rfl rfl fun ac hs => ?_)
 refine stp (op_fieldA hs none rfl rfl rfl underlying114 rfl sizeOf25 (by decide) rfl fun ac hs => ?_)
 refine ldd hs 0 (.slice ar ((rst m).length) cr) isAgg25 sizeOf25 rfl rfl rfl rfl (tabs_tail (i := 0) rfl rfl) fun ac hs => ?_
 refine stp (op_appR hs none 1 0 (N' := (rst m).length) (ys := bcs (rst m)) rfl rfl rfl rfl rfl rfl underlying25 inf_u8_5 rfl (by decide) (bcs_len1 rfl) (bcs_one _) (by decide) (show 0 + ((rst m).length) ≤ 1000000 by omega) (Nat.zero_add _) rfl rfl rfl fun ad4 cp5 ac w hs => ?_)
 refine asg hs rfl rfl rfl fun ac hs => ?_
 refine wpList_nil (then_n (wp_seq ?_))
 replace hs := hs.nf w0 Z X [0, 2, 3] rfl rfl rfl rfl
 refine wp_region_lit ?_
 refine mvv hs rfl rfl rfl fun ac hs => ?_
 refine stp (op_bsO hs none none (qs := [(0, .int .u8 128)]) (cs := [.int .u8 128]) (cs' := bcs [UInt8.ofNat 128]) rfl rfl rfl rfl underlying25 inf_u8_5 (by decide) (by decide) (fill_one _ _ rfl ) rfl (bcs_cons (by decide) rfl) rfl rfl fun ad7 ac w hs => ?_)
 refine stp (op_appR hs none 1 2 (N' := (rst m ++ [UInt8.ofNat 128]).length) (ys := bcs (rst m ++ [UInt8.ofNat 128])) rfl rfl rfl rfl rfl rfl underlying25 inf_u8_5 rfl (by decide) (bcs_len1 rfl) (bcs_one _) (by decide) (show (rst m).length + 1 ≤ 1000000 by omega) (by simp only [List.length_append, List.length_cons, List.length_nil] <;> omega) (bcs_append _ _) rfl rfl fun ad8 cp9 ac w hs => ?_)
 refine asg hs rfl rfl rfl fun ac hs => ?_
 refine wpList_nil (then_n (wp_seq (wp_block ?_)))
 rw [show rst m ++ [UInt8.ofNat 128] = rst m ++ tl0 0 from rfl] at hs
 refine wp_loop_m (fun μ ac w => ∃ (j : Nat) (ao : Option Addr) (co : Nat), (zs64 (rst m).length - j) = μ ∧ (j ≤ zs64 (rst m).length) ∧ St 81 ⟨w0, [], [(true, .cel (.slice ar ((rst m).length) cr) ((rst m).length) (bcs (rst m))), (true, .own (.slice ao ((rst m ++ tl0 j).length) co) 5 1 ((rst m ++ tl0 j).length) (bcs (rst m ++ tl0 j)))], Z, X⟩ [(0, true, ptA gh 0), (2, true, ptA g1 0), (3, true, .slice ao ((rst m ++ tl0 j).length) co)] [(true, gh, 114, (tab .u32 8 (blks HH0 m) ++ ([.slice ar ((rst m).length) cr, nu64 (m.length)] : List Value))), (true, g1, 30, (tab .u8 32 (fun _ => 0)))] ac w) ?_ ?_
 replace hs := hs.selS [0, 1] rfl (by decide)
 ·exact ⟨_, 0, ad8, cp9, rfl, (Nat.zero_le _), (hs.re (fs' := [(0, true, ptA gh 0), (2, true, ptA g1 0), (3, true, .slice ad8 ((rst m ++ tl0 0).length) cp9)]) ⟨rfl, rfl, rfl, trivial⟩)⟩
 intro μ ac w ⟨j, ao, co, hμ, hj, hs⟩
 have hll : (rst m ++ tl0 j).length = (rst m).length + (j + 1) := by rw [List.length_append, tl0_len]
 have hz63 : zs64 (rst m).length < 64 := Nat.mod_lt _ (by decide)
 refine wp_seq (wp_seq (wp_region_lit ?_))
 refine mvv hs rfl rfl rfl fun ac hs => ?_
 refine stp (op_blt hs none (v := ni64 ((rst m ++ tl0 j).length)) rfl rfl rfl (blt_len underlying25) rfl fun ac hs => ?_)
 refine bnn hs (ni64 (((rst m ++ tl0 j).length) % 64)) rfl rfl rfl rfl (bin_remN (y := 64) rfl (by decide)) fun ac hs => ?_
 refine bnn hs (.bool (decide (((rst m ++ tl0 j).length) % 64 ≠ 56))) rfl rfl rfl rfl (bin_neqN (y := 56)) fun ac hs => ?_
 refine wpList_nil (then_n ?_)
 refine wp_cond_split (hs.ev rfl) (fun hc => ?_) (fun hc => ?_)
 ·skip
  have hp10 := of_decide_eq_true hc
  have hz : ¬ ((rst m).length + (j + 1)) % 64 = 56 := by rw [← hll]; exact of_decide_eq_true hc
  refine wp_skip (then_n (wp_block (wp_region_lit ?_)))
  refine mvv hs rfl rfl rfl fun ac hs => ?_
  refine stp (op_bsO hs none none (qs := [(0, .int .u8 0)]) (cs := [.int .u8 0]) (cs' := bcs [UInt8.ofNat 0]) rfl rfl rfl rfl underlying25 inf_u8_5 (by decide) (by decide) (fill_one _ _ rfl ) rfl (bcs_cons (by decide) rfl) rfl rfl fun ad12 ac w hs => ?_)
  refine stp (op_appR hs none 1 2 (N' := (rst m ++ tl0 j ++ [UInt8.ofNat 0]).length) (ys := bcs (rst m ++ tl0 j ++ [UInt8.ofNat 0])) rfl rfl rfl rfl rfl rfl underlying25 inf_u8_5 rfl (by decide) (bcs_len1 rfl) (bcs_one _) (by decide) (show (rst m ++ tl0 j).length + 1 ≤ 1000000 by first | omega | ((try simp only [List.length_drop, List.length_take, List.length_append, List.length_cons, List.length_nil]); omega)) (by simp only [List.length_append, List.length_cons, List.length_nil] <;> omega) (bcs_append _ _) rfl rfl fun ad13 cp14 ac w hs => ?_)
  refine asg hs rfl rfl rfl fun ac hs => ?_
  refine wpList_nil (blk_n (then_n ?_))
  rw [show rst m ++ tl0 j ++ [UInt8.ofNat 0] = rst m ++ tl0 (j + 1) from (by rw [List.append_assoc, tl0_succ])] at hs
  replace hs := hs.selS [0, 1] rfl (by decide)
  exact ⟨_, ⟨(j + 1), ad13, cp14, rfl, (zs_go hj hz), (hs.re (fs' := [(0, true, ptA gh 0), (2, true, ptA g1 0), (3, true, .slice ad13 ((rst m ++ tl0 (j + 1)).length) cp14)]) ⟨rfl, rfl, rfl, trivial⟩)⟩, (by have := zs_go hj hz; omega)⟩
 ·skip
  have hp15 := of_decide_eq_false hc
  obtain rfl : j = zs64 (rst m).length := zs_end hj (by rw [← hll]; exact Classical.not_not.1 (of_decide_eq_false hc))
  refine wp_exit (then_e (then_e (blk_e (then_n (wp_seq (wp_region_lit ?_))))))
  refine mvv hs rfl rfl rfl fun ac hs => ?_
  refine stp (op_nilCheck hs none rfl rfl rfl rfl fun ac hs => ?_)
  refine stp (op_fieldA hs none rfl rfl rfl underlying114 rfl sizeOf22 (by decide) rfl fun ac hs => ?_)
  refine ldd hs 0 (nu64 (m.length)) isAgg22 sizeOf22 rfl rfl rfl rfl (tabs_tail (i := 1) rfl rfl) fun ac hs => ?_
  refine bnn hs (nu64 (m.length * 8)) rfl rfl rfl rfl (bin_mulN (y := 8) rfl (show m.length * 8 < 18446744073709551616 by omega)) fun ac hs => ?_
  refine asg hs rfl rfl rfl fun ac hs => ?_
  refine wpList_nil (then_n (wp_seq (wp_seq ?_)))
  replace hs := hs.nf w0 Z X [0, 2, 3, 4] rfl rfl rfl rfl
  refine wp_region_lit ?_
  refine asg hs rfl rfl rfl fun ac hs => ?_
  refine wpList_nil (then_n (wp_block ?_))
  rw [show rst m ++ tl0 (zs64 (rst m).length) = (rst m ++ tl0 (zs64 (rst m).length)) ++ be8t (m.length * 8) 0 from (by simp [be8t])] at hs
  refine wp_loop_m (fun μ ac w => ∃ (k : Nat) (ao2 : Option Addr) (co2 : Nat), (8 - k) = μ ∧ (k ≤ 8) ∧ St 81 ⟨w0, [], [(true, .cel (.slice ar ((rst m).length) cr) ((rst m).length) (bcs (rst m))), (true, .own (.slice ao2 (((rst m ++ tl0 (zs64 (rst m).length)) ++ be8t (m.length * 8) k).length) co2) 5 1 (((rst m ++ tl0 (zs64 (rst m).length)) ++ be8t (m.length * 8) k).length) (bcs ((rst m ++ tl0 (zs64 (rst m).length)) ++ be8t (m.length * 8) k)))], Z, X⟩ [(0, true, ptA gh 0), (2, true, ptA g1 0), (4, true, nu64 (m.length * 8)), (3, true, .slice ao2 (((rst m ++ tl0 (zs64 (rst m).length)) ++ be8t (m.length * 8) k).length) co2), (5, true, .int .i64 (56 - 8 * (k : Int)))] [(true, gh, 114, (tab .u32 8 (blks HH0 m) ++ ([.slice ar ((rst m).length) cr, nu64 (m.length)] : List Value))), (true, g1, 30, (tab .u8 32 (fun _ => 0)))] ac w) ?_ ?_
  ·exact ⟨_, 0, ao, co, rfl, (by omega), (hs.re (fs' := [(0, true, ptA gh 0), (2, true, ptA g1 0), (4, true, nu64 (m.length * 8)), (3, true, .slice ao (((rst m ++ tl0 (zs64 (rst m).length)) ++ be8t (m.length * 8) 0).length) co), (5, true, .int .i64 (56 - 8 * (0 : Int)))]) ⟨rfl, rfl, rfl, rfl, rfl, trivial⟩)⟩
  intro μ ac w ⟨k, ao2, co2, hμ, hk, hs⟩
  have hlk : ((rst m ++ tl0 (zs64 (rst m).length)) ++ be8t (m.length * 8) k).length = (rst m).length + (zs64 (rst m).length + 1) + k := by rw [List.length_append, List.length_append, tl0_len, be8t_len]
  refine wp_seq (wp_seq (wp_region_lit ?_))
  refine mvv hs rfl rfl rfl fun ac hs => ?_
  refine bnn hs (.bool (decide (0 ≤ 56 - 8 * (k : Int)))) rfl rfl rfl rfl bin_geqI fun ac hs => ?_
  refine wpList_nil (then_n ?_)
  refine wp_cond_split (hs.ev rfl) (fun hc => ?_) (fun hc => ?_)
  ·skip
   have hp16 := of_decide_eq_true hc
   have hk7 : k ≤ 7 := by have := of_decide_eq_true hc; omega
   replace hs := hs.re (fs' := [(0, true, ptA gh 0), (2, true, ptA g1 0), (4, true, nu64 (m.length * 8)), (3, true, .slice ao2 (((rst m ++ tl0 (zs64 (rst m).length)) ++ be8t (m.length * 8) k).length) co2), (5, true, ni64 (56 - 8 * k)), (36, true, .int .i64 (56 - 8 * (k : Int))), (37, true, .bool (decide (0 ≤ 56 - 8 * (k : Int))))]) ⟨rfl, rfl, rfl, rfl, congrArg some (by rw [show (56 - 8 * (k : Int)) = ((56 - 8 * k : Nat) : Int) by omega]), rfl, rfl, trivial⟩
   refine wp_skip (then_n (wp_seq (wp_block (wp_region_lit ?_))))
   refine mvv hs rfl rfl rfl fun ac hs => ?_
   refine mvv hs rfl rfl rfl fun ac hs => ?_
   refine mvv hs rfl rfl rfl fun ac hs => ?_
   refine bnn hs (.int .u64 (((m.length * 8) / 2 ^ (56 - 8 * k) : Nat) : Int)) rfl rfl rfl rfl (bin_shrN (z := (m.length * 8) / 2 ^ (56 - 8 * k)) rfl (show m.length * 8 < 18446744073709551616 by omega)) fun ac hs => ?_
   refine stp (op_convert hs none (v := .int .u8 (((m.length * 8) / 2 ^ (56 - 8 * k) % 256 : Nat) : Int)) rfl rfl rfl (conv_M (z := (m.length * 8) / 2 ^ (56 - 8 * k) % 256) rfl underlying22 underlying5 rfl) rfl fun ac hs => ?_)
   refine stp (op_bsO hs none none (qs := [(0, .int .u8 (((m.length * 8) / 2 ^ (56 - 8 * k) % 256 : Nat) : Int))]) (cs := [.int .u8 (((m.length * 8) / 2 ^ (56 - 8 * k) % 256 : Nat) : Int)]) (cs' := bcs [UInt8.ofNat ((m.length * 8) / 2 ^ (56 - 8 * k) % 256)]) rfl rfl rfl rfl underlying25 inf_u8_5 (by decide) (by decide) (fill_one _ _ rfl ) rfl (bcs_cons (show (m.length * 8) / 2 ^ (56 - 8 * k) % 256 < 256 by omega) rfl) rfl rfl fun ad18 ac w hs => ?_)
   refine stp (op_appR hs none 1 2 (N' := ((rst m ++ tl0 (zs64 (rst m).length)) ++ be8t (m.length * 8) k ++ [UInt8.ofNat ((m.length * 8) / 2 ^ (56 - 8 * k) % 256)]).length) (ys := bcs ((rst m ++ tl0 (zs64 (rst m).length)) ++ be8t (m.length * 8) k ++ [UInt8.ofNat ((m.length * 8) / 2 ^ (56 - 8 * k) % 256)])) rfl rfl rfl rfl rfl rfl underlying25 inf_u8_5 rfl (by decide) (bcs_len1 rfl) (bcs_one _) (by decide) (show ((rst m ++ tl0 (zs64 (rst m).length)) ++ be8t (m.length * 8) k).length + 1 ≤ 1000000 by first | omega | ((try simp only [List.length_drop, List.length_take, List.length_append, List.length_cons, List.length_nil]); omega)) (by simp only [List.length_append, List.length_cons, List.length_nil] <;> omega) (bcs_append _ _) rfl rfl fun ad19 cp20 ac w hs => ?_)
   refine asg hs rfl rfl rfl fun ac hs => ?_
   refine wpList_nil (blk_n (then_n ?_))
   replace hs := hs.nf w0 Z X [0, 2, 4, 3, 5] rfl rfl rfl rfl
   refine wp_region_lit ?_
   refine mvv hs rfl rfl rfl fun ac hs => ?_
   refine bnn hs (.int .i64 (56 - 8 * ((k + 1 : Nat) : Int))) rfl rfl rfl rfl (bin_subI (y := 8) (by omega) (by omega) (by omega)) fun ac hs => ?_
   refine asg hs rfl rfl rfl fun ac hs => ?_
   refine wpList_nil (then_n ?_)
   rw [show (rst m ++ tl0 (zs64 (rst m).length)) ++ be8t (m.length * 8) k ++ [UInt8.ofNat ((m.length * 8) / 2 ^ (56 - 8 * k) % 256)] = (rst m ++ tl0 (zs64 (rst m).length)) ++ be8t (m.length * 8) (k + 1) from (by rw [be8t_succ, ← List.append_assoc])] at hs
   replace hs := hs.selS [0, 1] rfl (by decide)
   exact ⟨_, ⟨(k + 1), ad19, cp20, rfl, (by omega), (hs.re (fs' := [(0, true, ptA gh 0), (2, true, ptA g1 0), (4, true, nu64 (m.length * 8)), (3, true, .slice ad19 (((rst m ++ tl0 (zs64 (rst m).length)) ++ be8t (m.length * 8) (k + 1)).length) cp20), (5, true, .int .i64 (56 - 8 * ((k + 1) : Int)))]) ⟨rfl, rfl, rfl, rfl, rfl, trivial⟩)⟩, (by omega)⟩
  ·skip
   have hp21 := of_decide_eq_false hc
   obtain rfl : k = 8 := by have := of_decide_eq_false hc; omega
   refine wp_exit (then_e (then_e (blk_e (then_n (wp_seq (wp_region_lit ?_))))))
   refine mvv hs rfl rfl rfl fun ac hs => ?_
   refine stp (op_nilCheck hs none rfl rfl rfl rfl fun ac hs => ?_)
   refine stp (op_fieldA hs none rfl rfl rfl underlying114 rfl sizeOf111 (by decide) rfl fun ac hs => ?_)
   refine ldd hs 0 (At .u32 8 (blks HH0 m)) isAgg111 sizeOf111 rfl rfl rfl rfl ldv_tabs fun ac hs => ?_
   refine stp (op_alloc hs none none (cs := (tab .u32 8 (fun _ => 0))) rfl rfl zeroValue111 (by kernel_rfl) rfl rfl fun g22 ac w hs => ?_)
   refine stp (stoo hs 2 ((tab .u32 8 (blks HH0 m))) sizeOf111 rfl rfl rfl rfl rfl (by kernel_rfl) tab_length' (tab_one _ _ _) tab_leA wr_tab fun w hs => ?_)
   refine wpList_nil (then_n (wp_seq (wp_block ?_)))
   replace hs := hs.freeze 1 rfl
   rw [show (rst m ++ tl0 (zs64 (rst m).length)) ++ be8t (m.length * 8) 8 = rst m ++ tl64 (rst m).length m.length from (by unfold tl64; rw [← List.append_assoc]; rfl)] at hs
   refine wp_loop_m (fun μ ac w => ∃ (h1 : Nat → Nat) (l1 : List UInt8) (a1 : Option Addr) (c1 : Nat), (l1.length) = μ ∧ (∀ j, h1 j < 4294967296) ∧ (blks (blks HH0 m) (rst m ++ tl64 (rst m).length m.length) = blks h1 l1) ∧ (l1.length % 64 = 0) ∧ St 81 ⟨w0, [], [(true, .cel (.slice ar ((rst m).length) cr) ((rst m).length) (bcs (rst m))), (true, .cel (.slice a1 l1.length c1) l1.length (bcs l1))], Z, X⟩ [(0, true, ptA gh 0), (2, true, ptA g1 0), (6, true, ptA g22 0), (3, true, .slice a1 l1.length c1)] [(true, gh, 114, (tab .u32 8 (blks HH0 m) ++ ([.slice ar ((rst m).length) cr, nu64 (m.length)] : List Value))), (true, g1, 30, (tab .u8 32 (fun _ => 0))), (true, g22, 111, (tab .u32 8 h1))] ac w) ?_ ?_
   ·exact ⟨_, (blks HH0 m), (rst m ++ tl64 (rst m).length m.length), ao2, co2, rfl, (fun j => blks_lt HH0_lt m j), rfl, (by rw [List.length_append]; exact tl64_len _ _), (hs.re (fs' := [(0, true, ptA gh 0), (2, true, ptA g1 0), (6, true, ptA g22 0), (3, true, .slice ao2 (rst m ++ tl64 (rst m).length m.length).length co2)]) ⟨rfl, rfl, rfl, rfl, trivial⟩)⟩
   intro μ ac w ⟨h1, l1, a1, c1, hμ, hh1, hb1, hm1, hs⟩
   refine wp_seq (wp_seq (wp_region_lit ?_))
   refine mvv hs rfl rfl rfl fun ac hs => ?_
   refine stp (op_blt hs none (v := ni64 (l1.length)) rfl rfl rfl (blt_len underlying25) rfl fun ac hs => ?_)
   refine bnn hs (.bool (decide (0 < l1.length))) rfl rfl rfl rfl (bin_gtrN (y := 0)) fun ac hs => ?_
   refine wpList_nil (then_n ?_)
   refine wp_cond_split (hs.ev rfl) (fun hc => ?_) (fun hc => ?_)
   ·skip
    have hp23 := of_decide_eq_true hc
    have hpos := of_decide_eq_true hc
    have h64 : ¬ l1.length < 64 := by omega
    refine wp_skip (then_n (wp_seq (wp_block (wp_region_lit ?_))))
    refine mvv hs rfl rfl rfl fun ac hs => ?_
    refine stp (op_sliceR hs none none 1 0 64 (N' := (l1.take 64).length) (cs' := bcs (l1.take 64)) rfl rfl rfl rfl (.inl ⟨rfl, rfl⟩) (.inr ⟨_, _, rfl, rfl⟩) underlying25 sizeOf5 (show 0 ≤ 64 by omega) (show 64 ≤ l1.length by omega) (len_hi (show 64 ≤ l1.length by omega)) bcs_hi rfl rfl fun ac hs => ?_)
    refine stp (op_callX (F := 130) (ρ := Unit) hs none none [2] [2] (v := fun r => .tuple #[]) (S1 := [(true, .cel (.slice (vsa a1 c1 1 0) ((l1.take 64).length) (c1 - 0)) ((l1.take 64).length) (bcs (l1.take 64)))]) (bs1 := [(true, g22, 111, (tab .u32 8 h1))]) (E := fun r => [(true, .cel (.slice (vsa a1 c1 1 0) ((l1.take 64).length) (c1 - 0)) ((l1.take 64).length) (bcs (l1.take 64)))]) (E1 := fun r => [(true, .cel (.slice (vsa a1 c1 1 0) ((l1.take 64).length) (c1 - 0)) ((l1.take 64).length) (bcs (l1.take 64)))]) (E2 := fun r => []) (bfA := fun r => [(true, g22, 111, (tab .u32 8 (blk h1 (l1.take 64))))]) (bf := fun r => [(true, g22, 111, (tab .u32 8 (blk h1 (l1.take 64))))]) (bf2 := fun r => []) rfl rfl rfl rfl rfl (call130 _) rfl rfl (by decide) (by decide) (fun Z X hm => take_c g22 111 h1 [] (fun j => hh1 j) (vsa a1 c1 1 0) (c1 - 0) (l1.take 64) (show (l1.take 64).length = 64 by first | omega | ((try simp only [List.length_drop, List.length_take, List.length_append, List.length_cons, List.length_nil]); omega)) _ _ _ hm) (fun _ => rfl) (fun _ => rfl) (fun _ => rfl) (fun _ => rfl) (fun _ => rfl) rfl fun _ ac w hs => ?_)
    refine wpList_nil (blk_n (then_n ?_))
    replace hs := hs.nf w0 Z X [0, 2, 6, 3] rfl rfl rfl rfl
    refine wp_region_lit ?_
    refine mvv hs rfl rfl rfl fun ac hs => ?_
    refine stp (op_sliceR hs none none 1 64 l1.length (N' := (l1.drop 64).length) (cs' := bcs (l1.drop 64)) rfl rfl rfl rfl (.inr ⟨_, _, rfl, rfl⟩) (.inl ⟨rfl, rfl⟩) underlying25 sizeOf5 (show 64 ≤ l1.length by omega) (show l1.length ≤ l1.length by omega) len_lo bcs_lo rfl rfl fun ac hs => ?_)
    refine asg hs rfl rfl rfl fun ac hs => ?_
    refine wpList_nil (then_n ?_)
    replace hs := hs.selS [0, 3] rfl (by decide)
    exact ⟨_, ⟨(blk h1 (l1.take 64)), (l1.drop 64), (vsa a1 c1 1 64), (c1 - 64), rfl, (fun j => blk_lt _ _ j), (hb1.trans (blks_step h64)), (by simp only [List.length_drop]; omega), (hs.re (fs' := [(0, true, ptA gh 0), (2, true, ptA g1 0), (6, true, ptA g22 0), (3, true, .slice (vsa a1 c1 1 64) (l1.drop 64).length (c1 - 64))]) ⟨rfl, rfl, rfl, rfl, trivial⟩)⟩, (by simp only [List.length_drop]; omega)⟩
   ·skip
    have hp24 := of_decide_eq_false hc
    have hl0 : l1 = [] := List.length_eq_zero_iff.1 (by have := of_decide_eq_false hc; omega)
    have hH : shaH m = h1 := by rw [← sha_sum, hb1, hl0, blks_end (by decide)]
    refine wp_exit (then_e (then_e (blk_e (then_n (wp_seq (wp_region_lit ?_))))))
    refine stp (op_alloc hs none none (cs := (tab .u8 32 (fun _ => 0))) rfl rfl zeroValue30 (by kernel_rfl) rfl rfl fun g25 ac w hs => ?_)
    refine wpList_nil (then_n (wp_seq (wp_seq (wp_region_lit ?_))))
    refine ldd hs 2 (At .u32 8 h1) isAgg111 sizeOf111 rfl rfl rfl rfl ldv_tab fun ac hs => ?_
    refine mvv hs rfl rfl rfl fun ac hs => ?_
    refine wpList_nil (then_n (wp_block ?_))
    replace hs := hs.setb 3 (cs' := (tab .u8 32 (outT h1 (4 * 0)))) rfl (tab_ext fun j hj => outT_zero h1 j)
    refine wp_loop_m (fun μ ac w => ∃ (i : Nat), (8 - i) = μ ∧ (i ≤ 8) ∧ St 81 ⟨w0, [], [(true, .cel (.slice ar ((rst m).length) cr) ((rst m).length) (bcs (rst m)))], Z, X⟩ [(0, true, ptA gh 0), (2, true, ptA g1 0), (7, true, ptA g25 0), (59, true, At .u32 8 h1), (60, true, ni64 i)] [(true, gh, 114, (tab .u32 8 (blks HH0 m) ++ ([.slice ar ((rst m).length) cr, nu64 (m.length)] : List Value))), (true, g1, 30, (tab .u8 32 (fun _ => 0))), (true, g22, 111, (tab .u32 8 h1)), (true, g25, 30, (tab .u8 32 (outT h1 (4 * i))))] ac w) ?_ ?_
    replace hs := hs.selS [0] rfl (by decide)
    ·exact ⟨_, 0, rfl, (by omega), (hs.re (fs' := [(0, true, ptA gh 0), (2, true, ptA g1 0), (7, true, ptA g25 0), (59, true, At .u32 8 h1), (60, true, ni64 0)]) ⟨rfl, rfl, rfl, rfl, rfl, trivial⟩)⟩
    intro μ ac w ⟨i, hμ, hi, hs⟩
    refine wp_seq (wp_region_lit ?_)
    refine bnn hs (.bool (decide (i < 8))) rfl rfl rfl rfl (bin_lssN (y := 8)) fun ac hs => ?_
    refine wpList_nil (then_n (wp_seq ?_))
    refine wp_cond_split (hs.ev rfl) (fun hc => ?_) (fun hc => ?_)
    ·skip
     have hp26 := of_decide_eq_true hc
     have hi8 := of_decide_eq_true hc
     refine wp_skip (then_n (wp_seq (wp_block (wp_seq (wp_region_lit ?_)))))
     refine mvv hs rfl rfl rfl fun ac hs => ?_
     have l27 := hh1 i
     refine stp (op_index hs none (v := nu32 (h1 i)) rfl rfl rfl rfl (idx_at (j := i) underlying111 isAgg109 sizeOf109 (show i < 8 by omega)) rfl fun ac hs => ?_)
     refine asg hs rfl rfl rfl fun ac hs => ?_
     refine asg hs rfl rfl rfl fun ac hs => ?_
     refine wpList_nil (then_n (wp_seq (wp_region_lit ?_)))
     refine mvv hs rfl rfl rfl fun ac hs => ?_
     refine wpList_nil (then_n (wp_block ?_))
     replace hs := hs.setb 3 (cs' := (tab .u8 32 (outT h1 (4 * i + 0)))) rfl rfl
     refine wp_loop_m (fun μ ac w => ∃ (k : Nat), (4 - k) = μ ∧ (k ≤ 4) ∧ St 81 ⟨w0, [], [(true, .cel (.slice ar ((rst m).length) cr) ((rst m).length) (bcs (rst m)))], Z, X⟩ [(0, true, ptA gh 0), (2, true, ptA g1 0), (7, true, ptA g25 0), (8, true, ni64 i), (9, true, nu32 (h1 i)), (59, true, At .u32 8 h1), (60, true, ni64 i), (64, true, ni64 k)] [(true, gh, 114, (tab .u32 8 (blks HH0 m) ++ ([.slice ar ((rst m).length) cr, nu64 (m.length)] : List Value))), (true, g1, 30, (tab .u8 32 (fun _ => 0))), (true, g22, 111, (tab .u32 8 h1)), (true, g25, 30, (tab .u8 32 (outT h1 (4 * i + k))))] ac w) ?_ ?_
     ·exact ⟨_, 0, rfl, (by omega), (hs.re (fs' := [(0, true, ptA gh 0), (2, true, ptA g1 0), (7, true, ptA g25 0), (8, true, ni64 i), (9, true, nu32 (h1 i)), (59, true, At .u32 8 h1), (60, true, ni64 i), (64, true, ni64 0)]) ⟨rfl, rfl, rfl, rfl, rfl, rfl, rfl, rfl, trivial⟩)⟩
     intro μ ac w ⟨k, hμ, hk, hs⟩
     refine wp_seq (wp_region_lit ?_)
     refine bnn hs (.bool (decide (k < 4))) rfl rfl rfl rfl (bin_lssN (y := 4)) fun ac hs => ?_
     refine wpList_nil (then_n (wp_seq ?_))
     refine wp_cond_split (hs.ev rfl) (fun hc => ?_) (fun hc => ?_)
     ·skip
      have hp28 := of_decide_eq_true hc
      have hk4 := of_decide_eq_true hc
      refine wp_skip (then_n (wp_seq (wp_block (wp_seq (wp_region_lit ?_)))))
      refine mvv hs rfl rfl rfl fun ac hs => ?_
      refine asg hs rfl rfl rfl fun ac hs => ?_
      refine wpList_nil (then_n (wp_region_lit ?_))
      refine mvv hs rfl rfl rfl fun ac hs => ?_
      refine bnn hs (ni64 (4 * i)) rfl rfl rfl rfl (bin_mulN (x := 4) rfl (show 4 * i < 9223372036854775808 by omega)) fun ac hs => ?_
      refine mvv hs rfl rfl rfl fun ac hs => ?_
      refine bnn hs (ni64 (4 * i + k)) rfl rfl rfl rfl (bin_addN rfl (show 4 * i + k < 9223372036854775808 by omega)) fun ac hs => ?_
      refine mvv hs rfl rfl rfl fun ac hs => ?_
      refine mvv hs rfl rfl rfl fun ac hs => ?_
      refine bnn hs (ni64 (8 * k)) rfl rfl rfl rfl (bin_mulN (x := 8) rfl (show 8 * k < 9223372036854775808 by omega)) fun ac hs => ?_
      refine bnn hs (ni64 (24 - (8 * k))) rfl rfl rfl rfl (bin_subN (x := 24) (by omega) (show 24 - (8 * k) < 9223372036854775808 by omega)) fun ac hs => ?_
      refine bnn hs (.int .u32 (((h1 i) / 2 ^ (24 - (8 * k)) : Nat) : Int)) rfl rfl rfl rfl (bin_shrN (z := (h1 i) / 2 ^ (24 - (8 * k))) rfl (show h1 i < 4294967296 from hh1 i)) fun ac hs => ?_
      refine stp (op_convert hs none (v := .int .u8 (((h1 i) / 2 ^ (24 - (8 * k)) % 256 : Nat) : Int)) rfl rfl rfl (conv_M (z := (h1 i) / 2 ^ (24 - (8 * k)) % 256) rfl underlying109 underlying5 rfl) rfl fun ac hs => ?_)
      refine stp (op_idxA hs none (j := 4 * i + k) rfl rfl rfl rfl underlying30 sizeOf5 (show 4 * i + k < 32 by omega) (off := 4 * i + k) (by omega) rfl fun ac hs => ?_)
      refine stp (stoo hs 3 ([.int .u8 (((h1 i) / 2 ^ (24 - (8 * k)) % 256 : Nat) : Int)]) sizeOf5 rfl rfl rfl rfl rfl rfl rfl rfl (tab_le (j := 4 * i + k) (show 4 * i + k < 32 by omega)) (tab_set) fun w hs => ?_)
      refine wpList_nil (blk_n (then_n ?_))
      replace hs := hs.nf w0 Z X [0, 2, 7, 8, 9, 59, 60, 64] rfl rfl rfl rfl
      refine wp_region_lit ?_
      refine bnn hs (ni64 (k + 1)) rfl rfl rfl rfl (bin_addN (y := 1) rfl (show k + 1 < 9223372036854775808 by omega)) fun ac hs => ?_
      refine mvv hs rfl rfl rfl fun ac hs => ?_
      refine wpList_nil (then_n ?_)
      replace hs := hs.setb 3 (cs' := (tab .u8 32 (outT h1 (4 * i + (k + 1))))) rfl (tab_ext fun j hj => outT_step (shaB_at hk4) j)
      exact ⟨_, ⟨(k + 1), rfl, (by omega), (hs.re (fs' := [(0, true, ptA gh 0), (2, true, ptA g1 0), (7, true, ptA g25 0), (8, true, ni64 i), (9, true, nu32 (h1 i)), (59, true, At .u32 8 h1), (60, true, ni64 i), (64, true, ni64 ((k + 1)))]) ⟨rfl, rfl, rfl, rfl, rfl, rfl, rfl, rfl, trivial⟩)⟩, (by omega)⟩
     ·skip
      have hp29 := of_decide_eq_false hc
      obtain rfl : k = 4 := by have := of_decide_eq_false hc; omega
      replace hs := hs.setb 3 (cs' := (tab .u8 32 (outT h1 (4 * (i + 1))))) rfl (by rw [show 4 * i + 4 = 4 * (i + 1) by omega])
      refine wp_exit (then_e (then_e (blk_e (blk_n (then_n (wp_region_lit ?_))))))
      refine bnn hs (ni64 (i + 1)) rfl rfl rfl rfl (bin_addN (y := 1) rfl (show i + 1 < 9223372036854775808 by omega)) fun ac hs => ?_
      refine mvv hs rfl rfl rfl fun ac hs => ?_
      refine wpList_nil (then_n ?_)
      exact ⟨_, ⟨(i + 1), rfl, (by omega), (hs.re (fs' := [(0, true, ptA gh 0), (2, true, ptA g1 0), (7, true, ptA g25 0), (59, true, At .u32 8 h1), (60, true, ni64 ((i + 1)))]) ⟨rfl, rfl, rfl, rfl, rfl, trivial⟩)⟩, (by omega)⟩
    ·skip
     have hp30 := of_decide_eq_false hc
     obtain rfl : i = 8 := by have := of_decide_eq_false hc; omega
     replace hs := hs.setb 3 (cs' := (tab .u8 32 (shaB h1))) rfl (tab_ext fun j hj => outT_end hj)
     refine wp_exit (then_e (then_e (blk_e (then_n (wp_seq (wp_region_lit ?_))))))
     refine ldd hs 3 (At .u8 32 (shaB h1)) isAgg30 sizeOf30 rfl rfl rfl rfl ldv_tab fun ac hs => ?_
     refine stp (stoo hs 1 ((tab .u8 32 (shaB h1))) sizeOf30 rfl rfl rfl rfl rfl (by kernel_rfl) tab_length' (tab_one _ _ _) tab_leA wr_tab fun w hs => ?_)
     refine wpList_nil (then_n (wp_ret ?_))
     exact bodyPost_ret (res1 rfl (rv_c hs 1 (v := At .u8 32 (shaB h1)) rfl rfl isAgg30 sizeOf30 ldv_tab)) hs.defers ⟨(), by rw [show sha m = shaB h1 from by funext j; unfold sha; rw [hH]], ((hs.selS [0] rfl (by decide)).selB [0] rfl (by decide)).mem⟩
theorem sum_c (ad : Option Addr) (nl c : Nat) (l : List UInt8) (hlen : l.length ≤ 200000) (w0 : World) (Z : Nat → Prop) (hl : ByV w0 Z (.slice ad nl c) l): Calls prog 95 #[.slice ad nl c] w0 fun e w' => Ret w0 Z (ρ := Unit) (fun r => At .u8 32 (sha l)) (fun r => []) e w' := by
 obtain rfl := byv_len hl
 refine enterS (n := 10) (args := [.slice ad l.length c]) (S := [(true, .cel (.slice ad l.length c) l.length (bcs l))]) (Z := Z) func95 rfl rfl (Nat.le_of_ble_eq_true rfl) (sokC hl sok0) rfl fun ac hs => ?_
 refine wp_seq (wp_region_lit ?_)
 refine stp (op_alloc hs none none (cs := (tab .u8 32 (fun _ => 0))) rfl rfl zeroValue30 (by kernel_rfl) rfl rfl fun g1 ac w hs => ?_)
 refine wpList_nil (then_n (wp_seq (wp_region_lit ?_)))
 refine stp (op_callX (F := 96) (ρ := Nat) hs none none [] [] (v := fun r => ptA r 0) (S1 := []) (bs1 := []) (E := fun r => []) (E1 := fun r => []) (E2 := fun r => []) (bfA := fun r => [(true, r, 114, (tab .u32 8 HH0 ++ ([.slice none 0 0, .int .u64 0] : List Value)))]) (bf := fun r => []) (bf2 := fun r => [(true, r, 114, (tab .u32 8 HH0 ++ ([.slice none 0 0, .int .u64 0] : List Value)))]) rfl rfl rfl rfl rfl (call96 _) rfl rfl (by decide) (by decide) (fun Z X hm => new_c _ _ _ hm) (fun _ => rfl) (fun _ => rfl) (fun _ => rfl) (fun _ => rfl) (fun _ => rfl) rfl fun g2 ac w hs => ?_)
 refine asg hs rfl rfl rfl fun ac hs => ?_
 refine wpList_nil (then_n (wp_seq (wp_region_lit ?_)))
 refine mvv hs rfl rfl rfl fun ac hs => ?_
 refine mvv hs rfl rfl rfl fun ac hs => ?_
 replace hs := hs.nilCel none rfl
 replace hs := hs.setb 1 (cs' := (tab .u32 8 (blks HH0 []) ++ ([.slice none ((rst []).length) 0, nu64 (([] : List UInt8).length)] : List Value))) rfl hash0
 replace hs := hs.celEq 1 (N' := (rst []).length) (cs' := bcs (rst [])) rfl rst0.1 rst0.2
 refine stp (op_callX (F := 97) (ρ := Option Addr × Nat) hs none none [1] [1, 0] (v := fun r => .tuple #[]) (S1 := [(true, .cel (.slice none ((rst []).length) 0) ((rst []).length) (bcs (rst []))), (true, .cel (.slice ad l.length c) l.length (bcs l))]) (bs1 := [(true, g2, 114, (tab .u32 8 (blks HH0 []) ++ ([.slice none ((rst []).length) 0, nu64 (([] : List UInt8).length)] : List Value)))]) (E := fun r => [(true, .cel (.slice r.1 ((rst l).length) r.2) ((rst l).length) (bcs (rst l))), (true, .cel (.slice ad l.length c) l.length (bcs l))]) (E1 := fun r => [(true, .cel (.slice r.1 ((rst l).length) r.2) ((rst l).length) (bcs (rst l))), (true, .cel (.slice ad l.length c) l.length (bcs l))]) (E2 := fun r => []) (bfA := fun r => [(true, g2, 114, (tab .u32 8 (blks HH0 l) ++ ([.slice r.1 ((rst l).length) r.2, nu64 ((l).length)] : List Value)))]) (bf := fun r => [(true, g2, 114, (tab .u32 8 (blks HH0 l) ++ ([.slice r.1 ((rst l).length) r.2, nu64 ((l).length)] : List Value)))]) (bf2 := fun r => []) rfl rfl rfl rfl rfl (call97 _) rfl rfl (by decide) (by decide) (fun Z X hm => write_c g2 none 0 ([]) ad c l (show ([]).length + l.length ≤ 900000 by first | omega | ((try simp only [List.length_drop, List.length_take, List.length_append, List.length_cons, List.length_nil]); omega)) _ _ _ hm) (fun _ => rfl) (fun _ => rfl) (fun _ => rfl) (fun _ => rfl) (fun _ => rfl) rfl fun ⟨ad3, cp4⟩ ac w hs => ?_)
 refine wpList_nil (then_n (wp_seq ?_))
 replace hs := hs.nf w0 Z noX [2, 3] rfl rfl rfl rfl
 refine wp_region_lit ?_
 refine mvv hs rfl rfl rfl fun ac hs => ?_
 refine stp (op_callX (F := 98) (ρ := Unit) hs none none [1] [1] (v := fun r => At .u8 32 (sha l)) (S1 := [(true, .cel (.slice ad3 ((rst l).length) cp4) ((rst l).length) (bcs (rst l)))]) (bs1 := [(true, g2, 114, (tab .u32 8 (blks HH0 l) ++ ([.slice ad3 ((rst l).length) cp4, nu64 ((l).length)] : List Value)))]) (E := fun r => [(true, .cel (.slice ad3 ((rst l).length) cp4) ((rst l).length) (bcs (rst l)))]) (E1 := fun r => [(true, .cel (.slice ad3 ((rst l).length) cp4) ((rst l).length) (bcs (rst l)))]) (E2 := fun r => []) (bfA := fun r => [(true, g2, 114, (tab .u32 8 (blks HH0 l) ++ ([.slice ad3 ((rst l).length) cp4, nu64 ((l).length)] : List Value)))]) (bf := fun r => [(true, g2, 114, (tab .u32 8 (blks HH0 l) ++ ([.slice ad3 ((rst l).length) cp4, nu64 ((l).length)] : List Value)))]) (bf2 := fun r => []) rfl rfl rfl rfl rfl (call98 _) rfl rfl (by decide) (by decide) (fun Z X hm => hsum_c g2 ad3 cp4 l (show l.length ≤ 900000 by omega) _ _ _ hm) (fun _ => rfl) (fun _ => rfl) (fun _ => rfl) (fun _ => rfl) (fun _ => rfl) rfl fun _ ac w hs => ?_)
 refine stp (stoo hs 0 ((tab .u8 32 (sha l))) sizeOf30 rfl rfl rfl rfl rfl (by kernel_rfl) tab_length' (tab_one _ _ _) tab_leA wr_tab fun w hs => ?_)
 refine wpList_nil (then_n (wp_ret ?_))
 exact bodyPost_ret (res1 rfl (rv_c hs 0 (v := At .u8 32 (sha l)) rfl rfl isAgg30 sizeOf30 ldv_tab)) hs.defers ⟨(), rfl, hs.bel rfl, okl0⟩
theorem tagged_c (t : List UInt8) (ad : Option Addr) (nl c : Nat) (l : List UInt8) (htl : t.length ≤ 1000) (hlen : l.length ≤ 100000) (w0 : World) (Z : Nat → Prop) (hl : ByV w0 Z (.slice ad nl c) l): Calls prog 54 #[.string (txt t), .slice ad nl c] w0 fun e w' => Ret w0 Z (ρ := Unit) (fun r => At .u8 32 (tagH t l)) (fun r => []) e w' := by
 obtain rfl := byv_len hl
 have hb32 := btl_len 32 (sha t)
 refine enterS (n := 22) (args := [.string (txt t), .slice ad l.length c]) (S := [(true, .cel (.slice ad l.length c) l.length (bcs l))]) (Z := Z) func54 rfl rfl (Nat.le_of_ble_eq_true rfl) (sokC hl sok0) rfl fun ac hs => ?_
 refine wp_seq (wp_region_lit ?_)
 refine stp (op_alloc hs none none (cs := (tab .u8 32 (fun _ => 0))) rfl rfl zeroValue30 (by kernel_rfl) rfl rfl fun g1 ac w hs => ?_)
 refine wpList_nil (then_n (wp_seq (wp_region_lit ?_)))
 refine mvv hs rfl rfl rfl fun ac hs => ?_
 refine stp (op_convSB' hs none none (l := t) rfl rfl rfl underlying9 underlying25 underlying5 (show t.length ≤ 1000000 by omega) rfl rfl (run_convSB _ underlying9 underlying25 underlying5 (show t.length ≤ 1000000 by omega)) fun ad2 cp3 ac w hs => ?_)
 refine stp (op_callS (F := 95) (ρ := Unit) hs none none (v := fun r => At .u8 32 (sha t)) (E := fun r => []) (j := 0) rfl rfl rfl rfl (call95 _) (fun hs => sum_c ad2 t.length cp3 t (show t.length ≤ 200000 by omega) _ _ (hs.all (k := 1) rfl rfl)) (fun _ => rfl) rfl rfl fun _ ac w hs => ?_)
 refine stp (op_alloc hs none none (cs := (tab .u8 32 (fun _ => 0))) rfl rfl zeroValue30 (by kernel_rfl) rfl rfl fun g4 ac w hs => ?_)
 refine stp (stoo hs 1 ((tab .u8 32 (sha t))) sizeOf30 rfl rfl rfl rfl rfl (by kernel_rfl) tab_length' (tab_one _ _ _) tab_leA wr_tab fun w hs => ?_)
 refine wpList_nil (then_n (wp_seq ?_))
 replace hs := hs.nf w0 Z noX [1, 4, 5] rfl rfl rfl rfl
 refine wp_region_lit ?_
 refine stp (op_callX (F := 96) (ρ := Nat) hs none none [] [] (v := fun r => ptA r 0) (S1 := []) (bs1 := []) (E := fun r => []) (E1 := fun r => []) (E2 := fun r => []) (bfA := fun r => [(true, r, 114, (tab .u32 8 HH0 ++ ([.slice none 0 0, .int .u64 0] : List Value)))]) (bf := fun r => []) (bf2 := fun r => [(true, r, 114, (tab .u32 8 HH0 ++ ([.slice none 0 0, .int .u64 0] : List Value)))]) rfl rfl rfl rfl rfl (call96 _) rfl rfl (by decide) (by decide) (fun Z X hm => new_c _ _ _ hm) (fun _ => rfl) (fun _ => rfl) (fun _ => rfl) (fun _ => rfl) (fun _ => rfl) rfl fun g5 ac w hs => ?_)
 refine asg hs rfl rfl rfl fun ac hs => ?_
 refine wpList_nil (then_n (wp_seq (wp_region_lit ?_)))
 refine mvv hs rfl rfl rfl fun ac hs => ?_
 replace hs := hs.arrCel none 1 (n0 := 32) (f := sha t) rfl (fun j hj => sha_lt t j) (by decide) rfl
 replace hs := hs.selB [0, 2] rfl (by decide)
 refine stp (op_val hs none (v := .slice (some ⟨g4, 0, none⟩) 32 32) rfl rfl (run_slA rfl (hs.ev rfl) underlying30 sizeOf5) fun ac hs => ?_)
 replace hs := hs.nilCel none rfl
 replace hs := hs.setb 1 (cs' := (tab .u32 8 (blks HH0 []) ++ ([.slice none ((rst []).length) 0, nu64 (([] : List UInt8).length)] : List Value))) rfl hash0
 replace hs := hs.celEq 3 (N' := (rst []).length) (cs' := bcs (rst [])) rfl rst0.1 rst0.2
 refine stp (op_callX (F := 97) (ρ := Option Addr × Nat) hs none none [1] [3, 2] (v := fun r => .tuple #[]) (S1 := [(true, .cel (.slice none ((rst []).length) 0) ((rst []).length) (bcs (rst []))), (true, .cel (.slice (some ⟨g4, 0, none⟩) 32 32) 32 (bcs (btl 32 (sha t))))]) (bs1 := [(true, g5, 114, (tab .u32 8 (blks HH0 []) ++ ([.slice none ((rst []).length) 0, nu64 (([] : List UInt8).length)] : List Value)))]) (E := fun r => [(true, .cel (.slice r.1 ((rst (btl 32 (sha t))).length) r.2) ((rst (btl 32 (sha t))).length) (bcs (rst (btl 32 (sha t))))), (true, .cel (.slice (some ⟨g4, 0, none⟩) 32 32) 32 (bcs (btl 32 (sha t))))]) (E1 := fun r => [(true, .cel (.slice r.1 ((rst (btl 32 (sha t))).length) r.2) ((rst (btl 32 (sha t))).length) (bcs (rst (btl 32 (sha t))))), (true, .cel (.slice (some ⟨g4, 0, none⟩) 32 32) 32 (bcs (btl 32 (sha t))))]) (E2 := fun r => []) (bfA := fun r => [(true, g5, 114, (tab .u32 8 (blks HH0 (btl 32 (sha t))) ++ ([.slice r.1 ((rst (btl 32 (sha t))).length) r.2, nu64 ((btl 32 (sha t)).length)] : List Value)))]) (bf := fun r => [(true, g5, 114, (tab .u32 8 (blks HH0 (btl 32 (sha t))) ++ ([.slice r.1 ((rst (btl 32 (sha t))).length) r.2, nu64 ((btl 32 (sha t)).length)] : List Value)))]) (bf2 := fun r => []) rfl rfl rfl rfl rfl (call97 _) rfl rfl (by decide) (by decide) (fun Z X hm => write_c g5 none 0 ([]) (some ⟨g4, 0, none⟩) 32 (btl 32 (sha t)) (show ([]).length + (btl 32 (sha t)).length ≤ 900000 by first | omega | ((try simp only [List.length_drop, List.length_take, List.length_append, List.length_cons, List.length_nil]); omega)) _ _ _ hm) (fun _ => rfl) (fun _ => rfl) (fun _ => rfl) (fun _ => rfl) (fun _ => rfl) rfl fun ⟨ad6, cp7⟩ ac w hs => ?_)
 refine wpList_nil (then_n (wp_seq (wp_region_lit ?_)))
 refine mvv hs rfl rfl rfl fun ac hs => ?_
 refine stp (op_val hs none (v := .slice (some ⟨g4, 0, none⟩) 32 32) rfl rfl (run_slA rfl (hs.ev rfl) underlying30 sizeOf5) fun ac hs => ?_)
 refine stp (op_callX (F := 97) (ρ := Option Addr × Nat) hs none none [1] [3, 2] (v := fun r => .tuple #[]) (S1 := [(true, .cel (.slice ad6 ((rst (btl 32 (sha t))).length) cp7) ((rst (btl 32 (sha t))).length) (bcs (rst (btl 32 (sha t))))), (true, .cel (.slice (some ⟨g4, 0, none⟩) 32 32) 32 (bcs (btl 32 (sha t))))]) (bs1 := [(true, g5, 114, (tab .u32 8 (blks HH0 (btl 32 (sha t))) ++ ([.slice ad6 ((rst (btl 32 (sha t))).length) cp7, nu64 ((btl 32 (sha t)).length)] : List Value)))]) (E := fun r => [(true, .cel (.slice r.1 ((rst ((btl 32 (sha t)) ++ (btl 32 (sha t)))).length) r.2) ((rst ((btl 32 (sha t)) ++ (btl 32 (sha t)))).length) (bcs (rst ((btl 32 (sha t)) ++ (btl 32 (sha t)))))), (true, .cel (.slice (some ⟨g4, 0, none⟩) 32 32) 32 (bcs (btl 32 (sha t))))]) (E1 := fun r => [(true, .cel (.slice r.1 ((rst ((btl 32 (sha t)) ++ (btl 32 (sha t)))).length) r.2) ((rst ((btl 32 (sha t)) ++ (btl 32 (sha t)))).length) (bcs (rst ((btl 32 (sha t)) ++ (btl 32 (sha t)))))), (true, .cel (.slice (some ⟨g4, 0, none⟩) 32 32) 32 (bcs (btl 32 (sha t))))]) (E2 := fun r => []) (bfA := fun r => [(true, g5, 114, (tab .u32 8 (blks HH0 ((btl 32 (sha t)) ++ (btl 32 (sha t)))) ++ ([.slice r.1 ((rst ((btl 32 (sha t)) ++ (btl 32 (sha t)))).length) r.2, .int .u64 ((((btl 32 (sha t)) ++ (btl 32 (sha t))).length : Nat) : Int)] : List Value)))]) (bf := fun r => [(true, g5, 114, (tab .u32 8 (blks HH0 ((btl 32 (sha t)) ++ (btl 32 (sha t)))) ++ ([.slice r.1 ((rst ((btl 32 (sha t)) ++ (btl 32 (sha t)))).length) r.2, .int .u64 ((((btl 32 (sha t)) ++ (btl 32 (sha t))).length : Nat) : Int)] : List Value)))]) (bf2 := fun r => []) rfl rfl rfl rfl rfl (call97 _) rfl rfl (by decide) (by decide) (fun Z X hm => write_c g5 ad6 cp7 (btl 32 (sha t)) (some ⟨g4, 0, none⟩) 32 (btl 32 (sha t)) (show (btl 32 (sha t)).length + (btl 32 (sha t)).length ≤ 900000 by omega) _ _ _ hm) (fun _ => rfl) (fun _ => rfl) (fun _ => rfl) (fun _ => rfl) (fun _ => rfl) rfl fun ⟨ad8, cp9⟩ ac w hs => ?_)
 refine wpList_nil (then_n (wp_seq ?_))
 replace hs := hs.nf w0 Z noX [1, 4, 6] rfl rfl rfl rfl
 refine wp_region_lit ?_
 refine mvv hs rfl rfl rfl fun ac hs => ?_
 refine mvv hs rfl rfl rfl fun ac hs => ?_
 refine stp (op_callX (F := 97) (ρ := Option Addr × Nat) hs none none [1] [3, 0] (v := fun r => .tuple #[]) (S1 := [(true, .cel (.slice ad8 ((rst ((btl 32 (sha t)) ++ (btl 32 (sha t)))).length) cp9) ((rst ((btl 32 (sha t)) ++ (btl 32 (sha t)))).length) (bcs (rst ((btl 32 (sha t)) ++ (btl 32 (sha t)))))), (true, .cel (.slice ad l.length c) l.length (bcs l))]) (bs1 := [(true, g5, 114, (tab .u32 8 (blks HH0 ((btl 32 (sha t)) ++ (btl 32 (sha t)))) ++ ([.slice ad8 ((rst ((btl 32 (sha t)) ++ (btl 32 (sha t)))).length) cp9, .int .u64 ((((btl 32 (sha t)) ++ (btl 32 (sha t))).length : Nat) : Int)] : List Value)))]) (E := fun r => [(true, .cel (.slice r.1 ((rst (((btl 32 (sha t)) ++ (btl 32 (sha t))) ++ l)).length) r.2) ((rst (((btl 32 (sha t)) ++ (btl 32 (sha t))) ++ l)).length) (bcs (rst (((btl 32 (sha t)) ++ (btl 32 (sha t))) ++ l)))), (true, .cel (.slice ad l.length c) l.length (bcs l))]) (E1 := fun r => [(true, .cel (.slice r.1 ((rst (((btl 32 (sha t)) ++ (btl 32 (sha t))) ++ l)).length) r.2) ((rst (((btl 32 (sha t)) ++ (btl 32 (sha t))) ++ l)).length) (bcs (rst (((btl 32 (sha t)) ++ (btl 32 (sha t))) ++ l)))), (true, .cel (.slice ad l.length c) l.length (bcs l))]) (E2 := fun r => []) (bfA := fun r => [(true, g5, 114, (tab .u32 8 (blks HH0 (((btl 32 (sha t)) ++ (btl 32 (sha t))) ++ l)) ++ ([.slice r.1 ((rst (((btl 32 (sha t)) ++ (btl 32 (sha t))) ++ l)).length) r.2, .int .u64 (((((btl 32 (sha t)) ++ (btl 32 (sha t))) ++ l).length : Nat) : Int)] : List Value)))]) (bf := fun r => [(true, g5, 114, (tab .u32 8 (blks HH0 (((btl 32 (sha t)) ++ (btl 32 (sha t))) ++ l)) ++ ([.slice r.1 ((rst (((btl 32 (sha t)) ++ (btl 32 (sha t))) ++ l)).length) r.2, .int .u64 (((((btl 32 (sha t)) ++ (btl 32 (sha t))) ++ l).length : Nat) : Int)] : List Value)))]) (bf2 := fun r => []) rfl rfl rfl rfl rfl (call97 _) rfl rfl (by decide) (by decide) (fun Z X hm => write_c g5 ad8 cp9 ((btl 32 (sha t)) ++ (btl 32 (sha t))) ad c l (show ((btl 32 (sha t)) ++ (btl 32 (sha t))).length + l.length ≤ 900000 by first | omega | ((try simp only [List.length_drop, List.length_take, List.length_append, List.length_cons, List.length_nil]); omega)) _ _ _ hm) (fun _ => rfl) (fun _ => rfl) (fun _ => rfl) (fun _ => rfl) (fun _ => rfl) rfl fun ⟨ad10, cp11⟩ ac w hs => ?_)
 refine wpList_nil (then_n (wp_seq (wp_region_lit ?_)))
 refine mvv hs rfl rfl rfl fun ac hs => ?_
 refine stp (op_callX (F := 98) (ρ := Unit) hs none none [1] [3] (v := fun r => At .u8 32 (sha (((btl 32 (sha t)) ++ (btl 32 (sha t))) ++ l))) (S1 := [(true, .cel (.slice ad10 ((rst (((btl 32 (sha t)) ++ (btl 32 (sha t))) ++ l)).length) cp11) ((rst (((btl 32 (sha t)) ++ (btl 32 (sha t))) ++ l)).length) (bcs (rst (((btl 32 (sha t)) ++ (btl 32 (sha t))) ++ l))))]) (bs1 := [(true, g5, 114, (tab .u32 8 (blks HH0 (((btl 32 (sha t)) ++ (btl 32 (sha t))) ++ l)) ++ ([.slice ad10 ((rst (((btl 32 (sha t)) ++ (btl 32 (sha t))) ++ l)).length) cp11, .int .u64 (((((btl 32 (sha t)) ++ (btl 32 (sha t))) ++ l).length : Nat) : Int)] : List Value)))]) (E := fun r => [(true, .cel (.slice ad10 ((rst (((btl 32 (sha t)) ++ (btl 32 (sha t))) ++ l)).length) cp11) ((rst (((btl 32 (sha t)) ++ (btl 32 (sha t))) ++ l)).length) (bcs (rst (((btl 32 (sha t)) ++ (btl 32 (sha t))) ++ l))))]) (E1 := fun r => [(true, .cel (.slice ad10 ((rst (((btl 32 (sha t)) ++ (btl 32 (sha t))) ++ l)).length) cp11) ((rst (((btl 32 (sha t)) ++ (btl 32 (sha t))) ++ l)).length) (bcs (rst (((btl 32 (sha t)) ++ (btl 32 (sha t))) ++ l))))]) (E2 := fun r => []) (bfA := fun r => [(true, g5, 114, (tab .u32 8 (blks HH0 (((btl 32 (sha t)) ++ (btl 32 (sha t))) ++ l)) ++ ([.slice ad10 ((rst (((btl 32 (sha t)) ++ (btl 32 (sha t))) ++ l)).length) cp11, .int .u64 (((((btl 32 (sha t)) ++ (btl 32 (sha t))) ++ l).length : Nat) : Int)] : List Value)))]) (bf := fun r => [(true, g5, 114, (tab .u32 8 (blks HH0 (((btl 32 (sha t)) ++ (btl 32 (sha t))) ++ l)) ++ ([.slice ad10 ((rst (((btl 32 (sha t)) ++ (btl 32 (sha t))) ++ l)).length) cp11, .int .u64 (((((btl 32 (sha t)) ++ (btl 32 (sha t))) ++ l).length : Nat) : Int)] : List Value)))]) (bf2 := fun r => []) rfl rfl rfl rfl rfl (call98 _) rfl rfl (by decide) (by decide) (fun Z X hm => hsum_c g5 ad10 cp11 (((btl 32 (sha t)) ++ (btl 32 (sha t))) ++ l) (show (((btl 32 (sha t)) ++ (btl 32 (sha t))) ++ l).length ≤ 900000 by first | omega | ((try simp only [List.length_drop, List.length_take, List.length_append, List.length_cons, List.length_nil]); omega)) _ _ _ hm) (fun _ => rfl) (fun _ => rfl) (fun _ => rfl) (fun _ => rfl) (fun _ => rfl) rfl fun _ ac w hs => ?_)
 refine stp (stoo hs 0 ((tab .u8 32 (sha (((btl 32 (sha t)) ++ (btl 32 (sha t))) ++ l)))) sizeOf30 rfl rfl rfl rfl rfl (by kernel_rfl) tab_length' (tab_one _ _ _) tab_leA wr_tab fun w hs => ?_)
 refine wpList_nil (then_n (wp_ret ?_))
 exact bodyPost_ret (res1 rfl (rv_c hs 0 (v := At .u8 32 (sha (((btl 32 (sha t)) ++ (btl 32 (sha t))) ++ l))) rfl rfl isAgg30 sizeOf30 ldv_tab)) hs.defers ⟨(), rfl, hs.bel rfl, okl0⟩
end Go.Proofs.YtejbajgpiecjcaaGreat

/- The contracts of the reference's sums modulo the order; the law of sums. -/
namespace Go.Proofs.YtejbajgpiecjcaaGreat
open Go.RowKit _root_.Go.Proofs.Tryz
set_option maxRecDepth 10000
theorem rneg_eq {r : Nat} (h : r < Nord) (h0 : ¬ r = 0) : (Nord + 2 ^ 256 - r) % 2 ^ 256 = (Nord - r) % Nord := by
 have := Nord_lt
 rw [show Nord + 2 ^ 256 - r = (Nord - r) + 2 ^ 256 by omega, Nat.add_mod_right, Nat.mod_eq_of_lt (by omega), Nat.mod_eq_of_lt (by omega)]
theorem rorder_c  (w0 : World) : Calls prog 61 #[] w0 fun e w' => e = .returned (W Nord) ∧ Below w0.heap.size w0 w' := by
 refine enter (n := 2) (args := []) func61 rfl rfl (Nat.le_of_ble_eq_true rfl) fun ac hs => ?_
 refine wp_seq (wp_region_lit ?_)
 refine stp (op_alloc hs none none (cs := [.int .u64 0, .int .u64 0, .int .u64 0, .int .u64 0]) rfl rfl zeroValue24 (by kernel_rfl) rfl rfl fun g1 ac w hs => ?_)
 refine wpList_nil (then_n (wp_seq (wp_region_lit ?_)))
 refine stp (op_build hs none (qs := [(0, .int .u64 13822214165235122497), (1, .int .u64 13451932020343611451), (2, .int .u64 18446744073709551614), (3, .int .u64 18446744073709551615)]) (v := .agg #[.int .u64 13822214165235122497, .int .u64 13451932020343611451, .int .u64 18446744073709551614, .int .u64 18446744073709551615]) rfl rfl rfl rfl (fun _ => by kernel_rfl) rfl fun ac hs => ?_)
 refine stp (stoo hs 0 ([.int .u64 13822214165235122497, .int .u64 13451932020343611451, .int .u64 18446744073709551614, .int .u64 18446744073709551615]) sizeOf24 rfl rfl rfl rfl rfl rfl rfl rfl rfl rfl fun w hs => ?_)
 refine wpList_nil (then_n (wp_ret ?_))
 exact bodyPost_ret (res1 rfl (rv_c hs 0 (v := .agg #[.int .u64 13822214165235122497, .int .u64 13451932020343611451, .int .u64 18446744073709551614, .int .u64 18446744073709551615]) rfl rfl isAgg24 sizeOf24 rfl)) hs.defers ⟨by kernel_rfl, (hs.bel rfl)⟩
theorem rred_c (a x : Nat) (ha : a < 2 ^ 256) (hx : a % Nord = x) (w0 : World) : Calls prog 55 #[W a] w0 fun e w' => e = .returned (W x) ∧ Below w0.heap.size w0 w' := by
 refine enter (n := 15) (args := [W a]) func55 rfl rfl (Nat.le_of_ble_eq_true rfl) fun ac hs => ?_
 refine wp_seq (wp_region_lit ?_)
 refine stp (op_box hs none none (cs := (Wl a)) rfl rfl rfl rfl rfl rfl fun g1 ac w hs => ?_)
 refine stp (op_alloc hs none none (cs := [.int .u64 0, .int .u64 0, .int .u64 0, .int .u64 0]) rfl rfl zeroValue24 (by kernel_rfl) rfl rfl fun g2 ac w hs => ?_)
 refine wpList_nil (then_n (wp_seq ?_))
 replace hs := hs.n0 [1, 2] rfl rfl
 obtain ⟨d3, hd3, ld3⟩ : ∃ z0, (a + 2 ^ 256 - Nord) % 2 ^ 256 = z0 ∧ z0 < 2 ^ 256 := ⟨_, rfl, Nat.mod_lt _ (Nat.two_pow_pos 256)⟩
 obtain ⟨c4, hc4⟩ : ∃ z0, bor a Nord = z0 := ⟨_, rfl⟩
 refine region_inv [([], [2, 3, 4, 5, 7, 8]), ([], [2, 3, 4, 5, 7, 8]), ([0, 1], [3, 4, 5, 7, 8]), ([0, 1, 2], [4, 5, 7, 8]), (rgn 0 4, [7, 8]), (rgn 0 4, [8]), ([], [7, 8]), ([0, 1, 2, 3, 4, 6], [8]), (rgn 0 8, [])] (fun L ac w => ∃ (g5 : Nat), St 15 w0 [(6, L 0, W a), (7, L 1, W Nord), (8, L 2, .tuple #[W d3, nu64 c4]), (5, L 3, .tuple #[W d3, nu64 c4]), (9, L 4, W d3), (10, L 5, nu64 c4), (3, L 6, ptA g5 0), (4, L 8, nu64 c4), (1, true, ptA g1 0), (2, true, ptA g2 0)] [(true, g1, 24, (Wl a)), (true, g2, 24, [.int .u64 0, .int .u64 0, .int .u64 0, .int .u64 0]), (L 6, g5, 24, (cond (L 7) (Wl d3) [.int .u64 0, .int .u64 0, .int .u64 0, .int .u64 0]))] ac w) (by kernel_rfl) (by kernel_rfl) ?_ ?_ ?_
 ·exact ⟨0, hs.drew.skip.skip.skip.skip.skip.skip.skip.skip.pad⟩
 ·refine ⟨?_, ?_, ?_, ?_, ?_, ?_, ?_, ?_, ?_, trivial⟩
  ·exact fun L ac w ⟨g5, hs⟩ => pln (oldd hs 0 0 (W a) isAgg24 sizeOf24 rfl rfl rfl rfl rfl fun ac hs => ⟨g5, hs⟩)
  ·exact fun L ac w ⟨g5, hs⟩ => pln (op_call (F := 61) hs (some 1) (v := W Nord) rfl rfl rfl rfl (call61 _) rorder_c rfl fun ac w hs => ⟨g5, hs⟩)
  ·exact fun L ac w ⟨g5, hs⟩ => pln (op_call (F := 60) hs (some 2) (v := .tuple #[W d3, nu64 c4]) rfl rfl rfl rfl (call60 _) (less_at a Nord d3 c4 ha Nord_lt hd3 hc4) rfl fun ac w hs => ⟨g5, hs⟩)
  ·exact fun L ac w ⟨g5, hs⟩ => pln (omv hs 3 rfl rfl rfl fun ac hs => ⟨g5, hs⟩)
  ·exact fun L ac w ⟨g5, hs⟩ => pln (xtr hs (some 4) rfl rfl rfl rfl rfl fun ac hs => ⟨g5, hs⟩)
  ·exact fun L ac w ⟨g5, hs⟩ => pln (xtr hs (some 5) rfl rfl rfl rfl rfl fun ac hs => ⟨g5, hs⟩)
  ·exact fun L ac w ⟨g5, hs⟩ => pln (op_alloc hs (some 6) (some 2) (cs := [.int .u64 0, .int .u64 0, .int .u64 0, .int .u64 0]) rfl rfl zeroValue24 (by kernel_rfl) rfl rfl fun g5 ac w hs => ⟨g5, hs⟩)
  ·exact fun L ac w ⟨g5, hs⟩ => pln (stoo hs 2 ((Wl d3)) sizeOf24 rfl rfl rfl rfl rfl rfl rfl rfl rfl rfl fun w hs => ⟨g5, hs⟩)
  ·exact fun L ac w ⟨g5, hs⟩ => pln (oas hs 7 rfl rfl rfl fun ac hs => ⟨g5, hs⟩)
 intro ac w ⟨g5, hs⟩
 try dsimp only [cond_true] at hs
 refine then_n (wp_seq (wp_seq (wp_region_lit ?_)))
 refine mvv hs rfl rfl rfl fun ac hs => ?_
 refine bnn hs (.bool (decide (c4 = 1))) rfl rfl rfl rfl (bin_eqlN (y := 1)) fun ac hs => ?_
 refine wpList_nil (then_n ?_)
 refine wp_cond_split (hs.ev rfl) (fun hc => ?_) (fun hc => ?_)
 ·skip
  have hp6 := of_decide_eq_true hc
  refine wp_seq (wp_region_lit ?_)
  refine ldd hs 0 (W a) isAgg24 sizeOf24 rfl rfl rfl rfl rfl fun ac hs => ?_
  refine stp (stoo hs 1 ((Wl a)) sizeOf24 rfl rfl rfl rfl rfl rfl rfl rfl rfl rfl fun w hs => ?_)
  refine wpList_nil (then_n (wp_ret (then_r ?_)))
  exact bodyPost_ret (res1 rfl (rv_c hs 1 (v := W a) rfl rfl isAgg24 sizeOf24 rfl)) hs.defers ⟨by rw [← hx, ← rred_lo Nord_big Nord_lt ha hc4 hp6], (hs.bel rfl)⟩
 ·skip
  have hp7 := of_decide_eq_false hc
  refine wp_skip (then_n (wp_seq (wp_region_lit ?_)))
  refine ldd hs 2 (W d3) isAgg24 sizeOf24 rfl rfl rfl rfl rfl fun ac hs => ?_
  refine stp (stoo hs 1 ((Wl d3)) sizeOf24 rfl rfl rfl rfl rfl rfl rfl rfl rfl rfl fun w hs => ?_)
  refine wpList_nil (then_n (wp_ret ?_))
  exact bodyPost_ret (res1 rfl (rv_c hs 1 (v := W d3) rfl rfl isAgg24 sizeOf24 rfl)) hs.defers ⟨by rw [← hx, ← rred_hi Nord_big Nord_lt ha hd3 hc4 hp7], (hs.bel rfl)⟩
theorem rsadd_c (a b x : Nat) (ha : a < 2 ^ 256) (hb : b < 2 ^ 256) (hx : (a + b) % Nord = x) (w0 : World) : Calls prog 28 #[W a, W b] w0 fun e w' => e = .returned (W x) ∧ Below w0.heap.size w0 w' := by
 refine enter (n := 31) (args := [W a, W b]) func28 rfl rfl (Nat.le_of_ble_eq_true rfl) fun ac hs => ?_
 refine wp_seq (wp_region_lit ?_)
 refine stp (op_box hs none none (cs := (Wl a)) rfl rfl rfl rfl rfl rfl fun g1 ac w hs => ?_)
 refine stp (op_box hs none none (cs := (Wl b)) rfl rfl rfl rfl rfl rfl fun g2 ac w hs => ?_)
 refine stp (op_alloc hs none none (cs := [.int .u64 0, .int .u64 0, .int .u64 0, .int .u64 0]) rfl rfl zeroValue24 (by kernel_rfl) rfl rfl fun g3 ac w hs => ?_)
 refine wpList_nil (then_n (wp_seq ?_))
 replace hs := hs.n0 [2, 3, 4] rfl rfl
 obtain ⟨r4, hr4, lr4⟩ : ∃ z0, a % Nord = z0 ∧ z0 < 2 ^ 256 := ⟨_, rfl, modN_lt _⟩
 obtain ⟨r5, hr5, lr5⟩ : ∃ z0, b % Nord = z0 ∧ z0 < 2 ^ 256 := ⟨_, rfl, modN_lt _⟩
 obtain ⟨s6, hs6, ls6⟩ : ∃ z0, (r4 + r5) % 2 ^ 256 = z0 ∧ z0 < 2 ^ 256 := ⟨_, rfl, Nat.mod_lt _ (Nat.two_pow_pos 256)⟩
 obtain ⟨c7, hc7⟩ : ∃ z0, (r4 + r5) / 2 ^ 256 = z0 := ⟨_, rfl⟩
 refine region_inv [([], [1, 3, 4, 5, 6, 7, 9, 10]), ([0], [3, 4, 5, 6, 7, 9, 10]), ([], [3, 4, 5, 6, 7, 9, 10]), ([0, 1, 2], [4, 5, 6, 7, 9, 10]), (rgn 0 4, [5, 6, 7, 9, 10]), (rgn 0 5, [6, 7, 9, 10]), (rgn 0 6, [9, 10]), (rgn 0 6, [10]), ([], [9, 10]), ([0, 1, 2, 3, 4, 5, 6, 8], [10]), (rgn 0 10, [])] (fun L ac w => ∃ (g8 : Nat), St 31 w0 [(10, L 0, W a), (11, L 1, W r4), (12, L 2, W b), (13, L 3, W r5), (14, L 4, .tuple #[W s6, nu64 c7]), (9, L 5, .tuple #[W s6, nu64 c7]), (15, L 6, W s6), (16, L 7, nu64 c7), (5, L 8, ptA g8 0), (6, L 10, nu64 c7), (2, true, ptA g1 0), (3, true, ptA g2 0), (4, true, ptA g3 0)] [(true, g1, 24, (Wl a)), (true, g2, 24, (Wl b)), (true, g3, 24, [.int .u64 0, .int .u64 0, .int .u64 0, .int .u64 0]), (L 8, g8, 24, (cond (L 9) (Wl s6) [.int .u64 0, .int .u64 0, .int .u64 0, .int .u64 0]))] ac w) (by kernel_rfl) (by kernel_rfl) ?_ ?_ ?_
 ·exact ⟨0, hs.drew.skip.skip.skip.skip.skip.skip.skip.skip.skip.skip.pad⟩
 ·refine ⟨?_, ?_, ?_, ?_, ?_, ?_, ?_, ?_, ?_, ?_, ?_, trivial⟩
  ·exact fun L ac w ⟨g8, hs⟩ => pln (oldd hs 0 0 (W a) isAgg24 sizeOf24 rfl rfl rfl rfl rfl fun ac hs => ⟨g8, hs⟩)
  ·exact fun L ac w ⟨g8, hs⟩ => pln (op_call (F := 55) hs (some 1) (v := W r4) rfl rfl rfl rfl (call55 _) (rred_c a r4 ha hr4) rfl fun ac w hs => ⟨g8, hs⟩)
  ·exact fun L ac w ⟨g8, hs⟩ => pln (oldd hs 2 1 (W b) isAgg24 sizeOf24 rfl rfl rfl rfl rfl fun ac hs => ⟨g8, hs⟩)
  ·exact fun L ac w ⟨g8, hs⟩ => pln (op_call (F := 55) hs (some 3) (v := W r5) rfl rfl rfl rfl (call55 _) (rred_c b r5 hb hr5) rfl fun ac w hs => ⟨g8, hs⟩)
  ·exact fun L ac w ⟨g8, hs⟩ => pln (op_call (F := 59) hs (some 4) (v := .tuple #[W s6, nu64 c7]) rfl rfl rfl rfl (call59 _) (more_at r4 r5 s6 c7 lr4 lr5 hs6 hc7) rfl fun ac w hs => ⟨g8, hs⟩)
  ·exact fun L ac w ⟨g8, hs⟩ => pln (omv hs 5 rfl rfl rfl fun ac hs => ⟨g8, hs⟩)
  ·exact fun L ac w ⟨g8, hs⟩ => pln (xtr hs (some 6) rfl rfl rfl rfl rfl fun ac hs => ⟨g8, hs⟩)
  ·exact fun L ac w ⟨g8, hs⟩ => pln (xtr hs (some 7) rfl rfl rfl rfl rfl fun ac hs => ⟨g8, hs⟩)
  ·exact fun L ac w ⟨g8, hs⟩ => pln (op_alloc hs (some 8) (some 3) (cs := [.int .u64 0, .int .u64 0, .int .u64 0, .int .u64 0]) rfl rfl zeroValue24 (by kernel_rfl) rfl rfl fun g8 ac w hs => ⟨g8, hs⟩)
  ·exact fun L ac w ⟨g8, hs⟩ => pln (stoo hs 3 ((Wl s6)) sizeOf24 rfl rfl rfl rfl rfl rfl rfl rfl rfl rfl fun w hs => ⟨g8, hs⟩)
  ·exact fun L ac w ⟨g8, hs⟩ => pln (oas hs 9 rfl rfl rfl fun ac hs => ⟨g8, hs⟩)
 intro ac w ⟨g8, hs⟩
 try dsimp only [cond_true] at hs
 refine then_n (wp_seq ?_)
 replace hs := hs.n0 [4, 5, 6] rfl rfl
 obtain ⟨d9, hd9, ld9⟩ : ∃ z0, (s6 + 2 ^ 256 - Nord) % 2 ^ 256 = z0 ∧ z0 < 2 ^ 256 := ⟨_, rfl, Nat.mod_lt _ (Nat.two_pow_pos 256)⟩
 obtain ⟨c10, hc10⟩ : ∃ z0, bor s6 Nord = z0 := ⟨_, rfl⟩
 refine region_inv [([], [2, 3, 4, 5, 7, 8]), ([], [2, 3, 4, 5, 7, 8]), ([0, 1], [3, 4, 5, 7, 8]), ([0, 1, 2], [4, 5, 7, 8]), (rgn 0 4, [7, 8]), (rgn 0 4, [8]), ([], [7, 8]), ([0, 1, 2, 3, 4, 6], [8]), (rgn 0 8, [])] (fun L ac w => ∃ (g11 : Nat), St 31 w0 [(18, L 0, W s6), (19, L 1, W Nord), (20, L 2, .tuple #[W d9, nu64 c10]), (17, L 3, .tuple #[W d9, nu64 c10]), (21, L 4, W d9), (22, L 5, nu64 c10), (7, L 6, ptA g11 0), (8, L 8, nu64 c10), (4, true, ptA g3 0), (5, true, ptA g8 0), (6, true, nu64 c7)] [(true, g1, 24, (Wl a)), (true, g2, 24, (Wl b)), (true, g3, 24, [.int .u64 0, .int .u64 0, .int .u64 0, .int .u64 0]), (true, g8, 24, (Wl s6)), (L 6, g11, 24, (cond (L 7) (Wl d9) [.int .u64 0, .int .u64 0, .int .u64 0, .int .u64 0]))] ac w) (by kernel_rfl) (by kernel_rfl) ?_ ?_ ?_
 ·exact ⟨0, hs.drew.skip.skip.skip.skip.skip.skip.skip.skip.pad⟩
 ·refine ⟨?_, ?_, ?_, ?_, ?_, ?_, ?_, ?_, ?_, trivial⟩
  ·exact fun L ac w ⟨g11, hs⟩ => pln (oldd hs 0 3 (W s6) isAgg24 sizeOf24 rfl rfl rfl rfl rfl fun ac hs => ⟨g11, hs⟩)
  ·exact fun L ac w ⟨g11, hs⟩ => pln (op_call (F := 61) hs (some 1) (v := W Nord) rfl rfl rfl rfl (call61 _) rorder_c rfl fun ac w hs => ⟨g11, hs⟩)
  ·exact fun L ac w ⟨g11, hs⟩ => pln (op_call (F := 60) hs (some 2) (v := .tuple #[W d9, nu64 c10]) rfl rfl rfl rfl (call60 _) (less_at s6 Nord d9 c10 ls6 Nord_lt hd9 hc10) rfl fun ac w hs => ⟨g11, hs⟩)
  ·exact fun L ac w ⟨g11, hs⟩ => pln (omv hs 3 rfl rfl rfl fun ac hs => ⟨g11, hs⟩)
  ·exact fun L ac w ⟨g11, hs⟩ => pln (xtr hs (some 4) rfl rfl rfl rfl rfl fun ac hs => ⟨g11, hs⟩)
  ·exact fun L ac w ⟨g11, hs⟩ => pln (xtr hs (some 5) rfl rfl rfl rfl rfl fun ac hs => ⟨g11, hs⟩)
  ·exact fun L ac w ⟨g11, hs⟩ => pln (op_alloc hs (some 6) (some 4) (cs := [.int .u64 0, .int .u64 0, .int .u64 0, .int .u64 0]) rfl rfl zeroValue24 (by kernel_rfl) rfl rfl fun g11 ac w hs => ⟨g11, hs⟩)
  ·exact fun L ac w ⟨g11, hs⟩ => pln (stoo hs 4 ((Wl d9)) sizeOf24 rfl rfl rfl rfl rfl rfl rfl rfl rfl rfl fun w hs => ⟨g11, hs⟩)
  ·exact fun L ac w ⟨g11, hs⟩ => pln (oas hs 7 rfl rfl rfl fun ac hs => ⟨g11, hs⟩)
 intro ac w ⟨g11, hs⟩
 try dsimp only [cond_true] at hs
 refine then_n (wp_seq (wp_seq ?_))
 by_cases hq12 : c7 = 1
 ·skip
  refine wp_region_lit ?_
  refine mvv hs rfl rfl rfl fun ac hs => ?_
  refine bnn hs (.bool true) rfl rfl rfl rfl (fun w => dT hq12 (bin_eqlN (y := 1) w)) fun ac hs => ?_
  refine mvv hs rfl rfl rfl fun ac hs => ?_
  refine lstep (wpO_out hs none rfl rfl (.inl rfl) rfl rfl fun ac hs => ?_)
  refine lstep (wpO_out hs none rfl rfl (.inl rfl) rfl rfl fun ac hs => ?_)
  refine stp (op_pickT hs none rfl rfl rfl rfl rfl fun ac hs => ?_)
  refine wpList_nil (then_n ?_)
  refine wp_cond_true (hs.ev rfl) ?_
  refine wp_seq (wp_region_lit ?_)
  refine ldd hs 4 (W d9) isAgg24 sizeOf24 rfl rfl rfl rfl rfl fun ac hs => ?_
  refine stp (stoo hs 2 ((Wl d9)) sizeOf24 rfl rfl rfl rfl rfl rfl rfl rfl rfl rfl fun w hs => ?_)
  refine wpList_nil (then_n (wp_ret (then_r ?_)))
  exact bodyPost_ret (res1 rfl (rv_c hs 2 (v := W d9) rfl rfl isAgg24 sizeOf24 rfl)) hs.defers ⟨by subst hr4 hr5; rw [← hx, radd_c Nord_big Nord_lt (Nat.mod_lt _ (by decide)) (Nat.mod_lt _ (by decide)) hs6 hc7 hd9 hq12, ← Nat.add_mod], (hs.bel rfl)⟩
 ·skip
  by_cases hq13 : c10 = 0
  ·skip
   refine wp_region_lit ?_
   refine mvv hs rfl rfl rfl fun ac hs => ?_
   refine bnn hs (.bool false) rfl rfl rfl rfl (fun w => dF hq12 (bin_eqlN (y := 1) w)) fun ac hs => ?_
   refine mvv hs rfl rfl rfl fun ac hs => ?_
   refine lstep (wpO_in hs rfl rfl rfl (op_move hs none rfl rfl rfl rfl fun ac hs => ?_))
   refine lstep (wpO_in hs rfl rfl rfl (op_bin hs none (v := .bool true) rfl rfl rfl rfl (fun _ => rfl) (fun w => dT hq13 (bin_eqlN (x := c10) (y := 0) w)) rfl fun ac hs => ?_))
   refine stp (op_pickF hs none rfl rfl rfl rfl rfl fun ac hs => ?_)
   refine wpList_nil (then_n ?_)
   refine wp_cond_true (hs.ev rfl) ?_
   refine wp_seq ?_
   replace hs := hs.n0 [4, 5, 7] rfl rfl
   refine wp_region_lit ?_
   refine ldd hs 4 (W d9) isAgg24 sizeOf24 rfl rfl rfl rfl rfl fun ac hs => ?_
   refine stp (stoo hs 2 ((Wl d9)) sizeOf24 rfl rfl rfl rfl rfl rfl rfl rfl rfl rfl fun w hs => ?_)
   refine wpList_nil (then_n (wp_ret (then_r ?_)))
   exact bodyPost_ret (res1 rfl (rv_c hs 2 (v := W d9) rfl rfl isAgg24 sizeOf24 rfl)) hs.defers ⟨by subst hr4 hr5; rw [← hx, radd_b Nord_big Nord_lt (Nat.mod_lt _ (by decide)) (Nat.mod_lt _ (by decide)) hs6 hc7 hd9 hc10 hq12 hq13, ← Nat.add_mod], (hs.bel rfl)⟩
  ·skip
   refine wp_region_lit ?_
   refine mvv hs rfl rfl rfl fun ac hs => ?_
   refine bnn hs (.bool false) rfl rfl rfl rfl (fun w => dF hq12 (bin_eqlN (y := 1) w)) fun ac hs => ?_
   refine mvv hs rfl rfl rfl fun ac hs => ?_
   refine lstep (wpO_in hs rfl rfl rfl (op_move hs none rfl rfl rfl rfl fun ac hs => ?_))
   refine lstep (wpO_in hs rfl rfl rfl (op_bin hs none (v := .bool false) rfl rfl rfl rfl (fun _ => rfl) (fun w => dF hq13 (bin_eqlN (x := c10) (y := 0) w)) rfl fun ac hs => ?_))
   refine stp (op_pickF hs none rfl rfl rfl rfl rfl fun ac hs => ?_)
   refine wpList_nil (then_n ?_)
   refine wp_cond_false (hs.ev rfl) ?_
   refine wp_skip (then_n (wp_seq ?_))
   replace hs := hs.n0 [4, 5] rfl rfl
   refine wp_region_lit ?_
   refine ldd hs 3 (W s6) isAgg24 sizeOf24 rfl rfl rfl rfl rfl fun ac hs => ?_
   refine stp (stoo hs 2 ((Wl s6)) sizeOf24 rfl rfl rfl rfl rfl rfl rfl rfl rfl rfl fun w hs => ?_)
   refine wpList_nil (then_n (wp_ret ?_))
   exact bodyPost_ret (res1 rfl (rv_c hs 2 (v := W s6) rfl rfl isAgg24 sizeOf24 rfl)) hs.defers ⟨by subst hr4 hr5; rw [← hx, radd_s Nord_big Nord_lt (Nat.mod_lt _ (by decide)) (Nat.mod_lt _ (by decide)) hs6 hc7 hc10 hq12 hq13, ← Nat.add_mod], (hs.bel rfl)⟩
theorem rsneg_c (a x : Nat) (ha : a < 2 ^ 256) (hx : (Nord - a % Nord) % Nord = x) (w0 : World) : Calls prog 56 #[W a] w0 fun e w' => e = .returned (W x) ∧ Below w0.heap.size w0 w' := by
 refine enter (n := 18) (args := [W a]) func56 rfl rfl (Nat.le_of_ble_eq_true rfl) fun ac hs => ?_
 refine wp_seq (wp_region_lit ?_)
 refine stp (op_box hs none none (cs := (Wl a)) rfl rfl rfl rfl rfl rfl fun g1 ac w hs => ?_)
 refine stp (op_alloc hs none none (cs := [.int .u64 0, .int .u64 0, .int .u64 0, .int .u64 0]) rfl rfl zeroValue24 (by kernel_rfl) rfl rfl fun g2 ac w hs => ?_)
 refine wpList_nil (then_n (wp_seq (wp_region_lit ?_)))
 refine ldd hs 0 (W a) isAgg24 sizeOf24 rfl rfl rfl rfl rfl fun ac hs => ?_
 obtain ⟨r3, hr3, lr3⟩ : ∃ z0, a % Nord = z0 ∧ z0 < 2 ^ 256 := ⟨_, rfl, modN_lt _⟩
 refine stp (op_call (F := 55) hs none (v := W r3) rfl rfl rfl rfl (call55 _) (rred_c a r3 ha hr3) rfl fun ac w hs => ?_)
 refine stp (stoo hs 0 ((Wl r3)) sizeOf24 rfl rfl rfl rfl rfl rfl rfl rfl rfl rfl fun w hs => ?_)
 refine wpList_nil (then_n (wp_seq (wp_seq (wp_region_lit ?_))))
 refine ldd hs 0 (W r3) isAgg24 sizeOf24 rfl rfl rfl rfl rfl fun ac hs => ?_
 refine stp (op_build hs none (qs := []) (v := .agg #[.int .u64 0, .int .u64 0, .int .u64 0, .int .u64 0]) rfl rfl rfl rfl (fun _ => by kernel_rfl) rfl fun ac hs => ?_)
 refine stp (op_bin hs none (v := .bool (decide (r3 = 0))) rfl rfl rfl rfl (fun w => run_eqGuard_agg w .eql 24 _ _ _ _ Tryz.eqGuardType24) (eqlW r3 0 lr3 (by decide) _ rfl) rfl fun ac hs => ?_)
 refine wpList_nil (then_n ?_)
 refine wp_cond_split (hs.ev rfl) (fun hc => ?_) (fun hc => ?_)
 ·skip
  have hp4 := of_decide_eq_true hc
  refine wp_seq ?_
  replace hs := hs.n0 [1, 2] rfl rfl
  refine wp_region_lit ?_
  refine ldd hs 0 (W r3) isAgg24 sizeOf24 rfl rfl rfl rfl rfl fun ac hs => ?_
  refine stp (stoo hs 1 ((Wl r3)) sizeOf24 rfl rfl rfl rfl rfl rfl rfl rfl rfl rfl fun w hs => ?_)
  refine wpList_nil (then_n (wp_ret (then_r ?_)))
  exact bodyPost_ret (res1 rfl (rv_c hs 1 (v := W r3) rfl rfl isAgg24 sizeOf24 rfl)) hs.defers ⟨by rw [← hx, hr3, hp4]; rfl, (hs.bel rfl)⟩
 ·skip
  have hp5 := of_decide_eq_false hc
  refine wp_skip (then_n (wp_seq ?_))
  replace hs := hs.n0 [1, 2] rfl rfl
  obtain ⟨d6, hd6, ld6⟩ : ∃ z0, (Nord + 2 ^ 256 - r3) % 2 ^ 256 = z0 ∧ z0 < 2 ^ 256 := ⟨_, rfl, Nat.mod_lt _ (Nat.two_pow_pos 256)⟩
  obtain ⟨c7, hc7⟩ : ∃ z0, bor Nord r3 = z0 := ⟨_, rfl⟩
  refine region_inv [([], [2, 3, 4, 5, 7, 8]), ([], [2, 3, 4, 5, 7, 8]), ([0, 1], [3, 4, 5, 7, 8]), ([0, 1, 2], [4, 5, 7, 8]), (rgn 0 4, [7, 8]), (rgn 0 4, [8]), ([], [7, 8]), ([0, 1, 2, 3, 4, 6], [8]), (rgn 0 8, [])] (fun L ac w => ∃ (g8 : Nat), St 18 w0 [(12, L 0, W Nord), (13, L 1, W r3), (14, L 2, .tuple #[W d6, nu64 c7]), (11, L 3, .tuple #[W d6, nu64 c7]), (15, L 4, W d6), (16, L 5, nu64 c7), (3, L 6, ptA g8 0), (4, L 8, nu64 c7), (1, true, ptA g1 0), (2, true, ptA g2 0)] [(true, g1, 24, (Wl r3)), (true, g2, 24, [.int .u64 0, .int .u64 0, .int .u64 0, .int .u64 0]), (L 6, g8, 24, (cond (L 7) (Wl d6) [.int .u64 0, .int .u64 0, .int .u64 0, .int .u64 0]))] ac w) (by kernel_rfl) (by kernel_rfl) ?_ ?_ ?_
  ·exact ⟨0, hs.drew.skip.skip.skip.skip.skip.skip.skip.skip.pad⟩
  ·refine ⟨?_, ?_, ?_, ?_, ?_, ?_, ?_, ?_, ?_, trivial⟩
   ·exact fun L ac w ⟨g8, hs⟩ => pln (op_call (F := 61) hs (some 0) (v := W Nord) rfl rfl rfl rfl (call61 _) rorder_c rfl fun ac w hs => ⟨g8, hs⟩)
   ·exact fun L ac w ⟨g8, hs⟩ => pln (oldd hs 1 0 (W r3) isAgg24 sizeOf24 rfl rfl rfl rfl rfl fun ac hs => ⟨g8, hs⟩)
   ·exact fun L ac w ⟨g8, hs⟩ => pln (op_call (F := 60) hs (some 2) (v := .tuple #[W d6, nu64 c7]) rfl rfl rfl rfl (call60 _) (less_at Nord r3 d6 c7 Nord_lt lr3 hd6 hc7) rfl fun ac w hs => ⟨g8, hs⟩)
   ·exact fun L ac w ⟨g8, hs⟩ => pln (omv hs 3 rfl rfl rfl fun ac hs => ⟨g8, hs⟩)
   ·exact fun L ac w ⟨g8, hs⟩ => pln (xtr hs (some 4) rfl rfl rfl rfl rfl fun ac hs => ⟨g8, hs⟩)
   ·exact fun L ac w ⟨g8, hs⟩ => pln (xtr hs (some 5) rfl rfl rfl rfl rfl fun ac hs => ⟨g8, hs⟩)
   ·exact fun L ac w ⟨g8, hs⟩ => pln (op_alloc hs (some 6) (some 2) (cs := [.int .u64 0, .int .u64 0, .int .u64 0, .int .u64 0]) rfl rfl zeroValue24 (by kernel_rfl) rfl rfl fun g8 ac w hs => ⟨g8, hs⟩)
   ·exact fun L ac w ⟨g8, hs⟩ => pln (stoo hs 2 ((Wl d6)) sizeOf24 rfl rfl rfl rfl rfl rfl rfl rfl rfl rfl fun w hs => ⟨g8, hs⟩)
   ·exact fun L ac w ⟨g8, hs⟩ => pln (oas hs 7 rfl rfl rfl fun ac hs => ⟨g8, hs⟩)
  intro ac w ⟨g8, hs⟩
  try dsimp only [cond_true] at hs
  refine then_n (wp_seq (wp_region_lit ?_))
  refine ldd hs 2 (W d6) isAgg24 sizeOf24 rfl rfl rfl rfl rfl fun ac hs => ?_
  refine stp (stoo hs 1 ((Wl d6)) sizeOf24 rfl rfl rfl rfl rfl rfl rfl rfl rfl rfl fun w hs => ?_)
  refine wpList_nil (then_n (wp_ret ?_))
  exact bodyPost_ret (res1 rfl (rv_c hs 1 (v := W d6) rfl rfl isAgg24 sizeOf24 rfl)) hs.defers ⟨by rw [← hx, ← hd6, hr3]; exact congrArg (fun z => Ending.returned (W z)) (rneg_eq (hr3 ▸ Nat.mod_lt _ (by decide)) hp5), (hs.bel rfl)⟩
end Go.Proofs.YtejbajgpiecjcaaGreat

/- The contracts of the reference's numbers of 256 bits. -/
namespace Go.Proofs.YtejbajgpiecjcaaGreat
open Go.RowKit _root_.Go.Proofs.Tryz
set_option maxRecDepth 10000
theorem rbit_c (a i b : Nat) (hi : i < 256) (hb : a / 2 ^ i % 2 = b) (w0 : World) : Calls prog 86 #[W a, ni64 i] w0 fun e w' => e = .returned (nu64 b) ∧ Below w0.heap.size w0 w' := by
 refine enter (n := 15) (args := [W a, ni64 i]) func86 rfl rfl (Nat.le_of_ble_eq_true rfl) fun ac hs => ?_
 refine wp_seq (wp_region_lit ?_)
 refine stp (op_box hs none none (cs := (Wl a)) rfl rfl rfl rfl rfl rfl fun g1 ac w hs => ?_)
 refine asg hs rfl rfl rfl fun ac hs => ?_
 refine wpList_nil (then_n (wp_seq (wp_region_lit ?_)))
 refine mvv hs rfl rfl rfl fun ac hs => ?_
 refine bnn hs (ni64 (i / 64)) rfl rfl rfl rfl (bin_quoN (y := 64) rfl (by decide) (show i < 9223372036854775808 by omega)) fun ac hs => ?_
 refine stp (op_idxA hs none (j := i / 64) rfl rfl rfl rfl underlying24 sizeOf22 (show i / 64 < 4 by omega) (off := i / 64) (by omega) rfl fun ac hs => ?_)
 have l2 := limN_lt a (i / 64)
 refine ldd hs 0 (nu64 (limN a (i / 64))) isAgg22 sizeOf22 rfl rfl rfl rfl (Wl_get (j := i / 64) (show i / 64 < 4 by omega)) fun ac hs => ?_
 refine mvv hs rfl rfl rfl fun ac hs => ?_
 refine bnn hs (ni64 (i % 64)) rfl rfl rfl rfl (bin_remN (y := 64) rfl (by decide)) fun ac hs => ?_
 refine stp (op_convert hs none (v := nu64 (i % 64)) rfl rfl rfl (conv_N underlying3 underlying73 (show i % 64 < 18446744073709551616 by omega)) rfl fun ac hs => ?_)
 refine bnn hs (nu64 (2 ^ (i % 64))) rfl rfl rfl rfl (bin_shlM (x := 1) rfl (pow_mod64 (Nat.mod_lt _ (by decide)))) fun ac hs => ?_
 refine bnn hs (.int .u64 (((limN a (i / 64)) / (2 ^ (i % 64)) : Nat) : Int)) rfl rfl rfl rfl (bin_quoN (z := (limN a (i / 64)) / (2 ^ (i % 64))) rfl (Nat.ne_of_gt (Nat.two_pow_pos _)) (limN_lt _ _)) fun ac hs => ?_
 refine bnn hs (.int .u64 ((((limN a (i / 64)) / (2 ^ (i % 64))) % 2 : Nat) : Int)) rfl rfl rfl rfl (bin_remN (y := 2) (z := ((limN a (i / 64)) / (2 ^ (i % 64))) % 2) rfl (by decide)) fun ac hs => ?_
 refine asg hs rfl rfl rfl fun ac hs => ?_
 refine wpList_nil (then_n (wp_ret ?_))
 exact bodyPost_ret (res1 rfl (rv_t hs rfl)) hs.defers ⟨by rw [bit_lim, hb], (hs.bel rfl)⟩
theorem rtwice_c (a b t q : Nat) (ha : a < 2 ^ 256) (hb : b ≤ 1) (ht : (2 * a + b) % 2 ^ 256 = t) (hc' : (2 * a + b) / 2 ^ 256 = q) (w0 : World) : Calls prog 102 #[W a, nu64 b] w0 fun e w' => e = .returned (.tuple #[W t, nu64 q]) ∧ Below w0.heap.size w0 w' := by
 refine enter (n := 40) (args := [W a, nu64 b]) func102 rfl rfl (Nat.le_of_ble_eq_true rfl) fun ac hs => ?_
 refine wp_seq (wp_region_lit ?_)
 refine stp (op_box hs none none (cs := (Wl a)) rfl rfl rfl rfl rfl rfl fun g1 ac w hs => ?_)
 refine stp (op_alloc hs none none (cs := [.int .u64 0, .int .u64 0, .int .u64 0, .int .u64 0]) rfl rfl zeroValue24 (by kernel_rfl) rfl rfl fun g2 ac w hs => ?_)
 refine asg hs rfl rfl rfl fun ac hs => ?_
 refine wpList_nil (then_n (wp_seq (wp_region_lit ?_)))
 refine stp (op_idxA hs none (j := 3) rfl rfl rfl rfl underlying24 sizeOf22 (by decide) (off := 3) rfl rfl fun ac hs => ?_)
 have l3 := limN_lt a 3
 refine ldd hs 0 (.int .u64 (lim a 3)) isAgg22 sizeOf22 rfl rfl rfl rfl rfl fun ac hs => ?_
 refine bnn hs (nu64 ((limN a 3) / 9223372036854775808)) rfl rfl rfl rfl (bin_quoN (y := 9223372036854775808) rfl (by decide) (show limN a 3 < 18446744073709551616 by omega)) fun ac hs => ?_
 refine asg hs rfl rfl rfl fun ac hs => ?_
 refine wpList_nil (then_n (wp_seq ?_))
 replace hs := hs.n0 [1, 2, 4, 5, 6] rfl rfl
 refine wp_region_lit ?_
 refine stp (op_idxA hs none (j := 0) rfl rfl rfl rfl underlying24 sizeOf22 (by decide) (off := 0) rfl rfl fun ac hs => ?_)
 have l4 := limN_lt a 0
 refine ldd hs 0 (.int .u64 (lim a 0)) isAgg22 sizeOf22 rfl rfl rfl rfl rfl fun ac hs => ?_
 refine bnn hs (nu64 ((limN a 0) * 2 % 18446744073709551616)) rfl rfl rfl rfl (bin_mulM (y := 2) rfl rfl) fun ac hs => ?_
 refine mvv hs rfl rfl rfl fun ac hs => ?_
 refine bnn hs (nu64 ((limN a 0) * 2 % 18446744073709551616 + b)) rfl rfl rfl rfl (bin_addN rfl (show (limN a 0) * 2 % 18446744073709551616 + b < 18446744073709551616 by omega)) fun ac hs => ?_
 refine stp (op_idxA hs none (j := 1) rfl rfl rfl rfl underlying24 sizeOf22 (by decide) (off := 1) rfl rfl fun ac hs => ?_)
 have l5 := limN_lt a 1
 refine ldd hs 0 (.int .u64 (lim a 1)) isAgg22 sizeOf22 rfl rfl rfl rfl rfl fun ac hs => ?_
 refine bnn hs (nu64 ((limN a 1) * 2 % 18446744073709551616)) rfl rfl rfl rfl (bin_mulM (y := 2) rfl rfl) fun ac hs => ?_
 refine stp (op_idxA hs none (j := 0) rfl rfl rfl rfl underlying24 sizeOf22 (by decide) (off := 0) rfl rfl fun ac hs => ?_)
 have l6 := limN_lt a 0
 refine ldd hs 0 (.int .u64 (lim a 0)) isAgg22 sizeOf22 rfl rfl rfl rfl rfl fun ac hs => ?_
 refine bnn hs (nu64 ((limN a 0) / 9223372036854775808)) rfl rfl rfl rfl (bin_quoN (y := 9223372036854775808) rfl (by decide) (show limN a 0 < 18446744073709551616 by omega)) fun ac hs => ?_
 refine bnn hs (.int .u64 (((limN a 1) * 2 % 18446744073709551616 + ((limN a 0) / 9223372036854775808) : Nat) : Int)) rfl rfl rfl rfl (bin_addN (z := (limN a 1) * 2 % 18446744073709551616 + ((limN a 0) / 9223372036854775808)) rfl (show (limN a 1) * 2 % 18446744073709551616 + ((limN a 0) / 9223372036854775808) < 18446744073709551616 by omega)) fun ac hs => ?_
 refine stp (op_idxA hs none (j := 2) rfl rfl rfl rfl underlying24 sizeOf22 (by decide) (off := 2) rfl rfl fun ac hs => ?_)
 have l7 := limN_lt a 2
 refine ldd hs 0 (.int .u64 (lim a 2)) isAgg22 sizeOf22 rfl rfl rfl rfl rfl fun ac hs => ?_
 refine bnn hs (nu64 ((limN a 2) * 2 % 18446744073709551616)) rfl rfl rfl rfl (bin_mulM (y := 2) rfl rfl) fun ac hs => ?_
 refine stp (op_idxA hs none (j := 1) rfl rfl rfl rfl underlying24 sizeOf22 (by decide) (off := 1) rfl rfl fun ac hs => ?_)
 have l8 := limN_lt a 1
 refine ldd hs 0 (.int .u64 (lim a 1)) isAgg22 sizeOf22 rfl rfl rfl rfl rfl fun ac hs => ?_
 refine bnn hs (nu64 ((limN a 1) / 9223372036854775808)) rfl rfl rfl rfl (bin_quoN (y := 9223372036854775808) rfl (by decide) (show limN a 1 < 18446744073709551616 by omega)) fun ac hs => ?_
 refine bnn hs (.int .u64 (((limN a 2) * 2 % 18446744073709551616 + ((limN a 1) / 9223372036854775808) : Nat) : Int)) rfl rfl rfl rfl (bin_addN (z := (limN a 2) * 2 % 18446744073709551616 + ((limN a 1) / 9223372036854775808)) rfl (show (limN a 2) * 2 % 18446744073709551616 + ((limN a 1) / 9223372036854775808) < 18446744073709551616 by omega)) fun ac hs => ?_
 refine stp (op_idxA hs none (j := 3) rfl rfl rfl rfl underlying24 sizeOf22 (by decide) (off := 3) rfl rfl fun ac hs => ?_)
 have l9 := limN_lt a 3
 refine ldd hs 0 (.int .u64 (lim a 3)) isAgg22 sizeOf22 rfl rfl rfl rfl rfl fun ac hs => ?_
 refine bnn hs (nu64 ((limN a 3) * 2 % 18446744073709551616)) rfl rfl rfl rfl (bin_mulM (y := 2) rfl rfl) fun ac hs => ?_
 refine stp (op_idxA hs none (j := 2) rfl rfl rfl rfl underlying24 sizeOf22 (by decide) (off := 2) rfl rfl fun ac hs => ?_)
 have l10 := limN_lt a 2
 refine ldd hs 0 (.int .u64 (lim a 2)) isAgg22 sizeOf22 rfl rfl rfl rfl rfl fun ac hs => ?_
 refine bnn hs (nu64 ((limN a 2) / 9223372036854775808)) rfl rfl rfl rfl (bin_quoN (y := 9223372036854775808) rfl (by decide) (show limN a 2 < 18446744073709551616 by omega)) fun ac hs => ?_
 refine bnn hs (.int .u64 (((limN a 3) * 2 % 18446744073709551616 + ((limN a 2) / 9223372036854775808) : Nat) : Int)) rfl rfl rfl rfl (bin_addN (z := (limN a 3) * 2 % 18446744073709551616 + ((limN a 2) / 9223372036854775808)) rfl (show (limN a 3) * 2 % 18446744073709551616 + ((limN a 2) / 9223372036854775808) < 18446744073709551616 by omega)) fun ac hs => ?_
 refine stp (op_build hs none (qs := [(0, nu64 ((limN a 0) * 2 % 18446744073709551616 + b)), (1, .int .u64 (((limN a 1) * 2 % 18446744073709551616 + ((limN a 0) / 9223372036854775808) : Nat) : Int)), (2, .int .u64 (((limN a 2) * 2 % 18446744073709551616 + ((limN a 1) / 9223372036854775808) : Nat) : Int)), (3, .int .u64 (((limN a 3) * 2 % 18446744073709551616 + ((limN a 2) / 9223372036854775808) : Nat) : Int))]) (v := .agg #[nu64 ((limN a 0) * 2 % 18446744073709551616 + b), .int .u64 (((limN a 1) * 2 % 18446744073709551616 + ((limN a 0) / 9223372036854775808) : Nat) : Int), .int .u64 (((limN a 2) * 2 % 18446744073709551616 + ((limN a 1) / 9223372036854775808) : Nat) : Int), .int .u64 (((limN a 3) * 2 % 18446744073709551616 + ((limN a 2) / 9223372036854775808) : Nat) : Int)]) rfl rfl rfl rfl (fun _ => by kernel_rfl) rfl fun ac hs => ?_)
 refine stp (op_alloc hs none none (cs := [.int .u64 0, .int .u64 0, .int .u64 0, .int .u64 0]) rfl rfl zeroValue24 (by kernel_rfl) rfl rfl fun g11 ac w hs => ?_)
 refine stp (stoo hs 2 ([nu64 ((limN a 0) * 2 % 18446744073709551616 + b), .int .u64 (((limN a 1) * 2 % 18446744073709551616 + ((limN a 0) / 9223372036854775808) : Nat) : Int), .int .u64 (((limN a 2) * 2 % 18446744073709551616 + ((limN a 1) / 9223372036854775808) : Nat) : Int), .int .u64 (((limN a 3) * 2 % 18446744073709551616 + ((limN a 2) / 9223372036854775808) : Nat) : Int)]) sizeOf24 rfl rfl rfl rfl rfl rfl rfl rfl rfl rfl fun w hs => ?_)
 refine wpList_nil (then_n (wp_seq ?_))
 replace hs := hs.n0 [4, 5, 6, 7] rfl rfl
 refine wp_region_lit ?_
 refine ldd hs 2 (.agg #[nu64 ((limN a 0) * 2 % 18446744073709551616 + b), .int .u64 (((limN a 1) * 2 % 18446744073709551616 + ((limN a 0) / 9223372036854775808) : Nat) : Int), .int .u64 (((limN a 2) * 2 % 18446744073709551616 + ((limN a 1) / 9223372036854775808) : Nat) : Int), .int .u64 (((limN a 3) * 2 % 18446744073709551616 + ((limN a 2) / 9223372036854775808) : Nat) : Int)]) isAgg24 sizeOf24 rfl rfl rfl rfl rfl fun ac hs => ?_
 refine mvv hs rfl rfl rfl fun ac hs => ?_
 refine stp (stoo hs 1 ([nu64 ((limN a 0) * 2 % 18446744073709551616 + b), .int .u64 (((limN a 1) * 2 % 18446744073709551616 + ((limN a 0) / 9223372036854775808) : Nat) : Int), .int .u64 (((limN a 2) * 2 % 18446744073709551616 + ((limN a 1) / 9223372036854775808) : Nat) : Int), .int .u64 (((limN a 3) * 2 % 18446744073709551616 + ((limN a 2) / 9223372036854775808) : Nat) : Int)]) sizeOf24 rfl rfl rfl rfl rfl rfl rfl rfl rfl rfl fun w hs => ?_)
 refine asg hs rfl rfl rfl fun ac hs => ?_
 refine wpList_nil (then_n (wp_ret ?_))
 exact bodyPost_ret (res2 rfl (rv_c hs 1 (v := .agg #[nu64 ((limN a 0) * 2 % 18446744073709551616 + b), .int .u64 (((limN a 1) * 2 % 18446744073709551616 + ((limN a 0) / 9223372036854775808) : Nat) : Int), .int .u64 (((limN a 2) * 2 % 18446744073709551616 + ((limN a 1) / 9223372036854775808) : Nat) : Int), .int .u64 (((limN a 3) * 2 % 18446744073709551616 + ((limN a 2) / 9223372036854775808) : Nat) : Int)]) rfl rfl isAgg24 sizeOf24 rfl) (rv_t hs rfl)) hs.defers ⟨by rw [← ht, W_mod, ← tw_c ha hb hc']; exact congrArg (fun l => Ending.returned (.tuple #[.agg (List.toArray l), _])) (tw_limbs hb), (hs.bel rfl)⟩
theorem rcmp_c (a b : Nat) (ha : a < 2 ^ 256) (hb : b < 2 ^ 256) (w0 : World) : Calls prog 82 #[W a, W b] w0 fun e w' => e = .returned (.int .i64 (cmpZ a b)) ∧ Below w0.heap.size w0 w' := by
 refine enter (n := 24) (args := [W a, W b]) func82 rfl rfl (Nat.le_of_ble_eq_true rfl) fun ac hs => ?_
 refine wp_seq (wp_region_lit ?_)
 refine stp (op_box hs none none (cs := (Wl a)) rfl rfl rfl rfl rfl rfl fun g1 ac w hs => ?_)
 refine stp (op_box hs none none (cs := (Wl b)) rfl rfl rfl rfl rfl rfl fun g2 ac w hs => ?_)
 refine asg hs rfl rfl rfl fun ac hs => ?_
 refine wpList_nil (then_n (wp_seq (wp_seq (wp_region_lit ?_))))
 refine asg hs rfl rfl rfl fun ac hs => ?_
 refine wpList_nil (then_n (wp_block ?_))
 refine wp_loop_m (fun μ ac w => ∃ (k : Nat), (k) = μ ∧ (k ≤ 4) ∧ (a / 2 ^ (64 * k) = b / 2 ^ (64 * k)) ∧ St 24 w0 [(2, true, ptA g1 0), (3, true, ptA g2 0), (5, true, .int .i64 (((k : Nat) : Int) - 1))] [(true, g1, 24, (Wl a)), (true, g2, 24, (Wl b))] ac w) ?_ ?_
 ·exact ⟨_, 4, rfl, (by omega), ((Nat.div_eq_of_lt ha).trans (Nat.div_eq_of_lt hb).symm), (hs.re ⟨rfl, rfl, rfl, trivial⟩)⟩
 intro μ ac w ⟨k, hμ, hk, hq, hs⟩
 refine wp_seq (wp_seq (wp_region_lit ?_))
 refine mvv hs rfl rfl rfl fun ac hs => ?_
 refine bnn hs (.bool (decide (1 ≤ k))) rfl rfl rfl rfl bin_geqP fun ac hs => ?_
 refine wpList_nil (then_n ?_)
 refine wp_cond_split (hs.ev rfl) (fun hc => ?_) (fun hc => ?_)
 ·skip
  have hp3 := of_decide_eq_true hc
  replace hs := hs.re (fs' := [(2, true, ptA g1 0), (3, true, ptA g2 0), (5, true, ni64 (k - 1)), (6, true, .int .i64 (((k : Nat) : Int) - 1)), (7, true, .bool (decide (1 ≤ k)))]) ⟨rfl, rfl, congrArg some (pre_nat hp3), rfl, rfl, trivial⟩
  refine wp_skip (then_n (wp_seq (wp_block (wp_seq (wp_seq ?_)))))
  replace hs := hs.n0 [2, 3, 5] rfl rfl
  have l4 := limN_lt a (k - 1)
  have l5 := limN_lt b (k - 1)
  refine region_inv [([], [1, 2, 6]), ([0], [2, 6]), ([0, 1], [6]), ([], [4, 5, 6]), ([3], [5, 6]), ([3, 4], [6]), (rgn 0 6, [])] (fun L ac w => St 24 w0 [(10, L 0, ni64 (k - 1)), (11, L 1, .pointer (some ⟨g1, k - 1, none⟩)), (12, L 2, nu64 (limN a (k - 1))), (13, L 3, ni64 (k - 1)), (14, L 4, .pointer (some ⟨g2, k - 1, none⟩)), (15, L 5, nu64 (limN b (k - 1))), (16, L 6, .bool (decide (limN a (k - 1) < limN b (k - 1)))), (2, true, ptA g1 0), (3, true, ptA g2 0), (5, true, ni64 (k - 1))] [(true, g1, 24, (Wl a)), (true, g2, 24, (Wl b))] ac w) (by kernel_rfl) (by kernel_rfl) ?_ ?_ ?_
  ·exact hs.drew.skip.skip.skip.skip.skip.skip.skip
  ·refine ⟨?_, ?_, ?_, ?_, ?_, ?_, ?_, trivial⟩
   ·exact fun L ac w hs => pln (omv hs 0 rfl rfl rfl fun ac hs => hs)
   ·exact fun L ac w hs => pln (op_idxA hs (some 1) (j := k - 1) rfl rfl rfl rfl underlying24 sizeOf22 (show k - 1 < 4 by omega) (off := k - 1) (by omega) rfl fun ac hs => hs)
   ·exact fun L ac w hs => pln (oldd hs 2 0 (nu64 (limN a (k - 1))) isAgg22 sizeOf22 rfl rfl rfl rfl (Wl_get (j := k - 1) (show k - 1 < 4 by omega)) fun ac hs => hs)
   ·exact fun L ac w hs => pln (omv hs 3 rfl rfl rfl fun ac hs => hs)
   ·exact fun L ac w hs => pln (op_idxA hs (some 4) (j := k - 1) rfl rfl rfl rfl underlying24 sizeOf22 (show k - 1 < 4 by omega) (off := k - 1) (by omega) rfl fun ac hs => hs)
   ·exact fun L ac w hs => pln (oldd hs 5 1 (nu64 (limN b (k - 1))) isAgg22 sizeOf22 rfl rfl rfl rfl (Wl_get (j := k - 1) (show k - 1 < 4 by omega)) fun ac hs => hs)
   ·exact fun L ac w hs => pln (obn hs 6 (.bool (decide (limN a (k - 1) < limN b (k - 1)))) rfl rfl rfl rfl bin_lssN fun ac hs => hs)
  intro ac w hs
  try dsimp only [cond_true] at hs
  refine then_n ?_
  refine wp_cond_split (hs.ev rfl) (fun hc => ?_) (fun hc => ?_)
  ·skip
   have hp6 := of_decide_eq_true hc
   refine wp_seq (wp_region_lit ?_)
   refine asg hs rfl rfl rfl fun ac hs => ?_
   refine wpList_nil (then_n (wp_ret (then_r (blk_r (then_r (then_r (blk_r (then_r ?_))))))))
   exact bodyPost_ret (res1 rfl (rv_t hs rfl)) hs.defers ⟨ret_int (cmp_lt (cmp_hi hp3 hq hp6)).symm, (hs.bel rfl)⟩
  ·skip
   have hp7 := of_decide_eq_false hc
   refine wp_skip (then_n (wp_seq ?_))
   replace hs := hs.n0 [2, 3, 5] rfl rfl
   have l8 := limN_lt a (k - 1)
   have l9 := limN_lt b (k - 1)
   refine region_inv [([], [1, 2, 6]), ([0], [2, 6]), ([0, 1], [6]), ([], [4, 5, 6]), ([3], [5, 6]), ([3, 4], [6]), (rgn 0 6, [])] (fun L ac w => St 24 w0 [(17, L 0, ni64 (k - 1)), (18, L 1, .pointer (some ⟨g1, k - 1, none⟩)), (19, L 2, nu64 (limN a (k - 1))), (20, L 3, ni64 (k - 1)), (21, L 4, .pointer (some ⟨g2, k - 1, none⟩)), (22, L 5, nu64 (limN b (k - 1))), (23, L 6, .bool (decide (limN b (k - 1) < limN a (k - 1)))), (2, true, ptA g1 0), (3, true, ptA g2 0), (5, true, ni64 (k - 1))] [(true, g1, 24, (Wl a)), (true, g2, 24, (Wl b))] ac w) (by kernel_rfl) (by kernel_rfl) ?_ ?_ ?_
   ·exact hs.drew.skip.skip.skip.skip.skip.skip.skip
   ·refine ⟨?_, ?_, ?_, ?_, ?_, ?_, ?_, trivial⟩
    ·exact fun L ac w hs => pln (omv hs 0 rfl rfl rfl fun ac hs => hs)
    ·exact fun L ac w hs => pln (op_idxA hs (some 1) (j := k - 1) rfl rfl rfl rfl underlying24 sizeOf22 (show k - 1 < 4 by omega) (off := k - 1) (by omega) rfl fun ac hs => hs)
    ·exact fun L ac w hs => pln (oldd hs 2 0 (nu64 (limN a (k - 1))) isAgg22 sizeOf22 rfl rfl rfl rfl (Wl_get (j := k - 1) (show k - 1 < 4 by omega)) fun ac hs => hs)
    ·exact fun L ac w hs => pln (omv hs 3 rfl rfl rfl fun ac hs => hs)
    ·exact fun L ac w hs => pln (op_idxA hs (some 4) (j := k - 1) rfl rfl rfl rfl underlying24 sizeOf22 (show k - 1 < 4 by omega) (off := k - 1) (by omega) rfl fun ac hs => hs)
    ·exact fun L ac w hs => pln (oldd hs 5 1 (nu64 (limN b (k - 1))) isAgg22 sizeOf22 rfl rfl rfl rfl (Wl_get (j := k - 1) (show k - 1 < 4 by omega)) fun ac hs => hs)
    ·exact fun L ac w hs => pln (obn hs 6 (.bool (decide (limN b (k - 1) < limN a (k - 1)))) rfl rfl rfl rfl bin_gtrN fun ac hs => hs)
   intro ac w hs
   try dsimp only [cond_true] at hs
   refine then_n ?_
   refine wp_cond_split (hs.ev rfl) (fun hc => ?_) (fun hc => ?_)
   ·skip
    have hp10 := of_decide_eq_true hc
    refine wp_seq (wp_region_lit ?_)
    refine asg hs rfl rfl rfl fun ac hs => ?_
    refine wpList_nil (then_n (wp_ret (blk_r (then_r (then_r (blk_r (then_r ?_)))))))
    exact bodyPost_ret (res1 rfl (rv_t hs rfl)) hs.defers ⟨ret_int (cmp_gt (cmp_hi hp3 hq.symm hp10)).symm, (hs.bel rfl)⟩
   ·skip
    have hp11 := of_decide_eq_false hc
    refine wp_skip (blk_n (then_n (wp_region_lit ?_)))
    refine mvv hs rfl rfl rfl fun ac hs => ?_
    refine bnn hs (.int .i64 (((k - 1 : Nat) : Int) - 1)) rfl rfl rfl rfl (bin_subP (by omega)) fun ac hs => ?_
    refine asg hs rfl rfl rfl fun ac hs => ?_
    refine wpList_nil (then_n ?_)
    exact ⟨_, ⟨(k - 1), rfl, (by omega), (cmp_next hp3 hq hp7 hp11), (hs.re ⟨rfl, rfl, rfl, trivial⟩)⟩, (by omega)⟩
 ·skip
  have hp12 := of_decide_eq_false hc
  obtain rfl : k = 0 := by omega
  have hq0 : a = b := by simpa using hq
  refine wp_exit (then_e (then_e (blk_e (then_n (wp_seq (wp_region_lit ?_))))))
  refine asg hs rfl rfl rfl fun ac hs => ?_
  refine wpList_nil (then_n (wp_ret ?_))
  exact bodyPost_ret (res1 rfl (rv_t hs rfl)) hs.defers ⟨ret_int (cmp_eq hq0).symm, (hs.bel rfl)⟩
end Go.Proofs.YtejbajgpiecjcaaGreat

/- The contracts of scalar.Read, Hash, and of the document's. -/
namespace Go.Proofs.YtejbajgpiecjcaaGreat
open Go.RowKit _root_.Go.Proofs.Tryz
set_option maxRecDepth 10000
abbrev sread := rdN
theorem sread_yes {b : Nat → Nat} {a : Nat} (h : pr b 0 32 = a) (hp : a < Nord) : sread b = a := by show rdN b = a; unfold rdN; rw [h, if_pos hp]
theorem sread_no {b : Nat → Nat} {a : Nat} (h : pr b 0 32 = a) (hp : ¬ a < Nord) : sread b = 0 := by show rdN b = 0; unfold rdN; rw [h, if_neg hp]
theorem eqlB {P : Program} {T : TypeId} {p q : Bool} (hu : P.underlying T = some .bool) (h : p = q) (w : World) : (binOp .eql T (.bool p) (.bool q)).run P w = .ok (.bool true) w := by
 subst h
 have := run_equalIn_bool (P := P) w 9999 T p p hu
 simp only [binOp, Sem.run_bind, Op.equal, Op.maxDepth, this, Result.andThen_ok, Sem.run_pure]
 simp
theorem sread_c (b : Nat → Nat) (x : Nat) (q : Bool) (hb : ∀ j, j < 32 → b j < 256) (hx : sread b = x) (hq : decide (pr b 0 32 < Nord) = q) (w0 : World) : Calls prog 31 #[At .u8 32 b] w0 fun e w' => e = .returned (.tuple #[W x, .bool q]) ∧ Below w0.heap.size w0 w' := by
 refine enter (n := 13) (args := [At .u8 32 b]) func31 rfl rfl (Nat.le_of_ble_eq_true rfl) fun ac hs => ?_
 refine wp_seq (wp_region_lit ?_)
 refine stp (op_box hs none none (cs := (tab .u8 32 b)) rfl rfl rfl rfl rfl rfl fun g1 ac w hs => ?_)
 refine stp (op_alloc hs none none (cs := [.int .u64 0, .int .u64 0, .int .u64 0, .int .u64 0]) rfl rfl zeroValue24 (by kernel_rfl) rfl rfl fun g2 ac w hs => ?_)
 refine asg hs rfl rfl rfl fun ac hs => ?_
 refine wpList_nil (then_n (wp_seq (wp_region_lit ?_)))
 refine ldd hs 0 (At .u8 32 b) isAgg30 sizeOf30 rfl rfl rfl rfl ldv_tab fun ac hs => ?_
 obtain ⟨a3, ha3, la3⟩ : ∃ z0, pr b 0 32 = z0 ∧ z0 < 2 ^ 256 := ⟨_, rfl, pr_lt32 hb⟩
 refine stp (op_call (F := 64) hs none (v := W a3) rfl rfl rfl rfl (call64 _) (wread_c b a3 hb ha3) rfl fun ac w hs => ?_)
 refine stp (op_alloc hs none none (cs := [.int .u64 0, .int .u64 0, .int .u64 0, .int .u64 0]) rfl rfl zeroValue24 (by kernel_rfl) rfl rfl fun g4 ac w hs => ?_)
 refine stp (stoo hs 2 ((Wl a3)) sizeOf24 rfl rfl rfl rfl rfl rfl rfl rfl rfl rfl fun w hs => ?_)
 refine wpList_nil (then_n (wp_seq (wp_seq ?_)))
 replace hs := hs.n0 [2, 3, 4] rfl rfl
 refine region_inv [([], [2, 3]), ([], [2, 3]), ([0, 1], [3]), ([0, 1, 2], [])] (fun L ac w => St 13 w0 [(7, L 0, W a3), (8, L 1, W Nord), (9, L 2, .int .i64 (cmpZ a3 Nord)), (10, L 3, .bool (decide (Nord ≤ a3))), (2, true, ptA g2 0), (3, true, .bool false), (4, true, ptA g4 0)] [(true, g1, 30, (tab .u8 32 b)), (true, g2, 24, [.int .u64 0, .int .u64 0, .int .u64 0, .int .u64 0]), (true, g4, 24, (Wl a3))] ac w) (by kernel_rfl) (by kernel_rfl) ?_ ?_ ?_
 ·exact hs.drew.skip.skip.skip.skip
 ·refine ⟨?_, ?_, ?_, ?_, trivial⟩
  ·exact fun L ac w hs => pln (oldd hs 0 2 (W a3) isAgg24 sizeOf24 rfl rfl rfl rfl rfl fun ac hs => hs)
  ·exact fun L ac w hs => pln (op_call (F := 70) hs (some 1) (v := W Nord) rfl rfl rfl rfl (call70 _) order_c rfl fun ac w hs => hs)
  ·exact fun L ac w hs => pln (op_call (F := 69) hs (some 2) (v := .int .i64 (cmpZ a3 Nord)) rfl rfl rfl rfl (call69 _) (fun w => cmp_any w a3 Nord la3 Nord_lt) rfl fun ac w hs => hs)
  ·exact fun L ac w hs => pln (obn hs 3 (.bool (decide (Nord ≤ a3))) rfl rfl rfl rfl (bin_cmp_geq a3 Nord) fun ac hs => hs)
 intro ac w hs
 try dsimp only [cond_true] at hs
 refine then_n ?_
 refine wp_cond_split (hs.ev rfl) (fun hc => ?_) (fun hc => ?_)
 ·skip
  have hp5 := of_decide_eq_true hc
  refine wp_seq (wp_region_lit ?_)
  refine stp (op_build hs none (qs := []) (v := .agg #[.int .u64 0, .int .u64 0, .int .u64 0, .int .u64 0]) rfl rfl rfl rfl (fun _ => by kernel_rfl) rfl fun ac hs => ?_)
  refine stp (stoo hs 1 ([.int .u64 0, .int .u64 0, .int .u64 0, .int .u64 0]) sizeOf24 rfl rfl rfl rfl rfl rfl rfl rfl rfl rfl fun w hs => ?_)
  refine asg hs rfl rfl rfl fun ac hs => ?_
  refine wpList_nil (then_n (wp_ret (then_r ?_)))
  exact bodyPost_ret (res2 rfl (rv_c hs 1 (v := .agg #[.int .u64 0, .int .u64 0, .int .u64 0, .int .u64 0]) rfl rfl isAgg24 sizeOf24 rfl) (rv_t hs rfl)) hs.defers ⟨by rw [← hq, ← hx, ha3, decide_eq_false (by omega), sread_no ha3 (by omega)]; first | done | rfl, (hs.bel rfl)⟩
 ·skip
  have hp6 := of_decide_eq_false hc
  refine wp_skip (then_n (wp_seq (wp_region_lit ?_)))
  refine ldd hs 2 (W a3) isAgg24 sizeOf24 rfl rfl rfl rfl rfl fun ac hs => ?_
  refine stp (stoo hs 1 ((Wl a3)) sizeOf24 rfl rfl rfl rfl rfl rfl rfl rfl rfl rfl fun w hs => ?_)
  refine asg hs rfl rfl rfl fun ac hs => ?_
  refine wpList_nil (then_n (wp_ret ?_))
  exact bodyPost_ret (res2 rfl (rv_c hs 1 (v := W a3) rfl rfl isAgg24 sizeOf24 rfl) (rv_t hs rfl)) hs.defers ⟨by rw [← hq, ← hx, ha3, decide_eq_true (by omega), sread_yes ha3 (by omega)]; first | done | rfl, (hs.bel rfl)⟩
theorem rsread_c (b : Nat → Nat) (x : Nat) (q : Bool) (hb : ∀ j, j < 32 → b j < 256) (hx : sread b = x) (hq : decide (pr b 0 32 < Nord) = q) (w0 : World) : Calls prog 37 #[At .u8 32 b] w0 fun e w' => e = .returned (.tuple #[W x, .bool q]) ∧ Below w0.heap.size w0 w' := by
 refine enter (n := 13) (args := [At .u8 32 b]) func37 rfl rfl (Nat.le_of_ble_eq_true rfl) fun ac hs => ?_
 refine wp_seq (wp_region_lit ?_)
 refine stp (op_box hs none none (cs := (tab .u8 32 b)) rfl rfl rfl rfl rfl rfl fun g1 ac w hs => ?_)
 refine stp (op_alloc hs none none (cs := [.int .u64 0, .int .u64 0, .int .u64 0, .int .u64 0]) rfl rfl zeroValue24 (by kernel_rfl) rfl rfl fun g2 ac w hs => ?_)
 refine asg hs rfl rfl rfl fun ac hs => ?_
 refine wpList_nil (then_n (wp_seq (wp_region_lit ?_)))
 refine ldd hs 0 (At .u8 32 b) isAgg30 sizeOf30 rfl rfl rfl rfl ldv_tab fun ac hs => ?_
 obtain ⟨a3, ha3, la3⟩ : ∃ z0, pr b 0 32 = z0 ∧ z0 < 2 ^ 256 := ⟨_, rfl, pr_lt32 hb⟩
 refine stp (op_call (F := 78) hs none (v := W a3) rfl rfl rfl rfl (call78 _) (rread_c b a3 hb ha3) rfl fun ac w hs => ?_)
 refine stp (op_alloc hs none none (cs := [.int .u64 0, .int .u64 0, .int .u64 0, .int .u64 0]) rfl rfl zeroValue24 (by kernel_rfl) rfl rfl fun g4 ac w hs => ?_)
 refine stp (stoo hs 2 ((Wl a3)) sizeOf24 rfl rfl rfl rfl rfl rfl rfl rfl rfl rfl fun w hs => ?_)
 refine wpList_nil (then_n (wp_seq (wp_seq ?_)))
 replace hs := hs.n0 [2, 3, 4] rfl rfl
 refine region_inv [([], [2, 3]), ([], [2, 3]), ([0, 1], [3]), ([0, 1, 2], [])] (fun L ac w => St 13 w0 [(7, L 0, W a3), (8, L 1, W Nord), (9, L 2, .int .i64 (cmpZ a3 Nord)), (10, L 3, .bool (decide (Nord ≤ a3))), (2, true, ptA g2 0), (3, true, .bool false), (4, true, ptA g4 0)] [(true, g1, 30, (tab .u8 32 b)), (true, g2, 24, [.int .u64 0, .int .u64 0, .int .u64 0, .int .u64 0]), (true, g4, 24, (Wl a3))] ac w) (by kernel_rfl) (by kernel_rfl) ?_ ?_ ?_
 ·exact hs.drew.skip.skip.skip.skip
 ·refine ⟨?_, ?_, ?_, ?_, trivial⟩
  ·exact fun L ac w hs => pln (oldd hs 0 2 (W a3) isAgg24 sizeOf24 rfl rfl rfl rfl rfl fun ac hs => hs)
  ·exact fun L ac w hs => pln (op_call (F := 61) hs (some 1) (v := W Nord) rfl rfl rfl rfl (call61 _) rorder_c rfl fun ac w hs => hs)
  ·exact fun L ac w hs => pln (op_call (F := 82) hs (some 2) (v := .int .i64 (cmpZ a3 Nord)) rfl rfl rfl rfl (call82 _) (rcmp_c a3 Nord la3 Nord_lt) rfl fun ac w hs => hs)
  ·exact fun L ac w hs => pln (obn hs 3 (.bool (decide (Nord ≤ a3))) rfl rfl rfl rfl (bin_cmp_geq a3 Nord) fun ac hs => hs)
 intro ac w hs
 try dsimp only [cond_true] at hs
 refine then_n ?_
 refine wp_cond_split (hs.ev rfl) (fun hc => ?_) (fun hc => ?_)
 ·skip
  have hp5 := of_decide_eq_true hc
  refine wp_seq (wp_region_lit ?_)
  refine stp (op_build hs none (qs := []) (v := .agg #[.int .u64 0, .int .u64 0, .int .u64 0, .int .u64 0]) rfl rfl rfl rfl (fun _ => by kernel_rfl) rfl fun ac hs => ?_)
  refine stp (stoo hs 1 ([.int .u64 0, .int .u64 0, .int .u64 0, .int .u64 0]) sizeOf24 rfl rfl rfl rfl rfl rfl rfl rfl rfl rfl fun w hs => ?_)
  refine asg hs rfl rfl rfl fun ac hs => ?_
  refine wpList_nil (then_n (wp_ret (then_r ?_)))
  exact bodyPost_ret (res2 rfl (rv_c hs 1 (v := .agg #[.int .u64 0, .int .u64 0, .int .u64 0, .int .u64 0]) rfl rfl isAgg24 sizeOf24 rfl) (rv_t hs rfl)) hs.defers ⟨by rw [← hq, ← hx, ha3, decide_eq_false (by omega), sread_no ha3 (by omega)]; first | done | rfl, (hs.bel rfl)⟩
 ·skip
  have hp6 := of_decide_eq_false hc
  refine wp_skip (then_n (wp_seq (wp_region_lit ?_)))
  refine ldd hs 2 (W a3) isAgg24 sizeOf24 rfl rfl rfl rfl rfl fun ac hs => ?_
  refine stp (stoo hs 1 ((Wl a3)) sizeOf24 rfl rfl rfl rfl rfl rfl rfl rfl rfl rfl fun w hs => ?_)
  refine asg hs rfl rfl rfl fun ac hs => ?_
  refine wpList_nil (then_n (wp_ret ?_))
  exact bodyPost_ret (res2 rfl (rv_c hs 1 (v := W a3) rfl rfl isAgg24 sizeOf24 rfl) (rv_t hs rfl)) hs.defers ⟨by rw [← hq, ← hx, ha3, decide_eq_true (by omega), sread_yes ha3 (by omega)]; first | done | rfl, (hs.bel rfl)⟩
end Go.Proofs.YtejbajgpiecjcaaGreat

/- The contracts of schnorr. -/
namespace Go.Proofs.YtejbajgpiecjcaaGreat
open Go.RowKit _root_.Go.Proofs.Tryz
set_option maxRecDepth 10000
set_option maxHeartbeats 1000000
theorem inf_slice_25 : Inf prog 25 (.slice none 0 0) 1 24 := inf_of (by kernel_rfl)
theorem joined_c (ad : Option Addr) (n c : Nat) (vs : List Value) (ls : List (List UInt8)) (u : List UInt8) (hr : ls.flatten = u) (hn : n = ls.length) (hnl : ls.length ≤ 100) (hlen : u.length ≤ 100000) (w0 : World) (Z : Nat → Prop) (hV : CelV w0 Z (.slice ad n c) n vs) (hB : BysV w0 Z vs ls): Calls prog 24 #[.slice ad n c] w0 fun e w' => Ret w0 Z (ρ := Option Addr × Nat) (fun r => .slice r.1 u.length r.2) (fun r => [.cel (.slice r.1 u.length r.2) u.length (bcs u)]) e w' := by
 subst hn
 refine enterS (n := 17) (args := [.slice ad ls.length c]) (S := [(true, .cel (.slice ad ls.length c) ls.length vs), (true, .bys vs ls)]) (Z := Z) func24 rfl rfl (Nat.le_of_ble_eq_true rfl) (sokC hV (sokC hB sok0)) rfl fun ac hs => ?_
 refine wp_seq (wp_region_lit ?_)
 refine asg hs rfl rfl rfl fun ac hs => ?_
 refine wpList_nil (then_n (wp_seq (wp_region_lit ?_)))
 replace hs := hs.nilOwn none 5 1 rfl
 refine stp (op_assign hs none (v := .slice none 0 0) rfl rfl rfl rfl fun ac hs => ?_)
 refine wpList_nil (then_n (wp_seq (wp_seq (wp_region_lit ?_))))
 refine mvv hs rfl rfl rfl fun ac hs => ?_
 refine stp (op_blt hs none (v := ni64 (ls.length)) rfl rfl rfl (blt_len underlying72) rfl fun ac hs => ?_)
 refine mvv hs rfl rfl rfl fun ac hs => ?_
 refine wpList_nil (then_n (wp_block ?_))
 refine wp_loop_m (fun μ ac w => ∃ (i : Nat) (ao : Option Addr) (co : Nat), (ls.length - i) = μ ∧ (i ≤ ls.length) ∧ St 17 ⟨w0, [], [(true, .cel (.slice ad ls.length c) ls.length vs), (true, .bys vs ls), (true, .own (.slice ao (((ls.take i).flatten).length) co) 5 1 (((ls.take i).flatten).length) (bcs ((ls.take i).flatten)))], Z, noX⟩ [(2, true, .slice none 0 0), (6, true, .slice ad ls.length c), (7, true, ni64 (ls.length)), (3, true, .slice ao (((ls.take i).flatten).length) co), (8, true, ni64 i)] [] ac w) ?_ ?_
 ·exact ⟨_, 0, none, 0, rfl, (by omega), (hs.re (fs' := [(2, true, .slice none 0 0), (6, true, .slice ad ls.length c), (7, true, ni64 (ls.length)), (3, true, .slice none (((ls.take 0).flatten).length) 0), (8, true, ni64 0)]) ⟨rfl, rfl, rfl, rfl, rfl, trivial⟩)⟩
 intro μ ac w ⟨i, ao, co, hμ, hi, hs⟩
 have hfl := flat_le ls i
 rw [hr] at hfl
 have hfl1 := flat_le ls (i + 1)
 rw [hr] at hfl1
 refine wp_seq (wp_region_lit ?_)
 refine bnn hs (.bool (decide (i < ls.length))) rfl rfl rfl rfl bin_lssN fun ac hs => ?_
 refine wpList_nil (then_n (wp_seq ?_))
 refine wp_cond_split (hs.ev rfl) (fun hc => ?_) (fun hc => ?_)
 ·skip
  have hp1 := of_decide_eq_true hc
  have hlt := of_decide_eq_true hc
  obtain ⟨li, hli⟩ : ∃ z, ls[i]? = some z := ⟨_, List.getElem?_eq_getElem hlt⟩
  obtain ⟨al, cl, hvl⟩ := bysv_at (hs.all (k := 1) rfl rfl) hli
  replace hs := hs.pick none 1 rfl hvl hli rfl
  have hlen1 : ((ls.take i).flatten).length + li.length ≤ 100000 := by rw [flat_take hli, List.length_append] at hfl1; omega
  refine wp_skip (then_n (wp_seq (wp_block (wp_seq (wp_region_lit ?_)))))
  refine stp (op_idxC hs none 0 (j := i) rfl rfl rfl rfl rfl underlying72 sizeOf25 (show i < ls.length by omega) (off := i) (by omega) rfl fun ac hs => ?_)
  refine stp (op_loadC hs none 0 (u := .slice al li.length cl) rfl rfl rfl rfl isAgg25 sizeOf25 (by decide) hvl rfl fun ac hs => ?_)
  refine asg hs rfl rfl rfl fun ac hs => ?_
  refine wpList_nil (then_n (wp_region_lit ?_))
  refine mvv hs rfl rfl rfl fun ac hs => ?_
  refine mvv hs rfl rfl rfl fun ac hs => ?_
  refine stp (op_appR hs none 2 3 (N' := ((ls.take i).flatten ++ li).length) (ys := bcs ((ls.take i).flatten ++ li)) rfl rfl rfl rfl rfl rfl underlying25 inf_u8_5 rfl (by decide) (bcs_len1 rfl) (bcs_one _) (by decide) (show ((ls.take i).flatten).length + li.length ≤ 1000000 by first | omega | ((try simp only [List.length_drop, List.length_take, List.length_append, List.length_cons, List.length_nil]); omega)) (by simp only [List.length_append, List.length_cons, List.length_nil] <;> omega) (bcs_append _ _) rfl rfl fun ad2 cp3 ac w hs => ?_)
  refine asg hs rfl rfl rfl fun ac hs => ?_
  refine wpList_nil (blk_n (then_n ?_))
  replace hs := hs.nf w0 Z noX [2, 6, 7, 3, 8] rfl rfl rfl rfl
  refine wp_region_lit ?_
  refine bnn hs (ni64 (i + 1)) rfl rfl rfl rfl (bin_addN (y := 1) rfl (show i + 1 < 9223372036854775808 by omega)) fun ac hs => ?_
  refine mvv hs rfl rfl rfl fun ac hs => ?_
  refine wpList_nil (then_n ?_)
  rw [show (ls.take i).flatten ++ li = (ls.take (i + 1)).flatten from (flat_take hli).symm] at hs
  replace hs := hs.selS [0, 1, 2] rfl (by decide)
  exact ⟨_, ⟨(i + 1), ad2, cp3, rfl, (by omega), (hs.re (fs' := [(2, true, .slice none 0 0), (6, true, .slice ad ls.length c), (7, true, ni64 (ls.length)), (3, true, .slice ad2 (((ls.take (i + 1)).flatten).length) cp3), (8, true, ni64 ((i + 1)))]) ⟨rfl, rfl, rfl, rfl, rfl, trivial⟩)⟩, (by omega)⟩
 ·skip
  have hp4 := of_decide_eq_false hc
  have hge := of_decide_eq_false hc
  have hfe := flat_end hge
  refine wp_exit (then_e (then_e (blk_e (then_n (wp_seq (wp_region_lit ?_))))))
  refine mvv hs rfl rfl rfl fun ac hs => ?_
  refine asg hs rfl rfl rfl fun ac hs => ?_
  refine wpList_nil (then_n (wp_ret ?_))
  rw [show (ls.take i).flatten = u from (hfe.trans hr)] at hs
  replace hs := hs.freeze 2 rfl
  exact bodyPost_ret (res1 rfl (rv_t hs rfl)) hs.defers ⟨⟨ao, co⟩, rfl, hs.bel rfl, hs.ret1 2 rfl⟩
theorem straight_c (s d er : Nat) (hs0 : s < 2 ^ 256) (hd : sD s = d) (he : sE s = er) (w0 : World) : Calls prog 19 #[W s] w0 fun e w' => e = .returned (.tuple #[W d, At .u8 32 (sK s), ni64 er]) ∧ Below w0.heap.size w0 w' := by
 refine enter (n := 25) (args := [W s]) func19 rfl rfl (Nat.le_of_ble_eq_true rfl) fun ac hs => ?_
 refine wp_seq (wp_region_lit ?_)
 refine stp (op_box hs none none (cs := (Wl s)) rfl rfl rfl rfl rfl rfl fun g1 ac w hs => ?_)
 refine stp (op_alloc hs none none (cs := [.int .u64 0, .int .u64 0, .int .u64 0, .int .u64 0]) rfl rfl zeroValue24 (by kernel_rfl) rfl rfl fun g2 ac w hs => ?_)
 refine stp (op_alloc hs none none (cs := (tab .u8 32 (fun _ => 0))) rfl rfl zeroValue30 (by kernel_rfl) rfl rfl fun g3 ac w hs => ?_)
 refine asg hs rfl rfl rfl fun ac hs => ?_
 refine wpList_nil (then_n (wp_seq (wp_region_lit ?_)))
 refine ldd hs 0 (W s) isAgg24 sizeOf24 rfl rfl rfl rfl rfl fun ac hs => ?_
 obtain ⟨r4, hr4, lr4⟩ : ∃ z0, s % Nord = z0 ∧ z0 < 2 ^ 256 := ⟨_, rfl, mN256 _⟩
 refine stp (op_call (F := 48) hs none (v := W r4) rfl rfl rfl rfl (call48 _) (red_c s r4 hs0 hr4) rfl fun ac w hs => ?_)
 refine stp (op_alloc hs none none (cs := [.int .u64 0, .int .u64 0, .int .u64 0, .int .u64 0]) rfl rfl zeroValue24 (by kernel_rfl) rfl rfl fun g5 ac w hs => ?_)
 refine stp (stoo hs 3 ((Wl r4)) sizeOf24 rfl rfl rfl rfl rfl rfl rfl rfl rfl rfl fun w hs => ?_)
 refine wpList_nil (then_n (wp_seq (wp_seq ?_)))
 replace hs := hs.n0 [2, 3, 4, 5] rfl rfl
 refine wp_region_lit ?_
 refine ldd hs 3 (W r4) isAgg24 sizeOf24 rfl rfl rfl rfl rfl fun ac hs => ?_
 refine stp (op_build hs none (qs := []) (v := .agg #[.int .u64 0, .int .u64 0, .int .u64 0, .int .u64 0]) rfl rfl rfl rfl (fun _ => by kernel_rfl) rfl fun ac hs => ?_)
 refine stp (op_bin hs none (v := .bool (decide (r4 = 0))) rfl rfl rfl rfl (fun w => run_eqGuard_agg w .eql 24 _ _ _ _ Tryz.eqGuardType24) (eqlW r4 0 lr4 (by decide) _ rfl) rfl fun ac hs => ?_)
 refine wpList_nil (then_n ?_)
 refine wp_cond_split (hs.ev rfl) (fun hc => ?_) (fun hc => ?_)
 ·skip
  have hp6 := of_decide_eq_true hc
  refine wp_seq (wp_region_lit ?_)
  refine ldd hs 3 (W r4) isAgg24 sizeOf24 rfl rfl rfl rfl rfl fun ac hs => ?_
  refine stp (op_build hs none (qs := []) (v := At .u8 32 (fun _ => 0)) rfl rfl rfl rfl (fun _ => by kernel_rfl) rfl fun ac hs => ?_)
  refine stp (stoo hs 1 ((Wl r4)) sizeOf24 rfl rfl rfl rfl rfl rfl rfl rfl rfl rfl fun w hs => ?_)
  refine stp (stoo hs 2 ((tab .u8 32 (fun _ => 0))) sizeOf30 rfl rfl rfl rfl rfl (by kernel_rfl) tab_length' (tab_one _ _ _) tab_leA wr_tab fun w hs => ?_)
  refine asg hs rfl rfl rfl fun ac hs => ?_
  refine wpList_nil (then_n (wp_ret (then_r ?_)))
  exact bodyPost_ret (res3 rfl (rv_c hs 1 (v := W r4) rfl rfl isAgg24 sizeOf24 rfl) (rv_c hs 2 (v := At .u8 32 (fun _ => 0)) rfl rfl isAgg30 sizeOf30 ldv_tab) (rv_t hs rfl)) hs.defers ⟨by obtain ⟨hd1, hk1, he1⟩ := st_zero hr4 hp6; rw [hd] at hd1; rw [he] at he1; rw [hd1, hk1, he1]; first | done | rfl, (hs.bel rfl)⟩
 ·skip
  have hp7 := of_decide_eq_false hc
  refine wp_skip (then_n (wp_seq ?_))
  replace hs := hs.n0 [2, 3, 4, 5] rfl rfl
  obtain ⟨T8, hT8, oT8⟩ := mkMul r4 Gp_on
  refine region_inv [([], [2, 4]), ([], [2, 4]), ([0, 1], [4]), ([], [4]), (rgn 0 4, [])] (fun L ac w => ∃ (g9 : Nat), St 25 w0 [(14, L 0, W r4), (15, L 1, PV (px Gp) (py Gp) (pz Gp)), (16, L 2, PV (px T8) (py T8) (pz T8)), (6, L 3, ptA g9 0), (2, true, ptA g2 0), (3, true, ptA g3 0), (4, true, .int .i64 0), (5, true, ptA g5 0)] [(true, g1, 24, (Wl s)), (true, g2, 24, [.int .u64 0, .int .u64 0, .int .u64 0, .int .u64 0]), (true, g3, 30, (tab .u8 32 (fun _ => 0))), (true, g5, 24, (Wl r4)), (L 3, g9, 42, (cond (L 4) (PVl (px T8) (py T8) (pz T8)) (PVl 0 0 false)))] ac w) (by kernel_rfl) (by kernel_rfl) ?_ ?_ ?_
  ·exact ⟨0, hs.drew.skip.skip.skip.skip.pad⟩
  ·refine ⟨?_, ?_, ?_, ?_, ?_, trivial⟩
   ·exact fun L ac w ⟨g9, hs⟩ => pln (oldd hs 0 3 (W r4) isAgg24 sizeOf24 rfl rfl rfl rfl rfl fun ac hs => ⟨g9, hs⟩)
   ·exact fun L ac w ⟨g9, hs⟩ => pln (op_call (F := 18) hs (some 1) (v := PV (px Gp) (py Gp) (pz Gp)) rfl rfl rfl rfl (call18 _) base_c rfl fun ac w hs => ⟨g9, hs⟩)
   ·exact fun L ac w ⟨g9, hs⟩ => pln (op_call (F := 49) hs (some 2) (v := PV (px T8) (py T8) (pz T8)) rfl rfl rfl rfl (call49 _) (mul14_c r4 (px Gp) (py Gp) (pz Gp) Gp T8 lr4 (px_lt Gp) (py_lt Gp) (pt_back Gp_on) hT8) rfl fun ac w hs => ⟨g9, hs⟩)
   ·exact fun L ac w ⟨g9, hs⟩ => pln (op_alloc hs (some 3) (some 4) (cs := (PVl 0 0 false)) rfl rfl zeroValue42 (by kernel_rfl) rfl rfl fun g9 ac w hs => ⟨g9, hs⟩)
   ·exact fun L ac w ⟨g9, hs⟩ => pln (stoo hs 4 ((PVl (px T8) (py T8) (pz T8))) sizeOf42 rfl rfl rfl rfl rfl rfl rfl rfl rfl rfl fun w hs => ⟨g9, hs⟩)
  intro ac w ⟨g9, hs⟩
  try dsimp only [cond_true] at hs
  refine then_n (wp_seq (wp_seq (wp_region_lit ?_)))
  refine ldd hs 4 (PV (px T8) (py T8) (pz T8)) isAgg42 sizeOf42 rfl rfl rfl rfl rfl fun ac hs => ?_
  refine stp (op_call (F := 34) hs none (v := .bool (evB T8)) rfl rfl rfl rfl (call34 _) (even_c (px T8) (py T8) (pz T8) T8 _ (px_lt T8) (py_lt T8) (pt_back oT8) rfl) rfl fun ac w hs => ?_)
  refine stp (op_un hs none (v := .bool (!(evB T8))) rfl rfl rfl (fun _ => rfl) rfl fun ac hs => ?_)
  refine wpList_nil (then_n ?_)
  refine wp_cond_split (hs.ev rfl) (fun hc => ?_) (fun hc => ?_)
  ·skip
   have hev := hc
   refine wp_region_lit ?_
   refine ldd hs 3 (W r4) isAgg24 sizeOf24 rfl rfl rfl rfl rfl fun ac hs => ?_
   obtain ⟨r10, hr10, lr10⟩ : ∃ z0, (Nord - r4 % Nord) % Nord = z0 ∧ z0 < 2 ^ 256 := ⟨_, rfl, mN256 _⟩
   refine stp (op_call (F := 32) hs none (v := W r10) rfl rfl rfl rfl (call32 _) (sneg_c r4 r10 lr4 hr10) rfl fun ac w hs => ?_)
   refine stp (stoo hs 3 ((Wl r10)) sizeOf24 rfl rfl rfl rfl rfl rfl rfl rfl rfl rfl fun w hs => ?_)
   refine wpList_nil (then_n (wp_seq ?_))
   replace hs := hs.n0 [2, 3, 4, 5, 6] rfl rfl
   refine region_inv [([], [3, 4, 5]), ([], rgn 2 4), ([1], [3, 4, 5]), ([0, 1, 2], [4, 5]), (rgn 0 4, [5]), (rgn 0 5, [])] (fun L ac w => St 25 w0 [(22, L 0, W r10), (23, L 1, PV (px T8) (py T8) (pz T8)), (24, L 2, At .u8 32 (by8 (px T8))), (4, L 5, .int .i64 0), (2, true, ptA g2 0), (3, true, ptA g3 0), (4, true, .int .i64 0), (5, true, ptA g5 0), (6, true, ptA g9 0)] [(true, g1, 24, (Wl s)), (true, g2, 24, (cond (L 3) (Wl r10) [.int .u64 0, .int .u64 0, .int .u64 0, .int .u64 0])), (true, g3, 30, (cond (L 4) (tab .u8 32 (by8 (px T8))) (tab .u8 32 (fun _ => 0)))), (true, g5, 24, (Wl r10)), (true, g9, 42, (PVl (px T8) (py T8) (pz T8)))] ac w) (by kernel_rfl) (by kernel_rfl) ?_ ?_ ?_
   ·exact hs.drew.skip.skip.skip.skip
   ·refine ⟨?_, ?_, ?_, ?_, ?_, ?_, trivial⟩
    ·exact fun L ac w hs => pln (oldd hs 0 3 (W r10) isAgg24 sizeOf24 rfl rfl rfl rfl rfl fun ac hs => hs)
    ·exact fun L ac w hs => pln (oldd hs 1 4 (PV (px T8) (py T8) (pz T8)) isAgg42 sizeOf42 rfl rfl rfl rfl rfl fun ac hs => hs)
    ·exact fun L ac w hs => pln (op_call (F := 17) hs (some 2) (v := At .u8 32 (by8 (px T8))) rfl rfl rfl rfl (call17 _) (pbytes_c (px T8) (py T8) (pz T8) T8 (px_lt T8) (py_lt T8) (pt_back oT8)) rfl fun ac w hs => hs)
    ·exact fun L ac w hs => pln (stoo hs 1 ((Wl r10)) sizeOf24 rfl rfl rfl rfl rfl rfl rfl rfl rfl rfl fun w hs => hs)
    ·exact fun L ac w hs => pln (stoo hs 2 ((tab .u8 32 (by8 (px T8)))) sizeOf30 rfl rfl rfl rfl rfl (by kernel_rfl) tab_length' (tab_one _ _ _) tab_leA wr_tab fun w hs => hs)
    ·exact fun L ac w hs => pln (oas hs 3 rfl rfl rfl fun ac hs => hs)
   intro ac w hs
   try dsimp only [cond_true] at hs
   refine then_n (wp_ret ?_)
   exact bodyPost_ret (res3 rfl (rv_c hs 1 (v := W r10) rfl rfl isAgg24 sizeOf24 rfl) (rv_c hs 2 (v := At .u8 32 (by8 (px T8))) rfl rfl isAgg30 sizeOf30 ldv_tab) (rv_t hs rfl)) hs.defers ⟨by obtain ⟨hd1, hk1, he1⟩ := st_odd hr4 hp7 hT8 (by simpa using hev) hr10; rw [hd] at hd1; rw [he] at he1; rw [hd1, hk1, he1]; first | done | rfl, (hs.bel rfl)⟩
  ·skip
   have hev := hc
   refine wp_skip (then_n (wp_seq ?_))
   replace hs := hs.n0 [2, 3, 4, 5, 6] rfl rfl
   refine region_inv [([], [3, 4, 5]), ([], rgn 2 4), ([1], [3, 4, 5]), ([0, 1, 2], [4, 5]), (rgn 0 4, [5]), (rgn 0 5, [])] (fun L ac w => St 25 w0 [(22, L 0, W r4), (23, L 1, PV (px T8) (py T8) (pz T8)), (24, L 2, At .u8 32 (by8 (px T8))), (4, L 5, .int .i64 0), (2, true, ptA g2 0), (3, true, ptA g3 0), (4, true, .int .i64 0), (5, true, ptA g5 0), (6, true, ptA g9 0)] [(true, g1, 24, (Wl s)), (true, g2, 24, (cond (L 3) (Wl r4) [.int .u64 0, .int .u64 0, .int .u64 0, .int .u64 0])), (true, g3, 30, (cond (L 4) (tab .u8 32 (by8 (px T8))) (tab .u8 32 (fun _ => 0)))), (true, g5, 24, (Wl r4)), (true, g9, 42, (PVl (px T8) (py T8) (pz T8)))] ac w) (by kernel_rfl) (by kernel_rfl) ?_ ?_ ?_
   ·exact hs.drew.skip.skip.skip.skip
   ·refine ⟨?_, ?_, ?_, ?_, ?_, ?_, trivial⟩
    ·exact fun L ac w hs => pln (oldd hs 0 3 (W r4) isAgg24 sizeOf24 rfl rfl rfl rfl rfl fun ac hs => hs)
    ·exact fun L ac w hs => pln (oldd hs 1 4 (PV (px T8) (py T8) (pz T8)) isAgg42 sizeOf42 rfl rfl rfl rfl rfl fun ac hs => hs)
    ·exact fun L ac w hs => pln (op_call (F := 17) hs (some 2) (v := At .u8 32 (by8 (px T8))) rfl rfl rfl rfl (call17 _) (pbytes_c (px T8) (py T8) (pz T8) T8 (px_lt T8) (py_lt T8) (pt_back oT8)) rfl fun ac w hs => hs)
    ·exact fun L ac w hs => pln (stoo hs 1 ((Wl r4)) sizeOf24 rfl rfl rfl rfl rfl rfl rfl rfl rfl rfl fun w hs => hs)
    ·exact fun L ac w hs => pln (stoo hs 2 ((tab .u8 32 (by8 (px T8)))) sizeOf30 rfl rfl rfl rfl rfl (by kernel_rfl) tab_length' (tab_one _ _ _) tab_leA wr_tab fun w hs => hs)
    ·exact fun L ac w hs => pln (oas hs 3 rfl rfl rfl fun ac hs => hs)
   intro ac w hs
   try dsimp only [cond_true] at hs
   refine then_n (wp_ret ?_)
   exact bodyPost_ret (res3 rfl (rv_c hs 1 (v := W r4) rfl rfl isAgg24 sizeOf24 rfl) (rv_c hs 2 (v := At .u8 32 (by8 (px T8))) rfl rfl isAgg30 sizeOf30 ldv_tab) (rv_t hs rfl)) hs.defers ⟨by obtain ⟨hd1, hk1, he1⟩ := st_even hr4 hp7 hT8 (by simpa using hev); rw [hd] at hd1; rw [he] at he1; rw [hd1, hk1, he1]; first | done | rfl, (hs.bel rfl)⟩
theorem key_c (s er : Nat) (hs0 : s < 2 ^ 256) (he : sE s = er) (w0 : World) : Calls prog 9 #[W s] w0 fun e w' => e = .returned (.tuple #[At .u8 32 (sK s), ni64 er]) ∧ Below w0.heap.size w0 w' := by
 refine enter (n := 15) (args := [W s]) func9 rfl rfl (Nat.le_of_ble_eq_true rfl) fun ac hs => ?_
 refine wp_seq (wp_region_lit ?_)
 refine stp (op_box hs none none (cs := (Wl s)) rfl rfl rfl rfl rfl rfl fun g1 ac w hs => ?_)
 refine stp (op_alloc hs none none (cs := (tab .u8 32 (fun _ => 0))) rfl rfl zeroValue30 (by kernel_rfl) rfl rfl fun g2 ac w hs => ?_)
 refine asg hs rfl rfl rfl fun ac hs => ?_
 refine wpList_nil (then_n (wp_seq (wp_region_lit ?_)))
 refine ldd hs 0 (W s) isAgg24 sizeOf24 rfl rfl rfl rfl rfl fun ac hs => ?_
 obtain ⟨d3, hd3, ld3⟩ : ∃ z0, sD s = z0 ∧ z0 < 2 ^ 256 := ⟨_, rfl, sD_lt256 _⟩
 obtain ⟨er4, her4⟩ : ∃ z0, sE s = z0 := ⟨_, rfl⟩
 have ler4 := sE_le s
 rw [her4] at ler4
 refine stp (op_call (F := 19) hs none (v := .tuple #[W d3, At .u8 32 (sK s), ni64 er4]) rfl rfl rfl rfl (call19 _) (straight_c s d3 er4 hs0 hd3 her4) rfl fun ac w hs => ?_)
 refine mvv hs rfl rfl rfl fun ac hs => ?_
 refine stp (xtr hs none rfl rfl rfl rfl rfl fun ac hs => ?_)
 refine stp (xtr hs none rfl rfl rfl rfl rfl fun ac hs => ?_)
 refine stp (xtr hs none rfl rfl rfl rfl rfl fun ac hs => ?_)
 refine stp (op_alloc hs none none (cs := [.int .u64 0, .int .u64 0, .int .u64 0, .int .u64 0]) rfl rfl zeroValue24 (by kernel_rfl) rfl rfl fun g5 ac w hs => ?_)
 refine stp (op_alloc hs none none (cs := (tab .u8 32 (fun _ => 0))) rfl rfl zeroValue30 (by kernel_rfl) rfl rfl fun g6 ac w hs => ?_)
 refine stp (stoo hs 2 ((Wl d3)) sizeOf24 rfl rfl rfl rfl rfl rfl rfl rfl rfl rfl fun w hs => ?_)
 refine stp (stoo hs 3 ((tab .u8 32 (sK s))) sizeOf30 rfl rfl rfl rfl rfl (by kernel_rfl) tab_length' (tab_one _ _ _) tab_leA wr_tab fun w hs => ?_)
 refine asg hs rfl rfl rfl fun ac hs => ?_
 refine wpList_nil (then_n (wp_seq ?_))
 replace hs := hs.n0 [2, 3, 5, 6] rfl rfl
 refine wp_region_lit ?_
 refine ldd hs 3 (At .u8 32 (sK s)) isAgg30 sizeOf30 rfl rfl rfl rfl ldv_tab fun ac hs => ?_
 refine mvv hs rfl rfl rfl fun ac hs => ?_
 refine stp (stoo hs 1 ((tab .u8 32 (sK s))) sizeOf30 rfl rfl rfl rfl rfl (by kernel_rfl) tab_length' (tab_one _ _ _) tab_leA wr_tab fun w hs => ?_)
 refine asg hs rfl rfl rfl fun ac hs => ?_
 refine wpList_nil (then_n (wp_ret ?_))
 exact bodyPost_ret (res2 rfl (rv_c hs 1 (v := At .u8 32 (sK s)) rfl rfl isAgg30 sizeOf30 ldv_tab) (rv_t hs rfl)) hs.defers ⟨by rw [show er4 = er from her4.symm.trans he], (hs.bel rfl)⟩
theorem turning_c (f : Nat → Nat) (ad : Option Addr) (nl c : Nat) (l : List UInt8) (x : Nat) (q : Bool) (hf : ∀ j, j < 32 → f j < 256) (hlen : l.length ≤ 1000) (hx : rdN (tuB f l) = x) (hq : decide (pr (tuB f l) 0 32 < Nord) = q) (w0 : World) (Z : Nat → Prop) (hl : ByV w0 Z (.slice ad nl c) l): Calls prog 44 #[At .u8 32 f, .slice ad nl c] w0 fun e w' => Ret w0 Z (ρ := Unit) (fun r => .tuple #[W x, .bool q]) (fun r => []) e w' := by
 obtain rfl := byv_len hl
 have hbf := btl_len 32 f
 refine enterS (n := 14) (args := [At .u8 32 f, .slice ad l.length c]) (S := [(true, .cel (.slice ad l.length c) l.length (bcs l))]) (Z := Z) func44 rfl rfl (Nat.le_of_ble_eq_true rfl) (sokC hl sok0) rfl fun ac hs => ?_
 refine wp_seq (wp_region_lit ?_)
 refine stp (op_box hs none none (cs := (tab .u8 32 f)) rfl rfl rfl rfl rfl rfl fun g1 ac w hs => ?_)
 refine stp (op_alloc hs none none (cs := [.int .u64 0, .int .u64 0, .int .u64 0, .int .u64 0]) rfl rfl zeroValue24 (by kernel_rfl) rfl rfl fun g2 ac w hs => ?_)
 refine asg hs rfl rfl rfl fun ac hs => ?_
 refine wpList_nil (then_n (wp_seq (wp_region_lit ?_)))
 replace hs := hs.arrCel none 0 (n0 := 32) (f := f) rfl (fun j hj => hf j (by omega)) (by decide) rfl
 replace hs := hs.selB [1] rfl (by decide)
 refine stp (op_val hs none (v := .slice (some ⟨g1, 0, none⟩) 32 32) rfl rfl (run_slA rfl (hs.ev rfl) underlying30 sizeOf5) fun ac hs => ?_)
 refine mvv hs rfl rfl rfl fun ac hs => ?_
 refine stp (op_bsC hs none none (qs := [(0, .slice (some ⟨g1, 0, none⟩) 32 32), (1, .slice ad l.length c)]) (cs := [.slice (some ⟨g1, 0, none⟩) 32 32, .slice ad l.length c]) rfl rfl rfl rfl underlying72 inf_slice_25 (by decide) (by decide) (fill_two _ _ _ rfl rfl ) rfl rfl rfl rfl fun ad4 ac w hs => ?_)
 refine stp (op_callS (F := 24) (ρ := Option Addr × Nat) hs none none (v := fun r => .slice r.1 (((btl 32 f) ++ l).length) r.2) (E := fun r => [.cel (.slice r.1 (((btl 32 f) ++ l).length) r.2) (((btl 32 f) ++ l).length) (bcs ((btl 32 f) ++ l))]) (j := 1) rfl rfl rfl rfl (call24 _) (fun hs => joined_c ad4 2 2 [.slice (some ⟨g1, 0, none⟩) 32 32, .slice ad l.length c] [btl 32 f, l] ((btl 32 f) ++ l) (by simp [List.append_assoc]) rfl (Nat.le_of_ble_eq_true rfl) (show ((btl 32 f) ++ l).length ≤ 100000 by first | omega | ((try simp only [List.length_drop, List.length_take, List.length_append, List.length_cons, List.length_nil]); omega)) _ _ (hs.all (k := 2) rfl rfl) (bysC (hs.all (k := 1) rfl rfl) (bysC (hs.all (k := 0) rfl rfl) bys0))) (fun _ => rfl) rfl rfl fun ⟨ad5, cp6⟩ ac w hs => ?_)
 refine stp (op_callS (F := 54) (ρ := Unit) hs none none (v := fun r => At .u8 32 (tagH tuTag ((btl 32 f) ++ l))) (E := fun r => []) (j := 0) rfl rfl rfl rfl (call54 _) (fun hs => tagged_c tuTag ad5 (((btl 32 f) ++ l).length) cp6 ((btl 32 f) ++ l) (by decide) (show ((btl 32 f) ++ l).length ≤ 100000 by first | omega | ((try simp only [List.length_drop, List.length_take, List.length_append, List.length_cons, List.length_nil]); omega)) _ _ (hs.all (k := 3) rfl rfl)) (fun _ => rfl) rfl rfl fun _ ac w hs => ?_)
 obtain ⟨a7, ha7, la7⟩ : ∃ z0, rdN (tagH tuTag ((btl 32 f) ++ l)) = z0 ∧ z0 < 2 ^ 256 := ⟨_, rfl, rdN_lt _⟩
 obtain ⟨q8, hq8⟩ : ∃ z0, decide (pr (tagH tuTag ((btl 32 f) ++ l)) 0 32 < Nord) = z0 := ⟨_, rfl⟩
 refine stp (op_call (F := 31) hs none (v := .tuple #[W a7, .bool q8]) rfl rfl rfl rfl (call31 _) (sread_c (tagH tuTag ((btl 32 f) ++ l)) a7 q8 (fun j _ => tagH_lt _ _ j) ha7 hq8) rfl fun ac w hs => ?_)
 refine stp (xtr hs none rfl rfl rfl rfl rfl fun ac hs => ?_)
 refine stp (xtr hs none rfl rfl rfl rfl rfl fun ac hs => ?_)
 refine stp (stoo hs 0 ((Wl a7)) sizeOf24 rfl rfl rfl rfl rfl rfl rfl rfl rfl rfl fun w hs => ?_)
 refine asg hs rfl rfl rfl fun ac hs => ?_
 refine wpList_nil (then_n (wp_ret ?_))
 exact bodyPost_ret (res2 rfl (rv_c hs 0 (v := W a7) rfl rfl isAgg24 sizeOf24 rfl) (rv_t hs rfl)) hs.defers ⟨(), by rw [show a7 = x from ha7.symm.trans hx, show q8 = q from hq8.symm.trans hq]; first | done | rfl, hs.bel rfl, okl0⟩
theorem turn15_c (f : Nat → Nat) (ad : Option Addr) (nl c : Nat) (l : List UInt8) (q : Bool) (er : Nat) (hf : ∀ j, j < 32 → f j < 256) (hlen : l.length ≤ 1000) (hq : tuO f l = q) (he : tuE f l = er) (w0 : World) (Z : Nat → Prop) (hl : ByV w0 Z (.slice ad nl c) l): Calls prog 13 #[At .u8 32 f, .slice ad nl c] w0 fun e w' => Ret w0 Z (ρ := Unit) (fun r => .tuple #[At .u8 32 (tuK f l), .bool q, ni64 er]) (fun r => []) e w' := by
 obtain rfl := byv_len hl
 refine enterS (n := 41) (args := [At .u8 32 f, .slice ad l.length c]) (S := [(true, .cel (.slice ad l.length c) l.length (bcs l))]) (Z := Z) func13 rfl rfl (Nat.le_of_ble_eq_true rfl) (sokC hl sok0) rfl fun ac hs => ?_
 refine wp_seq (wp_region_lit ?_)
 refine stp (op_box hs none none (cs := (tab .u8 32 f)) rfl rfl rfl rfl rfl rfl fun g1 ac w hs => ?_)
 refine stp (op_alloc hs none none (cs := (tab .u8 32 (fun _ => 0))) rfl rfl zeroValue30 (by kernel_rfl) rfl rfl fun g2 ac w hs => ?_)
 refine asg hs rfl rfl rfl fun ac hs => ?_
 refine asg hs rfl rfl rfl fun ac hs => ?_
 refine wpList_nil (then_n (wp_seq (wp_region_lit ?_)))
 refine ldd hs 0 (At .u8 32 f) isAgg30 sizeOf30 rfl rfl rfl rfl ldv_tab fun ac hs => ?_
 obtain ⟨T3, hT3, oT3⟩ := mkLift (pr f 0 32)
 refine stp (op_call (F := 30) hs none (v := .tuple #[PV (px T3) (py T3) (pz T3), .bool (!pz T3)]) rfl rfl rfl rfl (call30 _) (lift14_c f T3 hf hT3) rfl fun ac w hs => ?_)
 refine mvv hs rfl rfl rfl fun ac hs => ?_
 refine stp (xtr hs none rfl rfl rfl rfl rfl fun ac hs => ?_)
 refine stp (xtr hs none rfl rfl rfl rfl rfl fun ac hs => ?_)
 refine stp (op_alloc hs none none (cs := (PVl 0 0 false)) rfl rfl zeroValue42 (by kernel_rfl) rfl rfl fun g4 ac w hs => ?_)
 refine stp (stoo hs 2 ((PVl (px T3) (py T3) (pz T3))) sizeOf42 rfl rfl rfl rfl rfl rfl rfl rfl rfl rfl fun w hs => ?_)
 refine asg hs rfl rfl rfl fun ac hs => ?_
 refine wpList_nil (then_n (wp_seq (wp_seq ?_)))
 by_cases hq5 : pz T3 = true
 ·skip
  replace hs := hs.re (fs' := [(0, true, At .u8 32 f), (1, true, .slice ad l.length c), (2, true, ptA g1 0), (4, true, ptA g2 0), (5, true, .bool false), (6, true, .int .i64 0), (12, true, At .u8 32 f), (13, true, .tuple #[PV (px T3) (py T3) (pz T3), .bool (!pz T3)]), (11, true, .tuple #[PV (px T3) (py T3) (pz T3), .bool (!pz T3)]), (14, true, PV (px T3) (py T3) (pz T3)), (15, true, .bool (!pz T3)), (7, true, ptA g4 0), (8, true, .bool false)]) ⟨rfl, rfl, rfl, rfl, rfl, rfl, rfl, rfl, rfl, rfl, rfl, rfl, congrArg some (congrArg Value.bool (by rw [hq5]; rfl)), trivial⟩
  replace hs := hs.nf w0 Z noX [1, 2, 4, 5, 6, 7, 8] rfl rfl rfl rfl
  refine wp_region_lit ?_
  refine mvv hs rfl rfl rfl fun ac hs => ?_
  refine stp (op_un hs none (v := .bool true) rfl rfl rfl (fun _ => rfl) rfl fun ac hs => ?_)
  refine wpList_nil (then_n ?_)
  refine wp_cond_true (hs.ev rfl) ?_
  refine wp_seq (wp_region_lit ?_)
  refine stp (op_build hs none (qs := []) (v := At .u8 32 (fun _ => 0)) rfl rfl rfl rfl (fun _ => by kernel_rfl) rfl fun ac hs => ?_)
  refine stp (stoo hs 1 ((tab .u8 32 (fun _ => 0))) sizeOf30 rfl rfl rfl rfl rfl (by kernel_rfl) tab_length' (tab_one _ _ _) tab_leA wr_tab fun w hs => ?_)
  refine asg hs rfl rfl rfl fun ac hs => ?_
  refine asg hs rfl rfl rfl fun ac hs => ?_
  refine wpList_nil (then_n (wp_ret (then_r ?_)))
  exact bodyPost_ret (res3 rfl (rv_c hs 1 (v := At .u8 32 (fun _ => 0)) rfl rfl isAgg30 sizeOf30 ldv_tab) (rv_t hs rfl) (rv_t hs rfl)) hs.defers ⟨(), by obtain ⟨h1, h2, h3⟩ := tu_no (inner := f) (root := l) (fun h => by have := h.1; rw [hT3, hq5] at this; cases this); rw [h1, ← hq, h2, ← he, h3]; first | done | rfl, hs.bel rfl, okl0⟩
 ·skip
  replace hs := hs.re (fs' := [(0, true, At .u8 32 f), (1, true, .slice ad l.length c), (2, true, ptA g1 0), (4, true, ptA g2 0), (5, true, .bool false), (6, true, .int .i64 0), (12, true, At .u8 32 f), (13, true, .tuple #[PV (px T3) (py T3) (pz T3), .bool (!pz T3)]), (11, true, .tuple #[PV (px T3) (py T3) (pz T3), .bool (!pz T3)]), (14, true, PV (px T3) (py T3) (pz T3)), (15, true, .bool (!pz T3)), (7, true, ptA g4 0), (8, true, .bool true)]) ⟨rfl, rfl, rfl, rfl, rfl, rfl, rfl, rfl, rfl, rfl, rfl, rfl, congrArg some (congrArg Value.bool (by rw [Bool.eq_false_iff.2 hq5]; rfl)), trivial⟩
  replace hs := hs.nf w0 Z noX [1, 2, 4, 5, 6, 7, 8] rfl rfl rfl rfl
  refine wp_region_lit ?_
  refine mvv hs rfl rfl rfl fun ac hs => ?_
  refine stp (op_un hs none (v := .bool false) rfl rfl rfl (fun _ => rfl) rfl fun ac hs => ?_)
  refine wpList_nil (then_n ?_)
  refine wp_cond_false (hs.ev rfl) ?_
  refine wp_skip (then_n (wp_seq (wp_region_lit ?_)))
  refine ldd hs 0 (At .u8 32 f) isAgg30 sizeOf30 rfl rfl rfl rfl ldv_tab fun ac hs => ?_
  refine mvv hs rfl rfl rfl fun ac hs => ?_
  obtain ⟨a6, ha6, la6⟩ : ∃ z0, rdN (tuB f l) = z0 ∧ z0 < 2 ^ 256 := ⟨_, rfl, rdN_lt _⟩
  obtain ⟨q7, hq7⟩ : ∃ z0, decide (pr (tuB f l) 0 32 < Nord) = z0 := ⟨_, rfl⟩
  refine stp (op_callS (F := 44) (ρ := Unit) hs none none (v := fun r => .tuple #[W a6, .bool q7]) (E := fun r => []) (j := 0) rfl rfl rfl rfl (call44 _) (fun hs => turning_c f ad l.length c l a6 q7 hf (show l.length ≤ 1000 by omega) ha6 hq7 _ _ (hs.all (k := 0) rfl rfl)) (fun _ => rfl) rfl rfl fun _ ac w hs => ?_)
  refine mvv hs rfl rfl rfl fun ac hs => ?_
  refine stp (xtr hs none rfl rfl rfl rfl rfl fun ac hs => ?_)
  refine stp (xtr hs none rfl rfl rfl rfl rfl fun ac hs => ?_)
  refine stp (op_alloc hs none none (cs := [.int .u64 0, .int .u64 0, .int .u64 0, .int .u64 0]) rfl rfl zeroValue24 (by kernel_rfl) rfl rfl fun g8 ac w hs => ?_)
  refine stp (stoo hs 3 ((Wl a6)) sizeOf24 rfl rfl rfl rfl rfl rfl rfl rfl rfl rfl fun w hs => ?_)
  refine asg hs rfl rfl rfl fun ac hs => ?_
  refine wpList_nil (then_n (wp_seq (wp_seq ?_)))
  replace hs := hs.nf w0 Z noX [4, 5, 6, 7, 8, 9] rfl rfl rfl rfl
  refine wp_region_lit ?_
  refine mvv hs rfl rfl rfl fun ac hs => ?_
  refine stp (op_un hs none (v := .bool (!q7)) rfl rfl rfl (fun _ => rfl) rfl fun ac hs => ?_)
  refine wpList_nil (then_n ?_)
  refine wp_cond_split (hs.ev rfl) (fun hc => ?_) (fun hc => ?_)
  ·skip
   have hnr : ¬ pr (tuB f l) 0 32 < Nord := of_decide_eq_false (hq7.trans (by simpa using hc))
   refine wp_seq (wp_region_lit ?_)
   refine stp (op_build hs none (qs := []) (v := At .u8 32 (fun _ => 0)) rfl rfl rfl rfl (fun _ => by kernel_rfl) rfl fun ac hs => ?_)
   refine stp (stoo hs 1 ((tab .u8 32 (fun _ => 0))) sizeOf30 rfl rfl rfl rfl rfl (by kernel_rfl) tab_length' (tab_one _ _ _) tab_leA wr_tab fun w hs => ?_)
   refine asg hs rfl rfl rfl fun ac hs => ?_
   refine asg hs rfl rfl rfl fun ac hs => ?_
   refine wpList_nil (then_n (wp_ret (then_r ?_)))
   exact bodyPost_ret (res3 rfl (rv_c hs 1 (v := At .u8 32 (fun _ => 0)) rfl rfl isAgg30 sizeOf30 ldv_tab) (rv_t hs rfl) (rv_t hs rfl)) hs.defers ⟨(), by obtain ⟨h1, h2, h3⟩ := tu_no (inner := f) (root := l) (fun h => hnr h.2.1); rw [h1, ← hq, h2, ← he, h3]; first | done | rfl, hs.bel rfl, okl0⟩
  ·skip
   have hyr : pr (tuB f l) 0 32 < Nord := of_decide_eq_true (hq7.trans (by simpa using hc))
   refine wp_skip (then_n (wp_seq ?_))
   replace hs := hs.nf w0 Z noX [4, 5, 6, 7, 9] rfl rfl rfl rfl
   obtain ⟨T9, hT9, oT9⟩ := mkBoth 1 a6 oT3 Gp_on
   refine region_inv [([], [3, 4, 6]), ([], [4, 6]), ([], [4, 6]), ([0], [4, 6]), (rgn 0 4, [6]), ([], [6]), (rgn 0 6, [])] (fun L ac w => ∃ (g10 : Nat), St 41 ⟨w0, [], [(true, .cel (.slice ad l.length c) l.length (bcs l))], Z, noX⟩ [(28, L 0, W 1), (29, L 1, PV (px T3) (py T3) (pz T3)), (30, L 2, W a6), (31, L 3, PV (px Gp) (py Gp) (pz Gp)), (32, L 4, PV (px T9) (py T9) (pz T9)), (10, L 5, ptA g10 0), (4, true, ptA g2 0), (5, true, .bool false), (6, true, .int .i64 0), (7, true, ptA g4 0), (9, true, ptA g8 0)] [(true, g1, 30, (tab .u8 32 f)), (true, g2, 30, (tab .u8 32 (fun _ => 0))), (true, g4, 42, (PVl (px T3) (py T3) (pz T3))), (true, g8, 24, (Wl a6)), (L 5, g10, 42, (cond (L 6) (PVl (px T9) (py T9) (pz T9)) (PVl 0 0 false)))] ac w) (by kernel_rfl) (by kernel_rfl) ?_ ?_ ?_
   ·exact ⟨0, hs.drew.skip.skip.skip.skip.skip.skip.pad⟩
   ·refine ⟨?_, ?_, ?_, ?_, ?_, ?_, ?_, trivial⟩
    ·exact fun L ac w ⟨g10, hs⟩ => pln (op_call (F := 45) hs (some 0) (v := W 1) rfl rfl rfl rfl (call45 _) (fun w => from_any w 1 (by decide)) rfl fun ac w hs => ⟨g10, hs⟩)
    ·exact fun L ac w ⟨g10, hs⟩ => pln (oldd hs 1 2 (PV (px T3) (py T3) (pz T3)) isAgg42 sizeOf42 rfl rfl rfl rfl rfl fun ac hs => ⟨g10, hs⟩)
    ·exact fun L ac w ⟨g10, hs⟩ => pln (oldd hs 2 3 (W a6) isAgg24 sizeOf24 rfl rfl rfl rfl rfl fun ac hs => ⟨g10, hs⟩)
    ·exact fun L ac w ⟨g10, hs⟩ => pln (op_call (F := 18) hs (some 3) (v := PV (px Gp) (py Gp) (pz Gp)) rfl rfl rfl rfl (call18 _) base_c rfl fun ac w hs => ⟨g10, hs⟩)
    ·exact fun L ac w ⟨g10, hs⟩ => pln (op_call (F := 33) hs (some 4) (v := PV (px T9) (py T9) (pz T9)) rfl rfl rfl rfl (call33 _) (both_c 1 (px T3) (py T3) (pz T3) a6 (px Gp) (py Gp) (pz Gp) T3 Gp T9 (by decide) (px_lt T3) (py_lt T3) la6 (px_lt Gp) (py_lt Gp) (pt_back oT3) (pt_back Gp_on) hT9) rfl fun ac w hs => ⟨g10, hs⟩)
    ·exact fun L ac w ⟨g10, hs⟩ => pln (op_alloc hs (some 5) (some 4) (cs := (PVl 0 0 false)) rfl rfl zeroValue42 (by kernel_rfl) rfl rfl fun g10 ac w hs => ⟨g10, hs⟩)
    ·exact fun L ac w ⟨g10, hs⟩ => pln (stoo hs 4 ((PVl (px T9) (py T9) (pz T9))) sizeOf42 rfl rfl rfl rfl rfl rfl rfl rfl rfl rfl fun w hs => ⟨g10, hs⟩)
   intro ac w ⟨g10, hs⟩
   try dsimp only [cond_true] at hs
   refine then_n (wp_seq (wp_seq (wp_region_lit ?_)))
   refine stp (op_fieldA hs none rfl rfl rfl underlying42 rfl sizeOf4 (by decide) rfl fun ac hs => ?_)
   refine ldd hs 4 (.bool (pz T9)) isAgg4 sizeOf4 rfl rfl rfl rfl rfl fun ac hs => ?_
   refine wpList_nil (then_n ?_)
   refine wp_cond_split (hs.ev rfl) (fun hc => ?_) (fun hc => ?_)
   ·skip
    have hQ : tuQ f l = T9 := by rw [← tuQ_both, hT3, ha6, hT9]
    have hzQ := hc
    refine wp_seq (wp_region_lit ?_)
    refine stp (op_build hs none (qs := []) (v := At .u8 32 (fun _ => 0)) rfl rfl rfl rfl (fun _ => by kernel_rfl) rfl fun ac hs => ?_)
    refine stp (stoo hs 1 ((tab .u8 32 (fun _ => 0))) sizeOf30 rfl rfl rfl rfl rfl (by kernel_rfl) tab_length' (tab_one _ _ _) tab_leA wr_tab fun w hs => ?_)
    refine asg hs rfl rfl rfl fun ac hs => ?_
    refine asg hs rfl rfl rfl fun ac hs => ?_
    refine wpList_nil (then_n (wp_ret (then_r ?_)))
    exact bodyPost_ret (res3 rfl (rv_c hs 1 (v := At .u8 32 (fun _ => 0)) rfl rfl isAgg30 sizeOf30 ldv_tab) (rv_t hs rfl) (rv_t hs rfl)) hs.defers ⟨(), by obtain ⟨h1, h2, h3⟩ := tu_no (inner := f) (root := l) (fun h => by have := h.2.2; rw [hQ, hzQ] at this; cases this); rw [h1, ← hq, h2, ← he, h3]; first | done | rfl, hs.bel rfl, okl0⟩
   ·skip
    have hQ : tuQ f l = T9 := by rw [← tuQ_both, hT3, ha6, hT9]
    have hok : tuOk f l := ⟨by rw [hT3]; exact Bool.eq_false_iff.2 hq5, hyr, by rw [hQ]; exact hc⟩
    refine wp_skip (then_n (wp_seq ?_))
    replace hs := hs.nf w0 Z noX [4, 5, 6, 10] rfl rfl rfl rfl
    refine region_inv [([], [1, 3, 4, 5, 6, 7]), ([0], rgn 3 5), ([], rgn 3 5), ([0, 1, 2], rgn 4 4), (rgn 0 4, [6, 7]), (rgn 0 4, [6, 7]), (rgn 0 6, [7]), (rgn 0 7, [])] (fun L ac w => St 41 ⟨w0, [], [(true, .cel (.slice ad l.length c) l.length (bcs l))], Z, noX⟩ [(36, L 0, PV (px T9) (py T9) (pz T9)), (37, L 1, At .u8 32 (by8 (px T9))), (38, L 2, PV (px T9) (py T9) (pz T9)), (39, L 3, .bool (evB T9)), (40, L 4, .bool (!(evB T9))), (5, L 6, .bool (!(evB T9))), (6, L 7, .int .i64 0), (4, true, ptA g2 0), (5, true, .bool false), (6, true, .int .i64 0), (10, true, ptA g10 0)] [(true, g1, 30, (tab .u8 32 f)), (true, g2, 30, (cond (L 5) (tab .u8 32 (by8 (px T9))) (tab .u8 32 (fun _ => 0)))), (true, g4, 42, (PVl (px T3) (py T3) (pz T3))), (true, g8, 24, (Wl a6)), (true, g10, 42, (PVl (px T9) (py T9) (pz T9)))] ac w) (by kernel_rfl) (by kernel_rfl) ?_ ?_ ?_
    ·exact hs.drew.skip.skip.skip.skip.skip.skip.skip
    ·refine ⟨?_, ?_, ?_, ?_, ?_, ?_, ?_, ?_, trivial⟩
     ·exact fun L ac w hs => pln (oldd hs 0 4 (PV (px T9) (py T9) (pz T9)) isAgg42 sizeOf42 rfl rfl rfl rfl rfl fun ac hs => hs)
     ·exact fun L ac w hs => pln (op_call (F := 17) hs (some 1) (v := At .u8 32 (by8 (px T9))) rfl rfl rfl rfl (call17 _) (pbytes_c (px T9) (py T9) (pz T9) T9 (px_lt T9) (py_lt T9) (pt_back oT9)) rfl fun ac w hs => hs)
     ·exact fun L ac w hs => pln (oldd hs 2 4 (PV (px T9) (py T9) (pz T9)) isAgg42 sizeOf42 rfl rfl rfl rfl rfl fun ac hs => hs)
     ·exact fun L ac w hs => pln (op_call (F := 34) hs (some 3) (v := .bool (evB T9)) rfl rfl rfl rfl (call34 _) (even_c (px T9) (py T9) (pz T9) T9 _ (px_lt T9) (py_lt T9) (pt_back oT9) rfl) rfl fun ac w hs => hs)
     ·exact fun L ac w hs => pln (op_un hs (some 4) (v := .bool (!(evB T9))) rfl rfl rfl (fun _ => rfl) rfl fun ac hs => hs)
     ·exact fun L ac w hs => pln (stoo hs 1 ((tab .u8 32 (by8 (px T9)))) sizeOf30 rfl rfl rfl rfl rfl (by kernel_rfl) tab_length' (tab_one _ _ _) tab_leA wr_tab fun w hs => hs)
     ·exact fun L ac w hs => pln (oas hs 5 rfl rfl rfl fun ac hs => hs)
     ·exact fun L ac w hs => pln (oas hs 6 rfl rfl rfl fun ac hs => hs)
    intro ac w hs
    try dsimp only [cond_true] at hs
    refine then_n (wp_ret ?_)
    exact bodyPost_ret (res3 rfl (rv_c hs 1 (v := At .u8 32 (by8 (px T9))) rfl rfl isAgg30 sizeOf30 ldv_tab) (rv_t hs rfl) (rv_t hs rfl)) hs.defers ⟨(), by obtain ⟨h1, h2, h3⟩ := tu_yes (inner := f) (root := l) hok; rw [h1, ← hq, h2, ← he, h3, hQ]; first | done | rfl, hs.bel rfl, okl0⟩
theorem tsec_c (s : Nat) (ad : Option Addr) (nl c : Nat) (l : List UInt8) (x er : Nat) (hs0 : s < 2 ^ 256) (hlen : l.length ≤ 1000) (hx : tsV s l = x) (he : tsE s l = er) (w0 : World) (Z : Nat → Prop) (hl : ByV w0 Z (.slice ad nl c) l): Calls prog 15 #[W s, .slice ad nl c] w0 fun e w' => Ret w0 Z (ρ := Unit) (fun r => .tuple #[W x, ni64 er]) (fun r => []) e w' := by
 obtain rfl := byv_len hl
 refine enterS (n := 39) (args := [W s, .slice ad l.length c]) (S := [(true, .cel (.slice ad l.length c) l.length (bcs l))]) (Z := Z) func15 rfl rfl (Nat.le_of_ble_eq_true rfl) (sokC hl sok0) rfl fun ac hs => ?_
 refine wp_seq (wp_region_lit ?_)
 refine stp (op_box hs none none (cs := (Wl s)) rfl rfl rfl rfl rfl rfl fun g1 ac w hs => ?_)
 refine stp (op_alloc hs none none (cs := [.int .u64 0, .int .u64 0, .int .u64 0, .int .u64 0]) rfl rfl zeroValue24 (by kernel_rfl) rfl rfl fun g2 ac w hs => ?_)
 refine asg hs rfl rfl rfl fun ac hs => ?_
 refine wpList_nil (then_n (wp_seq (wp_region_lit ?_)))
 refine ldd hs 0 (W s) isAgg24 sizeOf24 rfl rfl rfl rfl rfl fun ac hs => ?_
 obtain ⟨d3, hd3, ld3⟩ : ∃ z0, sD s = z0 ∧ z0 < 2 ^ 256 := ⟨_, rfl, sD_lt256 _⟩
 obtain ⟨er4, her4⟩ : ∃ z0, sE s = z0 := ⟨_, rfl⟩
 have ler4 := sE_le s
 rw [her4] at ler4
 refine stp (op_call (F := 19) hs none (v := .tuple #[W d3, At .u8 32 (sK s), ni64 er4]) rfl rfl rfl rfl (call19 _) (straight_c s d3 er4 hs0 hd3 her4) rfl fun ac w hs => ?_)
 refine mvv hs rfl rfl rfl fun ac hs => ?_
 refine stp (xtr hs none rfl rfl rfl rfl rfl fun ac hs => ?_)
 refine stp (xtr hs none rfl rfl rfl rfl rfl fun ac hs => ?_)
 refine stp (xtr hs none rfl rfl rfl rfl rfl fun ac hs => ?_)
 refine stp (op_alloc hs none none (cs := [.int .u64 0, .int .u64 0, .int .u64 0, .int .u64 0]) rfl rfl zeroValue24 (by kernel_rfl) rfl rfl fun g5 ac w hs => ?_)
 refine stp (op_alloc hs none none (cs := (tab .u8 32 (fun _ => 0))) rfl rfl zeroValue30 (by kernel_rfl) rfl rfl fun g6 ac w hs => ?_)
 refine stp (stoo hs 2 ((Wl d3)) sizeOf24 rfl rfl rfl rfl rfl rfl rfl rfl rfl rfl fun w hs => ?_)
 refine stp (stoo hs 3 ((tab .u8 32 (sK s))) sizeOf30 rfl rfl rfl rfl rfl (by kernel_rfl) tab_length' (tab_one _ _ _) tab_leA wr_tab fun w hs => ?_)
 refine asg hs rfl rfl rfl fun ac hs => ?_
 refine wpList_nil (then_n (wp_seq (wp_seq ?_)))
 replace hs := hs.nf w0 Z noX [1, 4, 5, 6, 7, 8] rfl rfl rfl rfl
 refine wp_region_lit ?_
 refine mvv hs rfl rfl rfl fun ac hs => ?_
 refine bnn hs (.bool (decide (er4 ≠ 0))) rfl rfl rfl rfl (bin_neqN (y := 0)) fun ac hs => ?_
 refine wpList_nil (then_n ?_)
 refine wp_cond_split (hs.ev rfl) (fun hc => ?_) (fun hc => ?_)
 ·skip
  have hp7 := of_decide_eq_true hc
  have hn0 : sE s ≠ 0 := by rw [her4]; simpa using hc
  refine wp_seq (wp_region_lit ?_)
  refine stp (op_build hs none (qs := []) (v := .agg #[.int .u64 0, .int .u64 0, .int .u64 0, .int .u64 0]) rfl rfl rfl rfl (fun _ => by kernel_rfl) rfl fun ac hs => ?_)
  refine mvv hs rfl rfl rfl fun ac hs => ?_
  refine stp (stoo hs 1 ([.int .u64 0, .int .u64 0, .int .u64 0, .int .u64 0]) sizeOf24 rfl rfl rfl rfl rfl rfl rfl rfl rfl rfl fun w hs => ?_)
  refine asg hs rfl rfl rfl fun ac hs => ?_
  refine wpList_nil (then_n (wp_ret (then_r ?_)))
  exact bodyPost_ret (res2 rfl (rv_c hs 1 (v := .agg #[.int .u64 0, .int .u64 0, .int .u64 0, .int .u64 0]) rfl rfl isAgg24 sizeOf24 rfl) (rv_t hs rfl)) hs.defers ⟨(), by obtain ⟨h1, h2⟩ := ts_no (s := s) (root := l) (fun h => hn0 h.1); rw [← hx, h1, ← he, h2]; rw [show er4 = 1 from her4.symm.trans (sE_1 hn0).2]; first | done | rfl, hs.bel rfl, okl0⟩
 ·skip
  have hp8 := of_decide_eq_false hc
  have hz0 : sE s = 0 := by rw [her4]; simpa using hc
  refine wp_skip (then_n (wp_seq (wp_region_lit ?_)))
  refine ldd hs 3 (At .u8 32 (sK s)) isAgg30 sizeOf30 rfl rfl rfl rfl ldv_tab fun ac hs => ?_
  refine mvv hs rfl rfl rfl fun ac hs => ?_
  obtain ⟨a9, ha9, la9⟩ : ∃ z0, rdN (tuB (sK s) l) = z0 ∧ z0 < 2 ^ 256 := ⟨_, rfl, rdN_lt _⟩
  obtain ⟨q10, hq10⟩ : ∃ z0, decide (pr (tuB (sK s) l) 0 32 < Nord) = z0 := ⟨_, rfl⟩
  refine stp (op_callS (F := 44) (ρ := Unit) hs none none (v := fun r => .tuple #[W a9, .bool q10]) (E := fun r => []) (j := 0) rfl rfl rfl rfl (call44 _) (fun hs => turning_c (sK s) ad l.length c l a9 q10 (fun j _ => sK_lt _ j) (show l.length ≤ 1000 by omega) ha9 hq10 _ _ (hs.all (k := 0) rfl rfl)) (fun _ => rfl) rfl rfl fun _ ac w hs => ?_)
  refine mvv hs rfl rfl rfl fun ac hs => ?_
  refine stp (xtr hs none rfl rfl rfl rfl rfl fun ac hs => ?_)
  refine stp (xtr hs none rfl rfl rfl rfl rfl fun ac hs => ?_)
  refine stp (op_alloc hs none none (cs := [.int .u64 0, .int .u64 0, .int .u64 0, .int .u64 0]) rfl rfl zeroValue24 (by kernel_rfl) rfl rfl fun g11 ac w hs => ?_)
  refine stp (stoo hs 4 ((Wl a9)) sizeOf24 rfl rfl rfl rfl rfl rfl rfl rfl rfl rfl fun w hs => ?_)
  refine asg hs rfl rfl rfl fun ac hs => ?_
  refine wpList_nil (then_n (wp_seq (wp_seq ?_)))
  replace hs := hs.nf w0 Z noX [4, 5, 6, 9, 10] rfl rfl rfl rfl
  refine wp_region_lit ?_
  refine mvv hs rfl rfl rfl fun ac hs => ?_
  refine stp (op_un hs none (v := .bool (!q10)) rfl rfl rfl (fun _ => rfl) rfl fun ac hs => ?_)
  refine wpList_nil (then_n ?_)
  refine wp_cond_split (hs.ev rfl) (fun hc => ?_) (fun hc => ?_)
  ·skip
   have hnr : ¬ pr (tuB (sK s) l) 0 32 < Nord := of_decide_eq_false (hq10.trans (by simpa using hc))
   refine wp_seq (wp_region_lit ?_)
   refine stp (op_build hs none (qs := []) (v := .agg #[.int .u64 0, .int .u64 0, .int .u64 0, .int .u64 0]) rfl rfl rfl rfl (fun _ => by kernel_rfl) rfl fun ac hs => ?_)
   refine stp (stoo hs 1 ([.int .u64 0, .int .u64 0, .int .u64 0, .int .u64 0]) sizeOf24 rfl rfl rfl rfl rfl rfl rfl rfl rfl rfl fun w hs => ?_)
   refine asg hs rfl rfl rfl fun ac hs => ?_
   refine wpList_nil (then_n (wp_ret (then_r ?_)))
   exact bodyPost_ret (res2 rfl (rv_c hs 1 (v := .agg #[.int .u64 0, .int .u64 0, .int .u64 0, .int .u64 0]) rfl rfl isAgg24 sizeOf24 rfl) (rv_t hs rfl)) hs.defers ⟨(), by obtain ⟨h1, h2⟩ := ts_no (s := s) (root := l) (fun h => hnr h.2.1); rw [← hx, h1, ← he, h2]; first | done | rfl, hs.bel rfl, okl0⟩
  ·skip
   have hyr : pr (tuB (sK s) l) 0 32 < Nord := of_decide_eq_true (hq10.trans (by simpa using hc))
   refine wp_skip (then_n (wp_seq (wp_region_lit ?_)))
   refine ldd hs 2 (W d3) isAgg24 sizeOf24 rfl rfl rfl rfl rfl fun ac hs => ?_
   refine ldd hs 4 (W a9) isAgg24 sizeOf24 rfl rfl rfl rfl rfl fun ac hs => ?_
   obtain ⟨r12, hr12, lr12⟩ : ∃ z0, (d3 + a9) % Nord = z0 ∧ z0 < 2 ^ 256 := ⟨_, rfl, mN256 _⟩
   refine stp (op_call (F := 21) hs none (v := W r12) rfl rfl rfl rfl (call21 _) (sadd_c d3 a9 r12 ld3 la9 hr12) rfl fun ac w hs => ?_)
   refine stp (op_alloc hs none none (cs := [.int .u64 0, .int .u64 0, .int .u64 0, .int .u64 0]) rfl rfl zeroValue24 (by kernel_rfl) rfl rfl fun g13 ac w hs => ?_)
   refine stp (stoo hs 5 ((Wl r12)) sizeOf24 rfl rfl rfl rfl rfl rfl rfl rfl rfl rfl fun w hs => ?_)
   refine wpList_nil (then_n (wp_seq (wp_seq ?_)))
   replace hs := hs.nf w0 Z noX [4, 5, 11] rfl rfl rfl rfl
   refine wp_region_lit ?_
   refine ldd hs 5 (W r12) isAgg24 sizeOf24 rfl rfl rfl rfl rfl fun ac hs => ?_
   refine stp (op_build hs none (qs := []) (v := .agg #[.int .u64 0, .int .u64 0, .int .u64 0, .int .u64 0]) rfl rfl rfl rfl (fun _ => by kernel_rfl) rfl fun ac hs => ?_)
   refine stp (op_bin hs none (v := .bool (decide (r12 = 0))) rfl rfl rfl rfl (fun w => run_eqGuard_agg w .eql 24 _ _ _ _ Tryz.eqGuardType24) (eqlW r12 0 lr12 (by decide) _ rfl) rfl fun ac hs => ?_)
   refine wpList_nil (then_n ?_)
   refine wp_cond_split (hs.ev rfl) (fun hc => ?_) (fun hc => ?_)
   ·skip
    have hp14 := of_decide_eq_true hc
    have hQ : tsQ s l = r12 := by unfold tsQ; rw [hd3, ha9, hr12]
    have hq0 := of_decide_eq_true hc
    refine wp_seq (wp_region_lit ?_)
    refine ldd hs 5 (W r12) isAgg24 sizeOf24 rfl rfl rfl rfl rfl fun ac hs => ?_
    refine stp (stoo hs 1 ((Wl r12)) sizeOf24 rfl rfl rfl rfl rfl rfl rfl rfl rfl rfl fun w hs => ?_)
    refine asg hs rfl rfl rfl fun ac hs => ?_
    refine wpList_nil (then_n (wp_ret (then_r ?_)))
    exact bodyPost_ret (res2 rfl (rv_c hs 1 (v := W r12) rfl rfl isAgg24 sizeOf24 rfl) (rv_t hs rfl)) hs.defers ⟨(), by obtain ⟨h1, h2⟩ := ts_no (s := s) (root := l) (fun h => h.2.2 (by rw [hQ]; exact hq0)); rw [← hx, h1, ← he, h2]; rw [show r12 = 0 from hq0]; first | done | rfl, hs.bel rfl, okl0⟩
   ·skip
    have hp15 := of_decide_eq_false hc
    have hQ : tsQ s l = r12 := by unfold tsQ; rw [hd3, ha9, hr12]
    have hok : tsOk s l := ⟨hz0, hyr, by rw [hQ]; exact of_decide_eq_false hc⟩
    refine wp_skip (then_n (wp_seq (wp_region_lit ?_)))
    refine ldd hs 5 (W r12) isAgg24 sizeOf24 rfl rfl rfl rfl rfl fun ac hs => ?_
    refine stp (stoo hs 1 ((Wl r12)) sizeOf24 rfl rfl rfl rfl rfl rfl rfl rfl rfl rfl fun w hs => ?_)
    refine asg hs rfl rfl rfl fun ac hs => ?_
    refine wpList_nil (then_n (wp_ret ?_))
    exact bodyPost_ret (res2 rfl (rv_c hs 1 (v := W r12) rfl rfl isAgg24 sizeOf24 rfl) (rv_t hs rfl)) hs.defers ⟨(), by obtain ⟨h1, h2⟩ := ts_yes (s := s) (root := l) hok; rw [← hx, h1, ← he, h2, hQ]; first | done | rfl, hs.bel rfl, okl0⟩
end Go.Proofs.YtejbajgpiecjcaaGreat
