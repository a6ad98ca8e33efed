/- The contracts of shifts, bytes, quotients. -/
import Derived.Test.YtaeafgkjinhceaaSh2P
import Derived.Test.YtaeafgkjinhceaaWideW
import Derived.Test.YtaeafgkjinhceaaMul64
import Derived.Test.YtaeafgkjinhceaaWDiv
namespace Go.Proofs.Ytaeafgkjinhceaa
open Go.RowKit
set_option maxRecDepth 10000

theorem Wl_modx {n x : Nat} (h : n % 2 ^ 256 = x) : Wl x = Wl n := by
  have := W_mod n
  rw [h] at this
  have h2 := congrArg Value.cells this
  exact Array.toList_inj.2 h2 |>.trans rfl
theorem shr_lt {x k : Nat} (h : x < 2 ^ 64) : x / 2 ^ k < 2 ^ 64 := Nat.lt_of_le_of_lt (Nat.div_le_self _ _) h
theorem mul64_c (x y h l : Nat) (hx : x < 18446744073709551616) (hy : y < 18446744073709551616) (hh : x * y / 18446744073709551616 = h) (hl : x * y % 18446744073709551616 = l) (w : World) :
    Calls Try.prog 52 #[.int .u64 ((x : Nat) : Int), .int .u64 ((y : Nat) : Int)] w fun e w' => e = .returned (.tuple #[.int .u64 ((h : Nat) : Int), .int .u64 ((l : Nat) : Int)]) ∧ Below w.heap.size w w' :=
  (mul64_any x y hx hy w).mono fun e w' ⟨h1, h2⟩ => ⟨by rw [h1, hh, hl], by rw [h2]; exact Below.refl _ _⟩
theorem wdiv_c (a b q r : Nat) (ha : a < 2 ^ 256) (hb : b < 2 ^ 256) (hb0 : 0 < b) (hq : a / b = q) (hr : a % b = r) (w : World) :
    Calls Try.prog 21 #[W a, W b] w fun e w' => e = .returned (.tuple #[W q, W r, .int .i64 0]) ∧ Below w.heap.size w w' :=
  (div_any w a b ha hb hb0).mono fun e w' ⟨h1, h2⟩ => ⟨by rw [h1, hq, hr], h2⟩

theorem rem2_step {X q' m q k b z : Nat} (h1 : 1 ≤ k) (_ : True) (hr : (q' * 2 ^ 256 + X) / 2 ^ k % m = q) (hb : X / 2 ^ (k - 1) % 2 = b) (hz : (2 * q + b) % m = z) (hk : k ≤ 256 := by omega) : (q' * 2 ^ 256 + X) / 2 ^ (k - 1) % m = z := by
  have e := half_lo (H := q') (L := X) (i := k - 1) (by omega)
  rw [Nat.mod_eq_of_lt (show k - 1 < 256 by omega), hb] at e
  rw [rem_bit h1 hr e, hz]
theorem rem2_start0 {u m r : Nat} (hu : u < 2 ^ 256) (hr : r = 0) : (0 * 2 ^ 256 + u) / 2 ^ 256 % m = r := by rw [Nat.zero_mul, Nat.zero_add, Nat.div_eq_of_lt hu, Nat.zero_mod, hr]
theorem rem2_end0 {u m r q : Nat} (_ : r = 0) (hr : (0 * 2 ^ 256 + u) / 2 ^ 0 % m = q) : q = u % m := by rw [← hr, Nat.zero_mul, Nat.zero_add, Nat.pow_zero, Nat.div_one]
theorem rem2_start1 {u v m r : Nat} (hv : v < 2 ^ 256) (hr : r = u % m) : (u * 2 ^ 256 + v) / 2 ^ 256 % m = r := by rw [Nat.add_comm, Nat.add_mul_div_right _ _ (Nat.two_pow_pos 256), Nat.div_eq_of_lt hv, Nat.zero_add, hr]
theorem rem2_end1 {u v m r q : Nat} (_ : v < 2 ^ 256) (_ : r = u % m) (hr : (u * 2 ^ 256 + v) / 2 ^ 0 % m = q) : q = (u * 2 ^ 256 + v) % m := by rw [← hr, Nat.pow_zero, Nat.div_one]

theorem shr_c (a : Nat) (n : Int) (nn x : Nat) (ha : a < 2 ^ 256) (hn : min (max n 0) 256 = (nn : Int)) (hx : a / 2 ^ nn = x) (w0 : World) : Calls Try.prog 27 #[W a, .int .i64 n] w0 fun e w' => e = .returned (W x) ∧ Below w0.heap.size w0 w' := by
  have hnn : nn ≤ 256 := by omega
  refine enter (n := 52) (args := [W a, .int .i64 n]) Try.func27 rfl rfl (Nat.le_of_ble_eq_true rfl) fun ac hs => ?_
  refine wp_seq ?_
  refine wp_region_lit ?_
  refine lstep (wpO_plain rfl (op_box hs none none (cs := (Wl a)) rfl rfl rfl rfl rfl rfl fun g1 ac w hs => ?_))
  refine lstep (wpO_plain rfl (op_alloc hs none none (cs := [.int .u64 0, .int .u64 0, .int .u64 0, .int .u64 0]) rfl rfl Try.zeroValue24 (by kernel_rfl) rfl rfl fun g2 ac w hs => ?_))
  refine wpList_nil ?_
  refine then_n ?_
  refine wp_seq ?_
  refine wp_region_lit ?_
  refine lstep (wpO_plain rfl (op_move hs none rfl rfl rfl rfl fun ac hs => ?_))
  refine lstep (wpO_plain rfl (op_blt hs none (v := .int .i64 (max n 0)) rfl rfl rfl blt_maxI rfl fun ac hs => ?_))
  refine lstep (wpO_plain rfl (op_blt hs none (v := .int .i64 (min (max n 0) 256)) rfl rfl rfl blt_minI rfl fun ac hs => ?_))
  refine lstep (wpO_plain rfl (op_assign hs none rfl rfl rfl rfl fun ac hs => ?_))
  refine wpList_nil ?_
  replace hs := hs.re (fs' := [(1, true, .int .i64 ((nn : Nat) : Int)), (2, true, .pointer (some ⟨g1, 0, none⟩)), (4, true, .pointer (some ⟨g2, 0, none⟩)), (9, true, .int .i64 n), (10, true, .int .i64 (max n 0)), (11, true, .int .i64 (min (max n 0) 256))]) ⟨congrArg some (shn hn), rfl, rfl, rfl, rfl, rfl, trivial⟩
  refine then_n ?_
  refine wp_seq ?_
  refine wp_region_lit ?_
  refine lstep (wpO_plain rfl (op_alloc hs none none (cs := [.int .u64 0, .int .u64 0, .int .u64 0, .int .u64 0]) rfl rfl Try.zeroValue24 (by kernel_rfl) rfl rfl fun g3 ac w hs => ?_))
  refine wpList_nil ?_
  refine then_n ?_
  refine wp_seq ?_
  refine wp_region_lit ?_
  refine lstep (wpO_plain rfl (op_move hs none rfl rfl rfl rfl fun ac hs => ?_))
  refine lstep (wpO_plain rfl (op_bin hs none (v := .int .i64 ((nn / 64 : Nat) : Int)) rfl rfl rfl rfl (fun _ => rfl) (bin_quoN (x := nn) (y := 64) (z := nn / 64) rfl (by decide) (show nn < 9223372036854775808 by omega)) rfl fun ac hs => ?_))
  refine lstep (wpO_plain rfl (op_move hs none rfl rfl rfl rfl fun ac hs => ?_))
  refine lstep (wpO_plain rfl (op_bin hs none (v := .int .i64 ((nn % 64 : Nat) : Int)) rfl rfl rfl rfl (fun _ => rfl) (bin_remN (x := nn) (y := 64) (z := nn % 64) rfl (by decide)) rfl fun ac hs => ?_))
  refine lstep (wpO_plain rfl (op_assign hs none rfl rfl rfl rfl fun ac hs => ?_))
  refine lstep (wpO_plain rfl (op_assign hs none rfl rfl rfl rfl fun ac hs => ?_))
  refine wpList_nil ?_
  refine then_n ?_
  refine wp_seq ?_
  refine wp_seq ?_
  refine wp_region_lit ?_
  refine lstep (wpO_plain rfl (op_move hs none rfl rfl rfl rfl fun ac hs => ?_))
  refine lstep (wpO_plain rfl (op_assign hs none rfl rfl rfl rfl fun ac hs => ?_))
  refine wpList_nil ?_
  refine then_n ?_
  refine wp_block ?_
  refine wp_loop_m (fun μ ac w => ∃ (i : Nat) (f : Nat → Nat), (4 - i) = μ ∧ (nn / 64 ≤ i) ∧ (i ≤ 4) ∧ (∀ j, j < 4 → f j = shf a nn i j) ∧ St 52 w0 [(2, true, .pointer (some ⟨g1, 0, none⟩)), (4, true, .pointer (some ⟨g2, 0, none⟩)), (5, true, .pointer (some ⟨g3, 0, none⟩)), (6, true, .int .i64 ((nn / 64 : Nat) : Int)), (7, true, .int .i64 ((nn % 64 : Nat) : Int)), (8, true, .int .i64 ((i : Nat) : Int))] [(true, g1, 24, (Wl a)), (true, g2, 24, [.int .u64 0, .int .u64 0, .int .u64 0, .int .u64 0]), (true, g3, 24, (tab .u64 4 f))] ac w) ?_ ?_
  · exact ⟨_, (nn / 64), (fun _ => 0), rfl, (Nat.le_refl _), (by omega), shr_start, (hs.re ⟨rfl, rfl, rfl, rfl, rfl, rfl, trivial⟩)⟩
  intro μ ac w ⟨i, f, hμ, hby, hi, hf, hs⟩
  refine wp_seq ?_
  refine wp_seq ?_
  refine wp_region_lit ?_
  refine lstep (wpO_plain rfl (op_move hs none rfl rfl rfl rfl fun ac hs => ?_))
  refine lstep (wpO_plain rfl (op_bin hs none (v := .bool (decide (i < 4))) rfl rfl rfl rfl (fun _ => rfl) (bin_lssN (x := i) (y := 4)) rfl fun ac hs => ?_))
  refine wpList_nil ?_
  refine then_n ?_
  refine wp_cond_split (hs.ev rfl) (fun hc => ?_) (fun hc => ?_)
  · skip
    have hp4 := of_decide_eq_true hc
    refine wp_skip ?_
    refine then_n ?_
    refine wp_seq ?_
    refine wp_block ?_
    refine wp_seq ?_
    refine wp_region_lit ?_
    refine lstep (wpO_plain rfl (op_move hs none rfl rfl rfl rfl fun ac hs => ?_))
    refine lstep (wpO_plain rfl (op_move hs none rfl rfl rfl rfl fun ac hs => ?_))
    refine lstep (wpO_plain rfl (op_bin hs none (v := .int .i64 ((i - (nn / 64) : Nat) : Int)) rfl rfl rfl rfl (fun _ => rfl) (bin_subN (x := i) (y := nn / 64) (z := i - (nn / 64)) (by omega) (show i - (nn / 64) < 9223372036854775808 by omega)) rfl fun ac hs => ?_))
    refine lstep (wpO_plain rfl (op_move hs none rfl rfl rfl rfl fun ac hs => ?_))
    refine lstep (wpO_plain rfl (op_idxA hs none (j := i) rfl rfl rfl rfl Try.underlying24 Try.sizeOf22 (show i < 4 by omega) (off := i) (by omega) rfl fun ac hs => ?_))
    have l5 := limN_lt a i
    refine lstep (wpO_plain rfl (op_load hs none 0 (v := .int .u64 ((limN a i : Nat) : Int)) rfl rfl rfl rfl Try.isAgg22 Try.sizeOf22 (Wl_get (j := i) (show i < 4 by omega)) rfl fun ac hs => ?_))
    refine lstep (wpO_plain rfl (op_move hs none rfl rfl rfl rfl fun ac hs => ?_))
    refine lstep (wpO_plain rfl (op_bin hs none (v := .int .u64 (((limN a i) / 2 ^ (nn % 64) : Nat) : Int)) rfl rfl rfl rfl (fun _ => rfl) (bin_shrN (x := limN a i) (y := nn % 64) (z := (limN a i) / 2 ^ (nn % 64)) rfl (show limN a i < 2 ^ 64 by omega)) rfl fun ac hs => ?_))
    refine lstep (wpO_plain rfl (op_idxA hs none (j := i - (nn / 64)) rfl rfl rfl rfl Try.underlying24 Try.sizeOf22 (show i - (nn / 64) < 4 by omega) (off := i - (nn / 64)) (by omega) rfl fun ac hs => ?_))
    refine lstep (wpO_plain rfl (op_store hs 2 (vs := [.int .u64 (((limN a i) / 2 ^ (nn % 64) : Nat) : Int)]) rfl rfl rfl rfl rfl Try.sizeOf22 rfl rfl rfl (tab_le (j := i - (nn / 64)) (show i - (nn / 64) < 4 by omega)) (tab_set) fun w hs => ?_))
    refine wpList_nil ?_
    refine then_n ?_
    refine wp_seq ?_
    by_cases hq6 : i + 1 < 4
    · skip
      refine wp_region_lit ?_
      refine lstep (wpO_plain rfl (op_move hs none rfl rfl rfl rfl fun ac hs => ?_))
      refine lstep (wpO_plain rfl (op_bin hs none (v := .int .i64 ((i + 1 : Nat) : Int)) rfl rfl rfl rfl (fun _ => rfl) (bin_addN (x := i) (y := 1) (z := i + 1) rfl (show i + 1 < 9223372036854775808 by omega)) rfl fun ac hs => ?_))
      refine lstep (wpO_plain rfl (op_bin hs none (v := .bool true) rfl rfl rfl rfl (fun _ => rfl) (fun w => dT hq6 (bin_lssN (x := i + 1) (y := 4) w)) rfl fun ac hs => ?_))
      refine lstep (wpO_plain rfl (op_move hs none rfl rfl rfl rfl fun ac hs => ?_))
      refine lstep (wpO_in hs rfl rfl rfl (op_move hs none rfl rfl rfl rfl fun ac hs => ?_))
      refine lstep (wpO_in hs rfl rfl rfl (op_bin hs none (v := .bool (decide (0 < nn % 64))) rfl rfl rfl rfl (fun _ => rfl) (bin_gtrN (x := nn % 64) (y := 0)) rfl fun ac hs => ?_))
      refine lstep (wpO_plain rfl (op_pickT hs none rfl rfl rfl rfl rfl fun ac hs => ?_))
      refine wpList_nil ?_
      refine then_n ?_
      refine wp_cond_split (hs.ev rfl) (fun hc => ?_) (fun hc => ?_)
      · skip
        have hp7 := of_decide_eq_true hc
        replace hs : St 52 w0 [(2, true, .pointer (some ⟨g1, 0, none⟩)), (4, true, .pointer (some ⟨g2, 0, none⟩)), (5, true, .pointer (some ⟨g3, 0, none⟩)), (6, true, .int .i64 ((nn / 64 : Nat) : Int)), (7, true, .int .i64 ((nn % 64 : Nat) : Int)), (8, true, .int .i64 ((i : Nat) : Int))] [(true, g1, 24, (Wl a)), (true, g2, 24, [.int .u64 0, .int .u64 0, .int .u64 0, .int .u64 0]), (true, g3, 24, (tab .u64 4 (upn f (i - (nn / 64)) ((limN a i) / 2 ^ (nn % 64)))))] ac _ := hs.re ⟨rfl, rfl, rfl, rfl, rfl, rfl, trivial⟩
        have l8 := limN_lt a (i + 1)
        refine region_inv [([], [2, 3, 4, 12, 13, 14]), ([], [2, 3, 4, 12, 13, 14]), ([0, 1], [3, 4, 12, 13, 14]), ([0, 1, 2], [4, 12, 13, 14]), ([0, 1, 2, 3], [12, 13, 14]), ([], [6, 7, 8, 11, 12, 13, 14]), ([5], [7, 8, 11, 12, 13, 14]), ([5, 6], [8, 11, 12, 13, 14]), ([5, 6, 7], [11, 12, 13, 14]), ([], [10, 11, 12, 13, 14]), ([9], [11, 12, 13, 14]), ([5, 6, 7, 8, 9, 10], [12, 13, 14]), ([0, 1, 2, 3, 4, 5, 6, 7, 8, 9, 10, 11], [13, 14]), ([0, 1, 2, 3, 4, 5, 6, 7, 8, 9, 10, 11, 12], [14]), ([0, 1, 2, 3, 4, 5, 6, 7, 8, 9, 10, 11, 12, 13], [])] (fun L ac w => St 52 w0 [(37, L 0, .int .i64 ((i : Nat) : Int)), (38, L 1, .int .i64 ((nn / 64 : Nat) : Int)), (39, L 2, .int .i64 ((i - (nn / 64) : Nat) : Int)), (40, L 3, .pointer (some ⟨g3, i - (nn / 64), none⟩)), (41, L 4, .int .u64 (((upn f (i - (nn / 64)) ((limN a i) / 2 ^ (nn % 64))) (i - (nn / 64)) : Nat) : Int)), (42, L 5, .int .i64 ((i : Nat) : Int)), (43, L 6, .int .i64 ((i + 1 : Nat) : Int)), (44, L 7, .pointer (some ⟨g1, i + 1, none⟩)), (45, L 8, .int .u64 ((limN a (i + 1) : Nat) : Int)), (46, L 9, .int .i64 ((nn % 64 : Nat) : Int)), (47, L 10, .int .i64 ((64 - (nn % 64) : Nat) : Int)), (48, L 11, .int .u64 (((limN a (i + 1)) * 2 ^ (64 - (nn % 64)) % 18446744073709551616 : Nat) : Int)), (49, L 12, .int .u64 ((((upn f (i - (nn / 64)) ((limN a i) / 2 ^ (nn % 64))) (i - (nn / 64))) ||| ((limN a (i + 1)) * 2 ^ (64 - (nn % 64)) % 18446744073709551616) : Nat) : Int)), (50, L 13, .pointer (some ⟨g3, i - (nn / 64), none⟩)), (2, true, .pointer (some ⟨g1, 0, none⟩)), (4, true, .pointer (some ⟨g2, 0, none⟩)), (5, true, .pointer (some ⟨g3, 0, none⟩)), (6, true, .int .i64 ((nn / 64 : Nat) : Int)), (7, true, .int .i64 ((nn % 64 : Nat) : Int)), (8, true, .int .i64 ((i : Nat) : Int))] [(true, g1, 24, (Wl a)), (true, g2, 24, [.int .u64 0, .int .u64 0, .int .u64 0, .int .u64 0]), (true, g3, 24, (cond (L 14) (tab .u64 4 (upn (upn f (i - (nn / 64)) ((limN a i) / 2 ^ (nn % 64))) (i - (nn / 64)) (((upn f (i - (nn / 64)) ((limN a i) / 2 ^ (nn % 64))) (i - (nn / 64))) ||| ((limN a (i + 1)) * 2 ^ (64 - (nn % 64)) % 18446744073709551616)))) (tab .u64 4 (upn f (i - (nn / 64)) ((limN a i) / 2 ^ (nn % 64))))))] ac w) (by kernel_rfl) (by kernel_rfl) ?_ ?_ ?_
        · exact hs.drew.skip.skip.skip.skip.skip.skip.skip.skip.skip.skip.skip.skip.skip.skip
        · refine ⟨?_, ?_, ?_, ?_, ?_, ?_, ?_, ?_, ?_, ?_, ?_, ?_, ?_, ?_, ?_, trivial⟩
          · intro L ac w hJ
            have hs := hJ
            refine wpO_plain rfl (op_move hs (some 0) rfl rfl rfl rfl fun ac hs => ?_)
            exact hs
          · intro L ac w hJ
            have hs := hJ
            refine wpO_plain rfl (op_move hs (some 1) rfl rfl rfl rfl fun ac hs => ?_)
            exact hs
          · intro L ac w hJ
            have hs := hJ
            refine wpO_plain rfl (op_bin hs (some 2) (v := .int .i64 ((i - (nn / 64) : Nat) : Int)) rfl rfl rfl rfl (fun _ => rfl) (bin_subN (x := i) (y := nn / 64) (z := i - (nn / 64)) (by omega) (show i - (nn / 64) < 9223372036854775808 by omega)) rfl fun ac hs => ?_)
            exact hs
          · intro L ac w hJ
            have hs := hJ
            refine wpO_plain rfl (op_idxA hs (some 3) (j := i - (nn / 64)) rfl rfl rfl rfl Try.underlying24 Try.sizeOf22 (show i - (nn / 64) < 4 by omega) (off := i - (nn / 64)) (by omega) rfl fun ac hs => ?_)
            exact hs
          · intro L ac w hJ
            have hs := hJ
            refine wpO_plain rfl (op_load hs (some 4) 2 (v := .int .u64 (((upn f (i - (nn / 64)) ((limN a i) / 2 ^ (nn % 64))) (i - (nn / 64)) : Nat) : Int)) rfl rfl rfl rfl Try.isAgg22 Try.sizeOf22 (tab_get (j := i - (nn / 64)) (show i - (nn / 64) < 4 by omega)) rfl fun ac hs => ?_)
            exact hs
          · intro L ac w hJ
            have hs := hJ
            refine wpO_plain rfl (op_move hs (some 5) rfl rfl rfl rfl fun ac hs => ?_)
            exact hs
          · intro L ac w hJ
            have hs := hJ
            refine wpO_plain rfl (op_bin hs (some 6) (v := .int .i64 ((i + 1 : Nat) : Int)) rfl rfl rfl rfl (fun _ => rfl) (bin_addN (x := i) (y := 1) (z := i + 1) rfl (show i + 1 < 9223372036854775808 by omega)) rfl fun ac hs => ?_)
            exact hs
          · intro L ac w hJ
            have hs := hJ
            refine wpO_plain rfl (op_idxA hs (some 7) (j := i + 1) rfl rfl rfl rfl Try.underlying24 Try.sizeOf22 (show i + 1 < 4 by omega) (off := i + 1) (by omega) rfl fun ac hs => ?_)
            exact hs
          · intro L ac w hJ
            have hs := hJ
            refine wpO_plain rfl (op_load hs (some 8) 0 (v := .int .u64 ((limN a (i + 1) : Nat) : Int)) rfl rfl rfl rfl Try.isAgg22 Try.sizeOf22 (Wl_get (j := i + 1) (show i + 1 < 4 by omega)) rfl fun ac hs => ?_)
            exact hs
          · intro L ac w hJ
            have hs := hJ
            refine wpO_plain rfl (op_move hs (some 9) rfl rfl rfl rfl fun ac hs => ?_)
            exact hs
          · intro L ac w hJ
            have hs := hJ
            refine wpO_plain rfl (op_bin hs (some 10) (v := .int .i64 ((64 - (nn % 64) : Nat) : Int)) rfl rfl rfl rfl (fun _ => rfl) (bin_subN (x := 64) (y := nn % 64) (z := 64 - (nn % 64)) (by omega) (show 64 - (nn % 64) < 9223372036854775808 by omega)) rfl fun ac hs => ?_)
            exact hs
          · intro L ac w hJ
            have hs := hJ
            refine wpO_plain rfl (op_bin hs (some 11) (v := .int .u64 (((limN a (i + 1)) * 2 ^ (64 - (nn % 64)) % 18446744073709551616 : Nat) : Int)) rfl rfl rfl rfl (fun _ => rfl) (bin_shlM (x := limN a (i + 1)) (y := 64 - (nn % 64)) (z := (limN a (i + 1)) * 2 ^ (64 - (nn % 64)) % 18446744073709551616) rfl rfl) rfl fun ac hs => ?_)
            exact hs
          · intro L ac w hJ
            have hs := hJ
            refine wpO_plain rfl (op_bin hs (some 12) (v := .int .u64 ((((upn f (i - (nn / 64)) ((limN a i) / 2 ^ (nn % 64))) (i - (nn / 64))) ||| ((limN a (i + 1)) * 2 ^ (64 - (nn % 64)) % 18446744073709551616) : Nat) : Int)) rfl rfl rfl rfl (fun _ => rfl) (bin_orN (x := (upn f (i - (nn / 64)) ((limN a i) / 2 ^ (nn % 64))) (i - (nn / 64))) (y := (limN a (i + 1)) * 2 ^ (64 - (nn % 64)) % 18446744073709551616) (z := ((upn f (i - (nn / 64)) ((limN a i) / 2 ^ (nn % 64))) (i - (nn / 64))) ||| ((limN a (i + 1)) * 2 ^ (64 - (nn % 64)) % 18446744073709551616)) rfl (by rw [upn_at]; exact shr_lt (limN_lt _ _)) (Nat.mod_lt _ (by decide)) (or_lt64 (by rw [upn_at]; exact shr_lt (limN_lt _ _)) (Nat.mod_lt _ (by decide)))) rfl fun ac hs => ?_)
            exact hs
          · intro L ac w hJ
            have hs := hJ
            refine wpO_plain rfl (op_idxA hs (some 13) (j := i - (nn / 64)) rfl rfl rfl rfl Try.underlying24 Try.sizeOf22 (show i - (nn / 64) < 4 by omega) (off := i - (nn / 64)) (by omega) rfl fun ac hs => ?_)
            exact hs
          · intro L ac w hJ
            have hs := hJ
            refine wpO_plain rfl (op_store hs 2 (vs := [.int .u64 ((((upn f (i - (nn / 64)) ((limN a i) / 2 ^ (nn % 64))) (i - (nn / 64))) ||| ((limN a (i + 1)) * 2 ^ (64 - (nn % 64)) % 18446744073709551616) : Nat) : Int)]) rfl rfl rfl rfl rfl Try.sizeOf22 rfl rfl rfl (tab_le (j := i - (nn / 64)) (show i - (nn / 64) < 4 by omega)) (tab_set) fun w hs => ?_)
            exact hs
        intro ac w hJ
        replace hs : St 52 w0 [(37, true, .int .i64 ((i : Nat) : Int)), (38, true, .int .i64 ((nn / 64 : Nat) : Int)), (39, true, .int .i64 ((i - (nn / 64) : Nat) : Int)), (40, true, .pointer (some ⟨g3, i - (nn / 64), none⟩)), (41, true, .int .u64 (((upn f (i - (nn / 64)) ((limN a i) / 2 ^ (nn % 64))) (i - (nn / 64)) : Nat) : Int)), (42, true, .int .i64 ((i : Nat) : Int)), (43, true, .int .i64 ((i + 1 : Nat) : Int)), (44, true, .pointer (some ⟨g1, i + 1, none⟩)), (45, true, .int .u64 ((limN a (i + 1) : Nat) : Int)), (46, true, .int .i64 ((nn % 64 : Nat) : Int)), (47, true, .int .i64 ((64 - (nn % 64) : Nat) : Int)), (48, true, .int .u64 (((limN a (i + 1)) * 2 ^ (64 - (nn % 64)) % 18446744073709551616 : Nat) : Int)), (49, true, .int .u64 ((((upn f (i - (nn / 64)) ((limN a i) / 2 ^ (nn % 64))) (i - (nn / 64))) ||| ((limN a (i + 1)) * 2 ^ (64 - (nn % 64)) % 18446744073709551616) : Nat) : Int)), (50, true, .pointer (some ⟨g3, i - (nn / 64), none⟩)), (2, true, .pointer (some ⟨g1, 0, none⟩)), (4, true, .pointer (some ⟨g2, 0, none⟩)), (5, true, .pointer (some ⟨g3, 0, none⟩)), (6, true, .int .i64 ((nn / 64 : Nat) : Int)), (7, true, .int .i64 ((nn % 64 : Nat) : Int)), (8, true, .int .i64 ((i : Nat) : Int))] [(true, g1, 24, (Wl a)), (true, g2, 24, [.int .u64 0, .int .u64 0, .int .u64 0, .int .u64 0]), (true, g3, 24, (tab .u64 4 (upn (upn f (i - (nn / 64)) ((limN a i) / 2 ^ (nn % 64))) (i - (nn / 64)) (((upn f (i - (nn / 64)) ((limN a i) / 2 ^ (nn % 64))) (i - (nn / 64))) ||| ((limN a (i + 1)) * 2 ^ (64 - (nn % 64)) % 18446744073709551616)))))] ac w := hJ
        refine blk_n ?_
        refine then_n ?_
        refine wp_region_lit ?_
        refine lstep (wpO_plain rfl (op_move hs none rfl rfl rfl rfl fun ac hs => ?_))
        refine lstep (wpO_plain rfl (op_bin hs none (v := .int .i64 ((i + 1 : Nat) : Int)) rfl rfl rfl rfl (fun _ => rfl) (bin_addN (x := i) (y := 1) (z := i + 1) rfl (show i + 1 < 9223372036854775808 by omega)) rfl fun ac hs => ?_))
        refine lstep (wpO_plain rfl (op_assign hs none rfl rfl rfl rfl fun ac hs => ?_))
        refine wpList_nil ?_
        refine then_n ?_
        exact ⟨_, ⟨(i + 1), (upn (upn f (i - (nn / 64)) ((limN a i) / 2 ^ (nn % 64))) (i - (nn / 64)) (((upn f (i - (nn / 64)) ((limN a i) / 2 ^ (nn % 64))) (i - (nn / 64))) ||| ((limN a (i + 1)) * 2 ^ (64 - (nn % 64)) % 18446744073709551616))), rfl, (by omega), (by omega), (shr_stepB ha hby hp4 hp7 hf), (hs.re ⟨rfl, rfl, rfl, rfl, rfl, rfl, trivial⟩)⟩, (by omega)⟩
      · skip
        have hp9 := of_decide_eq_false hc
        refine wp_skip ?_
        refine blk_n ?_
        refine then_n ?_
        refine wp_region_lit ?_
        refine lstep (wpO_plain rfl (op_move hs none rfl rfl rfl rfl fun ac hs => ?_))
        refine lstep (wpO_plain rfl (op_bin hs none (v := .int .i64 ((i + 1 : Nat) : Int)) rfl rfl rfl rfl (fun _ => rfl) (bin_addN (x := i) (y := 1) (z := i + 1) rfl (show i + 1 < 9223372036854775808 by omega)) rfl fun ac hs => ?_))
        refine lstep (wpO_plain rfl (op_assign hs none rfl rfl rfl rfl fun ac hs => ?_))
        refine wpList_nil ?_
        refine then_n ?_
        exact ⟨_, ⟨(i + 1), (upn f (i - (nn / 64)) ((limN a i) / 2 ^ (nn % 64))), rfl, (by omega), (by omega), (shr_stepA ha hby hp4 (by omega) hf), (hs.re ⟨rfl, rfl, rfl, rfl, rfl, rfl, trivial⟩)⟩, (by omega)⟩
    · skip
      refine wp_region_lit ?_
      refine lstep (wpO_plain rfl (op_move hs none rfl rfl rfl rfl fun ac hs => ?_))
      refine lstep (wpO_plain rfl (op_bin hs none (v := .int .i64 ((i + 1 : Nat) : Int)) rfl rfl rfl rfl (fun _ => rfl) (bin_addN (x := i) (y := 1) (z := i + 1) rfl (show i + 1 < 9223372036854775808 by omega)) rfl fun ac hs => ?_))
      refine lstep (wpO_plain rfl (op_bin hs none (v := .bool false) rfl rfl rfl rfl (fun _ => rfl) (fun w => dF hq6 (bin_lssN (x := i + 1) (y := 4) w)) rfl fun ac hs => ?_))
      refine lstep (wpO_plain rfl (op_move hs none rfl rfl rfl rfl fun ac hs => ?_))
      refine lstep (wpO_out hs none rfl rfl (.inl rfl) rfl rfl fun ac hs => ?_)
      refine lstep (wpO_out hs none rfl rfl (.inl rfl) rfl rfl fun ac hs => ?_)
      refine lstep (wpO_plain rfl (op_pickF hs none rfl rfl rfl rfl rfl fun ac hs => ?_))
      refine wpList_nil ?_
      refine then_n ?_
      refine wp_cond_false (hs.ev rfl) ?_
      refine wp_skip ?_
      refine blk_n ?_
      refine then_n ?_
      refine wp_region_lit ?_
      refine lstep (wpO_plain rfl (op_move hs none rfl rfl rfl rfl fun ac hs => ?_))
      refine lstep (wpO_plain rfl (op_bin hs none (v := .int .i64 ((i + 1 : Nat) : Int)) rfl rfl rfl rfl (fun _ => rfl) (bin_addN (x := i) (y := 1) (z := i + 1) rfl (show i + 1 < 9223372036854775808 by omega)) rfl fun ac hs => ?_))
      refine lstep (wpO_plain rfl (op_assign hs none rfl rfl rfl rfl fun ac hs => ?_))
      refine wpList_nil ?_
      refine then_n ?_
      exact ⟨_, ⟨(i + 1), (upn f (i - (nn / 64)) ((limN a i) / 2 ^ (nn % 64))), rfl, (by omega), (by omega), (shr_stepA ha hby hp4 (by omega) hf), (hs.re ⟨rfl, rfl, rfl, rfl, rfl, rfl, trivial⟩)⟩, (by omega)⟩
  · skip
    have hp10 := of_decide_eq_false hc
    replace hs := hs.setb 2 (cs' := Wl x) rfl (by rw [← hx]; exact tab_Wl (shr_fin ha (by omega) hf))
    refine wp_exit ?_
    refine then_e ?_
    refine then_e ?_
    refine blk_e ?_
    refine then_n ?_
    refine wp_seq ?_
    refine wp_region_lit ?_
    refine lstep (wpO_plain rfl (op_load hs none 2 (v := W x) rfl rfl rfl rfl Try.isAgg24 Try.sizeOf24 rfl rfl fun ac hs => ?_))
    refine lstep (wpO_plain rfl (op_store hs 1 (vs := (Wl x)) rfl rfl rfl rfl rfl Try.sizeOf24 rfl rfl rfl rfl rfl fun w hs => ?_))
    refine wpList_nil ?_
    refine then_n ?_
    refine wp_ret ?_
    exact bodyPost_ret (res1 rfl (rv_c hs 1 (v := W x) rfl rfl Try.isAgg24 Try.sizeOf24 rfl)) hs.defers ⟨rfl, hs.below⟩
theorem shl_c (a : Nat) (n : Int) (nn x : Nat) (ha : a < 2 ^ 256) (hn : min (max n 0) 256 = (nn : Int)) (hx : a * 2 ^ nn % 2 ^ 256 = x) (w0 : World) : Calls Try.prog 25 #[W a, .int .i64 n] w0 fun e w' => e = .returned (W x) ∧ Below w0.heap.size w0 w' := by
  have hnn : nn ≤ 256 := by omega
  refine enter (n := 52) (args := [W a, .int .i64 n]) Try.func25 rfl rfl (Nat.le_of_ble_eq_true rfl) fun ac hs => ?_
  refine wp_seq ?_
  refine wp_region_lit ?_
  refine lstep (wpO_plain rfl (op_box hs none none (cs := (Wl a)) rfl rfl rfl rfl rfl rfl fun g1 ac w hs => ?_))
  refine lstep (wpO_plain rfl (op_alloc hs none none (cs := [.int .u64 0, .int .u64 0, .int .u64 0, .int .u64 0]) rfl rfl Try.zeroValue24 (by kernel_rfl) rfl rfl fun g2 ac w hs => ?_))
  refine wpList_nil ?_
  refine then_n ?_
  refine wp_seq ?_
  refine wp_region_lit ?_
  refine lstep (wpO_plain rfl (op_move hs none rfl rfl rfl rfl fun ac hs => ?_))
  refine lstep (wpO_plain rfl (op_blt hs none (v := .int .i64 (max n 0)) rfl rfl rfl blt_maxI rfl fun ac hs => ?_))
  refine lstep (wpO_plain rfl (op_blt hs none (v := .int .i64 (min (max n 0) 256)) rfl rfl rfl blt_minI rfl fun ac hs => ?_))
  refine lstep (wpO_plain rfl (op_assign hs none rfl rfl rfl rfl fun ac hs => ?_))
  refine wpList_nil ?_
  replace hs := hs.re (fs' := [(1, true, .int .i64 ((nn : Nat) : Int)), (2, true, .pointer (some ⟨g1, 0, none⟩)), (4, true, .pointer (some ⟨g2, 0, none⟩)), (9, true, .int .i64 n), (10, true, .int .i64 (max n 0)), (11, true, .int .i64 (min (max n 0) 256))]) ⟨congrArg some (shn hn), rfl, rfl, rfl, rfl, rfl, trivial⟩
  refine then_n ?_
  refine wp_seq ?_
  refine wp_region_lit ?_
  refine lstep (wpO_plain rfl (op_alloc hs none none (cs := [.int .u64 0, .int .u64 0, .int .u64 0, .int .u64 0]) rfl rfl Try.zeroValue24 (by kernel_rfl) rfl rfl fun g3 ac w hs => ?_))
  refine wpList_nil ?_
  refine then_n ?_
  refine wp_seq ?_
  refine wp_region_lit ?_
  refine lstep (wpO_plain rfl (op_move hs none rfl rfl rfl rfl fun ac hs => ?_))
  refine lstep (wpO_plain rfl (op_bin hs none (v := .int .i64 ((nn / 64 : Nat) : Int)) rfl rfl rfl rfl (fun _ => rfl) (bin_quoN (x := nn) (y := 64) (z := nn / 64) rfl (by decide) (show nn < 9223372036854775808 by omega)) rfl fun ac hs => ?_))
  refine lstep (wpO_plain rfl (op_move hs none rfl rfl rfl rfl fun ac hs => ?_))
  refine lstep (wpO_plain rfl (op_bin hs none (v := .int .i64 ((nn % 64 : Nat) : Int)) rfl rfl rfl rfl (fun _ => rfl) (bin_remN (x := nn) (y := 64) (z := nn % 64) rfl (by decide)) rfl fun ac hs => ?_))
  refine lstep (wpO_plain rfl (op_assign hs none rfl rfl rfl rfl fun ac hs => ?_))
  refine lstep (wpO_plain rfl (op_assign hs none rfl rfl rfl rfl fun ac hs => ?_))
  refine wpList_nil ?_
  refine then_n ?_
  refine wp_seq ?_
  refine wp_seq ?_
  refine wp_region_lit ?_
  refine lstep (wpO_plain rfl (op_move hs none rfl rfl rfl rfl fun ac hs => ?_))
  refine lstep (wpO_plain rfl (op_assign hs none rfl rfl rfl rfl fun ac hs => ?_))
  refine wpList_nil ?_
  refine then_n ?_
  refine wp_block ?_
  refine wp_loop_m (fun μ ac w => ∃ (i : Nat) (f : Nat → Nat), (4 - i) = μ ∧ (nn / 64 ≤ i) ∧ (i ≤ 4) ∧ (∀ j, j < 4 → f j = slf a nn i j) ∧ St 52 w0 [(2, true, .pointer (some ⟨g1, 0, none⟩)), (4, true, .pointer (some ⟨g2, 0, none⟩)), (5, true, .pointer (some ⟨g3, 0, none⟩)), (6, true, .int .i64 ((nn / 64 : Nat) : Int)), (7, true, .int .i64 ((nn % 64 : Nat) : Int)), (8, true, .int .i64 ((i : Nat) : Int))] [(true, g1, 24, (Wl a)), (true, g2, 24, [.int .u64 0, .int .u64 0, .int .u64 0, .int .u64 0]), (true, g3, 24, (tab .u64 4 f))] ac w) ?_ ?_
  · exact ⟨_, (nn / 64), (fun _ => 0), rfl, (Nat.le_refl _), (by omega), shl_start, (hs.re ⟨rfl, rfl, rfl, rfl, rfl, rfl, trivial⟩)⟩
  intro μ ac w ⟨i, f, hμ, hby, hi, hf, hs⟩
  refine wp_seq ?_
  refine wp_seq ?_
  refine wp_region_lit ?_
  refine lstep (wpO_plain rfl (op_move hs none rfl rfl rfl rfl fun ac hs => ?_))
  refine lstep (wpO_plain rfl (op_bin hs none (v := .bool (decide (i < 4))) rfl rfl rfl rfl (fun _ => rfl) (bin_lssN (x := i) (y := 4)) rfl fun ac hs => ?_))
  refine wpList_nil ?_
  refine then_n ?_
  refine wp_cond_split (hs.ev rfl) (fun hc => ?_) (fun hc => ?_)
  · skip
    have hp4 := of_decide_eq_true hc
    refine wp_skip ?_
    refine then_n ?_
    refine wp_seq ?_
    refine wp_block ?_
    refine wp_seq ?_
    refine wp_region_lit ?_
    refine lstep (wpO_plain rfl (op_move hs none rfl rfl rfl rfl fun ac hs => ?_))
    refine lstep (wpO_plain rfl (op_move hs none rfl rfl rfl rfl fun ac hs => ?_))
    refine lstep (wpO_plain rfl (op_move hs none rfl rfl rfl rfl fun ac hs => ?_))
    refine lstep (wpO_plain rfl (op_bin hs none (v := .int .i64 ((i - (nn / 64) : Nat) : Int)) rfl rfl rfl rfl (fun _ => rfl) (bin_subN (x := i) (y := nn / 64) (z := i - (nn / 64)) (by omega) (show i - (nn / 64) < 9223372036854775808 by omega)) rfl fun ac hs => ?_))
    refine lstep (wpO_plain rfl (op_idxA hs none (j := i - (nn / 64)) rfl rfl rfl rfl Try.underlying24 Try.sizeOf22 (show i - (nn / 64) < 4 by omega) (off := i - (nn / 64)) (by omega) rfl fun ac hs => ?_))
    have l5 := limN_lt a (i - (nn / 64))
    refine lstep (wpO_plain rfl (op_load hs none 0 (v := .int .u64 ((limN a (i - (nn / 64)) : Nat) : Int)) rfl rfl rfl rfl Try.isAgg22 Try.sizeOf22 (Wl_get (j := i - (nn / 64)) (show i - (nn / 64) < 4 by omega)) rfl fun ac hs => ?_))
    refine lstep (wpO_plain rfl (op_move hs none rfl rfl rfl rfl fun ac hs => ?_))
    refine lstep (wpO_plain rfl (op_bin hs none (v := .int .u64 (((limN a (i - (nn / 64))) * 2 ^ (nn % 64) % 18446744073709551616 : Nat) : Int)) rfl rfl rfl rfl (fun _ => rfl) (bin_shlM (x := limN a (i - (nn / 64))) (y := nn % 64) (z := (limN a (i - (nn / 64))) * 2 ^ (nn % 64) % 18446744073709551616) rfl rfl) rfl fun ac hs => ?_))
    refine lstep (wpO_plain rfl (op_idxA hs none (j := i) rfl rfl rfl rfl Try.underlying24 Try.sizeOf22 (show i < 4 by omega) (off := i) (by omega) rfl fun ac hs => ?_))
    refine lstep (wpO_plain rfl (op_store hs 2 (vs := [.int .u64 (((limN a (i - (nn / 64))) * 2 ^ (nn % 64) % 18446744073709551616 : Nat) : Int)]) rfl rfl rfl rfl rfl Try.sizeOf22 rfl rfl rfl (tab_le (j := i) (show i < 4 by omega)) (tab_set) fun w hs => ?_))
    refine wpList_nil ?_
    refine then_n ?_
    refine wp_seq ?_
    by_cases hq6 : nn / 64 < i
    · skip
      refine wp_region_lit ?_
      refine lstep (wpO_plain rfl (op_move hs none rfl rfl rfl rfl fun ac hs => ?_))
      refine lstep (wpO_plain rfl (op_move hs none rfl rfl rfl rfl fun ac hs => ?_))
      refine lstep (wpO_plain rfl (op_bin hs none (v := .bool true) rfl rfl rfl rfl (fun _ => rfl) (fun w => dT hq6 (bin_gtrN (x := i) (y := nn / 64) w)) rfl fun ac hs => ?_))
      refine lstep (wpO_plain rfl (op_move hs none rfl rfl rfl rfl fun ac hs => ?_))
      refine lstep (wpO_in hs rfl rfl rfl (op_move hs none rfl rfl rfl rfl fun ac hs => ?_))
      refine lstep (wpO_in hs rfl rfl rfl (op_bin hs none (v := .bool (decide (0 < nn % 64))) rfl rfl rfl rfl (fun _ => rfl) (bin_gtrN (x := nn % 64) (y := 0)) rfl fun ac hs => ?_))
      refine lstep (wpO_plain rfl (op_pickT hs none rfl rfl rfl rfl rfl fun ac hs => ?_))
      refine wpList_nil ?_
      refine then_n ?_
      refine wp_cond_split (hs.ev rfl) (fun hc => ?_) (fun hc => ?_)
      · skip
        have hp7 := of_decide_eq_true hc
        replace hs : St 52 w0 [(2, true, .pointer (some ⟨g1, 0, none⟩)), (4, true, .pointer (some ⟨g2, 0, none⟩)), (5, true, .pointer (some ⟨g3, 0, none⟩)), (6, true, .int .i64 ((nn / 64 : Nat) : Int)), (7, true, .int .i64 ((nn % 64 : Nat) : Int)), (8, true, .int .i64 ((i : Nat) : Int))] [(true, g1, 24, (Wl a)), (true, g2, 24, [.int .u64 0, .int .u64 0, .int .u64 0, .int .u64 0]), (true, g3, 24, (tab .u64 4 (upn f i ((limN a (i - (nn / 64))) * 2 ^ (nn % 64) % 18446744073709551616))))] ac _ := hs.re ⟨rfl, rfl, rfl, rfl, rfl, rfl, trivial⟩
        have l8 := limN_lt a (i - (nn / 64) - 1)
        refine region_inv [([], [1, 2, 12, 13, 14]), ([0], [2, 12, 13, 14]), ([0, 1], [12, 13, 14]), ([], [5, 6, 7, 8, 11, 12, 13, 14]), ([], [5, 6, 7, 8, 11, 12, 13, 14]), ([3, 4], [6, 7, 8, 11, 12, 13, 14]), ([3, 4, 5], [7, 8, 11, 12, 13, 14]), ([3, 4, 5, 6], [8, 11, 12, 13, 14]), ([3, 4, 5, 6, 7], [11, 12, 13, 14]), ([], [10, 11, 12, 13, 14]), ([9], [11, 12, 13, 14]), ([3, 4, 5, 6, 7, 8, 9, 10], [12, 13, 14]), ([0, 1, 2, 3, 4, 5, 6, 7, 8, 9, 10, 11], [13, 14]), ([0, 1, 2, 3, 4, 5, 6, 7, 8, 9, 10, 11, 12], [14]), ([0, 1, 2, 3, 4, 5, 6, 7, 8, 9, 10, 11, 12, 13], [])] (fun L ac w => St 52 w0 [(37, L 0, .int .i64 ((i : Nat) : Int)), (38, L 1, .pointer (some ⟨g3, i, none⟩)), (39, L 2, .int .u64 (((upn f i ((limN a (i - (nn / 64))) * 2 ^ (nn % 64) % 18446744073709551616)) i : Nat) : Int)), (40, L 3, .int .i64 ((i : Nat) : Int)), (41, L 4, .int .i64 ((nn / 64 : Nat) : Int)), (42, L 5, .int .i64 ((i - (nn / 64) : Nat) : Int)), (43, L 6, .int .i64 ((i - (nn / 64) - 1 : Nat) : Int)), (44, L 7, .pointer (some ⟨g1, i - (nn / 64) - 1, none⟩)), (45, L 8, .int .u64 ((limN a (i - (nn / 64) - 1) : Nat) : Int)), (46, L 9, .int .i64 ((nn % 64 : Nat) : Int)), (47, L 10, .int .i64 ((64 - (nn % 64) : Nat) : Int)), (48, L 11, .int .u64 (((limN a (i - (nn / 64) - 1)) / 2 ^ (64 - (nn % 64)) : Nat) : Int)), (49, L 12, .int .u64 ((((upn f i ((limN a (i - (nn / 64))) * 2 ^ (nn % 64) % 18446744073709551616)) i) ||| ((limN a (i - (nn / 64) - 1)) / 2 ^ (64 - (nn % 64))) : Nat) : Int)), (50, L 13, .pointer (some ⟨g3, i, none⟩)), (2, true, .pointer (some ⟨g1, 0, none⟩)), (4, true, .pointer (some ⟨g2, 0, none⟩)), (5, true, .pointer (some ⟨g3, 0, none⟩)), (6, true, .int .i64 ((nn / 64 : Nat) : Int)), (7, true, .int .i64 ((nn % 64 : Nat) : Int)), (8, true, .int .i64 ((i : Nat) : Int))] [(true, g1, 24, (Wl a)), (true, g2, 24, [.int .u64 0, .int .u64 0, .int .u64 0, .int .u64 0]), (true, g3, 24, (cond (L 14) (tab .u64 4 (upn (upn f i ((limN a (i - (nn / 64))) * 2 ^ (nn % 64) % 18446744073709551616)) i (((upn f i ((limN a (i - (nn / 64))) * 2 ^ (nn % 64) % 18446744073709551616)) i) ||| ((limN a (i - (nn / 64) - 1)) / 2 ^ (64 - (nn % 64)))))) (tab .u64 4 (upn f i ((limN a (i - (nn / 64))) * 2 ^ (nn % 64) % 18446744073709551616)))))] ac w) (by kernel_rfl) (by kernel_rfl) ?_ ?_ ?_
        · exact hs.drew.skip.skip.skip.skip.skip.skip.skip.skip.skip.skip.skip.skip.skip.skip
        · refine ⟨?_, ?_, ?_, ?_, ?_, ?_, ?_, ?_, ?_, ?_, ?_, ?_, ?_, ?_, ?_, trivial⟩
          · intro L ac w hJ
            have hs := hJ
            refine wpO_plain rfl (op_move hs (some 0) rfl rfl rfl rfl fun ac hs => ?_)
            exact hs
          · intro L ac w hJ
            have hs := hJ
            refine wpO_plain rfl (op_idxA hs (some 1) (j := i) rfl rfl rfl rfl Try.underlying24 Try.sizeOf22 (show i < 4 by omega) (off := i) (by omega) rfl fun ac hs => ?_)
            exact hs
          · intro L ac w hJ
            have hs := hJ
            refine wpO_plain rfl (op_load hs (some 2) 2 (v := .int .u64 (((upn f i ((limN a (i - (nn / 64))) * 2 ^ (nn % 64) % 18446744073709551616)) i : Nat) : Int)) rfl rfl rfl rfl Try.isAgg22 Try.sizeOf22 (tab_get (j := i) (show i < 4 by omega)) rfl fun ac hs => ?_)
            exact hs
          · intro L ac w hJ
            have hs := hJ
            refine wpO_plain rfl (op_move hs (some 3) rfl rfl rfl rfl fun ac hs => ?_)
            exact hs
          · intro L ac w hJ
            have hs := hJ
            refine wpO_plain rfl (op_move hs (some 4) rfl rfl rfl rfl fun ac hs => ?_)
            exact hs
          · intro L ac w hJ
            have hs := hJ
            refine wpO_plain rfl (op_bin hs (some 5) (v := .int .i64 ((i - (nn / 64) : Nat) : Int)) rfl rfl rfl rfl (fun _ => rfl) (bin_subN (x := i) (y := nn / 64) (z := i - (nn / 64)) (by omega) (show i - (nn / 64) < 9223372036854775808 by omega)) rfl fun ac hs => ?_)
            exact hs
          · intro L ac w hJ
            have hs := hJ
            refine wpO_plain rfl (op_bin hs (some 6) (v := .int .i64 ((i - (nn / 64) - 1 : Nat) : Int)) rfl rfl rfl rfl (fun _ => rfl) (bin_subN (x := i - (nn / 64)) (y := 1) (z := i - (nn / 64) - 1) (by omega) (show i - (nn / 64) - 1 < 9223372036854775808 by omega)) rfl fun ac hs => ?_)
            exact hs
          · intro L ac w hJ
            have hs := hJ
            refine wpO_plain rfl (op_idxA hs (some 7) (j := i - (nn / 64) - 1) rfl rfl rfl rfl Try.underlying24 Try.sizeOf22 (show i - (nn / 64) - 1 < 4 by omega) (off := i - (nn / 64) - 1) (by omega) rfl fun ac hs => ?_)
            exact hs
          · intro L ac w hJ
            have hs := hJ
            refine wpO_plain rfl (op_load hs (some 8) 0 (v := .int .u64 ((limN a (i - (nn / 64) - 1) : Nat) : Int)) rfl rfl rfl rfl Try.isAgg22 Try.sizeOf22 (Wl_get (j := i - (nn / 64) - 1) (show i - (nn / 64) - 1 < 4 by omega)) rfl fun ac hs => ?_)
            exact hs
          · intro L ac w hJ
            have hs := hJ
            refine wpO_plain rfl (op_move hs (some 9) rfl rfl rfl rfl fun ac hs => ?_)
            exact hs
          · intro L ac w hJ
            have hs := hJ
            refine wpO_plain rfl (op_bin hs (some 10) (v := .int .i64 ((64 - (nn % 64) : Nat) : Int)) rfl rfl rfl rfl (fun _ => rfl) (bin_subN (x := 64) (y := nn % 64) (z := 64 - (nn % 64)) (by omega) (show 64 - (nn % 64) < 9223372036854775808 by omega)) rfl fun ac hs => ?_)
            exact hs
          · intro L ac w hJ
            have hs := hJ
            refine wpO_plain rfl (op_bin hs (some 11) (v := .int .u64 (((limN a (i - (nn / 64) - 1)) / 2 ^ (64 - (nn % 64)) : Nat) : Int)) rfl rfl rfl rfl (fun _ => rfl) (bin_shrN (x := limN a (i - (nn / 64) - 1)) (y := 64 - (nn % 64)) (z := (limN a (i - (nn / 64) - 1)) / 2 ^ (64 - (nn % 64))) rfl (limN_lt _ _)) rfl fun ac hs => ?_)
            exact hs
          · intro L ac w hJ
            have hs := hJ
            refine wpO_plain rfl (op_bin hs (some 12) (v := .int .u64 ((((upn f i ((limN a (i - (nn / 64))) * 2 ^ (nn % 64) % 18446744073709551616)) i) ||| ((limN a (i - (nn / 64) - 1)) / 2 ^ (64 - (nn % 64))) : Nat) : Int)) rfl rfl rfl rfl (fun _ => rfl) (bin_orN (x := (upn f i ((limN a (i - (nn / 64))) * 2 ^ (nn % 64) % 18446744073709551616)) i) (y := (limN a (i - (nn / 64) - 1)) / 2 ^ (64 - (nn % 64))) (z := ((upn f i ((limN a (i - (nn / 64))) * 2 ^ (nn % 64) % 18446744073709551616)) i) ||| ((limN a (i - (nn / 64) - 1)) / 2 ^ (64 - (nn % 64)))) rfl (by rw [upn_at]; exact Nat.mod_lt _ (by decide)) (shr_lt (limN_lt _ _)) (or_lt64 (by rw [upn_at]; exact Nat.mod_lt _ (by decide)) (shr_lt (limN_lt _ _)))) rfl fun ac hs => ?_)
            exact hs
          · intro L ac w hJ
            have hs := hJ
            refine wpO_plain rfl (op_idxA hs (some 13) (j := i) rfl rfl rfl rfl Try.underlying24 Try.sizeOf22 (show i < 4 by omega) (off := i) (by omega) rfl fun ac hs => ?_)
            exact hs
          · intro L ac w hJ
            have hs := hJ
            refine wpO_plain rfl (op_store hs 2 (vs := [.int .u64 ((((upn f i ((limN a (i - (nn / 64))) * 2 ^ (nn % 64) % 18446744073709551616)) i) ||| ((limN a (i - (nn / 64) - 1)) / 2 ^ (64 - (nn % 64))) : Nat) : Int)]) rfl rfl rfl rfl rfl Try.sizeOf22 rfl rfl rfl (tab_le (j := i) (show i < 4 by omega)) (tab_set) fun w hs => ?_)
            exact hs
        intro ac w hJ
        replace hs : St 52 w0 [(37, true, .int .i64 ((i : Nat) : Int)), (38, true, .pointer (some ⟨g3, i, none⟩)), (39, true, .int .u64 (((upn f i ((limN a (i - (nn / 64))) * 2 ^ (nn % 64) % 18446744073709551616)) i : Nat) : Int)), (40, true, .int .i64 ((i : Nat) : Int)), (41, true, .int .i64 ((nn / 64 : Nat) : Int)), (42, true, .int .i64 ((i - (nn / 64) : Nat) : Int)), (43, true, .int .i64 ((i - (nn / 64) - 1 : Nat) : Int)), (44, true, .pointer (some ⟨g1, i - (nn / 64) - 1, none⟩)), (45, true, .int .u64 ((limN a (i - (nn / 64) - 1) : Nat) : Int)), (46, true, .int .i64 ((nn % 64 : Nat) : Int)), (47, true, .int .i64 ((64 - (nn % 64) : Nat) : Int)), (48, true, .int .u64 (((limN a (i - (nn / 64) - 1)) / 2 ^ (64 - (nn % 64)) : Nat) : Int)), (49, true, .int .u64 ((((upn f i ((limN a (i - (nn / 64))) * 2 ^ (nn % 64) % 18446744073709551616)) i) ||| ((limN a (i - (nn / 64) - 1)) / 2 ^ (64 - (nn % 64))) : Nat) : Int)), (50, true, .pointer (some ⟨g3, i, none⟩)), (2, true, .pointer (some ⟨g1, 0, none⟩)), (4, true, .pointer (some ⟨g2, 0, none⟩)), (5, true, .pointer (some ⟨g3, 0, none⟩)), (6, true, .int .i64 ((nn / 64 : Nat) : Int)), (7, true, .int .i64 ((nn % 64 : Nat) : Int)), (8, true, .int .i64 ((i : Nat) : Int))] [(true, g1, 24, (Wl a)), (true, g2, 24, [.int .u64 0, .int .u64 0, .int .u64 0, .int .u64 0]), (true, g3, 24, (tab .u64 4 (upn (upn f i ((limN a (i - (nn / 64))) * 2 ^ (nn % 64) % 18446744073709551616)) i (((upn f i ((limN a (i - (nn / 64))) * 2 ^ (nn % 64) % 18446744073709551616)) i) ||| ((limN a (i - (nn / 64) - 1)) / 2 ^ (64 - (nn % 64)))))))] ac w := hJ
        refine blk_n ?_
        refine then_n ?_
        refine wp_region_lit ?_
        refine lstep (wpO_plain rfl (op_move hs none rfl rfl rfl rfl fun ac hs => ?_))
        refine lstep (wpO_plain rfl (op_bin hs none (v := .int .i64 ((i + 1 : Nat) : Int)) rfl rfl rfl rfl (fun _ => rfl) (bin_addN (x := i) (y := 1) (z := i + 1) rfl (show i + 1 < 9223372036854775808 by omega)) rfl fun ac hs => ?_))
        refine lstep (wpO_plain rfl (op_assign hs none rfl rfl rfl rfl fun ac hs => ?_))
        refine wpList_nil ?_
        refine then_n ?_
        exact ⟨_, ⟨(i + 1), (upn (upn f i ((limN a (i - (nn / 64))) * 2 ^ (nn % 64) % 18446744073709551616)) i (((upn f i ((limN a (i - (nn / 64))) * 2 ^ (nn % 64) % 18446744073709551616)) i) ||| ((limN a (i - (nn / 64) - 1)) / 2 ^ (64 - (nn % 64))))), rfl, (by omega), (by omega), (shl_stepB hq6 hf), (hs.re ⟨rfl, rfl, rfl, rfl, rfl, rfl, trivial⟩)⟩, (by omega)⟩
      · skip
        have hp9 := of_decide_eq_false hc
        refine wp_skip ?_
        refine blk_n ?_
        refine then_n ?_
        refine wp_region_lit ?_
        refine lstep (wpO_plain rfl (op_move hs none rfl rfl rfl rfl fun ac hs => ?_))
        refine lstep (wpO_plain rfl (op_bin hs none (v := .int .i64 ((i + 1 : Nat) : Int)) rfl rfl rfl rfl (fun _ => rfl) (bin_addN (x := i) (y := 1) (z := i + 1) rfl (show i + 1 < 9223372036854775808 by omega)) rfl fun ac hs => ?_))
        refine lstep (wpO_plain rfl (op_assign hs none rfl rfl rfl rfl fun ac hs => ?_))
        refine wpList_nil ?_
        refine then_n ?_
        exact ⟨_, ⟨(i + 1), (upn f i ((limN a (i - (nn / 64))) * 2 ^ (nn % 64) % 18446744073709551616)), rfl, (by omega), (by omega), (shl_stepA hby (by omega) hf), (hs.re ⟨rfl, rfl, rfl, rfl, rfl, rfl, trivial⟩)⟩, (by omega)⟩
    · skip
      refine wp_region_lit ?_
      refine lstep (wpO_plain rfl (op_move hs none rfl rfl rfl rfl fun ac hs => ?_))
      refine lstep (wpO_plain rfl (op_move hs none rfl rfl rfl rfl fun ac hs => ?_))
      refine lstep (wpO_plain rfl (op_bin hs none (v := .bool false) rfl rfl rfl rfl (fun _ => rfl) (fun w => dF hq6 (bin_gtrN (x := i) (y := nn / 64) w)) rfl fun ac hs => ?_))
      refine lstep (wpO_plain rfl (op_move hs none rfl rfl rfl rfl fun ac hs => ?_))
      refine lstep (wpO_out hs none rfl rfl (.inl rfl) rfl rfl fun ac hs => ?_)
      refine lstep (wpO_out hs none rfl rfl (.inl rfl) rfl rfl fun ac hs => ?_)
      refine lstep (wpO_plain rfl (op_pickF hs none rfl rfl rfl rfl rfl fun ac hs => ?_))
      refine wpList_nil ?_
      refine then_n ?_
      refine wp_cond_false (hs.ev rfl) ?_
      refine wp_skip ?_
      refine blk_n ?_
      refine then_n ?_
      refine wp_region_lit ?_
      refine lstep (wpO_plain rfl (op_move hs none rfl rfl rfl rfl fun ac hs => ?_))
      refine lstep (wpO_plain rfl (op_bin hs none (v := .int .i64 ((i + 1 : Nat) : Int)) rfl rfl rfl rfl (fun _ => rfl) (bin_addN (x := i) (y := 1) (z := i + 1) rfl (show i + 1 < 9223372036854775808 by omega)) rfl fun ac hs => ?_))
      refine lstep (wpO_plain rfl (op_assign hs none rfl rfl rfl rfl fun ac hs => ?_))
      refine wpList_nil ?_
      refine then_n ?_
      exact ⟨_, ⟨(i + 1), (upn f i ((limN a (i - (nn / 64))) * 2 ^ (nn % 64) % 18446744073709551616)), rfl, (by omega), (by omega), (shl_stepA hby (by omega) hf), (hs.re ⟨rfl, rfl, rfl, rfl, rfl, rfl, trivial⟩)⟩, (by omega)⟩
  · skip
    have hp10 := of_decide_eq_false hc
    replace hs := hs.setb 2 (cs' := Wl x) rfl (by rw [tab_Wl (shl_fin (by omega) hf)]; exact (Wl_modx hx).symm)
    refine wp_exit ?_
    refine then_e ?_
    refine then_e ?_
    refine blk_e ?_
    refine then_n ?_
    refine wp_seq ?_
    refine wp_region_lit ?_
    refine lstep (wpO_plain rfl (op_load hs none 2 (v := W x) rfl rfl rfl rfl Try.isAgg24 Try.sizeOf24 rfl rfl fun ac hs => ?_))
    refine lstep (wpO_plain rfl (op_store hs 1 (vs := (Wl x)) rfl rfl rfl rfl rfl Try.sizeOf24 rfl rfl rfl rfl rfl fun w hs => ?_))
    refine wpList_nil ?_
    refine then_n ?_
    refine wp_ret ?_
    exact bodyPost_ret (res1 rfl (rv_c hs 1 (v := W x) rfl rfl Try.isAgg24 Try.sizeOf24 rfl)) hs.defers ⟨rfl, hs.below⟩
theorem bytes_c (a : Nat) (ha : a < 2 ^ 256) (w0 : World) : Calls Try.prog 33 #[W a] w0 fun e w' => e = .returned (At .u8 32 (by8 a)) ∧ Below w0.heap.size w0 w' := by
  refine enter (n := 22) (args := [W a]) Try.func33 rfl rfl (Nat.le_of_ble_eq_true rfl) fun ac hs => ?_
  refine wp_seq ?_
  refine wp_region_lit ?_
  refine lstep (wpO_plain rfl (op_box hs none none (cs := (Wl a)) rfl rfl rfl rfl rfl rfl fun g1 ac w hs => ?_))
  refine lstep (wpO_plain rfl (op_alloc hs none none (cs := (tab .u8 32 (fun _ => 0))) rfl rfl Try.zeroValue42 (by kernel_rfl) rfl rfl fun g2 ac w hs => ?_))
  refine wpList_nil ?_
  refine then_n ?_
  refine wp_seq ?_
  refine wp_region_lit ?_
  refine lstep (wpO_plain rfl (op_alloc hs none none (cs := (tab .u8 32 (fun _ => 0))) rfl rfl Try.zeroValue42 (by kernel_rfl) rfl rfl fun g3 ac w hs => ?_))
  refine wpList_nil ?_
  refine then_n ?_
  refine wp_seq ?_
  refine wp_seq ?_
  refine wp_region_lit ?_
  refine lstep (wpO_plain rfl (op_move hs none rfl rfl rfl rfl fun ac hs => ?_))
  refine wpList_nil ?_
  refine then_n ?_
  refine wp_block ?_
  refine wp_loop_m (fun μ ac w => ∃ (i : Nat) (f : Nat → Nat), (32 - i) = μ ∧ (i ≤ 32) ∧ (∀ j, j < 32 → f j = byf a i j) ∧ St 22 w0 [(1, true, .pointer (some ⟨g1, 0, none⟩)), (2, true, .pointer (some ⟨g2, 0, none⟩)), (3, true, .pointer (some ⟨g3, 0, none⟩)), (5, true, .int .i64 ((i : Nat) : Int))] [(true, g1, 24, (Wl a)), (true, g2, 42, (tab .u8 32 (fun _ => 0))), (true, g3, 42, (tab .u8 32 f))] ac w) ?_ ?_
  · exact ⟨_, 0, (fun _ => 0), rfl, (by omega), byte_start, (hs.re ⟨rfl, rfl, rfl, rfl, trivial⟩)⟩
  intro μ ac w ⟨i, f, hμ, hi, hf, hs⟩
  refine wp_seq ?_
  refine wp_region_lit ?_
  refine lstep (wpO_plain rfl (op_bin hs none (v := .bool (decide (i < 32))) rfl rfl rfl rfl (fun _ => rfl) (bin_lssN (x := i) (y := 32)) rfl fun ac hs => ?_))
  refine wpList_nil ?_
  refine then_n ?_
  refine wp_seq ?_
  refine wp_cond_split (hs.ev rfl) (fun hc => ?_) (fun hc => ?_)
  · skip
    have hp4 := of_decide_eq_true hc
    have hlt : i < 32 := of_decide_eq_true hc
    refine wp_skip ?_
    refine then_n ?_
    refine wp_seq ?_
    refine wp_block ?_
    refine wp_seq ?_
    refine wp_region_lit ?_
    refine lstep (wpO_plain rfl (op_move hs none rfl rfl rfl rfl fun ac hs => ?_))
    refine lstep (wpO_plain rfl (op_assign hs none rfl rfl rfl rfl fun ac hs => ?_))
    refine wpList_nil ?_
    refine then_n ?_
    refine wp_region_lit ?_
    refine lstep (wpO_plain rfl (op_move hs none rfl rfl rfl rfl fun ac hs => ?_))
    refine lstep (wpO_plain rfl (op_bin hs none (v := .int .i64 ((31 - i : Nat) : Int)) rfl rfl rfl rfl (fun _ => rfl) (bin_subN (x := 31) (y := i) (z := 31 - i) (by omega) (show 31 - i < 9223372036854775808 by omega)) rfl fun ac hs => ?_))
    refine lstep (wpO_plain rfl (op_move hs none rfl rfl rfl rfl fun ac hs => ?_))
    refine lstep (wpO_plain rfl (op_bin hs none (v := .int .i64 ((i / 8 : Nat) : Int)) rfl rfl rfl rfl (fun _ => rfl) (bin_quoN (x := i) (y := 8) (z := i / 8) rfl (by decide) (show i < 9223372036854775808 by omega)) rfl fun ac hs => ?_))
    refine lstep (wpO_plain rfl (op_idxA hs none (j := i / 8) rfl rfl rfl rfl Try.underlying24 Try.sizeOf22 (show i / 8 < 4 by omega) (off := i / 8) (by omega) rfl fun ac hs => ?_))
    have l5 := limN_lt a (i / 8)
    refine lstep (wpO_plain rfl (op_load hs none 0 (v := .int .u64 ((limN a (i / 8) : Nat) : Int)) rfl rfl rfl rfl Try.isAgg22 Try.sizeOf22 (Wl_get (j := i / 8) (show i / 8 < 4 by omega)) rfl fun ac hs => ?_))
    refine lstep (wpO_plain rfl (op_move hs none rfl rfl rfl rfl fun ac hs => ?_))
    refine lstep (wpO_plain rfl (op_bin hs none (v := .int .i64 ((i % 8 : Nat) : Int)) rfl rfl rfl rfl (fun _ => rfl) (bin_remN (x := i) (y := 8) (z := i % 8) rfl (by decide)) rfl fun ac hs => ?_))
    refine lstep (wpO_plain rfl (op_bin hs none (v := .int .i64 ((8 * (i % 8) : Nat) : Int)) rfl rfl rfl rfl (fun _ => rfl) (bin_mulN (x := 8) (y := i % 8) (z := 8 * (i % 8)) rfl (show 8 * (i % 8) < 9223372036854775808 by omega)) rfl fun ac hs => ?_))
    refine lstep (wpO_plain rfl (op_bin hs none (v := .int .u64 (((limN a (i / 8)) / 2 ^ (8 * (i % 8)) : Nat) : Int)) rfl rfl rfl rfl (fun _ => rfl) (bin_shrN (x := limN a (i / 8)) (y := 8 * (i % 8)) (z := (limN a (i / 8)) / 2 ^ (8 * (i % 8))) rfl (limN_lt _ _)) rfl fun ac hs => ?_))
    refine lstep (wpO_plain rfl (op_convert hs none (v := .int .u8 ((((limN a (i / 8)) / 2 ^ (8 * (i % 8))) % 256 : Nat) : Int)) rfl rfl rfl (conv_M (z := ((limN a (i / 8)) / 2 ^ (8 * (i % 8))) % 256) rfl Try.underlying22 Try.underlying5 rfl) rfl fun ac hs => ?_))
    refine lstep (wpO_plain rfl (op_idxA hs none (j := 31 - i) rfl rfl rfl rfl Try.underlying42 Try.sizeOf5 (show 31 - i < 32 by omega) (off := 31 - i) (by omega) rfl fun ac hs => ?_))
    refine lstep (wpO_plain rfl (op_store hs 2 (vs := [.int .u8 ((((limN a (i / 8)) / 2 ^ (8 * (i % 8))) % 256 : Nat) : Int)]) rfl rfl rfl rfl rfl Try.sizeOf5 rfl rfl rfl (tab_le (j := 31 - i) (show 31 - i < 32 by omega)) (tab_set) fun w hs => ?_))
    refine wpList_nil ?_
    refine blk_n ?_
    refine then_n ?_
    refine wp_region_lit ?_
    refine lstep (wpO_plain rfl (op_bin hs none (v := .int .i64 ((i + 1 : Nat) : Int)) rfl rfl rfl rfl (fun _ => rfl) (bin_addN (x := i) (y := 1) (z := i + 1) rfl (show i + 1 < 9223372036854775808 by omega)) rfl fun ac hs => ?_))
    refine lstep (wpO_plain rfl (op_move hs none rfl rfl rfl rfl fun ac hs => ?_))
    refine wpList_nil ?_
    refine then_n ?_
    exact ⟨_, ⟨(i + 1), (upn f (31 - i) (((limN a (i / 8)) / 2 ^ (8 * (i % 8))) % 256)), rfl, hlt, (byte_step hlt hf), (hs.re ⟨rfl, rfl, rfl, rfl, trivial⟩)⟩, (by omega)⟩
  · skip
    have hp6 := of_decide_eq_false hc
    obtain rfl : i = 32 := by omega
    replace hs := hs.setb 2 (cs' := tab .u8 32 (by8 a)) rfl (tab_congr (byte_fin hf))
    refine wp_exit ?_
    refine then_e ?_
    refine then_e ?_
    refine blk_e ?_
    refine then_n ?_
    refine wp_seq ?_
    refine wp_region_lit ?_
    refine lstep (wpO_plain rfl (op_load hs none 2 (v := At .u8 32 (by8 a)) rfl rfl rfl rfl Try.isAgg42 Try.sizeOf42 ldv_tab rfl fun ac hs => ?_))
    refine lstep (wpO_plain rfl (op_store hs 1 (vs := (tab .u8 32 (by8 a))) rfl rfl rfl rfl rfl Try.sizeOf42 (by kernel_rfl) tab_length' (tab_one _ _ _) tab_leA wr_tab fun w hs => ?_))
    refine wpList_nil ?_
    refine then_n ?_
    refine wp_ret ?_
    exact bodyPost_ret (res1 rfl (rv_c hs 1 (v := At .u8 32 (by8 a)) rfl rfl Try.isAgg42 Try.sizeOf42 ldv_tab)) hs.defers ⟨rfl, hs.below⟩
theorem wrem_c (u v m r' : Nat) (hH : u < 2 ^ 256) (hL : v < 2 ^ 256) (hm : m < 2 ^ 256) (hm0 : 0 < m) (hr' : (u * 2 ^ 256 + v) % m = r') (w0 : World) : Calls Try.prog 23 #[W u, W v, W m] w0 fun e w' => e = .returned (.tuple #[W r', .int .i64 0]) ∧ Below w0.heap.size w0 w' := by
  refine enter (n := 37) (args := [W u, W v, W m]) Try.func23 rfl rfl (Nat.le_of_ble_eq_true rfl) fun ac hs => ?_
  refine wp_seq ?_
  refine wp_region_lit ?_
  refine lstep (wpO_plain rfl (op_box hs none none (cs := (Wl u)) rfl rfl rfl rfl rfl rfl fun g1 ac w hs => ?_))
  refine lstep (wpO_plain rfl (op_box hs none none (cs := (Wl v)) rfl rfl rfl rfl rfl rfl fun g2 ac w hs => ?_))
  refine lstep (wpO_plain rfl (op_box hs none none (cs := (Wl m)) rfl rfl rfl rfl rfl rfl fun g3 ac w hs => ?_))
  refine lstep (wpO_plain rfl (op_alloc hs none none (cs := [.int .u64 0, .int .u64 0, .int .u64 0, .int .u64 0]) rfl rfl Try.zeroValue24 (by kernel_rfl) rfl rfl fun g4 ac w hs => ?_))
  refine lstep (wpO_plain rfl (op_assign hs none rfl rfl rfl rfl fun ac hs => ?_))
  refine wpList_nil ?_
  refine then_n ?_
  refine wp_seq ?_
  refine wp_seq ?_
  refine wp_region_lit ?_
  refine lstep (wpO_plain rfl (op_load hs none 2 (v := W m) rfl rfl rfl rfl Try.isAgg24 Try.sizeOf24 rfl rfl fun ac hs => ?_))
  refine lstep (wpO_plain rfl (op_build hs none (qs := []) (v := .agg #[.int .u64 0, .int .u64 0, .int .u64 0, .int .u64 0]) rfl rfl rfl rfl (fun _ => by kernel_rfl) rfl fun ac hs => ?_))
  refine lstep (wpO_plain rfl (op_bin hs none (v := .bool false) rfl rfl rfl rfl (fun w => run_eqGuard_agg w .eql 24 _ _ _ _ Try.eqGuardType24) (eqlW m 0 hm (by decide) false (decide_eq_false (Nat.ne_of_gt hm0))) rfl fun ac hs => ?_))
  refine wpList_nil ?_
  refine then_n ?_
  refine wp_cond_false (hs.ev rfl) ?_
  refine wp_skip ?_
  refine then_n ?_
  refine wp_seq ?_
  refine wp_region_lit ?_
  refine lstep (wpO_plain rfl (op_alloc hs none none (cs := [.int .u64 0, .int .u64 0, .int .u64 0, .int .u64 0]) rfl rfl Try.zeroValue24 (by kernel_rfl) rfl rfl fun g5 ac w hs => ?_))
  refine wpList_nil ?_
  refine then_n ?_
  refine wp_seq ?_
  refine wp_seq ?_
  refine wp_region_lit ?_
  refine lstep (wpO_plain rfl (op_load hs none 0 (v := W u) rfl rfl rfl rfl Try.isAgg24 Try.sizeOf24 rfl rfl fun ac hs => ?_))
  refine lstep (wpO_plain rfl (op_load hs none 1 (v := W v) rfl rfl rfl rfl Try.isAgg24 Try.sizeOf24 rfl rfl fun ac hs => ?_))
  refine lstep (wpO_plain rfl (op_build hs none (qs := [(0, W u), (1, W v)]) (v := .agg #[.int .u64 (lim u 0), .int .u64 (lim u 1), .int .u64 (lim u 2), .int .u64 (lim u 3), .int .u64 (lim v 0), .int .u64 (lim v 1), .int .u64 (lim v 2), .int .u64 (lim v 3)]) rfl rfl rfl rfl (fun _ => by kernel_rfl) rfl fun ac hs => ?_))
  refine lstep (wpO_plain rfl (op_move hs none rfl rfl rfl rfl fun ac hs => ?_))
  refine wpList_nil ?_
  refine then_n ?_
  refine wp_block ?_
  refine wp_loop_m (fun μ ac w => (∃ (r : Nat), 2 = μ ∧ (r = 0) ∧ St 37 w0 [(3, true, .pointer (some ⟨g1, 0, none⟩)), (4, true, .pointer (some ⟨g2, 0, none⟩)), (5, true, .pointer (some ⟨g3, 0, none⟩)), (6, true, .pointer (some ⟨g4, 0, none⟩)), (8, true, .pointer (some ⟨g5, 0, none⟩)), (18, true, .agg #[.int .u64 (lim u 0), .int .u64 (lim u 1), .int .u64 (lim u 2), .int .u64 (lim u 3), .int .u64 (lim v 0), .int .u64 (lim v 1), .int .u64 (lim v 2), .int .u64 (lim v 3)]), (19, true, .int .i64 0)] [(true, g1, 24, (Wl u)), (true, g2, 24, (Wl v)), (true, g3, 24, (Wl m)), (true, g4, 24, [.int .u64 0, .int .u64 0, .int .u64 0, .int .u64 0]), (true, g5, 24, (Wl r))] ac w) ∨ (∃ (r : Nat), 1 = μ ∧ (r = u % m) ∧ St 37 w0 [(3, true, .pointer (some ⟨g1, 0, none⟩)), (4, true, .pointer (some ⟨g2, 0, none⟩)), (5, true, .pointer (some ⟨g3, 0, none⟩)), (6, true, .pointer (some ⟨g4, 0, none⟩)), (8, true, .pointer (some ⟨g5, 0, none⟩)), (18, true, .agg #[.int .u64 (lim u 0), .int .u64 (lim u 1), .int .u64 (lim u 2), .int .u64 (lim u 3), .int .u64 (lim v 0), .int .u64 (lim v 1), .int .u64 (lim v 2), .int .u64 (lim v 3)]), (19, true, .int .i64 1)] [(true, g1, 24, (Wl u)), (true, g2, 24, (Wl v)), (true, g3, 24, (Wl m)), (true, g4, 24, [.int .u64 0, .int .u64 0, .int .u64 0, .int .u64 0]), (true, g5, 24, (Wl r))] ac w) ∨ (∃ (r : Nat), 0 = μ ∧ (r = (u * 2 ^ 256 + v) % m) ∧ St 37 w0 [(3, true, .pointer (some ⟨g1, 0, none⟩)), (4, true, .pointer (some ⟨g2, 0, none⟩)), (5, true, .pointer (some ⟨g3, 0, none⟩)), (6, true, .pointer (some ⟨g4, 0, none⟩)), (8, true, .pointer (some ⟨g5, 0, none⟩)), (18, true, .agg #[.int .u64 (lim u 0), .int .u64 (lim u 1), .int .u64 (lim u 2), .int .u64 (lim u 3), .int .u64 (lim v 0), .int .u64 (lim v 1), .int .u64 (lim v 2), .int .u64 (lim v 3)]), (19, true, .int .i64 2)] [(true, g1, 24, (Wl u)), (true, g2, 24, (Wl v)), (true, g3, 24, (Wl m)), (true, g4, 24, [.int .u64 0, .int .u64 0, .int .u64 0, .int .u64 0]), (true, g5, 24, (Wl r))] ac w)) ?_ ?_
  · exact ⟨_, .inl ⟨0, rfl, rfl, (hs.re ⟨rfl, rfl, rfl, rfl, rfl, rfl, rfl, trivial⟩)⟩⟩
  intro μ ac w hJ
  rcases hJ with hJ | hJ | hJ
  · obtain ⟨r, rfl, hr0, hs⟩ := hJ
    have lm : r < m := by rw [hr0]; exact hm0
    have lr := Nat.lt_trans lm hm
    refine wp_seq ?_
    refine wp_region_lit ?_
    refine lstep (wpO_plain rfl (op_bin hs none (v := .bool true) rfl rfl rfl rfl (fun _ => rfl) (fun _ => by kernel_rfl) rfl fun ac hs => ?_))
    refine wpList_nil ?_
    refine then_n ?_
    refine wp_seq ?_
    refine wp_cond_true (hs.ev rfl) ?_
    refine wp_skip ?_
    refine then_n ?_
    refine wp_seq ?_
    refine wp_block ?_
    refine wp_seq ?_
    refine wp_region_lit ?_
    refine lstep (wpO_plain rfl (op_index hs none (v := W u) rfl rfl rfl rfl (fun _ => by kernel_rfl) rfl fun ac hs => ?_))
    refine lstep (wpO_plain rfl (op_alloc hs none none (cs := [.int .u64 0, .int .u64 0, .int .u64 0, .int .u64 0]) rfl rfl Try.zeroValue24 (by kernel_rfl) rfl rfl fun g6 ac w hs => ?_))
    refine lstep (wpO_plain rfl (op_store hs 5 (vs := (Wl u)) rfl rfl rfl rfl rfl Try.sizeOf24 rfl rfl rfl rfl rfl fun w hs => ?_))
    refine wpList_nil ?_
    refine then_n ?_
    refine wp_seq ?_
    refine wp_region_lit ?_
    refine lstep (wpO_plain rfl (op_assign hs none rfl rfl rfl rfl fun ac hs => ?_))
    refine wpList_nil ?_
    refine then_n ?_
    refine wp_block ?_
    refine wp_loop_m (fun μ ac w => ∃ (k : Nat) (q : Nat), (k) = μ ∧ (k ≤ 256) ∧ ((0 * 2 ^ 256 + u) / 2 ^ k % m = q) ∧ St 37 w0 [(3, true, .pointer (some ⟨g1, 0, none⟩)), (4, true, .pointer (some ⟨g2, 0, none⟩)), (5, true, .pointer (some ⟨g3, 0, none⟩)), (6, true, .pointer (some ⟨g4, 0, none⟩)), (8, true, .pointer (some ⟨g5, 0, none⟩)), (10, true, .pointer (some ⟨g6, 0, none⟩)), (18, true, .agg #[.int .u64 (lim u 0), .int .u64 (lim u 1), .int .u64 (lim u 2), .int .u64 (lim u 3), .int .u64 (lim v 0), .int .u64 (lim v 1), .int .u64 (lim v 2), .int .u64 (lim v 3)]), (19, true, .int .i64 0), (11, true, .int .i64 (((k : Nat) : Int) - 1))] [(true, g1, 24, (Wl u)), (true, g2, 24, (Wl v)), (true, g3, 24, (Wl m)), (true, g4, 24, [.int .u64 0, .int .u64 0, .int .u64 0, .int .u64 0]), (true, g5, 24, (Wl q)), (true, g6, 24, (Wl u))] ac w) ?_ ?_
    · exact ⟨_, 256, r, rfl, (by omega), (rem2_start0 hH hr0), (hs.re ⟨rfl, rfl, rfl, rfl, rfl, rfl, rfl, rfl, rfl, trivial⟩)⟩
    intro μ ac w ⟨k, q, hμ, hk, hr, hs⟩
    have lm2 : q < m := by rw [← hr]; exact Nat.mod_lt _ hm0
    have lq := Nat.lt_trans lm2 hm
    have hq := True.intro
    refine wp_seq ?_
    refine wp_seq ?_
    refine wp_region_lit ?_
    refine lstep (wpO_plain rfl (op_move hs none rfl rfl rfl rfl fun ac hs => ?_))
    refine lstep (wpO_plain rfl (op_bin hs none (v := .bool (decide (1 ≤ k))) rfl rfl rfl rfl (fun _ => rfl) bin_geqP rfl fun ac hs => ?_))
    refine wpList_nil ?_
    refine then_n ?_
    refine wp_cond_split (hs.ev rfl) (fun hc => ?_) (fun hc => ?_)
    · skip
      have hp7 := of_decide_eq_true hc
      replace hs := hs.re (fs' := [(3, true, .pointer (some ⟨g1, 0, none⟩)), (4, true, .pointer (some ⟨g2, 0, none⟩)), (5, true, .pointer (some ⟨g3, 0, none⟩)), (6, true, .pointer (some ⟨g4, 0, none⟩)), (8, true, .pointer (some ⟨g5, 0, none⟩)), (10, true, .pointer (some ⟨g6, 0, none⟩)), (18, true, .agg #[.int .u64 (lim u 0), .int .u64 (lim u 1), .int .u64 (lim u 2), .int .u64 (lim u 3), .int .u64 (lim v 0), .int .u64 (lim v 1), .int .u64 (lim v 2), .int .u64 (lim v 3)]), (19, true, .int .i64 0), (11, true, .int .i64 ((k - 1 : Nat) : Int)), (22, true, .int .i64 (((k : Nat) : Int) - 1)), (23, true, .bool (decide (1 ≤ k)))]) ⟨rfl, rfl, rfl, rfl, rfl, rfl, rfl, rfl, congrArg some (pre_nat hp7), rfl, rfl, trivial⟩
      refine wp_skip ?_
      refine then_n ?_
      refine wp_seq ?_
      refine wp_block ?_
      replace hs : St 37 w0 [(3, true, .pointer (some ⟨g1, 0, none⟩)), (4, true, .pointer (some ⟨g2, 0, none⟩)), (5, true, .pointer (some ⟨g3, 0, none⟩)), (6, true, .pointer (some ⟨g4, 0, none⟩)), (8, true, .pointer (some ⟨g5, 0, none⟩)), (10, true, .pointer (some ⟨g6, 0, none⟩)), (18, true, .agg #[.int .u64 (lim u 0), .int .u64 (lim u 1), .int .u64 (lim u 2), .int .u64 (lim u 3), .int .u64 (lim v 0), .int .u64 (lim v 1), .int .u64 (lim v 2), .int .u64 (lim v 3)]), (19, true, .int .i64 0), (11, true, .int .i64 ((k - 1 : Nat) : Int))] [(true, g1, 24, (Wl u)), (true, g2, 24, (Wl v)), (true, g3, 24, (Wl m)), (true, g4, 24, [.int .u64 0, .int .u64 0, .int .u64 0, .int .u64 0]), (true, g5, 24, (Wl q)), (true, g6, 24, (Wl u))] ac _ := hs.re ⟨rfl, rfl, rfl, rfl, rfl, rfl, rfl, rfl, rfl, trivial⟩
      obtain ⟨b8, hb8⟩ : ∃ z0, u / 2 ^ (k - 1) % 2 = z0 := ⟨_, rfl⟩
      have lb8 := bit_le hb8
      obtain ⟨z9, hz9, lz9⟩ : ∃ z0, (2 * q + b8) % m = z0 ∧ z0 < 2 ^ 256 := ⟨_, rfl, Nat.lt_trans (Nat.mod_lt _ hm0) hm⟩
      obtain ⟨q10, hq10⟩ : ∃ z0, decide (m ≤ 2 * q + b8) = z0 := ⟨_, rfl⟩
      refine region_inv [([], [5, 6, 7, 8, 9]), ([], [3, 5, 6, 7, 8, 9]), ([], [3, 5, 6, 7, 8, 9]), ([1, 2], [5, 6, 7, 8, 9]), ([], [5, 6, 7, 8, 9]), ([0, 1, 2, 3, 4], [6, 7, 8, 9]), ([0, 1, 2, 3, 4, 5], [7, 8, 9]), ([0, 1, 2, 3, 4, 5, 6], [9]), ([0, 1, 2, 3, 4, 5, 6], []), ([0, 1, 2, 3, 4, 5, 6, 7], [])] (fun L ac w => St 37 w0 [(27, L 0, W q), (28, L 1, W u), (29, L 2, .int .i64 ((k - 1 : Nat) : Int)), (30, L 3, .int .u64 ((b8 : Nat) : Int)), (31, L 4, W m), (32, L 5, .tuple #[W z9, .bool q10]), (26, L 6, .tuple #[W z9, .bool q10]), (33, L 7, W z9), (34, L 8, .bool q10), (3, true, .pointer (some ⟨g1, 0, none⟩)), (4, true, .pointer (some ⟨g2, 0, none⟩)), (5, true, .pointer (some ⟨g3, 0, none⟩)), (6, true, .pointer (some ⟨g4, 0, none⟩)), (8, true, .pointer (some ⟨g5, 0, none⟩)), (10, true, .pointer (some ⟨g6, 0, none⟩)), (18, true, .agg #[.int .u64 (lim u 0), .int .u64 (lim u 1), .int .u64 (lim u 2), .int .u64 (lim u 3), .int .u64 (lim v 0), .int .u64 (lim v 1), .int .u64 (lim v 2), .int .u64 (lim v 3)]), (19, true, .int .i64 0), (11, true, .int .i64 ((k - 1 : Nat) : Int))] [(true, g1, 24, (Wl u)), (true, g2, 24, (Wl v)), (true, g3, 24, (Wl m)), (true, g4, 24, [.int .u64 0, .int .u64 0, .int .u64 0, .int .u64 0]), (true, g5, 24, (cond (L 9) (Wl z9) (Wl q))), (true, g6, 24, (Wl u))] ac w) (by kernel_rfl) (by kernel_rfl) ?_ ?_ ?_
      · exact hs.drew.skip.skip.skip.skip.skip.skip.skip.skip.skip
      · refine ⟨?_, ?_, ?_, ?_, ?_, ?_, ?_, ?_, ?_, ?_, trivial⟩
        · intro L ac w hJ
          have hs := hJ
          refine wpO_plain rfl (op_load hs (some 0) 4 (v := W q) rfl rfl rfl rfl Try.isAgg24 Try.sizeOf24 rfl rfl fun ac hs => ?_)
          exact hs
        · intro L ac w hJ
          have hs := hJ
          refine wpO_plain rfl (op_load hs (some 1) 5 (v := W u) rfl rfl rfl rfl Try.isAgg24 Try.sizeOf24 rfl rfl fun ac hs => ?_)
          exact hs
        · intro L ac w hJ
          have hs := hJ
          refine wpO_plain rfl (op_move hs (some 2) rfl rfl rfl rfl fun ac hs => ?_)
          exact hs
        · intro L ac w hJ
          have hs := hJ
          refine wpO_plain rfl (op_call (F := 46) hs (some 3) (v := .int .u64 ((b8 : Nat) : Int)) rfl rfl rfl rfl (Try.call46 _) (wbit_c u (k - 1) b8 (show k - 1 < 256 by omega) hb8) rfl fun ac w hs => ?_)
          exact hs
        · intro L ac w hJ
          have hs := hJ
          refine wpO_plain rfl (op_load hs (some 4) 2 (v := W m) rfl rfl rfl rfl Try.isAgg24 Try.sizeOf24 rfl rfl fun ac hs => ?_)
          exact hs
        · intro L ac w hJ
          have hs := hJ
          refine wpO_plain rfl (op_call (F := 45) hs (some 5) (v := .tuple #[W z9, .bool q10]) rfl rfl rfl rfl (Try.call45 _) (wless_c q b8 m z9 q10 lm2 hm (show b8 ≤ 1 by omega) hz9 hq10) rfl fun ac w hs => ?_)
          exact hs
        · intro L ac w hJ
          have hs := hJ
          refine wpO_plain rfl (op_move hs (some 6) rfl rfl rfl rfl fun ac hs => ?_)
          exact hs
        · intro L ac w hJ
          have hs := hJ
          refine wpO_plain rfl (op_extract hs (some 7) rfl rfl rfl rfl rfl fun ac hs => ?_)
          exact hs
        · intro L ac w hJ
          have hs := hJ
          refine wpO_plain rfl (op_extract hs (some 8) rfl rfl rfl rfl rfl fun ac hs => ?_)
          exact hs
        · intro L ac w hJ
          have hs := hJ
          refine wpO_plain rfl (op_store hs 4 (vs := (Wl z9)) rfl rfl rfl rfl rfl Try.sizeOf24 rfl rfl rfl rfl rfl fun w hs => ?_)
          exact hs
      intro ac w hJ
      replace hs : St 37 w0 [(27, true, W q), (28, true, W u), (29, true, .int .i64 ((k - 1 : Nat) : Int)), (30, true, .int .u64 ((b8 : Nat) : Int)), (31, true, W m), (32, true, .tuple #[W z9, .bool q10]), (26, true, .tuple #[W z9, .bool q10]), (33, true, W z9), (34, true, .bool q10), (3, true, .pointer (some ⟨g1, 0, none⟩)), (4, true, .pointer (some ⟨g2, 0, none⟩)), (5, true, .pointer (some ⟨g3, 0, none⟩)), (6, true, .pointer (some ⟨g4, 0, none⟩)), (8, true, .pointer (some ⟨g5, 0, none⟩)), (10, true, .pointer (some ⟨g6, 0, none⟩)), (18, true, .agg #[.int .u64 (lim u 0), .int .u64 (lim u 1), .int .u64 (lim u 2), .int .u64 (lim u 3), .int .u64 (lim v 0), .int .u64 (lim v 1), .int .u64 (lim v 2), .int .u64 (lim v 3)]), (19, true, .int .i64 0), (11, true, .int .i64 ((k - 1 : Nat) : Int))] [(true, g1, 24, (Wl u)), (true, g2, 24, (Wl v)), (true, g3, 24, (Wl m)), (true, g4, 24, [.int .u64 0, .int .u64 0, .int .u64 0, .int .u64 0]), (true, g5, 24, (Wl z9)), (true, g6, 24, (Wl u))] ac w := hJ
      refine blk_n ?_
      refine then_n ?_
      refine wp_region_lit ?_
      refine lstep (wpO_plain rfl (op_move hs none rfl rfl rfl rfl fun ac hs => ?_))
      refine lstep (wpO_plain rfl (op_bin hs none (v := .int .i64 (((k - 1 : Nat) : Int) - 1)) rfl rfl rfl rfl (fun _ => rfl) (bin_subP (x := k - 1) (by omega)) rfl fun ac hs => ?_))
      refine lstep (wpO_plain rfl (op_assign hs none rfl rfl rfl rfl fun ac hs => ?_))
      refine wpList_nil ?_
      refine then_n ?_
      exact ⟨_, ⟨(k - 1), z9, rfl, (by omega), (rem2_step hp7 hq hr hb8 hz9), (hs.re ⟨rfl, rfl, rfl, rfl, rfl, rfl, rfl, rfl, rfl, trivial⟩)⟩, (by omega)⟩
    · skip
      have hp11 := of_decide_eq_false hc
      obtain rfl : k = 0 := by omega
      refine wp_exit ?_
      refine then_e ?_
      refine then_e ?_
      refine blk_e ?_
      refine blk_n ?_
      refine then_n ?_
      refine wp_region_lit ?_
      refine lstep (wpO_plain rfl (op_bin hs none (v := .int .i64 1) rfl rfl rfl rfl (fun _ => rfl) (fun _ => by kernel_rfl) rfl fun ac hs => ?_))
      refine lstep (wpO_plain rfl (op_move hs none rfl rfl rfl rfl fun ac hs => ?_))
      refine wpList_nil ?_
      refine then_n ?_
      exact ⟨_, .inr (.inl ⟨q, rfl, (rem2_end0 hr0 hr), ((hs.takeb 5).re ⟨rfl, rfl, rfl, rfl, rfl, rfl, rfl, trivial⟩)⟩), by omega⟩
  · obtain ⟨r, rfl, hr0, hs⟩ := hJ
    have lm : r < m := by rw [hr0]; exact Nat.mod_lt _ hm0
    have lr := Nat.lt_trans lm hm
    refine wp_seq ?_
    refine wp_region_lit ?_
    refine lstep (wpO_plain rfl (op_bin hs none (v := .bool true) rfl rfl rfl rfl (fun _ => rfl) (fun _ => by kernel_rfl) rfl fun ac hs => ?_))
    refine wpList_nil ?_
    refine then_n ?_
    refine wp_seq ?_
    refine wp_cond_true (hs.ev rfl) ?_
    refine wp_skip ?_
    refine then_n ?_
    refine wp_seq ?_
    refine wp_block ?_
    refine wp_seq ?_
    refine wp_region_lit ?_
    refine lstep (wpO_plain rfl (op_index hs none (v := W v) rfl rfl rfl rfl (fun _ => by kernel_rfl) rfl fun ac hs => ?_))
    refine lstep (wpO_plain rfl (op_alloc hs none none (cs := [.int .u64 0, .int .u64 0, .int .u64 0, .int .u64 0]) rfl rfl Try.zeroValue24 (by kernel_rfl) rfl rfl fun g12 ac w hs => ?_))
    refine lstep (wpO_plain rfl (op_store hs 5 (vs := (Wl v)) rfl rfl rfl rfl rfl Try.sizeOf24 rfl rfl rfl rfl rfl fun w hs => ?_))
    refine wpList_nil ?_
    refine then_n ?_
    refine wp_seq ?_
    refine wp_region_lit ?_
    refine lstep (wpO_plain rfl (op_assign hs none rfl rfl rfl rfl fun ac hs => ?_))
    refine wpList_nil ?_
    refine then_n ?_
    refine wp_block ?_
    refine wp_loop_m (fun μ ac w => ∃ (k : Nat) (q : Nat), (k) = μ ∧ (k ≤ 256) ∧ ((u * 2 ^ 256 + v) / 2 ^ k % m = q) ∧ St 37 w0 [(3, true, .pointer (some ⟨g1, 0, none⟩)), (4, true, .pointer (some ⟨g2, 0, none⟩)), (5, true, .pointer (some ⟨g3, 0, none⟩)), (6, true, .pointer (some ⟨g4, 0, none⟩)), (8, true, .pointer (some ⟨g5, 0, none⟩)), (10, true, .pointer (some ⟨g12, 0, none⟩)), (18, true, .agg #[.int .u64 (lim u 0), .int .u64 (lim u 1), .int .u64 (lim u 2), .int .u64 (lim u 3), .int .u64 (lim v 0), .int .u64 (lim v 1), .int .u64 (lim v 2), .int .u64 (lim v 3)]), (19, true, .int .i64 1), (11, true, .int .i64 (((k : Nat) : Int) - 1))] [(true, g1, 24, (Wl u)), (true, g2, 24, (Wl v)), (true, g3, 24, (Wl m)), (true, g4, 24, [.int .u64 0, .int .u64 0, .int .u64 0, .int .u64 0]), (true, g5, 24, (Wl q)), (true, g12, 24, (Wl v))] ac w) ?_ ?_
    · exact ⟨_, 256, r, rfl, (by omega), (rem2_start1 hL hr0), (hs.re ⟨rfl, rfl, rfl, rfl, rfl, rfl, rfl, rfl, rfl, trivial⟩)⟩
    intro μ ac w ⟨k, q, hμ, hk, hr, hs⟩
    have lm2 : q < m := by rw [← hr]; exact Nat.mod_lt _ hm0
    have lq := Nat.lt_trans lm2 hm
    have hq := True.intro
    refine wp_seq ?_
    refine wp_seq ?_
    refine wp_region_lit ?_
    refine lstep (wpO_plain rfl (op_move hs none rfl rfl rfl rfl fun ac hs => ?_))
    refine lstep (wpO_plain rfl (op_bin hs none (v := .bool (decide (1 ≤ k))) rfl rfl rfl rfl (fun _ => rfl) bin_geqP rfl fun ac hs => ?_))
    refine wpList_nil ?_
    refine then_n ?_
    refine wp_cond_split (hs.ev rfl) (fun hc => ?_) (fun hc => ?_)
    · skip
      have hp13 := of_decide_eq_true hc
      replace hs := hs.re (fs' := [(3, true, .pointer (some ⟨g1, 0, none⟩)), (4, true, .pointer (some ⟨g2, 0, none⟩)), (5, true, .pointer (some ⟨g3, 0, none⟩)), (6, true, .pointer (some ⟨g4, 0, none⟩)), (8, true, .pointer (some ⟨g5, 0, none⟩)), (10, true, .pointer (some ⟨g12, 0, none⟩)), (18, true, .agg #[.int .u64 (lim u 0), .int .u64 (lim u 1), .int .u64 (lim u 2), .int .u64 (lim u 3), .int .u64 (lim v 0), .int .u64 (lim v 1), .int .u64 (lim v 2), .int .u64 (lim v 3)]), (19, true, .int .i64 1), (11, true, .int .i64 ((k - 1 : Nat) : Int)), (22, true, .int .i64 (((k : Nat) : Int) - 1)), (23, true, .bool (decide (1 ≤ k)))]) ⟨rfl, rfl, rfl, rfl, rfl, rfl, rfl, rfl, congrArg some (pre_nat hp13), rfl, rfl, trivial⟩
      refine wp_skip ?_
      refine then_n ?_
      refine wp_seq ?_
      refine wp_block ?_
      replace hs : St 37 w0 [(3, true, .pointer (some ⟨g1, 0, none⟩)), (4, true, .pointer (some ⟨g2, 0, none⟩)), (5, true, .pointer (some ⟨g3, 0, none⟩)), (6, true, .pointer (some ⟨g4, 0, none⟩)), (8, true, .pointer (some ⟨g5, 0, none⟩)), (10, true, .pointer (some ⟨g12, 0, none⟩)), (18, true, .agg #[.int .u64 (lim u 0), .int .u64 (lim u 1), .int .u64 (lim u 2), .int .u64 (lim u 3), .int .u64 (lim v 0), .int .u64 (lim v 1), .int .u64 (lim v 2), .int .u64 (lim v 3)]), (19, true, .int .i64 1), (11, true, .int .i64 ((k - 1 : Nat) : Int))] [(true, g1, 24, (Wl u)), (true, g2, 24, (Wl v)), (true, g3, 24, (Wl m)), (true, g4, 24, [.int .u64 0, .int .u64 0, .int .u64 0, .int .u64 0]), (true, g5, 24, (Wl q)), (true, g12, 24, (Wl v))] ac _ := hs.re ⟨rfl, rfl, rfl, rfl, rfl, rfl, rfl, rfl, rfl, trivial⟩
      obtain ⟨b14, hb14⟩ : ∃ z0, v / 2 ^ (k - 1) % 2 = z0 := ⟨_, rfl⟩
      have lb14 := bit_le hb14
      obtain ⟨z15, hz15, lz15⟩ : ∃ z0, (2 * q + b14) % m = z0 ∧ z0 < 2 ^ 256 := ⟨_, rfl, Nat.lt_trans (Nat.mod_lt _ hm0) hm⟩
      obtain ⟨q16, hq16⟩ : ∃ z0, decide (m ≤ 2 * q + b14) = z0 := ⟨_, rfl⟩
      refine region_inv [([], [5, 6, 7, 8, 9]), ([], [3, 5, 6, 7, 8, 9]), ([], [3, 5, 6, 7, 8, 9]), ([1, 2], [5, 6, 7, 8, 9]), ([], [5, 6, 7, 8, 9]), ([0, 1, 2, 3, 4], [6, 7, 8, 9]), ([0, 1, 2, 3, 4, 5], [7, 8, 9]), ([0, 1, 2, 3, 4, 5, 6], [9]), ([0, 1, 2, 3, 4, 5, 6], []), ([0, 1, 2, 3, 4, 5, 6, 7], [])] (fun L ac w => St 37 w0 [(27, L 0, W q), (28, L 1, W v), (29, L 2, .int .i64 ((k - 1 : Nat) : Int)), (30, L 3, .int .u64 ((b14 : Nat) : Int)), (31, L 4, W m), (32, L 5, .tuple #[W z15, .bool q16]), (26, L 6, .tuple #[W z15, .bool q16]), (33, L 7, W z15), (34, L 8, .bool q16), (3, true, .pointer (some ⟨g1, 0, none⟩)), (4, true, .pointer (some ⟨g2, 0, none⟩)), (5, true, .pointer (some ⟨g3, 0, none⟩)), (6, true, .pointer (some ⟨g4, 0, none⟩)), (8, true, .pointer (some ⟨g5, 0, none⟩)), (10, true, .pointer (some ⟨g12, 0, none⟩)), (18, true, .agg #[.int .u64 (lim u 0), .int .u64 (lim u 1), .int .u64 (lim u 2), .int .u64 (lim u 3), .int .u64 (lim v 0), .int .u64 (lim v 1), .int .u64 (lim v 2), .int .u64 (lim v 3)]), (19, true, .int .i64 1), (11, true, .int .i64 ((k - 1 : Nat) : Int))] [(true, g1, 24, (Wl u)), (true, g2, 24, (Wl v)), (true, g3, 24, (Wl m)), (true, g4, 24, [.int .u64 0, .int .u64 0, .int .u64 0, .int .u64 0]), (true, g5, 24, (cond (L 9) (Wl z15) (Wl q))), (true, g12, 24, (Wl v))] ac w) (by kernel_rfl) (by kernel_rfl) ?_ ?_ ?_
      · exact hs.drew.skip.skip.skip.skip.skip.skip.skip.skip.skip
      · refine ⟨?_, ?_, ?_, ?_, ?_, ?_, ?_, ?_, ?_, ?_, trivial⟩
        · intro L ac w hJ
          have hs := hJ
          refine wpO_plain rfl (op_load hs (some 0) 4 (v := W q) rfl rfl rfl rfl Try.isAgg24 Try.sizeOf24 rfl rfl fun ac hs => ?_)
          exact hs
        · intro L ac w hJ
          have hs := hJ
          refine wpO_plain rfl (op_load hs (some 1) 5 (v := W v) rfl rfl rfl rfl Try.isAgg24 Try.sizeOf24 rfl rfl fun ac hs => ?_)
          exact hs
        · intro L ac w hJ
          have hs := hJ
          refine wpO_plain rfl (op_move hs (some 2) rfl rfl rfl rfl fun ac hs => ?_)
          exact hs
        · intro L ac w hJ
          have hs := hJ
          refine wpO_plain rfl (op_call (F := 46) hs (some 3) (v := .int .u64 ((b14 : Nat) : Int)) rfl rfl rfl rfl (Try.call46 _) (wbit_c v (k - 1) b14 (show k - 1 < 256 by omega) hb14) rfl fun ac w hs => ?_)
          exact hs
        · intro L ac w hJ
          have hs := hJ
          refine wpO_plain rfl (op_load hs (some 4) 2 (v := W m) rfl rfl rfl rfl Try.isAgg24 Try.sizeOf24 rfl rfl fun ac hs => ?_)
          exact hs
        · intro L ac w hJ
          have hs := hJ
          refine wpO_plain rfl (op_call (F := 45) hs (some 5) (v := .tuple #[W z15, .bool q16]) rfl rfl rfl rfl (Try.call45 _) (wless_c q b14 m z15 q16 lm2 hm (show b14 ≤ 1 by omega) hz15 hq16) rfl fun ac w hs => ?_)
          exact hs
        · intro L ac w hJ
          have hs := hJ
          refine wpO_plain rfl (op_move hs (some 6) rfl rfl rfl rfl fun ac hs => ?_)
          exact hs
        · intro L ac w hJ
          have hs := hJ
          refine wpO_plain rfl (op_extract hs (some 7) rfl rfl rfl rfl rfl fun ac hs => ?_)
          exact hs
        · intro L ac w hJ
          have hs := hJ
          refine wpO_plain rfl (op_extract hs (some 8) rfl rfl rfl rfl rfl fun ac hs => ?_)
          exact hs
        · intro L ac w hJ
          have hs := hJ
          refine wpO_plain rfl (op_store hs 4 (vs := (Wl z15)) rfl rfl rfl rfl rfl Try.sizeOf24 rfl rfl rfl rfl rfl fun w hs => ?_)
          exact hs
      intro ac w hJ
      replace hs : St 37 w0 [(27, true, W q), (28, true, W v), (29, true, .int .i64 ((k - 1 : Nat) : Int)), (30, true, .int .u64 ((b14 : Nat) : Int)), (31, true, W m), (32, true, .tuple #[W z15, .bool q16]), (26, true, .tuple #[W z15, .bool q16]), (33, true, W z15), (34, true, .bool q16), (3, true, .pointer (some ⟨g1, 0, none⟩)), (4, true, .pointer (some ⟨g2, 0, none⟩)), (5, true, .pointer (some ⟨g3, 0, none⟩)), (6, true, .pointer (some ⟨g4, 0, none⟩)), (8, true, .pointer (some ⟨g5, 0, none⟩)), (10, true, .pointer (some ⟨g12, 0, none⟩)), (18, true, .agg #[.int .u64 (lim u 0), .int .u64 (lim u 1), .int .u64 (lim u 2), .int .u64 (lim u 3), .int .u64 (lim v 0), .int .u64 (lim v 1), .int .u64 (lim v 2), .int .u64 (lim v 3)]), (19, true, .int .i64 1), (11, true, .int .i64 ((k - 1 : Nat) : Int))] [(true, g1, 24, (Wl u)), (true, g2, 24, (Wl v)), (true, g3, 24, (Wl m)), (true, g4, 24, [.int .u64 0, .int .u64 0, .int .u64 0, .int .u64 0]), (true, g5, 24, (Wl z15)), (true, g12, 24, (Wl v))] ac w := hJ
      refine blk_n ?_
      refine then_n ?_
      refine wp_region_lit ?_
      refine lstep (wpO_plain rfl (op_move hs none rfl rfl rfl rfl fun ac hs => ?_))
      refine lstep (wpO_plain rfl (op_bin hs none (v := .int .i64 (((k - 1 : Nat) : Int) - 1)) rfl rfl rfl rfl (fun _ => rfl) (bin_subP (x := k - 1) (by omega)) rfl fun ac hs => ?_))
      refine lstep (wpO_plain rfl (op_assign hs none rfl rfl rfl rfl fun ac hs => ?_))
      refine wpList_nil ?_
      refine then_n ?_
      exact ⟨_, ⟨(k - 1), z15, rfl, (by omega), (rem2_step hp13 hq hr hb14 hz15), (hs.re ⟨rfl, rfl, rfl, rfl, rfl, rfl, rfl, rfl, rfl, trivial⟩)⟩, (by omega)⟩
    · skip
      have hp17 := of_decide_eq_false hc
      obtain rfl : k = 0 := by omega
      refine wp_exit ?_
      refine then_e ?_
      refine then_e ?_
      refine blk_e ?_
      refine blk_n ?_
      refine then_n ?_
      refine wp_region_lit ?_
      refine lstep (wpO_plain rfl (op_bin hs none (v := .int .i64 2) rfl rfl rfl rfl (fun _ => rfl) (fun _ => by kernel_rfl) rfl fun ac hs => ?_))
      refine lstep (wpO_plain rfl (op_move hs none rfl rfl rfl rfl fun ac hs => ?_))
      refine wpList_nil ?_
      refine then_n ?_
      exact ⟨_, .inr (.inr (⟨q, rfl, (rem2_end1 hL hr0 hr), ((hs.takeb 5).re ⟨rfl, rfl, rfl, rfl, rfl, rfl, rfl, trivial⟩)⟩)), by omega⟩
  · obtain ⟨r, rfl, hr0, hs⟩ := hJ
    have lm : r < m := by rw [hr0]; exact Nat.mod_lt _ hm0
    have lr := Nat.lt_trans lm hm
    refine wp_seq ?_
    refine wp_region_lit ?_
    refine lstep (wpO_plain rfl (op_bin hs none (v := .bool false) rfl rfl rfl rfl (fun _ => rfl) (fun _ => by kernel_rfl) rfl fun ac hs => ?_))
    refine wpList_nil ?_
    refine then_n ?_
    refine wp_seq ?_
    refine wp_cond_false (hs.ev rfl) ?_
    refine wp_exit ?_
    refine then_e ?_
    refine then_e ?_
    refine blk_e ?_
    refine then_n ?_
    refine wp_seq ?_
    refine wp_region_lit ?_
    refine lstep (wpO_plain rfl (op_load hs none 4 (v := W r) rfl rfl rfl rfl Try.isAgg24 Try.sizeOf24 rfl rfl fun ac hs => ?_))
    refine lstep (wpO_plain rfl (op_store hs 3 (vs := (Wl r)) rfl rfl rfl rfl rfl Try.sizeOf24 rfl rfl rfl rfl rfl fun w hs => ?_))
    refine lstep (wpO_plain rfl (op_assign hs none rfl rfl rfl rfl fun ac hs => ?_))
    refine wpList_nil ?_
    refine then_n ?_
    refine wp_ret ?_
    exact bodyPost_ret (res2 rfl (rv_c hs 3 (v := W r) rfl rfl Try.isAgg24 Try.sizeOf24 rfl) (rv_t hs rfl)) hs.defers ⟨by rw [← hr', ← hr0], hs.below⟩
end Go.Proofs.Ytaeafgkjinhceaa
