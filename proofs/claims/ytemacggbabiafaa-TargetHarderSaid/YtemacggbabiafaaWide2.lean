/- The contracts of shifts, bytes, quotients. -/
import Derived.Test.YtemacggbabiafaaSh2P
import Derived.Test.YtemacggbabiafaaWideW
import Derived.Test.YtemacggbabiafaaMul64
import Derived.Test.YtemacggbabiafaaWDiv
namespace Go.Proofs.Ytemacggbabiafaa
open Go.RowKit
set_option maxRecDepth 10000

theorem Wl_modx {n x : Nat} (h : n % 2 ^ 256 = x) : Wl x = Wl n := by
  have := W_mod n
  rw [h] at this
  have h2 := congrArg Value.cells this
  exact Array.toList_inj.2 h2 |>.trans rfl
theorem shr_lt {x k : Nat} (h : x < 2 ^ 64) : x / 2 ^ k < 2 ^ 64 := Nat.lt_of_le_of_lt (Nat.div_le_self _ _) h
theorem mul64_c (x y h l : Nat) (hx : x < 18446744073709551616) (hy : y < 18446744073709551616) (hh : x * y / 18446744073709551616 = h) (hl : x * y % 18446744073709551616 = l) (w : World) :
    Calls Try.prog 53 #[.int .u64 ((x : Nat) : Int), .int .u64 ((y : Nat) : Int)] w fun e w' => e = .returned (.tuple #[.int .u64 ((h : Nat) : Int), .int .u64 ((l : Nat) : Int)]) ∧ Below w.heap.size w w' :=
  (mul64_any x y hx hy w).mono fun e w' ⟨h1, h2⟩ => ⟨by rw [h1, hh, hl], by rw [h2]; exact Below.refl _ _⟩
theorem wdiv_c (a b q r : Nat) (ha : a < 2 ^ 256) (hb : b < 2 ^ 256) (hb0 : 0 < b) (hq : a / b = q) (hr : a % b = r) (w : World) :
    Calls Try.prog 36 #[W a, W b] w fun e w' => e = .returned (.tuple #[W q, W r, .int .i64 0]) ∧ Below w.heap.size w w' :=
  (div_any w a b ha hb hb0).mono fun e w' ⟨h1, h2⟩ => ⟨by rw [h1, hq, hr], h2⟩

theorem rem2_step {X q' m q k b z : Nat} (h1 : 1 ≤ k) (_ : True) (hr : (q' * 2 ^ 256 + X) / 2 ^ k % m = q) (hb : X / 2 ^ (k - 1) % 2 = b) (hz : (2 * q + b) % m = z) (hk : k ≤ 256 := by omega) : (q' * 2 ^ 256 + X) / 2 ^ (k - 1) % m = z := by
  have e := half_lo (H := q') (L := X) (i := k - 1) (by omega)
  rw [Nat.mod_eq_of_lt (show k - 1 < 256 by omega), hb] at e
  rw [rem_bit h1 hr e, hz]
theorem rem2_start0 {u m r : Nat} (hu : u < 2 ^ 256) (hr : r = 0) : (0 * 2 ^ 256 + u) / 2 ^ 256 % m = r := by rw [Nat.zero_mul, Nat.zero_add, Nat.div_eq_of_lt hu, Nat.zero_mod, hr]
theorem rem2_end0 {u m r q : Nat} (_ : r = 0) (hr : (0 * 2 ^ 256 + u) / 2 ^ 0 % m = q) : q = u % m := by rw [← hr, Nat.zero_mul, Nat.zero_add, Nat.pow_zero, Nat.div_one]
theorem rem2_start1 {u v m r : Nat} (hv : v < 2 ^ 256) (hr : r = u % m) : (u * 2 ^ 256 + v) / 2 ^ 256 % m = r := by rw [Nat.add_comm, Nat.add_mul_div_right _ _ (Nat.two_pow_pos 256), Nat.div_eq_of_lt hv, Nat.zero_add, hr]
theorem rem2_end1 {u v m r q : Nat} (_ : v < 2 ^ 256) (_ : r = u % m) (hr : (u * 2 ^ 256 + v) / 2 ^ 0 % m = q) : q = (u * 2 ^ 256 + v) % m := by rw [← hr, Nat.pow_zero, Nat.div_one]

theorem shr_c (a : Nat) (n : Int) (nn x : Nat) (ha : a < 2 ^ 256) (hn : min (max n 0) 256 = (nn : Int)) (hx : a / 2 ^ nn = x) (w0 : World) : Calls Try.prog 26 #[W a, .int .i64 n] w0 fun e w' => e = .returned (W x) ∧ Below w0.heap.size w0 w' := by
  have hnn : nn ≤ 256 := by omega
  refine enter (n := 52) (args := [W a, .int .i64 n]) Try.func26 rfl rfl (Nat.le_of_ble_eq_true rfl) fun ac hs => ?_
  refine wp_seq ?_
  refine wp_region_lit ?_
  refine lstep (wpO_plain rfl (op_box hs none none (cs := (Wl a)) rfl rfl rfl rfl rfl rfl fun g1 ac w hs => ?_))
  refine lstep (wpO_plain rfl (op_alloc hs none none (cs := [.int .u64 0, .int .u64 0, .int .u64 0, .int .u64 0]) rfl rfl Try.zeroValue25 (by kernel_rfl) rfl rfl fun g2 ac w hs => ?_))
  refine wpList_nil ?_
  refine then_n ?_
  refine wp_seq ?_
  refine wp_region_lit ?_
  refine lstep (wpO_plain rfl (op_move hs none rfl rfl rfl rfl fun ac hs => ?_))
  refine lstep (wpO_plain rfl (op_blt hs none (v := .int .i64 (max n 0)) rfl rfl rfl blt_maxI rfl fun ac hs => ?_))
  refine lstep (wpO_plain rfl (op_blt hs none (v := .int .i64 (min (max n 0) 256)) rfl rfl rfl blt_minI rfl fun ac hs => ?_))
  refine lstep (wpO_plain rfl (op_assign hs none rfl rfl rfl rfl fun ac hs => ?_))
  refine wpList_nil ?_
  replace hs := hs.re (fs' := [(0, true, W a), (1, true, .int .i64 ((nn : Nat) : Int)), (2, true, .pointer (some ⟨g1, 0, none⟩)), (4, true, .pointer (some ⟨g2, 0, none⟩)), (9, true, .int .i64 n), (10, true, .int .i64 (max n 0)), (11, true, .int .i64 (min (max n 0) 256))]) ⟨rfl, congrArg some (shn hn), rfl, rfl, rfl, rfl, rfl, trivial⟩
  refine then_n ?_
  refine wp_seq ?_
  refine wp_region_lit ?_
  refine lstep (wpO_plain rfl (op_alloc hs none none (cs := [.int .u64 0, .int .u64 0, .int .u64 0, .int .u64 0]) rfl rfl Try.zeroValue25 (by kernel_rfl) rfl rfl fun g3 ac w hs => ?_))
  refine wpList_nil ?_
  refine then_n ?_
  refine wp_seq ?_
  refine wp_region_lit ?_
  refine lstep (wpO_plain rfl (op_move hs none rfl rfl rfl rfl fun ac hs => ?_))
  refine lstep (wpO_plain rfl (op_bin hs none (v := .int .i64 ((nn / 64 : Nat) : Int)) rfl rfl rfl rfl (fun _ => rfl) (bin_quoN (x := nn) (y := 64) (z := nn / 64) rfl (by decide) (show nn < 9223372036854775808 by omega)) rfl fun ac hs => ?_))
  refine lstep (wpO_plain rfl (op_move hs none rfl rfl rfl rfl fun ac hs => ?_))
  refine lstep (wpO_plain rfl (op_bin hs none (v := .int .i64 ((nn % 64 : Nat) : Int)) rfl rfl rfl rfl (fun _ => rfl) (bin_remN (x := nn) (y := 64) (z := nn % 64) rfl (by decide)) rfl fun ac hs => ?_))
  refine lstep (wpO_plain rfl (op_assign hs none rfl rfl rfl rfl fun ac hs => ?_))
  refine lstep (wpO_plain rfl (op_assign hs none rfl rfl rfl rfl fun ac hs => ?_))
  refine wpList_nil ?_
  refine then_n ?_
  refine wp_seq ?_
  refine wp_seq ?_
  refine wp_region_lit ?_
  refine lstep (wpO_plain rfl (op_move hs none rfl rfl rfl rfl fun ac hs => ?_))
  refine lstep (wpO_plain rfl (op_assign hs none rfl rfl rfl rfl fun ac hs => ?_))
  refine wpList_nil ?_
  refine then_n ?_
  refine wp_block ?_
  refine wp_loop_m (fun μ ac w => ∃ (i : Nat) (f : Nat → Nat), (4 - i) = μ ∧ (nn / 64 ≤ i) ∧ (i ≤ 4) ∧ (∀ j, j < 4 → f j = shf a nn i j) ∧ St 52 w0 [(2, true, .pointer (some ⟨g1, 0, none⟩)), (4, true, .pointer (some ⟨g2, 0, none⟩)), (5, true, .pointer (some ⟨g3, 0, none⟩)), (6, true, .int .i64 ((nn / 64 : Nat) : Int)), (7, true, .int .i64 ((nn % 64 : Nat) : Int)), (8, true, .int .i64 ((i : Nat) : Int))] [(true, g1, 25, (Wl a)), (true, g2, 25, [.int .u64 0, .int .u64 0, .int .u64 0, .int .u64 0]), (true, g3, 25, (tab .u64 4 f))] ac w) ?_ ?_
  · exact ⟨_, (nn / 64), (fun _ => 0), rfl, (Nat.le_refl _), (by omega), shr_start, (hs.re ⟨rfl, rfl, rfl, rfl, rfl, rfl, trivial⟩)⟩
  intro μ ac w ⟨i, f, hμ, hby, hi, hf, hs⟩
  refine wp_seq ?_
  refine wp_seq ?_
  refine wp_region_lit ?_
  refine lstep (wpO_plain rfl (op_move hs none rfl rfl rfl rfl fun ac hs => ?_))
  refine lstep (wpO_plain rfl (op_bin hs none (v := .bool (decide (i < 4))) rfl rfl rfl rfl (fun _ => rfl) (bin_lssN (x := i) (y := 4)) rfl fun ac hs => ?_))
  refine wpList_nil ?_
  refine then_n ?_
  refine wp_cond_split (hs.ev rfl) (fun hc => ?_) (fun hc => ?_)
  · skip
    have hp4 := of_decide_eq_true hc
    refine wp_skip ?_
    refine then_n ?_
    refine wp_seq ?_
    refine wp_block ?_
    refine wp_seq ?_
    refine wp_region_lit ?_
    refine lstep (wpO_plain rfl (op_move hs none rfl rfl rfl rfl fun ac hs => ?_))
    refine lstep (wpO_plain rfl (op_move hs none rfl rfl rfl rfl fun ac hs => ?_))
    refine lstep (wpO_plain rfl (op_bin hs none (v := .int .i64 ((i - (nn / 64) : Nat) : Int)) rfl rfl rfl rfl (fun _ => rfl) (bin_subN (x := i) (y := nn / 64) (z := i - (nn / 64)) (by omega) (show i - (nn / 64) < 9223372036854775808 by omega)) rfl fun ac hs => ?_))
    refine lstep (wpO_plain rfl (op_move hs none rfl rfl rfl rfl fun ac hs => ?_))
    refine lstep (wpO_plain rfl (op_idxA hs none (j := i) rfl rfl rfl rfl Try.underlying25 Try.sizeOf23 (show i < 4 by omega) (off := i) (by omega) rfl fun ac hs => ?_))
    have l5 := limN_lt a i
    refine lstep (wpO_plain rfl (op_load hs none 0 (v := .int .u64 ((limN a i : Nat) : Int)) rfl rfl rfl rfl Try.isAgg23 Try.sizeOf23 (Wl_get (j := i) (show i < 4 by omega)) rfl fun ac hs => ?_))
    refine lstep (wpO_plain rfl (op_move hs none rfl rfl rfl rfl fun ac hs => ?_))
    refine lstep (wpO_plain rfl (op_bin hs none (v := .int .u64 (((limN a i) / 2 ^ (nn % 64) : Nat) : Int)) rfl rfl rfl rfl (fun _ => rfl) (bin_shrN (x := limN a i) (y := nn % 64) (z := (limN a i) / 2 ^ (nn % 64)) rfl (show limN a i < 2 ^ 64 by omega)) rfl fun ac hs => ?_))
    refine lstep (wpO_plain rfl (op_idxA hs none (j := i - (nn / 64)) rfl rfl rfl rfl Try.underlying25 Try.sizeOf23 (show i - (nn / 64) < 4 by omega) (off := i - (nn / 64)) (by omega) rfl fun ac hs => ?_))
    refine lstep (wpO_plain rfl (op_store hs 2 (vs := [.int .u64 (((limN a i) / 2 ^ (nn % 64) : Nat) : Int)]) rfl rfl rfl rfl rfl Try.sizeOf23 rfl rfl rfl (tab_le (j := i - (nn / 64)) (show i - (nn / 64) < 4 by omega)) (tab_set) fun w hs => ?_))
    refine wpList_nil ?_
    refine then_n ?_
    refine wp_seq ?_
    by_cases hq6 : i + 1 < 4
    · skip
      refine wp_region_lit ?_
      refine lstep (wpO_plain rfl (op_move hs none rfl rfl rfl rfl fun ac hs => ?_))
      refine lstep (wpO_plain rfl (op_bin hs none (v := .int .i64 ((i + 1 : Nat) : Int)) rfl rfl rfl rfl (fun _ => rfl) (bin_addN (x := i) (y := 1) (z := i + 1) rfl (show i + 1 < 9223372036854775808 by omega)) rfl fun ac hs => ?_))
      refine lstep (wpO_plain rfl (op_bin hs none (v := .bool true) rfl rfl rfl rfl (fun _ => rfl) (fun w => dT hq6 (bin_lssN (x := i + 1) (y := 4) w)) rfl fun ac hs => ?_))
      refine lstep (wpO_plain rfl (op_move hs none rfl rfl rfl rfl fun ac hs => ?_))
      refine lstep (wpO_in hs rfl rfl rfl (op_move hs none rfl rfl rfl rfl fun ac hs => ?_))
      refine lstep (wpO_in hs rfl rfl rfl (op_bin hs none (v := .bool (decide (0 < nn % 64))) rfl rfl rfl rfl (fun _ => rfl) (bin_gtrN (x := nn % 64) (y := 0)) rfl fun ac hs => ?_))
      refine lstep (wpO_plain rfl (op_pickT hs none rfl rfl rfl rfl rfl fun ac hs => ?_))
      refine wpList_nil ?_
      refine then_n ?_
      refine wp_cond_split (hs.ev rfl) (fun hc => ?_) (fun hc => ?_)
      · skip
        have hp7 := of_decide_eq_true hc
        replace hs : St 52 w0 [(2, true, .pointer (some ⟨g1, 0, none⟩)), (4, true, .pointer (some ⟨g2, 0, none⟩)), (5, true, .pointer (some ⟨g3, 0, none⟩)), (6, true, .int .i64 ((nn / 64 : Nat) : Int)), (7, true, .int .i64 ((nn % 64 : Nat) : Int)), (8, true, .int .i64 ((i : Nat) : Int))] [(true, g1, 25, (Wl a)), (true, g2, 25, [.int .u64 0, .int .u64 0, .int .u64 0, .int .u64 0]), (true, g3, 25, (tab .u64 4 (upn f (i - (nn / 64)) ((limN a i) / 2 ^ (nn % 64)))))] ac w := hs.re ⟨rfl, rfl, rfl, rfl, rfl, rfl, trivial⟩
        have l8 := limN_lt a (i + 1)
        refine region_inv [([], [2, 3, 4, 12, 13, 14]), ([], [2, 3, 4, 12, 13, 14]), ([0, 1], [3, 4, 12, 13, 14]), ([0, 1, 2], [4, 12, 13, 14]), ([0, 1, 2, 3], [12, 13, 14]), ([], [6, 7, 8, 11, 12, 13, 14]), ([5], [7, 8, 11, 12, 13, 14]), ([5, 6], [8, 11, 12, 13, 14]), ([5, 6, 7], [11, 12, 13, 14]), ([], [10, 11, 12, 13, 14]), ([9], [11, 12, 13, 14]), ([5, 6, 7, 8, 9, 10], [12, 13, 14]), ([0, 1, 2, 3, 4, 5, 6, 7, 8, 9, 10, 11], [13, 14]), ([0, 1, 2, 3, 4, 5, 6, 7, 8, 9, 10, 11, 12], [14]), ([0, 1, 2, 3, 4, 5, 6, 7, 8, 9, 10, 11, 12, 13], [])] (fun L ac w => St 52 w0 [(37, L 0, .int .i64 ((i : Nat) : Int)), (38, L 1, .int .i64 ((nn / 64 : Nat) : Int)), (39, L 2, .int .i64 ((i - (nn / 64) : Nat) : Int)), (40, L 3, .pointer (some ⟨g3, i - (nn / 64), none⟩)), (41, L 4, .int .u64 (((upn f (i - (nn / 64)) ((limN a i) / 2 ^ (nn % 64))) (i - (nn / 64)) : Nat) : Int)), (42, L 5, .int .i64 ((i : Nat) : Int)), (43, L 6, .int .i64 ((i + 1 : Nat) : Int)), (44, L 7, .pointer (some ⟨g1, i + 1, none⟩)), (45, L 8, .int .u64 ((limN a (i + 1) : Nat) : Int)), (46, L 9, .int .i64 ((nn % 64 : Nat) : Int)), (47, L 10, .int .i64 ((64 - (nn % 64) : Nat) : Int)), (48, L 11, .int .u64 (((limN a (i + 1)) * 2 ^ (64 - (nn % 64)) % 18446744073709551616 : Nat) : Int)), (49, L 12, .int .u64 ((((upn f (i - (nn / 64)) ((limN a i) / 2 ^ (nn % 64))) (i - (nn / 64))) ||| ((limN a (i + 1)) * 2 ^ (64 - (nn % 64)) % 18446744073709551616) : Nat) : Int)), (50, L 13, .pointer (some ⟨g3, i - (nn / 64), none⟩)), (2, true, .pointer (some ⟨g1, 0, none⟩)), (4, true, .pointer (some ⟨g2, 0, none⟩)), (5, true, .pointer (some ⟨g3, 0, none⟩)), (6, true, .int .i64 ((nn / 64 : Nat) : Int)), (7, true, .int .i64 ((nn % 64 : Nat) : Int)), (8, true, .int .i64 ((i : Nat) : Int))] [(true, g1, 25, (Wl a)), (true, g2, 25, [.int .u64 0, .int .u64 0, .int .u64 0, .int .u64 0]), (true, g3, 25, (cond (L 14) (tab .u64 4 (upn (upn f (i - (nn / 64)) ((limN a i) / 2 ^ (nn % 64))) (i - (nn / 64)) (((upn f (i - (nn / 64)) ((limN a i) / 2 ^ (nn % 64))) (i - (nn / 64))) ||| ((limN a (i + 1)) * 2 ^ (64 - (nn % 64)) % 18446744073709551616)))) (tab .u64 4 (upn f (i - (nn / 64)) ((limN a i) / 2 ^ (nn % 64))))))] ac w) (by kernel_rfl) (by kernel_rfl) ?_ ?_ ?_
        · exact hs.drew.skip.skip.skip.skip.skip.skip.skip.skip.skip.skip.skip.skip.skip.skip
        · refine ⟨?_, ?_, ?_, ?_, ?_, ?_, ?_, ?_, ?_, ?_, ?_, ?_, ?_, ?_, ?_, trivial⟩
          · intro L ac w hJ
            have hs := hJ
            refine wpO_plain rfl (op_move hs (some 0) rfl rfl rfl rfl fun ac hs => ?_)
            exact hs
          · intro L ac w hJ
            have hs := hJ
            refine wpO_plain rfl (op_move hs (some 1) rfl rfl rfl rfl fun ac hs => ?_)
            exact hs
          · intro L ac w hJ
            have hs := hJ
            refine wpO_plain rfl (op_bin hs (some 2) (v := .int .i64 ((i - (nn / 64) : Nat) : Int)) rfl rfl rfl rfl (fun _ => rfl) (bin_subN (x := i) (y := nn / 64) (z := i - (nn / 64)) (by omega) (show i - (nn / 64) < 9223372036854775808 by omega)) rfl fun ac hs => ?_)
            exact hs
          · intro L ac w hJ
            have hs := hJ
            refine wpO_plain rfl (op_idxA hs (some 3) (j := i - (nn / 64)) rfl rfl rfl rfl Try.underlying25 Try.sizeOf23 (show i - (nn / 64) < 4 by omega) (off := i - (nn / 64)) (by omega) rfl fun ac hs => ?_)
            exact hs
          · intro L ac w hJ
            have hs := hJ
            refine wpO_plain rfl (op_load hs (some 4) 2 (v := .int .u64 (((upn f (i - (nn / 64)) ((limN a i) / 2 ^ (nn % 64))) (i - (nn / 64)) : Nat) : Int)) rfl rfl rfl rfl Try.isAgg23 Try.sizeOf23 (tab_get (j := i - (nn / 64)) (show i - (nn / 64) < 4 by omega)) rfl fun ac hs => ?_)
            exact hs
          · intro L ac w hJ
            have hs := hJ
            refine wpO_plain rfl (op_move hs (some 5) rfl rfl rfl rfl fun ac hs => ?_)
            exact hs
          · intro L ac w hJ
            have hs := hJ
            refine wpO_plain rfl (op_bin hs (some 6) (v := .int .i64 ((i + 1 : Nat) : Int)) rfl rfl rfl rfl (fun _ => rfl) (bin_addN (x := i) (y := 1) (z := i + 1) rfl (show i + 1 < 9223372036854775808 by omega)) rfl fun ac hs => ?_)
            exact hs
          · intro L ac w hJ
            have hs := hJ
            refine wpO_plain rfl (op_idxA hs (some 7) (j := i + 1) rfl rfl rfl rfl Try.underlying25 Try.sizeOf23 (show i + 1 < 4 by omega) (off := i + 1) (by omega) rfl fun ac hs => ?_)
            exact hs
          · intro L ac w hJ
            have hs := hJ
            refine wpO_plain rfl (op_load hs (some 8) 0 (v := .int .u64 ((limN a (i + 1) : Nat) : Int)) rfl rfl rfl rfl Try.isAgg23 Try.sizeOf23 (Wl_get (j := i + 1) (show i + 1 < 4 by omega)) rfl fun ac hs => ?_)
            exact hs
          · intro L ac w hJ
            have hs := hJ
            refine wpO_plain rfl (op_move hs (some 9) rfl rfl rfl rfl fun ac hs => ?_)
            exact hs
          · intro L ac w hJ
            have hs := hJ
            refine wpO_plain rfl (op_bin hs (some 10) (v := .int .i64 ((64 - (nn % 64) : Nat) : Int)) rfl rfl rfl rfl (fun _ => rfl) (bin_subN (x := 64) (y := nn % 64) (z := 64 - (nn % 64)) (by omega) (show 64 - (nn % 64) < 9223372036854775808 by omega)) rfl fun ac hs => ?_)
            exact hs
          · intro L ac w hJ
            have hs := hJ
            refine wpO_plain rfl (op_bin hs (some 11) (v := .int .u64 (((limN a (i + 1)) * 2 ^ (64 - (nn % 64)) % 18446744073709551616 : Nat) : Int)) rfl rfl rfl rfl (fun _ => rfl) (bin_shlM (x := limN a (i + 1)) (y := 64 - (nn % 64)) (z := (limN a (i + 1)) * 2 ^ (64 - (nn % 64)) % 18446744073709551616) rfl rfl) rfl fun ac hs => ?_)
            exact hs
          · intro L ac w hJ
            have hs := hJ
            refine wpO_plain rfl (op_bin hs (some 12) (v := .int .u64 ((((upn f (i - (nn / 64)) ((limN a i) / 2 ^ (nn % 64))) (i - (nn / 64))) ||| ((limN a (i + 1)) * 2 ^ (64 - (nn % 64)) % 18446744073709551616) : Nat) : Int)) rfl rfl rfl rfl (fun _ => rfl) (bin_orN (x := (upn f (i - (nn / 64)) ((limN a i) / 2 ^ (nn % 64))) (i - (nn / 64))) (y := (limN a (i + 1)) * 2 ^ (64 - (nn % 64)) % 18446744073709551616) (z := ((upn f (i - (nn / 64)) ((limN a i) / 2 ^ (nn % 64))) (i - (nn / 64))) ||| ((limN a (i + 1)) * 2 ^ (64 - (nn % 64)) % 18446744073709551616)) rfl (by rw [upn_at]; exact shr_lt (limN_lt _ _)) (Nat.mod_lt _ (by decide)) (or_lt64 (by rw [upn_at]; exact shr_lt (limN_lt _ _)) (Nat.mod_lt _ (by decide)))) rfl fun ac hs => ?_)
            exact hs
          · intro L ac w hJ
            have hs := hJ
            refine wpO_plain rfl (op_idxA hs (some 13) (j := i - (nn / 64)) rfl rfl rfl rfl Try.underlying25 Try.sizeOf23 (show i - (nn / 64) < 4 by omega) (off := i - (nn / 64)) (by omega) rfl fun ac hs => ?_)
            exact hs
          · intro L ac w hJ
            have hs := hJ
            refine wpO_plain rfl (op_store hs 2 (vs := [.int .u64 ((((upn f (i - (nn / 64)) ((limN a i) / 2 ^ (nn % 64))) (i - (nn / 64))) ||| ((limN a (i + 1)) * 2 ^ (64 - (nn % 64)) % 18446744073709551616) : Nat) : Int)]) rfl rfl rfl rfl rfl Try.sizeOf23 rfl rfl rfl (tab_le (j := i - (nn / 64)) (show i - (nn / 64) < 4 by omega)) (tab_set) fun w hs => ?_)
            exact hs
        intro ac w hJ
        replace hs : St 52 w0 [(37, true, .int .i64 ((i : Nat) : Int)), (38, true, .int .i64 ((nn / 64 : Nat) : Int)), (39, true, .int .i64 ((i - (nn / 64) : Nat) : Int)), (40, true, .pointer (some ⟨g3, i - (nn / 64), none⟩)), (41, true, .int .u64 (((upn f (i - (nn / 64)) ((limN a i) / 2 ^ (nn % 64))) (i - (nn / 64)) : Nat) : Int)), (42, true, .int .i64 ((i : Nat) : Int)), (43, true, .int .i64 ((i + 1 : Nat) : Int)), (44, true, .pointer (some ⟨g1, i + 1, none⟩)), (45, true, .int .u64 ((limN a (i + 1) : Nat) : Int)), (46, true, .int .i64 ((nn % 64 : Nat) : Int)), (47, true, .int .i64 ((64 - (nn % 64) : Nat) : Int)), (48, true, .int .u64 (((limN a (i + 1)) * 2 ^ (64 - (nn % 64)) % 18446744073709551616 : Nat) : Int)), (49, true, .int .u64 ((((upn f (i - (nn / 64)) ((limN a i) / 2 ^ (nn % 64))) (i - (nn / 64))) ||| ((limN a (i + 1)) * 2 ^ (64 - (nn % 64)) % 18446744073709551616) : Nat) : Int)), (50, true, .pointer (some ⟨g3, i - (nn / 64), none⟩)), (2, true, .pointer (some ⟨g1, 0, none⟩)), (4, true, .pointer (some ⟨g2, 0, none⟩)), (5, true, .pointer (some ⟨g3, 0, none⟩)), (6, true, .int .i64 ((nn / 64 : Nat) : Int)), (7, true, .int .i64 ((nn % 64 : Nat) : Int)), (8, true, .int .i64 ((i : Nat) : Int))] [(true, g1, 25, (Wl a)), (true, g2, 25, [.int .u64 0, .int .u64 0, .int .u64 0, .int .u64 0]), (true, g3, 25, (tab .u64 4 (upn (upn f (i - (nn / 64)) ((limN a i) / 2 ^ (nn % 64))) (i - (nn / 64)) (((upn f (i - (nn / 64)) ((limN a i) / 2 ^ (nn % 64))) (i - (nn / 64))) ||| ((limN a (i + 1)) * 2 ^ (64 - (nn % 64)) % 18446744073709551616)))))] ac w := hJ
        refine blk_n ?_
        refine then_n ?_
        refine wp_region_lit ?_
        refine lstep (wpO_plain rfl (op_move hs none rfl rfl rfl rfl fun ac hs => ?_))
        refine lstep (wpO_plain rfl (op_bin hs none (v := .int .i64 ((i + 1 : Nat) : Int)) rfl rfl rfl rfl (fun _ => rfl) (bin_addN (x := i) (y := 1) (z := i + 1) rfl (show i + 1 < 9223372036854775808 by omega)) rfl fun ac hs => ?_))
        refine lstep (wpO_plain rfl (op_assign hs none rfl rfl rfl rfl fun ac hs => ?_))
        refine wpList_nil ?_
        refine then_n ?_
        exact ⟨_, ⟨(i + 1), (upn (upn f (i - (nn / 64)) ((limN a i) / 2 ^ (nn % 64))) (i - (nn / 64)) (((upn f (i - (nn / 64)) ((limN a i) / 2 ^ (nn % 64))) (i - (nn / 64))) ||| ((limN a (i + 1)) * 2 ^ (64 - (nn % 64)) % 18446744073709551616))), rfl, (by omega), (by omega), (shr_stepB ha hby hp4 hp7 hf), (hs.re ⟨rfl, rfl, rfl, rfl, rfl, rfl, trivial⟩)⟩, (by omega)⟩
      · skip
        have hp9 := of_decide_eq_false hc
        refine wp_skip ?_
        refine blk_n ?_
        refine then_n ?_
        refine wp_region_lit ?_
        refine lstep (wpO_plain rfl (op_move hs none rfl rfl rfl rfl fun ac hs => ?_))
        refine lstep (wpO_plain rfl (op_bin hs none (v := .int .i64 ((i + 1 : Nat) : Int)) rfl rfl rfl rfl (fun _ => rfl) (bin_addN (x := i) (y := 1) (z := i + 1) rfl (show i + 1 < 9223372036854775808 by omega)) rfl fun ac hs => ?_))
        refine lstep (wpO_plain rfl (op_assign hs none rfl rfl rfl rfl fun ac hs => ?_))
        refine wpList_nil ?_
        refine then_n ?_
        exact ⟨_, ⟨(i + 1), (upn f (i - (nn / 64)) ((limN a i) / 2 ^ (nn % 64))), rfl, (by omega), (by omega), (shr_stepA ha hby hp4 (by omega) hf), (hs.re ⟨rfl, rfl, rfl, rfl, rfl, rfl, trivial⟩)⟩, (by omega)⟩
    · skip
      refine wp_region_lit ?_
      refine lstep (wpO_plain rfl (op_move hs none rfl rfl rfl rfl fun ac hs => ?_))
      refine lstep (wpO_plain rfl (op_bin hs none (v := .int .i64 ((i + 1 : Nat) : Int)) rfl rfl rfl rfl (fun _ => rfl) (bin_addN (x := i) (y := 1) (z := i + 1) rfl (show i + 1 < 9223372036854775808 by omega)) rfl fun ac hs => ?_))
      refine lstep (wpO_plain rfl (op_bin hs none (v := .bool false) rfl rfl rfl rfl (fun _ => rfl) (fun w => dF hq6 (bin_lssN (x := i + 1) (y := 4) w)) rfl fun ac hs => ?_))
      refine lstep (wpO_plain rfl (op_move hs none rfl rfl rfl rfl fun ac hs => ?_))
      refine lstep (wpO_out hs none rfl rfl (.inl rfl) rfl rfl fun ac hs => ?_)
      refine lstep (wpO_out hs none rfl rfl (.inl rfl) rfl rfl fun ac hs => ?_)
      refine lstep (wpO_plain rfl (op_pickF hs none rfl rfl rfl rfl rfl fun ac hs => ?_))
      refine wpList_nil ?_
      refine then_n ?_
      refine wp_cond_false (hs.ev rfl) ?_
      refine wp_skip ?_
      refine blk_n ?_
      refine then_n ?_
      refine wp_region_lit ?_
      refine lstep (wpO_plain rfl (op_move hs none rfl rfl rfl rfl fun ac hs => ?_))
      refine lstep (wpO_plain rfl (op_bin hs none (v := .int .i64 ((i + 1 : Nat) : Int)) rfl rfl rfl rfl (fun _ => rfl) (bin_addN (x := i) (y := 1) (z := i + 1) rfl (show i + 1 < 9223372036854775808 by omega)) rfl fun ac hs => ?_))
      refine lstep (wpO_plain rfl (op_assign hs none rfl rfl rfl rfl fun ac hs => ?_))
      refine wpList_nil ?_
      refine then_n ?_
      exact ⟨_, ⟨(i + 1), (upn f (i - (nn / 64)) ((limN a i) / 2 ^ (nn % 64))), rfl, (by omega), (by omega), (shr_stepA ha hby hp4 (by omega) hf), (hs.re ⟨rfl, rfl, rfl, rfl, rfl, rfl, trivial⟩)⟩, (by omega)⟩
  · skip
    have hp10 := of_decide_eq_false hc
    replace hs := hs.setb 2 (cs' := Wl x) rfl (by rw [← hx]; exact tab_Wl (shr_fin ha (by omega) hf))
    refine wp_exit ?_
    refine then_e ?_
    refine then_e ?_
    refine blk_e ?_
    refine then_n ?_
    refine wp_seq ?_
    refine wp_region_lit ?_
    refine lstep (wpO_plain rfl (op_load hs none 2 (v := W x) rfl rfl rfl rfl Try.isAgg25 Try.sizeOf25 rfl rfl fun ac hs => ?_))
    refine lstep (wpO_plain rfl (op_store hs 1 (vs := (Wl x)) rfl rfl rfl rfl rfl Try.sizeOf25 rfl rfl rfl rfl rfl fun w hs => ?_))
    refine wpList_nil ?_
    refine then_n ?_
    refine wp_ret ?_
    exact bodyPost_ret (res1 rfl (rv_c hs 1 (v := W x) rfl rfl Try.isAgg25 Try.sizeOf25 rfl)) hs.defers ⟨rfl, hs.below⟩
theorem shl_c (a : Nat) (n : Int) (nn x : Nat) (ha : a < 2 ^ 256) (hn : min (max n 0) 256 = (nn : Int)) (hx : a * 2 ^ nn % 2 ^ 256 = x) (w0 : World) : Calls Try.prog 28 #[W a, .int .i64 n] w0 fun e w' => e = .returned (W x) ∧ Below w0.heap.size w0 w' := by
  have hnn : nn ≤ 256 := by omega
  refine enter (n := 52) (args := [W a, .int .i64 n]) Try.func28 rfl rfl (Nat.le_of_ble_eq_true rfl) fun ac hs => ?_
  refine wp_seq ?_
  refine wp_region_lit ?_
  refine lstep (wpO_plain rfl (op_box hs none none (cs := (Wl a)) rfl rfl rfl rfl rfl rfl fun g1 ac w hs => ?_))
  refine lstep (wpO_plain rfl (op_alloc hs none none (cs := [.int .u64 0, .int .u64 0, .int .u64 0, .int .u64 0]) rfl rfl Try.zeroValue25 (by kernel_rfl) rfl rfl fun g2 ac w hs => ?_))
  refine wpList_nil ?_
  refine then_n ?_
  refine wp_seq ?_
  refine wp_region_lit ?_
  refine lstep (wpO_plain rfl (op_move hs none rfl rfl rfl rfl fun ac hs => ?_))
  refine lstep (wpO_plain rfl (op_blt hs none (v := .int .i64 (max n 0)) rfl rfl rfl blt_maxI rfl fun ac hs => ?_))
  refine lstep (wpO_plain rfl (op_blt hs none (v := .int .i64 (min (max n 0) 256)) rfl rfl rfl blt_minI rfl fun ac hs => ?_))
  refine lstep (wpO_plain rfl (op_assign hs none rfl rfl rfl rfl fun ac hs => ?_))
  refine wpList_nil ?_
  replace hs := hs.re (fs' := [(0, true, W a), (1, true, .int .i64 ((nn : Nat) : Int)), (2, true, .pointer (some ⟨g1, 0, none⟩)), (4, true, .pointer (some ⟨g2, 0, none⟩)), (9, true, .int .i64 n), (10, true, .int .i64 (max n 0)), (11, true, .int .i64 (min (max n 0) 256))]) ⟨rfl, congrArg some (shn hn), rfl, rfl, rfl, rfl, rfl, trivial⟩
  refine then_n ?_
  refine wp_seq ?_
  refine wp_region_lit ?_
  refine lstep (wpO_plain rfl (op_alloc hs none none (cs := [.int .u64 0, .int .u64 0, .int .u64 0, .int .u64 0]) rfl rfl Try.zeroValue25 (by kernel_rfl) rfl rfl fun g3 ac w hs => ?_))
  refine wpList_nil ?_
  refine then_n ?_
  refine wp_seq ?_
  refine wp_region_lit ?_
  refine lstep (wpO_plain rfl (op_move hs none rfl rfl rfl rfl fun ac hs => ?_))
  refine lstep (wpO_plain rfl (op_bin hs none (v := .int .i64 ((nn / 64 : Nat) : Int)) rfl rfl rfl rfl (fun _ => rfl) (bin_quoN (x := nn) (y := 64) (z := nn / 64) rfl (by decide) (show nn < 9223372036854775808 by omega)) rfl fun ac hs => ?_))
  refine lstep (wpO_plain rfl (op_move hs none rfl rfl rfl rfl fun ac hs => ?_))
  refine lstep (wpO_plain rfl (op_bin hs none (v := .int .i64 ((nn % 64 : Nat) : Int)) rfl rfl rfl rfl (fun _ => rfl) (bin_remN (x := nn) (y := 64) (z := nn % 64) rfl (by decide)) rfl fun ac hs => ?_))
  refine lstep (wpO_plain rfl (op_assign hs none rfl rfl rfl rfl fun ac hs => ?_))
  refine lstep (wpO_plain rfl (op_assign hs none rfl rfl rfl rfl fun ac hs => ?_))
  refine wpList_nil ?_
  refine then_n ?_
  refine wp_seq ?_
  refine wp_seq ?_
  refine wp_region_lit ?_
  refine lstep (wpO_plain rfl (op_move hs none rfl rfl rfl rfl fun ac hs => ?_))
  refine lstep (wpO_plain rfl (op_assign hs none rfl rfl rfl rfl fun ac hs => ?_))
  refine wpList_nil ?_
  refine then_n ?_
  refine wp_block ?_
  refine wp_loop_m (fun μ ac w => ∃ (i : Nat) (f : Nat → Nat), (4 - i) = μ ∧ (nn / 64 ≤ i) ∧ (i ≤ 4) ∧ (∀ j, j < 4 → f j = slf a nn i j) ∧ St 52 w0 [(2, true, .pointer (some ⟨g1, 0, none⟩)), (4, true, .pointer (some ⟨g2, 0, none⟩)), (5, true, .pointer (some ⟨g3, 0, none⟩)), (6, true, .int .i64 ((nn / 64 : Nat) : Int)), (7, true, .int .i64 ((nn % 64 : Nat) : Int)), (8, true, .int .i64 ((i : Nat) : Int))] [(true, g1, 25, (Wl a)), (true, g2, 25, [.int .u64 0, .int .u64 0, .int .u64 0, .int .u64 0]), (true, g3, 25, (tab .u64 4 f))] ac w) ?_ ?_
  · exact ⟨_, (nn / 64), (fun _ => 0), rfl, (Nat.le_refl _), (by omega), shl_start, (hs.re ⟨rfl, rfl, rfl, rfl, rfl, rfl, trivial⟩)⟩
  intro μ ac w ⟨i, f, hμ, hby, hi, hf, hs⟩
  refine wp_seq ?_
  refine wp_seq ?_
  refine wp_region_lit ?_
  refine lstep (wpO_plain rfl (op_move hs none rfl rfl rfl rfl fun ac hs => ?_))
  refine lstep (wpO_plain rfl (op_bin hs none (v := .bool (decide (i < 4))) rfl rfl rfl rfl (fun _ => rfl) (bin_lssN (x := i) (y := 4)) rfl fun ac hs => ?_))
  refine wpList_nil ?_
  refine then_n ?_
  refine wp_cond_split (hs.ev rfl) (fun hc => ?_) (fun hc => ?_)
  · skip
    have hp4 := of_decide_eq_true hc
    refine wp_skip ?_
    refine then_n ?_
    refine wp_seq ?_
    refine wp_block ?_
    refine wp_seq ?_
    refine wp_region_lit ?_
    refine lstep (wpO_plain rfl (op_move hs none rfl rfl rfl rfl fun ac hs => ?_))
    refine lstep (wpO_plain rfl (op_move hs none rfl rfl rfl rfl fun ac hs => ?_))
    refine lstep (wpO_plain rfl (op_move hs none rfl rfl rfl rfl fun ac hs => ?_))
    refine lstep (wpO_plain rfl (op_bin hs none (v := .int .i64 ((i - (nn / 64) : Nat) : Int)) rfl rfl rfl rfl (fun _ => rfl) (bin_subN (x := i) (y := nn / 64) (z := i - (nn / 64)) (by omega) (show i - (nn / 64) < 9223372036854775808 by omega)) rfl fun ac hs => ?_))
    refine lstep (wpO_plain rfl (op_idxA hs none (j := i - (nn / 64)) rfl rfl rfl rfl Try.underlying25 Try.sizeOf23 (show i - (nn / 64) < 4 by omega) (off := i - (nn / 64)) (by omega) rfl fun ac hs => ?_))
    have l5 := limN_lt a (i - (nn / 64))
    refine lstep (wpO_plain rfl (op_load hs none 0 (v := .int .u64 ((limN a (i - (nn / 64)) : Nat) : Int)) rfl rfl rfl rfl Try.isAgg23 Try.sizeOf23 (Wl_get (j := i - (nn / 64)) (show i - (nn / 64) < 4 by omega)) rfl fun ac hs => ?_))
    refine lstep (wpO_plain rfl (op_move hs none rfl rfl rfl rfl fun ac hs => ?_))
    refine lstep (wpO_plain rfl (op_bin hs none (v := .int .u64 (((limN a (i - (nn / 64))) * 2 ^ (nn % 64) % 18446744073709551616 : Nat) : Int)) rfl rfl rfl rfl (fun _ => rfl) (bin_shlM (x := limN a (i - (nn / 64))) (y := nn % 64) (z := (limN a (i - (nn / 64))) * 2 ^ (nn % 64) % 18446744073709551616) rfl rfl) rfl fun ac hs => ?_))
    refine lstep (wpO_plain rfl (op_idxA hs none (j := i) rfl rfl rfl rfl Try.underlying25 Try.sizeOf23 (show i < 4 by omega) (off := i) (by omega) rfl fun ac hs => ?_))
    refine lstep (wpO_plain rfl (op_store hs 2 (vs := [.int .u64 (((limN a (i - (nn / 64))) * 2 ^ (nn % 64) % 18446744073709551616 : Nat) : Int)]) rfl rfl rfl rfl rfl Try.sizeOf23 rfl rfl rfl (tab_le (j := i) (show i < 4 by omega)) (tab_set) fun w hs => ?_))
    refine wpList_nil ?_
    refine then_n ?_
    refine wp_seq ?_
    by_cases hq6 : nn / 64 < i
    · skip
      refine wp_region_lit ?_
      refine lstep (wpO_plain rfl (op_move hs none rfl rfl rfl rfl fun ac hs => ?_))
      refine lstep (wpO_plain rfl (op_move hs none rfl rfl rfl rfl fun ac hs => ?_))
      refine lstep (wpO_plain rfl (op_bin hs none (v := .bool true) rfl rfl rfl rfl (fun _ => rfl) (fun w => dT hq6 (bin_gtrN (x := i) (y := nn / 64) w)) rfl fun ac hs => ?_))
      refine lstep (wpO_plain rfl (op_move hs none rfl rfl rfl rfl fun ac hs => ?_))
      refine lstep (wpO_in hs rfl rfl rfl (op_move hs none rfl rfl rfl rfl fun ac hs => ?_))
      refine lstep (wpO_in hs rfl rfl rfl (op_bin hs none (v := .bool (decide (0 < nn % 64))) rfl rfl rfl rfl (fun _ => rfl) (bin_gtrN (x := nn % 64) (y := 0)) rfl fun ac hs => ?_))
      refine lstep (wpO_plain rfl (op_pickT hs none rfl rfl rfl rfl rfl fun ac hs => ?_))
      refine wpList_nil ?_
      refine then_n ?_
      refine wp_cond_split (hs.ev rfl) (fun hc => ?_) (fun hc => ?_)
      · skip
        have hp7 := of_decide_eq_true hc
        replace hs : St 52 w0 [(2, true, .pointer (some ⟨g1, 0, none⟩)), (4, true, .pointer (some ⟨g2, 0, none⟩)), (5, true, .pointer (some ⟨g3, 0, none⟩)), (6, true, .int .i64 ((nn / 64 : Nat) : Int)), (7, true, .int .i64 ((nn % 64 : Nat) : Int)), (8, true, .int .i64 ((i : Nat) : Int))] [(true, g1, 25, (Wl a)), (true, g2, 25, [.int .u64 0, .int .u64 0, .int .u64 0, .int .u64 0]), (true, g3, 25, (tab .u64 4 (upn f i ((limN a (i - (nn / 64))) * 2 ^ (nn % 64) % 18446744073709551616))))] ac w := hs.re ⟨rfl, rfl, rfl, rfl, rfl, rfl, trivial⟩
        have l8 := limN_lt a (i - (nn / 64) - 1)
        refine region_inv [([], [1, 2, 12, 13, 14]), ([0], [2, 12, 13, 14]), ([0, 1], [12, 13, 14]), ([], [5, 6, 7, 8, 11, 12, 13, 14]), ([], [5, 6, 7, 8, 11, 12, 13, 14]), ([3, 4], [6, 7, 8, 11, 12, 13, 14]), ([3, 4, 5], [7, 8, 11, 12, 13, 14]), ([3, 4, 5, 6], [8, 11, 12, 13, 14]), ([3, 4, 5, 6, 7], [11, 12, 13, 14]), ([], [10, 11, 12, 13, 14]), ([9], [11, 12, 13, 14]), ([3, 4, 5, 6, 7, 8, 9, 10], [12, 13, 14]), ([0, 1, 2, 3, 4, 5, 6, 7, 8, 9, 10, 11], [13, 14]), ([0, 1, 2, 3, 4, 5, 6, 7, 8, 9, 10, 11, 12], [14]), ([0, 1, 2, 3, 4, 5, 6, 7, 8, 9, 10, 11, 12, 13], [])] (fun L ac w => St 52 w0 [(37, L 0, .int .i64 ((i : Nat) : Int)), (38, L 1, .pointer (some ⟨g3, i, none⟩)), (39, L 2, .int .u64 (((upn f i ((limN a (i - (nn / 64))) * 2 ^ (nn % 64) % 18446744073709551616)) i : Nat) : Int)), (40, L 3, .int .i64 ((i : Nat) : Int)), (41, L 4, .int .i64 ((nn / 64 : Nat) : Int)), (42, L 5, .int .i64 ((i - (nn / 64) : Nat) : Int)), (43, L 6, .int .i64 ((i - (nn / 64) - 1 : Nat) : Int)), (44, L 7, .pointer (some ⟨g1, i - (nn / 64) - 1, none⟩)), (45, L 8, .int .u64 ((limN a (i - (nn / 64) - 1) : Nat) : Int)), (46, L 9, .int .i64 ((nn % 64 : Nat) : Int)), (47, L 10, .int .i64 ((64 - (nn % 64) : Nat) : Int)), (48, L 11, .int .u64 (((limN a (i - (nn / 64) - 1)) / 2 ^ (64 - (nn % 64)) : Nat) : Int)), (49, L 12, .int .u64 ((((upn f i ((limN a (i - (nn / 64))) * 2 ^ (nn % 64) % 18446744073709551616)) i) ||| ((limN a (i - (nn / 64) - 1)) / 2 ^ (64 - (nn % 64))) : Nat) : Int)), (50, L 13, .pointer (some ⟨g3, i, none⟩)), (2, true, .pointer (some ⟨g1, 0, none⟩)), (4, true, .pointer (some ⟨g2, 0, none⟩)), (5, true, .pointer (some ⟨g3, 0, none⟩)), (6, true, .int .i64 ((nn / 64 : Nat) : Int)), (7, true, .int .i64 ((nn % 64 : Nat) : Int)), (8, true, .int .i64 ((i : Nat) : Int))] [(true, g1, 25, (Wl a)), (true, g2, 25, [.int .u64 0, .int .u64 0, .int .u64 0, .int .u64 0]), (true, g3, 25, (cond (L 14) (tab .u64 4 (upn (upn f i ((limN a (i - (nn / 64))) * 2 ^ (nn % 64) % 18446744073709551616)) i (((upn f i ((limN a (i - (nn / 64))) * 2 ^ (nn % 64) % 18446744073709551616)) i) ||| ((limN a (i - (nn / 64) - 1)) / 2 ^ (64 - (nn % 64)))))) (tab .u64 4 (upn f i ((limN a (i - (nn / 64))) * 2 ^ (nn % 64) % 18446744073709551616)))))] ac w) (by kernel_rfl) (by kernel_rfl) ?_ ?_ ?_
        · exact hs.drew.skip.skip.skip.skip.skip.skip.skip.skip.skip.skip.skip.skip.skip.skip
        · refine ⟨?_, ?_, ?_, ?_, ?_, ?_, ?_, ?_, ?_, ?_, ?_, ?_, ?_, ?_, ?_, trivial⟩
          · intro L ac w hJ
            have hs := hJ
            refine wpO_plain rfl (op_move hs (some 0) rfl rfl rfl rfl fun ac hs => ?_)
            exact hs
          · intro L ac w hJ
            have hs := hJ
            refine wpO_plain rfl (op_idxA hs (some 1) (j := i) rfl rfl rfl rfl Try.underlying25 Try.sizeOf23 (show i < 4 by omega) (off := i) (by omega) rfl fun ac hs => ?_)
            exact hs
          · intro L ac w hJ
            have hs := hJ
            refine wpO_plain rfl (op_load hs (some 2) 2 (v := .int .u64 (((upn f i ((limN a (i - (nn / 64))) * 2 ^ (nn % 64) % 18446744073709551616)) i : Nat) : Int)) rfl rfl rfl rfl Try.isAgg23 Try.sizeOf23 (tab_get (j := i) (show i < 4 by omega)) rfl fun ac hs => ?_)
            exact hs
          · intro L ac w hJ
            have hs := hJ
            refine wpO_plain rfl (op_move hs (some 3) rfl rfl rfl rfl fun ac hs => ?_)
            exact hs
          · intro L ac w hJ
            have hs := hJ
            refine wpO_plain rfl (op_move hs (some 4) rfl rfl rfl rfl fun ac hs => ?_)
            exact hs
          · intro L ac w hJ
            have hs := hJ
            refine wpO_plain rfl (op_bin hs (some 5) (v := .int .i64 ((i - (nn / 64) : Nat) : Int)) rfl rfl rfl rfl (fun _ => rfl) (bin_subN (x := i) (y := nn / 64) (z := i - (nn / 64)) (by omega) (show i - (nn / 64) < 9223372036854775808 by omega)) rfl fun ac hs => ?_)
            exact hs
          · intro L ac w hJ
            have hs := hJ
            refine wpO_plain rfl (op_bin hs (some 6) (v := .int .i64 ((i - (nn / 64) - 1 : Nat) : Int)) rfl rfl rfl rfl (fun _ => rfl) (bin_subN (x := i - (nn / 64)) (y := 1) (z := i - (nn / 64) - 1) (by omega) (show i - (nn / 64) - 1 < 9223372036854775808 by omega)) rfl fun ac hs => ?_)
            exact hs
          · intro L ac w hJ
            have hs := hJ
            refine wpO_plain rfl (op_idxA hs (some 7) (j := i - (nn / 64) - 1) rfl rfl rfl rfl Try.underlying25 Try.sizeOf23 (show i - (nn / 64) - 1 < 4 by omega) (off := i - (nn / 64) - 1) (by omega) rfl fun ac hs => ?_)
            exact hs
          · intro L ac w hJ
            have hs := hJ
            refine wpO_plain rfl (op_load hs (some 8) 0 (v := .int .u64 ((limN a (i - (nn / 64) - 1) : Nat) : Int)) rfl rfl rfl rfl Try.isAgg23 Try.sizeOf23 (Wl_get (j := i - (nn / 64) - 1) (show i - (nn / 64) - 1 < 4 by omega)) rfl fun ac hs => ?_)
            exact hs
          · intro L ac w hJ
            have hs := hJ
            refine wpO_plain rfl (op_move hs (some 9) rfl rfl rfl rfl fun ac hs => ?_)
            exact hs
          · intro L ac w hJ
            have hs := hJ
            refine wpO_plain rfl (op_bin hs (some 10) (v := .int .i64 ((64 - (nn % 64) : Nat) : Int)) rfl rfl rfl rfl (fun _ => rfl) (bin_subN (x := 64) (y := nn % 64) (z := 64 - (nn % 64)) (by omega) (show 64 - (nn % 64) < 9223372036854775808 by omega)) rfl fun ac hs => ?_)
            exact hs
          · intro L ac w hJ
            have hs := hJ
            refine wpO_plain rfl (op_bin hs (some 11) (v := .int .u64 (((limN a (i - (nn / 64) - 1)) / 2 ^ (64 - (nn % 64)) : Nat) : Int)) rfl rfl rfl rfl (fun _ => rfl) (bin_shrN (x := limN a (i - (nn / 64) - 1)) (y := 64 - (nn % 64)) (z := (limN a (i - (nn / 64) - 1)) / 2 ^ (64 - (nn % 64))) rfl (limN_lt _ _)) rfl fun ac hs => ?_)
            exact hs
          · intro L ac w hJ
            have hs := hJ
            refine wpO_plain rfl (op_bin hs (some 12) (v := .int .u64 ((((upn f i ((limN a (i - (nn / 64))) * 2 ^ (nn % 64) % 18446744073709551616)) i) ||| ((limN a (i - (nn / 64) - 1)) / 2 ^ (64 - (nn % 64))) : Nat) : Int)) rfl rfl rfl rfl (fun _ => rfl) (bin_orN (x := (upn f i ((limN a (i - (nn / 64))) * 2 ^ (nn % 64) % 18446744073709551616)) i) (y := (limN a (i - (nn / 64) - 1)) / 2 ^ (64 - (nn % 64))) (z := ((upn f i ((limN a (i - (nn / 64))) * 2 ^ (nn % 64) % 18446744073709551616)) i) ||| ((limN a (i - (nn / 64) - 1)) / 2 ^ (64 - (nn % 64)))) rfl (by rw [upn_at]; exact Nat.mod_lt _ (by decide)) (shr_lt (limN_lt _ _)) (or_lt64 (by rw [upn_at]; exact Nat.mod_lt _ (by decide)) (shr_lt (limN_lt _ _)))) rfl fun ac hs => ?_)
            exact hs
          · intro L ac w hJ
            have hs := hJ
            refine wpO_plain rfl (op_idxA hs (some 13) (j := i) rfl rfl rfl rfl Try.underlying25 Try.sizeOf23 (show i < 4 by omega) (off := i) (by omega) rfl fun ac hs => ?_)
            exact hs
          · intro L ac w hJ
            have hs := hJ
            refine wpO_plain rfl (op_store hs 2 (vs := [.int .u64 ((((upn f i ((limN a (i - (nn / 64))) * 2 ^ (nn % 64) % 18446744073709551616)) i) ||| ((limN a (i - (nn / 64) - 1)) / 2 ^ (64 - (nn % 64))) : Nat) : Int)]) rfl rfl rfl rfl rfl Try.sizeOf23 rfl rfl rfl (tab_le (j := i) (show i < 4 by omega)) (tab_set) fun w hs => ?_)
            exact hs
        intro ac w hJ
        replace hs : St 52 w0 [(37, true, .int .i64 ((i : Nat) : Int)), (38, true, .pointer (some ⟨g3, i, none⟩)), (39, true, .int .u64 (((upn f i ((limN a (i - (nn / 64))) * 2 ^ (nn % 64) % 18446744073709551616)) i : Nat) : Int)), (40, true, .int .i64 ((i : Nat) : Int)), (41, true, .int .i64 ((nn / 64 : Nat) : Int)), (42, true, .int .i64 ((i - (nn / 64) : Nat) : Int)), (43, true, .int .i64 ((i - (nn / 64) - 1 : Nat) : Int)), (44, true, .pointer (some ⟨g1, i - (nn / 64) - 1, none⟩)), (45, true, .int .u64 ((limN a (i - (nn / 64) - 1) : Nat) : Int)), (46, true, .int .i64 ((nn % 64 : Nat) : Int)), (47, true, .int .i64 ((64 - (nn % 64) : Nat) : Int)), (48, true, .int .u64 (((limN a (i - (nn / 64) - 1)) / 2 ^ (64 - (nn % 64)) : Nat) : Int)), (49, true, .int .u64 ((((upn f i ((limN a (i - (nn / 64))) * 2 ^ (nn % 64) % 18446744073709551616)) i) ||| ((limN a (i - (nn / 64) - 1)) / 2 ^ (64 - (nn % 64))) : Nat) : Int)), (50, true, .pointer (some ⟨g3, i, none⟩)), (2, true, .pointer (some ⟨g1, 0, none⟩)), (4, true, .pointer (some ⟨g2, 0, none⟩)), (5, true, .pointer (some ⟨g3, 0, none⟩)), (6, true, .int .i64 ((nn / 64 : Nat) : Int)), (7, true, .int .i64 ((nn % 64 : Nat) : Int)), (8, true, .int .i64 ((i : Nat) : Int))] [(true, g1, 25, (Wl a)), (true, g2, 25, [.int .u64 0, .int .u64 0, .int .u64 0, .int .u64 0]), (true, g3, 25, (tab .u64 4 (upn (upn f i ((limN a (i - (nn / 64))) * 2 ^ (nn % 64) % 18446744073709551616)) i (((upn f i ((limN a (i - (nn / 64))) * 2 ^ (nn % 64) % 18446744073709551616)) i) ||| ((limN a (i - (nn / 64) - 1)) / 2 ^ (64 - (nn % 64)))))))] ac w := hJ
        refine blk_n ?_
        refine then_n ?_
        refine wp_region_lit ?_
        refine lstep (wpO_plain rfl (op_move hs none rfl rfl rfl rfl fun ac hs => ?_))
        refine lstep (wpO_plain rfl (op_bin hs none (v := .int .i64 ((i + 1 : Nat) : Int)) rfl rfl rfl rfl (fun _ => rfl) (bin_addN (x := i) (y := 1) (z := i + 1) rfl (show i + 1 < 9223372036854775808 by omega)) rfl fun ac hs => ?_))
        refine lstep (wpO_plain rfl (op_assign hs none rfl rfl rfl rfl fun ac hs => ?_))
        refine wpList_nil ?_
        refine then_n ?_
        exact ⟨_, ⟨(i + 1), (upn (upn f i ((limN a (i - (nn / 64))) * 2 ^ (nn % 64) % 18446744073709551616)) i (((upn f i ((limN a (i - (nn / 64))) * 2 ^ (nn % 64) % 18446744073709551616)) i) ||| ((limN a (i - (nn / 64) - 1)) / 2 ^ (64 - (nn % 64))))), rfl, (by omega), (by omega), (shl_stepB hq6 hf), (hs.re ⟨rfl, rfl, rfl, rfl, rfl, rfl, trivial⟩)⟩, (by omega)⟩
      · skip
        have hp9 := of_decide_eq_false hc
        refine wp_skip ?_
        refine blk_n ?_
        refine then_n ?_
        refine wp_region_lit ?_
        refine lstep (wpO_plain rfl (op_move hs none rfl rfl rfl rfl fun ac hs => ?_))
        refine lstep (wpO_plain rfl (op_bin hs none (v := .int .i64 ((i + 1 : Nat) : Int)) rfl rfl rfl rfl (fun _ => rfl) (bin_addN (x := i) (y := 1) (z := i + 1) rfl (show i + 1 < 9223372036854775808 by omega)) rfl fun ac hs => ?_))
        refine lstep (wpO_plain rfl (op_assign hs none rfl rfl rfl rfl fun ac hs => ?_))
        refine wpList_nil ?_
        refine then_n ?_
        exact ⟨_, ⟨(i + 1), (upn f i ((limN a (i - (nn / 64))) * 2 ^ (nn % 64) % 18446744073709551616)), rfl, (by omega), (by omega), (shl_stepA hby (by omega) hf), (hs.re ⟨rfl, rfl, rfl, rfl, rfl, rfl, trivial⟩)⟩, (by omega)⟩
    · skip
      refine wp_region_lit ?_
      refine lstep (wpO_plain rfl (op_move hs none rfl rfl rfl rfl fun ac hs => ?_))
      refine lstep (wpO_plain rfl (op_move hs none rfl rfl rfl rfl fun ac hs => ?_))
      refine lstep (wpO_plain rfl (op_bin hs none (v := .bool false) rfl rfl rfl rfl (fun _ => rfl) (fun w => dF hq6 (bin_gtrN (x := i) (y := nn / 64) w)) rfl fun ac hs => ?_))
      refine lstep (wpO_plain rfl (op_move hs none rfl rfl rfl rfl fun ac hs => ?_))
      refine lstep (wpO_out hs none rfl rfl (.inl rfl) rfl rfl fun ac hs => ?_)
      refine lstep (wpO_out hs none rfl rfl (.inl rfl) rfl rfl fun ac hs => ?_)
      refine lstep (wpO_plain rfl (op_pickF hs none rfl rfl rfl rfl rfl fun ac hs => ?_))
      refine wpList_nil ?_
      refine then_n ?_
      refine wp_cond_false (hs.ev rfl) ?_
      refine wp_skip ?_
      refine blk_n ?_
      refine then_n ?_
      refine wp_region_lit ?_
      refine lstep (wpO_plain rfl (op_move hs none rfl rfl rfl rfl fun ac hs => ?_))
      refine lstep (wpO_plain rfl (op_bin hs none (v := .int .i64 ((i + 1 : Nat) : Int)) rfl rfl rfl rfl (fun _ => rfl) (bin_addN (x := i) (y := 1) (z := i + 1) rfl (show i + 1 < 9223372036854775808 by omega)) rfl fun ac hs => ?_))
      refine lstep (wpO_plain rfl (op_assign hs none rfl rfl rfl rfl fun ac hs => ?_))
      refine wpList_nil ?_
      refine then_n ?_
      exact ⟨_, ⟨(i + 1), (upn f i ((limN a (i - (nn / 64))) * 2 ^ (nn % 64) % 18446744073709551616)), rfl, (by omega), (by omega), (shl_stepA hby (by omega) hf), (hs.re ⟨rfl, rfl, rfl, rfl, rfl, rfl, trivial⟩)⟩, (by omega)⟩
  · skip
    have hp10 := of_decide_eq_false hc
    replace hs := hs.setb 2 (cs' := Wl x) rfl (by rw [tab_Wl (shl_fin (by omega) hf)]; exact (Wl_modx hx).symm)
    refine wp_exit ?_
    refine then_e ?_
    refine then_e ?_
    refine blk_e ?_
    refine then_n ?_
    refine wp_seq ?_
    refine wp_region_lit ?_
    refine lstep (wpO_plain rfl (op_load hs none 2 (v := W x) rfl rfl rfl rfl Try.isAgg25 Try.sizeOf25 rfl rfl fun ac hs => ?_))
    refine lstep (wpO_plain rfl (op_store hs 1 (vs := (Wl x)) rfl rfl rfl rfl rfl Try.sizeOf25 rfl rfl rfl rfl rfl fun w hs => ?_))
    refine wpList_nil ?_
    refine then_n ?_
    refine wp_ret ?_
    exact bodyPost_ret (res1 rfl (rv_c hs 1 (v := W x) rfl rfl Try.isAgg25 Try.sizeOf25 rfl)) hs.defers ⟨rfl, hs.below⟩
end Go.Proofs.Ytemacggbabiafaa
