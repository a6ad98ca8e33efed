/- Several texts in one: Field, EqP. -/
import Derived.Test.YtejbajgpiecjcaaG3

/- The contracts of field, of Shr and Rem. -/
namespace Go.Proofs.Ytejbajgpiecjcaa
open Go.RowKit
set_option maxRecDepth 10000
set_option maxHeartbeats 1000000

theorem Pov_lt : Pov < 2 ^ 256 := by decide
theorem mul64_c (x y h l : Nat) (hx : x < 18446744073709551616) (hy : y < 18446744073709551616) (hh : x * y / 18446744073709551616 = h) (hl : x * y % 18446744073709551616 = l) (w : World) :
    Calls Try.prog 69 #[.int .u64 ((x : Nat) : Int), .int .u64 ((y : Nat) : Int)] w fun e w' => e = .returned (.tuple #[.int .u64 ((h : Nat) : Int), .int .u64 ((l : Nat) : Int)]) ∧ Below w.heap.size w w' :=
  (mul64_any x y hx hy w).mono fun e w' ⟨h1, h2⟩ => ⟨by rw [h1, hh, hl], by rw [h2]; exact Below.refl _ _⟩
theorem top_lt {lo f c t : Nat} (hlo : lo < 2 ^ 256) (hf : f < 2 ^ 256) (hc : (lo + f) / 2 ^ 256 = c) (ht : t < 4294968273) : t + c < 2 ^ 64 := by omega
theorem Wl_mod {n x : Nat} (h : n % 2 ^ 256 = x) : Wl x = Wl n := by
  have := W_mod n
  rw [h] at this
  have h2 := congrArg Value.cells this
  exact Array.toList_inj.2 h2 |>.trans rfl
theorem frt_of {a r e : Nat} (h : a ^ e % Pf = r) (he : e = (Pf + 1) / 4) : frt a = r := by rw [← h, he]; rfl
theorem odd_of {r : Nat} (h : limN r 0 % 2 ≠ 0) : r % 2 = 1 := by rw [lim_odd] at h; omega
theorem even_of {r : Nat} (h : ¬ limN r 0 % 2 ≠ 0) : ¬ r % 2 = 1 := by rw [lim_odd] at h; omega
theorem rem2_step {X q' m q k b z : Nat} (h1 : 1 ≤ k) (_ : True) (hr : (q' * 2 ^ 256 + X) / 2 ^ k % m = q) (hb : X / 2 ^ (k - 1) % 2 = b) (hz : (2 * q + b) % m = z) (hk : k ≤ 256 := by omega) : (q' * 2 ^ 256 + X) / 2 ^ (k - 1) % m = z := by
  have e := half_lo (H := q') (L := X) (i := k - 1) (by omega)
  rw [Nat.mod_eq_of_lt (show k - 1 < 256 by omega), hb] at e
  rw [rem_bit h1 hr e, hz]
theorem rem2_start0 {u m r : Nat} (hu : u < 2 ^ 256) (hr : r = 0) : (0 * 2 ^ 256 + u) / 2 ^ 256 % m = r := by rw [Nat.zero_mul, Nat.zero_add, Nat.div_eq_of_lt hu, Nat.zero_mod, hr]
theorem rem2_end0 {u m r q : Nat} (_ : r = 0) (hr : (0 * 2 ^ 256 + u) / 2 ^ 0 % m = q) : q = u % m := by rw [← hr, Nat.zero_mul, Nat.zero_add, Nat.pow_zero, Nat.div_one]
theorem rem2_start1 {u v m r : Nat} (hv : v < 2 ^ 256) (hr : r = u % m) : (u * 2 ^ 256 + v) / 2 ^ 256 % m = r := by rw [Nat.add_comm, Nat.add_mul_div_right _ _ (Nat.two_pow_pos 256), Nat.div_eq_of_lt hv, Nat.zero_add, hr]
theorem rem2_end1 {u v m r q : Nat} (_ : v < 2 ^ 256) (_ : r = u % m) (hr : (u * 2 ^ 256 + v) / 2 ^ 0 % m = q) : q = (u * 2 ^ 256 + v) % m := by rw [← hr, Nat.pow_zero, Nat.div_one]

theorem shr_c (a : Nat) (n : Int) (nn x : Nat) (ha : a < 2 ^ 256) (hn : min (max n 0) 256 = (nn : Int)) (hx : a / 2 ^ nn = x) (w0 : World) : Calls Try.prog 57 #[W a, .int .i64 n] w0 fun e w' => e = .returned (W x) ∧ Below w0.heap.size w0 w' := by
  have hnn : nn ≤ 256 := by omega
  refine enter (n := 52) (args := [W a, .int .i64 n]) Try.func57 rfl rfl (Nat.le_of_ble_eq_true rfl) fun ac hs => ?_
  refine wp_seq ?_
  refine wp_region_lit ?_
  refine lstep (wpO_plain rfl (op_box hs none none (cs := (Wl a)) rfl rfl rfl rfl rfl rfl fun g1 ac w hs => ?_))
  refine lstep (wpO_plain rfl (op_alloc hs none none (cs := [.int .u64 0, .int .u64 0, .int .u64 0, .int .u64 0]) rfl rfl Try.zeroValue24 (by kernel_rfl) rfl rfl fun g2 ac w hs => ?_))
  refine wpList_nil ?_
  refine then_n ?_
  refine wp_seq ?_
  refine wp_region_lit ?_
  refine lstep (wpO_plain rfl (op_move hs none rfl rfl rfl rfl fun ac hs => ?_))
  refine lstep (wpO_plain rfl (op_blt hs none (v := .int .i64 (max n 0)) rfl rfl rfl blt_maxI rfl fun ac hs => ?_))
  refine lstep (wpO_plain rfl (op_blt hs none (v := .int .i64 (min (max n 0) 256)) rfl rfl rfl blt_minI rfl fun ac hs => ?_))
  refine lstep (wpO_plain rfl (op_assign hs none rfl rfl rfl rfl fun ac hs => ?_))
  refine wpList_nil ?_
  replace hs := hs.re (fs' := [(1, true, .int .i64 ((nn : Nat) : Int)), (2, true, .pointer (some ⟨g1, 0, none⟩)), (4, true, .pointer (some ⟨g2, 0, none⟩)), (9, true, .int .i64 n), (10, true, .int .i64 (max n 0)), (11, true, .int .i64 (min (max n 0) 256))]) ⟨congrArg some (shn hn), rfl, rfl, rfl, rfl, rfl, trivial⟩
  refine then_n ?_
  refine wp_seq ?_
  replace hs : St 52 w0 [(1, true, .int .i64 ((nn : Nat) : Int)), (2, true, .pointer (some ⟨g1, 0, none⟩)), (4, true, .pointer (some ⟨g2, 0, none⟩))] [(true, g1, 24, (Wl a)), (true, g2, 24, [.int .u64 0, .int .u64 0, .int .u64 0, .int .u64 0])] ac _ := hs.re ⟨rfl, rfl, rfl, trivial⟩
  refine wp_region_lit ?_
  refine lstep (wpO_plain rfl (op_alloc hs none none (cs := [.int .u64 0, .int .u64 0, .int .u64 0, .int .u64 0]) rfl rfl Try.zeroValue24 (by kernel_rfl) rfl rfl fun g3 ac w hs => ?_))
  refine wpList_nil ?_
  refine then_n ?_
  refine wp_seq ?_
  refine wp_region_lit ?_
  refine lstep (wpO_plain rfl (op_move hs none rfl rfl rfl rfl fun ac hs => ?_))
  refine lstep (wpO_plain rfl (op_bin hs none (v := .int .i64 ((nn / 64 : Nat) : Int)) rfl rfl rfl rfl (fun _ => rfl) (bin_quoN (x := nn) (y := 64) (z := nn / 64) rfl (by decide) (show nn < 9223372036854775808 by omega)) rfl fun ac hs => ?_))
  refine lstep (wpO_plain rfl (op_move hs none rfl rfl rfl rfl fun ac hs => ?_))
  refine lstep (wpO_plain rfl (op_bin hs none (v := .int .i64 ((nn % 64 : Nat) : Int)) rfl rfl rfl rfl (fun _ => rfl) (bin_remN (x := nn) (y := 64) (z := nn % 64) rfl (by decide)) rfl fun ac hs => ?_))
  refine lstep (wpO_plain rfl (op_assign hs none rfl rfl rfl rfl fun ac hs => ?_))
  refine lstep (wpO_plain rfl (op_assign hs none rfl rfl rfl rfl fun ac hs => ?_))
  refine wpList_nil ?_
  refine then_n ?_
  refine wp_seq ?_
  refine wp_seq ?_
  replace hs : St 52 w0 [(2, true, .pointer (some ⟨g1, 0, none⟩)), (4, true, .pointer (some ⟨g2, 0, none⟩)), (5, true, .pointer (some ⟨g3, 0, none⟩)), (6, true, .int .i64 ((nn / 64 : Nat) : Int)), (7, true, .int .i64 ((nn % 64 : Nat) : Int))] [(true, g1, 24, (Wl a)), (true, g2, 24, [.int .u64 0, .int .u64 0, .int .u64 0, .int .u64 0]), (true, g3, 24, [.int .u64 0, .int .u64 0, .int .u64 0, .int .u64 0])] ac _ := hs.re ⟨rfl, rfl, rfl, rfl, rfl, trivial⟩
  refine wp_region_lit ?_
  refine lstep (wpO_plain rfl (op_move hs none rfl rfl rfl rfl fun ac hs => ?_))
  refine lstep (wpO_plain rfl (op_assign hs none rfl rfl rfl rfl fun ac hs => ?_))
  refine wpList_nil ?_
  refine then_n ?_
  refine wp_block ?_
  refine wp_loop_m (fun μ ac w => ∃ (i : Nat) (f : Nat → Nat), (4 - i) = μ ∧ (nn / 64 ≤ i) ∧ (i ≤ 4) ∧ (∀ j, j < 4 → f j = shf a nn i j) ∧ St 52 w0 [(2, true, .pointer (some ⟨g1, 0, none⟩)), (4, true, .pointer (some ⟨g2, 0, none⟩)), (5, true, .pointer (some ⟨g3, 0, none⟩)), (6, true, .int .i64 ((nn / 64 : Nat) : Int)), (7, true, .int .i64 ((nn % 64 : Nat) : Int)), (8, true, .int .i64 ((i : Nat) : Int))] [(true, g1, 24, (Wl a)), (true, g2, 24, [.int .u64 0, .int .u64 0, .int .u64 0, .int .u64 0]), (true, g3, 24, (tab .u64 4 f))] ac w) ?_ ?_
  · exact ⟨_, (nn / 64), (fun _ => 0), rfl, (Nat.le_refl _), (by omega), shr_start, (hs.re ⟨rfl, rfl, rfl, rfl, rfl, rfl, trivial⟩)⟩
  intro μ ac w ⟨i, f, hμ, hby, hi, hf, hs⟩
  refine wp_seq ?_
  refine wp_seq ?_
  refine wp_region_lit ?_
  refine lstep (wpO_plain rfl (op_move hs none rfl rfl rfl rfl fun ac hs => ?_))
  refine lstep (wpO_plain rfl (op_bin hs none (v := .bool (decide (i < 4))) rfl rfl rfl rfl (fun _ => rfl) (bin_lssN (x := i) (y := 4)) rfl fun ac hs => ?_))
  refine wpList_nil ?_
  refine then_n ?_
  refine wp_cond_split (hs.ev rfl) (fun hc => ?_) (fun hc => ?_)
  · skip
    have hp4 := of_decide_eq_true hc
    refine wp_skip ?_
    refine then_n ?_
    refine wp_seq ?_
    refine wp_block ?_
    refine wp_seq ?_
    refine wp_region_lit ?_
    refine lstep (wpO_plain rfl (op_move hs none rfl rfl rfl rfl fun ac hs => ?_))
    refine lstep (wpO_plain rfl (op_move hs none rfl rfl rfl rfl fun ac hs => ?_))
    refine lstep (wpO_plain rfl (op_bin hs none (v := .int .i64 ((i - (nn / 64) : Nat) : Int)) rfl rfl rfl rfl (fun _ => rfl) (bin_subN (x := i) (y := nn / 64) (z := i - (nn / 64)) (by omega) (show i - (nn / 64) < 9223372036854775808 by omega)) rfl fun ac hs => ?_))
    refine lstep (wpO_plain rfl (op_move hs none rfl rfl rfl rfl fun ac hs => ?_))
    refine lstep (wpO_plain rfl (op_idxA hs none (j := i) rfl rfl rfl rfl Try.underlying24 Try.sizeOf22 (show i < 4 by omega) (off := i) (by omega) rfl fun ac hs => ?_))
    have l5 := limN_lt a i
    refine lstep (wpO_plain rfl (op_load hs none 0 (v := .int .u64 ((limN a i : Nat) : Int)) rfl rfl rfl rfl Try.isAgg22 Try.sizeOf22 (Wl_get (j := i) (show i < 4 by omega)) rfl fun ac hs => ?_))
    refine lstep (wpO_plain rfl (op_move hs none rfl rfl rfl rfl fun ac hs => ?_))
    refine lstep (wpO_plain rfl (op_bin hs none (v := .int .u64 (((limN a i) / 2 ^ (nn % 64) : Nat) : Int)) rfl rfl rfl rfl (fun _ => rfl) (bin_shrN (x := limN a i) (y := nn % 64) (z := (limN a i) / 2 ^ (nn % 64)) rfl (show limN a i < 2 ^ 64 by omega)) rfl fun ac hs => ?_))
    refine lstep (wpO_plain rfl (op_idxA hs none (j := i - (nn / 64)) rfl rfl rfl rfl Try.underlying24 Try.sizeOf22 (show i - (nn / 64) < 4 by omega) (off := i - (nn / 64)) (by omega) rfl fun ac hs => ?_))
    refine lstep (wpO_plain rfl (op_store hs 2 (vs := [.int .u64 (((limN a i) / 2 ^ (nn % 64) : Nat) : Int)]) rfl rfl rfl rfl rfl Try.sizeOf22 rfl rfl rfl (tab_le (j := i - (nn / 64)) (show i - (nn / 64) < 4 by omega)) (tab_set) fun w hs => ?_))
    refine wpList_nil ?_
    refine then_n ?_
    refine wp_seq ?_
    by_cases hq6 : i + 1 < 4
    · skip
      replace hs : St 52 w0 [(2, true, .pointer (some ⟨g1, 0, none⟩)), (4, true, .pointer (some ⟨g2, 0, none⟩)), (5, true, .pointer (some ⟨g3, 0, none⟩)), (6, true, .int .i64 ((nn / 64 : Nat) : Int)), (7, true, .int .i64 ((nn % 64 : Nat) : Int)), (8, true, .int .i64 ((i : Nat) : Int))] [(true, g1, 24, (Wl a)), (true, g2, 24, [.int .u64 0, .int .u64 0, .int .u64 0, .int .u64 0]), (true, g3, 24, (tab .u64 4 (upn f (i - (nn / 64)) ((limN a i) / 2 ^ (nn % 64)))))] ac _ := hs.re ⟨rfl, rfl, rfl, rfl, rfl, rfl, trivial⟩
      refine wp_region_lit ?_
      refine lstep (wpO_plain rfl (op_move hs none rfl rfl rfl rfl fun ac hs => ?_))
      refine lstep (wpO_plain rfl (op_bin hs none (v := .int .i64 ((i + 1 : Nat) : Int)) rfl rfl rfl rfl (fun _ => rfl) (bin_addN (x := i) (y := 1) (z := i + 1) rfl (show i + 1 < 9223372036854775808 by omega)) rfl fun ac hs => ?_))
      refine lstep (wpO_plain rfl (op_bin hs none (v := .bool true) rfl rfl rfl rfl (fun _ => rfl) (fun w => dT hq6 (bin_lssN (x := i + 1) (y := 4) w)) rfl fun ac hs => ?_))
      refine lstep (wpO_plain rfl (op_move hs none rfl rfl rfl rfl fun ac hs => ?_))
      refine lstep (wpO_in hs rfl rfl rfl (op_move hs none rfl rfl rfl rfl fun ac hs => ?_))
      refine lstep (wpO_in hs rfl rfl rfl (op_bin hs none (v := .bool (decide (0 < nn % 64))) rfl rfl rfl rfl (fun _ => rfl) (bin_gtrN (x := nn % 64) (y := 0)) rfl fun ac hs => ?_))
      refine lstep (wpO_plain rfl (op_pickT hs none rfl rfl rfl rfl rfl fun ac hs => ?_))
      refine wpList_nil ?_
      refine then_n ?_
      refine wp_cond_split (hs.ev rfl) (fun hc => ?_) (fun hc => ?_)
      · skip
        have hp7 := of_decide_eq_true hc
        replace hs : St 52 w0 [(2, true, .pointer (some ⟨g1, 0, none⟩)), (4, true, .pointer (some ⟨g2, 0, none⟩)), (5, true, .pointer (some ⟨g3, 0, none⟩)), (6, true, .int .i64 ((nn / 64 : Nat) : Int)), (7, true, .int .i64 ((nn % 64 : Nat) : Int)), (8, true, .int .i64 ((i : Nat) : Int))] [(true, g1, 24, (Wl a)), (true, g2, 24, [.int .u64 0, .int .u64 0, .int .u64 0, .int .u64 0]), (true, g3, 24, (tab .u64 4 (upn f (i - (nn / 64)) ((limN a i) / 2 ^ (nn % 64)))))] ac _ := hs.re ⟨rfl, rfl, rfl, rfl, rfl, rfl, trivial⟩
        have l8 := limN_lt a (i + 1)
        refine region_inv [([], [2, 3, 4, 12, 13, 14]), ([], [2, 3, 4, 12, 13, 14]), ([0, 1], [3, 4, 12, 13, 14]), ([0, 1, 2], [4, 12, 13, 14]), ([0, 1, 2, 3], [12, 13, 14]), ([], [6, 7, 8, 11, 12, 13, 14]), ([5], [7, 8, 11, 12, 13, 14]), ([5, 6], [8, 11, 12, 13, 14]), ([5, 6, 7], [11, 12, 13, 14]), ([], [10, 11, 12, 13, 14]), ([9], [11, 12, 13, 14]), ([5, 6, 7, 8, 9, 10], [12, 13, 14]), ([0, 1, 2, 3, 4, 5, 6, 7, 8, 9, 10, 11], [13, 14]), ([0, 1, 2, 3, 4, 5, 6, 7, 8, 9, 10, 11, 12], [14]), ([0, 1, 2, 3, 4, 5, 6, 7, 8, 9, 10, 11, 12, 13], [])] (fun L ac w => St 52 w0 [(37, L 0, .int .i64 ((i : Nat) : Int)), (38, L 1, .int .i64 ((nn / 64 : Nat) : Int)), (39, L 2, .int .i64 ((i - (nn / 64) : Nat) : Int)), (40, L 3, .pointer (some ⟨g3, i - (nn / 64), none⟩)), (41, L 4, .int .u64 (((upn f (i - (nn / 64)) ((limN a i) / 2 ^ (nn % 64))) (i - (nn / 64)) : Nat) : Int)), (42, L 5, .int .i64 ((i : Nat) : Int)), (43, L 6, .int .i64 ((i + 1 : Nat) : Int)), (44, L 7, .pointer (some ⟨g1, i + 1, none⟩)), (45, L 8, .int .u64 ((limN a (i + 1) : Nat) : Int)), (46, L 9, .int .i64 ((nn % 64 : Nat) : Int)), (47, L 10, .int .i64 ((64 - (nn % 64) : Nat) : Int)), (48, L 11, .int .u64 (((limN a (i + 1)) * 2 ^ (64 - (nn % 64)) % 18446744073709551616 : Nat) : Int)), (49, L 12, .int .u64 ((((upn f (i - (nn / 64)) ((limN a i) / 2 ^ (nn % 64))) (i - (nn / 64))) ||| ((limN a (i + 1)) * 2 ^ (64 - (nn % 64)) % 18446744073709551616) : Nat) : Int)), (50, L 13, .pointer (some ⟨g3, i - (nn / 64), none⟩)), (2, true, .pointer (some ⟨g1, 0, none⟩)), (4, true, .pointer (some ⟨g2, 0, none⟩)), (5, true, .pointer (some ⟨g3, 0, none⟩)), (6, true, .int .i64 ((nn / 64 : Nat) : Int)), (7, true, .int .i64 ((nn % 64 : Nat) : Int)), (8, true, .int .i64 ((i : Nat) : Int))] [(true, g1, 24, (Wl a)), (true, g2, 24, [.int .u64 0, .int .u64 0, .int .u64 0, .int .u64 0]), (true, g3, 24, (cond (L 14) (tab .u64 4 (upn (upn f (i - (nn / 64)) ((limN a i) / 2 ^ (nn % 64))) (i - (nn / 64)) (((upn f (i - (nn / 64)) ((limN a i) / 2 ^ (nn % 64))) (i - (nn / 64))) ||| ((limN a (i + 1)) * 2 ^ (64 - (nn % 64)) % 18446744073709551616)))) (tab .u64 4 (upn f (i - (nn / 64)) ((limN a i) / 2 ^ (nn % 64))))))] ac w) (by kernel_rfl) (by kernel_rfl) ?_ ?_ ?_
        · exact hs.drew.skip.skip.skip.skip.skip.skip.skip.skip.skip.skip.skip.skip.skip.skip
        · refine ⟨?_, ?_, ?_, ?_, ?_, ?_, ?_, ?_, ?_, ?_, ?_, ?_, ?_, ?_, ?_, trivial⟩
          · intro L ac w hJ
            have hs := hJ
            refine wpO_plain rfl (op_move hs (some 0) rfl rfl rfl rfl fun ac hs => ?_)
            exact hs
          · intro L ac w hJ
            have hs := hJ
            refine wpO_plain rfl (op_move hs (some 1) rfl rfl rfl rfl fun ac hs => ?_)
            exact hs
          · intro L ac w hJ
            have hs := hJ
            refine wpO_plain rfl (op_bin hs (some 2) (v := .int .i64 ((i - (nn / 64) : Nat) : Int)) rfl rfl rfl rfl (fun _ => rfl) (bin_subN (x := i) (y := nn / 64) (z := i - (nn / 64)) (by omega) (show i - (nn / 64) < 9223372036854775808 by omega)) rfl fun ac hs => ?_)
            exact hs
          · intro L ac w hJ
            have hs := hJ
            refine wpO_plain rfl (op_idxA hs (some 3) (j := i - (nn / 64)) rfl rfl rfl rfl Try.underlying24 Try.sizeOf22 (show i - (nn / 64) < 4 by omega) (off := i - (nn / 64)) (by omega) rfl fun ac hs => ?_)
            exact hs
          · intro L ac w hJ
            have hs := hJ
            refine wpO_plain rfl (op_load hs (some 4) 2 (v := .int .u64 (((upn f (i - (nn / 64)) ((limN a i) / 2 ^ (nn % 64))) (i - (nn / 64)) : Nat) : Int)) rfl rfl rfl rfl Try.isAgg22 Try.sizeOf22 (tab_get (j := i - (nn / 64)) (show i - (nn / 64) < 4 by omega)) rfl fun ac hs => ?_)
            exact hs
          · intro L ac w hJ
            have hs := hJ
            refine wpO_plain rfl (op_move hs (some 5) rfl rfl rfl rfl fun ac hs => ?_)
            exact hs
          · intro L ac w hJ
            have hs := hJ
            refine wpO_plain rfl (op_bin hs (some 6) (v := .int .i64 ((i + 1 : Nat) : Int)) rfl rfl rfl rfl (fun _ => rfl) (bin_addN (x := i) (y := 1) (z := i + 1) rfl (show i + 1 < 9223372036854775808 by omega)) rfl fun ac hs => ?_)
            exact hs
          · intro L ac w hJ
            have hs := hJ
            refine wpO_plain rfl (op_idxA hs (some 7) (j := i + 1) rfl rfl rfl rfl Try.underlying24 Try.sizeOf22 (show i + 1 < 4 by omega) (off := i + 1) (by omega) rfl fun ac hs => ?_)
            exact hs
          · intro L ac w hJ
            have hs := hJ
            refine wpO_plain rfl (op_load hs (some 8) 0 (v := .int .u64 ((limN a (i + 1) : Nat) : Int)) rfl rfl rfl rfl Try.isAgg22 Try.sizeOf22 (Wl_get (j := i + 1) (show i + 1 < 4 by omega)) rfl fun ac hs => ?_)
            exact hs
          · intro L ac w hJ
            have hs := hJ
            refine wpO_plain rfl (op_move hs (some 9) rfl rfl rfl rfl fun ac hs => ?_)
            exact hs
          · intro L ac w hJ
            have hs := hJ
            refine wpO_plain rfl (op_bin hs (some 10) (v := .int .i64 ((64 - (nn % 64) : Nat) : Int)) rfl rfl rfl rfl (fun _ => rfl) (bin_subN (x := 64) (y := nn % 64) (z := 64 - (nn % 64)) (by omega) (show 64 - (nn % 64) < 9223372036854775808 by omega)) rfl fun ac hs => ?_)
            exact hs
          · intro L ac w hJ
            have hs := hJ
            refine wpO_plain rfl (op_bin hs (some 11) (v := .int .u64 (((limN a (i + 1)) * 2 ^ (64 - (nn % 64)) % 18446744073709551616 : Nat) : Int)) rfl rfl rfl rfl (fun _ => rfl) (bin_shlM (x := limN a (i + 1)) (y := 64 - (nn % 64)) (z := (limN a (i + 1)) * 2 ^ (64 - (nn % 64)) % 18446744073709551616) rfl rfl) rfl fun ac hs => ?_)
            exact hs
          · intro L ac w hJ
            have hs := hJ
            refine wpO_plain rfl (op_bin hs (some 12) (v := .int .u64 ((((upn f (i - (nn / 64)) ((limN a i) / 2 ^ (nn % 64))) (i - (nn / 64))) ||| ((limN a (i + 1)) * 2 ^ (64 - (nn % 64)) % 18446744073709551616) : Nat) : Int)) rfl rfl rfl rfl (fun _ => rfl) (bin_orN (x := (upn f (i - (nn / 64)) ((limN a i) / 2 ^ (nn % 64))) (i - (nn / 64))) (y := (limN a (i + 1)) * 2 ^ (64 - (nn % 64)) % 18446744073709551616) (z := ((upn f (i - (nn / 64)) ((limN a i) / 2 ^ (nn % 64))) (i - (nn / 64))) ||| ((limN a (i + 1)) * 2 ^ (64 - (nn % 64)) % 18446744073709551616)) rfl (by rw [upn_at]; exact shr_lt (limN_lt _ _)) (Nat.mod_lt _ (by decide)) (or_lt64 (by rw [upn_at]; exact shr_lt (limN_lt _ _)) (Nat.mod_lt _ (by decide)))) rfl fun ac hs => ?_)
            exact hs
          · intro L ac w hJ
            have hs := hJ
            refine wpO_plain rfl (op_idxA hs (some 13) (j := i - (nn / 64)) rfl rfl rfl rfl Try.underlying24 Try.sizeOf22 (show i - (nn / 64) < 4 by omega) (off := i - (nn / 64)) (by omega) rfl fun ac hs => ?_)
            exact hs
          · intro L ac w hJ
            have hs := hJ
            refine wpO_plain rfl (op_store hs 2 (vs := [.int .u64 ((((upn f (i - (nn / 64)) ((limN a i) / 2 ^ (nn % 64))) (i - (nn / 64))) ||| ((limN a (i + 1)) * 2 ^ (64 - (nn % 64)) % 18446744073709551616) : Nat) : Int)]) rfl rfl rfl rfl rfl Try.sizeOf22 rfl rfl rfl (tab_le (j := i - (nn / 64)) (show i - (nn / 64) < 4 by omega)) (tab_set) fun w hs => ?_)
            exact hs
        intro ac w hJ
        replace hs : St 52 w0 [(37, true, .int .i64 ((i : Nat) : Int)), (38, true, .int .i64 ((nn / 64 : Nat) : Int)), (39, true, .int .i64 ((i - (nn / 64) : Nat) : Int)), (40, true, .pointer (some ⟨g3, i - (nn / 64), none⟩)), (41, true, .int .u64 (((upn f (i - (nn / 64)) ((limN a i) / 2 ^ (nn % 64))) (i - (nn / 64)) : Nat) : Int)), (42, true, .int .i64 ((i : Nat) : Int)), (43, true, .int .i64 ((i + 1 : Nat) : Int)), (44, true, .pointer (some ⟨g1, i + 1, none⟩)), (45, true, .int .u64 ((limN a (i + 1) : Nat) : Int)), (46, true, .int .i64 ((nn % 64 : Nat) : Int)), (47, true, .int .i64 ((64 - (nn % 64) : Nat) : Int)), (48, true, .int .u64 (((limN a (i + 1)) * 2 ^ (64 - (nn % 64)) % 18446744073709551616 : Nat) : Int)), (49, true, .int .u64 ((((upn f (i - (nn / 64)) ((limN a i) / 2 ^ (nn % 64))) (i - (nn / 64))) ||| ((limN a (i + 1)) * 2 ^ (64 - (nn % 64)) % 18446744073709551616) : Nat) : Int)), (50, true, .pointer (some ⟨g3, i - (nn / 64), none⟩)), (2, true, .pointer (some ⟨g1, 0, none⟩)), (4, true, .pointer (some ⟨g2, 0, none⟩)), (5, true, .pointer (some ⟨g3, 0, none⟩)), (6, true, .int .i64 ((nn / 64 : Nat) : Int)), (7, true, .int .i64 ((nn % 64 : Nat) : Int)), (8, true, .int .i64 ((i : Nat) : Int))] [(true, g1, 24, (Wl a)), (true, g2, 24, [.int .u64 0, .int .u64 0, .int .u64 0, .int .u64 0]), (true, g3, 24, (tab .u64 4 (upn (upn f (i - (nn / 64)) ((limN a i) / 2 ^ (nn % 64))) (i - (nn / 64)) (((upn f (i - (nn / 64)) ((limN a i) / 2 ^ (nn % 64))) (i - (nn / 64))) ||| ((limN a (i + 1)) * 2 ^ (64 - (nn % 64)) % 18446744073709551616)))))] ac w := hJ
        refine blk_n ?_
        refine then_n ?_
        refine wp_region_lit ?_
        refine lstep (wpO_plain rfl (op_move hs none rfl rfl rfl rfl fun ac hs => ?_))
        refine lstep (wpO_plain rfl (op_bin hs none (v := .int .i64 ((i + 1 : Nat) : Int)) rfl rfl rfl rfl (fun _ => rfl) (bin_addN (x := i) (y := 1) (z := i + 1) rfl (show i + 1 < 9223372036854775808 by omega)) rfl fun ac hs => ?_))
        refine lstep (wpO_plain rfl (op_assign hs none rfl rfl rfl rfl fun ac hs => ?_))
        refine wpList_nil ?_
        refine then_n ?_
        exact ⟨_, ⟨(i + 1), (upn (upn f (i - (nn / 64)) ((limN a i) / 2 ^ (nn % 64))) (i - (nn / 64)) (((upn f (i - (nn / 64)) ((limN a i) / 2 ^ (nn % 64))) (i - (nn / 64))) ||| ((limN a (i + 1)) * 2 ^ (64 - (nn % 64)) % 18446744073709551616))), rfl, (by omega), (by omega), (shr_stepB ha hby hp4 hp7 hf), (hs.re ⟨rfl, rfl, rfl, rfl, rfl, rfl, trivial⟩)⟩, (by omega)⟩
      · skip
        have hp9 := of_decide_eq_false hc
        refine wp_skip ?_
        refine blk_n ?_
        refine then_n ?_
        replace hs : St 52 w0 [(2, true, .pointer (some ⟨g1, 0, none⟩)), (4, true, .pointer (some ⟨g2, 0, none⟩)), (5, true, .pointer (some ⟨g3, 0, none⟩)), (6, true, .int .i64 ((nn / 64 : Nat) : Int)), (7, true, .int .i64 ((nn % 64 : Nat) : Int)), (8, true, .int .i64 ((i : Nat) : Int))] [(true, g1, 24, (Wl a)), (true, g2, 24, [.int .u64 0, .int .u64 0, .int .u64 0, .int .u64 0]), (true, g3, 24, (tab .u64 4 (upn f (i - (nn / 64)) ((limN a i) / 2 ^ (nn % 64)))))] ac _ := hs.re ⟨rfl, rfl, rfl, rfl, rfl, rfl, trivial⟩
        refine wp_region_lit ?_
        refine lstep (wpO_plain rfl (op_move hs none rfl rfl rfl rfl fun ac hs => ?_))
        refine lstep (wpO_plain rfl (op_bin hs none (v := .int .i64 ((i + 1 : Nat) : Int)) rfl rfl rfl rfl (fun _ => rfl) (bin_addN (x := i) (y := 1) (z := i + 1) rfl (show i + 1 < 9223372036854775808 by omega)) rfl fun ac hs => ?_))
        refine lstep (wpO_plain rfl (op_assign hs none rfl rfl rfl rfl fun ac hs => ?_))
        refine wpList_nil ?_
        refine then_n ?_
        exact ⟨_, ⟨(i + 1), (upn f (i - (nn / 64)) ((limN a i) / 2 ^ (nn % 64))), rfl, (by omega), (by omega), (shr_stepA ha hby hp4 (by omega) hf), (hs.re ⟨rfl, rfl, rfl, rfl, rfl, rfl, trivial⟩)⟩, (by omega)⟩
    · skip
      replace hs : St 52 w0 [(2, true, .pointer (some ⟨g1, 0, none⟩)), (4, true, .pointer (some ⟨g2, 0, none⟩)), (5, true, .pointer (some ⟨g3, 0, none⟩)), (6, true, .int .i64 ((nn / 64 : Nat) : Int)), (7, true, .int .i64 ((nn % 64 : Nat) : Int)), (8, true, .int .i64 ((i : Nat) : Int))] [(true, g1, 24, (Wl a)), (true, g2, 24, [.int .u64 0, .int .u64 0, .int .u64 0, .int .u64 0]), (true, g3, 24, (tab .u64 4 (upn f (i - (nn / 64)) ((limN a i) / 2 ^ (nn % 64)))))] ac _ := hs.re ⟨rfl, rfl, rfl, rfl, rfl, rfl, trivial⟩
      refine wp_region_lit ?_
      refine lstep (wpO_plain rfl (op_move hs none rfl rfl rfl rfl fun ac hs => ?_))
      refine lstep (wpO_plain rfl (op_bin hs none (v := .int .i64 ((i + 1 : Nat) : Int)) rfl rfl rfl rfl (fun _ => rfl) (bin_addN (x := i) (y := 1) (z := i + 1) rfl (show i + 1 < 9223372036854775808 by omega)) rfl fun ac hs => ?_))
      refine lstep (wpO_plain rfl (op_bin hs none (v := .bool false) rfl rfl rfl rfl (fun _ => rfl) (fun w => dF hq6 (bin_lssN (x := i + 1) (y := 4) w)) rfl fun ac hs => ?_))
      refine lstep (wpO_plain rfl (op_move hs none rfl rfl rfl rfl fun ac hs => ?_))
      refine lstep (wpO_out hs none rfl rfl (.inl rfl) rfl rfl fun ac hs => ?_)
      refine lstep (wpO_out hs none rfl rfl (.inl rfl) rfl rfl fun ac hs => ?_)
      refine lstep (wpO_plain rfl (op_pickF hs none rfl rfl rfl rfl rfl fun ac hs => ?_))
      refine wpList_nil ?_
      refine then_n ?_
      refine wp_cond_false (hs.ev rfl) ?_
      refine wp_skip ?_
      refine blk_n ?_
      refine then_n ?_
      refine wp_region_lit ?_
      refine lstep (wpO_plain rfl (op_move hs none rfl rfl rfl rfl fun ac hs => ?_))
      refine lstep (wpO_plain rfl (op_bin hs none (v := .int .i64 ((i + 1 : Nat) : Int)) rfl rfl rfl rfl (fun _ => rfl) (bin_addN (x := i) (y := 1) (z := i + 1) rfl (show i + 1 < 9223372036854775808 by omega)) rfl fun ac hs => ?_))
      refine lstep (wpO_plain rfl (op_assign hs none rfl rfl rfl rfl fun ac hs => ?_))
      refine wpList_nil ?_
      refine then_n ?_
      exact ⟨_, ⟨(i + 1), (upn f (i - (nn / 64)) ((limN a i) / 2 ^ (nn % 64))), rfl, (by omega), (by omega), (shr_stepA ha hby hp4 (by omega) hf), (hs.re ⟨rfl, rfl, rfl, rfl, rfl, rfl, trivial⟩)⟩, (by omega)⟩
  · skip
    have hp10 := of_decide_eq_false hc
    replace hs := hs.setb 2 (cs' := Wl x) rfl (by rw [← hx]; exact tab_Wl (shr_fin ha (by omega) hf))
    refine wp_exit ?_
    refine then_e ?_
    refine then_e ?_
    refine blk_e ?_
    refine then_n ?_
    refine wp_seq ?_
    refine wp_region_lit ?_
    refine lstep (wpO_plain rfl (op_load hs none 2 (v := W x) rfl rfl rfl rfl Try.isAgg24 Try.sizeOf24 rfl rfl fun ac hs => ?_))
    refine lstep (wpO_plain rfl (op_store hs 1 (vs := (Wl x)) rfl rfl rfl rfl rfl Try.sizeOf24 rfl rfl rfl rfl rfl fun w hs => ?_))
    refine wpList_nil ?_
    refine then_n ?_
    refine wp_ret ?_
    exact bodyPost_ret (res1 rfl (rv_c hs 1 (v := W x) rfl rfl Try.isAgg24 Try.sizeOf24 rfl)) hs.defers ⟨rfl, (hs.bel rfl)⟩
theorem prime_c  (w0 : World) : Calls Try.prog 55 #[] w0 fun e w' => e = .returned (W Pf) ∧ Below w0.heap.size w0 w' := by
  refine enter (n := 2) (args := []) Try.func55 rfl rfl (Nat.le_of_ble_eq_true rfl) fun ac hs => ?_
  refine wp_seq ?_
  refine wp_region_lit ?_
  refine lstep (wpO_plain rfl (op_alloc hs none none (cs := [.int .u64 0, .int .u64 0, .int .u64 0, .int .u64 0]) rfl rfl Try.zeroValue24 (by kernel_rfl) rfl rfl fun g1 ac w hs => ?_))
  refine wpList_nil ?_
  refine then_n ?_
  refine wp_seq ?_
  refine wp_region_lit ?_
  refine lstep (wpO_plain rfl (op_build hs none (qs := [(0, .int .u64 18446744069414583343), (1, .int .u64 18446744073709551615), (2, .int .u64 18446744073709551615), (3, .int .u64 18446744073709551615)]) (v := .agg #[.int .u64 18446744069414583343, .int .u64 18446744073709551615, .int .u64 18446744073709551615, .int .u64 18446744073709551615]) rfl rfl rfl rfl (fun _ => by kernel_rfl) rfl fun ac hs => ?_))
  refine lstep (wpO_plain rfl (op_store hs 0 (vs := [.int .u64 18446744069414583343, .int .u64 18446744073709551615, .int .u64 18446744073709551615, .int .u64 18446744073709551615]) rfl rfl rfl rfl rfl Try.sizeOf24 rfl rfl rfl rfl rfl fun w hs => ?_))
  refine wpList_nil ?_
  refine then_n ?_
  refine wp_ret ?_
  exact bodyPost_ret (res1 rfl (rv_c hs 0 (v := .agg #[.int .u64 18446744069414583343, .int .u64 18446744073709551615, .int .u64 18446744073709551615, .int .u64 18446744073709551615]) rfl rfl Try.isAgg24 Try.sizeOf24 rfl)) hs.defers ⟨by kernel_rfl, (hs.bel rfl)⟩
theorem fred_c (a x : Nat) (ha : a < 2 ^ 256) (hx : a % Pf = x) (w0 : World) : Calls Try.prog 59 #[W a] w0 fun e w' => e = .returned (W x) ∧ Below w0.heap.size w0 w' := by
  refine enter (n := 15) (args := [W a]) Try.func59 rfl rfl (Nat.le_of_ble_eq_true rfl) fun ac hs => ?_
  refine wp_seq ?_
  refine wp_region_lit ?_
  refine lstep (wpO_plain rfl (op_box hs none none (cs := (Wl a)) rfl rfl rfl rfl rfl rfl fun g1 ac w hs => ?_))
  refine lstep (wpO_plain rfl (op_alloc hs none none (cs := [.int .u64 0, .int .u64 0, .int .u64 0, .int .u64 0]) rfl rfl Try.zeroValue24 (by kernel_rfl) rfl rfl fun g2 ac w hs => ?_))
  refine wpList_nil ?_
  refine then_n ?_
  refine wp_seq ?_
  refine wp_seq ?_
  replace hs : St 15 w0 [(1, true, .pointer (some ⟨g1, 0, none⟩)), (2, true, .pointer (some ⟨g2, 0, none⟩))] [(true, g1, 24, (Wl a)), (true, g2, 24, [.int .u64 0, .int .u64 0, .int .u64 0, .int .u64 0])] ac _ := hs.re ⟨rfl, rfl, trivial⟩
  obtain ⟨d3, hd3, ld3⟩ : ∃ z0, (a + 2 ^ 256 - Pf) % 2 ^ 256 = z0 ∧ z0 < 2 ^ 256 := ⟨_, rfl, Nat.mod_lt _ (Nat.two_pow_pos 256)⟩
  obtain ⟨c4, hc4⟩ : ∃ z0, bor a Pf = z0 := ⟨_, rfl⟩
  refine region_inv [([], [2, 3, 4, 5, 7, 8]), ([], [2, 3, 4, 5, 7, 8]), ([0, 1], [3, 4, 5, 7, 8]), ([0, 1, 2], [4, 5, 7, 8]), ([0, 1, 2, 3], [7, 8]), ([0, 1, 2, 3], [8]), ([], [7, 8]), ([0, 1, 2, 3, 4, 6], [8]), ([0, 1, 2, 3, 4, 5, 6, 7], [])] (fun L ac w => ∃ (g5 : Nat), St 15 w0 [(6, L 0, W a), (7, L 1, W Pf), (8, L 2, .tuple #[W d3, .int .u64 ((c4 : Nat) : Int)]), (5, L 3, .tuple #[W d3, .int .u64 ((c4 : Nat) : Int)]), (9, L 4, W d3), (10, L 5, .int .u64 ((c4 : Nat) : Int)), (3, L 6, .pointer (some ⟨g5, 0, none⟩)), (4, L 8, .int .u64 ((c4 : Nat) : Int)), (1, true, .pointer (some ⟨g1, 0, none⟩)), (2, true, .pointer (some ⟨g2, 0, none⟩))] [(true, g1, 24, (Wl a)), (true, g2, 24, [.int .u64 0, .int .u64 0, .int .u64 0, .int .u64 0]), (L 6, g5, 24, (cond (L 7) (Wl d3) [.int .u64 0, .int .u64 0, .int .u64 0, .int .u64 0]))] ac w) (by kernel_rfl) (by kernel_rfl) ?_ ?_ ?_
  · exact ⟨0, hs.drew.skip.skip.skip.skip.skip.skip.skip.skip.pad⟩
  · refine ⟨?_, ?_, ?_, ?_, ?_, ?_, ?_, ?_, ?_, trivial⟩
    · intro L ac w hJ
      obtain ⟨g5, hs⟩ := hJ
      refine wpO_plain rfl (op_load hs (some 0) 0 (v := W a) rfl rfl rfl rfl Try.isAgg24 Try.sizeOf24 rfl rfl fun ac hs => ?_)
      exact ⟨g5, hs⟩
    · intro L ac w hJ
      obtain ⟨g5, hs⟩ := hJ
      refine wpO_plain rfl (op_call (F := 55) hs (some 1) (v := W Pf) rfl rfl rfl rfl (Try.call55 _) prime_c rfl fun ac w hs => ?_)
      exact ⟨g5, hs⟩
    · intro L ac w hJ
      obtain ⟨g5, hs⟩ := hJ
      refine wpO_plain rfl (op_call (F := 41) hs (some 2) (v := .tuple #[W d3, .int .u64 ((c4 : Nat) : Int)]) rfl rfl rfl rfl (Try.call41 _) (fun w => sub_at w a Pf d3 c4 ha Pf_lt hd3 hc4) rfl fun ac w hs => ?_)
      exact ⟨g5, hs⟩
    · intro L ac w hJ
      obtain ⟨g5, hs⟩ := hJ
      refine wpO_plain rfl (op_move hs (some 3) rfl rfl rfl rfl fun ac hs => ?_)
      exact ⟨g5, hs⟩
    · intro L ac w hJ
      obtain ⟨g5, hs⟩ := hJ
      refine wpO_plain rfl (op_extract hs (some 4) rfl rfl rfl rfl rfl fun ac hs => ?_)
      exact ⟨g5, hs⟩
    · intro L ac w hJ
      obtain ⟨g5, hs⟩ := hJ
      refine wpO_plain rfl (op_extract hs (some 5) rfl rfl rfl rfl rfl fun ac hs => ?_)
      exact ⟨g5, hs⟩
    · intro L ac w hJ
      obtain ⟨g5, hs⟩ := hJ
      refine wpO_plain rfl (op_alloc hs (some 6) (some 2) (cs := [.int .u64 0, .int .u64 0, .int .u64 0, .int .u64 0]) rfl rfl Try.zeroValue24 (by kernel_rfl) rfl rfl fun g5 ac w hs => ?_)
      exact ⟨g5, hs⟩
    · intro L ac w hJ
      obtain ⟨g5, hs⟩ := hJ
      refine wpO_plain rfl (op_store hs 2 (vs := (Wl d3)) rfl rfl rfl rfl rfl Try.sizeOf24 rfl rfl rfl rfl rfl fun w hs => ?_)
      exact ⟨g5, hs⟩
    · intro L ac w hJ
      obtain ⟨g5, hs⟩ := hJ
      refine wpO_plain rfl (op_assign hs (some 7) rfl rfl rfl rfl fun ac hs => ?_)
      exact ⟨g5, hs⟩
  intro ac w hJ
  obtain ⟨g5, hs⟩ := hJ
  replace hs : St 15 w0 [(6, true, W a), (7, true, W Pf), (8, true, .tuple #[W d3, .int .u64 ((c4 : Nat) : Int)]), (5, true, .tuple #[W d3, .int .u64 ((c4 : Nat) : Int)]), (9, true, W d3), (10, true, .int .u64 ((c4 : Nat) : Int)), (3, true, .pointer (some ⟨g5, 0, none⟩)), (4, true, .int .u64 ((c4 : Nat) : Int)), (1, true, .pointer (some ⟨g1, 0, none⟩)), (2, true, .pointer (some ⟨g2, 0, none⟩))] [(true, g1, 24, (Wl a)), (true, g2, 24, [.int .u64 0, .int .u64 0, .int .u64 0, .int .u64 0]), (true, g5, 24, (Wl d3))] ac w := hs
  refine then_n ?_
  refine wp_seq ?_
  refine wp_region_lit ?_
  refine lstep (wpO_plain rfl (op_move hs none rfl rfl rfl rfl fun ac hs => ?_))
  refine lstep (wpO_plain rfl (op_bin hs none (v := .bool (decide (c4 = 0))) rfl rfl rfl rfl (fun _ => rfl) (bin_eqlN (x := c4) (y := 0)) rfl fun ac hs => ?_))
  refine wpList_nil ?_
  refine then_n ?_
  refine wp_cond_split (hs.ev rfl) (fun hc => ?_) (fun hc => ?_)
  · skip
    have hp6 := of_decide_eq_true hc
    refine wp_seq ?_
    refine wp_region_lit ?_
    refine lstep (wpO_plain rfl (op_load hs none 2 (v := W d3) rfl rfl rfl rfl Try.isAgg24 Try.sizeOf24 rfl rfl fun ac hs => ?_))
    refine lstep (wpO_plain rfl (op_store hs 1 (vs := (Wl d3)) rfl rfl rfl rfl rfl Try.sizeOf24 rfl rfl rfl rfl rfl fun w hs => ?_))
    refine wpList_nil ?_
    refine then_n ?_
    refine wp_ret ?_
    refine then_r ?_
    exact bodyPost_ret (res1 rfl (rv_c hs 1 (v := W d3) rfl rfl Try.isAgg24 Try.sizeOf24 rfl)) hs.defers ⟨by rw [← hx, ← gred_yes Pf_big Pf_lt ha hd3 hc4 hp6], (hs.bel rfl)⟩
  · skip
    have hp7 := of_decide_eq_false hc
    refine wp_skip ?_
    refine then_n ?_
    refine wp_seq ?_
    refine wp_region_lit ?_
    refine lstep (wpO_plain rfl (op_load hs none 0 (v := W a) rfl rfl rfl rfl Try.isAgg24 Try.sizeOf24 rfl rfl fun ac hs => ?_))
    refine lstep (wpO_plain rfl (op_store hs 1 (vs := (Wl a)) rfl rfl rfl rfl rfl Try.sizeOf24 rfl rfl rfl rfl rfl fun w hs => ?_))
    refine wpList_nil ?_
    refine then_n ?_
    refine wp_ret ?_
    exact bodyPost_ret (res1 rfl (rv_c hs 1 (v := W a) rfl rfl Try.isAgg24 Try.sizeOf24 rfl)) hs.defers ⟨by rw [← hx, ← gred_no hc4 hp7], (hs.bel rfl)⟩
theorem lift_c (a q x : Nat) (ha : a < 2 ^ 256) (hcc : q = 0 ∨ q = 1 ∧ a + Pov < 2 ^ 256) (hx : (a + 2 ^ 256 * q) % Pf = x) (w0 : World) : Calls Try.prog 73 #[W a, .int .u64 ((q : Nat) : Int)] w0 fun e w' => e = .returned (W x) ∧ Below w0.heap.size w0 w' := by
  refine enter (n := 19) (args := [W a, .int .u64 ((q : Nat) : Int)]) Try.func73 rfl rfl (Nat.le_of_ble_eq_true rfl) fun ac hs => ?_
  refine wp_seq ?_
  refine wp_region_lit ?_
  refine lstep (wpO_plain rfl (op_box hs none none (cs := (Wl a)) rfl rfl rfl rfl rfl rfl fun g1 ac w hs => ?_))
  refine lstep (wpO_plain rfl (op_alloc hs none none (cs := [.int .u64 0, .int .u64 0, .int .u64 0, .int .u64 0]) rfl rfl Try.zeroValue24 (by kernel_rfl) rfl rfl fun g2 ac w hs => ?_))
  refine wpList_nil ?_
  refine then_n ?_
  refine wp_seq ?_
  refine wp_seq ?_
  refine wp_region_lit ?_
  refine lstep (wpO_plain rfl (op_move hs none rfl rfl rfl rfl fun ac hs => ?_))
  refine lstep (wpO_plain rfl (op_bin hs none (v := .bool (decide (q = 0))) rfl rfl rfl rfl (fun _ => rfl) (bin_eqlN (x := q) (y := 0)) rfl fun ac hs => ?_))
  refine wpList_nil ?_
  refine then_n ?_
  refine wp_cond_split (hs.ev rfl) (fun hc => ?_) (fun hc => ?_)
  · skip
    have hp3 := of_decide_eq_true hc
    refine wp_seq ?_
    refine wp_region_lit ?_
    refine lstep (wpO_plain rfl (op_load hs none 0 (v := W a) rfl rfl rfl rfl Try.isAgg24 Try.sizeOf24 rfl rfl fun ac hs => ?_))
    obtain ⟨r4, hr4, lr4⟩ : ∃ z0, a % Pf = z0 ∧ z0 < 2 ^ 256 := ⟨_, rfl, modP_lt _⟩
    refine lstep (wpO_plain rfl (op_call (F := 59) hs none (v := W r4) rfl rfl rfl rfl (Try.call59 _) (fred_c a r4 ha hr4) rfl fun ac w hs => ?_))
    refine lstep (wpO_plain rfl (op_store hs 1 (vs := (Wl r4)) rfl rfl rfl rfl rfl Try.sizeOf24 rfl rfl rfl rfl rfl fun w hs => ?_))
    refine wpList_nil ?_
    refine then_n ?_
    refine wp_ret ?_
    refine then_r ?_
    exact bodyPost_ret (res1 rfl (rv_c hs 1 (v := W r4) rfl rfl Try.isAgg24 Try.sizeOf24 rfl)) hs.defers ⟨by rw [← hx, lift_no hp3, hr4], (hs.bel rfl)⟩
  · skip
    have hp5 := of_decide_eq_false hc
    refine wp_skip ?_
    refine then_n ?_
    refine wp_seq ?_
    replace hs : St 19 w0 [(2, true, .pointer (some ⟨g1, 0, none⟩)), (4, true, .pointer (some ⟨g2, 0, none⟩))] [(true, g1, 24, (Wl a)), (true, g2, 24, [.int .u64 0, .int .u64 0, .int .u64 0, .int .u64 0])] ac _ := hs.re ⟨rfl, rfl, trivial⟩
    obtain ⟨s6, hs6, ls6⟩ : ∃ z0, (a + 4294968273) % 2 ^ 256 = z0 ∧ z0 < 2 ^ 256 := ⟨_, rfl, Nat.mod_lt _ (Nat.two_pow_pos 256)⟩
    obtain ⟨c7, hc7⟩ : ∃ z0, (a + 4294968273) / 2 ^ 256 = z0 := ⟨_, rfl⟩
    refine region_inv [([], [2, 3, 4, 5, 7, 8]), ([], [2, 3, 4, 5, 7, 8]), ([0, 1], [3, 4, 5, 7, 8]), ([0, 1, 2], [4, 5, 7, 8]), ([0, 1, 2, 3], [7, 8]), ([0, 1, 2, 3], [8]), ([], [7, 8]), ([0, 1, 2, 3, 4, 6], [8]), ([0, 1, 2, 3, 4, 5, 6, 7], [])] (fun L ac w => ∃ (g8 : Nat), St 19 w0 [(12, L 0, W a), (13, L 1, W 4294968273), (14, L 2, .tuple #[W s6, .int .u64 ((c7 : Nat) : Int)]), (11, L 3, .tuple #[W s6, .int .u64 ((c7 : Nat) : Int)]), (15, L 4, W s6), (16, L 5, .int .u64 ((c7 : Nat) : Int)), (5, L 6, .pointer (some ⟨g8, 0, none⟩)), (6, L 8, .int .u64 ((c7 : Nat) : Int)), (2, true, .pointer (some ⟨g1, 0, none⟩)), (4, true, .pointer (some ⟨g2, 0, none⟩))] [(true, g1, 24, (Wl a)), (true, g2, 24, [.int .u64 0, .int .u64 0, .int .u64 0, .int .u64 0]), (L 6, g8, 24, (cond (L 7) (Wl s6) [.int .u64 0, .int .u64 0, .int .u64 0, .int .u64 0]))] ac w) (by kernel_rfl) (by kernel_rfl) ?_ ?_ ?_
    · exact ⟨0, hs.drew.skip.skip.skip.skip.skip.skip.skip.skip.pad⟩
    · refine ⟨?_, ?_, ?_, ?_, ?_, ?_, ?_, ?_, ?_, trivial⟩
      · intro L ac w hJ
        obtain ⟨g8, hs⟩ := hJ
        refine wpO_plain rfl (op_load hs (some 0) 0 (v := W a) rfl rfl rfl rfl Try.isAgg24 Try.sizeOf24 rfl rfl fun ac hs => ?_)
        exact ⟨g8, hs⟩
      · intro L ac w hJ
        obtain ⟨g8, hs⟩ := hJ
        refine wpO_plain rfl (op_call (F := 25) hs (some 1) (v := W 4294968273) rfl rfl rfl rfl (Try.call25 _) (fun w => from_any w 4294968273 (by decide)) rfl fun ac w hs => ?_)
        exact ⟨g8, hs⟩
      · intro L ac w hJ
        obtain ⟨g8, hs⟩ := hJ
        refine wpO_plain rfl (op_call (F := 29) hs (some 2) (v := .tuple #[W s6, .int .u64 ((c7 : Nat) : Int)]) rfl rfl rfl rfl (Try.call29 _) (fun w => add_at w a 4294968273 s6 c7 ha (by decide) hs6 hc7) rfl fun ac w hs => ?_)
        exact ⟨g8, hs⟩
      · intro L ac w hJ
        obtain ⟨g8, hs⟩ := hJ
        refine wpO_plain rfl (op_move hs (some 3) rfl rfl rfl rfl fun ac hs => ?_)
        exact ⟨g8, hs⟩
      · intro L ac w hJ
        obtain ⟨g8, hs⟩ := hJ
        refine wpO_plain rfl (op_extract hs (some 4) rfl rfl rfl rfl rfl fun ac hs => ?_)
        exact ⟨g8, hs⟩
      · intro L ac w hJ
        obtain ⟨g8, hs⟩ := hJ
        refine wpO_plain rfl (op_extract hs (some 5) rfl rfl rfl rfl rfl fun ac hs => ?_)
        exact ⟨g8, hs⟩
      · intro L ac w hJ
        obtain ⟨g8, hs⟩ := hJ
        refine wpO_plain rfl (op_alloc hs (some 6) (some 2) (cs := [.int .u64 0, .int .u64 0, .int .u64 0, .int .u64 0]) rfl rfl Try.zeroValue24 (by kernel_rfl) rfl rfl fun g8 ac w hs => ?_)
        exact ⟨g8, hs⟩
      · intro L ac w hJ
        obtain ⟨g8, hs⟩ := hJ
        refine wpO_plain rfl (op_store hs 2 (vs := (Wl s6)) rfl rfl rfl rfl rfl Try.sizeOf24 rfl rfl rfl rfl rfl fun w hs => ?_)
        exact ⟨g8, hs⟩
      · intro L ac w hJ
        obtain ⟨g8, hs⟩ := hJ
        refine wpO_plain rfl (op_assign hs (some 7) rfl rfl rfl rfl fun ac hs => ?_)
        exact ⟨g8, hs⟩
    intro ac w hJ
    obtain ⟨g8, hs⟩ := hJ
    replace hs : St 19 w0 [(12, true, W a), (13, true, W 4294968273), (14, true, .tuple #[W s6, .int .u64 ((c7 : Nat) : Int)]), (11, true, .tuple #[W s6, .int .u64 ((c7 : Nat) : Int)]), (15, true, W s6), (16, true, .int .u64 ((c7 : Nat) : Int)), (5, true, .pointer (some ⟨g8, 0, none⟩)), (6, true, .int .u64 ((c7 : Nat) : Int)), (2, true, .pointer (some ⟨g1, 0, none⟩)), (4, true, .pointer (some ⟨g2, 0, none⟩))] [(true, g1, 24, (Wl a)), (true, g2, 24, [.int .u64 0, .int .u64 0, .int .u64 0, .int .u64 0]), (true, g8, 24, (Wl s6))] ac w := hs
    refine then_n ?_
    refine wp_seq ?_
    refine wp_region_lit ?_
    refine lstep (wpO_plain rfl (op_load hs none 2 (v := W s6) rfl rfl rfl rfl Try.isAgg24 Try.sizeOf24 rfl rfl fun ac hs => ?_))
    obtain ⟨r9, hr9, lr9⟩ : ∃ z0, s6 % Pf = z0 ∧ z0 < 2 ^ 256 := ⟨_, rfl, modP_lt _⟩
    refine lstep (wpO_plain rfl (op_call (F := 59) hs none (v := W r9) rfl rfl rfl rfl (Try.call59 _) (fred_c s6 r9 ls6 hr9) rfl fun ac w hs => ?_))
    refine lstep (wpO_plain rfl (op_store hs 1 (vs := (Wl r9)) rfl rfl rfl rfl rfl Try.sizeOf24 rfl rfl rfl rfl rfl fun w hs => ?_))
    refine wpList_nil ?_
    refine then_n ?_
    refine wp_ret ?_
    exact bodyPost_ret (res1 rfl (rv_c hs 1 (v := W r9) rfl rfl Try.isAgg24 Try.sizeOf24 rfl)) hs.defers ⟨by rw [← hx, lift_yes hcc hp5 hs6, hr9], (hs.bel rfl)⟩
theorem fadd_c (a b x : Nat) (ha : a < 2 ^ 256) (hb : b < 2 ^ 256) (hx : (a + b) % Pf = x) (w0 : World) : Calls Try.prog 61 #[W a, W b] w0 fun e w' => e = .returned (W x) ∧ Below w0.heap.size w0 w' := by
  refine enter (n := 13) (args := [W a, W b]) Try.func61 rfl rfl (Nat.le_of_ble_eq_true rfl) fun ac hs => ?_
  refine wp_seq ?_
  refine wp_region_lit ?_
  refine lstep (wpO_plain rfl (op_box hs none none (cs := (Wl a)) rfl rfl rfl rfl rfl rfl fun g1 ac w hs => ?_))
  refine lstep (wpO_plain rfl (op_box hs none none (cs := (Wl b)) rfl rfl rfl rfl rfl rfl fun g2 ac w hs => ?_))
  refine lstep (wpO_plain rfl (op_alloc hs none none (cs := [.int .u64 0, .int .u64 0, .int .u64 0, .int .u64 0]) rfl rfl Try.zeroValue24 (by kernel_rfl) rfl rfl fun g3 ac w hs => ?_))
  refine wpList_nil ?_
  refine then_n ?_
  refine wp_seq ?_
  replace hs : St 13 w0 [(2, true, .pointer (some ⟨g1, 0, none⟩)), (3, true, .pointer (some ⟨g2, 0, none⟩)), (4, true, .pointer (some ⟨g3, 0, none⟩))] [(true, g1, 24, (Wl a)), (true, g2, 24, (Wl b)), (true, g3, 24, [.int .u64 0, .int .u64 0, .int .u64 0, .int .u64 0])] ac _ := hs.re ⟨rfl, rfl, rfl, trivial⟩
  obtain ⟨r4, hr4, lr4⟩ : ∃ z0, a % Pf = z0 ∧ z0 < 2 ^ 256 := ⟨_, rfl, modP_lt _⟩
  obtain ⟨r5, hr5, lr5⟩ : ∃ z0, b % Pf = z0 ∧ z0 < 2 ^ 256 := ⟨_, rfl, modP_lt _⟩
  obtain ⟨s6, hs6, ls6⟩ : ∃ z0, (r4 + r5) % 2 ^ 256 = z0 ∧ z0 < 2 ^ 256 := ⟨_, rfl, Nat.mod_lt _ (Nat.two_pow_pos 256)⟩
  obtain ⟨c7, hc7⟩ : ∃ z0, (r4 + r5) / 2 ^ 256 = z0 := ⟨_, rfl⟩
  obtain ⟨r8, hr8, lr8⟩ : ∃ z0, (s6 + 2 ^ 256 * c7) % Pf = z0 ∧ z0 < 2 ^ 256 := ⟨_, rfl, modP_lt _⟩
  refine region_inv [([], [1, 3, 4, 5, 6, 7, 8]), ([0], [3, 4, 5, 6, 7, 8]), ([], [3, 4, 5, 6, 7, 8]), ([0, 1, 2], [4, 5, 6, 7, 8]), ([0, 1, 2, 3], [5, 6, 7, 8]), ([0, 1, 2, 3, 4], [7, 8]), ([0, 1, 2, 3, 4], [7, 8]), ([0, 1, 2, 3, 4, 5, 6], [8]), ([0, 1, 2, 3, 4, 5, 6, 7], [])] (fun L ac w => St 13 w0 [(5, L 0, W a), (6, L 1, W r4), (7, L 2, W b), (8, L 3, W r5), (9, L 4, .tuple #[W s6, .int .u64 ((c7 : Nat) : Int)]), (10, L 5, W s6), (11, L 6, .int .u64 ((c7 : Nat) : Int)), (12, L 7, W r8), (2, true, .pointer (some ⟨g1, 0, none⟩)), (3, true, .pointer (some ⟨g2, 0, none⟩)), (4, true, .pointer (some ⟨g3, 0, none⟩))] [(true, g1, 24, (Wl a)), (true, g2, 24, (Wl b)), (true, g3, 24, (cond (L 8) (Wl r8) [.int .u64 0, .int .u64 0, .int .u64 0, .int .u64 0]))] ac w) (by kernel_rfl) (by kernel_rfl) ?_ ?_ ?_
  · exact hs.drew.skip.skip.skip.skip.skip.skip.skip.skip
  · refine ⟨?_, ?_, ?_, ?_, ?_, ?_, ?_, ?_, ?_, trivial⟩
    · intro L ac w hJ
      have hs := hJ
      refine wpO_plain rfl (op_load hs (some 0) 0 (v := W a) rfl rfl rfl rfl Try.isAgg24 Try.sizeOf24 rfl rfl fun ac hs => ?_)
      exact hs
    · intro L ac w hJ
      have hs := hJ
      refine wpO_plain rfl (op_call (F := 59) hs (some 1) (v := W r4) rfl rfl rfl rfl (Try.call59 _) (fred_c a r4 ha hr4) rfl fun ac w hs => ?_)
      exact hs
    · intro L ac w hJ
      have hs := hJ
      refine wpO_plain rfl (op_load hs (some 2) 1 (v := W b) rfl rfl rfl rfl Try.isAgg24 Try.sizeOf24 rfl rfl fun ac hs => ?_)
      exact hs
    · intro L ac w hJ
      have hs := hJ
      refine wpO_plain rfl (op_call (F := 59) hs (some 3) (v := W r5) rfl rfl rfl rfl (Try.call59 _) (fred_c b r5 hb hr5) rfl fun ac w hs => ?_)
      exact hs
    · intro L ac w hJ
      have hs := hJ
      refine wpO_plain rfl (op_call (F := 29) hs (some 4) (v := .tuple #[W s6, .int .u64 ((c7 : Nat) : Int)]) rfl rfl rfl rfl (Try.call29 _) (fun w => add_at w r4 r5 s6 c7 lr4 lr5 hs6 hc7) rfl fun ac w hs => ?_)
      exact hs
    · intro L ac w hJ
      have hs := hJ
      refine wpO_plain rfl (op_extract hs (some 5) rfl rfl rfl rfl rfl fun ac hs => ?_)
      exact hs
    · intro L ac w hJ
      have hs := hJ
      refine wpO_plain rfl (op_extract hs (some 6) rfl rfl rfl rfl rfl fun ac hs => ?_)
      exact hs
    · intro L ac w hJ
      have hs := hJ
      refine wpO_plain rfl (op_call (F := 73) hs (some 7) (v := W r8) rfl rfl rfl rfl (Try.call73 _) (lift_c s6 c7 r8 ls6 (by subst hr4 hr5; exact fadd_pre hs6 hc7) hr8) rfl fun ac w hs => ?_)
      exact hs
    · intro L ac w hJ
      have hs := hJ
      refine wpO_plain rfl (op_store hs 2 (vs := (Wl r8)) rfl rfl rfl rfl rfl Try.sizeOf24 rfl rfl rfl rfl rfl fun w hs => ?_)
      exact hs
  intro ac w hJ
  replace hs : St 13 w0 [(5, true, W a), (6, true, W r4), (7, true, W b), (8, true, W r5), (9, true, .tuple #[W s6, .int .u64 ((c7 : Nat) : Int)]), (10, true, W s6), (11, true, .int .u64 ((c7 : Nat) : Int)), (12, true, W r8), (2, true, .pointer (some ⟨g1, 0, none⟩)), (3, true, .pointer (some ⟨g2, 0, none⟩)), (4, true, .pointer (some ⟨g3, 0, none⟩))] [(true, g1, 24, (Wl a)), (true, g2, 24, (Wl b)), (true, g3, 24, (Wl r8))] ac w := hJ
  refine then_n ?_
  refine wp_ret ?_
  exact bodyPost_ret (res1 rfl (rv_c hs 2 (v := W r8) rfl rfl Try.isAgg24 Try.sizeOf24 rfl)) hs.defers ⟨by rw [← hx, ← hr8]; subst hr4 hr5; rw [fadd_fin hs6 hc7], (hs.bel rfl)⟩
theorem fsub_c (a b x : Nat) (ha : a < 2 ^ 256) (hb : b < 2 ^ 256) (hx : fsub a b = x) (w0 : World) : Calls Try.prog 65 #[W a, W b] w0 fun e w' => e = .returned (W x) ∧ Below w0.heap.size w0 w' := by
  refine enter (n := 24) (args := [W a, W b]) Try.func65 rfl rfl (Nat.le_of_ble_eq_true rfl) fun ac hs => ?_
  refine wp_seq ?_
  refine wp_region_lit ?_
  refine lstep (wpO_plain rfl (op_box hs none none (cs := (Wl a)) rfl rfl rfl rfl rfl rfl fun g1 ac w hs => ?_))
  refine lstep (wpO_plain rfl (op_box hs none none (cs := (Wl b)) rfl rfl rfl rfl rfl rfl fun g2 ac w hs => ?_))
  refine lstep (wpO_plain rfl (op_alloc hs none none (cs := [.int .u64 0, .int .u64 0, .int .u64 0, .int .u64 0]) rfl rfl Try.zeroValue24 (by kernel_rfl) rfl rfl fun g3 ac w hs => ?_))
  refine wpList_nil ?_
  refine then_n ?_
  refine wp_seq ?_
  replace hs : St 24 w0 [(2, true, .pointer (some ⟨g1, 0, none⟩)), (3, true, .pointer (some ⟨g2, 0, none⟩)), (4, true, .pointer (some ⟨g3, 0, none⟩))] [(true, g1, 24, (Wl a)), (true, g2, 24, (Wl b)), (true, g3, 24, [.int .u64 0, .int .u64 0, .int .u64 0, .int .u64 0])] ac _ := hs.re ⟨rfl, rfl, rfl, trivial⟩
  obtain ⟨r4, hr4, lr4⟩ : ∃ z0, a % Pf = z0 ∧ z0 < 2 ^ 256 := ⟨_, rfl, modP_lt _⟩
  obtain ⟨r5, hr5, lr5⟩ : ∃ z0, b % Pf = z0 ∧ z0 < 2 ^ 256 := ⟨_, rfl, modP_lt _⟩
  obtain ⟨d6, hd6, ld6⟩ : ∃ z0, (r4 + 2 ^ 256 - r5) % 2 ^ 256 = z0 ∧ z0 < 2 ^ 256 := ⟨_, rfl, Nat.mod_lt _ (Nat.two_pow_pos 256)⟩
  obtain ⟨c7, hc7⟩ : ∃ z0, bor r4 r5 = z0 := ⟨_, rfl⟩
  refine region_inv [([], [1, 3, 4, 5, 6, 7, 9, 10]), ([0], [3, 4, 5, 6, 7, 9, 10]), ([], [3, 4, 5, 6, 7, 9, 10]), ([0, 1, 2], [4, 5, 6, 7, 9, 10]), ([0, 1, 2, 3], [5, 6, 7, 9, 10]), ([0, 1, 2, 3, 4], [6, 7, 9, 10]), ([0, 1, 2, 3, 4, 5], [9, 10]), ([0, 1, 2, 3, 4, 5], [10]), ([], [9, 10]), ([0, 1, 2, 3, 4, 5, 6, 8], [10]), ([0, 1, 2, 3, 4, 5, 6, 7, 8, 9], [])] (fun L ac w => ∃ (g8 : Nat), St 24 w0 [(8, L 0, W a), (9, L 1, W r4), (10, L 2, W b), (11, L 3, W r5), (12, L 4, .tuple #[W d6, .int .u64 ((c7 : Nat) : Int)]), (7, L 5, .tuple #[W d6, .int .u64 ((c7 : Nat) : Int)]), (13, L 6, W d6), (14, L 7, .int .u64 ((c7 : Nat) : Int)), (5, L 8, .pointer (some ⟨g8, 0, none⟩)), (6, L 10, .int .u64 ((c7 : Nat) : Int)), (2, true, .pointer (some ⟨g1, 0, none⟩)), (3, true, .pointer (some ⟨g2, 0, none⟩)), (4, true, .pointer (some ⟨g3, 0, none⟩))] [(true, g1, 24, (Wl a)), (true, g2, 24, (Wl b)), (true, g3, 24, [.int .u64 0, .int .u64 0, .int .u64 0, .int .u64 0]), (L 8, g8, 24, (cond (L 9) (Wl d6) [.int .u64 0, .int .u64 0, .int .u64 0, .int .u64 0]))] ac w) (by kernel_rfl) (by kernel_rfl) ?_ ?_ ?_
  · exact ⟨0, hs.drew.skip.skip.skip.skip.skip.skip.skip.skip.skip.skip.pad⟩
  · refine ⟨?_, ?_, ?_, ?_, ?_, ?_, ?_, ?_, ?_, ?_, ?_, trivial⟩
    · intro L ac w hJ
      obtain ⟨g8, hs⟩ := hJ
      refine wpO_plain rfl (op_load hs (some 0) 0 (v := W a) rfl rfl rfl rfl Try.isAgg24 Try.sizeOf24 rfl rfl fun ac hs => ?_)
      exact ⟨g8, hs⟩
    · intro L ac w hJ
      obtain ⟨g8, hs⟩ := hJ
      refine wpO_plain rfl (op_call (F := 59) hs (some 1) (v := W r4) rfl rfl rfl rfl (Try.call59 _) (fred_c a r4 ha hr4) rfl fun ac w hs => ?_)
      exact ⟨g8, hs⟩
    · intro L ac w hJ
      obtain ⟨g8, hs⟩ := hJ
      refine wpO_plain rfl (op_load hs (some 2) 1 (v := W b) rfl rfl rfl rfl Try.isAgg24 Try.sizeOf24 rfl rfl fun ac hs => ?_)
      exact ⟨g8, hs⟩
    · intro L ac w hJ
      obtain ⟨g8, hs⟩ := hJ
      refine wpO_plain rfl (op_call (F := 59) hs (some 3) (v := W r5) rfl rfl rfl rfl (Try.call59 _) (fred_c b r5 hb hr5) rfl fun ac w hs => ?_)
      exact ⟨g8, hs⟩
    · intro L ac w hJ
      obtain ⟨g8, hs⟩ := hJ
      refine wpO_plain rfl (op_call (F := 41) hs (some 4) (v := .tuple #[W d6, .int .u64 ((c7 : Nat) : Int)]) rfl rfl rfl rfl (Try.call41 _) (fun w => sub_at w r4 r5 d6 c7 lr4 lr5 hd6 hc7) rfl fun ac w hs => ?_)
      exact ⟨g8, hs⟩
    · intro L ac w hJ
      obtain ⟨g8, hs⟩ := hJ
      refine wpO_plain rfl (op_move hs (some 5) rfl rfl rfl rfl fun ac hs => ?_)
      exact ⟨g8, hs⟩
    · intro L ac w hJ
      obtain ⟨g8, hs⟩ := hJ
      refine wpO_plain rfl (op_extract hs (some 6) rfl rfl rfl rfl rfl fun ac hs => ?_)
      exact ⟨g8, hs⟩
    · intro L ac w hJ
      obtain ⟨g8, hs⟩ := hJ
      refine wpO_plain rfl (op_extract hs (some 7) rfl rfl rfl rfl rfl fun ac hs => ?_)
      exact ⟨g8, hs⟩
    · intro L ac w hJ
      obtain ⟨g8, hs⟩ := hJ
      refine wpO_plain rfl (op_alloc hs (some 8) (some 3) (cs := [.int .u64 0, .int .u64 0, .int .u64 0, .int .u64 0]) rfl rfl Try.zeroValue24 (by kernel_rfl) rfl rfl fun g8 ac w hs => ?_)
      exact ⟨g8, hs⟩
    · intro L ac w hJ
      obtain ⟨g8, hs⟩ := hJ
      refine wpO_plain rfl (op_store hs 3 (vs := (Wl d6)) rfl rfl rfl rfl rfl Try.sizeOf24 rfl rfl rfl rfl rfl fun w hs => ?_)
      exact ⟨g8, hs⟩
    · intro L ac w hJ
      obtain ⟨g8, hs⟩ := hJ
      refine wpO_plain rfl (op_assign hs (some 9) rfl rfl rfl rfl fun ac hs => ?_)
      exact ⟨g8, hs⟩
  intro ac w hJ
  obtain ⟨g8, hs⟩ := hJ
  replace hs : St 24 w0 [(8, true, W a), (9, true, W r4), (10, true, W b), (11, true, W r5), (12, true, .tuple #[W d6, .int .u64 ((c7 : Nat) : Int)]), (7, true, .tuple #[W d6, .int .u64 ((c7 : Nat) : Int)]), (13, true, W d6), (14, true, .int .u64 ((c7 : Nat) : Int)), (5, true, .pointer (some ⟨g8, 0, none⟩)), (6, true, .int .u64 ((c7 : Nat) : Int)), (2, true, .pointer (some ⟨g1, 0, none⟩)), (3, true, .pointer (some ⟨g2, 0, none⟩)), (4, true, .pointer (some ⟨g3, 0, none⟩))] [(true, g1, 24, (Wl a)), (true, g2, 24, (Wl b)), (true, g3, 24, [.int .u64 0, .int .u64 0, .int .u64 0, .int .u64 0]), (true, g8, 24, (Wl d6))] ac w := hs
  refine then_n ?_
  refine wp_seq ?_
  refine wp_seq ?_
  refine wp_region_lit ?_
  refine lstep (wpO_plain rfl (op_move hs none rfl rfl rfl rfl fun ac hs => ?_))
  refine lstep (wpO_plain rfl (op_bin hs none (v := .bool (decide (c7 ≠ 0))) rfl rfl rfl rfl (fun _ => rfl) (bin_neqN (x := c7) (y := 0)) rfl fun ac hs => ?_))
  refine wpList_nil ?_
  refine then_n ?_
  refine wp_cond_split (hs.ev rfl) (fun hc => ?_) (fun hc => ?_)
  · skip
    have hp9 := of_decide_eq_true hc
    replace hs : St 24 w0 [(4, true, .pointer (some ⟨g3, 0, none⟩)), (5, true, .pointer (some ⟨g8, 0, none⟩))] [(true, g1, 24, (Wl a)), (true, g2, 24, (Wl b)), (true, g3, 24, [.int .u64 0, .int .u64 0, .int .u64 0, .int .u64 0]), (true, g8, 24, (Wl d6))] ac _ := hs.re ⟨rfl, rfl, trivial⟩
    obtain ⟨s10, hs10, ls10⟩ : ∃ z0, (d6 + Pf) % 2 ^ 256 = z0 ∧ z0 < 2 ^ 256 := ⟨_, rfl, Nat.mod_lt _ (Nat.two_pow_pos 256)⟩
    obtain ⟨c11, hc11⟩ : ∃ z0, (d6 + Pf) / 2 ^ 256 = z0 := ⟨_, rfl⟩
    refine region_inv [([], [2, 3, 4, 5, 6]), ([], [2, 3, 4, 5, 6]), ([0, 1], [3, 4, 5, 6]), ([0, 1, 2], [4, 5, 6]), ([0, 1, 2, 3], [6]), ([0, 1, 2, 3], []), ([0, 1, 2, 3, 4], [])] (fun L ac w => St 24 w0 [(18, L 0, W d6), (19, L 1, W Pf), (20, L 2, .tuple #[W s10, .int .u64 ((c11 : Nat) : Int)]), (17, L 3, .tuple #[W s10, .int .u64 ((c11 : Nat) : Int)]), (21, L 4, W s10), (22, L 5, .int .u64 ((c11 : Nat) : Int)), (4, true, .pointer (some ⟨g3, 0, none⟩)), (5, true, .pointer (some ⟨g8, 0, none⟩))] [(true, g1, 24, (Wl a)), (true, g2, 24, (Wl b)), (true, g3, 24, [.int .u64 0, .int .u64 0, .int .u64 0, .int .u64 0]), (true, g8, 24, (cond (L 6) (Wl s10) (Wl d6)))] ac w) (by kernel_rfl) (by kernel_rfl) ?_ ?_ ?_
    · exact hs.drew.skip.skip.skip.skip.skip.skip
    · refine ⟨?_, ?_, ?_, ?_, ?_, ?_, ?_, trivial⟩
      · intro L ac w hJ
        have hs := hJ
        refine wpO_plain rfl (op_load hs (some 0) 3 (v := W d6) rfl rfl rfl rfl Try.isAgg24 Try.sizeOf24 rfl rfl fun ac hs => ?_)
        exact hs
      · intro L ac w hJ
        have hs := hJ
        refine wpO_plain rfl (op_call (F := 55) hs (some 1) (v := W Pf) rfl rfl rfl rfl (Try.call55 _) prime_c rfl fun ac w hs => ?_)
        exact hs
      · intro L ac w hJ
        have hs := hJ
        refine wpO_plain rfl (op_call (F := 29) hs (some 2) (v := .tuple #[W s10, .int .u64 ((c11 : Nat) : Int)]) rfl rfl rfl rfl (Try.call29 _) (fun w => add_at w d6 Pf s10 c11 ld6 Pf_lt hs10 hc11) rfl fun ac w hs => ?_)
        exact hs
      · intro L ac w hJ
        have hs := hJ
        refine wpO_plain rfl (op_move hs (some 3) rfl rfl rfl rfl fun ac hs => ?_)
        exact hs
      · intro L ac w hJ
        have hs := hJ
        refine wpO_plain rfl (op_extract hs (some 4) rfl rfl rfl rfl rfl fun ac hs => ?_)
        exact hs
      · intro L ac w hJ
        have hs := hJ
        refine wpO_plain rfl (op_extract hs (some 5) rfl rfl rfl rfl rfl fun ac hs => ?_)
        exact hs
      · intro L ac w hJ
        have hs := hJ
        refine wpO_plain rfl (op_store hs 3 (vs := (Wl s10)) rfl rfl rfl rfl rfl Try.sizeOf24 rfl rfl rfl rfl rfl fun w hs => ?_)
        exact hs
    intro ac w hJ
    replace hs : St 24 w0 [(18, true, W d6), (19, true, W Pf), (20, true, .tuple #[W s10, .int .u64 ((c11 : Nat) : Int)]), (17, true, .tuple #[W s10, .int .u64 ((c11 : Nat) : Int)]), (21, true, W s10), (22, true, .int .u64 ((c11 : Nat) : Int)), (4, true, .pointer (some ⟨g3, 0, none⟩)), (5, true, .pointer (some ⟨g8, 0, none⟩))] [(true, g1, 24, (Wl a)), (true, g2, 24, (Wl b)), (true, g3, 24, [.int .u64 0, .int .u64 0, .int .u64 0, .int .u64 0]), (true, g8, 24, (Wl s10))] ac w := hJ
    refine then_n ?_
    refine wp_seq ?_
    refine wp_region_lit ?_
    refine lstep (wpO_plain rfl (op_load hs none 3 (v := W s10) rfl rfl rfl rfl Try.isAgg24 Try.sizeOf24 rfl rfl fun ac hs => ?_))
    refine lstep (wpO_plain rfl (op_store hs 2 (vs := (Wl s10)) rfl rfl rfl rfl rfl Try.sizeOf24 rfl rfl rfl rfl rfl fun w hs => ?_))
    refine wpList_nil ?_
    refine then_n ?_
    refine wp_ret ?_
    exact bodyPost_ret (res1 rfl (rv_c hs 2 (v := W s10) rfl rfl Try.isAgg24 Try.sizeOf24 rfl)) hs.defers ⟨by subst hr4 hr5; rw [← hx, ← fsub_yes hd6 hc7 ((bor01 hc7).1 hp9) hs10], (hs.bel rfl)⟩
  · skip
    have hp12 := of_decide_eq_false hc
    refine wp_skip ?_
    refine then_n ?_
    refine wp_seq ?_
    refine wp_region_lit ?_
    refine lstep (wpO_plain rfl (op_load hs none 3 (v := W d6) rfl rfl rfl rfl Try.isAgg24 Try.sizeOf24 rfl rfl fun ac hs => ?_))
    refine lstep (wpO_plain rfl (op_store hs 2 (vs := (Wl d6)) rfl rfl rfl rfl rfl Try.sizeOf24 rfl rfl rfl rfl rfl fun w hs => ?_))
    refine wpList_nil ?_
    refine then_n ?_
    refine wp_ret ?_
    exact bodyPost_ret (res1 rfl (rv_c hs 2 (v := W d6) rfl rfl Try.isAgg24 Try.sizeOf24 rfl)) hs.defers ⟨by subst hr4 hr5; rw [← hx, ← fsub_no hd6 hc7 (fun h => hp12 ((bor01 hc7).2 h))], (hs.bel rfl)⟩
theorem fneg_c (a x : Nat) (ha : a < 2 ^ 256) (hx : fsub 0 a = x) (w0 : World) : Calls Try.prog 60 #[W a] w0 fun e w' => e = .returned (W x) ∧ Below w0.heap.size w0 w' := by
  refine enter (n := 6) (args := [W a]) Try.func60 rfl rfl (Nat.le_of_ble_eq_true rfl) fun ac hs => ?_
  refine wp_seq ?_
  refine wp_region_lit ?_
  refine lstep (wpO_plain rfl (op_box hs none none (cs := (Wl a)) rfl rfl rfl rfl rfl rfl fun g1 ac w hs => ?_))
  refine lstep (wpO_plain rfl (op_alloc hs none none (cs := [.int .u64 0, .int .u64 0, .int .u64 0, .int .u64 0]) rfl rfl Try.zeroValue24 (by kernel_rfl) rfl rfl fun g2 ac w hs => ?_))
  refine wpList_nil ?_
  refine then_n ?_
  refine wp_seq ?_
  refine wp_region_lit ?_
  refine lstep (wpO_plain rfl (op_build hs none (qs := []) (v := .agg #[.int .u64 0, .int .u64 0, .int .u64 0, .int .u64 0]) rfl rfl rfl rfl (fun _ => by kernel_rfl) rfl fun ac hs => ?_))
  refine lstep (wpO_plain rfl (op_load hs none 0 (v := W a) rfl rfl rfl rfl Try.isAgg24 Try.sizeOf24 rfl rfl fun ac hs => ?_))
  obtain ⟨r3, hr3, lr3⟩ : ∃ z0, fsub 0 a = z0 ∧ z0 < 2 ^ 256 := ⟨_, rfl, fsub_lt _ _⟩
  refine lstep (wpO_plain rfl (op_call (F := 65) hs none (v := W r3) rfl rfl rfl rfl (Try.call65 _) (fsub_c 0 a r3 (by decide) ha hr3) rfl fun ac w hs => ?_))
  refine lstep (wpO_plain rfl (op_store hs 1 (vs := (Wl r3)) rfl rfl rfl rfl rfl Try.sizeOf24 rfl rfl rfl rfl rfl fun w hs => ?_))
  refine wpList_nil ?_
  refine then_n ?_
  refine wp_ret ?_
  exact bodyPost_ret (res1 rfl (rv_c hs 1 (v := W r3) rfl rfl Try.isAgg24 Try.sizeOf24 rfl)) hs.defers ⟨by rw [← hx, ← hr3], (hs.bel rfl)⟩
theorem scaled_c (a x q : Nat) (ha : a < 2 ^ 256) (hx' : a * Pov % 2 ^ 256 = x) (hq : a * Pov / 2 ^ 256 = q) (w0 : World) : Calls Try.prog 72 #[W a] w0 fun e w' => e = .returned (.tuple #[W x, .int .u64 ((q : Nat) : Int)]) ∧ Below w0.heap.size w0 w' := by
  refine enter (n := 34) (args := [W a]) Try.func72 rfl rfl (Nat.le_of_ble_eq_true rfl) fun ac hs => ?_
  refine wp_seq ?_
  refine wp_region_lit ?_
  refine lstep (wpO_plain rfl (op_box hs none none (cs := (Wl a)) rfl rfl rfl rfl rfl rfl fun g1 ac w hs => ?_))
  refine lstep (wpO_plain rfl (op_alloc hs none none (cs := [.int .u64 0, .int .u64 0, .int .u64 0, .int .u64 0]) rfl rfl Try.zeroValue24 (by kernel_rfl) rfl rfl fun g2 ac w hs => ?_))
  refine lstep (wpO_plain rfl (op_assign hs none rfl rfl rfl rfl fun ac hs => ?_))
  refine wpList_nil ?_
  refine then_n ?_
  refine wp_seq ?_
  refine wp_region_lit ?_
  refine lstep (wpO_plain rfl (op_alloc hs none none (cs := [.int .u64 0, .int .u64 0, .int .u64 0, .int .u64 0]) rfl rfl Try.zeroValue24 (by kernel_rfl) rfl rfl fun g3 ac w hs => ?_))
  refine wpList_nil ?_
  refine then_n ?_
  refine wp_seq ?_
  refine wp_region_lit ?_
  refine lstep (wpO_plain rfl (op_assign hs none rfl rfl rfl rfl fun ac hs => ?_))
  refine wpList_nil ?_
  refine then_n ?_
  refine wp_seq ?_
  refine wp_seq ?_
  refine wp_region_lit ?_
  refine lstep (wpO_plain rfl (op_move hs none rfl rfl rfl rfl fun ac hs => ?_))
  refine wpList_nil ?_
  refine then_n ?_
  refine wp_block ?_
  refine wp_loop_m (fun μ ac w => ∃ (k : Nat) (v : Nat) (f : Nat → Nat), (4 - k) = μ ∧ (k ≤ 4) ∧ (v = scC a k) ∧ (∀ j, j < k → f j = limN (a * Pov) j) ∧ St 34 w0 [(1, true, .pointer (some ⟨g1, 0, none⟩)), (2, true, .pointer (some ⟨g2, 0, none⟩)), (4, true, .pointer (some ⟨g3, 0, none⟩)), (5, true, .int .u64 ((v : Nat) : Int)), (10, true, .int .i64 ((k : Nat) : Int))] [(true, g1, 24, (Wl a)), (true, g2, 24, [.int .u64 0, .int .u64 0, .int .u64 0, .int .u64 0]), (true, g3, 24, (tab .u64 4 f))] ac w) ?_ ?_
  · exact ⟨_, 0, 0, (fun _ => 0), rfl, (by omega), (scC_zero a).symm, (fun j hj => by omega), (hs.re ⟨rfl, rfl, rfl, rfl, rfl, trivial⟩)⟩
  intro μ ac w ⟨k, v, f, hμ, hk, hv, hf, hs⟩
  have hvl : v < 4294968273 := by rw [hv]; exact scC_lt a k
  refine wp_seq ?_
  refine wp_region_lit ?_
  refine lstep (wpO_plain rfl (op_bin hs none (v := .bool (decide (k < 4))) rfl rfl rfl rfl (fun _ => rfl) (bin_lssN (x := k) (y := 4)) rfl fun ac hs => ?_))
  refine wpList_nil ?_
  refine then_n ?_
  refine wp_seq ?_
  refine wp_cond_split (hs.ev rfl) (fun hc => ?_) (fun hc => ?_)
  · skip
    have hp4 := of_decide_eq_true hc
    have hlt : k < 4 := of_decide_eq_true hc
    have hml := Nat.mul_lt_mul_of_pos_right (limN_lt a k) (show 0 < 4294968273 by decide)
    refine wp_skip ?_
    refine then_n ?_
    refine wp_seq ?_
    refine wp_block ?_
    refine wp_seq ?_
    refine wp_region_lit ?_
    refine lstep (wpO_plain rfl (op_move hs none rfl rfl rfl rfl fun ac hs => ?_))
    refine lstep (wpO_plain rfl (op_assign hs none rfl rfl rfl rfl fun ac hs => ?_))
    refine wpList_nil ?_
    refine then_n ?_
    refine wp_seq ?_
    refine wp_region_lit ?_
    refine lstep (wpO_plain rfl (op_move hs none rfl rfl rfl rfl fun ac hs => ?_))
    refine lstep (wpO_plain rfl (op_idxA hs none (j := k) rfl rfl rfl rfl Try.underlying24 Try.sizeOf22 (show k < 4 by omega) (off := k) (by omega) rfl fun ac hs => ?_))
    have l5 := limN_lt a k
    refine lstep (wpO_plain rfl (op_load hs none 0 (v := .int .u64 ((limN a k : Nat) : Int)) rfl rfl rfl rfl Try.isAgg22 Try.sizeOf22 (Wl_get (j := k) (show k < 4 by omega)) rfl fun ac hs => ?_))
    obtain ⟨mh6, hmh6⟩ : ∃ z0, (limN a k) * 4294968273 / 18446744073709551616 = z0 := ⟨_, rfl⟩
    obtain ⟨ml7, hml7⟩ : ∃ z0, (limN a k) * 4294968273 % 18446744073709551616 = z0 := ⟨_, rfl⟩
    have lml7 : ml7 < 18446744073709551616 := by rw [← hml7]; exact Nat.mod_lt _ (by decide)
    refine lstep (wpO_plain rfl (op_call (F := 69) hs none (v := .tuple #[.int .u64 ((mh6 : Nat) : Int), .int .u64 ((ml7 : Nat) : Int)]) rfl rfl rfl rfl (Try.call69 _) (mul64_c (limN a k) 4294968273 mh6 ml7 (show limN a k < 18446744073709551616 by omega) (by decide) hmh6 hml7) rfl fun ac w hs => ?_))
    refine lstep (wpO_plain rfl (op_move hs none rfl rfl rfl rfl fun ac hs => ?_))
    refine lstep (wpO_plain rfl (op_extract hs none rfl rfl rfl rfl rfl fun ac hs => ?_))
    refine lstep (wpO_plain rfl (op_extract hs none rfl rfl rfl rfl rfl fun ac hs => ?_))
    refine lstep (wpO_plain rfl (op_assign hs none rfl rfl rfl rfl fun ac hs => ?_))
    refine lstep (wpO_plain rfl (op_assign hs none rfl rfl rfl rfl fun ac hs => ?_))
    refine wpList_nil ?_
    refine then_n ?_
    refine wp_seq ?_
    replace hs : St 34 w0 [(1, true, .pointer (some ⟨g1, 0, none⟩)), (2, true, .pointer (some ⟨g2, 0, none⟩)), (4, true, .pointer (some ⟨g3, 0, none⟩)), (5, true, .int .u64 ((v : Nat) : Int)), (10, true, .int .i64 ((k : Nat) : Int)), (6, true, .int .i64 ((k : Nat) : Int)), (7, true, .int .u64 ((mh6 : Nat) : Int)), (8, true, .int .u64 ((ml7 : Nat) : Int))] [(true, g1, 24, (Wl a)), (true, g2, 24, [.int .u64 0, .int .u64 0, .int .u64 0, .int .u64 0]), (true, g3, 24, (tab .u64 4 f))] ac _ := hs.re ⟨rfl, rfl, rfl, rfl, rfl, rfl, rfl, rfl, trivial⟩
    refine wp_region_lit ?_
    refine lstep (wpO_plain rfl (op_assign hs none rfl rfl rfl rfl fun ac hs => ?_))
    refine wpList_nil ?_
    refine then_n ?_
    refine wp_seq ?_
    refine wp_region_lit ?_
    refine lstep (wpO_plain rfl (op_move hs none rfl rfl rfl rfl fun ac hs => ?_))
    refine lstep (wpO_plain rfl (op_move hs none rfl rfl rfl rfl fun ac hs => ?_))
    refine lstep (wpO_plain rfl (op_move hs none rfl rfl rfl rfl fun ac hs => ?_))
    obtain ⟨as8, has8⟩ : ∃ z0, (ml7 + v) % 18446744073709551616 = z0 := ⟨_, rfl⟩
    obtain ⟨ac9, hac9⟩ : ∃ z0, (ml7 + v) / 18446744073709551616 = z0 := ⟨_, rfl⟩
    refine lstep (wpO_plain rfl (op_ext (F := 49) hs none rfl rfl rfl rfl (addc_at ml7 v as8 ac9 has8 hac9) rfl fun ac hs => ?_))
    refine lstep (wpO_plain rfl (op_move hs none rfl rfl rfl rfl fun ac hs => ?_))
    refine lstep (wpO_plain rfl (op_extract hs none rfl rfl rfl rfl rfl fun ac hs => ?_))
    refine lstep (wpO_plain rfl (op_extract hs none rfl rfl rfl rfl rfl fun ac hs => ?_))
    refine lstep (wpO_plain rfl (op_idxA hs none (j := k) rfl rfl rfl rfl Try.underlying24 Try.sizeOf22 (show k < 4 by omega) (off := k) (by omega) rfl fun ac hs => ?_))
    refine lstep (wpO_plain rfl (op_store hs 2 (vs := [.int .u64 ((as8 : Nat) : Int)]) rfl rfl rfl rfl rfl Try.sizeOf22 rfl rfl rfl (tab_le (j := k) (show k < 4 by omega)) (tab_set) fun w hs => ?_))
    refine lstep (wpO_plain rfl (op_assign hs none rfl rfl rfl rfl fun ac hs => ?_))
    refine wpList_nil ?_
    refine then_n ?_
    replace hs : St 34 w0 [(1, true, .pointer (some ⟨g1, 0, none⟩)), (2, true, .pointer (some ⟨g2, 0, none⟩)), (4, true, .pointer (some ⟨g3, 0, none⟩)), (5, true, .int .u64 ((v : Nat) : Int)), (10, true, .int .i64 ((k : Nat) : Int)), (7, true, .int .u64 ((mh6 : Nat) : Int)), (9, true, .int .u64 ((ac9 : Nat) : Int))] [(true, g1, 24, (Wl a)), (true, g2, 24, [.int .u64 0, .int .u64 0, .int .u64 0, .int .u64 0]), (true, g3, 24, (tab .u64 4 (upn f k as8)))] ac _ := hs.re ⟨rfl, rfl, rfl, rfl, rfl, rfl, rfl, trivial⟩
    refine wp_region_lit ?_
    refine lstep (wpO_plain rfl (op_move hs none rfl rfl rfl rfl fun ac hs => ?_))
    refine lstep (wpO_plain rfl (op_move hs none rfl rfl rfl rfl fun ac hs => ?_))
    refine lstep (wpO_plain rfl (op_bin hs none (v := .int .u64 ((mh6 + ac9 : Nat) : Int)) rfl rfl rfl rfl (fun _ => rfl) (bin_addN (x := mh6) (y := ac9) (z := mh6 + ac9) rfl (show mh6 + ac9 < 18446744073709551616 by omega)) rfl fun ac hs => ?_))
    refine lstep (wpO_plain rfl (op_assign hs none rfl rfl rfl rfl fun ac hs => ?_))
    refine wpList_nil ?_
    refine blk_n ?_
    refine then_n ?_
    refine wp_region_lit ?_
    refine lstep (wpO_plain rfl (op_bin hs none (v := .int .i64 ((k + 1 : Nat) : Int)) rfl rfl rfl rfl (fun _ => rfl) (bin_addN (x := k) (y := 1) (z := k + 1) rfl (show k + 1 < 9223372036854775808 by omega)) rfl fun ac hs => ?_))
    refine lstep (wpO_plain rfl (op_move hs none rfl rfl rfl rfl fun ac hs => ?_))
    refine wpList_nil ?_
    refine then_n ?_
    exact ⟨_, ⟨(k + 1), (mh6 + ac9), (upn f k as8), rfl, hlt, (scC_step hmh6 hml7 hv has8 hac9), (sc_f hlt (scC_dig hml7 hv has8) hf), (hs.re ⟨rfl, rfl, rfl, rfl, rfl, trivial⟩)⟩, (by omega)⟩
  · skip
    have hp10 := of_decide_eq_false hc
    obtain rfl : k = 4 := by omega
    replace hs := hs.setb 2 (cs' := Wl x) rfl (by rw [tab_Wl hf]; exact (Wl_mod hx').symm)
    refine wp_exit ?_
    refine then_e ?_
    refine then_e ?_
    refine blk_e ?_
    refine then_n ?_
    refine wp_seq ?_
    refine wp_region_lit ?_
    refine lstep (wpO_plain rfl (op_load hs none 2 (v := W x) rfl rfl rfl rfl Try.isAgg24 Try.sizeOf24 rfl rfl fun ac hs => ?_))
    refine lstep (wpO_plain rfl (op_move hs none rfl rfl rfl rfl fun ac hs => ?_))
    refine lstep (wpO_plain rfl (op_store hs 1 (vs := (Wl x)) rfl rfl rfl rfl rfl Try.sizeOf24 rfl rfl rfl rfl rfl fun w hs => ?_))
    refine lstep (wpO_plain rfl (op_assign hs none rfl rfl rfl rfl fun ac hs => ?_))
    refine wpList_nil ?_
    refine then_n ?_
    refine wp_ret ?_
    exact bodyPost_ret (res2 rfl (rv_c hs 1 (v := W x) rfl rfl Try.isAgg24 Try.sizeOf24 rfl) (rv_t hs rfl)) hs.defers ⟨by rw [hv, scC_fin ha hq], (hs.bel rfl)⟩
theorem fmul_c (a b x : Nat) (ha : a < 2 ^ 256) (hb : b < 2 ^ 256) (hx : a * b % Pf = x) (w0 : World) : Calls Try.prog 58 #[W a, W b] w0 fun e w' => e = .returned (W x) ∧ Below w0.heap.size w0 w' := by
  refine enter (n := 44) (args := [W a, W b]) Try.func58 rfl rfl (Nat.le_of_ble_eq_true rfl) fun ac hs => ?_
  refine wp_seq ?_
  refine wp_region_lit ?_
  refine lstep (wpO_plain rfl (op_box hs none none (cs := (Wl a)) rfl rfl rfl rfl rfl rfl fun g1 ac w hs => ?_))
  refine lstep (wpO_plain rfl (op_box hs none none (cs := (Wl b)) rfl rfl rfl rfl rfl rfl fun g2 ac w hs => ?_))
  refine lstep (wpO_plain rfl (op_alloc hs none none (cs := [.int .u64 0, .int .u64 0, .int .u64 0, .int .u64 0]) rfl rfl Try.zeroValue24 (by kernel_rfl) rfl rfl fun g3 ac w hs => ?_))
  refine wpList_nil ?_
  refine then_n ?_
  refine wp_seq ?_
  refine wp_region_lit ?_
  refine lstep (wpO_plain rfl (op_load hs none 0 (v := W a) rfl rfl rfl rfl Try.isAgg24 Try.sizeOf24 rfl rfl fun ac hs => ?_))
  refine lstep (wpO_plain rfl (op_load hs none 1 (v := W b) rfl rfl rfl rfl Try.isAgg24 Try.sizeOf24 rfl rfl fun ac hs => ?_))
  obtain ⟨lo4, hlo4, llo4⟩ : ∃ z0, a * b % 2 ^ 256 = z0 ∧ z0 < 2 ^ 256 := ⟨_, rfl, Nat.mod_lt _ (Nat.two_pow_pos 256)⟩
  obtain ⟨hi5, hhi5, lhi5⟩ : ∃ z0, a * b / 2 ^ 256 = z0 ∧ z0 < 2 ^ 256 := ⟨_, rfl, mul_hi ha hb⟩
  refine lstep (wpO_plain rfl (op_call (F := 31) hs none (v := .tuple #[W lo4, W hi5]) rfl rfl rfl rfl (Try.call31 _) (fun w => wmul_at w a b lo4 hi5 ha hb hlo4 hhi5) rfl fun ac w hs => ?_))
  refine lstep (wpO_plain rfl (op_move hs none rfl rfl rfl rfl fun ac hs => ?_))
  refine lstep (wpO_plain rfl (op_extract hs none rfl rfl rfl rfl rfl fun ac hs => ?_))
  refine lstep (wpO_plain rfl (op_extract hs none rfl rfl rfl rfl rfl fun ac hs => ?_))
  refine lstep (wpO_plain rfl (op_alloc hs none none (cs := [.int .u64 0, .int .u64 0, .int .u64 0, .int .u64 0]) rfl rfl Try.zeroValue24 (by kernel_rfl) rfl rfl fun g6 ac w hs => ?_))
  refine lstep (wpO_plain rfl (op_alloc hs none none (cs := [.int .u64 0, .int .u64 0, .int .u64 0, .int .u64 0]) rfl rfl Try.zeroValue24 (by kernel_rfl) rfl rfl fun g7 ac w hs => ?_))
  refine lstep (wpO_plain rfl (op_store hs 3 (vs := (Wl lo4)) rfl rfl rfl rfl rfl Try.sizeOf24 rfl rfl rfl rfl rfl fun w hs => ?_))
  refine lstep (wpO_plain rfl (op_store hs 4 (vs := (Wl hi5)) rfl rfl rfl rfl rfl Try.sizeOf24 rfl rfl rfl rfl rfl fun w hs => ?_))
  refine wpList_nil ?_
  refine then_n ?_
  refine wp_seq ?_
  replace hs : St 44 w0 [(4, true, .pointer (some ⟨g3, 0, none⟩)), (5, true, .pointer (some ⟨g6, 0, none⟩)), (6, true, .pointer (some ⟨g7, 0, none⟩))] [(true, g1, 24, (Wl a)), (true, g2, 24, (Wl b)), (true, g3, 24, [.int .u64 0, .int .u64 0, .int .u64 0, .int .u64 0]), (true, g6, 24, (Wl lo4)), (true, g7, 24, (Wl hi5))] ac _ := hs.re ⟨rfl, rfl, rfl, trivial⟩
  refine wp_region_lit ?_
  refine lstep (wpO_plain rfl (op_load hs none 4 (v := W hi5) rfl rfl rfl rfl Try.isAgg24 Try.sizeOf24 rfl rfl fun ac hs => ?_))
  obtain ⟨f8, hf8, lf8⟩ : ∃ z0, hi5 * Pov % 2 ^ 256 = z0 ∧ z0 < 2 ^ 256 := ⟨_, rfl, Nat.mod_lt _ (Nat.two_pow_pos 256)⟩
  obtain ⟨t9, ht9⟩ : ∃ z0, hi5 * Pov / 2 ^ 256 = z0 := ⟨_, rfl⟩
  have lt9 := fold_top lhi5 ht9
  refine lstep (wpO_plain rfl (op_call (F := 72) hs none (v := .tuple #[W f8, .int .u64 ((t9 : Nat) : Int)]) rfl rfl rfl rfl (Try.call72 _) (scaled_c hi5 f8 t9 lhi5 hf8 ht9) rfl fun ac w hs => ?_))
  refine lstep (wpO_plain rfl (op_move hs none rfl rfl rfl rfl fun ac hs => ?_))
  refine lstep (wpO_plain rfl (op_extract hs none rfl rfl rfl rfl rfl fun ac hs => ?_))
  refine lstep (wpO_plain rfl (op_extract hs none rfl rfl rfl rfl rfl fun ac hs => ?_))
  refine lstep (wpO_plain rfl (op_alloc hs none none (cs := [.int .u64 0, .int .u64 0, .int .u64 0, .int .u64 0]) rfl rfl Try.zeroValue24 (by kernel_rfl) rfl rfl fun g10 ac w hs => ?_))
  refine lstep (wpO_plain rfl (op_store hs 5 (vs := (Wl f8)) rfl rfl rfl rfl rfl Try.sizeOf24 rfl rfl rfl rfl rfl fun w hs => ?_))
  refine lstep (wpO_plain rfl (op_assign hs none rfl rfl rfl rfl fun ac hs => ?_))
  refine wpList_nil ?_
  refine then_n ?_
  refine wp_seq ?_
  replace hs : St 44 w0 [(4, true, .pointer (some ⟨g3, 0, none⟩)), (5, true, .pointer (some ⟨g6, 0, none⟩)), (7, true, .pointer (some ⟨g10, 0, none⟩)), (8, true, .int .u64 ((t9 : Nat) : Int))] [(true, g1, 24, (Wl a)), (true, g2, 24, (Wl b)), (true, g3, 24, [.int .u64 0, .int .u64 0, .int .u64 0, .int .u64 0]), (true, g6, 24, (Wl lo4)), (true, g7, 24, (Wl hi5)), (true, g10, 24, (Wl f8))] ac _ := hs.re ⟨rfl, rfl, rfl, rfl, trivial⟩
  refine wp_region_lit ?_
  refine lstep (wpO_plain rfl (op_load hs none 3 (v := W lo4) rfl rfl rfl rfl Try.isAgg24 Try.sizeOf24 rfl rfl fun ac hs => ?_))
  refine lstep (wpO_plain rfl (op_load hs none 5 (v := W f8) rfl rfl rfl rfl Try.isAgg24 Try.sizeOf24 rfl rfl fun ac hs => ?_))
  obtain ⟨s11, hs11, ls11⟩ : ∃ z0, (lo4 + f8) % 2 ^ 256 = z0 ∧ z0 < 2 ^ 256 := ⟨_, rfl, Nat.mod_lt _ (Nat.two_pow_pos 256)⟩
  obtain ⟨c12, hc12⟩ : ∃ z0, (lo4 + f8) / 2 ^ 256 = z0 := ⟨_, rfl⟩
  refine lstep (wpO_plain rfl (op_call (F := 29) hs none (v := .tuple #[W s11, .int .u64 ((c12 : Nat) : Int)]) rfl rfl rfl rfl (Try.call29 _) (fun w => add_at w lo4 f8 s11 c12 llo4 lf8 hs11 hc12) rfl fun ac w hs => ?_))
  refine lstep (wpO_plain rfl (op_move hs none rfl rfl rfl rfl fun ac hs => ?_))
  refine lstep (wpO_plain rfl (op_extract hs none rfl rfl rfl rfl rfl fun ac hs => ?_))
  refine lstep (wpO_plain rfl (op_extract hs none rfl rfl rfl rfl rfl fun ac hs => ?_))
  refine lstep (wpO_plain rfl (op_alloc hs none none (cs := [.int .u64 0, .int .u64 0, .int .u64 0, .int .u64 0]) rfl rfl Try.zeroValue24 (by kernel_rfl) rfl rfl fun g13 ac w hs => ?_))
  refine lstep (wpO_plain rfl (op_store hs 6 (vs := (Wl s11)) rfl rfl rfl rfl rfl Try.sizeOf24 rfl rfl rfl rfl rfl fun w hs => ?_))
  refine lstep (wpO_plain rfl (op_assign hs none rfl rfl rfl rfl fun ac hs => ?_))
  refine wpList_nil ?_
  refine then_n ?_
  refine wp_seq ?_
  replace hs : St 44 w0 [(4, true, .pointer (some ⟨g3, 0, none⟩)), (8, true, .int .u64 ((t9 : Nat) : Int)), (9, true, .pointer (some ⟨g13, 0, none⟩)), (10, true, .int .u64 ((c12 : Nat) : Int))] [(true, g1, 24, (Wl a)), (true, g2, 24, (Wl b)), (true, g3, 24, [.int .u64 0, .int .u64 0, .int .u64 0, .int .u64 0]), (true, g6, 24, (Wl lo4)), (true, g7, 24, (Wl hi5)), (true, g10, 24, (Wl f8)), (true, g13, 24, (Wl s11))] ac _ := hs.re ⟨rfl, rfl, rfl, rfl, trivial⟩
  refine wp_region_lit ?_
  refine lstep (wpO_plain rfl (op_move hs none rfl rfl rfl rfl fun ac hs => ?_))
  refine lstep (wpO_plain rfl (op_move hs none rfl rfl rfl rfl fun ac hs => ?_))
  refine lstep (wpO_plain rfl (op_bin hs none (v := .int .u64 ((t9 + c12 : Nat) : Int)) rfl rfl rfl rfl (fun _ => rfl) (bin_addN (x := t9) (y := c12) (z := t9 + c12) rfl (top_lt llo4 lf8 hc12 lt9)) rfl fun ac hs => ?_))
  refine lstep (wpO_plain rfl (op_call (F := 25) hs none (v := W (t9 + c12)) rfl rfl rfl rfl (Try.call25 _) (fun w => from_any w (t9 + c12) (top_lt llo4 lf8 hc12 lt9)) rfl fun ac w hs => ?_))
  obtain ⟨f14, hf14, lf14⟩ : ∃ z0, (t9 + c12) * Pov % 2 ^ 256 = z0 ∧ z0 < 2 ^ 256 := ⟨_, rfl, Nat.mod_lt _ (Nat.two_pow_pos 256)⟩
  obtain ⟨t15, ht15⟩ : ∃ z0, (t9 + c12) * Pov / 2 ^ 256 = z0 := ⟨_, rfl⟩
  have lt15 := fold_top (Nat.lt_trans (top_lt llo4 lf8 hc12 lt9) (by decide)) ht15
  refine lstep (wpO_plain rfl (op_call (F := 72) hs none (v := .tuple #[W f14, .int .u64 ((t15 : Nat) : Int)]) rfl rfl rfl rfl (Try.call72 _) (scaled_c (t9 + c12) f14 t15 (Nat.lt_trans (top_lt llo4 lf8 hc12 lt9) (by decide)) hf14 ht15) rfl fun ac w hs => ?_))
  refine lstep (wpO_plain rfl (op_move hs none rfl rfl rfl rfl fun ac hs => ?_))
  refine lstep (wpO_plain rfl (op_extract hs none rfl rfl rfl rfl rfl fun ac hs => ?_))
  refine lstep (wpO_plain rfl (op_extract hs none rfl rfl rfl rfl rfl fun ac hs => ?_))
  refine lstep (wpO_plain rfl (op_alloc hs none none (cs := [.int .u64 0, .int .u64 0, .int .u64 0, .int .u64 0]) rfl rfl Try.zeroValue24 (by kernel_rfl) rfl rfl fun g16 ac w hs => ?_))
  refine lstep (wpO_plain rfl (op_store hs 7 (vs := (Wl f14)) rfl rfl rfl rfl rfl Try.sizeOf24 rfl rfl rfl rfl rfl fun w hs => ?_))
  refine lstep (wpO_plain rfl (op_assign hs none rfl rfl rfl rfl fun ac hs => ?_))
  refine wpList_nil ?_
  refine then_n ?_
  refine wp_seq ?_
  replace hs : St 44 w0 [(4, true, .pointer (some ⟨g3, 0, none⟩)), (9, true, .pointer (some ⟨g13, 0, none⟩)), (11, true, .pointer (some ⟨g16, 0, none⟩))] [(true, g1, 24, (Wl a)), (true, g2, 24, (Wl b)), (true, g3, 24, [.int .u64 0, .int .u64 0, .int .u64 0, .int .u64 0]), (true, g6, 24, (Wl lo4)), (true, g7, 24, (Wl hi5)), (true, g10, 24, (Wl f8)), (true, g13, 24, (Wl s11)), (true, g16, 24, (Wl f14))] ac _ := hs.re ⟨rfl, rfl, rfl, trivial⟩
  refine wp_region_lit ?_
  refine lstep (wpO_plain rfl (op_load hs none 6 (v := W s11) rfl rfl rfl rfl Try.isAgg24 Try.sizeOf24 rfl rfl fun ac hs => ?_))
  refine lstep (wpO_plain rfl (op_load hs none 7 (v := W f14) rfl rfl rfl rfl Try.isAgg24 Try.sizeOf24 rfl rfl fun ac hs => ?_))
  obtain ⟨s17, hs17, ls17⟩ : ∃ z0, (s11 + f14) % 2 ^ 256 = z0 ∧ z0 < 2 ^ 256 := ⟨_, rfl, Nat.mod_lt _ (Nat.two_pow_pos 256)⟩
  obtain ⟨c18, hc18⟩ : ∃ z0, (s11 + f14) / 2 ^ 256 = z0 := ⟨_, rfl⟩
  refine lstep (wpO_plain rfl (op_call (F := 29) hs none (v := .tuple #[W s17, .int .u64 ((c18 : Nat) : Int)]) rfl rfl rfl rfl (Try.call29 _) (fun w => add_at w s11 f14 s17 c18 ls11 lf14 hs17 hc18) rfl fun ac w hs => ?_))
  refine lstep (wpO_plain rfl (op_extract hs none rfl rfl rfl rfl rfl fun ac hs => ?_))
  refine lstep (wpO_plain rfl (op_extract hs none rfl rfl rfl rfl rfl fun ac hs => ?_))
  obtain ⟨r19, hr19, lr19⟩ : ∃ z0, (s17 + 2 ^ 256 * c18) % Pf = z0 ∧ z0 < 2 ^ 256 := ⟨_, rfl, modP_lt _⟩
  refine lstep (wpO_plain rfl (op_call (F := 73) hs none (v := W r19) rfl rfl rfl rfl (Try.call73 _) (lift_c s17 c18 r19 ls17 (fmul_pre llo4 lf8 hc12 lt9 hf14 ls11 hs17 hc18) hr19) rfl fun ac w hs => ?_))
  refine lstep (wpO_plain rfl (op_store hs 2 (vs := (Wl r19)) rfl rfl rfl rfl rfl Try.sizeOf24 rfl rfl rfl rfl rfl fun w hs => ?_))
  refine wpList_nil ?_
  refine then_n ?_
  refine wp_ret ?_
  exact bodyPost_ret (res1 rfl (rv_c hs 2 (v := W r19) rfl rfl Try.isAgg24 Try.sizeOf24 rfl)) hs.defers ⟨by rw [← hx, ← hr19, fmul_fin hlo4 hhi5 llo4 lf8 lt9 hf8 ht9 hs11 hc12 hf14 hs17 hc18], (hs.bel rfl)⟩
theorem fpow_c (a n x : Nat) (ha : a < 2 ^ 256) (hn : n < 2 ^ 256) (hx : a ^ n % Pf = x) (w0 : World) : Calls Try.prog 56 #[W a, W n] w0 fun e w' => e = .returned (W x) ∧ Below w0.heap.size w0 w' := by
  refine enter (n := 33) (args := [W a, W n]) Try.func56 rfl rfl (Nat.le_of_ble_eq_true rfl) fun ac hs => ?_
  refine wp_seq ?_
  refine wp_region_lit ?_
  refine lstep (wpO_plain rfl (op_box hs none none (cs := (Wl a)) rfl rfl rfl rfl rfl rfl fun g1 ac w hs => ?_))
  refine lstep (wpO_plain rfl (op_box hs none none (cs := (Wl n)) rfl rfl rfl rfl rfl rfl fun g2 ac w hs => ?_))
  refine lstep (wpO_plain rfl (op_alloc hs none none (cs := [.int .u64 0, .int .u64 0, .int .u64 0, .int .u64 0]) rfl rfl Try.zeroValue24 (by kernel_rfl) rfl rfl fun g3 ac w hs => ?_))
  refine wpList_nil ?_
  refine then_n ?_
  refine wp_seq ?_
  replace hs : St 33 w0 [(2, true, .pointer (some ⟨g1, 0, none⟩)), (3, true, .pointer (some ⟨g2, 0, none⟩)), (4, true, .pointer (some ⟨g3, 0, none⟩))] [(true, g1, 24, (Wl a)), (true, g2, 24, (Wl n)), (true, g3, 24, [.int .u64 0, .int .u64 0, .int .u64 0, .int .u64 0])] ac _ := hs.re ⟨rfl, rfl, rfl, trivial⟩
  obtain ⟨r4, hr4, lr4⟩ : ∃ z0, a % Pf = z0 ∧ z0 < 2 ^ 256 := ⟨_, rfl, modP_lt _⟩
  refine region_inv [([], [2, 5, 6]), ([], [2, 5, 6]), ([0, 1], [5, 6]), ([], [5, 6]), ([], [5, 6]), ([0, 1, 2, 3, 4], [6]), ([0, 1, 2, 3, 4, 5], [])] (fun L ac w => ∃ (g5 : Nat) (g6 : Nat), St 33 w0 [(8, L 0, W 1), (9, L 1, W a), (10, L 2, W r4), (5, L 3, .pointer (some ⟨g5, 0, none⟩)), (6, L 4, .pointer (some ⟨g6, 0, none⟩)), (2, true, .pointer (some ⟨g1, 0, none⟩)), (3, true, .pointer (some ⟨g2, 0, none⟩)), (4, true, .pointer (some ⟨g3, 0, none⟩))] [(true, g1, 24, (Wl a)), (true, g2, 24, (Wl n)), (true, g3, 24, [.int .u64 0, .int .u64 0, .int .u64 0, .int .u64 0]), (L 3, g5, 24, (cond (L 5) (Wl 1) [.int .u64 0, .int .u64 0, .int .u64 0, .int .u64 0])), (L 4, g6, 24, (cond (L 6) (Wl r4) [.int .u64 0, .int .u64 0, .int .u64 0, .int .u64 0]))] ac w) (by kernel_rfl) (by kernel_rfl) ?_ ?_ ?_
  · exact ⟨0, 0, hs.drew.skip.skip.skip.skip.skip.pad.pad⟩
  · refine ⟨?_, ?_, ?_, ?_, ?_, ?_, ?_, trivial⟩
    · intro L ac w hJ
      obtain ⟨g5, g6, hs⟩ := hJ
      refine wpO_plain rfl (op_call (F := 25) hs (some 0) (v := W 1) rfl rfl rfl rfl (Try.call25 _) (fun w => from_any w 1 (by decide)) rfl fun ac w hs => ?_)
      exact ⟨g5, g6, hs⟩
    · intro L ac w hJ
      obtain ⟨g5, g6, hs⟩ := hJ
      refine wpO_plain rfl (op_load hs (some 1) 0 (v := W a) rfl rfl rfl rfl Try.isAgg24 Try.sizeOf24 rfl rfl fun ac hs => ?_)
      exact ⟨g5, g6, hs⟩
    · intro L ac w hJ
      obtain ⟨g5, g6, hs⟩ := hJ
      refine wpO_plain rfl (op_call (F := 59) hs (some 2) (v := W r4) rfl rfl rfl rfl (Try.call59 _) (fred_c a r4 ha hr4) rfl fun ac w hs => ?_)
      exact ⟨g5, g6, hs⟩
    · intro L ac w hJ
      obtain ⟨g5, g6, hs⟩ := hJ
      refine wpO_plain rfl (op_alloc hs (some 3) (some 3) (cs := [.int .u64 0, .int .u64 0, .int .u64 0, .int .u64 0]) rfl rfl Try.zeroValue24 (by kernel_rfl) rfl rfl fun g5 ac w hs => ?_)
      exact ⟨g5, g6, hs⟩
    · intro L ac w hJ
      obtain ⟨g5, g6, hs⟩ := hJ
      refine wpO_plain rfl (op_alloc hs (some 4) (some 4) (cs := [.int .u64 0, .int .u64 0, .int .u64 0, .int .u64 0]) rfl rfl Try.zeroValue24 (by kernel_rfl) rfl rfl fun g6 ac w hs => ?_)
      exact ⟨g5, g6, hs⟩
    · intro L ac w hJ
      obtain ⟨g5, g6, hs⟩ := hJ
      refine wpO_plain rfl (op_store hs 3 (vs := (Wl 1)) rfl rfl rfl rfl rfl Try.sizeOf24 rfl rfl rfl rfl rfl fun w hs => ?_)
      exact ⟨g5, g6, hs⟩
    · intro L ac w hJ
      obtain ⟨g5, g6, hs⟩ := hJ
      refine wpO_plain rfl (op_store hs 4 (vs := (Wl r4)) rfl rfl rfl rfl rfl Try.sizeOf24 rfl rfl rfl rfl rfl fun w hs => ?_)
      exact ⟨g5, g6, hs⟩
  intro ac w hJ
  obtain ⟨g5, g6, hs⟩ := hJ
  replace hs : St 33 w0 [(8, true, W 1), (9, true, W a), (10, true, W r4), (5, true, .pointer (some ⟨g5, 0, none⟩)), (6, true, .pointer (some ⟨g6, 0, none⟩)), (2, true, .pointer (some ⟨g1, 0, none⟩)), (3, true, .pointer (some ⟨g2, 0, none⟩)), (4, true, .pointer (some ⟨g3, 0, none⟩))] [(true, g1, 24, (Wl a)), (true, g2, 24, (Wl n)), (true, g3, 24, [.int .u64 0, .int .u64 0, .int .u64 0, .int .u64 0]), (true, g5, 24, (Wl 1)), (true, g6, 24, (Wl r4))] ac w := hs
  refine then_n ?_
  refine wp_seq ?_
  refine wp_seq ?_
  refine wp_region_lit ?_
  refine lstep (wpO_plain rfl (op_load hs none 1 (v := W n) rfl rfl rfl rfl Try.isAgg24 Try.sizeOf24 rfl rfl fun ac hs => ?_))
  have ll7 := ln_le n 256 hn
  refine lstep (wpO_plain rfl (op_call (F := 44) hs none (v := .int .i64 ((ln n : Nat) : Int)) rfl rfl rfl rfl (Try.call44 _) (fun w => len_any w n hn) rfl fun ac w hs => ?_))
  refine lstep (wpO_plain rfl (op_move hs none rfl rfl rfl rfl fun ac hs => ?_))
  refine wpList_nil ?_
  refine then_n ?_
  refine wp_block ?_
  refine wp_loop_m (fun μ ac w => ∃ (i : Nat) (o : Nat) (p : Nat), (ln n - i) = μ ∧ (i ≤ ln n) ∧ (o < 2 ^ 256) ∧ (p < 2 ^ 256) ∧ (r4 ^ (n % 2 ^ i) % Pf = o) ∧ (r4 ^ (2 ^ i) % Pf = p) ∧ St 33 w0 [(2, true, .pointer (some ⟨g1, 0, none⟩)), (3, true, .pointer (some ⟨g2, 0, none⟩)), (4, true, .pointer (some ⟨g3, 0, none⟩)), (5, true, .pointer (some ⟨g5, 0, none⟩)), (6, true, .pointer (some ⟨g6, 0, none⟩)), (12, true, .int .i64 ((ln n : Nat) : Int)), (13, true, .int .i64 ((i : Nat) : Int))] [(true, g1, 24, (Wl a)), (true, g2, 24, (Wl n)), (true, g3, 24, [.int .u64 0, .int .u64 0, .int .u64 0, .int .u64 0]), (true, g5, 24, (Wl o)), (true, g6, 24, (Wl p))] ac w) ?_ ?_
  · exact ⟨_, 0, 1, r4, rfl, (Nat.zero_le _), (by decide), lr4, (pow_start (by decide)), (pow_start2 (hr4 ▸ Nat.mod_lt _ Pf_pos)), (hs.re ⟨rfl, rfl, rfl, rfl, rfl, rfl, rfl, trivial⟩)⟩
  intro μ ac w ⟨i, o, p, hμ, hi, lo, lp, ho, hp, hs⟩
  refine wp_seq ?_
  refine wp_region_lit ?_
  refine lstep (wpO_plain rfl (op_bin hs none (v := .bool (decide (i < ln n))) rfl rfl rfl rfl (fun _ => rfl) (bin_lssN (x := i) (y := ln n)) rfl fun ac hs => ?_))
  refine wpList_nil ?_
  refine then_n ?_
  refine wp_seq ?_
  refine wp_cond_split (hs.ev rfl) (fun hc => ?_) (fun hc => ?_)
  · skip
    have hp8 := of_decide_eq_true hc
    have hlt : i < ln n := of_decide_eq_true hc
    refine wp_skip ?_
    refine then_n ?_
    refine wp_seq ?_
    refine wp_block ?_
    refine wp_seq ?_
    refine wp_region_lit ?_
    refine lstep (wpO_plain rfl (op_move hs none rfl rfl rfl rfl fun ac hs => ?_))
    refine lstep (wpO_plain rfl (op_assign hs none rfl rfl rfl rfl fun ac hs => ?_))
    refine wpList_nil ?_
    refine then_n ?_
    refine wp_seq ?_
    refine wp_seq ?_
    refine wp_region_lit ?_
    refine lstep (wpO_plain rfl (op_move hs none rfl rfl rfl rfl fun ac hs => ?_))
    refine lstep (wpO_plain rfl (op_bin hs none (v := .int .i64 ((i / 64 : Nat) : Int)) rfl rfl rfl rfl (fun _ => rfl) (bin_quoN (x := i) (y := 64) (z := i / 64) rfl (by decide) (show i < 9223372036854775808 by omega)) rfl fun ac hs => ?_))
    refine lstep (wpO_plain rfl (op_idxA hs none (j := i / 64) rfl rfl rfl rfl Try.underlying24 Try.sizeOf22 (show i / 64 < 4 by omega) (off := i / 64) (by omega) rfl fun ac hs => ?_))
    have l9 := limN_lt n (i / 64)
    refine lstep (wpO_plain rfl (op_load hs none 1 (v := .int .u64 ((limN n (i / 64) : Nat) : Int)) rfl rfl rfl rfl Try.isAgg22 Try.sizeOf22 (Wl_get (j := i / 64) (show i / 64 < 4 by omega)) rfl fun ac hs => ?_))
    refine lstep (wpO_plain rfl (op_move hs none rfl rfl rfl rfl fun ac hs => ?_))
    refine lstep (wpO_plain rfl (op_bin hs none (v := .int .i64 ((i % 64 : Nat) : Int)) rfl rfl rfl rfl (fun _ => rfl) (bin_remN (x := i) (y := 64) (z := i % 64) rfl (by decide)) rfl fun ac hs => ?_))
    refine lstep (wpO_plain rfl (op_bin hs none (v := .int .u64 (((limN n (i / 64)) / 2 ^ (i % 64) : Nat) : Int)) rfl rfl rfl rfl (fun _ => rfl) (bin_shrN (x := limN n (i / 64)) (y := i % 64) (z := (limN n (i / 64)) / 2 ^ (i % 64)) rfl (limN_lt _ _)) rfl fun ac hs => ?_))
    refine lstep (wpO_plain rfl (op_bin hs none (v := .int .u64 ((((limN n (i / 64)) / 2 ^ (i % 64)) % 2 : Nat) : Int)) rfl rfl rfl rfl (fun _ => rfl) (bin_andN (x := (limN n (i / 64)) / 2 ^ (i % 64)) (y := 1) (z := ((limN n (i / 64)) / 2 ^ (i % 64)) % 2) (Nat.and_two_pow_sub_one_eq_mod ((limN n (i / 64)) / 2 ^ (i % 64)) 1) (shr_lt (limN_lt _ _)) (by decide) (show ((limN n (i / 64)) / 2 ^ (i % 64)) % 2 < 18446744073709551616 by omega)) rfl fun ac hs => ?_))
    refine lstep (wpO_plain rfl (op_bin hs none (v := .bool (decide (((limN n (i / 64)) / 2 ^ (i % 64)) % 2 ≠ 0))) rfl rfl rfl rfl (fun _ => rfl) (bin_neqN (x := ((limN n (i / 64)) / 2 ^ (i % 64)) % 2) (y := 0)) rfl fun ac hs => ?_))
    refine wpList_nil ?_
    refine then_n ?_
    refine wp_cond_split (hs.ev rfl) (fun hc => ?_) (fun hc => ?_)
    · skip
      have hp10 := of_decide_eq_true hc
      replace hs : St 33 w0 [(2, true, .pointer (some ⟨g1, 0, none⟩)), (3, true, .pointer (some ⟨g2, 0, none⟩)), (4, true, .pointer (some ⟨g3, 0, none⟩)), (5, true, .pointer (some ⟨g5, 0, none⟩)), (6, true, .pointer (some ⟨g6, 0, none⟩)), (12, true, .int .i64 ((ln n : Nat) : Int)), (13, true, .int .i64 ((i : Nat) : Int))] [(true, g1, 24, (Wl a)), (true, g2, 24, (Wl n)), (true, g3, 24, [.int .u64 0, .int .u64 0, .int .u64 0, .int .u64 0]), (true, g5, 24, (Wl o)), (true, g6, 24, (Wl p))] ac _ := hs.re ⟨rfl, rfl, rfl, rfl, rfl, rfl, rfl, trivial⟩
      refine wp_region_lit ?_
      refine lstep (wpO_plain rfl (op_load hs none 3 (v := W o) rfl rfl rfl rfl Try.isAgg24 Try.sizeOf24 rfl rfl fun ac hs => ?_))
      refine lstep (wpO_plain rfl (op_load hs none 4 (v := W p) rfl rfl rfl rfl Try.isAgg24 Try.sizeOf24 rfl rfl fun ac hs => ?_))
      obtain ⟨r11, hr11, lr11⟩ : ∃ z0, o * p % Pf = z0 ∧ z0 < 2 ^ 256 := ⟨_, rfl, modP_lt _⟩
      refine lstep (wpO_plain rfl (op_call (F := 58) hs none (v := W r11) rfl rfl rfl rfl (Try.call58 _) (fmul_c o p r11 lo lp hr11) rfl fun ac w hs => ?_))
      refine lstep (wpO_plain rfl (op_store hs 3 (vs := (Wl r11)) rfl rfl rfl rfl rfl Try.sizeOf24 rfl rfl rfl rfl rfl fun w hs => ?_))
      refine wpList_nil ?_
      refine then_n ?_
      refine wp_region_lit ?_
      refine lstep (wpO_plain rfl (op_load hs none 4 (v := W p) rfl rfl rfl rfl Try.isAgg24 Try.sizeOf24 rfl rfl fun ac hs => ?_))
      refine lstep (wpO_plain rfl (op_load hs none 4 (v := W p) rfl rfl rfl rfl Try.isAgg24 Try.sizeOf24 rfl rfl fun ac hs => ?_))
      obtain ⟨r12, hr12, lr12⟩ : ∃ z0, p * p % Pf = z0 ∧ z0 < 2 ^ 256 := ⟨_, rfl, modP_lt _⟩
      refine lstep (wpO_plain rfl (op_call (F := 58) hs none (v := W r12) rfl rfl rfl rfl (Try.call58 _) (fmul_c p p r12 lp lp hr12) rfl fun ac w hs => ?_))
      refine lstep (wpO_plain rfl (op_store hs 4 (vs := (Wl r12)) rfl rfl rfl rfl rfl Try.sizeOf24 rfl rfl rfl rfl rfl fun w hs => ?_))
      refine wpList_nil ?_
      refine blk_n ?_
      refine then_n ?_
      replace hs : St 33 w0 [(2, true, .pointer (some ⟨g1, 0, none⟩)), (3, true, .pointer (some ⟨g2, 0, none⟩)), (4, true, .pointer (some ⟨g3, 0, none⟩)), (5, true, .pointer (some ⟨g5, 0, none⟩)), (6, true, .pointer (some ⟨g6, 0, none⟩)), (12, true, .int .i64 ((ln n : Nat) : Int)), (13, true, .int .i64 ((i : Nat) : Int))] [(true, g1, 24, (Wl a)), (true, g2, 24, (Wl n)), (true, g3, 24, [.int .u64 0, .int .u64 0, .int .u64 0, .int .u64 0]), (true, g5, 24, (Wl r11)), (true, g6, 24, (Wl r12))] ac _ := hs.re ⟨rfl, rfl, rfl, rfl, rfl, rfl, rfl, trivial⟩
      refine wp_region_lit ?_
      refine lstep (wpO_plain rfl (op_bin hs none (v := .int .i64 ((i + 1 : Nat) : Int)) rfl rfl rfl rfl (fun _ => rfl) (bin_addN (x := i) (y := 1) (z := i + 1) rfl (show i + 1 < 9223372036854775808 by omega)) rfl fun ac hs => ?_))
      refine lstep (wpO_plain rfl (op_move hs none rfl rfl rfl rfl fun ac hs => ?_))
      refine wpList_nil ?_
      refine then_n ?_
      exact ⟨_, ⟨(i + 1), r11, r12, rfl, hlt, lr11, lr12, (pow_yes ho hp hr11 (by rw [← bit_lim]; exact hp10)), (pow_sq hp hr12), (hs.re ⟨rfl, rfl, rfl, rfl, rfl, rfl, rfl, trivial⟩)⟩, (by omega)⟩
    · skip
      have hp13 := of_decide_eq_false hc
      refine wp_skip ?_
      refine then_n ?_
      replace hs : St 33 w0 [(2, true, .pointer (some ⟨g1, 0, none⟩)), (3, true, .pointer (some ⟨g2, 0, none⟩)), (4, true, .pointer (some ⟨g3, 0, none⟩)), (5, true, .pointer (some ⟨g5, 0, none⟩)), (6, true, .pointer (some ⟨g6, 0, none⟩)), (12, true, .int .i64 ((ln n : Nat) : Int)), (13, true, .int .i64 ((i : Nat) : Int))] [(true, g1, 24, (Wl a)), (true, g2, 24, (Wl n)), (true, g3, 24, [.int .u64 0, .int .u64 0, .int .u64 0, .int .u64 0]), (true, g5, 24, (Wl o)), (true, g6, 24, (Wl p))] ac _ := hs.re ⟨rfl, rfl, rfl, rfl, rfl, rfl, rfl, trivial⟩
      refine wp_region_lit ?_
      refine lstep (wpO_plain rfl (op_load hs none 4 (v := W p) rfl rfl rfl rfl Try.isAgg24 Try.sizeOf24 rfl rfl fun ac hs => ?_))
      refine lstep (wpO_plain rfl (op_load hs none 4 (v := W p) rfl rfl rfl rfl Try.isAgg24 Try.sizeOf24 rfl rfl fun ac hs => ?_))
      obtain ⟨r14, hr14, lr14⟩ : ∃ z0, p * p % Pf = z0 ∧ z0 < 2 ^ 256 := ⟨_, rfl, modP_lt _⟩
      refine lstep (wpO_plain rfl (op_call (F := 58) hs none (v := W r14) rfl rfl rfl rfl (Try.call58 _) (fmul_c p p r14 lp lp hr14) rfl fun ac w hs => ?_))
      refine lstep (wpO_plain rfl (op_store hs 4 (vs := (Wl r14)) rfl rfl rfl rfl rfl Try.sizeOf24 rfl rfl rfl rfl rfl fun w hs => ?_))
      refine wpList_nil ?_
      refine blk_n ?_
      refine then_n ?_
      refine wp_region_lit ?_
      refine lstep (wpO_plain rfl (op_bin hs none (v := .int .i64 ((i + 1 : Nat) : Int)) rfl rfl rfl rfl (fun _ => rfl) (bin_addN (x := i) (y := 1) (z := i + 1) rfl (show i + 1 < 9223372036854775808 by omega)) rfl fun ac hs => ?_))
      refine lstep (wpO_plain rfl (op_move hs none rfl rfl rfl rfl fun ac hs => ?_))
      refine wpList_nil ?_
      refine then_n ?_
      exact ⟨_, ⟨(i + 1), o, r14, rfl, hlt, lo, lr14, (pow_no ho (by rw [← bit_lim]; exact hp13)), (pow_sq hp hr14), (hs.re ⟨rfl, rfl, rfl, rfl, rfl, rfl, rfl, trivial⟩)⟩, (by omega)⟩
  · skip
    have hp15 := of_decide_eq_false hc
    obtain rfl : i = ln n := by omega
    refine wp_exit ?_
    refine then_e ?_
    refine then_e ?_
    refine blk_e ?_
    refine then_n ?_
    refine wp_seq ?_
    refine wp_region_lit ?_
    refine lstep (wpO_plain rfl (op_load hs none 3 (v := W o) rfl rfl rfl rfl Try.isAgg24 Try.sizeOf24 rfl rfl fun ac hs => ?_))
    refine lstep (wpO_plain rfl (op_store hs 2 (vs := (Wl o)) rfl rfl rfl rfl rfl Try.sizeOf24 rfl rfl rfl rfl rfl fun w hs => ?_))
    refine wpList_nil ?_
    refine then_n ?_
    refine wp_ret ?_
    exact bodyPost_ret (res1 rfl (rv_c hs 2 (v := W o) rfl rfl Try.isAgg24 Try.sizeOf24 rfl)) hs.defers ⟨by rw [← hx, Nat.pow_mod, hr4]; exact congrArg (fun z => Ending.returned (W z)) (pow_end ho).symm, (hs.bel rfl)⟩
theorem finv_c (a x : Nat) (ha : a < 2 ^ 256) (hx : pinv Pf a = x) (w0 : World) : Calls Try.prog 68 #[W a] w0 fun e w' => e = .returned (W x) ∧ Below w0.heap.size w0 w' := by
  refine enter (n := 14) (args := [W a]) Try.func68 rfl rfl (Nat.le_of_ble_eq_true rfl) fun ac hs => ?_
  refine wp_seq ?_
  refine wp_region_lit ?_
  refine lstep (wpO_plain rfl (op_box hs none none (cs := (Wl a)) rfl rfl rfl rfl rfl rfl fun g1 ac w hs => ?_))
  refine lstep (wpO_plain rfl (op_alloc hs none none (cs := [.int .u64 0, .int .u64 0, .int .u64 0, .int .u64 0]) rfl rfl Try.zeroValue24 (by kernel_rfl) rfl rfl fun g2 ac w hs => ?_))
  refine wpList_nil ?_
  refine then_n ?_
  refine wp_seq ?_
  refine wp_region_lit ?_
  refine lstep (wpO_plain rfl (op_call (F := 55) hs none (v := W Pf) rfl rfl rfl rfl (Try.call55 _) prime_c rfl fun ac w hs => ?_))
  refine lstep (wpO_plain rfl (op_call (F := 25) hs none (v := W 2) rfl rfl rfl rfl (Try.call25 _) (fun w => from_any w 2 (by decide)) rfl fun ac w hs => ?_))
  obtain ⟨d3, hd3, ld3⟩ : ∃ z0, (Pf + 2 ^ 256 - 2) % 2 ^ 256 = z0 ∧ z0 < 2 ^ 256 := ⟨_, rfl, Nat.mod_lt _ (Nat.two_pow_pos 256)⟩
  obtain ⟨c4, hc4⟩ : ∃ z0, bor Pf 2 = z0 := ⟨_, rfl⟩
  refine lstep (wpO_plain rfl (op_call (F := 41) hs none (v := .tuple #[W d3, .int .u64 ((c4 : Nat) : Int)]) rfl rfl rfl rfl (Try.call41 _) (fun w => sub_at w Pf 2 d3 c4 Pf_lt (by decide) hd3 hc4) rfl fun ac w hs => ?_))
  refine lstep (wpO_plain rfl (op_move hs none rfl rfl rfl rfl fun ac hs => ?_))
  refine lstep (wpO_plain rfl (op_extract hs none rfl rfl rfl rfl rfl fun ac hs => ?_))
  refine lstep (wpO_plain rfl (op_extract hs none rfl rfl rfl rfl rfl fun ac hs => ?_))
  refine lstep (wpO_plain rfl (op_alloc hs none none (cs := [.int .u64 0, .int .u64 0, .int .u64 0, .int .u64 0]) rfl rfl Try.zeroValue24 (by kernel_rfl) rfl rfl fun g5 ac w hs => ?_))
  refine lstep (wpO_plain rfl (op_store hs 2 (vs := (Wl d3)) rfl rfl rfl rfl rfl Try.sizeOf24 rfl rfl rfl rfl rfl fun w hs => ?_))
  refine lstep (wpO_plain rfl (op_assign hs none rfl rfl rfl rfl fun ac hs => ?_))
  refine wpList_nil ?_
  refine then_n ?_
  refine wp_seq ?_
  replace hs : St 14 w0 [(1, true, .pointer (some ⟨g1, 0, none⟩)), (2, true, .pointer (some ⟨g2, 0, none⟩)), (3, true, .pointer (some ⟨g5, 0, none⟩))] [(true, g1, 24, (Wl a)), (true, g2, 24, [.int .u64 0, .int .u64 0, .int .u64 0, .int .u64 0]), (true, g5, 24, (Wl d3))] ac _ := hs.re ⟨rfl, rfl, rfl, trivial⟩
  refine wp_region_lit ?_
  refine lstep (wpO_plain rfl (op_load hs none 0 (v := W a) rfl rfl rfl rfl Try.isAgg24 Try.sizeOf24 rfl rfl fun ac hs => ?_))
  refine lstep (wpO_plain rfl (op_load hs none 2 (v := W d3) rfl rfl rfl rfl Try.isAgg24 Try.sizeOf24 rfl rfl fun ac hs => ?_))
  obtain ⟨r6, hr6, lr6⟩ : ∃ z0, a ^ d3 % Pf = z0 ∧ z0 < 2 ^ 256 := ⟨_, rfl, modP_lt _⟩
  refine lstep (wpO_plain rfl (op_call (F := 56) hs none (v := W r6) rfl rfl rfl rfl (Try.call56 _) (fpow_c a d3 r6 ha ld3 hr6) rfl fun ac w hs => ?_))
  refine lstep (wpO_plain rfl (op_store hs 1 (vs := (Wl r6)) rfl rfl rfl rfl rfl Try.sizeOf24 rfl rfl rfl rfl rfl fun w hs => ?_))
  refine wpList_nil ?_
  refine then_n ?_
  refine wp_ret ?_
  exact bodyPost_ret (res1 rfl (rv_c hs 1 (v := W r6) rfl rfl Try.isAgg24 Try.sizeOf24 rfl)) hs.defers ⟨by rw [← hx, ← hr6, show d3 = Pf - 2 from hd3.symm.trans (by decide)]; rfl, (hs.bel rfl)⟩
theorem froot_c (a x : Nat) (q : Bool) (ha : a < 2 ^ 256) (hx : frV a = x) (hq : frB a = q) (w0 : World) : Calls Try.prog 37 #[W a] w0 fun e w' => e = .returned (.tuple #[W x, .bool q]) ∧ Below w0.heap.size w0 w' := by
  refine enter (n := 31) (args := [W a]) Try.func37 rfl rfl (Nat.le_of_ble_eq_true rfl) fun ac hs => ?_
  refine wp_seq ?_
  refine wp_region_lit ?_
  refine lstep (wpO_plain rfl (op_box hs none none (cs := (Wl a)) rfl rfl rfl rfl rfl rfl fun g1 ac w hs => ?_))
  refine lstep (wpO_plain rfl (op_alloc hs none none (cs := [.int .u64 0, .int .u64 0, .int .u64 0, .int .u64 0]) rfl rfl Try.zeroValue24 (by kernel_rfl) rfl rfl fun g2 ac w hs => ?_))
  refine lstep (wpO_plain rfl (op_assign hs none rfl rfl rfl rfl fun ac hs => ?_))
  refine wpList_nil ?_
  refine then_n ?_
  refine wp_seq ?_
  refine wp_region_lit ?_
  refine lstep (wpO_plain rfl (op_call (F := 55) hs none (v := W Pf) rfl rfl rfl rfl (Try.call55 _) prime_c rfl fun ac w hs => ?_))
  refine lstep (wpO_plain rfl (op_call (F := 25) hs none (v := W 1) rfl rfl rfl rfl (Try.call25 _) (fun w => from_any w 1 (by decide)) rfl fun ac w hs => ?_))
  obtain ⟨s3, hs3, ls3⟩ : ∃ z0, (Pf + 1) % 2 ^ 256 = z0 ∧ z0 < 2 ^ 256 := ⟨_, rfl, Nat.mod_lt _ (Nat.two_pow_pos 256)⟩
  obtain ⟨c4, hc4⟩ : ∃ z0, (Pf + 1) / 2 ^ 256 = z0 := ⟨_, rfl⟩
  refine lstep (wpO_plain rfl (op_call (F := 29) hs none (v := .tuple #[W s3, .int .u64 ((c4 : Nat) : Int)]) rfl rfl rfl rfl (Try.call29 _) (fun w => add_at w Pf 1 s3 c4 Pf_lt (by decide) hs3 hc4) rfl fun ac w hs => ?_))
  refine lstep (wpO_plain rfl (op_move hs none rfl rfl rfl rfl fun ac hs => ?_))
  refine lstep (wpO_plain rfl (op_extract hs none rfl rfl rfl rfl rfl fun ac hs => ?_))
  refine lstep (wpO_plain rfl (op_extract hs none rfl rfl rfl rfl rfl fun ac hs => ?_))
  refine lstep (wpO_plain rfl (op_alloc hs none none (cs := [.int .u64 0, .int .u64 0, .int .u64 0, .int .u64 0]) rfl rfl Try.zeroValue24 (by kernel_rfl) rfl rfl fun g5 ac w hs => ?_))
  refine lstep (wpO_plain rfl (op_store hs 2 (vs := (Wl s3)) rfl rfl rfl rfl rfl Try.sizeOf24 rfl rfl rfl rfl rfl fun w hs => ?_))
  refine lstep (wpO_plain rfl (op_assign hs none rfl rfl rfl rfl fun ac hs => ?_))
  refine wpList_nil ?_
  refine then_n ?_
  refine wp_seq ?_
  replace hs : St 31 w0 [(1, true, .pointer (some ⟨g1, 0, none⟩)), (2, true, .pointer (some ⟨g2, 0, none⟩)), (3, true, .bool false), (4, true, .pointer (some ⟨g5, 0, none⟩))] [(true, g1, 24, (Wl a)), (true, g2, 24, [.int .u64 0, .int .u64 0, .int .u64 0, .int .u64 0]), (true, g5, 24, (Wl s3))] ac _ := hs.re ⟨rfl, rfl, rfl, rfl, trivial⟩
  obtain ⟨sh6, hsh6, lsh6⟩ : ∃ z0, s3 / 2 ^ 2 = z0 ∧ z0 < 2 ^ 256 := ⟨_, rfl, div_lt256 ls3⟩
  obtain ⟨r7, hr7, lr7⟩ : ∃ z0, a ^ sh6 % Pf = z0 ∧ z0 < 2 ^ 256 := ⟨_, rfl, modP_lt _⟩
  refine region_inv [([], [3, 5]), ([], [2, 3, 5]), ([1], [3, 5]), ([0, 1, 2], [5]), ([], [5]), ([0, 1, 2, 3, 4], [])] (fun L ac w => ∃ (g8 : Nat), St 31 w0 [(13, L 0, W a), (14, L 1, W s3), (15, L 2, W sh6), (16, L 3, W r7), (6, L 4, .pointer (some ⟨g8, 0, none⟩)), (1, true, .pointer (some ⟨g1, 0, none⟩)), (2, true, .pointer (some ⟨g2, 0, none⟩)), (3, true, .bool false), (4, true, .pointer (some ⟨g5, 0, none⟩))] [(true, g1, 24, (Wl a)), (true, g2, 24, [.int .u64 0, .int .u64 0, .int .u64 0, .int .u64 0]), (true, g5, 24, (Wl s3)), (L 4, g8, 24, (cond (L 5) (Wl r7) [.int .u64 0, .int .u64 0, .int .u64 0, .int .u64 0]))] ac w) (by kernel_rfl) (by kernel_rfl) ?_ ?_ ?_
  · exact ⟨0, hs.drew.skip.skip.skip.skip.skip.pad⟩
  · refine ⟨?_, ?_, ?_, ?_, ?_, ?_, trivial⟩
    · intro L ac w hJ
      obtain ⟨g8, hs⟩ := hJ
      refine wpO_plain rfl (op_load hs (some 0) 0 (v := W a) rfl rfl rfl rfl Try.isAgg24 Try.sizeOf24 rfl rfl fun ac hs => ?_)
      exact ⟨g8, hs⟩
    · intro L ac w hJ
      obtain ⟨g8, hs⟩ := hJ
      refine wpO_plain rfl (op_load hs (some 1) 2 (v := W s3) rfl rfl rfl rfl Try.isAgg24 Try.sizeOf24 rfl rfl fun ac hs => ?_)
      exact ⟨g8, hs⟩
    · intro L ac w hJ
      obtain ⟨g8, hs⟩ := hJ
      refine wpO_plain rfl (op_call (F := 57) hs (some 2) (v := W sh6) rfl rfl rfl rfl (Try.call57 _) (shr_c s3 2 2 sh6 ls3 (by decide) hsh6) rfl fun ac w hs => ?_)
      exact ⟨g8, hs⟩
    · intro L ac w hJ
      obtain ⟨g8, hs⟩ := hJ
      refine wpO_plain rfl (op_call (F := 56) hs (some 3) (v := W r7) rfl rfl rfl rfl (Try.call56 _) (fpow_c a sh6 r7 ha lsh6 hr7) rfl fun ac w hs => ?_)
      exact ⟨g8, hs⟩
    · intro L ac w hJ
      obtain ⟨g8, hs⟩ := hJ
      refine wpO_plain rfl (op_alloc hs (some 4) (some 3) (cs := [.int .u64 0, .int .u64 0, .int .u64 0, .int .u64 0]) rfl rfl Try.zeroValue24 (by kernel_rfl) rfl rfl fun g8 ac w hs => ?_)
      exact ⟨g8, hs⟩
    · intro L ac w hJ
      obtain ⟨g8, hs⟩ := hJ
      refine wpO_plain rfl (op_store hs 3 (vs := (Wl r7)) rfl rfl rfl rfl rfl Try.sizeOf24 rfl rfl rfl rfl rfl fun w hs => ?_)
      exact ⟨g8, hs⟩
  intro ac w hJ
  obtain ⟨g8, hs⟩ := hJ
  replace hs : St 31 w0 [(13, true, W a), (14, true, W s3), (15, true, W sh6), (16, true, W r7), (6, true, .pointer (some ⟨g8, 0, none⟩)), (1, true, .pointer (some ⟨g1, 0, none⟩)), (2, true, .pointer (some ⟨g2, 0, none⟩)), (3, true, .bool false), (4, true, .pointer (some ⟨g5, 0, none⟩))] [(true, g1, 24, (Wl a)), (true, g2, 24, [.int .u64 0, .int .u64 0, .int .u64 0, .int .u64 0]), (true, g5, 24, (Wl s3)), (true, g8, 24, (Wl r7))] ac w := hs
  refine then_n ?_
  refine wp_seq ?_
  refine wp_seq ?_
  replace hs : St 31 w0 [(1, true, .pointer (some ⟨g1, 0, none⟩)), (2, true, .pointer (some ⟨g2, 0, none⟩)), (3, true, .bool false), (6, true, .pointer (some ⟨g8, 0, none⟩))] [(true, g1, 24, (Wl a)), (true, g2, 24, [.int .u64 0, .int .u64 0, .int .u64 0, .int .u64 0]), (true, g5, 24, (Wl s3)), (true, g8, 24, (Wl r7))] ac _ := hs.re ⟨rfl, rfl, rfl, rfl, trivial⟩
  obtain ⟨r9, hr9, lr9⟩ : ∃ z0, r7 * r7 % Pf = z0 ∧ z0 < 2 ^ 256 := ⟨_, rfl, modP_lt _⟩
  obtain ⟨r10, hr10, lr10⟩ : ∃ z0, a % Pf = z0 ∧ z0 < 2 ^ 256 := ⟨_, rfl, modP_lt _⟩
  refine region_inv [([], [2, 4, 5]), ([], [2, 4, 5]), ([0, 1], [4, 5]), ([], [4, 5]), ([0, 1, 2, 3], [5]), ([0, 1, 2, 3, 4], [])] (fun L ac w => St 31 w0 [(17, L 0, W r7), (18, L 1, W r7), (19, L 2, W r9), (20, L 3, W a), (21, L 4, W r10), (22, L 5, .bool (decide (r9 ≠ r10))), (1, true, .pointer (some ⟨g1, 0, none⟩)), (2, true, .pointer (some ⟨g2, 0, none⟩)), (3, true, .bool false), (6, true, .pointer (some ⟨g8, 0, none⟩))] [(true, g1, 24, (Wl a)), (true, g2, 24, [.int .u64 0, .int .u64 0, .int .u64 0, .int .u64 0]), (true, g5, 24, (Wl s3)), (true, g8, 24, (Wl r7))] ac w) (by kernel_rfl) (by kernel_rfl) ?_ ?_ ?_
  · exact hs.drew.skip.skip.skip.skip.skip.skip
  · refine ⟨?_, ?_, ?_, ?_, ?_, ?_, trivial⟩
    · intro L ac w hJ
      have hs := hJ
      refine wpO_plain rfl (op_load hs (some 0) 3 (v := W r7) rfl rfl rfl rfl Try.isAgg24 Try.sizeOf24 rfl rfl fun ac hs => ?_)
      exact hs
    · intro L ac w hJ
      have hs := hJ
      refine wpO_plain rfl (op_load hs (some 1) 3 (v := W r7) rfl rfl rfl rfl Try.isAgg24 Try.sizeOf24 rfl rfl fun ac hs => ?_)
      exact hs
    · intro L ac w hJ
      have hs := hJ
      refine wpO_plain rfl (op_call (F := 58) hs (some 2) (v := W r9) rfl rfl rfl rfl (Try.call58 _) (fmul_c r7 r7 r9 lr7 lr7 hr9) rfl fun ac w hs => ?_)
      exact hs
    · intro L ac w hJ
      have hs := hJ
      refine wpO_plain rfl (op_load hs (some 3) 0 (v := W a) rfl rfl rfl rfl Try.isAgg24 Try.sizeOf24 rfl rfl fun ac hs => ?_)
      exact hs
    · intro L ac w hJ
      have hs := hJ
      refine wpO_plain rfl (op_call (F := 59) hs (some 4) (v := W r10) rfl rfl rfl rfl (Try.call59 _) (fred_c a r10 ha hr10) rfl fun ac w hs => ?_)
      exact hs
    · intro L ac w hJ
      have hs := hJ
      refine wpO_plain rfl (op_bin hs (some 5) (v := .bool (decide (r9 ≠ r10))) rfl rfl rfl rfl (fun w => run_eqGuard_agg w .neq 24 _ _ _ _ Try.eqGuardType24) (neqW r9 r10 lr9 lr10 _ rfl) rfl fun ac hs => ?_)
      exact hs
  intro ac w hJ
  replace hs : St 31 w0 [(17, true, W r7), (18, true, W r7), (19, true, W r9), (20, true, W a), (21, true, W r10), (22, true, .bool (decide (r9 ≠ r10))), (1, true, .pointer (some ⟨g1, 0, none⟩)), (2, true, .pointer (some ⟨g2, 0, none⟩)), (3, true, .bool false), (6, true, .pointer (some ⟨g8, 0, none⟩))] [(true, g1, 24, (Wl a)), (true, g2, 24, [.int .u64 0, .int .u64 0, .int .u64 0, .int .u64 0]), (true, g5, 24, (Wl s3)), (true, g8, 24, (Wl r7))] ac w := hJ
  refine then_n ?_
  refine wp_cond_split (hs.ev rfl) (fun hc => ?_) (fun hc => ?_)
  · skip
    have hp11 := of_decide_eq_true hc
    refine wp_seq ?_
    refine wp_region_lit ?_
    refine lstep (wpO_plain rfl (op_build hs none (qs := []) (v := .agg #[.int .u64 0, .int .u64 0, .int .u64 0, .int .u64 0]) rfl rfl rfl rfl (fun _ => by kernel_rfl) rfl fun ac hs => ?_))
    refine lstep (wpO_plain rfl (op_store hs 1 (vs := [.int .u64 0, .int .u64 0, .int .u64 0, .int .u64 0]) rfl rfl rfl rfl rfl Try.sizeOf24 rfl rfl rfl rfl rfl fun w hs => ?_))
    refine lstep (wpO_plain rfl (op_assign hs none rfl rfl rfl rfl fun ac hs => ?_))
    refine wpList_nil ?_
    refine then_n ?_
    refine wp_ret ?_
    refine then_r ?_
    exact bodyPost_ret (res2 rfl (rv_c hs 1 (v := .agg #[.int .u64 0, .int .u64 0, .int .u64 0, .int .u64 0]) rfl rfl Try.isAgg24 Try.sizeOf24 rfl) (rv_t hs rfl)) hs.defers ⟨by rw [← hx, ← hq, (frV_no (frt_of hr7 (hsh6.symm.trans (hs3 ▸ by decide))) hr9 hr10 hp11).1, (frV_no (frt_of hr7 (hsh6.symm.trans (hs3 ▸ by decide))) hr9 hr10 hp11).2]; first | done | rfl, (hs.bel rfl)⟩
  · skip
    have hp12 := of_decide_eq_false hc
    refine wp_skip ?_
    refine then_n ?_
    refine wp_seq ?_
    refine wp_seq ?_
    refine wp_region_lit ?_
    refine lstep (wpO_plain rfl (op_idxA hs none (j := 0) rfl rfl rfl rfl Try.underlying24 Try.sizeOf22 (by decide) (off := 0) rfl rfl fun ac hs => ?_))
    have l13 := limN_lt r7 0
    refine lstep (wpO_plain rfl (op_load hs none 3 (v := .int .u64 (lim r7 0)) rfl rfl rfl rfl Try.isAgg22 Try.sizeOf22 rfl rfl fun ac hs => ?_))
    refine lstep (wpO_plain rfl (op_bin hs none (v := .int .u64 (((limN r7 0) % 2 : Nat) : Int)) rfl rfl rfl rfl (fun _ => rfl) (bin_andN (x := limN r7 0) (y := 1) (z := (limN r7 0) % 2) (Nat.and_two_pow_sub_one_eq_mod (limN r7 0) 1) (show limN r7 0 < 2 ^ 64 by omega) (by decide) (show (limN r7 0) % 2 < 18446744073709551616 by omega)) rfl fun ac hs => ?_))
    refine lstep (wpO_plain rfl (op_bin hs none (v := .bool (decide ((limN r7 0) % 2 ≠ 0))) rfl rfl rfl rfl (fun _ => rfl) (bin_neqN (x := (limN r7 0) % 2) (y := 0)) rfl fun ac hs => ?_))
    refine wpList_nil ?_
    refine then_n ?_
    refine wp_cond_split (hs.ev rfl) (fun hc => ?_) (fun hc => ?_)
    · skip
      have hp14 := of_decide_eq_true hc
      refine wp_region_lit ?_
      refine lstep (wpO_plain rfl (op_load hs none 3 (v := W r7) rfl rfl rfl rfl Try.isAgg24 Try.sizeOf24 rfl rfl fun ac hs => ?_))
      obtain ⟨r15, hr15, lr15⟩ : ∃ z0, fsub 0 r7 = z0 ∧ z0 < 2 ^ 256 := ⟨_, rfl, fsub_lt _ _⟩
      refine lstep (wpO_plain rfl (op_call (F := 60) hs none (v := W r15) rfl rfl rfl rfl (Try.call60 _) (fneg_c r7 r15 lr7 hr15) rfl fun ac w hs => ?_))
      refine lstep (wpO_plain rfl (op_store hs 3 (vs := (Wl r15)) rfl rfl rfl rfl rfl Try.sizeOf24 rfl rfl rfl rfl rfl fun w hs => ?_))
      refine wpList_nil ?_
      refine then_n ?_
      refine wp_seq ?_
      replace hs : St 31 w0 [(2, true, .pointer (some ⟨g2, 0, none⟩)), (3, true, .bool false), (6, true, .pointer (some ⟨g8, 0, none⟩))] [(true, g1, 24, (Wl a)), (true, g2, 24, [.int .u64 0, .int .u64 0, .int .u64 0, .int .u64 0]), (true, g5, 24, (Wl s3)), (true, g8, 24, (Wl r15))] ac _ := hs.re ⟨rfl, rfl, rfl, trivial⟩
      refine wp_region_lit ?_
      refine lstep (wpO_plain rfl (op_load hs none 3 (v := W r15) rfl rfl rfl rfl Try.isAgg24 Try.sizeOf24 rfl rfl fun ac hs => ?_))
      refine lstep (wpO_plain rfl (op_store hs 1 (vs := (Wl r15)) rfl rfl rfl rfl rfl Try.sizeOf24 rfl rfl rfl rfl rfl fun w hs => ?_))
      refine lstep (wpO_plain rfl (op_assign hs none rfl rfl rfl rfl fun ac hs => ?_))
      refine wpList_nil ?_
      refine then_n ?_
      refine wp_ret ?_
      exact bodyPost_ret (res2 rfl (rv_c hs 1 (v := W r15) rfl rfl Try.isAgg24 Try.sizeOf24 rfl) (rv_t hs rfl)) hs.defers ⟨by rw [← hx, ← hq, (frV_odd (frt_of hr7 (hsh6.symm.trans (hs3 ▸ by decide))) hr9 hr10 hp12 (odd_of hp14) hr15).1, (frV_odd (frt_of hr7 (hsh6.symm.trans (hs3 ▸ by decide))) hr9 hr10 hp12 (odd_of hp14) hr15).2]; first | done | rfl, (hs.bel rfl)⟩
    · skip
      have hp16 := of_decide_eq_false hc
      refine wp_skip ?_
      refine then_n ?_
      refine wp_seq ?_
      refine wp_region_lit ?_
      refine lstep (wpO_plain rfl (op_load hs none 3 (v := W r7) rfl rfl rfl rfl Try.isAgg24 Try.sizeOf24 rfl rfl fun ac hs => ?_))
      refine lstep (wpO_plain rfl (op_store hs 1 (vs := (Wl r7)) rfl rfl rfl rfl rfl Try.sizeOf24 rfl rfl rfl rfl rfl fun w hs => ?_))
      refine lstep (wpO_plain rfl (op_assign hs none rfl rfl rfl rfl fun ac hs => ?_))
      refine wpList_nil ?_
      refine then_n ?_
      refine wp_ret ?_
      exact bodyPost_ret (res2 rfl (rv_c hs 1 (v := W r7) rfl rfl Try.isAgg24 Try.sizeOf24 rfl) (rv_t hs rfl)) hs.defers ⟨by rw [← hx, ← hq, (frV_even (frt_of hr7 (hsh6.symm.trans (hs3 ▸ by decide))) hr9 hr10 hp12 (even_of hp16)).1, (frV_even (frt_of hr7 (hsh6.symm.trans (hs3 ▸ by decide))) hr9 hr10 hp12 (even_of hp16)).2]; first | done | rfl, (hs.bel rfl)⟩
end Go.Proofs.Ytejbajgpiecjcaa

/- '==' on points. -/
namespace Go.Proofs.Ytejbajgpiecjcaa
open Go.RowKit
/-- a point's value -/
abbrev PV (x y : Nat) (z : Bool) : Value := .agg #[.int .u64 (lim x 0), .int .u64 (lim x 1), .int .u64 (lim x 2), .int .u64 (lim x 3), .int .u64 (lim y 0), .int .u64 (lim y 1), .int .u64 (lim y 2), .int .u64 (lim y 3), .bool z]
abbrev PVl (x y : Nat) (z : Bool) : List Value := [.int .u64 (lim x 0), .int .u64 (lim x 1), .int .u64 (lim x 2), .int .u64 (lim x 3), .int .u64 (lim y 0), .int .u64 (lim y 1), .int .u64 (lim y 2), .int .u64 (lim y 3), .bool z]
/-- three numbers -/
abbrev TV (x y z : Nat) : Value := .agg #[.int .u64 (lim x 0), .int .u64 (lim x 1), .int .u64 (lim x 2), .int .u64 (lim x 3), .int .u64 (lim y 0), .int .u64 (lim y 1), .int .u64 (lim y 2), .int .u64 (lim y 3), .int .u64 (lim z 0), .int .u64 (lim z 1), .int .u64 (lim z 2), .int .u64 (lim z 3)]
abbrev TVl (x y z : Nat) : List Value := [.int .u64 (lim x 0), .int .u64 (lim x 1), .int .u64 (lim x 2), .int .u64 (lim x 3), .int .u64 (lim y 0), .int .u64 (lim y 1), .int .u64 (lim y 2), .int .u64 (lim y 3), .int .u64 (lim z 0), .int .u64 (lim z 1), .int .u64 (lim z 2), .int .u64 (lim z 3)]
theorem eqWin (d : Nat) (a b : Nat) (ha : a < 2 ^ 256) (hb : b < 2 ^ 256) (w : World) : (Op.equalIn (d + 2) 24 (W a) (W b)).run Try.prog w = .ok (decide (a = b)) w := by
  have := run_equalIn4' (d + 1) (fun a b w => run_equalIn_int w d 22 .u64 .u64 a b Try.underlying22) (lim a 0) (lim a 1) (lim a 2) (lim a 3) (lim b 0) (lim b 1) (lim b 2) (lim b 3) w
  rw [this, eqb a b ha hb]
theorem run_eqP (x y x' y' : Nat) (z z' : Bool) (hx : x < 2 ^ 256) (hy : y < 2 ^ 256) (hx' : x' < 2 ^ 256) (hy' : y' < 2 ^ 256) (w : World) :
    (Op.equalIn 10000 41 (PV x y z) (PV x' y' z')).run Try.prog w = .ok (decide (x = x' ∧ y = y' ∧ z = z')) w := by
  rw [run_equalIn_struct w 9999 41 _ _ (by kernel_rfl) (by kernel_rfl)]
  have e : ∀ xs ys, Op.eqFields 9999 xs ys (Try.prog.fieldsOf 41).toList = (do
      let a ← part 24 xs 0
      let b ← part 24 ys 0
      let r ← Op.equalIn 9999 24 a b
      if (!r) = true then pure false else do
        let a ← part 24 xs 4
        let b ← part 24 ys 4
        let r ← Op.equalIn 9999 24 a b
        if (!r) = true then pure false else do
          let a ← part 4 xs 8
          let b ← part 4 ys 8
          let r ← Op.equalIn 9999 4 a b
          if (!r) = true then pure false else pure true) := fun xs ys => by kernel_rfl
  rw [e]
  have p0 : ∀ x y z w, (part 24 #[.int .u64 (lim x 0), .int .u64 (lim x 1), .int .u64 (lim x 2), .int .u64 (lim x 3), .int .u64 (lim y 0), .int .u64 (lim y 1), .int .u64 (lim y 2), .int .u64 (lim y 3), .bool z] 0).run Try.prog w = .ok (W x) w := fun x y z w => by kernel_rfl
  have p1 : ∀ x y z w, (part 24 #[.int .u64 (lim x 0), .int .u64 (lim x 1), .int .u64 (lim x 2), .int .u64 (lim x 3), .int .u64 (lim y 0), .int .u64 (lim y 1), .int .u64 (lim y 2), .int .u64 (lim y 3), .bool z] 4).run Try.prog w = .ok (W y) w := fun x y z w => by kernel_rfl
  have p2 : ∀ x y z w, (part 4 #[.int .u64 (lim x 0), .int .u64 (lim x 1), .int .u64 (lim x 2), .int .u64 (lim x 3), .int .u64 (lim y 0), .int .u64 (lim y 1), .int .u64 (lim y 2), .int .u64 (lim y 3), .bool z] 8).run Try.prog w = .ok (.bool z) w := fun x y z w => by kernel_rfl
  simp only [Sem.run_bind, p0, Result.andThen_ok, eqWin 9997 _ _ hx hx']
  by_cases h1 : x = x'
  · simp only [h1, decide_true, Bool.not_true, Bool.false_eq_true, if_false, Sem.run_bind, p1, Result.andThen_ok, eqWin 9997 _ _ hy hy', true_and]
    by_cases h2 : y = y'
    · simp only [h2, decide_true, Bool.not_true, Bool.false_eq_true, if_false, Sem.run_bind, p2, Result.andThen_ok, run_equalIn_bool' w 9998 4 z z' Try.underlying4, true_and]
      by_cases h3 : z = z'
      · simp [h3]
      · have : (z == z') = false := by simpa using h3
        simp [this, h3]
    · simp [h2]
  · simp [h1]
theorem eqlP (x y x' y' : Nat) (z z' : Bool) (hx : x < 2 ^ 256) (hy : y < 2 ^ 256) (hx' : x' < 2 ^ 256) (hy' : y' < 2 ^ 256) (c : Bool) (hc : decide (x = x' ∧ y = y' ∧ z = z') = c) (w : World) :
    (binOp .eql 41 (PV x y z) (PV x' y' z')).run Try.prog w = .ok (.bool c) w := by
  simp only [binOp, Sem.run_bind, Op.equal, Op.maxDepth]
  rw [run_eqP x y x' y' z z' hx hy hx' hy', hc]
  rfl
theorem neqP (x y x' y' : Nat) (z z' : Bool) (hx : x < 2 ^ 256) (hy : y < 2 ^ 256) (hx' : x' < 2 ^ 256) (hy' : y' < 2 ^ 256) (c : Bool) (hc : decide (x = x' ∧ y = y' ∧ z = z') = !c) (w : World) :
    (binOp .neq 41 (PV x y z) (PV x' y' z')).run Try.prog w = .ok (.bool c) w := by
  simp only [binOp, Sem.run_bind, Op.equal, Op.maxDepth]
  rw [run_eqP x y x' y' z z' hx hy hx' hy', hc]
  cases c <;> rfl
end Go.Proofs.Ytejbajgpiecjcaa
