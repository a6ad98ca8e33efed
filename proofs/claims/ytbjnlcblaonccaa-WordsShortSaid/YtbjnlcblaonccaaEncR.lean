/- The walk of the reference's Encode. -/
import Derived.Test.YtbjnlcblaonccaaEncW
namespace Go.Proofs.Ytbjnlcblaonccaa
open Go.RowKit

/-- the loop of the reference's Encode: number, list -/
def EncInvR (B : Nat) (w : World) (s : Int) (n0 : Nat) (am v : Value) (wr : World) : Prop :=
  ∃ (m : Nat) (xs : List UInt8), m ≤ n0 ∧ am = .int .i64 (s * (m : Int)) ∧ le n0 = xs ++ le m ∧ Own B wr v xs ∧ Below B w wr

theorem add128 (c : UInt8) (h : c.toNat < 128) : ((c + 128).toNat : Int) = (c.toNat : Int) + 128 := by
  rw [UInt8.toNat_add]; show (((c.toNat + 128) % 256 : Nat) : Int) = _; omega

set_option maxHeartbeats 1000000 in
set_option maxRecDepth 100000 in
theorem encodeR_any (w : World) (n : Int) (hn1 : -9223372036854775808 ≤ n) (hn2 : n < 9223372036854775808) :
    Calls Try.prog 32 #[.int .i64 n] w (EncEnd w.heap.size w (enc n)) := by
  obtain ⟨i0, hi, hz0, hz1, hz2⟩ := info_parts info_u8
  have hlen0 := le_length 8 n.natAbs (by omega)
  obtain ⟨m0, hm0⟩ : ∃ m0, n.natAbs = m0 := ⟨_, rfl⟩
  rw [hm0] at hlen0
  have hm1 : m0 ≤ 9223372036854775808 := by omega
  have hmk : (Instr.buildSlice 22 0 #[]).run Try.prog w = .ok (.slice (some ⟨w.heap.size, 0, none⟩) 0 0) (w.alloc (.cells #[] 5)) := by kernel_rfl
  rcases Int.lt_or_le n 0 with hneg | hneg
  · obtain rfl : n = -(m0 : Int) := by omega
    have HE : Hid (enc (-(m0 : Int)) = sgn true (le m0)) := by unfold enc; rw [hm0, decide_eq_true hneg]; exact rfl
    clear hm0 hn2
    have hneg' : 0 < m0 := by omega
    go_enter Try.func32, Try.ntmps32
    go_wp2
    go_loopw [4, 5, 3] (fun am dd v wr => ∃ (m : Nat) (xs : List UInt8), m ≤ m0 ∧ am = .int .i64 (-(m : Int)) ∧ le m0 = xs ++ le m ∧ Own w.heap.size wr v xs ∧ Below w.heap.size w wr) (fun am _ _ _ => (intOf am).natAbs)
    case atStart => exact ⟨m0, [], Nat.le_refl _, rfl, rfl, World.ownsRow_lit _ #[] 0 (Nat.le_refl _) (by decide) rfl, (Below.refl _ _).alloc (Nat.le_refl _) _⟩
    case round =>
      obtain ⟨m, xs, hm, rfl, hle, hown, hb⟩ := hrel
      have hxl : xs.length ≤ 8 := by have := congrArg List.length hle; simp at this; omega
      by_cases hm0 : 0 < m
      · have H1 : Hid (le m0 = (xs ++ [UInt8.ofNat (m % 256)]) ++ le (m / 256)) := by rw [hle, le_pos m (by omega)]; simp [Hid]
        clear hle
        have e1 : (-(m : Int)).tmod 256 = -((m % 256 : Nat) : Int) := by rw [Int.neg_tmod]; rfl
        have e2 : (-(m : Int)).tdiv 256 = -((m / 256 : Nat) : Int) := by rw [Int.neg_tdiv]; rfl
        obtain ⟨r, hr⟩ : ∃ r, m % 256 = r := ⟨_, rfl⟩
        obtain ⟨q, hq⟩ : ∃ q, m / 256 = q := ⟨_, rfl⟩
        rw [hr] at e1; rw [hq] at e2
        have hr1 : r < 256 := by omega
        have hq1 : q < m := by omega
        have HR := Lib.hid hr
        have HQ := Lib.hid hq
        clear hr hq
        rcases Nat.eq_zero_or_pos r with rfl | hrp
        · go_wp2_with (at_builtin; refine wpList_append_own _ rfl _ _ 22 rfl w.heap.size 5 i0 (.int .u8 0) 1 1 Try.underlying22 hi hz0 hz1 hz2 rfl (by decide) _ _ _ rfl (hown.alloc _) ⟨wr.heap.size, 0, none⟩ 1 1 [Value.int .u8 _] rfl rfl (one_new _ rfl) one_cell ?c3 ?c4 ?c5 ?_)
          case c3 => unfold maxLen; omega
          case c4 => omega
          case c5 => have := hb.size; simp; omega
          intro v' w1 hown' hgrow _
          have R1 : Own w.heap.size w1 v' (xs ++ [UInt8.ofNat (m % 256)]) := Own.push (by rw [ofNat_mod]; have := HR.out; simp [IntKind.wrap, IntKind.bits, IntKind.signed]; omega) hown'
          have R2 : Below w.heap.size w w1 := (hb.alloc hb.size _).grown hgrow (by have := hb.size; simp; omega) (fun k hk => (hown.lt k hk).1)
          clear hown hown' hgrow
          go_wp2
          go_roundw
          case rel => exact ⟨q, _, by omega, rfl, by rw [← HQ.out]; exact H1.out, R1, R2⟩
          case measure => simp [intOf]; omega
        · go_wp2_with (at_builtin; refine wpList_append_own _ rfl _ _ 22 rfl w.heap.size 5 i0 (.int .u8 0) 1 1 Try.underlying22 hi hz0 hz1 hz2 rfl (by decide) _ _ _ rfl (hown.alloc _) ⟨wr.heap.size, 0, none⟩ 1 1 [Value.int .u8 _] rfl rfl (one_new _ rfl) one_cell ?c3 ?c4 ?c5 ?_)
          case c3 => unfold maxLen; omega
          case c4 => omega
          case c5 => have := hb.size; simp; omega
          intro v' w1 hown' hgrow _
          have R1 : Own w.heap.size w1 v' (xs ++ [UInt8.ofNat (m % 256)]) := Own.push (by rw [ofNat_mod]; have := HR.out; simp [IntKind.wrap, IntKind.bits, IntKind.signed]; omega) hown'
          have R2 : Below w.heap.size w w1 := (hb.alloc hb.size _).grown hgrow (by have := hb.size; simp; omega) (fun k hk => (hown.lt k hk).1)
          clear hown hown' hgrow
          go_wp2
          go_roundw
          case rel => exact ⟨q, _, by omega, rfl, by rw [← HQ.out]; exact H1.out, R1, R2⟩
          case measure => simp [intOf]; omega
      · obtain rfl : m = 0 := by omega
        have H1 : Hid (le m0 = xs) := by rw [hle, le_zero]; simp [Hid]
        clear hle
        rcases hx : xs.length with _ | N
        · obtain rfl : xs = [] := List.length_eq_zero_iff.1 hx
          have hm00 : m0 = 0 := by
            refine Classical.byContradiction fun hne => ?_
            have := H1.out
            rw [le_pos m0 hne] at this
            cases this
          obtain rfl := hm00
          rcases hown.2 with ⟨rfl, _⟩ | ⟨g, cap, cur, rfl, _⟩
          all_goals
            clear hx hxl
            exact absurd hneg (by simp)
        · rw [hx] at hxl
          obtain ⟨g, cap, rfl, hg1, hg2, hrow, hfz, hcs⟩ := hown.form hx
          obtain ⟨c, hc⟩ : ∃ c : Nat, (xs.getD N 0).toNat = c := ⟨_, rfl⟩
          have hcell : wr.cell? ⟨g, N, none⟩ = some (.int .u8 (c : Int)) := by rw [← hc]; exact hcs N (by omega)
          have hfN := hfz N
          have hc256 : c < 256 := by rw [← hc]; exact (xs.getD N 0).toNat_lt
          have HX := Lib.hid hx
          have HC := Lib.hid hc
          clear hx hc hfz hcs
          by_cases h128 : 128 ≤ c
          · go_wp2_with (at_builtin; refine wpList_append_own _ rfl _ _ 22 rfl w.heap.size 5 i0 (.int .u8 0) 1 1 Try.underlying22 hi hz0 hz1 hz2 rfl (by decide) _ _ _ rfl (hrow.alloc _) ⟨wr.heap.size, 0, none⟩ 1 1 [.int .u8 0] rfl rfl (one_new _ rfl) one_cell ?c3 ?c4 ?c5 ?_)
            case c3 => unfold maxLen; omega
            case c4 => omega
            case c5 => have := hb.size; simp; omega
            intro v' w1 hown' hgrow _
            have R1 : Own w.heap.size w1 v' (xs ++ [0]) := Own.push rfl (by rw [HX.out]; exact hown')
            have R2 : Below w.heap.size w w1 := (hb.alloc hb.size _).grown hgrow (by have := hb.size; simp; omega) (fun k hk => (hrow.lt k hk).1)
            clear hrow hown' hgrow hcell hfN
            have hx2 : (xs ++ [0]).length = N + 1 + 1 := by simp; exact HX.out
            obtain ⟨g', cap', rfl, hg1', hg2', hrow', hfz', hcs'⟩ := R1.form hx2
            have hcell' : w1.cell? ⟨g', N + 1, none⟩ = some (.int .u8 0) := by
              rw [hcs' (N + 1) (by omega)]
              congr 2
              have hxo := HX.out
              rw [List.getD_eq_getElem?_getD, List.getElem?_append_right (by omega), show N + 1 - xs.length = 0 by omega]
              rfl
            have hfz1 := hfz' (N + 1)
            have HX2 := Lib.hid hx2
            clear hcs' hfz' hx2
            go_wp2
            go_ret
            refine ⟨_, rfl, ?_, R2.setCell (p := ⟨g', N + 1, none⟩) hg1' _⟩
            rw [HE.out, H1.out, sgn_high _ HX.out HC.out h128]
            have e1 : (xs ++ [0]).set (N + 1) (128 : UInt8) = xs ++ [if true then 128 else 0] := by
              rw [List.set_append_right _ _ (by rw [HX.out]; omega)]
              rw [show N + 1 - xs.length = 0 by rw [HX.out]; omega]
              rfl
            rw [← e1]
            exact Own.set HX2.out hrow' (N + 1) 128 rfl
          · go_wp2
            go_ret
            refine ⟨_, rfl, ?_, hb.setCell (p := ⟨g, N, none⟩) hg1 _⟩
            rw [HE.out, H1.out, sgn_low _ HX.out HC.out (by omega), if_pos rfl]
            refine Own.set HX.out hrow N _ ?_
            rw [add128 _ (by rw [HC.out]; omega), HC.out]
  · obtain rfl : n = (m0 : Int) := by omega
    have HE : Hid (enc (m0 : Int) = sgn false (le m0)) := by unfold enc; rw [hm0, decide_eq_false (by omega)]; exact rfl
    have hm2 : m0 ≤ 9223372036854775807 := by omega
    clear hm0 hn1 hn2 hm1
    go_enter Try.func32, Try.ntmps32
    go_wp2
    go_loopw [4, 5, 3] (fun am dd v wr => ∃ (m : Nat) (xs : List UInt8), m ≤ m0 ∧ am = .int .i64 ((m : Int)) ∧ le m0 = xs ++ le m ∧ Own w.heap.size wr v xs ∧ Below w.heap.size w wr) (fun am _ _ _ => (intOf am).natAbs)
    case atStart => exact ⟨m0, [], Nat.le_refl _, rfl, rfl, World.ownsRow_lit _ #[] 0 (Nat.le_refl _) (by decide) rfl, (Below.refl _ _).alloc (Nat.le_refl _) _⟩
    case round =>
      obtain ⟨m, xs, hm, rfl, hle, hown, hb⟩ := hrel
      have hxl : xs.length ≤ 8 := by have := congrArg List.length hle; simp at this; omega
      by_cases hm0 : 0 < m
      · have H1 : Hid (le m0 = (xs ++ [UInt8.ofNat (m % 256)]) ++ le (m / 256)) := by rw [hle, le_pos m (by omega)]; simp [Hid]
        clear hle
        obtain ⟨r, hr⟩ : ∃ r, m % 256 = r := ⟨_, rfl⟩
        obtain ⟨q, hq⟩ : ∃ q, m / 256 = q := ⟨_, rfl⟩
        have e1 : (m : Int) % 256 = (r : Int) := by omega
        have e2 : (m : Int) / 256 = (q : Int) := by omega
        have hr1 : r < 256 := by omega
        have hq1 : q < m := by omega
        have HR := Lib.hid hr
        have HQ := Lib.hid hq
        clear hr hq
        go_wp2_with (at_builtin; refine wpList_append_own _ rfl _ _ 22 rfl w.heap.size 5 i0 (.int .u8 0) 1 1 Try.underlying22 hi hz0 hz1 hz2 rfl (by decide) _ _ _ rfl (hown.alloc _) ⟨wr.heap.size, 0, none⟩ 1 1 [Value.int .u8 _] rfl rfl (one_new _ rfl) one_cell ?c3 ?c4 ?c5 ?_)
        case c3 => unfold maxLen; omega
        case c4 => omega
        case c5 => have := hb.size; simp; omega
        intro v' w1 hown' hgrow _
        have R1 : Own w.heap.size w1 v' (xs ++ [UInt8.ofNat (m % 256)]) := Own.push (by rw [ofNat_mod]; have := HR.out; simp [IntKind.wrap, IntKind.bits, IntKind.signed]; omega) hown'
        have R2 : Below w.heap.size w w1 := (hb.alloc hb.size _).grown hgrow (by have := hb.size; simp; omega) (fun k hk => (hown.lt k hk).1)
        clear hown hown' hgrow
        go_wp2
        go_roundw
        case rel => exact ⟨q, _, by omega, rfl, by rw [← HQ.out]; exact H1.out, R1, R2⟩
        case measure => simp [intOf]; omega
      · obtain rfl : m = 0 := by omega
        have H1 : Hid (le m0 = xs) := by rw [hle, le_zero]; simp [Hid]
        clear hle
        rcases hx : xs.length with _ | N
        · obtain rfl : xs = [] := List.length_eq_zero_iff.1 hx
          have hm00 : m0 = 0 := by
            refine Classical.byContradiction fun hne => ?_
            have := H1.out
            rw [le_pos m0 hne] at this
            cases this
          obtain rfl := hm00
          rcases hown.2 with ⟨rfl, _⟩ | ⟨g, cap, cur, rfl, _⟩
          all_goals
            clear hx hxl
            go_wp2
            go_ret
            exact ⟨_, rfl, by rw [HE.out, H1.out, sgn_nil]; exact hown, hb⟩
        · rw [hx] at hxl
          obtain ⟨g, cap, rfl, hg1, hg2, hrow, hfz, hcs⟩ := hown.form hx
          obtain ⟨c, hc⟩ : ∃ c : Nat, (xs.getD N 0).toNat = c := ⟨_, rfl⟩
          have hcell : wr.cell? ⟨g, N, none⟩ = some (.int .u8 (c : Int)) := by rw [← hc]; exact hcs N (by omega)
          have hfN := hfz N
          have hc256 : c < 256 := by rw [← hc]; exact (xs.getD N 0).toNat_lt
          have HX := Lib.hid hx
          have HC := Lib.hid hc
          clear hx hc hfz hcs
          by_cases h128 : 128 ≤ c
          · go_wp2_with (at_builtin; refine wpList_append_own _ rfl _ _ 22 rfl w.heap.size 5 i0 (.int .u8 0) 1 1 Try.underlying22 hi hz0 hz1 hz2 rfl (by decide) _ _ _ rfl (hrow.alloc _) ⟨wr.heap.size, 0, none⟩ 1 1 [.int .u8 0] rfl rfl (one_new _ rfl) one_cell ?c3 ?c4 ?c5 ?_)
            case c3 => unfold maxLen; omega
            case c4 => omega
            case c5 => have := hb.size; simp; omega
            intro v' w1 hown' hgrow _
            have R1 : Own w.heap.size w1 v' (xs ++ [0]) := Own.push rfl (by rw [HX.out]; exact hown')
            have R2 : Below w.heap.size w w1 := (hb.alloc hb.size _).grown hgrow (by have := hb.size; simp; omega) (fun k hk => (hrow.lt k hk).1)
            clear hrow hown' hgrow hcell hfN
            have hx2 : (xs ++ [0]).length = N + 1 + 1 := by simp; exact HX.out
            obtain ⟨g', cap', rfl, hg1', hg2', hrow', hfz', hcs'⟩ := R1.form hx2
            have hcell' : w1.cell? ⟨g', N + 1, none⟩ = some (.int .u8 0) := by
              rw [hcs' (N + 1) (by omega)]
              congr 2
              have hxo := HX.out
              rw [List.getD_eq_getElem?_getD, List.getElem?_append_right (by omega), show N + 1 - xs.length = 0 by omega]
              rfl
            have hfz1 := hfz' (N + 1)
            have HX2 := Lib.hid hx2
            clear hcs' hfz' hx2
            go_wp2
            go_ret
            refine ⟨_, rfl, ?_, R2⟩
            rw [HE.out, H1.out, sgn_high _ HX.out HC.out h128]
            exact R1
          · go_wp2
            go_ret
            refine ⟨_, rfl, ?_, hb⟩
            rw [HE.out, H1.out, sgn_low _ HX.out HC.out (by omega), if_neg (by decide)]
            exact hown
end Go.Proofs.Ytbjnlcblaonccaa
