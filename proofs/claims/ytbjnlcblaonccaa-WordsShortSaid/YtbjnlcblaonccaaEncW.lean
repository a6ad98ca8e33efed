/- The walk of number.Encode. -/
import Derived.Test.YtbjnlcblaonccaaEnc
namespace Go.Proofs.Ytbjnlcblaonccaa
open Go.RowKit

theorem sgn_nil (b : Bool) : sgn b [] = [] := rfl
theorem sgn_high {xs : List UInt8} {N c : Nat} (neg : Bool) (hN : xs.length = N + 1) (hc : (xs.getD N 0).toNat = c) (h : 128 ≤ c) : sgn neg xs = xs ++ [if neg then 128 else 0] := by
  have : xs ≠ [] := by rintro rfl; simp at hN
  have h2 : 128 ≤ xs.getD N 0 := by rw [UInt8.le_iff_toNat_le, hc]; exact h
  unfold sgn
  rw [if_neg this, hN]
  simp only [Nat.add_sub_cancel]
  rw [if_pos h2]
theorem sgn_low {xs : List UInt8} {N c : Nat} (neg : Bool) (hN : xs.length = N + 1) (hc : (xs.getD N 0).toNat = c) (h : c < 128) : sgn neg xs = if neg then xs.set N (xs.getD N 0 + 128) else xs := by
  have : xs ≠ [] := by rintro rfl; simp at hN
  have h2 : ¬ 128 ≤ xs.getD N 0 := by rw [UInt8.le_iff_toNat_le, hc]; exact Nat.not_le.2 h
  unfold sgn
  rw [if_neg this, hN]
  simp only [Nat.add_sub_cancel]
  rw [if_neg h2]

/-- the end of Encode -/
def EncEnd (B : Nat) (w : World) (l : List UInt8) (e : Ending) (w' : World) : Prop := ∃ v, e = .returned v ∧ Own B w' v l ∧ Below B w w'

set_option maxHeartbeats 1000000 in
theorem encode_any (w : World) (n : Int) (hn1 : -9223372036854775808 ≤ n) (hn2 : n < 9223372036854775808) :
    Calls Try.prog 31 #[.int .i64 n] w (EncEnd w.heap.size w (enc n)) := by
  obtain ⟨i0, hi, hz0, hz1, hz2⟩ := info_parts info_u8
  have hlen0 := le_length 8 n.natAbs (by omega)
  have wrap0 : ∀ m : Nat, m < 18446744073709551616 → IntKind.u64.wrap (m : Int) = m := fun m hm => by simp [IntKind.wrap, IntKind.bits, IntKind.signed]; omega
  obtain ⟨m0, hm0⟩ : ∃ m0, n.natAbs = m0 := ⟨_, rfl⟩
  rw [hm0] at hlen0
  have hm1 : m0 ≤ 9223372036854775808 := by omega
  rcases Int.lt_or_le n 0 with hneg | hneg
  · have HI : Hid (IntKind.u64.wrap (-IntKind.u64.wrap n) = (m0 : Int)) := by simp [Hid, IntKind.wrap, IntKind.bits, IntKind.signed]; omega
    have HE : Hid (enc n = sgn true (le m0)) := by rw [← hm0]; unfold enc; rw [decide_eq_true hneg]; exact rfl
    clear hm0 hn1 hn2 wrap0
    go_enter Try.func31, Try.ntmps31
    go_wp2
    go_loopw [4, 5] (fun am v wr => EncInv w.heap.size w m0 am v wr) (fun am _ _ => (intOf am).toNat)
    case atStart => exact ⟨m0, [], Nat.le_refl _, by rw [HI.out], rfl, World.ownsRow_nil _ _ _ _, Below.refl _ _⟩
    case round =>
      clear HI
      obtain ⟨m, xs, hm, rfl, hle, hown, hb⟩ := hrel
      have hxl : xs.length ≤ 8 := by have := congrArg List.length hle; simp at this; omega
      by_cases hm0 : 0 < m
      · have H1 : Hid (le m0 = (xs ++ [UInt8.ofNat (m % 256)]) ++ le (m / 256)) := by rw [hle, le_pos m (by omega)]; simp [Hid]
        clear hle
        go_wp2_with (at_builtin; refine wpList_append_own _ rfl _ _ 22 rfl w.heap.size 5 i0 (.int .u8 0) 1 1 Try.underlying22 hi hz0 hz1 hz2 rfl (by decide) _ _ _ rfl (hown.alloc _) ⟨wr.heap.size, 0, none⟩ 1 1 [.int .u8 (IntKind.u8.wrap m)] rfl rfl (one_new _ rfl) one_cell ?c3 ?c4 ?c5 ?_)
        case c3 => unfold maxLen; omega
        case c4 => omega
        case c5 => have := hb.size; simp; omega
        intro v' w1 hown' hgrow _
        have R1 : Own w.heap.size w1 v' (xs ++ [UInt8.ofNat (m % 256)]) := Own.push (ofNat_mod m) hown'
        have R2 : Below w.heap.size w w1 := (hb.alloc hb.size _).grown hgrow (by have := hb.size; simp; omega) (fun k hk => (hown.lt k hk).1)
        clear hown hown' hgrow
        go_wp2
        go_roundw
        case rel => exact ⟨m / 256, _, by omega, by congr 1, H1.out, R1, R2⟩
        case measure => simp [intOf]; omega
      · obtain rfl : m = 0 := by omega
        have H1 : Hid (le m0 = xs) := by rw [hle, le_zero]; simp [Hid]
        clear hle
        rcases hx : xs.length with _ | N
        · obtain rfl : xs = [] := List.length_eq_zero_iff.1 hx
          rcases hown.2 with ⟨rfl, _⟩ | ⟨g, cap, cur, rfl, _⟩
          all_goals
            clear hx hxl
            go_wp2
            go_ret
            exact ⟨_, rfl, by rw [HE.out, H1.out, sgn_nil]; exact hown, hb⟩
        · rw [hx] at hxl
          obtain ⟨g, cap, rfl, hg1, hg2, hrow, hfz, hcs⟩ := hown.form hx
          obtain ⟨c, hc⟩ : ∃ c : Nat, (xs.getD N 0).toNat = c := ⟨_, rfl⟩
          have hcell : wr.cell? ⟨g, N, none⟩ = some (.int .u8 (c : Int)) := by rw [← hc]; exact hcs N (by omega)
          have hfN := hfz N
          have hc256 : c < 256 := by rw [← hc]; exact (xs.getD N 0).toNat_lt
          have hand := and128 ⟨c, hc256⟩
          simp only at hand
          have HX := Lib.hid hx
          have HC := Lib.hid hc
          clear hx hc hfz hcs
          by_cases h128 : 128 ≤ c
          · rw [decide_eq_true h128] at hand
            go_wp2_with (at_builtin; refine wpList_append_own _ rfl _ _ 22 rfl w.heap.size 5 i0 (.int .u8 0) 1 1 Try.underlying22 hi hz0 hz1 hz2 rfl (by decide) _ _ _ rfl (hrow.alloc _) ⟨wr.heap.size, 0, none⟩ 1 1 [.int .u8 0] rfl rfl (one_new _ rfl) one_cell ?c3 ?c4 ?c5 ?_)
            case c3 => unfold maxLen; omega
            case c4 => omega
            case c5 => have := hb.size; simp; omega
            intro v' w1 hown' hgrow _
            have R1 : Own w.heap.size w1 v' (xs ++ [0]) := Own.push rfl (by rw [HX.out]; exact hown')
            have R2 : Below w.heap.size w w1 := (hb.alloc hb.size _).grown hgrow (by have := hb.size; simp; omega) (fun k hk => (hrow.lt k hk).1)
            clear hrow hown' hgrow hand hcell hfN
            have hx2 : (xs ++ [0]).length = N + 1 + 1 := by simp; exact HX.out
            obtain ⟨g', cap', rfl, hg1', hg2', hrow', hfz', hcs'⟩ := R1.form hx2
            have hcell' : w1.cell? ⟨g', N + 1, none⟩ = some (.int .u8 0) := by
              rw [hcs' (N + 1) (by omega)]
              congr 2
              have hxo := HX.out
              rw [List.getD_eq_getElem?_getD, List.getElem?_append_right (by omega), show N + 1 - xs.length = 0 by omega]
              rfl
            have hfz1 := hfz' (N + 1)
            have HX2 := Lib.hid hx2
            clear hcs' hfz' hx2
            go_wp2
            go_ret
            refine ⟨_, rfl, ?_, R2.setCell (p := ⟨g', N + 1, none⟩) hg1' _⟩
            rw [HE.out, H1.out, sgn_high _ HX.out HC.out h128]
            have e1 : (xs ++ [0]).set (N + 1) (128 : UInt8) = xs ++ [if true then 128 else 0] := by
              rw [List.set_append_right _ _ (by rw [HX.out]; omega)]
              rw [show N + 1 - xs.length = 0 by rw [HX.out]; omega]
              rfl
            rw [← e1]
            exact Own.set HX2.out hrow' (N + 1) 128 rfl
          · rw [decide_eq_false h128] at hand
            go_wp2
            go_ret
            refine ⟨_, rfl, ?_, hb.setCell (p := ⟨g, N, none⟩) hg1 _⟩
            rw [HE.out, H1.out, sgn_low _ HX.out HC.out (by omega), if_pos rfl]
            refine Own.set HX.out hrow N _ ?_
            rw [or128 ⟨c, by omega⟩, UInt8.toNat_add, HC.out]
            show (((c + 128) % 256 : Nat) : Int) = _
            rw [Nat.mod_eq_of_lt (by omega)]
  · have HI : Hid (IntKind.u64.wrap n = (m0 : Int)) := by simp [Hid, IntKind.wrap, IntKind.bits, IntKind.signed]; omega
    have HE : Hid (enc n = sgn false (le m0)) := by rw [← hm0]; unfold enc; rw [decide_eq_false (by omega)]; exact rfl
    clear hm0 hn1 hn2 wrap0
    go_enter Try.func31, Try.ntmps31
    go_wp2
    go_loopw [4, 5] (fun am v wr => EncInv w.heap.size w m0 am v wr) (fun am _ _ => (intOf am).toNat)
    case atStart => exact ⟨m0, [], Nat.le_refl _, by rw [HI.out], rfl, World.ownsRow_nil _ _ _ _, Below.refl _ _⟩
    case round =>
      clear HI
      obtain ⟨m, xs, hm, rfl, hle, hown, hb⟩ := hrel
      have hxl : xs.length ≤ 8 := by have := congrArg List.length hle; simp at this; omega
      by_cases hm0 : 0 < m
      · have H1 : Hid (le m0 = (xs ++ [UInt8.ofNat (m % 256)]) ++ le (m / 256)) := by rw [hle, le_pos m (by omega)]; simp [Hid]
        clear hle
        go_wp2_with (at_builtin; refine wpList_append_own _ rfl _ _ 22 rfl w.heap.size 5 i0 (.int .u8 0) 1 1 Try.underlying22 hi hz0 hz1 hz2 rfl (by decide) _ _ _ rfl (hown.alloc _) ⟨wr.heap.size, 0, none⟩ 1 1 [.int .u8 (IntKind.u8.wrap m)] rfl rfl (one_new _ rfl) one_cell ?c3 ?c4 ?c5 ?_)
        case c3 => unfold maxLen; omega
        case c4 => omega
        case c5 => have := hb.size; simp; omega
        intro v' w1 hown' hgrow _
        have R1 : Own w.heap.size w1 v' (xs ++ [UInt8.ofNat (m % 256)]) := Own.push (ofNat_mod m) hown'
        have R2 : Below w.heap.size w w1 := (hb.alloc hb.size _).grown hgrow (by have := hb.size; simp; omega) (fun k hk => (hown.lt k hk).1)
        clear hown hown' hgrow
        go_wp2
        go_roundw
        case rel => exact ⟨m / 256, _, by omega, by congr 1, H1.out, R1, R2⟩
        case measure => simp [intOf]; omega
      · obtain rfl : m = 0 := by omega
        have H1 : Hid (le m0 = xs) := by rw [hle, le_zero]; simp [Hid]
        clear hle
        rcases hx : xs.length with _ | N
        · obtain rfl : xs = [] := List.length_eq_zero_iff.1 hx
          rcases hown.2 with ⟨rfl, _⟩ | ⟨g, cap, cur, rfl, _⟩
          all_goals
            clear hx hxl
            go_wp2
            go_ret
            exact ⟨_, rfl, by rw [HE.out, H1.out, sgn_nil]; exact hown, hb⟩
        · rw [hx] at hxl
          obtain ⟨g, cap, rfl, hg1, hg2, hrow, hfz, hcs⟩ := hown.form hx
          obtain ⟨c, hc⟩ : ∃ c : Nat, (xs.getD N 0).toNat = c := ⟨_, rfl⟩
          have hcell : wr.cell? ⟨g, N, none⟩ = some (.int .u8 (c : Int)) := by rw [← hc]; exact hcs N (by omega)
          have hfN := hfz N
          have hc256 : c < 256 := by rw [← hc]; exact (xs.getD N 0).toNat_lt
          have hand := and128 ⟨c, hc256⟩
          simp only at hand
          have HX := Lib.hid hx
          have HC := Lib.hid hc
          clear hx hc hfz hcs
          by_cases h128 : 128 ≤ c
          · rw [decide_eq_true h128] at hand
            go_wp2_with (at_builtin; refine wpList_append_own _ rfl _ _ 22 rfl w.heap.size 5 i0 (.int .u8 0) 1 1 Try.underlying22 hi hz0 hz1 hz2 rfl (by decide) _ _ _ rfl (hrow.alloc _) ⟨wr.heap.size, 0, none⟩ 1 1 [.int .u8 0] rfl rfl (one_new _ rfl) one_cell ?c3 ?c4 ?c5 ?_)
            case c3 => unfold maxLen; omega
            case c4 => omega
            case c5 => have := hb.size; simp; omega
            intro v' w1 hown' hgrow _
            have R1 : Own w.heap.size w1 v' (xs ++ [0]) := Own.push rfl (by rw [HX.out]; exact hown')
            have R2 : Below w.heap.size w w1 := (hb.alloc hb.size _).grown hgrow (by have := hb.size; simp; omega) (fun k hk => (hrow.lt k hk).1)
            clear hrow hown' hgrow hand hcell hfN
            have hx2 : (xs ++ [0]).length = N + 1 + 1 := by simp; exact HX.out
            obtain ⟨g', cap', rfl, hg1', hg2', hrow', hfz', hcs'⟩ := R1.form hx2
            have hcell' : w1.cell? ⟨g', N + 1, none⟩ = some (.int .u8 0) := by
              rw [hcs' (N + 1) (by omega)]
              congr 2
              have hxo := HX.out
              rw [List.getD_eq_getElem?_getD, List.getElem?_append_right (by omega), show N + 1 - xs.length = 0 by omega]
              rfl
            have hfz1 := hfz' (N + 1)
            have HX2 := Lib.hid hx2
            clear hcs' hfz' hx2
            go_wp2
            go_ret
            refine ⟨_, rfl, ?_, R2⟩
            rw [HE.out, H1.out, sgn_high _ HX.out HC.out h128]
            exact R1
          · rw [decide_eq_false h128] at hand
            go_wp2
            go_ret
            refine ⟨_, rfl, ?_, hb⟩
            rw [HE.out, H1.out, sgn_low _ HX.out HC.out (by omega), if_neg (by decide)]
            exact hown
end Go.Proofs.Ytbjnlcblaonccaa
