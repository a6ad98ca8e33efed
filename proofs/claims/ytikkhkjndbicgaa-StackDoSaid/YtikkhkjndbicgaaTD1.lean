/- Several texts in one, what this law needs of them: Truth, Enc, EncW, EncR, Val, Dec, DecR, Flag, St, Reg, Go, Sq, Int, Sl0, By, Sq3, App, EncC, Mem, U. -/
import Derived.Test.YtikkhkjndbicgaaRows
import Derived.WalkKit
import Derived.Below
import Derived.Outline
import Derived.Lib.Hide
import Derived.OwnWalk
import Derived.Laws.AppendOwn
import Derived.Laws.OwnMore
import Derived.Deep.AppendLies
import Derived.Laws.IdiomStrings
import Derived.Laws.BytesArg
import Derived.Laws.BitsAllLaws
import Derived.Deep.RegionWith
import Derived.Orders
import Derived.Deep.MidRow
import Derived.KernelRfl
import Derived.Laws.Externs
import Derived.Laws.Rows
import Derived.Laws.MakeOwn
import Derived.Great.BuildSlice
import Derived.Laws.Concat
import Derived.Maps.AppendAt
import Derived.Laws.Append
import Derived.Laws.Strings

/- The contracts of Truth and Flag. -/
namespace Go.Proofs.Ytikkhkjndbicgaa
open Go.RowKit
def Rd (w : World) (a : Option Addr) (l : List UInt8) : Prop :=
  l.length ≤ 140737488351232 ∧ (l.length ≠ 0 → ∃ b off, a = some ⟨b, off, none⟩ ∧ ∀ k, k < l.length → w.cell? ⟨b, off + k, none⟩ = some (.int .u8 ((l.getD k 0).toNat : Int)))
def tr (l : List UInt8) : Nat → Bool
  | 0 => false
  | k + 1 => tr l k || (l.getD k 0 != 0 && !(k + 1 == l.length && l.getD k 0 == 128))
def truthL (l : List UInt8) : Bool := tr l l.length
theorem tr_mono (l : List UInt8) (j : Nat) (h : tr l j = true) : ∀ k, j ≤ k → tr l k = true := by
  intro k
  induction k with
  | zero => intro hk; have : j = 0 := by omega
            subst this; exact h
  | succ k ih =>
    intro hk
    by_cases e : j = k + 1
    · subst e; exact h
    · rw [tr, ih (by omega)]; rfl
theorem tr_step (l : List UInt8) (k n : Nat) (c : Int) (hn : l.length = n) (hc : c = ((l.getD k 0).toNat : Int)) :
    tr l (k + 1) = (tr l k || ((c != 0) && !(decide (k + 1 = n) && (c == 128)))) := by
  have e0 : (l.getD k 0 != 0) = (c != 0) := by
    rw [hc, Bool.eq_iff_iff]; simp [bne_iff_ne, ← UInt8.toNat_inj]
  have e1 : (l.getD k 0 == 128) = (c == 128) := by
    rw [hc, Bool.eq_iff_iff]; simp [← UInt8.toNat_inj]; omega
  rw [tr, e0, e1, hn]
  rfl
theorem ret_bool {a b : Bool} (h : a = b) : Ending.returned (.bool a) = .returned (.bool b) := by rw [h]
set_option maxHeartbeats 400000 in
theorem truth_any (w : World) (a : Option Addr) (l : List UInt8) (cap : Nat) (h : Rd w a l) :
    Calls Try.prog 47 #[.slice a l.length cap] w fun e w' => e = .returned (.bool (truthL l)) ∧ w = w' := by
  obtain ⟨hlen, hrd⟩ := h
  obtain ⟨n, hn⟩ : ∃ n, l.length = n := ⟨_, rfl⟩
  have HT : Hid (truthL l = tr l n) := by unfold truthL; rw [hn]; exact rfl
  rw [hn] at hlen hrd ⊢
  have HN := Lib.hid hn
  clear hn
  by_cases h0 : n = 0
  · subst h0
    clear hrd
    go_enter Try.func47, Try.ntmps47
    go_wp2
    go_loop [8] (fun i => i = .int .i64 0) (fun _ => 0)
    case atStart => rfl
    case round =>
      obtain rfl := hrel
      go_wp2
      go_ret
      exact ⟨by rw [HT.out]; rfl, rfl⟩
  · obtain ⟨b, off, rfl, hc⟩ := hrd h0
    clear hrd
    go_enter Try.func47, Try.ntmps47
    go_wp2
    go_loop [8] (fun i => ∃ k : Nat, k ≤ n ∧ i = .int .i64 k ∧ tr l k = false) (fun i => n - (intOf i).toNat)
    case atStart => exact ⟨0, Nat.zero_le _, rfl, rfl⟩
    case round =>
      obtain ⟨k, hk, rfl, hf⟩ := hrel
      have HF := Lib.hid hf
      clear hf
      by_cases hlt : k < n
      · obtain ⟨c, hcell, hcv⟩ : ∃ c : Int, w.cell? ⟨b, off + k, none⟩ = some (.int .u8 c) ∧ c = ((l.getD k 0).toNat : Int) := ⟨_, hc k hlt, rfl⟩
        have HS : Hid (tr l (k + 1) = (tr l k || ((c != 0) && !(decide (k + 1 = n) && (c == 128))))) := tr_step l k n c HN.out hcv
        clear hcv hc
        rcases Bool.eq_false_or_eq_true (c != 0) with h1 | h1
        · by_cases h2 : k + 1 < n
          · go_wp2
            go_ret
            exact ⟨ret_bool (by rw [HT.out]; exact (tr_mono l (k + 1) (by rw [HS.out, h1, decide_eq_false (by omega)]; simp) n (by omega)).symm), rfl⟩
          · have h3 : n ≤ k + 1 := by omega
            clear h2
            rcases Bool.eq_false_or_eq_true (c == 128) with h4 | h4
            · go_wp2
              all_goals go_round
              case rel => exact ⟨k + 1, by omega, by go_num, by rw [HS.out, HF.out, h1, h4, decide_eq_true (by omega)]; rfl⟩
              case measure => simp [intOf]; omega
            · go_wp2
              go_ret
              exact ⟨ret_bool (by rw [HT.out]; exact (tr_mono l (k + 1) (by rw [HS.out, h1, h4]; simp) n (by omega)).symm), rfl⟩
        · go_wp2
          go_round
          case rel => exact ⟨k + 1, by omega, by go_num, by rw [HS.out, HF.out, h1]; rfl⟩
          case measure => simp [intOf]; omega
      · go_wp2
        go_ret
        exact ⟨ret_bool (by rw [HT.out, show n = k by omega, HF.out]), rfl⟩
end Go.Proofs.Ytikkhkjndbicgaa

/- The contracts of Encode. -/
namespace Go.Proofs.Ytikkhkjndbicgaa
open Go.RowKit
theorem info_u8 : (Try.prog.info? 5).map (fun i => (i.zero, i.size, i.bytes)) = some (some (.int .u8 0), 1, 1) := by kernel_rfl
def bv (l : List UInt8) : List Value := l.map fun c => .int .u8 (c.toNat : Int)
def Own (B : Nat) (w : World) (v : Value) (l : List UInt8) : Prop := w.ownsRow B 5 1 v l.length (bv l)
def le (m : Nat) : List UInt8 := if h : m = 0 then [] else UInt8.ofNat (m % 256) :: le (m / 256)
termination_by m
decreasing_by omega
theorem le_zero : le 0 = [] := by rw [le]; rfl
theorem le_pos (m : Nat) (h : m ≠ 0) : le m = UInt8.ofNat (m % 256) :: le (m / 256) := by rw [le]; simp [h]
theorem le_length (k : Nat) : ∀ m, m < 256 ^ k → (le m).length ≤ k := by
  induction k with
  | zero => intro m hm; have : m = 0 := by omega
            subst this; rw [le_zero]; exact Nat.le_refl _
  | succ k ih =>
    intro m hm
    by_cases h : m = 0
    · subst h; rw [le_zero]; simp
    · rw [le_pos m h]
      have := ih (m / 256) (by rw [Nat.pow_succ] at hm; omega)
      simp; omega
def sgn (neg : Bool) (xs : List UInt8) : List UInt8 :=
  if xs = [] then [] else
  if 128 ≤ xs.getD (xs.length - 1) 0 then xs ++ [if neg then 128 else 0] else
  if neg then xs.set (xs.length - 1) (xs.getD (xs.length - 1) 0 + 128) else xs
def enc (n : Int) : List UInt8 := sgn (decide (n < 0)) (le n.natAbs)
def EncInv (B : Nat) (w : World) (n0 : Nat) (am v : Value) (wr : World) : Prop :=
  ∃ (m : Nat) (xs : List UInt8), m ≤ n0 ∧ am = .int .u64 (m : Int) ∧ le n0 = xs ++ le m ∧ Own B wr v xs ∧ Below B w wr
theorem bv_snoc (xs : List UInt8) (c : UInt8) : bv (xs ++ [c]) = bv xs ++ [.int .u8 (c.toNat : Int)] := by simp [bv]
theorem bv_get (xs : List UInt8) (j : Nat) (h : j < xs.length) : (bv xs)[j]? = some (.int .u8 ((xs.getD j 0).toNat : Int)) := by
  simp [bv, h, List.getD]
theorem ofNat_mod (m : Nat) : ((UInt8.ofNat (m % 256)).toNat : Int) = IntKind.u8.wrap (m : Int) := by
  simp [IntKind.wrap, IntKind.bits, IntKind.signed]
theorem Own.push {B : Nat} {w : World} {v : Value} {xs : List UInt8} {c : UInt8} {z : Int} (hz : (c.toNat : Int) = z) (h : w.ownsRow B 5 1 v (xs.length + 1) (bv xs ++ [.int .u8 z])) : Own B w v (xs ++ [c]) := by
  unfold Own
  rw [bv_snoc, hz]
  simpa using h
theorem one_new {w : World} {x : Value} (B : Nat) (hB : B = w.heap.size) : ∀ j u, ([x] : List Value)[j]? = some u → (w.alloc (.cells #[x] 5)).cell? ((⟨B, 0, none⟩ : Addr).add j) = some u := by
  subst hB
  intro j u hj
  match j, hj with
  | 0, hj => simp at hj; subst hj; simp [Addr.add]
theorem one_cell {k : IntKind} {x : Int} : ∀ u ∈ [Value.int k x], u.oneCell' = true := by
  intro u hu; simp at hu; subst hu; rfl
theorem and128 : ∀ n : Fin 256, (bits BinOp.and IntKind.u8 (n.val : Int) 128 != 0) = decide (128 ≤ n.val) := by decide +kernel
theorem or128 : ∀ n : Fin 128, bits BinOp.or IntKind.u8 (n.val : Int) 128 = ((n.val + 128 : Nat) : Int) := by decide +kernel
theorem Own.form {B : Nat} {w : World} {v : Value} {xs : List UInt8} {N : Nat} (h : Own B w v xs) (hN : xs.length = N + 1) :
    ∃ g cap, v = .slice (some ⟨g, 0, none⟩) (N + 1) cap ∧ B ≤ g ∧ g < w.heap.size ∧ w.ownsRow B 5 1 (.slice (some ⟨g, 0, none⟩) (N + 1) cap) (N + 1) (bv xs) ∧ (∀ j, w.frozen? ⟨g, j, none⟩ = false) ∧ ∀ j, j < N + 1 → w.cell? ⟨g, j, none⟩ = some (.int .u8 ((xs.getD j 0).toNat : Int)) := by
  unfold Own at h
  rw [hN] at h
  obtain ⟨g, cap, rfl, h1, h2⟩ := World.ownsRow.form h (by omega)
  exact ⟨g, cap, rfl, h1, h2, h, h.frozenAt, fun j hj => by rw [h.cellAt j (by omega), bv_get _ _ (by omega)]⟩
theorem Own.set {B : Nat} {w : World} {xs : List UInt8} {N g cap : Nat} (hN : xs.length = N + 1) (h : w.ownsRow B 5 1 (.slice (some ⟨g, 0, none⟩) (N + 1) cap) (N + 1) (bv xs)) (j : Nat) (c : UInt8) {z : Int} (hz : (c.toNat : Int) = z) :
    Own B (w.setCell ⟨g, j, none⟩ (.int .u8 z)) (.slice (some ⟨g, 0, none⟩) (N + 1) cap) (xs.set j c) := by
  have := (h.stored j (.int .u8 z)).1
  unfold Own
  rw [List.length_set, hN]
  have e : (bv xs).set j (.int .u8 z) = bv (xs.set j c) := by
    simp [bv, List.map_set, hz]
  rw [← e]; exact this
end Go.Proofs.Ytikkhkjndbicgaa

/- The walk of number.Encode. -/
namespace Go.Proofs.Ytikkhkjndbicgaa
open Go.RowKit
set_option maxRecDepth 20000
theorem sgn_nil (b : Bool) : sgn b [] = [] := rfl
theorem sgn_high {xs : List UInt8} {N c : Nat} (neg : Bool) (hN : xs.length = N + 1) (hc : (xs.getD N 0).toNat = c) (h : 128 ≤ c) : sgn neg xs = xs ++ [if neg then 128 else 0] := by
  have : xs ≠ [] := by rintro rfl; simp at hN
  have h2 : 128 ≤ xs.getD N 0 := by rw [UInt8.le_iff_toNat_le, hc]; exact h
  unfold sgn
  rw [if_neg this, hN]
  simp only [Nat.add_sub_cancel]
  rw [if_pos h2]
theorem sgn_low {xs : List UInt8} {N c : Nat} (neg : Bool) (hN : xs.length = N + 1) (hc : (xs.getD N 0).toNat = c) (h : c < 128) : sgn neg xs = if neg then xs.set N (xs.getD N 0 + 128) else xs := by
  have : xs ≠ [] := by rintro rfl; simp at hN
  have h2 : ¬ 128 ≤ xs.getD N 0 := by rw [UInt8.le_iff_toNat_le, hc]; exact Nat.not_le.2 h
  unfold sgn
  rw [if_neg this, hN]
  simp only [Nat.add_sub_cancel]
  rw [if_neg h2]
def EncEnd (B : Nat) (w : World) (l : List UInt8) (e : Ending) (w' : World) : Prop := ∃ v, e = .returned v ∧ Own B w' v l ∧ Below B w w'
set_option maxHeartbeats 1000000 in
theorem encode_any (w : World) (n : Int) (hn1 : -9223372036854775808 ≤ n) (hn2 : n < 9223372036854775808) :
    Calls Try.prog 50 #[.int .i64 n] w (EncEnd w.heap.size w (enc n)) := by
  obtain ⟨i0, hi, hz0, hz1, hz2⟩ := info_parts info_u8
  have hlen0 := le_length 8 n.natAbs (by omega)
  have wrap0 : ∀ m : Nat, m < 18446744073709551616 → IntKind.u64.wrap (m : Int) = m := fun m hm => by simp [IntKind.wrap, IntKind.bits, IntKind.signed]; omega
  obtain ⟨m0, hm0⟩ : ∃ m0, n.natAbs = m0 := ⟨_, rfl⟩
  rw [hm0] at hlen0
  have hm1 : m0 ≤ 9223372036854775808 := by omega
  rcases Int.lt_or_le n 0 with hneg | hneg
  · have HI : Hid (IntKind.u64.wrap (-IntKind.u64.wrap n) = (m0 : Int)) := by simp [Hid, IntKind.wrap, IntKind.bits, IntKind.signed]; omega
    have HE : Hid (enc n = sgn true (le m0)) := by rw [← hm0]; unfold enc; rw [decide_eq_true hneg]; exact rfl
    clear hm0 hn1 hn2 wrap0
    go_enter Try.func50, Try.ntmps50
    go_wp2
    go_loopw [4, 5] (fun am v wr => EncInv w.heap.size w m0 am v wr) (fun am _ _ => (intOf am).toNat)
    case atStart => exact ⟨m0, [], Nat.le_refl _, by rw [HI.out], rfl, World.ownsRow_nil _ _ _ _, Below.refl _ _⟩
    case round =>
      clear HI
      obtain ⟨m, xs, hm, rfl, hle, hown, hb⟩ := hrel
      have hxl : xs.length ≤ 8 := by have := congrArg List.length hle; simp at this; omega
      by_cases hm0 : 0 < m
      · have H1 : Hid (le m0 = (xs ++ [UInt8.ofNat (m % 256)]) ++ le (m / 256)) := by rw [hle, le_pos m (by omega)]; simp [Hid]
        clear hle
        go_wp2_with (at_builtin; refine wpList_append_own _ rfl _ _ 34 rfl w.heap.size 5 i0 (.int .u8 0) 1 1 Try.underlying34 hi hz0 hz1 hz2 rfl (by decide) _ _ _ rfl (hown.alloc _) ⟨wr.heap.size, 0, none⟩ 1 1 [.int .u8 (IntKind.u8.wrap m)] rfl rfl (one_new _ rfl) one_cell ?c3 ?c4 ?c5 ?_)
        case c3 => unfold maxLen; omega
        case c4 => omega
        case c5 => have := hb.size; simp; omega
        intro v' w1 hown' hgrow _
        have R1 : Own w.heap.size w1 v' (xs ++ [UInt8.ofNat (m % 256)]) := Own.push (ofNat_mod m) hown'
        have R2 : Below w.heap.size w w1 := (hb.alloc hb.size _).grown hgrow (by have := hb.size; simp; omega) (fun k hk => (hown.lt k hk).1)
        clear hown hown' hgrow
        go_wp2
        go_roundw
        case rel => exact ⟨m / 256, _, by omega, by congr 1, H1.out, R1, R2⟩
        case measure => simp [intOf]; omega
      · obtain rfl : m = 0 := by omega
        have H1 : Hid (le m0 = xs) := by rw [hle, le_zero]; simp [Hid]
        clear hle
        rcases hx : xs.length with _ | N
        · obtain rfl : xs = [] := List.length_eq_zero_iff.1 hx
          rcases hown.2 with ⟨rfl, _⟩ | ⟨g, cap, cur, rfl, _⟩
          all_goals
            clear hx hxl
            go_wp2
            go_ret
            exact ⟨_, rfl, by rw [HE.out, H1.out, sgn_nil]; exact hown, hb⟩
        · rw [hx] at hxl
          obtain ⟨g, cap, rfl, hg1, hg2, hrow, hfz, hcs⟩ := hown.form hx
          obtain ⟨c, hc⟩ : ∃ c : Nat, (xs.getD N 0).toNat = c := ⟨_, rfl⟩
          have hcell : wr.cell? ⟨g, N, none⟩ = some (.int .u8 (c : Int)) := by rw [← hc]; exact hcs N (by omega)
          have hfN := hfz N
          have hc256 : c < 256 := by rw [← hc]; exact (xs.getD N 0).toNat_lt
          have hand := and128 ⟨c, hc256⟩
          simp only at hand
          have HX := Lib.hid hx
          have HC := Lib.hid hc
          clear hx hc hfz hcs
          by_cases h128 : 128 ≤ c
          · rw [decide_eq_true h128] at hand
            go_wp2_with (at_builtin; refine wpList_append_own _ rfl _ _ 34 rfl w.heap.size 5 i0 (.int .u8 0) 1 1 Try.underlying34 hi hz0 hz1 hz2 rfl (by decide) _ _ _ rfl (hrow.alloc _) ⟨wr.heap.size, 0, none⟩ 1 1 [.int .u8 0] rfl rfl (one_new _ rfl) one_cell ?c3 ?c4 ?c5 ?_)
            case c3 => unfold maxLen; omega
            case c4 => omega
            case c5 => have := hb.size; simp; omega
            intro v' w1 hown' hgrow _
            have R1 : Own w.heap.size w1 v' (xs ++ [0]) := Own.push rfl (by rw [HX.out]; exact hown')
            have R2 : Below w.heap.size w w1 := (hb.alloc hb.size _).grown hgrow (by have := hb.size; simp; omega) (fun k hk => (hrow.lt k hk).1)
            clear hrow hown' hgrow hand hcell hfN
            have hx2 : (xs ++ [0]).length = N + 1 + 1 := by simp; exact HX.out
            obtain ⟨g', cap', rfl, hg1', hg2', hrow', hfz', hcs'⟩ := R1.form hx2
            have hcell' : w1.cell? ⟨g', N + 1, none⟩ = some (.int .u8 0) := by
              rw [hcs' (N + 1) (by omega)]
              congr 2
              have hxo := HX.out
              rw [List.getD_eq_getElem?_getD, List.getElem?_append_right (by omega), show N + 1 - xs.length = 0 by omega]
              rfl
            have hfz1 := hfz' (N + 1)
            have HX2 := Lib.hid hx2
            clear hcs' hfz' hx2
            go_wp2
            go_ret
            refine ⟨_, rfl, ?_, R2.setCell (p := ⟨g', N + 1, none⟩) hg1' _⟩
            rw [HE.out, H1.out, sgn_high _ HX.out HC.out h128]
            have e1 : (xs ++ [0]).set (N + 1) (128 : UInt8) = xs ++ [if true then 128 else 0] := by
              rw [List.set_append_right _ _ (by rw [HX.out]; omega)]
              rw [show N + 1 - xs.length = 0 by rw [HX.out]; omega]
              rfl
            rw [← e1]
            exact Own.set HX2.out hrow' (N + 1) 128 rfl
          · rw [decide_eq_false h128] at hand
            go_wp2
            go_ret
            refine ⟨_, rfl, ?_, hb.setCell (p := ⟨g, N, none⟩) hg1 _⟩
            rw [HE.out, H1.out, sgn_low _ HX.out HC.out (by omega), if_pos rfl]
            refine Own.set HX.out hrow N _ ?_
            rw [or128 ⟨c, by omega⟩, UInt8.toNat_add, HC.out]
            show (((c + 128) % 256 : Nat) : Int) = _
            rw [Nat.mod_eq_of_lt (by omega)]
  · have HI : Hid (IntKind.u64.wrap n = (m0 : Int)) := by simp [Hid, IntKind.wrap, IntKind.bits, IntKind.signed]; omega
    have HE : Hid (enc n = sgn false (le m0)) := by rw [← hm0]; unfold enc; rw [decide_eq_false (by omega)]; exact rfl
    clear hm0 hn1 hn2 wrap0
    go_enter Try.func50, Try.ntmps50
    go_wp2
    go_loopw [4, 5] (fun am v wr => EncInv w.heap.size w m0 am v wr) (fun am _ _ => (intOf am).toNat)
    case atStart => exact ⟨m0, [], Nat.le_refl _, by rw [HI.out], rfl, World.ownsRow_nil _ _ _ _, Below.refl _ _⟩
    case round =>
      clear HI
      obtain ⟨m, xs, hm, rfl, hle, hown, hb⟩ := hrel
      have hxl : xs.length ≤ 8 := by have := congrArg List.length hle; simp at this; omega
      by_cases hm0 : 0 < m
      · have H1 : Hid (le m0 = (xs ++ [UInt8.ofNat (m % 256)]) ++ le (m / 256)) := by rw [hle, le_pos m (by omega)]; simp [Hid]
        clear hle
        go_wp2_with (at_builtin; refine wpList_append_own _ rfl _ _ 34 rfl w.heap.size 5 i0 (.int .u8 0) 1 1 Try.underlying34 hi hz0 hz1 hz2 rfl (by decide) _ _ _ rfl (hown.alloc _) ⟨wr.heap.size, 0, none⟩ 1 1 [.int .u8 (IntKind.u8.wrap m)] rfl rfl (one_new _ rfl) one_cell ?c3 ?c4 ?c5 ?_)
        case c3 => unfold maxLen; omega
        case c4 => omega
        case c5 => have := hb.size; simp; omega
        intro v' w1 hown' hgrow _
        have R1 : Own w.heap.size w1 v' (xs ++ [UInt8.ofNat (m % 256)]) := Own.push (ofNat_mod m) hown'
        have R2 : Below w.heap.size w w1 := (hb.alloc hb.size _).grown hgrow (by have := hb.size; simp; omega) (fun k hk => (hown.lt k hk).1)
        clear hown hown' hgrow
        go_wp2
        go_roundw
        case rel => exact ⟨m / 256, _, by omega, by congr 1, H1.out, R1, R2⟩
        case measure => simp [intOf]; omega
      · obtain rfl : m = 0 := by omega
        have H1 : Hid (le m0 = xs) := by rw [hle, le_zero]; simp [Hid]
        clear hle
        rcases hx : xs.length with _ | N
        · obtain rfl : xs = [] := List.length_eq_zero_iff.1 hx
          rcases hown.2 with ⟨rfl, _⟩ | ⟨g, cap, cur, rfl, _⟩
          all_goals
            clear hx hxl
            go_wp2
            go_ret
            exact ⟨_, rfl, by rw [HE.out, H1.out, sgn_nil]; exact hown, hb⟩
        · rw [hx] at hxl
          obtain ⟨g, cap, rfl, hg1, hg2, hrow, hfz, hcs⟩ := hown.form hx
          obtain ⟨c, hc⟩ : ∃ c : Nat, (xs.getD N 0).toNat = c := ⟨_, rfl⟩
          have hcell : wr.cell? ⟨g, N, none⟩ = some (.int .u8 (c : Int)) := by rw [← hc]; exact hcs N (by omega)
          have hfN := hfz N
          have hc256 : c < 256 := by rw [← hc]; exact (xs.getD N 0).toNat_lt
          have hand := and128 ⟨c, hc256⟩
          simp only at hand
          have HX := Lib.hid hx
          have HC := Lib.hid hc
          clear hx hc hfz hcs
          by_cases h128 : 128 ≤ c
          · rw [decide_eq_true h128] at hand
            go_wp2_with (at_builtin; refine wpList_append_own _ rfl _ _ 34 rfl w.heap.size 5 i0 (.int .u8 0) 1 1 Try.underlying34 hi hz0 hz1 hz2 rfl (by decide) _ _ _ rfl (hrow.alloc _) ⟨wr.heap.size, 0, none⟩ 1 1 [.int .u8 0] rfl rfl (one_new _ rfl) one_cell ?c3 ?c4 ?c5 ?_)
            case c3 => unfold maxLen; omega
            case c4 => omega
            case c5 => have := hb.size; simp; omega
            intro v' w1 hown' hgrow _
            have R1 : Own w.heap.size w1 v' (xs ++ [0]) := Own.push rfl (by rw [HX.out]; exact hown')
            have R2 : Below w.heap.size w w1 := (hb.alloc hb.size _).grown hgrow (by have := hb.size; simp; omega) (fun k hk => (hrow.lt k hk).1)
            clear hrow hown' hgrow hand hcell hfN
            have hx2 : (xs ++ [0]).length = N + 1 + 1 := by simp; exact HX.out
            obtain ⟨g', cap', rfl, hg1', hg2', hrow', hfz', hcs'⟩ := R1.form hx2
            have hcell' : w1.cell? ⟨g', N + 1, none⟩ = some (.int .u8 0) := by
              rw [hcs' (N + 1) (by omega)]
              congr 2
              have hxo := HX.out
              rw [List.getD_eq_getElem?_getD, List.getElem?_append_right (by omega), show N + 1 - xs.length = 0 by omega]
              rfl
            have hfz1 := hfz' (N + 1)
            have HX2 := Lib.hid hx2
            clear hcs' hfz' hx2
            go_wp2
            go_ret
            refine ⟨_, rfl, ?_, R2⟩
            rw [HE.out, H1.out, sgn_high _ HX.out HC.out h128]
            exact R1
          · rw [decide_eq_false h128] at hand
            go_wp2
            go_ret
            refine ⟨_, rfl, ?_, hb⟩
            rw [HE.out, H1.out, sgn_low _ HX.out HC.out (by omega), if_neg (by decide)]
            exact hown
end Go.Proofs.Ytikkhkjndbicgaa

/- The walk of the reference's Encode. -/
namespace Go.Proofs.Ytikkhkjndbicgaa
open Go.RowKit
def EncInvR (B : Nat) (w : World) (s : Int) (n0 : Nat) (am v : Value) (wr : World) : Prop :=
  ∃ (m : Nat) (xs : List UInt8), m ≤ n0 ∧ am = .int .i64 (s * (m : Int)) ∧ le n0 = xs ++ le m ∧ Own B wr v xs ∧ Below B w wr
theorem add128 (c : UInt8) (h : c.toNat < 128) : ((c + 128).toNat : Int) = (c.toNat : Int) + 128 := by
  rw [UInt8.toNat_add]; show (((c.toNat + 128) % 256 : Nat) : Int) = _; omega
set_option maxHeartbeats 1000000 in
set_option maxRecDepth 100000 in
theorem encodeR_any (w : World) (n : Int) (hn1 : -9223372036854775808 ≤ n) (hn2 : n < 9223372036854775808) :
    Calls Try.prog 66 #[.int .i64 n] w (EncEnd w.heap.size w (enc n)) := by
  obtain ⟨i0, hi, hz0, hz1, hz2⟩ := info_parts info_u8
  have hlen0 := le_length 8 n.natAbs (by omega)
  obtain ⟨m0, hm0⟩ : ∃ m0, n.natAbs = m0 := ⟨_, rfl⟩
  rw [hm0] at hlen0
  have hm1 : m0 ≤ 9223372036854775808 := by omega
  have hmk : (Instr.buildSlice 34 0 #[]).run Try.prog w = .ok (.slice (some ⟨w.heap.size, 0, none⟩) 0 0) (w.alloc (.cells #[] 5)) := by kernel_rfl
  rcases Int.lt_or_le n 0 with hneg | hneg
  · obtain rfl : n = -(m0 : Int) := by omega
    have HE : Hid (enc (-(m0 : Int)) = sgn true (le m0)) := by unfold enc; rw [hm0, decide_eq_true hneg]; exact rfl
    clear hm0 hn2
    have hneg' : 0 < m0 := by omega
    go_enter Try.func66, Try.ntmps66
    go_wp2
    go_loopw [4, 5, 3] (fun am dd v wr => ∃ (m : Nat) (xs : List UInt8), m ≤ m0 ∧ am = .int .i64 (-(m : Int)) ∧ le m0 = xs ++ le m ∧ Own w.heap.size wr v xs ∧ Below w.heap.size w wr) (fun am _ _ _ => (intOf am).natAbs)
    case atStart => exact ⟨m0, [], Nat.le_refl _, rfl, rfl, World.ownsRow_lit _ #[] 0 (Nat.le_refl _) (by decide) rfl, (Below.refl _ _).alloc (Nat.le_refl _) _⟩
    case round =>
      obtain ⟨m, xs, hm, rfl, hle, hown, hb⟩ := hrel
      have hxl : xs.length ≤ 8 := by have := congrArg List.length hle; simp at this; omega
      by_cases hm0 : 0 < m
      · have H1 : Hid (le m0 = (xs ++ [UInt8.ofNat (m % 256)]) ++ le (m / 256)) := by rw [hle, le_pos m (by omega)]; simp [Hid]
        clear hle
        have e1 : (-(m : Int)).tmod 256 = -((m % 256 : Nat) : Int) := by rw [Int.neg_tmod]; rfl
        have e2 : (-(m : Int)).tdiv 256 = -((m / 256 : Nat) : Int) := by rw [Int.neg_tdiv]; rfl
        obtain ⟨r, hr⟩ : ∃ r, m % 256 = r := ⟨_, rfl⟩
        obtain ⟨q, hq⟩ : ∃ q, m / 256 = q := ⟨_, rfl⟩
        rw [hr] at e1; rw [hq] at e2
        have hr1 : r < 256 := by omega
        have hq1 : q < m := by omega
        have HR := Lib.hid hr
        have HQ := Lib.hid hq
        clear hr hq
        rcases Nat.eq_zero_or_pos r with rfl | hrp
        · go_wp2_with (at_builtin; refine wpList_append_own _ rfl _ _ 34 rfl w.heap.size 5 i0 (.int .u8 0) 1 1 Try.underlying34 hi hz0 hz1 hz2 rfl (by decide) _ _ _ rfl (hown.alloc _) ⟨wr.heap.size, 0, none⟩ 1 1 [Value.int .u8 _] rfl rfl (one_new _ rfl) one_cell ?c3 ?c4 ?c5 ?_)
          case c3 => unfold maxLen; omega
          case c4 => omega
          case c5 => have := hb.size; simp; omega
          intro v' w1 hown' hgrow _
          have R1 : Own w.heap.size w1 v' (xs ++ [UInt8.ofNat (m % 256)]) := Own.push (by rw [ofNat_mod]; have := HR.out; simp [IntKind.wrap, IntKind.bits, IntKind.signed]; omega) hown'
          have R2 : Below w.heap.size w w1 := (hb.alloc hb.size _).grown hgrow (by have := hb.size; simp; omega) (fun k hk => (hown.lt k hk).1)
          clear hown hown' hgrow
          go_wp2
          go_roundw
          case rel => exact ⟨q, _, by omega, rfl, by rw [← HQ.out]; exact H1.out, R1, R2⟩
          case measure => simp [intOf]; omega
        · go_wp2_with (at_builtin; refine wpList_append_own _ rfl _ _ 34 rfl w.heap.size 5 i0 (.int .u8 0) 1 1 Try.underlying34 hi hz0 hz1 hz2 rfl (by decide) _ _ _ rfl (hown.alloc _) ⟨wr.heap.size, 0, none⟩ 1 1 [Value.int .u8 _] rfl rfl (one_new _ rfl) one_cell ?c3 ?c4 ?c5 ?_)
          case c3 => unfold maxLen; omega
          case c4 => omega
          case c5 => have := hb.size; simp; omega
          intro v' w1 hown' hgrow _
          have R1 : Own w.heap.size w1 v' (xs ++ [UInt8.ofNat (m % 256)]) := Own.push (by rw [ofNat_mod]; have := HR.out; simp [IntKind.wrap, IntKind.bits, IntKind.signed]; omega) hown'
          have R2 : Below w.heap.size w w1 := (hb.alloc hb.size _).grown hgrow (by have := hb.size; simp; omega) (fun k hk => (hown.lt k hk).1)
          clear hown hown' hgrow
          go_wp2
          go_roundw
          case rel => exact ⟨q, _, by omega, rfl, by rw [← HQ.out]; exact H1.out, R1, R2⟩
          case measure => simp [intOf]; omega
      · obtain rfl : m = 0 := by omega
        have H1 : Hid (le m0 = xs) := by rw [hle, le_zero]; simp [Hid]
        clear hle
        rcases hx : xs.length with _ | N
        · obtain rfl : xs = [] := List.length_eq_zero_iff.1 hx
          have hm00 : m0 = 0 := by
            refine Classical.byContradiction fun hne => ?_
            have := H1.out
            rw [le_pos m0 hne] at this
            cases this
          obtain rfl := hm00
          rcases hown.2 with ⟨rfl, _⟩ | ⟨g, cap, cur, rfl, _⟩
          all_goals
            clear hx hxl
            exact absurd hneg (by simp)
        · rw [hx] at hxl
          obtain ⟨g, cap, rfl, hg1, hg2, hrow, hfz, hcs⟩ := hown.form hx
          obtain ⟨c, hc⟩ : ∃ c : Nat, (xs.getD N 0).toNat = c := ⟨_, rfl⟩
          have hcell : wr.cell? ⟨g, N, none⟩ = some (.int .u8 (c : Int)) := by rw [← hc]; exact hcs N (by omega)
          have hfN := hfz N
          have hc256 : c < 256 := by rw [← hc]; exact (xs.getD N 0).toNat_lt
          have HX := Lib.hid hx
          have HC := Lib.hid hc
          clear hx hc hfz hcs
          by_cases h128 : 128 ≤ c
          · go_wp2_with (at_builtin; refine wpList_append_own _ rfl _ _ 34 rfl w.heap.size 5 i0 (.int .u8 0) 1 1 Try.underlying34 hi hz0 hz1 hz2 rfl (by decide) _ _ _ rfl (hrow.alloc _) ⟨wr.heap.size, 0, none⟩ 1 1 [.int .u8 0] rfl rfl (one_new _ rfl) one_cell ?c3 ?c4 ?c5 ?_)
            case c3 => unfold maxLen; omega
            case c4 => omega
            case c5 => have := hb.size; simp; omega
            intro v' w1 hown' hgrow _
            have R1 : Own w.heap.size w1 v' (xs ++ [0]) := Own.push rfl (by rw [HX.out]; exact hown')
            have R2 : Below w.heap.size w w1 := (hb.alloc hb.size _).grown hgrow (by have := hb.size; simp; omega) (fun k hk => (hrow.lt k hk).1)
            clear hrow hown' hgrow hcell hfN
            have hx2 : (xs ++ [0]).length = N + 1 + 1 := by simp; exact HX.out
            obtain ⟨g', cap', rfl, hg1', hg2', hrow', hfz', hcs'⟩ := R1.form hx2
            have hcell' : w1.cell? ⟨g', N + 1, none⟩ = some (.int .u8 0) := by
              rw [hcs' (N + 1) (by omega)]
              congr 2
              have hxo := HX.out
              rw [List.getD_eq_getElem?_getD, List.getElem?_append_right (by omega), show N + 1 - xs.length = 0 by omega]
              rfl
            have hfz1 := hfz' (N + 1)
            have HX2 := Lib.hid hx2
            clear hcs' hfz' hx2
            go_wp2
            go_ret
            refine ⟨_, rfl, ?_, R2.setCell (p := ⟨g', N + 1, none⟩) hg1' _⟩
            rw [HE.out, H1.out, sgn_high _ HX.out HC.out h128]
            have e1 : (xs ++ [0]).set (N + 1) (128 : UInt8) = xs ++ [if true then 128 else 0] := by
              rw [List.set_append_right _ _ (by rw [HX.out]; omega)]
              rw [show N + 1 - xs.length = 0 by rw [HX.out]; omega]
              rfl
            rw [← e1]
            exact Own.set HX2.out hrow' (N + 1) 128 rfl
          · go_wp2
            go_ret
            refine ⟨_, rfl, ?_, hb.setCell (p := ⟨g, N, none⟩) hg1 _⟩
            rw [HE.out, H1.out, sgn_low _ HX.out HC.out (by omega), if_pos rfl]
            refine Own.set HX.out hrow N _ ?_
            rw [add128 _ (by rw [HC.out]; omega), HC.out]
  · obtain rfl : n = (m0 : Int) := by omega
    have HE : Hid (enc (m0 : Int) = sgn false (le m0)) := by unfold enc; rw [hm0, decide_eq_false (by omega)]; exact rfl
    have hm2 : m0 ≤ 9223372036854775807 := by omega
    clear hm0 hn1 hn2 hm1
    go_enter Try.func66, Try.ntmps66
    go_wp2
    go_loopw [4, 5, 3] (fun am dd v wr => ∃ (m : Nat) (xs : List UInt8), m ≤ m0 ∧ am = .int .i64 ((m : Int)) ∧ le m0 = xs ++ le m ∧ Own w.heap.size wr v xs ∧ Below w.heap.size w wr) (fun am _ _ _ => (intOf am).natAbs)
    case atStart => exact ⟨m0, [], Nat.le_refl _, rfl, rfl, World.ownsRow_lit _ #[] 0 (Nat.le_refl _) (by decide) rfl, (Below.refl _ _).alloc (Nat.le_refl _) _⟩
    case round =>
      obtain ⟨m, xs, hm, rfl, hle, hown, hb⟩ := hrel
      have hxl : xs.length ≤ 8 := by have := congrArg List.length hle; simp at this; omega
      by_cases hm0 : 0 < m
      · have H1 : Hid (le m0 = (xs ++ [UInt8.ofNat (m % 256)]) ++ le (m / 256)) := by rw [hle, le_pos m (by omega)]; simp [Hid]
        clear hle
        obtain ⟨r, hr⟩ : ∃ r, m % 256 = r := ⟨_, rfl⟩
        obtain ⟨q, hq⟩ : ∃ q, m / 256 = q := ⟨_, rfl⟩
        have e1 : (m : Int) % 256 = (r : Int) := by omega
        have e2 : (m : Int) / 256 = (q : Int) := by omega
        have hr1 : r < 256 := by omega
        have hq1 : q < m := by omega
        have HR := Lib.hid hr
        have HQ := Lib.hid hq
        clear hr hq
        go_wp2_with (at_builtin; refine wpList_append_own _ rfl _ _ 34 rfl w.heap.size 5 i0 (.int .u8 0) 1 1 Try.underlying34 hi hz0 hz1 hz2 rfl (by decide) _ _ _ rfl (hown.alloc _) ⟨wr.heap.size, 0, none⟩ 1 1 [Value.int .u8 _] rfl rfl (one_new _ rfl) one_cell ?c3 ?c4 ?c5 ?_)
        case c3 => unfold maxLen; omega
        case c4 => omega
        case c5 => have := hb.size; simp; omega
        intro v' w1 hown' hgrow _
        have R1 : Own w.heap.size w1 v' (xs ++ [UInt8.ofNat (m % 256)]) := Own.push (by rw [ofNat_mod]; have := HR.out; simp [IntKind.wrap, IntKind.bits, IntKind.signed]; omega) hown'
        have R2 : Below w.heap.size w w1 := (hb.alloc hb.size _).grown hgrow (by have := hb.size; simp; omega) (fun k hk => (hown.lt k hk).1)
        clear hown hown' hgrow
        go_wp2
        go_roundw
        case rel => exact ⟨q, _, by omega, rfl, by rw [← HQ.out]; exact H1.out, R1, R2⟩
        case measure => simp [intOf]; omega
      · obtain rfl : m = 0 := by omega
        have H1 : Hid (le m0 = xs) := by rw [hle, le_zero]; simp [Hid]
        clear hle
        rcases hx : xs.length with _ | N
        · obtain rfl : xs = [] := List.length_eq_zero_iff.1 hx
          have hm00 : m0 = 0 := by
            refine Classical.byContradiction fun hne => ?_
            have := H1.out
            rw [le_pos m0 hne] at this
            cases this
          obtain rfl := hm00
          rcases hown.2 with ⟨rfl, _⟩ | ⟨g, cap, cur, rfl, _⟩
          all_goals
            clear hx hxl
            go_wp2
            go_ret
            exact ⟨_, rfl, by rw [HE.out, H1.out, sgn_nil]; exact hown, hb⟩
        · rw [hx] at hxl
          obtain ⟨g, cap, rfl, hg1, hg2, hrow, hfz, hcs⟩ := hown.form hx
          obtain ⟨c, hc⟩ : ∃ c : Nat, (xs.getD N 0).toNat = c := ⟨_, rfl⟩
          have hcell : wr.cell? ⟨g, N, none⟩ = some (.int .u8 (c : Int)) := by rw [← hc]; exact hcs N (by omega)
          have hfN := hfz N
          have hc256 : c < 256 := by rw [← hc]; exact (xs.getD N 0).toNat_lt
          have HX := Lib.hid hx
          have HC := Lib.hid hc
          clear hx hc hfz hcs
          by_cases h128 : 128 ≤ c
          · go_wp2_with (at_builtin; refine wpList_append_own _ rfl _ _ 34 rfl w.heap.size 5 i0 (.int .u8 0) 1 1 Try.underlying34 hi hz0 hz1 hz2 rfl (by decide) _ _ _ rfl (hrow.alloc _) ⟨wr.heap.size, 0, none⟩ 1 1 [.int .u8 0] rfl rfl (one_new _ rfl) one_cell ?c3 ?c4 ?c5 ?_)
            case c3 => unfold maxLen; omega
            case c4 => omega
            case c5 => have := hb.size; simp; omega
            intro v' w1 hown' hgrow _
            have R1 : Own w.heap.size w1 v' (xs ++ [0]) := Own.push rfl (by rw [HX.out]; exact hown')
            have R2 : Below w.heap.size w w1 := (hb.alloc hb.size _).grown hgrow (by have := hb.size; simp; omega) (fun k hk => (hrow.lt k hk).1)
            clear hrow hown' hgrow hcell hfN
            have hx2 : (xs ++ [0]).length = N + 1 + 1 := by simp; exact HX.out
            obtain ⟨g', cap', rfl, hg1', hg2', hrow', hfz', hcs'⟩ := R1.form hx2
            have hcell' : w1.cell? ⟨g', N + 1, none⟩ = some (.int .u8 0) := by
              rw [hcs' (N + 1) (by omega)]
              congr 2
              have hxo := HX.out
              rw [List.getD_eq_getElem?_getD, List.getElem?_append_right (by omega), show N + 1 - xs.length = 0 by omega]
              rfl
            have hfz1 := hfz' (N + 1)
            have HX2 := Lib.hid hx2
            clear hcs' hfz' hx2
            go_wp2
            go_ret
            refine ⟨_, rfl, ?_, R2⟩
            rw [HE.out, H1.out, sgn_high _ HX.out HC.out h128]
            exact R1
          · go_wp2
            go_ret
            refine ⟨_, rfl, ?_, hb⟩
            rw [HE.out, H1.out, sgn_low _ HX.out HC.out (by omega), if_neg (by decide)]
            exact hown
end Go.Proofs.Ytikkhkjndbicgaa

/- Numbers of bytes: plain laws; a slice that reads as bytes as a string. -/
namespace Go.Proofs.Ytikkhkjndbicgaa
open Go.RowKit
set_option maxRecDepth 20000
def vl : List UInt8 → Nat
  | [] => 0
  | c :: t => c.toNat + 256 * vl t
theorem vl_snoc (xs : List UInt8) (c : UInt8) : vl (xs ++ [c]) = vl xs + c.toNat * 256 ^ xs.length := by
  induction xs with
  | nil => simp [vl]
  | cons a t ih => simp only [List.cons_append, vl, ih, List.length_cons, Nat.pow_succ]; grind
theorem vl_lt (xs : List UInt8) : vl xs < 256 ^ xs.length := by
  induction xs with
  | nil => simp [vl]
  | cons a t ih => simp only [vl, List.length_cons, Nat.pow_succ]; have := a.toNat_lt; omega
def val (l : List UInt8) : Int :=
  if 128 ≤ (l.getD (l.length - 1) 0).toNat then -((vl (l.take (l.length - 1)) + (l.getD (l.length - 1) 0).toNat % 128 * 256 ^ (l.length - 1) : Nat) : Int)
  else ((vl (l.take (l.length - 1)) + (l.getD (l.length - 1) 0).toNat % 128 * 256 ^ (l.length - 1) : Nat) : Int)
def decOk (l : List UInt8) (most : Int) : Bool := decide ((l.length : Int) ≤ most) && decide (l.length ≤ 8) && (enc (val l) == l)
theorem take_succ_getD (l : List UInt8) (k : Nat) (h : k < l.length) : l.take (k + 1) = l.take k ++ [l.getD k 0] := by
  rw [List.take_succ_eq_append_getElem h]; simp [List.getD, h]
theorem wrap_u64_nat (m : Nat) (h : m < 18446744073709551616) : IntKind.u64.wrap (m : Int) = m := by
  simp [IntKind.wrap, IntKind.bits, IntKind.signed]; omega
theorem pow256 (k : Nat) : (2 : Int) ^ (8 * k) = ((256 ^ k : Nat) : Int) := by
  rw [Int.pow_mul]; simp
theorem p256_le (k : Nat) (h : k ≤ 7) : 256 ^ k * 256 ≤ 18446744073709551616 := by
  have h1 : 256 ^ k * 256 = 256 ^ (k + 1) := (Nat.pow_succ ..).symm
  have h2 : (256 : Nat) ^ (k + 1) ≤ 256 ^ 8 := Nat.pow_le_pow_right (by omega) (by omega)
  have h3 : (256 : Nat) ^ 8 = 18446744073709551616 := by decide
  omega
theorem or_step (A k c : Nat) (hA : A < 256 ^ k) (hk : k ≤ 7) (hc : c < 256) :
    bits .or .u64 (A : Int) (IntKind.u64.wrap ((c : Int) * 2 ^ (8 * k))) = ((A + c * 256 ^ k : Nat) : Int) := by
  have h1 := p256_le k hk
  have h2 : c * 256 ^ k ≤ 255 * 256 ^ k := Nat.mul_le_mul_right _ (by omega)
  have e : (c : Int) * 2 ^ (8 * k) = ((c * 256 ^ k : Nat) : Int) := by rw [pow256]; simp
  rw [e, wrap_u64_nat _ (by omega), u64_or_nat _ _ (by omega) (by omega)]
  congr 1
  have h3 : 256 ^ k = 2 ^ (8 * k) := by rw [Nat.pow_mul]
  rw [h3] at hA ⊢
  rw [← Nat.shiftLeft_eq, Nat.or_comm, ← Nat.shiftLeft_add_eq_or_of_lt hA, Nat.add_comm]
theorem andNot_top (B N c : Nat) (hB : B < 256 ^ N) (hN : N ≤ 7) (h1 : 128 ≤ c) (h2 : c < 256) :
    bits .andNot .u64 ((B + c * 256 ^ N : Nat) : Int) (IntKind.u64.wrap (128 * 2 ^ (8 * N))) = ((B + c % 128 * 256 ^ N : Nat) : Int) := by
  have h3 := p256_le N hN
  have e : (128 : Int) * 2 ^ (8 * N) = ((128 * 256 ^ N : Nat) : Int) := by rw [pow256]; simp
  have hc : c * 256 ^ N ≤ 255 * 256 ^ N := Nat.mul_le_mul_right _ (by omega)
  rw [e, wrap_u64_nat _ (by omega), u64_andNot_nat _ _ (by omega) (by omega)]
  congr 1
  have hm : 128 * 256 ^ N = 2 ^ (8 * N + 7) := by rw [Nat.pow_add, Nat.pow_mul]; exact Nat.mul_comm _ _
  have hcm : c % 128 = c - 128 := by omega
  obtain ⟨d, rfl⟩ : ∃ d, c = d + 128 := ⟨c - 128, by omega⟩
  have hd : d < 128 := by omega
  rw [hcm, Nat.add_sub_cancel, Nat.add_mul, hm]
  have hlow : B + d * 256 ^ N < 2 ^ (8 * N + 7) := by
    rw [← hm]
    have : d * 256 ^ N ≤ 127 * 256 ^ N := Nat.mul_le_mul_right _ (by omega)
    omega
  have hsum : B + (d * 256 ^ N + 2 ^ (8 * N + 7)) = 2 ^ (8 * N + 7) + (B + d * 256 ^ N) := by omega
  rw [hsum]
  generalize hX : B + d * 256 ^ N = X at hlow
  have h64 : 18446744073709551615 - 2 ^ (8 * N + 7) = 2 ^ 64 - (2 ^ (8 * N + 7) + 1) := by omega
  rw [h64]
  have hlt64 : 2 ^ (8 * N + 7) < 2 ^ 64 := Nat.pow_lt_pow_right (by omega) (by omega)
  apply Nat.eq_of_testBit_eq
  intro i
  rw [Nat.testBit_and, Nat.testBit_two_pow_sub_succ hlt64]
  rcases Nat.lt_trichotomy i (8 * N + 7) with h | h | h
  · rw [Nat.testBit_two_pow_add_gt h, Nat.testBit_two_pow_of_ne (by omega)]
    simp; intro _; omega
  · subst h
    rw [Nat.testBit_two_pow_self, Nat.testBit_lt_two_pow hlow]; simp
  · have e1 : (2 ^ (8 * N + 7) + X).testBit i = false := Nat.testBit_lt_two_pow (Nat.lt_of_lt_of_le (by have := Nat.pow_succ 2 (8 * N + 7); omega : 2 ^ (8 * N + 7) + X < 2 ^ (8 * N + 7 + 1)) (Nat.pow_le_pow_right (by omega) h))
    have e2 : X.testBit i = false := Nat.testBit_lt_two_pow (Nat.lt_trans hlow (Nat.pow_lt_pow_right (by omega) h))
    rw [e1, e2]; rfl
theorem conv_rd {w : World} {a : Option Addr} {l : List UInt8} (cap : Nat) (h : Rd w a l) : (convert 34 9 (.slice a l.length cap)).run Try.prog w = .ok (.string ⟨l.toArray⟩) w := by
  cases a with
  | none =>
    have : l = [] := by
      refine Classical.byContradiction fun hne => ?_
      obtain ⟨b, off, h1, _⟩ := h.2 (by simpa using hne)
      cases h1
    subst this
    exact run_convert_bytes_nil w 34 5 Try.underlying34 Try.underlying5 _ _ 9 Try.underlying9
  | some ad =>
    refine run_convert_bytes_back w _ _ _ ad cap l Try.underlying34 Try.underlying5 Try.underlying9 fun j hj => ?_
    obtain ⟨b, off, h1, hc⟩ := h.2 (by omega)
    cases h1
    have := hc j hj
    rw [List.getD_eq_getElem?_getD, List.getElem?_eq_getElem hj, Option.getD_some] at this
    rw [← this]
    simp [Addr.add]
    by_cases hj0 : j = 0 <;> simp [hj0]
theorem Rd.below {w w' : World} {a : Option Addr} {l : List UInt8} (h : Rd w a l) {B : Nat} (hb : Below B w w') (hB : w.heap.size ≤ B) : Rd w' a l :=
  ⟨h.1, fun hne => by
    obtain ⟨b, off, h1, hc⟩ := h.2 hne
    refine ⟨b, off, h1, fun k hk => ?_⟩
    have h2 := hc k hk
    have h3 := block_lt_of_cell h2
    rw [hb.cell (p := ⟨b, off + k, none⟩) (by simp at h3 ⊢; omega)]
    exact h2⟩
theorem Own.rd {B : Nat} {w : World} {v : Value} {l : List UInt8} (h : Own B w v l) (hl : l.length ≤ 140737488351232) : ∃ a cap, v = .slice a l.length cap ∧ Rd w a l := by
  rcases hx : l.length with _ | N
  · have hl0 : l = [] := List.length_eq_zero_iff.1 hx
    subst hl0
    rcases h.2 with ⟨rfl, _⟩ | ⟨g, cap, cur, rfl, _⟩
    · exact ⟨none, 0, rfl, by simp, fun h => absurd rfl h⟩
    · exact ⟨_, cap, rfl, by simp, fun h => absurd rfl h⟩
  · obtain ⟨g, cap, rfl, h1, h2, h3, h4, h5⟩ := h.form hx
    exact ⟨_, cap, rfl, by omega, fun _ => ⟨g, 0, rfl, fun k hk => by rw [Nat.zero_add]; exact h5 k (by omega)⟩⟩
theorem equal_any (w : World) (a a' : Option Addr) (l l' : List UInt8) (cap cap' : Nat) (h : Rd w a l) (h' : Rd w a' l') :
    Calls Try.prog 67 #[.slice a l.length cap, .slice a' l'.length cap'] w fun e w' => e = .returned (.bool (l == l')) ∧ w = w' := by
  have e1 := conv_rd cap h
  have e2 := conv_rd cap' h'
  go_enter Try.func67, Try.ntmps67
  go_wp2
  go_ret
  exact ⟨rfl, rfl⟩
end Go.Proofs.Ytikkhkjndbicgaa

/- The contract of number.Decode. -/
namespace Go.Proofs.Ytikkhkjndbicgaa
open Go.RowKit
theorem sgn_length (b : Bool) (xs : List UInt8) : (sgn b xs).length ≤ xs.length + 1 := by
  unfold sgn
  repeat' split
  all_goals simp
theorem enc_length (n : Int) (h : n.natAbs < 18446744073709551616) : (enc n).length ≤ 9 := by
  have h1 := le_length 8 n.natAbs (by omega)
  have h2 := sgn_length (decide (n < 0)) (le n.natAbs)
  unfold enc
  omega
def decV (l : List UInt8) (most : Int) : Value := .tuple #[.int .i64 (if decOk l most then val l else 0), .int .i64 (if decOk l most then 0 else 15)]
def DecEnd (w : World) (l : List UInt8) (most : Int) (e : Ending) (w' : World) : Prop := e = .returned (decV l most) ∧ Below w.heap.size w w'
theorem val_bound (l : List UInt8) (h : l.length ≤ 8) : -9223372036854775808 < val l ∧ val l < 9223372036854775808 := by
  rcases hx : l.length with _ | N
  · have : l = [] := List.length_eq_zero_iff.1 hx
    subst this; decide
  · have h1 := vl_lt (l.take N)
    rw [List.length_take, hx, Nat.min_eq_left (by omega)] at h1
    have h2 := p256_le N (by omega)
    have h3 : (l.getD N 0).toNat % 128 * 256 ^ N ≤ 127 * 256 ^ N := Nat.mul_le_mul_right _ (by omega)
    unfold val
    rw [hx]
    simp only [Nat.add_sub_cancel]
    split <;> omega
theorem val_low (l : List UInt8) (N c : Nat) (hN : l.length = N + 1) (hc : (l.getD N 0).toNat = c) (h : c < 128) : val l = ((vl (l.take N) + c * 256 ^ N : Nat) : Int) := by
  unfold val
  rw [hN]
  simp only [Nat.add_sub_cancel]
  rw [hc, if_neg (by omega), Nat.mod_eq_of_lt h]
theorem val_high (l : List UInt8) (N c : Nat) (hN : l.length = N + 1) (hc : (l.getD N 0).toNat = c) (h : 128 ≤ c) : val l = -((vl (l.take N) + c % 128 * 256 ^ N : Nat) : Int) := by
  unfold val
  rw [hN]
  simp only [Nat.add_sub_cancel]
  rw [hc, if_pos (by omega)]
theorem vl_top (l : List UInt8) (N c : Nat) (hN : l.length = N + 1) (hc : (l.getD N 0).toNat = c) : vl l = vl (l.take N) + c * 256 ^ N := by
  have h1 : l = l.take N ++ [l.getD N 0] := by
    rw [← take_succ_getD l N (by omega), List.take_of_length_le (by omega)]
  have h2 := vl_snoc (l.take N) (l.getD N 0)
  rw [← h1, hc, List.length_take, hN, Nat.min_eq_left (by omega)] at h2
  exact h2
theorem decV_long {l : List UInt8} {most : Int} (h : ¬ ((l.length : Int) ≤ most ∧ l.length ≤ 8)) : decV l most = .tuple #[.int .i64 0, .int .i64 15] := by
  have : decOk l most = false := by
    unfold decOk
    rw [Bool.and_eq_false_iff]
    left
    rw [Bool.and_eq_false_iff]
    by_cases h1 : (l.length : Int) ≤ most
    · right; simp; have : ¬ l.length ≤ 8 := fun h2 => h ⟨h1, h2⟩
      omega
    · left; simp; omega
  simp [decV, this]
theorem decV_ok {l : List UInt8} {most : Int} (h1 : (l.length : Int) ≤ most) (h2 : l.length ≤ 8) (h : (enc (val l) == l) = true) : decV l most = .tuple #[.int .i64 (val l), .int .i64 0] := by
  have : decOk l most = true := by simp [decOk, h1, h2, h]
  simp [decV, this]
theorem decV_no {l : List UInt8} {most : Int} (h : (enc (val l) == l) = false) : decV l most = .tuple #[.int .i64 0, .int .i64 15] := by
  have : decOk l most = false := by simp [decOk, h]
  simp [decV, this]
set_option maxHeartbeats 1000000 in
set_option maxRecDepth 100000 in
theorem decode_any (w : World) (a : Option Addr) (l : List UInt8) (cap : Nat) (most : Int) (h : Rd w a l) :
    Calls Try.prog 64 #[.slice a l.length cap, .int .i64 most] w (DecEnd w l most) := by
  have HRD := Lib.hid h
  obtain ⟨hlen, hrd⟩ := h
  obtain ⟨M, hM⟩ : ∃ M, (if (8 : Int) < most then 8 else most) = M := ⟨_, rfl⟩
  have hM1 : ∀ n : Nat, (n : Int) ≤ M ↔ ((n : Int) ≤ most ∧ n ≤ 8) := by intro n; rw [← hM]; split <;> omega
  by_cases hlong : ¬ ((l.length : Int) ≤ M)
  · have HE := Lib.hid (decV_long (fun hh => hlong ((hM1 _).2 hh)))
    obtain ⟨n, hn⟩ : ∃ n, l.length = n := ⟨_, rfl⟩
    rw [hn] at hlen hlong ⊢
    clear hM1 hrd hn
    go_enter Try.func64, Try.ntmps64
    go_wp2
    go_ret2
    exact ⟨by rw [HE.out]; rfl, Below.refl _ _⟩
  · have hshort := Classical.not_not.1 hlong
    obtain ⟨h1, h2⟩ := (hM1 _).1 hshort
    clear hM1 hlong
    have hv := val_bound l h2
    obtain ⟨V, hV⟩ : ∃ V, val l = V := ⟨_, rfl⟩
    rw [hV] at hv
    have hel := enc_length V (by omega)
    have hv1 : -9223372036854775807 ≤ V := by omega
    have hv2 : V ≤ 9223372036854775807 := by omega
    have HE1 : Hid ((enc V == l) = true → decV l most = .tuple #[.int .i64 V, .int .i64 0]) := fun hq => by subst hV; exact decV_ok h1 h2 hq
    have HE0 : Hid ((enc V == l) = false → decV l most = .tuple #[.int .i64 0, .int .i64 15]) := fun hq => by subst hV; exact decV_no hq
    obtain ⟨n, hn⟩ : ∃ n, l.length = n := ⟨_, rfl⟩
    rw [hn] at hlen hshort hrd h2 ⊢
    have HN := Lib.hid hn
    have HV := Lib.hid hV
    clear hn hV h1 hv
    rcases n with _ | N
    · have e0 : V = 0 := by
        rw [← HV.out, List.length_eq_zero_iff.1 HN.out]; decide
      subst e0
      go_enter Try.func64, Try.ntmps64
      go_wp2
      go_loop [18, 6, 7, 8] (fun i am _ _ => i = .int .i64 0 ∧ am = .int .u64 0) (fun _ _ _ _ => 0)
      case atStart => exact ⟨rfl, rfl⟩
      case round =>
        obtain ⟨rfl, rfl⟩ := hrel
        go_wp2_with (first
          | (go_at_call 50; refine (encode_any _ _ (by omega) (by omega)).mono ?_; rintro e w1 ⟨v, rfl, hown, hb1⟩; obtain ⟨a2, cap2, rfl, hrd2⟩ := hown.rd (by omega); have hr3 := HRD.out.below hb1 (Nat.le_refl _); rw [HN.out.symm])
          | (go_at_call 67; refine (equal_any _ _ _ _ _ _ _ hrd2 hr3).mono ?_; rintro e w2 ⟨rfl, rfl⟩))
        · have hx : (!(enc 0 == l)) = true := by assumption
          go_ret2
          exact ⟨by rw [HE0.out (by simpa using hx)]; rfl, hb1⟩
        · have hx : (!(enc 0 == l)) = false := by assumption
          go_ret2
          exact ⟨by rw [HE1.out (by simpa using hx)]; rfl, hb1⟩
    · obtain ⟨b, off, rfl, hc⟩ := hrd (by omega)
      clear hrd
      go_enter Try.func64, Try.ntmps64
      go_wp2
      go_loop [18, 6, 7, 8] (fun i am _ _ => ∃ k A : Nat, k ≤ N + 1 ∧ i = .int .i64 k ∧ am = .int .u64 A ∧ A = vl (l.take k)) (fun i _ _ _ => N + 1 - (intOf i).toNat)
      case atStart => exact ⟨0, 0, Nat.zero_le _, rfl, rfl, rfl⟩
      case round =>
        obtain ⟨k, A, hk, rfl, rfl, hA⟩ := hrel
        have hHA := Lib.hid hA
        clear hA
        by_cases hlt : k < N + 1
        · obtain ⟨c, hcell, hcv⟩ : ∃ c : Nat, w.cell? ⟨b, off + k, none⟩ = some (.int .u8 (c : Int)) ∧ c = (l.getD k 0).toNat := ⟨_, hc k hlt, rfl⟩
          have hA1 : A < 256 ^ k := by
            have := vl_lt (l.take k)
            rw [List.length_take, HN.out, Nat.min_eq_left (by omega)] at this
            rw [hHA.out]; exact this
          have hc1 : c < 256 := by rw [hcv]; exact (l.getD k 0).toNat_lt
          obtain ⟨A2, hA2⟩ : ∃ A2, A + c * 256 ^ k = A2 := ⟨_, rfl⟩
          have HS : Hid (A2 = vl (l.take (k + 1))) := by
            rw [take_succ_getD l k (by rw [HN.out]; omega), vl_snoc, ← hHA.out, List.length_take, HN.out, Nat.min_eq_left (by omega), ← hA2, hcv]; exact rfl
          have hor := or_step A k c hA1 (by omega) hc1
          rw [hA2] at hor
          clear hcv hc hA2 hA1
          go_wp2
          go_round
          case rel => exact ⟨k + 1, A2, by omega, by go_num, rfl, HS.out⟩
          case measure => simp [intOf]; omega
        · obtain rfl : k = N + 1 := by omega
          obtain ⟨c, hcell, hcv⟩ : ∃ c : Nat, w.cell? ⟨b, off + N, none⟩ = some (.int .u8 (c : Int)) ∧ (l.getD N 0).toNat = c := ⟨_, hc N (by omega), rfl⟩
          have hc1 : c < 256 := by rw [← hcv]; exact (l.getD N 0).toNat_lt
          have hand := and128 ⟨c, hc1⟩
          simp only at hand
          have hAv : A = vl (l.take N) + c * 256 ^ N := by
            rw [hHA.out, ← vl_top l N c HN.out hcv, List.take_of_length_le (by rw [HN.out]; exact Nat.le_refl _)]
          have hB := vl_lt (l.take N)
          rw [List.length_take, HN.out, Nat.min_eq_left (by omega)] at hB
          have h3 := p256_le N (by omega)
          have hand2 := fun h => andNot_top (vl (l.take N)) N c hB (by omega) h hc1
          rw [← hAv] at hand2
          clear hc
          by_cases h128 : 128 ≤ c
          · rw [decide_eq_true h128] at hand
            have ha2 := hand2 h128
            have hvv := val_high l N c HN.out hcv h128
            rw [HV.out] at hvv
            obtain ⟨X, hX⟩ : ∃ X, vl (l.take N) + c % 128 * 256 ^ N = X := ⟨_, rfl⟩
            rw [hX] at hvv ha2
            clear hand2 hX hAv hB hcv
            obtain rfl : V = -(X : Int) := hvv
            have hX2 : X ≤ 9223372036854775807 := by omega
            clear h3
            go_wp2_with (first
              | (go_at_call 50; refine (encode_any _ _ (by omega) (by omega)).mono ?_; rintro e w1 ⟨v, rfl, hown, hb1⟩; obtain ⟨a2, cap2, rfl, hrd2⟩ := hown.rd (by omega); have hr3 := HRD.out.below hb1 (Nat.le_refl _); rw [HN.out.symm])
              | (go_at_call 67; refine (equal_any _ _ _ _ _ _ _ hrd2 hr3).mono ?_; rintro e w2 ⟨rfl, rfl⟩))
            · have hx : (!(enc (-↑X) == l)) = true := by assumption
              go_ret2
              exact ⟨by rw [HE0.out (by simpa using hx)]; rfl, hb1⟩
            · have hx : (!(enc (-↑X) == l)) = false := by assumption
              go_ret2
              exact ⟨by rw [HE1.out (by simpa using hx)]; rfl, hb1⟩
          · rw [decide_eq_false h128] at hand
            have hvv := val_low l N c HN.out hcv (by omega)
            rw [HV.out, ← hAv] at hvv
            clear hand2 hAv hB hcv
            obtain rfl : V = (A : Int) := hvv
            have hX2 : A ≤ 9223372036854775807 := by omega
            clear h3
            go_wp2_with (first
              | (go_at_call 50; refine (encode_any _ _ (by omega) (by omega)).mono ?_; rintro e w1 ⟨v, rfl, hown, hb1⟩; obtain ⟨a2, cap2, rfl, hrd2⟩ := hown.rd (by omega); have hr3 := HRD.out.below hb1 (Nat.le_refl _); rw [HN.out.symm])
              | (go_at_call 67; refine (equal_any _ _ _ _ _ _ _ hrd2 hr3).mono ?_; rintro e w2 ⟨rfl, rfl⟩))
            · have hx : (!(enc ↑A == l)) = true := by assumption
              go_ret2
              exact ⟨by rw [HE0.out (by simpa using hx)]; rfl, hb1⟩
            · have hx : (!(enc ↑A == l)) = false := by assumption
              go_ret2
              exact ⟨by rw [HE1.out (by simpa using hx)]; rfl, hb1⟩
end Go.Proofs.Ytikkhkjndbicgaa

/- The contract of the reference's Decode. -/
namespace Go.Proofs.Ytikkhkjndbicgaa
open Go.RowKit
def vlt : List UInt8 → Nat
  | [] => 0
  | [c] => c.toNat % 128
  | c :: d :: t => c.toNat + 256 * vlt (d :: t)
theorem vlt_cons (c : UInt8) (t : List UInt8) (h : t ≠ []) : vlt (c :: t) = c.toNat + 256 * vlt t := by
  cases t with
  | nil => exact absurd rfl h
  | cons d t => rfl
theorem vlt_snoc (xs : List UInt8) (c : UInt8) : vlt (xs ++ [c]) = vl xs + c.toNat % 128 * 256 ^ xs.length := by
  induction xs with
  | nil => simp [vl, vlt]
  | cons a t ih => rw [List.cons_append, vlt_cons _ _ (by simp), ih]; simp only [vl, List.length_cons, Nat.pow_succ]; grind
theorem vlt_le (l : List UInt8) (k : Nat) (h : l.length ≤ k + 1) : vlt l < 128 * 256 ^ k := by
  induction l generalizing k with
  | nil => have := Nat.pow_pos (n := k) (show 0 < 256 by decide); simp [vlt]; omega
  | cons c t ih =>
    by_cases ht : t = []
    · subst ht
      have := Nat.pow_pos (n := k) (show 0 < 256 by decide)
      simp [vlt]; omega
    · rw [vlt_cons _ _ ht]
      rcases k with _ | k
      · simp at h; exact absurd h ht
      · have := ih k (by simp at h; omega)
        rw [Nat.pow_succ]
        have := c.toNat_lt
        omega
theorem vlt_drop (l : List UInt8) (j : Nat) (h : j < l.length) : vlt (l.drop j) = if j + 1 = l.length then (l.getD j 0).toNat % 128 else (l.getD j 0).toNat + 256 * vlt (l.drop (j + 1)) := by
  have e : l.drop j = l.getD j 0 :: l.drop (j + 1) := by
    rw [List.drop_eq_getElem_cons h]; simp [List.getD, h]
  rw [e]
  split
  · rename_i hj
    rw [List.drop_of_length_le (by omega)]; rfl
  · rename_i hj
    rw [vlt_cons _ _ (by intro h0; have := congrArg List.length h0; simp at this; omega)]
theorem val_eq (l : List UInt8) : val l = if 128 ≤ (l.getD (l.length - 1) 0).toNat then -((vlt l : Nat) : Int) else ((vlt l : Nat) : Int) := by
  rcases hx : l.length with _ | N
  · have : l = [] := List.length_eq_zero_iff.1 hx
    subst this; rfl
  · have h1 : l = l.take N ++ [l.getD N 0] := by rw [← take_succ_getD l N (by omega), List.take_of_length_le (by omega)]
    have h2 := vlt_snoc (l.take N) (l.getD N 0)
    rw [← h1, List.length_take, hx, Nat.min_eq_left (by omega)] at h2
    unfold val
    rw [hx, h2]
    rfl
theorem not_of_true {b : Bool} (h : (!b) = true) : b = false := by cases b <;> simp_all
theorem not_of_false {b : Bool} (h : (!b) = false) : b = true := by cases b <;> simp_all
theorem decEnd_mk {w w1 : World} {l : List UInt8} {most : Int} {v : Value} (h : decV l most = v) (hb : Below w.drew.heap.size w.drew w1) : DecEnd w l most (.returned v) w1 :=
  ⟨by rw [h], (Below.refl w.heap.size w).drew.trans hb⟩
set_option maxHeartbeats 1000000 in
set_option maxRecDepth 100000 in
theorem decodeR_any (w : World) (a : Option Addr) (l : List UInt8) (cap : Nat) (most : Int) (h : Rd w a l) :
    Calls Try.prog 41 #[.slice a l.length cap, .int .i64 most] w (DecEnd w l most) := by
  have HRD := Lib.hid h
  obtain ⟨hlen, hrd⟩ := h
  have hM1 : ((l.length : Int) ≤ most ∧ l.length ≤ 8) ∨ (most < (l.length : Int)) ∨ ((l.length : Int) ≤ most ∧ 8 < l.length) := by omega
  rcases hM1 with ⟨h1, h2⟩ | h1 | ⟨h1, h2⟩
  · have hv := val_bound l h2
    obtain ⟨V, hV⟩ : ∃ V, val l = V := ⟨_, rfl⟩
    rw [hV] at hv
    have hel := enc_length V (by omega)
    have hv1 : -9223372036854775807 ≤ V := by omega
    have hv2 : V ≤ 9223372036854775807 := by omega
    have HE1 : Hid ((enc V == l) = true → decV l most = .tuple #[.int .i64 V, .int .i64 0]) := fun hq => by subst hV; exact decV_ok h1 h2 hq
    have HE0 : Hid ((enc V == l) = false → decV l most = .tuple #[.int .i64 0, .int .i64 15]) := fun hq => by subst hV; exact decV_no hq
    obtain ⟨n, hn⟩ : ∃ n, l.length = n := ⟨_, rfl⟩
    have hcv := conv_rd (w := w.drew) (a := a) cap HRD.out
    rw [hn] at hlen hrd h1 h2 hcv ⊢
    have HN := Lib.hid hn
    have HV := Lib.hid hV
    clear hn hV hv
    rcases n with _ | N
    · have e0 : V = 0 := by
        rw [← HV.out, List.length_eq_zero_iff.1 HN.out]; decide
      subst e0
      go_enter Try.func41, Try.ntmps41
      go_wp2
      go_loop [7, 6] (fun i am => i = .int .i64 (-1) ∧ am = .int .i64 0) (fun _ _ => 0)
      case atStart => exact ⟨rfl, rfl⟩
      case round =>
        obtain ⟨rfl, rfl⟩ := hrel
        go_wp2_with fail
        go_region_with (go_at_call 66; refine (encodeR_any _ _ (by omega) (by omega)).mono ?_; rintro e w1 ⟨v, rfl, hown, hb1⟩; obtain ⟨a2, cap2, rfl, hrd2⟩ := hown.rd (by omega); have hcv2 := conv_rd cap2 hrd2; have hr3 : Rd w1 _ l := Rd.below (w := w.drew) HRD.out hb1 (Nat.le_refl _); have hcv3 := conv_rd cap hr3; rw [HN.out] at hcv3)
        all_goals go_wp2
        all_goals first | (have hx : (!(enc 0 == l)) = true := (by assumption); go_ret2; exact decEnd_mk (HE0.out (not_of_true hx)) hb1) | (have hx : (!(enc 0 == l)) = false := (by assumption); go_ret2; exact decEnd_mk (HE1.out (not_of_false hx)) hb1)
    · obtain ⟨b, off, rfl, hc⟩ := hrd (by omega)
      clear hrd
      have hN7 : N ≤ 7 := by omega
      have hN8 : (N : Int) + 1 ≤ 8 := by omega
      go_enter Try.func41, Try.ntmps41
      go_wp2
      go_loop [7, 6] (fun i am => ∃ j : Nat, j ≤ N + 1 ∧ i = .int .i64 ((j : Int) - 1) ∧ am = .int .i64 (vlt (l.drop j) : Int)) (fun i _ => (intOf i + 1).toNat)
      case atStart => exact ⟨N + 1, Nat.le_refl _, by go_num, by rw [List.drop_of_length_le (by rw [HN.out]; exact Nat.le_refl _)]; rfl⟩
      case round =>
        obtain ⟨j, hj, rfl, rfl⟩ := hrel
        have hbnd := vlt_le (l.drop j) 7 (by rw [List.length_drop, HN.out]; omega)
        have p7 : (256 : Nat) ^ 7 = 72057594037927936 := by decide
        rw [p7] at hbnd
        clear p7
        rcases j with _ | j
        · obtain ⟨c, hcell, hcv⟩ : ∃ c : Nat, w.cell? ⟨b, off + N, none⟩ = some (.int .u8 (c : Int)) ∧ (l.getD N 0).toNat = c := ⟨_, hc N (by omega), rfl⟩
          have hvv := val_eq l
          rw [HV.out, HN.out] at hvv
          simp only [Nat.add_sub_cancel] at hvv
          rw [hcv] at hvv
          simp only [List.drop_zero] at hbnd ⊢
          obtain ⟨X, hX⟩ : ∃ X, vlt l = X := ⟨_, rfl⟩
          rw [hX] at hvv hbnd ⊢
          clear hX hcv hc
          by_cases h128 : 128 ≤ c
          · rw [if_pos h128] at hvv
            obtain rfl : V = -(X : Int) := hvv
            go_wp2_with fail
            go_region_with (go_at_call 66; refine (encodeR_any _ _ (by omega) (by omega)).mono ?_; rintro e w1 ⟨v, rfl, hown, hb1⟩; obtain ⟨a2, cap2, rfl, hrd2⟩ := hown.rd (by omega); have hcv2 := conv_rd cap2 hrd2; have hr3 : Rd w1 _ l := Rd.below (w := w.drew) HRD.out hb1 (Nat.le_refl _); have hcv3 := conv_rd cap hr3; rw [HN.out] at hcv3)
            all_goals go_wp2
            all_goals first | (have hx : (!(enc (-↑X) == l)) = true := (by assumption); go_ret2; exact decEnd_mk (HE0.out (not_of_true hx)) hb1) | (have hx : (!(enc (-↑X) == l)) = false := (by assumption); go_ret2; exact decEnd_mk (HE1.out (not_of_false hx)) hb1)
          · rw [if_neg h128] at hvv
            obtain rfl : V = (X : Int) := hvv
            go_wp2_with fail
            go_region_with (go_at_call 66; refine (encodeR_any _ _ (by omega) (by omega)).mono ?_; rintro e w1 ⟨v, rfl, hown, hb1⟩; obtain ⟨a2, cap2, rfl, hrd2⟩ := hown.rd (by omega); have hcv2 := conv_rd cap2 hrd2; have hr3 : Rd w1 _ l := Rd.below (w := w.drew) HRD.out hb1 (Nat.le_refl _); have hcv3 := conv_rd cap hr3; rw [HN.out] at hcv3)
            all_goals go_wp2
            all_goals first | (have hx : (!(enc ↑X == l)) = true := (by assumption); go_ret2; exact decEnd_mk (HE0.out (not_of_true hx)) hb1) | (have hx : (!(enc ↑X == l)) = false := (by assumption); go_ret2; exact decEnd_mk (HE1.out (not_of_false hx)) hb1)
        · obtain ⟨c, hcell, hcv⟩ : ∃ c : Nat, w.cell? ⟨b, off + j, none⟩ = some (.int .u8 (c : Int)) ∧ (l.getD j 0).toNat = c := ⟨_, hc j (by omega), rfl⟩
          have hc1 : c < 256 := by rw [← hcv]; exact (l.getD j 0).toNat_lt
          have hst := vlt_drop l j (by rw [HN.out]; omega)
          rw [hcv, HN.out] at hst
          have hY := vlt_le (l.drop (j + 1)) 6 (by rw [List.length_drop, HN.out]; omega)
          have p6 : (256 : Nat) ^ 6 = 281474976710656 := by decide
          rw [p6] at hY
          obtain ⟨Y, hYe⟩ : ∃ Y, vlt (l.drop (j + 1)) = Y := ⟨_, rfl⟩
          rw [hYe] at hst hY ⊢
          clear hYe hcv hc p6 hbnd
          by_cases hj2 : j < N
          · rw [if_neg (by omega)] at hst
            have HS := Lib.hid hst
            clear hst
            go_wp2
            go_round
            case rel => exact ⟨j, by omega, rfl, by rw [HS.out]; congr 1; omega⟩
            case measure => simp [intOf]
          · obtain rfl : j = N := by omega
            rw [if_pos rfl] at hst
            have HS := Lib.hid hst
            clear hst
            go_wp2
            go_round
            case rel => exact ⟨j, by omega, rfl, by rw [HS.out]; congr 1⟩
            case measure => simp [intOf]
  · have HE := Lib.hid (decV_long (l := l) (most := most) (fun hh => by omega))
    obtain ⟨n, hn⟩ : ∃ n, l.length = n := ⟨_, rfl⟩
    rw [hn] at hlen h1 ⊢
    clear hrd hn
    go_enter Try.func41, Try.ntmps41
    go_wp2
    go_ret2
    exact ⟨by rw [HE.out]; rfl, Below.refl _ _⟩
  · have HE := Lib.hid (decV_long (l := l) (most := most) (fun hh => by omega))
    obtain ⟨n, hn⟩ : ∃ n, l.length = n := ⟨_, rfl⟩
    rw [hn] at hlen h1 h2 ⊢
    clear hrd hn
    have h3 : (8 : Int) < n := by omega
    go_enter Try.func41, Try.ntmps41
    go_wp2
    go_ret2
    exact ⟨by rw [HE.out]; rfl, Below.refl _ _⟩
end Go.Proofs.Ytikkhkjndbicgaa

/- The contracts of the reference's Truth, of both Flags, and of alive. -/
namespace Go.Proofs.Ytikkhkjndbicgaa
open Go.RowKit
set_option maxRecDepth 20000
set_option maxHeartbeats 400000 in
theorem truthR_any (w : World) (a : Option Addr) (l : List UInt8) (cap : Nat) (h : Rd w a l) :
    Calls Try.prog 73 #[.slice a l.length cap] w fun e w' => e = .returned (.bool (truthL l)) ∧ w = w' := by
  obtain ⟨hlen, hrd⟩ := h
  obtain ⟨n, hn⟩ : ∃ n, l.length = n := ⟨_, rfl⟩
  have HT : Hid (truthL l = tr l n) := by unfold truthL; rw [hn]; exact rfl
  rw [hn] at hlen hrd ⊢
  have HN := Lib.hid hn
  clear hn
  by_cases h0 : n = 0
  · subst h0
    clear hrd
    go_enter Try.func73, Try.ntmps73
    go_wp2
    go_loop [3] (fun i => i = .int .i64 0) (fun _ => 0)
    case atStart => rfl
    case round =>
      obtain rfl := hrel
      go_wp2
      go_ret
      exact ⟨by rw [HT.out]; rfl, rfl⟩
  · obtain ⟨b, off, rfl, hc⟩ := hrd h0
    clear hrd
    go_enter Try.func73, Try.ntmps73
    go_wp2
    go_loop [3] (fun i => ∃ k : Nat, k ≤ n ∧ i = .int .i64 k ∧ tr l k = false) (fun i => n - (intOf i).toNat)
    case atStart => exact ⟨0, Nat.zero_le _, rfl, rfl⟩
    case round =>
      obtain ⟨k, hk, rfl, hf⟩ := hrel
      have HF := Lib.hid hf
      clear hf
      by_cases hlt : k < n
      · obtain ⟨c, hcell, hcv⟩ : ∃ c : Int, w.cell? ⟨b, off + k, none⟩ = some (.int .u8 c) ∧ c = ((l.getD k 0).toNat : Int) := ⟨_, hc k hlt, rfl⟩
        have HS : Hid (tr l (k + 1) = (tr l k || ((c != 0) && !(decide (k + 1 = n) && (c == 128))))) := tr_step l k n c HN.out hcv
        clear hcv hc
        rcases Bool.eq_false_or_eq_true (c != 0) with h1 | h1
        · by_cases h2 : k + 1 < n
          · go_wp2
            go_ret
            exact ⟨ret_bool (by rw [HT.out]; exact (tr_mono l (k + 1) (by rw [HS.out, h1, decide_eq_false (by omega)]; simp) n (by omega)).symm), rfl⟩
          · obtain rfl : n = k + 1 := by omega
            clear h2 h0
            rcases Bool.eq_false_or_eq_true (c == 128) with h4 | h4
            · go_wp2
              all_goals go_round
              case rel => exact ⟨k + 1, by omega, by go_num, by rw [HS.out, HF.out, h1, h4, decide_eq_true (by omega)]; rfl⟩
              case measure => simp [intOf]
            · go_wp2
              go_ret
              exact ⟨ret_bool (by rw [HT.out]; exact (tr_mono l (k + 1) (by rw [HS.out, h1, h4]; simp) _ (by omega)).symm), rfl⟩
        · go_wp2
          go_round
          case rel => exact ⟨k + 1, by omega, by go_num, by rw [HS.out, HF.out, h1]; rfl⟩
          case measure => simp [intOf]; omega
      · obtain rfl : k = n := by omega
        go_wp2
        go_ret
        exact ⟨ret_bool (by rw [HT.out, HF.out]), rfl⟩
def flagL (v : Bool) : List UInt8 := if v then [1] else []
theorem own_one {B : Nat} (w : World) (hB : B = w.heap.size) : Own B (w.alloc (.cells #[.int .u8 1] 5)) (.slice (some ⟨B, 0, none⟩) 1 1) [1] := by
  subst hB
  exact World.ownsRow_lit w #[.int .u8 1] 1 (Nat.le_refl _) (by decide) rfl
theorem flag_any (w : World) (v : Bool) : Calls Try.prog 52 #[.bool v] w (EncEnd w.heap.size w (flagL v)) := by
  cases v
  all_goals
    go_enter Try.func52, Try.ntmps52
    go_wp2
    go_ret
    first
    | exact ⟨_, rfl, World.ownsRow_nil _ _ _ _, Below.refl _ _⟩
    | exact ⟨_, rfl, own_one w rfl, (Below.refl _ _).alloc (Nat.le_refl _) _⟩
theorem flagR_any (w : World) (v : Bool) : Calls Try.prog 74 #[.bool v] w (EncEnd w.heap.size w (flagL v)) := by
  have hmk : (Instr.buildSlice 34 0 #[]).run Try.prog w = .ok (.slice (some ⟨w.heap.size, 0, none⟩) 0 0) (w.alloc (.cells #[] 5)) := by kernel_rfl
  cases v
  all_goals
    go_enter Try.func74, Try.ntmps74
    go_wp2
    go_ret
    first
    | exact ⟨_, rfl, World.ownsRow_lit w #[] 0 (Nat.le_refl _) (by decide) rfl, (Below.refl _ _).alloc (Nat.le_refl _) _⟩
    | exact ⟨_, rfl, own_one w rfl, (Below.refl _ _).alloc (Nat.le_refl _) _⟩
end Go.Proofs.Ytikkhkjndbicgaa

/- The state of a walk: the known slots of a frame, the blocks that the call made; a law for each operation; a law for a region that draws its order, which looks at each operation once. -/
namespace Go.Proofs.Ytikkhkjndbicgaa
open Go.RowKit
abbrev Sl := Nat × Bool × Value
abbrev Bl := Bool × Nat × TypeId × List Value
def lk : List Sl → Nat → Option Value
  | [], _ => none
  | (d, b, v) :: l, t => bif Nat.beq d t then (bif b then some v else lk l t) else lk l t
def ev (fs : List Sl) : Operand → Option Value
  | .tmp t => lk fs t
  | .const v => some v
  | .global g => some (.pointer (some ⟨g, 0, none⟩))
  | .func f => some (.func (.func f) #[] #[])
def evs (fs : List Sl) : List Operand → Option (List Value)
  | [] => some []
  | x :: l => match ev fs x, evs fs l with
    | some v, some vs => some (v :: vs)
    | _, _ => none
def onAt : List Sl → Nat → Value → List Sl
  | [], _, _ => []
  | s :: l, 0, v => (s.1, true, v) :: l
  | s :: l, i + 1, v => s :: onAt l i v
def nos (d : Nat) : List Sl → Nat → Bool
  | [], _ => false
  | s :: _, 0 => Nat.beq s.1 d
  | s :: l, i + 1 => !Nat.beq s.1 d && nos d l i
def putf (m : Option Nat) (fs : List Sl) (d : Nat) (v : Value) : List Sl :=
  match m with
  | none => (d, true, v) :: fs
  | some i => onAt fs i v
def okf (m : Option Nat) (fs : List Sl) (d n : Nat) : Bool :=
  Nat.blt d n && match m with
  | none => true
  | some i => nos d fs i
def putb (m : Option Nat) (bs : List Bl) (e : Bl) : List Bl :=
  match m with
  | none => bs ++ [e]
  | some k => bs.set k e
def okb (m : Option Nat) (bs : List Bl) : Bool :=
  match m with
  | none => true
  | some k => match bs[k]? with
    | some e => !e.1
    | none => false
theorem beqN {a b : Nat} : Nat.beq a b = true ↔ a = b := ⟨Nat.eq_of_beq_eq_true, fun h => h ▸ Nat.beq_refl a⟩
theorem lk_cons_ne {s : Sl} {l : List Sl} {t : Nat} (h : s.1 ≠ t) : lk (s :: l) t = lk l t := by
  have : Nat.beq s.1 t = false := by
    cases hb : Nat.beq s.1 t
    · rfl
    · exact absurd (beqN.1 hb) h
  obtain ⟨d, b, v⟩ := s
  simp only [lk, this, cond_false]
theorem lk_cons_eq {s : Sl} {l : List Sl} {t : Nat} (h : s.1 = t) : lk (s :: l) t = bif s.2.1 then some s.2.2 else lk l t := by
  obtain ⟨d, b, v⟩ := s
  simp only [lk, beqN.2 h, cond_true]
theorem lk_on (d : Nat) (v : Value) : ∀ (fs : List Sl) (i : Nat), nos d fs i = true → ∀ t u, lk (onAt fs i v) t = some u → (t = d ∧ u = v) ∨ (t ≠ d ∧ lk fs t = some u)
  | [], _, h, _, _, _ => by simp [nos] at h
  | s :: l, 0, h, t, u, e => by
    have hs : s.1 = d := beqN.1 (by simpa [nos] using h)
    by_cases ht : t = d
    · rw [onAt, lk_cons_eq (by simp [hs, ht])] at e
      exact .inl ⟨ht, by simpa using e.symm⟩
    · rw [onAt, lk_cons_ne (by simp [hs]; exact fun h => ht h.symm)] at e
      exact .inr ⟨ht, by rw [lk_cons_ne (by rw [hs]; exact fun h => ht h.symm)]; exact e⟩
  | s :: l, i + 1, h, t, u, e => by
    simp only [nos, Bool.and_eq_true, Bool.not_eq_true'] at h
    have hs : s.1 ≠ d := fun hh => by rw [beqN.2 hh] at h; simp at h
    by_cases hst : s.1 = t
    · rw [onAt, lk_cons_eq hst] at e
      have htd : t ≠ d := fun hh => hs (hst.trans hh)
      refine .inr ⟨htd, ?_⟩
      rw [lk_cons_eq hst]
      cases hb : s.2.1
      · rw [hb] at e
        rcases lk_on d v l i h.2 t u (by simpa using e) with ⟨h1, _⟩ | ⟨_, h2⟩
        · exact absurd h1 htd
        · simpa using h2
      · rw [hb] at e; simpa using e
    · rw [onAt, lk_cons_ne hst] at e
      rw [lk_cons_ne hst]
      exact lk_on d v l i h.2 t u e
theorem lk_put {m : Option Nat} {fs : List Sl} {d n : Nat} (h : okf m fs d n = true) (v : Value) (t : Nat) (u : Value) (e : lk (putf m fs d v) t = some u) : (t = d ∧ u = v) ∨ (t ≠ d ∧ lk fs t = some u) := by
  cases m with
  | none =>
    by_cases ht : d = t
    · rw [putf, lk_cons_eq ht] at e
      exact .inl ⟨ht.symm, by simpa using e.symm⟩
    · rw [putf, lk_cons_ne ht] at e
      exact .inr ⟨fun h => ht h.symm, e⟩
  | some i => exact lk_on d v fs i (by simp [okf] at h; exact h.2) t u e
inductive Fz
  | cel (v : Value) (n : Nat) (cs : List Value)
  | own (v : Value) (E : TypeId) (size n : Nat) (xs : List Value)
  | bys (vs : List Value) (ls : List (List UInt8))
  | bysO (G : Nat → Prop) (vs : List Value) (ls : List (List UInt8))
  | wrs (G : Nat → Prop) (vs : List Value) (ns : List Nat)
def Fz.owns : Fz → Nat → Prop
  | .own v _ _ _ _, g => v.ownBlock = some g
  | .bysO G _ _, g => G g
  | .wrs G _ _, g => G g
  | .cel _ _ _, _ => False
  | .bys _ _, _ => False
abbrev Bn (n : Nat) (X : Nat → Prop) (g : Nat) : Prop := n ≤ g ∨ X g
def noX : Nat → Prop := fun _ => False
structure BelowX (X : Nat → Prop) (B : Nat) (w w' : World) : Prop where
  os : w'.os = w.os
  tape : w'.tape = w.tape
  output : w'.output = w.output
  size : w.heap.size ≤ w'.heap.size
  block : ∀ k, k < B → ¬ X k → w'.heap[k]? = w.heap[k]?
theorem BelowX.of {X : Nat → Prop} {B : Nat} {w w' : World} (h : Below B w w') : BelowX X B w w' := ⟨h.os, h.tape, h.output, h.size, fun k hk _ => h.block k hk⟩
theorem BelowX.refl {X : Nat → Prop} (B : Nat) (w : World) : BelowX X B w w := .of (Below.refl B w)
theorem BelowX.trans {X : Nat → Prop} {B : Nat} {a b c : World} (h : BelowX X B a b) (k : BelowX X B b c) : BelowX X B a c :=
  ⟨k.os.trans h.os, k.tape.trans h.tape, k.output.trans h.output, Nat.le_trans h.size k.size, fun i hi hx => (k.block i hi hx).trans (h.block i hi hx)⟩
theorem BelowX.go {X : Nat → Prop} {B : Nat} {a b c : World} (h : BelowX X B a b) (k : Below B b c) : BelowX X B a c := h.trans (.of k)
theorem BelowX.drew {X : Nat → Prop} {B : Nat} {a w : World} (h : BelowX X B a w) : BelowX X B a w.drew := ⟨h.os, h.tape, h.output, h.size, h.block⟩
theorem BelowX.none {B : Nat} {w w' : World} (h : BelowX noX B w w') : Below B w w' := ⟨h.os, h.tape, h.output, h.size, fun k hk => h.block k hk id⟩
theorem BelowX.cell {X : Nat → Prop} {B : Nat} {w w' : World} (h : BelowX X B w w') {p : Addr} (hp : p.block < B) (hx : ¬ X p.block) : w'.cell? p = w.cell? p := World.cell?_of_block (w := w) (h.block p.block hp hx)
theorem BelowX.grown {X : Nat → Prop} {B : Nat} {a w w' : World} {row : Option Nat} (h : BelowX X B a w) (hg : w.grownBy w' row) (hB : B ≤ w.heap.size) (hr : ∀ k, row = some k → Bn B X k) : BelowX X B a w' :=
  h.trans ⟨hg.os, hg.tape, hg.output, hg.size, fun k hk hx => hg.block k (by omega) (fun e => by rcases hr k e.symm with h | h; omega; exact hx h)⟩
def CelV (w : World) (Z : Nat → Prop) (v : Value) (n : Nat) (cs : List Value) : Prop :=
  ∃ a c, v = .slice a n c ∧ n ≤ c ∧ c ≤ maxLen ∧ (a = none → c = 0) ∧ ∀ (j : Nat) (u : Value), cs[j]? = some u → ∃ g off, a = some ⟨g, off, none⟩ ∧ Z g ∧ w.cell? ⟨g, off + j, none⟩ = some u
def bcs (l : List UInt8) : List Value := l.map fun b => .int .u8 (b.toNat : Int)
def ByV (w : World) (Z : Nat → Prop) (v : Value) (l : List UInt8) : Prop := CelV w Z v l.length (bcs l)
def BysV (w : World) (Z : Nat → Prop) (vs : List Value) (ls : List (List UInt8)) : Prop := vs.length = ls.length ∧ ∀ (i : Nat) (v : Value) (l : List UInt8), vs[i]? = some v → ls[i]? = some l → ByV w Z v l
def WrV (w : World) (Z : Nat → Prop) (v : Value) (n : Nat) : Prop :=
  ∃ a c, v = .slice a n c ∧ n ≤ c ∧ c ≤ maxLen ∧ (a = none → c = 0) ∧ ∀ (j : Nat), j < n → ∃ g off u, a = some ⟨g, off, none⟩ ∧ Z g ∧ w.cell? ⟨g, off + j, none⟩ = some u
def WrsV (w : World) (Z : Nat → Prop) (vs : List Value) (ns : List Nat) : Prop := vs.length = ns.length ∧ ∀ (i : Nat) (v : Value) (n : Nat), vs[i]? = some v → ns[i]? = some n → WrV w Z v n
def OwnG (w : World) (Z B G : Nat → Prop) : Prop := ∀ g, G g → B g ∧ Z g ∧ ∃ cur T, w.heap[g]? = some (.cells cur T (0, 0))
def Fz.ok (w : World) (Z : Nat → Prop) (B : Nat → Prop) : Fz → Prop
  | .cel v n cs => CelV w Z v n cs
  | .own v E size n xs => w.ownsRow 0 E size v n xs ∧ ∀ g, v.ownBlock = some g → Z g ∧ B g
  | .bys vs ls => BysV w Z vs ls
  | .bysO G vs ls => BysV w G vs ls ∧ OwnG w Z B G
  | .wrs G vs ns => WrsV w G vs ns ∧ OwnG w Z B G
structure Bs where
  w : World
  F : List (Nat × Obj)
  S : List (Bool × Fz)
  Z : Nat → Prop
  X : Nat → Prop
instance : Coe World Bs := ⟨fun w => ⟨w, [], [], fun _ => True, noX⟩⟩
abbrev Bs.B (b : Bs) : Nat → Prop := Bn b.w.heap.size b.X
abbrev Bs.heap (b : Bs) : Array Obj := b.w.heap
abbrev Bs.cell? (b : Bs) (p : Addr) : Option Value := b.w.cell? p
def Zs (w0 : Bs) (bs : List Bl) (i : Nat) (g : Nat) : Prop :=
  (w0.Z g ∨ w0.B g) ∧ (∀ (j : Nat) (b : Bl), bs[j]? = some b → b.1 = true → b.2.1 ≠ g) ∧ ∀ (j : Nat) (e : Bool × Fz), j ≠ i → w0.S[j]? = some e → e.1 = true → ¬ e.2.owns g
theorem CelV.mono {w w' : World} {Z Z' : Nat → Prop} {v : Value} {n : Nat} {cs : List Value} (h : CelV w Z v n cs) (hz : ∀ g, Z g → g < w.heap.size → Z' g ∧ w'.heap[g]? = w.heap[g]?) : CelV w' Z' v n cs := by
  obtain ⟨a, c, h1, h2, h3, h4, h5⟩ := h
  refine ⟨a, c, h1, h2, h3, h4, fun j u hu => ?_⟩
  obtain ⟨g, off, e, hg, hc⟩ := h5 j u hu
  have hlt : g < w.heap.size := World.block_lt_of_cell? w _ hc
  exact ⟨g, off, e, (hz g hg hlt).1, (World.cell?_of_block (w := w) (hz g hg hlt).2).trans hc⟩
theorem WrV.mono {w w' : World} {Z Z' : Nat → Prop} {v : Value} {n : Nat} (h : WrV w Z v n) (hz : ∀ g, Z g → g < w.heap.size → Z' g ∧ w'.heap[g]? = w.heap[g]?) : WrV w' Z' v n := by
  obtain ⟨a, c, h1, h2, h3, h4, h5⟩ := h
  refine ⟨a, c, h1, h2, h3, h4, fun j hj => ?_⟩
  obtain ⟨g, off, u, e, hg, hc⟩ := h5 j hj
  have hlt : g < w.heap.size := World.block_lt_of_cell? w _ hc
  exact ⟨g, off, u, e, (hz g hg hlt).1, (World.cell?_of_block (w := w) (hz g hg hlt).2).trans hc⟩
theorem BysV.mono {w w' : World} {Z Z' : Nat → Prop} {vs : List Value} {ls : List (List UInt8)} (h : BysV w Z vs ls) (hz : ∀ g, Z g → g < w.heap.size → Z' g ∧ w'.heap[g]? = w.heap[g]?) : BysV w' Z' vs ls :=
  ⟨h.1, fun i v l hv hl => (h.2 i v l hv hl).mono hz⟩
theorem OwnG.lt {w : World} {Z B G : Nat → Prop} (h : OwnG w Z B G) {g : Nat} (hg : G g) : g < w.heap.size := by
  obtain ⟨_, _, cur, T, h1⟩ := h g hg
  exact (Array.getElem?_eq_some_iff.1 h1).1
theorem OwnG.mono {w w' : World} {Z Z' B B' G : Nat → Prop} (hb : ∀ g, G g → B g → B' g) (h : OwnG w Z B G) (hz : ∀ g, Z g → g < w.heap.size → Z' g ∧ w'.heap[g]? = w.heap[g]?) : OwnG w' Z' B' G := by
  intro g hg
  have hlt := h.lt hg
  obtain ⟨h1, h2, cur, T, h3⟩ := h g hg
  exact ⟨hb g hg h1, (hz g h2 hlt).1, cur, T, (hz g h2 hlt).2.trans h3⟩
theorem Fz.ok_mono {w w' : World} {Z Z' : Nat → Prop} {B B' : Nat → Prop} {e : Fz} (hb : ∀ g, e.owns g → B g → B' g) (hz : ∀ g, Z g → g < w.heap.size → Z' g ∧ w'.heap[g]? = w.heap[g]?) (h : e.ok w Z B) : e.ok w' Z' B' := by
  cases e with
  | cel _ _ _ => exact CelV.mono h hz
  | bys _ _ => exact BysV.mono h hz
  | bysO G _ _ => exact ⟨h.1.mono fun g hg hlt => ⟨hg, (hz g (h.2 g hg).2.1 hlt).2⟩, OwnG.mono hb h.2 hz⟩
  | wrs G _ _ => exact ⟨⟨h.1.1, fun i v n hv hn => (h.1.2 i v n hv hn).mono fun g hg hlt => ⟨hg, (hz g (h.2 g hg).2.1 hlt).2⟩⟩, OwnG.mono hb h.2 hz⟩
  | own v E size n xs =>
    obtain ⟨⟨h1, h2⟩, h3⟩ := h
    rcases h2 with ⟨rfl, h2⟩ | ⟨g, cap, cur, rfl, k1, k2, k3⟩
    · exact ⟨⟨h1, .inl ⟨rfl, h2⟩⟩, fun g hg => by cases hg⟩
    · have hg := h3 g rfl
      have hlt : g < w.heap.size := (Array.getElem?_eq_some_iff.1 k2).1
      have h4 := hz g hg.1 hlt
      exact ⟨⟨h1, .inr ⟨g, cap, cur, rfl, k1, h4.2.trans k2, k3⟩⟩, fun g' hg' => by
        have : g = g' := by simpa [Value.ownBlock] using hg'
        exact this ▸ ⟨h4.1, hb g rfl hg.2⟩⟩
theorem Fz.ok_lt {w : World} {Z B : Nat → Prop} {g : Nat} : ∀ {e : Fz}, e.ok w Z B → e.owns g → g < w.heap.size ∧ Z g ∧ B g
  | .cel _ _ _, _, ho => ho.elim
  | .bys _ _, _, ho => ho.elim
  | .bysO G _ _, h, ho => ⟨h.2.lt ho, (h.2 g ho).2.1, (h.2 g ho).1⟩
  | .wrs G _ _, h, ho => ⟨h.2.lt ho, (h.2 g ho).2.1, (h.2 g ho).1⟩
  | .own v E size n xs, h, ho => by
    have h3 := h.2 g ho
    refine ⟨?_, h3.1, h3.2⟩
    rcases h.1.2 with ⟨rfl, _⟩ | ⟨g', cap, cur, rfl, _, k2, _⟩
    · cases ho
    · have : g' = g := by simpa [Fz.owns, Value.ownBlock] using ho
      exact this ▸ (Array.getElem?_eq_some_iff.1 k2).1
structure St (n : Nat) (w0 : Bs) (fs : List Sl) (bs : List Bl) (a : Act) (w : World) : Prop where
  size : a.tmps.size = n
  defers : a.defers = []
  slots : ∀ t v, lk fs t = some v → a.tmps[t]? = some v
  blks : ∀ (i : Nat) (e : Bl), bs[i]? = some e → e.1 = true → w.heap[e.2.1]? = some (.cells e.2.2.2.toArray e.2.2.1 (0, 0)) ∧ w0.B e.2.1
  apart : ∀ (i j : Nat) (e e' : Bl), i ≠ j → bs[i]? = some e → bs[j]? = some e' → e.1 = true → e'.1 = true → e.2.1 ≠ e'.2.1
  below : BelowX w0.X w0.w.heap.size w0.w w
  frz : ∀ p ∈ w0.F, w.heap[p.1]? = some p.2 ∧ ∀ (i : Nat) (e : Bl), bs[i]? = some e → e.1 = true → e.2.1 ≠ p.1
  fz : ∀ (i : Nat) (e : Bool × Fz), w0.S[i]? = some e → e.1 = true → e.2.ok w (Zs w0 bs i) w0.B
section
variable {P : Program} {n : Nat} {w0 : Bs} {fs : List Sl} {bs : List Bl} {a : Act} {w : World} {Q : Exit → Act → World → Prop} {K : Act → World → Prop} {o : Oper}
theorem St.ev (hs : St n w0 fs bs a w) {x : Operand} {v : Value} (h : ev fs x = some v) : a.eval x = v := by
  cases x with
  | tmp t => simp [Act.eval, hs.slots t v h]
  | const c => simpa [Go.Proofs.Ytikkhkjndbicgaa.ev, Act.eval] using h
  | global g => simpa [Go.Proofs.Ytikkhkjndbicgaa.ev, Act.eval] using h
  | func f => simpa [Go.Proofs.Ytikkhkjndbicgaa.ev, Act.eval] using h
theorem St.evs (hs : St n w0 fs bs a w) : ∀ {l : List Operand} {vs : List Value}, evs fs l = some vs → l.map a.eval = vs
  | [], vs, h => by simpa [Go.Proofs.Ytikkhkjndbicgaa.evs] using h
  | x :: l, vs, h => by
    unfold Go.Proofs.Ytikkhkjndbicgaa.evs at h
    split at h
    · rename_i v vs' h1 h2
      obtain rfl : v :: vs' = vs := by simpa using h
      rw [List.map_cons, hs.ev h1, hs.evs h2]
    · cases h
theorem St.blk (hs : St n w0 fs bs a w) {k g : Nat} {T : TypeId} {cs : List Value} (h : bs[k]? = some (true, g, T, cs)) : w.heap[g]? = some (.cells cs.toArray T (0, 0)) := (hs.blks k _ h rfl).1
theorem St.drew (hs : St n w0 fs bs a w) : St n w0 fs bs a w.drew := ⟨hs.size, hs.defers, hs.slots, hs.blks, hs.apart, hs.below.drew, hs.frz, fun i e h h1 => Fz.ok_mono (fun _ _ h => h) (fun g hg _ => ⟨hg, rfl⟩) (hs.fz i e h h1)⟩
theorem St.skip (hs : St n w0 fs bs a w) {d : Nat} {v : Value} : St n w0 ((d, false, v) :: fs) bs a w :=
  ⟨hs.size, hs.defers, fun t u h => hs.slots t u (by
    by_cases e : d = t
    · rw [lk_cons_eq e] at h; simpa using h
    · rw [lk_cons_ne e] at h; exact h), hs.blks, hs.apart, hs.below, hs.frz, hs.fz⟩
theorem St.pad (hs : St n w0 fs bs a w) {g : Nat} {T : TypeId} {cs : List Value} : St n w0 fs (bs ++ [(false, g, T, cs)]) a w := by
  have key : ∀ (i : Nat) (e : Bl), (bs ++ [(false, g, T, cs)])[i]? = some e → e.1 = true → bs[i]? = some e := by
    intro i e h h1
    rw [List.getElem?_append] at h
    split at h
    · exact h
    · obtain ⟨hlt, rfl⟩ := List.getElem?_eq_some_iff.1 h
      simp at h1
  exact ⟨hs.size, hs.defers, hs.slots, fun i e h h1 => hs.blks i e (key i e h h1) h1, fun i j e e' hij h h' h1 h1' => hs.apart i j e e' hij (key i e h h1) (key j e' h' h1') h1 h1', hs.below, fun p hp => ⟨(hs.frz p hp).1, fun i e h h1 => (hs.frz p hp).2 i e (key i e h h1) h1⟩, fun i e h h1 => Fz.ok_mono (fun _ _ h => h) (fun g hg _ => ⟨⟨hg.1, fun j b hb hb1 => hg.2.1 j b (key j b hb hb1) hb1, hg.2.2⟩, rfl⟩) (hs.fz i e h h1)⟩
theorem St.put (hs : St n w0 fs bs a w) {m : Option Nat} {d : Nat} (h : okf m fs d n = true) (v : Value) : St n w0 (putf m fs d v) bs (a.put (some d) v) w :=
  ⟨by simp [Act.put, hs.size], hs.defers, fun t u e => by
    rcases lk_put h v t u e with ⟨rfl, rfl⟩ | ⟨hne, h2⟩
    · have hlt : t < a.tmps.size := by rw [hs.size]; simp [okf] at h; exact h.1
      simp [Act.put, Array.getElem?_setIfInBounds, hlt]
    · show (a.tmps.setIfInBounds d v)[t]? = _
      rw [Array.getElem?_setIfInBounds_ne (fun e => hne e.symm)]
      exact hs.slots t u h2, hs.blks, hs.apart, hs.below, hs.frz, hs.fz⟩
theorem St.lt (hs : St n w0 fs bs a w) {i : Nat} {e : Bl} (h : bs[i]? = some e) (h1 : e.1 = true) : e.2.1 < w.heap.size := by
  have := (hs.blks i e h h1).1
  exact (Array.getElem?_eq_some_iff.1 this).1
theorem St.bel (hs : St n w0 fs bs a w) (hX : w0.X = noX) : Below w0.w.heap.size w0.w w := by
  have := hs.below
  rw [hX] at this
  exact this.none
theorem St.flt (hs : St n w0 fs bs a w) {p : Nat × Obj} (hp : p ∈ w0.F) : p.1 < w.heap.size := (Array.getElem?_eq_some_iff.1 (hs.frz p hp).1).1
theorem St.grow (hs : St n w0 fs bs a w) {w' : World} (hb : Below w.heap.size w w') : St n w0 fs bs a w' :=
  ⟨hs.size, hs.defers, hs.slots, fun i e h h1 => ⟨(hb.block _ (hs.lt h h1)).trans (hs.blks i e h h1).1, (hs.blks i e h h1).2⟩, hs.apart, hs.below.go (hb.mono hs.below.size), fun p hp => ⟨(hb.block _ (hs.flt hp)).trans (hs.frz p hp).1, (hs.frz p hp).2⟩, fun i e h h1 => Fz.ok_mono (fun _ _ h => h) (fun g hg hlt => ⟨hg, hb.block g hlt⟩) (hs.fz i e h h1)⟩
theorem St.add (hs : St n w0 fs bs a w) {m : Option Nat} (hm : okb m bs = true) {w' : World} (hb : Below w.heap.size w w') {g : Nat} (hg : w.heap.size ≤ g) {T : TypeId} {cs : List Value} (hc : w'.heap[g]? = some (.cells cs.toArray T (0, 0))) :
    St n w0 fs (putb m bs (true, g, T, cs)) a w' := by
  have h0 := hs.grow hb
  have key : ∃ k : Nat, ∀ (i : Nat) (e : Bl), (putb m bs (true, g, T, cs))[i]? = some e → (i = k ∧ e = (true, g, T, cs)) ∨ (i ≠ k ∧ bs[i]? = some e) := by
    cases m with
    | none =>
      refine ⟨bs.length, fun i e h => ?_⟩
      rw [putb, List.getElem?_append] at h
      split at h
      · rename_i hlt; exact .inr ⟨by omega, h⟩
      · rename_i hge
        obtain ⟨hlt, rfl⟩ := List.getElem?_eq_some_iff.1 h
        simp at hlt
        exact .inl ⟨by omega, by simp⟩
    | some k =>
      refine ⟨k, fun i e h => ?_⟩
      rw [putb, List.getElem?_set] at h
      split at h
      · rename_i hik
        split at h
        · exact .inl ⟨hik.symm, by simpa using h.symm⟩
        · cases h
      · rename_i hik; exact .inr ⟨fun e => hik e.symm, h⟩
  obtain ⟨k, key⟩ := key
  refine ⟨h0.size, h0.defers, h0.slots, fun i e h h1 => ?_, fun i j e e' hij h h' h1 h1' => ?_, h0.below, fun p hp => ⟨(h0.frz p hp).1, fun i e h h1 => ?_⟩, fun i e h h1 => ?_⟩
  · rcases key i e h with ⟨_, rfl⟩ | ⟨_, h2⟩
    · exact ⟨hc, .inl (Nat.le_trans hs.below.size hg)⟩
    · exact h0.blks i e h2 h1
  · rcases key i e h with ⟨hi, rfl⟩ | ⟨hi, h2⟩ <;> rcases key j e' h' with ⟨hj, rfl⟩ | ⟨hj, h2'⟩
    · exact absurd (hi.trans hj.symm) hij
    · have := hs.lt h2' h1'
      show g ≠ e'.2.1
      omega
    · have := hs.lt h2 h1
      show e.2.1 ≠ g
      omega
    · exact h0.apart i j e e' hij h2 h2' h1 h1'
  · rcases key i e h with ⟨_, rfl⟩ | ⟨_, h2⟩
    · have := hs.flt hp
      show g ≠ p.1
      omega
    · exact (h0.frz p hp).2 i e h2 h1
  · refine Fz.ok_mono (fun _ _ h => h) (fun x hx hlt => ⟨⟨hx.1, fun j b hb1 hb2 => ?_, hx.2.2⟩, hb.block x hlt⟩) (hs.fz i e h h1)
    rcases key j b hb1 with ⟨_, rfl⟩ | ⟨_, h2⟩
    · show g ≠ x
      omega
    · exact hx.2.1 j b h2 hb2
def wr (cs : List Value) (i : Nat) : List Value → List Value
  | [] => cs
  | v :: vs => wr (cs.set i v) (i + 1) vs
theorem wr_length : ∀ (vs : List Value) (cs : List Value) (i : Nat), (wr cs i vs).length = cs.length
  | [], _, _ => rfl
  | v :: vs, cs, i => by rw [wr, wr_length vs]; simp
theorem heap_setCells_at (g : Nat) (T : TypeId) : ∀ (vs : List Value) (i : Nat) (w : World) (cs : List Value), w.heap[g]? = some (.cells cs.toArray T (0, 0)) → (w.setCells g i vs).heap[g]? = some (.cells (wr cs i vs).toArray T (0, 0))
  | [], _, _, _, h => h
  | v :: vs, i, w, cs, h => by
    refine heap_setCells_at g T vs (i + 1) _ _ ?_
    simp [World.setCell, Array.getElem?_modify, h]
theorem heap_setCells_far (g k : Nat) (hk : k ≠ g) : ∀ (vs : List Value) (i : Nat) (w : World), (w.setCells g i vs).heap[k]? = w.heap[k]?
  | [], _, _ => rfl
  | v :: vs, i, w => (heap_setCells_far g k hk vs (i + 1) _).trans (Below.heap_setCell _ _ _ _ hk)
theorem setCells_rest (g : Nat) : ∀ (vs : List Value) (i : Nat) (w : World), (w.setCells g i vs).os = w.os ∧ (w.setCells g i vs).tape = w.tape ∧ (w.setCells g i vs).output = w.output ∧ (w.setCells g i vs).heap.size = w.heap.size
  | [], _, _ => ⟨rfl, rfl, rfl, rfl⟩
  | v :: vs, i, w => by
    obtain ⟨h1, h2, h3, h4⟩ := setCells_rest g vs (i + 1) (w.setCell ⟨g, i, none⟩ v)
    exact ⟨h1, h2, h3, h4.trans (by simp [World.setCell])⟩
theorem St.store (hs : St n w0 fs bs a w) {k g : Nat} {T : TypeId} {cs : List Value} (h : bs[k]? = some (true, g, T, cs)) (i : Nat) (vs : List Value) : St n w0 fs (bs.set k (true, g, T, wr cs i vs)) a (w.setCells g i vs) := by
  obtain ⟨r1, r2, r3, r4⟩ := setCells_rest g vs i w
  have hg := (hs.blks k _ h rfl).2
  have hk : k < bs.length := (List.getElem?_eq_some_iff.1 h).1
  have key : ∀ j (e : Bl), (bs.set k (true, g, T, wr cs i vs))[j]? = some e → (j = k ∧ e = (true, g, T, wr cs i vs)) ∨ (j ≠ k ∧ bs[j]? = some e) := by
    intro j e h
    rw [List.getElem?_set] at h
    split at h
    · rename_i hik
      first
        | exact .inl ⟨hik.symm, by simpa using h.symm⟩
        | (split at h
           · exact .inl ⟨hik.symm, by simpa using h.symm⟩
           · cases h)
    · rename_i hik; exact .inr ⟨fun e => hik e.symm, h⟩
  refine ⟨hs.size, hs.defers, hs.slots, fun j e h' h1 => ?_, fun i' j e e' hij h' h'' h1 h1' => ?_, ?_, fun p hp => ⟨(heap_setCells_far g p.1 (fun e => (hs.frz p hp).2 k _ h rfl e.symm) vs i w).trans (hs.frz p hp).1, fun j e h' h1 => ?_⟩, fun j e h' h1 => ?_⟩
  · rcases key j e h' with ⟨_, rfl⟩ | ⟨hj, h2⟩
    · exact ⟨heap_setCells_at g T vs i w cs (hs.blk h), hg⟩
    · have hne : e.2.1 ≠ g := hs.apart j k e (true, g, T, cs) hj h2 h h1 rfl
      exact ⟨(heap_setCells_far g _ hne vs i w).trans (hs.blks j e h2 h1).1, (hs.blks j e h2 h1).2⟩
  · rcases key i' e h' with ⟨hi, rfl⟩ | ⟨hi, h2⟩ <;> rcases key j e' h'' with ⟨hj, rfl⟩ | ⟨hj, h2'⟩
    · exact absurd (hi.trans hj.symm) hij
    · exact hs.apart k j (true, g, T, cs) e' (fun e => hij (hi.trans e)) h h2' rfl h1'
    · exact hs.apart i' k e (true, g, T, cs) (fun e => hij (e.trans hj.symm)) h2 h h1 rfl
    · exact hs.apart i' j e e' hij h2 h2' h1 h1'
  · refine ⟨r1.trans hs.below.os, r2.trans hs.below.tape, r3.trans hs.below.output, by rw [r4]; exact hs.below.size, fun j hj hx => ?_⟩
    have hjg : j ≠ g := fun e => by
      rcases hg with hg | hg
      · have hg' : w0.w.heap.size ≤ g := hg
        omega
      · exact hx (e ▸ hg)
    exact (heap_setCells_far g j hjg vs i w).trans (hs.below.block j hj hx)
  · rcases key j e h' with ⟨_, rfl⟩ | ⟨_, h2⟩
    · exact (hs.frz p hp).2 k (true, g, T, cs) h rfl
    · exact (hs.frz p hp).2 j e h2 h1
  · refine Fz.ok_mono (fun _ _ h => h) (fun x hx hlt => ⟨⟨hx.1, fun j' b hb1 hb2 => ?_, hx.2.2⟩, heap_setCells_far g x (fun e => hx.2.1 k _ h rfl e.symm) vs i w⟩) (hs.fz j e h' h1)
    rcases key j' b hb1 with ⟨_, rfl⟩ | ⟨_, h2⟩
    · exact hx.2.1 k (true, g, T, cs) h rfl
    · exact hx.2.1 j' b h2 hb2
def idx : Nat → List Value → List Sl
  | _, [] => []
  | k, v :: l => (k, true, v) :: idx (k + 1) l
theorem lk_idx : ∀ (l : List Value) (k t : Nat) (v : Value), lk (idx k l) t = some v → k ≤ t ∧ l[t - k]? = some v
  | [], _, _, _, h => by simp [idx, lk] at h
  | u :: l, k, t, v, h => by
    by_cases e : k = t
    · rw [idx, lk_cons_eq e] at h
      subst e
      exact ⟨Nat.le_refl _, by simpa using h⟩
    · rw [idx, lk_cons_ne e] at h
      obtain ⟨h1, h2⟩ := lk_idx l (k + 1) t v h
      refine ⟨by omega, ?_⟩
      rw [show t - k = (t - (k + 1)) + 1 by omega]
      simpa using h2
theorem enter {f : FuncId} {fn : Func} {c : Code} {args : List Value} {w : World} {R : Ending → World → Prop} {n : Nat} (hf : P.funcs[f]? = some fn) (hb : fn.body = some c) (hn : fn.ntmps = n) (hle : args.length ≤ n)
    (h : ∀ a, St n w (idx 0 args) [] a w → c.wp P (bodyPost P fn R) a w) : Calls P f args.toArray w R := by
  refine calls_of_wp hf hb (h _ ⟨?_, rfl, ?_, ?_, ?_, BelowX.refl _ _, (fun p hp => nomatch hp), fun i e h => by simp at h⟩)
  · subst hn; simp; omega
  · intro t v h
    obtain ⟨_, h2⟩ := lk_idx args 0 t v h
    have hlt : t < args.length := (List.getElem?_eq_some_iff.1 h2).1
    rw [Array.getElem?_append_left (by simpa using hlt)]
    simpa using h2
  · intro i e h; simp at h
  · intro i j e e' _ h; simp at h
def Fz.ownless : Fz → Bool
  | .cel _ _ _ => true
  | .bys _ _ => true
  | _ => false
theorem Fz.ownless_no {e : Fz} (h : e.ownless = true) (g : Nat) : ¬ e.owns g := by
  cases e <;> simp [Fz.ownless, Fz.owns] at h ⊢
theorem enterS {f : FuncId} {fn : Func} {c : Code} {args : List Value} {w : World} {R : Ending → World → Prop} {n : Nat} {S : List (Bool × Fz)} {Z : Nat → Prop} (hf : P.funcs[f]? = some fn) (hb : fn.body = some c) (hn : fn.ntmps = n) (hle : args.length ≤ n)
    (hS : ∀ (i : Nat) (e : Bool × Fz), S[i]? = some e → e.1 = true → e.2.ok w Z (Bn w.heap.size noX)) (ho : (S.all fun e => e.2.ownless) = true)
    (h : ∀ a, St n ⟨w, [], S, Z, noX⟩ (idx 0 args) [] a w → c.wp P (bodyPost P fn R) a w) : Calls P f args.toArray w R := by
  refine calls_of_wp hf hb (h _ ⟨?_, rfl, ?_, ?_, ?_, BelowX.refl _ _, (fun p hp => nomatch hp), fun i e h h1 => ?_⟩)
  · subst hn; simp; omega
  · intro t v h
    obtain ⟨_, h2⟩ := lk_idx args 0 t v h
    have hlt : t < args.length := (List.getElem?_eq_some_iff.1 h2).1
    rw [Array.getElem?_append_left (by simpa using hlt)]
    simpa using h2
  · intro i e h; simp at h
  · intro i j e e' _ h; simp at h
  · refine Fz.ok_mono (fun _ _ h => h) (fun g hg _ => ⟨⟨.inl hg, fun j b hb => by simp at hb, fun j e' _ hj _ he => ?_⟩, rfl⟩) (hS i e h h1)
    exact Fz.ownless_no ((List.all_eq_true.1 ho) e' (List.mem_of_getElem? hj)) g he
theorem op_val (hs : St n w0 fs bs a w) {v : Value} (m : Option Nat) {d : Nat} (hd : o.dst = some d) (hok : okf m fs d n = true) (hr : (execOp a.eval o).run P w = .ok (.value v) w)
    (h : ∀ a', St n w0 (putf m fs d v) bs a' w → K a' w) : o.wp P a w K Q := by
  unfold Oper.wp
  rw [hr, Oper.upon_value, hd]
  exact h _ (hs.put hok v)
theorem op_move (hs : St n w0 fs bs a w) (m : Option Nat) {x : Operand} {v : Value} {d : Nat} (ho : o.op = .move x) (hd : o.dst = some d) (hx : ev fs x = some v) (hok : okf m fs d n = true)
    (h : ∀ a', St n w0 (putf m fs d v) bs a' w → K a' w) : o.wp P a w K Q :=
  op_val hs m hd hok (by unfold execOp; rw [ho]; simp only [hs.ev hx]; rfl) h
theorem op_assign (hs : St n w0 fs bs a w) (m : Option Nat) {x : Operand} {v : Value} {d : Nat} (ho : o.op = .assign x) (hd : o.dst = some d) (hx : ev fs x = some v) (hok : okf m fs d n = true)
    (h : ∀ a', St n w0 (putf m fs d v) bs a' w → K a' w) : o.wp P a w K Q :=
  op_val hs m hd hok (by unfold execOp; rw [ho]; simp only [hs.ev hx]; rfl) h
theorem op_extract (hs : St n w0 fs bs a w) (m : Option Nat) {x : Operand} {vs : Array Value} {i : Nat} {v : Value} {d : Nat} (ho : o.op = .extract x i) (hd : o.dst = some d) (hx : ev fs x = some (.tuple vs)) (hv : vs[i]? = some v) (hok : okf m fs d n = true)
    (h : ∀ a', St n w0 (putf m fs d v) bs a' w → K a' w) : o.wp P a w K Q :=
  op_val hs m hd hok (by unfold execOp; rw [ho]; simp only [hs.ev hx, Instr.extract, hv]; rfl) h
theorem op_bin (hs : St n w0 fs bs a w) (m : Option Nat) {b : BinOp} {T U : TypeId} {x y : Operand} {vx vy v : Value} {d : Nat} (ho : o.op = .binOp b T x y U) (hd : o.dst = some d) (hx : ev fs x = some vx) (hy : ev fs y = some vy)
    (hg : ∀ w, (eqGuard b T x y vx vy).run P w = .ok () w) (hr : ∀ w, (binOp b T vx vy).run P w = .ok v w) (hok : okf m fs d n = true)
    (h : ∀ a', St n w0 (putf m fs d v) bs a' w → K a' w) : o.wp P a w K Q :=
  op_val hs m hd hok (by unfold execOp; rw [ho]; simp [hs.ev hx, hs.ev hy, Sem.run_bind, hg, hr, Result.andThen]) h
theorem op_un (hs : St n w0 fs bs a w) (m : Option Nat) {b : UnOp} {T : TypeId} {x : Operand} {vx v : Value} {d : Nat} (ho : o.op = .unOp b T x) (hd : o.dst = some d) (hx : ev fs x = some vx)
    (hr : ∀ w, (Op.unary b vx).run P w = .ok v w) (hok : okf m fs d n = true)
    (h : ∀ a', St n w0 (putf m fs d v) bs a' w → K a' w) : o.wp P a w K Q :=
  op_val hs m hd hok (by unfold execOp; rw [ho]; simp [hs.ev hx, Sem.run_bind, hr, Result.andThen]) h
theorem op_convert (hs : St n w0 fs bs a w) (m : Option Nat) {T U : TypeId} {x : Operand} {vx v : Value} {d : Nat} (ho : o.op = .convert T U x) (hd : o.dst = some d) (hx : ev fs x = some vx)
    (hr : ∀ w, (convert T U vx).run P w = .ok v w) (hok : okf m fs d n = true)
    (h : ∀ a', St n w0 (putf m fs d v) bs a' w → K a' w) : o.wp P a w K Q :=
  op_val hs m hd hok (by unfold execOp; rw [ho]; simp [hs.ev hx, Sem.run_bind, hr, Result.andThen]) h
theorem op_index (hs : St n w0 fs bs a w) (m : Option Nat) {T : TypeId} {x y : Operand} {vx vy v : Value} {d : Nat} (ho : o.op = .index T x y) (hd : o.dst = some d) (hx : ev fs x = some vx) (hy : ev fs y = some vy)
    (hr : ∀ w, (Instr.index T vx vy).run P w = .ok v w) (hok : okf m fs d n = true)
    (h : ∀ a', St n w0 (putf m fs d v) bs a' w → K a' w) : o.wp P a w K Q :=
  op_val hs m hd hok (by unfold execOp; rw [ho]; simp [hs.ev hx, hs.ev hy, Sem.run_bind, hr, Result.andThen]) h
theorem op_build (hs : St n w0 fs bs a w) (m : Option Nat) {T : TypeId} {ps : Array (Nat × Operand)} {qs : List (Nat × Value)} {v : Value} {d : Nat} (ho : o.op = .build T ps) (hd : o.dst = some d)
    (hx : evs fs (ps.toList.map (·.2)) = some (qs.map (·.2))) (hi : ps.toList.map (·.1) = qs.map (·.1))
    (hr : ∀ w, (Instr.build T qs.toArray).run P w = .ok v w) (hok : okf m fs d n = true)
    (h : ∀ a', St n w0 (putf m fs d v) bs a' w → K a' w) : o.wp P a w K Q := by
  have hq : ps.map (fun (p : Nat × Operand) => (p.1, a.eval p.2)) = qs.toArray := by
    have h1 := hs.evs hx
    apply Array.ext'
    simp only [Array.toList_map]
    rw [List.map_map] at h1
    apply List.ext_getElem?
    intro j
    have e1 := congrArg (·[j]?) h1
    have e2 := congrArg (·[j]?) hi
    simp only [List.getElem?_map] at e1 e2 ⊢
    cases hp : ps.toList[j]? with
    | none =>
      rw [hp] at e1
      cases hq : qs[j]? with
      | none => rfl
      | some q => rw [hq] at e1; simp at e1
    | some p =>
      rw [hp] at e1 e2
      cases hq : qs[j]? with
      | none => rw [hq] at e1; simp at e1
      | some q =>
        rw [hq] at e1 e2
        simp at e1 e2
        simp [e1, e2]
  refine op_val hs m hd hok ?_ h
  unfold execOp
  rw [ho]
  simp only [hq]
  rw [Sem.run_bind, hr]
  rfl
theorem op_call {F : FuncId} (hs : St n w0 fs bs a w) (m : Option Nat) {f : Operand} {xs : Array Operand} {ts : Array TypeId} {vs : List Value} {v : Value} {d : Nat} (ho : o.op = .call ⟨.value f, xs, ts⟩) (hd : o.dst = some d)
    (hf : ev fs f = some (.func (.func F) #[] #[])) (hx : evs fs xs.toList = some vs) (hcl : ∀ w, (callFunc F vs.toArray).run P w = .ok (.enter F vs.toArray) w)
    (hc : ∀ w, Calls P F vs.toArray w fun e w' => e = .returned v ∧ Below w.heap.size w w') (hok : okf m fs d n = true)
    (h : ∀ a' w', St n w0 (putf m fs d v) bs a' w' → K a' w') : o.wp P a w K Q := by
  have hm : xs.map a.eval = vs.toArray := by
    have := hs.evs hx
    rw [← this, ← Array.toList_map]
  unfold Oper.wp execOp
  rw [ho]
  simp only [resolve, hs.ev hf, hm, Deferred.ofValue, Sem.run_bind, Sem.run_pure, Result.andThen_ok, invoke, Array.empty_append, Array.append_empty, hcl, Oper.upon_enter, hd]
  refine (hc w).mono ?_
  rintro e w' ⟨rfl, hb⟩
  exact h _ _ ((hs.grow hb).put hok v)
theorem op_blt {b : Builtin} (hs : St n w0 fs bs a w) (m : Option Nat) {xs : Array Operand} {ts : Array TypeId} {vs : List Value} {v : Value} {d : Nat} (ho : o.op = .call ⟨.builtin b, xs, ts⟩) (hd : o.dst = some d)
    (hx : evs fs xs.toList = some vs) (hcl : ∀ c w, (builtin b ts o.type c vs.toArray).run P w = .ok (.value v) w) (hok : okf m fs d n = true)
    (h : ∀ a', St n w0 (putf m fs d v) bs a' w → K a' w) : o.wp P a w K Q := by
  have hm : xs.map a.eval = vs.toArray := by
    have := hs.evs hx
    rw [← this, ← Array.toList_map]
  unfold Oper.wp execOp
  rw [ho]
  simp only [resolve, hm, Sem.run_bind, Sem.run_pure, Result.andThen_ok, invoke, hcl, Oper.upon_value, hd]
  exact h _ (hs.put hok v)
def ldv (ag : Bool) (m : Nat) (cs : List Value) (i : Nat) : Option Value :=
  bif ag then (bif Nat.ble (i + m) cs.length then some (.agg ((cs.drop i).take m).toArray) else none) else cs[i]?
theorem run_ldv {t : TypeId} {g i : Nat} {T : TypeId} {cs : List Value} {ag : Bool} {m : Nat} {v : Value} (hb : w.heap[g]? = some (.cells cs.toArray T (0, 0))) (hu : ∀ w, (isAgg t).run P w = .ok ag w) (hz : ∀ w, (sizeOf t).run P w = .ok m w)
    (hl : ldv ag m cs i = some v) : (loadVar t ⟨g, i, none⟩).run P w = .ok v w := by
  have hc : ∀ j, w.cell? ⟨g, j, none⟩ = cs[j]? := fun j => by rw [cell_of_row w g j _ T _ hb]; simp
  unfold loadVar
  rw [Sem.run_bind, hu]
  simp only [Result.andThen_ok]
  cases ag with
  | false =>
    simp only [ldv, cond_false] at hl
    simp only [Bool.false_eq_true, if_false]
    simp [hc, hl]
  | true =>
    simp only [ldv, cond_true] at hl
    have hle : i + m ≤ cs.length := by
      cases hb : Nat.ble (i + m) cs.length with
      | true => exact Nat.le_of_ble_eq_true hb
      | false => rw [hb] at hl; simp at hl
    rw [show Nat.ble (i + m) cs.length = true from Nat.ble_eq_true_of_le hle] at hl
    simp only [cond_true, Option.some.injEq] at hl
    subst hl
    simp only [if_true, Sem.run_bind, hz, Result.andThen_ok]
    have hlen : ((cs.drop i).take m).length = m := by simp; omega
    have := run_loadCells_list (P := P) w ⟨g, i, none⟩ ((cs.drop i).take m) (fun j v hv => by
      rw [Addr.add_mid, hc]
      rw [List.getElem?_take] at hv
      split at hv
      · rw [List.getElem?_drop] at hv; exact hv
      · cases hv)
    rw [hlen] at this
    simp [this]
theorem op_load (hs : St n w0 fs bs a w) (m : Option Nat) (k : Nat) {t : TypeId} {x : Operand} {g i : Nat} {T : TypeId} {cs : List Value} {ag : Bool} {z : Nat} {v : Value} {d : Nat} (ho : o.op = .load t x) (hd : o.dst = some d)
    (hx : ev fs x = some (.pointer (some ⟨g, i, none⟩))) (hb : bs[k]? = some (true, g, T, cs)) (hu : ∀ w, (isAgg t).run P w = .ok ag w) (hz : ∀ w, (sizeOf t).run P w = .ok z w) (hl : ldv ag z cs i = some v) (hok : okf m fs d n = true)
    (h : ∀ a', St n w0 (putf m fs d v) bs a' w → K a' w) : o.wp P a w K Q :=
  op_val hs m hd hok (by
    unfold execOp
    rw [ho]
    simp only [hs.ev hx, Instr.loadAt, Instr.sureAddr, Sem.run_bind, Sem.run_pure, Result.andThen_ok, run_ldv (hs.blk hb) hu hz hl]) h
theorem heap_alloc_at (w : World) (ob : Obj) : (w.alloc ob).heap[w.heap.size]? = some ob := heap_alloc_new w ob
theorem op_alloc (hs : St n w0 fs bs a w) (m mb : Option Nat) {t : TypeId} {z : Value} {cs : List Value} {d : Nat} (ho : o.op = .alloc t) (hd : o.dst = some d) (hz : ∀ w, (zeroValue t).run P w = .ok z w) (hc : z.cells = cs.toArray)
    (hokb : okb mb bs = true) (hok : okf m fs d n = true)
    (h : ∀ g a' w', St n w0 (putf m fs d (.pointer (some ⟨g, 0, none⟩))) (putb mb bs (true, g, t, cs)) a' w' → K a' w') : o.wp P a w K Q := by
  unfold Oper.wp execOp
  rw [ho]
  simp only [Instr.alloc, Sem.run_bind, hz, Result.andThen_ok, newVar, newRow, run_newObj_alloc, Sem.run_pure, Oper.upon_value, hd, hc]
  exact h _ _ _ ((hs.add hokb ((Below.refl _ _).alloc (Nat.le_refl _) _) (Nat.le_refl _) (heap_alloc_at w _)).put hok _)
theorem op_box (hs : St n w0 fs bs a w) (m mb : Option Nat) {t : TypeId} {x : Operand} {v : Value} {cs : List Value} {d : Nat} (ho : o.op = .box t x) (hd : o.dst = some d) (hx : ev fs x = some v) (hc : v.cells = cs.toArray)
    (hokb : okb mb bs = true) (hok : okf m fs d n = true)
    (h : ∀ g a' w', St n w0 (putf m fs d (.pointer (some ⟨g, 0, none⟩))) (putb mb bs (true, g, t, cs)) a' w' → K a' w') : o.wp P a w K Q := by
  unfold Oper.wp execOp
  rw [ho]
  simp only [hs.ev hx, Instr.box, Sem.run_bind, Result.andThen_ok, newVar, newRow, run_newObj_alloc, Sem.run_pure, Oper.upon_value, hd, hc]
  exact h _ _ _ ((hs.add hokb ((Below.refl _ _).alloc (Nat.le_refl _) _) (Nat.le_refl _) (heap_alloc_at w _)).put hok _)
theorem op_store (hs : St n w0 fs bs a w) (k : Nat) {t : TypeId} {x y : Operand} {g i z : Nat} {T : TypeId} {cs : List Value} {v : Value} {vs : List Value} (ho : o.op = .store t x y) (hd : o.dst = none)
    (hx : ev fs x = some (.pointer (some ⟨g, i, none⟩))) (hy : ev fs y = some v) (hb : bs[k]? = some (true, g, T, cs)) (hz : ∀ w, (sizeOf t).run P w = .ok z w) (hv : v.cells = vs.toArray) (hvz : vs.length = z) (h1 : vs.all (·.oneCell') = true)
    (hle : Nat.ble (i + z) cs.length = true) {cs' : List Value} (hw : wr cs i vs = cs') (h : ∀ w', St n w0 fs (bs.set k (true, g, T, cs')) a w' → K a w') : o.wp P a w K Q := by
  subst hw
  have hrun : (Instr.storeAt t (.pointer (some ⟨g, i, none⟩)) v).run P w = .ok () (w.setCells g i vs) := by
    have hc : ∀ j, w.cell? ⟨g, j, none⟩ = cs[j]? := fun j => by rw [cell_of_row w g j _ T _ (hs.blk hb)]; simp
    have := run_storeCells_cells (P := P) g i vs 0 w (fun j hj => by have := Nat.le_of_ble_eq_true hle; rw [Nat.add_zero, hc]; simp; omega) (fun j hj => frozen_of_row w g _ _ T (hs.blk hb)) (fun v hv => (List.all_eq_true.1 h1) v hv)
    simp only [Nat.add_zero] at this
    simp only [Instr.storeAt, Instr.sureAddr, Sem.run_bind, Sem.run_pure, Result.andThen_ok, storeVar, hz, hv]
    simp [hvz, this]
  unfold Oper.wp execOp
  rw [ho]
  simp only [hs.ev hx, hs.ev hy, Sem.run_bind, hrun, Result.andThen_ok, Sem.run_pure, Oper.upon_skip, hd]
  exact h _ (hs.store hb i vs)
end
end Go.Proofs.Ytikkhkjndbicgaa

/- A region that draws its order: each operation is looked at once, whatever came ahead of it. -/
namespace Go.Proofs.Ytikkhkjndbicgaa
open Go.RowKit
def memb (k : Nat) : List Nat → Bool
  | [] => false
  | i :: l => bif Nat.beq i k then true else memb k l
theorem memb_iff {k : Nat} : ∀ {l : List Nat}, memb k l = true ↔ k ∈ l
  | [] => by simp [memb]
  | i :: l => by
    cases hb : Nat.beq i k
    · have hne : i ≠ k := fun h => by rw [beqN.2 h] at hb; simp at hb
      simp only [memb, hb, cond_false, memb_iff, List.mem_cons]
      exact ⟨.inr, fun h => h.resolve_left fun e => hne e.symm⟩
    · have := beqN.1 hb
      simp [memb, hb, this]
def frc (i : Nat) (p : List Nat × List Nat) (L : Nat → Bool) (k : Nat) : Bool := bif memb k p.1 then true else bif memb k (i :: p.2) then false else L k
def upf (L : Nat → Bool) (i k : Nat) : Bool := bif Nat.beq i k then true else L k
section
variable {P : Program} {Q : Exit → Act → World → Prop} {K : Act → World → Prop} {a : Act} {w : World} {o : Oper}
def wpO (P : Program) (ops : Array Oper) (Q : Exit → Act → World → Prop) (o : Oper) (K : Act → World → Prop) (a : Act) (w : World) : Prop :=
  if Region.wanted o (yielded ops a.tmps) then o.wp P a w K Q else K (a.put o.dst undef) w
theorem wpO_plain {ops : Array Oper} (hg : o.guard = none) (h : o.wp P a w K Q) : wpO P ops Q o K a w := by
  unfold wpO
  rw [if_pos (by simp [Region.wanted, hg])]
  exact h
theorem wpO_in {n : Nat} {w0 : Bs} {fs : List Sl} {bs : List Bl} {ops : Array Oper} {j d : Nat} {b : Bool} (hs : St n w0 fs bs a w) (hg : o.guard = some (j, b)) (hj : (ops[j]?).bind (·.dst) = some d) (hv : lk fs d = some (.bool b)) (h : o.wp P a w K Q) : wpO P ops Q o K a w := by
  unfold wpO
  rw [if_pos (by simp [Region.wanted, hg, yielded, hj, hs.slots d _ hv])]
  exact h
theorem wpO_out {n : Nat} {w0 : Bs} {fs : List Sl} {bs : List Bl} {ops : Array Oper} {j d e : Nat} {b : Bool} (hs : St n w0 fs bs a w) (m : Option Nat) (hg : o.guard = some (j, b)) (hj : (ops[j]?).bind (·.dst) = some d) (hv : lk fs d = some (.bool (!b)) ∨ lk fs d = some undef) (hd : o.dst = some e) (hok : okf m fs e n = true)
    (h : ∀ a', St n w0 (putf m fs e undef) bs a' w → K a' w) : wpO P ops Q o K a w := by
  unfold wpO
  rw [if_neg (by rcases hv with hv | hv <;> simp [Region.wanted, hg, yielded, hj, hs.slots d _ hv, undef]), hd]
  exact h _ (hs.put hok _)
theorem lstep {ops : Array Oper} {rest : List Oper} (h : wpO P ops Q o (wpList P ops Q rest) a w) : wpList P ops Q (o :: rest) a w :=
  wpList_step fun K hK => by
    unfold wpO at h
    split
    · rename_i hw; rw [if_pos hw] at h; exact Oper.wp_mono hK h
    · rename_i hw; rw [if_neg hw] at h; exact hK _ _ h
def dep (o : Oper) : List Nat := o.after.toList.filterMap fun e => if Region.binds .any e then some e.on else none
def tabRow (ops : List Oper) (tab : List (List Nat × List Nat)) (i : Nat) : Bool :=
  match ops[i]?, tab[i]? with
  | some o, some p => (dep o).all (fun k => Nat.blt k i) && p.1.all (fun k => memb k (dep o) || (dep o).any fun d => memb k (tab.getD d ([], [])).1) && p.2.all (fun j => Nat.blt j ops.length && memb i (tab.getD j ([], [])).1)
  | _, _ => false
def tabOk (ops : List Oper) (tab : List (List Nat × List Nat)) : Bool := (List.range ops.length).all (tabRow ops tab)
def Steps (P : Program) (ops : Array Oper) (Q : Exit → Act → World → Prop) (J : (Nat → Bool) → Act → World → Prop) : List Oper → List (List Nat × List Nat) → Nat → Prop
  | [], _, _ => True
  | _ :: _, [], _ => False
  | o :: l, p :: t, i => (∀ L a w, J (frc i p L) a w → wpO P ops Q o (J (upf (frc i p L) i)) a w) ∧ Steps P ops Q J l t (i + 1)
theorem Steps.get {ops : Array Oper} {J : (Nat → Bool) → Act → World → Prop} : ∀ {l : List Oper} {tab : List (List Nat × List Nat)} {i : Nat}, Steps P ops Q J l tab i → ∀ (j : Nat) o p, l[j]? = some o → tab[j]? = some p →
    ∀ L a w, J (frc (i + j) p L) a w → wpO P ops Q o (J (upf (frc (i + j) p L) (i + j))) a w
  | o :: l, p :: t, i, h, 0, o', p', ho, hp => by
    obtain rfl : o = o' := by simpa using ho
    obtain rfl : p = p' := by simpa using hp
    exact h.1
  | o :: l, p :: t, i, h, j + 1, o', p', ho, hp => by
    have := h.2.get j o' p' (by simpa using ho) (by simpa using hp)
    rwa [show i + 1 + j = i + (j + 1) by omega] at this
  | [], _, _, _, _, _, _, ho, _ => by simp at ho
  | _ :: _, [], _, h, _, _, _, _, _ => h.elim
def nfl : List Bool → Nat
  | [] => 0
  | b :: l => (bif b then 0 else 1) + nfl l
theorem nfl_set : ∀ (l : List Bool) (i : Nat), l[i]? = some false → nfl (l.set i true) + 1 = nfl l
  | [], i, h => by simp at h
  | b :: l, 0, h => by
    obtain rfl : b = false := by simpa using h
    simp [nfl]; omega
  | b :: l, i + 1, h => by
    have := nfl_set l i (by simpa using h)
    simp only [List.set_cons_succ, nfl]
    omega
theorem nfl_zero : ∀ (l : List Bool), nfl l = 0 → ∀ (i : Nat) (b : Bool), l[i]? = some b → b = true
  | [], _, i, b, h => by simp at h
  | c :: l, h0, 0, b, h => by
    obtain rfl : c = b := by simpa using h
    cases c
    · simp [nfl] at h0
    · rfl
  | c :: l, h0, i + 1, b, h => nfl_zero l (by simp only [nfl] at h0; omega) i b (by simpa using h)
theorem nfl_pos : ∀ (l : List Bool), 0 < nfl l → ∃ i : Nat, l[i]? = some false ∧ ∀ j, j < i → l[j]? = some true
  | [], h => by simp [nfl] at h
  | false :: l, _ => ⟨0, rfl, fun j hj => by omega⟩
  | true :: l, h => by
    obtain ⟨i, h1, h2⟩ := nfl_pos l (by simpa [nfl] using h)
    refine ⟨i + 1, by simpa using h1, fun j hj => ?_⟩
    cases j with
    | zero => rfl
    | succ j => simpa using h2 j (by omega)
theorem nfl_rep : ∀ n, nfl (List.replicate n false) = n
  | 0 => rfl
  | n + 1 => by simp only [List.replicate_succ, nfl, nfl_rep n, cond_false]; omega
def flg (listed : Array Bool) (k : Nat) : Bool := listed.getD k true
theorem mem_ready {ops : Array Oper} {listed : Array Bool} {i : Nat} : i ∈ Region.ready .any ops listed ↔ ∃ o, ops[i]? = some o ∧ flg listed i = false ∧ ∀ k ∈ dep o, listed.getD k false = true := by
  unfold Region.ready
  simp only [List.mem_filter, List.mem_range, Bool.and_eq_true, Bool.not_eq_true']
  constructor
  · rintro ⟨hlt, h1, h2⟩
    refine ⟨ops[i], by simp [hlt], h1, fun k hk => ?_⟩
    rw [Array.getElem?_eq_getElem hlt] at h2
    simp only [Option.map_some, Option.getD_some] at h2
    unfold dep at hk
    obtain ⟨e, he, hek⟩ := List.mem_filterMap.1 hk
    split at hek
    · rename_i hb
      obtain rfl : e.on = k := by simpa using hek
      have := (Array.all_eq_true_iff_forall_mem.1 h2) e (by simpa using he)
      simpa [hb] using this
    · cases hek
  · rintro ⟨o, ho, h1, h2⟩
    obtain ⟨hlt, rfl⟩ := Array.getElem?_eq_some_iff.1 ho
    refine ⟨hlt, h1, ?_⟩
    rw [ho]
    simp only [Option.map_some, Option.getD_some]
    refine Array.all_eq_true_iff_forall_mem.2 fun e he => ?_
    by_cases hb : Region.binds .any e = true
    · have := h2 e.on (List.mem_filterMap.2 ⟨e, by simpa using he, by simp [hb]⟩)
      simp [this]
    · simp [hb]
theorem wpOp_of {ops : Array Oper} {i : Nat} (ho : ops[i]? = some o) (h : wpO P ops Q o K a w) : wpOp P ops Q i K a w := by
  unfold wpOp
  rw [ho]
  unfold wpO at h
  show if Region.wanted o (yielded ops a.tmps) = true then _ else _
  split
  · rename_i hw; rw [if_pos hw] at h; exact .inl h
  · rename_i hw; rw [if_neg hw] at h; exact h
theorem any_inv {ops : Array Oper} {J : (Nat → Bool) → Act → World → Prop} {tab : List (List Nat × List Nat)} (hT : tabOk ops.toList tab = true) (hS : Steps P ops Q J ops.toList tab 0) (hend : ∀ a w, J (fun _ => true) a w → Q .normal a w) :
    ∀ (fuel : Nat) (listed : Array Bool) (a : Act) (w : World), listed.size = ops.size → nfl listed.toList = fuel → (∀ j p, tab[j]? = some p → listed.getD j false = true → ∀ k ∈ p.1, listed.getD k false = true) → J (flg listed) a w → wpAny P .any ops Q fuel listed a w := by
  have row : ∀ i, i < ops.size → tabRow ops.toList tab i = true := fun i hi => (List.all_eq_true.1 hT) i (by simpa using hi)
  intro fuel
  induction fuel with
  | zero =>
    intro listed a w hsz hf hok hJ
    have hall : ∀ i, flg listed i = true := fun i => by
      unfold flg
      cases hb : listed[i]? with
      | none => simp [hb]
      | some b =>
        have := nfl_zero _ hf i b (by simpa using hb)
        simp [hb, this]
    refine ⟨?_, hend a w (by rw [show (fun _ => true) = flg listed from (funext hall).symm]; exact hJ)⟩
    refine List.eq_nil_iff_forall_not_mem.2 fun i hi => ?_
    obtain ⟨_, _, h, _⟩ := mem_ready.1 hi
    rw [hall i] at h
    cases h
  | succ fuel ih =>
    intro listed a w hsz hf hok hJ
    constructor
    · intro hr
      obtain ⟨i, h1, h2⟩ := nfl_pos listed.toList (by omega)
      have hlt : i < ops.size := by
        have := (List.getElem?_eq_some_iff.1 h1).1
        simpa [hsz] using this
      refine absurd (mem_ready.2 ⟨ops[i], by simp [hlt], by simp [flg, ← Array.getElem?_toList, h1], fun k hk => ?_⟩) (List.eq_nil_iff_forall_not_mem.1 hr i)
      have := row i hlt
      unfold tabRow at this
      rw [show ops.toList[i]? = some ops[i] by simp [hlt]] at this
      cases ht : tab[i]? with
      | none => rw [ht] at this; simp at this
      | some p =>
        rw [ht] at this
        simp only [Bool.and_eq_true] at this
        have hki := (List.all_eq_true.1 this.1.1) k hk
        have hki' : k < i := by simpa using hki
        simp [← Array.getElem?_toList, h2 k hki']
    · intro i hi
      obtain ⟨o, ho, h1, h2⟩ := mem_ready.1 hi
      obtain ⟨hlt, _⟩ := Array.getElem?_eq_some_iff.1 ho
      have hrow := row i hlt
      unfold tabRow at hrow
      rw [show ops.toList[i]? = some o by simpa using ho] at hrow
      cases ht : tab[i]? with
      | none => rw [ht] at hrow; simp at hrow
      | some p =>
        rw [ht] at hrow
        simp only [Bool.and_eq_true] at hrow
        obtain ⟨⟨r1, r2⟩, r3⟩ := hrow
        have hp1 : ∀ k ∈ p.1, listed.getD k false = true := fun k hk => by
          have := (List.all_eq_true.1 r2) k hk
          rcases Bool.or_eq_true_iff.1 this with h | h
          · exact h2 k (memb_iff.1 h)
          · obtain ⟨d, hd, hkd⟩ := List.any_eq_true.1 h
            cases htd : tab[d]? with
            | none => simp [htd, memb] at hkd
            | some q =>
              refine hok d q htd (h2 d hd) k (memb_iff.1 ?_)
              simpa [htd] using hkd
        have hli : listed[i]? = some false := by
          have hi' : i < listed.size := by omega
          simp only [flg, Array.getD, hi', dite_true] at h1
          rw [Array.getElem?_eq_getElem hi']
          exact congrArg some h1
        have hfrc : frc i p (flg listed) = flg listed := by
          funext k
          unfold frc
          cases hk1 : memb k p.1
          · cases hk2 : memb k (i :: p.2)
            · rfl
            · simp only [cond_false, cond_true]
              rcases List.mem_cons.1 (memb_iff.1 hk2) with rfl | hk
              · exact h1.symm
              · have := (List.all_eq_true.1 r3) k hk
                simp only [Bool.and_eq_true] at this
                have hkl : k < ops.size := by simpa using this.1
                cases htk : tab[k]? with
                | none => simp [htk, memb] at this
                | some q =>
                  have hik : i ∈ q.1 := memb_iff.1 (by simpa [htk] using this.2)
                  cases hc : flg listed k
                  · rfl
                  · exfalso
                    have hk' : listed.getD k false = true := by
                      have hks : k < listed.size := by omega
                      simp only [flg, Array.getD, hks, dite_true] at hc ⊢
                      exact hc
                    have := hok k q htk hk' i hik
                    simp [hli] at this
          · simp only [cond_true]
            have := hp1 k (memb_iff.1 hk1)
            simp only [flg, Array.getD] at this ⊢
            split at this
            · rename_i hh; simp only [hh, dite_true]; exact this.symm
            · cases this
        have hstep := hS.get i o p (by simpa using ho) ht
        rw [Nat.zero_add] at hstep
        have := hstep (flg listed) a w (by rw [hfrc]; exact hJ)
        rw [hfrc] at this
        refine wpOp_mono (fun a' w' hJ' => ?_) (wpOp_of ho this)
        refine ih _ a' w' (by simpa using hsz) ?_ ?_ ?_
        · have := nfl_set listed.toList i (by simpa using hli)
          rw [Array.toList_setIfInBounds]
          omega
        · intro j q hj hjt k hk
          by_cases hki : i = k
          · subst hki
            have : i < listed.size := by omega
            simp [this]
          · have hold : listed.getD k false = true := by
              by_cases hji : i = j
              · subst hji
                rw [ht] at hj
                obtain rfl : p = q := by simpa using hj
                exact hp1 k hk
              · refine hok j q hj ?_ k hk
                simpa [Array.getElem?_setIfInBounds_ne hji] using hjt
            simpa [Array.getElem?_setIfInBounds_ne hki] using hold
        · have : flg (listed.setIfInBounds i true) = upf (flg listed) i := by
            funext k
            unfold upf flg
            by_cases hki : i = k
            · subst hki
              have : i < listed.size := by omega
              simp [this]
            · have hb : Nat.beq i k = false := by
                cases hb : Nat.beq i k
                · rfl
                · exact absurd (beqN.1 hb) hki
              simp [Array.getElem?_setIfInBounds_ne hki, hb]
          rw [this]
          exact hJ'
theorem blt_iff {a b : Nat} : Nat.blt a b = true ↔ a < b := by simp [Nat.blt_eq]
theorem region_inv {id : Nat} {l : List Oper} (tab : List (List Nat × List Nat)) (J : (Nat → Bool) → Act → World → Prop) (hm : P.follows .mixedOrders = true) (hT : tabOk l tab = true)
    (h0 : J (fun k => !Nat.blt k l.length) a w.drew) (hS : Steps P l.toArray Q J l tab 0) (hend : ∀ a w, J (fun _ => true) a w → Q .normal a w) : (Code.region id l.toArray true).wp P Q a w := by
  refine wp_region_any hm ?_
  refine any_inv (J := J) (tab := tab) (by simpa using hT) (by simpa using hS) hend _ _ _ _ (by simp) (by simpa using nfl_rep l.length) ?_ ?_
  · intro j p _ h k _
    simp [Array.getElem?_replicate] at h
    split at h <;> simp at h
  · have : flg (Array.replicate l.toArray.size false) = fun k => !Nat.blt k l.length := by
      funext k
      unfold flg
      by_cases hk : k < l.length
      · simp [hk, Array.getElem?_replicate, blt_iff.2 hk]
      · have : Nat.blt k l.length = false := by
          cases hb : Nat.blt k l.length
          · rfl
          · exact absurd (blt_iff.1 hb) hk
        simp [hk, Array.getElem?_replicate, this]
    rw [this]
    exact h0
end
end Go.Proofs.Ytikkhkjndbicgaa

/- What joins the walks: the ways out of code, results, loops, addresses. -/
namespace Go.Proofs.Ytikkhkjndbicgaa
open Go.RowKit
section
variable {P : Program} {Q : Exit → Act → World → Prop} {K : Act → World → Prop} {a : Act} {w : World} {o : Oper} {n : Nat} {w0 : Bs} {fs : List Sl} {bs : List Bl}
theorem then_n (h : K a w) : Exit.then K Q .normal a w := h
theorem then_e {id : Nat} (h : Q (.exit id) a w) : Exit.then K Q (.exit id) a w := h
theorem then_r (h : Q .ret a w) : Exit.then K Q .ret a w := h
theorem blk_n {id : Nat} (h : Q .normal a w) : Exit.inBlock id Q .normal a w := h
theorem blk_e {id : Nat} (h : Q .normal a w) : Exit.inBlock id Q (.exit id) a w := by simpa [Exit.inBlock] using h
theorem blk_r {id : Nat} (h : Q .ret a w) : Exit.inBlock id Q .ret a w := h
def subl (fs : List Sl) : List Sl → Prop
  | [] => True
  | s :: l => lk fs s.1 = some s.2.2 ∧ subl fs l
theorem subl_lk : ∀ {fs' : List Sl}, subl fs fs' → ∀ t v, lk fs' t = some v → lk fs t = some v
  | [], _, _, _, h => by simp [lk] at h
  | s :: l, h, t, v, e => by
    by_cases hs : s.1 = t
    · rw [lk_cons_eq hs] at e
      cases hb : s.2.1
      · rw [hb] at e; exact subl_lk h.2 t v (by simpa using e)
      · rw [hb] at e
        rw [← hs, h.1]
        simpa using e
    · rw [lk_cons_ne hs] at e; exact subl_lk h.2 t v e
theorem St.re {fs' : List Sl} (hs : St n w0 fs bs a w) (h : subl fs fs') : St n w0 fs' bs a w :=
  ⟨hs.size, hs.defers, fun t v e => hs.slots t v (subl_lk h t v e), hs.blks, hs.apart, hs.below, hs.frz, hs.fz⟩
theorem St.takeb (hs : St n w0 fs bs a w) (k : Nat) : St n w0 fs (bs.take k) a w := by
  have key : ∀ (i : Nat) (e : Bl), (bs.take k)[i]? = some e → bs[i]? = some e := fun i e h => by
    rw [List.getElem?_take] at h
    split at h
    · exact h
    · cases h
  exact ⟨hs.size, hs.defers, hs.slots, fun i e h => hs.blks i e (key i e h), fun i j e e' hij h h' => hs.apart i j e e' hij (key i e h) (key j e' h'), hs.below, fun p hp => ⟨(hs.frz p hp).1, fun i e h h1 => (hs.frz p hp).2 i e (key i e h) h1⟩, fun i e h h1 => Fz.ok_mono (fun _ _ h => h) (fun g hg _ => ⟨⟨hg.1, fun j b hb hb1 => hg.2.1 j b (key j b hb) hb1, hg.2.2⟩, rfl⟩) (hs.fz i e h h1)⟩
theorem St.setb (hs : St n w0 fs bs a w) (k : Nat) {b : Bool} {g : Nat} {T : TypeId} {cs cs' : List Value} (h : bs[k]? = some (b, g, T, cs)) (hc : cs = cs') : St n w0 fs (bs.set k (b, g, T, cs')) a w := by
  subst hc
  have : bs.set k (b, g, T, cs) = bs := by
    apply List.ext_getElem?
    intro i
    rw [List.getElem?_set]
    split
    · rename_i hk
      subst hk
      rw [h, if_pos (List.getElem?_eq_some_iff.1 h).1]
    · rfl
  rw [this]
  exact hs
theorem St.evb (hs : St n w0 fs bs a w) {x : Operand} {b c : Bool} (h : Go.Proofs.Ytikkhkjndbicgaa.ev fs x = some (.bool b)) (hb : b = c) : a.eval x = .bool c := by rw [hs.ev h, hb]
def rvRun (tmps : Array Value) (r : ResultVar) : Sem Value :=
  match r with
  | .tmp t => pure (tmps.getD t undef)
  | .cell a t => do loadVar t (← asAddr (tmps.getD a undef))
theorem results_rv (fn : Func) (tmps : Array Value) : results fn tmps = (do
    let vs ← fn.results.mapM (rvRun tmps)
    pure (if h : vs.size = 1 then vs[0] else .tuple vs)) := rfl
theorem rv_t (hs : St n w0 fs bs a w) {t : Nat} {v : Value} (h : lk fs t = some v) : (rvRun a.tmps (.tmp t)).run P w = .ok v w := by
  simp [rvRun, hs.slots t v h]
theorem rv_c (hs : St n w0 fs bs a w) (k : Nat) {p T : Nat} {g i : Nat} {U : TypeId} {cs : List Value} {ag : Bool} {z : Nat} {v : Value} (h : lk fs p = some (.pointer (some ⟨g, i, none⟩))) (hb : bs[k]? = some (true, g, U, cs))
    (hu : ∀ w, (isAgg T).run P w = .ok ag w) (hz : ∀ w, (sizeOf T).run P w = .ok z w) (hl : ldv ag z cs i = some v) : (rvRun a.tmps (.cell p T)).run P w = .ok v w := by
  simp [rvRun, hs.slots p _ h, asAddr, Sem.run_bind, Result.andThen, run_ldv (hs.blk hb) hu hz hl]
theorem res1 {fn : Func} {r : ResultVar} {v : Value} (h : fn.results = #[r]) (h1 : (rvRun a.tmps r).run P w = .ok v w) : (results fn a.tmps).run P w = .ok v w := by
  rw [results_rv, h, show (#[r] : Array ResultVar) = [r].toArray from rfl, List.mapM_toArray]
  simp only [List.mapM_cons, List.mapM_nil, map_eq_pure_bind, bind_assoc, pure_bind, Sem.run_bind, h1, Result.andThen_ok, Sem.run_pure]
  rfl
theorem res2 {fn : Func} {r r' : ResultVar} {v v' : Value} (h : fn.results = #[r, r']) (h1 : (rvRun a.tmps r).run P w = .ok v w) (h2 : (rvRun a.tmps r').run P w = .ok v' w) : (results fn a.tmps).run P w = .ok (.tuple #[v, v']) w := by
  rw [results_rv, h, show (#[r, r'] : Array ResultVar) = [r, r'].toArray from rfl, List.mapM_toArray]
  simp only [List.mapM_cons, List.mapM_nil, map_eq_pure_bind, bind_assoc, pure_bind, Sem.run_bind, h1, h2, Result.andThen_ok, Sem.run_pure]
  rfl
theorem res3 {fn : Func} {r r' r'' : ResultVar} {v v' v'' : Value} (h : fn.results = #[r, r', r'']) (h1 : (rvRun a.tmps r).run P w = .ok v w) (h2 : (rvRun a.tmps r').run P w = .ok v' w) (h3 : (rvRun a.tmps r'').run P w = .ok v'' w) :
    (results fn a.tmps).run P w = .ok (.tuple #[v, v', v'']) w := by
  rw [results_rv, h, show (#[r, r', r''] : Array ResultVar) = [r, r', r''].toArray from rfl, List.mapM_toArray]
  simp only [List.mapM_cons, List.mapM_nil, map_eq_pure_bind, bind_assoc, pure_bind, Sem.run_bind, h1, h2, h3, Result.andThen_ok, Sem.run_pure]
  rfl
theorem least {p : Nat → Prop} (h : ∃ m, p m) : ∃ m, p m ∧ ∀ k, p k → m ≤ k := by
  obtain ⟨m, hm⟩ := h
  induction m using Nat.strongRecOn with
  | _ m ih =>
    by_cases hk : ∃ k, k < m ∧ p k
    · obtain ⟨k, hk, hp⟩ := hk; exact ih k hk hp
    · exact ⟨m, hm, fun k hp => Nat.le_of_not_lt fun hlt => hk ⟨k, hlt, hp⟩⟩
theorem wp_loop_m {c : Code} (I : Nat → Act → World → Prop) (h0 : ∃ m, I m a w) (h : ∀ m a w, I m a w → c.wp P (Exit.then (fun a' w' => ∃ m', I m' a' w' ∧ m' < m) Q) a w) : (Code.loop c).wp P Q a w := by
  classical
  refine wp_loop (fun a w => ∃ m, I m a w) (fun a w => if h : ∃ m, I m a w then Classical.choose (least h) else 0) h0 fun a w hI => ?_
  have hm := Classical.choose_spec (least hI)
  refine Code.wp_mono ?_ (h _ a w hm.1)
  intro e a' w' hq
  cases e with
  | normal =>
    obtain ⟨m', hI', hlt⟩ := hq
    have hex : ∃ m, I m a' w' := ⟨m', hI'⟩
    refine ⟨hex, ?_⟩
    rw [dif_pos hex, dif_pos hI]
    exact Nat.lt_of_le_of_lt ((Classical.choose_spec (least hex)).2 m' hI') hlt
  | exit id => exact hq
  | goto l => exact hq
  | ret => exact hq
  | panic ch => exact hq
  | outgrown => exact hq
theorem op_pickT (hs : St n w0 fs bs a w) (m : Option Nat) {c x y : Operand} {v : Value} {d : Nat} (ho : o.op = .pick c x y) (hd : o.dst = some d) (hc : ev fs c = some (.bool true)) (hx : ev fs x = some v) (hok : okf m fs d n = true)
    (h : ∀ a', St n w0 (putf m fs d v) bs a' w → K a' w) : o.wp P a w K Q :=
  op_val hs m hd hok (by unfold execOp; rw [ho]; simp [hs.ev hc, hs.ev hx, asBool, Sem.run_bind, Result.andThen]) h
theorem op_pickF (hs : St n w0 fs bs a w) (m : Option Nat) {c x y : Operand} {v : Value} {d : Nat} (ho : o.op = .pick c x y) (hd : o.dst = some d) (hc : ev fs c = some (.bool false)) (hx : ev fs y = some v) (hok : okf m fs d n = true)
    (h : ∀ a', St n w0 (putf m fs d v) bs a' w → K a' w) : o.wp P a w K Q :=
  op_val hs m hd hok (by unfold execOp; rw [ho]; simp [hs.ev hc, hs.ev hx, asBool, Sem.run_bind, Result.andThen]) h
theorem op_fieldA (hs : St n w0 fs bs a w) (m : Option Nat) {T : TypeId} {x : Operand} {i g j z : Nat} {fl : Field} {fds : Array Field} {d : Nat} (ho : o.op = .fieldAddr T x i) (hd : o.dst = some d) (hx : ev fs x = some (.pointer (some ⟨g, j, none⟩)))
    (hu : P.underlying T = some (.struct fds)) (hf : fds[i]? = some fl) (hz : ∀ w, (sizeOf fl.type).run P w = .ok z w) (hz0 : z ≠ 0) (hok : okf m fs d n = true)
    (h : ∀ a', St n w0 (putf m fs d (.pointer (some ⟨g, j + fl.offset, none⟩))) bs a' w → K a' w) : o.wp P a w K Q :=
  op_val hs m hd hok (by
    unfold execOp
    rw [ho]
    simp [hs.ev hx, Instr.fieldAt, Sem.run_bind, run_underlying hu, Result.andThen, hf, Instr.sureAddr, fieldPlace, hz, hz0, Addr.add_mid]) h
theorem op_idxA (hs : St n w0 fs bs a w) (m : Option Nat) {T E : TypeId} {x y : Operand} {g i z N : Nat} {k : IntKind} {j : Nat} {d : Nat} (ho : o.op = .indexAddr T x y) (hd : o.dst = some d) (hx : ev fs x = some (.pointer (some ⟨g, i, none⟩))) (hy : ev fs y = some (.int k (j : Int)))
    (hu : P.underlying T = some (.array N E)) (hz : ∀ w, (sizeOf E).run P w = .ok z w) (hj : j < N) {off : Nat} (hoff : i + j * z = off) (hok : okf m fs d n = true)
    (h : ∀ a', St n w0 (putf m fs d (.pointer (some ⟨g, off, none⟩))) bs a' w → K a' w) : o.wp P a w K Q :=
  op_val hs m hd hok (by
    subst hoff
    unfold execOp
    rw [ho]
    have h1 : (0 : Int) ≤ (j : Int) ∧ (j : Int) < (N : Int) := ⟨by omega, by omega⟩
    simp [hs.ev hx, hs.ev hy, Instr.indexAt, asIntOf, Sem.run_bind, run_underlying hu, Result.andThen, Instr.sureAddr, hz, h1, hj, Addr.add_mid]) h
end
end Go.Proofs.Ytikkhkjndbicgaa

/- Shorter words for a walk's steps. -/
namespace Go.Proofs.Ytikkhkjndbicgaa
open Go.RowKit
def lkp : List Sl → Nat → Option Value
  | [], _ => none
  | (d, b, v) :: l, t => match Nat.beq d t with
    | true => (match b with
      | true => some v
      | false => lkp l t)
    | false => lkp l t
theorem lkp_lk : ∀ (l : List Sl) (t : Nat), lkp l t = lk l t
  | [], t => rfl
  | (d, b, v) :: l, t => by
    unfold lkp lk
    rw [lkp_lk l t]
    cases Nat.beq d t <;> cases b <;> rfl
def pickF (fs : List Sl) : List Nat → Option (List Sl)
  | [] => some []
  | t :: ks => match lkp fs t, pickF fs ks with
    | some v, some l => some ((t, true, v) :: l)
    | _, _ => none
def forceL {α : Type} : List α → Option (List α)
  | [] => some []
  | x :: l => match forceL l with
    | some l' => some (x :: l')
    | none => none
theorem forceL_eq {α : Type} : ∀ {l l' : List α}, forceL l = some l' → l = l'
  | [], l', h => by simpa [forceL] using h
  | x :: l, l', h => by
    unfold forceL at h
    split at h
    · rename_i l2 h2
      rw [forceL_eq h2]
      simpa using h
    · cases h
theorem pickF_lk {fs : List Sl} : ∀ {ks : List Nat} {l : List Sl}, pickF fs ks = some l → ∀ t v, lk l t = some v → lk fs t = some v
  | [], l, h, t, v, e => by
    obtain rfl : [] = l := by simpa [pickF] using h
    cases e
  | k :: ks, l, h, t, v, e => by
    unfold pickF at h
    split at h
    · rename_i u l2 h1 h2
      obtain rfl : (k, true, u) :: l2 = l := by simpa using h
      by_cases hk : k = t
      · subst hk
        rw [lk_cons_eq rfl] at e
        rw [← lkp_lk, h1]
        simpa using e
      · rw [lk_cons_ne hk] at e
        exact pickF_lk h2 t v e
    · cases h
section
variable {P : Program} {Q : Exit → Act → World → Prop} {K : Act → World → Prop} {a : Act} {w : World} {o : Oper} {n : Nat} {w0 : Bs} {fs : List Sl} {bs : List Bl} {ops : Array Oper} {rest : List Oper}
theorem St.nf (hs : St n w0 fs bs a w) (W : World) (Z X : Nat → Prop) (ks : List Nat) {S0 S' : List (Bool × Fz)} {fs' : List Sl} {bs' : List Bl} (hw : w0 = ⟨W, [], S0, Z, X⟩) (hS : forceL S0 = some S') (h : pickF fs ks = some fs') (hb : forceL bs = some bs') : St n ⟨W, [], S', Z, X⟩ fs' bs' a w := by
  subst hw
  obtain rfl := forceL_eq hS
  obtain rfl := forceL_eq hb
  exact ⟨hs.size, hs.defers, fun t v e => hs.slots t v (pickF_lk h t v e), hs.blks, hs.apart, hs.below, hs.frz, hs.fz⟩
theorem St.n0 (hs : St n w0 fs bs a w) (ks : List Nat) {fs' : List Sl} {bs' : List Bl} (h : pickF fs ks = some fs') (hb : forceL bs = some bs') : St n w0 fs' bs' a w := by
  obtain rfl := forceL_eq hb
  exact ⟨hs.size, hs.defers, fun t v e => hs.slots t v (pickF_lk h t v e), hs.blks, hs.apart, hs.below, hs.frz, hs.fz⟩
theorem stp (h : o.wp P a w (wpList P ops Q rest) Q) (hg : o.guard = none := by rfl) : wpList P ops Q (o :: rest) a w := lstep (wpO_plain hg h)
theorem mvv (hs : St n w0 fs bs a w) {x : Operand} {v : Value} {d : Nat} (ho : o.op = .move x) (hd : o.dst = some d) (hx : ev fs x = some v) (h : ∀ a', St n w0 (putf none fs d v) bs a' w → wpList P ops Q rest a' w) (hok : okf none fs d n = true := by rfl) (hg : o.guard = none := by rfl) : wpList P ops Q (o :: rest) a w :=
  stp (op_move hs none ho hd hx hok h) hg
theorem asg (hs : St n w0 fs bs a w) {x : Operand} {v : Value} {d : Nat} (ho : o.op = .assign x) (hd : o.dst = some d) (hx : ev fs x = some v) (h : ∀ a', St n w0 (putf none fs d v) bs a' w → wpList P ops Q rest a' w) (hok : okf none fs d n = true := by rfl) (hg : o.guard = none := by rfl) : wpList P ops Q (o :: rest) a w :=
  stp (op_assign hs none ho hd hx hok h) hg
theorem bnn (hs : St n w0 fs bs a w) {b : BinOp} {T U : TypeId} {x y : Operand} {vx vy : Value} (v : Value) {d : Nat} (ho : o.op = .binOp b T x y U) (hd : o.dst = some d) (hx : ev fs x = some vx) (hy : ev fs y = some vy) (hr : ∀ w, (binOp b T vx vy).run P w = .ok v w)
    (h : ∀ a', St n w0 (putf none fs d v) bs a' w → wpList P ops Q rest a' w) (hq : ∀ w, (eqGuard b T x y vx vy).run P w = .ok () w := by exact fun _ => rfl) (hok : okf none fs d n = true := by rfl) (hg : o.guard = none := by rfl) : wpList P ops Q (o :: rest) a w :=
  stp (op_bin hs none ho hd hx hy hq hr hok h) hg
theorem xtr (hs : St n w0 fs bs a w) (m : Option Nat) {x : Operand} {vs : Array Value} {i : Nat} {v : Value} {d : Nat} (ho : o.op = .extract x i) (hd : o.dst = some d) (hx : ev fs x = some (.tuple vs)) (hv : vs.toList[i]? = some v) (hok : okf m fs d n = true)
    (h : ∀ a', St n w0 (putf m fs d v) bs a' w → K a' w) : o.wp P a w K Q :=
  op_extract hs m ho hd hx (by simpa using hv) hok h
theorem pln (h : o.wp P a w K Q) (hg : o.guard = none := by rfl) : wpO P ops Q o K a w := wpO_plain hg h
theorem obn (hs : St n w0 fs bs a w) (i : Nat) {b : BinOp} {T U : TypeId} {x y : Operand} {vx vy : Value} (v : Value) {d : Nat} (ho : o.op = .binOp b T x y U) (hd : o.dst = some d) (hx : ev fs x = some vx) (hy : ev fs y = some vy) (hr : ∀ w, (binOp b T vx vy).run P w = .ok v w)
    (h : ∀ a', St n w0 (putf (some i) fs d v) bs a' w → K a' w) (hok : okf (some i) fs d n = true := by rfl) (hq : ∀ w, (eqGuard b T x y vx vy).run P w = .ok () w := by exact fun _ => rfl) : o.wp P a w K Q :=
  op_bin hs (some i) ho hd hx hy hq hr hok h
theorem omv (hs : St n w0 fs bs a w) (i : Nat) {x : Operand} {v : Value} {d : Nat} (ho : o.op = .move x) (hd : o.dst = some d) (hx : ev fs x = some v) (h : ∀ a', St n w0 (putf (some i) fs d v) bs a' w → K a' w) (hok : okf (some i) fs d n = true := by rfl) : o.wp P a w K Q := op_move hs (some i) ho hd hx hok h
theorem oas (hs : St n w0 fs bs a w) (i : Nat) {x : Operand} {v : Value} {d : Nat} (ho : o.op = .assign x) (hd : o.dst = some d) (hx : ev fs x = some v) (h : ∀ a', St n w0 (putf (some i) fs d v) bs a' w → K a' w) (hok : okf (some i) fs d n = true := by rfl) : o.wp P a w K Q := op_assign hs (some i) ho hd hx hok h
theorem oldd (hs : St n w0 fs bs a w) (j : Nat) (k : Nat) (v : Value) {t : TypeId} {ag : Bool} {z : Nat} (hu : ∀ w, (isAgg t).run P w = .ok ag w) (hz : ∀ w, (sizeOf t).run P w = .ok z w) {x : Operand} {g i : Nat} {T : TypeId} {cs : List Value} {d : Nat} (ho : o.op = .load t x) (hd : o.dst = some d)
    (hx : ev fs x = some (.pointer (some ⟨g, i, none⟩))) (hb : bs[k]? = some (true, g, T, cs)) (hl : ldv ag z cs i = some v)
    (h : ∀ a', St n w0 (putf (some j) fs d v) bs a' w → K a' w) (hok : okf (some j) fs d n = true := by rfl) : o.wp P a w K Q :=
  op_load hs (some j) k ho hd hx hb hu hz hl hok h
theorem stoo (hs : St n w0 fs bs a w) (k : Nat) (vs : List Value) {t : TypeId} {x y : Operand} {g i z : Nat} {T : TypeId} {cs : List Value} {v : Value} (hz : ∀ w, (sizeOf t).run P w = .ok z w) (ho : o.op = .store t x y) (hd : o.dst = none)
    (hx : ev fs x = some (.pointer (some ⟨g, i, none⟩))) (hy : ev fs y = some v) (hb : bs[k]? = some (true, g, T, cs)) (hv : v.cells = vs.toArray) (hvz : vs.length = z) (h1 : vs.all (·.oneCell') = true)
    (hle : Nat.ble (i + z) cs.length = true) {cs' : List Value} (hw : wr cs i vs = cs') (h : ∀ w', St n w0 fs (bs.set k (true, g, T, cs')) a w' → K a w') : o.wp P a w K Q :=
  op_store hs k ho hd hx hy hb hz hv hvz h1 hle hw h
theorem ldd (hs : St n w0 fs bs a w) (k : Nat) (v : Value) {t : TypeId} {ag : Bool} {z : Nat} (hu : ∀ w, (isAgg t).run P w = .ok ag w) (hz : ∀ w, (sizeOf t).run P w = .ok z w) {x : Operand} {g i : Nat} {T : TypeId} {cs : List Value} {d : Nat} (ho : o.op = .load t x) (hd : o.dst = some d)
    (hx : ev fs x = some (.pointer (some ⟨g, i, none⟩))) (hb : bs[k]? = some (true, g, T, cs)) (hl : ldv ag z cs i = some v)
    (h : ∀ a', St n w0 (putf none fs d v) bs a' w → wpList P ops Q rest a' w) (hok : okf none fs d n = true := by rfl) (hg : o.guard = none := by rfl) : wpList P ops Q (o :: rest) a w :=
  stp (op_load hs none k ho hd hx hb hu hz hl hok h) hg
def rgn : Nat → Nat → List Nat
  | _, 0 => []
  | i, k + 1 => i :: rgn (i + 1) k
end
abbrev ptA (g i : Nat) : Value := .pointer (some ⟨g, i, none⟩)
abbrev nu8 (x : Nat) : Value := .int .u8 (x : Int)
abbrev nu32 (x : Nat) : Value := .int .u32 (x : Int)
abbrev nu64 (x : Nat) : Value := .int .u64 (x : Int)
abbrev ni64 (x : Nat) : Value := .int .i64 (x : Int)
end Go.Proofs.Ytikkhkjndbicgaa

/- Whole numbers in the walk: each operation on integers that are natural numbers; rows of integers as tables; slices that the call made. -/
namespace Go.Proofs.Ytikkhkjndbicgaa
open Go.RowKit
def lid : IntKind → Nat
  | .i8 => 128 | .i16 => 32768 | .i32 => 2147483648 | .i64 => 9223372036854775808
  | .u8 => 256 | .u16 => 65536 | .u32 => 4294967296 | .u64 => 18446744073709551616
theorem wrapN {k : IntKind} {n : Nat} (h : n < lid k) : k.wrap (n : Int) = n := by
  cases k <;> simp only [lid] at h <;> simp [IntKind.wrap, IntKind.bits, IntKind.signed] <;> omega
def usg : IntKind → Bool
  | .u8 | .u16 | .u32 | .u64 => true
  | _ => false
theorem wrapM {k : IntKind} (hu : usg k = true) (n : Nat) : k.wrap (n : Int) = ((n % lid k : Nat) : Int) := by
  cases k <;> simp [usg] at hu <;> simp [IntKind.wrap, IntKind.bits, IntKind.signed, lid]
theorem lid_bits {k : IntKind} (hu : usg k = true) : lid k = 2 ^ k.bits := by cases k <;> simp [usg] at hu <;> rfl
section
variable {P : Program} {k : IntKind} {T : TypeId} {x y z : Nat}
theorem bin_addN (h : x + y = z) (hb : z < lid k) (w : World) : (binOp .add T (.int k (x : Int)) (.int k (y : Int))).run P w = .ok (.int k (z : Int)) w := by
  have : (x : Int) + y = (z : Int) := by omega
  simp [binOp, Op.intArith, this, wrapN hb]
theorem bin_subN (h : x = y + z) (hb : z < lid k) (w : World) : (binOp .sub T (.int k (x : Int)) (.int k (y : Int))).run P w = .ok (.int k (z : Int)) w := by
  have : (x : Int) - y = (z : Int) := by omega
  simp [binOp, Op.intArith, this, wrapN hb]
theorem bin_mulN (h : x * y = z) (hb : z < lid k) (w : World) : (binOp .mul T (.int k (x : Int)) (.int k (y : Int))).run P w = .ok (.int k (z : Int)) w := by
  have : (x : Int) * y = (z : Int) := by rw [← h]; simp
  simp [binOp, Op.intArith, this, wrapN hb]
theorem bin_addM (hu : usg k = true) (h : (x + y) % lid k = z) (w : World) : (binOp .add T (.int k (x : Int)) (.int k (y : Int))).run P w = .ok (.int k (z : Int)) w := by
  have : (x : Int) + y = ((x + y : Nat) : Int) := by simp
  simp only [binOp, Op.intArith, this, wrapM hu, h]
  simp
theorem bin_quoN (h : x / y = z) (hy : y ≠ 0) (hx : x < lid k) (w : World) : (binOp .quo T (.int k (x : Int)) (.int k (y : Int))).run P w = .ok (.int k (z : Int)) w := by
  have e : ((x : Int).tdiv y) = (z : Int) := by rw [← h]; rfl
  have hz : z < lid k := by rw [← h]; exact Nat.lt_of_le_of_lt (Nat.div_le_self _ _) hx
  simp [binOp, Op.intDiv, hy, e, wrapN hz]
theorem bin_remN (h : x % y = z) (hy : y ≠ 0) (w : World) : (binOp .rem T (.int k (x : Int)) (.int k (y : Int))).run P w = .ok (.int k (z : Int)) w := by
  have e : ((x : Int).tmod y) = (z : Int) := by rw [← h]; rfl
  simp [binOp, Op.intDiv, hy, e]
theorem bin_shrN {yk : IntKind} (h : x / 2 ^ y = z) (hx : x < 2 ^ k.bits) (w : World) : (binOp .shr T (.int k (x : Int)) (.int yk (y : Int))).run P w = .ok (.int k (z : Int)) w := by
  have e : ((x : Int).fdiv (2 ^ (min y k.bits))) = (z : Int) := by
    have e2 : x / 2 ^ (min y k.bits) = z := by
      rcases Nat.le_total y k.bits with hle | hle
      · rw [Nat.min_eq_left hle, h]
      · rw [Nat.min_eq_right hle, Nat.div_eq_of_lt hx, ← h, Nat.div_eq_of_lt (Nat.lt_of_lt_of_le hx (Nat.pow_le_pow_right (by omega) hle))]
    rw [← e2, Int.fdiv_eq_ediv_of_nonneg _ (by exact_mod_cast Nat.zero_le _)]
    simp
  have hn : ¬ ((y : Int) < 0) := by omega
  simp [binOp, Op.shift, hn, e]
theorem bin_shlM {yk : IntKind} (hu : usg k = true) (h : x * 2 ^ y % lid k = z) (w : World) : (binOp .shl T (.int k (x : Int)) (.int yk (y : Int))).run P w = .ok (.int k (z : Int)) w := by
  have e : k.wrap ((x : Int) * 2 ^ (min y k.bits)) = (z : Int) := by
    have e1 : (x : Int) * 2 ^ (min y k.bits) = ((x * 2 ^ (min y k.bits) : Nat) : Int) := by simp
    rw [e1, wrapM hu, ← h]
    congr 1
    rcases Nat.le_total y k.bits with hle | hle
    · rw [Nat.min_eq_left hle]
    · obtain ⟨d, rfl⟩ : ∃ d, y = k.bits + d := ⟨y - k.bits, by omega⟩
      rw [Nat.min_eq_right hle, lid_bits hu, Nat.pow_add, ← Nat.mul_assoc, Nat.mul_right_comm, Nat.mul_mod_left, Nat.mul_mod_left]
  have hn : ¬ ((y : Int) < 0) := by omega
  simp [binOp, Op.shift, hn, e]
theorem ofInt_nat (n : Nat) (b : Nat) (h : n < 2 ^ b) : (BitVec.ofInt b (n : Int)).toNat = n := by
  rw [BitVec.ofInt_natCast, BitVec.toNat_ofNat, Nat.mod_eq_of_lt h]
theorem bin_andN (h : x &&& y = z) (hx : x < 2 ^ k.bits) (hy : y < 2 ^ k.bits) (hb : z < lid k) (w : World) : (binOp .and T (.int k (x : Int)) (.int k (y : Int))).run P w = .ok (.int k (z : Int)) w := by
  have e : ((BitVec.ofInt k.bits (x : Int)) &&& (BitVec.ofInt k.bits (y : Int))).toNat = z := by
    rw [BitVec.toNat_and, ofInt_nat _ _ hx, ofInt_nat _ _ hy, h]
  simp only [binOp, Op.intBits, e, wrapN hb]
  simp
theorem bin_orN (h : x ||| y = z) (hx : x < 2 ^ k.bits) (hy : y < 2 ^ k.bits) (hb : z < lid k) (w : World) : (binOp .or T (.int k (x : Int)) (.int k (y : Int))).run P w = .ok (.int k (z : Int)) w := by
  have e : ((BitVec.ofInt k.bits (x : Int)) ||| (BitVec.ofInt k.bits (y : Int))).toNat = z := by
    rw [BitVec.toNat_or, ofInt_nat _ _ hx, ofInt_nat _ _ hy, h]
  simp only [binOp, Op.intBits, e, wrapN hb]
  simp
theorem bin_lssN (w : World) : (binOp .lss T (.int k (x : Int)) (.int k (y : Int))).run P w = .ok (.bool (decide (x < y))) w := by simp [binOp, Op.intCmp]
theorem bin_gtrN (w : World) : (binOp .gtr T (.int k (x : Int)) (.int k (y : Int))).run P w = .ok (.bool (decide (y < x))) w := by simp [binOp, Op.intCmp]
theorem bin_geqN (w : World) : (binOp .geq T (.int k (x : Int)) (.int k (y : Int))).run P w = .ok (.bool (decide (y ≤ x))) w := by simp [binOp, Op.intCmp]
theorem bin_eqlN (w : World) : (binOp .eql T (.int k (x : Int)) (.int k (y : Int))).run P w = .ok (.bool (decide (x = y))) w := by
  have : ((x : Int) == (y : Int)) = decide (x = y) := by rw [Bool.eq_iff_iff]; simp only [beq_iff_eq, decide_eq_true_eq]; omega
  simp [binOp, Op.intCmp, this]
theorem bin_neqN (w : World) : (binOp .neq T (.int k (x : Int)) (.int k (y : Int))).run P w = .ok (.bool (decide (x ≠ y))) w := by
  have : ((x : Int) != (y : Int)) = decide (x ≠ y) := by rw [Bool.eq_iff_iff]; simp only [bne_iff_ne, decide_eq_true_eq]; omega
  simp [binOp, Op.intCmp, this]
theorem dT {p : Prop} [Decidable p] {r : Result Value} {w : World} (h : p) (hr : r = .ok (.bool (decide p)) w) : r = .ok (.bool true) w := by rw [hr, decide_eq_true h]
theorem dF {p : Prop} [Decidable p] {r : Result Value} {w : World} (h : ¬ p) (hr : r = .ok (.bool (decide p)) w) : r = .ok (.bool false) w := by rw [hr, decide_eq_false h]
theorem conv_N {S D : TypeId} {k' : IntKind} (hs : P.underlying S = some (.int k)) (hd : P.underlying D = some (.int k')) (hx : x < lid k') (w : World) : (convert S D (.int k (x : Int))).run P w = .ok (.int k' (x : Int)) w := by
  simp [convert, run_underlying hs, run_underlying hd, Sem.run_bind, Result.andThen, Conv.intToInt, wrapN hx]
theorem conv_M {S D : TypeId} {k' : IntKind} (hu : usg k' = true) (hs : P.underlying S = some (.int k)) (hd : P.underlying D = some (.int k')) (h : x % lid k' = z) (w : World) : (convert S D (.int k (x : Int))).run P w = .ok (.int k' (z : Int)) w := by
  simp [convert, run_underlying hs, run_underlying hd, Sem.run_bind, Result.andThen, Conv.intToInt, wrapM hu, h]
end
def tab (k : IntKind) (n : Nat) (f : Nat → Nat) : List Value := (List.range n).map fun i => .int k (f i : Int)
theorem tab_length (k : IntKind) (n : Nat) (f : Nat → Nat) : (tab k n f).length = n := by simp [tab]
theorem tab_get {k : IntKind} {n : Nat} {f : Nat → Nat} {j : Nat} (h : j < n) : (tab k n f)[j]? = some (.int k (f j : Int)) := by simp [tab, h]
theorem tabs_get {k : IntKind} {n : Nat} {f : Nat → Nat} {sp : List Value} {j : Nat} (h : j < n) : (tab k n f ++ sp)[j]? = some (.int k (f j : Int)) := by
  rw [List.getElem?_append_left (by rw [tab_length]; exact h), tab_get h]
def upn (f : Nat → Nat) (j x : Nat) (i : Nat) : Nat := if i = j then x else f i
theorem tab_set {k : IntKind} {n : Nat} {f : Nat → Nat} {j x : Nat} : (tab k n f).set j (.int k (x : Int)) = tab k n (upn f j x) := by
  apply List.ext_getElem?
  intro i
  rw [List.getElem?_set]
  split
  · rename_i hji
    subst hji
    split
    · rename_i hlt; rw [tab_get (by simpa [tab_length] using hlt)]; simp [upn]
    · rename_i hlt; rw [List.getElem?_eq_none (by simpa [tab_length] using hlt)]
  · rename_i hji
    by_cases hi : i < n
    · rw [tab_get hi, tab_get hi]; simp [upn, show ¬ i = j from fun h => hji h.symm]
    · rw [List.getElem?_eq_none (by simpa [tab_length] using hi), List.getElem?_eq_none (by simpa [tab_length] using hi)]
theorem tabs_set {k : IntKind} {n : Nat} {f : Nat → Nat} {sp : List Value} {j x : Nat} (h : j < n) : (tab k n f ++ sp).set j (.int k (x : Int)) = tab k n (upn f j x) ++ sp := by
  rw [List.set_append_left _ _ (by rw [tab_length]; exact h), tab_set]
theorem tab_le {k : IntKind} {n : Nat} {f : Nat → Nat} {j : Nat} (h : j < n) : Nat.ble (j + 1) (tab k n f).length = true := Nat.ble_eq_true_of_le (by rw [tab_length]; exact h)
theorem tabs_le {k : IntKind} {n : Nat} {f : Nat → Nat} {sp : List Value} {j : Nat} (h : j < n) : Nat.ble (j + 1) (tab k n f ++ sp).length = true := Nat.ble_eq_true_of_le (by rw [List.length_append, tab_length]; omega)
theorem tab_one (k : IntKind) (n : Nat) (f : Nat → Nat) : (tab k n f).all (·.oneCell') = true := by simp [tab, Value.oneCell']
section
variable {P : Program} {Q : Exit → Act → World → Prop} {K : Act → World → Prop} {a : Act} {w : World} {o : Oper} {n : Nat} {w0 : Bs} {fs : List Sl} {bs : List Bl}
theorem op_idxS (hs : St n w0 fs bs a w) (m : Option Nat) {T E : TypeId} {x y : Operand} {g i z N c : Nat} {k : IntKind} {j : Nat} {d : Nat} (ho : o.op = .indexAddr T x y) (hd : o.dst = some d) (hx : ev fs x = some (.slice (some ⟨g, i, none⟩) N c)) (hy : ev fs y = some (.int k (j : Int)))
    (hu : P.underlying T = some (.slice E)) (hz : ∀ w, (sizeOf E).run P w = .ok z w) (hj : j < N) {off : Nat} (hoff : i + j * z = off) (hok : okf m fs d n = true)
    (h : ∀ a', St n w0 (putf m fs d (.pointer (some ⟨g, off, none⟩))) bs a' w → K a' w) : o.wp P a w K Q :=
  op_val hs m hd hok (by
    subst hoff
    unfold execOp
    rw [ho]
    have h1 : (0 : Int) ≤ (j : Int) ∧ (j : Int) < (N : Int) := ⟨by omega, by omega⟩
    simp [hs.ev hx, hs.ev hy, Instr.indexAt, asIntOf, Sem.run_bind, run_underlying hu, Result.andThen, hz, h1, hj, Addr.add_mid]) h
theorem op_made (hs : St n w0 fs bs a w) (m mb : Option Nat) {v : Nat → Value} {T : TypeId} {cs : List Value} {d : Nat} (hd : o.dst = some d) (hr : (execOp a.eval o).run P w = .ok (.value (v w.heap.size)) (w.alloc (.cells cs.toArray T)))
    (hokb : okb mb bs = true) (hok : okf m fs d n = true) (h : ∀ g a' w', St n w0 (putf m fs d (v g)) (putb mb bs (true, g, T, cs)) a' w' → K a' w') : o.wp P a w K Q := by
  unfold Oper.wp
  rw [hr, Oper.upon_value, hd]
  exact h _ _ _ ((hs.add hokb ((Below.refl _ _).alloc (Nat.le_refl _) _) (Nat.le_refl _) (heap_alloc_at w _)).put hok _)
theorem op_makeSlice (hs : St n w0 fs bs a w) (m mb : Option Nat) {T E : TypeId} {x y : Operand} {ti : TypeInfo} {z : Value} {l c : Nat} {kl kc : IntKind} {cs : List Value} {d : Nat} (ho : o.op = .makeSlice T x y) (hd : o.dst = some d) (hx : ev fs x = some (.int kl (l : Int))) (hy : ev fs y = some (.int kc (c : Int)))
    (hu : P.underlying T = some (.slice E)) (hi : P.info? E = some ti) (hz : ti.zero = some z) (hlc : l ≤ c) (hc16 : c * ti.size ≤ 16777216) (hby : ti.bytes * c ≤ 281474976710656) (hc63 : c ≤ 9223372036854775807) (hcs : madeCells z.cells (c * ti.size) = cs.toArray)
    (hokb : okb mb bs = true) (hok : okf m fs d n = true) (h : ∀ g a' w', St n w0 (putf m fs d (.slice (some ⟨g, 0, none⟩) l c)) (putb mb bs (true, g, E, cs)) a' w' → K a' w') : o.wp P a w K Q :=
  op_made hs m mb (v := fun g => .slice (some ⟨g, 0, none⟩) l c) hd (by
    have := run_makeSlice (P := P) w T E ti z hu hi hz kl kc l c (by omega) (by omega) (by rw [Int.toNat_natCast]; exact hc16) (by rw [← Int.natCast_mul]; omega) (by omega)
    unfold execOp
    rw [ho]
    simp only [hs.ev hx, hs.ev hy, Sem.run_bind, this, Result.andThen_ok, Int.toNat_natCast, hcs]
    rfl) hokb hok h
theorem op_buildSlice (hs : St n w0 fs bs a w) (m mb : Option Nat) {T E : TypeId} {ps : Array (Nat × Operand)} {l : Nat} {qs : List (Nat × Value)} {cs : List Value} {d : Nat} (ho : o.op = .buildSlice T l ps) (hd : o.dst = some d)
    (hx : evs fs (ps.toList.map (·.2)) = some (qs.map (·.2))) (hi : ps.toList.map (·.1) = qs.map (·.1))
    (hr : ∀ w, (Instr.buildSlice T l qs.toArray).run P w = .ok (.slice (some ⟨w.heap.size, 0, none⟩) l l) (w.alloc (.cells cs.toArray E)))
    (hokb : okb mb bs = true) (hok : okf m fs d n = true) (h : ∀ g a' w', St n w0 (putf m fs d (.slice (some ⟨g, 0, none⟩) l l)) (putb mb bs (true, g, E, cs)) a' w' → K a' w') : o.wp P a w K Q := by
  have hq : ps.map (fun (p : Nat × Operand) => (p.1, a.eval p.2)) = qs.toArray := by
    have h1 := hs.evs hx
    apply Array.ext'
    simp only [Array.toList_map]
    rw [List.map_map] at h1
    apply List.ext_getElem?
    intro j
    have e1 := congrArg (·[j]?) h1
    have e2 := congrArg (·[j]?) hi
    simp only [List.getElem?_map] at e1 e2 ⊢
    cases hp : ps.toList[j]? with
    | none =>
      rw [hp] at e1
      cases hq : qs[j]? with
      | none => rfl
      | some q => rw [hq] at e1; simp at e1
    | some p =>
      rw [hp] at e1 e2
      cases hq : qs[j]? with
      | none => rw [hq] at e1; simp at e1
      | some q =>
        rw [hq] at e1 e2
        simp at e1 e2
        simp [e1, e2]
  refine op_made hs m mb (v := fun g => .slice (some ⟨g, 0, none⟩) l l) hd ?_ hokb hok h
  unfold execOp
  rw [ho]
  simp only [hq]
  rw [Sem.run_bind, hr]
  rfl
def Made (w : World) (T : TypeId) (v : Nat → Nat → Value) (xs : List Value) (e : Ending) (w' : World) : Prop :=
  ∃ g sp, e = .returned (v g (xs ++ sp).length) ∧ w.heap.size ≤ g ∧ w'.heap[g]? = some (.cells (xs ++ sp).toArray T (0, 0)) ∧ Below w.heap.size w w'
theorem St.news (hs : St n w0 fs bs a w) {k g i : Nat} {T : TypeId} {cs : List Value} (hb : bs[k]? = some (true, g, T, cs)) (l : Nat) : ∀ (j : Nat) (u : Value), ((cs.drop i).take l)[j]? = some u → w.cell? ((⟨g, i, none⟩ : Addr).add j) = some u := by
  intro j u hu
  rw [Addr.add_mid, cell_of_row w g _ _ T _ (hs.blk hb)]
  rw [List.getElem?_take] at hu
  split at hu
  · rw [List.getElem?_drop] at hu; simpa using hu
  · cases hu
end
end Go.Proofs.Ytikkhkjndbicgaa

/- Slices: literals, appends, lengths, rows that were there ahead of the call, arrays as tables. -/
namespace Go.Proofs.Ytikkhkjndbicgaa
open Go.RowKit
def Inf (P : Program) (E : TypeId) (z : Value) (size bytes : Nat) : Prop := ∃ i, P.info? E = some i ∧ i.zero = some z ∧ i.size = size ∧ i.bytes = bytes
theorem inf_of {P : Program} {E : TypeId} {z : Value} {size bytes : Nat} (h : (P.info? E).map (fun i => (i.zero, i.size, i.bytes)) = some (some z, size, bytes)) : Inf P E z size bytes := by
  cases hi : P.info? E with
  | none => rw [hi] at h; cases h
  | some i =>
    rw [hi] at h
    simp only [Option.map_some, Option.some.injEq, Prod.mk.injEq] at h
    exact ⟨i, hi, h.1, h.2.1, h.2.2⟩
section
variable {P : Program} {Q : Exit → Act → World → Prop} {K : Act → World → Prop} {a : Act} {w : World} {o : Oper} {n : Nat} {w0 : Bs} {fs : List Sl} {bs : List Bl}
theorem op_bs0 (hs : St n w0 fs bs a w) (m mb : Option Nat) {T E : TypeId} {z : Value} {size bytes : Nat} {d : Nat} (ho : o.op = .buildSlice T 0 #[]) (hd : o.dst = some d) (hu : P.underlying T = some (.slice E)) (hi : Inf P E z size bytes)
    (hokb : okb mb bs = true) (hok : okf m fs d n = true) (h : ∀ g a' w', St n w0 (putf m fs d (.slice (some ⟨g, 0, none⟩) 0 0)) (putb mb bs (true, g, E, [])) a' w' → K a' w') : o.wp P a w K Q := by
  obtain ⟨i, hi, _, _, _⟩ := hi
  refine op_made hs m mb (v := fun g => .slice (some ⟨g, 0, none⟩) 0 0) hd ?_ hokb hok h
  unfold execOp
  rw [ho]
  simp [Instr.buildSlice, run_underlying hu, sizeOf, typeInfo, hi, newRow, Instr.fill, Sem.run_bind, Result.andThen, show Array.range 0 = #[] from Array.ext' (by simp)]
theorem op_makeS (hs : St n w0 fs bs a w) (m mb : Option Nat) {T E : TypeId} {x y : Operand} {κ : IntKind} {bytes l : Nat} {kl kc : IntKind} {d : Nat} (ho : o.op = .makeSlice T x y) (hd : o.dst = some d) (hx : ev fs x = some (.int kl (l : Int))) (hy : ev fs y = some (.int kc (l : Int)))
    (hu : P.underlying T = some (.slice E)) (hi : Inf P E (.int κ 0) 1 bytes) (hl : l ≤ 1000000) (hby : bytes ≤ 8)
    (hokb : okb mb bs = true) (hok : okf m fs d n = true) (h : ∀ g a' w', St n w0 (putf m fs d (.slice (some ⟨g, 0, none⟩) l l)) (putb mb bs (true, g, E, tab κ l fun _ => 0)) a' w' → K a' w') : o.wp P a w K Q := by
  obtain ⟨i, hi, hz, hs1, hb1⟩ := hi
  refine op_makeSlice hs m mb (cs := tab κ l fun _ => 0) ho hd hx hy hu hi hz (Nat.le_refl _) ?_ ?_ ?_ ?_ hokb hok h
  · rw [hs1]; omega
  · rw [hb1]
    have : bytes * l ≤ 8 * 1000000 := Nat.mul_le_mul hby hl
    omega
  · omega
  · rw [hs1]
    apply Array.ext_getElem?
    intro j
    simp only [madeCells, tab]
    by_cases hj : j < l
    · have h1 : j % 1 = 0 := Nat.mod_one j
      simp [hj, Value.cells, h1]
    · simp [hj, Value.cells]
theorem blt_len {ty T E : TypeId} {ad : Option Addr} {l c : Nat} (hu : P.underlying T = some (.slice E)) : ∀ cs w, (builtin .len #[T] ty cs [Value.slice ad l c].toArray).run P w = .ok (.value (.int .i64 (l : Int))) w := by
  intro cs w
  simp [builtin, Builtin.len_, run_underlying hu, Sem.run_bind, Result.andThen, goInt]
section
variable {T : TypeId} {k : IntKind} {x y : Int}
theorem bin_lssI (w : World) : (binOp .lss T (.int k x) (.int k y)).run P w = .ok (.bool (decide (x < y))) w := by simp [binOp, Op.intCmp]
theorem bin_leqI (w : World) : (binOp .leq T (.int k x) (.int k y)).run P w = .ok (.bool (decide (x ≤ y))) w := by simp [binOp, Op.intCmp]
theorem bin_gtrI (w : World) : (binOp .gtr T (.int k x) (.int k y)).run P w = .ok (.bool (decide (y < x))) w := by simp [binOp, Op.intCmp]
theorem bin_geqI (w : World) : (binOp .geq T (.int k x) (.int k y)).run P w = .ok (.bool (decide (y ≤ x))) w := by simp [binOp, Op.intCmp]
theorem bin_eqlI (w : World) : (binOp .eql T (.int k x) (.int k y)).run P w = .ok (.bool (decide (x = y))) w := by
  have : (x == y) = decide (x = y) := by rw [Bool.eq_iff_iff]; simp
  simp [binOp, Op.intCmp, this]
theorem bin_neqI (w : World) : (binOp .neq T (.int k x) (.int k y)).run P w = .ok (.bool (decide (x ≠ y))) w := by
  have : (x != y) = decide (x ≠ y) := by rw [Bool.eq_iff_iff]; simp
  simp [binOp, Op.intCmp, this]
end
theorem blt_maxI {ts : Array TypeId} {ty : TypeId} {k : IntKind} {x y : Int} : ∀ cs w, (builtin .max ts ty cs [Value.int k x, Value.int k y].toArray).run P w = .ok (.value (.int k (max x y))) w := by
  intro cs w
  have : (if y > x then y else x) = max x y := by rw [Int.max_def]; split <;> split <;> omega
  simp [builtin, Builtin.max_, Builtin.max2, Sem.run_bind, Result.andThen, this]
theorem blt_minI {ts : Array TypeId} {ty : TypeId} {k : IntKind} {x y : Int} : ∀ cs w, (builtin .min ts ty cs [Value.int k x, Value.int k y].toArray).run P w = .ok (.value (.int k (min x y))) w := by
  intro cs w
  have : (if y < x then y else x) = min x y := by rw [Int.min_def]; split <;> split <;> omega
  simp [builtin, Builtin.min_, Builtin.min2, Sem.run_bind, Result.andThen, this]
theorem run_slA {o : Oper} {a : Act} {T E : TypeId} {x : Operand} {g N z : Nat} (ho : o.op = .slice T x none none none) (hx : a.eval x = .pointer (some ⟨g, 0, none⟩)) (ha : P.underlying T = some (.array N E)) (hz : ∀ w, (sizeOf E).run P w = .ok z w) :
    (execOp a.eval o).run P w = .ok (.value (.slice (some ⟨g, 0, none⟩) N N)) w := by
  unfold execOp
  rw [ho]
  have e : (⟨g, 0, none⟩ : Addr).add 0 = ⟨g, 0, none⟩ := by rw [Addr.add_mid]
  simp [hx, Instr.sliceAt, Sem.run_bind, run_underlying ha, Result.andThen, Instr.sureAddr, Instr.sliceBounds, hz, e]
end
abbrev At (κ : IntKind) (n : Nat) (f : Nat → Nat) : Value := .agg (tab κ n f).toArray
theorem ldv_tab {κ : IntKind} {n : Nat} {f : Nat → Nat} : ldv true n (tab κ n f) 0 = some (At κ n f) := by
  unfold ldv
  rw [show Nat.ble (0 + n) (tab κ n f).length = true from Nat.ble_eq_true_of_le (by rw [tab_length]; omega)]
  simp only [cond_true, List.drop_zero]
  rw [List.take_of_length_le (by rw [tab_length]; exact Nat.le_refl _)]
theorem idx_at {P : Program} {T E : TypeId} {κ k : IntKind} {N j : Nat} {f : Nat → Nat} (hu : P.underlying T = some (.array N E)) (ha : ∀ w, (isAgg E).run P w = .ok false w) (hz : ∀ w, (sizeOf E).run P w = .ok 1 w) (hj : j < N) (w : World) :
    (Instr.index T (At κ N f) (.int k (j : Int))).run P w = .ok (.int κ (f j : Int)) w := by
  have h1 : (0 : Int) ≤ (j : Int) ∧ (j : Int) < (N : Int) := ⟨by omega, by omega⟩
  have h2 : (tab κ N f)[j]? = some (.int κ (f j : Int)) := tab_get (k := κ) hj
  simp [Instr.index, asIntOf, Sem.run_bind, run_underlying hu, Result.andThen, hz, h1, hj, part, ha, h2]
theorem wr_get : ∀ (vs cs : List Value) (i j : Nat), i + vs.length ≤ cs.length → (wr cs i vs)[j]? = if i ≤ j ∧ j < i + vs.length then vs[j - i]? else cs[j]?
  | [], cs, i, j, _ => by
    rw [wr, if_neg (by simp <;> omega)]
  | v :: vs, cs, i, j, h => by
    simp only [List.length_cons] at h
    rw [wr, wr_get vs (cs.set i v) (i + 1) j (by simp; omega)]
    by_cases h1 : i + 1 ≤ j ∧ j < i + 1 + vs.length
    · rw [if_pos h1, if_pos (by simp; omega), show j - i = (j - (i + 1)) + 1 by omega, List.getElem?_cons_succ]
    · rw [if_neg h1]
      by_cases h2 : j = i
      · subst h2
        rw [if_pos (by simp), Nat.sub_self, List.getElem?_set]
        simp; omega
      · rw [if_neg (by simp; omega), List.getElem?_set]
        rw [if_neg (fun h => h2 h.symm)]
theorem wr_all {vs cs : List Value} (h : cs.length = vs.length) : wr cs 0 vs = vs := by
  apply List.ext_getElem?
  intro j
  rw [wr_get vs cs 0 j (by omega)]
  by_cases hj : j < vs.length
  · rw [if_pos (by omega), Nat.sub_zero]
  · rw [if_neg (by omega), List.getElem?_eq_none (by omega), List.getElem?_eq_none (by omega)]
theorem wr_tab {κ : IntKind} {n : Nat} {f g : Nat → Nat} : wr (tab κ n f) 0 (tab κ n g) = tab κ n g := wr_all (by simp [tab_length])
theorem tab_length' {κ : IntKind} {n : Nat} {f : Nat → Nat} : (tab κ n f).length = n := tab_length κ n f
theorem tab_leA {κ : IntKind} {n : Nat} {f : Nat → Nat} : Nat.ble (0 + n) (tab κ n f).length = true := Nat.ble_eq_true_of_le (by rw [tab_length]; omega)
end Go.Proofs.Ytikkhkjndbicgaa

/- Byte strings and rows that lie beside a state's blocks: what operations do to them. -/
namespace Go.Proofs.Ytikkhkjndbicgaa
open Go.RowKit
def rowAt (S : List (Bool × Fz)) (k : Nat) : Option (Value × Nat × List Value) :=
  match S[k]? with
  | some (true, .cel v n cs) => some (v, n, cs)
  | some (true, .own v _ _ n xs) => some (v, n, xs)
  | _ => none
def vidx (v : Value) (i : Nat) : Value :=
  match v with
  | .slice (some a) _ _ => .pointer (some (a.add i))
  | _ => .pointer none
def vsl (v : Value) (z i h : Nat) : Value :=
  match v with
  | .slice a _ c => .slice (if c = i then a else a.map (·.add (i * z))) (h - i) (c - i)
  | v => v
theorem own_cel {w : World} {base : Nat} {E : TypeId} {size n : Nat} {v : Value} {xs : List Value} {Z : Nat → Prop} (h : w.ownsRow base E size v n xs) (hZ : ∀ g, v.ownBlock = some g → Z g) : CelV w Z v n xs := by
  rcases h.2 with ⟨rfl, rfl⟩ | ⟨g, cap, cur, rfl, hb, hh, hn, hc, hs, hx⟩
  · have : xs = [] := by have := h.1; simpa using this
    subst this
    exact ⟨none, 0, rfl, Nat.le_refl _, Nat.zero_le _, fun _ => rfl, fun j u hu => by simp at hu⟩
  · refine ⟨some ⟨g, 0, none⟩, cap, rfl, hn, hc, (fun h => by cases h), fun j u hu => ⟨g, 0, rfl, hZ g rfl, ?_⟩⟩
    rw [← hx, List.getElem?_take] at hu
    split at hu
    · rw [Nat.zero_add, cell_of_row w g j cur E _ hh]
      simpa using hu
    · cases hu
theorem CelV.any {w : World} {Z Z' : Nat → Prop} {v : Value} {n : Nat} {cs : List Value} (h : CelV w Z v n cs) (hz : ∀ g, Z g → Z' g) : CelV w Z' v n cs := h.mono fun g hg _ => ⟨hz g hg, rfl⟩
section
variable {P : Program} {Q : Exit → Act → World → Prop} {K : Act → World → Prop} {a : Act} {w : World} {o : Oper} {n : Nat} {w0 : Bs} {fs : List Sl} {bs : List Bl}
def Zall (w0 : Bs) (bs : List Bl) (g : Nat) : Prop :=
  (w0.Z g ∨ w0.B g) ∧ (∀ (j : Nat) (b : Bl), bs[j]? = some b → b.1 = true → b.2.1 ≠ g) ∧ ∀ (j : Nat) (e : Bool × Fz), w0.S[j]? = some e → e.1 = true → ¬ e.2.owns g
theorem St.row (hs : St n w0 fs bs a w) {k N : Nat} {v : Value} {cs : List Value} (h : rowAt w0.S k = some (v, N, cs)) : CelV w (fun _ => True) v N cs := by
  unfold rowAt at h
  split at h
  · rename_i v' n' cs' hk
    obtain ⟨rfl, rfl, rfl⟩ : v' = v ∧ n' = N ∧ cs' = cs := by simpa using h
    exact CelV.any (hs.fz k _ hk rfl) fun _ _ => trivial
  · rename_i v' E sz n' xs hk
    obtain ⟨rfl, rfl, rfl⟩ : v' = v ∧ n' = N ∧ xs = cs := by simpa using h
    exact own_cel (hs.fz k _ hk rfl).1 fun _ _ => trivial
  · cases h
theorem St.all (hs : St n w0 fs bs a w) {k : Nat} {e : Fz} (h : w0.S[k]? = some (true, e)) (ho : e.ownless = true) : e.ok w (Zall w0 bs) w0.B := by
  have h1 := hs.fz k _ h rfl
  have h2 : e.ok w (Zall w0 bs) w0.B := Fz.ok_mono (fun _ _ h => h) (fun g hg _ => ⟨⟨hg.1, hg.2.1, fun j e' hj hf => by
    by_cases hjk : j = k
    · subst hjk
      rw [h] at hj
      obtain rfl := Option.some.inj hj
      exact Fz.ownless_no ho g
    · exact hg.2.2 j e' hjk hj hf⟩, rfl⟩) h1
  cases e with
  | cel v N cs => exact h2
  | bys vs ls => exact h2
  | own v E size N xs => cases ho
  | bysO G vs ls => cases ho
  | wrs G vs ns => cases ho
theorem op_idxC (hs : St n w0 fs bs a w) (m : Option Nat) (k : Nat) {T E : TypeId} {x y : Operand} {v : Value} {z N : Nat} {cs : List Value} {κ : IntKind} {j : Nat} {d : Nat} (ho : o.op = .indexAddr T x y) (hd : o.dst = some d) (hx : ev fs x = some v) (hy : ev fs y = some (.int κ (j : Int)))
    (hk : rowAt w0.S k = some (v, N, cs)) (hu : P.underlying T = some (.slice E)) (hz : ∀ w, (sizeOf E).run P w = .ok z w) (hj : j < N) {off : Nat} (hoff : j * z = off) (hok : okf m fs d n = true)
    (h : ∀ a', St n w0 (putf m fs d (vidx v off)) bs a' w → K a' w) : o.wp P a w K Q := by
  obtain ⟨ad, c, rfl, hN, _, hn, _⟩ := hs.row hk
  subst hoff
  cases ad with
  | none => have := hn rfl; omega
  | some ad =>
    refine op_val hs m hd hok ?_ h
    unfold execOp
    rw [ho]
    have h1 : (0 : Int) ≤ (j : Int) ∧ (j : Int) < (N : Int) := ⟨by omega, by omega⟩
    simp [hs.ev hx, hs.ev hy, Instr.indexAt, asIntOf, Sem.run_bind, run_underlying hu, Result.andThen, hz, h1, hj, vidx]
theorem op_loadC (hs : St n w0 fs bs a w) (m : Option Nat) (k : Nat) {t : TypeId} {x : Operand} {v : Value} {i N : Nat} {cs : List Value} {ag : Bool} {z : Nat} {u : Value} {d : Nat} (ho : o.op = .load t x) (hd : o.dst = some d)
    (hx : ev fs x = some (vidx v i)) (hk : rowAt w0.S k = some (v, N, cs)) (hu : ∀ w, (isAgg t).run P w = .ok ag w) (hz : ∀ w, (sizeOf t).run P w = .ok z w) (hz0 : 0 < z) (hl : ldv ag z cs i = some u) (hok : okf m fs d n = true)
    (h : ∀ a', St n w0 (putf m fs d u) bs a' w → K a' w) : o.wp P a w K Q := by
  obtain ⟨ad, c, rfl, hN, _, hn, hc⟩ := hs.row hk
  have hlt : i < cs.length := by
    cases ag with
    | false =>
      simp only [ldv, cond_false] at hl
      exact (List.getElem?_eq_some_iff.1 hl).1
    | true =>
      simp only [ldv, cond_true] at hl
      cases hb : Nat.ble (i + z) cs.length with
      | true => have := Nat.le_of_ble_eq_true hb; omega
      | false => rw [hb] at hl; simp at hl
  obtain ⟨g, off, rfl, _, _⟩ := hc i cs[i] (by simp [hlt])
  have hc' : ∀ (j : Nat) (u : Value), cs[j]? = some u → w.cell? ⟨g, off + j, none⟩ = some u := fun j u hu => by
    obtain ⟨g', off', e, _, h3⟩ := hc j u hu
    obtain ⟨rfl, rfl⟩ : g = g' ∧ off = off' := by simpa using e
    exact h3
  refine op_val hs m hd hok ?_ h
  unfold execOp
  rw [ho]
  have hp : a.eval x = .pointer (some ⟨g, off + i, none⟩) := by rw [hs.ev hx]; simp [vidx, Addr.add_mid]
  have hrun : (loadVar t ⟨g, off + i, none⟩).run P w = .ok u w := by
    unfold loadVar
    rw [Sem.run_bind, hu]
    simp only [Result.andThen_ok]
    cases ag with
    | false =>
      simp only [ldv, cond_false] at hl
      simp only [Bool.false_eq_true, if_false]
      simp [hc' i u hl]
    | true =>
      simp only [ldv, cond_true] at hl
      have hle : i + z ≤ cs.length := by
        cases hb : Nat.ble (i + z) cs.length with
        | true => exact Nat.le_of_ble_eq_true hb
        | false => rw [hb] at hl; simp at hl
      rw [show Nat.ble (i + z) cs.length = true from Nat.ble_eq_true_of_le hle] at hl
      simp only [cond_true, Option.some.injEq] at hl
      subst hl
      simp only [if_true, Sem.run_bind, hz, Result.andThen_ok]
      have hlen : ((cs.drop i).take z).length = z := by simp; omega
      have := run_loadCells_list (P := P) w ⟨g, off + i, none⟩ ((cs.drop i).take z) (fun j v hv => by
        rw [Addr.add_mid, Nat.add_assoc]
        rw [List.getElem?_take] at hv
        split at hv
        · rw [List.getElem?_drop] at hv; exact hc' _ _ hv
        · cases hv)
      rw [hlen] at this
      simp [this]
  simp only [hp, Instr.loadAt, Instr.sureAddr, Sem.run_bind, Sem.run_pure, Result.andThen_ok, hrun]
def setS (S : List (Bool × Fz)) : Nat → List Fz → List (Bool × Fz)
  | _, [] => S
  | k, e :: l => setS (S.set k (true, e)) (k + 1) l
def putS (m : Option Nat) (S : List (Bool × Fz)) (l : List Fz) : List (Bool × Fz) :=
  match m with
  | none => S ++ l.map (true, ·)
  | some k => setS S k l
def freeS (S : List (Bool × Fz)) : Nat → Nat → Bool
  | _, 0 => true
  | k, j + 1 => (match S[k]? with | some (false, _) => true | _ => false) && freeS S (k + 1) j
def okS (m : Option Nat) (S : List (Bool × Fz)) (j : Nat) : Bool :=
  match m with
  | none => true
  | some k => freeS S k j
def OkL (w : World) (Z : Nat → Prop) (B : Nat → Prop) (L : List Fz) : Prop :=
  ∀ (i : Nat) (e : Fz), L[i]? = some e → e.ok w (fun g => (Z g ∨ B g) ∧ ∀ (j : Nat) (e' : Fz), j ≠ i → L[j]? = some e' → ¬ e'.owns g) B
def Ret {ρ : Type} (w0 : World) (Z : Nat → Prop) (v : ρ → Value) (E : ρ → List Fz) (e : Ending) (w' : World) : Prop := ∃ r, e = .returned (v r) ∧ Below w0.heap.size w0 w' ∧ OkL w' Z (Bn w0.heap.size noX) (E r)
abbrev Bs.withS (b : Bs) (S : List (Bool × Fz)) : Bs := ⟨b.w, b.F, S, b.Z, b.X⟩
theorem setS_get : ∀ (l : List Fz) (S : List (Bool × Fz)) (k i : Nat), k + l.length ≤ S.length → (setS S k l)[i]? = if k ≤ i ∧ i < k + l.length then (l[i - k]?).map (true, ·) else S[i]?
  | [], S, k, i, _ => by rw [setS, if_neg (by simp <;> omega)]
  | e :: l, S, k, i, h => by
    simp only [List.length_cons] at h
    rw [setS, setS_get l _ (k + 1) i (by simp; omega)]
    by_cases h1 : k + 1 ≤ i ∧ i < k + 1 + l.length
    · rw [if_pos h1, if_pos (by simp; omega), show i - k = (i - (k + 1)) + 1 by omega, List.getElem?_cons_succ]
    · rw [if_neg h1]
      by_cases h2 : i = k
      · subst h2
        rw [if_pos (by simp), Nat.sub_self, List.getElem?_set]
        simp; omega
      · rw [if_neg (by simp; omega), List.getElem?_set, if_neg (fun h => h2 h.symm)]
theorem freeS_get (S : List (Bool × Fz)) : ∀ (j k : Nat), freeS S k j = true → k + j ≤ S.length ∨ j = 0
  | 0, _, _ => .inr rfl
  | j + 1, k, h => by
    simp only [freeS, Bool.and_eq_true] at h
    have hk : k < S.length := by
      cases hS : S[k]? with
      | none => rw [hS] at h; simp at h
      | some e => exact (List.getElem?_eq_some_iff.1 hS).1
    rcases freeS_get S j (k + 1) h.2 with h1 | h1 <;> left <;> omega
theorem putS_get {m : Option Nat} {S : List (Bool × Fz)} {l : List Fz} (h : okS m S l.length = true) : ∃ k, ∀ (i : Nat) (e : Bool × Fz), (putS m S l)[i]? = some e → (k ≤ i ∧ e.1 = true ∧ l[i - k]? = some e.2) ∨ (S[i]? = some e ∧ (e.1 = true → i < k ∨ k + l.length ≤ i)) := by
  cases m with
  | none =>
    refine ⟨S.length, fun i e he => ?_⟩
    rw [putS, List.getElem?_append] at he
    split at he
    · rename_i hlt; exact .inr ⟨he, fun _ => .inl hlt⟩
    · rename_i hge
      left
      rw [List.getElem?_map] at he
      obtain ⟨x, hx, rfl⟩ := Option.map_eq_some_iff.1 he
      exact ⟨by omega, rfl, hx⟩
  | some k =>
    refine ⟨k, fun i e he => ?_⟩
    have hf : freeS S k l.length = true := h
    rcases freeS_get S _ _ hf with hle | h0
    · rw [putS, setS_get l S k i hle] at he
      split at he
      · rename_i hh
        left
        obtain ⟨x, hx, rfl⟩ := Option.map_eq_some_iff.1 he
        exact ⟨hh.1, rfl, hx⟩
      · rename_i hh
        exact .inr ⟨he, fun _ => by omega⟩
    · have : l = [] := List.length_eq_zero_iff.1 h0
      subst this
      exact .inr ⟨he, fun _ => by simp; omega⟩
theorem St.addS (hs : St n w0 fs bs a w) {m : Option Nat} {L : List Fz} (hok : okS m w0.S L.length = true) {w' : World} (hb : Below w.heap.size w w') (hL : OkL w' (Zall w0 bs) (Bn w.heap.size noX) L) : St n (w0.withS (putS m w0.S L)) fs bs a w' := by
  have h0 := hs.grow hb
  obtain ⟨k, key⟩ := putS_get hok
  have hsz := hs.below.size
  have up : ∀ g, Bn w.heap.size noX g → w.heap.size ≤ g := fun g h => h.elim id False.elim
  have upB : ∀ g, Bn w.heap.size noX g → w0.B g := fun g h => .inl (Nat.le_trans hsz (up g h))
  refine ⟨h0.size, h0.defers, h0.slots, h0.blks, h0.apart, h0.below, h0.frz, fun i e h h1 => ?_⟩
  have ownL : ∀ (j : Nat) (e' : Fz) (g : Nat), L[j]? = some e' → e'.owns g → w.heap.size ≤ g := fun j e' g hj ho => up g (Fz.ok_lt (hL j e' hj) ho).2.2
  rcases key i e h with ⟨hki, _, hLi⟩ | ⟨hS, hno⟩
  · refine Fz.ok_mono (fun g _ h => upB g h) (fun g hg hlt => ⟨⟨?_, fun j b hj hb1 => ?_, fun j e' hji hj he' => ?_⟩, rfl⟩) (hL _ _ hLi)
    · rcases hg.1 with hg1 | hg1
      · exact hg1.1
      · exact .inr (upB g hg1)
    · rcases hg.1 with hg1 | hg1
      · exact hg1.2.1 j b hj hb1
      · have := hs.lt hj hb1
        have := up g hg1
        omega
    · rcases key j e' hj with ⟨hkj, _, hLj⟩ | ⟨hSj, _⟩
      · exact hg.2 (j - k) e'.2 (by omega) hLj
      · rcases hg.1 with hg1 | hg1
        · exact hg1.2.2 j e' hSj he'
        · intro ho
          have := (Fz.ok_lt (hs.fz j e' hSj he') ho).1
          have := up g hg1
          omega
  · refine Fz.ok_mono (fun _ _ h => h) (fun g hg hlt => ⟨⟨hg.1, hg.2.1, fun j e' hji hj he' => ?_⟩, hb.block g hlt⟩) (hs.fz i e hS h1)
    rcases key j e' hj with ⟨_, _, hLj⟩ | ⟨hSj, _⟩
    · intro ho
      have := ownL _ _ _ hLj ho
      omega
    · exact hg.2.2 j e' hji hSj he'
theorem op_callS {F : FuncId} {ρ : Type} (hs : St n w0 fs bs a w) (m ms : Option Nat) {f : Operand} {xs : Array Operand} {ts : Array TypeId} {vs : List Value} {v : ρ → Value} {E : ρ → List Fz} {j : Nat} {d : Nat} (ho : o.op = .call ⟨.value f, xs, ts⟩) (hd : o.dst = some d)
    (hf : ev fs f = some (.func (.func F) #[] #[])) (hx : evs fs xs.toList = some vs) (hcl : ∀ w, (callFunc F vs.toArray).run P w = .ok (.enter F vs.toArray) w)
    (hc : St n w0 fs bs a w → Calls P F vs.toArray w (Ret w (Zall w0 bs) v E)) (hE : ∀ r, (E r).length = j) (hokS : okS ms w0.S j = true) (hok : okf m fs d n = true)
    (h : ∀ r a' w', St n (w0.withS (putS ms w0.S (E r))) (putf m fs d (v r)) bs a' w' → K a' w') : o.wp P a w K Q := by
  have hm : xs.map a.eval = vs.toArray := by
    have := hs.evs hx
    rw [← this, ← Array.toList_map]
  unfold Oper.wp execOp
  rw [ho]
  simp only [resolve, hs.ev hf, hm, Deferred.ofValue, Sem.run_bind, Sem.run_pure, Result.andThen_ok, invoke, Array.empty_append, Array.append_empty, hcl, Oper.upon_enter, hd]
  refine (hc hs).mono ?_
  rintro e w' ⟨r, rfl, hb, hL⟩
  exact h _ _ _ ((hs.addS (by rw [hE]; exact hokS) hb hL).put hok _)
theorem St.pushS (hs : St n w0 fs bs a w) (m : Option Nat) {L : List Fz} (hok : okS m w0.S L.length = true) (hL : OkL w (Zall w0 bs) (Bn w.heap.size noX) L) : St n (w0.withS (putS m w0.S L)) fs bs a w := hs.addS hok (Below.refl _ _) hL
theorem okl1 {w : World} {Z : Nat → Prop} {B : Nat → Prop} {e : Fz} (h : e.ok w Z B) : OkL w Z B [e] := by
  intro i e' he
  cases i with
  | zero =>
    obtain rfl : e = e' := by simpa using he
    exact Fz.ok_mono (fun _ _ h => h) (fun g hg _ => ⟨⟨.inl hg, fun j e' hj he' => by
      cases j with
      | zero => exact absurd rfl hj
      | succ j => simp at he'⟩, rfl⟩) h
  | succ i => simp at he
theorem okl0 {w : World} {Z : Nat → Prop} {B : Nat → Prop} : OkL w Z B [] := fun i e he => by simp at he
theorem celv_part {w : World} {Z : Nat → Prop} {v : Value} {N : Nat} {cs : List Value} (z i h : Nat) (hv : CelV w Z v N cs) (hi : i ≤ h) (hh : h ≤ N) : CelV w Z (vsl v z i h) (h - i) ((cs.drop (i * z)).take ((h - i) * z)) := by
  obtain ⟨ad, c, rfl, hN, hc, hn, hcs⟩ := hv
  refine ⟨if c = i then ad else ad.map (·.add (i * z)), c - i, rfl, by omega, by omega, ?_, fun j u hu => ?_⟩
  · intro h0
    split at h0
    · have := hn h0; omega
    · cases ad with
      | none => have := hn rfl; omega
      | some _ => cases h0
  · rw [List.getElem?_take] at hu
    split at hu
    · rename_i hj
      rw [List.getElem?_drop] at hu
      obtain ⟨g, off, rfl, hg, hcell⟩ := hcs _ u hu
      have hne : ¬ c = i := by
        intro hci
        have : h - i = 0 := by omega
        rw [this, Nat.zero_mul] at hj
        omega
      refine ⟨g, off + i * z, ?_, hg, ?_⟩
      · rw [if_neg hne]; simp [Addr.add_mid]
      · rw [Nat.add_assoc]; exact hcell
    · cases hu
theorem run_sliceC {T E : TypeId} {ad : Option Addr} {N c z i h : Nat} {lo hi : Option Value} (hu : P.underlying T = some (.slice E)) (hz : ∀ w, (sizeOf E).run P w = .ok z w) (hlo : lo = none ∧ i = 0 ∨ ∃ κ, lo = some (.int κ (i : Int))) (hhi : hi = none ∧ h = N ∨ ∃ κ, hi = some (.int κ (h : Int)))
    (h1 : i ≤ h) (h2 : h ≤ N) (h3 : N ≤ c) (w : World) : (Instr.sliceAt T (.slice ad N c) lo hi none).run P w = .ok (vsl (.slice ad N c) z i h) w := by
  have e1 : (0 : Int) ≤ (h : Int) ∧ (h : Int) ≤ (c : Int) := ⟨by omega, by omega⟩
  have e2 : (0 : Int) ≤ (i : Int) ∧ (i : Int) ≤ (h : Int) := ⟨by omega, by omega⟩
  have e3 : (0 : Int) ≤ (i : Int) ∧ (i : Int) ≤ (N : Int) := ⟨by omega, by omega⟩
  have hic : h ≤ c := by omega
  rcases hlo with ⟨rfl, rfl⟩ | ⟨κ, rfl⟩ <;> rcases hhi with ⟨rfl, rfl⟩ | ⟨κ', rfl⟩ <;>
    simp [Instr.sliceAt, Instr.slice, Instr.sliceBounds, Instr.sliceBound, asIntOf, Sem.run_bind, run_underlying hu, Result.andThen, hz, e1, e2, e3, h1, h2, h3, hic, vsl]
theorem op_sliceC (hs : St n w0 fs bs a w) (m ms : Option Nat) (k i h : Nat) {T E : TypeId} {x : Operand} {lo hi : Option Operand} {v : Value} {z N : Nat} {cs : List Value} {d : Nat} (ho : o.op = .slice T x lo hi none) (hd : o.dst = some d) (hx : ev fs x = some v)
    (hk : w0.S[k]? = some (true, .cel v N cs)) (hlo : lo = none ∧ i = 0 ∨ ∃ y κ, lo = some y ∧ ev fs y = some (.int κ (i : Int))) (hhi : hi = none ∧ h = N ∨ ∃ y κ, hi = some y ∧ ev fs y = some (.int κ (h : Int)))
    (hu : P.underlying T = some (.slice E)) (hz : ∀ w, (sizeOf E).run P w = .ok z w) (h1 : i ≤ h) (h2 : h ≤ N) (hokS : okS ms w0.S 1 = true) (hok : okf m fs d n = true)
    (hK : ∀ a', St n (w0.withS (putS ms w0.S [.cel (vsl v z i h) (h - i) ((cs.drop (i * z)).take ((h - i) * z))])) (putf m fs d (vsl v z i h)) bs a' w → K a' w) : o.wp P a w K Q := by
  have hall := hs.all hk rfl
  have hnew : OkL w (Zall w0 bs) (Bn w.heap.size noX) [.cel (vsl v z i h) (h - i) ((cs.drop (i * z)).take ((h - i) * z))] := okl1 (celv_part z i h hall h1 h2)
  obtain ⟨ad, c, rfl, hN, _⟩ := hs.row (k := k) (v := v) (N := N) (cs := cs) (by unfold rowAt; rw [hk])
  have hrun := run_sliceC (P := P) (T := T) (E := E) (ad := ad) (N := N) (c := c) (z := z) (i := i) (h := h) (lo := lo.map a.eval) (hi := hi.map a.eval) hu hz
    (by rcases hlo with ⟨rfl, rfl⟩ | ⟨y, κ, rfl, hy⟩
        · exact .inl ⟨rfl, rfl⟩
        · exact .inr ⟨κ, by simp [hs.ev hy]⟩)
    (by rcases hhi with ⟨rfl, rfl⟩ | ⟨y, κ, rfl, hy⟩
        · exact .inl ⟨rfl, rfl⟩
        · exact .inr ⟨κ, by simp [hs.ev hy]⟩) h1 h2 hN w
  have hs' := hs.pushS ms (L := [.cel (vsl (.slice ad N c) z i h) (h - i) ((cs.drop (i * z)).take ((h - i) * z))]) hokS hnew
  refine op_val hs' m hd hok ?_ hK
  unfold execOp
  rw [ho]
  simp only [hs.ev hx, Option.map_none] at hrun ⊢
  simp [hrun, Sem.run_bind, Result.andThen]
theorem St.nilOwn (hs : St n w0 fs bs a w) (m : Option Nat) (E : TypeId) (size : Nat) (hok : okS m w0.S 1 = true) : St n (w0.withS (putS m w0.S [.own (.slice none 0 0) E size 0 []])) fs bs a w :=
  hs.pushS m hok (okl1 ⟨World.ownsRow_nil w _ E size, fun g hg => by cases hg⟩)
theorem celv_nil {w : World} {Z : Nat → Prop} : CelV w Z (.slice none 0 0) 0 [] := ⟨none, 0, rfl, Nat.le_refl _, Nat.zero_le _, fun _ => rfl, fun j u hu => by simp at hu⟩
theorem St.nilCel (hs : St n w0 fs bs a w) (m : Option Nat) (hok : okS m w0.S 1 = true) : St n (w0.withS (putS m w0.S [.cel (.slice none 0 0) 0 []])) fs bs a w := hs.pushS m hok (okl1 celv_nil)
theorem St.pick (hs : St n w0 fs bs a w) (m : Option Nat) (k : Nat) {vs : List Value} {ls : List (List UInt8)} {i : Nat} {v : Value} {l : List UInt8} (hk : w0.S[k]? = some (true, .bys vs ls)) (hv : vs[i]? = some v) (hl : ls[i]? = some l) (hok : okS m w0.S 1 = true) :
    St n (w0.withS (putS m w0.S [.cel v l.length (bcs l)])) fs bs a w := hs.pushS m hok (okl1 ((hs.all hk rfl).2 i v l hv hl))
def selS (S : List (Bool × Fz)) : List Nat → Option (List (Bool × Fz))
  | [] => some []
  | k :: ks => match S[k]?, selS S ks with
    | some e, some l => some (e :: l)
    | _, _ => none
theorem selS_get {S : List (Bool × Fz)} : ∀ {ks : List Nat} {S' : List (Bool × Fz)}, selS S ks = some S' → ∀ (i : Nat) (e : Bool × Fz), S'[i]? = some e → ∃ k, ks[i]? = some k ∧ S[k]? = some e
  | [], S', h, i, e, he => by
    obtain rfl : [] = S' := by simpa [selS] using h
    simp at he
  | k :: ks, S', h, i, e, he => by
    unfold selS at h
    split at h
    · rename_i e0 l h1 h2
      obtain rfl : e0 :: l = S' := by simpa using h
      cases i with
      | zero =>
        obtain rfl : e0 = e := by simpa using he
        exact ⟨k, rfl, h1⟩
      | succ i => exact selS_get h2 i e (by simpa using he)
    · cases h
theorem St.selS (hs : St n w0 fs bs a w) (ks : List Nat) {S' : List (Bool × Fz)} (h : Go.Proofs.Ytikkhkjndbicgaa.selS w0.S ks = some S') (hnd : ks.Nodup) : St n (w0.withS S') fs bs a w := by
  refine ⟨hs.size, hs.defers, hs.slots, hs.blks, hs.apart, hs.below, hs.frz, fun i e he h1 => ?_⟩
  obtain ⟨k, hk, hSk⟩ := selS_get h i e he
  refine Fz.ok_mono (fun _ _ h => h) (fun g hg _ => ⟨⟨hg.1, hg.2.1, fun j e' hji hj he' => ?_⟩, rfl⟩) (hs.fz k e hSk h1)
  obtain ⟨k', hk', hSk'⟩ := selS_get h j e' hj
  refine hg.2.2 k' e' (fun hkk => hji ?_) hSk' he'
  subst hkk
  obtain ⟨l1, e1⟩ := List.getElem?_eq_some_iff.1 hk
  obtain ⟨l2, e2⟩ := List.getElem?_eq_some_iff.1 hk'
  have hp := List.pairwise_iff_getElem.1 hnd
  rcases Nat.lt_trichotomy i j with hlt | heq | hlt
  · exact absurd (e1.trans e2.symm) (hp i j l1 l2 hlt)
  · exact heq.symm
  · exact absurd (e2.trans e1.symm) (hp j i l2 l1 hlt)
theorem St.conS (hs : St n w0 fs bs a w) (k : Nat) {e e' : Fz} (h : w0.S[k]? = some (true, e)) (hok : ∀ Z, e.ok w Z w0.B → e'.ok w Z w0.B) (ho : ∀ g, e'.owns g → e.owns g) : St n (w0.withS (w0.S.set k (true, e'))) fs bs a w := by
  have key : ∀ (i : Nat) (x : Bool × Fz), (w0.S.set k (true, e'))[i]? = some x → (i = k ∧ x = (true, e')) ∨ (i ≠ k ∧ w0.S[i]? = some x) := by
    intro i x hx
    rw [List.getElem?_set] at hx
    split at hx
    · rename_i hik
      split at hx
      · exact .inl ⟨hik.symm, by simpa using hx.symm⟩
      · cases hx
    · rename_i hik; exact .inr ⟨fun e => hik e.symm, hx⟩
  refine ⟨hs.size, hs.defers, hs.slots, hs.blks, hs.apart, hs.below, hs.frz, fun i x hx h1 => ?_⟩
  have base : ∀ (j : Nat) (y : Bool × Fz) (g : Nat), (w0.S.set k (true, e'))[j]? = some y → y.1 = true → y.2.owns g → ∃ y', w0.S[j]? = some y' ∧ y'.1 = true ∧ y'.2.owns g := by
    intro j y g hj hy hg
    rcases key j y hj with ⟨rfl, rfl⟩ | ⟨_, h2⟩
    · exact ⟨_, h, rfl, ho g hg⟩
    · exact ⟨y, h2, hy, hg⟩
  have z : ∀ g, Zs w0 bs i g → Zs (w0.withS (w0.S.set k (true, e'))) bs i g := fun g hg => ⟨hg.1, hg.2.1, fun j y hji hj hy ho' => by
    obtain ⟨y', h3, h4, h5⟩ := base j y g hj hy ho'
    exact hg.2.2 j y' hji h3 h4 h5⟩
  rcases key i x hx with ⟨rfl, rfl⟩ | ⟨_, h2⟩
  · exact Fz.ok_mono (fun _ _ h => h) (fun g hg _ => ⟨z g hg, rfl⟩) (hok _ (hs.fz i _ h rfl))
  · exact Fz.ok_mono (fun _ _ h => h) (fun g hg _ => ⟨z g hg, rfl⟩) (hs.fz i _ h2 h1)
theorem St.freeze (hs : St n w0 fs bs a w) (k : Nat) {v : Value} {E : TypeId} {size N : Nat} {xs : List Value} (h : w0.S[k]? = some (true, .own v E size N xs)) : St n (w0.withS (w0.S.set k (true, .cel v N xs))) fs bs a w :=
  hs.conS k h (fun Z hz => own_cel hz.1 fun g hg => (hz.2 g hg).1) (fun g hg => by cases hg)
theorem St.celEq (hs : St n w0 fs bs a w) (k : Nat) {v : Value} {N N' : Nat} {cs cs' : List Value} (h : w0.S[k]? = some (true, .cel v N cs)) (hN : N = N') (hc : cs = cs') : St n (w0.withS (w0.S.set k (true, .cel v N' cs'))) fs bs a w := by
  subst hN; subst hc
  exact hs.conS k h (fun Z hz => hz) (fun g hg => hg)
theorem St.ownEq (hs : St n w0 fs bs a w) (k : Nat) {v : Value} {E : TypeId} {size N N' : Nat} {xs xs' : List Value} (h : w0.S[k]? = some (true, .own v E size N xs)) (hN : N = N') (hc : xs = xs') : St n (w0.withS (w0.S.set k (true, .own v E size N' xs'))) fs bs a w := by
  subst hN; subst hc
  exact hs.conS k h (fun Z hz => hz) (fun g hg => hg)
theorem St.ret1 (hs : St n w0 fs bs a w) (k : Nat) {e : Fz} (h : w0.S[k]? = some (true, e)) : OkL w w0.Z w0.B [e] := by
  intro i e' he
  cases i with
  | zero =>
    obtain rfl : e = e' := by simpa using he
    exact Fz.ok_mono (fun _ _ h => h) (fun g hg _ => ⟨⟨hg.1, fun j e' hj he' => by
      cases j with
      | zero => exact absurd rfl hj
      | succ j => simp at he'⟩, rfl⟩) (hs.fz k _ h rfl)
  | succ i => simp at he
theorem St.ret2 (hs : St n w0 fs bs a w) (k k' : Nat) {e e' : Fz} (h : w0.S[k]? = some (true, e)) (h' : w0.S[k']? = some (true, e')) (hne : k ≠ k') : OkL w w0.Z w0.B [e, e'] := by
  intro i x hx
  match i, hx with
  | 0, hx =>
    obtain rfl : e = x := by simpa using hx
    exact Fz.ok_mono (fun _ _ h => h) (fun g hg _ => ⟨⟨hg.1, fun j y hj hy => by
      match j, hj, hy with
      | 0, hj, _ => exact absurd rfl hj
      | 1, _, hy =>
        obtain rfl : e' = y := by simpa using hy
        exact hg.2.2 k' _ (fun e => hne e.symm) h' rfl
      | j + 2, _, hy => simp at hy⟩, rfl⟩) (hs.fz k _ h rfl)
  | 1, hx =>
    obtain rfl : e' = x := by simpa using hx
    exact Fz.ok_mono (fun _ _ h => h) (fun g hg _ => ⟨⟨hg.1, fun j y hj hy => by
      match j, hj, hy with
      | 0, _, hy =>
        obtain rfl : e = y := by simpa using hy
        exact hg.2.2 k _ hne h rfl
      | 1, hj, _ => exact absurd rfl hj
      | j + 2, _, hy => simp at hy⟩, rfl⟩) (hs.fz k' _ h' rfl)
  | i + 2, hx => simp at hx
end
end Go.Proofs.Ytikkhkjndbicgaa

/- Shorter words for a walk's steps, further. -/
namespace Go.Proofs.Ytikkhkjndbicgaa
open Go.RowKit
theorem ex1 {α : Type} (x : α) : ∃ a, x = a := ⟨_, rfl⟩
theorem ex2 {α β : Type} (x : α × β) : ∃ a b, x = (a, b) := ⟨_, _, rfl⟩
theorem ex3 {α β γ : Type} (x : α × β × γ) : ∃ a b c, x = (a, b, c) := ⟨_, _, _, rfl⟩
theorem ex4 {α β γ δ : Type} (x : α × β × γ × δ) : ∃ a b c d, x = (a, b, c, d) := ⟨_, _, _, _, rfl⟩
abbrev cL (a : Option Addr) (n c : Nat) (cs : List Value) : Fz := .cel (.slice a n c) n cs
abbrev oW (a : Option Addr) (n c : Nat) (E : TypeId) (cs : List Value) : Fz := .own (.slice a n c) E 1 n cs
section
variable {P : Program} {Q : Exit → Act → World → Prop} {a : Act} {w : World} {n : Nat} {w0 : Bs} {fs : List Sl} {bs : List Bl}
theorem wcs (hs : St n w0 fs bs a w) {c : Operand} {x y : Code} {t : Bool} (h : ev fs c = some (.bool t)) (ht : t = true → x.wp P Q a w) (hf : t = false → y.wp P Q a w) : (Code.cond c x y).wp P Q a w := wp_cond_split (hs.ev h) ht hf
theorem St.s4 (hs : St n w0 fs bs a w) {d e f g : Nat} {v u x y : Value} : St n w0 ((d, false, v) :: (e, false, u) :: (f, false, x) :: (g, false, y) :: fs) bs a w := hs.skip.skip.skip.skip
end
end Go.Proofs.Ytikkhkjndbicgaa

/- Appends onto rows beside the blocks; bytes to strings and back; loops' entries. -/
namespace Go.Proofs.Ytikkhkjndbicgaa
open Go.RowKit
def vsa (a : Option Addr) (c z i : Nat) : Option Addr := if c = i then a else a.map (·.add (i * z))
section
variable {P : Program} {Q : Exit → Act → World → Prop} {K : Act → World → Prop} {a : Act} {w : World} {o : Oper} {n : Nat} {w0 : Bs} {fs : List Sl} {bs : List Bl}
theorem St.grown (hs : St n w0 fs bs a w) (hF : w0.F = []) {k : Nat} {v v' : Value} {E : TypeId} {size N N' : Nat} {xs xs' : List Value} {w' : World} (hk : w0.S[k]? = some (true, .own v E size N xs)) (ho : w'.ownsRow 0 E size v' N' xs') (hg : w.grownBy w' v.ownBlock)
    (hv : v'.ownBlock = v.ownBlock ∨ v'.ownBlock = some w.heap.size) : St n (w0.withS (w0.S.set k (true, .own v' E size N' xs'))) fs bs a w' := by
  have hown := hs.fz k _ hk rfl
  have hvb : ∀ g, v.ownBlock = some g → Zs w0 bs k g ∧ w0.B g := fun g h => hown.2 g h
  have hsz := hs.below.size
  have key : ∀ (i : Nat) (x : Bool × Fz), (w0.S.set k (true, .own v' E size N' xs'))[i]? = some x → (i = k ∧ x = (true, .own v' E size N' xs')) ∨ (i ≠ k ∧ w0.S[i]? = some x) := by
    intro i x hx
    rw [List.getElem?_set] at hx
    split at hx
    · rename_i hik
      split at hx
      · exact .inl ⟨hik.symm, by simpa using hx.symm⟩
      · cases hx
    · rename_i hik; exact .inr ⟨fun e => hik e.symm, hx⟩
  refine ⟨hs.size, hs.defers, hs.slots, fun i e he h1 => ?_, hs.apart, hs.below.grown hg hs.below.size (fun g hg => (hvb g hg.symm.symm).2), fun p hp => ⟨?_, (hs.frz p hp).2⟩, fun i x hx h1 => ?_⟩
  · have hold := hs.blks i e he h1
    refine ⟨(hg.block _ (hs.lt he h1) fun e' => ?_).trans hold.1, hold.2⟩
    exact (hvb _ e'.symm).1.2.1 i e he h1 rfl
  · rw [hF] at hp; cases hp
  · rcases key i x hx with ⟨rfl, rfl⟩ | ⟨hik, h2⟩
    · refine ⟨ho, fun g hgb => ?_⟩
      rcases hv with hv | hv
      · have := (hvb g (hv ▸ hgb)).1
        exact ⟨⟨this.1, this.2.1, fun j y hji hj hy => by
          rcases key j y hj with ⟨hjk, _⟩ | ⟨_, h3⟩
          · exact absurd hjk hji
          · exact this.2.2 j y hji h3 hy⟩, (hvb g (hv ▸ hgb)).2⟩
      · have hgw : g = w.heap.size := by rw [hv] at hgb; exact (Option.some.inj hgb).symm
        have hBg : w0.B g := .inl (by have : w0.w.heap.size ≤ w.heap.size := hsz; show w0.w.heap.size ≤ g; omega)
        refine ⟨⟨.inr hBg, fun j b hj hb1 => ?_, fun j y hji hj hy => ?_⟩, hBg⟩
        · have := hs.lt hj hb1; omega
        · rcases key j y hj with ⟨hjk, _⟩ | ⟨_, h3⟩
          · exact absurd hjk hji
          · intro ho'
            have := (Fz.ok_lt (hs.fz j y h3 hy) ho').1
            omega
    · have hz : ∀ g, Zs w0 bs i g → g < w.heap.size → Zs (w0.withS (w0.S.set k (true, .own v' E size N' xs'))) bs i g := by
        intro g hgz hlt
        refine ⟨hgz.1, hgz.2.1, ?_⟩
        intro j y hji hj hy
        rcases key j y hj with ⟨rfl, rfl⟩ | ⟨_, h3⟩
        · intro ho'
          rcases hv with hv | hv
          · exact hgz.2.2 j _ hji hk rfl (show v.ownBlock = some g by rw [← hv]; exact ho')
          · have : g = w.heap.size := by
              have h5 : v'.ownBlock = some g := ho'
              rw [hv] at h5; exact (Option.some.inj h5).symm
            omega
        · exact hgz.2.2 j y hji h3 hy
      refine Fz.ok_mono (fun _ _ h => h) (fun g hgz hlt => ⟨hz g hgz hlt, hg.block g hlt ?_⟩) (hs.fz i x h2 h1)
      intro e'
      exact hgz.2.2 k _ (fun e => hik e.symm) hk rfl e'.symm
theorem celv_news {w : World} {Z : Nat → Prop} {ad : Option Addr} {M c : Nat} {cs : List Value} (h : CelV w Z (.slice ad M c) M cs) : (ad = none ∧ M = 0 ∧ c = 0) ∨ ∃ p, ad = some p ∧ ∀ (j : Nat) (u : Value), cs[j]? = some u → w.cell? (p.add j) = some u := by
  obtain ⟨ad', c', e, h2, h3, h4, h5⟩ := h
  obtain ⟨rfl, rfl⟩ : ad = ad' ∧ c = c' := by simpa using e
  cases ad with
  | none => have := h4 rfl; exact .inl ⟨rfl, by omega, this⟩
  | some p =>
    refine .inr ⟨p, rfl, fun j u hu => ?_⟩
    obtain ⟨g, off, e2, _, h6⟩ := h5 j u hu
    obtain rfl : p = ⟨g, off, none⟩ := by simpa using e2
    rw [Addr.add_mid]; exact h6
theorem app_core (hs : St n w0 fs bs a w) (m : Option Nat) (k : Nat) {x y : Operand} {T E : TypeId} {z v : Value} {size bytes N M c : Nat} {ad : Option Addr} {xs cs : List Value} {d : Nat} (hF : w0.F = [])
    (ho : o.op = .call ⟨.builtin .append, #[x, y], #[T, T]⟩) (hd : o.dst = some d) (hx : ev fs x = some v) (hy : ev fs y = some (.slice ad M c)) (hk : w0.S[k]? = some (true, .own v E size N xs))
    (hnews : (ad = none ∧ M = 0 ∧ c = 0) ∨ ∃ p, ad = some p ∧ ∀ (j : Nat) (u : Value), cs[j]? = some u → w.cell? (p.add j) = some u)
    (hu : P.underlying T = some (.slice E)) (hi : Inf P E z size bytes) (hzs : z.cells.size = size) (hs0 : 0 < size) (hcl : cs.length = M * size) (h1 : ∀ u ∈ cs, u.oneCell' = true) (hby : bytes ≤ 64) (hl : N + M ≤ 1000000) (hok : okf m fs d n = true)
    (h : ∀ a' c' act w', St n (w0.withS (w0.S.set k (true, .own (.slice a' (N + M) c') E size (N + M) (xs ++ cs)))) (putf m fs d (.slice a' (N + M) c')) bs act w' → K act w') : o.wp P a w K Q := by
  obtain ⟨i, hi, hz, hs1, hb1⟩ := hi
  have hmax : (1000001 : Nat) ≤ maxLen := by decide
  have hown := (hs.fz k _ hk rfl).1
  have hm : (#[x, y] : Array Operand).map a.eval = #[v, .slice ad M c] := by simp [hs.ev hx, hs.ev hy]
  unfold Oper.wp execOp
  rw [ho]
  simp only [resolve, hm, Sem.run_bind, Sem.run_pure, Result.andThen_ok, invoke, builtin]
  rcases hnews with ⟨rfl, rfl, rfl⟩ | ⟨p, rfl, hnews⟩
  · have hcs : cs = [] := by simpa using hcl
    subst hcs
    rw [run_append_owned_none (P := P) (w := w) 0 T o.type E i size hu hi v N xs hown]
    simp only [Result.andThen_ok, Sem.run_pure, Oper.upon_value, hd, Nat.add_zero, List.append_nil] at h ⊢
    have hv : ∃ a' c', v = .slice a' N c' := by
      rcases hown.2 with ⟨rfl, rfl⟩ | ⟨g, cap, cur, rfl, _⟩
      · exact ⟨_, _, rfl⟩
      · exact ⟨_, _, rfl⟩
    obtain ⟨a', c', rfl⟩ := hv
    refine h a' c' _ _ (St.put ?_ hok _)
    have := hs.ownEq k hk rfl rfl
    exact this
  · obtain ⟨v', w', hr, h2, h3, h4, h5⟩ := run_append_own_at (P := P) w 0 T o.type E i z size bytes hu hi hz hs1 hb1 hzs hs0 v N xs hown p M c cs hcl hnews h1 (by omega) (by
      have : (N + M) * bytes ≤ 1000000 * 64 := Nat.mul_le_mul hl hby
      omega) (Nat.zero_le _)
    rw [hr]
    have hv : ∃ a' c', v' = .slice a' (N + M) c' := by
      rcases h2.2 with ⟨rfl, h0⟩ | ⟨g, cap, cur, rfl, _⟩
      · exact ⟨none, 0, by rw [h0]⟩
      · exact ⟨_, _, rfl⟩
    obtain ⟨a', c', rfl⟩ := hv
    simp only [Result.andThen_ok, Sem.run_pure, Oper.upon_value, hd]
    exact h a' c' _ _ ((hs.grown hF hk h2 h3 h5).put hok _)
theorem op_appO (hs : St n w0 fs bs a w) (m : Option Nat) (k k2 : Nat) {x y : Operand} {T E : TypeId} {z v : Value} {size bytes N M c : Nat} {ad : Option Addr} {xs cs : List Value} {d : Nat} (hF : w0.F = [])
    (ho : o.op = .call ⟨.builtin .append, #[x, y], #[T, T]⟩) (hd : o.dst = some d) (hx : ev fs x = some v) (hy : ev fs y = some (.slice ad M c)) (hk : w0.S[k]? = some (true, .own v E size N xs)) (hk2 : rowAt w0.S k2 = some (.slice ad M c, M, cs))
    (hu : P.underlying T = some (.slice E)) (hi : Inf P E z size bytes) (hzs : z.cells.size = size) (hs0 : 0 < size) (hcl : cs.length = M * size) (h1 : ∀ u ∈ cs, u.oneCell' = true) (hby : bytes ≤ 64) (hl : N + M ≤ 1000000) (hok : okf m fs d n = true)
    (h : ∀ a' c' act w', St n (w0.withS (w0.S.set k (true, .own (.slice a' (N + M) c') E size (N + M) (xs ++ cs)))) (putf m fs d (.slice a' (N + M) c')) bs act w' → K act w') : o.wp P a w K Q :=
  app_core hs m k hF ho hd hx hy hk (celv_news (hs.row hk2)) hu hi hzs hs0 hcl h1 hby hl hok h
theorem St.toOwn (hs : St n w0 fs bs a w) (ms : Option Nat) (k : Nat) {g : Nat} {E : TypeId} {size N c : Nat} {cs xs : List Value} (hb : bs[k]? = some (true, g, E, cs)) (hc : cs.length = c * size) (hN : N ≤ c) (hm : c ≤ maxLen) (hx : cs.take (N * size) = xs) (hok : okS ms w0.S 1 = true) :
    St n (w0.withS (putS ms w0.S [.own (.slice (some ⟨g, 0, none⟩) N c) E size N xs])) fs (bs.set k (false, g, E, cs)) a w := by
  have hbk := hs.blks k _ hb rfl
  have key : ∀ (i : Nat) (e : Bl), (bs.set k (false, g, E, cs))[i]? = some e → e.1 = true → bs[i]? = some e ∧ i ≠ k := by
    intro i e h h1
    rw [List.getElem?_set] at h
    split at h
    · split at h
      · obtain rfl := Option.some.inj h; cases h1
      · cases h
    · rename_i hik; exact ⟨h, fun e => hik e.symm⟩
  have h0 : St n w0 fs (bs.set k (false, g, E, cs)) a w :=
    ⟨hs.size, hs.defers, hs.slots, fun i e h h1 => hs.blks i e (key i e h h1).1 h1, fun i j e e' hij h h' h1 h1' => hs.apart i j e e' hij (key i e h h1).1 (key j e' h' h1').1 h1 h1', hs.below, fun p hp => ⟨(hs.frz p hp).1, fun i e h h1 => (hs.frz p hp).2 i e (key i e h h1).1 h1⟩,
      fun i e h h1 => Fz.ok_mono (fun _ _ h => h) (fun x hx _ => ⟨⟨hx.1, fun j b hj hb1 => hx.2.1 j b (key j b hj hb1).1 hb1, hx.2.2⟩, rfl⟩) (hs.fz i e h h1)⟩
  have hlen : xs.length = N * size := by
    rw [← hx, List.length_take, hc]
    exact Nat.min_eq_left (Nat.mul_le_mul_right _ hN)
  have hrow : w.ownsRow 0 E size (.slice (some ⟨g, 0, none⟩) N c) N xs :=
    ⟨hlen, .inr ⟨g, c, cs.toArray, rfl, Nat.zero_le _, hbk.1, hN, hm, by simpa using hc, by simpa using hx⟩⟩
  have hz : Zall w0 (bs.set k (false, g, E, cs)) g := by
    refine ⟨.inr hbk.2, fun j b hj hb1 => ?_, fun j e hj he ho => ?_⟩
    · obtain ⟨h1, h2⟩ := key j b hj hb1
      exact hs.apart j k b (true, g, E, cs) h2 h1 hb hb1 rfl
    · exact (Fz.ok_lt (hs.fz j e hj he) ho).2.1.2.1 k _ hb rfl rfl
  obtain ⟨kk, pkey⟩ := putS_get (m := ms) (S := w0.S) (l := [.own (.slice (some ⟨g, 0, none⟩) N c) E size N xs]) hok
  refine ⟨h0.size, h0.defers, h0.slots, h0.blks, h0.apart, h0.below, h0.frz, fun i e h h1 => ?_⟩
  rcases pkey i e h with ⟨hki, _, hLi⟩ | ⟨hS, hno⟩
  · have hi0 : i - kk = 0 := by
      have := (List.getElem?_eq_some_iff.1 hLi).1
      simp at this; omega
    rw [hi0] at hLi
    obtain ⟨b, e2⟩ := e
    obtain rfl : Fz.own (.slice (some ⟨g, 0, none⟩) N c) E size N xs = e2 := by simpa using hLi
    refine ⟨hrow, fun g' hg' => ?_⟩
    obtain rfl : g = g' := by simpa [Value.ownBlock] using hg'
    refine ⟨⟨hz.1, hz.2.1, fun j e' hji hj he' => ?_⟩, hbk.2⟩
    rcases pkey j e' hj with ⟨hkj, _, hLj⟩ | ⟨hSj, _⟩
    · have := (List.getElem?_eq_some_iff.1 hLj).1
      simp at this; omega
    · exact hz.2.2 j e' hSj he'
  · refine Fz.ok_mono (fun _ _ h => h) (fun x hx hlt => ⟨⟨hx.1, fun j b hj hb1 => hx.2.1 j b (key j b hj hb1).1 hb1, fun j e' hji hj he' => ?_⟩, rfl⟩) (hs.fz i e hS h1)
    rcases pkey j e' hj with ⟨hkj, _, hLj⟩ | ⟨hSj, _⟩
    · have hj0 : j - kk = 0 := by
        have := (List.getElem?_eq_some_iff.1 hLj).1
        simp at this; omega
      rw [hj0] at hLj
      have : Fz.own (.slice (some ⟨g, 0, none⟩) N c) E size N xs = e'.2 := by simpa using hLj
      rw [← this]
      intro hgx
      have hgx' : g = x := by simpa [Fz.owns, Value.ownBlock] using hgx
      exact hx.2.1 k _ hb rfl hgx'
    · exact hx.2.2 j e' hji hSj he'
def byt (l : List UInt8) (j : Nat) : Nat := (l.getD j 0).toNat
theorem byt_lt (l : List UInt8) (j : Nat) : byt l j < 256 := UInt8.toNat_lt _
theorem bcs_length (l : List UInt8) : (bcs l).length = l.length := by simp [bcs]
theorem bcs_get {l : List UInt8} {j : Nat} (h : j < l.length) : (bcs l)[j]? = some (.int .u8 (byt l j : Int)) := by
  simp [bcs, byt, h]
theorem bcs_part (l : List UInt8) (i k : Nat) : ((bcs l).drop (i * 1)).take (k * 1) = bcs ((l.drop i).take k) := by
  simp [bcs, List.map_drop, List.map_take]
theorem bcs_one (l : List UInt8) : ∀ u ∈ bcs l, u.oneCell' = true := by
  intro u hu
  obtain ⟨b, _, rfl⟩ := List.mem_map.1 hu
  rfl
theorem bcs_len1 {l : List UInt8} {M : Nat} (h : M = l.length) : (bcs l).length = M * 1 := by rw [bcs_length, h, Nat.mul_one]
theorem bcs_append (l k : List UInt8) : bcs l ++ bcs k = bcs (l ++ k) := by simp [bcs]
theorem St.padS (hs : St n w0 fs bs a w) {e : Fz} : St n (w0.withS (w0.S ++ [(false, e)])) fs bs a w := by
  have key : ∀ (i : Nat) (x : Bool × Fz), (w0.S ++ [(false, e)])[i]? = some x → x.1 = true → w0.S[i]? = some x := by
    intro i x h h1
    rw [List.getElem?_append] at h
    split at h
    · exact h
    · obtain ⟨hlt, rfl⟩ := List.getElem?_eq_some_iff.1 h
      simp at h1
  exact ⟨hs.size, hs.defers, hs.slots, hs.blks, hs.apart, hs.below, hs.frz, fun i x h h1 => Fz.ok_mono (fun _ _ h => h) (fun g hg _ => ⟨⟨hg.1, hg.2.1, fun j y hji hj hy => hg.2.2 j y hji (key j y hj hy) hy⟩, rfl⟩) (hs.fz i x (key i x h h1) h1)⟩
theorem toList_beq (x y : ByteArray) : (x.toList == y.toList) = decide (x = y) := by
  rw [Bool.eq_iff_iff, beq_iff_eq, decide_eq_true_iff, ByteArray.toList_eq, ByteArray.toList_eq]
  exact ⟨fun h => ByteArray.ext (Array.toList_inj.1 h), fun h => h ▸ rfl⟩
abbrev txt (l : List UInt8) : ByteArray := ⟨l.toArray⟩
theorem txt_inj {l k : List UInt8} : txt l = txt k ↔ l = k := by
  constructor
  · intro h
    have := congrArg ByteArray.data h
    simpa using this
  · intro h; rw [h]
theorem bin_eqlT {T : TypeId} {l k : List UInt8} {b : Bool} (h : decide (l = k) = b) (w : World) : (binOp .eql T (.string (txt l)) (.string (txt k))).run P w = .ok (.bool b) w := by
  rw [binOp_string_eql, toList_beq, show decide (txt l = txt k) = decide (l = k) from decide_eq_decide.2 txt_inj, h]
  rfl
theorem bin_neqT {T : TypeId} {l k : List UInt8} {b : Bool} (h : decide (l = k) = !b) (w : World) : (binOp .neq T (.string (txt l)) (.string (txt k))).run P w = .ok (.bool b) w := by
  rw [binOp_string_neq, toList_beq, show decide (txt l = txt k) = decide (l = k) from decide_eq_decide.2 txt_inj, h, Bool.not_not]
  rfl
theorem op_convBS (hs : St n w0 fs bs a w) (m : Option Nat) (k : Nat) {T U E : TypeId} {x : Operand} {ad : Option Addr} {M c : Nat} {l : List UInt8} {d : Nat} (ho : o.op = .convert T U x) (hd : o.dst = some d) (hx : ev fs x = some (.slice ad M c))
    (hk : rowAt w0.S k = some (.slice ad M c, M, bcs l)) (hM : M = l.length) (hS : P.underlying T = some (.slice E)) (hE : P.underlying E = some (.int .u8)) (hD : P.underlying U = some .string) (hok : okf m fs d n = true)
    (h : ∀ a', St n w0 (putf m fs d (.string (txt l))) bs a' w → K a' w) : o.wp P a w K Q := by
  subst hM
  refine op_val hs m hd hok ?_ h
  unfold execOp
  rw [ho]
  simp only [hs.ev hx]
  rcases celv_news (hs.row hk) with ⟨rfl, h0, rfl⟩ | ⟨p, rfl, hn⟩
  · have : l = [] := List.length_eq_zero_iff.1 h0
    subst this
    have e : (convert T U (.slice none 0 0)).run P w = .ok (.string (txt [])) w := by
      rw [run_convert_bytes_string w T U E none 0 0 hS hE hD]
      simp [Conv.bytesToString]
      rfl
    simp [e, Sem.run_bind, Result.andThen]
  · have := run_convert_bytes_back (P := P) w T U E p c l hS hE hD (fun j hj => by
      have h2 := hn j (.int .u8 (l[j].toNat : Int)) (by simp [bcs, hj])
      exact h2)
    simp [this, Sem.run_bind, Result.andThen]
theorem op_appR (hs : St n w0 fs bs a w) (m : Option Nat) (k k2 : Nat) {x y : Operand} {T E : TypeId} {z v : Value} {size bytes N M c N' : Nat} {ad : Option Addr} {xs cs ys : List Value} {d : Nat}
    (ho : o.op = .call ⟨.builtin .append, #[x, y], #[T, T]⟩) (hd : o.dst = some d) (hx : ev fs x = some v) (hy : ev fs y = some (.slice ad M c)) (hk : w0.S[k]? = some (true, .own v E size N xs)) (hk2 : rowAt w0.S k2 = some (.slice ad M c, M, cs))
    (hu : P.underlying T = some (.slice E)) (hi : Inf P E z size bytes) (hzs : z.cells.size = size) (hs0 : 0 < size) (hcl : cs.length = M * size) (h1 : ∀ u ∈ cs, u.oneCell' = true) (hby : bytes ≤ 64) (hl : N + M ≤ 1000000) (hN : N + M = N') (hys : xs ++ cs = ys) (hF : w0.F = []) (hok : okf m fs d n = true)
    (h : ∀ a' c' act w', St n (w0.withS (w0.S.set k (true, .own (.slice a' N' c') E size N' ys))) (putf m fs d (.slice a' N' c')) bs act w' → K act w') : o.wp P a w K Q := by
  subst hN; subst hys
  exact op_appO hs m k k2 hF ho hd hx hy hk hk2 hu hi hzs hs0 hcl h1 hby hl hok h
theorem op_sliceR (hs : St n w0 fs bs a w) (m ms : Option Nat) (k i j : Nat) {T E : TypeId} {x : Operand} {lo hi : Option Operand} {ad : Option Addr} {z N c N' : Nat} {cs cs' : List Value} {d : Nat} (ho : o.op = .slice T x lo hi none) (hd : o.dst = some d) (hx : ev fs x = some (.slice ad N c))
    (hk : w0.S[k]? = some (true, .cel (.slice ad N c) N cs)) (hlo : lo = none ∧ i = 0 ∨ ∃ y κ, lo = some y ∧ ev fs y = some (.int κ (i : Int))) (hhi : hi = none ∧ j = N ∨ ∃ y κ, hi = some y ∧ ev fs y = some (.int κ (j : Int)))
    (hu : P.underlying T = some (.slice E)) (hz : ∀ w, (sizeOf E).run P w = .ok z w) (h1 : i ≤ j) (h2 : j ≤ N) (hN : j - i = N') (hc : (cs.drop (i * z)).take ((j - i) * z) = cs') (hokS : okS ms w0.S 1 = true) (hok : okf m fs d n = true)
    (hK : ∀ a', St n (w0.withS (putS ms w0.S [.cel (.slice (vsa ad c z i) N' (c - i)) N' cs'])) (putf m fs d (.slice (vsa ad c z i) N' (c - i))) bs a' w → K a' w) : o.wp P a w K Q := by
  subst hN; subst hc
  exact op_sliceC hs m ms k i j ho hd hx hk hlo hhi hu hz h1 h2 hokS hok hK
theorem St.ownLast (hs : St n w0 fs bs a w) (ms : Option Nat) {g : Nat} {E : TypeId} {size N c : Nat} {cs xs : List Value} {bs' : List Bl} (hbs : bs = bs' ++ [(true, g, E, cs)]) (hc : cs.length = c * size) (hN : N ≤ c) (hm : c ≤ maxLen) (hx : cs.take (N * size) = xs) (hok : okS ms w0.S 1 = true) :
    St n (w0.withS (putS ms w0.S [.own (.slice (some ⟨g, 0, none⟩) N c) E size N xs])) fs bs' a w := by
  subst hbs
  have h1 := hs.toOwn ms bs'.length (g := g) (E := E) (size := size) (N := N) (c := c) (cs := cs) (xs := xs) (by simp) hc hN hm hx hok
  have h2 := h1.takeb bs'.length
  have e : ((bs' ++ [(true, g, E, cs)]).set bs'.length (false, g, E, cs)).take bs'.length = bs' := by
    rw [List.take_set_of_le (Nat.le_refl _), List.take_left]
  rw [e] at h2
  exact h2
theorem op_bsO (hs : St n w0 fs bs a w) (m ms : Option Nat) {T E : TypeId} {ps : Array (Nat × Operand)} {l : Nat} {qs : List (Nat × Value)} {z : Value} {size bytes : Nat} {cs cs' : List Value} {d : Nat} (ho : o.op = .buildSlice T l ps) (hd : o.dst = some d)
    (hx : evs fs (ps.toList.map (·.2)) = some (qs.map (·.2))) (hi : ps.toList.map (·.1) = qs.map (·.1)) (hu : P.underlying T = some (.slice E)) (hI : Inf P E z size bytes) (hl : l * size ≤ 1000) (hl0 : 0 < l * size)
    (hf : Instr.fill (fun i => some (i * size, size)) ((Array.range (l * size)).map (z.cells[· % z.cells.size]!)) qs = some cs.toArray) (hlen : cs.length = l * size) (hc : cs = cs') (hokS : okS ms w0.S 1 = true) (hok : okf m fs d n = true)
    (h : ∀ a' act w', St n (w0.withS (putS ms w0.S [.own (.slice a' l l) E size l cs'])) (putf m fs d (.slice a' l l)) bs act w' → K act w') : o.wp P a w K Q := by
  subst hc
  obtain ⟨ie, hie, hz, hs1, _⟩ := hI
  have hmax : (1000001 : Nat) ≤ maxLen := by decide
  have hsz : 1 ≤ size := by
    rcases Nat.eq_zero_or_pos size with h0 | h0
    · rw [h0, Nat.mul_zero] at hl0; omega
    · exact h0
  have hll : l ≤ 1000 := Nat.le_trans (by have := Nat.mul_le_mul_left l hsz; omega) hl
  refine op_buildSlice hs m none (E := E) (l := l) (qs := qs) (cs := cs) ho hd hx hi (fun w => ?_) rfl hok fun g act w' hs' => ?_
  · refine run_buildSlice w T E l _ _ ie z hu hie hz ?_ ?_ ?_
    · rw [hs1]; omega
    · rw [hs1]; omega
    · rw [hs1]; exact hf
  · exact h (some ⟨g, 0, none⟩) act w' (hs'.ownLast ms rfl hlen (Nat.le_refl _) (by omega) (by rw [← hlen]; exact List.take_length) hokS)
theorem op_bsO0 (hs : St n w0 fs bs a w) (m ms : Option Nat) {T E : TypeId} {z : Value} {size bytes : Nat} {d : Nat} (ho : o.op = .buildSlice T 0 #[]) (hd : o.dst = some d) (hu : P.underlying T = some (.slice E)) (hI : Inf P E z size bytes)
    (hokS : okS ms w0.S 1 = true) (hok : okf m fs d n = true)
    (h : ∀ a' act w', St n (w0.withS (putS ms w0.S [.own (.slice a' 0 0) E size 0 []])) (putf m fs d (.slice a' 0 0)) bs act w' → K act w') : o.wp P a w K Q := by
  refine op_bs0 hs m none ho hd hu hI rfl hok fun g act w' hs' => ?_
  exact h (some ⟨g, 0, none⟩) act w' (hs'.ownLast ms (size := size) (N := 0) (c := 0) (xs := []) rfl (by simp) (Nat.le_refl _) (by decide) (by simp) hokS)
theorem op_makeO (hs : St n w0 fs bs a w) (m ms : Option Nat) {T E : TypeId} {x y : Operand} {z : Value} {size bytes c : Nat} {kl kc : IntKind} {d : Nat} (ho : o.op = .makeSlice T x y) (hd : o.dst = some d) (hx : ev fs x = some (.int kl ((0 : Nat) : Int))) (hy : ev fs y = some (.int kc (c : Int)))
    (hu : P.underlying T = some (.slice E)) (hI : Inf P E z size bytes) (hc : c ≤ 10000) (hzs : z.cells.size = size) (hs0 : 0 < size) (hs8 : size ≤ 8) (hby : bytes ≤ 64) (hokS : okS ms w0.S 1 = true) (hok : okf m fs d n = true)
    (h : ∀ a' act w', St n (w0.withS (putS ms w0.S [.own (.slice a' 0 c) E size 0 []])) (putf m fs d (.slice a' 0 c)) bs act w' → K act w') : o.wp P a w K Q := by
  obtain ⟨i, hi, hz, hs1, hb1⟩ := hI
  have hmax : (1000001 : Nat) ≤ maxLen := by decide
  have hsz : c * size ≤ 10000 * 8 := Nat.mul_le_mul hc hs8
  have hbz : bytes * c ≤ 64 * 10000 := Nat.mul_le_mul hby hc
  refine op_makeSlice hs m none (l := 0) (c := c) (cs := (madeCells z.cells (c * i.size)).toList) ho hd hx hy hu hi hz (Nat.zero_le _) ?_ ?_ ?_ (by simp) rfl hok fun g act w' hs' => ?_
  · rw [hs1]; omega
  · rw [hb1]; omega
  · omega
  · refine h (some ⟨g, 0, none⟩) act w' (hs'.ownLast ms rfl ?_ (Nat.zero_le _) (by omega) (by simp) hokS)
    rw [hs1]
    simp [madeCells]
theorem fill_one (x : Value) (z : Value) (hx : x.cells = #[x]) : Instr.fill (fun i => some (i * 1, 1)) ((Array.range (1 * 1)).map (z.cells[· % z.cells.size]!)) [(0, x)] = some [x].toArray := by
  simp [Instr.fill, hx, show Array.range 1 = #[0] from Array.ext' (by simp [List.range_succ])]
theorem fill_two (x y : Value) (z : Value) (hx : x.cells = #[x]) (hy : y.cells = #[y]) : Instr.fill (fun i => some (i * 1, 1)) ((Array.range (2 * 1)).map (z.cells[· % z.cells.size]!)) [(0, x), (1, y)] = some [x, y].toArray := by
  simp [Instr.fill, hx, hy, show Array.range 2 = #[0, 1] from Array.ext' (by simp [List.range_succ])]
theorem bcs_cons {x : Nat} {cs : List Value} {l : List UInt8} (h : x < 256) (hl : cs = bcs l) : Value.int .u8 (x : Int) :: cs = bcs (UInt8.ofNat x :: l) := by
  subst hl
  have : (UInt8.ofNat x).toNat = x := by simp; omega
  simp only [bcs, List.map_cons, this]
theorem bcs_lo {l : List UInt8} {i : Nat} : ((bcs l).drop (i * 1)).take ((l.length - i) * 1) = bcs (l.drop i) := by
  rw [bcs_part, List.take_of_length_le (by simp)]
theorem bcs_hi {l : List UInt8} {j : Nat} : ((bcs l).drop (0 * 1)).take ((j - 0) * 1) = bcs (l.take j) := by
  rw [bcs_part]; simp
theorem len_lo {l : List UInt8} {i : Nat} : l.length - i = (l.drop i).length := List.length_drop.symm
theorem len_hi {l : List UInt8} {j : Nat} (h : j ≤ l.length) : j - 0 = (l.take j).length := by simp; omega
theorem len_both {l : List UInt8} {i j : Nat} (h : i ≤ j) (h2 : j ≤ l.length) : j - i = ((l.drop i).take (j - i)).length := by simp; omega
def Sok (w : World) (Z : Nat → Prop) (B : Nat → Prop) (S : List (Bool × Fz)) : Prop := ∀ (i : Nat) (e : Bool × Fz), S[i]? = some e → e.1 = true → e.2.ok w Z B
theorem sok0 {w : World} {Z : Nat → Prop} {B : Nat → Prop} : Sok w Z B [] := fun i e h => by simp at h
theorem sokC {w : World} {Z : Nat → Prop} {B : Nat → Prop} {e : Fz} {S : List (Bool × Fz)} (h : e.ok w Z B) (hS : Sok w Z B S) : Sok w Z B ((true, e) :: S) := by
  intro i x hx h1
  cases i with
  | zero =>
    obtain rfl : (true, e) = x := by simpa using hx
    exact h
  | succ i => exact hS i x (by simpa using hx) h1
theorem byv_len {w : World} {Z : Nat → Prop} {ad : Option Addr} {N c : Nat} {l : List UInt8} (h : ByV w Z (.slice ad N c) l) : N = l.length := by
  obtain ⟨_, _, e, _⟩ := h
  simp at e; exact e.2.1
theorem byv_nil {w : World} {Z : Nat → Prop} : ByV w Z (.slice none 0 0) [] := celv_nil
theorem bysv_at {w : World} {Z : Nat → Prop} {vs : List Value} {ls : List (List UInt8)} (h : BysV w Z vs ls) {i : Nat} {l : List UInt8} (hl : ls[i]? = some l) : ∃ ad c, vs[i]? = some (.slice ad l.length c) := by
  have hi : i < vs.length := by rw [h.1]; exact (List.getElem?_eq_some_iff.1 hl).1
  obtain ⟨ad, c, e, _⟩ := h.2 i vs[i] l (by simp [hi]) hl
  exact ⟨ad, c, by simp [hi, e]⟩
theorem bysv_snoc {w : World} {Z : Nat → Prop} {vs : List Value} {ls : List (List UInt8)} {v : Value} {l : List UInt8} (h : BysV w Z vs ls) (hv : ByV w Z v l) : BysV w Z (vs ++ [v]) (ls ++ [l]) := by
  refine ⟨by simp [h.1], fun i u k hu hk => ?_⟩
  rw [List.getElem?_append] at hu hk
  rw [h.1] at hu
  split at hu
  · rename_i hlt
    rw [if_pos hlt] at hk
    exact h.2 i u k hu hk
  · rename_i hge
    rw [if_neg hge] at hk
    have h0 : i - ls.length = 0 := by
      have := (List.getElem?_eq_some_iff.1 hk).1
      simp at this; omega
    rw [h0] at hu hk
    obtain rfl : v = u := by simpa using hu
    obtain rfl : l = k := by simpa using hk
    exact hv
theorem bin_eqlNil {T E : TypeId} {ad : Option Addr} {N c : Nat} (hu : P.underlying T = some (.slice E)) (w : World) : (binOp .eql T (.slice ad N c) (.slice none 0 0)).run P w = .ok (.bool ad.isNone) w := by
  have h0 : ∀ d, (Op.equalIn (d + 1) T (.slice ad N c) (.slice none 0 0)).run P w = .ok ad.isNone w := by
    intro d
    cases ad <;> simp [Op.equalIn, run_underlying hu]
  have h := h0 9999
  simp only [binOp, Sem.run_bind, Op.equal, Op.maxDepth]
  rw [h]
  rfl
theorem byv_none {w : World} {Z : Nat → Prop} {ad : Option Addr} {N c : Nat} {l : List UInt8} (h : ByV w Z (.slice ad N c) l) (hn : ad.isNone = true) : l = [] := by
  obtain ⟨a', c', e, h1, _, h2, _⟩ := h
  simp at e
  obtain ⟨rfl, e2, rfl⟩ := e
  cases ad with
  | none => have := h2 rfl; exact List.length_eq_zero_iff.1 (by omega)
  | some _ => cases hn
theorem ret_nil {l : List UInt8} (h : l = []) : Value.slice none 0 0 = .slice none l.length 0 := by subst h; rfl
theorem St.nilBys (hs : St n w0 fs bs a w) (m : Option Nat) (hok : okS m w0.S 1 = true) : St n (w0.withS (putS m w0.S [.bys [] []])) fs bs a w :=
  hs.pushS m hok (okl1 ⟨rfl, fun i v l h => by simp at h⟩)
theorem St.snocBys (hs : St n w0 fs bs a w) (k kp : Nat) {vs : List Value} {ls ls' : List (List UInt8)} {v : Value} {l : List UInt8} (h : w0.S[k]? = some (true, .bys vs ls)) (hp : w0.S[kp]? = some (true, .cel v l.length (bcs l))) (hl : ls ++ [l] = ls') :
    St n (w0.withS (w0.S.set k (true, .bys (vs ++ [v]) ls'))) fs bs a w := by
  subst hl
  have key : ∀ (i : Nat) (x : Bool × Fz), (w0.S.set k (true, .bys (vs ++ [v]) (ls ++ [l])))[i]? = some x → (i = k ∧ x = (true, .bys (vs ++ [v]) (ls ++ [l]))) ∨ (i ≠ k ∧ w0.S[i]? = some x) := by
    intro i x hx
    rw [List.getElem?_set] at hx
    split at hx
    · rename_i hik
      split at hx
      · exact .inl ⟨hik.symm, by simpa using hx.symm⟩
      · cases hx
    · rename_i hik; exact .inr ⟨fun e => hik e.symm, hx⟩
  have z : ∀ i g, Zs w0 bs i g → Zs (w0.withS (w0.S.set k (true, .bys (vs ++ [v]) (ls ++ [l])))) bs i g := fun i g hg => ⟨hg.1, hg.2.1, fun j y hji hj hy ho' => by
    rcases key j y hj with ⟨_, rfl⟩ | ⟨_, h3⟩
    · cases ho'
    · exact hg.2.2 j y hji h3 hy ho'⟩
  refine ⟨hs.size, hs.defers, hs.slots, hs.blks, hs.apart, hs.below, hs.frz, fun i x hx h1 => ?_⟩
  rcases key i x hx with ⟨rfl, rfl⟩ | ⟨_, h2⟩
  · have h1' : BysV w (Zs w0 bs i) vs ls := hs.fz i _ h rfl
    have h2' : ByV w (Zs w0 bs i) v l := CelV.any (hs.fz kp _ hp rfl) fun g hg => ⟨hg.1, hg.2.1, fun j e hji hj hf => by
      by_cases hjk : j = kp
      · subst hjk
        rw [hp] at hj
        obtain rfl := Option.some.inj hj
        intro ho'; cases ho'
      · exact hg.2.2 j e hjk hj hf⟩
    exact Fz.ok_mono (e := .bys (vs ++ [v]) (ls ++ [l])) (fun _ _ h => h) (fun g hg _ => ⟨z i g hg, rfl⟩) (bysv_snoc h1' h2')
  · exact Fz.ok_mono (fun _ _ h => h) (fun g hg _ => ⟨z i g hg, rfl⟩) (hs.fz i _ h2 h1)
end
end Go.Proofs.Ytikkhkjndbicgaa

/- The contracts of number.Encode in the state kit's form. -/
namespace Go.Proofs.Ytikkhkjndbicgaa
open Go.RowKit
theorem okl1n {w : World} {Z : Nat → Prop} {B : Nat → Prop} {e : Fz} (h : e.ok w (fun g => Z g ∨ B g) B) : OkL w Z B [e] := by
  intro i e' he
  cases i with
  | zero =>
    obtain rfl : e = e' := by simpa using he
    exact Fz.ok_mono (fun _ _ h => h) (fun g hg _ => ⟨⟨hg, fun j e' hj he' => by
      cases j with
      | zero => exact absurd rfl hj
      | succ j => simp at he'⟩, rfl⟩) h
  | succ i => simp at he
theorem enc_len {n : Int} (hn1 : -9223372036854775808 ≤ n) (hn2 : n < 9223372036854775808) : (enc n).length ≤ 9 := by
  have h := le_length 8 n.natAbs (by omega)
  unfold enc sgn
  split
  · rename_i h0; simp
  · split
    · simp; omega
    · split
      · simp; omega
      · omega
end Go.Proofs.Ytikkhkjndbicgaa

/- Calls that write blocks of the caller's; calls that only look; lists of byte strings of one's own. -/
namespace Go.Proofs.Ytikkhkjndbicgaa
open Go.RowKit
structure Mem (w0 : Bs) (bs : List Bl) (w : World) : Prop where
  blks : ∀ (i : Nat) (e : Bl), bs[i]? = some e → e.1 = true → w.heap[e.2.1]? = some (.cells e.2.2.2.toArray e.2.2.1 (0, 0)) ∧ w0.B e.2.1
  apart : ∀ (i j : Nat) (e e' : Bl), i ≠ j → bs[i]? = some e → bs[j]? = some e' → e.1 = true → e'.1 = true → e.2.1 ≠ e'.2.1
  below : BelowX w0.X w0.w.heap.size w0.w w
  fz : ∀ (i : Nat) (e : Bool × Fz), w0.S[i]? = some e → e.1 = true → e.2.ok w (Zs w0 bs i) w0.B
def PostX {ρ : Type} (w : World) (Z X : Nat → Prop) (v : ρ → Value) (bf : ρ → List Bl) (E : ρ → List (Bool × Fz)) (e : Ending) (w' : World) : Prop :=
  ∃ r, e = .returned (v r) ∧ Mem ⟨w, [], E r, Z, X⟩ (bf r) w'
def selL {α : Type} (S : List α) : List Nat → Option (List α)
  | [] => some []
  | k :: ks => match S[k]?, selL S ks with
    | some e, some l => some (e :: l)
    | _, _ => none
theorem selL_get {α : Type} {S : List α} : ∀ {ks : List Nat} {S' : List α}, selL S ks = some S' → ∀ (i : Nat) (e : α), S'[i]? = some e → ∃ k, ks[i]? = some k ∧ S[k]? = some e
  | [], S', h, i, e, he => by
    obtain rfl : [] = S' := by simpa [selL] using h
    simp at he
  | k :: ks, S', h, i, e, he => by
    unfold selL at h
    split at h
    · rename_i e0 l h1 h2
      obtain rfl : e0 :: l = S' := by simpa using h
      cases i with
      | zero =>
        obtain rfl : e0 = e := by simpa using he
        exact ⟨k, rfl, h1⟩
      | succ i => exact selL_get h2 i e (by simpa using he)
    · cases h
def setAll {α : Type} (S : List α) : List Nat → List α → List α
  | k :: ks, e :: es => setAll (S.set k e) ks es
  | _, _ => S
theorem setAll_get {α : Type} : ∀ (ks : List Nat) (es S : List α), ks.length = es.length → ∀ (i : Nat) (x : α), (setAll S ks es)[i]? = some x → (∃ p : Nat, ks[p]? = some i ∧ es[p]? = some x) ∨ (S[i]? = some x ∧ i ∉ ks)
  | [], _, S, _, i, x, h => by
    right
    exact ⟨by simpa [setAll] using h, by simp⟩
  | k :: ks, [], _, hl, _, _, _ => by simp at hl
  | k :: ks, e :: es, S, hl, i, x, h => by
    rcases setAll_get ks es (S.set k e) (by simpa using hl) i x h with ⟨p, h1, h2⟩ | ⟨h1, h2⟩
    · exact .inl ⟨p + 1, by simpa using h1, by simpa using h2⟩
    · by_cases hik : i = k
      · subst hik
        left
        refine ⟨0, by simp, ?_⟩
        rw [List.getElem?_set] at h1
        simp at h1
        simp [h1.2]
      · right
        rw [List.getElem?_set, if_neg (fun e => hik e.symm)] at h1
        exact ⟨h1, by simp [hik, h2]⟩
theorem setAll_length {α : Type} : ∀ (ks : List Nat) (es S : List α), (setAll S ks es).length = S.length
  | [], _, S => by simp [setAll]
  | _ :: _, [], _ => by simp [setAll]
  | k :: ks, e :: es, S => by rw [setAll, setAll_length ks es, List.length_set]
theorem nd_ne {ks : List Nat} (h : ks.Nodup) {i j k : Nat} (hi : ks[i]? = some k) (hj : ks[j]? = some k) : i = j := by
  obtain ⟨l1, e1⟩ := List.getElem?_eq_some_iff.1 hi
  obtain ⟨l2, e2⟩ := List.getElem?_eq_some_iff.1 hj
  have hp := List.pairwise_iff_getElem.1 h
  rcases Nat.lt_trichotomy i j with hlt | heq | hlt
  · exact absurd (e1.trans e2.symm) (hp i j l1 l2 hlt)
  · exact heq
  · exact absurd (e2.trans e1.symm) (hp j i l2 l1 hlt)
section
variable {P : Program} {Q : Exit → Act → World → Prop} {K : Act → World → Prop} {a : Act} {w : World} {o : Oper} {n : Nat} {w0 : Bs} {fs : List Sl} {bs : List Bl}
theorem St.mem (hs : St n w0 fs bs a w) : Mem w0 bs w := ⟨hs.blks, hs.apart, hs.below, hs.fz⟩
theorem Mem.lt (h : Mem w0 bs w) {i : Nat} {e : Bl} (hi : bs[i]? = some e) (h1 : e.1 = true) : e.2.1 < w.heap.size := (Array.getElem?_eq_some_iff.1 (h.blks i e hi h1).1).1
theorem St.selB (hs : St n w0 fs bs a w) (kb : List Nat) {bs' : List Bl} (h : selL bs kb = some bs') (hnd : kb.Nodup) : St n w0 fs bs' a w := by
  have key := fun i e he => selL_get h i e he
  refine ⟨hs.size, hs.defers, hs.slots, fun i e he h1 => ?_, fun i j e e' hij he he' h1 h1' => ?_, hs.below, fun p hp => ⟨(hs.frz p hp).1, fun i e he h1 => ?_⟩, fun i e he h1 => ?_⟩
  · obtain ⟨k, _, hk⟩ := key i e he
    exact hs.blks k e hk h1
  · obtain ⟨k, h2, hk⟩ := key i e he
    obtain ⟨k', h2', hk'⟩ := key j e' he'
    exact hs.apart k k' e e' (fun e0 => hij (nd_ne hnd h2 (e0 ▸ h2'))) hk hk' h1 h1'
  · obtain ⟨k, _, hk⟩ := key i e he
    exact (hs.frz p hp).2 k e hk h1
  · refine Fz.ok_mono (fun _ _ h => h) (fun g hg _ => ⟨⟨hg.1, fun j b hj hb1 => ?_, hg.2.2⟩, rfl⟩) (hs.fz i e he h1)
    obtain ⟨k, _, hk⟩ := key j b hj
    exact hg.2.1 k b hk hb1
theorem enterX {f : FuncId} {fn : Func} {c : Code} {args : List Value} {w : World} {R : Ending → World → Prop} {n : Nat} {S : List (Bool × Fz)} {Z X : Nat → Prop} {bs : List Bl} (hf : P.funcs[f]? = some fn) (hb : fn.body = some c) (hn : fn.ntmps = n) (hle : args.length ≤ n)
    (hm : Mem ⟨w, [], S, Z, X⟩ bs w) (h : ∀ a, St n ⟨w, [], S, Z, X⟩ (idx 0 args) bs a w → c.wp P (bodyPost P fn R) a w) : Calls P f args.toArray w R := by
  refine calls_of_wp hf hb (h _ ⟨?_, rfl, ?_, hm.blks, hm.apart, hm.below, (fun p hp => nomatch hp), hm.fz⟩)
  · subst hn; simp; omega
  · intro t v h
    obtain ⟨_, h2⟩ := lk_idx args 0 t v h
    have hlt : t < args.length := (List.getElem?_eq_some_iff.1 h2).1
    rw [Array.getElem?_append_left (by simpa using hlt)]
    simpa using h2
def Xc (w0 : Bs) (bs : List Bl) (kb ks : List Nat) (g : Nat) : Prop :=
  (∃ j b, j ∈ kb ∧ bs[j]? = some b ∧ b.1 = true ∧ b.2.1 = g) ∨ ∃ j e, j ∈ ks ∧ w0.S[j]? = some e ∧ e.1 = true ∧ e.2.owns g
def Zc (w0 : Bs) (bs : List Bl) (kb ks : List Nat) (g : Nat) : Prop :=
  (w0.Z g ∨ w0.B g) ∧ (∀ (j : Nat) (b : Bl), bs[j]? = some b → b.1 = true → j ∉ kb → b.2.1 ≠ g) ∧ ∀ (j : Nat) (e : Bool × Fz), w0.S[j]? = some e → e.1 = true → j ∉ ks → ¬ e.2.owns g
theorem St.xlt (hs : St n w0 fs bs a w) {kb ks : List Nat} {g : Nat} (h : Xc w0 bs kb ks g) : g < w.heap.size ∧ w0.B g := by
  rcases h with ⟨j, b, _, hb, h1, rfl⟩ | ⟨j, e, _, he, h1, ho⟩
  · exact ⟨hs.lt hb h1, (hs.blks j b hb h1).2⟩
  · obtain ⟨l1, _, l3⟩ := Fz.ok_lt (hs.fz j e he h1) ho
    exact ⟨l1, l3⟩
theorem St.xblk (hs : St n w0 fs bs a w) {kb ks : List Nat} {i : Nat} {e : Bl} (hi : bs[i]? = some e) (h1 : e.1 = true) (hk : i ∉ kb) : ¬ Xc w0 bs kb ks e.2.1 := by
  rintro (⟨j, b, hj, hb, hb1, hg⟩ | ⟨j, x, hj, hx, hx1, ho⟩)
  · exact hs.apart j i b e (fun h => hk (h ▸ hj)) hb hi hb1 h1 hg
  · exact (Fz.ok_lt (hs.fz j x hx hx1) ho).2.1.2.1 i e hi h1 rfl
theorem xzs {kb ks : List Nat} {i g : Nat} (hz : Zs w0 bs i g) (hk : i ∉ ks) : ¬ Xc w0 bs kb ks g := by
  rintro (⟨j, b, hj, hb, hb1, hg⟩ | ⟨j, x, hj, hx, hx1, ho⟩)
  · exact hz.2.1 j b hb hb1 hg
  · exact hz.2.2 j x (fun h => hk (h ▸ hj)) hx hx1 ho
theorem St.toMem (hs : St n w0 fs bs a w) {kb ks : List Nat} {S1 : List (Bool × Fz)} {bs1 : List Bl} (hS1 : selL w0.S ks = some S1) (hb1 : selL bs kb = some bs1) (hnd : ks.Nodup) (hndb : kb.Nodup) :
    Mem ⟨w, [], S1, Zc w0 bs kb ks, Xc w0 bs kb ks⟩ bs1 w := by
  have keyS := fun i e he => selL_get hS1 i e he
  have keyB := fun i e he => selL_get hb1 i e he
  refine ⟨fun i e he h1 => ?_, fun i j e e' hij he he' h1 h1' => ?_, BelowX.refl _ _, fun i e he h1 => ?_⟩
  · obtain ⟨k, hk, hb⟩ := keyB i e he
    exact ⟨(hs.blks k e hb h1).1, .inr (.inl ⟨k, e, List.mem_of_getElem? hk, hb, h1, rfl⟩)⟩
  · obtain ⟨k, h2, hk⟩ := keyB i e he
    obtain ⟨k', h2', hk'⟩ := keyB j e' he'
    exact hs.apart k k' e e' (fun e0 => hij (nd_ne hndb h2 (e0 ▸ h2'))) hk hk' h1 h1'
  · obtain ⟨k, hk, hS⟩ := keyS i e he
    refine Fz.ok_mono (fun g ho _ => .inr (.inr ⟨k, e, List.mem_of_getElem? hk, hS, h1, ho⟩)) (fun g hg _ => ⟨⟨.inl ⟨hg.1, fun j b hj hb1 _ => hg.2.1 j b hj hb1, fun j x hj hx hjk => ?_⟩, fun j b hj hb1 => ?_, fun j x hji hj hx => ?_⟩, rfl⟩) (hs.fz k e hS h1)
    · exact hg.2.2 j x (fun e0 => hjk (e0 ▸ List.mem_of_getElem? hk)) hj hx
    · obtain ⟨k', _, hk'⟩ := keyB j b hj
      exact hg.2.1 k' b hk' hb1
    · obtain ⟨k', h2', hk'⟩ := keyS j x hj
      exact hg.2.2 k' x (fun e0 => hji (nd_ne hnd (e0 ▸ h2') hk)) hk' hx
theorem St.ofMem (hs : St n w0 fs bs a w) (hF : w0.F = []) {kb ks : List Nat} {E1 : List (Bool × Fz)} {E2 : List Fz} {bf bf2 : List Bl} {ms : Option Nat} {w' : World} (hE1 : ks.length = E1.length) (hbf : kb.length = bf.length) (hokS : okS ms (setAll w0.S ks E1) E2.length = true)
    (hm : Mem ⟨w, [], E1 ++ E2.map (true, ·), Zc w0 bs kb ks, Xc w0 bs kb ks⟩ (bf ++ bf2) w') :
    St n (w0.withS (putS ms (setAll w0.S ks E1) E2)) fs (setAll bs kb bf ++ bf2) a w' := by
  have hsz : w0.w.heap.size ≤ w.heap.size := hs.below.size
  have keyB : ∀ (i : Nat) (x : Bl), (setAll bs kb bf ++ bf2)[i]? = some x → (∃ p, (bf ++ bf2)[p]? = some x ∧ ((p < kb.length ∧ kb[p]? = some i) ∨ (kb.length ≤ p ∧ i = bs.length + (p - kb.length)))) ∨ (bs[i]? = some x ∧ i ∉ kb) := by
    intro i x hx
    rw [List.getElem?_append, setAll_length] at hx
    split at hx
    · rcases setAll_get kb bf bs hbf i x hx with ⟨p, h2, h3⟩ | h2
      · left
        have hp := (List.getElem?_eq_some_iff.1 h2).1
        exact ⟨p, by rw [List.getElem?_append_left (by omega)]; exact h3, .inl ⟨hp, h2⟩⟩
      · exact .inr h2
    · rename_i hge
      left
      refine ⟨kb.length + (i - bs.length), ?_, .inr ⟨by omega, by omega⟩⟩
      rw [List.getElem?_append_right (by omega), hbf, Nat.add_sub_cancel_left]
      exact hx
  obtain ⟨k0, pkey⟩ := putS_get hokS
  have keyS : ∀ (i : Nat) (x : Bool × Fz), (putS ms (setAll w0.S ks E1) E2)[i]? = some x → x.1 = true → (∃ p, (E1 ++ E2.map (true, ·))[p]? = some x ∧ ((p < ks.length ∧ ks[p]? = some i) ∨ (ks.length ≤ p ∧ i = k0 + (p - ks.length)))) ∨ (w0.S[i]? = some x ∧ i ∉ ks) := by
    intro i x hx h1
    rcases pkey i x hx with ⟨hki, _, hl⟩ | ⟨hS, _⟩
    · left
      refine ⟨ks.length + (i - k0), ?_, .inr ⟨by omega, by omega⟩⟩
      rw [List.getElem?_append_right (by omega), hE1, Nat.add_sub_cancel_left, List.getElem?_map, hl]
      obtain ⟨b, e⟩ := x
      simp only at h1
      subst h1
      rfl
    · rcases setAll_get ks E1 w0.S hE1 i x hS with ⟨p, h2, h3⟩ | h2
      · left
        have hp := (List.getElem?_eq_some_iff.1 h2).1
        exact ⟨p, by rw [List.getElem?_append_left (by omega)]; exact h3, .inl ⟨hp, h2⟩⟩
      · exact .inr h2
  have upB : ∀ g, Bn w.heap.size (Xc w0 bs kb ks) g → w0.B g := by
    rintro g (h | h)
    · exact .inl (Nat.le_trans hsz h)
    · exact (hs.xlt h).2
  have newne : ∀ g g', Bn w.heap.size (Xc w0 bs kb ks) g → g' < w.heap.size → ¬ Xc w0 bs kb ks g' → g ≠ g' := by
    rintro g g' (h | h) hlt hx rfl
    · omega
    · exact hx h
  refine ⟨hs.size, hs.defers, hs.slots, fun i e he h1 => ?_, fun i j e e' hij he he' h1 h1' => ?_, ?_, (fun p hp => by rw [hF] at hp; cases hp), fun i e he h1 => ?_⟩
  · rcases keyB i e he with ⟨p, hp, _⟩ | ⟨hb, hk⟩
    · exact ⟨(hm.blks p e hp h1).1, upB _ (hm.blks p e hp h1).2⟩
    · exact ⟨(hm.below.block _ (hs.lt hb h1) (hs.xblk hb h1 hk)).trans (hs.blks i e hb h1).1, (hs.blks i e hb h1).2⟩
  · rcases keyB i e he with ⟨p, hp, h2⟩ | ⟨hb, hk⟩ <;> rcases keyB j e' he' with ⟨q, hq, h3⟩ | ⟨hb', hk'⟩
    · refine hm.apart p q e e' (fun e0 => hij ?_) hp hq h1 h1'
      subst e0
      rcases h2 with ⟨h2, h4⟩ | ⟨h2, h4⟩ <;> rcases h3 with ⟨h3, h5⟩ | ⟨h3, h5⟩
      · rw [h4] at h5; exact Option.some.inj h5
      · omega
      · omega
      · omega
    · exact newne _ _ (hm.blks p e hp h1).2 (hs.lt hb' h1') (hs.xblk hb' h1' hk')
    · exact (newne _ _ (hm.blks q e' hq h1').2 (hs.lt hb h1) (hs.xblk hb h1 hk)).symm
    · exact hs.apart i j e e' hij hb hb' h1 h1'
  · refine hs.below.trans ⟨hm.below.os, hm.below.tape, hm.below.output, hm.below.size, fun k hk hx => hm.below.block k (Nat.lt_of_lt_of_le hk hsz) fun hX => ?_⟩
    rcases (hs.xlt hX).2 with h | h
    · have h' : w0.w.heap.size ≤ k := h
      omega
    · exact hx h
  · rcases keyS i e he h1 with ⟨p, hp, hpi⟩ | ⟨hS, hk⟩
    · refine Fz.ok_mono (fun g _ h => upB g h) (fun g hg _ => ⟨⟨?_, fun j b hj hb1 => ?_, fun j x hji hj hx => ?_⟩, rfl⟩) (hm.fz p e hp h1)
      · rcases hg.1 with h | h
        · exact h.1
        · exact .inr (upB g h)
      · rcases keyB j b hj with ⟨q, hq, _⟩ | ⟨hb, hkb⟩
        · exact hg.2.1 q b hq hb1
        · rcases hg.1 with h | h
          · exact h.2.1 j b hb hb1 hkb
          · exact (newne _ _ h (hs.lt hb hb1) (hs.xblk hb hb1 hkb)).symm
      · rcases keyS j x hj hx with ⟨q, hq, hqj⟩ | ⟨hSj, hkj⟩
        · refine hg.2.2 q x (fun e0 => hji ?_) hq hx
          subst e0
          rcases hpi with ⟨h2, h3⟩ | ⟨h2, h3⟩ <;> rcases hqj with ⟨h4, h5⟩ | ⟨h4, h5⟩
          · rw [h3] at h5; exact (Option.some.inj h5).symm
          · omega
          · omega
          · omega
        · rcases hg.1 with h | h
          · exact h.2.2 j x hSj hx hkj
          · intro ho
            obtain ⟨l1, l2, _⟩ := Fz.ok_lt (hs.fz j x hSj hx) ho
            exact newne _ _ h l1 (xzs l2 hkj) rfl
    · refine Fz.ok_mono (fun _ _ h => h) (fun g hg hlt => ⟨⟨hg.1, fun j b hj hb1 => ?_, fun j x hji hj hx => ?_⟩, hm.below.block g hlt (xzs hg hk)⟩) (hs.fz i e hS h1)
      · rcases keyB j b hj with ⟨q, hq, _⟩ | ⟨hb, hkb⟩
        · exact newne _ _ (hm.blks q b hq hb1).2 hlt (xzs hg hk)
        · exact hg.2.1 j b hb hb1
      · rcases keyS j x hj hx with ⟨q, hq, hqj⟩ | ⟨hSj, _⟩
        · intro ho
          exact newne _ _ (Fz.ok_lt (hm.fz q x hq hx) ho).2.2 hlt (xzs hg hk) rfl
        · exact hg.2.2 j x hji hSj hx
theorem op_callX {F : FuncId} {ρ : Type} (hs : St n w0 fs bs a w) (m ms : Option Nat) (kb ks : List Nat) {f : Operand} {xs : Array Operand} {ts : Array TypeId} {vs : List Value} {v : ρ → Value} {S1 : List (Bool × Fz)} {bs1 : List Bl} {E : ρ → List (Bool × Fz)} {E1 : ρ → List (Bool × Fz)} {E2 : ρ → List Fz} {bfA bf bf2 : ρ → List Bl} {d : Nat}
    (hF : w0.F = []) (ho : o.op = .call ⟨.value f, xs, ts⟩) (hd : o.dst = some d)
    (hf : ev fs f = some (.func (.func F) #[] #[])) (hx : evs fs xs.toList = some vs) (hcl : ∀ w, (callFunc F vs.toArray).run P w = .ok (.enter F vs.toArray) w)
    (hS1 : selL w0.S ks = some S1) (hb1 : selL bs kb = some bs1) (hnd : ks.Nodup) (hndb : kb.Nodup)
    (hc : ∀ Z X, Mem ⟨w, [], S1, Z, X⟩ bs1 w → Calls P F vs.toArray w (PostX w Z X v bfA E)) (hE : ∀ r, E r = E1 r ++ (E2 r).map (true, ·)) (hbA : ∀ r, bfA r = bf r ++ bf2 r) (hE1 : ∀ r, ks.length = (E1 r).length) (hbf : ∀ r, kb.length = (bf r).length)
    (hokS : ∀ r, okS ms (setAll w0.S ks (E1 r)) (E2 r).length = true) (hok : okf m fs d n = true)
    (h : ∀ r a' w', St n (w0.withS (putS ms (setAll w0.S ks (E1 r)) (E2 r))) (putf m fs d (v r)) (setAll bs kb (bf r) ++ bf2 r) a' w' → K a' w') : o.wp P a w K Q := by
  have hm : xs.map a.eval = vs.toArray := by
    have := hs.evs hx
    rw [← this, ← Array.toList_map]
  unfold Oper.wp execOp
  rw [ho]
  simp only [resolve, hs.ev hf, hm, Deferred.ofValue, Sem.run_bind, Sem.run_pure, Result.andThen_ok, invoke, Array.empty_append, Array.append_empty, hcl, Oper.upon_enter, hd]
  refine (hc _ _ (hs.toMem hS1 hb1 hnd hndb)).mono ?_
  rintro e w' ⟨r, rfl, hL⟩
  rw [hE, hbA] at hL
  exact h _ _ _ ((hs.ofMem hF (hE1 r) (hbf r) (hokS r) hL).put hok _)
theorem St.rowB (hs : St n w0 fs bs a w) {k : Nat} {G : Nat → Prop} {vs : List Value} {ls : List (List UInt8)} (h : w0.S[k]? = some (true, .bysO G vs ls) ∨ w0.S[k]? = some (true, .bys vs ls)) : BysV w (fun _ => True) vs ls := by
  rcases h with h | h
  · exact BysV.mono (hs.fz k _ h rfl).1 fun _ _ _ => ⟨trivial, rfl⟩
  · exact BysV.mono (hs.fz k _ h rfl) fun _ _ _ => ⟨trivial, rfl⟩
theorem St.nilBysO (hs : St n w0 fs bs a w) (m : Option Nat) (hok : okS m w0.S 1 = true) : St n (w0.withS (putS m w0.S [.bysO noX [] []])) fs bs a w :=
  hs.pushS m hok (okl1 ⟨⟨rfl, fun i v l h => by simp at h⟩, fun g hg => hg.elim⟩)
theorem okl1z {w : World} {Z : Nat → Prop} {B : Nat → Prop} {e : Fz} (h : e.ok w (fun g => Z g ∨ B g) B) : OkL w Z B [e] := by
  intro i e' he
  cases i with
  | zero =>
    obtain rfl : e = e' := by simpa using he
    exact Fz.ok_mono (fun _ _ h => h) (fun g hg _ => ⟨⟨hg, fun j e' hj he' => by
      cases j with
      | zero => exact absurd rfl hj
      | succ j => simp at he'⟩, rfl⟩) h
  | succ i => simp at he
theorem okl_own0 {w : World} {Z B : Nat → Prop} {E : TypeId} {size : Nat} : OkL w Z B [.own (.slice none 0 0) E size 0 []] := okl1 ⟨World.ownsRow_nil w _ E size, fun g hg => by cases hg⟩
theorem okl_nilO {w : World} {Z B : Nat → Prop} {E : TypeId} {l : List UInt8} (h : l = []) : OkL w Z B [.own (.slice none l.length 0) E 1 l.length (bcs l)] := by
  subst h; exact okl_own0
def GU (G : Nat → Prop) (v : Value) (g : Nat) : Prop := G g ∨ v.ownBlock = some g
theorem St.snocOwn (hs : St n w0 fs bs a w) (k kp : Nat) {G : Nat → Prop} {vs : List Value} {ls ls' : List (List UInt8)} {v : Value} {E : TypeId} {l : List UInt8} (h : w0.S[k]? = some (true, .bysO G vs ls)) (hp : w0.S[kp]? = some (true, .own v E 1 l.length (bcs l))) (hl : ls ++ [l] = ls') :
    St n (w0.withS ((w0.S.set k (true, .bysO (GU G v) (vs ++ [v]) ls')).set kp (false, .bys [] []))) fs bs a w := by
  subst hl
  have hkk : k ≠ kp := fun e => by subst e; rw [h] at hp; cases hp
  have key : ∀ (i : Nat) (x : Bool × Fz), ((w0.S.set k (true, .bysO (GU G v) (vs ++ [v]) (ls ++ [l]))).set kp (false, .bys [] []))[i]? = some x → x.1 = true → (i = k ∧ x = (true, .bysO (GU G v) (vs ++ [v]) (ls ++ [l]))) ∨ (i ≠ k ∧ i ≠ kp ∧ w0.S[i]? = some x) := by
    intro i x hx h1
    rw [List.getElem?_set] at hx
    split at hx
    · split at hx
      · obtain rfl := Option.some.inj hx
        cases h1
      · cases hx
    · rename_i hikp
      rw [List.getElem?_set] at hx
      split at hx
      · rename_i hik
        split at hx
        · exact .inl ⟨hik.symm, by simpa using hx.symm⟩
        · cases hx
      · rename_i hik; exact .inr ⟨fun e => hik e.symm, fun e => hikp e.symm, hx⟩
  have h1 := hs.fz k _ h rfl
  have h2 := hs.fz kp _ hp rfl
  refine ⟨hs.size, hs.defers, hs.slots, hs.blks, hs.apart, hs.below, hs.frz, fun i x hx hx1 => ?_⟩
  rcases key i x hx hx1 with ⟨rfl, rfl⟩ | ⟨hik, hikp, hS⟩
  · refine ⟨bysv_snoc (h1.1.mono fun g hg _ => ⟨.inl hg, rfl⟩) (own_cel h2.1 fun g hg => .inr hg), fun g hg => ?_⟩
    have fin : ∀ j0, (j0 = i ∨ j0 = kp) → Zs w0 bs j0 g → Zs (w0.withS ((w0.S.set i (true, .bysO (GU G v) (vs ++ [v]) (ls ++ [l]))).set kp (false, .bys [] []))) bs i g := fun j0 hj0 hz => ⟨hz.1, hz.2.1, fun j y hji hj hy ho => by
      rcases key j y hj hy with ⟨e, _⟩ | ⟨e1, e2, h3⟩
      · exact hji e
      · exact hz.2.2 j y (by rcases hj0 with rfl | rfl <;> assumption) h3 hy ho⟩
    rcases hg with hg | hg
    · obtain ⟨b1, b2, b3⟩ := h1.2 g hg
      exact ⟨b1, fin i (.inl rfl) b2, b3⟩
    · obtain ⟨b2, b1⟩ := h2.2 g hg
      refine ⟨b1, fin kp (.inr rfl) b2, ?_⟩
      rcases h2.1.2 with ⟨rfl, _⟩ | ⟨g', cap, cur, rfl, _, hh, _⟩
      · cases hg
      · have : g' = g := by simpa [Value.ownBlock] using hg
        subst this
        exact ⟨cur, E, hh⟩
  · refine Fz.ok_mono (fun _ _ h => h) (fun g hg _ => ⟨⟨hg.1, hg.2.1, fun j y hji hj hy ho => ?_⟩, rfl⟩) (hs.fz i x hS hx1)
    rcases key j y hj hy with ⟨rfl, rfl⟩ | ⟨_, _, h3⟩
    · rcases ho with ho | ho
      · exact hg.2.2 j _ hji h rfl ho
      · exact hg.2.2 kp _ (fun e => hikp e.symm) hp rfl ho
    · exact hg.2.2 j y hji h3 hy ho
theorem St.freezeB (hs : St n w0 fs bs a w) (k : Nat) {G : Nat → Prop} {vs : List Value} {ls : List (List UInt8)} (h : w0.S[k]? = some (true, .bysO G vs ls)) : St n (w0.withS (w0.S.set k (true, .bys vs ls))) fs bs a w :=
  hs.conS k h (fun Z hz => hz.1.mono fun g hg _ => ⟨(hz.2 g hg).2.1, rfl⟩) (fun g hg => by cases hg)
theorem St.toWrs (hs : St n w0 fs bs a w) (k : Nat) {G : Nat → Prop} {vs : List Value} {ls : List (List UInt8)} (h : w0.S[k]? = some (true, .bysO G vs ls)) : St n (w0.withS (w0.S.set k (true, .wrs G vs (ls.map List.length)))) fs bs a w := by
  refine hs.conS k h (fun Z hz => ⟨⟨by simpa using hz.1.1, fun i v n hv hn => ?_⟩, hz.2⟩) (fun g hg => hg)
  rw [List.getElem?_map, Option.map_eq_some_iff] at hn
  obtain ⟨l, hl, rfl⟩ := hn
  obtain ⟨ad, c, e, h1, h2, h3, h4⟩ := hz.1.2 i v l hv hl
  refine ⟨ad, c, e, h1, h2, h3, fun j hj => ?_⟩
  obtain ⟨g, off, e2, hg, hc⟩ := h4 j _ (bcs_get hj)
  exact ⟨g, off, _, e2, hg, hc⟩
theorem op_idxW (hs : St n w0 fs bs a w) (m : Option Nat) (k i : Nat) {G : Nat → Prop} {vs : List Value} {ns : List Nat} {T E : TypeId} {x y : Operand} {ad : Option Addr} {N c : Nat} {κ : IntKind} {j : Nat} {d : Nat} (ho : o.op = .indexAddr T x y) (hd : o.dst = some d) (hx : ev fs x = some (.slice ad N c)) (hy : ev fs y = some (.int κ (j : Int)))
    (hk : w0.S[k]? = some (true, .wrs G vs ns)) (hv : vs[i]? = some (.slice ad N c)) (hn : ns[i]? = some N) (hu : P.underlying T = some (.slice E)) (hz : ∀ w, (sizeOf E).run P w = .ok 1 w) (hj : j < N) (hok : okf m fs d n = true)
    (h : ∀ a', St n w0 (putf m fs d (vidx (.slice ad N c) j)) bs a' w → K a' w) : o.wp P a w K Q := by
  obtain ⟨ad', c', e, h1, h2, h3, h4⟩ := (hs.fz k _ hk rfl).1.2 i _ _ hv hn
  obtain ⟨g, off, u, rfl, _, _⟩ := h4 j hj
  refine op_val hs m hd hok ?_ h
  unfold execOp
  rw [ho]
  obtain ⟨rfl, rfl⟩ : ad = some ⟨g, off, none⟩ ∧ c = c' := by simpa using e
  have h1' : (0 : Int) ≤ (j : Int) ∧ (j : Int) < (N : Int) := ⟨by omega, by omega⟩
  simp [hs.ev hx, hs.ev hy, Instr.indexAt, asIntOf, Sem.run_bind, run_underlying hu, Result.andThen, hz, h1', hj, vidx]
theorem op_storeW (hs : St n w0 fs bs a w) (k i : Nat) {G : Nat → Prop} {vs : List Value} {ns : List Nat} {t : TypeId} {x y : Operand} {ad : Option Addr} {N c j : Nat} {u : Value} (hF : w0.F = []) (ho : o.op = .store t x y) (hd : o.dst = none)
    (hx : ev fs x = some (vidx (.slice ad N c) j)) (hy : ev fs y = some u) (hk : w0.S[k]? = some (true, .wrs G vs ns)) (hv : vs[i]? = some (.slice ad N c)) (hn : ns[i]? = some N) (hj : j < N) (hz : ∀ w, (sizeOf t).run P w = .ok 1 w) (hu : u.cells = #[u]) (h1 : u.oneCell' = true)
    (h : ∀ w', St n w0 fs bs a w' → K a w') : o.wp P a w K Q := by
  have hok := hs.fz k _ hk rfl
  obtain ⟨ad', c', e, hN, hm, hn0, hcell⟩ := hok.1.2 i _ _ hv hn
  obtain ⟨g, off, u0, rfl, hG, hc0⟩ := hcell j hj
  obtain ⟨rfl, rfl⟩ : ad = some ⟨g, off, none⟩ ∧ c = c' := by simpa using e
  obtain ⟨hB, hZ, cur, T, hblk⟩ := hok.2 g hG
  have hx' : a.eval x = .pointer (some ⟨g, off + j, none⟩) := by rw [hs.ev hx]; simp [vidx, Addr.add_mid]
  have hrun : (Instr.storeAt t (.pointer (some ⟨g, off + j, none⟩)) u).run P w = .ok () (w.setCells g (off + j) [u]) := by
    have := run_storeCells_cells (P := P) g (off + j) [u] 0 w (fun q hq => by
      have : q = 0 := by simpa using hq
      subst this
      simp only [Nat.add_zero]; rw [hc0]; rfl) (fun q hq => frozen_of_row w g _ _ T hblk) (fun v hv => by obtain rfl := List.mem_singleton.1 hv; exact h1)
    simp only [Nat.add_zero] at this
    simp only [Instr.storeAt, Instr.sureAddr, Sem.run_bind, Sem.run_pure, Result.andThen_ok, storeVar, hz, hu]
    simpa using this
  have hcells : ∀ p, w.cell? p ≠ none → (w.setCells g (off + j) [u]).cell? p ≠ none := by
    intro p hp
    by_cases hpe : p.block = g
    · obtain ⟨pb, po, ps⟩ := p
      simp only at hpe
      subst hpe
      cases hq : w.cell? ⟨pb, po, ps⟩ with
      | none => exact absurd hq hp
      | some z =>
        have hsp : ps = none := World.cell?_spot hq
        subst hsp
        have e1 := heap_setCells_at pb T [u] (off + j) w cur.toList (by simpa using hblk)
        rw [cell_of_row _ pb po _ T _ e1]
        rw [cell_of_row w pb po cur T _ hblk] at hq
        have : po < cur.size := (Array.getElem?_eq_some_iff.1 hq).1
        simp [wr_length, this]
    · rw [World.cell?_of_block (w := w) (heap_setCells_far g p.block hpe [u] (off + j) w)]
      exact hp
  unfold Oper.wp execOp
  rw [ho]
  simp only [hx', hs.ev hy, Sem.run_bind, hrun, Result.andThen_ok, Sem.run_pure, Oper.upon_skip, hd]
  obtain ⟨r1, r2, r3, r4⟩ := setCells_rest g [u] (off + j) w
  refine h _ ⟨hs.size, hs.defers, hs.slots, fun q e he he1 => ?_, hs.apart, ?_, (fun p hp => by rw [hF] at hp; cases hp), fun q e he he1 => ?_⟩
  · have hne : e.2.1 ≠ g := hZ.2.1 q e he he1
    exact ⟨(heap_setCells_far g _ hne _ _ w).trans (hs.blks q e he he1).1, (hs.blks q e he he1).2⟩
  · refine hs.below.trans ⟨r1, r2, r3, by rw [r4]; exact Nat.le_refl _, fun p hp hpx => heap_setCells_far g p (fun e => ?_) _ _ w⟩
    subst e
    rcases hB with hB | hB
    · have h' : w0.w.heap.size ≤ p := hB
      omega
    · exact hpx hB
  · by_cases hqk : q = k
    · subst hqk
      rw [hk] at he
      obtain rfl := Option.some.inj he
      refine ⟨⟨hok.1.1, fun i' v' n' hv' hn' => ?_⟩, fun g' hg' => ?_⟩
      · obtain ⟨ad, c, e, k1, k2, k3, k4⟩ := hok.1.2 i' v' n' hv' hn'
        refine ⟨ad, c, e, k1, k2, k3, fun j' hj' => ?_⟩
        obtain ⟨g', off', u', e2, hg', hc'⟩ := k4 j' hj'
        cases hq : (w.setCells g (off + j) [u]).cell? ⟨g', off' + j', none⟩ with
        | none => exact absurd hq (hcells _ (by rw [hc']; simp))
        | some z => exact ⟨g', off', z, e2, hg', hq⟩
      · obtain ⟨b1, b2, cur', T', b3⟩ := hok.2 g' hg'
        refine ⟨b1, b2, ?_⟩
        by_cases hgg : g' = g
        · subst hgg
          exact ⟨_, _, heap_setCells_at g' T [u] (off + j) w cur.toList (by simpa using hblk)⟩
        · exact ⟨cur', T', (heap_setCells_far g g' hgg _ _ w).trans b3⟩
    · refine Fz.ok_mono (fun _ _ h => h) (fun g' hg' _ => ⟨hg', heap_setCells_far g g' (fun e => ?_) _ _ w⟩) (hs.fz q e he he1)
      subst e
      exact hg'.2.2 k _ (fun e => hqk e.symm) hk rfl hG
end
end Go.Proofs.Ytikkhkjndbicgaa

/- More operations: bits of numbers, pointers, parts of rows with a room of their own, stores into rows of one's own, rows of integers beside the blocks. -/
namespace Go.Proofs.Ytikkhkjndbicgaa
open Go.RowKit
section
variable {P : Program} {k : IntKind} {T : TypeId} {x y z : Nat}
theorem bin_xorN (h : x ^^^ y = z) (hx : x < 2 ^ k.bits) (hy : y < 2 ^ k.bits) (hb : z < lid k) (w : World) : (binOp .xor T (.int k (x : Int)) (.int k (y : Int))).run P w = .ok (.int k (z : Int)) w := by
  have e : ((BitVec.ofInt k.bits (x : Int)) ^^^ (BitVec.ofInt k.bits (y : Int))).toNat = z := by
    rw [BitVec.toNat_xor, ofInt_nat _ _ hx, ofInt_nat _ _ hy, h]
  simp only [binOp, Op.intBits, e, wrapN hb]
  simp
theorem bin_shlZ {yk : IntKind} (h : x * 2 ^ y = z) (hy : y ≤ k.bits) (hb : z < lid k) (w : World) : (binOp .shl T (.int k (x : Int)) (.int yk (y : Int))).run P w = .ok (.int k (z : Int)) w := by
  have e : k.wrap ((x : Int) * 2 ^ (min y k.bits)) = (z : Int) := by
    rw [Nat.min_eq_left hy]
    have e1 : (x : Int) * 2 ^ y = ((x * 2 ^ y : Nat) : Int) := by simp
    rw [e1, h, wrapN hb]
  have hn : ¬ ((y : Int) < 0) := by omega
  simp [binOp, Op.shift, hn, e]
theorem un_not32 (hx : x < 4294967296) (w : World) : (Op.unary .xor (.int .u32 (x : Int))).run P w = .ok (.int .u32 ((4294967295 - x : Nat) : Int)) w := by
  have e1 : (BitVec.ofInt IntKind.u32.bits (IntKind.u32.max) ^^^ BitVec.ofInt IntKind.u32.bits (x : Int)).toNat = 4294967295 - x := by
    show (BitVec.ofInt 32 (IntKind.u32.max) ^^^ BitVec.ofInt 32 (x : Int)).toNat = 4294967295 - x
    have hm : BitVec.ofInt 32 (IntKind.u32.max) = BitVec.allOnes 32 := by decide
    rw [hm, BitVec.allOnes_xor, BitVec.toNat_not, ofInt_nat _ _ hx]
  have e2 : IntKind.u32.wrap (((4294967295 - x : Nat) : Int)) = ((4294967295 - x : Nat) : Int) := wrapN (by simp only [lid]; omega)
  simp only [Op.unary, Op.intBits, show IntKind.u32.signed = false from rfl, Bool.false_eq_true, if_false, e1, e2]
  rfl
theorem bin_subI {x y z : Int} (h : x - y = z) (h1 : -9223372036854775808 ≤ z) (h2 : z < 9223372036854775808) (w : World) : (binOp .sub T (.int .i64 x) (.int .i64 y)).run P w = .ok (.int .i64 z) w := by
  have e : IntKind.i64.wrap (x - y) = z := by rw [h]; simp [IntKind.wrap, IntKind.bits, IntKind.signed]; omega
  simp [binOp, Op.intArith, e]
theorem bin_addI {x y z : Int} (h : x + y = z) (h1 : -9223372036854775808 ≤ z) (h2 : z < 9223372036854775808) (w : World) : (binOp .add T (.int .i64 x) (.int .i64 y)).run P w = .ok (.int .i64 z) w := by
  have e : IntKind.i64.wrap (x + y) = z := by rw [h]; simp [IntKind.wrap, IntKind.bits, IntKind.signed]; omega
  simp [binOp, Op.intArith, e]
theorem conv_neg64 {S D : TypeId} {n : Nat} (hs : P.underlying S = some (.int .i64)) (hd : P.underlying D = some (.int .u64)) (h1 : 0 < n) (h2 : n ≤ 9223372036854775808) (w : World) : (convert S D (.int .i64 (-(n : Int)))).run P w = .ok (.int .u64 ((18446744073709551616 - n : Nat) : Int)) w := by
  have e : IntKind.u64.wrap (-(n : Int)) = ((18446744073709551616 - n : Nat) : Int) := by simp [IntKind.wrap, IntKind.bits, IntKind.signed]; omega
  simp [convert, run_underlying hs, run_underlying hd, Sem.run_bind, Result.andThen, Conv.intToInt, e]
theorem and31 {n : Nat} (h1 : 0 < n) (h2 : n < 32) : (18446744073709551616 - n) &&& 31 = 32 - n := by
  rw [show (31 : Nat) = 2 ^ 5 - 1 from rfl, Nat.and_two_pow_sub_one_eq_mod]
  omega
theorem bin_eqlP0 {p : Addr} {T E : TypeId} (hu : P.underlying T = some (.pointer E)) (w : World) : (binOp .eql T (.pointer (some p)) (.pointer none)).run P w = .ok (.bool false) w := by
  have h0 : ∀ d, (Op.equalIn (d + 1) T (.pointer (some p)) (.pointer none)).run P w = .ok false w := by
    intro d
    simp [Op.equalIn, run_underlying hu]
  have h := h0 9999
  simp only [binOp, Sem.run_bind, Op.equal, Op.maxDepth]
  rw [h]
  rfl
end
section
variable {P : Program} {Q : Exit → Act → World → Prop} {K : Act → World → Prop} {a : Act} {w : World} {o : Oper} {n : Nat} {w0 : Bs} {fs : List Sl} {bs : List Bl}
theorem op_nilCheck (hs : St n w0 fs bs a w) (m : Option Nat) {x : Operand} {p : Addr} {d : Nat} (ho : o.op = .nilCheck x) (hd : o.dst = some d) (hx : ev fs x = some (.pointer (some p))) (hok : okf m fs d n = true)
    (h : ∀ a', St n w0 (putf m fs d (.pointer (some p))) bs a' w → K a' w) : o.wp P a w K Q :=
  op_val hs m hd hok (by unfold execOp; rw [ho]; simp only [hs.ev hx]; rfl) h
theorem op_slice3 (hs : St n w0 fs bs a w) (m ms : Option Nat) (k i h c2 : Nat) {T E : TypeId} {x : Operand} {lo : Option Operand} {hi mx : Operand} {κ κ' : IntKind} {ad : Option Addr} {N c z : Nat} {cs : List Value} {d : Nat} (ho : o.op = .slice T x lo (some hi) (some mx)) (hd : o.dst = some d) (hx : ev fs x = some (.slice ad N c))
    (hk : w0.S[k]? = some (true, .cel (.slice ad N c) N cs)) (hlo : lo = none ∧ i = 0 ∨ ∃ y κ, lo = some y ∧ ev fs y = some (.int κ (i : Int))) (hhi : ev fs hi = some (.int κ (h : Int))) (hmx : ev fs mx = some (.int κ' (c2 : Int)))
    (hu : P.underlying T = some (.slice E)) (hz : ∀ w, (sizeOf E).run P w = .ok z w) (h1 : i ≤ h) (h2 : h ≤ N) (h3 : h ≤ c2) (h4 : c2 ≤ N) (hokS : okS ms w0.S 1 = true) (hok : okf m fs d n = true)
    (hK : ∀ a', St n (w0.withS (putS ms w0.S [.cel (.slice (vsa ad c2 z i) (h - i) (c2 - i)) (h - i) ((cs.drop (i * z)).take ((h - i) * z))])) (putf m fs d (.slice (vsa ad c2 z i) (h - i) (c2 - i))) bs a' w → K a' w) : o.wp P a w K Q := by
  have hall := hs.all hk rfl
  have hpart : CelV w (Zall w0 bs) (.slice (vsa ad c2 z i) (h - i) (c2 - i)) (h - i) ((cs.drop (i * z)).take ((h - i) * z)) := by
    obtain ⟨ad', c', e, hN, hc, hn, hcs⟩ := hall
    obtain ⟨rfl, rfl⟩ : ad = ad' ∧ c = c' := by simpa using e
    refine ⟨_, _, rfl, by omega, by omega, ?_, fun j u hu => ?_⟩
    · intro h0
      unfold vsa at h0
      split at h0
      · have := hn h0; omega
      · cases ad with
        | none => have := hn rfl; omega
        | some _ => cases h0
    · rw [List.getElem?_take] at hu
      split at hu
      · rename_i hj
        rw [List.getElem?_drop] at hu
        obtain ⟨g, off, rfl, hg, hcell⟩ := hcs _ u hu
        have hne : ¬ c2 = i := by
          intro hci
          have : h - i = 0 := by omega
          rw [this, Nat.zero_mul] at hj
          omega
        refine ⟨g, off + i * z, ?_, hg, ?_⟩
        · unfold vsa; rw [if_neg hne]; simp [Addr.add_mid]
        · rw [Nat.add_assoc]; exact hcell
      · cases hu
  have hc : N ≤ c := by
    obtain ⟨ad', c', e, hN, _⟩ := hall
    obtain ⟨rfl, rfl⟩ : ad = ad' ∧ c = c' := by simpa using e
    exact hN
  have hs' := hs.pushS ms (L := [.cel (.slice (vsa ad c2 z i) (h - i) (c2 - i)) (h - i) ((cs.drop (i * z)).take ((h - i) * z))]) hokS (okl1 hpart)
  refine op_val hs' m hd hok ?_ hK
  unfold execOp
  rw [ho]
  have e1 : (0 : Int) ≤ (h : Int) ∧ (h : Int) ≤ (c2 : Int) := ⟨by omega, by omega⟩
  have e2 : (0 : Int) ≤ (i : Int) ∧ (i : Int) ≤ (h : Int) := ⟨by omega, by omega⟩
  have e3 : (0 : Int) ≤ (c2 : Int) ∧ (c2 : Int) ≤ (c : Int) := ⟨by omega, by omega⟩
  have e4 : c2 ≤ c := by omega
  have e5 : h ≤ c2 := h3
  rcases hlo with ⟨rfl, rfl⟩ | ⟨y, κ2, rfl, hy⟩
  · simp [hs.ev hx, hs.ev hhi, hs.ev hmx, Instr.sliceAt, Instr.slice, Instr.sliceBounds, Instr.sliceBound, asIntOf, Sem.run_bind, run_underlying hu, Result.andThen, hz, e1, e3, e4, e5, vsa]
  · simp [hs.ev hx, hs.ev hhi, hs.ev hmx, hs.ev hy, Instr.sliceAt, Instr.slice, Instr.sliceBounds, Instr.sliceBound, asIntOf, Sem.run_bind, run_underlying hu, Result.andThen, hz, e1, e2, e3, e4, e5, h1, vsa]
theorem op_slice3B (hs : St n w0 fs bs a w) (m ms : Option Nat) (k N : Nat) {T E : TypeId} {x : Operand} {hi mx : Operand} {κ κ' : IntKind} {ad : Option Addr} {c : Nat} {l : List UInt8} {d : Nat} (ho : o.op = .slice T x none (some hi) (some mx)) (hd : o.dst = some d) (hx : ev fs x = some (.slice ad N c))
    (hk : w0.S[k]? = some (true, .cel (.slice ad N c) N (bcs l))) (hhi : ev fs hi = some (.int κ (N : Int))) (hmx : ev fs mx = some (.int κ' (N : Int)))
    (hu : P.underlying T = some (.slice E)) (hz : ∀ w, (sizeOf E).run P w = .ok 1 w) (hokS : okS ms w0.S 1 = true) (hok : okf m fs d n = true) (hN : N = l.length)
    (hK : ∀ a', St n (w0.withS (putS ms w0.S [.cel (.slice (vsa ad N 1 0) (N - 0) (N - 0)) (N - 0) (bcs l)])) (putf m fs d (.slice (vsa ad N 1 0) (N - 0) (N - 0))) bs a' w → K a' w) : o.wp P a w K Q := by
  refine op_slice3 hs m ms k 0 N N ho hd hx hk (.inl ⟨rfl, rfl⟩) hhi hmx hu hz (Nat.zero_le _) (Nat.le_refl _) (Nat.le_refl _) (Nat.le_refl _) hokS hok ?_
  have e : ((bcs l).drop (0 * 1)).take ((N - 0) * 1) = bcs l := by
    rw [bcs_part, hN]; simp
  rw [e]
  exact hK
theorem op_appF (hs : St n w0 fs bs a w) (m ms : Option Nat) (k k2 : Nat) {x y : Operand} {T E : TypeId} {z : Value} {size bytes N M c2 : Nat} {ad ad2 : Option Addr} {xs cs : List Value} {d : Nat}
    (ho : o.op = .call ⟨.builtin .append, #[x, y], #[T, T]⟩) (hd : o.dst = some d) (hx : ev fs x = some (.slice ad N N)) (hy : ev fs y = some (.slice ad2 M c2)) (hk : w0.S[k]? = some (true, .cel (.slice ad N N) N xs)) (hk2 : rowAt w0.S k2 = some (.slice ad2 M c2, M, cs))
    (hu : P.underlying T = some (.slice E)) (hi : Inf P E z size bytes) (hzs : z.cells.size = size) (hs0 : 0 < size) (hxl : xs.length = N * size) (hcl : cs.length = M * size) (h1 : ∀ u ∈ cs, u.oneCell' = true) (hby : bytes ≤ 64) (hl : N + M ≤ 1000000) {N' : Nat} {ys : List Value} (hN : N + M = N') (hys : xs ++ cs = ys) (hokS : okS ms w0.S 1 = true) (hok : okf m fs d n = true)
    (h : ∀ a' c' act w', St n (w0.withS (putS ms w0.S [.cel (.slice a' N' c') N' ys])) (putf m fs d (.slice a' N' c')) bs act w' → K act w') : o.wp P a w K Q := by
  subst hN; subst hys
  obtain ⟨i, hi, hz, hs1, hb1⟩ := hi
  subst hs1
  have hmax : (1000001 : Nat) ≤ maxLen := by decide
  have hall := hs.all hk rfl
  obtain ⟨ad', c', e, _, hcm, hn0, hcells⟩ := hall
  obtain ⟨rfl, rfl⟩ : ad = ad' ∧ N = c' := by simpa using e
  have hm : (#[x, y] : Array Operand).map a.eval = #[.slice ad N N, .slice ad2 M c2] := by simp [hs.ev hx, hs.ev hy]
  obtain ⟨ad2', c2', e2, _, hcm2, hn2, hcells2⟩ := hs.row hk2
  obtain ⟨rfl, rfl⟩ : ad2 = ad2' ∧ c2 = c2' := by simpa using e2
  have hnews : ∀ p, ad2 = some p → ∀ (j : Nat) (u : Value), cs[j]? = some u → w.cell? (p.add j) = some u := by
    intro p hp j u hu
    obtain ⟨g, off, e3, _, hc⟩ := hcells2 j u hu
    obtain rfl : p = ⟨g, off, none⟩ := by rw [hp] at e3; simpa using e3
    rw [Addr.add_mid]; exact hc
  have holds : ∀ p, ad = some p → ∀ (j : Nat) (u : Value), xs[j]? = some u → w.cell? (p.add j) = some u := by
    intro p hp j u hu
    obtain ⟨g, off, e3, _, hc⟩ := hcells j u hu
    obtain rfl : p = ⟨g, off, none⟩ := by rw [hp] at e3; simpa using e3
    rw [Addr.add_mid]; exact hc
  unfold Oper.wp execOp
  rw [ho]
  simp only [resolve, hm, Sem.run_bind, Sem.run_pure, Result.andThen_ok, invoke, builtin]
  by_cases hM : M = 0
  · subst hM
    have hcs : cs = [] := by simpa using hcl
    subst hcs
    have hrun : (Builtin.append_ #[T, T] o.type #[.slice ad N N, .slice ad2 0 c2]).run P w = .ok (.slice ad N N) w := by
      cases ad <;> cases ad2 <;> simp [Builtin.append_, run_underlying hu, sizeOf, typeInfo, hi, Builtin.lenOf, Builtin.firstCells, storeCells, loadCells, loadCellsFrom]
    rw [hrun]
    simp only [Result.andThen_ok, Sem.run_pure, Oper.upon_value, hd]
    have := hs.pushS ms (L := [.cel (.slice ad (N + 0) N) (N + 0) (xs ++ [])]) hokS (okl1 (by
      rw [List.append_nil, Nat.add_zero]
      exact ⟨ad, N, rfl, Nat.le_refl _, hcm, hn0, hcells⟩))
    exact h ad N _ _ (this.put hok _)
  · have hp2 : ∃ p, ad2 = some p := by
      cases ad2 with
      | none => have := hn2 rfl; omega
      | some p => exact ⟨p, rfl⟩
    obtain ⟨p2, rfl⟩ := hp2
    have hbt : (N + M) * i.bytes ≤ 140737488355328 := by
      have : (N + M) * i.bytes ≤ 1000000 * 64 := Nat.mul_le_mul hl (by rw [hb1]; exact hby)
      omega
    have fin : ∀ (c' : Nat) (rest : List Value), N + M ≤ c' → c' ≤ maxLen →
        St n (w0.withS (putS ms w0.S [.cel (.slice (some ⟨w.heap.size, 0, none⟩) (N + M) c') (N + M) (xs ++ cs)])) fs bs a (w.drew.alloc (.cells (xs.toArray ++ cs.toArray ++ rest.toArray) E)) := by
      intro c' rest hle hcm'
      have hbl : Below w.heap.size w (w.drew.alloc (.cells (xs.toArray ++ cs.toArray ++ rest.toArray) E)) := (Below.refl w.heap.size w).drew.alloc (Nat.le_refl _) _
      refine hs.addS hokS hbl (okl1z (e := .cel _ _ _) ⟨_, _, rfl, hle, hcm', (fun h => by cases h), fun j u hu => ⟨w.heap.size, 0, rfl, .inr (.inl (Nat.le_refl _)), ?_⟩⟩)
      have hat : (w.drew.alloc (.cells (xs.toArray ++ cs.toArray ++ rest.toArray) E)).heap[w.heap.size]? = some (.cells (xs.toArray ++ cs.toArray ++ rest.toArray) E (0, 0)) := heap_alloc_new w.drew _
      rw [Nat.zero_add, cell_of_row _ w.heap.size j _ E _ hat]
      have hlt := (List.getElem?_eq_some_iff.1 hu).1
      rw [← hu]
      have : xs.toArray ++ cs.toArray ++ rest.toArray = (xs ++ cs ++ rest).toArray := by simp
      rw [this]
      simp only [List.getElem?_toArray]
      rw [List.getElem?_append_left hlt]
    cases ad with
    | none =>
      have hN0 : N = 0 := hn0 rfl
      subst hN0
      have hx0 : xs = [] := by simpa using hxl
      subst hx0
      have hr := run_append_nil (P := P) (w := w) T o.type E i z hu hi hz p2 M c2 cs hcl (hnews p2 rfl) (by omega) (by omega) (by rw [Nat.zero_add] at hbt; omega)
      rw [hr]
      simp only [Result.andThen_ok, Sem.run_pure, Oper.upon_value, hd]
      have hf := fin (grownCap w M 0 E) (Builtin.zeroCells z.cells (grownCap w M 0 E - M)).toList (by rw [Nat.zero_add]; exact grownCap_ge w M 0 E) (grownCap_le_maxLen w M 0 E (by omega))
      simp only [Array.toArray_toList, Nat.zero_add, List.nil_append, Array.empty_append] at hf ⊢
      have h' := h (some ⟨w.heap.size, 0, none⟩) (grownCap w M 0 E)
      simp only [Nat.zero_add, List.nil_append] at h'
      exact h' _ _ (hf.put hok _)
    | some p1 =>
      have hr := run_append_grow (P := P) (w := w) T o.type E i z hu hi hz p1 N N xs hxl (holds p1 rfl) p2 M c2 cs hcl (hnews p2 rfl) (by omega) (by omega) (growslice_fits (by omega) hbt)
      rw [hr]
      simp only [Result.andThen_ok, Sem.run_pure, Oper.upon_value, hd]
      have hf := fin (grownCap w (N + M) N E) (Builtin.zeroCells z.cells (grownCap w (N + M) N E - (N + M))).toList (grownCap_ge w (N + M) N E) (grownCap_le_maxLen w (N + M) N E (by omega))
      simp only [Array.toArray_toList] at hf
      exact h _ _ _ _ (hf.put hok _)
theorem op_storeO (hs : St n w0 fs bs a w) (k : Nat) {t : TypeId} {x y : Operand} {v u : Value} {E : TypeId} {N j : Nat} {xs xs' : List Value} (hF : w0.F = []) (ho : o.op = .store t x y) (hd : o.dst = none)
    (hx : ev fs x = some (vidx v j)) (hy : ev fs y = some u) (hk : w0.S[k]? = some (true, .own v E 1 N xs)) (hj : j < N) (hz : ∀ w, (sizeOf t).run P w = .ok 1 w) (hu : u.cells = #[u]) (h1 : u.oneCell' = true) (hxs : xs.set j u = xs')
    (h : ∀ w', St n (w0.withS (w0.S.set k (true, .own v E 1 N xs'))) fs bs a w' → K a w') : o.wp P a w K Q := by
  subst hxs
  have hok := hs.fz k _ hk rfl
  rcases hok.1.2 with ⟨rfl, h0⟩ | ⟨g, cap, cur, rfl, _, hblk, hN, hcm, hcs, htk⟩
  · omega
  have hx' : a.eval x = .pointer (some ⟨g, j, none⟩) := by rw [hs.ev hx]; simp [vidx, Addr.add_mid]
  have hlen := hok.1.1
  have hjc : j < cur.size := by omega
  have hblk' : w.heap[g]? = some (.cells cur.toList.toArray E (0, 0)) := by simpa using hblk
  have hrun : (Instr.storeAt t (.pointer (some ⟨g, j, none⟩)) u).run P w = .ok () (w.setCells g j [u]) := by
    have := run_storeCells_cells (P := P) g j [u] 0 w (fun q hq => by
      have : q = 0 := by simpa using hq
      subst this
      simp only [Nat.add_zero]
      rw [cell_of_row w g j cur E _ hblk]
      simp [hjc]) (fun q hq => frozen_of_row w g _ _ E hblk) (fun v hv => by obtain rfl := List.mem_singleton.1 hv; exact h1)
    simp only [Nat.add_zero] at this
    simp only [Instr.storeAt, Instr.sureAddr, Sem.run_bind, Sem.run_pure, Result.andThen_ok, storeVar, hz, hu]
    simpa using this
  have hZB := hok.2 g rfl
  unfold Oper.wp execOp
  rw [ho]
  simp only [hx', hs.ev hy, Sem.run_bind, hrun, Result.andThen_ok, Sem.run_pure, Oper.upon_skip, hd]
  obtain ⟨r1, r2, r3, r4⟩ := setCells_rest g [u] j w
  have key : ∀ (q : Nat) (e : Bool × Fz), (w0.S.set k (true, .own (.slice (some ⟨g, 0, none⟩) N cap) E 1 N (xs.set j u)))[q]? = some e → (q = k ∧ e = (true, .own (.slice (some ⟨g, 0, none⟩) N cap) E 1 N (xs.set j u))) ∨ (q ≠ k ∧ w0.S[q]? = some e) := by
    intro q e he
    rw [List.getElem?_set] at he
    split at he
    · rename_i hqk
      split at he
      · exact .inl ⟨hqk.symm, by simpa using he.symm⟩
      · cases he
    · rename_i hqk; exact .inr ⟨fun e => hqk e.symm, he⟩
  have zup : ∀ i g', Zs w0 bs i g' → Zs (w0.withS (w0.S.set k (true, .own (.slice (some ⟨g, 0, none⟩) N cap) E 1 N (xs.set j u)))) bs i g' := fun i g' hg => ⟨hg.1, hg.2.1, fun q e hqi hq he ho' => by
    rcases key q e hq with ⟨rfl, rfl⟩ | ⟨_, h3⟩
    · exact hg.2.2 q _ hqi hk rfl ho'
    · exact hg.2.2 q e hqi h3 he ho'⟩
  refine h _ ⟨hs.size, hs.defers, hs.slots, fun q e he he1 => ?_, hs.apart, ?_, (fun p hp => by rw [hF] at hp; cases hp), fun q e he he1 => ?_⟩
  · have hne : e.2.1 ≠ g := hZB.1.2.1 q e he he1
    exact ⟨(heap_setCells_far g _ hne _ _ w).trans (hs.blks q e he he1).1, (hs.blks q e he he1).2⟩
  · refine hs.below.trans ⟨r1, r2, r3, by rw [r4]; exact Nat.le_refl _, fun p hp hpx => heap_setCells_far g p (fun e => ?_) _ _ w⟩
    subst e
    rcases hZB.2 with hB | hB
    · have h' : w0.w.heap.size ≤ p := hB
      omega
    · exact hpx hB
  · rcases key q e he with ⟨rfl, rfl⟩ | ⟨hqk, he0⟩
    · refine ⟨⟨by simp [hlen], .inr ⟨g, cap, (cur.toList.set j u).toArray, rfl, Nat.zero_le _, heap_setCells_at g E [u] j w cur.toList hblk', hN, hcm, by simp [hcs], ?_⟩⟩, fun g' hg' => ?_⟩
      · rw [← htk, List.take_set]
      · have : g = g' := by simpa [Value.ownBlock] using hg'
        subst this
        exact ⟨zup _ _ hZB.1, hZB.2⟩
    · refine Fz.ok_mono (fun _ _ h => h) (fun g' hg' _ => ⟨zup _ _ hg', heap_setCells_far g g' (fun e => ?_) _ _ w⟩) (hs.fz q e he0 he1)
      subst e
      exact hg'.2.2 k _ (fun e => hqk e.symm) hk rfl rfl
theorem ldv_tabs {κ : IntKind} {n : Nat} {f : Nat → Nat} {sp : List Value} : ldv true n (tab κ n f ++ sp) 0 = some (At κ n f) := by
  unfold ldv
  rw [show Nat.ble (0 + n) (tab κ n f ++ sp).length = true from Nat.ble_eq_true_of_le (by rw [List.length_append, tab_length]; omega)]
  simp only [cond_true, List.drop_zero]
  rw [List.take_left' (tab_length κ n f)]
theorem tab_ext {κ : IntKind} {n : Nat} {f g : Nat → Nat} (h : ∀ j, j < n → f j = g j) : tab κ n f = tab κ n g := by
  apply List.ext_getElem?
  intro j
  by_cases hj : j < n
  · rw [tab_get hj, tab_get hj, h j hj]
  · rw [List.getElem?_eq_none (by rw [tab_length]; omega), List.getElem?_eq_none (by rw [tab_length]; omega)]
theorem tabs_ext {κ : IntKind} {n : Nat} {f g : Nat → Nat} {sp : List Value} (h : ∀ j, j < n → f j = g j) : tab κ n f ++ sp = tab κ n g ++ sp := by rw [tab_ext h]
theorem tabs_tail {κ : IntKind} {n : Nat} {f : Nat → Nat} {sp : List Value} {j i z : Nat} {v : Value} (h : j = n + i) (hv : sp[i]? = some v) : ldv false z (tab κ n f ++ sp) j = some v := by
  subst h
  simp only [ldv, cond_false]
  rw [List.getElem?_append_right (by rw [tab_length]; omega), tab_length, Nat.add_sub_cancel_left, hv]
theorem tabs_tle {κ : IntKind} {n : Nat} {f : Nat → Nat} {sp : List Value} {j i : Nat} (h : j = n + i) (hi : i < sp.length) : Nat.ble (j + 1) (tab κ n f ++ sp).length = true :=
  Nat.ble_eq_true_of_le (by rw [List.length_append, tab_length]; omega)
theorem tabs_wr {κ : IntKind} {n : Nat} {f : Nat → Nat} {sp sp' : List Value} {j i : Nat} {v : Value} (h : j = n + i) (hs : sp.set i v = sp') : wr (tab κ n f ++ sp) j [v] = tab κ n f ++ sp' := by
  subst h; subst hs
  simp only [wr]
  rw [List.set_append_right _ _ (by rw [tab_length]; omega), tab_length, Nat.add_sub_cancel_left]
def btl (n : Nat) (f : Nat → Nat) : List UInt8 := (List.range n).map fun i => UInt8.ofNat (f i)
theorem btl_len (n : Nat) (f : Nat → Nat) : (btl n f).length = n := by simp [btl]
theorem bcs_btl {n : Nat} {f : Nat → Nat} (h : ∀ j, j < n → f j < 256) : bcs (btl n f) = tab .u8 n f := by
  unfold bcs btl tab
  rw [List.map_map]
  apply List.map_congr_left
  intro i hi
  have := h i (List.mem_range.1 hi)
  simp; omega
theorem St.arrCel (hs : St n w0 fs bs a w) (ms : Option Nat) (k : Nat) {g n0 : Nat} {T : TypeId} {f : Nat → Nat} (hb : bs[k]? = some (true, g, T, tab .u8 n0 f)) (hf : ∀ j, j < n0 → f j < 256) (hm : n0 ≤ 1000000) (hok : okS ms w0.S 1 = true) :
    St n (w0.withS (putS ms w0.S [.cel (.slice (some ⟨g, 0, none⟩) n0 n0) n0 (bcs (btl n0 f))])) fs (bs.set k (false, g, T, tab .u8 n0 f)) a w := by
  have hmax : (1000001 : Nat) ≤ maxLen := by decide
  have hbk := hs.blks k _ hb rfl
  have key : ∀ (i : Nat) (e : Bl), (bs.set k (false, g, T, tab .u8 n0 f))[i]? = some e → e.1 = true → bs[i]? = some e ∧ i ≠ k := by
    intro i e h h1
    rw [List.getElem?_set] at h
    split at h
    · split at h
      · obtain rfl := Option.some.inj h; cases h1
      · cases h
    · rename_i hik; exact ⟨h, fun e => hik e.symm⟩
  have h0 : St n w0 fs (bs.set k (false, g, T, tab .u8 n0 f)) a w :=
    ⟨hs.size, hs.defers, hs.slots, fun i e h h1 => hs.blks i e (key i e h h1).1 h1, fun i j e e' hij h h' h1 h1' => hs.apart i j e e' hij (key i e h h1).1 (key j e' h' h1').1 h1 h1', hs.below, fun p hp => ⟨(hs.frz p hp).1, fun i e h h1 => (hs.frz p hp).2 i e (key i e h h1).1 h1⟩,
      fun i e h h1 => Fz.ok_mono (fun _ _ h => h) (fun x hx _ => ⟨⟨hx.1, fun j b hj hb1 => hx.2.1 j b (key j b hj hb1).1 hb1, hx.2.2⟩, rfl⟩) (hs.fz i e h h1)⟩
  refine h0.pushS ms hok (okl1 ⟨_, _, rfl, Nat.le_refl _, by omega, (fun h => by cases h), fun j u hu => ⟨g, 0, rfl, ⟨.inr hbk.2, fun i e h h1 => ?_, fun i e h h1 ho => ?_⟩, ?_⟩⟩)
  · obtain ⟨h2, h3⟩ := key i e h h1
    exact hs.apart i k e _ h3 h2 hb h1 rfl
  · exact (Fz.ok_lt (hs.fz i e h h1) ho).2.1.2.1 k _ hb rfl rfl
  · rw [bcs_btl hf] at hu
    rw [Nat.zero_add, cell_of_row w g j _ T _ hbk.1]
    simpa using hu
theorem tab_oneC {κ : IntKind} {n : Nat} {f : Nat → Nat} : ∀ u ∈ tab κ n f, u.oneCell' = true := by
  intro u hu
  obtain ⟨i, _, rfl⟩ := List.mem_map.1 hu
  rfl
theorem res0 {fn : Func} (h : fn.results = #[]) : (results fn a.tmps).run P w = .ok (.tuple #[]) w := by
  rw [results_rv, h, show (#[] : Array ResultVar) = [].toArray from rfl, List.mapM_toArray]
  simp only [List.mapM_nil, map_eq_pure_bind, pure_bind, Sem.run_pure]
  rfl
end
end Go.Proofs.Ytikkhkjndbicgaa
