/- The contracts of wide.Cmp, of the reference's Cmp, of wide.From. -/
import Derived.Test.YtmpejkhffbonnaaWSub
namespace Go.Proofs.Ytmpejkhffbonnaa
open Go.RowKit

def cmpZ (a b : Nat) : Int := if a < b then -1 else if b < a then 1 else 0

theorem top_split (a k : Nat) : a / 2 ^ (64 * k) = 2 ^ 64 * (a / 2 ^ (64 * (k + 1))) + a / 2 ^ (64 * k) % 2 ^ 64 := by
  have e : 2 ^ (64 * (k + 1)) = 2 ^ (64 * k) * 2 ^ 64 := by rw [← Nat.pow_add]; congr 1
  rw [e, ← Nat.div_div_eq_div_mul]
  exact (Nat.div_add_mod _ _).symm
theorem lt_of_top {a b k : Nat} (h : a / 2 ^ (64 * (k + 1)) = b / 2 ^ (64 * (k + 1))) (hx : a / 2 ^ (64 * k) % 2 ^ 64 < b / 2 ^ (64 * k) % 2 ^ 64) : a < b := by
  have h1 := top_split a k
  have h2 := top_split b k
  rw [h] at h1
  have h3 : a / 2 ^ (64 * k) < b / 2 ^ (64 * k) := by omega
  refine Classical.byContradiction fun hn => ?_
  have := Nat.div_le_div_right (c := 2 ^ (64 * k)) (Nat.not_lt.1 hn)
  omega
theorem eq_of_top {a b k : Nat} (h : a / 2 ^ (64 * (k + 1)) = b / 2 ^ (64 * (k + 1))) (hx : a / 2 ^ (64 * k) % 2 ^ 64 = b / 2 ^ (64 * k) % 2 ^ 64) : a / 2 ^ (64 * k) = b / 2 ^ (64 * k) := by
  rw [top_split a k, top_split b k, h, hx]
theorem cmp_lt {a b : Nat} (h : a < b) : cmpZ a b = -1 := by unfold cmpZ; rw [if_pos h]
theorem cmp_gt {a b : Nat} (h : b < a) : cmpZ a b = 1 := by unfold cmpZ; rw [if_neg (by omega), if_pos h]
theorem cmp_eq {a b : Nat} (h : a = b) : cmpZ a b = 0 := by unfold cmpZ; rw [if_neg (by omega), if_neg (by omega)]
theorem ret_int {k : IntKind} {a b : Int} (h : a = b) : Ending.returned (.int k a) = .returned (.int k b) := by rw [h]
theorem ret_bool {a b : Bool} (h : a = b) : Ending.returned (.bool a) = .returned (.bool b) := by rw [h]
theorem bl_al {w X : World} (h : Below w.heap.size w X) (o : Obj) : Below w.heap.size w (X.alloc o) := h.alloc h.size o
theorem bl_tr {w X Y : World} (h : Below w.heap.size w X) (h2 : Below X.heap.size X Y) : Below w.heap.size w Y := h.trans (h2.mono h.size)

def CmpInv (N : Nat) (w : World) (a b : Nat) (i : Value) (wr : World) : Prop :=
  ∃ k : Nat, k ≤ 4 ∧ i = .int .i64 ((k : Int) - 1) ∧ Blk wr N 24 (Wc a) ∧ Blk wr (N + 1) 24 (Wc b) ∧ Below N w wr ∧ a / 2 ^ (64 * k) = b / 2 ^ (64 * k)

set_option maxHeartbeats 1000000 in
theorem cmp_any (w : World) (a b : Nat) (ha : a < 2 ^ 256) (hb : b < 2 ^ 256) :
    Calls Try.prog 77 #[W a, W b] w fun e w' => e = .returned (.int .i64 (cmpZ a b)) ∧ Below w.heap.size w w' := by
  have H0 : Hid (a / 2 ^ (64 * 4) = b / 2 ^ (64 * 4)) := by rw [Nat.div_eq_of_lt ha, Nat.div_eq_of_lt hb]; exact rfl
  clear ha hb
  go_enter Try.func77, Try.ntmps77
  go_wp2
  go_loopw [5] (fun i wr => CmpInv w.heap.size w a b i wr) (fun i _ => (intOf i + 1).toNat)
  case atStart =>
    exact ⟨4, by omega, rfl, (Blk.new w _ _ _ rfl).alloc _, Blk.new _ _ _ _ (by simp), bl_al (bl_al (Below.refl _ _) _) _, H0.out⟩
  case round =>
    obtain ⟨k, hk, rfl, b0, b1, hbl, hq⟩ := hrel
    have HQ := Lib.hid hq
    clear hq
    rcases k with _ | k
    · go_wp2
      go_ret
      exact ⟨ret_int (cmp_eq (by have := HQ.out; simpa using this)).symm, hbl⟩
    · obtain ⟨x, hx⟩ : ∃ x : Nat, a / 2 ^ (64 * k) % 2 ^ 64 = x := ⟨_, rfl⟩
      obtain ⟨y, hy⟩ : ∃ y : Nat, b / 2 ^ (64 * k) % 2 ^ 64 = y := ⟨_, rfl⟩
      have hlt : k < 4 := by omega
      have c0 : wr.cell? ⟨w.heap.size, k, none⟩ = some (.int .u64 (x : Int)) := by rw [b0.cell, arr_get (lim a) k hlt, ← hx]; rfl
      have c1 : wr.cell? ⟨w.heap.size + 1, k, none⟩ = some (.int .u64 (y : Int)) := by rw [b1.cell, arr_get (lim b) k hlt, ← hy]; rfl
      have HX := Lib.hid hx
      have HY := Lib.hid hy
      clear hx hy
      rcases Nat.lt_trichotomy x y with h | h | h
      · go_wp2
        go_region
        go_wp2
        go_ret
        exact ⟨ret_int (cmp_lt (lt_of_top HQ.out (by rw [HX.out, HY.out]; exact h))).symm, hbl.drew⟩
      · subst h
        go_wp2
        go_region
        go_wp2
        go_region
        go_wp2
        go_roundw
        case rel => exact ⟨k, by omega, rfl, b0, b1, hbl.drew.drew, eq_of_top HQ.out (by rw [HX.out, HY.out])⟩
        case measure => simp [intOf] <;> omega
      · have h2 : ¬ x < y := by omega
        go_wp2
        go_region
        go_wp2
        go_region
        go_wp2
        go_ret
        exact ⟨ret_int (cmp_gt (lt_of_top HQ.out.symm (by rw [HX.out, HY.out]; exact h))).symm, hbl.drew.drew⟩

set_option maxHeartbeats 1000000 in
theorem cmpR_any (w : World) (a b : Nat) (ha : a < 2 ^ 256) (hb : b < 2 ^ 256) :
    Calls Try.prog 80 #[W a, W b] w fun e w' => e = .returned (.int .i64 (cmpZ a b)) ∧ Below w.heap.size w w' := by
  have H0 : Hid (a / 2 ^ (64 * 4) = b / 2 ^ (64 * 4)) := by rw [Nat.div_eq_of_lt ha, Nat.div_eq_of_lt hb]; exact rfl
  clear ha hb
  go_enter Try.func80, Try.ntmps80
  go_wp2
  go_loopw [5] (fun i wr => CmpInv w.heap.size w a b i wr) (fun i _ => (intOf i + 1).toNat)
  case atStart =>
    exact ⟨4, by omega, rfl, (Blk.new w _ _ _ rfl).alloc _, Blk.new _ _ _ _ (by simp), bl_al (bl_al (Below.refl _ _) _) _, H0.out⟩
  case round =>
    obtain ⟨k, hk, rfl, b0, b1, hbl, hq⟩ := hrel
    have HQ := Lib.hid hq
    clear hq
    rcases k with _ | k
    · go_wp2
      go_ret
      exact ⟨ret_int (cmp_eq (by have := HQ.out; simpa using this)).symm, hbl⟩
    · obtain ⟨x, hx⟩ : ∃ x : Nat, a / 2 ^ (64 * k) % 2 ^ 64 = x := ⟨_, rfl⟩
      obtain ⟨y, hy⟩ : ∃ y : Nat, b / 2 ^ (64 * k) % 2 ^ 64 = y := ⟨_, rfl⟩
      have hlt : k < 4 := by omega
      have c0 : wr.cell? ⟨w.heap.size, k, none⟩ = some (.int .u64 (x : Int)) := by rw [b0.cell, arr_get (lim a) k hlt, ← hx]; rfl
      have c1 : wr.cell? ⟨w.heap.size + 1, k, none⟩ = some (.int .u64 (y : Int)) := by rw [b1.cell, arr_get (lim b) k hlt, ← hy]; rfl
      have HX := Lib.hid hx
      have HY := Lib.hid hy
      clear hx hy
      rcases Nat.lt_trichotomy x y with h | h | h
      · go_wp2
        go_region
        go_wp2
        go_ret
        exact ⟨ret_int (cmp_lt (lt_of_top HQ.out (by rw [HX.out, HY.out]; exact h))).symm, hbl.drew⟩
      · subst h
        go_wp2
        go_region
        go_wp2
        go_region
        go_wp2
        go_roundw
        case rel => exact ⟨k, by omega, rfl, b0, b1, hbl.drew.drew, eq_of_top HQ.out (by rw [HX.out, HY.out])⟩
        case measure => simp [intOf] <;> omega
      · have h2 : ¬ x < y := by omega
        go_wp2
        go_region
        go_wp2
        go_region
        go_wp2
        go_ret
        exact ⟨ret_int (cmp_gt (lt_of_top HQ.out.symm (by rw [HX.out, HY.out]; exact h))).symm, hbl.drew.drew⟩

end Go.Proofs.Ytmpejkhffbonnaa
