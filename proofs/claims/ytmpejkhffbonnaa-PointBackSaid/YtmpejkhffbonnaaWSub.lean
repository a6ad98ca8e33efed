/- The contract of wide.Sub. -/
import Derived.Test.YtmpejkhffbonnaaWAdd
import Derived.Shelf.Spec.BitsCarry
namespace Go.Proofs.Ytmpejkhffbonnaa
open Go.RowKit

/-- the borrow behind k words -/
def brw (a b k : Nat) : Nat := if a % 2 ^ (64 * k) < b % 2 ^ (64 * k) then 1 else 0
theorem brw_le (a b k : Nat) : brw a b k ≤ 1 := by unfold brw; split <;> omega

theorem brw_step2 (a b k : Nat) : (if a / 2 ^ (64 * k) % 2 ^ 64 < b / 2 ^ (64 * k) % 2 ^ 64 + brw a b k then 1 else 0) = brw a b (k + 1) := by
  have hp := Nat.two_pow_pos (64 * k)
  have e : 2 ^ (64 * (k + 1)) = 2 ^ (64 * k) * 2 ^ 64 := by rw [← Nat.pow_add]; congr 1
  unfold brw
  rw [e]
  generalize 2 ^ (64 * k) = A at *
  generalize (2 : Nat) ^ 64 = B at *
  have m1 : a % (A * B) = a % A + A * (a / A % B) := Nat.mod_mul
  have m2 : b % (A * B) = b % A + A * (b / A % B) := Nat.mod_mul
  rw [m1, m2]
  have h1 := Nat.mod_lt a hp
  have h2 := Nat.mod_lt b hp
  generalize a % A = ar at *
  generalize b % A = br at *
  generalize a / A % B = x
  generalize b / A % B = y
  rcases Nat.lt_trichotomy x y with h | h | h
  · have h3 : A * (x + 1) ≤ A * y := Nat.mul_le_mul_left A h
    rw [Nat.mul_add] at h3
    rw [if_pos (by omega), if_pos (by omega)]
  · subst h
    by_cases hb : ar < br
    · rw [if_pos hb, if_pos (by omega), if_pos (by omega)]
    · rw [if_neg hb, if_neg (by omega), if_neg (by omega)]
  · have h3 : A * (y + 1) ≤ A * x := Nat.mul_le_mul_left A h
    rw [Nat.mul_add] at h3
    rw [if_neg (by split <;> omega), if_neg (by omega)]

theorem brw_step1 (a b k : Nat) (hb : b < 2 ^ 256) (hk : k < 4) : (a / 2 ^ (64 * k) % 2 ^ 64 + 2 ^ 64 - b / 2 ^ (64 * k) % 2 ^ 64 - brw a b k) % 2 ^ 64 = (a + 2 ^ 256 - b) / 2 ^ (64 * k) % 2 ^ 64 := by
  have hp := Nat.two_pow_pos (64 * k)
  have hpB := Nat.two_pow_pos 64
  have hQ : (2 : Nat) ^ 256 = 2 ^ (64 * k) * (2 ^ 64 * 2 ^ (192 - 64 * k)) := by
    rw [← Nat.pow_add, ← Nat.pow_add]; congr 1; omega
  have hpQ := Nat.two_pow_pos (192 - 64 * k)
  rw [hQ] at hb ⊢
  unfold brw
  generalize 2 ^ (192 - 64 * k) = Q at *
  generalize 2 ^ (64 * k) = A at *
  generalize (2 : Nat) ^ 64 = B at *
  have hb2 : b / A < B * Q := Nat.div_lt_of_lt_mul hb
  have hb3 : b / A / B < Q := Nat.div_lt_of_lt_mul hb2
  have d1 := Nat.div_add_mod a A
  have d2 := Nat.div_add_mod b A
  have l1 := Nat.mod_lt a hp
  have l2 := Nat.mod_lt b hp
  have d3 := Nat.div_add_mod (a / A) B
  have d4 := Nat.div_add_mod (b / A) B
  have l3 := Nat.mod_lt (a / A) hpB
  have l4 := Nat.mod_lt (b / A) hpB
  generalize a % A = ar at *
  generalize b % A = br at *
  generalize a / A = a' at *
  generalize b / A = b' at *
  generalize a' % B = x at *
  generalize b' % B = y at *
  generalize a' / B = a2 at *
  generalize b' / B = b2 at *
  have key : ∀ c, c ≤ 1 → (a' + B * Q - b' - c) % B = (x + B - y - c) % B := by
    intro c hc
    obtain ⟨q, rfl⟩ : ∃ q, Q = b2 + 1 + q := ⟨Q - b2 - 1, by omega⟩
    have e1 : a' + B * (b2 + 1 + q) - b' - c = B * (a2 + q) + (x + B - y - c) := by
      rw [← d3, ← d4]
      simp only [Nat.mul_add, Nat.mul_one]
      omega
    rw [e1, Nat.mul_add_mod]
  have e0 : A * (B * Q) ≥ A * b' := Nat.mul_le_mul_left A (by omega)
  by_cases h : ar < br
  · rw [if_pos h, ← key 1 (by omega)]
    have e2 : a + A * (B * Q) - b = A * (a' + B * Q - b' - 1) + (A + ar - br) := by
      obtain ⟨t, ht⟩ : ∃ t, B * Q = b' + 1 + t := ⟨B * Q - b' - 1, by omega⟩
      rw [ht] at e0 ⊢
      rw [← d1, ← d2]
      have : a' + (b' + 1 + t) - b' - 1 = a' + t := by omega
      rw [this]
      simp only [Nat.mul_add, Nat.mul_one]
      omega
    rw [e2, Nat.mul_add_div hp, Nat.div_eq_of_lt (by omega : A + ar - br < A)]
    rfl
  · rw [if_neg h, ← key 0 (by omega)]
    have e2 : a + A * (B * Q) - b = A * (a' + B * Q - b') + (ar - br) := by
      obtain ⟨t, ht⟩ : ∃ t, B * Q = b' + 1 + t := ⟨B * Q - b' - 1, by omega⟩
      rw [ht] at e0 ⊢
      rw [← d1, ← d2]
      have : a' + (b' + 1 + t) - b' = a' + 1 + t := by omega
      rw [this]
      simp only [Nat.mul_add, Nat.mul_one]
      omega
    rw [e2, Nat.mul_add_div hp, Nat.div_eq_of_lt (by omega : ar - br < A)]
    rfl

/-- does a difference go below 0? -/
def bor (a b : Nat) : Nat := if a < b then 1 else 0

theorem run42 (x y b : Nat) (hb : b ≤ 1) (w : World) :
    (callFunc 96 #[.int .u64 (x : Int), .int .u64 (y : Int), .int .u64 (b : Int)]).run Try.prog w = .ok (.value (.tuple #[.int .u64 (((x + 18446744073709551616 - y - b) % 18446744073709551616 : Nat) : Int), .int .u64 ((if x < y + b then 1 else 0 : Nat) : Int)])) w := by
  rw [run_callFunc_extern Try.func96 (by kernel_rfl) (by kernel_rfl) (by kernel_rfl) (e := sub64Entry) (by kernel_rfl), run_sub64 x y b hb]
  rfl

def SubInv (N : Nat) (w : World) (a b : Nat) (i c : Value) (wr : World) : Prop :=
  ∃ (k : Nat) (g : Nat → Int), k ≤ 4 ∧ i = .int .i64 k ∧ c = .int .u64 (brw a b k : Int) ∧ Blk wr N 24 (Wc a) ∧ Blk wr (N + 1) 24 (Wc b) ∧ Blk wr (N + 2) 24 (arr fun _ => 0) ∧ Blk wr (N + 3) 24 (arr g) ∧
    Below N w wr ∧ ∀ j, j < k → g j = lim (a + 2 ^ 256 - b) j

theorem sub_any (w : World) (a b : Nat) (ha : a < 2 ^ 256) (hb : b < 2 ^ 256) :
    Calls Try.prog 82 #[W a, W b] w fun e w' => e = .returned (.tuple #[W ((a + 2 ^ 256 - b) % 2 ^ 256), .int .u64 (bor a b : Int)]) ∧ Below w.heap.size w w' := by
  have HA := Lib.hid ha
  have HB := Lib.hid hb
  clear ha hb
  go_enter Try.func82, Try.ntmps82
  go_wp2
  go_loopw [9, 7, 8] (fun i c _ wr => SubInv w.heap.size w a b i c wr) (fun i _ _ _ => 4 - (intOf i).toNat)
  case atStart =>
    refine ⟨0, fun _ => 0, by omega, rfl, ?_, ?_, ?_, ?_, ?_, ?_, fun j hj => by omega⟩
    · unfold brw; simp [Nat.mod_one]
    · exact (((Blk.new w _ _ _ rfl).alloc _).alloc _).alloc _
    · exact ((Blk.new _ _ _ _ (by simp)).alloc _).alloc _
    · exact (Blk.new _ _ _ _ (by simp)).alloc _
    · exact Blk.new _ _ _ _ (by simp)
    · exact ((((Below.refl _ _).alloc (Nat.le_refl _) _).alloc (by simp) _).alloc (by simp <;> omega) _).alloc (by simp <;> omega) _
  case round =>
    obtain ⟨k, g, hk, rfl, rfl, b0, b1, b2, b3, hbl, hg⟩ := hrel
    obtain ⟨cc, hcc⟩ : ∃ cc, brw a b k = cc := ⟨_, rfl⟩
    have hc1 : cc ≤ 1 := by rw [← hcc]; exact brw_le a b k
    rw [hcc]
    by_cases hlt : k < 4
    · obtain ⟨x, hx⟩ : ∃ x : Nat, a / 2 ^ (64 * k) % 2 ^ 64 = x := ⟨_, rfl⟩
      obtain ⟨y, hy⟩ : ∃ y : Nat, b / 2 ^ (64 * k) % 2 ^ 64 = y := ⟨_, rfl⟩
      have c0 : wr.cell? ⟨w.heap.size, k, none⟩ = some (.int .u64 (x : Int)) := by rw [b0.cell, arr_get (lim a) k hlt, ← hx]; rfl
      have c1 : wr.cell? ⟨w.heap.size + 1, k, none⟩ = some (.int .u64 (y : Int)) := by rw [b1.cell, arr_get (lim b) k hlt, ← hy]; rfl
      have c3 : wr.cell? ⟨w.heap.size + 1 + 1 + 1, k, none⟩ = some (.int .u64 (g k)) := by rw [b3.cell, arr_get g k hlt]
      have f3 : wr.frozen? ⟨w.heap.size + 1 + 1 + 1, k, none⟩ = false := b3.frozen k
      have hr := fun w => run42 x y cc hc1 w
      have HS1 := brw_step1 a b k HB.out hlt
      have HC1 := brw_step2 a b k
      rw [hx, hy, hcc] at HS1 HC1
      obtain ⟨S, hS⟩ : ∃ S : Nat, (x + 18446744073709551616 - y - cc) % 18446744073709551616 = S := ⟨_, rfl⟩
      obtain ⟨C, hC⟩ : ∃ C : Nat, (if x < y + cc then 1 else 0) = C := ⟨_, rfl⟩
      rw [hS, hC] at hr
      have HS : Hid ((S : Int) = lim (a + 2 ^ 256 - b) k) := by
        unfold lim
        rw [← HS1, ← hS]; exact rfl
      have HC : Hid (C = brw a b (k + 1)) := by rw [← HC1, ← hC]; exact rfl
      clear hS hC hx hy hcc HS1 HC1
      go_wp2
      go_region
      go_wp2
      go_roundw
      case rel =>
        refine ⟨k + 1, upd g k S, by omega, by go_num, ?_, b0.drew.far (by simp <;> omega) _, b1.drew.far (by simp <;> omega) _, b2.drew.far (by simp) _, ?_, hbl.drew.setCell (by simp <;> omega) _, ?_⟩
        · rw [HC.out]
        · rw [← arr_set g k hlt]
          exact b3.drew.set_ k _
        · intro j hj
          unfold upd
          by_cases hjk : j = k
          · subst hjk
            rw [if_pos rfl]
            exact HS.out
          · rw [if_neg hjk]
            exact hg j (by omega)
      case measure => simp [intOf]; omega
    · obtain rfl : k = 4 := by omega
      have e3 : arr g = Wc (a + 2 ^ 256 - b) := by
        unfold arr Wc
        rw [hg 0 (by omega), hg 1 (by omega), hg 2 (by omega), hg 3 (by omega)]
      rw [e3] at b3
      have c30 := b3.cell 0
      have c31 := b3.cell 1
      have c32 := b3.cell 2
      have c33 := b3.cell 3
      have c20 := b2.cell 0
      have c21 := b2.cell 1
      have c22 := b2.cell 2
      have c23 := b2.cell 3
      have f20 := b2.frozen 0
      have f21 := b2.frozen 1
      have f22 := b2.frozen 2
      have f23 := b2.frozen 3
      go_wp2
      refine bodyPost_ret (results_cu rfl rfl (b2.fill rfl _ _ _ _) rfl) rfl ⟨?_, (((hbl.setCell (by simp <;> omega) _).setCell (by simp <;> omega) _).setCell (by simp <;> omega) _).setCell (by simp <;> omega) _⟩
      rw [W_mod]
      show Ending.returned (.tuple #[W (a + 2 ^ 256 - b), .int .u64 (cc : Int)]) = _
      rw [← hcc]
      unfold brw bor
      rw [Nat.mod_eq_of_lt HA.out, Nat.mod_eq_of_lt HB.out]
end Go.Proofs.Ytmpejkhffbonnaa
