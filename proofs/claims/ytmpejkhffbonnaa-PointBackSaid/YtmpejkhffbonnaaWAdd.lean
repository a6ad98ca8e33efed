/- The contract of wide.Add. -/
import Derived.Test.YtmpejkhffbonnaaW0
namespace Go.Proofs.Ytmpejkhffbonnaa
open Go.RowKit

/-- the carry behind k words -/
def cry (a b k : Nat) : Nat := (a % 2 ^ (64 * k) + b % 2 ^ (64 * k)) / 2 ^ (64 * k)
theorem cry_le (a b k : Nat) : cry a b k ≤ 1 := by
  unfold cry
  have h := Nat.two_pow_pos (64 * k)
  have h1 := Nat.mod_lt a h
  have h2 := Nat.mod_lt b h
  generalize 2 ^ (64 * k) = A at *
  rw [Nat.div_le_iff_le_mul h]
  omega
theorem split_div (a A : Nat) (hA : 0 < A) : a / A * A + a % A = a := by rw [Nat.mul_comm]; exact Nat.div_add_mod a A
theorem cry_step (a b k : Nat) : ((a / 2 ^ (64 * k) % 2 ^ 64 + b / 2 ^ (64 * k) % 2 ^ 64 + cry a b k) % 2 ^ 64 = (a + b) / 2 ^ (64 * k) % 2 ^ 64) ∧
    (a / 2 ^ (64 * k) % 2 ^ 64 + b / 2 ^ (64 * k) % 2 ^ 64 + cry a b k) / 2 ^ 64 = cry a b (k + 1) := by
  have hp := Nat.two_pow_pos (64 * k)
  have e : 2 ^ (64 * (k + 1)) = 2 ^ (64 * k) * 2 ^ 64 := by rw [← Nat.pow_add]; congr 1
  unfold cry
  rw [e]
  generalize 2 ^ (64 * k) = A at *
  generalize (2 : Nat) ^ 64 = B at *
  have hsum : (a + b) / A = (a % A + b % A) / A + a / A + b / A := by
    have h1 := split_div a A hp
    have h2 := split_div b A hp
    have : a + b = (a % A + b % A) + A * (a / A + b / A) := by
      rw [Nat.mul_add, Nat.mul_comm A, Nat.mul_comm A]; omega
    rw [this, Nat.add_mul_div_left _ _ hp]; omega
  constructor
  · rw [hsum]
    generalize (a % A + b % A) / A = c
    generalize a / A = x
    generalize b / A = y
    have h1 : (x % B + y % B + c) % B = (x + y + c) % B := by simp only [Nat.add_mod, Nat.mod_mod]
    rw [h1]
    exact congrArg (· % B) (by omega)
  · have m1 : a % (A * B) = a % A + A * (a / A % B) := Nat.mod_mul
    have m2 : b % (A * B) = b % A + A * (b / A % B) := Nat.mod_mul
    have h3 : a % A + A * (a / A % B) + (b % A + A * (b / A % B)) = (a % A + b % A) + A * (a / A % B + b / A % B) := by rw [Nat.mul_add]; omega
    rw [m1, m2, ← Nat.div_div_eq_div_mul, h3, Nat.add_mul_div_left _ _ hp]
    generalize (a % A + b % A) / A = c
    generalize a / A % B = x
    generalize b / A % B = y
    exact congrArg (· / B) (by omega)

theorem run39 (x y c : Int) (hx : 0 ≤ x) (hy : 0 ≤ y) (hc0 : 0 ≤ c) (hc : c ≤ 1) (w : World) :
    (callFunc 81 #[.int .u64 x, .int .u64 y, .int .u64 c]).run Try.prog w = .ok (.value (.tuple #[.int .u64 ((x + y + c) % 18446744073709551616), .int .u64 ((x + y + c) / 18446744073709551616)])) w := by
  rw [run_callFunc_extern Try.func81 (by kernel_rfl) (by kernel_rfl) (by kernel_rfl) (e := add64Entry) (by kernel_rfl), run_add64 x y c hx hy hc0 hc]
  rfl

def AddInv (N : Nat) (w : World) (a b : Nat) (i c : Value) (wr : World) : Prop :=
  ∃ (k : Nat) (g : Nat → Int), k ≤ 4 ∧ i = .int .i64 k ∧ c = .int .u64 (cry a b k : Int) ∧ Blk wr N 24 (Wc a) ∧ Blk wr (N + 1) 24 (Wc b) ∧ Blk wr (N + 2) 24 (arr fun _ => 0) ∧ Blk wr (N + 3) 24 (arr g) ∧
    Below N w wr ∧ ∀ j, j < k → g j = lim (a + b) j

theorem add_any (w : World) (a b : Nat) (ha : a < 2 ^ 256) (hb : b < 2 ^ 256) :
    Calls Try.prog 53 #[W a, W b] w fun e w' => e = .returned (.tuple #[W ((a + b) % 2 ^ 256), .int .u64 (((a + b) / 2 ^ 256 : Nat) : Int)]) ∧ Below w.heap.size w w' := by
  have HA := Lib.hid ha
  have HB := Lib.hid hb
  clear ha hb
  go_enter Try.func53, Try.ntmps53
  go_wp2
  go_loopw [9, 7, 8] (fun i c _ wr => AddInv w.heap.size w a b i c wr) (fun i _ _ _ => 4 - (intOf i).toNat)
  case atStart =>
    refine ⟨0, fun _ => 0, by omega, rfl, ?_, ?_, ?_, ?_, ?_, ?_, fun j hj => by omega⟩
    · unfold cry; simp [Nat.mod_one]
    · exact (((Blk.new w _ _ _ rfl).alloc _).alloc _).alloc _
    · exact ((Blk.new _ _ _ _ (by simp)).alloc _).alloc _
    · exact (Blk.new _ _ _ _ (by simp)).alloc _
    · exact Blk.new _ _ _ _ (by simp)
    · exact ((((Below.refl _ _).alloc (Nat.le_refl _) _).alloc (by simp) _).alloc (by simp <;> omega) _).alloc (by simp <;> omega) _
  case round =>
    obtain ⟨k, g, hk, rfl, rfl, b0, b1, b2, b3, hbl, hg⟩ := hrel
    obtain ⟨cc, hcc⟩ : ∃ cc, cry a b k = cc := ⟨_, rfl⟩
    have hc1 : cc ≤ 1 := by rw [← hcc]; exact cry_le a b k
    rw [hcc]
    by_cases hlt : k < 4
    · obtain ⟨x, hx⟩ : ∃ x, lim a k = x := ⟨_, rfl⟩
      obtain ⟨y, hy⟩ : ∃ y, lim b k = y := ⟨_, rfl⟩
      have c0 : wr.cell? ⟨w.heap.size, k, none⟩ = some (.int .u64 x) := by rw [b0.cell, arr_get (lim a) k hlt, hx]
      have c1 : wr.cell? ⟨w.heap.size + 1, k, none⟩ = some (.int .u64 y) := by rw [b1.cell, arr_get (lim b) k hlt, hy]
      have c3 : wr.cell? ⟨w.heap.size + 1 + 1 + 1, k, none⟩ = some (.int .u64 (g k)) := by rw [b3.cell, arr_get g k hlt]
      have f3 : wr.frozen? ⟨w.heap.size + 1 + 1 + 1, k, none⟩ = false := b3.frozen k
      obtain ⟨S, hS⟩ : ∃ S, (x + y + (cc : Int)) % 18446744073709551616 = S := ⟨_, rfl⟩
      obtain ⟨C, hC⟩ : ∃ C, (x + y + (cc : Int)) / 18446744073709551616 = C := ⟨_, rfl⟩
      have hr := fun w => run39 x y cc (by rw [← hx]; exact lim_lo _ _) (by rw [← hy]; exact lim_lo _ _) (by omega) (by omega) w
      rw [hS, hC] at hr
      have HS := Lib.hid hS
      have HC := Lib.hid hC
      have HX := Lib.hid hx
      have HY := Lib.hid hy
      have HCC := Lib.hid hcc
      clear hS hC hx hy hcc
      go_wp2
      go_region
      go_wp2
      go_roundw
      case rel =>
        refine ⟨k + 1, upd g k S, by omega, by go_num, ?_, b0.drew.far (by simp <;> omega) _, b1.drew.far (by simp <;> omega) _, b2.drew.far (by simp) _, ?_, hbl.drew.setCell (by simp <;> omega) _, ?_⟩
        · rw [← HC.out, ← HX.out, ← HY.out, ← HCC.out, ← (cry_step a b k).2]
          unfold lim
          simp
        · rw [← arr_set g k hlt]
          exact b3.drew.set_ k _
        · intro j hj
          unfold upd
          by_cases hjk : j = k
          · subst hjk
            rw [if_pos rfl, ← HS.out, ← HX.out, ← HY.out, ← HCC.out]
            have := (cry_step a b j).1
            unfold lim
            rw [← this]
            simp
          · rw [if_neg hjk]
            exact hg j (by omega)
      case measure => simp [intOf]; omega
    · obtain rfl : k = 4 := by omega
      have e3 : arr g = Wc (a + b) := by
        unfold arr Wc
        rw [hg 0 (by omega), hg 1 (by omega), hg 2 (by omega), hg 3 (by omega)]
      rw [e3] at b3
      have c30 := b3.cell 0
      have c31 := b3.cell 1
      have c32 := b3.cell 2
      have c33 := b3.cell 3
      have c20 := b2.cell 0
      have c21 := b2.cell 1
      have c22 := b2.cell 2
      have c23 := b2.cell 3
      have f20 := b2.frozen 0
      have f21 := b2.frozen 1
      have f22 := b2.frozen 2
      have f23 := b2.frozen 3
      go_wp2
      refine bodyPost_ret (results_cu rfl rfl (b2.fill rfl _ _ _ _) rfl) rfl ⟨?_, (((hbl.setCell (by simp <;> omega) _).setCell (by simp <;> omega) _).setCell (by simp <;> omega) _).setCell (by simp <;> omega) _⟩
      rw [W_mod]
      show Ending.returned (.tuple #[W (a + b), .int .u64 (cc : Int)]) = _
      rw [← hcc]
      unfold cry
      rw [Nat.mod_eq_of_lt HA.out, Nat.mod_eq_of_lt HB.out]
end Go.Proofs.Ytmpejkhffbonnaa
