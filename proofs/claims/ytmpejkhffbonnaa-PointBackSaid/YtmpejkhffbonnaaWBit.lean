/- The contracts of wide.From, bit, twice, and the reference's Bit, twice. -/
import Derived.Test.YtmpejkhffbonnaaWFrom
import Derived.Laws.BitsAllLaws
namespace Go.Proofs.Ytmpejkhffbonnaa
open Go.RowKit

def bitN (a i : Nat) : Nat := a / 2 ^ i % 2
theorem bit_word (a i : Nat) : a / 2 ^ (64 * (i / 64)) % 2 ^ 64 / 2 ^ (i % 64) % 2 = bitN a i := by
  unfold bitN
  have hr : i % 64 < 64 := Nat.mod_lt _ (by omega)
  have e : (2 : Nat) ^ 64 = 2 ^ (i % 64) * (2 * 2 ^ (63 - i % 64)) := by
    rw [← Nat.pow_succ', ← Nat.pow_add]; congr 1; omega
  rw [e, Nat.mod_mul_right_div_self, Nat.mod_mod_of_dvd _ ⟨_, rfl⟩, Nat.div_div_eq_div_mul, ← Nat.pow_add, Nat.div_add_mod]
theorem and1 (x : Nat) (h : x < 18446744073709551616) : bits .and .u64 (x : Int) 1 = ((x % 2 : Nat) : Int) := by
  have := u64_and_nat x 1 h (by omega)
  rw [show ((1 : Nat) : Int) = 1 from rfl] at this
  rw [this, Nat.and_one_is_mod]

theorem bitR_any (w : World) (a i : Nat) (hi : i < 256) :
    Calls Try.prog 40 #[W a, .int .i64 (i : Int)] w fun e w' => e = .returned (.int .u64 (bitN a i : Int)) ∧ Below w.heap.size w w' := by
  have hb := bit_word a i
  obtain ⟨x, hx⟩ : ∃ x : Nat, a / 2 ^ (64 * (i / 64)) % 2 ^ 64 = x := ⟨_, rfl⟩
  have hx2 : x < 18446744073709551616 := by rw [← hx]; exact Nat.mod_lt _ (by decide)
  have c0 : (w.alloc (.cells (Wc a) 24)).cell? ⟨w.heap.size, i / 64, none⟩ = some (.int .u64 (x : Int)) := by
    rw [(Blk.new w _ _ _ rfl).cell, arr_get (lim a) (i / 64) (by omega), ← hx]; rfl
  rw [hx] at hb
  obtain ⟨p, hp⟩ : ∃ p : Nat, 2 ^ (i % 64) = p := ⟨_, rfl⟩
  have hp0 : 1 ≤ p := by rw [← hp]; exact Nat.two_pow_pos _
  have hp1 : p < 18446744073709551616 := by
    rw [← hp]; exact Nat.pow_lt_pow_right (n := 64) (by omega) (Nat.mod_lt _ (by omega))
  rw [hp] at hb
  have hw : IntKind.u64.wrap (2 ^ (i % 64)) = (p : Int) := by
    rw [← hp]; rw [← hp] at hp1; simp [IntKind.wrap, IntKind.bits, IntKind.signed]
    have : ((2 ^ (i % 64) : Nat) : Int) = (2 : Int) ^ (i % 64) := by simp
    rw [← this]; omega
  obtain ⟨q, hq⟩ : ∃ q : Nat, x / p = q := ⟨_, rfl⟩
  have hq1 : (x : Int) / (p : Int) = (q : Int) := by rw [← hq]; simp
  have hq2 : q ≤ 18446744073709551615 := by rw [← hq]; have := Nat.div_le_self x p; omega
  rw [hq] at hb
  have HB := Lib.hid hb
  clear hx hb hx2 hp hp1 hq
  go_enter Try.func40, Try.ntmps40
  go_wp2
  go_ret
  exact ⟨by rw [← HB.out]; rfl, bl_al (Below.refl _ _) _⟩

theorem or_even (x c : Nat) (hx : x < 18446744073709551616) (hc : c ≤ 1) : bits .or .u64 (IntKind.u64.wrap ((x : Int) * 2)) (c : Int) = ((x * 2 % 18446744073709551616 + c : Nat) : Int) := by
  have e : IntKind.u64.wrap ((x : Int) * 2) = ((x * 2 % 18446744073709551616 : Nat) : Int) := by simp [IntKind.wrap, IntKind.bits, IntKind.signed]
  rw [e, u64_or_nat _ _ (by omega) (by omega)]
  congr 1
  obtain ⟨y, hy⟩ : ∃ y, x * 2 % 18446744073709551616 = y * 2 := ⟨x % 9223372036854775808, by omega⟩
  rw [hy]
  have := Nat.shiftLeft_add_eq_or_of_lt (i := 1) (b := c) (by omega) y
  rw [Nat.shiftLeft_eq] at this
  rw [Nat.pow_one] at this
  exact this.symm
theorem tw0 (n b : Nat) (hb : b ≤ 1) : lim n 0 * 2 % 18446744073709551616 + b = lim (2 * n + b) 0 := by unfold lim; simp; omega
theorem tw1 (n b : Nat) (hb : b ≤ 1) : lim n 1 * 2 % 18446744073709551616 + lim n 0 / 9223372036854775808 = lim (2 * n + b) 1 := by unfold lim; simp; omega
theorem tw2 (n b : Nat) (hb : b ≤ 1) : lim n 2 * 2 % 18446744073709551616 + lim n 1 / 9223372036854775808 = lim (2 * n + b) 2 := by unfold lim; simp; omega
theorem tw3 (n b : Nat) (hb : b ≤ 1) : lim n 3 * 2 % 18446744073709551616 + lim n 2 / 9223372036854775808 = lim (2 * n + b) 3 := by unfold lim; simp; omega
theorem tw4 (n b : Nat) (hn : n < 2 ^ 256) (hb : b ≤ 1) : lim n 3 / 9223372036854775808 = (((2 * n + b) / 2 ^ 256 : Nat) : Int) := by unfold lim; simp; omega
end Go.Proofs.Ytmpejkhffbonnaa
