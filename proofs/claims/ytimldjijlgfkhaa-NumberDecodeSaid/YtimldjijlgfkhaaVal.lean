/- Numbers of bytes: plain laws; a slice that reads as bytes as a string. -/
import Derived.Test.YtimldjijlgfkhaaEncR
import Derived.Laws.IdiomStrings
import Derived.Laws.BytesArg
import Derived.Laws.BitsAllLaws
namespace Go.Proofs.Ytimldjijlgfkhaa
open Go.RowKit

def vl : List UInt8 → Nat
  | [] => 0
  | c :: t => c.toNat + 256 * vl t
theorem vl_snoc (xs : List UInt8) (c : UInt8) : vl (xs ++ [c]) = vl xs + c.toNat * 256 ^ xs.length := by
  induction xs with
  | nil => simp [vl]
  | cons a t ih => simp only [List.cons_append, vl, ih, List.length_cons, Nat.pow_succ]; grind
theorem vl_lt (xs : List UInt8) : vl xs < 256 ^ xs.length := by
  induction xs with
  | nil => simp [vl]
  | cons a t ih => simp only [vl, List.length_cons, Nat.pow_succ]; have := a.toNat_lt; omega

/-- a number of bytes, as it is read loosely -/
def val (l : List UInt8) : Int :=
  if 128 ≤ (l.getD (l.length - 1) 0).toNat then -((vl (l.take (l.length - 1)) + (l.getD (l.length - 1) 0).toNat % 128 * 256 ^ (l.length - 1) : Nat) : Int)
  else ((vl (l.take (l.length - 1)) + (l.getD (l.length - 1) 0).toNat % 128 * 256 ^ (l.length - 1) : Nat) : Int)

def decOk (l : List UInt8) (most : Int) : Bool := decide ((l.length : Int) ≤ most) && decide (l.length ≤ 8) && (enc (val l) == l)

theorem take_succ_getD (l : List UInt8) (k : Nat) (h : k < l.length) : l.take (k + 1) = l.take k ++ [l.getD k 0] := by
  rw [List.take_succ_eq_append_getElem h]; simp [List.getD, h]

theorem wrap_u64_nat (m : Nat) (h : m < 18446744073709551616) : IntKind.u64.wrap (m : Int) = m := by
  simp [IntKind.wrap, IntKind.bits, IntKind.signed]; omega

theorem pow256 (k : Nat) : (2 : Int) ^ (8 * k) = ((256 ^ k : Nat) : Int) := by
  rw [Int.pow_mul]; simp

theorem p256_le (k : Nat) (h : k ≤ 7) : 256 ^ k * 256 ≤ 18446744073709551616 := by
  have h1 : 256 ^ k * 256 = 256 ^ (k + 1) := (Nat.pow_succ ..).symm
  have h2 : (256 : Nat) ^ (k + 1) ≤ 256 ^ 8 := Nat.pow_le_pow_right (by omega) (by omega)
  have h3 : (256 : Nat) ^ 8 = 18446744073709551616 := by decide
  omega

theorem or_step (A k c : Nat) (hA : A < 256 ^ k) (hk : k ≤ 7) (hc : c < 256) :
    bits .or .u64 (A : Int) (IntKind.u64.wrap ((c : Int) * 2 ^ (8 * k))) = ((A + c * 256 ^ k : Nat) : Int) := by
  have h1 := p256_le k hk
  have h2 : c * 256 ^ k ≤ 255 * 256 ^ k := Nat.mul_le_mul_right _ (by omega)
  have e : (c : Int) * 2 ^ (8 * k) = ((c * 256 ^ k : Nat) : Int) := by rw [pow256]; simp
  rw [e, wrap_u64_nat _ (by omega), u64_or_nat _ _ (by omega) (by omega)]
  congr 1
  have h3 : 256 ^ k = 2 ^ (8 * k) := by rw [Nat.pow_mul]
  rw [h3] at hA ⊢
  rw [← Nat.shiftLeft_eq, Nat.or_comm, ← Nat.shiftLeft_add_eq_or_of_lt hA, Nat.add_comm]

theorem andNot_top (B N c : Nat) (hB : B < 256 ^ N) (hN : N ≤ 7) (h1 : 128 ≤ c) (h2 : c < 256) :
    bits .andNot .u64 ((B + c * 256 ^ N : Nat) : Int) (IntKind.u64.wrap (128 * 2 ^ (8 * N))) = ((B + c % 128 * 256 ^ N : Nat) : Int) := by
  have h3 := p256_le N hN
  have e : (128 : Int) * 2 ^ (8 * N) = ((128 * 256 ^ N : Nat) : Int) := by rw [pow256]; simp
  have hc : c * 256 ^ N ≤ 255 * 256 ^ N := Nat.mul_le_mul_right _ (by omega)
  rw [e, wrap_u64_nat _ (by omega), u64_andNot_nat _ _ (by omega) (by omega)]
  congr 1
  have hm : 128 * 256 ^ N = 2 ^ (8 * N + 7) := by rw [Nat.pow_add, Nat.pow_mul]; exact Nat.mul_comm _ _
  have hcm : c % 128 = c - 128 := by omega
  obtain ⟨d, rfl⟩ : ∃ d, c = d + 128 := ⟨c - 128, by omega⟩
  have hd : d < 128 := by omega
  rw [hcm, Nat.add_sub_cancel, Nat.add_mul, hm]
  have hlow : B + d * 256 ^ N < 2 ^ (8 * N + 7) := by
    rw [← hm]
    have : d * 256 ^ N ≤ 127 * 256 ^ N := Nat.mul_le_mul_right _ (by omega)
    omega
  have hsum : B + (d * 256 ^ N + 2 ^ (8 * N + 7)) = 2 ^ (8 * N + 7) + (B + d * 256 ^ N) := by omega
  rw [hsum]
  generalize hX : B + d * 256 ^ N = X at hlow
  have h64 : 18446744073709551615 - 2 ^ (8 * N + 7) = 2 ^ 64 - (2 ^ (8 * N + 7) + 1) := by omega
  rw [h64]
  have hlt64 : 2 ^ (8 * N + 7) < 2 ^ 64 := Nat.pow_lt_pow_right (by omega) (by omega)
  apply Nat.eq_of_testBit_eq
  intro i
  rw [Nat.testBit_and, Nat.testBit_two_pow_sub_succ hlt64]
  rcases Nat.lt_trichotomy i (8 * N + 7) with h | h | h
  · rw [Nat.testBit_two_pow_add_gt h, Nat.testBit_two_pow_of_ne (by omega)]
    simp; intro _; omega
  · subst h
    rw [Nat.testBit_two_pow_self, Nat.testBit_lt_two_pow hlow]; simp
  · have e1 : (2 ^ (8 * N + 7) + X).testBit i = false := Nat.testBit_lt_two_pow (Nat.lt_of_lt_of_le (by have := Nat.pow_succ 2 (8 * N + 7); omega : 2 ^ (8 * N + 7) + X < 2 ^ (8 * N + 7 + 1)) (Nat.pow_le_pow_right (by omega) h))
    have e2 : X.testBit i = false := Nat.testBit_lt_two_pow (Nat.lt_trans hlow (Nat.pow_lt_pow_right (by omega) h))
    rw [e1, e2]; rfl

theorem conv_rd {w : World} {a : Option Addr} {l : List UInt8} (cap : Nat) (h : Rd w a l) : (convert 23 9 (.slice a l.length cap)).run Try.prog w = .ok (.string ⟨l.toArray⟩) w := by
  cases a with
  | none =>
    have : l = [] := by
      refine Classical.byContradiction fun hne => ?_
      obtain ⟨b, off, h1, _⟩ := h.2 (by simpa using hne)
      cases h1
    subst this
    exact run_convert_bytes_nil w 23 5 Try.underlying23 Try.underlying5 _ _ 9 Try.underlying9
  | some ad =>
    refine run_convert_bytes_back w _ _ _ ad cap l Try.underlying23 Try.underlying5 Try.underlying9 fun j hj => ?_
    obtain ⟨b, off, h1, hc⟩ := h.2 (by omega)
    cases h1
    have := hc j hj
    rw [List.getD_eq_getElem?_getD, List.getElem?_eq_getElem hj, Option.getD_some] at this
    rw [← this]
    simp [Addr.add]
    by_cases hj0 : j = 0 <;> simp [hj0]

theorem Rd.below {w w' : World} {a : Option Addr} {l : List UInt8} (h : Rd w a l) {B : Nat} (hb : Below B w w') (hB : w.heap.size ≤ B) : Rd w' a l :=
  ⟨h.1, fun hne => by
    obtain ⟨b, off, h1, hc⟩ := h.2 hne
    refine ⟨b, off, h1, fun k hk => ?_⟩
    have h2 := hc k hk
    have h3 := block_lt_of_cell h2
    rw [hb.cell (p := ⟨b, off + k, none⟩) (by simp at h3 ⊢; omega)]
    exact h2⟩

theorem Own.rd {B : Nat} {w : World} {v : Value} {l : List UInt8} (h : Own B w v l) (hl : l.length ≤ 140737488351232) : ∃ a cap, v = .slice a l.length cap ∧ Rd w a l := by
  rcases hx : l.length with _ | N
  · have hl0 : l = [] := List.length_eq_zero_iff.1 hx
    subst hl0
    rcases h.2 with ⟨rfl, _⟩ | ⟨g, cap, cur, rfl, _⟩
    · exact ⟨none, 0, rfl, by simp, fun h => absurd rfl h⟩
    · exact ⟨_, cap, rfl, by simp, fun h => absurd rfl h⟩
  · obtain ⟨g, cap, rfl, h1, h2, h3, h4, h5⟩ := h.form hx
    exact ⟨_, cap, rfl, by omega, fun _ => ⟨g, 0, rfl, fun k hk => by rw [Nat.zero_add]; exact h5 k (by omega)⟩⟩

theorem equal_any (w : World) (a a' : Option Addr) (l l' : List UInt8) (cap cap' : Nat) (h : Rd w a l) (h' : Rd w a' l') :
    Calls Try.prog 17 #[.slice a l.length cap, .slice a' l'.length cap'] w fun e w' => e = .returned (.bool (l == l')) ∧ w = w' := by
  have e1 := conv_rd cap h
  have e2 := conv_rd cap' h'
  go_enter Try.func17, Try.ntmps17
  go_wp2
  go_ret
  exact ⟨rfl, rfl⟩
end Go.Proofs.Ytimldjijlgfkhaa
