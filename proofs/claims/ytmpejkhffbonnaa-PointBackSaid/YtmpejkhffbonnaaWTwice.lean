/- The contracts of twice. -/
import Derived.Test.YtmpejkhffbonnaaWBit
namespace Go.Proofs.Ytmpejkhffbonnaa
open Go.RowKit

theorem or_evenI (x c : Int) (h0 : 0 ≤ x) (hx : x ≤ 18446744073709551615) (c0 : 0 ≤ c) (hc : c ≤ 1) : bits .or .u64 (IntKind.u64.wrap (x * 2)) c = x * 2 % 18446744073709551616 + c := by
  obtain ⟨X, rfl⟩ := Int.eq_ofNat_of_zero_le h0
  obtain ⟨C, rfl⟩ := Int.eq_ofNat_of_zero_le c0
  have := or_even X C (by omega) (by omega)
  rw [this]
  simp
theorem shr63 (x : Int) (h0 : 0 ≤ x) (hx : x ≤ 18446744073709551615) : 0 ≤ x / 9223372036854775808 ∧ x / 9223372036854775808 ≤ 1 := by omega

theorem tdiv63 (x : Int) (h0 : 0 ≤ x) (hx : x ≤ 18446744073709551615) : IntKind.u64.wrap (x.tdiv 9223372036854775808) = x / 9223372036854775808 := by
  rw [Int.tdiv_eq_ediv_of_nonneg h0]
  simp [IntKind.wrap, IntKind.bits, IntKind.signed]; omega
theorem wadd (x c : Int) (h0 : 0 ≤ x) (hx : x ≤ 18446744073709551615) (c0 : 0 ≤ c) (hc : c ≤ 1) : IntKind.u64.wrap (IntKind.u64.wrap (x * 2) + c) = x * 2 % 18446744073709551616 + c := by
  simp [IntKind.wrap, IntKind.bits, IntKind.signed]; omega

theorem tw_words (n b : Nat) (hb : b ≤ 1) :
    (Value.agg #[.int .u64 (bits .or .u64 (IntKind.u64.wrap (lim n 0 * 2)) (b : Int)), .int .u64 (bits .or .u64 (IntKind.u64.wrap (lim n 1 * 2)) (lim n 0 / 9223372036854775808)),
      .int .u64 (bits .or .u64 (IntKind.u64.wrap (lim n 2 * 2)) (lim n 1 / 9223372036854775808)), .int .u64 (bits .or .u64 (IntKind.u64.wrap (lim n 3 * 2)) (lim n 2 / 9223372036854775808))]) = W (2 * n + b) := by
  have s := fun k => shr63 (lim n k) (lim_lo _ _) (lim_hi _ _)
  rw [or_evenI _ _ (lim_lo _ _) (lim_hi _ _) (by omega) (by omega), or_evenI _ _ (lim_lo _ _) (lim_hi _ _) (s 0).1 (s 0).2, or_evenI _ _ (lim_lo _ _) (lim_hi _ _) (s 1).1 (s 1).2,
    or_evenI _ _ (lim_lo _ _) (lim_hi _ _) (s 2).1 (s 2).2, tw0 n b hb, tw1 n b hb, tw2 n b hb, tw3 n b hb]

def twV (n b : Nat) : Value := .tuple #[W ((2 * n + b) % 2 ^ 256), .int .u64 (((2 * n + b) / 2 ^ 256 : Nat) : Int)]

set_option maxHeartbeats 1000000 in
theorem twiceR_any (w : World) (n b : Nat) (hn : n < 2 ^ 256) (hb : b ≤ 1) :
    Calls Try.prog 98 #[W n, .int .u64 (b : Int)] w fun e w' => e = .returned (twV n b) ∧ Below w.heap.size w w' := by
  have HW := Lib.hid (tw_words n b hb)
  have H4 := Lib.hid (tw4 n b hn hb)
  clear hn
  go_enter Try.func98, Try.ntmps98
  go_wp2
  refine bodyPost_ret (results_cu rfl rfl (((Blk.new _ _ _ _ (by simp)).alloc _)) rfl) rfl ⟨?_, (bl_al (bl_al (bl_al (Below.refl _ _) _) _) _)⟩
  have HV : Hid (Ending.returned (.tuple #[Value.agg #[.int .u64 (IntKind.u64.wrap (IntKind.u64.wrap (lim n 0 * 2) + (b : Int))), .int .u64 (IntKind.u64.wrap (IntKind.u64.wrap (lim n 1 * 2) + IntKind.u64.wrap ((lim n 0).tdiv 9223372036854775808))),
      .int .u64 (IntKind.u64.wrap (IntKind.u64.wrap (lim n 2 * 2) + IntKind.u64.wrap ((lim n 1).tdiv 9223372036854775808))), .int .u64 (IntKind.u64.wrap (IntKind.u64.wrap (lim n 3 * 2) + IntKind.u64.wrap ((lim n 2).tdiv 9223372036854775808)))],
      .int .u64 (IntKind.u64.wrap ((lim n 3).tdiv 9223372036854775808))]) = .returned (twV n b)) := by
    have s := fun k => shr63 (lim n k) (lim_lo _ _) (lim_hi _ _)
    have t := fun k => tdiv63 (lim n k) (lim_lo _ _) (lim_hi _ _)
    rw [t 0, t 1, t 2, t 3, wadd _ _ (lim_lo _ _) (lim_hi _ _) (by omega) (by omega), wadd _ _ (lim_lo _ _) (lim_hi _ _) (s 0).1 (s 0).2, wadd _ _ (lim_lo _ _) (lim_hi _ _) (s 1).1 (s 1).2,
      wadd _ _ (lim_lo _ _) (lim_hi _ _) (s 2).1 (s 2).2, tw0 n b hb, tw1 n b hb, tw2 n b hb, tw3 n b hb]
    unfold twV
    rw [W_mod, ← H4.out]
    exact rfl
  exact HV.out
end Go.Proofs.Ytmpejkhffbonnaa
