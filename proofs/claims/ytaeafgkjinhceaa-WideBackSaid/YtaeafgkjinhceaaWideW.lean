/- The contracts of wide.bit, lessen, Len in the generator's form. -/
import Derived.Test.YtaeafgkjinhceaaWLess
import Derived.Test.YtaeafgkjinhceaaWEq
import Derived.Test.YtaeafgkjinhceaaSl
namespace Go.Proofs.Ytaeafgkjinhceaa
open Go.RowKit
theorem wbit_c (a i b : Nat) (hi : i < 256) (hb : a / 2 ^ i % 2 = b) (w : World) :
    Calls Try.prog 46 #[W a, .int .i64 (i : Int)] w fun e w' => e = .returned (.int .u64 (b : Int)) ∧ Below w.heap.size w w' :=
  (bit_any w a i hi).mono fun e w' ⟨h1, h2⟩ => ⟨by rw [h1, ← hb]; rfl, h2⟩
theorem wless_c (r b m x : Nat) (c : Bool) (hr : r < m) (hm : m < 2 ^ 256) (hb : b ≤ 1) (hx : (2 * r + b) % m = x) (hc : decide (m ≤ 2 * r + b) = c) (w : World) :
    Calls Try.prog 45 #[W r, .int .u64 (b : Int), W m] w fun e w' => e = .returned (.tuple #[W x, .bool c]) ∧ Below w.heap.size w w' :=
  (lessen_any w r b m hr hm hb).mono fun e w' ⟨h1, h2⟩ => ⟨by rw [h1, lessV, hx, hc], h2⟩
end Go.Proofs.Ytaeafgkjinhceaa
