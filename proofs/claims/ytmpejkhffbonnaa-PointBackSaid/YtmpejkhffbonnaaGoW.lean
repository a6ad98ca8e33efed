/- Numbers of 256 bits as lists of cells. -/
import Derived.Test.YtmpejkhffbonnaaInt
import Derived.Test.YtmpejkhffbonnaaW0
namespace Go.Proofs.Ytmpejkhffbonnaa
abbrev Wl (n : Nat) : List Value := [.int .u64 (lim n 0), .int .u64 (lim n 1), .int .u64 (lim n 2), .int .u64 (lim n 3)]
def limN (n k : Nat) : Nat := n / 2 ^ (64 * k) % 2 ^ 64
theorem limN_lt (n k : Nat) : limN n k < 2 ^ 64 := Nat.mod_lt _ (Nat.two_pow_pos 64)
theorem Wl_get {n j : Nat} (h : j < 4) : (Wl n)[j]? = some (.int .u64 ((limN n j : Nat) : Int)) := by
  match j, h with
  | 0, _ => rfl
  | 1, _ => rfl
  | 2, _ => rfl
  | 3, _ => rfl
theorem Wl_tab (n : Nat) : Wl n = tab .u64 4 (limN n) := rfl
theorem tab_Wl {f : Nat → Nat} {n : Nat} (h : ∀ j, j < 4 → f j = limN n j) : tab .u64 4 f = Wl n := (tab_congr h).trans (Wl_tab n).symm
end Go.Proofs.Ytmpejkhffbonnaa
