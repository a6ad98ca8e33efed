/- The contract of wide.lessen. -/
import Derived.Test.YtmpejkhffbonnaaWTwice
namespace Go.Proofs.Ytmpejkhffbonnaa
open Go.RowKit

def lessV (r b m : Nat) : Value := .tuple #[W ((2 * r + b) % m), .bool (decide (m ≤ 2 * r + b))]

end Go.Proofs.Ytmpejkhffbonnaa
