/- Numbers of 256 bits as lists of cells. -/
import Derived.Test.YtfaiifpdafbenaaGo
import Derived.Test.YtfaiifpdafbenaaW0
namespace Go.Proofs.Ytfaiifpdafbenaa
abbrev Wl (n : Nat) : List Value := [.int .u64 (lim n 0), .int .u64 (lim n 1), .int .u64 (lim n 2), .int .u64 (lim n 3)]
end Go.Proofs.Ytfaiifpdafbenaa
