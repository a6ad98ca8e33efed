/- The contracts of wide.bit, lessen, Len in the generator's form. -/
import Derived.Test.YtmpejkhffbonnaaWLess
import Derived.Test.YtmpejkhffbonnaaWEq
import Derived.Test.YtmpejkhffbonnaaSl
namespace Go.Proofs.Ytmpejkhffbonnaa
open Go.RowKit
end Go.Proofs.Ytmpejkhffbonnaa
