/-
  No cell of these rows narrows 'for every input' (looked for: loops, veiled, ifaces, maps, wideKeys, modest, calm, conditions, laid).
  DERIVED. THE GIVEN ROWS OF THIS SEAT. 7 by the template 'for every input the law returns true; each argument reads behind the call as it read before'; 0 by the template 'total and deterministic' (their statements: YtmpejkhffbonnaaTotals.lean).
  GIVEN WITH THE SEED: the statements are not yours to turn. If you find one false, say at which input.
  Laid BY PROGRAM, IN A SANDBOX (cutbox-rows.mjs): the forced cells as the released guide's own fill.sh prints them over the translation 3f85156201085fab… (all of the seat's roots in one cut). By AI agents, Wed Nov 11 2026. No macro, syntax, notation, axiom, sorry.
-/
import Derived.Test.YtmpejkhffbonnaaChecked
import GoSem.Claim
import GoSem.ClaimJoined
import GoSem.ClaimMapViews
import Derived.JoinedTies
import Derived.KernelRfl
namespace Go.Proofs.Ytmpejkhffbonnaa
/- THE CELL 'sum', in the pinned program and in every row, IS THE sha256 OF THE DUMP (.gsa) THAT YtmpejkhffbonnaaProg.lean LOADS. Nothing in Lean hashes anything: it is a label: what it is worth is what the hold of that sum in a sandbox is worth. -/
noncomputable def Try.pinned : Pinned := { name := "ytmpejkhffbonnaa", sum := "3f85156201085fab0b1419376602fc4a67c268f1bed2755dc44ba5944e597e18", checked := Try.checked }
namespace Rows
def none {H : Type} : Left H := { results := [], args := [] }

/-- 'entaillaw14.PointAdd': WHATEVER THE INPUT: true; the input reads as it did. -/
def pointAddSpec : ChangeSpec := { name := "pointAdd", fn := fun _ => fun
  | [d1, d2] => { results := [.lit (.bool true)], args := [d1, d2] }
  | _ => none }
def pointAddRow : OpenClaim := { program := "ytmpejkhffbonnaa", sum := "3f85156201085fab0b1419376602fc4a67c268f1bed2755dc44ba5944e597e18", func := "entail/entaillaw14.PointAdd", spec := "pointAdd", inPlace := ["math/bits.Add64", "math/bits.Sub64"], apart := false }
def PointAddSaid : Prop := pointAddRow.holds Try.pinned (OpenSpec.ofChange pointAddSpec)

/-- ITS FALSE NEIGHBOUR: 'it returns false'. Refute it at one input. -/
def pointAddWrong : ChangeSpec := { name := "pointAdd", fn := fun _ => fun
  | [d1, d2] => { results := [.lit (.bool false)], args := [d1, d2] }
  | _ => none }
def PointAddWrongFalsely : Prop := pointAddRow.holds Try.pinned (OpenSpec.ofChange pointAddWrong)

/-- 'entaillaw14.PointMul': WHATEVER THE INPUT: true; the input reads as it did. -/
def pointMulSpec : ChangeSpec := { name := "pointMul", fn := fun _ => fun
  | [d1, d2] => { results := [.lit (.bool true)], args := [d1, d2] }
  | _ => none }
def pointMulRow : OpenClaim := { program := "ytmpejkhffbonnaa", sum := "3f85156201085fab0b1419376602fc4a67c268f1bed2755dc44ba5944e597e18", func := "entail/entaillaw14.PointMul", spec := "pointMul", inPlace := ["math/bits.Add64", "math/bits.Sub64"], apart := false }
def PointMulSaid : Prop := pointMulRow.holds Try.pinned (OpenSpec.ofChange pointMulSpec)

/-- ITS FALSE NEIGHBOUR: 'it returns false'. Refute it at one input. -/
def pointMulWrong : ChangeSpec := { name := "pointMul", fn := fun _ => fun
  | [d1, d2] => { results := [.lit (.bool false)], args := [d1, d2] }
  | _ => none }
def PointMulWrongFalsely : Prop := pointMulRow.holds Try.pinned (OpenSpec.ofChange pointMulWrong)

/-- 'entaillaw14.PointGroup': WHATEVER THE INPUT: true; the input reads as it did. -/
def pointGroupSpec : ChangeSpec := { name := "pointGroup", fn := fun _ => fun
  | [d1, d2, d3] => { results := [.lit (.bool true)], args := [d1, d2, d3] }
  | _ => none }
def pointGroupRow : OpenClaim := { program := "ytmpejkhffbonnaa", sum := "3f85156201085fab0b1419376602fc4a67c268f1bed2755dc44ba5944e597e18", func := "entail/entaillaw14.PointGroup", spec := "pointGroup", inPlace := ["math/bits.Add64", "math/bits.Sub64"], apart := false }
def PointGroupSaid : Prop := pointGroupRow.holds Try.pinned (OpenSpec.ofChange pointGroupSpec)

/-- ITS FALSE NEIGHBOUR: 'it returns false'. Refute it at one input. -/
def pointGroupWrong : ChangeSpec := { name := "pointGroup", fn := fun _ => fun
  | [d1, d2, d3] => { results := [.lit (.bool false)], args := [d1, d2, d3] }
  | _ => none }
def PointGroupWrongFalsely : Prop := pointGroupRow.holds Try.pinned (OpenSpec.ofChange pointGroupWrong)

/-- 'entaillaw14.PointOn': WHATEVER THE INPUT: true; the input reads as it did. -/
def pointOnSpec : ChangeSpec := { name := "pointOn", fn := fun _ => fun
  | [d] => { results := [.lit (.bool true)], args := [d] }
  | _ => none }
def pointOnRow : OpenClaim := { program := "ytmpejkhffbonnaa", sum := "3f85156201085fab0b1419376602fc4a67c268f1bed2755dc44ba5944e597e18", func := "entail/entaillaw14.PointOn", spec := "pointOn", inPlace := ["math/bits.Add64", "math/bits.Sub64"], apart := false }
def PointOnSaid : Prop := pointOnRow.holds Try.pinned (OpenSpec.ofChange pointOnSpec)

/-- ITS FALSE NEIGHBOUR: 'it returns false'. Refute it at one input. -/
def pointOnWrong : ChangeSpec := { name := "pointOn", fn := fun _ => fun
  | [d] => { results := [.lit (.bool false)], args := [d] }
  | _ => none }
def PointOnWrongFalsely : Prop := pointOnRow.holds Try.pinned (OpenSpec.ofChange pointOnWrong)

/-- 'entaillaw14.PointTimes': WHATEVER THE INPUT: true; the input reads as it did. -/
def pointTimesSpec : ChangeSpec := { name := "pointTimes", fn := fun _ => fun
  | [d1, d2, d3] => { results := [.lit (.bool true)], args := [d1, d2, d3] }
  | _ => none }
def pointTimesRow : OpenClaim := { program := "ytmpejkhffbonnaa", sum := "3f85156201085fab0b1419376602fc4a67c268f1bed2755dc44ba5944e597e18", func := "entail/entaillaw14.PointTimes", spec := "pointTimes", inPlace := ["math/bits.Add64", "math/bits.Sub64"], apart := false }
def PointTimesSaid : Prop := pointTimesRow.holds Try.pinned (OpenSpec.ofChange pointTimesSpec)

/-- ITS FALSE NEIGHBOUR: 'it returns false'. Refute it at one input. -/
def pointTimesWrong : ChangeSpec := { name := "pointTimes", fn := fun _ => fun
  | [d1, d2, d3] => { results := [.lit (.bool false)], args := [d1, d2, d3] }
  | _ => none }
def PointTimesWrongFalsely : Prop := pointTimesRow.holds Try.pinned (OpenSpec.ofChange pointTimesWrong)

/-- 'entaillaw14.PointLift': WHATEVER THE INPUT: true; the input reads as it did. -/
def pointLiftSpec : ChangeSpec := { name := "pointLift", fn := fun _ => fun
  | [d] => { results := [.lit (.bool true)], args := [d] }
  | _ => none }
def pointLiftRow : OpenClaim := { program := "ytmpejkhffbonnaa", sum := "3f85156201085fab0b1419376602fc4a67c268f1bed2755dc44ba5944e597e18", func := "entail/entaillaw14.PointLift", spec := "pointLift", inPlace := ["math/bits.Add64", "math/bits.Sub64"], apart := false }
def PointLiftSaid : Prop := pointLiftRow.holds Try.pinned (OpenSpec.ofChange pointLiftSpec)

/-- ITS FALSE NEIGHBOUR: 'it returns false'. Refute it at one input. -/
def pointLiftWrong : ChangeSpec := { name := "pointLift", fn := fun _ => fun
  | [d] => { results := [.lit (.bool false)], args := [d] }
  | _ => none }
def PointLiftWrongFalsely : Prop := pointLiftRow.holds Try.pinned (OpenSpec.ofChange pointLiftWrong)

/-- 'entaillaw14.PointBack': WHATEVER THE INPUT: true; the input reads as it did. -/
def pointBackSpec : ChangeSpec := { name := "pointBack", fn := fun _ => fun
  | [d1, d2] => { results := [.lit (.bool true)], args := [d1, d2] }
  | _ => none }
def pointBackRow : OpenClaim := { program := "ytmpejkhffbonnaa", sum := "3f85156201085fab0b1419376602fc4a67c268f1bed2755dc44ba5944e597e18", func := "entail/entaillaw14.PointBack", spec := "pointBack", inPlace := ["math/bits.Add64", "math/bits.Sub64"], apart := false }
def PointBackSaid : Prop := pointBackRow.holds Try.pinned (OpenSpec.ofChange pointBackSpec)

/-- ITS FALSE NEIGHBOUR: 'it returns false'. Refute it at one input. -/
def pointBackWrong : ChangeSpec := { name := "pointBack", fn := fun _ => fun
  | [d1, d2] => { results := [.lit (.bool false)], args := [d1, d2] }
  | _ => none }
def PointBackWrongFalsely : Prop := pointBackRow.holds Try.pinned (OpenSpec.ofChange pointBackWrong)

/- THE SECOND FORM. 'bulk': how many values and letters a reading holds, each counted each time it is reached (what is shared counts as often as it is met; a slice's spare places count too). A statement '..UptoSaid' is the law's where the arguments, and the package variables that the reading takes, are together of bulk at most 1048576: NARROWER than '..Said'. Prove '..Said' where nothing that the law and all that it calls make is longer than what came in: it says more and counts as full. Else prove '..UptoSaid'. A law counts once. -/
mutual
def uptoBulk {H : Type} : DataW H → Nat
  | .lit (.string bytes) => bytes.length + 1
  | .lit _ => 1
  | .nil => 1
  | .ptr d => uptoBulk d + 1
  | .slice elems spare => uptoBulkAll elems + uptoBulkAll spare + 1
  | .agg parts => uptoBulkAll parts + 1
  | .iface _ d => uptoBulk d + 1
  | .map entries => uptoBulkEntries entries + 1
  | .held _ => 1
def uptoBulkAll {H : Type} : List (DataW H) → Nat
  | [] => 0
  | d :: r => uptoBulk d + uptoBulkAll r
def uptoBulkEntries {H : Type} : List (Lit × DataW H) → Nat
  | [] => 0
  | x :: r => uptoBulkEntry x + uptoBulkEntries r
def uptoBulkEntry {H : Type} : Lit × DataW H → Nat
  | (.string bytes, d) => bytes.length + uptoBulk d + 1
  | (_, d) => uptoBulk d + 1
 end
def uptoSmall : (H : Type) → List (DataW H) → Bool := fun _ ds => decide (uptoBulkAll ds ≤ 1048576)
def OpenSpec.upto (s : _root_.Go.ChangeSpec) : _root_.Go.OpenSpec := { _root_.Go.OpenSpec.ofChange s with cond := some uptoSmall }

/-- 'entaillaw14.PointAdd', WHERE WHAT IT READS IS OF BULK AT MOST 1048576: true; the input reads as it did. -/
def pointAddUptoRow : OpenClaim := { program := "ytmpejkhffbonnaa", sum := "3f85156201085fab0b1419376602fc4a67c268f1bed2755dc44ba5944e597e18", func := "entail/entaillaw14.PointAdd", spec := "pointAdd", inPlace := ["math/bits.Add64", "math/bits.Sub64"], apart := false, narrowed := true }
def PointAddUptoSaid : Prop := pointAddUptoRow.holds Try.pinned (OpenSpec.upto pointAddSpec)

/-- 'entaillaw14.PointMul', WHERE WHAT IT READS IS OF BULK AT MOST 1048576: true; the input reads as it did. -/
def pointMulUptoRow : OpenClaim := { program := "ytmpejkhffbonnaa", sum := "3f85156201085fab0b1419376602fc4a67c268f1bed2755dc44ba5944e597e18", func := "entail/entaillaw14.PointMul", spec := "pointMul", inPlace := ["math/bits.Add64", "math/bits.Sub64"], apart := false, narrowed := true }
def PointMulUptoSaid : Prop := pointMulUptoRow.holds Try.pinned (OpenSpec.upto pointMulSpec)

/-- 'entaillaw14.PointGroup', WHERE WHAT IT READS IS OF BULK AT MOST 1048576: true; the input reads as it did. -/
def pointGroupUptoRow : OpenClaim := { program := "ytmpejkhffbonnaa", sum := "3f85156201085fab0b1419376602fc4a67c268f1bed2755dc44ba5944e597e18", func := "entail/entaillaw14.PointGroup", spec := "pointGroup", inPlace := ["math/bits.Add64", "math/bits.Sub64"], apart := false, narrowed := true }
def PointGroupUptoSaid : Prop := pointGroupUptoRow.holds Try.pinned (OpenSpec.upto pointGroupSpec)

/-- 'entaillaw14.PointOn', WHERE WHAT IT READS IS OF BULK AT MOST 1048576: true; the input reads as it did. -/
def pointOnUptoRow : OpenClaim := { program := "ytmpejkhffbonnaa", sum := "3f85156201085fab0b1419376602fc4a67c268f1bed2755dc44ba5944e597e18", func := "entail/entaillaw14.PointOn", spec := "pointOn", inPlace := ["math/bits.Add64", "math/bits.Sub64"], apart := false, narrowed := true }
def PointOnUptoSaid : Prop := pointOnUptoRow.holds Try.pinned (OpenSpec.upto pointOnSpec)

/-- 'entaillaw14.PointTimes', WHERE WHAT IT READS IS OF BULK AT MOST 1048576: true; the input reads as it did. -/
def pointTimesUptoRow : OpenClaim := { program := "ytmpejkhffbonnaa", sum := "3f85156201085fab0b1419376602fc4a67c268f1bed2755dc44ba5944e597e18", func := "entail/entaillaw14.PointTimes", spec := "pointTimes", inPlace := ["math/bits.Add64", "math/bits.Sub64"], apart := false, narrowed := true }
def PointTimesUptoSaid : Prop := pointTimesUptoRow.holds Try.pinned (OpenSpec.upto pointTimesSpec)

/-- 'entaillaw14.PointLift', WHERE WHAT IT READS IS OF BULK AT MOST 1048576: true; the input reads as it did. -/
def pointLiftUptoRow : OpenClaim := { program := "ytmpejkhffbonnaa", sum := "3f85156201085fab0b1419376602fc4a67c268f1bed2755dc44ba5944e597e18", func := "entail/entaillaw14.PointLift", spec := "pointLift", inPlace := ["math/bits.Add64", "math/bits.Sub64"], apart := false, narrowed := true }
def PointLiftUptoSaid : Prop := pointLiftUptoRow.holds Try.pinned (OpenSpec.upto pointLiftSpec)

/-- 'entaillaw14.PointBack', WHERE WHAT IT READS IS OF BULK AT MOST 1048576: true; the input reads as it did. -/
def pointBackUptoRow : OpenClaim := { program := "ytmpejkhffbonnaa", sum := "3f85156201085fab0b1419376602fc4a67c268f1bed2755dc44ba5944e597e18", func := "entail/entaillaw14.PointBack", spec := "pointBack", inPlace := ["math/bits.Add64", "math/bits.Sub64"], apart := false, narrowed := true }
def PointBackUptoSaid : Prop := pointBackUptoRow.holds Try.pinned (OpenSpec.upto pointBackSpec)

end Rows
end Go.Proofs.Ytmpejkhffbonnaa
