/-
  No cell of these rows narrows 'for every input' (looked for: loops, veiled, ifaces, maps, wideKeys, modest, calm, conditions, laid).
  DERIVED. THE GIVEN ROWS OF THIS SEAT. 6 by the template 'for every input the law returns true; each argument reads behind the call as it read before'; 0 by the template 'total and deterministic' (their statements: YtemacggbabiafaaTotals.lean).
  GIVEN WITH THE SEED: the statements are not yours to turn. If you find one false, say at which input.
  Laid BY PROGRAM, IN A SANDBOX (cutbox-rows.mjs): the forced cells as the released guide's own fill.sh prints them over the translation f37a6680420694c9… (all of the seat's roots in one cut). By AI agents, Wed Nov 11 2026. No macro, syntax, notation, axiom, sorry.
-/
import Derived.Test.YtemacggbabiafaaChecked
import GoSem.Claim
import GoSem.ClaimJoined
import GoSem.ClaimMapViews
import Derived.JoinedTies
import Derived.KernelRfl
namespace Go.Proofs.Ytemacggbabiafaa
/- THE CELL 'sum', in the pinned program and in every row, IS THE sha256 OF THE DUMP (.gsa) THAT YtemacggbabiafaaProg.lean LOADS. Nothing in Lean hashes anything: it is a label: what it is worth is what the hold of that sum in a sandbox is worth. -/
noncomputable def Try.pinned : Pinned := { name := "ytemacggbabiafaa", sum := "f37a6680420694c9b46f0d54e001525045e7ef1bd6bfc78b76cd090f12042ac5", checked := Try.checked }
namespace Rows
def none {H : Type} : Left H := { results := [], args := [] }

/-- 'entaillaw10.TargetExpand': WHATEVER THE INPUT: true; the input reads as it did. -/
def targetExpandSpec : ChangeSpec := { name := "targetExpand", fn := fun _ => fun
  | [d1, d2] => { results := [.lit (.bool true)], args := [d1, d2] }
  | _ => none }
def targetExpandRow : OpenClaim := { program := "ytemacggbabiafaa", sum := "f37a6680420694c9b46f0d54e001525045e7ef1bd6bfc78b76cd090f12042ac5", func := "entail/entaillaw10.TargetExpand", spec := "targetExpand", inPlace := ["math/bits.Add64", "math/bits.Sub64"], apart := false }
def TargetExpandSaid : Prop := targetExpandRow.holds Try.pinned (OpenSpec.ofChange targetExpandSpec)

/-- ITS FALSE NEIGHBOUR: 'it returns false'. Refute it at one input. -/
def targetExpandWrong : ChangeSpec := { name := "targetExpand", fn := fun _ => fun
  | [d1, d2] => { results := [.lit (.bool false)], args := [d1, d2] }
  | _ => none }
def TargetExpandWrongFalsely : Prop := targetExpandRow.holds Try.pinned (OpenSpec.ofChange targetExpandWrong)

/-- 'entaillaw10.TargetMeets': WHATEVER THE INPUT: true; the input reads as it did. -/
def targetMeetsSpec : ChangeSpec := { name := "targetMeets", fn := fun _ => fun
  | [d1, d2] => { results := [.lit (.bool true)], args := [d1, d2] }
  | _ => none }
def targetMeetsRow : OpenClaim := { program := "ytemacggbabiafaa", sum := "f37a6680420694c9b46f0d54e001525045e7ef1bd6bfc78b76cd090f12042ac5", func := "entail/entaillaw10.TargetMeets", spec := "targetMeets", inPlace := ["math/bits.Add64", "math/bits.Sub64"], apart := false }
def TargetMeetsSaid : Prop := targetMeetsRow.holds Try.pinned (OpenSpec.ofChange targetMeetsSpec)

/-- ITS FALSE NEIGHBOUR: 'it returns false'. Refute it at one input. -/
def targetMeetsWrong : ChangeSpec := { name := "targetMeets", fn := fun _ => fun
  | [d1, d2] => { results := [.lit (.bool false)], args := [d1, d2] }
  | _ => none }
def TargetMeetsWrongFalsely : Prop := targetMeetsRow.holds Try.pinned (OpenSpec.ofChange targetMeetsWrong)

/-- 'entaillaw10.TargetWork': WHATEVER THE INPUT: true; the input reads as it did. -/
def targetWorkSpec : ChangeSpec := { name := "targetWork", fn := fun _ => fun
  | [d] => { results := [.lit (.bool true)], args := [d] }
  | _ => none }
def targetWorkRow : OpenClaim := { program := "ytemacggbabiafaa", sum := "f37a6680420694c9b46f0d54e001525045e7ef1bd6bfc78b76cd090f12042ac5", func := "entail/entaillaw10.TargetWork", spec := "targetWork", inPlace := ["math/bits.Add64", "math/bits.Sub64"], apart := false }
def TargetWorkSaid : Prop := targetWorkRow.holds Try.pinned (OpenSpec.ofChange targetWorkSpec)

/-- ITS FALSE NEIGHBOUR: 'it returns false'. Refute it at one input. -/
def targetWorkWrong : ChangeSpec := { name := "targetWork", fn := fun _ => fun
  | [d] => { results := [.lit (.bool false)], args := [d] }
  | _ => none }
def TargetWorkWrongFalsely : Prop := targetWorkRow.holds Try.pinned (OpenSpec.ofChange targetWorkWrong)

/-- 'entaillaw10.TargetBack': WHATEVER THE INPUT: true; the input reads as it did. -/
def targetBackSpec : ChangeSpec := { name := "targetBack", fn := fun _ => fun
  | [d1, d2] => { results := [.lit (.bool true)], args := [d1, d2] }
  | _ => none }
def targetBackRow : OpenClaim := { program := "ytemacggbabiafaa", sum := "f37a6680420694c9b46f0d54e001525045e7ef1bd6bfc78b76cd090f12042ac5", func := "entail/entaillaw10.TargetBack", spec := "targetBack", inPlace := ["math/bits.Add64", "math/bits.Sub64"], apart := false }
def TargetBackSaid : Prop := targetBackRow.holds Try.pinned (OpenSpec.ofChange targetBackSpec)

/-- ITS FALSE NEIGHBOUR: 'it returns false'. Refute it at one input. -/
def targetBackWrong : ChangeSpec := { name := "targetBack", fn := fun _ => fun
  | [d1, d2] => { results := [.lit (.bool false)], args := [d1, d2] }
  | _ => none }
def TargetBackWrongFalsely : Prop := targetBackRow.holds Try.pinned (OpenSpec.ofChange targetBackWrong)

/-- 'entaillaw10.TargetHarder': WHATEVER THE INPUT: true; the input reads as it did. -/
def targetHarderSpec : ChangeSpec := { name := "targetHarder", fn := fun _ => fun
  | [d1, d2, d3] => { results := [.lit (.bool true)], args := [d1, d2, d3] }
  | _ => none }
def targetHarderRow : OpenClaim := { program := "ytemacggbabiafaa", sum := "f37a6680420694c9b46f0d54e001525045e7ef1bd6bfc78b76cd090f12042ac5", func := "entail/entaillaw10.TargetHarder", spec := "targetHarder", inPlace := ["math/bits.Add64", "math/bits.Sub64"], apart := false }
def TargetHarderSaid : Prop := targetHarderRow.holds Try.pinned (OpenSpec.ofChange targetHarderSpec)

/-- ITS FALSE NEIGHBOUR: 'it returns false'. Refute it at one input. -/
def targetHarderWrong : ChangeSpec := { name := "targetHarder", fn := fun _ => fun
  | [d1, d2, d3] => { results := [.lit (.bool false)], args := [d1, d2, d3] }
  | _ => none }
def TargetHarderWrongFalsely : Prop := targetHarderRow.holds Try.pinned (OpenSpec.ofChange targetHarderWrong)

/-- 'entaillaw10.TargetNext': WHATEVER THE INPUT: true; the input reads as it did. -/
def targetNextSpec : ChangeSpec := { name := "targetNext", fn := fun _ => fun
  | [d1, d2] => { results := [.lit (.bool true)], args := [d1, d2] }
  | _ => none }
def targetNextRow : OpenClaim := { program := "ytemacggbabiafaa", sum := "f37a6680420694c9b46f0d54e001525045e7ef1bd6bfc78b76cd090f12042ac5", func := "entail/entaillaw10.TargetNext", spec := "targetNext", inPlace := ["math/bits.Add64", "math/bits.Sub64"], apart := false }
def TargetNextSaid : Prop := targetNextRow.holds Try.pinned (OpenSpec.ofChange targetNextSpec)

/-- ITS FALSE NEIGHBOUR: 'it returns false'. Refute it at one input. -/
def targetNextWrong : ChangeSpec := { name := "targetNext", fn := fun _ => fun
  | [d1, d2] => { results := [.lit (.bool false)], args := [d1, d2] }
  | _ => none }
def TargetNextWrongFalsely : Prop := targetNextRow.holds Try.pinned (OpenSpec.ofChange targetNextWrong)

/- THE SECOND FORM. 'bulk': how many values and letters a reading holds, each counted each time it is reached (what is shared counts as often as it is met; a slice's spare places count too). A statement '..UptoSaid' is the law's where the arguments, and the package variables that the reading takes, are together of bulk at most 1048576: NARROWER than '..Said'. Prove '..Said' where nothing that the law and all that it calls make is longer than what came in: it says more and counts as full. Else prove '..UptoSaid'. A law counts once. -/
mutual
def uptoBulk {H : Type} : DataW H → Nat
  | .lit (.string bytes) => bytes.length + 1
  | .lit _ => 1
  | .nil => 1
  | .ptr d => uptoBulk d + 1
  | .slice elems spare => uptoBulkAll elems + uptoBulkAll spare + 1
  | .agg parts => uptoBulkAll parts + 1
  | .iface _ d => uptoBulk d + 1
  | .map entries => uptoBulkEntries entries + 1
  | .held _ => 1
def uptoBulkAll {H : Type} : List (DataW H) → Nat
  | [] => 0
  | d :: r => uptoBulk d + uptoBulkAll r
def uptoBulkEntries {H : Type} : List (Lit × DataW H) → Nat
  | [] => 0
  | x :: r => uptoBulkEntry x + uptoBulkEntries r
def uptoBulkEntry {H : Type} : Lit × DataW H → Nat
  | (.string bytes, d) => bytes.length + uptoBulk d + 1
  | (_, d) => uptoBulk d + 1
 end
def uptoSmall : (H : Type) → List (DataW H) → Bool := fun _ ds => decide (uptoBulkAll ds ≤ 1048576)
def OpenSpec.upto (s : _root_.Go.ChangeSpec) : _root_.Go.OpenSpec := { _root_.Go.OpenSpec.ofChange s with cond := some uptoSmall }

/-- 'entaillaw10.TargetExpand', WHERE WHAT IT READS IS OF BULK AT MOST 1048576: true; the input reads as it did. -/
def targetExpandUptoRow : OpenClaim := { program := "ytemacggbabiafaa", sum := "f37a6680420694c9b46f0d54e001525045e7ef1bd6bfc78b76cd090f12042ac5", func := "entail/entaillaw10.TargetExpand", spec := "targetExpand", inPlace := ["math/bits.Add64", "math/bits.Sub64"], apart := false, narrowed := true }
def TargetExpandUptoSaid : Prop := targetExpandUptoRow.holds Try.pinned (OpenSpec.upto targetExpandSpec)

/-- 'entaillaw10.TargetMeets', WHERE WHAT IT READS IS OF BULK AT MOST 1048576: true; the input reads as it did. -/
def targetMeetsUptoRow : OpenClaim := { program := "ytemacggbabiafaa", sum := "f37a6680420694c9b46f0d54e001525045e7ef1bd6bfc78b76cd090f12042ac5", func := "entail/entaillaw10.TargetMeets", spec := "targetMeets", inPlace := ["math/bits.Add64", "math/bits.Sub64"], apart := false, narrowed := true }
def TargetMeetsUptoSaid : Prop := targetMeetsUptoRow.holds Try.pinned (OpenSpec.upto targetMeetsSpec)

/-- 'entaillaw10.TargetWork', WHERE WHAT IT READS IS OF BULK AT MOST 1048576: true; the input reads as it did. -/
def targetWorkUptoRow : OpenClaim := { program := "ytemacggbabiafaa", sum := "f37a6680420694c9b46f0d54e001525045e7ef1bd6bfc78b76cd090f12042ac5", func := "entail/entaillaw10.TargetWork", spec := "targetWork", inPlace := ["math/bits.Add64", "math/bits.Sub64"], apart := false, narrowed := true }
def TargetWorkUptoSaid : Prop := targetWorkUptoRow.holds Try.pinned (OpenSpec.upto targetWorkSpec)

/-- 'entaillaw10.TargetBack', WHERE WHAT IT READS IS OF BULK AT MOST 1048576: true; the input reads as it did. -/
def targetBackUptoRow : OpenClaim := { program := "ytemacggbabiafaa", sum := "f37a6680420694c9b46f0d54e001525045e7ef1bd6bfc78b76cd090f12042ac5", func := "entail/entaillaw10.TargetBack", spec := "targetBack", inPlace := ["math/bits.Add64", "math/bits.Sub64"], apart := false, narrowed := true }
def TargetBackUptoSaid : Prop := targetBackUptoRow.holds Try.pinned (OpenSpec.upto targetBackSpec)

/-- 'entaillaw10.TargetHarder', WHERE WHAT IT READS IS OF BULK AT MOST 1048576: true; the input reads as it did. -/
def targetHarderUptoRow : OpenClaim := { program := "ytemacggbabiafaa", sum := "f37a6680420694c9b46f0d54e001525045e7ef1bd6bfc78b76cd090f12042ac5", func := "entail/entaillaw10.TargetHarder", spec := "targetHarder", inPlace := ["math/bits.Add64", "math/bits.Sub64"], apart := false, narrowed := true }
def TargetHarderUptoSaid : Prop := targetHarderUptoRow.holds Try.pinned (OpenSpec.upto targetHarderSpec)

/-- 'entaillaw10.TargetNext', WHERE WHAT IT READS IS OF BULK AT MOST 1048576: true; the input reads as it did. -/
def targetNextUptoRow : OpenClaim := { program := "ytemacggbabiafaa", sum := "f37a6680420694c9b46f0d54e001525045e7ef1bd6bfc78b76cd090f12042ac5", func := "entail/entaillaw10.TargetNext", spec := "targetNext", inPlace := ["math/bits.Add64", "math/bits.Sub64"], apart := false, narrowed := true }
def TargetNextUptoSaid : Prop := targetNextUptoRow.holds Try.pinned (OpenSpec.upto targetNextSpec)

end Rows
end Go.Proofs.Ytemacggbabiafaa
