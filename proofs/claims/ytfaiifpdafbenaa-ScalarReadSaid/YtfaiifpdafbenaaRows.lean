/-
  No cell of these rows narrows 'for every input' (looked for: loops, veiled, ifaces, maps, wideKeys, modest, calm, conditions, laid).
  DERIVED. THE GIVEN ROWS OF THIS SEAT. 5 by the template 'for every input the law returns true; each argument reads behind the call as it read before'; 0 by the template 'total and deterministic' (their statements: YtfaiifpdafbenaaTotals.lean).
  GIVEN WITH THE SEED: the statements are not yours to turn. If you find one false, say at which input.
  Laid BY PROGRAM, IN A SANDBOX (cutbox-rows.mjs): the forced cells as the released guide's own fill.sh prints them over the translation 3c864022f8683d04… (all of the seat's roots in one cut). By AI agents, Wed Nov 11 2026. No macro, syntax, notation, axiom, sorry.
-/
import Derived.Test.YtfaiifpdafbenaaChecked
import GoSem.Claim
import GoSem.ClaimJoined
import GoSem.ClaimMapViews
import Derived.JoinedTies
import Derived.KernelRfl
namespace Go.Proofs.Ytfaiifpdafbenaa
/- THE CELL 'sum', in the pinned program and in every row, IS THE sha256 OF THE DUMP (.gsa) THAT YtfaiifpdafbenaaProg.lean LOADS. Nothing in Lean hashes anything: it is a label: what it is worth is what the hold of that sum in a sandbox is worth. -/
noncomputable def Try.pinned : Pinned := { name := "ytfaiifpdafbenaa", sum := "3c864022f8683d04748d66c37ed346f81482e0dcf4df5ab9c1d58fa8b54c3f14", checked := Try.checked }
namespace Rows
def none {H : Type} : Left H := { results := [], args := [] }

/-- 'entaillaw13.ScalarSums': WHATEVER THE INPUT: true; the input reads as it did. -/
def scalarSumsSpec : ChangeSpec := { name := "scalarSums", fn := fun _ => fun
  | [d1, d2] => { results := [.lit (.bool true)], args := [d1, d2] }
  | _ => none }
def scalarSumsRow : OpenClaim := { program := "ytfaiifpdafbenaa", sum := "3c864022f8683d04748d66c37ed346f81482e0dcf4df5ab9c1d58fa8b54c3f14", func := "entail/entaillaw13.ScalarSums", spec := "scalarSums", inPlace := ["math/bits.Sub64", "math/bits.Add64"], apart := false }
def ScalarSumsSaid : Prop := scalarSumsRow.holds Try.pinned (OpenSpec.ofChange scalarSumsSpec)

/-- ITS FALSE NEIGHBOUR: 'it returns false'. Refute it at one input. -/
def scalarSumsWrong : ChangeSpec := { name := "scalarSums", fn := fun _ => fun
  | [d1, d2] => { results := [.lit (.bool false)], args := [d1, d2] }
  | _ => none }
def ScalarSumsWrongFalsely : Prop := scalarSumsRow.holds Try.pinned (OpenSpec.ofChange scalarSumsWrong)

/-- 'entaillaw13.ScalarLaws': WHATEVER THE INPUT: true; the input reads as it did. -/
def scalarLawsSpec : ChangeSpec := { name := "scalarLaws", fn := fun _ => fun
  | [d1, d2, d3] => { results := [.lit (.bool true)], args := [d1, d2, d3] }
  | _ => none }
def scalarLawsRow : OpenClaim := { program := "ytfaiifpdafbenaa", sum := "3c864022f8683d04748d66c37ed346f81482e0dcf4df5ab9c1d58fa8b54c3f14", func := "entail/entaillaw13.ScalarLaws", spec := "scalarLaws", inPlace := ["math/bits.Sub64", "math/bits.Add64"], apart := false }
def ScalarLawsSaid : Prop := scalarLawsRow.holds Try.pinned (OpenSpec.ofChange scalarLawsSpec)

/-- ITS FALSE NEIGHBOUR: 'it returns false'. Refute it at one input. -/
def scalarLawsWrong : ChangeSpec := { name := "scalarLaws", fn := fun _ => fun
  | [d1, d2, d3] => { results := [.lit (.bool false)], args := [d1, d2, d3] }
  | _ => none }
def ScalarLawsWrongFalsely : Prop := scalarLawsRow.holds Try.pinned (OpenSpec.ofChange scalarLawsWrong)

/-- 'entaillaw13.ScalarRead': WHATEVER THE INPUT: true; the input reads as it did. -/
def scalarReadSpec : ChangeSpec := { name := "scalarRead", fn := fun _ => fun
  | [d] => { results := [.lit (.bool true)], args := [d] }
  | _ => none }
def scalarReadRow : OpenClaim := { program := "ytfaiifpdafbenaa", sum := "3c864022f8683d04748d66c37ed346f81482e0dcf4df5ab9c1d58fa8b54c3f14", func := "entail/entaillaw13.ScalarRead", spec := "scalarRead", inPlace := ["math/bits.Sub64", "math/bits.Add64"], apart := false }
def ScalarReadSaid : Prop := scalarReadRow.holds Try.pinned (OpenSpec.ofChange scalarReadSpec)

/-- ITS FALSE NEIGHBOUR: 'it returns false'. Refute it at one input. -/
def scalarReadWrong : ChangeSpec := { name := "scalarRead", fn := fun _ => fun
  | [d] => { results := [.lit (.bool false)], args := [d] }
  | _ => none }
def ScalarReadWrongFalsely : Prop := scalarReadRow.holds Try.pinned (OpenSpec.ofChange scalarReadWrong)

/-- 'entaillaw13.ScalarMul': WHATEVER THE INPUT: true; the input reads as it did. -/
def scalarMulSpec : ChangeSpec := { name := "scalarMul", fn := fun _ => fun
  | [d1, d2] => { results := [.lit (.bool true)], args := [d1, d2] }
  | _ => none }
def scalarMulRow : OpenClaim := { program := "ytfaiifpdafbenaa", sum := "3c864022f8683d04748d66c37ed346f81482e0dcf4df5ab9c1d58fa8b54c3f14", func := "entail/entaillaw13.ScalarMul", spec := "scalarMul", inPlace := ["math/bits.Sub64", "math/bits.Add64"], apart := false }
def ScalarMulSaid : Prop := scalarMulRow.holds Try.pinned (OpenSpec.ofChange scalarMulSpec)

/-- ITS FALSE NEIGHBOUR: 'it returns false'. Refute it at one input. -/
def scalarMulWrong : ChangeSpec := { name := "scalarMul", fn := fun _ => fun
  | [d1, d2] => { results := [.lit (.bool false)], args := [d1, d2] }
  | _ => none }
def ScalarMulWrongFalsely : Prop := scalarMulRow.holds Try.pinned (OpenSpec.ofChange scalarMulWrong)

/-- 'entaillaw13.ScalarInverse': WHATEVER THE INPUT: true; the input reads as it did. -/
def scalarInverseSpec : ChangeSpec := { name := "scalarInverse", fn := fun _ => fun
  | [d] => { results := [.lit (.bool true)], args := [d] }
  | _ => none }
def scalarInverseRow : OpenClaim := { program := "ytfaiifpdafbenaa", sum := "3c864022f8683d04748d66c37ed346f81482e0dcf4df5ab9c1d58fa8b54c3f14", func := "entail/entaillaw13.ScalarInverse", spec := "scalarInverse", inPlace := ["math/bits.Sub64", "math/bits.Add64"], apart := false }
def ScalarInverseSaid : Prop := scalarInverseRow.holds Try.pinned (OpenSpec.ofChange scalarInverseSpec)

/-- ITS FALSE NEIGHBOUR: 'it returns false'. Refute it at one input. -/
def scalarInverseWrong : ChangeSpec := { name := "scalarInverse", fn := fun _ => fun
  | [d] => { results := [.lit (.bool false)], args := [d] }
  | _ => none }
def ScalarInverseWrongFalsely : Prop := scalarInverseRow.holds Try.pinned (OpenSpec.ofChange scalarInverseWrong)

/- THE SECOND FORM. 'bulk': how many values and letters a reading holds, each counted each time it is reached (what is shared counts as often as it is met; a slice's spare places count too). A statement '..UptoSaid' is the law's where the arguments, and the package variables that the reading takes, are together of bulk at most 1048576: NARROWER than '..Said'. Prove '..Said' where nothing that the law and all that it calls make is longer than what came in: it says more and counts as full. Else prove '..UptoSaid'. A law counts once. -/
mutual
def uptoBulk {H : Type} : DataW H → Nat
  | .lit (.string bytes) => bytes.length + 1
  | .lit _ => 1
  | .nil => 1
  | .ptr d => uptoBulk d + 1
  | .slice elems spare => uptoBulkAll elems + uptoBulkAll spare + 1
  | .agg parts => uptoBulkAll parts + 1
  | .iface _ d => uptoBulk d + 1
  | .map entries => uptoBulkEntries entries + 1
  | .held _ => 1
def uptoBulkAll {H : Type} : List (DataW H) → Nat
  | [] => 0
  | d :: r => uptoBulk d + uptoBulkAll r
def uptoBulkEntries {H : Type} : List (Lit × DataW H) → Nat
  | [] => 0
  | x :: r => uptoBulkEntry x + uptoBulkEntries r
def uptoBulkEntry {H : Type} : Lit × DataW H → Nat
  | (.string bytes, d) => bytes.length + uptoBulk d + 1
  | (_, d) => uptoBulk d + 1
 end
def uptoSmall : (H : Type) → List (DataW H) → Bool := fun _ ds => decide (uptoBulkAll ds ≤ 1048576)
def OpenSpec.upto (s : _root_.Go.ChangeSpec) : _root_.Go.OpenSpec := { _root_.Go.OpenSpec.ofChange s with cond := some uptoSmall }

/-- 'entaillaw13.ScalarSums', WHERE WHAT IT READS IS OF BULK AT MOST 1048576: true; the input reads as it did. -/
def scalarSumsUptoRow : OpenClaim := { program := "ytfaiifpdafbenaa", sum := "3c864022f8683d04748d66c37ed346f81482e0dcf4df5ab9c1d58fa8b54c3f14", func := "entail/entaillaw13.ScalarSums", spec := "scalarSums", inPlace := ["math/bits.Sub64", "math/bits.Add64"], apart := false, narrowed := true }
def ScalarSumsUptoSaid : Prop := scalarSumsUptoRow.holds Try.pinned (OpenSpec.upto scalarSumsSpec)

/-- 'entaillaw13.ScalarLaws', WHERE WHAT IT READS IS OF BULK AT MOST 1048576: true; the input reads as it did. -/
def scalarLawsUptoRow : OpenClaim := { program := "ytfaiifpdafbenaa", sum := "3c864022f8683d04748d66c37ed346f81482e0dcf4df5ab9c1d58fa8b54c3f14", func := "entail/entaillaw13.ScalarLaws", spec := "scalarLaws", inPlace := ["math/bits.Sub64", "math/bits.Add64"], apart := false, narrowed := true }
def ScalarLawsUptoSaid : Prop := scalarLawsUptoRow.holds Try.pinned (OpenSpec.upto scalarLawsSpec)

/-- 'entaillaw13.ScalarRead', WHERE WHAT IT READS IS OF BULK AT MOST 1048576: true; the input reads as it did. -/
def scalarReadUptoRow : OpenClaim := { program := "ytfaiifpdafbenaa", sum := "3c864022f8683d04748d66c37ed346f81482e0dcf4df5ab9c1d58fa8b54c3f14", func := "entail/entaillaw13.ScalarRead", spec := "scalarRead", inPlace := ["math/bits.Sub64", "math/bits.Add64"], apart := false, narrowed := true }
def ScalarReadUptoSaid : Prop := scalarReadUptoRow.holds Try.pinned (OpenSpec.upto scalarReadSpec)

/-- 'entaillaw13.ScalarMul', WHERE WHAT IT READS IS OF BULK AT MOST 1048576: true; the input reads as it did. -/
def scalarMulUptoRow : OpenClaim := { program := "ytfaiifpdafbenaa", sum := "3c864022f8683d04748d66c37ed346f81482e0dcf4df5ab9c1d58fa8b54c3f14", func := "entail/entaillaw13.ScalarMul", spec := "scalarMul", inPlace := ["math/bits.Sub64", "math/bits.Add64"], apart := false, narrowed := true }
def ScalarMulUptoSaid : Prop := scalarMulUptoRow.holds Try.pinned (OpenSpec.upto scalarMulSpec)

/-- 'entaillaw13.ScalarInverse', WHERE WHAT IT READS IS OF BULK AT MOST 1048576: true; the input reads as it did. -/
def scalarInverseUptoRow : OpenClaim := { program := "ytfaiifpdafbenaa", sum := "3c864022f8683d04748d66c37ed346f81482e0dcf4df5ab9c1d58fa8b54c3f14", func := "entail/entaillaw13.ScalarInverse", spec := "scalarInverse", inPlace := ["math/bits.Sub64", "math/bits.Add64"], apart := false, narrowed := true }
def ScalarInverseUptoSaid : Prop := scalarInverseUptoRow.holds Try.pinned (OpenSpec.upto scalarInverseSpec)

end Rows
end Go.Proofs.Ytfaiifpdafbenaa
