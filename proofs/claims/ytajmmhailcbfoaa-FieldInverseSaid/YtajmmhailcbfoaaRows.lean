/-
  No cell of these rows narrows 'for every input' (looked for: loops, veiled, ifaces, maps, wideKeys, modest, calm, conditions, laid).
  DERIVED. THE GIVEN ROWS OF THIS SEAT. 7 by the template 'for every input the law returns true; each argument reads behind the call as it read before'; 0 by the template 'total and deterministic' (their statements: YtajmmhailcbfoaaTotals.lean).
  GIVEN WITH THE SEED: the statements are not yours to turn. If you find one false, say at which input.
  Laid BY PROGRAM, IN A SANDBOX (cutbox-rows.mjs): the forced cells as the released guide's own fill.sh prints them over the translation 094162352998f278… (all of the seat's roots in one cut). By AI agents, Wed Nov 11 2026. No macro, syntax, notation, axiom, sorry.
-/
import Derived.Test.YtajmmhailcbfoaaChecked
import GoSem.Claim
import GoSem.ClaimJoined
import GoSem.ClaimMapViews
import Derived.JoinedTies
import Derived.KernelRfl
namespace Go.Proofs.Ytajmmhailcbfoaa
/- THE CELL 'sum', in the pinned program and in every row, IS THE sha256 OF THE DUMP (.gsa) THAT YtajmmhailcbfoaaProg.lean LOADS. Nothing in Lean hashes anything: it is a label: what it is worth is what the hold of that sum in a sandbox is worth. -/
noncomputable def Try.pinned : Pinned := { name := "ytajmmhailcbfoaa", sum := "094162352998f2788e6653bceafef4d2cea936cd94849c56dc1d458909782a77", checked := Try.checked }
namespace Rows
def none {H : Type} : Left H := { results := [], args := [] }

/-- 'entaillaw12.FieldSums': WHATEVER THE INPUT: true; the input reads as it did. -/
def fieldSumsSpec : ChangeSpec := { name := "fieldSums", fn := fun _ => fun
  | [d1, d2] => { results := [.lit (.bool true)], args := [d1, d2] }
  | _ => none }
def fieldSumsRow : OpenClaim := { program := "ytajmmhailcbfoaa", sum := "094162352998f2788e6653bceafef4d2cea936cd94849c56dc1d458909782a77", func := "entail/entaillaw12.FieldSums", spec := "fieldSums", inPlace := ["math/bits.Sub64", "math/bits.Add64"], apart := false }
def FieldSumsSaid : Prop := fieldSumsRow.holds Try.pinned (OpenSpec.ofChange fieldSumsSpec)

/-- ITS FALSE NEIGHBOUR: 'it returns false'. Refute it at one input. -/
def fieldSumsWrong : ChangeSpec := { name := "fieldSums", fn := fun _ => fun
  | [d1, d2] => { results := [.lit (.bool false)], args := [d1, d2] }
  | _ => none }
def FieldSumsWrongFalsely : Prop := fieldSumsRow.holds Try.pinned (OpenSpec.ofChange fieldSumsWrong)

/-- 'entaillaw12.FieldMul': WHATEVER THE INPUT: true; the input reads as it did. -/
def fieldMulSpec : ChangeSpec := { name := "fieldMul", fn := fun _ => fun
  | [d1, d2] => { results := [.lit (.bool true)], args := [d1, d2] }
  | _ => none }
def fieldMulRow : OpenClaim := { program := "ytajmmhailcbfoaa", sum := "094162352998f2788e6653bceafef4d2cea936cd94849c56dc1d458909782a77", func := "entail/entaillaw12.FieldMul", spec := "fieldMul", inPlace := ["math/bits.Sub64", "math/bits.Add64"], apart := false }
def FieldMulSaid : Prop := fieldMulRow.holds Try.pinned (OpenSpec.ofChange fieldMulSpec)

/-- ITS FALSE NEIGHBOUR: 'it returns false'. Refute it at one input. -/
def fieldMulWrong : ChangeSpec := { name := "fieldMul", fn := fun _ => fun
  | [d1, d2] => { results := [.lit (.bool false)], args := [d1, d2] }
  | _ => none }
def FieldMulWrongFalsely : Prop := fieldMulRow.holds Try.pinned (OpenSpec.ofChange fieldMulWrong)

/-- 'entaillaw12.FieldPow': WHATEVER THE INPUT: true; the input reads as it did. -/
def fieldPowSpec : ChangeSpec := { name := "fieldPow", fn := fun _ => fun
  | [d1, d2] => { results := [.lit (.bool true)], args := [d1, d2] }
  | _ => none }
def fieldPowRow : OpenClaim := { program := "ytajmmhailcbfoaa", sum := "094162352998f2788e6653bceafef4d2cea936cd94849c56dc1d458909782a77", func := "entail/entaillaw12.FieldPow", spec := "fieldPow", inPlace := ["math/bits.Add64", "math/bits.Sub64"], apart := false }
def FieldPowSaid : Prop := fieldPowRow.holds Try.pinned (OpenSpec.ofChange fieldPowSpec)

/-- ITS FALSE NEIGHBOUR: 'it returns false'. Refute it at one input. -/
def fieldPowWrong : ChangeSpec := { name := "fieldPow", fn := fun _ => fun
  | [d1, d2] => { results := [.lit (.bool false)], args := [d1, d2] }
  | _ => none }
def FieldPowWrongFalsely : Prop := fieldPowRow.holds Try.pinned (OpenSpec.ofChange fieldPowWrong)

/-- 'entaillaw12.FieldLaws': WHATEVER THE INPUT: true; the input reads as it did. -/
def fieldLawsSpec : ChangeSpec := { name := "fieldLaws", fn := fun _ => fun
  | [d1, d2, d3] => { results := [.lit (.bool true)], args := [d1, d2, d3] }
  | _ => none }
def fieldLawsRow : OpenClaim := { program := "ytajmmhailcbfoaa", sum := "094162352998f2788e6653bceafef4d2cea936cd94849c56dc1d458909782a77", func := "entail/entaillaw12.FieldLaws", spec := "fieldLaws", inPlace := ["math/bits.Sub64", "math/bits.Add64"], apart := false }
def FieldLawsSaid : Prop := fieldLawsRow.holds Try.pinned (OpenSpec.ofChange fieldLawsSpec)

/-- ITS FALSE NEIGHBOUR: 'it returns false'. Refute it at one input. -/
def fieldLawsWrong : ChangeSpec := { name := "fieldLaws", fn := fun _ => fun
  | [d1, d2, d3] => { results := [.lit (.bool false)], args := [d1, d2, d3] }
  | _ => none }
def FieldLawsWrongFalsely : Prop := fieldLawsRow.holds Try.pinned (OpenSpec.ofChange fieldLawsWrong)

/-- 'entaillaw12.FieldInverse': WHATEVER THE INPUT: true; the input reads as it did. -/
def fieldInverseSpec : ChangeSpec := { name := "fieldInverse", fn := fun _ => fun
  | [d] => { results := [.lit (.bool true)], args := [d] }
  | _ => none }
def fieldInverseRow : OpenClaim := { program := "ytajmmhailcbfoaa", sum := "094162352998f2788e6653bceafef4d2cea936cd94849c56dc1d458909782a77", func := "entail/entaillaw12.FieldInverse", spec := "fieldInverse", inPlace := ["math/bits.Sub64", "math/bits.Add64"], apart := false }
def FieldInverseSaid : Prop := fieldInverseRow.holds Try.pinned (OpenSpec.ofChange fieldInverseSpec)

/-- ITS FALSE NEIGHBOUR: 'it returns false'. Refute it at one input. -/
def fieldInverseWrong : ChangeSpec := { name := "fieldInverse", fn := fun _ => fun
  | [d] => { results := [.lit (.bool false)], args := [d] }
  | _ => none }
def FieldInverseWrongFalsely : Prop := fieldInverseRow.holds Try.pinned (OpenSpec.ofChange fieldInverseWrong)

/-- 'entaillaw12.FieldRoots': WHATEVER THE INPUT: true; the input reads as it did. -/
def fieldRootsSpec : ChangeSpec := { name := "fieldRoots", fn := fun _ => fun
  | [d] => { results := [.lit (.bool true)], args := [d] }
  | _ => none }
def fieldRootsRow : OpenClaim := { program := "ytajmmhailcbfoaa", sum := "094162352998f2788e6653bceafef4d2cea936cd94849c56dc1d458909782a77", func := "entail/entaillaw12.FieldRoots", spec := "fieldRoots", inPlace := ["math/bits.Add64", "math/bits.Sub64"], apart := false }
def FieldRootsSaid : Prop := fieldRootsRow.holds Try.pinned (OpenSpec.ofChange fieldRootsSpec)

/-- ITS FALSE NEIGHBOUR: 'it returns false'. Refute it at one input. -/
def fieldRootsWrong : ChangeSpec := { name := "fieldRoots", fn := fun _ => fun
  | [d] => { results := [.lit (.bool false)], args := [d] }
  | _ => none }
def FieldRootsWrongFalsely : Prop := fieldRootsRow.holds Try.pinned (OpenSpec.ofChange fieldRootsWrong)

/-- 'entaillaw12.FieldLeft': WHATEVER THE INPUT: true; the input reads as it did. -/
def fieldLeftSpec : ChangeSpec := { name := "fieldLeft", fn := fun _ => fun
  | [d1, d2] => { results := [.lit (.bool true)], args := [d1, d2] }
  | _ => none }
def fieldLeftRow : OpenClaim := { program := "ytajmmhailcbfoaa", sum := "094162352998f2788e6653bceafef4d2cea936cd94849c56dc1d458909782a77", func := "entail/entaillaw12.FieldLeft", spec := "fieldLeft", inPlace := ["math/bits.Add64", "math/bits.Sub64"], apart := false }
def FieldLeftSaid : Prop := fieldLeftRow.holds Try.pinned (OpenSpec.ofChange fieldLeftSpec)

/-- ITS FALSE NEIGHBOUR: 'it returns false'. Refute it at one input. -/
def fieldLeftWrong : ChangeSpec := { name := "fieldLeft", fn := fun _ => fun
  | [d1, d2] => { results := [.lit (.bool false)], args := [d1, d2] }
  | _ => none }
def FieldLeftWrongFalsely : Prop := fieldLeftRow.holds Try.pinned (OpenSpec.ofChange fieldLeftWrong)

/- THE SECOND FORM. 'bulk': how many values and letters a reading holds, each counted each time it is reached (what is shared counts as often as it is met; a slice's spare places count too). A statement '..UptoSaid' is the law's where the arguments, and the package variables that the reading takes, are together of bulk at most 1048576: NARROWER than '..Said'. Prove '..Said' where nothing that the law and all that it calls make is longer than what came in: it says more and counts as full. Else prove '..UptoSaid'. A law counts once. -/
mutual
def uptoBulk {H : Type} : DataW H → Nat
  | .lit (.string bytes) => bytes.length + 1
  | .lit _ => 1
  | .nil => 1
  | .ptr d => uptoBulk d + 1
  | .slice elems spare => uptoBulkAll elems + uptoBulkAll spare + 1
  | .agg parts => uptoBulkAll parts + 1
  | .iface _ d => uptoBulk d + 1
  | .map entries => uptoBulkEntries entries + 1
  | .held _ => 1
def uptoBulkAll {H : Type} : List (DataW H) → Nat
  | [] => 0
  | d :: r => uptoBulk d + uptoBulkAll r
def uptoBulkEntries {H : Type} : List (Lit × DataW H) → Nat
  | [] => 0
  | x :: r => uptoBulkEntry x + uptoBulkEntries r
def uptoBulkEntry {H : Type} : Lit × DataW H → Nat
  | (.string bytes, d) => bytes.length + uptoBulk d + 1
  | (_, d) => uptoBulk d + 1
 end
def uptoSmall : (H : Type) → List (DataW H) → Bool := fun _ ds => decide (uptoBulkAll ds ≤ 1048576)
def OpenSpec.upto (s : _root_.Go.ChangeSpec) : _root_.Go.OpenSpec := { _root_.Go.OpenSpec.ofChange s with cond := some uptoSmall }

/-- 'entaillaw12.FieldSums', WHERE WHAT IT READS IS OF BULK AT MOST 1048576: true; the input reads as it did. -/
def fieldSumsUptoRow : OpenClaim := { program := "ytajmmhailcbfoaa", sum := "094162352998f2788e6653bceafef4d2cea936cd94849c56dc1d458909782a77", func := "entail/entaillaw12.FieldSums", spec := "fieldSums", inPlace := ["math/bits.Sub64", "math/bits.Add64"], apart := false, narrowed := true }
def FieldSumsUptoSaid : Prop := fieldSumsUptoRow.holds Try.pinned (OpenSpec.upto fieldSumsSpec)

/-- 'entaillaw12.FieldMul', WHERE WHAT IT READS IS OF BULK AT MOST 1048576: true; the input reads as it did. -/
def fieldMulUptoRow : OpenClaim := { program := "ytajmmhailcbfoaa", sum := "094162352998f2788e6653bceafef4d2cea936cd94849c56dc1d458909782a77", func := "entail/entaillaw12.FieldMul", spec := "fieldMul", inPlace := ["math/bits.Sub64", "math/bits.Add64"], apart := false, narrowed := true }
def FieldMulUptoSaid : Prop := fieldMulUptoRow.holds Try.pinned (OpenSpec.upto fieldMulSpec)

/-- 'entaillaw12.FieldPow', WHERE WHAT IT READS IS OF BULK AT MOST 1048576: true; the input reads as it did. -/
def fieldPowUptoRow : OpenClaim := { program := "ytajmmhailcbfoaa", sum := "094162352998f2788e6653bceafef4d2cea936cd94849c56dc1d458909782a77", func := "entail/entaillaw12.FieldPow", spec := "fieldPow", inPlace := ["math/bits.Add64", "math/bits.Sub64"], apart := false, narrowed := true }
def FieldPowUptoSaid : Prop := fieldPowUptoRow.holds Try.pinned (OpenSpec.upto fieldPowSpec)

/-- 'entaillaw12.FieldLaws', WHERE WHAT IT READS IS OF BULK AT MOST 1048576: true; the input reads as it did. -/
def fieldLawsUptoRow : OpenClaim := { program := "ytajmmhailcbfoaa", sum := "094162352998f2788e6653bceafef4d2cea936cd94849c56dc1d458909782a77", func := "entail/entaillaw12.FieldLaws", spec := "fieldLaws", inPlace := ["math/bits.Sub64", "math/bits.Add64"], apart := false, narrowed := true }
def FieldLawsUptoSaid : Prop := fieldLawsUptoRow.holds Try.pinned (OpenSpec.upto fieldLawsSpec)

/-- 'entaillaw12.FieldInverse', WHERE WHAT IT READS IS OF BULK AT MOST 1048576: true; the input reads as it did. -/
def fieldInverseUptoRow : OpenClaim := { program := "ytajmmhailcbfoaa", sum := "094162352998f2788e6653bceafef4d2cea936cd94849c56dc1d458909782a77", func := "entail/entaillaw12.FieldInverse", spec := "fieldInverse", inPlace := ["math/bits.Sub64", "math/bits.Add64"], apart := false, narrowed := true }
def FieldInverseUptoSaid : Prop := fieldInverseUptoRow.holds Try.pinned (OpenSpec.upto fieldInverseSpec)

/-- 'entaillaw12.FieldRoots', WHERE WHAT IT READS IS OF BULK AT MOST 1048576: true; the input reads as it did. -/
def fieldRootsUptoRow : OpenClaim := { program := "ytajmmhailcbfoaa", sum := "094162352998f2788e6653bceafef4d2cea936cd94849c56dc1d458909782a77", func := "entail/entaillaw12.FieldRoots", spec := "fieldRoots", inPlace := ["math/bits.Add64", "math/bits.Sub64"], apart := false, narrowed := true }
def FieldRootsUptoSaid : Prop := fieldRootsUptoRow.holds Try.pinned (OpenSpec.upto fieldRootsSpec)

/-- 'entaillaw12.FieldLeft', WHERE WHAT IT READS IS OF BULK AT MOST 1048576: true; the input reads as it did. -/
def fieldLeftUptoRow : OpenClaim := { program := "ytajmmhailcbfoaa", sum := "094162352998f2788e6653bceafef4d2cea936cd94849c56dc1d458909782a77", func := "entail/entaillaw12.FieldLeft", spec := "fieldLeft", inPlace := ["math/bits.Add64", "math/bits.Sub64"], apart := false, narrowed := true }
def FieldLeftUptoSaid : Prop := fieldLeftUptoRow.holds Try.pinned (OpenSpec.upto fieldLeftSpec)

end Rows
end Go.Proofs.Ytajmmhailcbfoaa
