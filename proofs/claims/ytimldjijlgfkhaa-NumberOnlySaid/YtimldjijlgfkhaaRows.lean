/-
  No cell of these rows narrows 'for every input' (looked for: loops, veiled, ifaces, maps, wideKeys, modest, calm, conditions, laid).
  DERIVED. THE GIVEN ROWS OF THIS SEAT. 5 by the template 'for every input the law returns true; each argument reads behind the call as it read before'; 0 by the template 'total and deterministic' (their statements: YtimldjijlgfkhaaTotals.lean).
  GIVEN WITH THE SEED: the statements are not yours to turn. If you find one false, say at which input.
  Laid BY PROGRAM, IN A SANDBOX (cutbox-rows.mjs): the forced cells as the released guide's own fill.sh prints them over the translation 8f4adb28718e1605… (all of the seat's roots in one cut). By AI agents, Wed Nov 11 2026. No macro, syntax, notation, axiom, sorry.
-/
import Derived.Test.YtimldjijlgfkhaaChecked
import GoSem.Claim
import GoSem.ClaimJoined
import GoSem.ClaimMapViews
import Derived.JoinedTies
import Derived.KernelRfl
namespace Go.Proofs.Ytimldjijlgfkhaa
/- THE CELL 'sum', in the pinned program and in every row, IS THE sha256 OF THE DUMP (.gsa) THAT YtimldjijlgfkhaaProg.lean LOADS. Nothing in Lean hashes anything: it is a label: what it is worth is what the hold of that sum in a sandbox is worth. -/
noncomputable def Try.pinned : Pinned := { name := "ytimldjijlgfkhaa", sum := "8f4adb28718e1605e9f5613960f5081d8fe40288a6ce77a4e3b56ad7509a8ef5", checked := Try.checked }
namespace Rows
def none {H : Type} : Left H := { results := [], args := [] }

/-- 'entaillaw05.NumberEncode': WHATEVER THE INPUT: true; the input reads as it did. -/
def numberEncodeSpec : ChangeSpec := { name := "numberEncode", fn := fun _ => fun
  | [d1, d2] => { results := [.lit (.bool true)], args := [d1, d2] }
  | _ => none }
def numberEncodeRow : OpenClaim := { program := "ytimldjijlgfkhaa", sum := "8f4adb28718e1605e9f5613960f5081d8fe40288a6ce77a4e3b56ad7509a8ef5", func := "entail/entaillaw05.NumberEncode", spec := "numberEncode", apart := false }
def NumberEncodeSaid : Prop := numberEncodeRow.holds Try.pinned (OpenSpec.ofChange numberEncodeSpec)

/-- ITS FALSE NEIGHBOUR: 'it returns false'. Refute it at one input. -/
def numberEncodeWrong : ChangeSpec := { name := "numberEncode", fn := fun _ => fun
  | [d1, d2] => { results := [.lit (.bool false)], args := [d1, d2] }
  | _ => none }
def NumberEncodeWrongFalsely : Prop := numberEncodeRow.holds Try.pinned (OpenSpec.ofChange numberEncodeWrong)

/-- 'entaillaw05.NumberDecode': WHATEVER THE INPUT: true; the input reads as it did. -/
def numberDecodeSpec : ChangeSpec := { name := "numberDecode", fn := fun _ => fun
  | [d1, d2] => { results := [.lit (.bool true)], args := [d1, d2] }
  | _ => none }
def numberDecodeRow : OpenClaim := { program := "ytimldjijlgfkhaa", sum := "8f4adb28718e1605e9f5613960f5081d8fe40288a6ce77a4e3b56ad7509a8ef5", func := "entail/entaillaw05.NumberDecode", spec := "numberDecode", apart := false }
def NumberDecodeSaid : Prop := numberDecodeRow.holds Try.pinned (OpenSpec.ofChange numberDecodeSpec)

/-- ITS FALSE NEIGHBOUR: 'it returns false'. Refute it at one input. -/
def numberDecodeWrong : ChangeSpec := { name := "numberDecode", fn := fun _ => fun
  | [d1, d2] => { results := [.lit (.bool false)], args := [d1, d2] }
  | _ => none }
def NumberDecodeWrongFalsely : Prop := numberDecodeRow.holds Try.pinned (OpenSpec.ofChange numberDecodeWrong)

/-- 'entaillaw05.NumberTruth': WHATEVER THE INPUT: true; the input reads as it did. -/
def numberTruthSpec : ChangeSpec := { name := "numberTruth", fn := fun _ => fun
  | [d] => { results := [.lit (.bool true)], args := [d] }
  | _ => none }
def numberTruthRow : OpenClaim := { program := "ytimldjijlgfkhaa", sum := "8f4adb28718e1605e9f5613960f5081d8fe40288a6ce77a4e3b56ad7509a8ef5", func := "entail/entaillaw05.NumberTruth", spec := "numberTruth", apart := false }
def NumberTruthSaid : Prop := numberTruthRow.holds Try.pinned (OpenSpec.ofChange numberTruthSpec)

/-- ITS FALSE NEIGHBOUR: 'it returns false'. Refute it at one input. -/
def numberTruthWrong : ChangeSpec := { name := "numberTruth", fn := fun _ => fun
  | [d] => { results := [.lit (.bool false)], args := [d] }
  | _ => none }
def NumberTruthWrongFalsely : Prop := numberTruthRow.holds Try.pinned (OpenSpec.ofChange numberTruthWrong)

/-- 'entaillaw05.NumberBack': WHATEVER THE INPUT: true; the input reads as it did. -/
def numberBackSpec : ChangeSpec := { name := "numberBack", fn := fun _ => fun
  | [d] => { results := [.lit (.bool true)], args := [d] }
  | _ => none }
def numberBackRow : OpenClaim := { program := "ytimldjijlgfkhaa", sum := "8f4adb28718e1605e9f5613960f5081d8fe40288a6ce77a4e3b56ad7509a8ef5", func := "entail/entaillaw05.NumberBack", spec := "numberBack", apart := false }
def NumberBackSaid : Prop := numberBackRow.holds Try.pinned (OpenSpec.ofChange numberBackSpec)

/-- ITS FALSE NEIGHBOUR: 'it returns false'. Refute it at one input. -/
def numberBackWrong : ChangeSpec := { name := "numberBack", fn := fun _ => fun
  | [d] => { results := [.lit (.bool false)], args := [d] }
  | _ => none }
def NumberBackWrongFalsely : Prop := numberBackRow.holds Try.pinned (OpenSpec.ofChange numberBackWrong)

/-- 'entaillaw05.NumberOnly': WHATEVER THE INPUT: true; the input reads as it did. -/
def numberOnlySpec : ChangeSpec := { name := "numberOnly", fn := fun _ => fun
  | [d] => { results := [.lit (.bool true)], args := [d] }
  | _ => none }
def numberOnlyRow : OpenClaim := { program := "ytimldjijlgfkhaa", sum := "8f4adb28718e1605e9f5613960f5081d8fe40288a6ce77a4e3b56ad7509a8ef5", func := "entail/entaillaw05.NumberOnly", spec := "numberOnly", apart := false }
def NumberOnlySaid : Prop := numberOnlyRow.holds Try.pinned (OpenSpec.ofChange numberOnlySpec)

/-- ITS FALSE NEIGHBOUR: 'it returns false'. Refute it at one input. -/
def numberOnlyWrong : ChangeSpec := { name := "numberOnly", fn := fun _ => fun
  | [d] => { results := [.lit (.bool false)], args := [d] }
  | _ => none }
def NumberOnlyWrongFalsely : Prop := numberOnlyRow.holds Try.pinned (OpenSpec.ofChange numberOnlyWrong)

/- THE SECOND FORM. 'bulk': how many values and letters a reading holds, each counted each time it is reached (what is shared counts as often as it is met; a slice's spare places count too). A statement '..UptoSaid' is the law's where the arguments, and the package variables that the reading takes, are together of bulk at most 1048576: NARROWER than '..Said'. Prove '..Said' where nothing that the law and all that it calls make is longer than what came in: it says more and counts as full. Else prove '..UptoSaid'. A law counts once. -/
mutual
def uptoBulk {H : Type} : DataW H → Nat
  | .lit (.string bytes) => bytes.length + 1
  | .lit _ => 1
  | .nil => 1
  | .ptr d => uptoBulk d + 1
  | .slice elems spare => uptoBulkAll elems + uptoBulkAll spare + 1
  | .agg parts => uptoBulkAll parts + 1
  | .iface _ d => uptoBulk d + 1
  | .map entries => uptoBulkEntries entries + 1
  | .held _ => 1
def uptoBulkAll {H : Type} : List (DataW H) → Nat
  | [] => 0
  | d :: r => uptoBulk d + uptoBulkAll r
def uptoBulkEntries {H : Type} : List (Lit × DataW H) → Nat
  | [] => 0
  | x :: r => uptoBulkEntry x + uptoBulkEntries r
def uptoBulkEntry {H : Type} : Lit × DataW H → Nat
  | (.string bytes, d) => bytes.length + uptoBulk d + 1
  | (_, d) => uptoBulk d + 1
 end
def uptoSmall : (H : Type) → List (DataW H) → Bool := fun _ ds => decide (uptoBulkAll ds ≤ 1048576)
def OpenSpec.upto (s : _root_.Go.ChangeSpec) : _root_.Go.OpenSpec := { _root_.Go.OpenSpec.ofChange s with cond := some uptoSmall }

/-- 'entaillaw05.NumberEncode', WHERE WHAT IT READS IS OF BULK AT MOST 1048576: true; the input reads as it did. -/
def numberEncodeUptoRow : OpenClaim := { program := "ytimldjijlgfkhaa", sum := "8f4adb28718e1605e9f5613960f5081d8fe40288a6ce77a4e3b56ad7509a8ef5", func := "entail/entaillaw05.NumberEncode", spec := "numberEncode", apart := false, narrowed := true }
def NumberEncodeUptoSaid : Prop := numberEncodeUptoRow.holds Try.pinned (OpenSpec.upto numberEncodeSpec)

/-- 'entaillaw05.NumberDecode', WHERE WHAT IT READS IS OF BULK AT MOST 1048576: true; the input reads as it did. -/
def numberDecodeUptoRow : OpenClaim := { program := "ytimldjijlgfkhaa", sum := "8f4adb28718e1605e9f5613960f5081d8fe40288a6ce77a4e3b56ad7509a8ef5", func := "entail/entaillaw05.NumberDecode", spec := "numberDecode", apart := false, narrowed := true }
def NumberDecodeUptoSaid : Prop := numberDecodeUptoRow.holds Try.pinned (OpenSpec.upto numberDecodeSpec)

/-- 'entaillaw05.NumberTruth', WHERE WHAT IT READS IS OF BULK AT MOST 1048576: true; the input reads as it did. -/
def numberTruthUptoRow : OpenClaim := { program := "ytimldjijlgfkhaa", sum := "8f4adb28718e1605e9f5613960f5081d8fe40288a6ce77a4e3b56ad7509a8ef5", func := "entail/entaillaw05.NumberTruth", spec := "numberTruth", apart := false, narrowed := true }
def NumberTruthUptoSaid : Prop := numberTruthUptoRow.holds Try.pinned (OpenSpec.upto numberTruthSpec)

/-- 'entaillaw05.NumberBack', WHERE WHAT IT READS IS OF BULK AT MOST 1048576: true; the input reads as it did. -/
def numberBackUptoRow : OpenClaim := { program := "ytimldjijlgfkhaa", sum := "8f4adb28718e1605e9f5613960f5081d8fe40288a6ce77a4e3b56ad7509a8ef5", func := "entail/entaillaw05.NumberBack", spec := "numberBack", apart := false, narrowed := true }
def NumberBackUptoSaid : Prop := numberBackUptoRow.holds Try.pinned (OpenSpec.upto numberBackSpec)

/-- 'entaillaw05.NumberOnly', WHERE WHAT IT READS IS OF BULK AT MOST 1048576: true; the input reads as it did. -/
def numberOnlyUptoRow : OpenClaim := { program := "ytimldjijlgfkhaa", sum := "8f4adb28718e1605e9f5613960f5081d8fe40288a6ce77a4e3b56ad7509a8ef5", func := "entail/entaillaw05.NumberOnly", spec := "numberOnly", apart := false, narrowed := true }
def NumberOnlyUptoSaid : Prop := numberOnlyUptoRow.holds Try.pinned (OpenSpec.upto numberOnlySpec)

end Rows
end Go.Proofs.Ytimldjijlgfkhaa
