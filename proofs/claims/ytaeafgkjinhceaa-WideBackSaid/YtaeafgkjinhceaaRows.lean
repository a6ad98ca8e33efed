/-
  No cell of these rows narrows 'for every input' (looked for: loops, veiled, ifaces, maps, wideKeys, modest, calm, conditions, laid).
  DERIVED. THE GIVEN ROWS OF THIS SEAT. 8 by the template 'for every input the law returns true; each argument reads behind the call as it read before'; 0 by the template 'total and deterministic' (their statements: YtaeafgkjinhceaaTotals.lean).
  GIVEN WITH THE SEED: the statements are not yours to turn. If you find one false, say at which input.
  Laid BY PROGRAM, IN A SANDBOX (cutbox-rows.mjs): the forced cells as the released guide's own fill.sh prints them over the translation a580027a2e339af6… (all of the seat's roots in one cut). By AI agents, Wed Nov 11 2026. No macro, syntax, notation, axiom, sorry.
-/
import Derived.Test.YtaeafgkjinhceaaChecked
import GoSem.Claim
import GoSem.ClaimJoined
import GoSem.ClaimMapViews
import Derived.JoinedTies
import Derived.KernelRfl
namespace Go.Proofs.Ytaeafgkjinhceaa
/- THE CELL 'sum', in the pinned program and in every row, IS THE sha256 OF THE DUMP (.gsa) THAT YtaeafgkjinhceaaProg.lean LOADS. Nothing in Lean hashes anything: it is a label: what it is worth is what the hold of that sum in a sandbox is worth. -/
noncomputable def Try.pinned : Pinned := { name := "ytaeafgkjinhceaa", sum := "a580027a2e339af65909c6c38cb2e415320f57d358feccea67ca7b404235a7f7", checked := Try.checked }
namespace Rows
def none {H : Type} : Left H := { results := [], args := [] }

/-- 'entaillaw06.WideSums': WHATEVER THE INPUT: true; the input reads as it did. -/
def wideSumsSpec : ChangeSpec := { name := "wideSums", fn := fun _ => fun
  | [d1, d2] => { results := [.lit (.bool true)], args := [d1, d2] }
  | _ => none }
def wideSumsRow : OpenClaim := { program := "ytaeafgkjinhceaa", sum := "a580027a2e339af65909c6c38cb2e415320f57d358feccea67ca7b404235a7f7", func := "entail/entaillaw06.WideSums", spec := "wideSums", inPlace := ["math/bits.Add64", "math/bits.Sub64"], named := ["math/bits.divideError", "math/bits.overflowError"], apart := false }
def WideSumsSaid : Prop := wideSumsRow.holds Try.pinned (OpenSpec.ofChange wideSumsSpec)

/-- ITS FALSE NEIGHBOUR: 'it returns false'. Refute it at one input. -/
def wideSumsWrong : ChangeSpec := { name := "wideSums", fn := fun _ => fun
  | [d1, d2] => { results := [.lit (.bool false)], args := [d1, d2] }
  | _ => none }
def WideSumsWrongFalsely : Prop := wideSumsRow.holds Try.pinned (OpenSpec.ofChange wideSumsWrong)

/-- 'entaillaw06.WideDiv': WHATEVER THE INPUT: true; the input reads as it did. -/
def wideDivSpec : ChangeSpec := { name := "wideDiv", fn := fun _ => fun
  | [d1, d2, d3] => { results := [.lit (.bool true)], args := [d1, d2, d3] }
  | _ => none }
def wideDivRow : OpenClaim := { program := "ytaeafgkjinhceaa", sum := "a580027a2e339af65909c6c38cb2e415320f57d358feccea67ca7b404235a7f7", func := "entail/entaillaw06.WideDiv", spec := "wideDiv", inPlace := ["math/bits.Sub64", "math/bits.Add64"], named := ["math/bits.divideError", "math/bits.overflowError"], apart := false }
def WideDivSaid : Prop := wideDivRow.holds Try.pinned (OpenSpec.ofChange wideDivSpec)

/-- ITS FALSE NEIGHBOUR: 'it returns false'. Refute it at one input. -/
def wideDivWrong : ChangeSpec := { name := "wideDiv", fn := fun _ => fun
  | [d1, d2, d3] => { results := [.lit (.bool false)], args := [d1, d2, d3] }
  | _ => none }
def WideDivWrongFalsely : Prop := wideDivRow.holds Try.pinned (OpenSpec.ofChange wideDivWrong)

/-- 'entaillaw06.WideShifts': WHATEVER THE INPUT: true; the input reads as it did. -/
def wideShiftsSpec : ChangeSpec := { name := "wideShifts", fn := fun _ => fun
  | [d1, d2] => { results := [.lit (.bool true)], args := [d1, d2] }
  | _ => none }
def wideShiftsRow : OpenClaim := { program := "ytaeafgkjinhceaa", sum := "a580027a2e339af65909c6c38cb2e415320f57d358feccea67ca7b404235a7f7", func := "entail/entaillaw06.WideShifts", spec := "wideShifts", inPlace := ["math/bits.Sub64", "math/bits.Add64"], named := ["math/bits.divideError", "math/bits.overflowError"], apart := false }
def WideShiftsSaid : Prop := wideShiftsRow.holds Try.pinned (OpenSpec.ofChange wideShiftsSpec)

/-- ITS FALSE NEIGHBOUR: 'it returns false'. Refute it at one input. -/
def wideShiftsWrong : ChangeSpec := { name := "wideShifts", fn := fun _ => fun
  | [d1, d2] => { results := [.lit (.bool false)], args := [d1, d2] }
  | _ => none }
def WideShiftsWrongFalsely : Prop := wideShiftsRow.holds Try.pinned (OpenSpec.ofChange wideShiftsWrong)

/-- 'entaillaw06.WideMul': WHATEVER THE INPUT: true; the input reads as it did. -/
def wideMulSpec : ChangeSpec := { name := "wideMul", fn := fun _ => fun
  | [d1, d2] => { results := [.lit (.bool true)], args := [d1, d2] }
  | _ => none }
def wideMulRow : OpenClaim := { program := "ytaeafgkjinhceaa", sum := "a580027a2e339af65909c6c38cb2e415320f57d358feccea67ca7b404235a7f7", func := "entail/entaillaw06.WideMul", spec := "wideMul", inPlace := ["math/bits.Add64", "math/bits.Sub64"], named := ["math/bits.divideError", "math/bits.overflowError"], apart := false }
def WideMulSaid : Prop := wideMulRow.holds Try.pinned (OpenSpec.ofChange wideMulSpec)

/-- ITS FALSE NEIGHBOUR: 'it returns false'. Refute it at one input. -/
def wideMulWrong : ChangeSpec := { name := "wideMul", fn := fun _ => fun
  | [d1, d2] => { results := [.lit (.bool false)], args := [d1, d2] }
  | _ => none }
def WideMulWrongFalsely : Prop := wideMulRow.holds Try.pinned (OpenSpec.ofChange wideMulWrong)

/-- 'entaillaw06.WideUndone': WHATEVER THE INPUT: true; the input reads as it did. -/
def wideUndoneSpec : ChangeSpec := { name := "wideUndone", fn := fun _ => fun
  | [d1, d2] => { results := [.lit (.bool true)], args := [d1, d2] }
  | _ => none }
def wideUndoneRow : OpenClaim := { program := "ytaeafgkjinhceaa", sum := "a580027a2e339af65909c6c38cb2e415320f57d358feccea67ca7b404235a7f7", func := "entail/entaillaw06.WideUndone", spec := "wideUndone", inPlace := ["math/bits.Add64", "math/bits.Sub64"], named := ["math/bits.divideError", "math/bits.overflowError"], apart := false }
def WideUndoneSaid : Prop := wideUndoneRow.holds Try.pinned (OpenSpec.ofChange wideUndoneSpec)

/-- ITS FALSE NEIGHBOUR: 'it returns false'. Refute it at one input. -/
def wideUndoneWrong : ChangeSpec := { name := "wideUndone", fn := fun _ => fun
  | [d1, d2] => { results := [.lit (.bool false)], args := [d1, d2] }
  | _ => none }
def WideUndoneWrongFalsely : Prop := wideUndoneRow.holds Try.pinned (OpenSpec.ofChange wideUndoneWrong)

/-- 'entaillaw06.WideLaws': WHATEVER THE INPUT: true; the input reads as it did. -/
def wideLawsSpec : ChangeSpec := { name := "wideLaws", fn := fun _ => fun
  | [d1, d2, d3] => { results := [.lit (.bool true)], args := [d1, d2, d3] }
  | _ => none }
def wideLawsRow : OpenClaim := { program := "ytaeafgkjinhceaa", sum := "a580027a2e339af65909c6c38cb2e415320f57d358feccea67ca7b404235a7f7", func := "entail/entaillaw06.WideLaws", spec := "wideLaws", inPlace := ["math/bits.Add64", "math/bits.Sub64"], named := ["math/bits.divideError", "math/bits.overflowError"], apart := false }
def WideLawsSaid : Prop := wideLawsRow.holds Try.pinned (OpenSpec.ofChange wideLawsSpec)

/-- ITS FALSE NEIGHBOUR: 'it returns false'. Refute it at one input. -/
def wideLawsWrong : ChangeSpec := { name := "wideLaws", fn := fun _ => fun
  | [d1, d2, d3] => { results := [.lit (.bool false)], args := [d1, d2, d3] }
  | _ => none }
def WideLawsWrongFalsely : Prop := wideLawsRow.holds Try.pinned (OpenSpec.ofChange wideLawsWrong)

/-- 'entaillaw06.WideTexts': WHATEVER THE INPUT: true; the input reads as it did. -/
def wideTextsSpec : ChangeSpec := { name := "wideTexts", fn := fun _ => fun
  | [d1, d2, d3] => { results := [.lit (.bool true)], args := [d1, d2, d3] }
  | _ => none }
def wideTextsRow : OpenClaim := { program := "ytaeafgkjinhceaa", sum := "a580027a2e339af65909c6c38cb2e415320f57d358feccea67ca7b404235a7f7", func := "entail/entaillaw06.WideTexts", spec := "wideTexts", inPlace := ["math/bits.Sub64", "math/bits.Add64"], named := ["math/bits.divideError", "math/bits.overflowError"], apart := false }
def WideTextsSaid : Prop := wideTextsRow.holds Try.pinned (OpenSpec.ofChange wideTextsSpec)

/-- ITS FALSE NEIGHBOUR: 'it returns false'. Refute it at one input. -/
def wideTextsWrong : ChangeSpec := { name := "wideTexts", fn := fun _ => fun
  | [d1, d2, d3] => { results := [.lit (.bool false)], args := [d1, d2, d3] }
  | _ => none }
def WideTextsWrongFalsely : Prop := wideTextsRow.holds Try.pinned (OpenSpec.ofChange wideTextsWrong)

/-- 'entaillaw06.WideBack': WHATEVER THE INPUT: true; the input reads as it did. -/
def wideBackSpec : ChangeSpec := { name := "wideBack", fn := fun _ => fun
  | [d1, d2] => { results := [.lit (.bool true)], args := [d1, d2] }
  | _ => none }
def wideBackRow : OpenClaim := { program := "ytaeafgkjinhceaa", sum := "a580027a2e339af65909c6c38cb2e415320f57d358feccea67ca7b404235a7f7", func := "entail/entaillaw06.WideBack", spec := "wideBack", inPlace := ["math/bits.Add64", "math/bits.Sub64"], named := ["math/bits.divideError", "math/bits.overflowError"], apart := false }
def WideBackSaid : Prop := wideBackRow.holds Try.pinned (OpenSpec.ofChange wideBackSpec)

/-- ITS FALSE NEIGHBOUR: 'it returns false'. Refute it at one input. -/
def wideBackWrong : ChangeSpec := { name := "wideBack", fn := fun _ => fun
  | [d1, d2] => { results := [.lit (.bool false)], args := [d1, d2] }
  | _ => none }
def WideBackWrongFalsely : Prop := wideBackRow.holds Try.pinned (OpenSpec.ofChange wideBackWrong)

/- THE SECOND FORM. 'bulk': how many values and letters a reading holds, each counted each time it is reached (what is shared counts as often as it is met; a slice's spare places count too). A statement '..UptoSaid' is the law's where the arguments, and the package variables that the reading takes, are together of bulk at most 1048576: NARROWER than '..Said'. Prove '..Said' where nothing that the law and all that it calls make is longer than what came in: it says more and counts as full. Else prove '..UptoSaid'. A law counts once. -/
mutual
def uptoBulk {H : Type} : DataW H → Nat
  | .lit (.string bytes) => bytes.length + 1
  | .lit _ => 1
  | .nil => 1
  | .ptr d => uptoBulk d + 1
  | .slice elems spare => uptoBulkAll elems + uptoBulkAll spare + 1
  | .agg parts => uptoBulkAll parts + 1
  | .iface _ d => uptoBulk d + 1
  | .map entries => uptoBulkEntries entries + 1
  | .held _ => 1
def uptoBulkAll {H : Type} : List (DataW H) → Nat
  | [] => 0
  | d :: r => uptoBulk d + uptoBulkAll r
def uptoBulkEntries {H : Type} : List (Lit × DataW H) → Nat
  | [] => 0
  | x :: r => uptoBulkEntry x + uptoBulkEntries r
def uptoBulkEntry {H : Type} : Lit × DataW H → Nat
  | (.string bytes, d) => bytes.length + uptoBulk d + 1
  | (_, d) => uptoBulk d + 1
 end
def uptoSmall : (H : Type) → List (DataW H) → Bool := fun _ ds => decide (uptoBulkAll ds ≤ 1048576)
def OpenSpec.upto (s : _root_.Go.ChangeSpec) : _root_.Go.OpenSpec := { _root_.Go.OpenSpec.ofChange s with cond := some uptoSmall }

/-- 'entaillaw06.WideSums', WHERE WHAT IT READS IS OF BULK AT MOST 1048576: true; the input reads as it did. -/
def wideSumsUptoRow : OpenClaim := { program := "ytaeafgkjinhceaa", sum := "a580027a2e339af65909c6c38cb2e415320f57d358feccea67ca7b404235a7f7", func := "entail/entaillaw06.WideSums", spec := "wideSums", inPlace := ["math/bits.Add64", "math/bits.Sub64"], named := ["math/bits.divideError", "math/bits.overflowError"], apart := false, narrowed := true }
def WideSumsUptoSaid : Prop := wideSumsUptoRow.holds Try.pinned (OpenSpec.upto wideSumsSpec)

/-- 'entaillaw06.WideDiv', WHERE WHAT IT READS IS OF BULK AT MOST 1048576: true; the input reads as it did. -/
def wideDivUptoRow : OpenClaim := { program := "ytaeafgkjinhceaa", sum := "a580027a2e339af65909c6c38cb2e415320f57d358feccea67ca7b404235a7f7", func := "entail/entaillaw06.WideDiv", spec := "wideDiv", inPlace := ["math/bits.Sub64", "math/bits.Add64"], named := ["math/bits.divideError", "math/bits.overflowError"], apart := false, narrowed := true }
def WideDivUptoSaid : Prop := wideDivUptoRow.holds Try.pinned (OpenSpec.upto wideDivSpec)

/-- 'entaillaw06.WideShifts', WHERE WHAT IT READS IS OF BULK AT MOST 1048576: true; the input reads as it did. -/
def wideShiftsUptoRow : OpenClaim := { program := "ytaeafgkjinhceaa", sum := "a580027a2e339af65909c6c38cb2e415320f57d358feccea67ca7b404235a7f7", func := "entail/entaillaw06.WideShifts", spec := "wideShifts", inPlace := ["math/bits.Sub64", "math/bits.Add64"], named := ["math/bits.divideError", "math/bits.overflowError"], apart := false, narrowed := true }
def WideShiftsUptoSaid : Prop := wideShiftsUptoRow.holds Try.pinned (OpenSpec.upto wideShiftsSpec)

/-- 'entaillaw06.WideMul', WHERE WHAT IT READS IS OF BULK AT MOST 1048576: true; the input reads as it did. -/
def wideMulUptoRow : OpenClaim := { program := "ytaeafgkjinhceaa", sum := "a580027a2e339af65909c6c38cb2e415320f57d358feccea67ca7b404235a7f7", func := "entail/entaillaw06.WideMul", spec := "wideMul", inPlace := ["math/bits.Add64", "math/bits.Sub64"], named := ["math/bits.divideError", "math/bits.overflowError"], apart := false, narrowed := true }
def WideMulUptoSaid : Prop := wideMulUptoRow.holds Try.pinned (OpenSpec.upto wideMulSpec)

/-- 'entaillaw06.WideUndone', WHERE WHAT IT READS IS OF BULK AT MOST 1048576: true; the input reads as it did. -/
def wideUndoneUptoRow : OpenClaim := { program := "ytaeafgkjinhceaa", sum := "a580027a2e339af65909c6c38cb2e415320f57d358feccea67ca7b404235a7f7", func := "entail/entaillaw06.WideUndone", spec := "wideUndone", inPlace := ["math/bits.Add64", "math/bits.Sub64"], named := ["math/bits.divideError", "math/bits.overflowError"], apart := false, narrowed := true }
def WideUndoneUptoSaid : Prop := wideUndoneUptoRow.holds Try.pinned (OpenSpec.upto wideUndoneSpec)

/-- 'entaillaw06.WideLaws', WHERE WHAT IT READS IS OF BULK AT MOST 1048576: true; the input reads as it did. -/
def wideLawsUptoRow : OpenClaim := { program := "ytaeafgkjinhceaa", sum := "a580027a2e339af65909c6c38cb2e415320f57d358feccea67ca7b404235a7f7", func := "entail/entaillaw06.WideLaws", spec := "wideLaws", inPlace := ["math/bits.Add64", "math/bits.Sub64"], named := ["math/bits.divideError", "math/bits.overflowError"], apart := false, narrowed := true }
def WideLawsUptoSaid : Prop := wideLawsUptoRow.holds Try.pinned (OpenSpec.upto wideLawsSpec)

/-- 'entaillaw06.WideTexts', WHERE WHAT IT READS IS OF BULK AT MOST 1048576: true; the input reads as it did. -/
def wideTextsUptoRow : OpenClaim := { program := "ytaeafgkjinhceaa", sum := "a580027a2e339af65909c6c38cb2e415320f57d358feccea67ca7b404235a7f7", func := "entail/entaillaw06.WideTexts", spec := "wideTexts", inPlace := ["math/bits.Sub64", "math/bits.Add64"], named := ["math/bits.divideError", "math/bits.overflowError"], apart := false, narrowed := true }
def WideTextsUptoSaid : Prop := wideTextsUptoRow.holds Try.pinned (OpenSpec.upto wideTextsSpec)

/-- 'entaillaw06.WideBack', WHERE WHAT IT READS IS OF BULK AT MOST 1048576: true; the input reads as it did. -/
def wideBackUptoRow : OpenClaim := { program := "ytaeafgkjinhceaa", sum := "a580027a2e339af65909c6c38cb2e415320f57d358feccea67ca7b404235a7f7", func := "entail/entaillaw06.WideBack", spec := "wideBack", inPlace := ["math/bits.Add64", "math/bits.Sub64"], named := ["math/bits.divideError", "math/bits.overflowError"], apart := false, narrowed := true }
def WideBackUptoSaid : Prop := wideBackUptoRow.holds Try.pinned (OpenSpec.upto wideBackSpec)

end Rows
end Go.Proofs.Ytaeafgkjinhceaa
