/-
  No cell of these rows narrows 'for every input' (looked for: loops, veiled, ifaces, maps, wideKeys, modest, calm, conditions, laid).
  DERIVED. THE GIVEN ROWS OF THIS SEAT. 5 by the template 'for every input the law returns true; each argument reads behind the call as it read before'; 0 by the template 'total and deterministic' (their statements: YtikkhkjndbicgaaTotals.lean).
  GIVEN WITH THE SEED: the statements are not yours to turn. If you find one false, say at which input.
  Laid BY PROGRAM, IN A SANDBOX (cutbox-rows.mjs): the forced cells as the released guide's own fill.sh prints them over the translation 7e7ce7635300fa8d… (all of the seat's roots in one cut). By AI agents, Wed Nov 11 2026. No macro, syntax, notation, axiom, sorry.
-/
import Derived.Test.YtikkhkjndbicgaaChecked
import GoSem.Claim
import GoSem.ClaimJoined
import GoSem.ClaimMapViews
import Derived.JoinedTies
import Derived.KernelRfl
namespace Go.Proofs.Ytikkhkjndbicgaa
/- THE CELL 'sum', in the pinned program and in every row, IS THE sha256 OF THE DUMP (.gsa) THAT YtikkhkjndbicgaaProg.lean LOADS. Nothing in Lean hashes anything: it is a label: what it is worth is what the hold of that sum in a sandbox is worth. -/
noncomputable def Try.pinned : Pinned := { name := "ytikkhkjndbicgaa", sum := "7e7ce7635300fa8d5d762f9a8cb40b16f426305be1234aa91d208a500112f219", checked := Try.checked }
namespace Rows
def none {H : Type} : Left H := { results := [], args := [] }

/-- 'entaillaw20.StackDo': WHATEVER THE INPUT: true; the input reads as it did. -/
def stackDoSpec : ChangeSpec := { name := "stackDo", fn := fun _ => fun
  | [d1, d2] => { results := [.lit (.bool true)], args := [d1, d2] }
  | _ => none }
def stackDoRow : OpenClaim := { program := "ytikkhkjndbicgaa", sum := "7e7ce7635300fa8d5d762f9a8cb40b16f426305be1234aa91d208a500112f219", func := "entail/entaillaw20.StackDo", spec := "stackDo", unfollowed := true, recurses := true, apart := false }
def StackDoSaid : Prop := stackDoRow.holds Try.pinned (OpenSpec.ofChange stackDoSpec)

/-- ITS FALSE NEIGHBOUR: 'it returns false'. Refute it at one input. -/
def stackDoWrong : ChangeSpec := { name := "stackDo", fn := fun _ => fun
  | [d1, d2] => { results := [.lit (.bool false)], args := [d1, d2] }
  | _ => none }
def StackDoWrongFalsely : Prop := stackDoRow.holds Try.pinned (OpenSpec.ofChange stackDoWrong)

/-- 'entaillaw20.StackTwice': WHATEVER THE INPUT: true; the input reads as it did. -/
def stackTwiceSpec : ChangeSpec := { name := "stackTwice", fn := fun _ => fun
  | [d] => { results := [.lit (.bool true)], args := [d] }
  | _ => none }
def stackTwiceRow : OpenClaim := { program := "ytikkhkjndbicgaa", sum := "7e7ce7635300fa8d5d762f9a8cb40b16f426305be1234aa91d208a500112f219", func := "entail/entaillaw20.StackTwice", spec := "stackTwice", unfollowed := true, recurses := true, apart := false }
def StackTwiceSaid : Prop := stackTwiceRow.holds Try.pinned (OpenSpec.ofChange stackTwiceSpec)

/-- ITS FALSE NEIGHBOUR: 'it returns false'. Refute it at one input. -/
def stackTwiceWrong : ChangeSpec := { name := "stackTwice", fn := fun _ => fun
  | [d] => { results := [.lit (.bool false)], args := [d] }
  | _ => none }
def StackTwiceWrongFalsely : Prop := stackTwiceRow.holds Try.pinned (OpenSpec.ofChange stackTwiceWrong)

/-- 'entaillaw20.StackBelow': WHATEVER THE INPUT: true; the input reads as it did. -/
def stackBelowSpec : ChangeSpec := { name := "stackBelow", fn := fun _ => fun
  | [d1, d2] => { results := [.lit (.bool true)], args := [d1, d2] }
  | _ => none }
def stackBelowRow : OpenClaim := { program := "ytikkhkjndbicgaa", sum := "7e7ce7635300fa8d5d762f9a8cb40b16f426305be1234aa91d208a500112f219", func := "entail/entaillaw20.StackBelow", spec := "stackBelow", unfollowed := true, recurses := true, apart := false }
def StackBelowSaid : Prop := stackBelowRow.holds Try.pinned (OpenSpec.ofChange stackBelowSpec)

/-- ITS FALSE NEIGHBOUR: 'it returns false'. Refute it at one input. -/
def stackBelowWrong : ChangeSpec := { name := "stackBelow", fn := fun _ => fun
  | [d1, d2] => { results := [.lit (.bool false)], args := [d1, d2] }
  | _ => none }
def StackBelowWrongFalsely : Prop := stackBelowRow.holds Try.pinned (OpenSpec.ofChange stackBelowWrong)

/-- 'entaillaw20.StackNumbers': WHATEVER THE INPUT: true; the input reads as it did. -/
def stackNumbersSpec : ChangeSpec := { name := "stackNumbers", fn := fun _ => fun
  | [d1, d2] => { results := [.lit (.bool true)], args := [d1, d2] }
  | _ => none }
def stackNumbersRow : OpenClaim := { program := "ytikkhkjndbicgaa", sum := "7e7ce7635300fa8d5d762f9a8cb40b16f426305be1234aa91d208a500112f219", func := "entail/entaillaw20.StackNumbers", spec := "stackNumbers", unfollowed := true, recurses := true, apart := false }
def StackNumbersSaid : Prop := stackNumbersRow.holds Try.pinned (OpenSpec.ofChange stackNumbersSpec)

/-- ITS FALSE NEIGHBOUR: 'it returns false'. Refute it at one input. -/
def stackNumbersWrong : ChangeSpec := { name := "stackNumbers", fn := fun _ => fun
  | [d1, d2] => { results := [.lit (.bool false)], args := [d1, d2] }
  | _ => none }
def StackNumbersWrongFalsely : Prop := stackNumbersRow.holds Try.pinned (OpenSpec.ofChange stackNumbersWrong)

/-- 'entaillaw20.StackMore': WHATEVER THE INPUT: true; the input reads as it did. -/
def stackMoreSpec : ChangeSpec := { name := "stackMore", fn := fun _ => fun
  | [d1, d2, d3] => { results := [.lit (.bool true)], args := [d1, d2, d3] }
  | _ => none }
def stackMoreRow : OpenClaim := { program := "ytikkhkjndbicgaa", sum := "7e7ce7635300fa8d5d762f9a8cb40b16f426305be1234aa91d208a500112f219", func := "entail/entaillaw20.StackMore", spec := "stackMore", unfollowed := true, recurses := true, apart := false }
def StackMoreSaid : Prop := stackMoreRow.holds Try.pinned (OpenSpec.ofChange stackMoreSpec)

/-- ITS FALSE NEIGHBOUR: 'it returns false'. Refute it at one input. -/
def stackMoreWrong : ChangeSpec := { name := "stackMore", fn := fun _ => fun
  | [d1, d2, d3] => { results := [.lit (.bool false)], args := [d1, d2, d3] }
  | _ => none }
def StackMoreWrongFalsely : Prop := stackMoreRow.holds Try.pinned (OpenSpec.ofChange stackMoreWrong)

/- THE SECOND FORM. 'bulk': how many values and letters a reading holds, each counted each time it is reached (what is shared counts as often as it is met; a slice's spare places count too). A statement '..UptoSaid' is the law's where the arguments, and the package variables that the reading takes, are together of bulk at most 1048576: NARROWER than '..Said'. Prove '..Said' where nothing that the law and all that it calls make is longer than what came in: it says more and counts as full. Else prove '..UptoSaid'. A law counts once. -/
mutual
def uptoBulk {H : Type} : DataW H → Nat
  | .lit (.string bytes) => bytes.length + 1
  | .lit _ => 1
  | .nil => 1
  | .ptr d => uptoBulk d + 1
  | .slice elems spare => uptoBulkAll elems + uptoBulkAll spare + 1
  | .agg parts => uptoBulkAll parts + 1
  | .iface _ d => uptoBulk d + 1
  | .map entries => uptoBulkEntries entries + 1
  | .held _ => 1
def uptoBulkAll {H : Type} : List (DataW H) → Nat
  | [] => 0
  | d :: r => uptoBulk d + uptoBulkAll r
def uptoBulkEntries {H : Type} : List (Lit × DataW H) → Nat
  | [] => 0
  | x :: r => uptoBulkEntry x + uptoBulkEntries r
def uptoBulkEntry {H : Type} : Lit × DataW H → Nat
  | (.string bytes, d) => bytes.length + uptoBulk d + 1
  | (_, d) => uptoBulk d + 1
 end
def uptoSmall : (H : Type) → List (DataW H) → Bool := fun _ ds => decide (uptoBulkAll ds ≤ 1048576)
def OpenSpec.upto (s : _root_.Go.ChangeSpec) : _root_.Go.OpenSpec := { _root_.Go.OpenSpec.ofChange s with cond := some uptoSmall }

/-- 'entaillaw20.StackDo', WHERE WHAT IT READS IS OF BULK AT MOST 1048576: true; the input reads as it did. -/
def stackDoUptoRow : OpenClaim := { program := "ytikkhkjndbicgaa", sum := "7e7ce7635300fa8d5d762f9a8cb40b16f426305be1234aa91d208a500112f219", func := "entail/entaillaw20.StackDo", spec := "stackDo", unfollowed := true, recurses := true, apart := false, narrowed := true }
def StackDoUptoSaid : Prop := stackDoUptoRow.holds Try.pinned (OpenSpec.upto stackDoSpec)

/-- 'entaillaw20.StackTwice', WHERE WHAT IT READS IS OF BULK AT MOST 1048576: true; the input reads as it did. -/
def stackTwiceUptoRow : OpenClaim := { program := "ytikkhkjndbicgaa", sum := "7e7ce7635300fa8d5d762f9a8cb40b16f426305be1234aa91d208a500112f219", func := "entail/entaillaw20.StackTwice", spec := "stackTwice", unfollowed := true, recurses := true, apart := false, narrowed := true }
def StackTwiceUptoSaid : Prop := stackTwiceUptoRow.holds Try.pinned (OpenSpec.upto stackTwiceSpec)

/-- 'entaillaw20.StackBelow', WHERE WHAT IT READS IS OF BULK AT MOST 1048576: true; the input reads as it did. -/
def stackBelowUptoRow : OpenClaim := { program := "ytikkhkjndbicgaa", sum := "7e7ce7635300fa8d5d762f9a8cb40b16f426305be1234aa91d208a500112f219", func := "entail/entaillaw20.StackBelow", spec := "stackBelow", unfollowed := true, recurses := true, apart := false, narrowed := true }
def StackBelowUptoSaid : Prop := stackBelowUptoRow.holds Try.pinned (OpenSpec.upto stackBelowSpec)

/-- 'entaillaw20.StackNumbers', WHERE WHAT IT READS IS OF BULK AT MOST 1048576: true; the input reads as it did. -/
def stackNumbersUptoRow : OpenClaim := { program := "ytikkhkjndbicgaa", sum := "7e7ce7635300fa8d5d762f9a8cb40b16f426305be1234aa91d208a500112f219", func := "entail/entaillaw20.StackNumbers", spec := "stackNumbers", unfollowed := true, recurses := true, apart := false, narrowed := true }
def StackNumbersUptoSaid : Prop := stackNumbersUptoRow.holds Try.pinned (OpenSpec.upto stackNumbersSpec)

/-- 'entaillaw20.StackMore', WHERE WHAT IT READS IS OF BULK AT MOST 1048576: true; the input reads as it did. -/
def stackMoreUptoRow : OpenClaim := { program := "ytikkhkjndbicgaa", sum := "7e7ce7635300fa8d5d762f9a8cb40b16f426305be1234aa91d208a500112f219", func := "entail/entaillaw20.StackMore", spec := "stackMore", unfollowed := true, recurses := true, apart := false, narrowed := true }
def StackMoreUptoSaid : Prop := stackMoreUptoRow.holds Try.pinned (OpenSpec.upto stackMoreSpec)

end Rows
end Go.Proofs.Ytikkhkjndbicgaa
