/-
  No cell of these rows narrows 'for every input' (looked for: loops, veiled, ifaces, maps, wideKeys, modest, calm, conditions, laid).
  DERIVED. THE GIVEN ROWS OF THIS SEAT. 6 by the template 'for every input the law returns true; each argument reads behind the call as it read before'; 0 by the template 'total and deterministic' (their statements: YtbjnlcblaonccaaTotals.lean).
  GIVEN WITH THE SEED: the statements are not yours to turn. If you find one false, say at which input.
  Laid BY PROGRAM, IN A SANDBOX (cutbox-rows.mjs): the forced cells as the released guide's own fill.sh prints them over the translation 45f030ac906766ed… (all of the seat's roots in one cut). By AI agents, Wed Nov 11 2026. No macro, syntax, notation, axiom, sorry.
-/
import Derived.Test.YtbjnlcblaonccaaChecked
import GoSem.Claim
import GoSem.ClaimJoined
import GoSem.ClaimMapViews
import Derived.JoinedTies
import Derived.KernelRfl
namespace Go.Proofs.Ytbjnlcblaonccaa
/- THE CELL 'sum', in the pinned program and in every row, IS THE sha256 OF THE DUMP (.gsa) THAT YtbjnlcblaonccaaProg.lean LOADS. Nothing in Lean hashes anything: it is a label: what it is worth is what the hold of that sum in a sandbox is worth. -/
noncomputable def Try.pinned : Pinned := { name := "ytbjnlcblaonccaa", sum := "45f030ac906766ede43303276b7721df5c3f0aa3a009045a47e341c80461fc69", checked := Try.checked }
namespace Rows
def none {H : Type} : Left H := { results := [], args := [] }

/-- 'entaillaw18.WordsNext': WHATEVER THE INPUT: true; the input reads as it did. -/
def wordsNextSpec : ChangeSpec := { name := "wordsNext", fn := fun _ => fun
  | [d1, d2] => { results := [.lit (.bool true)], args := [d1, d2] }
  | _ => none }
def wordsNextRow : OpenClaim := { program := "ytbjnlcblaonccaa", sum := "45f030ac906766ede43303276b7721df5c3f0aa3a009045a47e341c80461fc69", func := "entail/entaillaw18.WordsNext", spec := "wordsNext", apart := false }
def WordsNextSaid : Prop := wordsNextRow.holds Try.pinned (OpenSpec.ofChange wordsNextSpec)

/-- ITS FALSE NEIGHBOUR: 'it returns false'. Refute it at one input. -/
def wordsNextWrong : ChangeSpec := { name := "wordsNext", fn := fun _ => fun
  | [d1, d2] => { results := [.lit (.bool false)], args := [d1, d2] }
  | _ => none }
def WordsNextWrongFalsely : Prop := wordsNextRow.holds Try.pinned (OpenSpec.ofChange wordsNextWrong)

/-- 'entaillaw18.WordsPush': WHATEVER THE INPUT: true; the input reads as it did. -/
def wordsPushSpec : ChangeSpec := { name := "wordsPush", fn := fun _ => fun
  | [d1, d2, d3] => { results := [.lit (.bool true)], args := [d1, d2, d3] }
  | _ => none }
def wordsPushRow : OpenClaim := { program := "ytbjnlcblaonccaa", sum := "45f030ac906766ede43303276b7721df5c3f0aa3a009045a47e341c80461fc69", func := "entail/entaillaw18.WordsPush", spec := "wordsPush", apart := false }
def WordsPushSaid : Prop := wordsPushRow.holds Try.pinned (OpenSpec.ofChange wordsPushSpec)

/-- ITS FALSE NEIGHBOUR: 'it returns false'. Refute it at one input. -/
def wordsPushWrong : ChangeSpec := { name := "wordsPush", fn := fun _ => fun
  | [d1, d2, d3] => { results := [.lit (.bool false)], args := [d1, d2, d3] }
  | _ => none }
def WordsPushWrongFalsely : Prop := wordsPushRow.holds Try.pinned (OpenSpec.ofChange wordsPushWrong)

/-- 'entaillaw18.WordsBuild': WHATEVER THE INPUT: true; the input reads as it did. -/
def wordsBuildSpec : ChangeSpec := { name := "wordsBuild", fn := fun _ => fun
  | [d] => { results := [.lit (.bool true)], args := [d] }
  | _ => none }
def wordsBuildRow : OpenClaim := { program := "ytbjnlcblaonccaa", sum := "45f030ac906766ede43303276b7721df5c3f0aa3a009045a47e341c80461fc69", func := "entail/entaillaw18.WordsBuild", spec := "wordsBuild", apart := false }
def WordsBuildSaid : Prop := wordsBuildRow.holds Try.pinned (OpenSpec.ofChange wordsBuildSpec)

/-- ITS FALSE NEIGHBOUR: 'it returns false'. Refute it at one input. -/
def wordsBuildWrong : ChangeSpec := { name := "wordsBuild", fn := fun _ => fun
  | [d] => { results := [.lit (.bool false)], args := [d] }
  | _ => none }
def WordsBuildWrongFalsely : Prop := wordsBuildRow.holds Try.pinned (OpenSpec.ofChange wordsBuildWrong)

/-- 'entaillaw18.WordsBack': WHATEVER THE INPUT: true; the input reads as it did. -/
def wordsBackSpec : ChangeSpec := { name := "wordsBack", fn := fun _ => fun
  | [d] => { results := [.lit (.bool true)], args := [d] }
  | _ => none }
def wordsBackRow : OpenClaim := { program := "ytbjnlcblaonccaa", sum := "45f030ac906766ede43303276b7721df5c3f0aa3a009045a47e341c80461fc69", func := "entail/entaillaw18.WordsBack", spec := "wordsBack", apart := false }
def WordsBackSaid : Prop := wordsBackRow.holds Try.pinned (OpenSpec.ofChange wordsBackSpec)

/-- ITS FALSE NEIGHBOUR: 'it returns false'. Refute it at one input. -/
def wordsBackWrong : ChangeSpec := { name := "wordsBack", fn := fun _ => fun
  | [d] => { results := [.lit (.bool false)], args := [d] }
  | _ => none }
def WordsBackWrongFalsely : Prop := wordsBackRow.holds Try.pinned (OpenSpec.ofChange wordsBackWrong)

/-- 'entaillaw18.WordsOnly': WHATEVER THE INPUT: true; the input reads as it did. -/
def wordsOnlySpec : ChangeSpec := { name := "wordsOnly", fn := fun _ => fun
  | [d] => { results := [.lit (.bool true)], args := [d] }
  | _ => none }
def wordsOnlyRow : OpenClaim := { program := "ytbjnlcblaonccaa", sum := "45f030ac906766ede43303276b7721df5c3f0aa3a009045a47e341c80461fc69", func := "entail/entaillaw18.WordsOnly", spec := "wordsOnly", apart := false }
def WordsOnlySaid : Prop := wordsOnlyRow.holds Try.pinned (OpenSpec.ofChange wordsOnlySpec)

/-- ITS FALSE NEIGHBOUR: 'it returns false'. Refute it at one input. -/
def wordsOnlyWrong : ChangeSpec := { name := "wordsOnly", fn := fun _ => fun
  | [d] => { results := [.lit (.bool false)], args := [d] }
  | _ => none }
def WordsOnlyWrongFalsely : Prop := wordsOnlyRow.holds Try.pinned (OpenSpec.ofChange wordsOnlyWrong)

/-- 'entaillaw18.WordsShort': WHATEVER THE INPUT: true; the input reads as it did. -/
def wordsShortSpec : ChangeSpec := { name := "wordsShort", fn := fun _ => fun
  | [d1, d2] => { results := [.lit (.bool true)], args := [d1, d2] }
  | _ => none }
def wordsShortRow : OpenClaim := { program := "ytbjnlcblaonccaa", sum := "45f030ac906766ede43303276b7721df5c3f0aa3a009045a47e341c80461fc69", func := "entail/entaillaw18.WordsShort", spec := "wordsShort", apart := false }
def WordsShortSaid : Prop := wordsShortRow.holds Try.pinned (OpenSpec.ofChange wordsShortSpec)

/-- ITS FALSE NEIGHBOUR: 'it returns false'. Refute it at one input. -/
def wordsShortWrong : ChangeSpec := { name := "wordsShort", fn := fun _ => fun
  | [d1, d2] => { results := [.lit (.bool false)], args := [d1, d2] }
  | _ => none }
def WordsShortWrongFalsely : Prop := wordsShortRow.holds Try.pinned (OpenSpec.ofChange wordsShortWrong)

/- THE SECOND FORM. 'bulk': how many values and letters a reading holds, each counted each time it is reached (what is shared counts as often as it is met; a slice's spare places count too). A statement '..UptoSaid' is the law's where the arguments, and the package variables that the reading takes, are together of bulk at most 1048576: NARROWER than '..Said'. Prove '..Said' where nothing that the law and all that it calls make is longer than what came in: it says more and counts as full. Else prove '..UptoSaid'. A law counts once. -/
mutual
def uptoBulk {H : Type} : DataW H → Nat
  | .lit (.string bytes) => bytes.length + 1
  | .lit _ => 1
  | .nil => 1
  | .ptr d => uptoBulk d + 1
  | .slice elems spare => uptoBulkAll elems + uptoBulkAll spare + 1
  | .agg parts => uptoBulkAll parts + 1
  | .iface _ d => uptoBulk d + 1
  | .map entries => uptoBulkEntries entries + 1
  | .held _ => 1
def uptoBulkAll {H : Type} : List (DataW H) → Nat
  | [] => 0
  | d :: r => uptoBulk d + uptoBulkAll r
def uptoBulkEntries {H : Type} : List (Lit × DataW H) → Nat
  | [] => 0
  | x :: r => uptoBulkEntry x + uptoBulkEntries r
def uptoBulkEntry {H : Type} : Lit × DataW H → Nat
  | (.string bytes, d) => bytes.length + uptoBulk d + 1
  | (_, d) => uptoBulk d + 1
 end
def uptoSmall : (H : Type) → List (DataW H) → Bool := fun _ ds => decide (uptoBulkAll ds ≤ 1048576)
def OpenSpec.upto (s : _root_.Go.ChangeSpec) : _root_.Go.OpenSpec := { _root_.Go.OpenSpec.ofChange s with cond := some uptoSmall }

/-- 'entaillaw18.WordsNext', WHERE WHAT IT READS IS OF BULK AT MOST 1048576: true; the input reads as it did. -/
def wordsNextUptoRow : OpenClaim := { program := "ytbjnlcblaonccaa", sum := "45f030ac906766ede43303276b7721df5c3f0aa3a009045a47e341c80461fc69", func := "entail/entaillaw18.WordsNext", spec := "wordsNext", apart := false, narrowed := true }
def WordsNextUptoSaid : Prop := wordsNextUptoRow.holds Try.pinned (OpenSpec.upto wordsNextSpec)

/-- 'entaillaw18.WordsPush', WHERE WHAT IT READS IS OF BULK AT MOST 1048576: true; the input reads as it did. -/
def wordsPushUptoRow : OpenClaim := { program := "ytbjnlcblaonccaa", sum := "45f030ac906766ede43303276b7721df5c3f0aa3a009045a47e341c80461fc69", func := "entail/entaillaw18.WordsPush", spec := "wordsPush", apart := false, narrowed := true }
def WordsPushUptoSaid : Prop := wordsPushUptoRow.holds Try.pinned (OpenSpec.upto wordsPushSpec)

/-- 'entaillaw18.WordsBuild', WHERE WHAT IT READS IS OF BULK AT MOST 1048576: true; the input reads as it did. -/
def wordsBuildUptoRow : OpenClaim := { program := "ytbjnlcblaonccaa", sum := "45f030ac906766ede43303276b7721df5c3f0aa3a009045a47e341c80461fc69", func := "entail/entaillaw18.WordsBuild", spec := "wordsBuild", apart := false, narrowed := true }
def WordsBuildUptoSaid : Prop := wordsBuildUptoRow.holds Try.pinned (OpenSpec.upto wordsBuildSpec)

/-- 'entaillaw18.WordsBack', WHERE WHAT IT READS IS OF BULK AT MOST 1048576: true; the input reads as it did. -/
def wordsBackUptoRow : OpenClaim := { program := "ytbjnlcblaonccaa", sum := "45f030ac906766ede43303276b7721df5c3f0aa3a009045a47e341c80461fc69", func := "entail/entaillaw18.WordsBack", spec := "wordsBack", apart := false, narrowed := true }
def WordsBackUptoSaid : Prop := wordsBackUptoRow.holds Try.pinned (OpenSpec.upto wordsBackSpec)

/-- 'entaillaw18.WordsOnly', WHERE WHAT IT READS IS OF BULK AT MOST 1048576: true; the input reads as it did. -/
def wordsOnlyUptoRow : OpenClaim := { program := "ytbjnlcblaonccaa", sum := "45f030ac906766ede43303276b7721df5c3f0aa3a009045a47e341c80461fc69", func := "entail/entaillaw18.WordsOnly", spec := "wordsOnly", apart := false, narrowed := true }
def WordsOnlyUptoSaid : Prop := wordsOnlyUptoRow.holds Try.pinned (OpenSpec.upto wordsOnlySpec)

/-- 'entaillaw18.WordsShort', WHERE WHAT IT READS IS OF BULK AT MOST 1048576: true; the input reads as it did. -/
def wordsShortUptoRow : OpenClaim := { program := "ytbjnlcblaonccaa", sum := "45f030ac906766ede43303276b7721df5c3f0aa3a009045a47e341c80461fc69", func := "entail/entaillaw18.WordsShort", spec := "wordsShort", apart := false, narrowed := true }
def WordsShortUptoSaid : Prop := wordsShortUptoRow.holds Try.pinned (OpenSpec.upto wordsShortSpec)

end Rows
end Go.Proofs.Ytbjnlcblaonccaa
