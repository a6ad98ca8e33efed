/-
  No cell of these rows narrows 'for every input' (looked for: loops, veiled, ifaces, maps, wideKeys, modest, calm, conditions, laid).
  DERIVED. THE GIVEN ROWS OF THIS SEAT. 2 by the template 'for every input the law returns true; each argument reads behind the call as it read before'; 0 by the template 'total and deterministic' (their statements: YtejbajgpiecjcaaTotals.lean).
  GIVEN WITH THE SEED: the statements are not yours to turn. If you find one false, say at which input.
  Laid BY PROGRAM, IN A SANDBOX (cutbox-rows.mjs): the forced cells as the released guide's own fill.sh prints them over the translation b3a19a95e050dac4… (all of the seat's roots in one cut). By AI agents, Wed Nov 11 2026. No macro, syntax, notation, axiom, sorry.
-/
import Derived.Test.YtejbajgpiecjcaaChecked
import GoSem.Claim
import GoSem.ClaimJoined
import GoSem.ClaimMapViews
import Derived.JoinedTies
import Derived.KernelRfl
namespace Go.Proofs.Ytejbajgpiecjcaa
/- THE CELL 'sum', in the pinned program and in every row, IS THE sha256 OF THE DUMP (.gsa) THAT YtejbajgpiecjcaaProg.lean LOADS. Nothing in Lean hashes anything: it is a label: what it is worth is what the hold of that sum in a sandbox is worth. -/
noncomputable def Try.pinned : Pinned := { name := "ytejbajgpiecjcaa", sum := "b3a19a95e050dac448f5ce315fec26aee95d2b57762aff79e5fd86e271271d74", checked := Try.checked }
namespace Rows
def none {H : Type} : Left H := { results := [], args := [] }

/-- 'entaillaw15.SchnorrSigns': WHATEVER THE INPUT: true; the input reads as it did. -/
def schnorrSignsSpec : ChangeSpec := { name := "schnorrSigns", fn := fun _ => fun
  | [d1, d2, d3] => { results := [.lit (.bool true)], args := [d1, d2, d3] }
  | _ => none }
def schnorrSignsRow : OpenClaim := { program := "ytejbajgpiecjcaa", sum := "b3a19a95e050dac448f5ce315fec26aee95d2b57762aff79e5fd86e271271d74", func := "entail/entaillaw15.SchnorrSigns", spec := "schnorrSigns", inPlace := ["math/bits.Sub64", "math/bits.Add64"], recurses := true, apart := false }
def SchnorrSignsSaid : Prop := schnorrSignsRow.holds Try.pinned (OpenSpec.ofChange schnorrSignsSpec)

/-- ITS FALSE NEIGHBOUR: 'it returns false'. Refute it at one input. -/
def schnorrSignsWrong : ChangeSpec := { name := "schnorrSigns", fn := fun _ => fun
  | [d1, d2, d3] => { results := [.lit (.bool false)], args := [d1, d2, d3] }
  | _ => none }
def SchnorrSignsWrongFalsely : Prop := schnorrSignsRow.holds Try.pinned (OpenSpec.ofChange schnorrSignsWrong)

/-- 'entaillaw15.SchnorrTurned': WHATEVER THE INPUT: true; the input reads as it did. -/
def schnorrTurnedSpec : ChangeSpec := { name := "schnorrTurned", fn := fun _ => fun
  | [d1, d2, d3] => { results := [.lit (.bool true)], args := [d1, d2, d3] }
  | _ => none }
def schnorrTurnedRow : OpenClaim := { program := "ytejbajgpiecjcaa", sum := "b3a19a95e050dac448f5ce315fec26aee95d2b57762aff79e5fd86e271271d74", func := "entail/entaillaw15.SchnorrTurned", spec := "schnorrTurned", inPlace := ["math/bits.Sub64", "math/bits.Add64"], recurses := true, apart := false }
def SchnorrTurnedSaid : Prop := schnorrTurnedRow.holds Try.pinned (OpenSpec.ofChange schnorrTurnedSpec)

/-- ITS FALSE NEIGHBOUR: 'it returns false'. Refute it at one input. -/
def schnorrTurnedWrong : ChangeSpec := { name := "schnorrTurned", fn := fun _ => fun
  | [d1, d2, d3] => { results := [.lit (.bool false)], args := [d1, d2, d3] }
  | _ => none }
def SchnorrTurnedWrongFalsely : Prop := schnorrTurnedRow.holds Try.pinned (OpenSpec.ofChange schnorrTurnedWrong)

/- THE SECOND FORM. 'bulk': how many values and letters a reading holds, each counted each time it is reached (what is shared counts as often as it is met; a slice's spare places count too). A statement '..UptoSaid' is the law's where the arguments, and the package variables that the reading takes, are together of bulk at most 1048576: NARROWER than '..Said'. Prove '..Said' where nothing that the law and all that it calls make is longer than what came in: it says more and counts as full. Else prove '..UptoSaid'. A law counts once. -/
mutual
def uptoBulk {H : Type} : DataW H → Nat
  | .lit (.string bytes) => bytes.length + 1
  | .lit _ => 1
  | .nil => 1
  | .ptr d => uptoBulk d + 1
  | .slice elems spare => uptoBulkAll elems + uptoBulkAll spare + 1
  | .agg parts => uptoBulkAll parts + 1
  | .iface _ d => uptoBulk d + 1
  | .map entries => uptoBulkEntries entries + 1
  | .held _ => 1
def uptoBulkAll {H : Type} : List (DataW H) → Nat
  | [] => 0
  | d :: r => uptoBulk d + uptoBulkAll r
def uptoBulkEntries {H : Type} : List (Lit × DataW H) → Nat
  | [] => 0
  | x :: r => uptoBulkEntry x + uptoBulkEntries r
def uptoBulkEntry {H : Type} : Lit × DataW H → Nat
  | (.string bytes, d) => bytes.length + uptoBulk d + 1
  | (_, d) => uptoBulk d + 1
 end
def uptoSmall : (H : Type) → List (DataW H) → Bool := fun _ ds => decide (uptoBulkAll ds ≤ 1048576)
def OpenSpec.upto (s : _root_.Go.ChangeSpec) : _root_.Go.OpenSpec := { _root_.Go.OpenSpec.ofChange s with cond := some uptoSmall }

/-- 'entaillaw15.SchnorrSigns', WHERE WHAT IT READS IS OF BULK AT MOST 1048576: true; the input reads as it did. -/
def schnorrSignsUptoRow : OpenClaim := { program := "ytejbajgpiecjcaa", sum := "b3a19a95e050dac448f5ce315fec26aee95d2b57762aff79e5fd86e271271d74", func := "entail/entaillaw15.SchnorrSigns", spec := "schnorrSigns", inPlace := ["math/bits.Sub64", "math/bits.Add64"], recurses := true, apart := false, narrowed := true }
def SchnorrSignsUptoSaid : Prop := schnorrSignsUptoRow.holds Try.pinned (OpenSpec.upto schnorrSignsSpec)

/-- 'entaillaw15.SchnorrTurned', WHERE WHAT IT READS IS OF BULK AT MOST 1048576: true; the input reads as it did. -/
def schnorrTurnedUptoRow : OpenClaim := { program := "ytejbajgpiecjcaa", sum := "b3a19a95e050dac448f5ce315fec26aee95d2b57762aff79e5fd86e271271d74", func := "entail/entaillaw15.SchnorrTurned", spec := "schnorrTurned", inPlace := ["math/bits.Sub64", "math/bits.Add64"], recurses := true, apart := false, narrowed := true }
def SchnorrTurnedUptoSaid : Prop := schnorrTurnedUptoRow.holds Try.pinned (OpenSpec.upto schnorrTurnedSpec)

end Rows
end Go.Proofs.Ytejbajgpiecjcaa
