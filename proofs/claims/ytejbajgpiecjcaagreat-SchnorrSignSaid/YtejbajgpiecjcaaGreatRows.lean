/-
  No cell of these rows narrows 'for every input' (looked for: loops, veiled, ifaces, maps, wideKeys, modest, calm, conditions, laid).
  DERIVED. THE GIVEN ROWS OF THIS SEAT. 3 by the template 'for every input the law returns true; each argument reads behind the call as it read before'; 0 by the template 'total and deterministic' (their statements: YtejbajgpiecjcaaGreatTotals.lean).
  GIVEN WITH THE SEED: the statements are not yours to turn. If you find one false, say at which input.
  Laid BY PROGRAM, IN A SANDBOX (cutbox-rows.mjs): the forced cells as the released guide's own fill.sh prints them over the translation cca6872f0b7259c8… (all of the seat's roots in one cut). By AI agents, Wed Nov 11 2026. No macro, syntax, notation, axiom, sorry.
-/
import Derived.Test.YtejbajgpiecjcaaGreatChecked
import GoSem.Claim
import GoSem.ClaimJoined
import GoSem.ClaimMapViews
import Derived.JoinedTies
import Derived.KernelRfl
namespace Go.Proofs.YtejbajgpiecjcaaGreat
/- THE CELL 'sum', in the pinned program and in every row, IS THE sha256 OF THE DUMP (.gsa) THAT YtejbajgpiecjcaaGreatProg.lean LOADS. Nothing in Lean hashes anything: it is a label: what it is worth is what the hold of that sum in a sandbox is worth. -/
noncomputable def Tryz.pinned : Pinned := { name := "ytejbajgpiecjcaagreat", sum := "cca6872f0b7259c834277b0c284c32a2aa054ed1278479fc92bca0a98a9ba480", checked := Tryz.checked }
namespace Rows
def none {H : Type} : Left H := { results := [], args := [] }

/-- 'entaillaw15.SchnorrSign': WHATEVER THE INPUT: true; the input reads as it did. -/
def schnorrSignSpec : ChangeSpec := { name := "schnorrSign", fn := fun _ => fun
  | [d1, d2, d3] => { results := [.lit (.bool true)], args := [d1, d2, d3] }
  | _ => none }
def schnorrSignRow : OpenClaim := { program := "ytejbajgpiecjcaagreat", sum := "cca6872f0b7259c834277b0c284c32a2aa054ed1278479fc92bca0a98a9ba480", func := "entail/entaillaw15.SchnorrSign", spec := "schnorrSign", inPlace := ["math/bits.Sub64", "math/bits.Add64"], recurses := true, apart := false }
def SchnorrSignSaid : Prop := schnorrSignRow.holds Tryz.pinned (OpenSpec.ofChange schnorrSignSpec)

/-- ITS FALSE NEIGHBOUR: 'it returns false'. Refute it at one input. -/
def schnorrSignWrong : ChangeSpec := { name := "schnorrSign", fn := fun _ => fun
  | [d1, d2, d3] => { results := [.lit (.bool false)], args := [d1, d2, d3] }
  | _ => none }
def SchnorrSignWrongFalsely : Prop := schnorrSignRow.holds Tryz.pinned (OpenSpec.ofChange schnorrSignWrong)

/-- 'entaillaw15.SchnorrVerify': WHATEVER THE INPUT: true; the input reads as it did. -/
def schnorrVerifySpec : ChangeSpec := { name := "schnorrVerify", fn := fun _ => fun
  | [d1, d2, d3] => { results := [.lit (.bool true)], args := [d1, d2, d3] }
  | _ => none }
def schnorrVerifyRow : OpenClaim := { program := "ytejbajgpiecjcaagreat", sum := "cca6872f0b7259c834277b0c284c32a2aa054ed1278479fc92bca0a98a9ba480", func := "entail/entaillaw15.SchnorrVerify", spec := "schnorrVerify", inPlace := ["math/bits.Sub64", "math/bits.Add64"], recurses := true, apart := false }
def SchnorrVerifySaid : Prop := schnorrVerifyRow.holds Tryz.pinned (OpenSpec.ofChange schnorrVerifySpec)

/-- ITS FALSE NEIGHBOUR: 'it returns false'. Refute it at one input. -/
def schnorrVerifyWrong : ChangeSpec := { name := "schnorrVerify", fn := fun _ => fun
  | [d1, d2, d3] => { results := [.lit (.bool false)], args := [d1, d2, d3] }
  | _ => none }
def SchnorrVerifyWrongFalsely : Prop := schnorrVerifyRow.holds Tryz.pinned (OpenSpec.ofChange schnorrVerifyWrong)

/-- 'entaillaw15.SchnorrTurn': WHATEVER THE INPUT: true; the input reads as it did. -/
def schnorrTurnSpec : ChangeSpec := { name := "schnorrTurn", fn := fun _ => fun
  | [d1, d2, d3] => { results := [.lit (.bool true)], args := [d1, d2, d3] }
  | _ => none }
def schnorrTurnRow : OpenClaim := { program := "ytejbajgpiecjcaagreat", sum := "cca6872f0b7259c834277b0c284c32a2aa054ed1278479fc92bca0a98a9ba480", func := "entail/entaillaw15.SchnorrTurn", spec := "schnorrTurn", inPlace := ["math/bits.Sub64", "math/bits.Add64"], recurses := true, apart := false }
def SchnorrTurnSaid : Prop := schnorrTurnRow.holds Tryz.pinned (OpenSpec.ofChange schnorrTurnSpec)

/-- ITS FALSE NEIGHBOUR: 'it returns false'. Refute it at one input. -/
def schnorrTurnWrong : ChangeSpec := { name := "schnorrTurn", fn := fun _ => fun
  | [d1, d2, d3] => { results := [.lit (.bool false)], args := [d1, d2, d3] }
  | _ => none }
def SchnorrTurnWrongFalsely : Prop := schnorrTurnRow.holds Tryz.pinned (OpenSpec.ofChange schnorrTurnWrong)

/- THE SECOND FORM. 'bulk': how many values and letters a reading holds, each counted each time it is reached (what is shared counts as often as it is met; a slice's spare places count too). A statement '..UptoSaid' is the law's where the arguments, and the package variables that the reading takes, are together of bulk at most 1048576: NARROWER than '..Said'. Prove '..Said' where nothing that the law and all that it calls make is longer than what came in: it says more and counts as full. Else prove '..UptoSaid'. A law counts once. -/
mutual
def uptoBulk {H : Type} : DataW H → Nat
  | .lit (.string bytes) => bytes.length + 1
  | .lit _ => 1
  | .nil => 1
  | .ptr d => uptoBulk d + 1
  | .slice elems spare => uptoBulkAll elems + uptoBulkAll spare + 1
  | .agg parts => uptoBulkAll parts + 1
  | .iface _ d => uptoBulk d + 1
  | .map entries => uptoBulkEntries entries + 1
  | .held _ => 1
def uptoBulkAll {H : Type} : List (DataW H) → Nat
  | [] => 0
  | d :: r => uptoBulk d + uptoBulkAll r
def uptoBulkEntries {H : Type} : List (Lit × DataW H) → Nat
  | [] => 0
  | x :: r => uptoBulkEntry x + uptoBulkEntries r
def uptoBulkEntry {H : Type} : Lit × DataW H → Nat
  | (.string bytes, d) => bytes.length + uptoBulk d + 1
  | (_, d) => uptoBulk d + 1
 end
def uptoSmall : (H : Type) → List (DataW H) → Bool := fun _ ds => decide (uptoBulkAll ds ≤ 1048576)
def OpenSpec.upto (s : _root_.Go.ChangeSpec) : _root_.Go.OpenSpec := { _root_.Go.OpenSpec.ofChange s with cond := some uptoSmall }

/-- 'entaillaw15.SchnorrSign', WHERE WHAT IT READS IS OF BULK AT MOST 1048576: true; the input reads as it did. -/
def schnorrSignUptoRow : OpenClaim := { program := "ytejbajgpiecjcaagreat", sum := "cca6872f0b7259c834277b0c284c32a2aa054ed1278479fc92bca0a98a9ba480", func := "entail/entaillaw15.SchnorrSign", spec := "schnorrSign", inPlace := ["math/bits.Sub64", "math/bits.Add64"], recurses := true, apart := false, narrowed := true }
def SchnorrSignUptoSaid : Prop := schnorrSignUptoRow.holds Tryz.pinned (OpenSpec.upto schnorrSignSpec)

/-- 'entaillaw15.SchnorrVerify', WHERE WHAT IT READS IS OF BULK AT MOST 1048576: true; the input reads as it did. -/
def schnorrVerifyUptoRow : OpenClaim := { program := "ytejbajgpiecjcaagreat", sum := "cca6872f0b7259c834277b0c284c32a2aa054ed1278479fc92bca0a98a9ba480", func := "entail/entaillaw15.SchnorrVerify", spec := "schnorrVerify", inPlace := ["math/bits.Sub64", "math/bits.Add64"], recurses := true, apart := false, narrowed := true }
def SchnorrVerifyUptoSaid : Prop := schnorrVerifyUptoRow.holds Tryz.pinned (OpenSpec.upto schnorrVerifySpec)

/-- 'entaillaw15.SchnorrTurn', WHERE WHAT IT READS IS OF BULK AT MOST 1048576: true; the input reads as it did. -/
def schnorrTurnUptoRow : OpenClaim := { program := "ytejbajgpiecjcaagreat", sum := "cca6872f0b7259c834277b0c284c32a2aa054ed1278479fc92bca0a98a9ba480", func := "entail/entaillaw15.SchnorrTurn", spec := "schnorrTurn", inPlace := ["math/bits.Sub64", "math/bits.Add64"], recurses := true, apart := false, narrowed := true }
def SchnorrTurnUptoSaid : Prop := schnorrTurnUptoRow.holds Tryz.pinned (OpenSpec.upto schnorrTurnSpec)

end Rows
end Go.Proofs.YtejbajgpiecjcaaGreat
