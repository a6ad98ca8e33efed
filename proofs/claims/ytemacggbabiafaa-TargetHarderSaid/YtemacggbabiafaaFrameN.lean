/- Arguments that are natural numbers of 32 bits, whole numbers of 64 bits. -/
import Derived.Test.YtemacggbabiafaaFrame
namespace Go.Proofs.Ytemacggbabiafaa
open Go.ChangeShapes Go.WideShapes Go.ChangeAt Go.RowKit
theorem nat_u32 {a : Int} (w : (Lit.int .u32 a).wf = true) : ∃ n : Nat, a = (n : Int) ∧ n < 4294967296 := by
  have c := bounds_u32 w
  obtain ⟨y, rfl⟩ := Int.eq_ofNat_of_zero_le c.1
  exact ⟨y, rfl, by omega⟩
end Go.Proofs.Ytemacggbabiafaa
