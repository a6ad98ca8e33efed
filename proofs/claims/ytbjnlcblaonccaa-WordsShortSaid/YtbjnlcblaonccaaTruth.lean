/- The contracts of Truth and Flag. -/
import Derived.Test.YtbjnlcblaonccaaRows
import Derived.WalkKit
import Derived.Below
import Derived.Outline
import Derived.Lib.Hide
namespace Go.Proofs.Ytbjnlcblaonccaa
open Go.RowKit

/-- a slice value that reads as bytes -/
def Rd (w : World) (a : Option Addr) (l : List UInt8) : Prop :=
  l.length ≤ 140737488351232 ∧ (l.length ≠ 0 → ∃ b off, a = some ⟨b, off, none⟩ ∧ ∀ k, k < l.length → w.cell? ⟨b, off + k, none⟩ = some (.int .u8 ((l.getD k 0).toNat : Int)))

def tr (l : List UInt8) : Nat → Bool
  | 0 => false
  | k + 1 => tr l k || (l.getD k 0 != 0 && !(k + 1 == l.length && l.getD k 0 == 128))
def truthL (l : List UInt8) : Bool := tr l l.length
theorem tr_mono (l : List UInt8) (j : Nat) (h : tr l j = true) : ∀ k, j ≤ k → tr l k = true := by
  intro k
  induction k with
  | zero => intro hk; have : j = 0 := by omega
            subst this; exact h
  | succ k ih =>
    intro hk
    by_cases e : j = k + 1
    · subst e; exact h
    · rw [tr, ih (by omega)]; rfl

theorem tr_step (l : List UInt8) (k n : Nat) (c : Int) (hn : l.length = n) (hc : c = ((l.getD k 0).toNat : Int)) :
    tr l (k + 1) = (tr l k || ((c != 0) && !(decide (k + 1 = n) && (c == 128)))) := by
  have e0 : (l.getD k 0 != 0) = (c != 0) := by
    rw [hc, Bool.eq_iff_iff]; simp [bne_iff_ne, ← UInt8.toNat_inj]
  have e1 : (l.getD k 0 == 128) = (c == 128) := by
    rw [hc, Bool.eq_iff_iff]; simp [← UInt8.toNat_inj]; omega
  rw [tr, e0, e1, hn]
  rfl

theorem ret_bool {a b : Bool} (h : a = b) : Ending.returned (.bool a) = .returned (.bool b) := by rw [h]

end Go.Proofs.Ytbjnlcblaonccaa
