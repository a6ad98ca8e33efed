/- The contracts of number.Encode in the state kit's form. -/
import Derived.Test.YtbjnlcblaonccaaEncR
import Derived.Test.YtbjnlcblaonccaaApp
namespace Go.Proofs.Ytbjnlcblaonccaa
open Go.RowKit
theorem okl1n {w : World} {Z : Nat → Prop} {B : Nat → Prop} {e : Fz} (h : e.ok w (fun g => Z g ∨ B g) B) : OkL w Z B [e] := by
  intro i e' he
  cases i with
  | zero =>
    obtain rfl : e = e' := by simpa using he
    exact Fz.ok_mono (fun _ _ h => h) (fun g hg _ => ⟨⟨hg, fun j e' hj he' => by
      cases j with
      | zero => exact absurd rfl hj
      | succ j => simp at he'⟩, rfl⟩) h
  | succ i => simp at he
theorem enc_len {n : Int} (hn1 : -9223372036854775808 ≤ n) (hn2 : n < 9223372036854775808) : (enc n).length ≤ 9 := by
  have h := le_length 8 n.natAbs (by omega)
  unfold enc sgn
  split
  · rename_i h0; simp
  · split
    · simp; omega
    · split
      · simp; omega
      · omega
theorem enc_ret {w : World} {Z : Nat → Prop} {l : List UInt8} {e : Ending} {w' : World} (h : EncEnd w.heap.size w l e w') : Ret w Z (ρ := Option Addr × Nat) (fun r => .slice r.1 l.length r.2) (fun r => [.cel (.slice r.1 l.length r.2) l.length (bcs l)]) e w' := by
  obtain ⟨v, rfl, ho, hb⟩ := h
  have hv : ∃ a c, v = .slice a l.length c := by
    rcases ho.2 with ⟨rfl, h0⟩ | ⟨g, cap, cur, rfl, _⟩
    · exact ⟨none, 0, by rw [h0]⟩
    · exact ⟨_, _, rfl⟩
  obtain ⟨a, c, rfl⟩ := hv
  refine ⟨(a, c), rfl, hb, okl1n ?_⟩
  have hlt : ∀ g, (Value.slice a l.length c).ownBlock = some g → w.heap.size ≤ g := fun g hg => (World.ownsRow.lt ho g hg).1
  exact own_cel (xs := bcs l) ho fun g hg => .inr (.inl (hlt g hg))
theorem enc_c (n : Int) (hn1 : -9223372036854775808 ≤ n) (hn2 : n < 9223372036854775808) (w0 : World) (Z : Nat → Prop) : Calls Try.prog 31 #[.int .i64 n] w0 (Ret w0 Z (ρ := Option Addr × Nat) (fun r => .slice r.1 (enc n).length r.2) (fun r => [.cel (.slice r.1 (enc n).length r.2) (enc n).length (bcs (enc n))])) :=
  (encode_any w0 n hn1 hn2).mono fun _ _ h => enc_ret h
theorem renc_c (n : Int) (hn1 : -9223372036854775808 ≤ n) (hn2 : n < 9223372036854775808) (w0 : World) (Z : Nat → Prop) : Calls Try.prog 32 #[.int .i64 n] w0 (Ret w0 Z (ρ := Option Addr × Nat) (fun r => .slice r.1 (enc n).length r.2) (fun r => [.cel (.slice r.1 (enc n).length r.2) (enc n).length (bcs (enc n))])) :=
  (encodeR_any w0 n hn1 hn2).mono fun _ _ h => enc_ret h
end Go.Proofs.Ytbjnlcblaonccaa
