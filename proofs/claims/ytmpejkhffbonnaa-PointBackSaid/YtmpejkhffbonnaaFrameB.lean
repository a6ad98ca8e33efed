/- Arguments that are arrays of 32 bytes, opened. -/
import Derived.Test.YtmpejkhffbonnaaFrameW
import Derived.Test.YtmpejkhffbonnaaSl
namespace Go.Proofs.Ytmpejkhffbonnaa
open Go.ChangeShapes Go.WideShapes Go.ChangeAt Go.RowKit Go.WideMaps
theorem b32_key : ArrKey Try.prog 35 5 32 := ⟨Try.underlying35, by kernel_rfl, by kernel_rfl, by kernel_rfl⟩
theorem tab_of {q : IntKind} {n : Nat} {f : Nat → Nat} {xs : Array Value} (hn : xs.size = n) (h : ∀ i, i < n → xs[i]? = some (.int q (f i : Int))) : xs = (tab q n f).toArray := by
  apply Array.ext_getElem?
  intro i
  by_cases hi : i < n
  · rw [h i hi]
    have := tab_get (k := q) (f := f) hi
    simp [this]
  · rw [Array.getElem?_eq_none (by omega), Array.getElem?_eq_none (by simp [tab_length]; omega)]
theorem open_b32 {H : Type} {enc : TypeId × Value → H} {w : World} {base : Nat} {sp : Nat → Bool} {held : Bool} {v : Value} {d : DataW H} {ps : List MemPlace} (hval : Value.okWide Try.prog w .any 0 35 v) (hd : DataW.Trod enc Try.prog w base sp held 35 v d ps) :
    ∃ f : Nat → Nat, v = At .u8 32 f ∧ ∀ j, j < 32 → f j < 256 := by
  obtain ⟨xs, rfl, hn, hx⟩ := open_ints_arr b32_key (q := .u8) Try.underlying5 hval hd
  have hc : ∀ i, ∃ m : Nat, i < 32 → xs[i]? = some (.int .u8 (m : Int)) ∧ m < 256 := by
    intro i
    by_cases hi : i < 32
    · obtain ⟨z, e, b⟩ := hx i hi
      have c := bounds_u8 b
      obtain ⟨y, rfl⟩ := Int.eq_ofNat_of_zero_le c.1
      exact ⟨y, fun _ => ⟨e, by omega⟩⟩
    · exact ⟨0, fun h => absurd h hi⟩
  refine ⟨fun i => Classical.choose (hc i), ?_, fun j hj => (Classical.choose_spec (hc j) hj).2⟩
  exact congrArg Value.agg (tab_of hn (fun i hi => (Classical.choose_spec (hc i) hi).1))
end Go.Proofs.Ytmpejkhffbonnaa
