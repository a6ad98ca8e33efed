/- Arguments that are arrays of integers, opened: numbers of 256 bits, 32 bytes. -/
import Derived.Test.YtmpejkhffbonnaaFrame
import Derived.Test.YtmpejkhffbonnaaW0
import Derived.WideKeyArr2
namespace Go.Proofs.Ytmpejkhffbonnaa
open Go.ChangeShapes Go.WideShapes Go.ChangeAt Go.RowKit Go.WideMaps

section
variable {H : Type} {enc : TypeId × Value → H} {P : Program} {k e : TypeId} {n : Nat} {q : IntKind} {W : World} {base : Nat} {sp : Nat → Bool} {held : Bool}
theorem open_ints_arr (A : ArrKey P k e n) (he : P.underlying e = some (.int q)) {v : Value} {d : DataW H} {ps : List MemPlace} (hval : Value.okWide P W .any 0 k v) (hd : DataW.Trod enc P W base sp held k v d ps) :
    ∃ xs : Array Value, v = .agg xs ∧ xs.size = n ∧ ∀ i, i < n → ∃ z, xs[i]? = some (.int q z) ∧ (Lit.int q z).wf = true := by
  obtain ⟨xs, rfl, hn⟩ := okWide_arr A hval
  refine ⟨xs, rfl, hn, fun i hi => ?_⟩
  obtain ⟨fuel, hf⟩ := hd
  cases fuel with
  | zero => simp [DataW.trod] at hf
  | succ m =>
    rw [DataW.trod_step] at hf
    unfold DataW.trodStep at hf
    simp only [A.hu, Value.cells] at hf
    rw [if_pos (by rw [A.size]; simpa using hn)] at hf
    simp only [Option.map_eq_some_iff] at hf
    obtain ⟨ys, hy, _⟩ := hf
    obtain ⟨y, hy⟩ := mapM_each hy i (by simpa using hi)
    obtain ⟨z, hz, _, hw⟩ := DataW.trod_int he hy
    rw [A.one, Nat.mul_one] at hz
    refine ⟨z, ?_, hw⟩
    have := congrArg (·[0]?) hz
    simpa [List.getElem?_take] using this
end
theorem wide_key : ArrKey Try.prog 24 22 4 := ⟨Try.underlying24, by kernel_rfl, by kernel_rfl, by kernel_rfl⟩
theorem lim_sum (a b c d : Nat) (ha : a < 2 ^ 64) (hb : b < 2 ^ 64) (hc : c < 2 ^ 64) (hd : d < 2 ^ 64) :
    lim (a + 2 ^ 64 * b + 2 ^ 128 * c + 2 ^ 192 * d) 0 = a ∧ lim (a + 2 ^ 64 * b + 2 ^ 128 * c + 2 ^ 192 * d) 1 = b ∧ lim (a + 2 ^ 64 * b + 2 ^ 128 * c + 2 ^ 192 * d) 2 = c ∧ lim (a + 2 ^ 64 * b + 2 ^ 128 * c + 2 ^ 192 * d) 3 = d := by
  unfold lim
  refine ⟨?_, ?_, ?_, ?_⟩ <;> exact congrArg Int.ofNat (by omega)
theorem open_wide {H : Type} {enc : TypeId × Value → H} {w : World} {base : Nat} {sp : Nat → Bool} {held : Bool} {v : Value} {d : DataW H} {ps : List MemPlace} (hval : Value.okWide Try.prog w .any 0 24 v) (hd : DataW.Trod enc Try.prog w base sp held 24 v d ps) :
    ∃ n, v = W n ∧ n < 2 ^ 256 := by
  obtain ⟨xs, rfl, hn, hx⟩ := open_ints_arr wide_key (q := .u64) Try.underlying22 hval hd
  obtain ⟨z0, e0, b0⟩ := hx 0 (by omega)
  obtain ⟨z1, e1, b1⟩ := hx 1 (by omega)
  obtain ⟨z2, e2, b2⟩ := hx 2 (by omega)
  obtain ⟨z3, e3, b3⟩ := hx 3 (by omega)
  have c0 := bounds_u64 b0
  have c1 := bounds_u64 b1
  have c2 := bounds_u64 b2
  have c3 := bounds_u64 b3
  obtain ⟨y0, rfl⟩ := Int.eq_ofNat_of_zero_le c0.1
  obtain ⟨y1, rfl⟩ := Int.eq_ofNat_of_zero_le c1.1
  obtain ⟨y2, rfl⟩ := Int.eq_ofNat_of_zero_le c2.1
  obtain ⟨y3, rfl⟩ := Int.eq_ofNat_of_zero_le c3.1
  obtain ⟨s0, s1, s2, s3⟩ := lim_sum y0 y1 y2 y3 (by omega) (by omega) (by omega) (by omega)
  refine ⟨y0 + 2 ^ 64 * y1 + 2 ^ 128 * y2 + 2 ^ 192 * y3, ?_, by omega⟩
  unfold W
  rw [s0, s1, s2, s3]
  congr 1
  apply Array.ext_getElem?
  intro i
  match i with
  | 0 => simpa using e0
  | 1 => simpa using e1
  | 2 => simpa using e2
  | 3 => simpa using e3
  | i + 4 => rw [Array.getElem?_eq_none (by omega), Array.getElem?_eq_none (by simp)]
end Go.Proofs.Ytmpejkhffbonnaa
