/- Arguments that are points, opened. -/
import Derived.Test.YtmpejkhffbonnaaFrameW
import Derived.Test.YtmpejkhffbonnaaEqP
namespace Go.Proofs.Ytmpejkhffbonnaa
open Go.ChangeShapes Go.WideShapes Go.ChangeAt Go.RowKit Go.WideMaps
section
variable {H : Type} {enc : TypeId × Value → H} {w : World} {base : Nat} {sp : Nat → Bool} {held : Bool}
theorem trod_u64 {m : Nat} {cs : List Value} {x : DataW H × List MemPlace} (h : DataW.trod enc Try.prog w base sp held m 22 cs = some x) : ∃ z : Nat, cs = [.int .u64 (z : Int)] ∧ z < 2 ^ 64 := by
  obtain ⟨n, rfl, _, hw⟩ := DataW.trod_int Try.underlying22 h
  have c := bounds_u64 hw
  obtain ⟨y, rfl⟩ := Int.eq_ofNat_of_zero_le c.1
  exact ⟨y, rfl, by omega⟩
theorem trod_wide {m : Nat} {cs : List Value} {x : DataW H × List MemPlace} (h : DataW.trod enc Try.prog w base sp held m 24 cs = some x) : ∃ n, cs = Wl n ∧ n < 2 ^ 256 := by
  cases m with
  | zero => simp [DataW.trod] at h
  | succ m =>
    rw [DataW.trod_step] at h
    unfold DataW.trodStep at h
    have hs : Try.prog.cellsOf 24 = 4 := by kernel_rfl
    have h1 : Try.prog.cellsOf 22 = 1 := by kernel_rfl
    simp only [Try.underlying24, hs, h1, Nat.mul_one] at h
    split at h
    · rename_i hl
      simp only [Option.map_eq_some_iff] at h
      obtain ⟨ys, hy, _⟩ := h
      have get : ∀ i, i < 4 → ∃ z : Nat, (cs.drop i).take 1 = [.int .u64 (z : Int)] ∧ z < 2 ^ 64 := by
        intro i hi
        obtain ⟨y, hy⟩ := mapM_each hy i (by simpa using hi)
        exact trod_u64 hy
      obtain ⟨a, ea, la⟩ := get 0 (by omega)
      obtain ⟨b, eb, lb⟩ := get 1 (by omega)
      obtain ⟨c, ec, lc⟩ := get 2 (by omega)
      obtain ⟨d, ed, ld⟩ := get 3 (by omega)
      match cs, hl with
      | [u, v, s, t], _ =>
        simp at ea eb ec ed
        subst ea eb ec ed
        refine ⟨a + 2 ^ 64 * b + 2 ^ 128 * c + 2 ^ 192 * d, ?_, by omega⟩
        obtain ⟨s0, s1, s2, s3⟩ := lim_sum a b c d la lb lc ld
        unfold Wl
        rw [s0, s1, s2, s3]
    · cases h
theorem open_point {v : Value} {d : DataW H} {ps : List MemPlace} (hval : Value.okWide Try.prog w .any 0 26 v) (hd : DataW.Trod enc Try.prog w base sp held 26 v d ps) :
    ∃ p : Nat × Nat × Bool, v = PV p.1 p.2.1 p.2.2 ∧ p.1 < 2 ^ 256 ∧ p.2.1 < 2 ^ 256 := by
  have hu : ∃ fs, Try.prog.underlying 26 = some (.struct fs) := ⟨_, Try.underlying26⟩
  obtain ⟨fs, hu⟩ := hu
  have hv : ∃ xs : Array Value, v = .agg xs ∧ xs.size = Try.prog.cellsOf 26 := by
    simp only [Value.okWide, hu] at hval
    obtain ⟨cs, h1, h2, _⟩ := hval
    exact ⟨cs, h1, h2⟩
  obtain ⟨xs, rfl, hn⟩ := hv
  rw [show Try.prog.cellsOf 26 = 9 by kernel_rfl] at hn
  obtain ⟨fuel, hf⟩ := hd
  cases fuel with
  | zero => simp [DataW.trod] at hf
  | succ m =>
    rw [DataW.trod_step] at hf
    unfold DataW.trodStep at hf
    have c0 : Try.prog.cellsOf 26 = 9 := by kernel_rfl
    have c1 : Try.prog.cellsOf 24 = 4 := by kernel_rfl
    have c2 : Try.prog.cellsOf 4 = 1 := by kernel_rfl
    simp only [Try.underlying26, Value.cells] at hf
    rw [if_pos (by rw [c0]; simpa using hn)] at hf
    simp only [Option.map_eq_some_iff, List.mapM_cons, List.mapM_nil, bind, Option.bind_eq_some_iff, pure, Option.some.injEq] at hf
    obtain ⟨ys, ⟨y0, h0, ys1, ⟨y1, h1, ys2, ⟨y2, h2, _⟩, _⟩, _⟩, _⟩ := hf
    rw [c1] at h0 h1
    rw [c2] at h2
    obtain ⟨x, ex, lx⟩ := trod_wide h0
    obtain ⟨y, ey, ly⟩ := trod_wide h1
    obtain ⟨z, ez, _⟩ := DataW.trod_bool Try.underlying4 h2
    refine ⟨(x, y, z), ?_, lx, ly⟩
    have hl : xs.toList.length = 9 := by simpa using hn
    have e : xs.toList = Wl x ++ (Wl y ++ [.bool z]) := by
      rw [← ex, ← ey, ← ez]
      have k1 : xs.toList = (xs.toList.drop 0).take 4 ++ ((xs.toList.drop 4).take 4 ++ (xs.toList.drop 8).take 1) := by
        match xs.toList, hl with
        | [_, _, _, _, _, _, _, _, _], _ => rfl
      exact k1
    exact congrArg Value.agg (Array.toList_inj.1 e)
end
end Go.Proofs.Ytmpejkhffbonnaa
