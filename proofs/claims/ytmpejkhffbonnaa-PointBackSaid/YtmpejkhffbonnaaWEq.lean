/- '==' on numbers of 256 bits. -/
import Derived.Test.YtmpejkhffbonnaaWFrom
import Derived.Laws.StructEq
namespace Go.Proofs.Ytmpejkhffbonnaa
open Go.RowKit

theorem lim_inj (a b : Nat) (ha : a < 2 ^ 256) (hb : b < 2 ^ 256) (h0 : lim a 0 = lim b 0) (h1 : lim a 1 = lim b 1) (h2 : lim a 2 = lim b 2) (h3 : lim a 3 = lim b 3) : a = b := by
  unfold lim at *
  omega
theorem part_u64 (cs : Array Value) (i : Nat) (v : Value) (h : cs[i]? = some v) (w : World) : (part 22 cs i).run Try.prog w = .ok v w := by
  have ha : (isAgg 22).run Try.prog w = .ok false w := by
    unfold isAgg
    rw [Sem.run_bind, run_underlying Try.underlying22 w]
    rfl
  simp [part, Sem.run_bind, ha, Result.andThen, h]
theorem size_u64 (w : World) : (sizeOf 22).run Try.prog w = .ok 1 w := by kernel_rfl
theorem run_equalIn4' (d : Nat) (hd : ∀ (a b : Int) (w : World), (Op.equalIn d 22 (.int .u64 a) (.int .u64 b)).run Try.prog w = .ok (a == b) w) (x0 x1 x2 x3 y0 y1 y2 y3 : Int) (w : World) :
    (Op.equalIn (d + 1) 24 (.agg #[.int .u64 x0, .int .u64 x1, .int .u64 x2, .int .u64 x3]) (.agg #[.int .u64 y0, .int .u64 y1, .int .u64 y2, .int .u64 y3])).run Try.prog w = .ok (x0 == y0 && (x1 == y1 && (x2 == y2 && x3 == y3))) w := by
  have e : List.range' 0 4 1 = [0, 1, 2, 3] := rfl
  simp only [Op.equalIn, Sem.run_bind, run_underlying Try.underlying24, Result.andThen_ok, size_u64]
  simp only [Std.Legacy.Range.forIn_eq_forIn_range', Std.Legacy.Range.size, Nat.sub_zero, Nat.add_sub_cancel, Nat.div_one, e, List.forIn_cons, List.forIn_nil, Sem.run_bind, Nat.mul_one]
  have q : ∀ (a0 a1 a2 a3 : Int) (w : World), (part 22 #[.int .u64 a0, .int .u64 a1, .int .u64 a2, .int .u64 a3] 0).run Try.prog w = .ok (.int .u64 a0) w ∧
      (part 22 #[.int .u64 a0, .int .u64 a1, .int .u64 a2, .int .u64 a3] 1).run Try.prog w = .ok (.int .u64 a1) w ∧
      (part 22 #[.int .u64 a0, .int .u64 a1, .int .u64 a2, .int .u64 a3] 2).run Try.prog w = .ok (.int .u64 a2) w ∧
      (part 22 #[.int .u64 a0, .int .u64 a1, .int .u64 a2, .int .u64 a3] 3).run Try.prog w = .ok (.int .u64 a3) w :=
    fun a0 a1 a2 a3 w => ⟨part_u64 _ _ _ rfl w, part_u64 _ _ _ rfl w, part_u64 _ _ _ rfl w, part_u64 _ _ _ rfl w⟩
  obtain ⟨p0, p1, p2, p3⟩ := q x0 x1 x2 x3 w
  obtain ⟨q0, q1, q2, q3⟩ := q y0 y1 y2 y3 w
  rw [p0]
  simp only [Result.andThen_ok, q0, hd]
  cases h0 : (x0 == y0)
  · simp
  · simp only [Bool.not_true, Bool.false_eq_true, if_false, Sem.run_pure, Result.andThen_ok, Bool.true_and, p1, q1, hd, Sem.run_bind]
    cases h1 : (x1 == y1)
    · simp
    · simp only [Bool.not_true, Bool.false_eq_true, if_false, Sem.run_pure, Result.andThen_ok, Bool.true_and, p2, q2, hd, Sem.run_bind]
      cases h2 : (x2 == y2)
      · simp
      · simp only [Bool.not_true, Bool.false_eq_true, if_false, Sem.run_pure, Result.andThen_ok, Bool.true_and, p3, q3, hd, Sem.run_bind]
        cases h3 : (x3 == y3) <;> simp
theorem run_eqlW (x0 x1 x2 x3 y0 y1 y2 y3 : Int) (w : World) :
    (binOp .eql 24 (.agg #[.int .u64 x0, .int .u64 x1, .int .u64 x2, .int .u64 x3]) (.agg #[.int .u64 y0, .int .u64 y1, .int .u64 y2, .int .u64 y3])).run Try.prog w = .ok (.bool (x0 == y0 && (x1 == y1 && (x2 == y2 && x3 == y3)))) w := by
  have := run_equalIn4' 9999 (fun a b w => run_equalIn_int w 9998 22 .u64 .u64 a b Try.underlying22) x0 x1 x2 x3 y0 y1 y2 y3 w
  simp only [binOp, Sem.run_bind, Op.equal, Op.maxDepth]
  rw [this]
  rfl
theorem run_neqW (x0 x1 x2 x3 y0 y1 y2 y3 : Int) (w : World) :
    (binOp .neq 24 (.agg #[.int .u64 x0, .int .u64 x1, .int .u64 x2, .int .u64 x3]) (.agg #[.int .u64 y0, .int .u64 y1, .int .u64 y2, .int .u64 y3])).run Try.prog w = .ok (.bool (!(x0 == y0 && (x1 == y1 && (x2 == y2 && x3 == y3))))) w := by
  have := run_equalIn4' 9999 (fun a b w => run_equalIn_int w 9998 22 .u64 .u64 a b Try.underlying22) x0 x1 x2 x3 y0 y1 y2 y3 w
  simp only [binOp, Sem.run_bind, Op.equal, Op.maxDepth]
  rw [this]
  rfl
theorem eqb (a b : Nat) (ha : a < 2 ^ 256) (hb : b < 2 ^ 256) : (lim a 0 == lim b 0 && (lim a 1 == lim b 1 && (lim a 2 == lim b 2 && lim a 3 == lim b 3))) = decide (a = b) := by
  by_cases h : a = b
  · subst h; simp
  · rw [decide_eq_false h]
    refine Bool.eq_false_iff.2 fun hc => h ?_
    simp only [Bool.and_eq_true, beq_iff_eq] at hc
    exact lim_inj a b ha hb hc.1 hc.2.1 hc.2.2.1 hc.2.2.2
theorem eqlW (a b : Nat) (ha : a < 2 ^ 256) (hb : b < 2 ^ 256) (c : Bool) (hc : decide (a = b) = c) (w : World) : (binOp .eql 24 (W a) (W b)).run Try.prog w = .ok (.bool c) w := by
  rw [run_eqlW, eqb a b ha hb, hc]
theorem neqW (a b : Nat) (ha : a < 2 ^ 256) (hb : b < 2 ^ 256) (c : Bool) (hc : decide (a ≠ b) = c) (w : World) : (binOp .neq 24 (W a) (W b)).run Try.prog w = .ok (.bool c) w := by
  rw [run_neqW, eqb a b ha hb, ← hc]
  by_cases h : a = b <;> simp [h]
/-- against a literal that is 0 -/
theorem eql0 (a : Nat) (ha : a < 2 ^ 256) (c : Bool) (hc : decide (a = 0) = c) (w : World) : (binOp .eql 24 (W a) (.agg #[.int .u64 0, .int .u64 0, .int .u64 0, .int .u64 0])).run Try.prog w = .ok (.bool c) w :=
  eqlW a 0 ha (by decide) c hc w
theorem neq0 (a : Nat) (ha : a < 2 ^ 256) (c : Bool) (hc : decide (a ≠ 0) = c) (w : World) : (binOp .neq 24 (W a) (.agg #[.int .u64 0, .int .u64 0, .int .u64 0, .int .u64 0])).run Try.prog w = .ok (.bool c) w :=
  neqW a 0 ha (by decide) c hc w
end Go.Proofs.Ytmpejkhffbonnaa
