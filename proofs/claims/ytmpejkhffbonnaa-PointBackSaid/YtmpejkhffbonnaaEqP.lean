/- '==' on points. -/
import Derived.Test.YtmpejkhffbonnaaWEq
import Derived.Test.YtmpejkhffbonnaaGoW
namespace Go.Proofs.Ytmpejkhffbonnaa
open Go.RowKit
/-- a point's value -/
abbrev PV (x y : Nat) (z : Bool) : Value := .agg #[.int .u64 (lim x 0), .int .u64 (lim x 1), .int .u64 (lim x 2), .int .u64 (lim x 3), .int .u64 (lim y 0), .int .u64 (lim y 1), .int .u64 (lim y 2), .int .u64 (lim y 3), .bool z]
abbrev PVl (x y : Nat) (z : Bool) : List Value := [.int .u64 (lim x 0), .int .u64 (lim x 1), .int .u64 (lim x 2), .int .u64 (lim x 3), .int .u64 (lim y 0), .int .u64 (lim y 1), .int .u64 (lim y 2), .int .u64 (lim y 3), .bool z]
/-- three numbers -/
abbrev TV (x y z : Nat) : Value := .agg #[.int .u64 (lim x 0), .int .u64 (lim x 1), .int .u64 (lim x 2), .int .u64 (lim x 3), .int .u64 (lim y 0), .int .u64 (lim y 1), .int .u64 (lim y 2), .int .u64 (lim y 3), .int .u64 (lim z 0), .int .u64 (lim z 1), .int .u64 (lim z 2), .int .u64 (lim z 3)]
abbrev TVl (x y z : Nat) : List Value := [.int .u64 (lim x 0), .int .u64 (lim x 1), .int .u64 (lim x 2), .int .u64 (lim x 3), .int .u64 (lim y 0), .int .u64 (lim y 1), .int .u64 (lim y 2), .int .u64 (lim y 3), .int .u64 (lim z 0), .int .u64 (lim z 1), .int .u64 (lim z 2), .int .u64 (lim z 3)]
theorem eqWin (d : Nat) (a b : Nat) (ha : a < 2 ^ 256) (hb : b < 2 ^ 256) (w : World) : (Op.equalIn (d + 2) 24 (W a) (W b)).run Try.prog w = .ok (decide (a = b)) w := by
  have := run_equalIn4' (d + 1) (fun a b w => run_equalIn_int w d 22 .u64 .u64 a b Try.underlying22) (lim a 0) (lim a 1) (lim a 2) (lim a 3) (lim b 0) (lim b 1) (lim b 2) (lim b 3) w
  rw [this, eqb a b ha hb]
theorem run_eqP (x y x' y' : Nat) (z z' : Bool) (hx : x < 2 ^ 256) (hy : y < 2 ^ 256) (hx' : x' < 2 ^ 256) (hy' : y' < 2 ^ 256) (w : World) :
    (Op.equalIn 10000 26 (PV x y z) (PV x' y' z')).run Try.prog w = .ok (decide (x = x' ∧ y = y' ∧ z = z')) w := by
  rw [run_equalIn_struct w 9999 26 _ _ (by kernel_rfl) (by kernel_rfl)]
  have e : ∀ xs ys, Op.eqFields 9999 xs ys (Try.prog.fieldsOf 26).toList = (do
      let a ← part 24 xs 0
      let b ← part 24 ys 0
      let r ← Op.equalIn 9999 24 a b
      if (!r) = true then pure false else do
        let a ← part 24 xs 4
        let b ← part 24 ys 4
        let r ← Op.equalIn 9999 24 a b
        if (!r) = true then pure false else do
          let a ← part 4 xs 8
          let b ← part 4 ys 8
          let r ← Op.equalIn 9999 4 a b
          if (!r) = true then pure false else pure true) := fun xs ys => by kernel_rfl
  rw [e]
  have p0 : ∀ x y z w, (part 24 #[.int .u64 (lim x 0), .int .u64 (lim x 1), .int .u64 (lim x 2), .int .u64 (lim x 3), .int .u64 (lim y 0), .int .u64 (lim y 1), .int .u64 (lim y 2), .int .u64 (lim y 3), .bool z] 0).run Try.prog w = .ok (W x) w := fun x y z w => by kernel_rfl
  have p1 : ∀ x y z w, (part 24 #[.int .u64 (lim x 0), .int .u64 (lim x 1), .int .u64 (lim x 2), .int .u64 (lim x 3), .int .u64 (lim y 0), .int .u64 (lim y 1), .int .u64 (lim y 2), .int .u64 (lim y 3), .bool z] 4).run Try.prog w = .ok (W y) w := fun x y z w => by kernel_rfl
  have p2 : ∀ x y z w, (part 4 #[.int .u64 (lim x 0), .int .u64 (lim x 1), .int .u64 (lim x 2), .int .u64 (lim x 3), .int .u64 (lim y 0), .int .u64 (lim y 1), .int .u64 (lim y 2), .int .u64 (lim y 3), .bool z] 8).run Try.prog w = .ok (.bool z) w := fun x y z w => by kernel_rfl
  simp only [Sem.run_bind, p0, Result.andThen_ok, eqWin 9997 _ _ hx hx']
  by_cases h1 : x = x'
  · simp only [h1, decide_true, Bool.not_true, Bool.false_eq_true, if_false, Sem.run_bind, p1, Result.andThen_ok, eqWin 9997 _ _ hy hy', true_and]
    by_cases h2 : y = y'
    · simp only [h2, decide_true, Bool.not_true, Bool.false_eq_true, if_false, Sem.run_bind, p2, Result.andThen_ok, run_equalIn_bool' w 9998 4 z z' Try.underlying4, true_and]
      by_cases h3 : z = z'
      · simp [h3]
      · have : (z == z') = false := by simpa using h3
        simp [this, h3]
    · simp [h2]
  · simp [h1]
theorem eqlP (x y x' y' : Nat) (z z' : Bool) (hx : x < 2 ^ 256) (hy : y < 2 ^ 256) (hx' : x' < 2 ^ 256) (hy' : y' < 2 ^ 256) (c : Bool) (hc : decide (x = x' ∧ y = y' ∧ z = z') = c) (w : World) :
    (binOp .eql 26 (PV x y z) (PV x' y' z')).run Try.prog w = .ok (.bool c) w := by
  simp only [binOp, Sem.run_bind, Op.equal, Op.maxDepth]
  rw [run_eqP x y x' y' z z' hx hy hx' hy', hc]
  rfl
theorem neqP (x y x' y' : Nat) (z z' : Bool) (hx : x < 2 ^ 256) (hy : y < 2 ^ 256) (hx' : x' < 2 ^ 256) (hy' : y' < 2 ^ 256) (c : Bool) (hc : decide (x = x' ∧ y = y' ∧ z = z') = !c) (w : World) :
    (binOp .neq 26 (PV x y z) (PV x' y' z')).run Try.prog w = .ok (.bool c) w := by
  simp only [binOp, Sem.run_bind, Op.equal, Op.maxDepth]
  rw [run_eqP x y x' y' z z' hx hy hx' hy', hc]
  cases c <;> rfl
end Go.Proofs.Ytmpejkhffbonnaa
